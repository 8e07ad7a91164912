/-
  The proof of CertificatePaths, part 6.
-/
import Derived.Test.YtdjihiphpgkfmaaGreatDoorPE
import Derived.Test.YtdjihiphpgkfmaaGreatDoorRows
import Derived.RangeFuncNested
import Derived.RangeFuncLeaves
import Derived.WalkKit
import Derived.LoopNIn
import Derived.OrdersIn
import Derived.Shelf.Abstract
import Derived.OwnWalkIn
import Derived.TacticsInMore
set_option linter.unusedSimpArgs false
set_option linter.unusedVariables false
namespace Go.Proofs.YtdjihiphpgkfmaaGreatDoor.Pv
section
open Go.IntKind (wrap)
abbrev dkc (l:List Int)(a:Nat):List PV:=[.lst false 1 l.length (Af .i64 l),.sc (.int .i64 (a:Int))]
theorem Aou {fu d:Nat}{l:List Int}:Ae C0 Tryz.prog fu (d+1) Ri [.lst false 1 l.length (Af .i64 l)]=some ⟨[.pbox (dkc l 0)],[]⟩:=by
 rw [BX];rfl
theorem Aj3 (v n:Int)(hn:0<n)(hm:n<=9223372036854775807):∃r,0<=r∧r<n∧∀{fu d:Nat},Ae C0 Tryz.prog fu (d+1) Q0 [.sc (.int .i64 v),.sc (.int .i64 n)]=some ⟨[.sc (.int .i64 r)],[]⟩:=by
 have h1:=Gz v;have h2:wrap .u64 n=n:=Cq (by omega) (by omega)
 have h3:0<=Int.tmod (wrap .u64 v) n:=Int.tmod_nonneg _ h1.1;have h4:Int.tmod (wrap .u64 v) n<n:=Int.tmod_lt_of_pos _ hn;refine ⟨_,h3,h4,fun {fu d}=>?_⟩
 rw [DV];simp only [Hm,h2];rw [UO _ _ (by omega),Al (by omega) (by omega)]
theorem Hz {l:List Int}(hl:l.length<=maxLen)(a:Nat)(n:Int)(hn:0<n)(hm:n<=9223372036854775807):∃(v:Int)(a':Nat),0<=v∧v<n ∧
  ∀{fu d:Nat},Ae C0 Tryz.prog fu (d+2) J1 [.pbox (dkc l a),.sc (.int .i64 n)]=some ⟨[.sc (.int .i64 v)],[dkc l a']⟩:=by
 simp only [maxLen] at hl;by_cases h:a<l.length
 ·obtain ⟨r,h1,h2,h3⟩:=Aj3 l[a] n hn hm;refine ⟨r,a+1,h1,h2,fun {fu d}=>?_⟩
  rw [Js]
  have hg:(Af .i64 l).getD (Int.toNat ((a:Int)+1-1)*1) .top=.sc (.int .i64 l[a]):=by
   have:=Vf (k:=.i64) (List.getElem?_eq_getElem h);rw [show Int.toNat ((a:Int)+1-1)*1=a by omega]
   exact this
  simp (disch:=omega) only [Bx,Al,hg,h3];rfl
 ·refine ⟨0,a,by omega,hn,fun {fu d}=>?_⟩
  rw [Js];simp (disch:=omega) only [Bx]
end
section
open Go.IntKind (wrap)
set_option maxRecDepth 100000
abbrev Rq:FuncId:=29
theorem CV (fu d:Nat)(a0 a1:Int):Ae C0 Tryz.prog fu (d+1) Rq [.sc (.int .u64 a0),.sc (.int .i64 a1)]=(fun (call:Ah)=>Ag (call 18 [.sc (.int .u64 a0),.sc (.int .i64 a1)]) fun x1 x2=>Ac x2<|Ab x1 fun x3 x4=>C4 x3 fun x5=>Ab x5 fun x6 x7=>Ad .i64 x6 fun x8=>Ab x7 fun x9 Cl=>Ad .u64 x9 fun Cw=>Ac Cl<|Ab x4 fun Dl Dr=>Ad .i64 Dl fun Dk=>Ac Dr<|some (A0.mk [.agg [.sc (.int .i64 x8),.sc (.int .u64 Cw)]] [])) (Ae C0 Tryz.prog fu d):=by kernel_rfl
end
section
open Go.IntKind (wrap)
set_option maxRecDepth 1000000
section
variable {fu d:Nat}
theorem LL (hfu:1000<=fu)(seed h:Int):Ae C0 Tryz.prog fu (d+13) Rq [.sc (.int .u64 seed),.sc (.int .i64 h)]=some ⟨[.agg (G0 seed h).cells],[]⟩:=by
 rw [CV];have p:=Abc (fu:=fu) (d:=d) hfu seed h;simp only [Ky.cells] at p ⊢;simp only [Bx,p]
end
theorem SS (dom:Int)(l:List Int):isU (My dom l):=Gz _
theorem Aqw (key dom:Int)(l:List Int):isU (Al0 key dom l):=Gz _
theorem Aif (leaf chain:Int):∀(k:Nat)(p:Int){x:Int},isU x->isU (Qz leaf chain k p x)
 |0,_,_,h=>h
 |k+1,p,x,h=>Aif leaf chain k (p+1) (SS _ _)
theorem Apl (seed leaf m:Int):isW (I3 seed leaf m):=by
 intro x hx;obtain ⟨k,_,rfl⟩:=List.mem_map.1 hx;exact Aif _ _ _ _ (Aqw _ _ _)
theorem Acu (seed:Int):∀(l:Nat)(i:Int),isU (B6 seed l i)
 |0,i=>SS _ _
 |l+1,i=>SS _ _
theorem Ae2 (seed h:Int):isU (G0 seed h).root:=by
 unfold G0;split
 ·exact ⟨by simp,by simp⟩
 ·exact Acu _ _ _
theorem Af2 (seed h:Int):Dh (G0 seed h).h=false:=by
 unfold G0;cases hh:Dh h
 ·rw [A5 (by simp)]
  exact hh
 ·rw [Bv rfl];rfl
theorem Aln {seed h leaf m:Int}(hh:Dh h=false)(ho:Io leaf h=false):∃s,EE seed h leaf m=some s∧s.ok∧s.leaf=leaf∧s.chains.length=18∧(s.path.length:Int)=h∧OU (G0 seed h) m s=0:=by
 have hb:=Hx hh;refine ⟨⟨leaf,I3 seed leaf m,(List.range h.toNat).map fun k=>B6 seed k (Fx leaf k)⟩,?_,⟨Apl _ _ _,?_⟩,rfl,by simp [I3],?_,Ah9 hh ho⟩
 ·unfold EE;rw [A5 (by simp [hh]),A5 (by simp [ho])]
 ·intro x hx;obtain ⟨k,_,rfl⟩:=List.mem_map.1 hx;exact Acu _ _ _
 ·simp only [List.length_map,List.length_range];omega
end
section
open Go.IntKind (wrap)
set_option maxRecDepth 100000
abbrev Pp:FuncId:=17
theorem Z5 (fu d:Nat)(a0_0 a0_1:ByteArray)(a0_2 a0_3:Int)(a0_4 a0_5 a0_6:Int)(a0_7:Bool)(a0_8 a0_9 a0_10:Int)(a0_11n:Nat)(a0_11:List PV)(a0_12n:Nat)(a0_12:List PV)(a1 a2 a3:Int):Ae C0 Tryz.prog fu (d+1) Pp [.agg [.sc (.string a0_0),.sc (.string a0_1),.sc (.int .u64 a0_2),.sc (.int .i64 a0_3),.sc (.int .u64 a0_4),.sc (.int .i64 a0_5),.sc (.int .i64 a0_6),.sc (.bool a0_7),.sc (.int .i64 a0_8),.sc (.int .u64 a0_9),.sc (.int .i64 a0_10),.lst false 1 a0_11n a0_11,.lst false 1 a0_12n a0_12],.sc (.int .u64 a1),.sc (.int .i64 a2),.sc (.int .i64 a3)]=(fun (call:Ah)=>Ag (call 36 [.agg [.sc (.string a0_0),.sc (.string a0_1),.sc (.int .u64 a0_2),.sc (.int .i64 a0_3),.sc (.int .u64 a0_4),.sc (.int .i64 a0_5),.sc (.int .i64 a0_6),.sc (.bool a0_7),.sc (.int .i64 a0_8),.sc (.int .u64 a0_9),.sc (.int .i64 a0_10),.lst false 1 a0_11n a0_11,.lst false 1 a0_12n a0_12]]) fun x1 x2=>Ac x2<|Ab x1 fun x3 x4=>Ad .u64 x3 fun x5=>Ab x4 fun x6 x7=>Ad .i64 x6 fun x8=>Ac x7<|A9 (x8 != 0) (some (A0.mk [.agg [.sc (.string (ByteArray.mk #[])),.sc (.string (ByteArray.mk #[])),.sc (.int .u64 0),.sc (.int .i64 0),.sc (.int .u64 0),.sc (.int .i64 0),.sc (.int .i64 0),.sc (.bool false),.sc (.int .i64 0),.sc (.int .u64 0),.sc (.int .i64 0),.lst false 1 0 [],.lst false 1 0 []],.sc (.int .i64 x8)] [])) (Ag (call 37 [.sc (.int .u64 a1),.sc (.int .i64 a2),.sc (.int .i64 a3),.sc (.int .u64 x5)]) fun x9 Cl=>Ac Cl<|Ab x9 fun Cw Dl=>C4 Cw fun Dr=>Ab Dr fun Dk D9=>Ad .i64 Dk fun Ea=>Ab D9 fun En E2=>Fk 1 En fun Fg Fp Hp=>Ab E2 fun Hb Hq=>Fk 1 Hb fun Dz Dq F5=>Ac Hq<|Ab Dl fun H3 E1=>Ad .i64 H3 fun Jk=>Ac E1<|A9 (Jk != 0) (some (A0.mk [.agg [.sc (.string (ByteArray.mk #[])),.sc (.string (ByteArray.mk #[])),.sc (.int .u64 0),.sc (.int .i64 0),.sc (.int .u64 0),.sc (.int .i64 0),.sc (.int .i64 0),.sc (.bool false),.sc (.int .i64 0),.sc (.int .u64 0),.sc (.int .i64 0),.lst false 1 0 [],.lst false 1 0 []],.sc (.int .i64 Jk)] [])) (some (A0.mk [.agg [.sc (.string a0_0),.sc (.string a0_1),.sc (.int .u64 a0_2),.sc (.int .i64 a0_3),.sc (.int .u64 a0_4),.sc (.int .i64 a0_5),.sc (.int .i64 a0_6),.sc (.bool a0_7),.sc (.int .i64 a0_8),.sc (.int .u64 a0_9),.sc (.int .i64 Ea),.lst false 1 Fp Hp,.lst false 1 Dq F5],.sc (.int .i64 0)] [])))) (Ae C0 Tryz.prog fu d):=by kernel_rfl
end
section
open Go.IntKind (wrap)
set_option maxRecDepth 100000
abbrev Ng:FuncId:=9
theorem W5 (fu d:Nat)(a0_0 a0_1:ByteArray)(a0_2 a0_3:Int)(a0_4 a0_5 a0_6:Int)(a0_7:Bool)(a0_8 a0_9 a0_10:Int)(a0_11n:Nat)(a0_11:List PV)(a0_12n:Nat)(a0_12:List PV):Ae C0 Tryz.prog fu (d+1) Ng [.agg [.sc (.string a0_0),.sc (.string a0_1),.sc (.int .u64 a0_2),.sc (.int .i64 a0_3),.sc (.int .u64 a0_4),.sc (.int .i64 a0_5),.sc (.int .i64 a0_6),.sc (.bool a0_7),.sc (.int .i64 a0_8),.sc (.int .u64 a0_9),.sc (.int .i64 a0_10),.lst false 1 a0_11n a0_11,.lst false 1 a0_12n a0_12]]=(fun (call:Ah)=>A9 (decide ((↑(ByteArray.size a0_0):Int)<100)) (A9 (decide ((↑(ByteArray.size a0_1):Int)<100)) (A9 (decide ((↑a0_11n:Int)<40)) (some (A0.mk [.sc (.bool (decide ((↑a0_12n:Int)<10)))] [])) (some (A0.mk [.sc (.bool false)] []))) (some (A0.mk [.sc (.bool false)] []))) (some (A0.mk [.sc (.bool false)] []))) (Ae C0 Tryz.prog fu d):=by kernel_rfl
abbrev M8:FuncId:=10
theorem Vy (fu d:Nat):Ae C0 Tryz.prog fu (d+1) M8 []=(fun (call:Ah)=>Ag (call 29 [.sc (.int .u64 5),.sc (.int .i64 1)]) fun x1 x2=>Ac x2<|Ab x1 fun x3 x4=>C4 x3 fun x5=>Ab x5 fun x6 x7=>Ad .i64 x6 fun x8=>Ab x7 fun x9 Cl=>Ad .u64 x9 fun Cw=>Ac Cl<|Ac x4<|Ag (call 17 [.agg [.sc (.string (ByteArray.mk #[108,101,97,102])),.sc (.string (ByteArray.mk #[114,111,111,116])),.sc (.int .u64 9),.sc (.int .i64 x8),.sc (.int .u64 Cw),.sc (.int .i64 1),.sc (.int .i64 8),.sc (.bool false),.sc (.int .i64 0),.sc (.int .u64 0),.sc (.int .i64 0),.lst false 1 0 [],.lst false 1 0 []],.sc (.int .u64 71),.sc (.int .i64 1),.sc (.int .i64 0)]) fun Dl Dr=>Ac Dr<|Ab Dl fun Dk D9=>C4 Dk fun Ea=>Ab Ea fun En E2=>Cj En fun Fg=>Ab E2 fun Fp Hp=>Cj Fp fun Hb=>Ab Hp fun Hq Dz=>Ad .u64 Hq fun Dq=>Ab Dz fun F5 H3=>Ad .i64 F5 fun E1=>Ab H3 fun Jk L8=>Ad .u64 Jk fun Jt=>Ab L8 fun Mr Mb=>Ad .i64 Mr fun Np=>Ab Mb fun Qp Pt=>Ad .i64 Qp fun R5=>Ab Pt fun Hh J8=>Bj Hh fun Va=>Ab J8 fun Y9 Qq=>Ad .i64 Y9 fun Nw=>Ab Qq fun Uh Sd=>Ad .u64 Uh fun Tp=>Ab Sd fun Xd Yb=>Ad .i64 Xd fun Sn=>Ab Yb fun Vz Yj=>Fk 1 Vz fun Xv Pc X8=>Ab Yj fun DW BE=>Fk 1 DW fun Za U0 X4=>Ac BE<|Ab D9 fun BC Y2=>Ad .i64 BC fun Ze=>Ac Y2<|Ag (call 30 [.agg [.sc (.string Fg),.sc (.string Hb),.sc (.int .u64 Dq),.sc (.int .i64 E1),.sc (.int .u64 Jt),.sc (.int .i64 Np),.sc (.int .i64 R5),.sc (.bool Va),.sc (.int .i64 Nw),.sc (.int .u64 Tp),.sc (.int .i64 Sn),.lst false 1 Pc X8,.lst false 1 U0 X4]]) fun BB Y8=>Ac Y8<|Ab BB fun Zd Xc=>Es 1 Zd fun Xm BO=>Ab Xc fun Zj Yv=>Ad .i64 Zj fun Y1=>Ac Yv<|Au (decide (0+Xm*1<=BO.length))<|Ag (call 31 [.lst false 1 Xm (List.take (Xm*1) (List.drop 0 BO))]) fun AG EH=>Ac EH<|Ab AG fun Z3 Yu=>C4 Z3 fun HC=>Ab HC fun BA EN=>Cj BA fun IP=>Ab EN fun IX TZ=>Cj IX fun NQ=>Ab TZ fun RW NS=>Ad .u64 RW fun WY=>Ab NS fun XT VB=>Ad .i64 XT fun SV=>Ab VB fun EG RS=>Ad .u64 EG fun UE=>Ab RS fun YG ZE=>Ad .i64 YG fun x94=>Ab ZE fun x95 ZZ=>Ad .i64 x95 fun UZ=>Ab ZZ fun ZK ZN=>Bj ZK fun Ya=>Ab ZN fun We H4=>Ad .i64 We fun D8=>Ab H4 fun AR Tg=>Ad .u64 AR fun Sk=>Ab Tg fun Kz AP=>Ad .i64 Kz fun Z9=>Ab AP fun Zz AA=>Fk 1 Zz fun Iy Kl Zs=>Ab AA fun AQ AF=>Fk 1 AQ fun FQ Ul Wy=>Ac AF<|Ab Yu fun Ye X9=>Ad .i64 Ye fun Zk=>Ac X9<|Ag (call 29 [.sc (.int .u64 71),.sc (.int .i64 1)]) fun DU Tl=>Ac Tl<|Ab DU fun Rx Qy=>C4 Rx fun Tz=>Ab Tz fun Vj BJ=>Ad .i64 Vj fun AK=>Ab BJ fun JP FM=>Ad .u64 JP fun Zy=>Ac FM<|Ac Qy<|Ag (call 27 [.lst false 13 1 [.sc (.string Fg),.sc (.string Hb),.sc (.int .u64 Dq),.sc (.int .i64 E1),.sc (.int .u64 Jt),.sc (.int .i64 Np),.sc (.int .i64 R5),.sc (.bool Va),.sc (.int .i64 Nw),.sc (.int .u64 Tp),.sc (.int .i64 Sn),.lst false 1 Pc X8,.lst false 1 U0 X4],.lst false 3 1 [.sc (.string (ByteArray.mk #[114,111,111,116])),.sc (.int .i64 AK),.sc (.int .u64 Zy)],.lst false 3 0 [],.sc (.int .i64 8)]) fun HZ LJ=>Ac LJ<|Ab HZ fun LR NV=>Ad .i64 LR fun KF=>Ab NV fun FB HX=>Ad .i64 FB fun JJ=>Ac HX<|Ag (call 27 [.lst false 13 1 [.sc (.string Fg),.sc (.string Hb),.sc (.int .u64 Dq),.sc (.int .i64 E1),.sc (.int .u64 Jt),.sc (.int .i64 Np),.sc (.int .i64 R5),.sc (.bool Va),.sc (.int .i64 Nw),.sc (.int .u64 Tp),.sc (.int .i64 Sn),.lst false 1 Pc X8,.lst false 1 U0 X4],.lst false 3 1 [.sc (.string (ByteArray.mk #[114,111,111,116])),.sc (.int .i64 AK),.sc (.int .u64 Zy)],.lst false 3 0 [],.sc (.int .i64 9)]) fun ME MA=>Ac MA<|Ab ME fun GD IB=>Ad .i64 GD fun IH=>Ab IB fun HT LM=>Ad .i64 HT fun UF=>Ac LM<|A9 (Ze==0) (A9 (Y1==0) (A9 (Zk==0) (A9 (JJ==0) (A9 (KF==0) (A9 (UF==38) (Ag (call 19 [.agg [.sc (.string Fg),.sc (.string Hb),.sc (.int .u64 Dq),.sc (.int .i64 E1),.sc (.int .u64 Jt),.sc (.int .i64 Np),.sc (.int .i64 R5),.sc (.bool Va),.sc (.int .i64 Nw),.sc (.int .u64 Tp),.sc (.int .i64 Sn),.lst false 1 Pc X8,.lst false 1 U0 X4],.agg [.sc (.string IP),.sc (.string NQ),.sc (.int .u64 WY),.sc (.int .i64 SV),.sc (.int .u64 UE),.sc (.int .i64 x94),.sc (.int .i64 UZ),.sc (.bool Ya),.sc (.int .i64 D8),.sc (.int .u64 Sk),.sc (.int .i64 Z9),.lst false 1 Kl Zs,.lst false 1 Ul Wy]]) fun WS TG=>Ac TG<|Ab WS fun EM OJ=>Bj EM fun RY=>Ac OJ<|some (A0.mk [.sc (.bool RY)] [])) (some (A0.mk [.sc (.bool false)] []))) (some (A0.mk [.sc (.bool false)] []))) (some (A0.mk [.sc (.bool false)] []))) (some (A0.mk [.sc (.bool false)] []))) (some (A0.mk [.sc (.bool false)] []))) (some (A0.mk [.sc (.bool false)] []))) (Ae C0 Tryz.prog fu d):=by kernel_rfl
end
section
open Go.IntKind (wrap)
set_option maxRecDepth 1000000
section
variable {fu d:Nat} {c:Ce}
theorem Aqh (seed h leaf m:Int):Ae C0 Tryz.prog fu (d+1) 37 [.sc (.int .u64 seed),.sc (.int .i64 h),.sc (.int .i64 leaf),.sc (.int .u64 m)] =
  some ⟨[.agg [.sc (.int .i64 (tkL h leaf)),.lst false 1 (tkC seed h leaf m).length (Af .u64 (tkC seed h leaf m)),.lst false 1 (tkP seed h leaf).length (Af .u64 (tkP seed h leaf))],.sc (.int .i64 (tkE h leaf))],[]⟩:=by kernel_rfl
theorem Ari (seed h leaf m:Int):(EE seed h leaf m=none∧tkE h leaf=9)∨(EE seed h leaf m=some ⟨tkL h leaf,tkC seed h leaf m,tkP seed h leaf⟩∧tkE h leaf=0):=by
 unfold EE tkE tkL tkC tkP KK;cases Dh h
 ·cases Io leaf h
  ·exact .inr ⟨rfl,rfl⟩
  ·exact .inl ⟨rfl,rfl⟩
 ·exact .inl ⟨rfl,rfl⟩
theorem Aih (hfu:1000<=fu)(hw:c.wf)(hs1:c.subj.size<=9223372036854775807)(hs2:c.iss.size<=9223372036854775807)(seed h leaf:Int):Ae C0 Tryz.prog fu (d+9) Pp [.agg c.cells,.sc (.int .u64 seed),.sc (.int .i64 h),.sc (.int .i64 leaf)]=some ⟨[.agg (U9 c seed h leaf).1.cells,.sc (.int .i64 (U9 c seed h leaf).2)],[]⟩:=by
 refine (Z5 fu (d+8) c.subj c.iss c.serial c.key.h c.key.root c.fr c.un c.auth c.path c.model c.sig.leaf c.sig.chains.length (Af .u64 c.sig.chains) c.sig.path.length (Af .u64 c.sig.path) seed h leaf).trans ?_;have wq:=WE (fu:=fu) (d:=d) hfu hw hs1 hs2;simp only [Ce.cells] at wq;unfold IW at wq;unfold U9;by_cases h0:A4 c=0
 ·rw [Bv h0] at wq;rw [Bv h0];have e00:((0:Int) != 0)=false:=rfl;have e90:((9:Int) != 0)=true:=rfl;have tk:=Aqh (fu:=fu) (d:=d+7) seed h leaf (Kj c);have La:=Am .u64 (tkC seed h leaf (Kj c));have Lb:=Am .u64 (tkP seed h leaf);have ta:=J6 .u64 (tkC seed h leaf (Kj c));have tb:=J6 .u64 (tkP seed h leaf);rcases Ari seed h leaf (Kj c) with ⟨hs,he⟩|⟨hs,he⟩
  ·rw [hs];rw [he] at tk
   try unfold Aa
   repeat first
    |((with_reducible first|apply Aq|apply Ak|apply Ar|apply Bg|apply Bu|apply Aj);· first|with_reducible rfl|(simp (disch:=omega) only [wq,e00,e90,B8,Br,E6,tk,La,Lb,ta,tb]<;>with_reducible rfl))
    |((with_reducible first|apply At|apply As);· first|with_reducible rfl|omega|(simp (disch:=omega) only [gT,wq,e00,e90,B8,Br,E6,tk,La,Lb,ta,tb]<;>omega))
    |(with_reducible apply Ap;· first|with_reducible rfl|(simp (disch:=omega) only [gF,wq,e00,e90,B8,Br,E6,tk,La,Lb,ta,tb]<;>omega))
   try simp (disch:=omega) only [wq,e00,e90,B8,Br,E6,tk,La,Lb,ta,tb]
   all_goals rfl
  ·rw [hs];rw [he] at tk
   try unfold Aa
   repeat first
    |((with_reducible first|apply Aq|apply Ak|apply Ar|apply Bg|apply Bu|apply Aj);· first|with_reducible rfl|(simp (disch:=omega) only [wq,e00,e90,B8,Br,E6,tk,La,Lb,ta,tb]<;>with_reducible rfl))
    |((with_reducible first|apply At|apply As);· first|with_reducible rfl|omega|(simp (disch:=omega) only [gT,wq,e00,e90,B8,Br,E6,tk,La,Lb,ta,tb]<;>omega))
    |(with_reducible apply Ap;· first|with_reducible rfl|(simp (disch:=omega) only [gF,wq,e00,e90,B8,Br,E6,tk,La,Lb,ta,tb]<;>omega))
   try simp (disch:=omega) only [wq,e00,e90,B8,Br,E6,tk,La,Lb,ta,tb]
   all_goals rfl
 ·have hne:(A4 c != 0)=true:=by simp [h0]
  rw [A5 h0] at wq;rw [A5 h0]
  try unfold Aa
  repeat first
   |((with_reducible first|apply Aq|apply Ak|apply Ar|apply Bg|apply Bu|apply Aj);· first|with_reducible rfl|(simp (disch:=omega) only [wq,hne]<;>with_reducible rfl))
   |((with_reducible first|apply At|apply As);· first|with_reducible rfl|omega|(simp (disch:=omega) only [gT,wq,hne]<;>omega))
   |(with_reducible apply Ap;· first|with_reducible rfl|(simp (disch:=omega) only [gF,wq,hne]<;>omega))
  try simp (disch:=omega) only [wq,hne]
  all_goals rfl
theorem Ajb:Ae C0 Tryz.prog fu (d+1) Ng [.agg c.cells]=some ⟨[.sc (.bool (decide ((c.subj.size:Int)<100)&&decide ((c.iss.size:Int)<100)&&decide ((c.sig.chains.length:Int)<40)&&decide ((c.sig.path.length:Int)<10)))],[]⟩:=by
 refine (W5 fu d c.subj c.iss c.serial c.key.h c.key.root c.fr c.un c.auth c.path c.model c.sig.leaf c.sig.chains.length (Af .u64 c.sig.chains) c.sig.path.length (Af .u64 c.sig.path)).trans ?_;cases decide ((c.subj.size:Int)<100)<;>cases decide ((c.iss.size:Int)<100)<;>cases decide ((c.sig.chains.length:Int)<40)<;>rfl
end
end
section
open Go.IntKind (wrap)
set_option maxRecDepth 1000000
section
variable {fu d:Nat}
theorem LO {call:Ah}{a0n a1n:Nat}{a0 a1:List PV}{l:List Int}(hl:l.length<=1000):∀(k i nn:Nat),i+k=l.length->k<nn ->
  Eu fu call a0n a0 a1n a1 nn l.length (Af .u64 l) l.length (Af .u64 l) i=some ⟨[.sc (.bool true)],[]⟩
 |_,_,0,_,h=>by omega
 |0,i,nn+1,hi,hn=>by
  have e:i=l.length:=by omega
  subst e;rw [Ig];simp (disch:=omega) only [Bx]
 |k+1,i,nn+1,hi,hn=>by
  have ih:=LO (call:=call) (a0n:=a0n) (a1n:=a1n) (a0:=a0) (a1:=a1) hl k (i+1) nn (by omega) (by omega)
  obtain ⟨x,hx⟩:∃x,l[i]?=some x:=⟨_,List.getElem?_eq_getElem (by omega)⟩
  have w:wrap .i64 ((i:Int)+1)=((i+1:Nat):Int):=by rw [Al (by omega) (by omega)];omega
  have q:(x != x)=false:=bne_self_eq_false x;rw [Ig];simp (disch:=omega) only [Bx,Gy,B8,Br,Vf hx,q,w];exact ih
theorem XE (hfu:2000<=fu){l:List Int}(hl:l.length<=1000):Ae C0 Tryz.prog fu (d+1) Jp [.lst false 1 l.length (Af .u64 l),.lst false 1 l.length (Af .u64 l)]=some ⟨[.sc (.bool true)],[]⟩:=by
 refine (Ti fu d l.length (Af .u64 l) l.length (Af .u64 l)).trans ?_;have q:=LO (fu:=fu) (call:=Ae C0 Tryz.prog fu d) (a0n:=l.length) (a1n:=l.length) (a0:=Af .u64 l) (a1:=Af .u64 l) hl l.length 0 fu (by omega) (by omega)
 have b:((l.length:Int) != (l.length:Int))=false:=bne_self_eq_false _;simp only [Bx,b];exact q
theorem Aj0 (hfu:2000<=fu){s:Sg}(h1:s.chains.length<=1000)(h2:s.path.length<=1000):Ae C0 Tryz.prog fu (d+2) Hv [.agg s.cells,.agg s.cells]=some ⟨[.sc (.bool true)],[]⟩:=by
 refine (O0 fu (d+1) s.leaf s.chains.length (Af .u64 s.chains) s.path.length (Af .u64 s.path) s.leaf s.chains.length (Af .u64 s.chains) s.path.length (Af .u64 s.path)).trans ?_;have w1:=XE (fu:=fu) (d:=d) hfu h1;have w2:=XE (fu:=fu) (d:=d) hfu h2;have q1:(s.leaf==s.leaf)=true:=beq_self_eq_true _
 try unfold Aa
 repeat first
  |((with_reducible first|apply Aq|apply Ak|apply Ar|apply Ao|apply Aw|apply Bc|apply Bg|apply Bu|apply Aj);· first|with_reducible rfl|(simp (disch:=omega) only [q1,w1,w2]<;>with_reducible rfl))
  |((with_reducible first|apply At|apply As);· first|with_reducible rfl|omega|(simp (disch:=omega) only [gT,q1,w1,w2]<;>omega))
  |(with_reducible apply Ap;· first|with_reducible rfl|(simp (disch:=omega) only [gF,q1,w1,w2]<;>omega))
 try simp (disch:=omega) only [q1,w1,w2]
 all_goals rfl
theorem Akl (hfu:2000<=fu){c:Ce}(h1:c.sig.chains.length<=1000)(h2:c.sig.path.length<=1000):Ae C0 Tryz.prog fu (d+3) G7 [.agg c.cells,.agg c.cells]=some ⟨[.sc (.bool true)],[]⟩:=by
 refine (Mk fu (d+2) c.subj c.iss c.serial c.key.h c.key.root c.fr c.un c.auth c.path c.model c.sig.leaf c.sig.chains.length (Af .u64 c.sig.chains) c.sig.path.length (Af .u64 c.sig.path) c.subj c.iss c.serial c.key.h c.key.root c.fr c.un c.auth c.path c.model c.sig.leaf c.sig.chains.length (Af .u64 c.sig.chains) c.sig.path.length (Af .u64 c.sig.path)).trans ?_;have ws:=Aj0 (fu:=fu) (d:=d) hfu h1 h2;simp only [Sg.cells] at ws;have q0:∀l:List UInt8,(l==l)=true:=fun l=>beq_self_eq_true l
 have q1:∀l:Int,(l==l)=true:=fun l=>beq_self_eq_true l
 have q2:∀l:Bool,(l==l)=true:=fun l=>beq_self_eq_true l
 try unfold Aa
 repeat first
  |((with_reducible first|apply Aq|apply Ak|apply Ar|apply Ao|apply Aw|apply Bc|apply Bg|apply Bu|apply Aj);· first|with_reducible rfl|(simp (disch:=omega) only [q0,q1,q2,Bool.and_true,ws]<;>with_reducible rfl))
  |((with_reducible first|apply At|apply As);· first|with_reducible rfl|omega|(simp (disch:=omega) only [gT,q0,q1,q2,Bool.and_true,ws]<;>omega))
  |(with_reducible apply Ap;· first|with_reducible rfl|(simp (disch:=omega) only [gF,q0,q1,q2,Bool.and_true,ws]<;>omega))
 try simp (disch:=omega) only [q0,q1,q2,Bool.and_true,ws]
 all_goals rfl
end
abbrev lfS:ByteArray:=⟨#[(108:UInt8),(101:UInt8),(97:UInt8),(102:UInt8)]⟩
abbrev UY:ByteArray:=⟨#[(114:UInt8),(111:UInt8),(111:UInt8),(116:UInt8)]⟩
def YT:Ce:=⟨lfS,UY,9,G0 5 1,1,8,false,0,0,⟨0,[],[]⟩⟩
theorem YS:A4 YT=0:=by
 unfold A4;have h1:YT.subj.size=4:=rfl;have h2:YT.iss.size=4:=rfl;have h3:VW YT.subj=true:=by decide
 have h4:VW YT.iss=true:=by decide
 have h5:Dh YT.key.h=false:=Af2 5 1;have h6:YT.fr=1:=rfl;have h7:YT.un=8:=rfl;have h8:YT.path=0:=rfl;rw [h1,h2,h3,h4,h5,h6,h7,h8];simp
theorem Acf:∃s,EE 71 1 0 (Kj YT)=some s∧s.ok∧s.leaf=0∧s.chains.length=18∧(s.path.length:Int)=1∧OU (G0 71 1) (Kj YT) s=0:=Aln (by decide) (by decide)
noncomputable def XG:Sg:=Classical.choose Acf
theorem BK:EE 71 1 0 (Kj YT)=some XG∧XG.ok∧XG.leaf=0∧XG.chains.length=18∧(XG.path.length:Int)=1∧OU (G0 71 1) (Kj YT) XG=0:=Classical.choose_spec Acf
noncomputable def cA:Ce:={ YT with sig:=XG }
theorem Acj:cA.ok:=⟨by decide,by decide,Ae2 5 1,BK.2.1⟩
theorem TF:A4 cA=0:=YS
theorem UW:Fe cA=0:=by
 obtain ⟨_,_,h3,h4,h5,_⟩:=BK;unfold Fe;rw [TF,Bv rfl];show LQ XG=0;unfold LQ;rw [h5,h3,A5 (by decide),A5 (by decide),A5 (by omega)]
theorem Acc:cA.in_:=⟨Acj.wf,by show lfS.size<=_;decide,by show UY.size<=_;decide⟩
theorem Aku:Ns cA (G0 71 1)=0:=by
 unfold Ns;rw [TF,Bv rfl];exact BK.2.2.2.2.2
theorem Ael:U9 YT 71 1 0=(cA,0):=by
 unfold U9;rw [Bv YS,BK.1];rfl
theorem YJ (now:Int)(h0:1<=now)(h1:now<=9):HK [cA] [⟨UY,G0 71 1⟩] [] now=if now<=8 then (0,0) else (0,38):=by
 unfold HK;rw [A5 (by omega),A5 (by omega),A5 (by simp),A5 (by simp)]
 unfold Sm
 have lk:F6 cA ((0:Nat):Int) [] now=if now<1 then 38 else if now>8 then 38 else I6 cA now []:=by
  unfold F6;rw [TF];rfl
 have n1:¬(now<1):=by omega
 rw [lk,A5 n1];by_cases h:now<=8
 ·have r0:I6 cA now []=0:=rfl;have n8:¬(now>8):=by omega
  rw [A5 n8,Bv h,r0,A5 (by simp)]
  unfold XX
  have is:Ld cA 0 [⟨UY,G0 71 1⟩]=0:=by
   rw [Ld,Bv ⟨by decide,Aku⟩]
   rfl
  rw [is];rfl
 ·have n8:now>8:=by omega
  rw [Bv n8,A5 h,Bv (by simp)]
section
variable {d:Nat}
theorem JR:Ae C0 Tryz.prog 2000 (d+15) M8 []=some ⟨[.sc (.bool true)],[]⟩:=by
 rw [Vy];have k5:=LL (fu:=2000) (d:=d+1) (by omega) 5 1
 have k71:=LL (fu:=2000) (d:=d+1) (by omega) 71 1
 have sg:=Aih (fu:=2000) (d:=d+5) (c:=YT) (by omega) ⟨by decide,by decide⟩ (by decide) (by decide) 71 1 0
 rw [Ael] at sg;obtain ⟨_,_,h3,h4,h5,_⟩:=BK;have l1:cA.sig.chains.length=18:=h4;have l2:cA.sig.path.length=1:=by have:(cA.sig.path.length:Int)=1:=h5;omega
 have en:=Acn (fu:=2000) (d:=d+6) (c:=cA) (by omega) Acj.wf Acc.s1 Acc.s2 (by omega) (by omega)
 unfold UL at en;rw [UW,Bv rfl] at en;have el:=KE (c:=cA) UW;have de:=Aly (fu:=2000) (d:=d+5) (by omega) (Ajg Acj.wf UW) (by omega)
 rw [XC Acj UW] at de;have p8:=DG (fu:=2000) (d:=d+4) (by omega) (cs:=[cA]) (by intro c hc;rw [List.mem_singleton.1 hc];exact Acc) (ans:=[⟨UY,G0 71 1⟩]) (by simp) (vs:=[]) (by simp) 8
 have p9:=DG (fu:=2000) (d:=d+4) (by omega) (cs:=[cA]) (by intro c hc;rw [List.mem_singleton.1 hc];exact Acc) (ans:=[⟨UY,G0 71 1⟩]) (by simp) (vs:=[]) (by simp) 9
 rw [YJ 8 (by omega) (by omega),Bv (by omega)] at p8
 rw [YJ 9 (by omega) (by omega),A5 (by omega)] at p9
 have sm:=Akl (fu:=2000) (d:=d+11) (c:=cA) (by omega) (by omega) (by omega)
 have L:=Am .u8 (H5 cA);have t:=J6 .u8 (H5 cA);have c0:YT.cells=[.sc (.string lfS),.sc (.string UY),.sc (.int .u64 9),.sc (.int .i64 (G0 5 1).h),.sc (.int .u64 (G0 5 1).root),.sc (.int .i64 1),.sc (.int .i64 8),.sc (.bool false),.sc (.int .i64 0),.sc (.int .u64 0),.sc (.int .i64 0),.lst false 1 0 [],.lst false 1 0 []]:=rfl;rw [c0] at sg;have e0:B5 [cA]=cA.cells:=by unfold B5;simp
 have e1:Fb [⟨UY,G0 71 1⟩]=[.sc (.string UY),.sc (.int .i64 (G0 71 1).h),.sc (.int .u64 (G0 71 1).root)]:=rfl;have e2:Em []=[]:=rfl;rw [e0,e1,e2] at p8 p9;simp only [Ce.cells,Ky.cells,Ja,AV,Br] at k5 k71 sg en de p8 p9 sm;generalize H5 cA=E at *
 generalize cA=C at *
 generalize G0 5 1=K at *
 generalize G0 71 1=K2 at *
 have b0:((0:Int)==0)=true:=rfl;have b38:((38:Int)==38)=true:=rfl
 try unfold Aa
 repeat first
  |((with_reducible first|apply Aq|apply Ak|apply Ar|apply Ao|apply Aw|apply Bc|apply Bg|apply Bu|apply Aj);· first|with_reducible rfl|(simp (disch:=omega) only [k5,k71,sg,en,de,p8,p9,sm,b0,b38,E6,Br,B8,L,t]<;>with_reducible rfl))
  |((with_reducible first|apply At|apply As);· first|with_reducible rfl|omega|(simp (disch:=omega) only [gT,k5,k71,sg,en,de,p8,p9,sm,b0,b38,E6,Br,B8,L,t]<;>omega))
  |(with_reducible apply Ap;· first|with_reducible rfl|(simp (disch:=omega) only [gF,k5,k71,sg,en,de,p8,p9,sm,b0,b38,E6,Br,B8,L,t]<;>omega))
 try simp (disch:=omega) only [k5,k71,sg,en,de,p8,p9,sm,b0,b38,E6,Br,B8,L,t]
 all_goals rfl
end
end
section
open Go.IntKind (wrap)
theorem Mi {d:Nat}{ps:List PV}(h:WT Tryz.prog d 24 ps):∃(v0:Int)(v1:Int),ps=[(.sc (.int .i64 v0)),(.sc (.int .u64 v1))]∧(Lit.int .i64 v0).wf=true∧(Lit.int .u64 v1).wf=true:=by
 obtain ⟨rs,rfl,h1⟩:=QJ (ts:=[3,22]) (by kernel_rfl) h
 obtain ⟨r0,_,rfl,g0,h1⟩:=h1.cons_inv;obtain ⟨r1,_,rfl,g1,h1⟩:=h1.cons_inv;obtain rfl:=h1.nil_inv;obtain ⟨v0,rfl,w0_0⟩:=Kr (k:=.i64) (by kernel_rfl) g0
 obtain ⟨v1,rfl,w1_0⟩:=Kr (k:=.u64) (by kernel_rfl) g1
 exact ⟨v0,v1,rfl,w0_0,w1_0⟩
theorem EV {d:Nat}{ps:List PV}(h:WT Tryz.prog d 27 ps):∃(v0:Int)(v1:List Int)(v2:List Int),ps=[(.sc (.int .i64 v0)),(.lst false 1 v1.length (Af .u64 v1)),(.lst false 1 v2.length (Af .u64 v2))]∧(Lit.int .i64 v0).wf=true∧v1.length<=maxLen∧(∀n∈v1,(Lit.int .u64 n).wf=true)∧v2.length<=maxLen∧(∀n∈v2,(Lit.int .u64 n).wf=true):=by
 obtain ⟨rs,rfl,h1⟩:=QJ (ts:=[3,25,25]) (by kernel_rfl) h
 obtain ⟨r0,_,rfl,g0,h1⟩:=h1.cons_inv;obtain ⟨r1,_,rfl,g1,h1⟩:=h1.cons_inv;obtain ⟨r2,_,rfl,g2,h1⟩:=h1.cons_inv;obtain rfl:=h1.nil_inv;obtain ⟨v0,rfl,w0_0⟩:=Kr (k:=.i64) (by kernel_rfl) g0
 obtain ⟨v1,rfl,w1_0,w1_1⟩:=UJ (k:=.u64) (e:=22) (by kernel_rfl) (by kernel_rfl) (by kernel_rfl) g1
 obtain ⟨v2,rfl,w2_0,w2_1⟩:=UJ (k:=.u64) (e:=22) (by kernel_rfl) (by kernel_rfl) (by kernel_rfl) g2
 exact ⟨v0,v1,v2,rfl,w0_0,w1_0,w1_1,w2_0,w2_1⟩
theorem Zl {d:Nat}{ps:List PV}(h:WT Tryz.prog d 29 ps):∃(v0:ByteArray)(v1:ByteArray)(v2:Int)(v3v0:Int)(v3v1:Int)(v4:Int)(v5:Int)(v6:Bool)(v7:Int)(v8:Int)(v9v0:Int)(v9v1:List Int)(v9v2:List Int),ps=[(.sc (.string v0)),(.sc (.string v1)),(.sc (.int .u64 v2)),(.sc (.int .i64 v3v0)),(.sc (.int .u64 v3v1)),(.sc (.int .i64 v4)),(.sc (.int .i64 v5)),(.sc (.bool v6)),(.sc (.int .i64 v7)),(.sc (.int .u64 v8)),(.sc (.int .i64 v9v0)),(.lst false 1 v9v1.length (Af .u64 v9v1)),(.lst false 1 v9v2.length (Af .u64 v9v2))]∧v0.size<=maxLen∧v1.size<=maxLen∧(Lit.int .u64 v2).wf=true∧(Lit.int .i64 v3v0).wf=true∧(Lit.int .u64 v3v1).wf=true∧(Lit.int .i64 v4).wf=true∧(Lit.int .i64 v5).wf=true∧(Lit.int .i64 v7).wf=true∧(Lit.int .u64 v8).wf=true∧(Lit.int .i64 v9v0).wf=true∧v9v1.length<=maxLen∧(∀n∈v9v1,(Lit.int .u64 n).wf=true)∧v9v2.length<=maxLen∧(∀n∈v9v2,(Lit.int .u64 n).wf=true):=by
 obtain ⟨rs,rfl,h1⟩:=QJ (ts:=[9,9,22,24,3,3,4,3,22,27]) (by kernel_rfl) h
 obtain ⟨r0,_,rfl,g0,h1⟩:=h1.cons_inv;obtain ⟨r1,_,rfl,g1,h1⟩:=h1.cons_inv;obtain ⟨r2,_,rfl,g2,h1⟩:=h1.cons_inv;obtain ⟨r3,_,rfl,g3,h1⟩:=h1.cons_inv;obtain ⟨r4,_,rfl,g4,h1⟩:=h1.cons_inv;obtain ⟨r5,_,rfl,g5,h1⟩:=h1.cons_inv;obtain ⟨r6,_,rfl,g6,h1⟩:=h1.cons_inv;obtain ⟨r7,_,rfl,g7,h1⟩:=h1.cons_inv;obtain ⟨r8,_,rfl,g8,h1⟩:=h1.cons_inv;obtain ⟨r9,_,rfl,g9,h1⟩:=h1.cons_inv;obtain rfl:=h1.nil_inv;obtain ⟨v0,rfl,w0_0⟩:=SM (by kernel_rfl) g0
 obtain ⟨v1,rfl,w1_0⟩:=SM (by kernel_rfl) g1
 obtain ⟨v2,rfl,w2_0⟩:=Kr (k:=.u64) (by kernel_rfl) g2
 obtain ⟨v3v0,v3v1,rfl,w3_0,w3_1⟩:=Mi g3;obtain ⟨v4,rfl,w4_0⟩:=Kr (k:=.i64) (by kernel_rfl) g4
 obtain ⟨v5,rfl,w5_0⟩:=Kr (k:=.i64) (by kernel_rfl) g5
 obtain ⟨v6,rfl⟩:=Ak1 (by kernel_rfl) g6
 obtain ⟨v7,rfl,w7_0⟩:=Kr (k:=.i64) (by kernel_rfl) g7
 obtain ⟨v8,rfl,w8_0⟩:=Kr (k:=.u64) (by kernel_rfl) g8
 obtain ⟨v9v0,v9v1,v9v2,rfl,w9_0,w9_1,w9_2,w9_3,w9_4⟩:=EV g9;exact ⟨v0,v1,v2,v3v0,v3v1,v4,v5,v6,v7,v8,v9v0,v9v1,v9v2,rfl,w0_0,w1_0,w2_0,w3_0,w3_1,w4_0,w5_0,w7_0,w8_0,w9_0,w9_1,w9_2,w9_3,w9_4⟩
end
section
open Go.IntKind (wrap)
set_option maxRecDepth 1000000
theorem w0:isW ([]:List Int):=fun x h=>by cases h
abbrev mdS:ByteArray:=⟨#[(109:UInt8),(105:UInt8),(100:UInt8)]⟩
abbrev tpS:ByteArray:=⟨#[(116:UInt8),(111:UInt8),(112:UInt8)]⟩
abbrev otS:ByteArray:=⟨#[(111:UInt8),(116:UInt8),(104:UInt8),(101:UInt8),(114:UInt8)]⟩
end
section
open Go.IntKind (wrap)
set_option maxRecDepth 100000
abbrev M9:FuncId:=26
noncomputable def Ct (fu:Nat)(call:Ah)(a0_0n:Nat)(a0_0:List PV)(a0_1:Int)(nn y0:Nat)(y1:Int)(y2:Nat)(y3:Int)(y4:Nat)(y5:List PV)(y6:Int)(y7 y8:List PV):Option A0:=Co CB Tryz.prog fu call 26 Tryz.f26 (Bm Tryz.f26) [.pbox [.lst false 1 a0_0n a0_0,.sc (.int .i64 a0_1)]] [.r,.r,.r,.r,.l,.r,.l] nn ⟨lk [(0,(.ptr 410000 0)),(5,(.view 5 1 0 y0)),(6,(.sc (.int .i64 y1))),(7,(.view 7 13 0 y2)),(8,(.sc (.int .i64 y3)))],B7 [(410000,(.st [(.lst false 1 y4 y5),(.sc (.int .i64 y6))])),(5,(.ar false y7)),(7,(.ar false y8))]⟩
noncomputable def Cs (fu:Nat)(call:Ah)(a0_0n:Nat)(a0_0:List PV)(a0_1:Int)(nn:Nat)(y0:Int)(y1:Nat)(y2:Int)(y3:Nat)(y4:List PV)(y5:Int)(y6:List PV):Option A0:=Co CB Tryz.prog fu call 26 Tryz.f26 (Bm Tryz.f26) [.pbox [.lst false 1 a0_0n a0_0,.sc (.int .i64 a0_1)]] [.r,.r,.r,.r,.r,.r] nn ⟨lk [(0,(.ptr 410000 0)),(6,(.sc (.int .i64 y0))),(7,(.view 7 13 0 y1)),(10,(.sc (.int .i64 y2)))],B7 [(410000,(.st [(.lst false 1 y3 y4),(.sc (.int .i64 y5))])),(7,(.ar false y6))]⟩
noncomputable def Ds (fu:Nat)(call:Ah)(a0_0n:Nat)(a0_0:List PV)(a0_1:Int)(nn:Nat)(y0:Int)(y1:Nat)(y2 y3:Int)(y4:Nat)(y5:List PV)(y6:Int)(y7:List PV):Option A0:=Co CB Tryz.prog fu call 26 Tryz.f26 (Bm Tryz.f26) [.pbox [.lst false 1 a0_0n a0_0,.sc (.int .i64 a0_1)]] [.r,.r,.r,.r,.r,.r,.r,.l,.r,.l] nn ⟨lk [(0,(.ptr 410000 0)),(6,(.sc (.int .i64 y0))),(7,(.view 7 13 0 y1)),(10,(.sc (.int .i64 y2))),(11,(.sc (.int .i64 y3)))],B7 [(410000,(.st [(.lst false 1 y4 y5),(.sc (.int .i64 y6))])),(7,(.ar false y7))]⟩
noncomputable def Cr (fu:Nat)(call:Ah)(a0_0n:Nat)(a0_0:List PV)(a0_1:Int)(nn y0:Nat)(y1 y2 y3:Nat)(y4:Int)(y5:Nat)(y6:List PV)(y7:Int)(y8 y9 y10:List PV):Option A0:=Co CB Tryz.prog fu call 26 Tryz.f26 (Bm Tryz.f26) [.pbox [.lst false 1 a0_0n a0_0,.sc (.int .i64 a0_1)]] [.r,.r,.r,.r,.r,.r,.r,.r,.r,.r,.r,.l,.r,.l] nn ⟨lk [(0,(.ptr 410000 0)),(7,(.view 7 13 0 y0)),(13,(.view 13 3 y1 y2)),(14,(.view 14 3 0 y3)),(15,(.sc (.int .i64 y4)))],B7 [(410000,(.st [(.lst false 1 y5 y6),(.sc (.int .i64 y7))])),(7,(.ar false y8)),(13,(.ar false y9)),(14,(.ar false y10))]⟩
theorem Bo (fu:Nat)(call:Ah)(a0_0n:Nat)(a0_0:List PV)(a0_1:Int)(nn y0:Nat)(y1:Int)(y2:Nat)(y3:Int)(y4:Nat)(y5:List PV)(y6:Int)(y7 y8:List PV):Ct fu call a0_0n a0_0 a0_1 (nn+1) y0 y1 y2 y3 y4 y5 y6 y7 y8=(A9 (decide (y3<y1)) (Au (decide (0<=y3)&&decide (y3<(↑y0:Int)))<|Cj (List.getD y7 (0+Int.toNat y3*1) .top) fun En=>Aa (wrap .u64 y3) fun E2=>Aa (wrap .i64 (80+y3)) fun Fg=>Aa (wrap .u64 Fg) fun Fp=>Ag (call 29 [.sc (.int .u64 Fp),.sc (.int .i64 1)]) fun Hp Hb=>Ac Hb<|Ab Hp fun Hq Dz=>C4 Hq fun Dq=>Ab Dq fun F5 H3=>Ad .i64 F5 fun E1=>Ab H3 fun Jk L8=>Ad .u64 Jk fun Jt=>Ac L8<|Ac Dz<|Ag (call 14 [.pbox [.lst false 1 y4 y5,.sc (.int .i64 y6)],.sc (.int .i64 3)]) fun Mr Mb=>Ab Mr fun Np Qp=>Ad .i64 Np fun Pt=>Ac Qp<|Ab Mb fun R5 Hh=>Ab R5 fun J8 Va=>Fk 1 J8 fun Y9 Qq Nw=>Ab Va fun Uh Sd=>Ad .i64 Uh fun Tp=>Ac Sd<|Ac Hh<|Ag (call 14 [.pbox [.lst false 1 Qq Nw,.sc (.int .i64 Tp)],.sc (.int .i64 5)]) fun Xd Yb=>Ab Xd fun Sn Vz=>Ad .i64 Sn fun Yj=>Ac Vz<|Ab Yb fun Xv Pc=>Ab Xv fun X8 DW=>Fk 1 X8 fun BE Za U0=>Ab DW fun X4 BC=>Ad .i64 X4 fun Y2=>Ac BC<|Ac Pc<|Aa (wrap .i64 (10+Yj)) fun Ze=>A9 (decide (y3>0)) (Aa (wrap .i64 (y3-1)) fun BB=>Ag (call 14 [.pbox [.lst false 1 Za U0,.sc (.int .i64 Y2)],.sc (.int .i64 2)]) fun Y8 Zd=>Ab Y8 fun Xc Xm=>Ad .i64 Xc fun BO=>Ac Xm<|Ab Zd fun Zj Yv=>Ab Zj fun Y1 AG=>Fk 1 Y1 fun EH Z3 Yu=>Ab AG fun HC BA=>Ad .i64 HC fun EN=>Ac BA<|Ac Yv<|Aa (wrap .i64 (BB+BO)) fun IP=>Aa (if 2<IP then 2 else IP) fun IX=>Aa (wrap .i64 (y1-1)) fun TZ=>A9 (decide (y3<TZ)) (Aa (wrap .i64 (y3+1)) fun NQ=>Au (decide (0<=NQ)&&decide (NQ<(↑y0:Int)))<|Cj (List.getD y7 (0+Int.toNat NQ*1) .top) fun RW=>Au (decide (y2*13<=y8.length)&&true&&decide ((y2+1)*152<=1099511627776)&&decide (y2+1<=1099511627776))<|Aa (y2+1) fun NS=>Aa (List.take (y2*13) y8++[.sc (.string En),.sc (.string RW),.sc (.int .u64 E2),.sc (.int .i64 E1),.sc (.int .u64 Jt),.sc (.int .i64 Pt),.sc (.int .i64 Ze),.sc (.bool (decide (y3>0))),.sc (.int .i64 IX),.sc (.int .u64 3),.sc (.int .i64 0),.lst false 1 0 [],.lst false 1 0 []]) fun WY=>Aa (wrap .i64 (y3+1)) fun XT=>Ct fu call a0_0n a0_0 a0_1 (nn) (y0) (y1) NS XT Z3 Yu EN (y7) WY) (Au (decide (y2*13<=y8.length)&&true&&decide ((y2+1)*152<=1099511627776)&&decide (y2+1<=1099511627776))<|Aa (y2+1) fun VB=>Aa (List.take (y2*13) y8++[.sc (.string En),.sc (.string (ByteArray.mk #[114,111,111,116])),.sc (.int .u64 E2),.sc (.int .i64 E1),.sc (.int .u64 Jt),.sc (.int .i64 Pt),.sc (.int .i64 Ze),.sc (.bool (decide (y3>0))),.sc (.int .i64 IX),.sc (.int .u64 3),.sc (.int .i64 0),.lst false 1 0 [],.lst false 1 0 []]) fun SV=>Aa (wrap .i64 (y3+1)) fun EG=>Ct fu call a0_0n a0_0 a0_1 (nn) (y0) (y1) VB EG Z3 Yu EN (y7) SV)) (Aa (wrap .i64 (y1-1)) fun RS=>A9 (decide (y3<RS)) (Aa (wrap .i64 (y3+1)) fun UE=>Au (decide (0<=UE)&&decide (UE<(↑y0:Int)))<|Cj (List.getD y7 (0+Int.toNat UE*1) .top) fun YG=>Au (decide (y2*13<=y8.length)&&true&&decide ((y2+1)*152<=1099511627776)&&decide (y2+1<=1099511627776))<|Aa (y2+1) fun ZE=>Aa (List.take (y2*13) y8++[.sc (.string En),.sc (.string YG),.sc (.int .u64 E2),.sc (.int .i64 E1),.sc (.int .u64 Jt),.sc (.int .i64 Pt),.sc (.int .i64 Ze),.sc (.bool (decide (y3>0))),.sc (.int .i64 0),.sc (.int .u64 3),.sc (.int .i64 0),.lst false 1 0 [],.lst false 1 0 []]) fun x94=>Aa (wrap .i64 (y3+1)) fun x95=>Ct fu call a0_0n a0_0 a0_1 (nn) (y0) (y1) ZE x95 Za U0 Y2 (y7) x94) (Au (decide (y2*13<=y8.length)&&true&&decide ((y2+1)*152<=1099511627776)&&decide (y2+1<=1099511627776))<|Aa (y2+1) fun ZZ=>Aa (List.take (y2*13) y8++[.sc (.string En),.sc (.string (ByteArray.mk #[114,111,111,116])),.sc (.int .u64 E2),.sc (.int .i64 E1),.sc (.int .u64 Jt),.sc (.int .i64 Pt),.sc (.int .i64 Ze),.sc (.bool (decide (y3>0))),.sc (.int .i64 0),.sc (.int .u64 3),.sc (.int .i64 0),.lst false 1 0 [],.lst false 1 0 []]) fun UZ=>Aa (wrap .i64 (y3+1)) fun ZK=>Ct fu call a0_0n a0_0 a0_1 (nn) (y0) (y1) ZZ ZK Za U0 Y2 (y7) UZ))) (Ag (call 14 [.pbox [.lst false 1 y4 y5,.sc (.int .i64 y6)],.sc (.int .i64 y1)]) fun ZN Ya=>Ab ZN fun We H4=>Ad .i64 We fun D8=>Ac H4<|Ab Ya fun AR Tg=>Ab AR fun Sk Kz=>Fk 1 Sk fun AP Z9 Zz=>Ab Kz fun AA Iy=>Ad .i64 AA fun Kl=>Ac Iy<|Ac Tg<|Ag (call 14 [.pbox [.lst false 1 Z9 Zz,.sc (.int .i64 Kl)],.sc (.int .i64 12)]) fun Zs AQ=>Ab Zs fun AF FQ=>Ad .i64 AF fun Ul=>Ac FQ<|Ab AQ fun Wy Ye=>Ab Wy fun X9 Zk=>Fk 1 X9 fun DU Tl Rx=>Ab Zk fun Qy Tz=>Ad .i64 Qy fun Vj=>Ac Tz<|Ac Ye<|A9 (Ul==0) (Au (decide (0<=D8)&&decide (D8<(↑y2:Int)))<|Au (decide (0+Int.toNat D8*13+7+1<=y8.length))<|Aa (Bd y8 [.sc (.bool false)] (0+Int.toNat D8*13+7)) fun BJ=>Au (decide (0<=D8)&&decide (D8<(↑y2:Int)))<|Au (decide (0+Int.toNat D8*13+8+1<=BJ.length))<|Aa (Bd BJ [.sc (.int .i64 0)] (0+Int.toNat D8*13+8)) fun AK=>Cs fu call a0_0n a0_0 a0_1 (fu) (y1) (y2) D8 Tl Rx Vj AK) (A9 (Ul==1) (Au (decide (0<=D8)&&decide (D8<(↑y2:Int)))<|Au (decide (0+Int.toNat D8*13+8+1<=y8.length))<|Aa (Bd y8 [.sc (.int .i64 0)] (0+Int.toNat D8*13+8)) fun JP=>Cs fu call a0_0n a0_0 a0_1 (fu) (y1) (y2) D8 Tl Rx Vj JP) (A9 (Ul==2) (Au (decide (0<=D8)&&decide (D8<(↑y2:Int)))<|Au (decide (0+Int.toNat D8*13+1+1<=y8.length))<|Aa (Bd y8 [.sc (.string (ByteArray.mk #[111,116,104,101,114]))] (0+Int.toNat D8*13+1)) fun FM=>Cs fu call a0_0n a0_0 a0_1 (fu) (y1) (y2) D8 Tl Rx Vj FM) (A9 (Ul==3) (Au (decide (0<=D8)&&decide (D8<(↑y2:Int)))<|Au (decide (0+Int.toNat D8*13+0+1<=y8.length))<|Aa (Bd y8 [.sc (.string (ByteArray.mk #[111,116,104,101,114]))] (0+Int.toNat D8*13+0)) fun Zy=>Cs fu call a0_0n a0_0 a0_1 (fu) (y1) (y2) D8 Tl Rx Vj Zy) (A9 (Ul==4) (Au (decide (0<=D8)&&decide (D8<(↑y2:Int)))<|Ad .i64 (List.getD y8 (0+Int.toNat D8*13+5) .top) fun HZ=>Au (decide (0<=D8)&&decide (D8<(↑y2:Int)))<|Au (decide (0+Int.toNat D8*13+6+1<=y8.length))<|Aa (Bd y8 [.sc (.int .i64 HZ)] (0+Int.toNat D8*13+6)) fun LJ=>Cs fu call a0_0n a0_0 a0_1 (fu) (y1) (y2) D8 Tl Rx Vj LJ) (Cs fu call a0_0n a0_0 a0_1 (fu) (y1) (y2) D8 Tl Rx Vj (y8)))))))):=by kernel_rfl
theorem S1 (fu:Nat)(call:Ah)(a0_0n:Nat)(a0_0:List PV)(a0_1:Int)(nn:Nat)(hnn:0<nn)(y0:Int)(y1:Nat)(y2:Int)(y3:Nat)(y4:List PV)(y5:Int)(y6:List PV):Cs fu call a0_0n a0_0 a0_1 nn y0 y1 y2 y3 y4 y5 y6=(Ds fu call a0_0n a0_0 a0_1 (fu) (y0) (y1) (y2) 0 (y3) (y4) (y5) (y6)):=by cases nn with|zero=>exact absurd hnn (Nat.lt_irrefl 0)|succ nn=>kernel_rfl
theorem De (fu:Nat)(call:Ah)(a0_0n:Nat)(a0_0:List PV)(a0_1:Int)(nn:Nat)(y0:Int)(y1:Nat)(y2 y3:Int)(y4:Nat)(y5:List PV)(y6:Int)(y7:List PV):Ds fu call a0_0n a0_0 a0_1 (nn+1) y0 y1 y2 y3 y4 y5 y6 y7=(A9 (decide (y3<y0)) (Aa (wrap .i64 (81+y3)) fun LR=>Aa (wrap .u64 LR) fun NV=>Aa (wrap .i64 (y0-1)) fun KF=>A9 (y3==KF) (Au (decide (0<=y3)&&decide (y3<(↑y1:Int)))<|Cj (List.getD y7 (0+Int.toNat y3*13) .top) fun FB=>Cj (List.getD y7 (0+Int.toNat y3*13+1) .top) fun HX=>Ad .u64 (List.getD y7 (0+Int.toNat y3*13+1+1) .top) fun JJ=>Ad .i64 (List.getD y7 (0+Int.toNat y3*13+1+1+1) .top) fun ME=>Ad .u64 (List.getD y7 (0+Int.toNat y3*13+1+1+1+1) .top) fun MA=>Ad .i64 (List.getD y7 (0+Int.toNat y3*13+1+1+1+1+1) .top) fun GD=>Ad .i64 (List.getD y7 (0+Int.toNat y3*13+1+1+1+1+1+1) .top) fun IB=>Bj (List.getD y7 (0+Int.toNat y3*13+1+1+1+1+1+1+1) .top) fun IH=>Ad .i64 (List.getD y7 (0+Int.toNat y3*13+1+1+1+1+1+1+1+1) .top) fun HT=>Ad .u64 (List.getD y7 (0+Int.toNat y3*13+1+1+1+1+1+1+1+1+1) .top) fun LM=>Ad .i64 (List.getD y7 (0+Int.toNat y3*13+1+1+1+1+1+1+1+1+1+1) .top) fun UF=>Fk 1 (List.getD y7 (0+Int.toNat y3*13+1+1+1+1+1+1+1+1+1+1+1) .top) fun WS TG EM=>Fk 1 (List.getD y7 (0+Int.toNat y3*13+1+1+1+1+1+1+1+1+1+1+1+1) .top) fun OJ RY Ab6=>Ag (call 14 [.pbox [.lst false 1 y4 y5,.sc (.int .i64 y6)],.sc (.int .i64 2)]) fun Ab5 YL=>Ab Ab5 fun RZ VK=>Ad .i64 RZ fun Aaq=>Ac VK<|Ab YL fun Aag VT=>Ab Aag fun Aao TH=>Fk 1 Aao fun Aax Aac TT=>Ab TH fun WP Abn=>Ad .i64 WP fun ZX=>Ac Abn<|Ac VT<|Ag (call 13 [.agg [.sc (.string FB),.sc (.string HX),.sc (.int .u64 JJ),.sc (.int .i64 ME),.sc (.int .u64 MA),.sc (.int .i64 GD),.sc (.int .i64 IB),.sc (.bool IH),.sc (.int .i64 HT),.sc (.int .u64 LM),.sc (.int .i64 UF),.lst false 1 TG EM,.lst false 1 RY Ab6],.sc (.int .u64 71),.sc (.int .i64 1),.sc (.int .i64 Aaq)]) fun Ab2 Aid=>Ac Aid<|Ab Ab2 fun Aji Akc=>C4 Aji fun Aa1=>Ab Aa1 fun Aet Ah6=>Cj Aet fun Aje=>Ab Ah6 fun Aho Ar8=>Cj Aho fun Ar5=>Ab Ar8 fun Ajp Alz=>Ad .u64 Ajp fun Aog=>Ab Alz fun Ant Ard=>Ad .i64 Ant fun Ark=>Ab Ard fun Aoq Apr=>Ad .u64 Aoq fun Ap7=>Ab Apr fun Ar7 Asa=>Ad .i64 Ar7 fun Aqm=>Ab Asa fun Arc Aq0=>Ad .i64 Arc fun Ary=>Ab Aq0 fun Aol Aoc=>Bj Aol fun Ao7=>Ab Aoc fun Aqi Asb=>Ad .i64 Aqi fun Aq2=>Ab Asb fun Ao9 Anr=>Ad .u64 Ao9 fun Arz=>Ab Anr fun Asy Apw=>Ad .i64 Asy fun Arb=>Ab Apw fun Asu Ao8=>Fk 1 Asu fun Att Aoi Ap5=>Ab Ao8 fun Apj An1=>Fk 1 Apj fun Atw Are Asd=>Ac An1<|Ab Akc fun Aqx Aq5=>Ad .i64 Aqx fun At7=>Ac Aq5<|Au (decide (0<=y3)&&decide (y3<(↑y1:Int)))<|Au (decide (0+Int.toNat y3*13+13<=y7.length))<|Aa (Bd y7 [.sc (.string Aje),.sc (.string Ar5),.sc (.int .u64 Aog),.sc (.int .i64 Ark),.sc (.int .u64 Ap7),.sc (.int .i64 Aqm),.sc (.int .i64 Ary),.sc (.bool Ao7),.sc (.int .i64 Aq2),.sc (.int .u64 Arz),.sc (.int .i64 Arb),.lst false 1 Aoi Ap5,.lst false 1 Are Asd] (0+Int.toNat y3*13)) fun Aqu=>Aa (wrap .i64 (y3+1)) fun Ar0=>Ds fu call a0_0n a0_0 a0_1 (nn) (y0) (y1) (y2) Ar0 Aac TT ZX Aqu) (Au (decide (0<=y3)&&decide (y3<(↑y1:Int)))<|Cj (List.getD y7 (0+Int.toNat y3*13) .top) fun Ass=>Cj (List.getD y7 (0+Int.toNat y3*13+1) .top) fun Aox=>Ad .u64 (List.getD y7 (0+Int.toNat y3*13+1+1) .top) fun Aoe=>Ad .i64 (List.getD y7 (0+Int.toNat y3*13+1+1+1) .top) fun Aq9=>Ad .u64 (List.getD y7 (0+Int.toNat y3*13+1+1+1+1) .top) fun Aq7=>Ad .i64 (List.getD y7 (0+Int.toNat y3*13+1+1+1+1+1) .top) fun Aqg=>Ad .i64 (List.getD y7 (0+Int.toNat y3*13+1+1+1+1+1+1) .top) fun Arg=>Bj (List.getD y7 (0+Int.toNat y3*13+1+1+1+1+1+1+1) .top) fun Ans=>Ad .i64 (List.getD y7 (0+Int.toNat y3*13+1+1+1+1+1+1+1+1) .top) fun Aoy=>Ad .u64 (List.getD y7 (0+Int.toNat y3*13+1+1+1+1+1+1+1+1+1) .top) fun Aot=>Ad .i64 (List.getD y7 (0+Int.toNat y3*13+1+1+1+1+1+1+1+1+1+1) .top) fun Aro=>Fk 1 (List.getD y7 (0+Int.toNat y3*13+1+1+1+1+1+1+1+1+1+1+1) .top) fun Aub Ap0 Aod=>Fk 1 (List.getD y7 (0+Int.toNat y3*13+1+1+1+1+1+1+1+1+1+1+1+1) .top) fun Auc An0 Aoo=>Ag (call 14 [.pbox [.lst false 1 y4 y5,.sc (.int .i64 y6)],.sc (.int .i64 2)]) fun Apa Ao6=>Ab Apa fun Ar2 Asp=>Ad .i64 Ar2 fun Apb=>Ac Asp<|Ab Ao6 fun Apf Aru=>Ab Apf fun Arv Aqk=>Fk 1 Arv fun Ats Asq Asc=>Ab Aqk fun Asl Aps=>Ad .i64 Asl fun Ao2=>Ac Aps<|Ac Aru<|Ag (call 13 [.agg [.sc (.string Ass),.sc (.string Aox),.sc (.int .u64 Aoe),.sc (.int .i64 Aq9),.sc (.int .u64 Aq7),.sc (.int .i64 Aqg),.sc (.int .i64 Arg),.sc (.bool Ans),.sc (.int .i64 Aoy),.sc (.int .u64 Aot),.sc (.int .i64 Aro),.lst false 1 Ap0 Aod,.lst false 1 An0 Aoo],.sc (.int .u64 NV),.sc (.int .i64 1),.sc (.int .i64 Apb)]) fun Aok Aq8=>Ac Aq8<|Ab Aok fun Apm Aql=>C4 Apm fun Aqt=>Ab Aqt fun Ask Aqd=>Cj Ask fun Art=>Ab Aqd fun Arn Ase=>Cj Arn fun Asx=>Ab Ase fun Aqo Apd=>Ad .u64 Aqo fun Ap6=>Ab Apd fun Anp Aor=>Ad .i64 Anp fun Aon=>Ab Aor fun Ap2 Asv=>Ad .u64 Ap2 fun Ao4=>Ab Asv fun Asf Aoj=>Ad .i64 Asf fun Aqb=>Ab Aoj fun Ar9 Aqz=>Ad .i64 Ar9 fun Apn=>Ab Aqz fun Anw Aoh=>Bj Anw fun Asm=>Ab Aoh fun Apv Aqq=>Ad .i64 Apv fun An7=>Ab Aqq fun Aoa Apg=>Ad .u64 Aoa fun Aqp=>Ab Apg fun Arq Aq1=>Ad .i64 Arq fun An3=>Ab Aq1 fun Ast Ar1=>Fk 1 Ast fun Ato Apk Arh=>Ab Ar1 fun Asg Asz=>Fk 1 Asg fun At5 Api An6=>Ac Asz<|Ab Aql fun An2 Apt=>Ad .i64 An2 fun Atq=>Ac Apt<|Au (decide (0<=y3)&&decide (y3<(↑y1:Int)))<|Au (decide (0+Int.toNat y3*13+13<=y7.length))<|Aa (Bd y7 [.sc (.string Art),.sc (.string Asx),.sc (.int .u64 Ap6),.sc (.int .i64 Aon),.sc (.int .u64 Ao4),.sc (.int .i64 Aqb),.sc (.int .i64 Apn),.sc (.bool Asm),.sc (.int .i64 An7),.sc (.int .u64 Aqp),.sc (.int .i64 An3),.lst false 1 Apk Arh,.lst false 1 Api An6] (0+Int.toNat y3*13)) fun Arp=>Aa (wrap .i64 (y3+1)) fun Arj=>Ds fu call a0_0n a0_0 a0_1 (nn) (y0) (y1) (y2) Arj Asq Asc Ao2 Arp)) (Ag (call 14 [.pbox [.lst false 1 y4 y5,.sc (.int .i64 y6)],.sc (.int .i64 12)]) fun Apq Aoz=>Ab Apq fun Aq4 An5=>Ad .i64 Aq4 fun Aes=>Ac An5<|Ab Aoz fun Ao3 Asj=>Ab Ao3 fun Aqn Apy=>Fk 1 Aqn fun Atj Aau ZT=>Ab Apy fun Anv Ap3=>Ad .i64 Anv fun Ab9=>Ac Ap3<|Ac Asj<|A9 (Aes==0) (Au (decide (0<=y2)&&decide (y2<(↑y1:Int)))<|Ad .u64 (List.getD y7 (0+Int.toNat y2*13+2) .top) fun App=>Aa (wrap .u64 (App+7)) fun Arr=>Au (decide (0<=y2)&&decide (y2<(↑y1:Int)))<|Au (decide (0+Int.toNat y2*13+2+1<=y7.length))<|Aa (Bd y7 [.sc (.int .u64 Arr)] (0+Int.toNat y2*13+2)) fun Ash=>Ag (call 29 [.sc (.int .u64 72),.sc (.int .i64 1)]) fun Asw Arl=>Ac Arl<|Ab Asw fun Ap1 Aqr=>C4 Ap1 fun Aim=>Ab Aim fun Al4 A62=>Ad .i64 Al4 fun A2j=>Ab A62 fun Azg A19=>Ad .u64 Azg fun A3l=>Ac A19<|Ac Aqr<|Ag (call 29 [.sc (.int .u64 71),.sc (.int .i64 1)]) fun A1p Axt=>Ac Axt<|Ab A1p fun Avk A5l=>C4 Avk fun Ayx=>Ab Ayx fun Axo A1w=>Ad .i64 Axo fun A55=>Ab A1w fun Ayd A6m=>Ad .u64 Ayd fun A2r=>Ac A6m<|Ac A5l<|Ag (call 29 [.sc (.int .u64 71),.sc (.int .i64 1)]) fun A4s A12=>Ac A12<|Ab A4s fun A13 A0q=>C4 A13 fun A5e=>Ab A5e fun A02 Avl=>Ad .i64 A02 fun Az3=>Ab Avl fun Az0 Ayu=>Ad .u64 Az0 fun A4l=>Ac Ayu<|Ac A0q<|Ag (call 14 [.pbox [.lst false 1 Aau ZT,.sc (.int .i64 Ab9)],.sc (.int .i64 2)]) fun Aus Auu=>Ab Aus fun A49 Axx=>Ad .i64 A49 fun Alq=>Ac Axx<|Ab Auu fun A1b Aux=>Ab A1b fun Ayc A1n=>Fk 1 Ayc fun A7p A3i A6z=>Ab A1n fun Ayv A2e=>Ad .i64 Ayv fun Azi=>Ac A2e<|Ac Aux<|Ag (call 14 [.pbox [.lst false 1 A3i A6z,.sc (.int .i64 Azi)],.sc (.int .i64 2)]) fun Axz Ax0=>Ab Axz fun A5w Azk=>Ad .i64 A5w fun A17=>Ac Azk<|Ab Ax0 fun A08 Auz=>Ab A08 fun A5j A0i=>Fk 1 A5j fun A7i Axh Axy=>Ab A0i fun Ayr A1o=>Ad .i64 Ayr fun A4j=>Ac A1o<|Ac Auz<|Aa (wrap .i64 (2+A17)) fun Ak3=>Au (decide (0<=Alq))<|Au (decide (0<=Ak3))<|Au (decide (Int.toNat Alq<=Int.toNat Ak3)&&decide (Int.toNat Ak3<=3))<|Aa (0+Int.toNat Alq*3) fun Azf=>Aa (Int.toNat Ak3-Int.toNat Alq) fun Awc=>Ag (call 14 [.pbox [.lst false 1 Axh Axy,.sc (.int .i64 A4j)],.sc (.int .i64 3)]) fun Aym A1k=>Ab Aym fun Awy A0p=>Ad .i64 Awy fun A4t=>Ac A0p<|Ab A1k fun A0a A0m=>Ab A0a fun A6l Aza=>Fk 1 A6l fun A7v A14 Awu=>Ab Aza fun Au3 Azt=>Ad .i64 Au3 fun Av9=>Ac Azt<|Ac A0m<|Cr fu call a0_0n a0_0 a0_1 (fu) (y1) Azf Awc 0 A4t A14 Awu Av9 Ash ([.sc (.string (ByteArray.mk #[114,111,111,116])),.sc (.int .i64 A2j),.sc (.int .u64 A3l),.sc (.string (ByteArray.mk #[114,111,111,116])),.sc (.int .i64 A55),.sc (.int .u64 A2r),.sc (.string (ByteArray.mk #[109,105,100])),.sc (.int .i64 Az3),.sc (.int .u64 A4l)]) ([])) (A9 (Aes==1) (Aa (wrap .i64 (y2+1)) fun Aqc=>Au (decide (0<=Aqc))<|Au (decide (Int.toNat Aqc<=y1))<|Aa (Int.toNat Aqc-0) fun A4w=>Ag (call 29 [.sc (.int .u64 72),.sc (.int .i64 1)]) fun A46 A51=>Ac A51<|Ab A46 fun A25 Aun=>C4 A25 fun Auw=>Ab Auw fun Au5 A2n=>Ad .i64 Au5 fun A5s=>Ab A2n fun Azc A6x=>Ad .u64 Azc fun Av6=>Ac A6x<|Ac Aun<|Ag (call 29 [.sc (.int .u64 71),.sc (.int .i64 1)]) fun Az6 A2b=>Ac A2b<|Ab Az6 fun Avs A2i=>C4 Avs fun A3o=>Ab A3o fun Avw A3g=>Ad .i64 Avw fun A1s=>Ab A3g fun Axg A1f=>Ad .u64 Axg fun A1a=>Ac A1f<|Ac A2i<|Ag (call 29 [.sc (.int .u64 71),.sc (.int .i64 1)]) fun Avo Awn=>Ac Awn<|Ab Avo fun Awz Avc=>C4 Awz fun Axu=>Ab Axu fun A5x A47=>Ad .i64 A5x fun A2d=>Ab A47 fun A29 A1i=>Ad .u64 A29 fun A1x=>Ac A1i<|Ac Avc<|Ag (call 14 [.pbox [.lst false 1 Aau ZT,.sc (.int .i64 Ab9)],.sc (.int .i64 2)]) fun Au6 A2g=>Ab Au6 fun Awl A1g=>Ad .i64 Awl fun Alm=>Ac A1g<|Ab A2g fun A2y A1l=>Ab A2y fun A3j Au4=>Fk 1 A3j fun A7s A6n Aw4=>Ab Au4 fun A3v A0k=>Ad .i64 A3v fun Azb=>Ac A0k<|Ac A1l<|Ag (call 14 [.pbox [.lst false 1 A6n Aw4,.sc (.int .i64 Azb)],.sc (.int .i64 2)]) fun Awv Azz=>Ab Awv fun A1r A3d=>Ad .i64 A1r fun A1m=>Ac A3d<|Ab Azz fun Avz A27=>Ab Avz fun Az9 A10=>Fk 1 Az9 fun A7z A0d A37=>Ab A10 fun Awx Aut=>Ad .i64 Awx fun A3p=>Ac Aut<|Ac A27<|Aa (wrap .i64 (2+A1m)) fun Aml=>Au (decide (0<=Alm))<|Au (decide (0<=Aml))<|Au (decide (Int.toNat Alm<=Int.toNat Aml)&&decide (Int.toNat Aml<=3))<|Aa (0+Int.toNat Alm*3) fun Ayy=>Aa (Int.toNat Aml-Int.toNat Alm) fun A2a=>Ag (call 14 [.pbox [.lst false 1 A0d A37,.sc (.int .i64 A3p)],.sc (.int .i64 3)]) fun A1c Azl=>Ab A1c fun A57 Azw=>Ad .i64 A57 fun A4b=>Ac Azw<|Ab Azl fun A3r Ax1=>Ab A3r fun Avq A0y=>Fk 1 Avq fun A7k Ayp Aze=>Ab A0y fun Avt Axl=>Ad .i64 Avt fun A03=>Ac Axl<|Ac Ax1<|Cr fu call a0_0n a0_0 a0_1 (fu) A4w Ayy A2a 0 A4b Ayp Aze A03 (y7) ([.sc (.string (ByteArray.mk #[114,111,111,116])),.sc (.int .i64 A5s),.sc (.int .u64 Av6),.sc (.string (ByteArray.mk #[114,111,111,116])),.sc (.int .i64 A1s),.sc (.int .u64 A1a),.sc (.string (ByteArray.mk #[109,105,100])),.sc (.int .i64 A2d),.sc (.int .u64 A1x)]) ([])) (A9 (Aes==2) (Au (decide (0<=y2)&&decide (y2<(↑y1:Int)))<|Cj (List.getD y7 (0+Int.toNat y2*13) .top) fun Ava=>Cj (List.getD y7 (0+Int.toNat y2*13+1) .top) fun Axn=>Ad .u64 (List.getD y7 (0+Int.toNat y2*13+1+1) .top) fun A6s=>Ad .i64 (List.getD y7 (0+Int.toNat y2*13+1+1+1) .top) fun A2t=>Ad .u64 (List.getD y7 (0+Int.toNat y2*13+1+1+1+1) .top) fun A1u=>Ad .i64 (List.getD y7 (0+Int.toNat y2*13+1+1+1+1+1) .top) fun A6k=>Ad .i64 (List.getD y7 (0+Int.toNat y2*13+1+1+1+1+1+1) .top) fun A5f=>Bj (List.getD y7 (0+Int.toNat y2*13+1+1+1+1+1+1+1) .top) fun A4i=>Ad .i64 (List.getD y7 (0+Int.toNat y2*13+1+1+1+1+1+1+1+1) .top) fun Awp=>Ad .u64 (List.getD y7 (0+Int.toNat y2*13+1+1+1+1+1+1+1+1+1) .top) fun A1e=>Ad .i64 (List.getD y7 (0+Int.toNat y2*13+1+1+1+1+1+1+1+1+1+1) .top) fun Azu=>Fk 1 (List.getD y7 (0+Int.toNat y2*13+1+1+1+1+1+1+1+1+1+1+1) .top) fun A7x Azq Ax7=>Fk 1 (List.getD y7 (0+Int.toNat y2*13+1+1+1+1+1+1+1+1+1+1+1+1) .top) fun A7a Ayq A1t=>Au (decide (y1*13<=y7.length)&&true&&decide ((y1+1)*152<=1099511627776)&&decide (y1+1<=1099511627776))<|Aa (y1+1) fun Au7=>Aa (List.take (y1*13) y7++[.sc (.string Ava),.sc (.string Axn),.sc (.int .u64 A6s),.sc (.int .i64 A2t),.sc (.int .u64 A1u),.sc (.int .i64 A6k),.sc (.int .i64 A5f),.sc (.bool A4i),.sc (.int .i64 Awp),.sc (.int .u64 A1e),.sc (.int .i64 Azu),.lst false 1 Azq Ax7,.lst false 1 Ayq A1t]) fun Awj=>Ag (call 29 [.sc (.int .u64 72),.sc (.int .i64 1)]) fun Ay2 A0x=>Ac A0x<|Ab Ay2 fun A4h A4m=>C4 A4h fun Axa=>Ab Axa fun A11 Aya=>Ad .i64 A11 fun A1h=>Ab Aya fun A0f A22=>Ad .u64 A0f fun Ax6=>Ac A22<|Ac A4m<|Ag (call 29 [.sc (.int .u64 71),.sc (.int .i64 1)]) fun A6h Aw7=>Ac Aw7<|Ab A6h fun A4e A6j=>C4 A4e fun A34=>Ab A34 fun A6v A5h=>Ad .i64 A6v fun A5p=>Ab A5h fun A5q A2q=>Ad .u64 A5q fun A4f=>Ac A2q<|Ac A6j<|Ag (call 29 [.sc (.int .u64 71),.sc (.int .i64 1)]) fun A0l A6g=>Ac A6g<|Ab A0l fun A0t Azx=>C4 A0t fun Aw9=>Ab Aw9 fun A18 A32=>Ad .i64 A18 fun Ayn=>Ab A32 fun Ayg Ay9=>Ad .u64 Ayg fun A58=>Ac Ay9<|Ac Azx<|Ag (call 14 [.pbox [.lst false 1 Aau ZT,.sc (.int .i64 Ab9)],.sc (.int .i64 2)]) fun A6y A0c=>Ab A6y fun Ayw Ave=>Ad .i64 Ayw fun Akr=>Ac Ave<|Ab A0c fun A6o Ay1=>Ab A6o fun A2l A3e=>Fk 1 A2l fun A7w A4a A3c=>Ab A3e fun Avm A4v=>Ad .i64 Avm fun Ayi=>Ac A4v<|Ac Ay1<|Ag (call 14 [.pbox [.lst false 1 A4a A3c,.sc (.int .i64 Ayi)],.sc (.int .i64 2)]) fun A09 Azn=>Ab A09 fun Axd Awq=>Ad .i64 Axd fun Azr=>Ac Awq<|Ab Azn fun A4x A6t=>Ab A4x fun A48 A1v=>Fk 1 A48 fun A7q Avg Au1=>Ab A1v fun A3h Azm=>Ad .i64 A3h fun Av5=>Ac Azm<|Ac A6t<|Aa (wrap .i64 (2+Azr)) fun Alg=>Au (decide (0<=Akr))<|Au (decide (0<=Alg))<|Au (decide (Int.toNat Akr<=Int.toNat Alg)&&decide (Int.toNat Alg<=3))<|Aa (0+Int.toNat Akr*3) fun Av3=>Aa (Int.toNat Alg-Int.toNat Akr) fun A0j=>Ag (call 14 [.pbox [.lst false 1 Avg Au1,.sc (.int .i64 Av5)],.sc (.int .i64 3)]) fun Aw0 Axc=>Ab Aw0 fun Ax8 Aws=>Ad .i64 Ax8 fun Auj=>Ac Aws<|Ab Axc fun A6i Axr=>Ab A6i fun A16 Avd=>Fk 1 A16 fun A7g Awo Ayh=>Ab Avd fun Ay8 A5c=>Ad .i64 Ay8 fun A5u=>Ac A5c<|Ac Axr<|Cr fu call a0_0n a0_0 a0_1 (fu) Au7 Av3 A0j 0 Auj Awo Ayh A5u Awj ([.sc (.string (ByteArray.mk #[114,111,111,116])),.sc (.int .i64 A1h),.sc (.int .u64 Ax6),.sc (.string (ByteArray.mk #[114,111,111,116])),.sc (.int .i64 A5p),.sc (.int .u64 A4f),.sc (.string (ByteArray.mk #[109,105,100])),.sc (.int .i64 Ayn),.sc (.int .u64 A58)]) ([])) (A9 (Aes==3) (Au (decide (0<=y2)&&decide (y2<(↑y1:Int)))<|Au (decide (0+Int.toNat y2*13+6+1<=y7.length))<|Aa (Bd y7 [.sc (.int .i64 (-1))] (0+Int.toNat y2*13+6)) fun Aw8=>Ag (call 29 [.sc (.int .u64 72),.sc (.int .i64 1)]) fun A38 A4k=>Ac A4k<|Ab A38 fun Axk A0s=>C4 Axk fun A2k=>Ab A2k fun Av4 A0r=>Ad .i64 Av4 fun A35=>Ab A0r fun A31 Aul=>Ad .u64 A31 fun A5a=>Ac Aul<|Ac A0s<|Ag (call 29 [.sc (.int .u64 71),.sc (.int .i64 1)]) fun Az8 Auy=>Ac Auy<|Ab Az8 fun A6f Axe=>C4 A6f fun Axv=>Ab Axv fun Ay3 Axp=>Ad .i64 Ay3 fun Avy=>Ab Axp fun A00 Aui=>Ad .u64 A00 fun Avu=>Ac Aui<|Ac Axe<|Ag (call 29 [.sc (.int .u64 71),.sc (.int .i64 1)]) fun A0z Auv=>Ac Auv<|Ab A0z fun A26 A3s=>C4 A26 fun Awt=>Ab Awt fun A3b Ay6=>Ad .i64 A3b fun A4c=>Ab Ay6 fun Avf A6d=>Ad .u64 Avf fun A0w=>Ac A6d<|Ac A3s<|Ag (call 14 [.pbox [.lst false 1 Aau ZT,.sc (.int .i64 Ab9)],.sc (.int .i64 2)]) fun Avr A6c=>Ab Avr fun A6w Ayf=>Ad .i64 A6w fun Amp=>Ac Ayf<|Ab A6c fun Azd A0n=>Ab Azd fun Ayt Awf=>Fk 1 Ayt fun A7d A52 A5n=>Ab Awf fun Avv A21=>Ad .i64 Avv fun A44=>Ac A21<|Ac A0n<|Ag (call 14 [.pbox [.lst false 1 A52 A5n,.sc (.int .i64 A44)],.sc (.int .i64 2)]) fun Awh Awr=>Ab Awh fun A0o A5v=>Ad .i64 A0o fun A2o=>Ac A5v<|Ab Awr fun A4u A54=>Ab A4u fun A06 A1y=>Fk 1 A06 fun A7u A2c Aum=>Ab A1y fun Ax9 A4q=>Ad .i64 Ax9 fun A60=>Ac A4q<|Ac A54<|Aa (wrap .i64 (2+A2o)) fun Ak5=>Au (decide (0<=Amp))<|Au (decide (0<=Ak5))<|Au (decide (Int.toNat Amp<=Int.toNat Ak5)&&decide (Int.toNat Ak5<=3))<|Aa (0+Int.toNat Amp*3) fun A3f=>Aa (Int.toNat Ak5-Int.toNat Amp) fun A4z=>Ag (call 14 [.pbox [.lst false 1 A2c Aum,.sc (.int .i64 A60)],.sc (.int .i64 3)]) fun A3y Aur=>Ab A3y fun A05 Axs=>Ad .i64 A05 fun Axf=>Ac Axs<|Ab Aur fun A33 Awm=>Ab A33 fun A4d Ays=>Fk 1 A4d fun A7n A40 A0v=>Ab Ays fun A2z Awa=>Ad .i64 A2z fun A59=>Ac Awa<|Ac Awm<|Cr fu call a0_0n a0_0 a0_1 (fu) (y1) A3f A4z 0 Axf A40 A0v A59 Aw8 ([.sc (.string (ByteArray.mk #[114,111,111,116])),.sc (.int .i64 A35),.sc (.int .u64 A5a),.sc (.string (ByteArray.mk #[114,111,111,116])),.sc (.int .i64 Avy),.sc (.int .u64 Avu),.sc (.string (ByteArray.mk #[109,105,100])),.sc (.int .i64 A4c),.sc (.int .u64 A0w)]) ([])) (Ag (call 29 [.sc (.int .u64 72),.sc (.int .i64 1)]) fun A0h Avb=>Ac Avb<|Ab A0h fun A2p Ax5=>C4 A2p fun A3w=>Ab A3w fun Az1 Aup=>Ad .i64 Az1 fun Ax2=>Ab Aup fun Av8 Av2=>Ad .u64 Av8 fun A3z=>Ac Av2<|Ac Ax5<|Ag (call 29 [.sc (.int .u64 71),.sc (.int .i64 1)]) fun A6a A5o=>Ac A5o<|Ab A6a fun A28 A2m=>C4 A28 fun Ay4=>Ab Ay4 fun A3x A2f=>Ad .i64 A3x fun Axm=>Ab A2f fun Azp A30=>Ad .u64 Azp fun Ayz=>Ac A30<|Ac A2m<|Ag (call 29 [.sc (.int .u64 71),.sc (.int .i64 1)]) fun A4p Ayo=>Ac Ayo<|Ab A4p fun Awg Auo=>C4 Awg fun A0g=>Ab A0g fun Au9 A24=>Ad .i64 Au9 fun A45=>Ab A24 fun Auq Avi=>Ad .u64 Auq fun A04=>Ac Avi<|Ac Auo<|Ag (call 14 [.pbox [.lst false 1 Aau ZT,.sc (.int .i64 Ab9)],.sc (.int .i64 2)]) fun Aw5 A6e=>Ab Aw5 fun A4r Azv=>Ad .i64 A4r fun Alt=>Ac Azv<|Ab A6e fun A3m A5d=>Ab A3m fun A5m Azh=>Fk 1 A5m fun A7h Axw Avj=>Ab Azh fun Awd Ay7=>Ad .i64 Awd fun A2v=>Ac Ay7<|Ac A5d<|Ag (call 14 [.pbox [.lst false 1 Axw Avj,.sc (.int .i64 A2v)],.sc (.int .i64 2)]) fun Au8 Au2=>Ab Au8 fun A4o A3q=>Ad .i64 A4o fun Ay0=>Ac A3q<|Ab Au2 fun Azo A1j=>Ab Azo fun A41 A2u=>Fk 1 A41 fun A7y A0e A5t=>Ab A2u fun A5k A5z=>Ad .i64 A5k fun A4g=>Ac A5z<|Ac A1j<|Aa (wrap .i64 (2+Ay0)) fun Alp=>Au (decide (0<=Alt))<|Au (decide (0<=Alp))<|Au (decide (Int.toNat Alt<=Int.toNat Alp)&&decide (Int.toNat Alp<=3))<|Aa (0+Int.toNat Alt*3) fun Az7=>Aa (Int.toNat Alp-Int.toNat Alt) fun A23=>Ag (call 14 [.pbox [.lst false 1 A0e A5t,.sc (.int .i64 A4g)],.sc (.int .i64 3)]) fun A4n A2w=>Ab A4n fun Ayj A6r=>Ad .i64 Ayj fun Avh=>Ac A6r<|Ab A2w fun Axj A1q=>Ab Axj fun A3t A50=>Fk 1 A3t fun A7t Ay5 Avn=>Ab A50 fun Ax4 Ayb=>Ad .i64 Ax4 fun A2x=>Ac Ayb<|Ac A1q<|Cr fu call a0_0n a0_0 a0_1 (fu) (y1) Az7 A23 0 Avh Ay5 Avn A2x (y7) ([.sc (.string (ByteArray.mk #[114,111,111,116])),.sc (.int .i64 Ax2),.sc (.int .u64 A3z),.sc (.string (ByteArray.mk #[114,111,111,116])),.sc (.int .i64 Axm),.sc (.int .u64 Ayz),.sc (.string (ByteArray.mk #[109,105,100])),.sc (.int .i64 A45),.sc (.int .u64 A04)]) ([]))))))):=by kernel_rfl
theorem J5 (fu:Nat)(call:Ah)(a0_0n:Nat)(a0_0:List PV)(a0_1:Int)(nn y0:Nat)(y1 y2 y3:Nat)(y4:Int)(y5:Nat)(y6:List PV)(y7:Int)(y8 y9 y10:List PV):Cr fu call a0_0n a0_0 a0_1 (nn+1) y0 y1 y2 y3 y4 y5 y6 y7 y8 y9 y10=(A9 (decide (y4>0)) (Ag (call 14 [.pbox [.lst false 1 y5 y6,.sc (.int .i64 y7)],.sc (.int .i64 3)]) fun A5y A36=>Ab A5y fun A1z Aw2=>Ad .i64 A1z fun Aow=>Ac Aw2<|Ab A36 fun Ayl A5i=>Ab Ayl fun Aw1 Azs=>Fk 1 Aw1 fun A7b A0b Av1=>Ab Azs fun Ax3 A5b=>Ad .i64 Ax3 fun Awb=>Ac A5b<|Ac A5i<|Au (decide (0<=Aow)&&decide (Aow<3))<|Cj (List.getD [.sc (.string (ByteArray.mk #[114,111,111,116])),.sc (.string (ByteArray.mk #[109,105,100])),.sc (.string (ByteArray.mk #[116,111,112]))] (0+Int.toNat Aow*1) .top) fun A07=>Ag (call 14 [.pbox [.lst false 1 A0b Av1,.sc (.int .i64 Awb)],.sc (.int .i64 3)]) fun A5r A39=>Ab A5r fun Av7 A5g=>Ad .i64 Av7 fun Aww=>Ac A5g<|Ab A39 fun Awe Azj=>Ab Awe fun Aw6 Axi=>Fk 1 Aw6 fun A7o Ayk A3n=>Ab Axi fun A6b Az5=>Ad .i64 A6b fun Awk=>Ac Az5<|Ac Azj<|Aa (wrap .u64 Aww) fun Axb=>Ag (call 14 [.pbox [.lst false 1 Ayk A3n,.sc (.int .i64 Awk)],.sc (.int .i64 14)]) fun A43 A61=>Ab A43 fun A56 Azy=>Ad .i64 A56 fun Avx=>Ac Azy<|Ab A61 fun A3k Az2=>Ab A3k fun A2h A20=>Fk 1 A2h fun A7c A2s Axq=>Ab A20 fun A1d A3u=>Ad .i64 A1d fun A01=>Ac A3u<|Ac Az2<|Au (decide (y3*3<=y10.length)&&true&&decide ((y3+1)*32<=1099511627776)&&decide (y3+1<=1099511627776))<|Aa (y3+1) fun Awi=>Aa (List.take (y3*3) y10++[.sc (.string A07),.sc (.int .u64 Axb),.sc (.int .i64 Avx)]) fun Auk=>Aa (wrap .i64 (y4-1)) fun Au0=>Cr fu call a0_0n a0_0 a0_1 (nn) (y0) (y1) (y2) Awi Au0 A2s Axq A01 (y8) (y9) Auk) (Au (decide (0+y0*13<=y8.length))<|Au (decide (y1+y2*3<=y9.length))<|Au (decide (0+y3*3<=y10.length))<|some (A0.mk [.lst false 13 y0 (List.take (y0*13) (List.drop 0 y8)),.lst false 3 y2 (List.take (y2*3) (List.drop y1 y9)),.lst false 3 y3 (List.take (y3*3) (List.drop 0 y10))] [[.lst false 1 y5 y6,.sc (.int .i64 y7)]]))):=by kernel_rfl
theorem Wu (fu d a0_0n:Nat)(a0_0:List PV)(a0_1:Int):Ae C0 Tryz.prog fu (d+1) M9 [.pbox [.lst false 1 a0_0n a0_0,.sc (.int .i64 a0_1)]]=(fun (call:Ah)=>Ag (call 14 [.pbox [.lst false 1 a0_0n a0_0,.sc (.int .i64 a0_1)],.sc (.int .i64 3)]) fun x1 x2=>Ab x1 fun x3 x4=>Ad .i64 x3 fun x5=>Ac x4<|Ab x2 fun x6 x7=>Ab x6 fun x8 x9=>Fk 1 x8 fun Cl Cw Dl=>Ab x9 fun Dr Dk=>Ad .i64 Dr fun D9=>Ac Dk<|Ac x7<|Aa (wrap .i64 (1+x5)) fun Ea=>Ct fu call a0_0n a0_0 a0_1 (fu) 3 Ea 0 0 Cw Dl D9 ([.sc (.string (ByteArray.mk #[108,101,97,102])),.sc (.string (ByteArray.mk #[109,105,100])),.sc (.string (ByteArray.mk #[116,111,112]))]) ([])) (Ae C0 Tryz.prog fu d):=by kernel_rfl
end
section
open Go.IntKind (wrap)
set_option maxRecDepth 1000000
structure Cu (c:Ce):Prop where
 wf:c.wf
 s1:c.subj.size<=5
 s2:c.iss.size<=5
 s3:c.sig.chains.length<=18
 s4:c.sig.path.length<=4
theorem Cu.in_ {c:Ce}(h:Cu c):c.in_:=⟨h.wf,by have:=h.s1;omega,by have:=h.s2;omega⟩
theorem Ai7 {c:Ce}(h:Cu c)(seed hh leaf:Int):Cu (U9 c seed hh leaf).1:=by
 have z:Cu ZL:=⟨⟨by decide,by decide⟩,by decide,by decide,by decide,by decide⟩
 unfold U9;split
 ·cases hs:EE seed hh leaf (Kj c) with
  |none=>exact z
  |some s=>exact ⟨⟨h.wf.ser,h.wf.mod⟩,h.s1,h.s2,Nat.le_of_eq (FY hs).1,(FY hs).2⟩
 ·exact z
theorem TJ {n:Nat}{S:List ByteArray}{m:Nat}(h1:n<S.length)(hS:∀s∈S,s.size<=m):∃s:ByteArray,s.size<=m∧(S.map fun s=>PV.sc (.string s)).getD n .top=.sc (.string s):=by
 refine ⟨S[n],hS _ (List.getElem_mem h1),?_⟩;rw [List.getD_eq_getElem?_getD,List.getElem?_map,List.getElem?_eq_getElem h1];rfl
theorem HL {cs:List Ce}{k:Nat}{c c':Ce}{p:PV}{j:Nat}(hj:j<13)(h:cs[k]?=some c) (hy:c'.cells=c.cells.set j p):Bd (B5 cs) [p] (k*13+j)=B5 (cs.set k c'):=by
 have hk:=SO h;rw [Ff (by rw [Mm];omega)]
 exact Ag7 Ce.cells_len hj h hy
theorem At8 {cs:List Ce}{k:Nat}{c':Ce}(hk:k<cs.length):Bd (B5 cs) c'.cells (k*13)=B5 (cs.set k c'):=by
 unfold Bd B5;rw [Ce.cells_len,ED Ce.cells_len,show k*13+13=(k+1)*13 by omega,DO Ce.cells_len,List.set_eq_take_append_cons_drop,Bv hk,List.flatMap_append,List.flatMap_cons,ZJ]
theorem QR (a b:List Ce):B5 (a++b)=B5 a++B5 b:=by unfold B5;rw [List.flatMap_append]
theorem QS (c:Ce):B5 [c]=c.cells:=by unfold B5;simp
theorem ZQ {cs:List Ce}{k:Nat}:List.take (k*13) (B5 cs)=B5 (cs.take k):=ED Ce.cells_len cs k
theorem Xh (l:List Rv):(Em l).length=l.length*3:=Z8 Rv.cells_len l
theorem Aft (a:List Rv)(r:Rv):Em a++[.sc (.string r.iss),.sc (.int .u64 r.ser),.sc (.int .i64 r.at_)]=Em (a++[r]):=by
 unfold Em;rw [List.flatMap_append,List.flatMap_cons,List.flatMap_nil,List.append_nil];rfl
theorem Aex (l:List An):(Fb l).length=l.length*3:=Z8 An.cells_len l
def Fin (l:List Int)(r:Option A0):Prop:=∃(cs:List Ce)(ans:List An)(vs:List Rv)(j:Nat),(∀c∈cs,Cu c)∧cs.length<=4∧ans.length<=3∧vs.length<=10 ∧
 r=some ⟨[.lst false 13 cs.length (B5 cs),.lst false 3 ans.length (Fb ans),.lst false 3 vs.length (Em vs)],[dkc l j]⟩
section
variable {d:Nat} {l:List Int} {a0_0n:Nat} {a0_0:List PV} {a0_1:Int}
theorem Ane (hl:l.length<=maxLen){cs:List Ce}(hc:∀c∈cs,Cu c){y0:Nat}(h0:y0<=cs.length)(h4:y0<=4){A:List An}{a n:Nat}(ha:a+n<=A.length)(hn:n<=3):∀(k nn j:Nat)(vs:List Rv),k<nn->vs.length+k<=10 ->
  Fin l (Cr 2000 (Ae C0 Tryz.prog 2000 (d+14)) a0_0n a0_0 a0_1 nn y0 (a*3) n vs.length (k:Int) l.length (Af .i64 l) (j:Int) (B5 cs) (Fb A) (Em vs))
 |_,0,_,_,h,_=>by omega
 |0,nn+1,j,vs,_,hv=>by
  have e1:List.take (y0*13) (B5 cs)=B5 (cs.take y0):=ZQ
  have e2:List.take (n*3) (List.drop (a*3) (Fb A))=Fb ((A.drop a).take n):=by
   unfold Fb;rw [DO An.cells_len,ED An.cells_len]
  have e3:List.take (vs.length*3) (Em vs)=Em vs:=To (by rw [Xh];omega)
  have L1:=Mm cs;have L2:=Aex A;have L3:=Xh vs;have t1:(cs.take y0).length=y0:=by rw [List.length_take];omega
  have t2:((A.drop a).take n).length=n:=by rw [List.length_take,List.length_drop];omega
  refine ⟨cs.take y0,(A.drop a).take n,vs,j,fun c h=>hc c (List.mem_of_mem_take h),by omega,by omega,by omega,?_⟩
  rw [t1,t2,J5]
  try unfold Aa
  repeat first
   |((with_reducible first|apply Aq|apply Ak|apply Ar|apply Ao|apply Aw|apply Bg|apply Bu|apply Aj);· first|with_reducible rfl|(simp (disch:=omega) only [e1,e2,e3,L1,L2,L3,E6,Br]<;>with_reducible rfl))
   |((with_reducible first|apply At|apply As);· first|with_reducible rfl|omega|(simp (disch:=omega) only [gT,e1,e2,e3,L1,L2,L3,E6,Br]<;>omega))
   |(with_reducible apply Ap;· first|with_reducible rfl|(simp (disch:=omega) only [gF,e1,e2,e3,L1,L2,L3,E6,Br]<;>omega))
  try simp (disch:=omega) only [e1,e2,e3,L1,L2,L3,E6,Br]
  all_goals rfl
 |k+1,nn+1,j,vs,hk,hv=>by
  obtain ⟨v0,j0,v00,v01,n0⟩:=Hz hl j 3 (by omega) (by omega)
  obtain ⟨v1,j1,v10,v11,n1⟩:=Hz hl j0 3 (by omega) (by omega)
  obtain ⟨v2,j2,v20,v21,n2⟩:=Hz hl j1 14 (by omega) (by omega)
  have n0:=n0 (fu:=2000) (d:=d+12);have n1:=n1 (fu:=2000) (d:=d+12);have n2:=n2 (fu:=2000) (d:=d+12);obtain ⟨m0,rfl⟩:∃m:Nat,v0=m:=⟨v0.toNat,by omega⟩
  obtain ⟨s,zs,g⟩:=TJ (n:=m0) (S:=[UY,mdS,tpS]) (m:=5) (by simp;omega) (by decide)
  simp only [Zzw,List.map_nil] at g;have c0:(decide ((0:Int)<=m0)&&decide ((m0:Int)<3))=true:=by simp;omega
  have nt:Int.toNat (m0:Int)=m0:=Gy _;have w:wrap .i64 (((k+1:Nat):Int)-1)=(k:Int):=by rw [Al (by omega) (by omega)];omega
  have e3:List.take (vs.length*3) (Em vs)=Em vs:=To (by rw [Xh];omega)
  have L3:=Xh vs;have ea:=Aft vs ⟨s,wrap .u64 v1,v2⟩;simp only at ea;obtain ⟨cs',ans',vs',j',q1,q2,q3,q4,q5⟩:=Ane hl hc h0 h4 ha hn k nn j2 (vs++[⟨s,wrap .u64 v1,v2⟩]) (by omega) (by rw [Kt,List.length_singleton];omega)
  refine ⟨cs',ans',vs',j',q1,q2,q3,q4,?_⟩;rw [Kt,List.length_singleton] at q5;simp only [dkc] at n0 n1 n2;rw [←q5,J5]
  try unfold Aa
  repeat first
   |((with_reducible first|apply Aq|apply Ak|apply Ar|apply Ao|apply Aw|apply Bg|apply Bu|apply Aj);· first|with_reducible rfl|(simp (disch:=omega) only [n0,n1,n2,c0,nt,g,w,e3,L3,ea,Br,B8]<;>with_reducible rfl))
   |((with_reducible first|apply At|apply As);· first|with_reducible rfl|omega|(simp (disch:=omega) only [gT,n0,n1,n2,c0,nt,g,w,e3,L3,ea,Br,B8]<;>omega))
   |(with_reducible apply Ap;· first|with_reducible rfl|(simp (disch:=omega) only [gF,n0,n1,n2,c0,nt,g,w,e3,L3,ea,Br,B8]<;>omega))
  try simp (disch:=omega) only [n0,n1,n2,c0,nt,g,w,e3,L3,ea,Br,B8]
  all_goals rfl
theorem Amu (hl:l.length<=maxLen){n:Nat}(h1:1<=n)(h3:n<=3){k:Nat}(hk:k<n):∀(m i nn j:Nat)(cs:List Ce),i+m=n->m<nn->cs.length=n->(∀c∈cs,Cu c) ->
  Fin l (Ds 2000 (Ae C0 Tryz.prog 2000 (d+14)) a0_0n a0_0 a0_1 nn (n:Int) cs.length (k:Int) (i:Int) l.length (Af .i64 l) (j:Int) (B5 cs))
 |_,_,0,_,_,_,h,_,_=>by omega
 |0,i,nn+1,j,cs,hi,_,hcl,hc=>by
  obtain rfl:i=n:=by omega
  obtain ⟨v0,j0,v00,v01,n0⟩:=Hz hl j 12 (by omega) (by omega)
  obtain ⟨v1,j1,v10,v11,n1⟩:=Hz hl j0 2 (by omega) (by omega)
  obtain ⟨v2,j2,v20,v21,n2⟩:=Hz hl j1 2 (by omega) (by omega)
  obtain ⟨v3,j3,v30,v31,n3⟩:=Hz hl j2 3 (by omega) (by omega)
  have n0:=n0 (fu:=2000) (d:=d+12);have n1:=n1 (fu:=2000) (d:=d+12);have n2:=n2 (fu:=2000) (d:=d+12);have n3:=n3 (fu:=2000) (d:=d+12);have k2:=LL (fu:=2000) (d:=d+1) (by omega) 72 1
  have k1:=LL (fu:=2000) (d:=d+1) (by omega) 71 1
  obtain ⟨m1,rfl⟩:∃m:Nat,v1=m:=⟨v1.toNat,by omega⟩
  obtain ⟨m2,rfl⟩:∃m:Nat,v2=m:=⟨v2.toNat,by omega⟩
  obtain ⟨m3,rfl⟩:∃m:Nat,v3=m:=⟨v3.toNat,by omega⟩
  have w2:wrap .i64 ((2:Int)+m2)=((2+m2:Nat):Int):=by rw [Al (by omega) (by omega)];omega
  have wk:wrap .i64 ((k:Int)+1)=((k+1:Nat):Int):=by rw [Al (by omega) (by omega)];omega
  have nt:Int.toNat (m1:Int)=m1:=Gy _;have nt2:Int.toNat ((2+m2:Nat):Int)=2+m2:=Gy _;have ntk:Int.toNat (k:Int)=k:=Gy _;have ntk1:Int.toNat ((k+1:Nat):Int)=k+1:=Gy _;have hA:(Fb [⟨UY,G0 72 1⟩,⟨UY,G0 71 1⟩,⟨mdS,G0 71 1⟩])=[.sc (.string UY),.sc (.int .i64 (G0 72 1).h),.sc (.int .u64 (G0 72 1).root),.sc (.string UY),.sc (.int .i64 (G0 71 1).h),.sc (.int .u64 (G0 71 1).root),.sc (.string mdS),.sc (.int .i64 (G0 71 1).h),.sc (.int .u64 (G0 71 1).root)]:=rfl;obtain ⟨A,hA',eA⟩:∃A,A.length=3∧A=[An.mk UY (G0 72 1),⟨UY,G0 71 1⟩,⟨mdS,G0 71 1⟩]:=⟨_,rfl,rfl⟩;rw [←eA] at hA;have T:=fun (cs':List Ce) (hc':∀c∈cs',Cu c) (y:Nat) (hy:y<=cs'.length) (hy4:y<=4)=>Ane (d:=d) (a0_0n:=a0_0n) (a0_0:=a0_0) (a0_1:=a0_1) hl hc' hy hy4 (A:=A) (a:=m1) (n:=2+m2-m1) (by omega) (by omega) m3 2000 j3 [] (by omega) (by simp;omega)
  have c1:(decide (m1<=2+m2)&&decide (2+m2<=3))=true:=by simp;omega
  have ck:(decide ((0:Int)<=k)&&decide ((k:Int)<cs.length))=true:=by simp;omega
  have z3:Em []=[]:=rfl;simp only [AV,z3,hA] at T;clear hA eA hA';generalize G0 72 1=K2 at *
  generalize G0 71 1=K1 at *
  simp only [Ky.cells] at k2 k1;simp only [dkc] at n0 n1 n2 n3;obtain ⟨c,hg⟩:∃c,cs[k]?=some c:=⟨_,List.getElem?_eq_getElem (by omega)⟩
  have hcu:=hc c (List.mem_of_getElem? hg);have L:=Mm cs
  have setc:∀c':Ce,Cu c'->∀x∈cs.set k c',Cu x:=fun c' h' x hx=>by
   rcases List.mem_or_eq_of_mem_set hx with hx|rfl
   ·exact hc x hx
   ·exact h'
  have hcase:v0=0∨v0=1∨v0=2∨v0=3∨(v0≠0∧v0≠1∧v0≠2∧v0≠3):=by omega
  have nlt:∀x:Int,decide (x<x)=false:=fun x=>by simp
  rcases hcase with rfl|rfl|rfl|rfl|⟨u0,u1,u2,u3⟩
  ·have es:=HL (cs:=cs) (k:=k) (c:=c) (c':={ c with serial:=wrap .u64 (c.serial+7) }) (p:=.sc (.int .u64 (wrap .u64 (c.serial+7)))) (j:=2) (by omega) hg rfl
   have c2:=(cer hg).2.2.1;obtain ⟨cs',ans',vs',j',q1,q2,q3,q4,q5⟩:=T (cs.set k { c with serial:=wrap .u64 (c.serial+7) }) (setc _ ⟨⟨(Gz _).1,hcu.wf.mod⟩,hcu.s1,hcu.s2,hcu.s3,hcu.s4⟩) cs.length (by rw [List.length_set];omega) (by omega)
   refine ⟨cs',ans',vs',j',q1,q2,q3,q4,?_⟩;have c2':(B5 cs).getD (k*13+2) .top=.sc (.int .u64 c.serial):=c2;rw [←q5,De]
   try unfold Aa
   repeat first
    |((with_reducible first|apply Aq|apply Ak|apply Ar|apply Ao|apply Aw|apply Bg|apply Bu|apply Aj);· first|with_reducible rfl|(simp (disch:=omega) only [nlt,n0,n1,n2,n3,k1,k2,w2,nt,nt2,ntk,c1,ck,c2',L,es,Br,Int.reduceBEq]<;>with_reducible rfl))
    |((with_reducible first|apply At|apply As);· first|with_reducible rfl|omega|(simp (disch:=omega) only [gT,nlt,n0,n1,n2,n3,k1,k2,w2,nt,nt2,ntk,c1,ck,c2',L,es,Br,Int.reduceBEq]<;>omega))
    |(with_reducible apply Ap;· first|with_reducible rfl|(simp (disch:=omega) only [gF,nlt,n0,n1,n2,n3,k1,k2,w2,nt,nt2,ntk,c1,ck,c2',L,es,Br,Int.reduceBEq]<;>omega))
   try simp (disch:=omega) only [nlt,n0,n1,n2,n3,k1,k2,w2,nt,nt2,ntk,c1,ck,c2',L,es,Br,Int.reduceBEq]
   all_goals rfl
  ·obtain ⟨cs',ans',vs',j',q1,q2,q3,q4,q5⟩:=T cs hc (k+1) (by omega) (by omega)
   refine ⟨cs',ans',vs',j',q1,q2,q3,q4,?_⟩;rw [←q5,De]
   try unfold Aa
   repeat first
    |((with_reducible first|apply Aq|apply Ak|apply Ar|apply Ao|apply Aw|apply Bg|apply Bu|apply Aj);· first|with_reducible rfl|(simp (disch:=omega) only [nlt,n0,n1,n2,n3,k1,k2,w2,wk,nt,nt2,ntk1,c1,ck,L,Nat.sub_zero,Br,Int.reduceBEq]<;>with_reducible rfl))
    |((with_reducible first|apply At|apply As);· first|with_reducible rfl|omega|(simp (disch:=omega) only [gT,nlt,n0,n1,n2,n3,k1,k2,w2,wk,nt,nt2,ntk1,c1,ck,L,Nat.sub_zero,Br,Int.reduceBEq]<;>omega))
    |(with_reducible apply Ap;· first|with_reducible rfl|(simp (disch:=omega) only [gF,nlt,n0,n1,n2,n3,k1,k2,w2,wk,nt,nt2,ntk1,c1,ck,L,Nat.sub_zero,Br,Int.reduceBEq]<;>omega))
   try simp (disch:=omega) only [nlt,n0,n1,n2,n3,k1,k2,w2,wk,nt,nt2,ntk1,c1,ck,L,Nat.sub_zero,Br,Int.reduceBEq]
   all_goals rfl
  ·obtain ⟨d0,d1,d2,d3,d4,d5,d6,d7,d8,d9,d10,d11,d12⟩:=cer hg;have ea:B5 cs++[.sc (.string c.subj),.sc (.string c.iss),.sc (.int .u64 c.serial),.sc (.int .i64 c.key.h),.sc (.int .u64 c.key.root),.sc (.int .i64 c.fr),.sc (.int .i64 c.un),.sc (.bool c.auth),.sc (.int .i64 c.path),.sc (.int .u64 c.model),.sc (.int .i64 c.sig.leaf),.lst false 1 c.sig.chains.length (Af .u64 c.sig.chains),.lst false 1 c.sig.path.length (Af .u64 c.sig.path)]=B5 (cs++[c]):=by rw [QR,QS];rfl
   have tk:List.take (cs.length*13) (B5 cs)=B5 cs:=To (by omega)
   obtain ⟨cs',ans',vs',j',q1,q2,q3,q4,q5⟩:=T (cs++[c]) (fun x hx=>by
    rcases List.mem_append.1 hx with hx|hx
    ·exact hc x hx
    ·rw [List.mem_singleton.1 hx];exact hcu) (cs.length+1) (by simp) (by omega)
   refine ⟨cs',ans',vs',j',q1,q2,q3,q4,?_⟩;rw [←q5,De]
   try unfold Aa
   repeat first
    |((with_reducible first|apply Aq|apply Ak|apply Ar|apply Ao|apply Aw|apply Bg|apply Bu|apply Aj);· first|with_reducible rfl|(simp (disch:=omega) only [nlt,n0,n1,n2,n3,k1,k2,w2,nt,nt2,ntk,c1,ck,L,d0,d1,d2,d3,d4,d5,d6,d7,d8,d9,d10,d11,d12,tk,ea,Br,Int.reduceBEq]<;>with_reducible rfl))
    |((with_reducible first|apply At|apply As);· first|with_reducible rfl|omega|(simp (disch:=omega) only [gT,nlt,n0,n1,n2,n3,k1,k2,w2,nt,nt2,ntk,c1,ck,L,d0,d1,d2,d3,d4,d5,d6,d7,d8,d9,d10,d11,d12,tk,ea,Br,Int.reduceBEq]<;>omega))
    |(with_reducible apply Ap;· first|with_reducible rfl|(simp (disch:=omega) only [gF,nlt,n0,n1,n2,n3,k1,k2,w2,nt,nt2,ntk,c1,ck,L,d0,d1,d2,d3,d4,d5,d6,d7,d8,d9,d10,d11,d12,tk,ea,Br,Int.reduceBEq]<;>omega))
   try simp (disch:=omega) only [nlt,n0,n1,n2,n3,k1,k2,w2,nt,nt2,ntk,c1,ck,L,d0,d1,d2,d3,d4,d5,d6,d7,d8,d9,d10,d11,d12,tk,ea,Br,Int.reduceBEq]
   all_goals rfl
  ·have es:=HL (cs:=cs) (k:=k) (c:=c) (c':={ c with un:= -1 }) (p:=.sc (.int .i64 (-1))) (j:=6) (by omega) hg rfl
   obtain ⟨cs',ans',vs',j',q1,q2,q3,q4,q5⟩:=T (cs.set k { c with un:= -1 }) (setc _ ⟨⟨hcu.wf.ser,hcu.wf.mod⟩,hcu.s1,hcu.s2,hcu.s3,hcu.s4⟩) cs.length (by rw [List.length_set];omega) (by omega)
   refine ⟨cs',ans',vs',j',q1,q2,q3,q4,?_⟩;rw [←q5,De]
   try unfold Aa
   repeat first
    |((with_reducible first|apply Aq|apply Ak|apply Ar|apply Ao|apply Aw|apply Bg|apply Bu|apply Aj);· first|with_reducible rfl|(simp (disch:=omega) only [nlt,n0,n1,n2,n3,k1,k2,w2,nt,nt2,ntk,c1,ck,L,es,Br,Int.reduceBEq]<;>with_reducible rfl))
    |((with_reducible first|apply At|apply As);· first|with_reducible rfl|omega|(simp (disch:=omega) only [gT,nlt,n0,n1,n2,n3,k1,k2,w2,nt,nt2,ntk,c1,ck,L,es,Br,Int.reduceBEq]<;>omega))
    |(with_reducible apply Ap;· first|with_reducible rfl|(simp (disch:=omega) only [gF,nlt,n0,n1,n2,n3,k1,k2,w2,nt,nt2,ntk,c1,ck,L,es,Br,Int.reduceBEq]<;>omega))
   try simp (disch:=omega) only [nlt,n0,n1,n2,n3,k1,k2,w2,nt,nt2,ntk,c1,ck,L,es,Br,Int.reduceBEq]
   all_goals rfl
  ·obtain ⟨cs',ans',vs',j',q1,q2,q3,q4,q5⟩:=T cs hc cs.length (by omega) (by omega)
   refine ⟨cs',ans',vs',j',q1,q2,q3,q4,?_⟩;have f0:(v0==0)=false:=beq_eq_false_iff_ne.2 u0;have f1:(v0==1)=false:=beq_eq_false_iff_ne.2 u1;have f2:(v0==2)=false:=beq_eq_false_iff_ne.2 u2;have f3:(v0==3)=false:=beq_eq_false_iff_ne.2 u3;rw [←q5,De]
   try unfold Aa
   repeat first
    |((with_reducible first|apply Aq|apply Ak|apply Ar|apply Ao|apply Aw|apply Bg|apply Bu|apply Aj);· first|with_reducible rfl|(simp (disch:=omega) only [nlt,n0,n1,n2,n3,k1,k2,w2,nt,nt2,c1,ck,L,f0,f1,f2,f3,Br]<;>with_reducible rfl))
    |((with_reducible first|apply At|apply As);· first|with_reducible rfl|omega|(simp (disch:=omega) only [gT,nlt,n0,n1,n2,n3,k1,k2,w2,nt,nt2,c1,ck,L,f0,f1,f2,f3,Br]<;>omega))
    |(with_reducible apply Ap;· first|with_reducible rfl|(simp (disch:=omega) only [gF,nlt,n0,n1,n2,n3,k1,k2,w2,nt,nt2,c1,ck,L,f0,f1,f2,f3,Br]<;>omega))
   try simp (disch:=omega) only [nlt,n0,n1,n2,n3,k1,k2,w2,nt,nt2,c1,ck,L,f0,f1,f2,f3,Br]
   all_goals rfl
 |m+1,i,nn+1,j,cs,hi,hn,hcl,hc=>by
  obtain ⟨v0,j0,v00,v01,n0⟩:=Hz hl j 2 (by omega) (by omega)
  have n0:=n0 (fu:=2000) (d:=d+12);obtain ⟨c,hg⟩:∃c,cs[i]?=some c:=⟨_,List.getElem?_eq_getElem (by omega)⟩
  have hcu:=hc c (List.mem_of_getElem? hg);have hci:=hcu.in_;obtain ⟨d0,d1,d2,d3,d4,d5,d6,d7,d8,d9,d10,d11,d12⟩:=cer hg;have nt:Int.toNat (i:Int)=i:=Gy _;have w:wrap .i64 ((i:Int)+1)=((i+1:Nat):Int):=by rw [Al (by omega) (by omega)];omega
  have wn:wrap .i64 ((n:Int)-1)=(n:Int)-1:=Al (by omega) (by omega)
  have ci:(decide ((0:Int)<=i)&&decide ((i:Int)<cs.length))=true:=by simp;omega
  have L:=Mm cs;have lt:decide ((i:Int)<(n:Int))=true:=by simp;omega
  simp only [dkc] at n0
  have go:∀(seed:Int),(if (i:Int)=(n:Int)-1 then seed=71 else seed=wrap .u64 (wrap .i64 (81+(i:Int)))) ->
    Fin l (Ds 2000 (Ae C0 Tryz.prog 2000 (d+14)) a0_0n a0_0 a0_1 (nn+1) (n:Int) cs.length (k:Int) (i:Int) l.length (Af .i64 l) (j:Int) (B5 cs)):=by
   intro seed hs;have sg:=Aec (fu:=2000) (d:=d+1) (c:=c) (by omega) hci.wf hci.s1 hci.s2 seed 1 v0
   have su:=Ai7 hcu seed 1 v0;generalize (U9 c seed 1 v0).2=er at *
   generalize (U9 c seed 1 v0).1=y at *
   have ep:=At8 (cs:=cs) (k:=i) (c':=y) (by omega)
   obtain ⟨cs',ans',vs',j',q1,q2,q3,q4,q5⟩:=Amu hl h1 h3 hk m (i+1) nn j0 (cs.set i y) (by omega) (by omega) (by rw [List.length_set];exact hcl) (fun x hx=>by
    rcases List.mem_or_eq_of_mem_set hx with hx|rfl
    ·exact hc x hx
    ·exact su)
   refine ⟨cs',ans',vs',j',q1,q2,q3,q4,?_⟩;rw [List.length_set] at q5;simp only [Ce.cells] at sg ep;rw [←q5,De];by_cases hb:(i:Int)=(n:Int)-1
   ·rw [Bv hb] at hs;subst hs;have eb:((i:Int)==(n:Int)-1)=true:=by simp [hb]
    try unfold Aa
    repeat first
     |((with_reducible first|apply Aq|apply Ak|apply Ar|apply Ao|apply Aw|apply Bg|apply Bu|apply Aj);· first|with_reducible rfl|(simp (disch:=omega) only [lt,wn,eb,n0,nt,w,ci,L,d0,d1,d2,d3,d4,d5,d6,d7,d8,d9,d10,d11,d12,sg,ep,Br]<;>with_reducible rfl))
     |((with_reducible first|apply At|apply As);· first|with_reducible rfl|omega|(simp (disch:=omega) only [gT,lt,wn,eb,n0,nt,w,ci,L,d0,d1,d2,d3,d4,d5,d6,d7,d8,d9,d10,d11,d12,sg,ep,Br]<;>omega))
     |(with_reducible apply Ap;· first|with_reducible rfl|(simp (disch:=omega) only [gF,lt,wn,eb,n0,nt,w,ci,L,d0,d1,d2,d3,d4,d5,d6,d7,d8,d9,d10,d11,d12,sg,ep,Br]<;>omega))
    try simp (disch:=omega) only [lt,wn,eb,n0,nt,w,ci,L,d0,d1,d2,d3,d4,d5,d6,d7,d8,d9,d10,d11,d12,sg,ep,Br]
    all_goals rfl
   ·rw [A5 hb] at hs;have eb:((i:Int)==(n:Int)-1)=false:=by simp [hb]
    rw [hs] at sg
    try unfold Aa
    repeat first
     |((with_reducible first|apply Aq|apply Ak|apply Ar|apply Ao|apply Aw|apply Bg|apply Bu|apply Aj);· first|with_reducible rfl|(simp (disch:=omega) only [lt,wn,eb,n0,nt,w,ci,L,d0,d1,d2,d3,d4,d5,d6,d7,d8,d9,d10,d11,d12,sg,ep,Br]<;>with_reducible rfl))
     |((with_reducible first|apply At|apply As);· first|with_reducible rfl|omega|(simp (disch:=omega) only [gT,lt,wn,eb,n0,nt,w,ci,L,d0,d1,d2,d3,d4,d5,d6,d7,d8,d9,d10,d11,d12,sg,ep,Br]<;>omega))
     |(with_reducible apply Ap;· first|with_reducible rfl|(simp (disch:=omega) only [gF,lt,wn,eb,n0,nt,w,ci,L,d0,d1,d2,d3,d4,d5,d6,d7,d8,d9,d10,d11,d12,sg,ep,Br]<;>omega))
    try simp (disch:=omega) only [lt,wn,eb,n0,nt,w,ci,L,d0,d1,d2,d3,d4,d5,d6,d7,d8,d9,d10,d11,d12,sg,ep,Br]
    all_goals rfl
  by_cases hb:(i:Int)=(n:Int)-1
  ·exact go 71 (by rw [Bv hb])
  ·exact go _ (by rw [A5 hb])
theorem Amy (hl:l.length<=maxLen){n:Nat}(h1:1<=n)(h3:n<=3){k:Nat}(hk:k<n){j:Nat}{cs:List Ce}(hcl:cs.length=n)(hc:∀c∈cs,Cu c):
  Fin l (Cs 2000 (Ae C0 Tryz.prog 2000 (d+14)) a0_0n a0_0 a0_1 2000 (n:Int) cs.length (k:Int) l.length (Af .i64 l) (j:Int) (B5 cs)):=by
 rw [S1 (hnn:=by omega)]
 exact Amu hl h1 h3 hk n 0 2000 j cs (by omega) (by omega) hcl hc
theorem Anm (hl:l.length<=maxLen){n:Nat}(h1:1<=n)(h3:n<=3):∀(m i nn j:Nat)(cs:List Ce),i+m=n->m<nn->cs.length=i->(∀c∈cs,Cu c) ->
  Fin l (Ct 2000 (Ae C0 Tryz.prog 2000 (d+14)) a0_0n a0_0 a0_1 nn 3 (n:Int) cs.length (i:Int) l.length (Af .i64 l) (j:Int) [.sc (.string lfS),.sc (.string mdS),.sc (.string tpS)] (B5 cs))
 |_,_,0,_,_,_,h,_,_=>by omega
 |0,i,nn+1,j,cs,hi,_,hcl,hc=>by
  obtain rfl:i=n:=by omega
  obtain ⟨v0,j0,v00,v01,n0⟩:=Hz hl j (i:Int) (by omega) (by omega)
  obtain ⟨v1,j1,v10,v11,n1⟩:=Hz hl j0 12 (by omega) (by omega)
  have n0:=n0 (fu:=2000) (d:=d+12);have n1:=n1 (fu:=2000) (d:=d+12);obtain ⟨k,rfl⟩:∃k:Nat,v0=k:=⟨v0.toNat,by omega⟩
  have ntk:Int.toNat (k:Int)=k:=Gy _;have nlt:∀x:Int,decide (x<x)=false:=fun x=>by simp
  obtain ⟨c,hg⟩:∃c,cs[k]?=some c:=⟨_,List.getElem?_eq_getElem (by omega)⟩
  have hcu:=hc c (List.mem_of_getElem? hg);have L:=Mm cs;have ck:(decide ((0:Int)<=k)&&decide ((k:Int)<cs.length))=true:=by simp;omega
  have setc:∀c':Ce,Cu c'->∀x∈cs.set k c',Cu x:=fun c' h' x hx=>by
   rcases List.mem_or_eq_of_mem_set hx with hx|rfl
   ·exact hc x hx
   ·exact h'
  simp only [dkc] at n0 n1;have T:=fun (c':Ce) (h':Cu c')=>Amy (d:=d) (a0_0n:=a0_0n) (a0_0:=a0_0) (a0_1:=a0_1) hl h1 h3 (k:=k) (by omega) (j:=j1) (cs:=cs.set k c') (by rw [List.length_set];omega) (setc c' h')
  have hcase:v1=0∨v1=1∨v1=2∨v1=3∨v1=4∨(v1≠0∧v1≠1∧v1≠2∧v1≠3∧v1≠4):=by omega
  rcases hcase with rfl|rfl|rfl|rfl|rfl|⟨u0,u1,u2,u3,u4⟩
  ·have es:=HL (cs:=cs) (k:=k) (c:=c) (c':={ c with auth:=false }) (p:=.sc (.bool false)) (j:=7) (by omega) hg rfl
   have hg':(cs.set k { c with auth:=false })[k]?=some { c with auth:=false }:=by rw [List.getElem?_set_self (by omega)]
   have es':=HL (k:=k) (c:={ c with auth:=false }) (c':={ c with auth:=false,path:=0 }) (p:=.sc (.int .i64 0)) (j:=8) (by omega) hg' rfl
   rw [List.set_set] at es';have L':(B5 (cs.set k { c with auth:=false })).length=cs.length*13:=by rw [Mm,List.length_set]
   obtain ⟨cs',ans',vs',j',q1,q2,q3,q4,q5⟩:=T { c with auth:=false,path:=0 } ⟨⟨hcu.wf.ser,hcu.wf.mod⟩,hcu.s1,hcu.s2,hcu.s3,hcu.s4⟩;refine ⟨cs',ans',vs',j',q1,q2,q3,q4,?_⟩;rw [List.length_set] at q5;rw [←q5,Bo]
   try unfold Aa
   repeat first
    |((with_reducible first|apply Aq|apply Ak|apply Ar|apply Ao|apply Aw|apply Bg|apply Bu|apply Aj);· first|with_reducible rfl|(simp (disch:=omega) only [nlt,n0,n1,ntk,ck,L,es,L',es',Br,Int.reduceBEq]<;>with_reducible rfl))
    |((with_reducible first|apply At|apply As);· first|with_reducible rfl|omega|(simp (disch:=omega) only [gT,nlt,n0,n1,ntk,ck,L,es,L',es',Br,Int.reduceBEq]<;>omega))
    |(with_reducible apply Ap;· first|with_reducible rfl|(simp (disch:=omega) only [gF,nlt,n0,n1,ntk,ck,L,es,L',es',Br,Int.reduceBEq]<;>omega))
   try simp (disch:=omega) only [nlt,n0,n1,ntk,ck,L,es,L',es',Br,Int.reduceBEq]
   all_goals rfl
  ·have es:=HL (cs:=cs) (k:=k) (c:=c) (c':={ c with path:=0 }) (p:=.sc (.int .i64 0)) (j:=8) (by omega) hg rfl
   obtain ⟨cs',ans',vs',j',q1,q2,q3,q4,q5⟩:=T { c with path:=0 } ⟨⟨hcu.wf.ser,hcu.wf.mod⟩,hcu.s1,hcu.s2,hcu.s3,hcu.s4⟩;refine ⟨cs',ans',vs',j',q1,q2,q3,q4,?_⟩;rw [List.length_set] at q5;rw [←q5,Bo]
   try unfold Aa
   repeat first
    |((with_reducible first|apply Aq|apply Ak|apply Ar|apply Ao|apply Aw|apply Bg|apply Bu|apply Aj);· first|with_reducible rfl|(simp (disch:=omega) only [nlt,n0,n1,ntk,ck,L,es,Br,Int.reduceBEq]<;>with_reducible rfl))
    |((with_reducible first|apply At|apply As);· first|with_reducible rfl|omega|(simp (disch:=omega) only [gT,nlt,n0,n1,ntk,ck,L,es,Br,Int.reduceBEq]<;>omega))
    |(with_reducible apply Ap;· first|with_reducible rfl|(simp (disch:=omega) only [gF,nlt,n0,n1,ntk,ck,L,es,Br,Int.reduceBEq]<;>omega))
   try simp (disch:=omega) only [nlt,n0,n1,ntk,ck,L,es,Br,Int.reduceBEq]
   all_goals rfl
  ·have es:=HL (cs:=cs) (k:=k) (c:=c) (c':={ c with iss:=otS }) (p:=.sc (.string otS)) (j:=1) (by omega) hg rfl
   obtain ⟨cs',ans',vs',j',q1,q2,q3,q4,q5⟩:=T { c with iss:=otS } ⟨⟨hcu.wf.ser,hcu.wf.mod⟩,hcu.s1,(by show otS.size<=5;decide),hcu.s3,hcu.s4⟩
   refine ⟨cs',ans',vs',j',q1,q2,q3,q4,?_⟩;rw [List.length_set] at q5;rw [←q5,Bo]
   try unfold Aa
   repeat first
    |((with_reducible first|apply Aq|apply Ak|apply Ar|apply Ao|apply Aw|apply Bg|apply Bu|apply Aj);· first|with_reducible rfl|(simp (disch:=omega) only [nlt,n0,n1,ntk,ck,L,es,Br,Int.reduceBEq]<;>with_reducible rfl))
    |((with_reducible first|apply At|apply As);· first|with_reducible rfl|omega|(simp (disch:=omega) only [gT,nlt,n0,n1,ntk,ck,L,es,Br,Int.reduceBEq]<;>omega))
    |(with_reducible apply Ap;· first|with_reducible rfl|(simp (disch:=omega) only [gF,nlt,n0,n1,ntk,ck,L,es,Br,Int.reduceBEq]<;>omega))
   try simp (disch:=omega) only [nlt,n0,n1,ntk,ck,L,es,Br,Int.reduceBEq]
   all_goals rfl
  ·have es:=HL (cs:=cs) (k:=k) (c:=c) (c':={ c with subj:=otS }) (p:=.sc (.string otS)) (j:=0) (by omega) hg rfl
   obtain ⟨cs',ans',vs',j',q1,q2,q3,q4,q5⟩:=T { c with subj:=otS } ⟨⟨hcu.wf.ser,hcu.wf.mod⟩,(by show otS.size<=5;decide),hcu.s2,hcu.s3,hcu.s4⟩
   refine ⟨cs',ans',vs',j',q1,q2,q3,q4,?_⟩;rw [List.length_set] at q5;rw [←q5,Bo]
   try unfold Aa
   repeat first
    |((with_reducible first|apply Aq|apply Ak|apply Ar|apply Ao|apply Aw|apply Bg|apply Bu|apply Aj);· first|with_reducible rfl|(simp (disch:=omega) only [nlt,n0,n1,ntk,ck,L,es,Br,Int.reduceBEq]<;>with_reducible rfl))
    |((with_reducible first|apply At|apply As);· first|with_reducible rfl|omega|(simp (disch:=omega) only [gT,nlt,n0,n1,ntk,ck,L,es,Br,Int.reduceBEq]<;>omega))
    |(with_reducible apply Ap;· first|with_reducible rfl|(simp (disch:=omega) only [gF,nlt,n0,n1,ntk,ck,L,es,Br,Int.reduceBEq]<;>omega))
   try simp (disch:=omega) only [nlt,n0,n1,ntk,ck,L,es,Br,Int.reduceBEq]
   all_goals rfl
  ·have es:=HL (cs:=cs) (k:=k) (c:=c) (c':={ c with un:=c.fr }) (p:=.sc (.int .i64 c.fr)) (j:=6) (by omega) hg rfl
   have c5:=(cer hg).2.2.2.2.2.1;have c5':(B5 cs).getD (k*13+5) .top=.sc (.int .i64 c.fr):=c5;obtain ⟨cs',ans',vs',j',q1,q2,q3,q4,q5⟩:=T { c with un:=c.fr } ⟨⟨hcu.wf.ser,hcu.wf.mod⟩,hcu.s1,hcu.s2,hcu.s3,hcu.s4⟩;refine ⟨cs',ans',vs',j',q1,q2,q3,q4,?_⟩;rw [List.length_set] at q5;rw [←q5,Bo]
   try unfold Aa
   repeat first
    |((with_reducible first|apply Aq|apply Ak|apply Ar|apply Ao|apply Aw|apply Bg|apply Bu|apply Aj);· first|with_reducible rfl|(simp (disch:=omega) only [nlt,n0,n1,ntk,ck,L,c5',es,Br,Int.reduceBEq]<;>with_reducible rfl))
    |((with_reducible first|apply At|apply As);· first|with_reducible rfl|omega|(simp (disch:=omega) only [gT,nlt,n0,n1,ntk,ck,L,c5',es,Br,Int.reduceBEq]<;>omega))
    |(with_reducible apply Ap;· first|with_reducible rfl|(simp (disch:=omega) only [gF,nlt,n0,n1,ntk,ck,L,c5',es,Br,Int.reduceBEq]<;>omega))
   try simp (disch:=omega) only [nlt,n0,n1,ntk,ck,L,c5',es,Br,Int.reduceBEq]
   all_goals rfl
  ·have f0:(v1==0)=false:=beq_eq_false_iff_ne.2 u0;have f1:(v1==1)=false:=beq_eq_false_iff_ne.2 u1;have f2:(v1==2)=false:=beq_eq_false_iff_ne.2 u2;have f3:(v1==3)=false:=beq_eq_false_iff_ne.2 u3;have f4:(v1==4)=false:=beq_eq_false_iff_ne.2 u4;obtain ⟨cs',ans',vs',j',q1,q2,q3,q4,q5⟩:=Amy (d:=d) (a0_0n:=a0_0n) (a0_0:=a0_0) (a0_1:=a0_1) hl h1 h3 (k:=k) (by omega) (j:=j1) hcl hc
   refine ⟨cs',ans',vs',j',q1,q2,q3,q4,?_⟩;rw [←q5,Bo]
   try unfold Aa
   repeat first
    |((with_reducible first|apply Aq|apply Ak|apply Ar|apply Ao|apply Aw|apply Bg|apply Bu|apply Aj);· first|with_reducible rfl|(simp (disch:=omega) only [nlt,n0,n1,ntk,ck,L,f0,f1,f2,f3,f4,Br]<;>with_reducible rfl))
    |((with_reducible first|apply At|apply As);· first|with_reducible rfl|omega|(simp (disch:=omega) only [gT,nlt,n0,n1,ntk,ck,L,f0,f1,f2,f3,f4,Br]<;>omega))
    |(with_reducible apply Ap;· first|with_reducible rfl|(simp (disch:=omega) only [gF,nlt,n0,n1,ntk,ck,L,f0,f1,f2,f3,f4,Br]<;>omega))
   try simp (disch:=omega) only [nlt,n0,n1,ntk,ck,L,f0,f1,f2,f3,f4,Br]
   all_goals rfl
 |m+1,i,nn+1,j,cs,hi,hn,hcl,hc=>by
  obtain ⟨v0,j0,v00,v01,n0⟩:=Hz hl j 3 (by omega) (by omega)
  obtain ⟨v1,j1,v10,v11,n1⟩:=Hz hl j0 5 (by omega) (by omega)
  obtain ⟨v2,j2,v20,v21,n2⟩:=Hz hl j1 2 (by omega) (by omega)
  have n0:=n0 (fu:=2000) (d:=d+12);have n1:=n1 (fu:=2000) (d:=d+12);have n2:=n2 (fu:=2000) (d:=d+12);have ky:=LL (fu:=2000) (d:=d+1) (by omega) (wrap .u64 (wrap .i64 (80+(i:Int)))) 1
  generalize G0 (wrap .u64 (wrap .i64 (80+(i:Int)))) 1=K at *
  simp only [Ky.cells] at ky;simp only [dkc] at n0 n1 n2;obtain ⟨s1,z1,g1⟩:=TJ (n:=i) (S:=[lfS,mdS,tpS]) (m:=5) (by simp;omega) (by decide)
  simp only [Zzw,List.map_nil] at g1;have nt:Int.toNat (i:Int)=i:=Gy _;have nt1:Int.toNat ((i+1:Nat):Int)=i+1:=Gy _;have w:wrap .i64 ((i:Int)+1)=((i+1:Nat):Int):=by rw [Al (by omega) (by omega)];omega
  have wn:wrap .i64 ((n:Int)-1)=(n:Int)-1:=Al (by omega) (by omega)
  have ci:(decide ((0:Int)<=i)&&decide ((i:Int)<((3:Nat):Int)))=true:=by simp;omega
  have L:=Mm cs;have tk:List.take (cs.length*13) (B5 cs)=B5 cs:=To (by omega)
  have lt:decide ((i:Int)<(n:Int))=true:=by simp;omega
  have e0:Af .u64 []=[]:=rfl
  have go:∀(iss:ByteArray) (auth:Bool) (path:Int) (jj:Nat),iss.size<=5 ->
    Fin l (Ct 2000 (Ae C0 Tryz.prog 2000 (d+14)) a0_0n a0_0 a0_1 nn 3 (n:Int) (cs.length+1) ((i+1:Nat):Int) l.length (Af .i64 l) (jj:Int) [.sc (.string lfS),.sc (.string mdS),.sc (.string tpS)]
     (B5 cs++[.sc (.string s1),.sc (.string iss),.sc (.int .u64 (wrap .u64 (i:Int))),.sc (.int .i64 K.h),.sc (.int .u64 K.root),.sc (.int .i64 v0),.sc (.int .i64 (wrap .i64 (10+v1))),.sc (.bool auth),.sc (.int .i64 path),.sc (.int .u64 3),.sc (.int .i64 0),.lst false 1 0 [],.lst false 1 0 []])):=by
   intro iss auth path jj hs
   have:=Anm hl h1 h3 m (i+1) nn jj (cs++[⟨s1,iss,wrap .u64 (i:Int),K,v0,wrap .i64 (10+v1),auth,path,3,⟨0,[],[]⟩⟩]) (by omega) (by omega) (by rw [Kt,List.length_singleton];omega) (fun x hx=>by
    rcases List.mem_append.1 hx with hx|hx
    ·exact hc x hx
    ·rw [List.mem_singleton.1 hx];exact ⟨⟨(Gz _).1,(by show (0:Int)<=3;omega)⟩,z1,hs,(by show ([]:List Int).length<=18;simp),(by show ([]:List Int).length<=4;simp)⟩)
   rw [Kt,List.length_singleton,QR,QS] at this;exact this
  by_cases hlast:(i:Int)<(n:Int)-1
  ·obtain ⟨s2,z2,g2⟩:=TJ (n:=i+1) (S:=[lfS,mdS,tpS]) (m:=5) (by simp;omega) (by decide)
   simp only [Zzw,List.map_nil] at g2;have c1:(decide ((0:Int)<=((i+1:Nat):Int))&&decide (((i+1:Nat):Int)<((3:Nat):Int)))=true:=by simp;omega
   have hb:decide ((i:Int)<(n:Int)-1)=true:=decide_eq_true hlast;by_cases h0:(i:Int)>0
   ·have h0':decide ((i:Int)>0)=true:=decide_eq_true h0;obtain ⟨pth,hp⟩:∃p,(if (2:Int)<wrap .i64 (wrap .i64 ((i:Int)-1)+v2) then (2:Int) else wrap .i64 (wrap .i64 ((i:Int)-1)+v2))=p:=⟨_,rfl⟩
    obtain ⟨cs',ans',vs',j',q1,q2,q3,q4,q5⟩:=go s2 true pth j2 z2;refine ⟨cs',ans',vs',j',q1,q2,q3,q4,?_⟩;rw [←q5,Bo]
    try unfold Aa
    repeat first
     |((with_reducible first|apply Aq|apply Ak|apply Ar|apply Ao|apply Aw|apply Bg|apply Bu|apply Aj);· first|with_reducible rfl|(simp (disch:=omega) only [lt,ci,g1,ky,n0,n1,h0',n2,hp,wn,hb,w,c1,nt,nt1,g2,L,tk,Br,B8]<;>with_reducible rfl))
     |((with_reducible first|apply At|apply As);· first|with_reducible rfl|omega|(simp (disch:=omega) only [gT,lt,ci,g1,ky,n0,n1,h0',n2,hp,wn,hb,w,c1,nt,nt1,g2,L,tk,Br,B8]<;>omega))
     |(with_reducible apply Ap;· first|with_reducible rfl|(simp (disch:=omega) only [gF,lt,ci,g1,ky,n0,n1,h0',n2,hp,wn,hb,w,c1,nt,nt1,g2,L,tk,Br,B8]<;>omega))
    try simp (disch:=omega) only [lt,ci,g1,ky,n0,n1,h0',n2,hp,wn,hb,w,c1,nt,nt1,g2,L,tk,Br,B8]
    all_goals rfl
   ·have h0':decide ((i:Int)>0)=false:=decide_eq_false h0;obtain ⟨cs',ans',vs',j',q1,q2,q3,q4,q5⟩:=go s2 false 0 j1 z2;refine ⟨cs',ans',vs',j',q1,q2,q3,q4,?_⟩;rw [←q5,Bo]
    try unfold Aa
    repeat first
     |((with_reducible first|apply Aq|apply Ak|apply Ar|apply Ao|apply Aw|apply Bg|apply Bu|apply Aj);· first|with_reducible rfl|(simp (disch:=omega) only [lt,ci,g1,ky,n0,n1,h0',wn,hb,w,c1,nt,nt1,g2,L,tk,Br,B8]<;>with_reducible rfl))
     |((with_reducible first|apply At|apply As);· first|with_reducible rfl|omega|(simp (disch:=omega) only [gT,lt,ci,g1,ky,n0,n1,h0',wn,hb,w,c1,nt,nt1,g2,L,tk,Br,B8]<;>omega))
     |(with_reducible apply Ap;· first|with_reducible rfl|(simp (disch:=omega) only [gF,lt,ci,g1,ky,n0,n1,h0',wn,hb,w,c1,nt,nt1,g2,L,tk,Br,B8]<;>omega))
    try simp (disch:=omega) only [lt,ci,g1,ky,n0,n1,h0',wn,hb,w,c1,nt,nt1,g2,L,tk,Br,B8]
    all_goals rfl
  ·have hb:decide ((i:Int)<(n:Int)-1)=false:=decide_eq_false hlast;by_cases h0:(i:Int)>0
   ·have h0':decide ((i:Int)>0)=true:=decide_eq_true h0;obtain ⟨pth,hp⟩:∃p,(if (2:Int)<wrap .i64 (wrap .i64 ((i:Int)-1)+v2) then (2:Int) else wrap .i64 (wrap .i64 ((i:Int)-1)+v2))=p:=⟨_,rfl⟩
    obtain ⟨cs',ans',vs',j',q1,q2,q3,q4,q5⟩:=go UY true pth j2 (by decide)
    refine ⟨cs',ans',vs',j',q1,q2,q3,q4,?_⟩;rw [←q5,Bo]
    try unfold Aa
    repeat first
     |((with_reducible first|apply Aq|apply Ak|apply Ar|apply Ao|apply Aw|apply Bg|apply Bu|apply Aj);· first|with_reducible rfl|(simp (disch:=omega) only [lt,ci,g1,ky,n0,n1,h0',n2,hp,wn,hb,w,nt,L,tk,Br,B8]<;>with_reducible rfl))
     |((with_reducible first|apply At|apply As);· first|with_reducible rfl|omega|(simp (disch:=omega) only [gT,lt,ci,g1,ky,n0,n1,h0',n2,hp,wn,hb,w,nt,L,tk,Br,B8]<;>omega))
     |(with_reducible apply Ap;· first|with_reducible rfl|(simp (disch:=omega) only [gF,lt,ci,g1,ky,n0,n1,h0',n2,hp,wn,hb,w,nt,L,tk,Br,B8]<;>omega))
    try simp (disch:=omega) only [lt,ci,g1,ky,n0,n1,h0',n2,hp,wn,hb,w,nt,L,tk,Br,B8]
    all_goals rfl
   ·have h0':decide ((i:Int)>0)=false:=decide_eq_false h0;obtain ⟨cs',ans',vs',j',q1,q2,q3,q4,q5⟩:=go UY false 0 j1 (by decide)
    refine ⟨cs',ans',vs',j',q1,q2,q3,q4,?_⟩;rw [←q5,Bo]
    try unfold Aa
    repeat first
     |((with_reducible first|apply Aq|apply Ak|apply Ar|apply Ao|apply Aw|apply Bg|apply Bu|apply Aj);· first|with_reducible rfl|(simp (disch:=omega) only [lt,ci,g1,ky,n0,n1,h0',wn,hb,w,nt,L,tk,Br,B8]<;>with_reducible rfl))
     |((with_reducible first|apply At|apply As);· first|with_reducible rfl|omega|(simp (disch:=omega) only [gT,lt,ci,g1,ky,n0,n1,h0',wn,hb,w,nt,L,tk,Br,B8]<;>omega))
     |(with_reducible apply Ap;· first|with_reducible rfl|(simp (disch:=omega) only [gF,lt,ci,g1,ky,n0,n1,h0',wn,hb,w,nt,L,tk,Br,B8]<;>omega))
    try simp (disch:=omega) only [lt,ci,g1,ky,n0,n1,h0',wn,hb,w,nt,L,tk,Br,B8]
    all_goals rfl
theorem Aip (hl:l.length<=maxLen)(j:Nat):Fin l (Ae C0 Tryz.prog 2000 (d+15) M9 [.pbox (dkc l j)]):=by
 obtain ⟨v0,j0,v00,v01,n0⟩:=Hz hl j 3 (by omega) (by omega)
 have n0:=n0 (fu:=2000) (d:=d+12);obtain ⟨m,rfl⟩:∃m:Nat,v0=m:=⟨v0.toNat,by omega⟩
 have w:wrap .i64 (1+(m:Int))=((1+m:Nat):Int):=by rw [Al (by omega) (by omega)];omega
 obtain ⟨cs',ans',vs',j',q1,q2,q3,q4,q5⟩:=Anm (d:=d) (a0_0n:=l.length) (a0_0:=Af .i64 l) (a0_1:=(j:Int)) hl (n:=1+m) (by omega) (by omega) (1+m) 0 2000 j0 [] (by omega) (by omega) rfl (by intro c h;cases h)
 refine ⟨cs',ans',vs',j',q1,q2,q3,q4,?_⟩;have E:=Wu 2000 (d+14) l.length (Af .i64 l) (j:Int);refine E.trans ?_;have z:B5 []=[]:=rfl;have z0:((0:Nat):Int)=0:=rfl;rw [z,z0,AV] at q5;simp only [dkc] at n0;rw [←q5]
 try unfold Aa
 repeat first
  |((with_reducible first|apply Aq|apply Ak|apply Ar|apply Ao|apply Aw|apply Bg|apply Bu|apply Aj);· first|with_reducible rfl|(simp (disch:=omega) only [n0,w]<;>with_reducible rfl))
  |((with_reducible first|apply At|apply As);· first|with_reducible rfl|omega|(simp (disch:=omega) only [gT,n0,w]<;>omega))
  |(with_reducible apply Ap;· first|with_reducible rfl|(simp (disch:=omega) only [gF,n0,w]<;>omega))
 try simp (disch:=omega) only [n0,w]
 all_goals rfl
end
end
section
open Go.IntKind (wrap)
theorem Mi {d:Nat}{ps:List PV}(h:WT Tryz.prog d 24 ps):∃(v0:Int)(v1:Int),ps=[(.sc (.int .i64 v0)),(.sc (.int .u64 v1))]∧(Lit.int .i64 v0).wf=true∧(Lit.int .u64 v1).wf=true:=by
 obtain ⟨rs,rfl,h1⟩:=QJ (ts:=[3,22]) (by kernel_rfl) h
 obtain ⟨r0,_,rfl,g0,h1⟩:=h1.cons_inv;obtain ⟨r1,_,rfl,g1,h1⟩:=h1.cons_inv;obtain rfl:=h1.nil_inv;obtain ⟨v0,rfl,w0_0⟩:=Kr (k:=.i64) (by kernel_rfl) g0
 obtain ⟨v1,rfl,w1_0⟩:=Kr (k:=.u64) (by kernel_rfl) g1
 exact ⟨v0,v1,rfl,w0_0,w1_0⟩
theorem OE {d:Nat}{ps:List PV}(h:WT Tryz.prog d 63 ps):∃(v0:ByteArray)(v1v0:Int)(v1v1:Int),ps=[(.sc (.string v0)),(.sc (.int .i64 v1v0)),(.sc (.int .u64 v1v1))]∧v0.size<=maxLen∧(Lit.int .i64 v1v0).wf=true∧(Lit.int .u64 v1v1).wf=true:=by
 obtain ⟨rs,rfl,h1⟩:=QJ (ts:=[9,24]) (by kernel_rfl) h
 obtain ⟨r0,_,rfl,g0,h1⟩:=h1.cons_inv;obtain ⟨r1,_,rfl,g1,h1⟩:=h1.cons_inv;obtain rfl:=h1.nil_inv;obtain ⟨v0,rfl,w0_0⟩:=SM (by kernel_rfl) g0
 obtain ⟨v1v0,v1v1,rfl,w1_0,w1_1⟩:=Mi g1;exact ⟨v0,v1v0,v1v1,rfl,w0_0,w1_0,w1_1⟩
theorem CN {d:Nat}{ps:List PV}(h:WT Tryz.prog d 65 ps):∃(v0:ByteArray)(v1:Int)(v2:Int),ps=[(.sc (.string v0)),(.sc (.int .u64 v1)),(.sc (.int .i64 v2))]∧v0.size<=maxLen∧(Lit.int .u64 v1).wf=true∧(Lit.int .i64 v2).wf=true:=by
 obtain ⟨rs,rfl,h1⟩:=QJ (ts:=[9,22,3]) (by kernel_rfl) h
 obtain ⟨r0,_,rfl,g0,h1⟩:=h1.cons_inv;obtain ⟨r1,_,rfl,g1,h1⟩:=h1.cons_inv;obtain ⟨r2,_,rfl,g2,h1⟩:=h1.cons_inv;obtain rfl:=h1.nil_inv;obtain ⟨v0,rfl,w0_0⟩:=SM (by kernel_rfl) g0
 obtain ⟨v1,rfl,w1_0⟩:=Kr (k:=.u64) (by kernel_rfl) g1
 obtain ⟨v2,rfl,w2_0⟩:=Kr (k:=.i64) (by kernel_rfl) g2
 exact ⟨v0,v1,v2,rfl,w0_0,w1_0,w2_0⟩
end
section
open Go.IntKind (wrap)
set_option maxRecDepth 100000
abbrev Gl:FuncId:=6
noncomputable def Dc (fu:Nat)(call:Ah)(a0n:Nat)(a0:List PV)(a1:Int)(a2n:Nat)(a2:List PV)(a3n:Nat)(a3:List PV)(a4n:Nat)(a4:List PV)(nn y0:Nat)(y1:List PV)(y2:Int)(y3:Nat)(y4:List PV)(y5:Nat)(y6:List PV)(y7:Nat)(y8:List PV)(y9:Int):Option A0:=Co CB Tryz.prog fu call 6 Tryz.f6 (Bm Tryz.f6) [.lst false 1 a0n a0,.sc (.int .i64 a1),.lst false 13 a2n a2,.lst false 3 a3n a3,.lst false 3 a4n a4] [.r,.r,.l,.r,.l] nn ⟨lk [(0,(.lst false 1 y0 y1)),(1,(.sc (.int .i64 y2))),(2,(.lst false 13 y3 y4)),(3,(.lst false 3 y5 y6)),(4,(.lst false 3 y7 y8)),(11,(.sc (.int .i64 y9)))],B7 []⟩
noncomputable def Dd (fu:Nat)(call:Ah)(a0n:Nat)(a0:List PV)(a1:Int)(a2n:Nat)(a2:List PV)(a3n:Nat)(a3:List PV)(a4n:Nat)(a4:List PV)(nn y0:Nat)(y1:List PV)(y2:Nat)(y3:List PV)(y4:Nat)(y5:List PV)(y6:Nat)(y7:List PV)(y8:Nat)(y9:List PV)(y10:Nat)(Gh:List PV)(H2:Nat)(Jb Ks:Int)(Lj:List PV):Option A0:=Co CB Tryz.prog fu call 6 Tryz.f6 (Bm Tryz.f6) [.lst false 1 a0n a0,.sc (.int .i64 a1),.lst false 13 a2n a2,.lst false 3 a3n a3,.lst false 3 a4n a4] [.r,.r,.r,.r,.r,.l,.r,.l] nn ⟨lk [(2,(.lst false 13 y0 y1)),(3,(.lst false 3 y2 y3)),(4,(.lst false 3 y4 y5)),(13,(.lst false 13 y6 y7)),(14,(.lst false 3 y8 y9)),(15,(.lst false 3 y10 Gh)),(64,(.view 64 1 0 H2)),(65,(.sc (.int .i64 Jb))),(66,(.sc (.int .i64 Ks)))],B7 [(64,(.ar false Lj))]⟩
theorem F0 (fu:Nat)(call:Ah)(a0n:Nat)(a0:List PV)(a1:Int)(a2n:Nat)(a2:List PV)(a3n:Nat)(a3:List PV)(a4n:Nat)(a4:List PV)(nn y0:Nat)(y1:List PV)(y2:Int)(y3:Nat)(y4:List PV)(y5:Nat)(y6:List PV)(y7:Nat)(y8:List PV)(y9:Int):Dc fu call a0n a0 a1 a2n a2 a3n a3 a4n a4 (nn+1) y0 y1 y2 y3 y4 y5 y6 y7 y8 y9=(A9 (decide (y9<(↑y3:Int))) (Au (decide (0<=y9)&&decide (y9<(↑y3:Int)))<|Cj (List.getD y4 (Int.toNat y9*13) .top) fun Ea=>Cj (List.getD y4 (Int.toNat y9*13+1) .top) fun En=>Ad .u64 (List.getD y4 (Int.toNat y9*13+1+1) .top) fun E2=>Ad .i64 (List.getD y4 (Int.toNat y9*13+1+1+1) .top) fun Fg=>Ad .u64 (List.getD y4 (Int.toNat y9*13+1+1+1+1) .top) fun Fp=>Ad .i64 (List.getD y4 (Int.toNat y9*13+1+1+1+1+1) .top) fun Hp=>Ad .i64 (List.getD y4 (Int.toNat y9*13+1+1+1+1+1+1) .top) fun Hb=>Bj (List.getD y4 (Int.toNat y9*13+1+1+1+1+1+1+1) .top) fun Hq=>Ad .i64 (List.getD y4 (Int.toNat y9*13+1+1+1+1+1+1+1+1) .top) fun Dz=>Ad .u64 (List.getD y4 (Int.toNat y9*13+1+1+1+1+1+1+1+1+1) .top) fun Dq=>Ad .i64 (List.getD y4 (Int.toNat y9*13+1+1+1+1+1+1+1+1+1+1) .top) fun F5=>Fk 1 (List.getD y4 (Int.toNat y9*13+1+1+1+1+1+1+1+1+1+1+1) .top) fun H3 E1 Jk=>Fk 1 (List.getD y4 (Int.toNat y9*13+1+1+1+1+1+1+1+1+1+1+1+1) .top) fun L8 Jt Mr=>Ag (call 9 [.agg [.sc (.string Ea),.sc (.string En),.sc (.int .u64 E2),.sc (.int .i64 Fg),.sc (.int .u64 Fp),.sc (.int .i64 Hp),.sc (.int .i64 Hb),.sc (.bool Hq),.sc (.int .i64 Dz),.sc (.int .u64 Dq),.sc (.int .i64 F5),.lst false 1 E1 Jk,.lst false 1 Jt Mr]]) fun Mb Np=>Ac Np<|Ab Mb fun Qp Pt=>Bj Qp fun R5=>Ac Pt<|A9 (!R5) (Ag (call 10 []) fun Hh J8=>Ac J8<|Ab Hh fun Va Y9=>Bj Va fun Qq=>Ac Y9<|some (A0.mk [.sc (.bool Qq)] [])) (Aa (wrap .i64 (y9+1)) fun Nw=>Dc fu call a0n a0 a1 a2n a2 a3n a3 a4n a4 (nn) (y0) (y1) (y2) (y3) (y4) (y5) (y6) (y7) (y8) Nw)) (Ag (call 11 [.lst false 1 y0 y1]) fun Uh Sd=>Ac Sd<|Ab Uh fun Tp Xd=>Yt Tp fun Yb=>Ab Yb fun Sn Vz=>Fk 1 Sn fun Yj Xv Pc=>Ab Vz fun X8 DW=>Ad .i64 X8 fun BE=>Ac DW<|Ac Xd<|Ag (call 26 [.pbox [.lst false 1 Xv Pc,.sc (.int .i64 BE)]]) fun Za U0=>Ab Za fun X4 BC=>Fk 13 X4 fun Y2 Ze BB=>Ab BC fun Y8 Zd=>Fk 3 Y8 fun Xc Xm BO=>Ab Zd fun Zj Yv=>Fk 3 Zj fun Y1 AG EH=>Ac Yv<|Ab U0 fun Z3 Yu=>Ab Z3 fun HC BA=>Fk 1 HC fun EN IP IX=>Ab BA fun TZ NQ=>Ad .i64 TZ fun RW=>Ac NQ<|Ac Yu<|Ag (call 16 [.sc (.int .i64 y2),.sc (.int .i64 16)]) fun NS WY=>Ac WY<|Ab NS fun XT VB=>Ad .i64 XT fun SV=>Ac VB<|Dd fu call a0n a0 a1 a2n a2 a3n a3 a4n a4 (fu) (y3) (y4) (y5) (y6) (y7) (y8) Ze BB Xm BO AG EH 2 2 0 ([.sc (.int .i64 y2),.sc (.int .i64 SV)]))):=by kernel_rfl
theorem Fz (fu:Nat)(call:Ah)(a0n:Nat)(a0:List PV)(a1:Int)(a2n:Nat)(a2:List PV)(a3n:Nat)(a3:List PV)(a4n:Nat)(a4:List PV)(nn y0:Nat)(y1:List PV)(y2:Nat)(y3:List PV)(y4:Nat)(y5:List PV)(y6:Nat)(y7:List PV)(y8:Nat)(y9:List PV)(y10:Nat)(Gh:List PV)(H2:Nat)(Jb Ks:Int)(Lj:List PV):Dd fu call a0n a0 a1 a2n a2 a3n a3 a4n a4 (nn+1) y0 y1 y2 y3 y4 y5 y6 y7 y8 y9 y10 Gh H2 Jb Ks Lj=(A9 (decide (Ks<Jb)) (Au (decide (0<=Ks)&&decide (Ks<(↑H2:Int)))<|Ad .i64 (List.getD Lj (0+Int.toNat Ks*1) .top) fun EG=>Ag (call 27 [.lst false 13 y6 y7,.lst false 3 y8 y9,.lst false 3 y10 Gh,.sc (.int .i64 EG)]) fun RS UE=>Ac UE<|Ab RS fun YG ZE=>Ad .i64 YG fun x94=>Ab ZE fun x95 ZZ=>Ad .i64 x95 fun UZ=>Ac ZZ<|Ag (call 28 [.lst false 13 y6 y7,.lst false 3 y8 y9,.lst false 3 y10 Gh,.sc (.int .i64 EG)]) fun ZK ZN=>Ac ZN<|Ab ZK fun Ya We=>Ad .i64 Ya fun H4=>Ab We fun D8 AR=>Ad .i64 D8 fun Tg=>Ac AR<|Ag (call 27 [.lst false 13 y0 y1,.lst false 3 y2 y3,.lst false 3 y4 y5,.sc (.int .i64 EG)]) fun Sk Kz=>Ac Kz<|Ab Sk fun AP Z9=>Ad .i64 AP fun Zz=>Ab Z9 fun AA Iy=>Ad .i64 AA fun Kl=>Ac Iy<|Ag (call 28 [.lst false 13 y0 y1,.lst false 3 y2 y3,.lst false 3 y4 y5,.sc (.int .i64 EG)]) fun Zs AQ=>Ac AQ<|Ab Zs fun AF FQ=>Ad .i64 AF fun Ul=>Ab FQ fun Wy Ye=>Ad .i64 Wy fun X9=>Ac Ye<|A9 (x94 != H4) (some (A0.mk [.sc (.bool false)] [])) (A9 (UZ != Tg) (some (A0.mk [.sc (.bool false)] [])) (A9 (Zz != Ul) (some (A0.mk [.sc (.bool false)] [])) (A9 (Kl != X9) (some (A0.mk [.sc (.bool false)] [])) (Aa (wrap .i64 (Ks+1)) fun Zk=>Dd fu call a0n a0 a1 a2n a2 a3n a3 a4n a4 (nn) (y0) (y1) (y2) (y3) (y4) (y5) (y6) (y7) (y8) (y9) (y10) (Gh) (H2) (Jb) Zk (Lj)))))) (Ag (call 10 []) fun DU Tl=>Ac Tl<|Ab DU fun Rx Qy=>Bj Rx fun Tz=>Ac Qy<|some (A0.mk [.sc (.bool Tz)] []))):=by kernel_rfl
theorem Le (fu d a0n:Nat)(a0:List PV)(a1:Int)(a2n:Nat)(a2:List PV)(a3n:Nat)(a3:List PV)(a4n:Nat)(a4:List PV):Ae C0 Tryz.prog fu (d+1) Gl [.lst false 1 a0n a0,.sc (.int .i64 a1),.lst false 13 a2n a2,.lst false 3 a3n a3,.lst false 3 a4n a4]=(fun (call:Ah)=>A9 (decide ((↑a2n:Int)>5)) (Ag (call 10 []) fun x1 x2=>Ac x2<|Ab x1 fun x3 x4=>Bj x3 fun x5=>Ac x4<|some (A0.mk [.sc (.bool x5)] [])) (A9 (decide ((↑a3n:Int)>5)) (Ag (call 10 []) fun x6 x7=>Ac x7<|Ab x6 fun x8 x9=>Bj x8 fun Cl=>Ac x9<|some (A0.mk [.sc (.bool Cl)] [])) (A9 (decide ((↑a4n:Int)>10)) (Ag (call 10 []) fun Cw Dl=>Ac Dl<|Ab Cw fun Dr Dk=>Bj Dr fun D9=>Ac Dk<|some (A0.mk [.sc (.bool D9)] [])) (Dc fu call a0n a0 a1 a2n a2 a3n a3 a4n a4 (fu) (a0n) (a0) (a1) (a2n) (a2) (a3n) (a3) (a4n) (a4) 0)))) (Ae C0 Tryz.prog fu d):=by kernel_rfl
end
section
open Go.IntKind (wrap)
set_option maxRecDepth 1000000
theorem Ajf {p:PV}(h:WTv Tryz.prog 54 p):∃l:List Ce,p=.lst false 13 l.length (B5 l)∧∀c∈l,c.ok:=by
 obtain ⟨rows,rfl,hl,hr⟩:=Abk (e:=29) (by kernel_rfl) (by kernel_rfl) h
 obtain ⟨xs,h1,h2,h3⟩:=M5 Ce.cells Ce.ok (rows:=rows) fun r hr'=>by
  obtain ⟨v0,v1,v2,v3,v4,v5,v6,v7,v8,v9,v10,v11,v12,rfl,e0,e1,e2,e3,e4,e5,e6,e7,e8,e9,e10,e11,e12,e13⟩:=Zl (hr r hr').2;refine ⟨⟨v0,v1,v2,⟨v3,v4⟩,v5,v6,v7,v8,v9,⟨v10,v11,v12⟩⟩,rfl,?_⟩;refine ⟨?_,?_,?_,⟨fun x hx=>?_,fun x hx=>?_⟩⟩
  all_goals first|exact LN (by assumption)|exact LN (e11 x hx)|exact LN (e10 x hx)|exact LN (e13 x hx)|exact LN (e12 x hx)
 refine ⟨xs,?_,h3⟩;rw [h1,h2];rfl
theorem Akj {p:PV}(h:WTv Tryz.prog 55 p):∃l:List An,p=.lst false 3 l.length (Fb l):=by
 obtain ⟨rows,rfl,hl,hr⟩:=Abk (e:=63) (by kernel_rfl) (by kernel_rfl) h
 obtain ⟨xs,h1,h2,_⟩:=M5 An.cells (fun _=>True) (rows:=rows) fun r hr'=>by
  obtain ⟨v0,v1,v2,rfl,_⟩:=OE (hr r hr').2;exact ⟨⟨v0,⟨v1,v2⟩⟩,rfl,trivial⟩
 refine ⟨xs,?_⟩;rw [h1,h2];rfl
theorem Air {p:PV}(h:WTv Tryz.prog 56 p):∃l:List Rv,p=.lst false 3 l.length (Em l):=by
 obtain ⟨rows,rfl,hl,hr⟩:=Abk (e:=65) (by kernel_rfl) (by kernel_rfl) h
 obtain ⟨xs,h1,h2,_⟩:=M5 Rv.cells (fun _=>True) (rows:=rows) fun r hr'=>by
  obtain ⟨v0,v1,v2,rfl,_⟩:=CN (hr r hr').2;exact ⟨⟨v0,v1,v2⟩,rfl,trivial⟩
 refine ⟨xs,?_⟩;rw [h1,h2];rfl
section
variable {a0n:Nat} {a0:List PV} {a1:Int} {a2n:Nat} {a2:List PV} {a3n:Nat} {a3:List PV} {a4n:Nat} {a4:List PV}
theorem Ago {cs cs':List Ce}(hc:∀c∈cs,c.in_)(hc':∀c∈cs',c.in_){ans ans':List An}(hal:ans.length<=900)(hal':ans'.length<=900){vs vs':List Rv}(hv:vs.length<=900)(hv':vs'.length<=900){ts:List Int}(h2:ts.length=2):∀(r:List Int)(i nn:Nat),ts.drop i=r->r.length<nn->i<=ts.length ->
  Dd 2000 (Ae C0 Tryz.prog 2000 18) a0n a0 a1 a2n a2 a3n a3 a4n a4 nn cs.length (B5 cs) ans.length (Fb ans) vs.length (Em vs) cs'.length (B5 cs') ans'.length (Fb ans') vs'.length (Em vs') 2 2 (i:Int) (Af .i64 ts)=some ⟨[.sc (.bool true)],[]⟩
 |_,_,0,_,h,_=>by omega
 |[],i,nn+1,hd,hn,hi=>by
  have:=drop_nil hd;have aw:=JR (d:=3);rw [Fz]
  try unfold Aa
  repeat first
   |((with_reducible first|apply Aq|apply Ak|apply Ar|apply Ao|apply Aw|apply Bg|apply O3|apply Aj);· first|with_reducible rfl|(simp (disch:=omega) only [aw]<;>with_reducible rfl))
   |((with_reducible first|apply At|apply As);· first|with_reducible rfl|omega|(simp (disch:=omega) only [gT,aw]<;>omega))
   |(with_reducible apply Ap;· first|with_reducible rfl|(simp (disch:=omega) only [gF,aw]<;>omega))
  try simp (disch:=omega) only [aw]
  all_goals rfl
 |t::r,i,nn+1,hd,hn,hi=>by
  obtain ⟨h1,h2',h3⟩:=B3 hd;simp only [Ja] at hn;have g:=Vf (k:=.i64) h2';have nt:Int.toNat (i:Int)=i:=Gy _;have w:wrap .i64 ((i:Int)+1)=((i+1:Nat):Int):=by rw [Al (by omega) (by omega)];omega
  have ci:(decide ((0:Int)<=i)&&decide ((i:Int)<((2:Nat):Int)))=true:=by simp;omega
  have p:=DG (fu:=2000) (d:=8) (by omega) hc hal hv t
  have q:=ZD (fu:=2000) (d:=7) (by omega) hc hal hv t
  have p':=DG (fu:=2000) (d:=8) (by omega) hc' hal' hv' t
  have q':=ZD (fu:=2000) (d:=7) (by omega) hc' hal' hv' t
  have b:∀x:Int,(x != x)=false:=fun x=>bne_self_eq_false x
  have ih:=Ago hc hc' hal hal' hv hv' h2 r (i+1) nn h3 (by omega) (by omega)
  rw [Fz,←ih]
  try unfold Aa
  repeat first
   |((with_reducible first|apply Aq|apply Ak|apply Ar|apply Ao|apply Aw|apply Bg|apply O3|apply Aj);· first|with_reducible rfl|(simp (disch:=omega) only [ci,nt,Br,B8,g,p,q,p',q',b,w]<;>with_reducible rfl))
   |((with_reducible first|apply At|apply As);· first|with_reducible rfl|omega|(simp (disch:=omega) only [gT,ci,nt,Br,B8,g,p,q,p',q',b,w]<;>omega))
   |(with_reducible apply Ap;· first|with_reducible rfl|(simp (disch:=omega) only [gF,ci,nt,Br,B8,g,p,q,p',q',b,w]<;>omega))
  try simp (disch:=omega) only [ci,nt,Br,B8,g,p,q,p',q',b,w]
  all_goals rfl
theorem Ag0 {l:List Int}(hl:l.length<=maxLen){now:Int}{cs:List Ce}(hc:∀c∈cs,c.ok)(hcl:cs.length<=5){ans:List An}(hal:ans.length<=5){vs:List Rv}(hv:vs.length<=10):∀(r:List Ce)(i nn:Nat),cs.drop i=r->r.length<nn->i<=cs.length->(∀k c,k<i->cs[k]?=some c->c.subj.size<100∧c.iss.size<100) ->
  Dc 2000 (Ae C0 Tryz.prog 2000 18) a0n a0 a1 a2n a2 a3n a3 a4n a4 nn l.length (Af .i64 l) now cs.length (B5 cs) ans.length (Fb ans) vs.length (Em vs) (i:Int)=some ⟨[.sc (.bool true)],[]⟩
 |_,_,0,_,h,_,_=>by omega
 |[],i,nn+1,hd,hn,hi,hs=>by
  have:=drop_nil hd;have nq:=Aou (fu:=2000) (d:=17) (l:=l);obtain ⟨cs',ans',vs',j,hc',hcl',hal',hvl',ce⟩:=Aip (d:=3) hl 0;obtain ⟨t,t0,t1,mo⟩:=Aj3 now 16 (by omega) (by omega)
  have mo:=mo (fu:=2000) (d:=17);have z0:((0:Nat):Int)=0:=rfl;simp only [dkc] at nq ce;rw [z0] at nq ce
  have hin:∀c∈cs,c.in_:=fun c h=>by
   obtain ⟨k,hk⟩:=List.getElem?_of_mem h;obtain ⟨s1,s2⟩:=hs k c (by have:=SO hk;omega) hk
   exact ⟨(hc c h).wf,by omega,by omega⟩
  have lp:=Ago (a0n:=a0n) (a0:=a0) (a1:=a1) (a2n:=a2n) (a2:=a2) (a3n:=a3n) (a3:=a3) (a4n:=a4n) (a4:=a4) hin (fun c h=>(hc' c h).in_) (ans:=ans) (ans':=ans') (by omega) (by omega) (vs:=vs) (vs':=vs') (by omega) (by omega) (ts:=[now,t]) rfl [now,t] 0 2000 rfl (by simp) (by simp)
  have e2:Af .i64 [now,t]=[.sc (.int .i64 now),.sc (.int .i64 t)]:=rfl;rw [e2,z0] at lp;rw [F0,←lp]
  try unfold Aa
  repeat first
   |((with_reducible first|apply Aq|apply Ak|apply Ar|apply Ao|apply Aw|apply Bg|apply O3|apply Aj);· first|with_reducible rfl|(simp (disch:=omega) only [nq,ce,mo]<;>with_reducible rfl))
   |((with_reducible first|apply At|apply As);· first|with_reducible rfl|omega|(simp (disch:=omega) only [gT,nq,ce,mo]<;>omega))
   |(with_reducible apply Ap;· first|with_reducible rfl|(simp (disch:=omega) only [gF,nq,ce,mo]<;>omega))
  try simp (disch:=omega) only [nq,ce,mo]
  all_goals rfl
 |c::r,i,nn+1,hd,hn,hi,hs=>by
  obtain ⟨h1,h2,h3⟩:=B3 hd;simp only [Ja] at hn;obtain ⟨d0,d1,d2,d3,d4,d5,d6,d7,d8,d9,d10,d11,d12⟩:=cer h2;have nt:Int.toNat (i:Int)=i:=Gy _;have w:wrap .i64 ((i:Int)+1)=((i+1:Nat):Int):=by rw [Al (by omega) (by omega)];omega
  have sm:=Ajb (fu:=2000) (d:=17) (c:=c);simp only [Ce.cells] at sm;rw [F0];cases hsm:(decide ((c.subj.size:Int)<100)&&decide ((c.iss.size:Int)<100)&&decide ((c.sig.chains.length:Int)<40)&&decide ((c.sig.path.length:Int)<10))
  ·rw [hsm] at sm;have aw:=JR (d:=3)
   try unfold Aa
   repeat first
    |((with_reducible first|apply Aq|apply Ak|apply Ar|apply Ao|apply Aw|apply Bg|apply O3|apply Aj);· first|with_reducible rfl|(simp (disch:=omega) only [nt,d0,d1,d2,d3,d4,d5,d6,d7,d8,d9,d10,d11,d12,sm,aw,Cn]<;>with_reducible rfl))
    |((with_reducible first|apply At|apply As);· first|with_reducible rfl|omega|(simp (disch:=omega) only [gT,nt,d0,d1,d2,d3,d4,d5,d6,d7,d8,d9,d10,d11,d12,sm,aw,Cn]<;>omega))
    |(with_reducible apply Ap;· first|with_reducible rfl|(simp (disch:=omega) only [gF,nt,d0,d1,d2,d3,d4,d5,d6,d7,d8,d9,d10,d11,d12,sm,aw,Cn]<;>omega))
   try simp (disch:=omega) only [nt,d0,d1,d2,d3,d4,d5,d6,d7,d8,d9,d10,d11,d12,sm,aw,Cn]
   all_goals rfl
  ·rw [hsm] at sm;simp only [Bool.and_eq_true,decide_eq_true_eq] at hsm
   have ih:=Ag0 hl (now:=now) hc hcl hal hv r (i+1) nn h3 (by omega) (by omega) (fun k x hk hx=>by
    by_cases e:k=i
    ·subst e;rw [h2] at hx;cases hx;exact ⟨by omega,by omega⟩
    ·exact hs k x (by omega) hx)
   rw [←ih]
   try unfold Aa
   repeat first
    |((with_reducible first|apply Aq|apply Ak|apply Ar|apply Ao|apply Aw|apply Bg|apply O3|apply Aj);· first|with_reducible rfl|(simp (disch:=omega) only [nt,d0,d1,d2,d3,d4,d5,d6,d7,d8,d9,d10,d11,d12,sm,w,Ck]<;>with_reducible rfl))
    |((with_reducible first|apply At|apply As);· first|with_reducible rfl|omega|(simp (disch:=omega) only [gT,nt,d0,d1,d2,d3,d4,d5,d6,d7,d8,d9,d10,d11,d12,sm,w,Ck]<;>omega))
    |(with_reducible apply Ap;· first|with_reducible rfl|(simp (disch:=omega) only [gF,nt,d0,d1,d2,d3,d4,d5,d6,d7,d8,d9,d10,d11,d12,sm,w,Ck]<;>omega))
   try simp (disch:=omega) only [nt,d0,d1,d2,d3,d4,d5,d6,d7,d8,d9,d10,d11,d12,sm,w,Ck]
   all_goals rfl
end
theorem certificatePaths_plain (qs:List PV)(h:Bk (WTv Tryz.prog) [30,3,54,55,56] qs):∃fu d,Ae C0 Tryz.prog fu d Gl qs=some ⟨[.sc (.bool true)],[]⟩:=by
 obtain ⟨q0,_,rfl,h0,g⟩:=h.cons_inv;obtain ⟨q1,_,rfl,h1,g⟩:=g.cons_inv;obtain ⟨q2,_,rfl,h2,g⟩:=g.cons_inv;obtain ⟨q3,_,rfl,h3,g⟩:=g.cons_inv;obtain ⟨q4,_,rfl,h4,g⟩:=g.cons_inv;obtain rfl:=g.nil_inv;clear h g;obtain ⟨l,rfl,hl,_⟩:=Ajo (k:=.i64) (e:=3) (by kernel_rfl) (by kernel_rfl) (by kernel_rfl) (by kernel_rfl) h0
 obtain ⟨nw,rfl,_⟩:=Akt (k:=.i64) (by kernel_rfl) (by kernel_rfl) h1
 obtain ⟨cs,rfl,hc⟩:=Ajf h2;obtain ⟨ans,rfl⟩:=Akj h3;obtain ⟨vs,rfl⟩:=Air h4;clear h0 h1 h2 h3 h4;refine ⟨2000,19,?_⟩;refine (Le 2000 18 l.length (Af .i64 l) nw cs.length (B5 cs) ans.length (Fb ans) vs.length (Em vs)).trans ?_;have aw:=JR (d:=3);by_cases b1:(cs.length:Int)>5
 ·skip
  try unfold Aa
  repeat first
   |((with_reducible first|apply Aq|apply Ak|apply Ar|apply Ao|apply Aw|apply Bg|apply O3|apply Aj);· first|with_reducible rfl|(simp (disch:=omega) only [aw]<;>with_reducible rfl))
   |((with_reducible first|apply At|apply As);· first|with_reducible rfl|omega|(simp (disch:=omega) only [gT,aw]<;>omega))
   |(with_reducible apply Ap;· first|with_reducible rfl|(simp (disch:=omega) only [gF,aw]<;>omega))
  try simp (disch:=omega) only [aw]
  all_goals rfl
 by_cases b2:(ans.length:Int)>5
 ·skip
  try unfold Aa
  repeat first
   |((with_reducible first|apply Aq|apply Ak|apply Ar|apply Ao|apply Aw|apply Bg|apply O3|apply Aj);· first|with_reducible rfl|(simp (disch:=omega) only [aw]<;>with_reducible rfl))
   |((with_reducible first|apply At|apply As);· first|with_reducible rfl|omega|(simp (disch:=omega) only [gT,aw]<;>omega))
   |(with_reducible apply Ap;· first|with_reducible rfl|(simp (disch:=omega) only [gF,aw]<;>omega))
  try simp (disch:=omega) only [aw]
  all_goals rfl
 by_cases b3:(vs.length:Int)>10
 ·skip
  try unfold Aa
  repeat first
   |((with_reducible first|apply Aq|apply Ak|apply Ar|apply Ao|apply Aw|apply Bg|apply O3|apply Aj);· first|with_reducible rfl|(simp (disch:=omega) only [aw]<;>with_reducible rfl))
   |((with_reducible first|apply At|apply As);· first|with_reducible rfl|omega|(simp (disch:=omega) only [gT,aw]<;>omega))
   |(with_reducible apply Ap;· first|with_reducible rfl|(simp (disch:=omega) only [gF,aw]<;>omega))
  try simp (disch:=omega) only [aw]
  all_goals rfl
 have lp:=Ag0 (a0n:=l.length) (a0:=Af .i64 l) (a1:=nw) (a2n:=cs.length) (a2:=B5 cs) (a3n:=ans.length) (a3:=Fb ans) (a4n:=vs.length) (a4:=Em vs) hl (now:=nw) hc (by omega) (ans:=ans) (by omega) (vs:=vs) (by omega) cs 0 2000 rfl (by omega) (by omega) (fun k c hk=>by omega)
 rw [←lp]
 try unfold Aa
 repeat first
  |((with_reducible first|apply Aq|apply Ak|apply Ar|apply Ao|apply Aw|apply Bg|apply O3|apply Aj);· first|with_reducible rfl|(simp (disch:=omega) only [aw]<;>with_reducible rfl))
  |((with_reducible first|apply At|apply As);· first|with_reducible rfl|omega|(simp (disch:=omega) only [gT,aw]<;>omega))
  |(with_reducible apply Ap;· first|with_reducible rfl|(simp (disch:=omega) only [gF,aw]<;>omega))
 try simp (disch:=omega) only [aw]
 all_goals rfl
end
section
open Go.IntKind (wrap)
open Go Go.RowKit
structure KV (Z Z':Nat->Prop) (w w':World):Prop where
 os:w'.os=w.os
 tape:w'.tape=w.tape
 output:w'.output=w.output
 size:w.heap.size<=w'.heap.size
 keep:∀b,b<w.heap.size->¬Z b->w'.heap[b]?=w.heap[b]?
 sub:∀b,Z b->Z' b
 new:∀b,Z' b->Z b∨w.heap.size<=b
 lt:∀b,Z' b->b<w'.heap.size
 bs:∀b,b<w.heap.size->bsz w b<=bsz w' b
structure Yp (Z:Nat->Prop) (w w':World):Prop where
 os:w'.os=w.os
 tape:w'.tape=w.tape
 output:w'.output=w.output
 size:w.heap.size<=w'.heap.size
 same:∀b,Z b->w'.heap[b]?=w.heap[b]?
theorem Yp.sub {Z Z':Nat->Prop}{w w':World}(h:Yp Z w w')(hs:∀b,Z' b->Z b):Yp Z' w w':=⟨h.os,h.tape,h.output,h.size,fun b hb=>h.same b (hs b hb)⟩
def Anf {α:Type}(P:Program)(gf:Nat)(lb:Array Value)(M:List α->α->Array Value->(Nat->Prop)->World->Prop) (S Sp:List α->Prop)(Pre:(Nat->Prop)->World->Prop):Prop:=
 ∀(l:Nat) (J Jx:(Nat->Prop)->List α->World->Prop) (W:World) (Z0:Nat->Prop),(∀b,Z0 b->b<W.heap.size)->Pre Z0 W ->
  (∀Z pre A B,J Z pre A->Yp Z A B->J Z pre B)->(∀Z pre A B,Jx Z pre A->Yp Z A B->Jx Z pre B) ->
  (∀Z pre x args A,J Z pre A->M pre x args Z A->YieldAt Fence.wide 0 P l args A fun e B=>∃Z',KV Z Z' A B ∧
   ((e=.returned (.bool true)∧J Z' (pre++[x]) B)∨(e=.returned (.bool false)∧Jx Z' (pre++[x]) B))) ->
  J Z0 [] W ->
  Calls P gf (#[.func (.yield l) #[] #[]]++lb) W fun e B=>(∃v,e=.returned v)∧∃Z xs,(S xs∧J Z xs B)∨(Sp xs∧Jx Z xs B)
theorem WG {P:Program}{n m l:Nat}{f:FuncId}{tmps:Array Value}{assign body:Code}{w:World}{R:Ending->World->Prop}(h:RoundIn Fence.wide n P l f tmps assign body w R):RoundIn Fence.wide m P l f tmps assign body w R:=
 ⟨h.1,fun c cs _=>h.2 c cs (room_wide _)⟩
def Ab7 {α:Type}(D:Nat)(I:(Nat->Prop)->List α->World->Prop) (Ix:Code->(Nat->Prop)->List α->World->Prop) (Z:Nat->Prop)(xs:List α)(A:World):Exit->Act->World->Prop:=fun e _ B=>
 ∃Z',KV Z Z' A B∧B.heap[D]?=A.heap[D]?∧B.heap[D+1]?=A.heap[D+1]? ∧
  match e with
  |.normal=>I Z' xs B
  |.ret=>Ix .ret Z' xs B
  |.exit id=>Ix (.exit id) Z' xs B
  |.goto t=>Ix (.goto t) Z' xs B
  |_=>False
theorem Ae5 {α:Type}{P:Program}{n:Nat}{g:Operand}{ps:Array Tmp}{assign body:Code}{Q:Exit->Act->World->Prop}{a:Act}{w:World}{gf:Nat}{lb:Array Value}
  (hg:a.eval g=.func (.func gf) #[] lb) (eg:∀args w,(callFunc gf args).run P w=.ok (.enter gf args) w)
  {M:List α->α->Array Value->(Nat->Prop)->World->Prop} {S Sp:List α->Prop} {Pre:(Nat->Prop)->World->Prop} (hit:Anf P gf lb M S Sp Pre) {Z0:Nat->Prop} (hZ0:∀b,Z0 b->b<w.heap.size)
  (hPre:∀W:World,W.heap.size=w.heap.size+2->(∀b,b<w.heap.size->W.heap[b]?=w.heap[b]?)->Pre (fun b=>Z0 b∨b=w.heap.size∨b=w.heap.size+1) W)
  (hM:∀pre x args Z A B,M pre x args Z A->A.heap.size<=B.heap.size->(∀b,b<A.heap.size->¬Z b->B.heap[b]?=A.heap[b]?)->M pre x args Z B)
  (hps:∀pre x args Z A,M pre x args Z A->args.size=ps.size)
  (I:(Nat->Prop)->List α->World->Prop) (Ix:Code->(Nat->Prop)->List α->World->Prop)
  (hI:∀Z pre A B,I Z pre A->Yp (fun b=>Z b∧b≠w.heap.size∧b≠w.heap.size+1) A B->I Z pre B)
  (hIx:∀c Z pre A B,Ix c Z pre A->Yp (fun b=>Z b∧b≠w.heap.size∧b≠w.heap.size+1) A B->Ix c Z pre B)
  (h0:∀W,W.heap.size=w.heap.size+2->Yp (fun b=>b<w.heap.size) w W->I (fun b=>Z0 b∨b=w.heap.size∨b=w.heap.size+1) [] W)
  (a₁:Array Value->Act)
  (hassign:∀pre x args Z A (K:Act->World->Prop),M pre x args Z A->K (a₁ args) A->assign.wpIn (Fence.wide.inRound (w.heap.size+1)) 0 P (Exit.then K (fun _ _ _=>False)) { tmps:=(ps.zip args).foldl (fun t (p,v)=>t.setIfInBounds p v) a.tmps,defers:=[] } A)
  (hbody:∀Z pre x args A,Z w.heap.size->Z (w.heap.size+1)->I Z pre A->M pre x args Z A->body.wpIn (Fence.wide.inRound (w.heap.size+1)) 0 P (Ab7 w.heap.size I Ix Z (pre++[x]) A) (a₁ args) A)
  (hdone:∀Z xs B,S xs->I Z xs B->B.heap[w.heap.size]?=some (.deferred (some []))->Q .normal { a with defers:={ target:=.collected w.heap.size,args:= #[] }::a.defers } B)
  (hstop:∀c Z xs B,Sp xs->Ix c Z xs B->B.heap[w.heap.size]?=some (.deferred (some []))->c.wpIn Fence.wide n P Q { a with defers:={ target:=.collected w.heap.size,args:= #[] }::a.defers } B):
  (Code.rangeFunc g ps assign body).wpIn Fence.wide n P Q a w:=by
 refine wpIn_rangeFunc ?_;intro fn hfn;obtain ⟨rec,hrec⟩:∃rec:LoopState->Option Code->Loop,rec=fun st pe=>{ state:=st,pending:=pe,fn,tmps:=a.tmps,params:=ps,assign,body,defers:=w.heap.size }:=⟨_,rfl⟩
 obtain ⟨D,hD⟩:∃D,w.heap.size=D:=⟨_,rfl⟩;rw [hD] at hI hIx h0 hassign hbody hdone hstop hZ0 hPre;obtain ⟨W1,hW1⟩:∃W1,(w.alloc (.deferred (some []))).alloc (.loop (rec .ready none))=W1:=⟨_,rfl⟩;have hs1:W1.heap.size=D+2:=by rw [←hW1,World.size_alloc,World.size_alloc,hD]
 have hL1:W1.heap[D+1]?=some (.loop (rec .ready none)):=by
  rw [←hW1,←hD];have:=World.alloc_heap_new (w.alloc (.deferred (some []))) (.loop (rec .ready none));rwa [World.size_alloc] at this
 have hK1:W1.heap[D]?=some (.deferred (some [])):=by
  rw [←hW1,←hD];exact (Below.heap_alloc _ _ _ (by simp)).trans (World.alloc_heap_new w _)
 have hst:Yp (fun b=>b<D) w W1:=by
  rw [←hW1,←hD];exact ⟨rfl,rfl,rfl,by simp;omega,fun b hb=>(Below.heap_alloc _ _ _ (by simp;omega)).trans (Below.heap_alloc _ _ _ hb)⟩
 refine ⟨D+1,[{ target:=.collected D,args:= #[] }],W1,{ target:=.fn (.func gf) lb,args:= #[.func (.yield (D+1)) #[] #[]] },W1,gf,
  #[.func (.yield (D+1)) #[] #[]]++lb,W1,?_,?_,fun _ _=>trivial,?_,(fun h=>by cases h),?_⟩
 ·rw [←hW1,hrec,←hD];exact run_enterLoop_outer _ _ _ _ _
 ·simp only [resolve,hg];simp [go_sem]
 ·simp [invoke,go_sem,eg]
 ·have put:∀{Z:Nat->Prop} {A:World} (o:Obj),Yp (fun b=>Z b∧b≠D∧b≠D+1) A (A.putObj (D+1) o):=fun o=>
   ⟨rfl,rfl,rfl,by simp,fun b hb=>World.putObj_heap_other hb.2.2⟩
  refine callsIn_wide.2 (Calls.mono (hit (D+1)
   (fun Z pre A=>(Z D∧Z (D+1))∧I Z pre A∧A.heap[D+1]?=some (.loop (rec .ready none))∧A.heap[D]?=some (.deferred (some [])))
   (fun Z pre A=>(Z D∧Z (D+1))∧∃c,Ix c Z pre A∧A.heap[D+1]?=some (.loop (rec .done (some c)))∧A.heap[D]?=some (.deferred (some [])))
   W1 (fun b=>Z0 b∨b=D∨b=D+1) (fun b hb=>by rw [hs1];exact hb.elim (fun h=>by have:=hZ0 b h;omega) fun h=>by omega) (hPre W1 hs1 (fun b hb=>hst.same b hb)) ?_ ?_ ?_ ?_) ?_)
  ·rintro Z pre A B ⟨hz,hi,hl,hk⟩ hs
   exact ⟨hz,hI Z pre A B hi (hs.sub fun _ h=>h.1),(hs.same _ hz.2).trans hl,(hs.same _ hz.1).trans hk⟩
  ·rintro Z pre A B ⟨hz,c,hi,hl,hk⟩ hs
   exact ⟨hz,c,hIx c Z pre A B hi (hs.sub fun _ h=>h.1),(hs.same _ hz.2).trans hl,(hs.same _ hz.1).trans hk⟩
  ·rintro Z pre x args A ⟨hz,hi,hl,hk⟩ hm
   have hlt:D+1<A.heap.size:=(Array.getElem?_eq_some_iff.1 hl).1;have hy:=run_yield (P:=P) (args:=args) hl (by rw [hrec];exact hps pre x args Z A hm)
   rw [hrec] at hy;refine ⟨fn,_,assign,body,hy,roundIn_of_wpIn hfn (hassign pre x args Z A _ hm ?_)⟩;refine ⟨_,run_beginRound hl (by rw [hrec]),?_⟩
   obtain ⟨A2,hA2⟩:∃A2,A.putObj (D+1) (.loop { rec .ready none with state:=.busy })=A2:=⟨_,rfl⟩;rw [hA2];have hl2:A2.heap[D+1]?=some (.loop { rec .ready none with state:=.busy }):=by rw [←hA2];exact World.putObj_heap_same hlt
   have hk2:A2.heap[D]?=some (.deferred (some [])):=by rw [←hA2];exact (World.putObj_heap_other (by omega)).trans hk
   have hz2:A2.heap.size=A.heap.size:=by rw [←hA2];simp
   have hi2:I Z pre A2:=by rw [←hA2];exact hI Z pre A _ hi (put _)
   have hm2:M pre x args Z A2:=by
    rw [←hA2];exact hM pre x args Z A _ hm (by simp) fun b _ hb=>World.putObj_heap_other fun e=>hb (e ▸ hz.2)
   refine wpIn_mono (hbody Z pre x args A2 hz.1 hz.2 hi2 hm2) ?_
   have fin:∀(jump:Option Code) (W3:World) (Z':Nat->Prop),KV Z Z' A2 W3->W3.heap[D]?=A2.heap[D]?->W3.heap[D+1]?=A2.heap[D+1]? ->
     (Instr.endRound (D+1) jump).run P W3=.ok (.bool jump.isNone) (W3.putObj (D+1) (.loop (rec (if jump.isNone then .ready else .done) jump))) ∧
     (W3.putObj (D+1) (.loop (rec (if jump.isNone then .ready else .done) jump))).heap[D+1]?=some (.loop (rec (if jump.isNone then .ready else .done) jump)) ∧
     (W3.putObj (D+1) (.loop (rec (if jump.isNone then .ready else .done) jump))).heap[D]?=some (.deferred (some [])) ∧
     KV Z Z' A (W3.putObj (D+1) (.loop (rec (if jump.isNone then .ready else .done) jump))):=fun jump W3 Z' ht e1 e2=>by
    have hl3:=e2.trans hl2;have:=run_endRound (P:=P) jump hl3;rw [hrec] at this ⊢;refine ⟨this,World.putObj_heap_same (Array.getElem?_eq_some_iff.1 hl3).1,(World.putObj_heap_other (by omega)).trans (e1.trans hk2),?_⟩
    have hA:A2.os=A.os∧A2.tape=A.tape∧A2.output=A.output:=by rw [←hA2];exact ⟨rfl,rfl,rfl⟩
    refine ⟨ht.os.trans hA.1,ht.tape.trans hA.2.1,ht.output.trans hA.2.2,by have:=ht.size;simp;omega,fun b hb hn=>?_,ht.sub,fun b hb=>by have:=ht.new b hb;rw [hz2] at this;exact this,fun b hb=>by simpa using ht.lt b hb,fun b hb=>?_⟩
    ·have hne:b≠D+1:=fun e=>hn (e ▸ hz.2)
     rw [World.putObj_heap_other hne,ht.keep b (by omega) hn,←hA2,World.putObj_heap_other hne]
    ·by_cases hne:b=D+1
     ·subst hne;unfold bsz;rw [hl];exact Nat.zero_le _
     ·have h5:=ht.bs b (by omega)
      have h6:bsz A2 b=bsz A b:=by unfold bsz;rw [←hA2,World.putObj_heap_other hne]
      have h7:∀o,bsz (W3.putObj (D+1) o) b=bsz W3 b:=fun o=>by unfold bsz;rw [World.putObj_heap_other hne]
      rw [h7,←h6];exact h5
   rintro e a3 W3 ⟨Z',ht,e1,e2,hp⟩
   cases e with
   |normal=>
    obtain ⟨hr,hl4,hk4,ht4⟩:=fin none W3 Z' ht e1 e2;exact ⟨_,_,hr,Z',ht4,.inl ⟨rfl,⟨ht.sub _ hz.1,ht.sub _ hz.2⟩,hI Z' _ _ _ hp (put _),hl4,hk4⟩⟩
   |ret=>
    obtain ⟨hr,hl4,hk4,ht4⟩:=fin (some .ret) W3 Z' ht e1 e2;exact ⟨_,_,hr,Z',ht4,.inr ⟨rfl,⟨ht.sub _ hz.1,ht.sub _ hz.2⟩,.ret,hIx _ Z' _ _ _ hp (put _),hl4,hk4⟩⟩
   |exit id=>
    obtain ⟨hr,hl4,hk4,ht4⟩:=fin (some (.exit id)) W3 Z' ht e1 e2;exact ⟨_,_,hr,Z',ht4,.inr ⟨rfl,⟨ht.sub _ hz.1,ht.sub _ hz.2⟩,.exit id,hIx _ Z' _ _ _ hp (put _),hl4,hk4⟩⟩
   |goto t=>
    obtain ⟨hr,hl4,hk4,ht4⟩:=fin (some (.goto t)) W3 Z' ht e1 e2;exact ⟨_,_,hr,Z',ht4,.inr ⟨rfl,⟨ht.sub _ hz.1,ht.sub _ hz.2⟩,.goto t,hIx _ Z' _ _ _ hp (put _),hl4,hk4⟩⟩
   |panic ch=>exact hp.elim
   |outgrown=>exact hp.elim
  ·exact ⟨⟨.inr (.inl rfl),.inr (.inr rfl)⟩,h0 W1 hs1 hst,hL1,hK1⟩
  ·rintro e W2 ⟨⟨v,rfl⟩,Z,xs,(⟨hS,hz,hi,hl,hk⟩|⟨hSp,hz,c,hi,hl,hk⟩)⟩
   ·exact ⟨none,_,by have:=run_endLoop (P:=P) hl (by rw [hrec];simp);rw [hrec] at this;exact this,hdone Z xs _ hS (hI Z _ _ _ hi (put _)) ((World.putObj_heap_other (by omega)).trans hk)⟩
   ·exact ⟨some c,_,by have:=run_endLoop (P:=P) hl (by rw [hrec];simp);rw [hrec] at this;exact this,hstop c Z xs _ hSp (hIx c Z _ _ _ hi (put _)) ((World.putObj_heap_other (by omega)).trans hk)⟩
def Amj (s:St)(β:Bt):Fj:={ X:=CA s.hp β,L:=fun b _=>CA s.hp β b,pn:=fun _=>False,pt:=fun _=>none,p8:=fun _ h=>h.elim }
theorem B4.rebase {N:Nat}{w0 w w':World}{X0:Fj}{Y Z':Nat->Prop}{β:Bt}{s:St}{a:Act}(h:B4 N w0 X0 Y β s a w)(ht:KV Y Z' w w')(hns:∀id c,s.hp id≠some (.st c)):B4 N w' (Amj s β) Z' β s a w':=by
 have hW:Cb (C1 s.hp β Y) w w':=⟨ht.size,fun b hb hn=>ht.keep b hb fun y=>hn (.inr y),ht.bs⟩
 have hA:∀b,b<w.heap.size->C1 s.hp β Z' b->C1 s.hp β Y b:=by
  rintro b hb (hx|hz)
  ·exact .inl hx
  ·rcases ht.new b hz with h1|h1
   ·exact .inr h1
   ·omega
 have hsame:∀b,b<w.heap.size->¬Y b->w'.heap[b]?=w.heap[b]?:=ht.keep
 refine ⟨h.dfr,h.tsz,h.tmo,fun i hi=>(h.tms i hi).step hW hA fun _ _=>rfl,fun id bx hbx=>?_,h.inj,fun id b o h1 h2=>Nat.lt_of_lt_of_le (h.blt id b o h1 h2) ht.size,h.wfT,h.wfB,fun b hb=>.inl hb,
  fun id bx b o h1 h2 h3 _ j _=>⟨id,o,by rw [h1];exact h2,h3⟩,fun i hi=>hi.elim,fun id c b o h1=>absurd h1 (hns id c),fun b hz=>?_,ht.lt,⟨rfl,rfl,rfl,⟨Nat.le_refl _,fun _ _ _=>rfl,fun _ _=>Nat.le_refl _⟩,fun _ _ _ _=>⟨rfl,rfl⟩⟩⟩
 ·cases bx with
  |st c=>exact absurd hbx (hns id c)
  |mv=>trivial
  |ar fz cells=>
   rcases h.box id _ hbx with h1|⟨b,o,h1,h2,h3,h4⟩
   ·exact .inl h1
   ·have hlt:b<w.heap.size:=h.blt id b o (by rw [hbx];simp) h1
    have hnY:¬Y b:=by
     cases fz with
     |false=>exact fun y=>h.Yx b y ⟨id,o,by rw [hbx];trivial,h1⟩
     |true=>exact fun y=>h4 rfl (.inr y)
    have hh:=hsame b hlt hnY;have hb':bsz w' b=bsz w b:=by unfold bsz;rw [hh]
    refine .inr ⟨b,o,h1,fun j c hj=>?_,fun hf j hj hjb=>?_,fun hf=>fun hA'=>h4 hf (hA b hlt hA')⟩
    ·obtain ⟨v,hv,hv1,hv2⟩:=h2 j c hj;exact ⟨v,(World.cell?_of_block (a:=(⟨b,o,none⟩:Addr).add j) (by rw [F9];exact hh)).trans hv,hv1,hv2.step hW hA⟩
    ·rw [hb'] at hjb;have:=h3 hf j hj hjb;rw [←this];unfold World.frozen?;simp only [hh]
 ·rintro ⟨id,o,h1,h2⟩
  have hlt:b<w.heap.size:=h.blt id b o (C2 h1) h2;rcases ht.new b hz with h3|h3
  ·exact h.Yx b h3 ⟨id,o,h1,h2⟩
  ·omega
theorem B4.stay {N:Nat}{w0 w:World}{X0:Fj}{Y:Nat->Prop}{β:Bt}{s:St}{a:Act}(h:B4 N w0 X0 Y β s a w)(hd:∀b,Y b->¬X0.X b):Yp Y w0 w:=
 ⟨h.fr.os,h.fr.tape,h.fr.output,h.fr.step.size,fun b hb=>h.fr.step.keep b (h.Ylt b hb) (hd b hb)⟩
end
section
open Go.IntKind (wrap)
open Go Go.RowKit
abbrev WF (ro:Option Nat):Fence:={ fn:=fun _=>True,depth:=none,alive:=false,round:=ro }
def SP (o:Oper):Bool:=
 match o.op with
 |.defer _=>false
 |_=>true
def okR:Code->Bool
 |.region _ ops _=>ops.toList.all SP
 |.seq a b=>okR a&&okR b
 |.cond _ a b=>okR a&&okR b
 |.block _ c=>okR c
 |.loop c=>okR c
 |.skip=>true
 |.exit _=>true
 |.ret=>true
 |_=>false
theorem BW {P:Program}{o:Oper}{a:Act}{w:World}{next:Act->World->Prop}{Q:Exit->Act->World->Prop}{ro:Option Nat}{n:Nat}(hd:SP o=true)(h:o.wp P a w next Q):o.wpIn (WF ro) n P a w next Q:=by
 refine ⟨fun _ _=>trivial,?_⟩
 have e:o.semAt (WF ro).round a.eval=execOp a.eval o:=Oper.semAt_eq _ _ _ (by intro c hc;unfold SP at hd;rw [hc] at hd;cases hd)
 rw [e];unfold Oper.wp at h
 revert h
 generalize (execOp a.eval o).run P w=q;intro h;cases q with
 |halt x w'=>cases x<;>first|exact h|exact h.elim
 |ok v w'=>
  cases v with
  |value v=>exact h
  |skip=>exact h
  |defer d=>exact h
  |enter f args=>exact ⟨(fun h=>by cases h),(callsIn_wide.2 h:CallsIn Fence.wide (n-1) P f args w' _)⟩
  |row row args=>exact ⟨(fun h=>by cases h),fun c cs _=>let ⟨v,w',r,s⟩:=h c cs;⟨v,w',r,stepsIn_wide.2 s⟩⟩
  |_=>exact h.elim
theorem TK {P:Program}{ops:Array Oper}{Q:Exit->Act->World->Prop}{K K':Act->World->Prop}{ro:Option Nat}{i n:Nat}{a:Act}{w:World}(hQo:¬LetsOut Q)(hnd:ops.toList.all SP=true)(hK:∀a w,K a w->K' a w)(h:wpOp P ops Q i K a w):wpOpIn (WF ro) n P ops Q i K' a w:=by
 unfold wpOp at h;unfold wpOpIn;cases ho:ops[i]? with
 |none=>rw [ho] at h;exact hK _ _ h
 |some o=>
  rw [ho] at h;simp only at h ⊢;have hn:SP o=true:=List.all_eq_true.1 hnd o (Array.mem_toList_iff.2 (Array.mem_of_getElem? ho));by_cases hw:Region.wanted o (yielded ops a.tmps)=true
  ·rw [Bv hw] at h ⊢;rcases h with h|h
   ·exact BW hn (Oper.wp_mono hK h)
   ·exact absurd h.2 hQo
  ·rw [A5 hw] at h ⊢;exact ⟨fun _ _=>trivial,hK _ _ h⟩
theorem Rz {P:Program}{ops:Array Oper}{Q:Exit->Act->World->Prop}{ro:Option Nat}{n:Nat}{md:Region.Mode}(hQo:¬LetsOut Q)(hnd:ops.toList.all SP=true):∀(fuel:Nat)(listed:Array Bool)(a:Act)(w:World),wpAny P md ops Q fuel listed a w->wpAnyIn (WF ro) n P md ops Q fuel listed a w
 |0,_,_,_,h=>h
 |fuel+1,_,_,_,h=>⟨h.1,fun i hi=>TK hQo hnd (fun a w=>Rz hQo hnd fuel _ a w) (h.2 i hi)⟩
section
variable {P:Program} {C:Hu} {N:Nat} {call:Ah} {w0:World} {X0:Fj} {Y:Nat->Prop} {R:Type} {r:R} {β:Bt} {s:St} {a:Act} {w:World} {o:Oper} {ops:Array Oper} {K:St->Option R} {ro:Option Nat} {n:Nat}
theorem HM (h:B4 N w0 X0 Y β s a w){G:Vq}(hNG:IZ P G w0 X0)(hcall:∀f args res,call f args=some res->C9 G P f args res)(hnd:SP o=true)(hk:Dt C P N call ops o s K=some r):
  ∃s',K s'=some r∧∀(next:Act->World->Prop) (Q:Exit->Act->World->Prop),(∀a' w' β',B4 N w0 X0 Y β' s' a' w'->next a' w') ->
   if Region.wanted o (yielded ops a.tmps) then o.wpIn (WF ro) n P a w next Q else (∀f,o.about P w a.eval=some f->(WF ro).fn f)∧next (a.put o.dst undef) w:=by
 rw [IM] at hk
 have hw:∀b,Gw ops o s.tm=some b->Region.wanted o (yielded ops a.tmps)=b:=by
  intro b hb;unfold Gw at hb;unfold Region.wanted;cases hg:o.guard with
  |none=>rw [hg] at hb;simpa using hb
  |some q=>
   obtain ⟨j,want⟩:=q;rw [hg] at hb;simp only at hb ⊢;cases hd:(ops[j]?).bind (·.dst) with
   |none=>rw [hd] at hb;cases hb
   |some d=>
    rw [hd] at hb;simp only at hb;split at hb
    ·rename_i b' ht;rw [T0 h hd ht];simp at hb;rw [←hb];cases b'<;>cases want<;>rfl
    ·rename_i ht;rw [T0 h hd ht];simp at hb;rw [hb];rfl
    ·cases hb
 split at hk
 ·cases hk
 ·rename_i hv;obtain ⟨s',hs',hn⟩:=LU h hNG hcall hk;refine ⟨s',hs',fun next Q hnext=>?_⟩
  simp only [hw _ hv,if_true];exact BW hnd (hn next Q hnext)
 ·rename_i hv;obtain ⟨hd,hk⟩:=Ax hk;refine ⟨_,hk,fun next Q hnext=>?_⟩
  simp only [hw _ hv];exact ⟨fun _ _=>trivial,hnext _ _ β (h.put hd (A7.sc _) (by simp [Bz,Cf,Ay]))⟩
theorem Zf {G:Vq}(hNG:IZ P G w0 X0)(hcall:∀f args res,call f args=some res->C9 G P f args res){Q:Exit->Act->World->Prop}(hQ:∀s' a' w' β',K s'=some r->B4 N w0 X0 Y β' s' a' w'->Q .normal a' w'):
  ∀(li:List Nat) (os:List Oper),li.length=os.length->(∀(k i:Nat),li[k]?=some i->ops[i]?=os[k]?)->os.all SP=true->∀{s:St} {a:Act} {w:World} {β:Bt},B4 N w0 X0 Y β s a w->Nx C P N call ops os s K=some r->wpOpsIn (WF ro) n P ops Q li a w
 |[],[],_,_,_,s,a,w,β,h,hk=>by
  show Q .normal a w;exact hQ s a w β hk h
 |[],_::_,hl,_,_,_,_,_,_,_,_=>by cases hl
 |_::_,[],hl,_,_,_,_,_,_,_,_=>by cases hl
 |i::li,o::os,hl,hi,hnd,s,a,w,β,h,hk=>by
  obtain ⟨s1,hk,h⟩:=Ui h hk;rw [List.all_cons,Bool.and_eq_true] at hnd;have hio:ops[i]?=some o:=by simpa using hi 0 i rfl
  obtain ⟨s',hs',hn⟩:=HM (ro:=ro) (n:=n) h hNG hcall hnd.1 hk;unfold wpOpsIn;rw [hio];exact hn _ _ fun a' w' β' h'=>Zf hNG hcall hQ li os (by simpa using hl) (fun k j hj=>by simpa using hi (k+1) j (by simpa using hj)) hnd.2 h' hs'
theorem HO {c:Code}{Q:Exit->Act->World->Prop}{F:(St->Option R)->St->Option R} {nm:St->(St->Option R)->Option R}
  (hnm:∀{β s a w} {K:St->Option R},B4 N w0 X0 Y β s a w->nm s K=some r->∃β' s',K s'=some r∧B4 N w0 X0 Y β' s' a w)
  (hF:∀{β s a w} {K:St->Option R}{Q':Act->World->Prop},B4 N w0 X0 Y β s a w->F K s=some r->(∀s' a' w' β',K s'=some r->B4 N w0 X0 Y β' s' a' w'->Q' a' w')->c.wpIn (WF ro) n P (Exit.then Q' Q) a w):
  ∀(m:Nat) {β s a w},B4 N w0 X0 Y β s a w->XF F nm m s=some r->Code.roundsIn (WF ro) n P c Q m a w
 |0,_,_,_,_,_,hk=>by cases hk
 |m+1,β,s,a,w,h,hk=>by
  rw [roundsIn_succ];refine hF h hk fun s' a' w' β' hk' h'=>?_
  obtain ⟨β1,s1,hk1,h1⟩:=hnm h' hk';exact HO hnm hF m h1 hk1
theorem WB {G:Vq}(hNG:IZ P G w0 X0)(hcall:∀f args res,call f args=some res->C9 G P f args res)(hm:P.follows .mixedOrders=true){fu:Nat}:
  ∀(c:Code),okR c=true->∀{ln:Nat} {lx:Nat->Nat} {lr:Nat} {kn:St->Option R} {kx:Nat->St->Option R} {kr:St->Option R} {β:Bt} {s:St} {a:Act} {w:World} {Q:Exit->Act->World->Prop},(∀a w,¬Q .outgrown a w)->B4 N w0 X0 Y β s a w ->
   Lg C P fu N call c ln lx lr kn kx kr s=some r->(∀s' a' w' β',kn s'=some r->B4 N w0 X0 Y β' s' a' w'->Q .normal a' w') ->
   (∀id s' a' w' β',kx id s'=some r->B4 N w0 X0 Y β' s' a' w'->Q (.exit id) a' w')->(∀s' a' w' β',kr s'=some r->B4 N w0 X0 Y β' s' a' w'->Q .ret a' w')->c.wpIn (WF ro) n P Q a w:=by
 intro c
 induction c with
 |skip=>intro _ ln lx lr kn kx kr β s a w Q hQo h hk hn hx hr;exact wpIn_skip (hn s a w β hk h)
 |region id ops draw=>
  intro ho ln lx lr kn kx kr β s a w Q hQo h hk hn hx hr;unfold okR at ho;unfold Lg at hk;cases draw
  ·simp only [NZ,Bool.false_and,cond_false] at hk;refine wpIn_region (Zf hNG hcall hn (List.range ops.size) ops.toList (by simp) (fun k i hi=>?_) ho h hk)
   rw [List.getElem?_range] at hi
   ·simp at hi;subst hi;simp
   ·rcases Nat.lt_or_ge k ops.size with h'|h'
    ·exact h'
    ·rw [List.getElem?_eq_none (by simpa using h')] at hi;cases hi
  ·have hLo:¬LetsOut Q:=fun ⟨a,w,q⟩=>hQo a w q
   simp only [NZ,Ah0,Bool.true_and,cond_true] at hk;cases hb:NN C P ops<;>rw [hb] at hk
   ·obtain ⟨hb',hk1⟩:=Ax (show Au _ _=some r from hk)
    exact wpIn_region_any hm (Rz hLo ho _ _ _ _ (Uy h hNG hcall hm hb' hk1 hn))
   ·exact wpIn_region_any hm (Rz hLo ho _ _ _ _ (Sf h hNG hcall hm hb hk hn))
 |seq c1 c2 ih1 ih2=>
  intro ho ln lx lr kn kx kr β s a w Q hQo h hk hn hx hr;unfold okR at ho;rw [Bool.and_eq_true] at ho;unfold Lg at hk
  refine wpIn_seq (ih1 ho.1 (fun a w=>hQo a w) h hk (fun s' a' w' β' hk' h'=>by
    cases hc:Ac0 P c1 c2
    ·rw [hc] at hk';exact ih2 ho.2 hQo h' hk' hn hx hr
    ·rw [hc] at hk';cases hq:EF c1 c2
     ·rw [hq] at hk';obtain ⟨β1,s1,hk1,h1⟩:=Do h' (show Lm _ _ _ _=some r from hk')
      exact ih2 ho.2 hQo h1 (Xe hk1) hn hx hr
     ·rw [hq] at hk';obtain ⟨β1,s1,hk1,h1⟩:=GO h' (show XP _ _ _ _=some r from hk')
      exact ih2 ho.2 hQo h1 (Xe hk1) hn hx hr) (fun id s' a' w' β' hk' h'=>hx id s' a' w' β' hk' h') (fun s' a' w' β' hk' h'=>hr s' a' w' β' hk' h'))
 |cond c c1 c2 ih1 ih2=>
  intro ho ln lx lr kn kx kr β s a w Q hQo h hk hn hx hr;unfold okR at ho;rw [Bool.and_eq_true] at ho;unfold Lg at hk;rcases GE h hk with ⟨hc,hk1⟩|⟨hc,hk1⟩
  ·exact wpIn_cond_true hc (ih1 ho.1 hQo h hk1 hn hx hr)
  ·exact wpIn_cond_false hc (ih2 ho.2 hQo h hk1 hn hx hr)
 |block id c ih=>
  intro ho ln lx lr kn kx kr β s a w Q hQo h hk hn hx hr;unfold okR at ho;unfold Lg at hk;refine wpIn_block (ih ho (fun a w=>hQo a w) h hk (fun s' a' w' β' hk' h'=>hn s' a' w' β' hk' h') (fun j s' a' w' β' hk' h'=>?_) (fun s' a' w' β' hk' h'=>hr s' a' w' β' hk' h'))
  show (if j=id then _ else _)
  by_cases e:j=id
  ·subst e;rw [Bv rfl];rw [Nat.beq_refl] at hk';exact hn s' a' w' β' hk' h'
  ·rw [A5 e]
   have:Nat.beq j id=false:=by
    cases hb:Nat.beq j id
    ·rfl
    ·exact absurd (Nat.eq_of_beq_eq_true hb) e
   rw [this] at hk';exact hx j s' a' w' β' hk' h'
 |loop c ih=>
  intro ho ln lx lr kn kx kr β s a w Q hQo h hk hn hx hr;unfold okR at ho;unfold Lg at hk;obtain ⟨β1,s1,hk1,h1⟩:=Do h hk;refine wpIn_loop_rounds fu (HO (fun h hk=>Do h hk) (fun h hk hQ=>?_) fu h1 hk1)
  exact ih ho (fun a w=>hQo a w) h hk hQ (fun id s' a' w' β' hk' h'=>hx id s' a' w' β' hk' h') (fun s' a' w' β' hk' h'=>hr s' a' w' β' hk' h')
 |«exit» id=>intro _ ln lx lr kn kx kr β s a w Q hQo h hk hn hx hr;exact wpIn_exit (hx id s a w β hk h)
 |ret=>intro _ ln lx lr kn kx kr β s a w Q hQo h hk hn hx hr;exact wpIn_ret (hr s a w β hk h)
 |_=>intro ho;cases ho
end
end
section
open Go.IntKind (wrap)
open Go Go.RowKit
theorem O7:∀(l:List (Nat × PV)) (i:Nat),lk l i=.top∨∃q∈l,q.1=i∧lk l i=q.2
 |[],_=>.inl rfl
 |(j,p)::l,i=>by
  by_cases e:i=j
  ·subst e;refine .inr ⟨(i,p),by simp,rfl,?_⟩
   simp [lk,Nat.beq_refl]
  ·have hb:Nat.beq i j=false:=by
    cases h:Nat.beq i j
    ·rfl
    ·exact absurd (Nat.eq_of_beq_eq_true h) e
   have hb':Nat.beq j i=false:=by
    cases h:Nat.beq j i
    ·rfl
    ·exact absurd (Nat.eq_of_beq_eq_true h).symm e
   have h1:lk ((j,p)::l) i=lk l i:=by simp [lk,hb,hb']
   rw [h1];rcases O7 l i with h|⟨q,hq,h2,h3⟩
   ·exact .inl h
   ·exact .inr ⟨q,List.mem_cons_of_mem _ hq,h2,h3⟩
theorem Tn:∀(l:List (Nat × Bn)) (i:Nat),B7 l i=none∨∃q∈l,q.1=i∧B7 l i=some q.2
 |[],_=>.inl rfl
 |(j,p)::l,i=>by
  by_cases e:i=j
  ·subst e;refine .inr ⟨(i,p),by simp,rfl,?_⟩
   simp [B7,Nat.beq_refl]
  ·have hb:Nat.beq i j=false:=by
    cases h:Nat.beq i j
    ·rfl
    ·exact absurd (Nat.eq_of_beq_eq_true h) e
   have hb':Nat.beq j i=false:=by
    cases h:Nat.beq j i
    ·rfl
    ·exact absurd (Nat.eq_of_beq_eq_true h).symm e
   have h1:B7 ((j,p)::l) i=B7 l i:=by simp [B7,hb,hb']
   rw [h1];rcases Tn l i with h|⟨q,hq,h2,h3⟩
   ·exact .inl h
   ·exact .inr ⟨q,List.mem_cons_of_mem _ hq,h2,h3⟩
theorem Ad5 {P:Program}{a:Act}{w:World}{o:Oper}{c:Call}{t l:Nat}(ho:o.op=.call c)(hc:c.callee=.value (.tmp t)) (ht:a.eval (.tmp t)=.func (.yield l) #[] #[]) {r:Result Next}(hy:(Instr.yield l (c.args.map a.eval)).run P w=r):
  (execOp a.eval o).run P w=r:=by
 unfold execOp;rw [ho];simp [resolve,hc,ht,Deferred.ofValue,invoke,hy]
section
variable {P:Program} {C:Hu} {N:Nat} {call:Ah} {w0:World} {X0:Fj} {Y:Nat->Prop} {R:Type} {r:R} {β:Bt} {s:St} {a:Act} {w:World} {o:Oper} {ops:Array Oper} {K:St->Option R} {ro:Option Nat} {n:Nat}
theorem B4.part (h:B4 N w0 X0 Y β s a w)(tm':Nat->PV)(hp':Nat->Option Bn)(ht:∀i,tm' i=.top∨tm' i=s.tm i)(hh:∀id,hp' id=none∨hp' id=s.hp id)
  (hw:∀i,i<N->∀id∈Bz (tm' i),hp' id≠none) (hwB:∀id cells,hp' id=some (.st cells)->∀c∈cells,∀id'∈Ay c,hp' id'≠none) (hpin:∀i,X0.pn i->hp' (C7 N i)≠none):B4 N w0 X0 Y β ⟨tm',hp'⟩ a w:=by
 have hX:∀b,CA hp' β b->CA s.hp β b:=by
  rintro b ⟨id,o,h1,h2⟩
  rcases hh id with e|e
  ·rw [e] at h1;exact h1.elim
  ·rw [e] at h1;exact ⟨id,o,h1,h2⟩
 have hA:∀b,C1 hp' β Y b->C1 s.hp β Y b:=fun b hb=>hb.elim (fun x=>.inl (hX b x)) .inr
 have hs:∀{id bx},hp' id=some bx->s.hp id=some bx:=by
  intro id bx e;rcases hh id with e'|e'
  ·rw [e'] at e;cases e
  ·rw [←e'];exact e
 have hn:∀{id},hp' id≠none->s.hp id≠none:=by
  intro id e;rcases hh id with e'|e'
  ·exact absurd e' e
  ·rw [←e'];exact e
 have hl:∀{id},Cg (hp' id)->Cg (s.hp id):=by
  intro id e;rcases hh id with e'|e'
  ·rw [e'] at e;exact e.elim
  ·rw [←e'];exact e
 have hst:Cb (C1 s.hp β Y) w w:=⟨Nat.le_refl _,fun _ _ _=>rfl,fun _ _=>Nat.le_refl _⟩
 refine ⟨h.dfr,h.tsz,fun i hi=>?_,fun i hi=>?_,fun id bx hbx=>?_,fun id id' b o o' h1 h2=>h.inj id id' b o o' (hl h1) (hl h2),fun id b o h1 h2=>h.blt id b o (hn h1) h2,hw,hwB,fun b hb=>h.ownd b (hX b hb),fun id bx b o h1 h2 h3 h4=>h.rngB id bx b o (hs h1) h2 h3 h4,
  fun i hi=>⟨hpin i hi,(h.pin i hi).2⟩,fun id c b o h1=>h.stp id c b o (hs h1),fun b hy hx=>h.Yx b hy (hX b hx),h.Ylt,h.fr⟩
 ·rcases ht i with e|e
  ·exact e
  ·exact e.trans (h.tmo i hi)
 ·show Dw w (C1 hp' β Y) β (tm' i) _;rcases ht i with e|e
  ·rw [e];exact A7.top _
  ·rw [e];exact (h.tms i hi).step hst (fun b _=>hA b) fun _ _=>rfl
 ·have h0:=h.box id bx (hs hbx);exact h0.step' hA
theorem B4.pick (h:B4 N w0 X0 Y β s a w)(l:List (Nat × PV)) (bl:List (Nat × Bn)) (hl:∀q∈l,q.2=s.tm q.1)(hb:∀q∈bl,some q.2=s.hp q.1)
  (hw:∀q∈l,∀id∈Bz q.2,B7 bl id≠none)(hwB:∀q∈bl,∀cells,q.2=.st cells->∀c∈cells,∀id'∈Ay c,B7 bl id'≠none)(hpin:∀i,X0.pn i->B7 bl (C7 N i)≠none):B4 N w0 X0 Y β ⟨lk l,B7 bl⟩ a w:=by
 refine h.part (lk l) (B7 bl) (fun i=>?_) (fun id=>?_) (fun i _ id hid=>?_) (fun id cells e=>?_) hpin
 ·rcases O7 l i with e|⟨q,hq,h1,h2⟩
  ·exact .inl e
  ·exact .inr (by rw [h2,hl q hq,h1])
 ·rcases Tn bl id with e|⟨q,hq,h1,h2⟩
  ·exact .inl e
  ·exact .inr (by rw [h2,hb q hq,h1])
 ·rcases O7 l i with e|⟨q,hq,h1,h2⟩
  ·rw [e] at hid;simp [Bz,Cf,Ay] at hid
  ·rw [h2] at hid;exact hw q hq id hid
 ·rcases Tn bl id with e'|⟨q,hq,h1,h2⟩
  ·rw [e'] at e;cases e
  ·rw [h2] at e;exact hwB q hq cells (by injection e)
theorem Mz {G:Vq}(hNG:IZ P G w0 X0)(hcall:∀f args res,call f args=some res->C9 G P f args res){Q:Exit->Act->World->Prop}{rest:List Nat}(hQ:∀s' a' w' β',K s'=some r->B4 N w0 X0 Y β' s' a' w'->wpOpsIn (WF ro) n P ops Q rest a' w'):
  ∀(li:List Nat) (os:List Oper),li.length=os.length->(∀(k i:Nat),li[k]?=some i->ops[i]?=os[k]?)->os.all SP=true->∀{s:St} {a:Act} {w:World} {β:Bt},B4 N w0 X0 Y β s a w->Nx C P N call ops os s K=some r->wpOpsIn (WF ro) n P ops Q (li++rest) a w
 |[],[],_,_,_,s,a,w,β,h,hk=>hQ s a w β hk h
 |[],_::_,hl,_,_,_,_,_,_,_,_=>by cases hl
 |_::_,[],hl,_,_,_,_,_,_,_,_=>by cases hl
 |i::li,o::os,hl,hi,hnd,s,a,w,β,h,hk=>by
  obtain ⟨s1,hk,h⟩:=Ui h hk;rw [List.all_cons,Bool.and_eq_true] at hnd;have hio:ops[i]?=some o:=by simpa using hi 0 i rfl
  obtain ⟨s',hs',hn⟩:=HM (ro:=ro) (n:=n) h hNG hcall hnd.1 hk;rw [List.cons_append];unfold wpOpsIn;rw [hio];exact hn _ _ fun a' w' β' h'=>Mz hNG hcall hQ li os (by simpa using hl) (fun k j hj=>by simpa using hi (k+1) j (by simpa using hj)) hnd.2 h' hs'
end
end
section
open Go.IntKind (wrap)
open Go Go.RowKit
abbrev Uq (ds:List Deferred)(a:Act):Act:={ a with defers:=a.defers++ds }
def TD (ds:List Deferred)(Q:Exit->Act->World->Prop):Exit->Act->World->Prop:=fun e a w=>∃a0:Act,a=Uq ds a0∧Q e a0 w
section
variable {P:Program} {ops:Array Oper} {Q:Exit->Act->World->Prop} {ro:Option Nat} {n:Nat} {ds:List Deferred}
theorem Pq (a:Act)(d:Option Tmp)(v:Value):(Uq ds a).put d v=Uq ds (a.put d v):=by cases d<;>rfl
theorem Ajl (h:LetsOut Q):LetsOut (TD ds Q):=let ⟨a,w,q⟩:=h;⟨_,w,a,rfl,q⟩
theorem Age {o:Oper}{a:Act}{w:World}{K K':Act->World->Prop}(hK:∀a w,K a w->K' (Uq ds a) w) (h:o.wpIn (WF ro) n P a w K Q):o.wpIn (WF ro) n P (Uq ds a) w K' (TD ds Q):=by
 refine ⟨fun _ _=>trivial,?_⟩
 have h:=h.2;show o.uponIn _ _ _ _ _ _ ((o.semAt (WF ro).round a.eval).run P w);generalize (o.semAt (WF ro).round a.eval).run P w=q at h;cases q with
 |halt x w'=>cases x<;>first|exact ⟨a,rfl,h⟩|exact h.elim
 |ok v w'=>
  cases v with
  |value v=>show K' ((Uq ds a).put o.dst v) w';rw [Pq];exact hK _ _ h
  |skip=>show K' ((Uq ds a).put o.dst undef) w';rw [Pq];exact hK _ _ h
  |defer d=>
   show K' (({ (Uq ds a) with defers:=d::(Uq ds a).defers }:Act).put o.dst undef) w';rw [show ({ (Uq ds a) with defers:=d::(Uq ds a).defers }:Act)=Uq ds { a with defers:=d::a.defers } from rfl,Pq]
   exact hK _ _ h
  |enter f args=>
   refine ⟨h.1,h.2.mono ?_⟩;intro e w'' he;cases e with
   |returned v=>show K' ((Uq ds a).put o.dst v) w'';rw [Pq];exact hK _ _ he
   |panicked c=>exact ⟨a,rfl,he⟩
   |outgrown=>exact Ajl he
  |row row args=>
   refine ⟨h.1,h.2.mono ?_⟩;intro v w'' he;show K' ((Uq ds a).put o.dst v) w'';rw [Pq];exact hK _ _ he
  |round l f tmps assign body=>
   refine ⟨h.1,h.2.mono ?_⟩;intro e w'' he;cases e with
   |returned v=>show K' ((Uq ds a).put o.dst v) w'';rw [Pq];exact hK _ _ he
   |panicked c=>exact ⟨a,rfl,he⟩
   |outgrown=>exact Ajl he
  |_=>exact h.elim
theorem Us:∀(li:List Nat){a:Act}{w:World},wpOpsIn (WF ro) n P ops Q li a w->wpOpsIn (WF ro) n P ops (TD ds Q) li (Uq ds a) w
 |[],a,w,h=>⟨a,rfl,h⟩
 |i::li,a,w,h=>by
  rw [wpOpsIn_cons] at h ⊢;unfold wpOpIn at h ⊢;cases ho:ops[i]? with
  |none=>rw [ho] at h;exact Us li h
  |some o=>
   rw [ho] at h;simp only at h ⊢;by_cases hw:Region.wanted o (yielded ops a.tmps)=true
   ·rw [Bv hw] at h ⊢;exact Age (fun a w=>Us li) h
   ·rw [A5 hw] at h ⊢;refine ⟨fun _ _=>trivial,?_⟩
    rw [Pq];exact Us li h.2
end
structure Abq (w w':World):Prop where
 os:w'.os=w.os
 tape:w'.tape=w.tape
 output:w'.output=w.output
 size:w'.heap.size=w.heap.size
 cell:∀a,w'.cell? a=w.cell? a
 frz:∀a,w'.frozen? a=w.frozen? a
 bs:∀b,bsz w' b=bsz w b
theorem A7.same {w w':World}{A:Nat->Prop}(h:Abq w w'){p:PV}{v:Value}(t:A7 w A p v):A7 w' A p v:=by
 induction t with
 |sc v=>exact .sc v
 |top v=>exact .top v
 |ub b=>exact .ub b
 |lnil z es=>exact .lnil z es
 |lemp es a cap=>exact .lemp es a cap
 |lst es n cells a cap f hs hb hA1 hn hc h1 hr ih=>exact .lst es n cells a cap f hs (by rw [h.size];exact hb) hA1 hn (fun j c hj=>by rw [h.cell];exact hc j c hj) h1 (fun j c hj=>ih j c hj)
theorem RA.same {w w':World}{A:Nat->Prop}(h:Abq w w'){a:Addr}{c:List PV}(t:RA w A a c):RA w' A a c:=fun j x hj=>by
 obtain ⟨v,h1,h2,h3⟩:=t j x hj;exact ⟨v,by rw [h.cell];exact h1,h2,h3.same h⟩
theorem Cc.same {w w':World}{A:Nat->Prop}{β:Nat->Option (Nat × Nat)} (h:Abq w w'){p:PV}{v:Value}(t:Cc w A β p v):Cc w' A β p v:=by
 cases p with
 |view id es off n=>
  rcases t with t|⟨b,o,x,cap,h1,h2,hx,h3,h4,h5⟩
  ·exact .inl t
  ·exact .inr ⟨b,o,x,cap,h1,h2,hx,h3,by rw [h.bs];exact h4,by rw [h.size];exact h5⟩
 |ptr id off=>exact t
 |iptr c off=>
  obtain ⟨a,h1,h2,h3,h4,h5⟩:=t;exact ⟨a,h1,h2,by rw [h.size];exact h3,h4,h5.same h⟩
 |_=>exact A7.same h t
theorem Bk.imp' {α β:Type}{R S:α->β->Prop}{zs:List α}{bs:List β}(h:Bk R zs bs)(f:∀a b,R a b->S a b):Bk S zs bs:=h.mono f
theorem G2.same {w w':World}{A:Nat->Prop}{β:Nat->Option (Nat × Nat)} (h:Abq w w'){p:PV}{v:Value}(t:G2 w A β p v):G2 w' A β p v:=by
 cases p with
 |agg cs=>obtain ⟨vs,h1,h2⟩:=t;exact ⟨vs,h1,h2.imp' fun _ _=>Cc.same h⟩
 |_=>exact (Uu (by intro cs e;cases e)).2 (Cc.same h ((Uu (by intro cs e;cases e)).1 t))
theorem Dw.same {w w':World}{A:Nat->Prop}{β:Nat->Option (Nat × Nat)} (h:Abq w w'){p:PV}{v:Value}(t:Dw w A β p v):Dw w' A β p v:=by
 cases p with
 |tup cs=>obtain ⟨vs,h1,h2⟩:=t;exact ⟨vs,h1,h2.imp' fun _ _=>G2.same h⟩
 |_=>exact (O9 (by intro cs e;cases e)).2 (G2.same h ((O9 (by intro cs e;cases e)).1 t))
theorem B4.same {N:Nat}{w0 w w':World}{X0:Fj}{Y:Nat->Prop}{β:Bt}{s:St}{a:Act}(h:B4 N w0 X0 Y β s a w)(hs:Abq w w')(h0:∀b,b<w0.heap.size->w'.heap[b]?=w.heap[b]?):B4 N w0 X0 Y β s a w':=by
 refine ⟨h.dfr,h.tsz,h.tmo,fun i hi=>(h.tms i hi).same hs,fun id bx e=>?_,h.inj,fun id b o h1 h2=>by rw [hs.size];exact h.blt id b o h1 h2,h.wfT,h.wfB,h.ownd,h.rngB,h.pin,h.stp,h.Yx,h.Ylt,
  ⟨hs.os.trans h.fr.os,hs.tape.trans h.fr.tape,hs.output.trans h.fr.output,⟨by rw [hs.size];exact h.fr.step.size,fun b hb hn=>(h0 b hb).trans (h.fr.step.keep b hb hn),fun b hb=>by rw [hs.bs];exact h.fr.step.bs b hb⟩,fun b j hb hn=>by rw [hs.cell,hs.frz];exact h.fr.rng b j hb hn⟩⟩
 have h1:=h.box id bx e;cases bx with
 |st c=>
  obtain ⟨b,o,g1,g2,g3⟩:=h1;refine ⟨b,o,g1,fun j c hj=>?_,fun j hj=>by rw [hs.frz];exact g3 j hj⟩
  obtain ⟨v,k1,k2⟩:=g2 j c hj;exact ⟨v,by rw [hs.cell];exact k1,k2.same hs⟩
 |ar fz c=>
  rcases h1 with h1|⟨b,o,g1,g2,g3,g4⟩
  ·exact .inl h1
  ·exact .inr ⟨b,o,g1,g2.same hs,fun hf j hj hjb=>by rw [hs.frz];exact g3 hf j hj (by rw [←hs.bs];exact hjb),g4⟩
 |mv=>trivial
theorem WD {w:World}{D:Nat}{x y:Option (List Deferred)} (h:w.heap[D]?=some (.deferred x)):Abq w (w.putObj D (.deferred y)):=by
 have hD:D<w.heap.size:=(Array.getElem?_eq_some_iff.1 h).1;have hs:(w.putObj D (.deferred y)).heap[D]?=some (.deferred y):=World.putObj_heap_same hD;refine ⟨rfl,rfl,rfl,by simp,fun a=>?_,fun a=>?_,fun b=>?_⟩
 ·by_cases e:a.block=D
  ·unfold World.cell?;rw [e,hs,h]
  ·exact World.cell?_of_block (World.putObj_heap_other e)
 ·by_cases e:a.block=D
  ·unfold World.frozen?;rw [e,hs,h]
  ·unfold World.frozen?;rw [World.putObj_heap_other e]
 ·by_cases e:b=D
  ·subst e;unfold bsz;rw [hs,h]
  ·unfold bsz;rw [World.putObj_heap_other e]
end
section
open Go.IntKind (wrap)
open Go Go.RowKit
def sL:Code->Code
 |.seq a _=>a
 |c=>c
def sR:Code->Code
 |.seq _ b=>b
 |c=>c
def sB:Code->Code
 |.block _ c=>c
 |.loop c=>c
 |c=>c
def sF:Code->Code
 |.rangeFunc _ _ _ b=>b
 |c=>c
def sA:Code->Code
 |.rangeFunc _ _ a _=>a
 |c=>c
def Nl:Code->Array Oper
 |.region _ ops _=>ops
 |_=> #[]
noncomputable abbrev BD:Code:=Bm Tryz.f107
noncomputable abbrev JW:Code:=Bm Tryz.f37
def CS:Hu:={ CB with shr:=fun _=>true }
noncomputable abbrev OY (N:Nat)(call:Ah)(c:Code)(L:Nat)(s:St):Option (Nat × St):=
 Lg CB Tryz.prog 2000 N call c L (fun _=>L) 0 (fun s=>Lm N L s fun s'=>some (0,s')) (fun id s=>Lm N L s fun s'=>some (id+1,s')) (fun _=>none) s
section
variable {N:Nat} {w0:World} {X0:Fj} {Y:Nat->Prop} {β:Bt} {s s1:St} {a:Act} {w:World}
theorem Ee {G:Vq}(hNG:IZ Tryz.prog G w0 X0)(hm:Tryz.prog.follows .mixedOrders=true){call:Ah}(hcall:∀f args res,call f args=some res->C9 G Tryz.prog f args res){c:Code}{L t:Nat}{Q:Exit->Act->World->Prop}(h:B4 N w0 X0 Y β s a w)
  (hk:OY N call c L s=some (t,s1)) (hQ:∀a' w' β',B4 N w0 X0 Y β' s1 a' w'->match t with|0=>Q .normal a' w'|id+1=>Q (.exit id) a' w'):c.wp Tryz.prog Q a w:=by
 refine KI hNG hcall hm c h hk (fun s' a' w' β' h1 h2=>?_) (fun id s' a' w' β' h1 h2=>?_) (fun s' a' w' β' h1 h2=>by cases h1)
 ·obtain ⟨β1,s2,h3,h4⟩:=Do h2 h1;cases h3;exact hQ _ _ _ h4
 ·obtain ⟨β1,s2,h3,h4⟩:=Do h2 h1;cases h3;exact hQ _ _ _ h4
theorem JI {G:Vq}(hNG:IZ Tryz.prog G w0 X0)(hm:Tryz.prog.follows .mixedOrders=true){call:Ah}(hcall:∀f args res,call f args=some res->C9 G Tryz.prog f args res){ro:Option Nat}{n:Nat}{c:Code}(ho:okR c=true){L t:Nat}{Q:Exit->Act->World->Prop}(hQo:∀a w,¬Q .outgrown a w)(h:B4 N w0 X0 Y β s a w)
  (hk:OY N call c L s=some (t,s1)) (hQ:∀a' w' β',B4 N w0 X0 Y β' s1 a' w'->match t with|0=>Q .normal a' w'|id+1=>Q (.exit id) a' w'):c.wpIn (WF ro) n Tryz.prog Q a w:=by
 refine WB hNG hcall hm c ho hQo h hk (fun s' a' w' β' h1 h2=>?_) (fun id s' a' w' β' h1 h2=>?_) (fun s' a' w' β' h1 h2=>by cases h1)
 ·obtain ⟨β1,s2,h3,h4⟩:=Do h2 h1;cases h3;exact hQ _ _ _ h4
 ·obtain ⟨β1,s2,h3,h4⟩:=Do h2 h1;cases h3;exact hQ _ _ _ h4
end
end
section
open Go.IntKind (wrap)
set_option maxRecDepth 100000
theorem Aob (call:Ah)(yv:Value)(h seed:Int):OY 63 call (sL BD) 23 ⟨lk [(0,.sc yv),(1,.iptr [.sc (.int .i64 h)] 0),(2,.iptr [.sc (.int .u64 seed)] 0)],B7 []⟩=(
 Au (decide ((0:Int)<=h)) <|
 Aa (Hc IntKind.i64 (1:Int) h) fun x1=>
 Au (decide ((0:Int)<=x1)&&decide (x1<=x1)&&decide (x1*(8:Int)<=(1099511627776:Int))&&decide (x1<=(1099511627776:Int))) <|
 some (0,⟨lk [(0,(.sc (yv))),(1,(.iptr ([PV.sc (Value.int IntKind.i64 h)]) ((0:Nat)))),(2,(.iptr ([PV.sc (Value.int IntKind.u64 seed)]) ((0:Nat)))),(4,(.view 4 1 0 (Int.toNat x1)))],B7 [(4,(.ar false (Sl (Int.toNat x1) [PV.sc (Value.int IntKind.u64 (0:Int))])))]⟩)):=by kernel_rfl
theorem Ao1 (call:Ah)(yv:Value)(h seed:Int)(n:Nat)(c:List PV):OY 63 call (sL (sL (sR BD))) 24599 ⟨lk [(0,.sc yv),(1,.iptr [.sc (.int .i64 h)] 0),(2,.iptr [.sc (.int .u64 seed)] 0),(4,.view 4 1 0 n)],B7 [(4,.ar false c)]⟩=(
 some (0,⟨lk [(0,(.sc (yv))),(1,(.iptr ([PV.sc (Value.int IntKind.i64 h)]) ((0:Nat)))),(2,(.iptr ([PV.sc (Value.int IntKind.u64 seed)]) ((0:Nat)))),(4,(.view 4 1 0 (n))),(13,(.sc (.int .i64 ((↑n:Int))))),(14,(.sc (.int .i64 ((0:Int)))))],B7 [(4,(.ar false (c)))]⟩)):=by kernel_rfl
theorem Ag6 (call:Ah)(yv:Value)(h seed m i:Int)(n:Nat)(c:List PV):OY 63 call (sB (sB (sR (sL (sR BD))))) 24599 ⟨lk [(0,.sc yv),(1,.iptr [.sc (.int .i64 h)] 0),(2,.iptr [.sc (.int .u64 seed)] 0),(4,.view 4 1 0 n),(13,.sc (.int .i64 m)),(14,.sc (.int .i64 i))],B7 [(4,.ar false c)]⟩=(
  A9 (decide (i<m))
   (
   Ag (call (108:Nat) [PV.sc (Value.int IntKind.u64 seed),PV.sc (Value.int IntKind.i64 i)]) fun x1 x2=>
   Ac (x2) <|
   Ab (x1) fun x3 x4=>
   Ad (IntKind.u64) (x3) fun x5=>
   Ac (x4) <|
   Au (decide ((0:Int)<=i)&&decide (i<(↑n:Int))) <|
   Au (decide ((0:Nat)+Int.toNat i*(1:Nat)+(1:Nat)<=List.length c)) <|
   Aa (Bd c [PV.sc (Value.int IntKind.u64 x5)] ((0:Nat)+Int.toNat i*(1:Nat))) fun x6=>
   Aa (wrap IntKind.i64 (i+(1:Int))) fun x7=>
   some (0,⟨lk [(0,(.sc (yv))),(1,(.iptr ([PV.sc (Value.int IntKind.i64 h)]) ((0:Nat)))),(2,(.iptr ([PV.sc (Value.int IntKind.u64 seed)]) ((0:Nat)))),(4,(.view 4 1 0 (n))),(13,(.sc (.int .i64 (m)))),(14,(.sc (.int .i64 (x7))))],B7 [(4,(.ar false (x6)))]⟩))
   (
   some (1,⟨lk [(0,(.sc (yv))),(1,(.iptr ([PV.sc (Value.int IntKind.i64 h)]) ((0:Nat)))),(2,(.iptr ([PV.sc (Value.int IntKind.u64 seed)]) ((0:Nat)))),(4,(.view 4 1 0 (n))),(13,(.sc (.int .i64 (m)))),(14,(.sc (.int .i64 (i))))],B7 [(4,(.ar false (c)))]⟩))):=by kernel_rfl
theorem Apz (call:Ah)(yv:Value)(h seed m i:Int)(n:Nat)(c:List PV):OY 63 call (sL (sR (sR BD))) 87 ⟨lk [(0,.sc yv),(1,.iptr [.sc (.int .i64 h)] 0),(2,.iptr [.sc (.int .u64 seed)] 0),(4,.view 4 1 0 n),(13,.sc (.int .i64 m)),(14,.sc (.int .i64 i))],B7 [(4,.ar false c)]⟩=(
 some (0,⟨lk [(0,(.sc (yv))),(1,(.iptr ([PV.sc (Value.int IntKind.i64 h)]) ((0:Nat)))),(2,(.iptr ([PV.sc (Value.int IntKind.u64 seed)]) ((0:Nat)))),(4,(.view 4 1 0 (n))),(6,(.sc (.int .i64 ((0:Int)))))],B7 [(4,(.ar false (c)))]⟩)):=by kernel_rfl
theorem Arx (call:Ah)(yv:Value)(h seed k:Int)(n:Nat)(c:List PV):OY 63 call (sL (sB (sL (sR (sB (sB (sR (sR (sR BD))))))))) 215 ⟨lk [(0,.sc yv),(1,.iptr [.sc (.int .i64 h)] 0),(2,.iptr [.sc (.int .u64 seed)] 0),(4,.view 4 1 0 n),(6,.sc (.int .i64 k))],B7 [(4,.ar false c)]⟩=(
 Aa (wrap IntKind.i64 (Int.tdiv (↑n:Int) (2:Int))) fun x1=>
 Au (decide ((0:Int)<=x1)&&decide (x1<=x1)&&decide (x1*(8:Int)<=(1099511627776:Int))&&decide (x1<=(1099511627776:Int))) <|
 some (0,⟨lk [(0,(.sc (yv))),(1,(.iptr ([PV.sc (Value.int IntKind.i64 h)]) ((0:Nat)))),(2,(.iptr ([PV.sc (Value.int IntKind.u64 seed)]) ((0:Nat)))),(4,(.view 4 1 0 (n))),(6,(.sc (.int .i64 (k)))),(7,(.view 7 1 0 (Int.toNat x1)))],B7 [(4,(.ar false (c))),(7,(.ar false (Sl (Int.toNat x1) [PV.sc (Value.int IntKind.u64 (0:Int))])))]⟩)):=by kernel_rfl
theorem An8 (call:Ah)(yv:Value)(h seed k:Int)(n m:Nat)(c e:List PV):OY 63 call (sL (sL (sR (sB (sL (sR (sB (sB (sR (sR (sR BD))))))))))) 3298534883543 ⟨lk [(0,.sc yv),(1,.iptr [.sc (.int .i64 h)] 0),(2,.iptr [.sc (.int .u64 seed)] 0),(4,.view 4 1 0 n),(6,.sc (.int .i64 k)),(7,.view 7 1 0 m)],B7 [(4,.ar false c),(7,.ar false e)]⟩=(
 some (0,⟨lk [(0,(.sc (yv))),(1,(.iptr ([PV.sc (Value.int IntKind.i64 h)]) ((0:Nat)))),(2,(.iptr ([PV.sc (Value.int IntKind.u64 seed)]) ((0:Nat)))),(4,(.view 4 1 0 (n))),(6,(.sc (.int .i64 (k)))),(7,(.view 7 1 0 (m))),(40,(.sc (.int .i64 ((↑m:Int))))),(41,(.sc (.int .i64 ((0:Int)))))],B7 [(4,(.ar false (c))),(7,(.ar false (e)))]⟩)):=by kernel_rfl
theorem Aiq (call:Ah)(yv:Value)(h seed k p i:Int)(n m:Nat)(c e:List PV):OY 63 call (sB (sB (sR (sL (sR (sB (sL (sR (sB (sB (sR (sR (sR BD))))))))))))) 3298534883543 ⟨lk [(0,.sc yv),(1,.iptr [.sc (.int .i64 h)] 0),(2,.iptr [.sc (.int .u64 seed)] 0),(4,.view 4 1 0 n),(6,.sc (.int .i64 k)),(7,.view 7 1 0 m),(40,.sc (.int .i64 p)),(41,.sc (.int .i64 i))],B7 [(4,.ar false c),(7,.ar false e)]⟩=(
  A9 (decide (i<p))
   (
   Aa (wrap IntKind.i64 (k+(1:Int))) fun x1=>
   Aa (wrap IntKind.i64 ((2:Int)*i)) fun x2=>
   Au (decide ((0:Int)<=x2)&&decide (x2<(↑n:Int))) <|
   Ad (IntKind.u64) (List.getD c ((0:Nat)+Int.toNat x2*(1:Nat)) PV.top) fun x3=>
   Aa (wrap IntKind.i64 ((2:Int)*i)) fun x4=>
   Aa (wrap IntKind.i64 (x4+(1:Int))) fun x5=>
   Au (decide ((0:Int)<=x5)&&decide (x5<(↑n:Int))) <|
   Ad (IntKind.u64) (List.getD c ((0:Nat)+Int.toNat x5*(1:Nat)) PV.top) fun x6=>
   Ag (call (82:Nat) [PV.sc (Value.int IntKind.i64 x1),PV.sc (Value.int IntKind.u64 x3),PV.sc (Value.int IntKind.u64 x6)]) fun x7 x8=>
   Ac (x8) <|
   Ab (x7) fun x9 Cl=>
   Ad (IntKind.u64) (x9) fun Cw=>
   Ac (Cl) <|
   Au (decide ((0:Int)<=i)&&decide (i<(↑m:Int))) <|
   Au (decide ((0:Nat)+Int.toNat i*(1:Nat)+(1:Nat)<=List.length e)) <|
   Aa (Bd e [PV.sc (Value.int IntKind.u64 Cw)] ((0:Nat)+Int.toNat i*(1:Nat))) fun Dl=>
   Aa (wrap IntKind.i64 (i+(1:Int))) fun Dr=>
   some (0,⟨lk [(0,(.sc (yv))),(1,(.iptr ([PV.sc (Value.int IntKind.i64 h)]) ((0:Nat)))),(2,(.iptr ([PV.sc (Value.int IntKind.u64 seed)]) ((0:Nat)))),(4,(.view 4 1 0 (n))),(6,(.sc (.int .i64 (k)))),(7,(.view 7 1 0 (m))),(40,(.sc (.int .i64 (p)))),(41,(.sc (.int .i64 (Dr))))],B7 [(4,(.ar false (c))),(7,(.ar false (Dl)))]⟩))
   (
   some (5,⟨lk [(0,(.sc (yv))),(1,(.iptr ([PV.sc (Value.int IntKind.i64 h)]) ((0:Nat)))),(2,(.iptr ([PV.sc (Value.int IntKind.u64 seed)]) ((0:Nat)))),(4,(.view 4 1 0 (n))),(6,(.sc (.int .i64 (k)))),(7,(.view 7 1 0 (m))),(40,(.sc (.int .i64 (p)))),(41,(.sc (.int .i64 (i))))],B7 [(4,(.ar false (c))),(7,(.ar false (e)))]⟩))):=by kernel_rfl
theorem Arf (call:Ah)(yv:Value)(h seed k p i:Int)(n m:Nat)(c e:List PV):OY 63 call (sR (sR (sB (sL (sR (sB (sB (sR (sR (sR BD)))))))))) 87 ⟨lk [(0,.sc yv),(1,.iptr [.sc (.int .i64 h)] 0),(2,.iptr [.sc (.int .u64 seed)] 0),(4,.view 4 1 0 n),(6,.sc (.int .i64 k)),(7,.view 7 1 0 m),(40,.sc (.int .i64 p)),(41,.sc (.int .i64 i))],B7 [(4,.ar false c),(7,.ar false e)]⟩=(
 some (0,⟨lk [(0,(.sc (yv))),(1,(.iptr ([PV.sc (Value.int IntKind.i64 h)]) ((0:Nat)))),(2,(.iptr ([PV.sc (Value.int IntKind.u64 seed)]) ((0:Nat)))),(4,(.view 4 1 0 (m))),(6,(.sc (.int .i64 (k))))],B7 [(4,(.ar false (e)))]⟩)):=by kernel_rfl
theorem Aq3 (call:Ah)(yv:Value)(h seed k:Int)(n:Nat)(c:List PV):OY 63 call (sR (sR (sB (sB (sR (sR (sR BD))))))) 87 ⟨lk [(0,.sc yv),(1,.iptr [.sc (.int .i64 h)] 0),(2,.iptr [.sc (.int .u64 seed)] 0),(4,.view 4 1 0 n),(6,.sc (.int .i64 k))],B7 [(4,.ar false c)]⟩=(
 Aa (wrap IntKind.i64 (k+(1:Int))) fun x1=>
 some (0,⟨lk [(0,(.sc (yv))),(1,(.iptr ([PV.sc (Value.int IntKind.i64 h)]) ((0:Nat)))),(2,(.iptr ([PV.sc (Value.int IntKind.u64 seed)]) ((0:Nat)))),(4,(.view 4 1 0 (n))),(6,(.sc (.int .i64 (x1))))],B7 [(4,(.ar false (c)))]⟩)):=by kernel_rfl
theorem Apx (call:Ah)(yv:Value)(h seed k:Int)(n:Nat)(c:List PV):Nx CB Tryz.prog 63 call (Nl (sL (sL (sB (sB (sR (sR (sR BD)))))))) (List.take 3 (Nl (sL (sL (sB (sB (sR (sR (sR BD)))))))).toList) ⟨lk [(0,.sc yv),(1,.iptr [.sc (.int .i64 h)] 0),(2,.iptr [.sc (.int .u64 seed)] 0),(4,.view 4 1 0 n),(6,.sc (.int .i64 k))],B7 [(4,.ar false c)]⟩ (fun s=>Lm 63 117440599 s fun s'=>some (0,s'))=(
 some (0,⟨lk [(0,(.sc (yv))),(1,(.iptr ([PV.sc (Value.int IntKind.i64 h)]) ((0:Nat)))),(2,(.iptr ([PV.sc (Value.int IntKind.u64 seed)]) ((0:Nat)))),(4,(.view 4 1 0 (n))),(6,(.sc (.int .i64 (k)))),(24,(.sc (yv))),(25,(.sc (.int .i64 (k)))),(26,(.view 4 1 0 (n)))],B7 [(4,(.ar false (c)))]⟩)):=by kernel_rfl
theorem Ak9 (call:Ah)(yv:Value)(h seed k:Int)(n:Nat)(c:List PV):Nx CB Tryz.prog 63 call (Nl (sL (sL (sB (sB (sR (sR (sR BD)))))))) (List.drop 4 (Nl (sL (sL (sB (sB (sR (sR (sR BD)))))))).toList) ⟨lk [(0,.sc yv),(1,.iptr [.sc (.int .i64 h)] 0),(2,.iptr [.sc (.int .u64 seed)] 0),(4,.view 4 1 0 n),(6,.sc (.int .i64 k)),(27,.sc (.bool true))],B7 [(4,.ar false c)]⟩ (fun s=>Lm 63 4294967383 s fun s'=>some (0,s'))=(
 some (0,⟨lk [(0,(.sc (yv))),(1,(.iptr ([PV.sc (Value.int IntKind.i64 h)]) ((0:Nat)))),(2,(.iptr ([PV.sc (Value.int IntKind.u64 seed)]) ((0:Nat)))),(4,(.view 4 1 0 (n))),(6,(.sc (.int .i64 (k)))),(32,(.sc (.bool (decide (k<h)))))],B7 [(4,(.ar false (c)))]⟩)):=by kernel_rfl
theorem Akp (call:Ah)(yv:Value)(h seed k:Int)(n:Nat)(c:List PV):Nx CB Tryz.prog 63 call (Nl (sL (sL (sB (sB (sR (sR (sR BD)))))))) (List.drop 4 (Nl (sL (sL (sB (sB (sR (sR (sR BD)))))))).toList) ⟨lk [(0,.sc yv),(1,.iptr [.sc (.int .i64 h)] 0),(2,.iptr [.sc (.int .u64 seed)] 0),(4,.view 4 1 0 n),(6,.sc (.int .i64 k)),(27,.sc (.bool false))],B7 [(4,.ar false c)]⟩ (fun s=>Lm 63 4294967383 s fun s'=>some (0,s'))=(
 some (0,⟨lk [(0,(.sc (yv))),(1,(.iptr ([PV.sc (Value.int IntKind.i64 h)]) ((0:Nat)))),(2,(.iptr ([PV.sc (Value.int IntKind.u64 seed)]) ((0:Nat)))),(4,(.view 4 1 0 (n))),(6,(.sc (.int .i64 (k)))),(32,(.sc (.bool (false))))],B7 [(4,(.ar false (c)))]⟩)):=by kernel_rfl
theorem Aja (call:Ah)(yv:Value)(h seed k:Int)(n:Nat)(c:List PV)(q:Bool):OY 63 call (sR (sL (sB (sB (sR (sR (sR BD))))))) 87 ⟨lk [(0,.sc yv),(1,.iptr [.sc (.int .i64 h)] 0),(2,.iptr [.sc (.int .u64 seed)] 0),(4,.view 4 1 0 n),(6,.sc (.int .i64 k)),(32,.sc (.bool q))],B7 [(4,.ar false c)]⟩=(
  A9 (q)
   (
   some (0,⟨lk [(0,(.sc (yv))),(1,(.iptr ([PV.sc (Value.int IntKind.i64 h)]) ((0:Nat)))),(2,(.iptr ([PV.sc (Value.int IntKind.u64 seed)]) ((0:Nat)))),(4,(.view 4 1 0 (n))),(6,(.sc (.int .i64 (k))))],B7 [(4,(.ar false (c)))]⟩))
   (
   some (3,⟨lk [(0,(.sc (yv))),(1,(.iptr ([PV.sc (Value.int IntKind.i64 h)]) ((0:Nat)))),(2,(.iptr ([PV.sc (Value.int IntKind.u64 seed)]) ((0:Nat)))),(4,(.view 4 1 0 (n))),(6,(.sc (.int .i64 (k))))],B7 [(4,(.ar false (c)))]⟩))):=by kernel_rfl
theorem Aos (call:Ah)(seed h leaf m:Int):OY 48 call (sL JW) 873 ⟨lk [(0,.sc (.int .u64 seed)),(1,.sc (.int .i64 h)),(2,.sc (.int .i64 leaf)),(3,.sc (.int .u64 m))],B7 []⟩=(
 some (0,⟨lk [(0,(.sc (.int .u64 (seed)))),(3,(.sc (.int .u64 (m)))),(5,(.ptr 5 0)),(6,(.ptr 6 0)),(8,(.ptr 8 0)),(9,(.sc (.int .i64 ((0:Int)))))],B7 [(5,(.st [(.sc (.int .i64 (h)))])),(6,(.st [(.sc (.int .i64 (leaf)))])),(8,(.st [(.sc (.int .i64 ((0:Int)))),(.view 104 1 0 ((0:Nat))),(.view 152 1 0 ((0:Nat)))])),(104,(.ar false ([]))),(152,(.ar false ([])))]⟩)):=by kernel_rfl
theorem Ar4 (call:Ah)(seed h leaf m:Int):OY 48 call (sL (sR JW)) 873 ⟨lk [(0,.sc (.int .u64 seed)),(3,.sc (.int .u64 m)),(5,.ptr 5 0),(6,.ptr 6 0),(8,.ptr 8 0),(9,.sc (.int .i64 0))],B7 [(5,.st [.sc (.int .i64 h)]),(6,.st [.sc (.int .i64 leaf)]),(8,.st [.sc (.int .i64 0),.view 104 1 0 0,.view 152 1 0 0]),(104,.ar false []),(152,.ar false [])]⟩=(
  Ag (call (74:Nat) [PV.sc (Value.int IntKind.i64 h)]) fun x1 x2=>
  Ac (x2) <|
  Ab (x1) fun x3 x4=>
  Bj (x3) fun x5=>
  Ac (x4) <|
  A9 (x5)
   (
   none)
   (
   Ag (call (75:Nat) [PV.sc (Value.int IntKind.i64 leaf),PV.sc (Value.int IntKind.i64 h)]) fun x6 x7=>
   Ac (x7) <|
   Ab (x6) fun x8 x9=>
   Bj (x8) fun Cl=>
   Ac (x9) <|
   A9 (Cl)
    (
    none)
    (
    some (0,⟨lk [(0,(.sc (.int .u64 (seed)))),(3,(.sc (.int .u64 (m)))),(5,(.ptr 5 0)),(6,(.ptr 6 0)),(8,(.ptr 8 0)),(9,(.sc (.int .i64 ((0:Int)))))],B7 [(5,(.st [(.sc (.int .i64 (h)))])),(6,(.st [(.sc (.int .i64 (leaf)))])),(8,(.st [(.sc (.int .i64 ((0:Int)))),(.view 104 1 0 ((0:Nat))),(.view 152 1 0 ((0:Nat)))])),(104,(.ar false ([]))),(152,(.ar false ([])))]⟩)))):=by kernel_rfl
theorem Ap9 (call:Ah)(seed h leaf m:Int):OY 48 call (sL (sR (sR JW))) 1897 ⟨lk [(0,.sc (.int .u64 seed)),(3,.sc (.int .u64 m)),(5,.ptr 5 0),(6,.ptr 6 0),(8,.ptr 8 0),(9,.sc (.int .i64 0))],B7 [(5,.st [.sc (.int .i64 h)]),(6,.st [.sc (.int .i64 leaf)]),(8,.st [.sc (.int .i64 0),.view 104 1 0 0,.view 152 1 0 0]),(104,.ar false []),(152,.ar false [])]⟩=(
 Ag (call (76:Nat) [PV.sc (Value.int IntKind.u64 seed),PV.sc (Value.int IntKind.i64 leaf),PV.sc (Value.int IntKind.u64 m)]) fun x1 x2=>
 Ac (x2) <|
 Ab (x1) fun x3 x4=>
 Es ((1:Nat)) (x3) fun x5 x6=>
 Ac (x4) <|
 some (0,⟨lk [(0,(.sc (.int .u64 (seed)))),(3,(.sc (.int .u64 (m)))),(5,(.ptr 5 0)),(6,(.ptr 6 0)),(8,(.ptr 8 0)),(9,(.sc (.int .i64 ((0:Int))))),(10,(.ptr 10 0))],B7 [(5,(.st [(.sc (.int .i64 (h)))])),(6,(.st [(.sc (.int .i64 (leaf)))])),(8,(.st [(.sc (.int .i64 ((0:Int)))),(.view 104 1 0 ((0:Nat))),(.view 152 1 0 ((0:Nat)))])),(104,(.ar false ([]))),(152,(.ar false ([]))),(10,(.st [(.sc (.int .i64 (leaf))),(.view 106 1 0 (x5)),(.view 154 1 0 ((0:Nat)))])),(106,(.ar false (x6))),(154,(.ar false ([])))]⟩)):=by kernel_rfl
theorem Ahg (call:Ah)(h leaf k:Int)(ch:Value)(n m:Nat)(c d:List PV):OY 48 call (sF (sB (sR (sL (sR (sR (sR JW))))))) 1024 ⟨lk [(5,.iptr [.sc (.int .i64 h)] 0),(6,.iptr [.sc (.int .i64 leaf)] 0),(10,.ptr 96000 0),(11,.sc (.int .i64 k)),(12,.lst false 1 n c)],B7 [(96000,.st [.sc (.int .i64 leaf),.sc ch,.view 20 1 0 m]),(20,.ar false d)]⟩=(
  A9 (k==h)
   (
   some (1,⟨lk [(10,(.ptr 96000 0))],B7 [(96000,(.st [(.sc (.int .i64 (leaf))),(.sc (ch)),(.view 96144 1 0 (m))])),(96144,(.ar false (d)))]⟩))
   (
   Au (decide ((0:Int)<=k)) <|
   Aa (D7 IntKind.i64 leaf k) fun x1=>
   Aa (D2 IntKind.i64 x1 (1:Int)) fun x2=>
   Au (decide ((0:Int)<=x2)&&decide (x2<(↑n:Int))) <|
   Ad (IntKind.u64) (List.getD c (Int.toNat x2*(1:Nat)) PV.top) fun x3=>
   Au (decide (m*(1:Nat)<=List.length d)&&true&&decide ((m+(1:Nat))*(8:Nat)<=(1099511627776:Nat))&&decide (m+(1:Nat)<=(1099511627776:Nat))) <|
   Aa (m+(1:Nat)) fun x4=>
   Aa (List.take (m*(1:Nat)) d++[PV.sc (Value.int IntKind.u64 x3)]) fun x5=>
   some (0,⟨lk [(10,(.ptr 96000 0))],B7 [(96000,(.st [(.sc (.int .i64 (leaf))),(.sc (ch)),(.view 96144 1 0 (x4))])),(96144,(.ar false (x5)))]⟩))):=by kernel_rfl
theorem Aso (call:Ah)(seed h leaf m:Int)(n:Nat)(c:List PV):Nx CB Tryz.prog 48 call (Nl (sL (sL (sR (sR (sR JW)))))) (List.take 2 (Nl (sL (sL (sR (sR (sR JW)))))).toList) ⟨lk [(0,.sc (.int .u64 seed)),(3,.sc (.int .u64 m)),(5,.ptr 5 0),(6,.ptr 6 0),(8,.ptr 8 0),(9,.sc (.int .i64 0)),(10,.ptr 10 0)],B7 [(5,.st [.sc (.int .i64 h)]),(6,.st [.sc (.int .i64 leaf)]),(8,.st [.sc (.int .i64 0),.view 104 1 0 0,.view 152 1 0 0]),(104,.ar false []),(152,.ar false []),(10,.st [.sc (.int .i64 leaf),.view 106 1 0 n,.view 154 1 0 0]),(106,.ar false c),(154,.ar false [])]⟩ (fun s=>Lm 48 402655081 s fun s'=>some (0,s'))=(
 some (0,⟨lk [(0,(.sc (.int .u64 (seed)))),(3,(.sc (.int .u64 (m)))),(5,(.ptr 5 0)),(6,(.ptr 6 0)),(8,(.ptr 8 0)),(9,(.sc (.int .i64 ((0:Int))))),(10,(.ptr 10 0)),(27,(.sc (.int .u64 (seed)))),(28,(.sc (.int .i64 (h))))],B7 [(5,(.st [(.sc (.int .i64 (h)))])),(6,(.st [(.sc (.int .i64 (leaf)))])),(8,(.st [(.sc (.int .i64 ((0:Int)))),(.view 104 1 0 ((0:Nat))),(.view 152 1 0 ((0:Nat)))])),(104,(.ar false ([]))),(152,(.ar false ([]))),(10,(.st [(.sc (.int .i64 (leaf))),(.view 106 1 0 (n)),(.view 154 1 0 ((0:Nat)))])),(106,(.ar false (c))),(154,(.ar false ([])))]⟩)):=by kernel_rfl
theorem Ap8 (call:Ah)(leaf:Int)(n1 n2:Nat)(c1 c2:List PV):Nx CB Tryz.prog 48 call (Nl (sL (sR (sR (sR (sR JW)))))) (Nl (sL (sR (sR (sR (sR JW)))))).toList ⟨lk [(8,.ptr 96000 0),(9,.sc (.int .i64 0)),(10,.iptr [.sc (.int .i64 leaf),.lst false 1 n1 c1,.lst false 1 n2 c2] 0)],B7 [(96000,.st [.top,.top,.top])]⟩ (fun s=>Lm 48 768 s fun s'=>some (0,s'))=(
 some (0,⟨lk [(8,(.ptr 96000 0)),(9,(.sc (.int .i64 ((0:Int)))))],B7 [(96000,(.st [(.sc (.int .i64 (leaf))),(.lst false 1 (n1) (c1)),(.lst false 1 (n2) (c2))]))]⟩)):=by kernel_rfl
theorem Aph (a0 a1 a2 a3 leaf:Int)(n1 n2:Nat)(c1 c2:List PV):ZU CS Tryz.prog 37 Tryz.f37 [.sc (.int .u64 a0),.sc (.int .i64 a1),.sc (.int .i64 a2),.sc (.int .u64 a3)] ⟨lk [(8,.ptr 96000 0),(9,.sc (.int .i64 0))],B7 [(96000,.st [.sc (.int .i64 leaf),.lst false 1 n1 c1,.lst false 1 n2 c2])]⟩=(
 some (A0.mk [PV.agg [PV.sc (Value.int IntKind.i64 leaf),PV.lst false (1:Nat) n1 c1,PV.lst false (1:Nat) n2 c2],PV.sc (Value.int IntKind.i64 (0:Int))] [])):=by kernel_rfl
theorem Ar6 (call:Ah)(seed h leaf m:Int):Amm CS Tryz.prog 2000 call 37 Tryz.f37 JW [.sc (.int .u64 seed),.sc (.int .i64 h),.sc (.int .i64 leaf),.sc (.int .u64 m)]=(
  Ag (call (74:Nat) [PV.sc (Value.int IntKind.i64 h)]) fun x1 x2=>
  Ac (x2) <|
  Ab (x1) fun x3 x4=>
  Bj (x3) fun x5=>
  Ac (x4) <|
  A9 (x5)
   (
   some (A0.mk [PV.agg [PV.sc (Value.int IntKind.i64 (0:Int)),PV.lst false (1:Nat) (0:Nat) [],PV.lst false (1:Nat) (0:Nat) []],PV.sc (Value.int IntKind.i64 (9:Int))] []))
   (
   Ag (call (75:Nat) [PV.sc (Value.int IntKind.i64 leaf),PV.sc (Value.int IntKind.i64 h)]) fun x6 x7=>
   Ac (x7) <|
   Ab (x6) fun x8 x9=>
   Bj (x8) fun Cl=>
   Ac (x9) <|
   A9 (Cl)
    (
    some (A0.mk [PV.agg [PV.sc (Value.int IntKind.i64 (0:Int)),PV.lst false (1:Nat) (0:Nat) [],PV.lst false (1:Nat) (0:Nat) []],PV.sc (Value.int IntKind.i64 (9:Int))] []))
    (
    Ag (call (76:Nat) [PV.sc (Value.int IntKind.u64 seed),PV.sc (Value.int IntKind.i64 leaf),PV.sc (Value.int IntKind.u64 m)]) fun Cw Dl=>
    Ac (Dl) <|
    Ab (Cw) fun Dr Dk=>
    Fk ((1:Nat)) (Dr) fun D9 Ea En=>
    Ac (Dk) <|
    Ag (call (77:Nat) [PV.sc (Value.int IntKind.u64 seed),PV.sc (Value.int IntKind.i64 h)]) fun E2 Fg=>
    Ac (Fg) <|
    Ab (E2) fun Fp Hp=>
    fnK (Fp) fun Hb=>
    Ac (Hp) <|
    none))):=by kernel_rfl
end
section
open Go.IntKind (wrap)
set_option maxRecDepth 20000
open Go Go.RowKit
def G1:Vq:=⟨fun _=>False,fun _=>True,fun _ _ _ _=>trivial⟩
def noX:FuncId->Option (List PV->Option A0):=fun _=>none
theorem Apu:Acw G1 Tryz.prog (CX noX):=by
 intro f g args res h _;have h':(bif BQ.any (Nat.beq f) then none else (none:Option (List PV->Option A0)))=some g:=h;cases hb:BQ.any (Nat.beq f)<;>rw [hb] at h'<;>cases h'
noncomputable abbrev cl:Ah:=Ae (CX noX) Tryz.prog 2000 8
theorem ngT:NoNG Tryz.prog:=by
 have h:(Tryz.prog.funcs.toList.all fun fn=> !(fn.name == "runtime.NumGoroutine"))=true:=by kernel_rfl
 intro f fn hf;have:=List.all_eq_true.1 h fn (Array.mem_toList_iff.2 (Array.mem_of_getElem? hf))
 simpa using this
theorem PG:Tryz.prog.follows .mixedOrders=true:=by kernel_rfl
theorem Dg:∀f args res,cl f args=some res->C9 G1 Tryz.prog f args res:=fun f args res h=>Wm ngT PG Apu 8 f args res h
theorem Qu (w0:World)(X0:Fj):IZ Tryz.prog G1 w0 X0:=⟨ngT,fun _ _=>trivial,fun _ h=>h.elim⟩
def gl (f:Nat->Int)(n i:Nat):List Int:=(List.range i).map f++List.replicate (n-i) 0
theorem Ahx (f:Nat->Int){n i:Nat}(h:i<=n):(gl f n i).length=n:=by simp [gl];omega
theorem Ahi (f:Nat->Int){n i:Nat}(h:i<n):(gl f n i).set i (f i)=gl f n (i+1):=by
 unfold gl;rw [List.set_append_right _ _ (by simp),List.length_map,List.length_range,Nat.sub_self,show n-i=(n-(i+1))+1 by omega,List.replicate_succ,List.set_cons_zero,List.range_succ,List.map_append,ZJ]
 rfl
theorem Ach (f:Nat->Int)(n:Nat):gl f n n=(List.range n).map f:=by simp [gl]
theorem Adx (f:Nat->Int)(n:Nat):gl f n 0=List.replicate n 0:=by simp [gl]
abbrev Afl (yv:Value)(h seed:Int)(n:Nat)(m i:Int)(c:List PV):St:=
 ⟨lk [(0,.sc yv),(1,.iptr [.sc (.int .i64 h)] 0),(2,.iptr [.sc (.int .u64 seed)] 0),(4,.view 4 1 0 n),(13,.sc (.int .i64 m)),(14,.sc (.int .i64 i))],B7 [(4,.ar false c)]⟩
abbrev Afn (yv:Value)(h seed k:Int)(n m:Nat)(p i:Int)(c e:List PV):St:=
 ⟨lk [(0,.sc yv),(1,.iptr [.sc (.int .i64 h)] 0),(2,.iptr [.sc (.int .u64 seed)] 0),(4,.view 4 1 0 n),(6,.sc (.int .i64 k)),(7,.view 7 1 0 m),(40,.sc (.int .i64 p)),(41,.sc (.int .i64 i))],B7 [(4,.ar false c),(7,.ar false e)]⟩
theorem Aud (yv:Value)(h seed:Int){n i:Nat}(hn:n<=1000)(hi:i<n):
  OY 63 cl (sB (sB (sR (sL (sR BD))))) 24599 (Afl yv h seed n n i (Af .u64 (gl (fun (j:Nat)=>Ih seed (j:Int)) n i)))=some (0,Afl yv h seed n n ((i+1:Nat):Int) (Af .u64 (gl (fun (j:Nat)=>Ih seed (j:Int)) n (i+1)))):=by
 have pb:cl Mc [.sc (.int .u64 seed),.sc (.int .i64 i)]=_:=Af8 (xs:=noX) (fu:=2000) (d:=1) (by omega) seed i
 have w:wrap .i64 ((i:Int)+1)=((i+1:Nat):Int):=by rw [Al (by omega) (by omega)];omega
 have L:(Af .u64 (gl (fun (j:Nat)=>Ih seed (j:Int)) n i)).length=n:=by rw [Am,Ahx _ (by omega)]
 have hset:Bd (Af .u64 (gl (fun (j:Nat)=>Ih seed (j:Int)) n i)) [.sc (.int .u64 (Ih seed i))] i=Af .u64 (gl (fun (j:Nat)=>Ih seed (j:Int)) n (i+1)):=by
  rw [Ff (by omega),Kq]
  exact congrArg _ (Ahi (fun (j:Nat)=>Ih seed (j:Int)) hi)
 refine (Ag6 cl yv h seed n i n (Af .u64 (gl (fun (j:Nat)=>Ih seed (j:Int)) n i))).trans ?_
 simp (disch:=omega) only [Bx,Gy,B8,Br,pb,L,hset,w]
theorem At4 (yv:Value)(h seed:Int)(n:Nat)(c:List PV):
  OY 63 cl (sB (sB (sR (sL (sR BD))))) 24599 (Afl yv h seed n n n c)=some (1,Afl yv h seed n n n c):=
 (Ag6 cl yv h seed n n n c).trans (Dj _ _ _ (by omega))
theorem YA {yv:Value}{h seed:Int}{n:Nat}(hn:n<=1000):∀(r i nn:Nat),i+r=n->r<nn->∀{w0:World}{X0:Fj}{Y:Nat->Prop}{β:Bt}{a:Act}{w:World}{Q:Exit->Act->World->Prop},
  B4 63 w0 X0 Y β (Afl yv h seed n n i (Af .u64 (gl (fun (j:Nat)=>Ih seed (j:Int)) n i))) a w ->
  (∀a' w' β',B4 63 w0 X0 Y β' (Afl yv h seed n n n (Af .u64 (gl (fun (j:Nat)=>Ih seed (j:Int)) n n))) a' w'->Q (.exit 0) a' w')->Code.rounds Tryz.prog (sB (sB (sR (sL (sR BD))))) Q nn a w
 |_,_,0,_,h=>by omega
 |0,i,nn+1,hi,_=>by
  intro hs hQ;obtain rfl:i=n:=by omega
  rw [rounds_succ];exact Ee (Qu _ _) PG Dg hs (At4 yv h seed i _) fun a' w' β' h'=>hQ a' w' β' h'
 |r+1,i,nn+1,hi,hr=>by
  intro hs hQ;rw [rounds_succ];exact Ee (Qu _ _) PG Dg hs (Aud yv h seed hn (by omega)) fun a' w' β' h'=>YA hn r (i+1) nn (by omega) (by omega) h' hQ
def Eo (seed:Int)(n k:Nat):List Int:=(List.range n).map fun (j:Nat)=>B6 seed k (j:Int)
theorem KT (seed:Int)(n k:Nat):(Eo seed n k).length=n:=by simp [Eo]
theorem S8 (seed:Int){n k j:Nat}(h:j<n):(Eo seed n k)[j]?=some (B6 seed k j):=by simp [Eo,h]
theorem Aua (yv:Value)(h seed:Int){k m i:Nat}(hm:m<=1000)(hk:k<=1000)(hi:i<m):
  OY 63 cl (sB (sB (sR (sL (sR (sB (sL (sR (sB (sB (sR (sR (sR BD))))))))))))) 3298534883543 (Afn yv h seed k (2*m) m m i (Af .u64 (Eo seed (2*m) k)) (Af .u64 (gl (fun (j:Nat)=>B6 seed (k+1) (j:Int)) m i))) =
   some (0,Afn yv h seed k (2*m) m m ((i+1:Nat):Int) (Af .u64 (Eo seed (2*m) k)) (Af .u64 (gl (fun (j:Nat)=>B6 seed (k+1) (j:Int)) m (i+1)))):=by
 have e1:wrap .i64 ((2:Int)*i)=((2*i:Nat):Int):=by rw [Al (by omega) (by omega)];omega
 have e2:wrap .i64 (((2*i:Nat):Int)+1)=((2*i+1:Nat):Int):=by rw [Al (by omega) (by omega)];omega
 have e3:wrap .i64 ((k:Int)+1)=((k+1:Nat):Int):=by rw [Al (by omega) (by omega)];omega
 have w:wrap .i64 ((i:Int)+1)=((i+1:Nat):Int):=by rw [Al (by omega) (by omega)];omega
 have a1:(Af .u64 (Eo seed (2*m) k)).getD (2*i) .top=.sc (.int .u64 (B6 seed k ((2*i:Nat):Int))):=Vf (S8 seed (by omega))
 have a2:(Af .u64 (Eo seed (2*m) k)).getD (2*i+1) .top=.sc (.int .u64 (B6 seed k ((2*i+1:Nat):Int))):=Vf (S8 seed (by omega))
 have pn:cl Ml [.sc (.int .i64 ((k+1:Nat):Int)),.sc (.int .u64 (B6 seed k ((2*i:Nat):Int))),.sc (.int .u64 (B6 seed k ((2*i+1:Nat):Int)))]=some ⟨[.sc (.int .u64 (B6 seed (k+1) (i:Int)))],[]⟩:=by
  have:=EQ (xs:=noX) (fu:=2000) (d:=2) (by omega) ((k+1:Nat):Int) (B6 seed k ((2*i:Nat):Int)) (B6 seed k ((2*i+1:Nat):Int))
  rw [show B6 seed (k+1) (i:Int)=Mt ((k+1:Nat):Int) (B6 seed k ((2*i:Nat):Int)) (B6 seed k ((2*i+1:Nat):Int)) by
   rw [B6];congr 2<;>omega]
  exact this
 have L:(Af .u64 (gl (fun (j:Nat)=>B6 seed (k+1) (j:Int)) m i)).length=m:=by rw [Am,Ahx _ (by omega)]
 have hset:Bd (Af .u64 (gl (fun (j:Nat)=>B6 seed (k+1) (j:Int)) m i)) [.sc (.int .u64 (B6 seed (k+1) (i:Int)))] i=Af .u64 (gl (fun (j:Nat)=>B6 seed (k+1) (j:Int)) m (i+1)):=by
  rw [Ff (by omega),Kq]
  exact congrArg _ (Ahi (fun (j:Nat)=>B6 seed (k+1) (j:Int)) hi)
 refine (Aiq cl yv h seed k m i (2*m) m _ _).trans ?_;simp (disch:=omega) only [Bx,Gy,B8,Br,e1,e2,e3,a1,a2,pn,L,hset,w]
theorem Atb (yv:Value)(h seed k:Int)(n m:Nat)(c e:List PV):
  OY 63 cl (sB (sB (sR (sL (sR (sB (sL (sR (sB (sB (sR (sR (sR BD))))))))))))) 3298534883543 (Afn yv h seed k n m m m c e)=some (5,Afn yv h seed k n m m m c e):=
 (Aiq cl yv h seed k m m n m c e).trans (Dj _ _ _ (by omega))
theorem YR {yv:Value}{h seed:Int}{k m:Nat}(hm:m<=1000)(hk:k<=1000):∀(r i nn:Nat),i+r=m->r<nn->∀{w0:World}{X0:Fj}{Y:Nat->Prop}{β:Bt}{a:Act}{w:World}{Q:Exit->Act->World->Prop},
  B4 63 w0 X0 Y β (Afn yv h seed k (2*m) m m i (Af .u64 (Eo seed (2*m) k)) (Af .u64 (gl (fun (j:Nat)=>B6 seed (k+1) (j:Int)) m i))) a w ->
  (∀a' w' β',B4 63 w0 X0 Y β' (Afn yv h seed k (2*m) m m m (Af .u64 (Eo seed (2*m) k)) (Af .u64 (gl (fun (j:Nat)=>B6 seed (k+1) (j:Int)) m m))) a' w'->Q (.exit 4) a' w') ->
  Code.rounds Tryz.prog (sB (sB (sR (sL (sR (sB (sL (sR (sB (sB (sR (sR (sR BD))))))))))))) Q nn a w
 |_,_,0,_,h=>by omega
 |0,i,nn+1,hi,_=>by
  intro hs hQ;obtain rfl:i=m:=by omega
  rw [rounds_succ];exact Ee (Qu _ _) PG Dg hs (Atb yv h seed k (2*i) i _ _) fun a' w' β' h'=>hQ a' w' β' h'
 |r+1,i,nn+1,hi,hr=>by
  intro hs hQ;rw [rounds_succ];exact Ee (Qu _ _) PG Dg hs (Aua yv h seed hm hk (by omega)) fun a' w' β' h'=>YR hm hk r (i+1) nn (by omega) (by omega) h' hQ
end
section
open Go.IntKind (wrap)
set_option maxRecDepth 20000
open Go Go.RowKit
noncomputable abbrev NT:Code:=sB (sB (sR (sR (sR BD))))
noncomputable abbrev lvX:Code:=sB (sL (sR NT))
theorem Ao0:NT=.seq (.seq (.region 7 (Nl (sL (sL NT))) false) (sR (sL NT))) (.seq (.block 3 lvX) (sR (sR NT))):=by kernel_rfl
theorem Apc:lvX=.seq (sL lvX) (.seq (.seq (sL (sL (sR lvX))) (.block 4 (.loop (sB (sB (sR (sL (sR lvX)))))))) (sR (sR lvX))):=by kernel_rfl
theorem Aqa:BD=.seq (sL BD) (.seq (.seq (sL (sL (sR BD))) (.block 0 (.loop (sB (sB (sR (sL (sR BD)))))))) (.seq (sL (sR (sR BD))) (.block 2 (.loop NT)))):=by kernel_rfl
theorem DI {F:Fence}{n:Nat}{P:Program}{c c':Code}{Q:Exit->Act->World->Prop}{a:Act}{w:World}(e:c=c')(h:c'.wpIn F n P Q a w):c.wpIn F n P Q a w:=e ▸ h
abbrev lvS (yv:Value)(h seed:Int)(n:Nat)(k:Int)(c:List PV):St:=
 ⟨lk [(0,.sc yv),(1,.iptr [.sc (.int .i64 h)] 0),(2,.iptr [.sc (.int .u64 seed)] 0),(4,.view 4 1 0 n),(6,.sc (.int .i64 k))],B7 [(4,.ar false c)]⟩
abbrev SE (yv:Value)(h seed:Int)(n:Nat)(k:Int)(c:List PV):St:=
 ⟨lk [(0,.sc yv),(1,.iptr [.sc (.int .i64 h)] 0),(2,.iptr [.sc (.int .u64 seed)] 0),(4,.view 4 1 0 n),(6,.sc (.int .i64 k)),(24,.sc yv),(25,.sc (.int .i64 k)),(26,.view 4 1 0 n)],B7 [(4,.ar false c)]⟩
abbrev Atx (yv:Value)(h seed:Int)(n:Nat)(k:Int)(c:List PV)(b:Bool):St:=
 ⟨lk [(0,.sc yv),(1,.iptr [.sc (.int .i64 h)] 0),(2,.iptr [.sc (.int .u64 seed)] 0),(4,.view 4 1 0 n),(6,.sc (.int .i64 k)),(27,.sc (.bool b))],B7 [(4,.ar false c)]⟩
def lvM (seed:Int)(h:Nat)(pre:List Nat)(k:Nat)(args:Array Value)(Z:Nat->Prop)(A:World):Prop:=
 k<=h∧pre=List.range k∧∃b o cap,args = #[.int .i64 k,.slice (some ⟨b,o,none⟩) (2 ^ (h-k):Nat) cap]∧2 ^ (h-k)<=cap∧b<A.heap.size∧¬Z b∧∀j,j<2 ^ (h-k)->A.cell? ⟨b,o+j,none⟩=some (.int .u64 (B6 seed k j))
theorem Ahv {seed:Int}{h:Nat}{pre:List Nat}{k:Nat}{args:Array Value}{Z:Nat->Prop}{A B:World}(hm:lvM seed h pre k args Z A)(hs:A.heap.size<=B.heap.size)(hk:∀b,b<A.heap.size->¬Z b->B.heap[b]?=A.heap[b]?):lvM seed h pre k args Z B:=by
 obtain ⟨h0,hpr,b,o,cap,h1,h2,h3,h4,h5⟩:=hm;exact ⟨h0,hpr,b,o,cap,h1,h2,by omega,h4,fun j hj=>(World.cell?_of_block (a:=⟨b,o+j,none⟩) (hk b h3 h4)).trans (h5 j hj)⟩
theorem Ahd {seed:Int}{h:Nat}{pre:List Nat}{k:Nat}{args:Array Value}{Z:Nat->Prop}{A:World}(hm:lvM seed h pre k args Z A):args.size=2:=by
 obtain ⟨h0,_,b,o,cap,h1,_⟩:=hm;rw [h1];rfl
theorem At2:∃ty pos aft x,(Nl (sL (sL NT)))[3]?=some { dst:=some 27,op:=.call { callee:=.value (.tmp 24),args:= #[.tmp 25,.tmp 26],argTypes:=x },type:=ty,pos:=pos,after:=aft,guard:=none }:=
 ⟨_,_,_,_,rfl⟩
theorem Mo {k:IntKind}{l:List Int}{i:Nat}{n:Int}(h:l[i]?=some n):(Af k l)[i]?=some (.sc (.int k n)):=by
 have h1:=Vf (k:=k) h;have hlt:i<(Af k l).length:=by rw [Am];exact (List.getElem?_eq_some_iff.1 h).1
 rw [List.getD_eq_getElem?_getD,List.getElem?_eq_getElem hlt] at h1;rw [List.getElem?_eq_getElem hlt];exact congrArg some h1
section
variable {seed:Int} {h l:Nat} {w0:World} {X0:Fj} {Z:Nat->Prop} {β:Bt} {a:Act} {w:World}
theorem Ak6 {yv:Value}{k n:Nat}{c:List PV}{hi:Int}(hs:B4 63 w0 X0 Z β (SE yv hi seed n k c) a w) (hn:0<n):
  a.tmps.getD 24 undef=yv∧a.tmps.getD 25 undef=.int .i64 k∧∃b o cap,β 4=some (b,o)∧a.tmps.getD 26 undef=.slice (some ⟨b,o,none⟩) n cap∧n<=cap∧b<w.heap.size∧RA w (C1 (B7 [(4,.ar false c)]) β Z) ⟨b,o,none⟩ c:=by
 have h24:=hs.tms 24 (by decide)
 have h25:=hs.tms 25 (by decide)
 have h26:=hs.tms 26 (by decide)
 have hb:=hs.box 4 _ (rfl:_=some (Bn.ar false c));refine ⟨(P5 h24),(P5 h25),?_⟩;rcases (show Cc w (C1 (B7 [(4,.ar false c)]) β Z) β (.view 4 1 0 n) (a.tmps.getD 26 undef) from h26) with ⟨_,_,h3,_⟩|⟨b,o,x,cap,h1,h2,h3,h4,h5,h6⟩
 ·omega
 ·rcases hb with ⟨h7,_⟩|⟨b',o',h7,h8,_⟩
  ·rw [h1] at h7;cases h7
  ·rw [h1] at h7;cases h7;have hx:x=o:=by omega
   subst hx;exact ⟨b,x,cap,h1,h2,h4,h6,h8⟩
abbrev Atu (yv:Value)(h seed:Int)(n:Nat)(k:Int)(c:List PV)(q:Bool):St:=
 ⟨lk [(0,.sc yv),(1,.iptr [.sc (.int .i64 h)] 0),(2,.iptr [.sc (.int .u64 seed)] 0),(4,.view 4 1 0 n),(6,.sc (.int .i64 k)),(32,.sc (.bool q))],B7 [(4,.ar false c)]⟩
theorem Ads {yv:Value}{hi seed:Int}{n:Nat}{k:Int}{c:List PV}:∀id cc,(SE yv hi seed n k c).hp id≠some (.st cc):=by
 intro id cc e;rcases Tn [(4,Bn.ar false c)] id with h1|⟨q,hq,h1,h2⟩
 ·rw [show (SE yv hi seed n k c).hp id=B7 [(4,Bn.ar false c)] id from rfl,h1] at e;cases e
 ·simp at hq;subst hq;rw [show (SE yv hi seed n k c).hp id=B7 [(4,Bn.ar false c)] id from rfl,h2] at e
  cases e
theorem Ald {hi:Int}{yv:Value}{n:Nat}{k:Int}{c:List PV}{Z':Nat->Prop}{B:World}(b:Bool)(hs:B4 63 w0 X0 Z β (SE yv hi seed n k c) a w) (ht:KV Z Z' w B):
  B4 63 B (Amj (SE yv hi seed n k c) β) Z' β (Atx yv hi seed n k c b) (a.put (some 27) (.bool b)) B:=by
 have h1:=(hs.rebase ht Ads).put (d:=some 27) (v:=.sc (.bool b)) (val:=.bool b) rfl (A7.sc _) (by simp [Bz,Cf,Ay])
 refine h1.pick _ _ ?_ ?_ ?_ ?_ (fun _ h=>h.elim)
 ·intro q hq;simp only [List.mem_cons,List.not_mem_nil,or_false] at hq;rcases hq with rfl|rfl|rfl|rfl|rfl|rfl<;>rfl
 ·intro q hq;simp only [List.mem_cons,List.not_mem_nil,or_false] at hq;rcases hq with rfl<;>rfl
 ·intro q hq id hid;simp only [List.mem_cons,List.not_mem_nil,or_false] at hq;rcases hq with rfl|rfl|rfl|rfl|rfl|rfl<;>simp [Bz,Cf,Ay] at hid
  subst hid;simp [B7]
 ·intro q hq cells e;simp only [List.mem_cons,List.not_mem_nil,or_false] at hq;rcases hq with rfl;cases e
theorem Ami (hh:h<=4){J Jx:(Nat->Prop)->List Nat->World->Prop} (hJ:∀Z pre A B,J Z pre A->Yp Z A B->J Z pre B)(hJx:∀Z pre A B,Jx Z pre A->Yp Z A B->Jx Z pre B)
  (hY:∀Z pre x args A,J Z pre A->lvM seed h pre x args Z A->YieldAt Fence.wide 0 Tryz.prog l args A fun e B=>∃Z',KV Z Z' A B∧((e=.returned (.bool true)∧J Z' (pre++[x]) B)∨(e=.returned (.bool false)∧Jx Z' (pre++[x]) B)))
  {k r:Nat} (hk:k+r=h) (hs:B4 63 w0 X0 Z β (lvS (.func (.yield l) #[] #[]) h seed (2 ^ r) k (Af .u64 (Eo seed (2 ^ r) k))) a w) (hd:∀b,Z b->¬X0.X b) (hj:J Z (List.range k) w0) {Q:Exit->Act->World->Prop}
  (hgo:k<h->∀w2 X2 Z' β' a' w',B4 63 w2 X2 Z' β' (lvS (.func (.yield l) #[] #[]) h seed (2 ^ r) k (Af .u64 (Eo seed (2 ^ r) k))) a' w'->(∀b,Z' b->¬X2.X b)->J Z' (List.range (k+1)) w2->Q .normal a' w')
  (hend:∀a' w',a'.defers=[]->(∃Z xs,(xs=List.range (h+1)∧J Z xs w')∨((∃k,xs=List.range (k+1))∧Jx Z xs w'))->Q (.exit 2) a' w'):
  (Code.seq (.region 7 (Nl (sL (sL NT))) false) (sR (sL NT))).wpIn Fence.wide 0 Tryz.prog Q a w:=by
 have hp:0<2 ^ r:=Nat.pos_of_ne_zero (by simp)
 refine wpIn_seq (wpIn_region ?_);have hl:List.range (Nl (sL (sL NT))).size=[0,1,2]++[3,4,5,6,7,8]:=by kernel_rfl
 rw [hl];refine Mz (ro:=none) (C:=CB) (call:=cl) (r:=((0:Nat),SE (.func (.yield l) #[] #[]) h seed (2 ^ r) k (Af .u64 (Eo seed (2 ^ r) k)))) (Qu _ _) Dg ?_ [0,1,2] (List.take 3 (Nl (sL (sL NT))).toList) (by kernel_rfl) ?_ (by kernel_rfl) hs (Apx cl _ h seed k (2 ^ r) _)
 rotate_left
 ·intro j i hj
  match j,hj with
  |0,hj=>cases hj;rfl
  |1,hj=>cases hj;rfl
  |2,hj=>cases hj;rfl
 intro s' a1 w1 β1 hk1 hs1;obtain ⟨β2,s2,hk2,hs2⟩:=Do hs1 hk1;cases hk2;obtain ⟨v24,v25,b,o,cap,hb,v26,hcap,hbl,hrd⟩:=Ak6 hs2 hp;have hjw:J Z (List.range k) w1:=hJ Z _ _ _ hj (hs2.stay hd);have hkr:h-k=r:=by omega
 have hm:lvM seed h (List.range k) k #[.int .i64 k,.slice (some ⟨b,o,none⟩) (2 ^ r:Nat) cap] Z w1:=by
  refine ⟨by omega,rfl,b,o,cap,by rw [hkr],by rw [hkr];exact hcap,hbl,fun hz=>hs2.Yx b hz ⟨4,o,by trivial,hb⟩,fun j hj=>?_⟩
  rw [hkr] at hj;obtain ⟨v,hv,_,hv2⟩:=hrd j (.sc (.int .u64 (B6 seed k j))) (Mo (S8 seed hj));rw [D6] at hv;rw [hv,A7.val hv2]
 obtain ⟨fn,tmps,assign,body,hy,hR⟩:=hY Z _ k _ w1 hjw hm;obtain ⟨ty,pos,aft,x,ho⟩:=At2;rw [wpOpsIn_cons];unfold wpOpIn;rw [ho];simp only [Region.wanted,if_true]
 have run:(execOp a1.eval { dst:=some 27,op:=.call { callee:=.value (.tmp 24),args:= #[.tmp 25,.tmp 26],argTypes:=x },type:=ty,pos:=pos,after:=aft,guard:=none }).run Tryz.prog w1=.ok (.round l fn tmps assign body) w1:=by
  have e24:a1.eval (.tmp 24)=.func (.yield l) #[] #[]:=v24;have e25:a1.eval (.tmp 25)=.int .i64 k:=v25;have e26:a1.eval (.tmp 26)=.slice (some ⟨b,o,none⟩) (2 ^ r:Nat) cap:=v26;refine Ad5 rfl rfl e24 ?_;rw [←hy];simp only [List.map_toArray,Zzw,List.map_nil,e25,e26]
 refine ⟨fun _ _=>trivial,?_⟩
 rw [show Oper.semAt (WF none).round a1.eval { dst:=some 27,op:=.call { callee:=.value (.tmp 24),args:= #[.tmp 25,.tmp 26],argTypes:=x },type:=ty,pos:=pos,after:=aft,guard:=none }=execOp a1.eval { dst:=some 27,op:=.call { callee:=.value (.tmp 24),args:= #[.tmp 25,.tmp 26],argTypes:=x },type:=ty,pos:=pos,after:=aft,guard:=none } from rfl,run]
 refine ⟨(fun h=>by cases h),(WG hR).mono ?_⟩
 have rest:∀(e:Bool) (B:World) (Z':Nat->Prop) (q:Bool),KV Z Z' w1 B->(Nx CB Tryz.prog 63 cl (Nl (sL (sL NT))) (List.drop 4 (Nl (sL (sL NT))).toList) (Atx (.func (.yield l) #[] #[]) h seed (2 ^ r) k (Af .u64 (Eo seed (2 ^ r) k)) e) (fun s=>Lm 63 4294967383 s fun s'=>some (0,s'))=some ((0:Nat),Atu (.func (.yield l) #[] #[]) h seed (2 ^ r) k (Af .u64 (Eo seed (2 ^ r) k)) q)) ->
   (∀a' w' β',B4 63 B (Amj (SE (.func (.yield l) #[] #[]) h seed (2 ^ r) k (Af .u64 (Eo seed (2 ^ r) k))) β2) Z' β' (lvS (.func (.yield l) #[] #[]) h seed (2 ^ r) k (Af .u64 (Eo seed (2 ^ r) k))) a' w'->if q=true then Q .normal a' w' else Q (.exit 2) a' w') ->
   wpOpsIn (WF none) 0 Tryz.prog (Nl (sL (sL NT))) (Exit.then ((sR (sL NT)).wpIn Fence.wide 0 Tryz.prog Q) Q) [4,5,6,7,8] (a1.put (some 27) (.bool e)) B:=by
  intro e B Z' q ht heq hq;have h4:=Ald e hs2 ht;show wpOpsIn _ _ _ _ _ ([4,5,6,7,8]++[]) _ _;refine Mz (ro:=none) (C:=CB) (call:=cl) (Qu _ _) Dg ?_ [4,5,6,7,8] (List.drop 4 (Nl (sL (sL NT))).toList) (by kernel_rfl) ?_ (by kernel_rfl) h4 heq
  rotate_left
  ·intro j i hj
   match j,hj with
   |0,hj=>cases hj;rfl
   |1,hj=>cases hj;rfl
   |2,hj=>cases hj;rfl
   |3,hj=>cases hj;rfl
   |4,hj=>cases hj;rfl
  intro s' a5 w5 β5 hk5 hs5;obtain ⟨β6,s6,hk6,hs6⟩:=Do hs5 hk5;cases hk6;show (sR (sL NT)).wpIn Fence.wide 0 Tryz.prog Q a5 w5;cases q
  ·exact wpIn_wide.2 (Ee (Qu _ _) PG Dg hs6 ((Aja cl _ h seed k (2 ^ r) _ false).trans rfl) fun a' w' β' h'=>hq a' w' β' h')
  ·exact wpIn_wide.2 (Ee (Qu _ _) PG Dg hs6 ((Aja cl _ h seed k (2 ^ r) _ true).trans rfl) fun a' w' β' h'=>hq a' w' β' h')
 have hown:∀{B:World} {Z':Nat->Prop} {β':Bt} {s':St} {a':Act} {w':World},KV Z Z' w1 B->∀b,Z' b->¬(Amj (SE (.func (.yield l) #[] #[]) h seed (2 ^ r) k (Af .u64 (Eo seed (2 ^ r) k))) β2).X b:=by
  intro B Z' _ _ _ _ ht b hz;exact (hs2.rebase ht Ads).Yx b hz
 have er:List.range k++[k]=List.range (k+1):=(List.range_succ).symm
 rintro e B ⟨Z',ht,(⟨rfl,hj2⟩|⟨rfl,hj2⟩)⟩
 ·rw [er] at hj2;refine rest true B Z' (decide ((k:Int)<(h:Int))) ht (Ak9 cl _ h seed k (2 ^ r) _) fun a' w' β' h'=>?_
  have hdd:=hown (β':=β) (s':=s') (a':=a) (w':=w) ht;by_cases hlt:k<h
  ·rw [Bv (by simp;omega)]
   exact hgo hlt B _ Z' β' a' w' h' hdd hj2
  ·rw [A5 (by simp;omega)]
   exact hend a' w' h'.dfr ⟨Z',List.range (k+1),.inl ⟨by rw [show k=h by omega],hJ Z' _ _ _ hj2 (h'.stay hdd)⟩⟩
 ·refine rest false B Z' false ht (Akp cl _ h seed k (2 ^ r) _) fun a' w' β' h'=>?_
  have hdd:=hown (β':=β) (s':=s') (a':=a) (w':=w) ht;rw [A5 (by simp)]
  exact hend a' w' h'.dfr ⟨Z',_,.inr ⟨⟨k,er⟩,hJx Z' _ _ _ hj2 (h'.stay hdd)⟩⟩
theorem RF (hh:h<=4){J Jx:(Nat->Prop)->List Nat->World->Prop} (hJ:∀Z pre A B,J Z pre A->Yp Z A B->J Z pre B)(hJx:∀Z pre A B,Jx Z pre A->Yp Z A B->Jx Z pre B)
  (hY:∀Z pre x args A,J Z pre A->lvM seed h pre x args Z A->YieldAt Fence.wide 0 Tryz.prog l args A fun e B=>∃Z',KV Z Z' A B∧((e=.returned (.bool true)∧J Z' (pre++[x]) B)∨(e=.returned (.bool false)∧Jx Z' (pre++[x]) B)))
  {Q:Exit->Act->World->Prop} (hend:∀a' w',a'.defers=[]->(∃Z xs,(xs=List.range (h+1)∧J Z xs w')∨((∃k,xs=List.range (k+1))∧Jx Z xs w'))->Q (.exit 2) a' w'):
  ∀(r k nn:Nat),k+r=h->r<nn->∀{w0:World} {X0:Fj} {Z:Nat->Prop} {β:Bt} {a:Act} {w:World},
   B4 63 w0 X0 Z β (lvS (.func (.yield l) #[] #[]) h seed (2 ^ r:Nat) k (Af .u64 (Eo seed (2 ^ r) k))) a w->(∀b,Z b->¬X0.X b)->J Z (List.range k) w0->Code.roundsIn Fence.wide 0 Tryz.prog NT Q nn a w
 |_,_,0,_,h=>by omega
 |r,k,nn+1,hk,hr=>by
  intro hs hd hj;rw [roundsIn_succ];refine DI Ao0 (wpIn_seq (Ami hh hJ hJx hY hk hs hd hj ?_ fun a' w' h1 h2=>hend a' w' h1 h2))
  intro hlt w2 X2 Z' β' a' w' hs2 hd2 hj2
  match r,hk,hr,hs2 with
  |0,hk,hr,hs2=>omega
  |r+1,hk,hr,hs2=>
   have hp:2 ^ (r+1)=2*2 ^ r:=by rw [Nat.pow_succ];omega
   have hle:2 ^ r<=8:=by
    have:2 ^ r<=2 ^ 3:=Nat.pow_le_pow_right (by omega) (by omega)
    omega
   rw [hp] at hs2;show (Code.seq (.block 3 lvX) (sR (sR NT))).wpIn Fence.wide 0 Tryz.prog _ a' w';refine wpIn_seq (wpIn_block (DI Apc (wpIn_seq (wpIn_wide.2 (Ee (Qu _ _) PG Dg hs2 (L:=215) (t:=0) (s1:=⟨lk [(0,.sc (.func (.yield l) #[] #[])),(1,.iptr [.sc (.int .i64 h)] 0),(2,.iptr [.sc (.int .u64 seed)] 0),(4,.view 4 1 0 (2*2 ^ r)),(6,.sc (.int .i64 k)),(7,.view 7 1 0 (2 ^ r))],B7 [(4,.ar false (Af .u64 (Eo seed (2*2 ^ r) k))),(7,.ar false (Af .u64 (List.replicate (2 ^ r) 0)))]⟩) ?_ ?_)))))
   ·have w2:wrap .i64 (Int.tdiv ((2*2 ^ r:Nat):Int) 2)=((2 ^ r:Nat):Int):=by
     rw [Int.tdiv_eq_ediv_of_nonneg (by omega),Al (by omega) (by omega)];omega
    refine (Arx cl _ h seed k (2*2 ^ r) _).trans ?_;simp (disch:=omega) only [Bx,Gy,w2,LZ]
   intro a3 w3 β3 hs3;refine wpIn_seq (wpIn_seq (wpIn_wide.2 (Ee (Qu _ _) PG Dg hs3 (An8 cl _ h seed k _ _ _ _) ?_)));intro a4 w4 β4 hs4;refine wpIn_block (wpIn_wide.2 (wp_loop_rounds 1000 (YR (k:=k) (m:=2 ^ r) (by omega) (by omega) (2 ^ r) 0 1000 (by omega) (by omega) (by rw [Adx];exact hs4) ?_)))
   intro a5 w5 β5 hs5;show (sR (sR lvX)).wpIn Fence.wide 0 Tryz.prog _ a5 w5;refine wpIn_wide.2 (Ee (Qu _ _) PG Dg hs5 (Arf cl _ h seed k _ _ _ _ _ _) ?_);intro a6 w6 β6 hs6;show (sR (sR NT)).wpIn Fence.wide 0 Tryz.prog _ a6 w6;refine wpIn_wide.2 (Ee (Qu _ _) PG Dg hs6 (L:=87) (t:=0) (s1:=lvS (.func (.yield l) #[] #[]) h seed (2 ^ r:Nat) ((k+1:Nat):Int) (Af .u64 (Eo seed (2 ^ r) (k+1)))) ?_ ?_)
   ·have w1:wrap .i64 ((k:Int)+1)=((k+1:Nat):Int):=by rw [Al (by omega) (by omega)];omega
    refine (Aq3 cl _ h seed k _ _).trans ?_;simp only [Bx,w1];rw [Ach];rfl
   intro a7 w7 β7 hs7;exact RF hh hJ hJx hY hend r (k+1) nn (by omega) (by omega) hs7 hd2 hj2
end
end
section
open Go.IntKind (wrap)
set_option maxRecDepth 20000
open Go Go.RowKit
def noL:Fj:={ X:=fun _=>False,L:=fun _ _=>False,pn:=fun _=>False,pt:=fun _=>none,p8:=fun _ h=>h.elim }
theorem B4.init {N:Nat}{W:World}{Z0:Nat->Prop}(l:List (Nat × PV)) (a:Act)(hd:a.defers=[]) (hsz:a.tmps.size=N)(hlt:∀q∈l,q.1<N)(hv:∀q∈l,Dw W Z0 (fun _=>none) q.2 (a.tmps.getD q.1 undef)) (hr:∀q∈l,Bz q.2=[]) (hZ:∀b,Z0 b->b<W.heap.size):
  B4 N W noL Z0 (fun _=>none) ⟨lk l,B7 []⟩ a W:=by
 have hA:∀b,b<W.heap.size->C1 (B7 []) (fun _=>none) Z0 b->Z0 b:=fun b _ hb=>hb.elim (fun ⟨_,_,h,_⟩=>(h:Cg none).elim) id
 have hst:Cb Z0 W W:=⟨Nat.le_refl _,fun _ _ _=>rfl,fun _ _=>Nat.le_refl _⟩
 refine ⟨hd,hsz,fun i hi=>?_,fun i hi=>?_,fun id bx e=>(by cases e),fun id id' b o o' h=>(h:Cg none).elim,fun id b o h=>(h rfl).elim,fun i hi id hid=>?_,fun id c e=>(by cases e),fun b ⟨_,_,h,_⟩=>(h:Cg none).elim,fun id bx b o e=>(by cases e),
  fun i hi=>hi.elim,fun id c b o e=>(by cases e),fun b hz ⟨_,_,h,_⟩=>(h:Cg none).elim,hZ,⟨rfl,rfl,rfl,⟨Nat.le_refl _,fun _ _ _=>rfl,fun _ _=>Nat.le_refl _⟩,fun _ _ _ _=>⟨rfl,rfl⟩⟩⟩
 ·rcases O7 l i with e|⟨q,hq,h1,h2⟩
  ·exact e
  ·have:=hlt q hq;omega
 ·show Dw W (C1 (B7 []) (fun _=>none) Z0) (fun _=>none) (lk l i) _
  rcases O7 l i with e|⟨q,hq,h1,h2⟩
  ·rw [e];exact A7.top _
  ·rw [h2,←h1];exact (hv q hq).step hst hA fun _ _=>rfl
 ·rcases O7 l i with e|⟨q,hq,h1,h2⟩
  ·rw [show (St.mk (lk l) (B7 [])).tm i=lk l i from rfl,e] at hid;simp [Bz,Cf,Ay] at hid
  ·rw [show (St.mk (lk l) (B7 [])).tm i=lk l i from rfl,h2,hr q hq] at hid;cases hid
def Am0 (seed:Int)(h Bh Bs:Nat)(Z0:Nat->Prop)(W:World):Prop:=
 W.cell? ⟨Bh,0,none⟩=some (.int .i64 h)∧W.cell? ⟨Bs,0,none⟩=some (.int .u64 seed)∧Bh<W.heap.size∧Bs<W.heap.size∧¬Z0 Bh∧¬Z0 Bs
theorem Ann {h:Nat}(hh:h<=4):Hc .i64 1 (h:Int)=((2 ^ h:Nat):Int):=by
 have:h=0∨h=1∨h=2∨h=3∨h=4:=by omega
 rcases this with rfl|rfl|rfl|rfl|rfl<;>decide
theorem Ale {seed:Int}{h Bh Bs:Nat}{Z0:Nat->Prop}{W:World}{yv:Value}(hP:Am0 seed h Bh Bs Z0 W)(hZ:∀b,Z0 b->b<W.heap.size):
  B4 63 W noL Z0 (fun _=>none) ⟨lk [(0,.sc yv),(1,.iptr [.sc (.int .i64 h)] 0),(2,.iptr [.sc (.int .u64 seed)] 0)],B7 []⟩ { tmps:=(yv::Value.pointer (some ⟨Bh,0,none⟩)::Value.pointer (some ⟨Bs,0,none⟩)::List.replicate 60 undef).toArray,defers:=[] } W:=by
 obtain ⟨p1,p2,p3,p4,p5,p6⟩:=hP;refine B4.init _ _ rfl (by simp) ?_ ?_ ?_ hZ
 ·intro q hq;simp only [List.mem_cons,List.not_mem_nil,or_false] at hq;rcases hq with rfl|rfl|rfl<;>simp
 ·intro q hq;simp only [List.mem_cons,List.not_mem_nil,or_false] at hq;rcases hq with rfl|rfl|rfl
  ·exact A7.sc _
  ·refine ⟨⟨Bh,0,none⟩,rfl,rfl,p3,p5,fun j c hj=>?_⟩
   match j,hj with
   |0,hj=>cases hj;exact ⟨_,p1,rfl,A7.sc _⟩
  ·refine ⟨⟨Bs,0,none⟩,rfl,rfl,p4,p6,fun j c hj=>?_⟩
   match j,hj with
   |0,hj=>cases hj;exact ⟨_,p2,rfl,A7.sc _⟩
 ·intro q hq;simp only [List.mem_cons,List.not_mem_nil,or_false] at hq;rcases hq with rfl|rfl|rfl<;>rfl
theorem Alv {seed:Int}{h Bh Bs:Nat}(hh:h<=4):Anf Tryz.prog 107 #[.pointer (some ⟨Bh,0,none⟩),.pointer (some ⟨Bs,0,none⟩)] (lvM seed h) (fun xs=>xs=List.range (h+1)) (fun xs=>∃k,xs=List.range (k+1)) (Am0 seed h Bh Bs):=by
 intro l J Jx W Z0 hZ hP hJ hJx hY h0;obtain ⟨p1,p2,p3,p4,p5,p6⟩:=hP;refine callsIn_wide.1 (callsIn_of_wp (F:=Fence.wide) (n:=0) Tryz.func107 rfl trivial ?_ rfl);show BD.wpIn _ _ _ _ _ _;have t1:(({ tmps:=(#[Value.func (.yield l) #[] #[]] ++ #[Value.pointer (some ⟨Bh,0,none⟩),Value.pointer (some ⟨Bs,0,none⟩)])++Array.replicate (Tryz.f107.ntmps-(#[Value.func (.yield l) #[] #[]] ++ #[Value.pointer (some ⟨Bh,0,none⟩),Value.pointer (some ⟨Bs,0,none⟩)]).size) undef,defers:=[] }:Act))={ tmps:=(Value.func (.yield l) #[] #[]::Value.pointer (some ⟨Bh,0,none⟩)::Value.pointer (some ⟨Bs,0,none⟩)::List.replicate 60 undef).toArray,defers:=[] }:=by kernel_rfl
 rw [t1];have i0:=Ale (seed:=seed) (h:=h) (Z0:=Z0) (yv:=.func (.yield l) #[] #[]) ⟨p1,p2,p3,p4,p5,p6⟩ hZ;generalize ({ tmps:=(Value.func (.yield l) #[] #[]::Value.pointer (some ⟨Bh,0,none⟩)::Value.pointer (some ⟨Bs,0,none⟩)::List.replicate 60 undef).toArray,defers:=[] }:Act)=a0 at i0 ⊢
 have hle:2 ^ h<=16:=by
  have:2 ^ h<=2 ^ 4:=Nat.pow_le_pow_right (by omega) hh
  omega
 refine DI Aqa (wpIn_seq (wpIn_wide.2 (Ee (Qu _ _) PG Dg i0 (L:=23) (t:=0)
  (s1:=⟨lk [(0,.sc (.func (.yield l) #[] #[])),(1,.iptr [.sc (.int .i64 h)] 0),(2,.iptr [.sc (.int .u64 seed)] 0),(4,.view 4 1 0 (2 ^ h))],B7 [(4,.ar false (Af .u64 (List.replicate (2 ^ h) 0)))]⟩) ?_ ?_)))
 ·refine (Aob cl _ h seed).trans ?_;have e1:=Ann hh;have e2:(0:Int)<=h:=by omega
  generalize 2 ^ h=n at hle e1 ⊢;simp (disch:=omega) only [Bx,e1,Gy,LZ]
 intro a1 w1 β1 h1;refine wpIn_seq (wpIn_seq (wpIn_wide.2 (Ee (Qu _ _) PG Dg h1 (Ao1 cl _ h seed _ _) ?_)));intro a2 w2 β2 h2;refine wpIn_block (wpIn_wide.2 (wp_loop_rounds 1000 (YA (n:=2 ^ h) (by omega) (2 ^ h) 0 1000 (by omega) (by omega) (by rw [Adx];exact h2) ?_)))
 intro a3 w3 β3 h3;show (Code.seq (sL (sR (sR BD))) (.block 2 (.loop NT))).wpIn Fence.wide 0 Tryz.prog _ a3 w3;refine wpIn_seq (wpIn_wide.2 (Ee (Qu _ _) PG Dg h3 (L:=87) (t:=0) (s1:=lvS (.func (.yield l) #[] #[]) h seed (2 ^ h:Nat) ((0:Nat):Int) (Af .u64 (Eo seed (2 ^ h) 0))) ?_ ?_))
 ·refine (Apz cl _ h seed _ _ _ _).trans ?_;rw [Ach];rfl
 intro a4 w4 β4 h4;refine wpIn_block (wpIn_loop_rounds 1000 (RF hh hJ hJx hY ?_ h 0 1000 (by omega) (by omega) h4 (fun b _ hb=>hb) h0))
 intro a5 w5 h5 h6;exact ⟨h5,_,results_none rfl _ _ _,⟨_,rfl⟩,h6⟩
end
section
open Go.IntKind (wrap)
set_option maxRecDepth 20000
open Go Go.RowKit
theorem B4.make {N:Nat}{W:World}{Y:Nat->Prop}{β:Bt}(l:List (Nat × PV)) (bl:List (Nat × Bn)) (a:Act)(pn:Nat->Prop)(p8:∀i,pn i->i<8)(hd:a.defers=[]) (hsz:a.tmps.size=N)(hlt:∀q∈l,q.1<N)
  (hv:∀q∈l,Dw W (C1 (B7 bl) β Y) β q.2 (a.tmps.getD q.1 undef)) (hb:∀id bx,B7 bl id=some bx->Sr W (C1 (B7 bl) β Y) β id bx)
  (inj:∀id id' b o o',Cg (B7 bl id)->Cg (B7 bl id')->β id=some (b,o)->β id'=some (b,o')->id=id') (blt:∀id b o,B7 bl id≠none->β id=some (b,o)->b<W.heap.size)
  (wfT:∀q∈l,∀id∈Bz q.2,B7 bl id≠none)(wfB:∀id cells,B7 bl id=some (.st cells)->∀c∈cells,∀i∈Ay c,B7 bl i≠none) (hpin:∀i,pn i->B7 bl (C7 N i)≠none)
  (stp:∀id c,B7 bl id=some (.st c)->∃i,id=C7 N i∧pn i) (Yx:∀b,Y b->¬CA (B7 bl) β b) (Ylt:∀b,Y b->b<W.heap.size):
  B4 N W { X:=CA (B7 bl) β,L:=fun b _=>CA (B7 bl) β b,pn:=pn,pt:=fun i=>β (C7 N i),p8:=p8 } Y β ⟨lk l,B7 bl⟩ a W:=by
 refine ⟨hd,hsz,fun i hi=>?_,fun i hi=>?_,hb,inj,blt,fun i hi id hid=>?_,wfB,fun b hb=>.inl hb,fun id bx b o h1 h2 h3 _ j _=>⟨id,o,by rw [show B7 bl id=some bx from h1];exact h2,h3⟩,fun i hi=>⟨hpin i hi,rfl⟩,
  fun id c b o h1 _ _=>stp id c h1,Yx,Ylt,⟨rfl,rfl,rfl,⟨Nat.le_refl _,fun _ _ _=>rfl,fun _ _=>Nat.le_refl _⟩,fun _ _ _ _=>⟨rfl,rfl⟩⟩⟩
 ·rcases O7 l i with e|⟨q,hq,h1,h2⟩
  ·exact e
  ·have:=hlt q hq;omega
 ·show Dw W _ β (lk l i) _;rcases O7 l i with e|⟨q,hq,h1,h2⟩
  ·rw [e];exact A7.top _
  ·rw [h2,←h1];exact hv q hq
 ·rcases O7 l i with e|⟨q,hq,h1,h2⟩
  ·rw [show (St.mk (lk l) (B7 bl)).tm i=lk l i from rfl,e] at hid;simp [Bz,Cf,Ay] at hid
  ·rw [show (St.mk (lk l) (B7 bl)).tm i=lk l i from rfl,h2] at hid;exact wfT q hq id hid
def Ate (lo e0:Nat)(A:World)(pv:Value)(l:List Int):Prop:=
 (l=[]∧pv=.slice none 0 0)∨∃pb po cap,pv=.slice (some ⟨pb,po,none⟩) l.length cap∧l.length<=cap∧po+cap<=bsz A pb∧pb<A.heap.size∧(lo<=pb∨pb=e0)∧(∀(j:Nat) x,l[j]?=some x->A.cell? ⟨pb,po+j,none⟩=some (.int .u64 x))∧∀j,po<=j->j<bsz A pb->A.frozen? ⟨pb,j,none⟩=false
theorem frozen?_of_block {A B:World}{b j:Nat}(h:B.heap[b]?=A.heap[b]?):B.frozen? ⟨b,j,none⟩=A.frozen? ⟨b,j,none⟩:=by
 unfold World.frozen?;simp only [h]
structure EK (wS:World) (D:Nat) (seed leaf:Int) (h b10 o10 e0:Nat) (chv:Value) (Z:Nat->Prop) (pre:List Nat) (A:World):Prop where
 os:A.os=wS.os
 tape:A.tape=wS.tape
 output:A.output=wS.output
 size:D+2<=A.heap.size
 zlo:∀b,b<wS.heap.size->Z b
 zlt:∀b,Z b->b<A.heap.size
 keep:∀b,b<wS.heap.size->b≠b10->b≠e0->A.heap[b]?=wS.heap[b]?
 bs:bsz wS b10<=bsz A b10
 c0:A.cell? ⟨b10,o10,none⟩=some (.int .i64 leaf)
 c1:A.cell? ⟨b10,o10+1,none⟩=some chv
 fz:∀k,k<3->A.frozen? ⟨b10,o10+k,none⟩=false
 lt:∀x∈pre,x<h
 path:∃pv,A.cell? ⟨b10,o10+2,none⟩=some pv∧Ate (D+2) e0 A pv (pre.map fun k=>B6 seed k (Fx leaf k))∧∀pb po n cap,pv=.slice (some ⟨pb,po,none⟩) n cap->Z pb
noncomputable abbrev Abm:Code:=sF (sB (sR (sL (sR (sR (sR JW))))))
abbrev Atp (h leaf:Int)(x:Nat)(n:Nat)(c:List PV):List (Nat × PV):=[(5,.iptr [.sc (.int .i64 h)] 0),(6,.iptr [.sc (.int .i64 leaf)] 0),(10,.ptr 96000 0),(11,.sc (.int .i64 x)),(12,.lst false 1 n c)]
abbrev OK (leaf:Int)(ch:Value)(m:Nat)(d:List PV):List (Nat × Bn):=[(96000,.st [.sc (.int .i64 leaf),.sc ch,.view 20 1 0 m]),(20,.ar false d)]
structure Atf (wS:World) (b5 o5 b6 o6 b10 o10:Nat) (args:Array Value) (a:Act):Prop where
 dfr:a.defers=[]
 size:a.tmps.size=48
 t5:a.tmps.getD 5 undef=.pointer (some ⟨b5,o5,none⟩)
 t6:a.tmps.getD 6 undef=.pointer (some ⟨b6,o6,none⟩)
 t10:a.tmps.getD 10 undef=.pointer (some ⟨b10,o10,none⟩)
 t11:a.tmps.getD 11 undef=args.getD 0 undef
 t12:a.tmps.getD 12 undef=args.getD 1 undef
theorem Aj5 {wS:World}{D:Nat}{seed leaf:Int}{h b5 o5 b6 o6 b10 o10 e0:Nat}{chv:Value}{Z:Nat->Prop}{pre:List Nat}{A:World}(hI:EK wS D seed leaf h b10 o10 e0 chv Z pre A){x:Nat}{args:Array Value}(hM:lvM seed h pre x args Z A){a:Act}(ha:Atf wS b5 o5 b6 o6 b10 o10 args a)
  (h5:wS.cell? ⟨b5,o5,none⟩=some (.int .i64 h)) (h6:wS.cell? ⟨b6,o6,none⟩=some (.int .i64 leaf)) (l5:b5<wS.heap.size)(l6:b6<wS.heap.size)(l10:b10<wS.heap.size)(n5:b5≠b10)(n6:b6≠b10)(m5:b5≠e0)(m6:b6≠e0)(m10:b10≠e0)(hD:wS.heap.size<=D):
  ∃β X0,X0.pt 0=some (b10,o10)∧X0.pn 0∧(∀b,X0.X b->Z b∧(b=b10∨D+2<=b∨b=e0)) ∧
   B4 48 A X0 (fun _=>False) β ⟨lk (Atp h leaf x (2 ^ (h-x)) (Af .u64 (Eo seed (2 ^ (h-x)) x))),B7 (OK leaf chv pre.length (Af .u64 (pre.map fun k=>B6 seed k (Fx leaf k))))⟩ a A:=by
 obtain ⟨hx,_,b,o,cap,hargs,hcap,hbl,hbz,hcell⟩:=hM;obtain ⟨pv,hpv,hown,hpz⟩:=hI.path
 obtain ⟨q,hq⟩:∃q:Option (Nat × Nat),(q=none∧pre=[]∧pv=.slice none 0 0)∨∃pb po cap,q=some (pb,po)∧pv=.slice (some ⟨pb,po,none⟩) pre.length cap∧pre.length<=cap∧po+cap<=bsz A pb∧pb<A.heap.size∧(D+2<=pb∨pb=e0)∧Z pb∧(∀(j:Nat) y,(pre.map fun k=>B6 seed k (Fx leaf k))[j]?=some y->A.cell? ⟨pb,po+j,none⟩=some (.int .u64 y))∧∀j,po<=j->j<bsz A pb->A.frozen? ⟨pb,j,none⟩=false:=by
  rcases hown with ⟨h1,h2⟩|⟨pb,po,cap,h1,h2,h3,h4,h5,h6,h7⟩
  ·exact ⟨none,.inl ⟨rfl,by simpa using h1,h2⟩⟩
  ·rw [List.length_map] at h1 h2;exact ⟨some (pb,po),.inr ⟨pb,po,cap,rfl,h1,h2,h3,h4,h5,hpz _ _ _ _ h1,h6,h7⟩⟩
 obtain ⟨β,hβ⟩:∃β:Bt,β=fun id=>if id=96000 then some (b10,o10) else if id=20 then q else none:=⟨_,rfl⟩
 have e1:β 96000=some (b10,o10):=by rw [hβ];rfl
 have e2:β 20=q:=by rw [hβ];rfl
 obtain ⟨d,hd⟩:∃d,Af .u64 (pre.map fun k=>B6 seed k (Fx leaf k))=d:=⟨_,rfl⟩
 have hdl:d.length=pre.length:=by rw [←hd,Am,List.length_map]
 rw [hd]
 have hl0:∀id bx,B7 (OK leaf chv pre.length d) id=some bx->(id=96000∧bx=.st [.sc (.int .i64 leaf),.sc chv,.view 20 1 0 pre.length])∨(id=20∧bx=.ar false d):=by
  intro id bx e;rcases Tn (OK leaf chv pre.length d) id with h1|⟨p,hp,h1,h2⟩
  ·rw [h1] at e;cases e
  ·rw [h2] at e;cases e;simp only [List.mem_cons,List.not_mem_nil,or_false] at hp;rcases hp with rfl|rfl
   ·exact .inl ⟨h1.symm,rfl⟩
   ·exact .inr ⟨h1.symm,rfl⟩
 have hX:∀b,CA (B7 (OK leaf chv pre.length d)) β b->b=b10∨∃po,q=some (b,po):=by
  rintro b' ⟨id,o',hl,hb⟩
  cases hh:B7 (OK leaf chv pre.length d) id with
  |none=>rw [hh] at hl;exact hl.elim
  |some bx=>
   rcases hl0 id bx hh with ⟨rfl,_⟩|⟨rfl,_⟩
   ·rw [e1] at hb;cases hb;exact .inl rfl
   ·rw [e2] at hb;exact .inr ⟨o',hb⟩
 have hqz:∀b' po,q=some (b',po)->Z b'∧(D+2<=b'∨b'=e0)∧b'<A.heap.size:=by
  intro b' po e;rcases hq with ⟨h1,_⟩|⟨pb,po',cap',h1,h2,h3,h4,h5,h6,h7,h8,h9⟩
  ·rw [h1] at e;cases e
  ·rw [h1] at e;cases e;exact ⟨h7,h6,h5⟩
 have hAlo:∀b',b'<wS.heap.size->b'≠b10->b'≠e0->¬C1 (B7 (OK leaf chv pre.length d)) β (fun _=>False) b':=by
  rintro b' hb hne hne0 (hx|hf)
  ·rcases hX b' hx with h1|⟨po,h1⟩
   ·exact hne h1
   ·rcases (hqz _ _ h1).2.1 with h2|h2
    ·omega
    ·exact hne0 h2
  ·exact hf
 have hsz:wS.heap.size<A.heap.size:=by have:=hI.size;omega
 refine ⟨β,_,e1,rfl,?_,B4.make (Atp h leaf x (2 ^ (h-x)) (Af .u64 (Eo seed (2 ^ (h-x)) x))) (OK leaf chv pre.length d) a (fun i=>i=0) (fun i hi=>by omega) ha.dfr ha.size ?_ ?_ ?_ ?_ ?_ ?_ ?_ ?_ ?_ (fun _ h=>h.elim) (fun _ h=>h.elim)⟩
 ·intro b' hb;rcases hX b' hb with rfl|⟨po,h1⟩
  ·exact ⟨hI.zlo _ l10,.inl rfl⟩
  ·exact ⟨(hqz _ _ h1).1,.inr (hqz _ _ h1).2.1⟩
 ·intro p hp;simp only [List.mem_cons,List.not_mem_nil,or_false] at hp;rcases hp with rfl|rfl|rfl|rfl|rfl<;>simp
 ·intro p hp;simp only [List.mem_cons,List.not_mem_nil,or_false] at hp;rcases hp with rfl|rfl|rfl|rfl|rfl
  ·refine ⟨⟨b5,o5,none⟩,ha.t5,rfl,by show b5<_;omega,hAlo b5 l5 n5 m5,fun j c hj=>?_⟩
   match j,hj with
   |0,hj=>cases hj;exact ⟨_,(World.cell?_of_block (a:=⟨b5,o5,none⟩) (hI.keep b5 l5 n5 m5)).trans h5,rfl,A7.sc _⟩
  ·refine ⟨⟨b6,o6,none⟩,ha.t6,rfl,by show b6<_;omega,hAlo b6 l6 n6 m6,fun j c hj=>?_⟩
   match j,hj with
   |0,hj=>cases hj;exact ⟨_,(World.cell?_of_block (a:=⟨b6,o6,none⟩) (hI.keep b6 l6 n6 m6)).trans h6,rfl,A7.sc _⟩
  ·exact ⟨b10,o10,e1,ha.t10⟩
  ·show Dw _ _ _ (.sc (.int .i64 x)) (a.tmps.getD 11 undef);rw [ha.t11,hargs];exact A7.sc _
  ·show Dw _ _ _ (.lst false 1 _ _) (a.tmps.getD 12 undef);rw [ha.t12,hargs];refine A7.lst 1 _ _ ⟨b,o,none⟩ cap (fun j=>.int .u64 (B6 seed x j)) rfl hbl ?_ hcap ?_ (fun _ _ _=>rfl) ?_
   ·rintro (hx'|hf)
    ·rcases hX b hx' with h1|⟨po,h1⟩
     ·exact hbz (h1 ▸ hI.zlo _ l10)
     ·exact hbz (hqz _ _ h1).1
    ·exact hf
   ·intro j c hj;rw [D6];have hlt:j<(Af .u64 (Eo seed (2 ^ (h-x)) x)).length:=(List.getElem?_eq_some_iff.1 hj).1;rw [Am,KT] at hlt;exact hcell j hlt
   ·intro j c hj;have hlt:j<(Af .u64 (Eo seed (2 ^ (h-x)) x)).length:=(List.getElem?_eq_some_iff.1 hj).1;rw [Am,KT] at hlt;rw [Mo (S8 seed hlt)] at hj;cases hj;exact A7.sc _
 ·intro id bx e;rcases hl0 id bx e with ⟨rfl,rfl⟩|⟨rfl,rfl⟩
  ·refine ⟨b10,o10,e1,fun j c hj=>?_,fun j hj=>hI.fz j hj⟩
   match j,hj with
   |0,hj=>cases hj;exact ⟨_,hI.c0,A7.sc _⟩
   |1,hj=>cases hj;exact ⟨_,hI.c1,A7.sc _⟩
   |2,hj=>
    cases hj;refine ⟨_,hpv,?_⟩;rcases hq with ⟨h1,h2,h3⟩|⟨pb,po,cap',h1,h2,h3,h4,h5,h6,h7,h8,h9⟩
    ·exact .inl ⟨e2.trans h1,rfl,by rw [h2];rfl,h3⟩
    ·exact .inr ⟨pb,po,po,cap',e2.trans h1,h2,.inl rfl,h3,by omega,h5⟩
  ·rcases hq with ⟨h1,h2,h3⟩|⟨pb,po,cap',h1,h2,h3,h4,h5,h6,h7,h8,h9⟩
   ·exact .inl ⟨e2.trans h1,by rw [←hd,h2];rfl⟩
   ·refine .inr ⟨pb,po,e2.trans h1,fun j c hj=>?_,fun _=>h9,fun h=>by cases h⟩
    have hlt:j<d.length:=(List.getElem?_eq_some_iff.1 hj).1;have hlt':j<(pre.map fun k=>B6 seed k (Fx leaf k)).length:=by rw [List.length_map];omega
    rw [←hd,Mo (List.getElem?_eq_getElem hlt')] at hj;cases hj;rw [D6];exact ⟨_,h8 j _ (List.getElem?_eq_getElem hlt'),rfl,A7.sc _⟩
 ·intro id id' b1 o1 o2 g1 g2 g3 g4
  have hid:∀i,Cg (B7 (OK leaf chv pre.length d) i)->i=96000∨i=20:=by
   intro i hi;cases hh:B7 (OK leaf chv pre.length d) i with
   |none=>rw [hh] at hi;exact hi.elim
   |some bx=>exact (hl0 i bx hh).imp (·.1) (·.1)
  have hne:∀po po',β 96000=some (b1,po)->β 20=some (b1,po')->False:=by
   intro po po' f1 f2;rw [e1] at f1;rw [e2] at f2;cases f1;rcases (hqz _ _ f2).2.1 with h2|h2
   ·omega
   ·exact m10 h2
  rcases hid id g1 with rfl|rfl<;>rcases hid id' g2 with rfl|rfl
  ·rfl
  ·exact (hne _ _ g3 g4).elim
  ·exact (hne _ _ g4 g3).elim
  ·rfl
 ·intro id b1 o1 g1 g2;cases hh:B7 (OK leaf chv pre.length d) id with
  |none=>exact absurd hh g1
  |some bx=>
   rcases hl0 id bx hh with ⟨rfl,_⟩|⟨rfl,_⟩
   ·rw [e1] at g2;cases g2;omega
   ·rw [e2] at g2;exact (hqz _ _ g2).2.2
 ·intro p hp id hid;simp only [List.mem_cons,List.not_mem_nil,or_false] at hp;rcases hp with rfl|rfl|rfl|rfl|rfl<;>simp [Bz,Cf,Ay] at hid
  subst hid;simp [B7]
 ·intro id cells e c hc i hi;rcases hl0 id _ e with ⟨rfl,e'⟩|⟨rfl,e'⟩
  ·cases e';simp only [List.mem_cons,List.not_mem_nil,or_false] at hc;rcases hc with rfl|rfl|rfl<;>simp [Ay] at hi
   subst hi;exact fun h0:some (Bn.ar false d)=none=>by cases h0
  ·cases e'
 ·intro i hi;subst hi;simp [B7,C7]
 ·intro id c e;rcases hl0 id _ e with ⟨rfl,e'⟩|⟨rfl,e'⟩
  ·exact ⟨0,rfl,rfl⟩
  ·cases e'
end
section
open Go.IntKind (wrap)
set_option maxRecDepth 20000
open Go Go.RowKit
theorem Afi:∀h:Nat,h<5->∀k:Nat,k<h->∀n:Nat,n<16->n<2 ^ h->0<=Fx (n:Int) k∧Fx (n:Int) k<((2 ^ (h-k):Nat):Int):=by decide +kernel
theorem Ac4 {wS:World}{D:Nat}{seed leaf:Int}{h b10 o10 e0:Nat}{chv:Value}{Z:Nat->Prop}{pre pre':List Nat}{A w':World}(hI:EK wS D seed leaf h b10 o10 e0 chv Z pre A){β':Bt}{X0:Fj}{a':Act}{m:Nat}{d:List PV}
  (hx1:X0.pt 0=some (b10,o10)) (hx2:X0.pn 0)(hX:∀b,X0.X b->Z b∧(b=b10∨D+2<=b∨b=e0)) (nD:D≠e0)(nD1:D+1≠e0)(l10:b10<wS.heap.size)(hD:wS.heap.size<=D)
  (hs:B4 48 A X0 (fun _=>False) β' ⟨lk [(10,.ptr 96000 0)],B7 [(96000,.st [.sc (.int .i64 leaf),.sc chv,.view 96144 1 0 m]),(96144,.ar false d)]⟩ a' w')
  (hm:m=pre'.length)(hd:d=Af .u64 (pre'.map fun k=>B6 seed k (Fx leaf k))) (hlt:∀x∈pre',x<h)(hZD:Z D)(hZD1:Z (D+1)):
  KV Z (fun b=>Z b∨(A.heap.size<=b∧b<w'.heap.size)) A w'∧w'.heap[D]?=A.heap[D]?∧w'.heap[D+1]?=A.heap[D+1]?∧EK wS D seed leaf h b10 o10 e0 chv (fun b=>Z b∨(A.heap.size<=b∧b<w'.heap.size)) pre' w':=by
 have hsz:=hI.size;have hst:=hs.fr.step
 have same:∀b,b<A.heap.size->b≠b10->b≠e0->b<D+2->w'.heap[b]?=A.heap[b]?:=fun b hb hn hn0 hl=>hst.keep b hb fun hx=>by
  rcases (hX b hx).2 with h1|h1|h1
  ·exact hn h1
  ·omega
  ·exact hn0 h1
 have hp:β' 96000=some (b10,o10):=(hs.pin 0 hx2).2.trans hx1;obtain ⟨b,o,g1,g2,g3⟩:=(show ∃b o,β' 96000=some (b,o)∧_∧_ from hs.box 96000 _ (rfl:_=some (Bn.st [.sc (.int .i64 leaf),.sc chv,.view 96144 1 0 m])))
 rw [hp] at g1;cases g1;obtain ⟨v0,q0,r0⟩:=g2 0 _ rfl;obtain ⟨v1,q1,r1⟩:=g2 1 _ rfl;obtain ⟨v2,q2,r2⟩:=g2 2 _ rfl;have r0:=A7.val r0;have r1:=A7.val r1;subst r0 r1;have hb2:=hs.box 96144 _ (rfl:_=some (Bn.ar false d))
 have hne:∀pb po,β' 96144=some (pb,po)->pb≠b10∧(Z pb∨(A.heap.size<=pb∧pb<w'.heap.size))∧(D+2<=pb∨pb=e0)∧pb<w'.heap.size:=by
  intro pb po e;have hlt:pb<w'.heap.size:=hs.blt 96144 pb po (fun h0:some (Bn.ar false d)=none=>by cases h0) e
  have hn:pb≠b10:=by
   intro e';subst e';have:=hs.inj 96000 96144 pb o10 po trivial trivial hp e;cases this
  rcases hs.ownd pb ⟨96144,po,trivial,e⟩ with h1|h1
  ·have h2:=hX pb h1;rcases h2.2 with h3|h3
   ·exact absurd h3 hn
   ·exact ⟨hn,.inl h2.1,h3,hlt⟩
  ·exact ⟨hn,.inr ⟨h1,hlt⟩,.inl (by omega),hlt⟩
 refine ⟨⟨hs.fr.os,hs.fr.tape,hs.fr.output,hst.size,fun b hb hn=>hst.keep b hb fun hx=>hn (hX b hx).1,fun b hb=>.inl hb,fun b hb=>hb.imp (fun x=>x) (·.1),fun b hb=>hb.elim (fun h1=>Nat.lt_of_lt_of_le (hI.zlt b h1) hst.size) (·.2),hst.bs⟩,
  same D (hI.zlt D hZD) (by omega) nD (by omega),same (D+1) (hI.zlt _ hZD1) (by omega) nD1 (by omega),?_⟩
 refine ⟨hs.fr.os.trans hI.os,hs.fr.tape.trans hI.tape,hs.fr.output.trans hI.output,by have:=hst.size;omega,fun b hb=>.inl (hI.zlo b hb),fun b hb=>hb.elim (fun h1=>Nat.lt_of_lt_of_le (hI.zlt b h1) hst.size) (·.2),fun b hb hn hn0=>(same b (by omega) hn hn0 (by omega)).trans (hI.keep b hb hn hn0),Nat.le_trans hI.bs (hst.bs b10 (by omega)),q0,q1,fun k hk=>g3 k hk,hlt,v2,q2,?_,?_⟩
 ·rcases r2 with ⟨f1,_,f3,f4⟩|⟨pb,po,xx,cap,f1,f2,f3,f4,f5,f6⟩
  ·have:pre'=[]:=List.length_eq_zero_iff.1 (by omega)
   exact .inl ⟨by rw [this];rfl,f4⟩
  ·rcases hb2 with ⟨e1,_⟩|⟨pb',po',e1,e2,e3,_⟩
   ·rw [f1] at e1;cases e1
   ·rw [f1] at e1;cases e1;have hxx:xx=po:=by omega
    subst hxx;refine .inr ⟨pb,xx,cap,by rw [f2,List.length_map,hm],by rw [List.length_map];omega,by omega,f6,(hne pb xx f1).2.2.1,fun j y hj=>?_,fun j hj hjb=>e3 rfl j hj hjb⟩
    obtain ⟨v,h1,_,h3⟩:=e2 j (.sc (.int .u64 y)) (by rw [hd];exact Mo hj)
    rw [D6] at h1;rw [h1,A7.val h3]
 ·intro pb po n cap e;rcases r2 with ⟨f1,_,f3,f4⟩|⟨pb',po',xx,cap',f1,f2,f3,f4,f5,f6⟩
  ·rw [f4] at e;cases e
  ·rw [f2] at e;cases e;exact (hne pb po' f1).2.1
def Ape (wS:World)(D:Nat)(seed leaf:Int)(h b10 o10 e0:Nat)(chv:Value)(c:Code)(Z:Nat->Prop)(xs:List Nat)(B:World):Prop:=c=.exit 0∧∃pre,xs=pre++[h]∧EK wS D seed leaf h b10 o10 e0 chv Z pre B
theorem Ag9 {wS:World}{D:Nat}{seed leaf:Int}{h b5 o5 b6 o6 b10 o10 e0:Nat}{chv:Value}{Z:Nat->Prop}{pre:List Nat}{A:World}(hh:h<=4)(hl0:0<=leaf)(hl1:leaf<((2 ^ h:Nat):Int)) (hI:EK wS D seed leaf h b10 o10 e0 chv Z pre A){x:Nat}{args:Array Value}(hM:lvM seed h pre x args Z A){a:Act}(ha:Atf wS b5 o5 b6 o6 b10 o10 args a)
  (h5:wS.cell? ⟨b5,o5,none⟩=some (.int .i64 h)) (h6:wS.cell? ⟨b6,o6,none⟩=some (.int .i64 leaf)) (l5:b5<wS.heap.size)(l6:b6<wS.heap.size)(l10:b10<wS.heap.size)(n5:b5≠b10)(n6:b6≠b10)(m5:b5≠e0)(m6:b6≠e0)(m10:b10≠e0)(nD:D≠e0)(nD1:D+1≠e0)(hD:wS.heap.size<=D)(hZD:Z D)(hZD1:Z (D+1)):
  Abm.wpIn (WF (some (D+1))) 0 Tryz.prog (Ab7 D (EK wS D seed leaf h b10 o10 e0 chv) (Ape wS D seed leaf h b10 o10 e0 chv) Z (pre++[x]) A) a A:=by
 obtain ⟨β,X0,hx1,hx2,hX,hs⟩:=Aj5 hI hM ha h5 h6 l5 l6 l10 n5 n6 m5 m6 m10 hD;have hx:=hM.1;have hpl:pre.length<=1000:=by rw [hM.2.1,List.length_range];omega
 have hQo:∀a w,¬Ab7 D (EK wS D seed leaf h b10 o10 e0 chv) (Ape wS D seed leaf h b10 o10 e0 chv) Z (pre++[x]) A .outgrown a w:=fun a w ⟨_,_,_,_,hf⟩=>hf
 by_cases hxh:x=h
 ·subst hxh;refine JI (Qu _ _) PG Dg (by kernel_rfl) hQo hs (t:=1) (L:=1024) (s1:=⟨lk [(10,.ptr 96000 0)],B7 [(96000,.st [.sc (.int .i64 leaf),.sc chv,.view 96144 1 0 pre.length]),(96144,.ar false (Af .u64 (pre.map fun k=>B6 seed k (Fx leaf k))))]⟩) ?_ ?_
  ·refine (Ahg cl x leaf x chv _ _ _ _).trans ?_;rw [show ((x:Int)==(x:Int))=true from beq_self_eq_true _]
   rfl
  ·intro a' w' β' hs';obtain ⟨k1,k2,k3,k4⟩:=Ac4 hI hx1 hx2 hX nD nD1 l10 hD hs' rfl rfl hI.lt hZD hZD1;exact ⟨_,k1,k2,k3,rfl,pre,rfl,k4⟩
 ·have hlt:x<h:=by omega
  obtain ⟨n,rfl⟩:∃n:Nat,leaf=n:=⟨leaf.toNat,by omega⟩
  have h16:2 ^ h<=16:=by
   have:2 ^ h<=2 ^ 4:=Nat.pow_le_pow_right (by omega) hh
   omega
  have sb:=Afi h (by omega) x hlt n (by omega) (by omega)
  have es:D2 .i64 (D7 .i64 (n:Int) (x:Int)) 1=Fx n x:=rfl;obtain ⟨y,hy⟩:∃y:Nat,Fx n x=y:=⟨(Fx n x).toNat,by omega⟩
  have at1:(Af .u64 (Eo seed (2 ^ (h-x)) x)).getD y .top=.sc (.int .u64 (B6 seed x (Fx n x))):=by
   rw [hy] at sb ⊢;exact Vf (S8 seed (by omega))
  have L:(Af .u64 (pre.map fun k=>B6 seed k (Fx n k))).length=pre.length:=by rw [Am,List.length_map]
  have T:List.take pre.length (Af .u64 (pre.map fun k=>B6 seed k (Fx n k)))=Af .u64 (pre.map fun k=>B6 seed k (Fx n k)):=To (by omega)
  have bq:((x:Int)==(h:Int))=false:=by
   rw [beq_eq_false_iff_ne];omega
  refine JI (Qu _ _) PG Dg (by kernel_rfl) hQo hs (t:=0) (L:=1024) (s1:=⟨lk [(10,.ptr 96000 0)],B7 [(96000,.st [.sc (.int .i64 n),.sc chv,.view 96144 1 0 (pre.length+1)]),(96144,.ar false (Af .u64 (pre.map fun k=>B6 seed k (Fx n k))++[.sc (.int .u64 (B6 seed x (Fx n x)))]))]⟩) ?_ ?_
  ·refine (Ahg cl h n x chv _ _ _ _).trans ?_;rw [bq];have t0:(0:Int)<=x:=by omega
   have t1:(0:Int)<=y:=by omega
   have t2:(y:Int)<((2 ^ (h-x):Nat):Int):=by omega
   have hn0:((pre.length+1)*8<=1099511627776):=by omega
   generalize 2 ^ (h-x)=nn at *
   simp (disch:=omega) only [Bx,es,hy,at1,L,T,Gy,B8]
  ·intro a' w' β' hs'
   obtain ⟨k1,k2,k3,k4⟩:=Ac4 (pre':=pre++[x]) hI hx1 hx2 hX nD nD1 l10 hD hs' (by simp) (by simp) (by
    intro z hz;rcases List.mem_append.1 hz with h1|h1
    ·exact hI.lt z h1
    ·rw [List.mem_singleton.1 h1];exact hlt) hZD hZD1
   exact ⟨_,k1,k2,k3,k4⟩
end
section
open Go.IntKind (wrap)
set_option maxRecDepth 20000
open Go Go.RowKit Go.Shelf
set_option maxHeartbeats 2000000 in
theorem Alr (seed h:Int)(n:Nat)(w:World):CallsIn Fence.wide n Tryz.prog 77 #[.int .u64 seed,.int .i64 h] w fun e w'=>
  e=.returned (.func (.func 107) #[] #[.pointer (some ⟨w.heap.size+1,0,none⟩),.pointer (some ⟨w.heap.size,0,none⟩)])∧w'=(w.alloc (.cells #[.int .u64 seed] 22)).alloc (.cells #[.int .i64 h] 3):=by
 refine callsIn_of_wp Tryz.func77 rfl trivial ?_ rfl;simp only [Tryz.ntmps77,List.size_toArray,Ja,AV,Nat.reduceAdd,Nat.reduceSub,Array.replicate_succ,Array.replicate_zero,List.push_toArray,List.append_toArray,Zzq,List.cons_append]
 gi_wp2
 go_ret
 exact ⟨rfl,rfl⟩
end
section
open Go.IntKind (wrap)
set_option maxRecDepth 20000
open Go Go.RowKit
theorem Aqy {G:Vq}{P:Program}{f:FuncId}{v0 v1 v2 v3:Value}{vals:List PV}(hf:∃fn,P.funcs[f]?=some fn∧fn.body.isSome=true)
  (h:∀(w:World)(Y:Nat->Prop),(∀b,Y b->b<w.heap.size)->Calls P f #[v0,v1,v2,v3] w fun e w'=>∃vs own,e=.returned (Ma vs)∧Out w w' Y OV [.sc v0,.sc v1,.sc v2,.sc v3] own ⟨vals,[]⟩ vs):C9 G P f [.sc v0,.sc v1,.sc v2,.sc v3] ⟨vals,[]⟩:=by
 refine ⟨hf,fun w Y bt us hin _ _=>?_⟩
 have hus:us=[v0,v1,v2,v3]:=by
  have ha:=hin.args
  match us,ha with
  |[u0,u1,u2,u3],⟨h0,h1,h2,h3,_⟩=>
   rw [A7.val h0.2,A7.val h1.2,A7.val h2.2,A7.val h3.2]
 subst hus
 have hl:∀i q,bt i 0≠some q:=by
  intro i q e;obtain ⟨p,h1,h2⟩:=hin.l0 i q e
  match i,h1 with
  |0,h1=>cases h1;cases h2
  |1,h1=>cases h1;cases h2
  |2,h1=>cases h1;cases h2
  |3,h1=>cases h1;cases h2
 refine (h w Y hin.Ylt).mono ?_
 rintro e w' ⟨vs,own,rfl,ho⟩
 have hA:SR bt own Y=SR OV own Y:=by
  funext b
  apply propext;constructor
  ·rintro (h1|⟨i,o,h1⟩|h1)
   ·exact .inl h1
   ·exact absurd h1 (hl i _)
   ·exact .inr (.inr h1)
  ·rintro (h1|⟨i,o,h1⟩|h1)
   ·exact .inl h1
   ·cases h1
   ·exact .inr (.inr h1)
 refine ⟨vs,own,rfl,ho.os,ho.tape,ho.output,ho.ext.weaken (fun b _ hb=>absurd hb (W6 b)),fun b j hb _=>ho.rng b j hb ?_,by rw [hA];exact ho.vals,rfl,fun j b o hj=>⟨(ho.fresh j b o hj).1,fun hlt=>?_⟩,ho.inj⟩
 ·rintro ⟨i,p,_,⟨k,o,h1,_⟩|⟨o,ps,h1,_⟩⟩
  ·cases h1
  ·cases h1
 ·obtain ⟨⟨i,k,o',h1⟩,_⟩:=(ho.fresh j b o hj).2 hlt;cases h1
theorem B4.unbase {N:Nat}{we B w':World}{X XB:Fj}{Y YB:Nat->Prop}{β:Bt}{s:St}{a:Act}(h:B4 N B XB YB β s a w')(hY:∀b,Y b->YB b)(hYlt:∀b,Y b->b<we.heap.size)(hown:∀b,XB.X b->we.heap.size<=b)(hpn:∀i,¬X.pn i)
  (hos:B.os=we.os)(ht:B.tape=we.tape)(hou:B.output=we.output)(hsz:we.heap.size<=B.heap.size)(hk:∀b,b<we.heap.size->B.heap[b]?=we.heap[b]?):B4 N we X Y β s a w':=by
 have hX:∀b,CA s.hp β b->we.heap.size<=b:=fun b hb=>(h.ownd b hb).elim (hown b) (fun h1=>Nat.le_trans hsz h1)
 have hA:∀b,C1 s.hp β Y b->C1 s.hp β YB b:=fun b hb=>hb.imp (fun x=>x) (hY b)
 have hst:Cb (C1 s.hp β YB) w' w':=⟨Nat.le_refl _,fun _ _ _=>rfl,fun _ _=>Nat.le_refl _⟩
 have hkw:∀b,b<we.heap.size->w'.heap[b]?=we.heap[b]?:=fun b hb=>(h.fr.step.keep b (by omega) fun hx=>by have:=hown b hx;omega).trans (hk b hb)
 refine ⟨h.dfr,h.tsz,h.tmo,fun i hi=>(h.tms i hi).step hst (fun b _=>hA b) fun _ _=>rfl,fun id bx e=>(h.box id bx e).step' hA,h.inj,h.blt,h.wfT,h.wfB,fun b hb=>.inr (hX b hb),fun id bx b o h1 h2 h3 h4=>?_,fun i hi=>absurd hi (hpn i),fun id c b o h1 h2 h3=>?_,fun b hy=>h.Yx b (hY b hy),hYlt,
  ⟨h.fr.os.trans hos,h.fr.tape.trans ht,h.fr.output.trans hou,⟨Nat.le_trans hsz h.fr.step.size,fun b hb _=>hkw b hb,fun b hb=>by unfold bsz;rw [hkw b hb];exact Nat.le_refl _⟩,fun b j hb _=>⟨World.cell?_of_block (hkw b hb),frozen?_of_block (hkw b hb)⟩⟩⟩
 ·have:=hX b ⟨id,o,by rw [h1];exact h2,h3⟩
  omega
 ·have:=hX b ⟨id,o,by rw [h1];trivial,h2⟩
  omega
theorem EK.stay {wS:World}{D:Nat}{seed leaf:Int}{h b10 o10 e0:Nat}{chv:Value}{Z:Nat->Prop}{pre:List Nat}{A B:World}(hI:EK wS D seed leaf h b10 o10 e0 chv Z pre A)(l10:b10<wS.heap.size)(nD:D≠e0)(nD1:D+1≠e0)(hD:wS.heap.size<=D)(hs:Yp (fun b=>Z b∧b≠D∧b≠D+1) A B):EK wS D seed leaf h b10 o10 e0 chv Z pre B:=by
 have e:∀b,b<wS.heap.size->B.heap[b]?=A.heap[b]?:=fun b hb=>hs.same b ⟨hI.zlo b hb,by omega,by omega⟩
 have hb:bsz B b10=bsz A b10:=by unfold bsz;rw [e b10 l10]
 have hc:∀j,B.cell? ⟨b10,j,none⟩=A.cell? ⟨b10,j,none⟩:=fun j=>World.cell?_of_block (e b10 l10)
 obtain ⟨pv,p1,p2,p3⟩:=hI.path;refine ⟨hs.os.trans hI.os,hs.tape.trans hI.tape,hs.output.trans hI.output,Nat.le_trans hI.size hs.size,hI.zlo,fun b hz=>Nat.lt_of_lt_of_le (hI.zlt b hz) hs.size,fun b hb hn hn0=>(e b hb).trans (hI.keep b hb hn hn0),by rw [hb];exact hI.bs,(hc _).trans hI.c0,(hc _).trans hI.c1,fun k hk=>by rw [frozen?_of_block (e b10 l10)];exact hI.fz k hk,hI.lt,pv,(hc _).trans p1,?_,p3⟩
 rcases p2 with p2|⟨pb,po,cap,h1,h2,h3,h4,h5,h6,h7⟩
 ·exact .inl p2
 ·have hh:B.heap[pb]?=A.heap[pb]?:=hs.same pb ⟨p3 _ _ _ _ h1,by omega,by omega⟩
  have hbb:bsz B pb=bsz A pb:=by unfold bsz;rw [hh]
  exact .inr ⟨pb,po,cap,h1,h2,by rw [hbb];exact h3,Nat.lt_of_lt_of_le h4 hs.size,h5,fun j x hj=>(World.cell?_of_block (a:=⟨pb,po+j,none⟩) hh).trans (h6 j x hj),fun j hj hjb=>by rw [frozen?_of_block hh];exact h7 j hj (by rw [←hbb];exact hjb)⟩
end
section
open Go.IntKind (wrap)
set_option maxRecDepth 20000
open Go Go.RowKit
abbrev sgE (leaf:Int)(n1 n2:Nat)(c1 c2:List PV):List (Nat × PV):=[(8,.ptr 96000 0),(9,.sc (.int .i64 0)),(10,.iptr [.sc (.int .i64 leaf),.lst false 1 n1 c1,.lst false 1 n2 c2] 0)]
theorem An9 {wS:World}{D:Nat}{seed leaf:Int}{h b8 o8 b10 o10 e0:Nat}{chv:Value}{Z:Nat->Prop}{pre:List Nat}{B:World}{Y:Nat->Prop}{a:Act}{n1:Nat}{c1:List PV}(hB:EK wS D seed leaf h b10 o10 e0 chv Z pre B)
  (hd:a.defers=[]) (hsz:a.tmps.size=48)(t8:a.tmps.getD 8 undef=.pointer (some ⟨b8,o8,none⟩)) (t9:a.tmps.getD 9 undef=.int .i64 0)(t10:a.tmps.getD 10 undef=.pointer (some ⟨b10,o10,none⟩))
  (c8:∀j,j<3->∃v,B.cell? ⟨b8,o8+j,none⟩=some v)(f8:∀j,j<3->B.frozen? ⟨b8,o8+j,none⟩=false)(l8:b8<B.heap.size)(l10:b10<B.heap.size)(n8:b8≠b10)(y8:¬Y b8)(y10:¬Y b10)
  (hch:A7 B (fun b=>b=b8∨Y b) (.lst false 1 n1 c1) chv) (hch1:chv.oneCell'=true)(hp:∀pb,(D+2<=pb∨pb=e0)->pb≠b8∧¬Y pb) (hY:∀b,Y b->b<B.heap.size):
  ∃X0 β,(∀b,X0.X b->b=b8)∧B4 48 B X0 Y β ⟨lk (sgE leaf n1 pre.length c1 (Af .u64 (pre.map fun k=>B6 seed k (Fx leaf k)))),B7 [(96000,.st [.top,.top,.top])]⟩ a B:=by
 obtain ⟨pv,hpv,hown,hpz⟩:=hB.path;obtain ⟨β,hβ⟩:∃β:Bt,β=fun id=>if id=96000 then some (b8,o8) else none:=⟨_,rfl⟩
 have e1:β 96000=some (b8,o8):=by rw [hβ];rfl
 have hl0:∀id bx,B7 [(96000,Bn.st [.top,.top,.top])] id=some bx->id=96000∧bx=.st [.top,.top,.top]:=by
  intro id bx e;rcases Tn [(96000,Bn.st [.top,.top,.top])] id with h1|⟨p,hp,h1,h2⟩
  ·rw [h1] at e;cases e
  ·rw [h2] at e;cases e;simp only [List.mem_cons,List.not_mem_nil,or_false] at hp;subst hp;exact ⟨h1.symm,rfl⟩
 have hX:∀b,CA (B7 [(96000,Bn.st [.top,.top,.top])]) β b->b=b8:=by
  rintro b' ⟨id,o',hl,hb⟩
  cases hh:B7 [(96000,Bn.st [.top,.top,.top])] id with
  |none=>rw [hh] at hl;exact hl.elim
  |some bx=>
   obtain ⟨rfl,_⟩:=hl0 id bx hh;rw [e1] at hb;cases hb;rfl
 have hA:∀b,C1 (B7 [(96000,Bn.st [.top,.top,.top])]) β Y b->b=b8∨Y b:=fun b hb=>hb.imp (hX b) (fun x=>x)
 have hst:Cb (fun b=>b=b8∨Y b) B B:=⟨Nat.le_refl _,fun _ _ _=>rfl,fun _ _=>Nat.le_refl _⟩
 have one:pv.oneCell'=true:=by
  rcases hown with ⟨_,h2⟩|⟨pb,po,cap,h1,_⟩
  ·rw [h2];rfl
  ·rw [h1];rfl
 refine ⟨_,β,?_,B4.make (sgE leaf n1 pre.length c1 (Af .u64 (pre.map fun k=>B6 seed k (Fx leaf k)))) [(96000,.st [.top,.top,.top])] a (fun i=>i=0) (fun i hi=>by omega) hd hsz ?_ ?_ ?_ ?_ ?_ ?_ ?_ ?_ ?_ ?_ hY⟩
 ·exact hX
 ·intro p hp';simp only [List.mem_cons,List.not_mem_nil,or_false] at hp';rcases hp' with rfl|rfl|rfl<;>simp
 ·intro p hp';simp only [List.mem_cons,List.not_mem_nil,or_false] at hp';rcases hp' with rfl|rfl|rfl
  ·exact ⟨b8,o8,e1,t8⟩
  ·show Dw _ _ _ (.sc (.int .i64 0)) (a.tmps.getD 9 undef);rw [t9];exact A7.sc _
  ·refine ⟨⟨b10,o10,none⟩,t10,rfl,l10,fun hb=>?_,fun j c hj=>?_⟩
   ·rcases hA _ hb with h1|h1
    ·exact n8 h1.symm
    ·exact y10 h1
   ·match j,hj with
    |0,hj=>cases hj;exact ⟨_,hB.c0,rfl,A7.sc _⟩
    |1,hj=>cases hj;exact ⟨_,hB.c1,hch1,hch.step hst fun b _=>hA b⟩
    |2,hj=>
     cases hj;refine ⟨_,hpv,one,?_⟩;rcases hown with ⟨h1,h2⟩|⟨pb,po,cap,h1,h2,h3,h4,h5,h6,h7⟩
     ·rw [h2];have:pre=[]:=by simpa using h1
      subst this;exact A7.lnil _ _
     ·rw [h1,List.length_map];rw [List.length_map] at h2;refine A7.lst 1 _ _ ⟨pb,po,none⟩ cap (fun j=>.int .u64 ((pre.map fun k=>B6 seed k (Fx leaf k)).getD j 0)) rfl h4 (fun hb=>?_) h2 ?_ (fun _ _ _=>rfl) ?_
      ·have hh:=hp pb h5;rcases hA _ hb with h8|h8
       ·exact hh.1 h8
       ·exact hh.2 h8
      ·intro j c hj;have hlt:j<(Af .u64 (pre.map fun k=>B6 seed k (Fx leaf k))).length:=(List.getElem?_eq_some_iff.1 hj).1
       rw [Am] at hlt;rw [D6,h6 j _ (List.getElem?_eq_getElem hlt),List.getD_eq_getElem?_getD,List.getElem?_eq_getElem hlt];rfl
      ·intro j c hj;have hlt:j<(Af .u64 (pre.map fun k=>B6 seed k (Fx leaf k))).length:=(List.getElem?_eq_some_iff.1 hj).1
       rw [Am] at hlt;rw [Mo (List.getElem?_eq_getElem hlt)] at hj;cases hj;rw [List.getD_eq_getElem?_getD,List.getElem?_eq_getElem hlt];exact A7.sc _
 ·intro id bx e;obtain ⟨rfl,rfl⟩:=hl0 id bx e;refine ⟨b8,o8,e1,fun j c hj=>?_,fun j hj=>f8 j hj⟩
  have hlt:j<3:=(List.getElem?_eq_some_iff.1 hj).1;obtain ⟨v,hv⟩:=c8 j hlt
  match j,hj with
  |0,hj=>cases hj;exact ⟨v,hv,A7.top _⟩
  |1,hj=>cases hj;exact ⟨v,hv,A7.top _⟩
  |2,hj=>cases hj;exact ⟨v,hv,A7.top _⟩
 ·intro id id' b1 o1 o2 g1 g2 g3 g4
  have hid:∀i,Cg (B7 [(96000,Bn.st [.top,.top,.top])] i)->i=96000:=by
   intro i hi;cases hh:B7 [(96000,Bn.st [.top,.top,.top])] i with
   |none=>rw [hh] at hi;exact hi.elim
   |some bx=>exact (hl0 i bx hh).1
  rw [hid id g1,hid id' g2]
 ·intro id b1 o1 g1 g2;cases hh:B7 [(96000,Bn.st [.top,.top,.top])] id with
  |none=>exact absurd hh g1
  |some bx=>
   obtain ⟨rfl,_⟩:=hl0 id bx hh;rw [e1] at g2;cases g2;exact l8
 ·intro p hp' id hid;simp only [List.mem_cons,List.not_mem_nil,or_false] at hp';rcases hp' with rfl|rfl|rfl<;>simp [Bz,Cf,Ay] at hid
  subst hid;simp [B7]
 ·intro id cells e c hc i hi;obtain ⟨rfl,e'⟩:=hl0 id _ e;cases e';simp only [List.mem_cons,List.not_mem_nil,or_false] at hc;rcases hc with rfl|rfl|rfl<;>simp [Ay] at hi
 ·intro i hi;subst hi;simp [B7,C7]
 ·intro id c e;obtain ⟨rfl,_⟩:=hl0 id _ e;exact ⟨0,rfl,rfl⟩
 ·intro b hy hx;rw [hX b hx] at hy;exact y8 hy
end
section
open Go.IntKind (wrap)
set_option maxRecDepth 20000
open Go Go.RowKit
abbrev Afz (seed h leaf m:Int)(n:Nat)(c:List PV):St:=
  ⟨lk [(0,.sc (.int .u64 seed)),(3,.sc (.int .u64 m)),(5,.ptr 5 0),(6,.ptr 6 0),(8,.ptr 8 0),(9,.sc (.int .i64 0)),(10,.ptr 10 0),(27,.sc (.int .u64 seed)),(28,.sc (.int .i64 h))],
   B7 [(5,.st [.sc (.int .i64 h)]),(6,.st [.sc (.int .i64 leaf)]),(8,.st [.sc (.int .i64 0),.view 104 1 0 0,.view 152 1 0 0]),(104,.ar false []),(152,.ar false []),(10,.st [.sc (.int .i64 leaf),.view 106 1 0 n,.view 154 1 0 0]),(106,.ar false c),(154,.ar false [])]⟩
theorem B4.var {N:Nat}{w0:World}{X0:Fj}{Y:Nat->Prop}{β:Bt}{s:St}{a:Act}{w:World}(h:B4 N w0 X0 Y β s a w){i id:Nat}{cells:List PV}(hi:i<N)(ht:s.tm i=.ptr id 0)(hb:s.hp id=some (.st cells)):
  ∃b o,β id=some (b,o)∧a.tmps.getD i undef=.pointer (some ⟨b,o,none⟩)∧b<w.heap.size∧(∀j c,cells[j]?=some c->∃v,w.cell? ⟨b,o+j,none⟩=some v∧Cc w (C1 s.hp β Y) β c v)∧∀j,j<cells.length->w.frozen? ⟨b,o+j,none⟩=false:=by
 have h1:=h.tms i hi;rw [ht] at h1;obtain ⟨b,o,e1,e2⟩:=(show ∃b o,β id=some (b,o)∧a.tmps.getD i undef=.pointer (some ⟨b,o+0,none⟩) from h1)
 obtain ⟨b',o',e3,e4,e5⟩:=(show ∃b o,β id=some (b,o)∧_∧_ from h.box id _ hb)
 rw [e1] at e3;cases e3;exact ⟨b,o,e1,e2,h.blt id b o (by rw [hb];simp) e1,e4,e5⟩
structure Ath (w w4:World) (Y:Nat->Prop) (seed h leaf:Int) (c:List PV) (n:Nat) (a4:Act) (b5 o5 b6 o6 b8 o8 b10 o10 e0:Nat) (chv:Value):Prop where
 t5:a4.tmps.getD 5 undef=.pointer (some ⟨b5,o5,none⟩)
 t6:a4.tmps.getD 6 undef=.pointer (some ⟨b6,o6,none⟩)
 t8:a4.tmps.getD 8 undef=.pointer (some ⟨b8,o8,none⟩)
 t9:a4.tmps.getD 9 undef=.int .i64 0
 t10:a4.tmps.getD 10 undef=.pointer (some ⟨b10,o10,none⟩)
 t27:a4.tmps.getD 27 undef=.int .u64 seed
 t28:a4.tmps.getD 28 undef=.int .i64 h
 c5:w4.cell? ⟨b5,o5,none⟩=some (.int .i64 h)
 c6:w4.cell? ⟨b6,o6,none⟩=some (.int .i64 leaf)
 c8:∀j,j<3->∃v,w4.cell? ⟨b8,o8+j,none⟩=some v
 f8:∀j,j<3->w4.frozen? ⟨b8,o8+j,none⟩=false
 c10:w4.cell? ⟨b10,o10,none⟩=some (.int .i64 leaf)
 c11:w4.cell? ⟨b10,o10+1,none⟩=some chv
 f10:∀j,j<3->w4.frozen? ⟨b10,o10+j,none⟩=false
 l5:b5<w4.heap.size
 l6:b6<w4.heap.size
 l8:b8<w4.heap.size
 l10:b10<w4.heap.size
 le:e0<=w4.heap.size
 n5:b5≠b10
 n6:b6≠b10
 m5:b5≠e0
 m6:b6≠e0
 m10:b10≠e0
 n8:b8≠b10
 m8:b8≠e0
 y8:¬Y b8
 y10:¬Y b10
 ye:¬Y e0
 g10:w.heap.size<=b10
 ge:w.heap.size<=e0
 g8:w.heap.size<=b8
 one:chv.oneCell'=true
 ch:∀B:World,w4.heap.size<=B.heap.size->(∀b,b<w4.heap.size->b≠b10->b≠e0->B.heap[b]?=w4.heap[b]?)->A7 B (fun b=>b=b8∨Y b) (.lst false 1 n c) chv
 p0:∃v2,w4.cell? ⟨b10,o10+2,none⟩=some v2∧(v2=.slice none 0 0∨∃x cap,v2=.slice (some ⟨e0,x,none⟩) 0 cap∧x+cap<=bsz w4 e0∧e0<w4.heap.size∧∀j,x<=j->j<bsz w4 e0->w4.frozen? ⟨e0,j,none⟩=false)
theorem Ah4 {w w4:World}{Y:Nat->Prop}{seed h leaf m:Int}{l:List Int}{n:Nat}{a4:Act}{X0:Fj}{β4:Bt}(hn:0<n)(hl:l.length=n)(hX:∀b,¬X0.X b)(hs:B4 48 w X0 Y β4 (Afz seed h leaf m n (Af .u64 l)) a4 w4):
  ∃b5 o5 b6 o6 b8 o8 b10 o10 e0 chv,Ath w w4 Y seed h leaf (Af .u64 l) n a4 b5 o5 b6 o6 b8 o8 b10 o10 e0 chv:=by
 obtain ⟨b5,o5,e5,t5,l5,k5,f5⟩:=hs.var (i:=5) (id:=5) (by decide) rfl rfl
 obtain ⟨b6,o6,e6,t6,l6,k6,f6⟩:=hs.var (i:=6) (id:=6) (by decide) rfl rfl
 obtain ⟨b8,o8,e8,t8,l8,k8,f8⟩:=hs.var (i:=8) (id:=8) (by decide) rfl rfl
 obtain ⟨b10,o10,e10,t10,l10,k10,f10⟩:=hs.var (i:=10) (id:=10) (by decide) rfl rfl
 obtain ⟨v5,q5,r5⟩:=k5 0 _ rfl;obtain ⟨v6,q6,r6⟩:=k6 0 _ rfl;obtain ⟨v80,q80,_⟩:=k8 0 _ rfl;obtain ⟨v81,q81,_⟩:=k8 1 _ rfl;obtain ⟨v82,q82,_⟩:=k8 2 _ rfl;obtain ⟨v0,q0,r0⟩:=k10 0 _ rfl;obtain ⟨v1,q1,r1⟩:=k10 1 _ rfl;obtain ⟨v2,q2,r2⟩:=k10 2 _ rfl;have r5:=A7.val r5;have r6:=A7.val r6;have r0:=A7.val r0;subst r5 r6 r0;have hb1:=hs.box 106 _ (rfl:_=some (Bn.ar false (Af .u64 l)));have hb2:=hs.box 154 _ (rfl:_=some (Bn.ar false []));have own:∀id b o,Cg ((Afz seed h leaf m n (Af .u64 l)).hp id)->β4 id=some (b,o)->w.heap.size<=b∧¬Y b:=fun id b o h1 h2=>⟨(hs.ownd b ⟨id,o,h1,h2⟩).elim (fun x=>absurd x (hX b)) (fun x=>x),fun hy=>hs.Yx b hy ⟨id,o,h1,h2⟩⟩
 have dif:∀id id' b b' o o',id≠id'->Cg ((Afz seed h leaf m n (Af .u64 l)).hp id)->Cg ((Afz seed h leaf m n (Af .u64 l)).hp id')->β4 id=some (b,o)->β4 id'=some (b',o')->b≠b':=fun id id' b b' o o' hne h1 h2 h3 h4 e=>by
  subst e;exact hne (hs.inj id id' b o o' h1 h2 h3 h4)
 obtain ⟨e0,he1,he2⟩:∃e0,(∀b o,β4 154=some (b,o)->e0=b)∧((∃o,β4 154=some (e0,o))∨e0=w4.heap.size):=by
  cases hq:β4 154 with
  |none=>exact ⟨w4.heap.size,fun b o h=>by (cases h),.inr rfl⟩
  |some q=>exact ⟨q.1,fun b o h=>by (cases h;rfl),.inl ⟨q.2,rfl⟩⟩
 have hlt4:w.heap.size<=w4.heap.size:=hs.fr.step.size
 have de:∀id b o,id≠154->Cg ((Afz seed h leaf m n (Af .u64 l)).hp id)->β4 id=some (b,o)->b<w4.heap.size->b≠e0:=fun id b o hne h1 h2 hlt e=>by
  rcases he2 with ⟨o',h3⟩|h3
  ·exact dif id 154 b e0 o o' hne h1 trivial h2 h3 e
  ·omega
 have ge:w.heap.size<=e0∧¬Y e0∧e0<=w4.heap.size:=by
  rcases he2 with ⟨o',h3⟩|h3
  ·have:=own 154 e0 o' trivial h3;exact ⟨this.1,this.2,Nat.le_of_lt (hs.blt 154 e0 o' (fun h0:some (Bn.ar false [])=none=>by cases h0) h3)⟩
  ·exact ⟨by omega,fun hy=>by have:=hs.Ylt e0 hy;omega,by omega⟩
 rcases r1 with ⟨_,_,h3,_⟩|⟨cb,co,x,cap,g1,g2,g3,g4,g5,g6⟩
 ·omega
 rcases hb1 with ⟨h7,_⟩|⟨cb',co',h7,h8,h9,_⟩
 ·rw [g1] at h7;cases h7
 rw [g1] at h7;cases h7;have hx:x=co:=by omega
 subst hx
 refine ⟨b5,o5,b6,o6,b8,o8,b10,o10,e0,v1,⟨t5,t6,t8,P5 (hs.tms 9 (by decide)),t10,P5 (hs.tms 27 (by decide)),P5 (hs.tms 28 (by decide)),q5,q6,fun j hj=>?_,fun j hj=>f8 j hj,q0,q1,fun j hj=>f10 j hj,l5,l6,l8,l10,ge.2.2,
  dif 5 10 _ _ _ _ (by decide) trivial trivial e5 e10,dif 6 10 _ _ _ _ (by decide) trivial trivial e6 e10,de 5 _ _ (by decide) trivial e5 l5,de 6 _ _ (by decide) trivial e6 l6,de 10 _ _ (by decide) trivial e10 l10,dif 8 10 _ _ _ _ (by decide) trivial trivial e8 e10,de 8 _ _ (by decide) trivial e8 l8,
  (own 8 _ _ trivial e8).2,(own 10 _ _ trivial e10).2,ge.2.1,(own 10 _ _ trivial e10).1,ge.1,(own 8 _ _ trivial e8).1,by rw [g2];rfl,fun B hB hk=>?_,v2,q2,?_⟩⟩
 ·match j,hj with
  |0,_=>exact ⟨v80,q80⟩
  |1,_=>exact ⟨v81,q81⟩
  |2,_=>exact ⟨v82,q82⟩
 ·have hsame:=hk cb g6 (dif 106 10 _ _ _ _ (by decide) trivial trivial g1 e10) (de 106 _ _ (by decide) trivial g1 g6)
  rw [g2];refine A7.lst 1 _ _ ⟨cb,x,none⟩ cap (fun j=>.int .u64 (l.getD j 0)) rfl (by show cb<_;omega) (fun hb=>?_) g4 (fun j c hj=>?_) (fun _ _ _=>rfl) (fun j c hj=>?_)
  ·rcases hb with hb|hb
   ·exact dif 106 8 _ _ _ _ (by decide) trivial trivial g1 e8 hb
   ·exact (own 106 _ _ trivial g1).2 hb
  ·have hlt:j<(Af .u64 l).length:=(List.getElem?_eq_some_iff.1 hj).1;rw [Am] at hlt;obtain ⟨v,k1,_,k3⟩:=h8 j _ (Mo (List.getElem?_eq_getElem hlt));rw [D6] at k1 ⊢;rw [World.cell?_of_block (a:=⟨cb,x+j,none⟩) hsame,k1,A7.val k3,List.getD_eq_getElem?_getD,List.getElem?_eq_getElem hlt];rfl
  ·have hlt:j<(Af .u64 l).length:=(List.getElem?_eq_some_iff.1 hj).1;rw [Am] at hlt;rw [Mo (List.getElem?_eq_getElem hlt)] at hj;cases hj;rw [List.getD_eq_getElem?_getD,List.getElem?_eq_getElem hlt];exact A7.sc _
 ·rcases r2 with ⟨_,_,_,h4⟩|⟨pb,po,x',cap',k1,k2,k3,k4,k5',k6'⟩
  ·exact .inl h4
  ·have he:=he1 pb po k1;subst he;rcases hb2 with ⟨h7,_⟩|⟨pb',po',h7,_,h9',_⟩
   ·rw [k1] at h7;cases h7
   ·rw [k1] at h7;cases h7;have hxx:x'=po:=by omega
    subst hxx;exact .inr ⟨x',cap',k2,by omega,k6',fun j hj hjb=>h9' rfl j hj hjb⟩
end
section
open Go.IntKind (wrap)
set_option maxRecDepth 20000
open Go Go.RowKit
noncomputable abbrev Aiz:Code:=sA (sB (sR (sL (sR (sR (sR JW))))))
theorem Aka:∃o1 o2:Oper,Aiz=.seq (.region 5 #[o1] false) (.region 6 #[o2] false)∧(o1.op=.assign (.tmp 30)∧o1.dst=some 11∧o1.guard=none)∧(o2.op=.assign (.tmp 31)∧o2.dst=some 12∧o2.guard=none):=
 ⟨_,_,rfl,⟨rfl,rfl,rfl⟩,⟨rfl,rfl,rfl⟩⟩
theorem Ady {F:Fence}{n:Nat}{P:Program}{o:Oper}{x:Operand}{a:Act}{w:World}{next:Act->World->Prop}{Q:Exit->Act->World->Prop}(hF:∀f,F.fn f)(ho:o.op=.assign x)(h:next (a.put o.dst (a.eval x)) w):o.wpIn F n P a w next Q:=by
 refine ⟨fun f _=>hF f,?_⟩
 have e:o.semAt F.round a.eval=execOp a.eval o:=Oper.semAt_eq _ _ _ (by intro c hc;rw [ho] at hc;cases hc)
 rw [e]
 have r:(execOp a.eval o).run P w=.ok (.value (a.eval x)) w:=by
  unfold execOp;rw [ho];simp
 rw [r];exact h
theorem Ac6 {F:Fence}{n:Nat}{P:Program}{o:Oper}{x:Operand}{id:Nat}{a:Act}{w:World}{Q:Exit->Act->World->Prop}(hF:∀f,F.fn f)(ho:o.op=.assign x)(hg:o.guard=none)(h:Q .normal (a.put o.dst (a.eval x)) w):(Code.region id #[o] false).wpIn F n P Q a w:=by
 refine wpIn_region ?_;show wpOpsIn F n P #[o] Q [0] a w;unfold wpOpsIn;simp only [List.getElem?_toArray,List.getElem?_cons_zero,Region.wanted,hg,if_true];exact Ady hF ho h
theorem Gk {a:Act}{i j:Nat}{v:Value}(h:i≠j):(a.put (some i) v).tmps.getD j undef=a.tmps.getD j undef:=by
 show (a.tmps.setIfInBounds i v).getD j undef=_;simp [Array.getD_eq_getD_getElem?,Array.getElem?_setIfInBounds_ne h]
theorem LY {a:Act}{i:Nat}{v:Value}(h:i<a.tmps.size):(a.put (some i) v).tmps.getD i undef=v:=by
 show (a.tmps.setIfInBounds i v).getD i undef=_;simp [Array.getD_eq_getD_getElem?,h]
def sgA (a:Act)(args:Array Value):Act:=
 let r:Act:={ tmps:=((#[30,31]:Array Tmp).zip args).foldl (fun t (p,v)=>t.setIfInBounds p v) a.tmps,defers:=[] }
 let r1:=r.put (some 11) (r.eval (.tmp 30))
 r1.put (some 12) (r1.eval (.tmp 31))
theorem Ais {a:Act}{x y:Value}(hs:a.tmps.size=48):(sgA a #[x,y]).defers=[]∧(sgA a #[x,y]).tmps.size=48∧(sgA a #[x,y]).tmps.getD 5 undef=a.tmps.getD 5 undef∧(sgA a #[x,y]).tmps.getD 6 undef=a.tmps.getD 6 undef∧(sgA a #[x,y]).tmps.getD 10 undef=a.tmps.getD 10 undef ∧
  (sgA a #[x,y]).tmps.getD 11 undef=x∧(sgA a #[x,y]).tmps.getD 12 undef=y:=by
 obtain ⟨b,hb⟩:∃b:Act,({ tmps:=a.tmps,defers:=[] }:Act)=b:=⟨_,rfl⟩;have hbs:b.tmps.size=48:=by rw [←hb];exact hs
 have e:sgA a #[x,y]=(((b.put (some 30) x).put (some 31) y).put (some 11) (((b.put (some 30) x).put (some 31) y).eval (.tmp 30))).put (some 12) ((((b.put (some 30) x).put (some 31) y).put (some 11) (((b.put (some 30) x).put (some 31) y).eval (.tmp 30))).eval (.tmp 31)):=by
  rw [←hb];have z:((#[30,31]:Array Tmp).zip #[x,y]) = #[(30,x),(31,y)]:=by simp
  unfold sgA;rw [z];simp [Act.put]
 have ev:∀(c:Act) (t:Nat),c.eval (.tmp t)=c.tmps.getD t undef:=fun c t=>rfl
 have e30:((b.put (some 30) x).put (some 31) y).eval (.tmp 30)=x:=by rw [ev,Gk (by decide),LY (by omega)]
 rw [e,e30];have e31:(((b.put (some 30) x).put (some 31) y).put (some 11) x).eval (.tmp 31)=y:=by rw [ev,Gk (by decide),LY (by rw [I2];omega)]
 rw [e31];have hd:b.defers=[]:=by rw [←hb]
 have ht:b.tmps=a.tmps:=by rw [←hb]
 refine ⟨by simp only [Mn,hd],by simp only [I2,hbs],?_,?_,?_,?_,?_⟩
 ·rw [Gk (by decide),Gk (by decide),Gk (by decide),Gk (by decide),ht]
 ·rw [Gk (by decide),Gk (by decide),Gk (by decide),Gk (by decide),ht]
 ·rw [Gk (by decide),Gk (by decide),Gk (by decide),Gk (by decide),ht]
 ·rw [Gk (by decide),LY (by simp only [I2];omega)]
 ·rw [LY (by simp only [I2];omega)]
theorem Al1 {w w4 w5:World}{Y:Nat->Prop}{seed leaf:Int}{h:Nat}{c:List PV}{n:Nat}{a4 a5:Act}{b5 o5 b6 o6 b8 o8 b10 o10 e0:Nat}{chv:Value}(hh:h<=4)(hl0:0<=leaf)(hl1:leaf<((2 ^ h:Nat):Int)) (hp:Ath w w4 Y seed h leaf c n a4 b5 o5 b6 o6 b8 o8 b10 o10 e0 chv)
  (hsz:a4.tmps.size=48)(hw5:w5=(w4.alloc (.cells #[.int .u64 seed] 22)).alloc (.cells #[.int .i64 h] 3))
  (ha5:a5=a4.put (some 29) (.func (.func 107) #[] #[.pointer (some ⟨w4.heap.size+1,0,none⟩),.pointer (some ⟨w4.heap.size,0,none⟩)])) {K:Act->World->Prop}{Q:Exit->Act->World->Prop}
  (hK:∀Z B,EK w4 (w4.heap.size+2) seed leaf h b10 o10 e0 chv Z (List.range h) B->B.heap[w4.heap.size+2]?=some (.deferred (some []))->K { a5 with defers:={ target:=.collected (w4.heap.size+2),args:= #[] }::a5.defers } B):
  (Code.block 0 (.rangeFunc (.tmp 29) #[30,31] Aiz Abm)).wpIn Fence.wide 0 Tryz.prog (Exit.then K Q) a5 w5:=by
 have hs5:w5.heap.size=w4.heap.size+2:=by rw [hw5,World.size_alloc,World.size_alloc]
 have hold:∀b,b<w4.heap.size->w5.heap[b]?=w4.heap[b]?:=fun b hb=>by
  rw [hw5];exact (Below.heap_alloc _ _ _ (by simp;omega)).trans (Below.heap_alloc _ _ _ hb)
 have hB1:w5.heap[w4.heap.size+1]?=some (.cells #[.int .i64 h] 3):=by
  rw [hw5];have:=World.alloc_heap_new (w4.alloc (.cells #[.int .u64 seed] 22)) (.cells #[.int .i64 h] 3);rwa [World.size_alloc] at this
 have hB0:w5.heap[w4.heap.size]?=some (.cells #[.int .u64 seed] 22):=by
  rw [hw5];exact (Below.heap_alloc _ _ _ (by simp)).trans (World.alloc_heap_new w4 _)
 have hs5':a5.tmps.size=48:=by rw [ha5,I2];exact hsz
 have g5:a5.tmps.getD 5 undef=.pointer (some ⟨b5,o5,none⟩):=by rw [ha5,Gk (by decide)];exact hp.t5
 have g6:a5.tmps.getD 6 undef=.pointer (some ⟨b6,o6,none⟩):=by rw [ha5,Gk (by decide)];exact hp.t6
 have g10:a5.tmps.getD 10 undef=.pointer (some ⟨b10,o10,none⟩):=by rw [ha5,Gk (by decide)];exact hp.t10
 have g29:a5.eval (.tmp 29)=.func (.func 107) #[] #[.pointer (some ⟨w4.heap.size+1,0,none⟩),.pointer (some ⟨w4.heap.size,0,none⟩)]:=by
  show a5.tmps.getD 29 undef=_;rw [ha5,LY (by omega)]
 have nD:w4.heap.size+2≠e0:=by have:=hp.le;omega
 have nD1:w4.heap.size+2+1≠e0:=by have:=hp.le;omega
 have XF:=Alv (seed:=seed) (h:=h) (Bh:=w4.heap.size+1) (Bs:=w4.heap.size) hh
 refine wpIn_block (Ae5 (Z0:=fun b=>b<w4.heap.size) g29 (enters_of Tryz.func107 (by kernel_rfl) rfl) XF (fun b hb=>by omega) (fun W hW hk=>?_) (fun pre x args Z A B hm h1 h2=>Ahv hm h1 h2) (fun pre x args Z A hm=>Ahd hm)
  (EK w4 (w4.heap.size+2) seed leaf h b10 o10 e0 chv) (Ape w4 (w4.heap.size+2) seed leaf h b10 o10 e0 chv) ?_ ?_ ?_ (sgA a5) ?_ ?_ ?_ ?_)
 ·have k1:=hk (w4.heap.size+1) (by omega)
  have k0:=hk w4.heap.size (by omega)
  refine ⟨(World.cell?_of_block (a:=⟨w4.heap.size+1,0,none⟩) k1).trans ?_,(World.cell?_of_block (a:=⟨w4.heap.size,0,none⟩) k0).trans ?_,by omega,by omega,?_,?_⟩
  ·unfold World.cell?;rw [hB1];rfl
  ·unfold World.cell?;rw [hB0];rfl
  ·rintro (h1|h1|h1)<;>omega
  ·rintro (h1|h1|h1)<;>omega
 ·intro Z pre A B hI hs;rw [hs5] at hs;exact hI.stay hp.l10 nD nD1 (by omega) hs
 ·rintro c' Z pre A B ⟨h1,pre',h2,hI⟩ hs
  rw [hs5] at hs;exact ⟨h1,pre',h2,hI.stay hp.l10 nD nD1 (by omega) hs⟩
 ·intro W hW hst;have e:∀b,b<w4.heap.size->W.heap[b]?=w4.heap[b]?:=fun b hb=>(hst.same b (by omega)).trans (hold b hb)
  have o5:w5.os=w4.os∧w5.tape=w4.tape∧w5.output=w4.output:=by rw [hw5];exact ⟨rfl,rfl,rfl⟩
  obtain ⟨v2,p1,p2⟩:=hp.p0;refine ⟨hst.os.trans o5.1,hst.tape.trans o5.2.1,hst.output.trans o5.2.2,by omega,fun b hb=>.inl hb,fun b hb=>by rcases hb with hb|hb|hb<;>omega,fun b hb _ _=>e b hb,by unfold bsz;rw [e b10 hp.l10];exact Nat.le_refl _,(World.cell?_of_block (e b10 hp.l10)).trans hp.c10,(World.cell?_of_block (e b10 hp.l10)).trans hp.c11,fun k hk=>by rw [frozen?_of_block (e b10 hp.l10)];exact hp.f10 k hk,(fun x hx=>by cases hx),v2,(World.cell?_of_block (e b10 hp.l10)).trans p1,?_,?_⟩
  ·rcases p2 with p2|⟨x,cap,q1,q2,q3,q4⟩
   ·exact .inl ⟨rfl,p2⟩
   ·have hb:bsz W e0=bsz w4 e0:=by unfold bsz;rw [e e0 q3]
    exact .inr ⟨e0,x,cap,q1,Nat.zero_le _,by rw [hb];exact q2,by omega,.inr rfl,fun j y hj=>(by cases hj),fun j hj hjb=>by rw [frozen?_of_block (e e0 q3)];exact q4 j hj (by rw [←hb];exact hjb)⟩
  ·intro pb po k cap' hv;rcases p2 with p2|⟨x,cap,q1,q2,q3,q4⟩
   ·rw [p2] at hv;cases hv
   ·rw [q1] at hv;cases hv;exact .inl q3
 ·intro pre x args Z A K' hm hk;obtain ⟨o1,o2,e,⟨a1,a2,a3⟩,⟨c1,c2,c3⟩⟩:=Aka;refine DI e (wpIn_seq (Ac6 (fun _=>trivial) a1 a3 ?_))
  show (Code.region 6 #[o2] false).wpIn _ _ _ _ _ _;refine Ac6 (fun _=>trivial) c1 c3 ?_
  rw [a2,c2];exact hk
 ·intro Z pre x args A hZ1 hZ2 hI hm;rw [hs5] at hZ1 hZ2 ⊢;obtain ⟨hx,_,bb,oo,cc,hargs,_⟩:=id hm;have sp:=Ais (a:=a5) (x:=.int .i64 x) (y:=.slice (some ⟨bb,oo,none⟩) (2 ^ (h-x):Nat) cc) hs5';rw [←hargs] at sp;refine Ag9 hh hl0 hl1 hI hm ⟨sp.1,sp.2.1,sp.2.2.1.trans g5,sp.2.2.2.1.trans g6,sp.2.2.2.2.1.trans g10,?_,?_⟩ hp.c5 hp.c6 hp.l5 hp.l6 hp.l10 hp.n5 hp.n6 hp.m5 hp.m6 hp.m10 nD nD1 (by omega) hZ1 hZ2
  ·rw [sp.2.2.2.2.2.1,hargs];rfl
  ·rw [sp.2.2.2.2.2.2,hargs];rfl
 ·intro Z xs B hS hI _;subst hS;have:=hI.lt h (by simp)
  omega
 ·rintro c' Z xs B ⟨k,hk⟩ ⟨rfl,pre,hpre,hI⟩ hdf
  have hrg:pre=List.range h:=by
   rw [hpre,List.range_succ] at hk;have:=List.append_inj' hk rfl;have h2:h=k:=by simpa using this.2
   rw [this.1,h2]
  subst hrg;rw [hs5] at hdf ⊢;refine wpIn_exit ?_;simp only [Exit.inBlock,if_true];exact hK Z B hI hdf
end
end Go.Proofs.YtdjihiphpgkfmaaGreatDoor.Pv
