/-
  The proof of CertificatePaths, part 6.
-/
import Derived.Test.YtdjihiphpgkfmaaGreatDoorPE
import Derived.Test.YtdjihiphpgkfmaaGreatDoorRows
import Derived.RangeFuncNested
import Derived.RangeFuncLeaves
import Derived.WalkKit
import Derived.LoopNIn
import Derived.OrdersIn
import Derived.Shelf.Abstract
import Derived.OwnWalkIn
import Derived.TacticsInMore
set_option linter.unusedSimpArgs false
set_option linter.unusedVariables false
namespace Go.Proofs.YtdjihiphpgkfmaaGreatDoor.Pv
section
open Go.IntKind (wrap)
abbrev dkc (l:List Int)(a:Nat):List PV:=[.lst false 1 l.length (Af .i64 l),.sc (.int .i64 (a:Int))]
theorem Asm {fu d:Nat}{l:List Int}:Ae C0 Tryz.prog fu (d+1) Rp [.lst false 1 l.length (Af .i64 l)]=some ⟨[.pbox (dkc l 0)],[]⟩:=by
 rw [DJ];rfl
theorem Agn (v n:Int)(hn:0<n)(hm:n<=9223372036854775807):∃r,0<=r∧r<n∧∀{fu d:Nat},Ae C0 Tryz.prog fu (d+1) Rk [.sc (.int .i64 v),.sc (.int .i64 n)]=some ⟨[.sc (.int .i64 r)],[]⟩:=by
 have h1:=G6 v;have h2:wrap .u64 n=n:=Cq (by omega) (by omega)
 have h3:0<=Int.tmod (wrap .u64 v) n:=Int.tmod_nonneg _ h1.1;have h4:Int.tmod (wrap .u64 v) n<n:=Int.tmod_lt_of_pos _ hn;refine ⟨_,h3,h4,fun {fu d}=>?_⟩
 rw [CJ];simp only [Hl,h2];rw [TY _ _ (by omega),Al (by omega) (by omega)]
theorem H1 {l:List Int}(hl:l.length<=maxLen)(a:Nat)(n:Int)(hn:0<n)(hm:n<=9223372036854775807):∃(v:Int)(a':Nat),0<=v∧v<n ∧
  ∀{fu d:Nat},Ae C0 Tryz.prog fu (d+2) Jz [.pbox (dkc l a),.sc (.int .i64 n)]=some ⟨[.sc (.int .i64 v)],[dkc l a']⟩:=by
 simp only [maxLen] at hl;by_cases h:a<l.length
 ·obtain ⟨r,h1,h2,h3⟩:=Agn l[a] n hn hm;refine ⟨r,a+1,h1,h2,fun {fu d}=>?_⟩
  rw [Jw]
  have hg:(Af .i64 l).getD (Int.toNat ((a:Int)+1-1)*1) .top=.sc (.int .i64 l[a]):=by
   have:=Vg (k:=.i64) (List.getElem?_eq_getElem h);rw [show Int.toNat ((a:Int)+1-1)*1=a by omega]
   exact this
  simp (disch:=omega) only [Bz,Al,hg,h3];rfl
 ·refine ⟨0,a,by omega,hn,fun {fu d}=>?_⟩
  rw [Jw];simp (disch:=omega) only [Bz]
end
section
open Go.IntKind (wrap)
set_option maxRecDepth 100000
abbrev Q6:FuncId:=29
theorem DD (fu d:Nat)(a0 a1:Int):Ae C0 Tryz.prog fu (d+1) Q6 [.sc (.int .u64 a0),.sc (.int .i64 a1)]=(fun (call:Ah)=>Ag (call 18 [.sc (.int .u64 a0),.sc (.int .i64 a1)]) fun x1 x2=>Ac x2<|Ab x1 fun x3 x4=>C4 x3 fun x5=>Ab x5 fun x6 x7=>Ad .i64 x6 fun x8=>Ab x7 fun x9 Cl=>Ad .u64 x9 fun Cw=>Ac Cl<|Ab x4 fun Dl Ds=>Ad .i64 Dl fun Dk=>Ac Ds<|some (A0.mk [.agg [.sc (.int .i64 x8),.sc (.int .u64 Cw)]] [])) (Ae C0 Tryz.prog fu d):=by kernel_rfl
end
section
open Go.IntKind (wrap)
set_option maxRecDepth 1000000
section
variable {fu d:Nat}
theorem KV (hfu:1000<=fu)(seed h:Int):Ae C0 Tryz.prog fu (d+13) Q6 [.sc (.int .u64 seed),.sc (.int .i64 h)]=some ⟨[.agg (Gz seed h).cells],[]⟩:=by
 rw [DD];have p:=Aal (fu:=fu) (d:=d) hfu seed h;simp only [Ky.cells] at p ⊢;simp only [Bz,p]
end
theorem TH (dom:Int)(l:List Int):isU (Nb dom l):=G6 _
theorem Ao4 (key dom:Int)(l:List Int):isU (Amg key dom l):=G6 _
theorem Ahv (leaf chain:Int):∀(k:Nat)(p:Int){x:Int},isU x->isU (Qv leaf chain k p x)
 |0,_,_,h=>h
 |k+1,p,x,h=>Ahv leaf chain k (p+1) (TH _ _)
theorem Apw (seed leaf m:Int):isW (I3 seed leaf m):=by
 intro x hx;obtain ⟨k,_,rfl⟩:=List.mem_map.1 hx;exact Ahv _ _ _ _ (Ao4 _ _ _)
theorem Adh (seed:Int):∀(l:Nat)(i:Int),isU (B5 seed l i)
 |0,i=>TH _ _
 |l+1,i=>TH _ _
theorem Afj (seed h:Int):isU (Gz seed h).root:=by
 unfold Gz;split
 ·exact ⟨by simp,by simp⟩
 ·exact Adh _ _ _
theorem Afg (seed h:Int):Dh (Gz seed h).h=false:=by
 unfold Gz;cases hh:Dh h
 ·rw [A5 (by simp)]
  exact hh
 ·rw [Bu rfl];rfl
theorem Ama {seed h leaf m:Int}(hh:Dh h=false)(ho:Ip leaf h=false):∃s,BO seed h leaf m=some s∧s.ok∧s.leaf=leaf∧s.chains.length=18∧(s.path.length:Int)=h∧OK (Gz seed h) m s=0:=by
 have hb:=H2 hh;refine ⟨⟨leaf,I3 seed leaf m,(List.range h.toNat).map fun k=>B5 seed k (Fy leaf k)⟩,?_,⟨Apw _ _ _,?_⟩,rfl,by simp [I3],?_,Agp hh ho⟩
 ·unfold BO;rw [A5 (by simp [hh]),A5 (by simp [ho])]
 ·intro x hx;obtain ⟨k,_,rfl⟩:=List.mem_map.1 hx;exact Adh _ _ _
 ·simp only [List.length_map,List.length_range];omega
end
section
open Go.IntKind (wrap)
set_option maxRecDepth 100000
abbrev Qq:FuncId:=17
theorem Zl (fu d:Nat)(a0_0 a0_1:ByteArray)(a0_2 a0_3:Int)(a0_4 a0_5 a0_6:Int)(a0_7:Bool)(a0_8 a0_9 a0_10:Int)(a0_11n:Nat)(a0_11:List PV)(a0_12n:Nat)(a0_12:List PV)(a1 a2 a3:Int):Ae C0 Tryz.prog fu (d+1) Qq [.agg [.sc (.string a0_0),.sc (.string a0_1),.sc (.int .u64 a0_2),.sc (.int .i64 a0_3),.sc (.int .u64 a0_4),.sc (.int .i64 a0_5),.sc (.int .i64 a0_6),.sc (.bool a0_7),.sc (.int .i64 a0_8),.sc (.int .u64 a0_9),.sc (.int .i64 a0_10),.lst false 1 a0_11n a0_11,.lst false 1 a0_12n a0_12],.sc (.int .u64 a1),.sc (.int .i64 a2),.sc (.int .i64 a3)]=(fun (call:Ah)=>Ag (call 36 [.agg [.sc (.string a0_0),.sc (.string a0_1),.sc (.int .u64 a0_2),.sc (.int .i64 a0_3),.sc (.int .u64 a0_4),.sc (.int .i64 a0_5),.sc (.int .i64 a0_6),.sc (.bool a0_7),.sc (.int .i64 a0_8),.sc (.int .u64 a0_9),.sc (.int .i64 a0_10),.lst false 1 a0_11n a0_11,.lst false 1 a0_12n a0_12]]) fun x1 x2=>Ac x2<|Ab x1 fun x3 x4=>Ad .u64 x3 fun x5=>Ab x4 fun x6 x7=>Ad .i64 x6 fun x8=>Ac x7<|A9 (x8 != 0) (some (A0.mk [.agg [.sc (.string (ByteArray.mk #[])),.sc (.string (ByteArray.mk #[])),.sc (.int .u64 0),.sc (.int .i64 0),.sc (.int .u64 0),.sc (.int .i64 0),.sc (.int .i64 0),.sc (.bool false),.sc (.int .i64 0),.sc (.int .u64 0),.sc (.int .i64 0),.lst false 1 0 [],.lst false 1 0 []],.sc (.int .i64 x8)] [])) (Ag (call 37 [.sc (.int .u64 a1),.sc (.int .i64 a2),.sc (.int .i64 a3),.sc (.int .u64 x5)]) fun x9 Cl=>Ac Cl<|Ab x9 fun Cw Dl=>C4 Cw fun Ds=>Ab Ds fun Dk D9=>Ad .i64 Dk fun Ea=>Ab D9 fun En E1=>Fk 1 En fun Fg Fp Ho=>Ab E1 fun Hb Hr=>Fk 1 Hb fun Dz Dq F5=>Ac Hr<|Ab Dl fun H3 E2=>Ad .i64 H3 fun Jg=>Ac E2<|A9 (Jg != 0) (some (A0.mk [.agg [.sc (.string (ByteArray.mk #[])),.sc (.string (ByteArray.mk #[])),.sc (.int .u64 0),.sc (.int .i64 0),.sc (.int .u64 0),.sc (.int .i64 0),.sc (.int .i64 0),.sc (.bool false),.sc (.int .i64 0),.sc (.int .u64 0),.sc (.int .i64 0),.lst false 1 0 [],.lst false 1 0 []],.sc (.int .i64 Jg)] [])) (some (A0.mk [.agg [.sc (.string a0_0),.sc (.string a0_1),.sc (.int .u64 a0_2),.sc (.int .i64 a0_3),.sc (.int .u64 a0_4),.sc (.int .i64 a0_5),.sc (.int .i64 a0_6),.sc (.bool a0_7),.sc (.int .i64 a0_8),.sc (.int .u64 a0_9),.sc (.int .i64 Ea),.lst false 1 Fp Ho,.lst false 1 Dq F5],.sc (.int .i64 0)] [])))) (Ae C0 Tryz.prog fu d):=by kernel_rfl
end
section
open Go.IntKind (wrap)
set_option maxRecDepth 100000
abbrev Nl:FuncId:=9
theorem Wd (fu d:Nat)(a0_0 a0_1:ByteArray)(a0_2 a0_3:Int)(a0_4 a0_5 a0_6:Int)(a0_7:Bool)(a0_8 a0_9 a0_10:Int)(a0_11n:Nat)(a0_11:List PV)(a0_12n:Nat)(a0_12:List PV):Ae C0 Tryz.prog fu (d+1) Nl [.agg [.sc (.string a0_0),.sc (.string a0_1),.sc (.int .u64 a0_2),.sc (.int .i64 a0_3),.sc (.int .u64 a0_4),.sc (.int .i64 a0_5),.sc (.int .i64 a0_6),.sc (.bool a0_7),.sc (.int .i64 a0_8),.sc (.int .u64 a0_9),.sc (.int .i64 a0_10),.lst false 1 a0_11n a0_11,.lst false 1 a0_12n a0_12]]=(fun (call:Ah)=>A9 (decide ((↑(ByteArray.size a0_0):Int)<100)) (A9 (decide ((↑(ByteArray.size a0_1):Int)<100)) (A9 (decide ((↑a0_11n:Int)<40)) (some (A0.mk [.sc (.bool (decide ((↑a0_12n:Int)<10)))] [])) (some (A0.mk [.sc (.bool false)] []))) (some (A0.mk [.sc (.bool false)] []))) (some (A0.mk [.sc (.bool false)] []))) (Ae C0 Tryz.prog fu d):=by kernel_rfl
abbrev M6:FuncId:=10
theorem Wj (fu d:Nat):Ae C0 Tryz.prog fu (d+1) M6 []=(fun (call:Ah)=>Ag (call 29 [.sc (.int .u64 5),.sc (.int .i64 1)]) fun x1 x2=>Ac x2<|Ab x1 fun x3 x4=>C4 x3 fun x5=>Ab x5 fun x6 x7=>Ad .i64 x6 fun x8=>Ab x7 fun x9 Cl=>Ad .u64 x9 fun Cw=>Ac Cl<|Ac x4<|Ag (call 17 [.agg [.sc (.string (ByteArray.mk #[108,101,97,102])),.sc (.string (ByteArray.mk #[114,111,111,116])),.sc (.int .u64 9),.sc (.int .i64 x8),.sc (.int .u64 Cw),.sc (.int .i64 1),.sc (.int .i64 8),.sc (.bool false),.sc (.int .i64 0),.sc (.int .u64 0),.sc (.int .i64 0),.lst false 1 0 [],.lst false 1 0 []],.sc (.int .u64 71),.sc (.int .i64 1),.sc (.int .i64 0)]) fun Dl Ds=>Ac Ds<|Ab Dl fun Dk D9=>C4 Dk fun Ea=>Ab Ea fun En E1=>Cj En fun Fg=>Ab E1 fun Fp Ho=>Cj Fp fun Hb=>Ab Ho fun Hr Dz=>Ad .u64 Hr fun Dq=>Ab Dz fun F5 H3=>Ad .i64 F5 fun E2=>Ab H3 fun Jg L6=>Ad .u64 Jg fun J3=>Ab L6 fun Mp Mg=>Ad .i64 Mp fun Nm=>Ab Mg fun Pt P7=>Ad .i64 Pt fun R4=>Ab P7 fun Hi J8=>Bj Hi fun Uy=>Ab J8 fun Y8 Ph=>Ad .i64 Y8 fun Nw=>Ab Ph fun Uo Sb=>Ad .u64 Uo fun To=>Ab Sb fun Xt Yh=>Ad .i64 Xt fun Sd=>Ab Yh fun We Yk=>Fk 1 We fun Xe O3 Yl=>Ab Yk fun DK BC=>Fk 1 DK fun Y3 U7 X7=>Ac BC<|Ab D9 fun BA Zd=>Ad .i64 BA fun Y6=>Ac Zd<|Ag (call 30 [.agg [.sc (.string Fg),.sc (.string Hb),.sc (.int .u64 Dq),.sc (.int .i64 E2),.sc (.int .u64 J3),.sc (.int .i64 Nm),.sc (.int .i64 R4),.sc (.bool Uy),.sc (.int .i64 Nw),.sc (.int .u64 To),.sc (.int .i64 Sd),.lst false 1 O3 Yl,.lst false 1 U7 X7]]) fun BB Y1=>Ac Y1<|Ab BB fun Za Xv=>Es 1 Za fun Xj EB=>Ab Xv fun Zs Y2=>Ad .i64 Zs fun Zf=>Ac Y2<|Au (decide (0+Xj*1<=EB.length))<|Ag (call 31 [.lst false 1 Xj (List.take (Xj*1) (List.drop 0 EB))]) fun Zz EG=>Ac EG<|Ab Zz fun Zk Y4=>C4 Zk fun GZ=>Ab GZ fun BE FP=>Cj BE fun IU=>Ab FP fun IW UI=>Cj IW fun NQ=>Ab UI fun RU OL=>Ad .u64 RU fun ZG=>Ab OL fun WJ UX=>Ad .i64 WJ fun TX=>Ab UX fun EI RG=>Ad .u64 EI fun SE=>Ab RG fun YA VI=>Ad .i64 YA fun x94=>Ab VI fun x95 x96=>Ad .i64 x95 fun UZ=>Ab x96 fun ZM ZN=>Bj ZM fun Ys=>Ab ZN fun Xb H5=>Ad .i64 Xb fun D7=>Ab H5 fun Z6 Tl=>Ad .u64 Z6 fun R7=>Ab Tl fun Kx Zu=>Ad .i64 Kx fun AM=>Ab Zu fun Z4 Zr=>Fk 1 Z4 fun Iy Kl AW=>Ab Zr fun Zh AP=>Fk 1 Zh fun FS Ub Vw=>Ac AP<|Ab Y4 fun Yi X9=>Ad .i64 Yi fun Zo=>Ac X9<|Ag (call 29 [.sc (.int .u64 71),.sc (.int .i64 1)]) fun BI Tg=>Ac Tg<|Ab BI fun R3 Qt=>C4 R3 fun Tu=>Ab Tu fun Vl CF=>Ad .i64 Vl fun Zi=>Ab CF fun JN EO=>Ad .u64 JN fun Zp=>Ac EO<|Ac Qt<|Ag (call 27 [.lst false 13 1 [.sc (.string Fg),.sc (.string Hb),.sc (.int .u64 Dq),.sc (.int .i64 E2),.sc (.int .u64 J3),.sc (.int .i64 Nm),.sc (.int .i64 R4),.sc (.bool Uy),.sc (.int .i64 Nw),.sc (.int .u64 To),.sc (.int .i64 Sd),.lst false 1 O3 Yl,.lst false 1 U7 X7],.lst false 3 1 [.sc (.string (ByteArray.mk #[114,111,111,116])),.sc (.int .i64 Zi),.sc (.int .u64 Zp)],.lst false 3 0 [],.sc (.int .i64 8)]) fun IF JL=>Ac JL<|Ab IF fun LF NX=>Ad .i64 LF fun LD=>Ab NX fun FB IC=>Ad .i64 FB fun JQ=>Ac IC<|Ag (call 27 [.lst false 13 1 [.sc (.string Fg),.sc (.string Hb),.sc (.int .u64 Dq),.sc (.int .i64 E2),.sc (.int .u64 J3),.sc (.int .i64 Nm),.sc (.int .i64 R4),.sc (.bool Uy),.sc (.int .i64 Nw),.sc (.int .u64 To),.sc (.int .i64 Sd),.lst false 1 O3 Yl,.lst false 1 U7 X7],.lst false 3 1 [.sc (.string (ByteArray.mk #[114,111,111,116])),.sc (.int .i64 Zi),.sc (.int .u64 Zp)],.lst false 3 0 [],.sc (.int .i64 9)]) fun MS LX=>Ac LX<|Ab MS fun FR IG=>Ad .i64 FR fun IA=>Ab IG fun HU NG=>Ad .i64 HU fun SG=>Ac NG<|A9 (Y6==0) (A9 (Zf==0) (A9 (Zo==0) (A9 (JQ==0) (A9 (LD==0) (A9 (SG==38) (Ag (call 19 [.agg [.sc (.string Fg),.sc (.string Hb),.sc (.int .u64 Dq),.sc (.int .i64 E2),.sc (.int .u64 J3),.sc (.int .i64 Nm),.sc (.int .i64 R4),.sc (.bool Uy),.sc (.int .i64 Nw),.sc (.int .u64 To),.sc (.int .i64 Sd),.lst false 1 O3 Yl,.lst false 1 U7 X7],.agg [.sc (.string IU),.sc (.string NQ),.sc (.int .u64 ZG),.sc (.int .i64 TX),.sc (.int .u64 SE),.sc (.int .i64 x94),.sc (.int .i64 UZ),.sc (.bool Ys),.sc (.int .i64 D7),.sc (.int .u64 R7),.sc (.int .i64 AM),.lst false 1 Kl AW,.lst false 1 Ub Vw]]) fun XK UG=>Ac UG<|Ab XK fun EQ OW=>Bj EQ fun SF=>Ac OW<|some (A0.mk [.sc (.bool SF)] [])) (some (A0.mk [.sc (.bool false)] []))) (some (A0.mk [.sc (.bool false)] []))) (some (A0.mk [.sc (.bool false)] []))) (some (A0.mk [.sc (.bool false)] []))) (some (A0.mk [.sc (.bool false)] []))) (some (A0.mk [.sc (.bool false)] []))) (Ae C0 Tryz.prog fu d):=by kernel_rfl
end
section
open Go.IntKind (wrap)
set_option maxRecDepth 1000000
section
variable {fu d:Nat} {c:Ce}
theorem Aoj (seed h leaf m:Int):Ae C0 Tryz.prog fu (d+1) 37 [.sc (.int .u64 seed),.sc (.int .i64 h),.sc (.int .i64 leaf),.sc (.int .u64 m)] =
  some ⟨[.agg [.sc (.int .i64 (tkL h leaf)),.lst false 1 (tkC seed h leaf m).length (Af .u64 (tkC seed h leaf m)),.lst false 1 (tkP seed h leaf).length (Af .u64 (tkP seed h leaf))],.sc (.int .i64 (tkE h leaf))],[]⟩:=by kernel_rfl
theorem Aqp (seed h leaf m:Int):(BO seed h leaf m=none∧tkE h leaf=9)∨(BO seed h leaf m=some ⟨tkL h leaf,tkC seed h leaf m,tkP seed h leaf⟩∧tkE h leaf=0):=by
 unfold BO tkE tkL tkC tkP JT;cases Dh h
 ·cases Ip leaf h
  ·exact .inr ⟨rfl,rfl⟩
  ·exact .inl ⟨rfl,rfl⟩
 ·exact .inl ⟨rfl,rfl⟩
theorem Aih (hfu:1000<=fu)(hw:c.wf)(hs1:c.subj.size<=9223372036854775807)(hs2:c.iss.size<=9223372036854775807)(seed h leaf:Int):Ae C0 Tryz.prog fu (d+9) Qq [.agg c.cells,.sc (.int .u64 seed),.sc (.int .i64 h),.sc (.int .i64 leaf)]=some ⟨[.agg (Vb c seed h leaf).1.cells,.sc (.int .i64 (Vb c seed h leaf).2)],[]⟩:=by
 refine (Zl fu (d+8) c.subj c.iss c.serial c.key.h c.key.root c.fr c.un c.auth c.path c.model c.sig.leaf c.sig.chains.length (Af .u64 c.sig.chains) c.sig.path.length (Af .u64 c.sig.path) seed h leaf).trans ?_;have wq:=YR (fu:=fu) (d:=d) hfu hw hs1 hs2;simp only [Ce.cells] at wq;unfold IX at wq;unfold Vb;by_cases h0:A4 c=0
 ·rw [Bu h0] at wq;rw [Bu h0];have e00:((0:Int) != 0)=false:=rfl;have e90:((9:Int) != 0)=true:=rfl;have tk:=Aoj (fu:=fu) (d:=d+7) seed h leaf (Kg c);have La:=Am .u64 (tkC seed h leaf (Kg c));have Lb:=Am .u64 (tkP seed h leaf);have ta:=J7 .u64 (tkC seed h leaf (Kg c));have tb:=J7 .u64 (tkP seed h leaf);rcases Aqp seed h leaf (Kg c) with ⟨hs,he⟩|⟨hs,he⟩
  ·rw [hs];rw [he] at tk
   try unfold Aa
   repeat first
    |((with_reducible first|apply As|apply Ak|apply At|apply Bg|apply Bv|apply Aj);· first|with_reducible rfl|(simp (disch:=omega) only [wq,e00,e90,B8,Br,E6,tk,La,Lb,ta,tb]<;>with_reducible rfl))
    |((with_reducible first|apply Ap|apply Ar);· first|with_reducible rfl|omega|(simp (disch:=omega) only [gT,wq,e00,e90,B8,Br,E6,tk,La,Lb,ta,tb]<;>omega))
    |(with_reducible apply Aq;· first|with_reducible rfl|(simp (disch:=omega) only [gF,wq,e00,e90,B8,Br,E6,tk,La,Lb,ta,tb]<;>omega))
   try simp (disch:=omega) only [wq,e00,e90,B8,Br,E6,tk,La,Lb,ta,tb]
   all_goals rfl
  ·rw [hs];rw [he] at tk
   try unfold Aa
   repeat first
    |((with_reducible first|apply As|apply Ak|apply At|apply Bg|apply Bv|apply Aj);· first|with_reducible rfl|(simp (disch:=omega) only [wq,e00,e90,B8,Br,E6,tk,La,Lb,ta,tb]<;>with_reducible rfl))
    |((with_reducible first|apply Ap|apply Ar);· first|with_reducible rfl|omega|(simp (disch:=omega) only [gT,wq,e00,e90,B8,Br,E6,tk,La,Lb,ta,tb]<;>omega))
    |(with_reducible apply Aq;· first|with_reducible rfl|(simp (disch:=omega) only [gF,wq,e00,e90,B8,Br,E6,tk,La,Lb,ta,tb]<;>omega))
   try simp (disch:=omega) only [wq,e00,e90,B8,Br,E6,tk,La,Lb,ta,tb]
   all_goals rfl
 ·have hne:(A4 c != 0)=true:=by simp [h0]
  rw [A5 h0] at wq;rw [A5 h0]
  try unfold Aa
  repeat first
   |((with_reducible first|apply As|apply Ak|apply At|apply Bg|apply Bv|apply Aj);· first|with_reducible rfl|(simp (disch:=omega) only [wq,hne]<;>with_reducible rfl))
   |((with_reducible first|apply Ap|apply Ar);· first|with_reducible rfl|omega|(simp (disch:=omega) only [gT,wq,hne]<;>omega))
   |(with_reducible apply Aq;· first|with_reducible rfl|(simp (disch:=omega) only [gF,wq,hne]<;>omega))
  try simp (disch:=omega) only [wq,hne]
  all_goals rfl
theorem Ag3:Ae C0 Tryz.prog fu (d+1) Nl [.agg c.cells]=some ⟨[.sc (.bool (decide ((c.subj.size:Int)<100)&&decide ((c.iss.size:Int)<100)&&decide ((c.sig.chains.length:Int)<40)&&decide ((c.sig.path.length:Int)<10)))],[]⟩:=by
 refine (Wd fu d c.subj c.iss c.serial c.key.h c.key.root c.fr c.un c.auth c.path c.model c.sig.leaf c.sig.chains.length (Af .u64 c.sig.chains) c.sig.path.length (Af .u64 c.sig.path)).trans ?_;cases decide ((c.subj.size:Int)<100)<;>cases decide ((c.iss.size:Int)<100)<;>cases decide ((c.sig.chains.length:Int)<40)<;>rfl
end
end
section
open Go.IntKind (wrap)
set_option maxRecDepth 1000000
section
variable {fu d:Nat}
theorem KK {call:Ah}{a0n a1n:Nat}{a0 a1:List PV}{l:List Int}(hl:l.length<=1000):∀(k i nn:Nat),i+k=l.length->k<nn ->
  Ev fu call a0n a0 a1n a1 nn l.length (Af .u64 l) l.length (Af .u64 l) i=some ⟨[.sc (.bool true)],[]⟩
 |_,_,0,_,h=>by omega
 |0,i,nn+1,hi,hn=>by
  have e:i=l.length:=by omega
  subst e;rw [Ic];simp (disch:=omega) only [Bz]
 |k+1,i,nn+1,hi,hn=>by
  have ih:=KK (call:=call) (a0n:=a0n) (a1n:=a1n) (a0:=a0) (a1:=a1) hl k (i+1) nn (by omega) (by omega)
  obtain ⟨x,hx⟩:∃x,l[i]?=some x:=⟨_,List.getElem?_eq_getElem (by omega)⟩
  have w:wrap .i64 ((i:Int)+1)=((i+1:Nat):Int):=by rw [Al (by omega) (by omega)];omega
  have q:(x != x)=false:=bne_self_eq_false x;rw [Ic];simp (disch:=omega) only [Bz,Gu,B8,Br,Vg hx,q,w];exact ih
theorem YF (hfu:2000<=fu){l:List Int}(hl:l.length<=1000):Ae C0 Tryz.prog fu (d+1) Jy [.lst false 1 l.length (Af .u64 l),.lst false 1 l.length (Af .u64 l)]=some ⟨[.sc (.bool true)],[]⟩:=by
 refine (Sq fu d l.length (Af .u64 l) l.length (Af .u64 l)).trans ?_;have q:=KK (fu:=fu) (call:=Ae C0 Tryz.prog fu d) (a0n:=l.length) (a1n:=l.length) (a0:=Af .u64 l) (a1:=Af .u64 l) hl l.length 0 fu (by omega) (by omega)
 have b:((l.length:Int) != (l.length:Int))=false:=bne_self_eq_false _;simp only [Bz,b];exact q
theorem Ai7 (hfu:2000<=fu){s:Sg}(h1:s.chains.length<=1000)(h2:s.path.length<=1000):Ae C0 Tryz.prog fu (d+2) Hv [.agg s.cells,.agg s.cells]=some ⟨[.sc (.bool true)],[]⟩:=by
 refine (Pa fu (d+1) s.leaf s.chains.length (Af .u64 s.chains) s.path.length (Af .u64 s.path) s.leaf s.chains.length (Af .u64 s.chains) s.path.length (Af .u64 s.path)).trans ?_;have w1:=YF (fu:=fu) (d:=d) hfu h1;have w2:=YF (fu:=fu) (d:=d) hfu h2;have q1:(s.leaf==s.leaf)=true:=beq_self_eq_true _
 try unfold Aa
 repeat first
  |((with_reducible first|apply As|apply Ak|apply At|apply Ao|apply Aw|apply Bc|apply Bg|apply Bv|apply Aj);· first|with_reducible rfl|(simp (disch:=omega) only [q1,w1,w2]<;>with_reducible rfl))
  |((with_reducible first|apply Ap|apply Ar);· first|with_reducible rfl|omega|(simp (disch:=omega) only [gT,q1,w1,w2]<;>omega))
  |(with_reducible apply Aq;· first|with_reducible rfl|(simp (disch:=omega) only [gF,q1,w1,w2]<;>omega))
 try simp (disch:=omega) only [q1,w1,w2]
 all_goals rfl
theorem Aiq (hfu:2000<=fu){c:Ce}(h1:c.sig.chains.length<=1000)(h2:c.sig.path.length<=1000):Ae C0 Tryz.prog fu (d+3) Ha [.agg c.cells,.agg c.cells]=some ⟨[.sc (.bool true)],[]⟩:=by
 refine (Ma fu (d+2) c.subj c.iss c.serial c.key.h c.key.root c.fr c.un c.auth c.path c.model c.sig.leaf c.sig.chains.length (Af .u64 c.sig.chains) c.sig.path.length (Af .u64 c.sig.path) c.subj c.iss c.serial c.key.h c.key.root c.fr c.un c.auth c.path c.model c.sig.leaf c.sig.chains.length (Af .u64 c.sig.chains) c.sig.path.length (Af .u64 c.sig.path)).trans ?_;have ws:=Ai7 (fu:=fu) (d:=d) hfu h1 h2;simp only [Sg.cells] at ws;have q0:∀l:List UInt8,(l==l)=true:=fun l=>beq_self_eq_true l
 have q1:∀l:Int,(l==l)=true:=fun l=>beq_self_eq_true l
 have q2:∀l:Bool,(l==l)=true:=fun l=>beq_self_eq_true l
 try unfold Aa
 repeat first
  |((with_reducible first|apply As|apply Ak|apply At|apply Ao|apply Aw|apply Bc|apply Bg|apply Bv|apply Aj);· first|with_reducible rfl|(simp (disch:=omega) only [q0,q1,q2,Bool.and_true,ws]<;>with_reducible rfl))
  |((with_reducible first|apply Ap|apply Ar);· first|with_reducible rfl|omega|(simp (disch:=omega) only [gT,q0,q1,q2,Bool.and_true,ws]<;>omega))
  |(with_reducible apply Aq;· first|with_reducible rfl|(simp (disch:=omega) only [gF,q0,q1,q2,Bool.and_true,ws]<;>omega))
 try simp (disch:=omega) only [q0,q1,q2,Bool.and_true,ws]
 all_goals rfl
end
abbrev lfS:ByteArray:=⟨#[(108:UInt8),(101:UInt8),(97:UInt8),(102:UInt8)]⟩
abbrev UY:ByteArray:=⟨#[(114:UInt8),(111:UInt8),(111:UInt8),(116:UInt8)]⟩
def XZ:Ce:=⟨lfS,UY,9,Gz 5 1,1,8,false,0,0,⟨0,[],[]⟩⟩
theorem YL:A4 XZ=0:=by
 unfold A4;have h1:XZ.subj.size=4:=rfl;have h2:XZ.iss.size=4:=rfl;have h3:XX XZ.subj=true:=by decide
 have h4:XX XZ.iss=true:=by decide
 have h5:Dh XZ.key.h=false:=Afg 5 1;have h6:XZ.fr=1:=rfl;have h7:XZ.un=8:=rfl;have h8:XZ.path=0:=rfl;rw [h1,h2,h3,h4,h5,h6,h7,h8];simp
theorem Adn:∃s,BO 71 1 0 (Kg XZ)=some s∧s.ok∧s.leaf=0∧s.chains.length=18∧(s.path.length:Int)=1∧OK (Gz 71 1) (Kg XZ) s=0:=Ama (by decide) (by decide)
noncomputable def YI:Sg:=Classical.choose Adn
theorem CA:BO 71 1 0 (Kg XZ)=some YI∧YI.ok∧YI.leaf=0∧YI.chains.length=18∧(YI.path.length:Int)=1∧OK (Gz 71 1) (Kg XZ) YI=0:=Classical.choose_spec Adn
noncomputable def cA:Ce:={ XZ with sig:=YI }
theorem Adg:cA.ok:=⟨by decide,by decide,Afj 5 1,CA.2.1⟩
theorem TG:A4 cA=0:=YL
theorem RZ:Fe cA=0:=by
 obtain ⟨_,_,h3,h4,h5,_⟩:=CA;unfold Fe;rw [TG,Bu rfl];show LY YI=0;unfold LY;rw [h5,h3,A5 (by decide),A5 (by decide),A5 (by omega)]
theorem Acs:cA.in_:=⟨Adg.wf,by show lfS.size<=_;decide,by show UY.size<=_;decide⟩
theorem Aly:Np cA (Gz 71 1)=0:=by
 unfold Np;rw [TG,Bu rfl];exact CA.2.2.2.2.2
theorem Aev:Vb XZ 71 1 0=(cA,0):=by
 unfold Vb;rw [Bu YL,CA.1];rfl
theorem XY (now:Int)(h0:1<=now)(h1:now<=9):HD [cA] [⟨UY,Gz 71 1⟩] [] now=if now<=8 then (0,0) else (0,38):=by
 unfold HD;rw [A5 (by omega),A5 (by omega),A5 (by simp),A5 (by simp)]
 unfold S4
 have lk:F6 cA ((0:Nat):Int) [] now=if now<1 then 38 else if now>8 then 38 else I8 cA now []:=by
  unfold F6;rw [TG];rfl
 have n1:¬(now<1):=by omega
 rw [lk,A5 n1];by_cases h:now<=8
 ·have r0:I8 cA now []=0:=rfl;have n8:¬(now>8):=by omega
  rw [A5 n8,Bu h,r0,A5 (by simp)]
  unfold YE
  have is:Le cA 0 [⟨UY,Gz 71 1⟩]=0:=by
   rw [Le,Bu ⟨by decide,Aly⟩]
   rfl
  rw [is];rfl
 ·have n8:now>8:=by omega
  rw [Bu n8,A5 h,Bu (by simp)]
section
variable {d:Nat}
theorem JI:Ae C0 Tryz.prog 2000 (d+15) M6 []=some ⟨[.sc (.bool true)],[]⟩:=by
 rw [Wj];have k5:=KV (fu:=2000) (d:=d+1) (by omega) 5 1
 have k71:=KV (fu:=2000) (d:=d+1) (by omega) 71 1
 have sg:=Aih (fu:=2000) (d:=d+5) (c:=XZ) (by omega) ⟨by decide,by decide⟩ (by decide) (by decide) 71 1 0
 rw [Aev] at sg;obtain ⟨_,_,h3,h4,h5,_⟩:=CA;have l1:cA.sig.chains.length=18:=h4;have l2:cA.sig.path.length=1:=by have:(cA.sig.path.length:Int)=1:=h5;omega
 have en:=Acv (fu:=2000) (d:=d+6) (c:=cA) (by omega) Adg.wf Acs.s1 Acs.s2 (by omega) (by omega)
 unfold SM at en;rw [RZ,Bu rfl] at en;have el:=MA (c:=cA) RZ;have de:=Amq (fu:=2000) (d:=d+5) (by omega) (Ah8 Adg.wf RZ) (by omega)
 rw [WO Adg RZ] at de;have p8:=CQ (fu:=2000) (d:=d+4) (by omega) (cs:=[cA]) (by intro c hc;rw [List.mem_singleton.1 hc];exact Acs) (ans:=[⟨UY,Gz 71 1⟩]) (by simp) (vs:=[]) (by simp) 8
 have p9:=CQ (fu:=2000) (d:=d+4) (by omega) (cs:=[cA]) (by intro c hc;rw [List.mem_singleton.1 hc];exact Acs) (ans:=[⟨UY,Gz 71 1⟩]) (by simp) (vs:=[]) (by simp) 9
 rw [XY 8 (by omega) (by omega),Bu (by omega)] at p8
 rw [XY 9 (by omega) (by omega),A5 (by omega)] at p9
 have sm:=Aiq (fu:=2000) (d:=d+11) (c:=cA) (by omega) (by omega) (by omega)
 have L:=Am .u8 (H4 cA);have t:=J7 .u8 (H4 cA);have c0:XZ.cells=[.sc (.string lfS),.sc (.string UY),.sc (.int .u64 9),.sc (.int .i64 (Gz 5 1).h),.sc (.int .u64 (Gz 5 1).root),.sc (.int .i64 1),.sc (.int .i64 8),.sc (.bool false),.sc (.int .i64 0),.sc (.int .u64 0),.sc (.int .i64 0),.lst false 1 0 [],.lst false 1 0 []]:=rfl;rw [c0] at sg;have e0:B6 [cA]=cA.cells:=by unfold B6;simp
 have e1:Fa [⟨UY,Gz 71 1⟩]=[.sc (.string UY),.sc (.int .i64 (Gz 71 1).h),.sc (.int .u64 (Gz 71 1).root)]:=rfl;have e2:Em []=[]:=rfl;rw [e0,e1,e2] at p8 p9;simp only [Ce.cells,Ky.cells,Jd,Zw,Br] at k5 k71 sg en de p8 p9 sm;generalize H4 cA=E at *
 generalize cA=C at *
 generalize Gz 5 1=K at *
 generalize Gz 71 1=K2 at *
 have b0:((0:Int)==0)=true:=rfl;have b38:((38:Int)==38)=true:=rfl
 try unfold Aa
 repeat first
  |((with_reducible first|apply As|apply Ak|apply At|apply Ao|apply Aw|apply Bc|apply Bg|apply Bv|apply Aj);· first|with_reducible rfl|(simp (disch:=omega) only [k5,k71,sg,en,de,p8,p9,sm,b0,b38,E6,Br,B8,L,t]<;>with_reducible rfl))
  |((with_reducible first|apply Ap|apply Ar);· first|with_reducible rfl|omega|(simp (disch:=omega) only [gT,k5,k71,sg,en,de,p8,p9,sm,b0,b38,E6,Br,B8,L,t]<;>omega))
  |(with_reducible apply Aq;· first|with_reducible rfl|(simp (disch:=omega) only [gF,k5,k71,sg,en,de,p8,p9,sm,b0,b38,E6,Br,B8,L,t]<;>omega))
 try simp (disch:=omega) only [k5,k71,sg,en,de,p8,p9,sm,b0,b38,E6,Br,B8,L,t]
 all_goals rfl
end
end
section
open Go.IntKind (wrap)
theorem Sa {d:Nat}{ps:List PV}(h:WT Tryz.prog d 24 ps):∃(v0:Int)(v1:Int),ps=[(.sc (.int .i64 v0)),(.sc (.int .u64 v1))]∧(Lit.int .i64 v0).wf=true∧(Lit.int .u64 v1).wf=true:=by
 obtain ⟨rs,rfl,h1⟩:=YW (ts:=[3,22]) (by kernel_rfl) h
 obtain ⟨r0,_,rfl,g0,h1⟩:=h1.cons_inv;obtain ⟨r1,_,rfl,g1,h1⟩:=h1.cons_inv;obtain rfl:=h1.nil_inv;obtain ⟨v0,rfl,w0_0⟩:=Nu (k:=.i64) (by kernel_rfl) g0
 obtain ⟨v1,rfl,w1_0⟩:=Nu (k:=.u64) (by kernel_rfl) g1
 exact ⟨v0,v1,rfl,w0_0,w1_0⟩
theorem ET {d:Nat}{ps:List PV}(h:WT Tryz.prog d 27 ps):∃(v0:Int)(v1:List Int)(v2:List Int),ps=[(.sc (.int .i64 v0)),(.lst false 1 v1.length (Af .u64 v1)),(.lst false 1 v2.length (Af .u64 v2))]∧(Lit.int .i64 v0).wf=true∧v1.length<=maxLen∧(∀n∈v1,(Lit.int .u64 n).wf=true)∧v2.length<=maxLen∧(∀n∈v2,(Lit.int .u64 n).wf=true):=by
 obtain ⟨rs,rfl,h1⟩:=YW (ts:=[3,25,25]) (by kernel_rfl) h
 obtain ⟨r0,_,rfl,g0,h1⟩:=h1.cons_inv;obtain ⟨r1,_,rfl,g1,h1⟩:=h1.cons_inv;obtain ⟨r2,_,rfl,g2,h1⟩:=h1.cons_inv;obtain rfl:=h1.nil_inv;obtain ⟨v0,rfl,w0_0⟩:=Nu (k:=.i64) (by kernel_rfl) g0
 obtain ⟨v1,rfl,w1_0,w1_1⟩:=SV (k:=.u64) (e:=22) (by kernel_rfl) (by kernel_rfl) (by kernel_rfl) g1
 obtain ⟨v2,rfl,w2_0,w2_1⟩:=SV (k:=.u64) (e:=22) (by kernel_rfl) (by kernel_rfl) (by kernel_rfl) g2
 exact ⟨v0,v1,v2,rfl,w0_0,w1_0,w1_1,w2_0,w2_1⟩
theorem AN {d:Nat}{ps:List PV}(h:WT Tryz.prog d 29 ps):∃(v0:ByteArray)(v1:ByteArray)(v2:Int)(v3v0:Int)(v3v1:Int)(v4:Int)(v5:Int)(v6:Bool)(v7:Int)(v8:Int)(v9v0:Int)(v9v1:List Int)(v9v2:List Int),ps=[(.sc (.string v0)),(.sc (.string v1)),(.sc (.int .u64 v2)),(.sc (.int .i64 v3v0)),(.sc (.int .u64 v3v1)),(.sc (.int .i64 v4)),(.sc (.int .i64 v5)),(.sc (.bool v6)),(.sc (.int .i64 v7)),(.sc (.int .u64 v8)),(.sc (.int .i64 v9v0)),(.lst false 1 v9v1.length (Af .u64 v9v1)),(.lst false 1 v9v2.length (Af .u64 v9v2))]∧v0.size<=maxLen∧v1.size<=maxLen∧(Lit.int .u64 v2).wf=true∧(Lit.int .i64 v3v0).wf=true∧(Lit.int .u64 v3v1).wf=true∧(Lit.int .i64 v4).wf=true∧(Lit.int .i64 v5).wf=true∧(Lit.int .i64 v7).wf=true∧(Lit.int .u64 v8).wf=true∧(Lit.int .i64 v9v0).wf=true∧v9v1.length<=maxLen∧(∀n∈v9v1,(Lit.int .u64 n).wf=true)∧v9v2.length<=maxLen∧(∀n∈v9v2,(Lit.int .u64 n).wf=true):=by
 obtain ⟨rs,rfl,h1⟩:=YW (ts:=[9,9,22,24,3,3,4,3,22,27]) (by kernel_rfl) h
 obtain ⟨r0,_,rfl,g0,h1⟩:=h1.cons_inv;obtain ⟨r1,_,rfl,g1,h1⟩:=h1.cons_inv;obtain ⟨r2,_,rfl,g2,h1⟩:=h1.cons_inv;obtain ⟨r3,_,rfl,g3,h1⟩:=h1.cons_inv;obtain ⟨r4,_,rfl,g4,h1⟩:=h1.cons_inv;obtain ⟨r5,_,rfl,g5,h1⟩:=h1.cons_inv;obtain ⟨r6,_,rfl,g6,h1⟩:=h1.cons_inv;obtain ⟨r7,_,rfl,g7,h1⟩:=h1.cons_inv;obtain ⟨r8,_,rfl,g8,h1⟩:=h1.cons_inv;obtain ⟨r9,_,rfl,g9,h1⟩:=h1.cons_inv;obtain rfl:=h1.nil_inv;obtain ⟨v0,rfl,w0_0⟩:=TL (by kernel_rfl) g0
 obtain ⟨v1,rfl,w1_0⟩:=TL (by kernel_rfl) g1
 obtain ⟨v2,rfl,w2_0⟩:=Nu (k:=.u64) (by kernel_rfl) g2
 obtain ⟨v3v0,v3v1,rfl,w3_0,w3_1⟩:=Sa g3;obtain ⟨v4,rfl,w4_0⟩:=Nu (k:=.i64) (by kernel_rfl) g4
 obtain ⟨v5,rfl,w5_0⟩:=Nu (k:=.i64) (by kernel_rfl) g5
 obtain ⟨v6,rfl⟩:=Amm (by kernel_rfl) g6
 obtain ⟨v7,rfl,w7_0⟩:=Nu (k:=.i64) (by kernel_rfl) g7
 obtain ⟨v8,rfl,w8_0⟩:=Nu (k:=.u64) (by kernel_rfl) g8
 obtain ⟨v9v0,v9v1,v9v2,rfl,w9_0,w9_1,w9_2,w9_3,w9_4⟩:=ET g9;exact ⟨v0,v1,v2,v3v0,v3v1,v4,v5,v6,v7,v8,v9v0,v9v1,v9v2,rfl,w0_0,w1_0,w2_0,w3_0,w3_1,w4_0,w5_0,w7_0,w8_0,w9_0,w9_1,w9_2,w9_3,w9_4⟩
end
section
open Go.IntKind (wrap)
set_option maxRecDepth 1000000
theorem w0:isW ([]:List Int):=fun x h=>by cases h
abbrev mdS:ByteArray:=⟨#[(109:UInt8),(105:UInt8),(100:UInt8)]⟩
abbrev tpS:ByteArray:=⟨#[(116:UInt8),(111:UInt8),(112:UInt8)]⟩
abbrev otS:ByteArray:=⟨#[(111:UInt8),(116:UInt8),(104:UInt8),(101:UInt8),(114:UInt8)]⟩
end
section
open Go.IntKind (wrap)
set_option maxRecDepth 100000
abbrev Na:FuncId:=26
noncomputable def Cr (fu:Nat)(call:Ah)(a0_0n:Nat)(a0_0:List PV)(a0_1:Int)(nn y0:Nat)(y1:Int)(y2:Nat)(y3:Int)(y4:Nat)(y5:List PV)(y6:Int)(y7 y8:List PV):Option A0:=Co CB Tryz.prog fu call 26 Tryz.f26 (Bm Tryz.f26) [.pbox [.lst false 1 a0_0n a0_0,.sc (.int .i64 a0_1)]] [.r,.r,.r,.r,.l,.r,.l] nn ⟨lk [(0,(.ptr 410000 0)),(5,(.view 5 1 0 y0)),(6,(.sc (.int .i64 y1))),(7,(.view 7 13 0 y2)),(8,(.sc (.int .i64 y3)))],B7 [(410000,(.st [(.lst false 1 y4 y5),(.sc (.int .i64 y6))])),(5,(.ar false y7)),(7,(.ar false y8))]⟩
noncomputable def Ct (fu:Nat)(call:Ah)(a0_0n:Nat)(a0_0:List PV)(a0_1:Int)(nn:Nat)(y0:Int)(y1:Nat)(y2:Int)(y3:Nat)(y4:List PV)(y5:Int)(y6:List PV):Option A0:=Co CB Tryz.prog fu call 26 Tryz.f26 (Bm Tryz.f26) [.pbox [.lst false 1 a0_0n a0_0,.sc (.int .i64 a0_1)]] [.r,.r,.r,.r,.r,.r] nn ⟨lk [(0,(.ptr 410000 0)),(6,(.sc (.int .i64 y0))),(7,(.view 7 13 0 y1)),(10,(.sc (.int .i64 y2)))],B7 [(410000,(.st [(.lst false 1 y3 y4),(.sc (.int .i64 y5))])),(7,(.ar false y6))]⟩
noncomputable def Dr (fu:Nat)(call:Ah)(a0_0n:Nat)(a0_0:List PV)(a0_1:Int)(nn:Nat)(y0:Int)(y1:Nat)(y2 y3:Int)(y4:Nat)(y5:List PV)(y6:Int)(y7:List PV):Option A0:=Co CB Tryz.prog fu call 26 Tryz.f26 (Bm Tryz.f26) [.pbox [.lst false 1 a0_0n a0_0,.sc (.int .i64 a0_1)]] [.r,.r,.r,.r,.r,.r,.r,.l,.r,.l] nn ⟨lk [(0,(.ptr 410000 0)),(6,(.sc (.int .i64 y0))),(7,(.view 7 13 0 y1)),(10,(.sc (.int .i64 y2))),(11,(.sc (.int .i64 y3)))],B7 [(410000,(.st [(.lst false 1 y4 y5),(.sc (.int .i64 y6))])),(7,(.ar false y7))]⟩
noncomputable def Cs (fu:Nat)(call:Ah)(a0_0n:Nat)(a0_0:List PV)(a0_1:Int)(nn y0:Nat)(y1 y2 y3:Nat)(y4:Int)(y5:Nat)(y6:List PV)(y7:Int)(y8 y9 y10:List PV):Option A0:=Co CB Tryz.prog fu call 26 Tryz.f26 (Bm Tryz.f26) [.pbox [.lst false 1 a0_0n a0_0,.sc (.int .i64 a0_1)]] [.r,.r,.r,.r,.r,.r,.r,.r,.r,.r,.r,.l,.r,.l] nn ⟨lk [(0,(.ptr 410000 0)),(7,(.view 7 13 0 y0)),(13,(.view 13 3 y1 y2)),(14,(.view 14 3 0 y3)),(15,(.sc (.int .i64 y4)))],B7 [(410000,(.st [(.lst false 1 y5 y6),(.sc (.int .i64 y7))])),(7,(.ar false y8)),(13,(.ar false y9)),(14,(.ar false y10))]⟩
theorem Bo (fu:Nat)(call:Ah)(a0_0n:Nat)(a0_0:List PV)(a0_1:Int)(nn y0:Nat)(y1:Int)(y2:Nat)(y3:Int)(y4:Nat)(y5:List PV)(y6:Int)(y7 y8:List PV):Cr fu call a0_0n a0_0 a0_1 (nn+1) y0 y1 y2 y3 y4 y5 y6 y7 y8=(A9 (decide (y3<y1)) (Au (decide (0<=y3)&&decide (y3<(↑y0:Int)))<|Cj (List.getD y7 (0+Int.toNat y3*1) .top) fun En=>Aa (wrap .u64 y3) fun E1=>Aa (wrap .i64 (80+y3)) fun Fg=>Aa (wrap .u64 Fg) fun Fp=>Ag (call 29 [.sc (.int .u64 Fp),.sc (.int .i64 1)]) fun Ho Hb=>Ac Hb<|Ab Ho fun Hr Dz=>C4 Hr fun Dq=>Ab Dq fun F5 H3=>Ad .i64 F5 fun E2=>Ab H3 fun Jg L6=>Ad .u64 Jg fun J3=>Ac L6<|Ac Dz<|Ag (call 14 [.pbox [.lst false 1 y4 y5,.sc (.int .i64 y6)],.sc (.int .i64 3)]) fun Mp Mg=>Ab Mp fun Nm Pt=>Ad .i64 Nm fun P7=>Ac Pt<|Ab Mg fun R4 Hi=>Ab R4 fun J8 Uy=>Fk 1 J8 fun Y8 Ph Nw=>Ab Uy fun Uo Sb=>Ad .i64 Uo fun To=>Ac Sb<|Ac Hi<|Ag (call 14 [.pbox [.lst false 1 Ph Nw,.sc (.int .i64 To)],.sc (.int .i64 5)]) fun Xt Yh=>Ab Xt fun Sd We=>Ad .i64 Sd fun Yk=>Ac We<|Ab Yh fun Xe O3=>Ab Xe fun Yl DK=>Fk 1 Yl fun BC Y3 U7=>Ab DK fun X7 BA=>Ad .i64 X7 fun Zd=>Ac BA<|Ac O3<|Aa (wrap .i64 (10+Yk)) fun Y6=>A9 (decide (y3>0)) (Aa (wrap .i64 (y3-1)) fun BB=>Ag (call 14 [.pbox [.lst false 1 Y3 U7,.sc (.int .i64 Zd)],.sc (.int .i64 2)]) fun Y1 Za=>Ab Y1 fun Xv Xj=>Ad .i64 Xv fun EB=>Ac Xj<|Ab Za fun Zs Y2=>Ab Zs fun Zf Zz=>Fk 1 Zf fun EG Zk Y4=>Ab Zz fun GZ BE=>Ad .i64 GZ fun FP=>Ac BE<|Ac Y2<|Aa (wrap .i64 (BB+EB)) fun IU=>Aa (if 2<IU then 2 else IU) fun IW=>Aa (wrap .i64 (y1-1)) fun UI=>A9 (decide (y3<UI)) (Aa (wrap .i64 (y3+1)) fun NQ=>Au (decide (0<=NQ)&&decide (NQ<(↑y0:Int)))<|Cj (List.getD y7 (0+Int.toNat NQ*1) .top) fun RU=>Au (decide (y2*13<=y8.length)&&true&&decide ((y2+1)*152<=1099511627776)&&decide (y2+1<=1099511627776))<|Aa (y2+1) fun OL=>Aa (List.take (y2*13) y8++[.sc (.string En),.sc (.string RU),.sc (.int .u64 E1),.sc (.int .i64 E2),.sc (.int .u64 J3),.sc (.int .i64 P7),.sc (.int .i64 Y6),.sc (.bool (decide (y3>0))),.sc (.int .i64 IW),.sc (.int .u64 3),.sc (.int .i64 0),.lst false 1 0 [],.lst false 1 0 []]) fun ZG=>Aa (wrap .i64 (y3+1)) fun WJ=>Cr fu call a0_0n a0_0 a0_1 (nn) (y0) (y1) OL WJ Zk Y4 FP (y7) ZG) (Au (decide (y2*13<=y8.length)&&true&&decide ((y2+1)*152<=1099511627776)&&decide (y2+1<=1099511627776))<|Aa (y2+1) fun UX=>Aa (List.take (y2*13) y8++[.sc (.string En),.sc (.string (ByteArray.mk #[114,111,111,116])),.sc (.int .u64 E1),.sc (.int .i64 E2),.sc (.int .u64 J3),.sc (.int .i64 P7),.sc (.int .i64 Y6),.sc (.bool (decide (y3>0))),.sc (.int .i64 IW),.sc (.int .u64 3),.sc (.int .i64 0),.lst false 1 0 [],.lst false 1 0 []]) fun TX=>Aa (wrap .i64 (y3+1)) fun EI=>Cr fu call a0_0n a0_0 a0_1 (nn) (y0) (y1) UX EI Zk Y4 FP (y7) TX)) (Aa (wrap .i64 (y1-1)) fun RG=>A9 (decide (y3<RG)) (Aa (wrap .i64 (y3+1)) fun SE=>Au (decide (0<=SE)&&decide (SE<(↑y0:Int)))<|Cj (List.getD y7 (0+Int.toNat SE*1) .top) fun YA=>Au (decide (y2*13<=y8.length)&&true&&decide ((y2+1)*152<=1099511627776)&&decide (y2+1<=1099511627776))<|Aa (y2+1) fun VI=>Aa (List.take (y2*13) y8++[.sc (.string En),.sc (.string YA),.sc (.int .u64 E1),.sc (.int .i64 E2),.sc (.int .u64 J3),.sc (.int .i64 P7),.sc (.int .i64 Y6),.sc (.bool (decide (y3>0))),.sc (.int .i64 0),.sc (.int .u64 3),.sc (.int .i64 0),.lst false 1 0 [],.lst false 1 0 []]) fun x94=>Aa (wrap .i64 (y3+1)) fun x95=>Cr fu call a0_0n a0_0 a0_1 (nn) (y0) (y1) VI x95 Y3 U7 Zd (y7) x94) (Au (decide (y2*13<=y8.length)&&true&&decide ((y2+1)*152<=1099511627776)&&decide (y2+1<=1099511627776))<|Aa (y2+1) fun x96=>Aa (List.take (y2*13) y8++[.sc (.string En),.sc (.string (ByteArray.mk #[114,111,111,116])),.sc (.int .u64 E1),.sc (.int .i64 E2),.sc (.int .u64 J3),.sc (.int .i64 P7),.sc (.int .i64 Y6),.sc (.bool (decide (y3>0))),.sc (.int .i64 0),.sc (.int .u64 3),.sc (.int .i64 0),.lst false 1 0 [],.lst false 1 0 []]) fun UZ=>Aa (wrap .i64 (y3+1)) fun ZM=>Cr fu call a0_0n a0_0 a0_1 (nn) (y0) (y1) x96 ZM Y3 U7 Zd (y7) UZ))) (Ag (call 14 [.pbox [.lst false 1 y4 y5,.sc (.int .i64 y6)],.sc (.int .i64 y1)]) fun ZN Ys=>Ab ZN fun Xb H5=>Ad .i64 Xb fun D7=>Ac H5<|Ab Ys fun Z6 Tl=>Ab Z6 fun R7 Kx=>Fk 1 R7 fun Zu AM Z4=>Ab Kx fun Zr Iy=>Ad .i64 Zr fun Kl=>Ac Iy<|Ac Tl<|Ag (call 14 [.pbox [.lst false 1 AM Z4,.sc (.int .i64 Kl)],.sc (.int .i64 12)]) fun AW Zh=>Ab AW fun AP FS=>Ad .i64 AP fun Ub=>Ac FS<|Ab Zh fun Vw Yi=>Ab Vw fun X9 Zo=>Fk 1 X9 fun BI Tg R3=>Ab Zo fun Qt Tu=>Ad .i64 Qt fun Vl=>Ac Tu<|Ac Yi<|A9 (Ub==0) (Au (decide (0<=D7)&&decide (D7<(↑y2:Int)))<|Au (decide (0+Int.toNat D7*13+7+1<=y8.length))<|Aa (Bd y8 [.sc (.bool false)] (0+Int.toNat D7*13+7)) fun CF=>Au (decide (0<=D7)&&decide (D7<(↑y2:Int)))<|Au (decide (0+Int.toNat D7*13+8+1<=CF.length))<|Aa (Bd CF [.sc (.int .i64 0)] (0+Int.toNat D7*13+8)) fun Zi=>Ct fu call a0_0n a0_0 a0_1 (fu) (y1) (y2) D7 Tg R3 Vl Zi) (A9 (Ub==1) (Au (decide (0<=D7)&&decide (D7<(↑y2:Int)))<|Au (decide (0+Int.toNat D7*13+8+1<=y8.length))<|Aa (Bd y8 [.sc (.int .i64 0)] (0+Int.toNat D7*13+8)) fun JN=>Ct fu call a0_0n a0_0 a0_1 (fu) (y1) (y2) D7 Tg R3 Vl JN) (A9 (Ub==2) (Au (decide (0<=D7)&&decide (D7<(↑y2:Int)))<|Au (decide (0+Int.toNat D7*13+1+1<=y8.length))<|Aa (Bd y8 [.sc (.string (ByteArray.mk #[111,116,104,101,114]))] (0+Int.toNat D7*13+1)) fun EO=>Ct fu call a0_0n a0_0 a0_1 (fu) (y1) (y2) D7 Tg R3 Vl EO) (A9 (Ub==3) (Au (decide (0<=D7)&&decide (D7<(↑y2:Int)))<|Au (decide (0+Int.toNat D7*13+0+1<=y8.length))<|Aa (Bd y8 [.sc (.string (ByteArray.mk #[111,116,104,101,114]))] (0+Int.toNat D7*13+0)) fun Zp=>Ct fu call a0_0n a0_0 a0_1 (fu) (y1) (y2) D7 Tg R3 Vl Zp) (A9 (Ub==4) (Au (decide (0<=D7)&&decide (D7<(↑y2:Int)))<|Ad .i64 (List.getD y8 (0+Int.toNat D7*13+5) .top) fun IF=>Au (decide (0<=D7)&&decide (D7<(↑y2:Int)))<|Au (decide (0+Int.toNat D7*13+6+1<=y8.length))<|Aa (Bd y8 [.sc (.int .i64 IF)] (0+Int.toNat D7*13+6)) fun JL=>Ct fu call a0_0n a0_0 a0_1 (fu) (y1) (y2) D7 Tg R3 Vl JL) (Ct fu call a0_0n a0_0 a0_1 (fu) (y1) (y2) D7 Tg R3 Vl (y8)))))))):=by kernel_rfl
theorem Tb (fu:Nat)(call:Ah)(a0_0n:Nat)(a0_0:List PV)(a0_1:Int)(nn:Nat)(hnn:0<nn)(y0:Int)(y1:Nat)(y2:Int)(y3:Nat)(y4:List PV)(y5:Int)(y6:List PV):Ct fu call a0_0n a0_0 a0_1 nn y0 y1 y2 y3 y4 y5 y6=(Dr fu call a0_0n a0_0 a0_1 (fu) (y0) (y1) (y2) 0 (y3) (y4) (y5) (y6)):=by cases nn with|zero=>exact absurd hnn (Nat.lt_irrefl 0)|succ nn=>kernel_rfl
theorem De (fu:Nat)(call:Ah)(a0_0n:Nat)(a0_0:List PV)(a0_1:Int)(nn:Nat)(y0:Int)(y1:Nat)(y2 y3:Int)(y4:Nat)(y5:List PV)(y6:Int)(y7:List PV):Dr fu call a0_0n a0_0 a0_1 (nn+1) y0 y1 y2 y3 y4 y5 y6 y7=(A9 (decide (y3<y0)) (Aa (wrap .i64 (81+y3)) fun LF=>Aa (wrap .u64 LF) fun NX=>Aa (wrap .i64 (y0-1)) fun LD=>A9 (y3==LD) (Au (decide (0<=y3)&&decide (y3<(↑y1:Int)))<|Cj (List.getD y7 (0+Int.toNat y3*13) .top) fun FB=>Cj (List.getD y7 (0+Int.toNat y3*13+1) .top) fun IC=>Ad .u64 (List.getD y7 (0+Int.toNat y3*13+1+1) .top) fun JQ=>Ad .i64 (List.getD y7 (0+Int.toNat y3*13+1+1+1) .top) fun MS=>Ad .u64 (List.getD y7 (0+Int.toNat y3*13+1+1+1+1) .top) fun LX=>Ad .i64 (List.getD y7 (0+Int.toNat y3*13+1+1+1+1+1) .top) fun FR=>Ad .i64 (List.getD y7 (0+Int.toNat y3*13+1+1+1+1+1+1) .top) fun IG=>Bj (List.getD y7 (0+Int.toNat y3*13+1+1+1+1+1+1+1) .top) fun IA=>Ad .i64 (List.getD y7 (0+Int.toNat y3*13+1+1+1+1+1+1+1+1) .top) fun HU=>Ad .u64 (List.getD y7 (0+Int.toNat y3*13+1+1+1+1+1+1+1+1+1) .top) fun NG=>Ad .i64 (List.getD y7 (0+Int.toNat y3*13+1+1+1+1+1+1+1+1+1+1) .top) fun SG=>Fk 1 (List.getD y7 (0+Int.toNat y3*13+1+1+1+1+1+1+1+1+1+1+1) .top) fun XK UG EQ=>Fk 1 (List.getD y7 (0+Int.toNat y3*13+1+1+1+1+1+1+1+1+1+1+1+1) .top) fun OW SF Aad=>Ag (call 14 [.pbox [.lst false 1 y4 y5,.sc (.int .i64 y6)],.sc (.int .i64 2)]) fun Aa7 YG=>Ab Aa7 fun RY ZF=>Ad .i64 RY fun Aai=>Ac ZF<|Ab YG fun Aa4 WR=>Ab Aa4 fun Aa3 TP=>Fk 1 Aa3 fun Aak Aaw SA=>Ab TP fun YK Abn=>Ad .i64 YK fun Aaz=>Ac Abn<|Ac WR<|Ag (call 13 [.agg [.sc (.string FB),.sc (.string IC),.sc (.int .u64 JQ),.sc (.int .i64 MS),.sc (.int .u64 LX),.sc (.int .i64 FR),.sc (.int .i64 IG),.sc (.bool IA),.sc (.int .i64 HU),.sc (.int .u64 NG),.sc (.int .i64 SG),.lst false 1 UG EQ,.lst false 1 SF Aad],.sc (.int .u64 71),.sc (.int .i64 1),.sc (.int .i64 Aai)]) fun Aar Ags=>Ac Ags<|Ab Aar fun Ajv Ai9=>C4 Ajv fun Aca=>Ab Aca fun Afb Aj2=>Cj Afb fun Ahg=>Ab Aj2 fun Agz Anr=>Cj Agz fun Aol=>Ab Anr fun Aj8 Alu=>Ad .u64 Aj8 fun Apu=>Ab Alu fun Aou Aqy=>Ad .i64 Aou fun Anx=>Ab Aqy fun Ar5 Aqf=>Ad .u64 Ar5 fun Arg=>Ab Aqf fun Arr Aov=>Ad .i64 Arr fun Asw=>Ab Aov fun Ark Ass=>Ad .i64 Ark fun An8=>Ab Ass fun Ar3 An0=>Bj Ar3 fun Asr=>Ab An0 fun Ars Asf=>Ad .i64 Ars fun Apc=>Ab Asf fun Aq0 Apa=>Ad .u64 Aq0 fun Aoz=>Ab Apa fun Ao2 Ap7=>Ad .i64 Ao2 fun Aok=>Ab Ap7 fun Apo Aro=>Fk 1 Apo fun At5 Aq8 Aps=>Ab Aro fun Apb Anu=>Fk 1 Apb fun Ath Aqe Asy=>Ac Anu<|Ab Ai9 fun Arv Ar6=>Ad .i64 Arv fun Atz=>Ac Ar6<|Au (decide (0<=y3)&&decide (y3<(↑y1:Int)))<|Au (decide (0+Int.toNat y3*13+13<=y7.length))<|Aa (Bd y7 [.sc (.string Ahg),.sc (.string Aol),.sc (.int .u64 Apu),.sc (.int .i64 Anx),.sc (.int .u64 Arg),.sc (.int .i64 Asw),.sc (.int .i64 An8),.sc (.bool Asr),.sc (.int .i64 Apc),.sc (.int .u64 Aoz),.sc (.int .i64 Aok),.lst false 1 Aq8 Aps,.lst false 1 Aqe Asy] (0+Int.toNat y3*13)) fun Asb=>Aa (wrap .i64 (y3+1)) fun Ar2=>Dr fu call a0_0n a0_0 a0_1 (nn) (y0) (y1) (y2) Ar2 Aaw SA Aaz Asb) (Au (decide (0<=y3)&&decide (y3<(↑y1:Int)))<|Cj (List.getD y7 (0+Int.toNat y3*13) .top) fun Ao1=>Cj (List.getD y7 (0+Int.toNat y3*13+1) .top) fun Anw=>Ad .u64 (List.getD y7 (0+Int.toNat y3*13+1+1) .top) fun Aq1=>Ad .i64 (List.getD y7 (0+Int.toNat y3*13+1+1+1) .top) fun Apx=>Ad .u64 (List.getD y7 (0+Int.toNat y3*13+1+1+1+1) .top) fun Aq4=>Ad .i64 (List.getD y7 (0+Int.toNat y3*13+1+1+1+1+1) .top) fun Art=>Ad .i64 (List.getD y7 (0+Int.toNat y3*13+1+1+1+1+1+1) .top) fun Ao6=>Bj (List.getD y7 (0+Int.toNat y3*13+1+1+1+1+1+1+1) .top) fun Apy=>Ad .i64 (List.getD y7 (0+Int.toNat y3*13+1+1+1+1+1+1+1+1) .top) fun Arn=>Ad .u64 (List.getD y7 (0+Int.toNat y3*13+1+1+1+1+1+1+1+1+1) .top) fun Aqr=>Ad .i64 (List.getD y7 (0+Int.toNat y3*13+1+1+1+1+1+1+1+1+1+1) .top) fun An5=>Fk 1 (List.getD y7 (0+Int.toNat y3*13+1+1+1+1+1+1+1+1+1+1+1) .top) fun Ati Apf An2=>Fk 1 (List.getD y7 (0+Int.toNat y3*13+1+1+1+1+1+1+1+1+1+1+1+1) .top) fun Att Aob Aox=>Ag (call 14 [.pbox [.lst false 1 y4 y5,.sc (.int .i64 y6)],.sc (.int .i64 2)]) fun Aqb Aoq=>Ab Aqb fun Apg Ap4=>Ad .i64 Apg fun Ask=>Ac Ap4<|Ab Aoq fun App Anv=>Ab App fun Aqg Ar1=>Fk 1 Aqg fun Atp Aoa Ary=>Ab Ar1 fun Asx Ao9=>Ad .i64 Asx fun Aq6=>Ac Ao9<|Ac Anv<|Ag (call 13 [.agg [.sc (.string Ao1),.sc (.string Anw),.sc (.int .u64 Aq1),.sc (.int .i64 Apx),.sc (.int .u64 Aq4),.sc (.int .i64 Art),.sc (.int .i64 Ao6),.sc (.bool Apy),.sc (.int .i64 Arn),.sc (.int .u64 Aqr),.sc (.int .i64 An5),.lst false 1 Apf An2,.lst false 1 Aob Aox],.sc (.int .u64 NX),.sc (.int .i64 1),.sc (.int .i64 Ask)]) fun An3 Aom=>Ac Aom<|Ab An3 fun Aqk Apt=>C4 Aqk fun Apq=>Ab Apq fun Ap8 Asc=>Cj Ap8 fun Arm=>Ab Asc fun Aq7 Apl=>Cj Aq7 fun Ap5=>Ab Apl fun Arh Aqx=>Ad .u64 Arh fun Ar8=>Ab Aqx fun Aqj Asq=>Ad .i64 Aqj fun Arp=>Ab Asq fun Aoy Anz=>Ad .u64 Aoy fun Aow=>Ab Anz fun Ar0 Asg=>Ad .i64 Ar0 fun Arb=>Ab Asg fun Are Aqz=>Ad .i64 Are fun Aql=>Ab Aqz fun Ap6 Aoe=>Bj Ap6 fun Aq2=>Ab Aoe fun Asz Asd=>Ad .i64 Asz fun Ar9=>Ab Asd fun Apd Aqv=>Ad .u64 Apd fun Aor=>Ab Aqv fun Aqs Aru=>Ad .i64 Aqs fun Asu=>Ab Aru fun Aqa Apj=>Fk 1 Aqa fun At4 Ard Aot=>Ab Apj fun Aos Aon=>Fk 1 Aos fun Auc Aoo Arl=>Ac Aon<|Ab Apt fun Aqw Ao5=>Ad .i64 Aqw fun Atj=>Ac Ao5<|Au (decide (0<=y3)&&decide (y3<(↑y1:Int)))<|Au (decide (0+Int.toNat y3*13+13<=y7.length))<|Aa (Bd y7 [.sc (.string Arm),.sc (.string Ap5),.sc (.int .u64 Ar8),.sc (.int .i64 Arp),.sc (.int .u64 Aow),.sc (.int .i64 Arb),.sc (.int .i64 Aql),.sc (.bool Aq2),.sc (.int .i64 Ar9),.sc (.int .u64 Aor),.sc (.int .i64 Asu),.lst false 1 Ard Aot,.lst false 1 Aoo Arl] (0+Int.toNat y3*13)) fun Ant=>Aa (wrap .i64 (y3+1)) fun Aso=>Dr fu call a0_0n a0_0 a0_1 (nn) (y0) (y1) (y2) Aso Aoa Ary Aq6 Ant)) (Ag (call 14 [.pbox [.lst false 1 y4 y5,.sc (.int .i64 y6)],.sc (.int .i64 12)]) fun Aqn Apv=>Ab Aqn fun Ap2 An4=>Ad .i64 Ap2 fun Ae8=>Ac An4<|Ab Apv fun Ar4 Ara=>Ab Ar4 fun Apm Aod=>Fk 1 Apm fun Aue ZQ ZO=>Ab Aod fun Ao8 Ap3=>Ad .i64 Ao8 fun Aac=>Ac Ap3<|Ac Ara<|A9 (Ae8==0) (Au (decide (0<=y2)&&decide (y2<(↑y1:Int)))<|Ad .u64 (List.getD y7 (0+Int.toNat y2*13+2) .top) fun Asi=>Aa (wrap .u64 (Asi+7)) fun Aq5=>Au (decide (0<=y2)&&decide (y2<(↑y1:Int)))<|Au (decide (0+Int.toNat y2*13+2+1<=y7.length))<|Aa (Bd y7 [.sc (.int .u64 Aq5)] (0+Int.toNat y2*13+2)) fun Aph=>Ag (call 29 [.sc (.int .u64 72),.sc (.int .i64 1)]) fun Ao0 Ao7=>Ac Ao7<|Ab Ao0 fun Aqu An1=>C4 Aqu fun Ai2=>Ab Ai2 fun Alw Auz=>Ad .i64 Alw fun A6f=>Ab Auz fun Axw Avl=>Ad .u64 Axw fun Axe=>Ac Avl<|Ac An1<|Ag (call 29 [.sc (.int .u64 71),.sc (.int .i64 1)]) fun A26 Awc=>Ac Awc<|Ab A26 fun A44 A0g=>C4 A44 fun Azd=>Ab Azd fun A28 Avu=>Ad .i64 A28 fun Ayy=>Ab Avu fun Ax4 A30=>Ad .u64 Ax4 fun A0m=>Ac A30<|Ac A0g<|Ag (call 29 [.sc (.int .u64 71),.sc (.int .i64 1)]) fun Awe Aww=>Ac Aww<|Ab Awe fun A23 Av1=>C4 A23 fun A4t=>Ab A4t fun A63 Aw3=>Ad .i64 A63 fun Auo=>Ab Aw3 fun A2n A0p=>Ad .u64 A2n fun A3q=>Ac A0p<|Ac Av1<|Ag (call 14 [.pbox [.lst false 1 ZQ ZO,.sc (.int .i64 Aac)],.sc (.int .i64 2)]) fun Az9 A3s=>Ab Az9 fun A2m Avs=>Ad .i64 A2m fun Al2=>Ac Avs<|Ab A3s fun A58 A13=>Ab A58 fun Axd Avt=>Fk 1 Axd fun A7y Awd Azz=>Ab Avt fun A1o A4a=>Ad .i64 A1o fun Azq=>Ac A4a<|Ac A13<|Ag (call 14 [.pbox [.lst false 1 Awd Azz,.sc (.int .i64 Azq)],.sc (.int .i64 2)]) fun A15 A5l=>Ab A15 fun A4v A0h=>Ad .i64 A4v fun Auu=>Ac A0h<|Ab A5l fun A5r Azg=>Ab A5r fun A12 A5d=>Fk 1 A12 fun A7e A4g Awm=>Ab A5d fun Ayg Awy=>Ad .i64 Ayg fun A36=>Ac Awy<|Ac Azg<|Aa (wrap .i64 (2+Auu)) fun Ak0=>Au (decide (0<=Al2))<|Au (decide (0<=Ak0))<|Au (decide (Int.toNat Al2<=Int.toNat Ak0)&&decide (Int.toNat Ak0<=3))<|Aa (0+Int.toNat Al2*3) fun Axb=>Aa (Int.toNat Ak0-Int.toNat Al2) fun A6r=>Ag (call 14 [.pbox [.lst false 1 A4g Awm,.sc (.int .i64 A36)],.sc (.int .i64 3)]) fun Awb A03=>Ab Awb fun Ave A4w=>Ad .i64 Ave fun A0j=>Ac A4w<|Ab A03 fun Ayo A6z=>Ab Ayo fun A0q A5k=>Fk 1 A0q fun A7w Av3 A4y=>Ab A5k fun A47 A49=>Ad .i64 A47 fun A4l=>Ac A49<|Ac A6z<|Cs fu call a0_0n a0_0 a0_1 (fu) (y1) Axb A6r 0 A0j Av3 A4y A4l Aph ([.sc (.string (ByteArray.mk #[114,111,111,116])),.sc (.int .i64 A6f),.sc (.int .u64 Axe),.sc (.string (ByteArray.mk #[114,111,111,116])),.sc (.int .i64 Ayy),.sc (.int .u64 A0m),.sc (.string (ByteArray.mk #[109,105,100])),.sc (.int .i64 Auo),.sc (.int .u64 A3q)]) ([])) (A9 (Ae8==1) (Aa (wrap .i64 (y2+1)) fun Aqo=>Au (decide (0<=Aqo))<|Au (decide (Int.toNat Aqo<=y1))<|Aa (Int.toNat Aqo-0) fun Aze=>Ag (call 29 [.sc (.int .u64 72),.sc (.int .i64 1)]) fun A0v A4x=>Ac A4x<|Ab A0v fun A3d Av7=>C4 A3d fun A6w=>Ab A6w fun A38 A3x=>Ad .i64 A38 fun A5h=>Ab A3x fun A39 A0f=>Ad .u64 A39 fun Ayk=>Ac A0f<|Ac Av7<|Ag (call 29 [.sc (.int .u64 71),.sc (.int .i64 1)]) fun A3g A0n=>Ac A0n<|Ab A3g fun Aun A0t=>C4 Aun fun Au2=>Ab Au2 fun Aym A24=>Ad .i64 Aym fun A3z=>Ab A24 fun A3p Azv=>Ad .u64 A3p fun Avx=>Ac Azv<|Ac A0t<|Ag (call 29 [.sc (.int .u64 71),.sc (.int .i64 1)]) fun Ay4 A0o=>Ac A0o<|Ab Ay4 fun A1u Awz=>C4 A1u fun A1p=>Ab A1p fun A2t Avq=>Ad .i64 A2t fun Azp=>Ab Avq fun Azu A0c=>Ad .u64 Azu fun A27=>Ac A0c<|Ac Awz<|Ag (call 14 [.pbox [.lst false 1 ZQ ZO,.sc (.int .i64 Aac)],.sc (.int .i64 2)]) fun Au9 Aut=>Ab Au9 fun Axr Axo=>Ad .i64 Axr fun Alm=>Ac Axo<|Ab Aut fun Ayx A1a=>Ab Ayx fun A4f A3v=>Fk 1 A4f fun A7p A3t A56=>Ab A3v fun A6v A3a=>Ad .i64 A6v fun Axv=>Ac A3a<|Ac A1a<|Ag (call 14 [.pbox [.lst false 1 A3t A56,.sc (.int .i64 Axv)],.sc (.int .i64 2)]) fun A61 A5y=>Ab A61 fun Awx Azo=>Ad .i64 Awx fun A5o=>Ac Azo<|Ab A5y fun Azs Auy=>Ab Azs fun A2l Av8=>Fk 1 A2l fun A7h Axn A3n=>Ab Av8 fun A4k Ayn=>Ad .i64 A4k fun Auq=>Ac Ayn<|Ac Auy<|Aa (wrap .i64 (2+A5o)) fun Alh=>Au (decide (0<=Alm))<|Au (decide (0<=Alh))<|Au (decide (Int.toNat Alm<=Int.toNat Alh)&&decide (Int.toNat Alh<=3))<|Aa (0+Int.toNat Alm*3) fun A3w=>Aa (Int.toNat Alh-Int.toNat Alm) fun A3c=>Ag (call 14 [.pbox [.lst false 1 Axn A3n,.sc (.int .i64 Auq)],.sc (.int .i64 3)]) fun A5g Ayj=>Ab A5g fun A0a Azn=>Ad .i64 A0a fun A59=>Ac Azn<|Ab Ayj fun A2x Aus=>Ab A2x fun Azj Av0=>Fk 1 Azj fun A7m Aw4 Axm=>Ab Av0 fun Awr A4i=>Ad .i64 Awr fun A0k=>Ac A4i<|Ac Aus<|Cs fu call a0_0n a0_0 a0_1 (fu) Aze A3w A3c 0 A59 Aw4 Axm A0k (y7) ([.sc (.string (ByteArray.mk #[114,111,111,116])),.sc (.int .i64 A5h),.sc (.int .u64 Ayk),.sc (.string (ByteArray.mk #[114,111,111,116])),.sc (.int .i64 A3z),.sc (.int .u64 Avx),.sc (.string (ByteArray.mk #[109,105,100])),.sc (.int .i64 Azp),.sc (.int .u64 A27)]) ([])) (A9 (Ae8==2) (Au (decide (0<=y2)&&decide (y2<(↑y1:Int)))<|Cj (List.getD y7 (0+Int.toNat y2*13) .top) fun Ayt=>Cj (List.getD y7 (0+Int.toNat y2*13+1) .top) fun Axj=>Ad .u64 (List.getD y7 (0+Int.toNat y2*13+1+1) .top) fun A0u=>Ad .i64 (List.getD y7 (0+Int.toNat y2*13+1+1+1) .top) fun A6s=>Ad .u64 (List.getD y7 (0+Int.toNat y2*13+1+1+1+1) .top) fun Ayi=>Ad .i64 (List.getD y7 (0+Int.toNat y2*13+1+1+1+1+1) .top) fun A29=>Ad .i64 (List.getD y7 (0+Int.toNat y2*13+1+1+1+1+1+1) .top) fun Aw7=>Bj (List.getD y7 (0+Int.toNat y2*13+1+1+1+1+1+1+1) .top) fun Awl=>Ad .i64 (List.getD y7 (0+Int.toNat y2*13+1+1+1+1+1+1+1+1) .top) fun A4e=>Ad .u64 (List.getD y7 (0+Int.toNat y2*13+1+1+1+1+1+1+1+1+1) .top) fun Ays=>Ad .i64 (List.getD y7 (0+Int.toNat y2*13+1+1+1+1+1+1+1+1+1+1) .top) fun Axf=>Fk 1 (List.getD y7 (0+Int.toNat y2*13+1+1+1+1+1+1+1+1+1+1+1) .top) fun A7x Aw2 A6l=>Fk 1 (List.getD y7 (0+Int.toNat y2*13+1+1+1+1+1+1+1+1+1+1+1+1) .top) fun A7r A3j Avz=>Au (decide (y1*13<=y7.length)&&true&&decide ((y1+1)*152<=1099511627776)&&decide (y1+1<=1099511627776))<|Aa (y1+1) fun Ayb=>Aa (List.take (y1*13) y7++[.sc (.string Ayt),.sc (.string Axj),.sc (.int .u64 A0u),.sc (.int .i64 A6s),.sc (.int .u64 Ayi),.sc (.int .i64 A29),.sc (.int .i64 Aw7),.sc (.bool Awl),.sc (.int .i64 A4e),.sc (.int .u64 Ays),.sc (.int .i64 Axf),.lst false 1 Aw2 A6l,.lst false 1 A3j Avz]) fun A4r=>Ag (call 29 [.sc (.int .u64 72),.sc (.int .i64 1)]) fun Avr A0w=>Ac A0w<|Ab Avr fun Ax9 A17=>C4 Ax9 fun Au1=>Ab Au1 fun Ava A2f=>Ad .i64 Ava fun Avy=>Ab A2f fun Awv A54=>Ad .u64 Awv fun Awf=>Ac A54<|Ac A17<|Ag (call 29 [.sc (.int .u64 71),.sc (.int .i64 1)]) fun A00 A1e=>Ac A1e<|Ab A00 fun Axz Awk=>C4 Axz fun Aw0=>Ab Aw0 fun A20 Avj=>Ad .i64 A20 fun Aya=>Ab Avj fun Ayf A3i=>Ad .u64 Ayf fun Azl=>Ac A3i<|Ac Awk<|Ag (call 29 [.sc (.int .u64 71),.sc (.int .i64 1)]) fun Au8 A2j=>Ac A2j<|Ab Au8 fun A04 A3m=>C4 A04 fun A1t=>Ab A1t fun Ay9 A46=>Ad .i64 Ay9 fun Awo=>Ab A46 fun A2q A0b=>Ad .u64 A2q fun A53=>Ac A0b<|Ac A3m<|Ag (call 14 [.pbox [.lst false 1 ZQ ZO,.sc (.int .i64 Aac)],.sc (.int .i64 2)]) fun Ayh A43=>Ab Ayh fun A3h A6k=>Ad .i64 A3h fun Ak6=>Ac A6k<|Ab A43 fun Ay2 A06=>Ab Ay2 fun A6b Ayv=>Fk 1 A6b fun A7s A2r A5q=>Ab Ayv fun Axt Auw=>Ad .i64 Axt fun Avk=>Ac Auw<|Ac A06<|Ag (call 14 [.pbox [.lst false 1 A2r A5q,.sc (.int .i64 Avk)],.sc (.int .i64 2)]) fun Az6 Ax7=>Ab Az6 fun Ax3 A5b=>Ad .i64 Ax3 fun Axs=>Ac A5b<|Ab Ax7 fun A1m Axu=>Ab A1m fun Auv Aw5=>Fk 1 Auv fun A7z Azb Ay0=>Ab Aw5 fun Avv Ax5=>Ad .i64 Avv fun A6a=>Ac Ax5<|Ac Axu<|Aa (wrap .i64 (2+Axs)) fun Alc=>Au (decide (0<=Ak6))<|Au (decide (0<=Alc))<|Au (decide (Int.toNat Ak6<=Int.toNat Alc)&&decide (Int.toNat Alc<=3))<|Aa (0+Int.toNat Ak6*3) fun Axx=>Aa (Int.toNat Alc-Int.toNat Ak6) fun A3y=>Ag (call 14 [.pbox [.lst false 1 Azb Ay0,.sc (.int .i64 A6a)],.sc (.int .i64 3)]) fun Av2 Au4=>Ab Av2 fun Awh Axi=>Ad .i64 Awh fun Av9=>Ac Axi<|Ab Au4 fun A6o Awg=>Ab A6o fun A62 Azc=>Fk 1 A62 fun A7v Aw9 Ax8=>Ab Azc fun Axy A0d=>Ad .i64 Axy fun Aur=>Ac A0d<|Ac Awg<|Cs fu call a0_0n a0_0 a0_1 (fu) Ayb Axx A3y 0 Av9 Aw9 Ax8 Aur A4r ([.sc (.string (ByteArray.mk #[114,111,111,116])),.sc (.int .i64 Avy),.sc (.int .u64 Awf),.sc (.string (ByteArray.mk #[114,111,111,116])),.sc (.int .i64 Aya),.sc (.int .u64 Azl),.sc (.string (ByteArray.mk #[109,105,100])),.sc (.int .i64 Awo),.sc (.int .u64 A53)]) ([])) (A9 (Ae8==3) (Au (decide (0<=y2)&&decide (y2<(↑y1:Int)))<|Au (decide (0+Int.toNat y2*13+6+1<=y7.length))<|Aa (Bd y7 [.sc (.int .i64 (-1))] (0+Int.toNat y2*13+6)) fun A4j=>Ag (call 29 [.sc (.int .u64 72),.sc (.int .i64 1)]) fun Ay1 Ax2=>Ac Ax2<|Ab Ay1 fun Awn A02=>C4 Awn fun A2p=>Ab A2p fun A3b A37=>Ad .i64 A3b fun A0z=>Ab A37 fun Aui Avm=>Ad .u64 Aui fun Av6=>Ac Avm<|Ac A02<|Ag (call 29 [.sc (.int .u64 71),.sc (.int .i64 1)]) fun Axk Azr=>Ac Azr<|Ab Axk fun A4b A34=>C4 A4b fun A4h=>Ab A4h fun A32 A2a=>Ad .i64 A32 fun A5z=>Ab A2a fun A5m Axg=>Ad .u64 A5m fun A2h=>Ac Axg<|Ac A34<|Ag (call 29 [.sc (.int .u64 71),.sc (.int .i64 1)]) fun A2c A4s=>Ac A4s<|Ab A2c fun A0s A14=>C4 A0s fun A1k=>Ab A1k fun Azf Axh=>Ad .i64 Azf fun A6g=>Ab Axh fun Aum A10=>Ad .u64 Aum fun A6p=>Ac A10<|Ac A14<|Ag (call 14 [.pbox [.lst false 1 ZQ ZO,.sc (.int .i64 Aac)],.sc (.int .i64 2)]) fun A3k Au6=>Ab A3k fun Axa A45=>Ad .i64 Axa fun Ak5=>Ac A45<|Ab Au6 fun A2u A5f=>Ab A2u fun A0r A1s=>Fk 1 A0r fun A7n A0x A4q=>Ab A1s fun A5u Axp=>Ad .i64 A5u fun A55=>Ac Axp<|Ac A5f<|Ag (call 14 [.pbox [.lst false 1 A0x A4q,.sc (.int .i64 A55)],.sc (.int .i64 2)]) fun A48 Ayu=>Ab A48 fun A57 Auh=>Ad .i64 A57 fun A1c=>Ac Auh<|Ab Ayu fun A25 A5j=>Ab A25 fun A2v Avo=>Fk 1 A2v fun A7i A51 A4o=>Ab Avo fun A1j A1v=>Ad .i64 A1j fun A1z=>Ac A1v<|Ac A5j<|Aa (wrap .i64 (2+A1c)) fun Al5=>Au (decide (0<=Ak5))<|Au (decide (0<=Al5))<|Au (decide (Int.toNat Ak5<=Int.toNat Al5)&&decide (Int.toNat Al5<=3))<|Aa (0+Int.toNat Ak5*3) fun A5t=>Aa (Int.toNat Al5-Int.toNat Ak5) fun A4m=>Ag (call 14 [.pbox [.lst false 1 A51 A4o,.sc (.int .i64 A1z)],.sc (.int .i64 3)]) fun A1h A6x=>Ab A1h fun Ax6 A6y=>Ad .i64 Ax6 fun A3l=>Ac A6y<|Ab A6x fun Aul A2d=>Ab Aul fun A1i A22=>Fk 1 A1i fun A7l A5v Avc=>Ab A22 fun A4c A08=>Ad .i64 A4c fun A6m=>Ac A08<|Ac A2d<|Cs fu call a0_0n a0_0 a0_1 (fu) (y1) A5t A4m 0 A3l A5v Avc A6m A4j ([.sc (.string (ByteArray.mk #[114,111,111,116])),.sc (.int .i64 A0z),.sc (.int .u64 Av6),.sc (.string (ByteArray.mk #[114,111,111,116])),.sc (.int .i64 A5z),.sc (.int .u64 A2h),.sc (.string (ByteArray.mk #[109,105,100])),.sc (.int .i64 A6g),.sc (.int .u64 A6p)]) ([])) (Ag (call 29 [.sc (.int .u64 72),.sc (.int .i64 1)]) fun Ayr Awp=>Ac Awp<|Ab Ayr fun A2e Ax1=>C4 A2e fun Ay8=>Ab Ay8 fun Avn Ayw=>Ad .i64 Avn fun Az7=>Ab Ayw fun A60 Au0=>Ad .u64 A60 fun Ay3=>Ac Au0<|Ac Ax1<|Ag (call 29 [.sc (.int .u64 71),.sc (.int .i64 1)]) fun Ayp Awu=>Ac Awu<|Ab Ayp fun A1q A4p=>C4 A1q fun Awj=>Ab Awj fun A0y Az2=>Ad .i64 A0y fun Aza=>Ab Az2 fun Aws A5c=>Ad .u64 Aws fun A5e=>Ac A5c<|Ac A4p<|Ag (call 29 [.sc (.int .u64 71),.sc (.int .i64 1)]) fun A6i A1l=>Ac A1l<|Ab A6i fun A5s Azk=>C4 A5s fun A2k=>Ab A2k fun A5a Awa=>Ad .i64 A5a fun A6h=>Ab Awa fun A3e Azh=>Ad .u64 A3e fun A3r=>Ac Azh<|Ac Azk<|Ag (call 14 [.pbox [.lst false 1 ZQ ZO,.sc (.int .i64 Aac)],.sc (.int .i64 2)]) fun A50 Ax0=>Ab A50 fun A5i Avf=>Ad .i64 A5i fun Amp=>Ac Avf<|Ab Ax0 fun A2b Az1=>Ab A2b fun Az8 Aup=>Fk 1 Az8 fun A7q A42 A3o=>Ab Aup fun Aw1 A18=>Ad .i64 Aw1 fun Avb=>Ac A18<|Ac Az1<|Ag (call 14 [.pbox [.lst false 1 A42 A3o,.sc (.int .i64 Avb)],.sc (.int .i64 2)]) fun Azw Axq=>Ab Azw fun A2g Avh=>Ad .i64 A2g fun Auk=>Ac Avh<|Ab Axq fun A6e A0l=>Ab A6e fun Axc A21=>Fk 1 Axc fun A7o A1r Az3=>Ab A21 fun Avw A2i=>Ad .i64 Avw fun Aye=>Ac A2i<|Ac A0l<|Aa (wrap .i64 (2+Auk)) fun Aml=>Au (decide (0<=Amp))<|Au (decide (0<=Aml))<|Au (decide (Int.toNat Amp<=Int.toNat Aml)&&decide (Int.toNat Aml<=3))<|Aa (0+Int.toNat Amp*3) fun A1y=>Aa (Int.toNat Aml-Int.toNat Amp) fun Azt=>Ag (call 14 [.pbox [.lst false 1 A1r Az3,.sc (.int .i64 Aye)],.sc (.int .i64 3)]) fun Av5 Avp=>Ab Av5 fun A6n Avd=>Ad .i64 A6n fun Ayd=>Ac Avd<|Ab Avp fun Axl Ayz=>Ab Axl fun A1n A2s=>Fk 1 A1n fun A7j A6j A1b=>Ab A2s fun Auj A6c=>Ad .i64 Auj fun A5p=>Ac A6c<|Ac Ayz<|Cs fu call a0_0n a0_0 a0_1 (fu) (y1) A1y Azt 0 Ayd A6j A1b A5p (y7) ([.sc (.string (ByteArray.mk #[114,111,111,116])),.sc (.int .i64 Az7),.sc (.int .u64 Ay3),.sc (.string (ByteArray.mk #[114,111,111,116])),.sc (.int .i64 Aza),.sc (.int .u64 A5e),.sc (.string (ByteArray.mk #[109,105,100])),.sc (.int .i64 A6h),.sc (.int .u64 A3r)]) ([]))))))):=by kernel_rfl
theorem Jr (fu:Nat)(call:Ah)(a0_0n:Nat)(a0_0:List PV)(a0_1:Int)(nn y0:Nat)(y1 y2 y3:Nat)(y4:Int)(y5:Nat)(y6:List PV)(y7:Int)(y8 y9 y10:List PV):Cs fu call a0_0n a0_0 a0_1 (nn+1) y0 y1 y2 y3 y4 y5 y6 y7 y8 y9 y10=(A9 (decide (y4>0)) (Ag (call 14 [.pbox [.lst false 1 y5 y6,.sc (.int .i64 y7)],.sc (.int .i64 3)]) fun Avg Azx=>Ab Avg fun A5n Awi=>Ad .i64 A5n fun Anq=>Ac Awi<|Ab Azx fun A0i A3f=>Ab A0i fun Avi Ay6=>Fk 1 Avi fun A7b A2z A1d=>Ab Ay6 fun A1g A35=>Ad .i64 A1g fun Au7=>Ac A35<|Ac A3f<|Au (decide (0<=Anq)&&decide (Anq<3))<|Cj (List.getD [.sc (.string (ByteArray.mk #[114,111,111,116])),.sc (.string (ByteArray.mk #[109,105,100])),.sc (.string (ByteArray.mk #[116,111,112]))] (0+Int.toNat Anq*1) .top) fun A40=>Ag (call 14 [.pbox [.lst false 1 A2z A1d,.sc (.int .i64 Au7)],.sc (.int .i64 3)]) fun Az5 A07=>Ab Az5 fun A6q Aw8=>Ad .i64 A6q fun Az4=>Ac Aw8<|Ab A07 fun A4n A01=>Ab A4n fun A6u Az0=>Fk 1 A6u fun A7u A19 A1x=>Ab Az0 fun A2y Au3=>Ad .i64 A2y fun A52=>Ac Au3<|Ac A01<|Aa (wrap .u64 Az4) fun A6t=>Ag (call 14 [.pbox [.lst false 1 A19 A1x,.sc (.int .i64 A52)],.sc (.int .i64 14)]) fun A5w A09=>Ab A5w fun Ay7 A3u=>Ad .i64 Ay7 fun A05=>Ac A3u<|Ab A09 fun A4u Aux=>Ab A4u fun Ay5 A31=>Fk 1 Ay5 fun A7d A1w A2o=>Ab A31 fun Ayc Awt=>Ad .i64 Ayc fun A4d=>Ac Awt<|Ac Aux<|Au (decide (y3*3<=y10.length)&&true&&decide ((y3+1)*32<=1099511627776)&&decide (y3+1<=1099511627776))<|Aa (y3+1) fun Ayl=>Aa (List.take (y3*3) y10++[.sc (.string A40),.sc (.int .u64 A6t),.sc (.int .i64 A05)]) fun A5x=>Aa (wrap .i64 (y4-1)) fun Azy=>Cs fu call a0_0n a0_0 a0_1 (nn) (y0) (y1) (y2) Ayl Azy A1w A2o A4d (y8) (y9) A5x) (Au (decide (0+y0*13<=y8.length))<|Au (decide (y1+y2*3<=y9.length))<|Au (decide (0+y3*3<=y10.length))<|some (A0.mk [.lst false 13 y0 (List.take (y0*13) (List.drop 0 y8)),.lst false 3 y2 (List.take (y2*3) (List.drop y1 y9)),.lst false 3 y3 (List.take (y3*3) (List.drop 0 y10))] [[.lst false 1 y5 y6,.sc (.int .i64 y7)]]))):=by kernel_rfl
theorem Wc (fu d a0_0n:Nat)(a0_0:List PV)(a0_1:Int):Ae C0 Tryz.prog fu (d+1) Na [.pbox [.lst false 1 a0_0n a0_0,.sc (.int .i64 a0_1)]]=(fun (call:Ah)=>Ag (call 14 [.pbox [.lst false 1 a0_0n a0_0,.sc (.int .i64 a0_1)],.sc (.int .i64 3)]) fun x1 x2=>Ab x1 fun x3 x4=>Ad .i64 x3 fun x5=>Ac x4<|Ab x2 fun x6 x7=>Ab x6 fun x8 x9=>Fk 1 x8 fun Cl Cw Dl=>Ab x9 fun Ds Dk=>Ad .i64 Ds fun D9=>Ac Dk<|Ac x7<|Aa (wrap .i64 (1+x5)) fun Ea=>Cr fu call a0_0n a0_0 a0_1 (fu) 3 Ea 0 0 Cw Dl D9 ([.sc (.string (ByteArray.mk #[108,101,97,102])),.sc (.string (ByteArray.mk #[109,105,100])),.sc (.string (ByteArray.mk #[116,111,112]))]) ([])) (Ae C0 Tryz.prog fu d):=by kernel_rfl
end
section
open Go.IntKind (wrap)
set_option maxRecDepth 1000000
structure Cu (c:Ce):Prop where
 wf:c.wf
 s1:c.subj.size<=5
 s2:c.iss.size<=5
 s3:c.sig.chains.length<=18
 s4:c.sig.path.length<=4
theorem Cu.in_ {c:Ce}(h:Cu c):c.in_:=⟨h.wf,by have:=h.s1;omega,by have:=h.s2;omega⟩
theorem Akh {c:Ce}(h:Cu c)(seed hh leaf:Int):Cu (Vb c seed hh leaf).1:=by
 have z:Cu ZJ:=⟨⟨by decide,by decide⟩,by decide,by decide,by decide,by decide⟩
 unfold Vb;split
 ·cases hs:BO seed hh leaf (Kg c) with
  |none=>exact z
  |some s=>exact ⟨⟨h.wf.ser,h.wf.mod⟩,h.s1,h.s2,Nat.le_of_eq (EU hs).1,(EU hs).2⟩
 ·exact z
theorem TZ {n:Nat}{S:List ByteArray}{m:Nat}(h1:n<S.length)(hS:∀s∈S,s.size<=m):∃s:ByteArray,s.size<=m∧(S.map fun s=>PV.sc (.string s)).getD n .top=.sc (.string s):=by
 refine ⟨S[n],hS _ (List.getElem_mem h1),?_⟩;rw [List.getD_eq_getElem?_getD,List.getElem?_map,List.getElem?_eq_getElem h1];rfl
theorem HI {cs:List Ce}{k:Nat}{c c':Ce}{p:PV}{j:Nat}(hj:j<13)(h:cs[k]?=some c) (hy:c'.cells=c.cells.set j p):Bd (B6 cs) [p] (k*13+j)=B6 (cs.set k c'):=by
 have hk:=SC h;rw [Fd (by rw [Mm];omega)]
 exact Akc Ce.cells_len hj h hy
theorem Aub {cs:List Ce}{k:Nat}{c':Ce}(hk:k<cs.length):Bd (B6 cs) c'.cells (k*13)=B6 (cs.set k c'):=by
 unfold Bd B6;rw [Ce.cells_len,DX Ce.cells_len,show k*13+13=(k+1)*13 by omega,BJ Ce.cells_len,List.set_eq_take_append_cons_drop,Bu hk,List.flatMap_append,List.flatMap_cons,ZK]
theorem QT (a b:List Ce):B6 (a++b)=B6 a++B6 b:=by unfold B6;rw [List.flatMap_append]
theorem QV (c:Ce):B6 [c]=c.cells:=by unfold B6;simp
theorem Aau {cs:List Ce}{k:Nat}:List.take (k*13) (B6 cs)=B6 (cs.take k):=DX Ce.cells_len cs k
theorem Xh (l:List Rv):(Em l).length=l.length*3:=AZ Rv.cells_len l
theorem Afa (a:List Rv)(r:Rv):Em a++[.sc (.string r.iss),.sc (.int .u64 r.ser),.sc (.int .i64 r.at_)]=Em (a++[r]):=by
 unfold Em;rw [List.flatMap_append,List.flatMap_cons,List.flatMap_nil,List.append_nil];rfl
theorem Afm (l:List An):(Fa l).length=l.length*3:=AZ An.cells_len l
def Fin (l:List Int)(r:Option A0):Prop:=∃(cs:List Ce)(ans:List An)(vs:List Rv)(j:Nat),(∀c∈cs,Cu c)∧cs.length<=4∧ans.length<=3∧vs.length<=10 ∧
 r=some ⟨[.lst false 13 cs.length (B6 cs),.lst false 3 ans.length (Fa ans),.lst false 3 vs.length (Em vs)],[dkc l j]⟩
section
variable {d:Nat} {l:List Int} {a0_0n:Nat} {a0_0:List PV} {a0_1:Int}
theorem Amy (hl:l.length<=maxLen){cs:List Ce}(hc:∀c∈cs,Cu c){y0:Nat}(h0:y0<=cs.length)(h4:y0<=4){A:List An}{a n:Nat}(ha:a+n<=A.length)(hn:n<=3):∀(k nn j:Nat)(vs:List Rv),k<nn->vs.length+k<=10 ->
  Fin l (Cs 2000 (Ae C0 Tryz.prog 2000 (d+14)) a0_0n a0_0 a0_1 nn y0 (a*3) n vs.length (k:Int) l.length (Af .i64 l) (j:Int) (B6 cs) (Fa A) (Em vs))
 |_,0,_,_,h,_=>by omega
 |0,nn+1,j,vs,_,hv=>by
  have e1:List.take (y0*13) (B6 cs)=B6 (cs.take y0):=Aau
  have e2:List.take (n*3) (List.drop (a*3) (Fa A))=Fa ((A.drop a).take n):=by
   unfold Fa;rw [BJ An.cells_len,DX An.cells_len]
  have e3:List.take (vs.length*3) (Em vs)=Em vs:=Tp (by rw [Xh];omega)
  have L1:=Mm cs;have L2:=Afm A;have L3:=Xh vs;have t1:(cs.take y0).length=y0:=by rw [List.length_take];omega
  have t2:((A.drop a).take n).length=n:=by rw [List.length_take,List.length_drop];omega
  refine ⟨cs.take y0,(A.drop a).take n,vs,j,fun c h=>hc c (List.mem_of_mem_take h),by omega,by omega,by omega,?_⟩
  rw [t1,t2,Jr]
  try unfold Aa
  repeat first
   |((with_reducible first|apply As|apply Ak|apply At|apply Ao|apply Aw|apply Bg|apply Bv|apply Aj);· first|with_reducible rfl|(simp (disch:=omega) only [e1,e2,e3,L1,L2,L3,E6,Br]<;>with_reducible rfl))
   |((with_reducible first|apply Ap|apply Ar);· first|with_reducible rfl|omega|(simp (disch:=omega) only [gT,e1,e2,e3,L1,L2,L3,E6,Br]<;>omega))
   |(with_reducible apply Aq;· first|with_reducible rfl|(simp (disch:=omega) only [gF,e1,e2,e3,L1,L2,L3,E6,Br]<;>omega))
  try simp (disch:=omega) only [e1,e2,e3,L1,L2,L3,E6,Br]
  all_goals rfl
 |k+1,nn+1,j,vs,hk,hv=>by
  obtain ⟨v0,j0,v00,v01,n0⟩:=H1 hl j 3 (by omega) (by omega)
  obtain ⟨v1,j1,v10,v11,n1⟩:=H1 hl j0 3 (by omega) (by omega)
  obtain ⟨v2,j2,v20,v21,n2⟩:=H1 hl j1 14 (by omega) (by omega)
  have n0:=n0 (fu:=2000) (d:=d+12);have n1:=n1 (fu:=2000) (d:=d+12);have n2:=n2 (fu:=2000) (d:=d+12);obtain ⟨m0,rfl⟩:∃m:Nat,v0=m:=⟨v0.toNat,by omega⟩
  obtain ⟨s,zs,g⟩:=TZ (n:=m0) (S:=[UY,mdS,tpS]) (m:=5) (by simp;omega) (by decide)
  simp only [Zzw,List.map_nil] at g;have c0:(decide ((0:Int)<=m0)&&decide ((m0:Int)<3))=true:=by simp;omega
  have nt:Int.toNat (m0:Int)=m0:=Gu _;have w:wrap .i64 (((k+1:Nat):Int)-1)=(k:Int):=by rw [Al (by omega) (by omega)];omega
  have e3:List.take (vs.length*3) (Em vs)=Em vs:=Tp (by rw [Xh];omega)
  have L3:=Xh vs;have ea:=Afa vs ⟨s,wrap .u64 v1,v2⟩;simp only at ea;obtain ⟨cs',ans',vs',j',q1,q2,q3,q4,q5⟩:=Amy hl hc h0 h4 ha hn k nn j2 (vs++[⟨s,wrap .u64 v1,v2⟩]) (by omega) (by rw [Kh,List.length_singleton];omega)
  refine ⟨cs',ans',vs',j',q1,q2,q3,q4,?_⟩;rw [Kh,List.length_singleton] at q5;simp only [dkc] at n0 n1 n2;rw [←q5,Jr]
  try unfold Aa
  repeat first
   |((with_reducible first|apply As|apply Ak|apply At|apply Ao|apply Aw|apply Bg|apply Bv|apply Aj);· first|with_reducible rfl|(simp (disch:=omega) only [n0,n1,n2,c0,nt,g,w,e3,L3,ea,Br,B8]<;>with_reducible rfl))
   |((with_reducible first|apply Ap|apply Ar);· first|with_reducible rfl|omega|(simp (disch:=omega) only [gT,n0,n1,n2,c0,nt,g,w,e3,L3,ea,Br,B8]<;>omega))
   |(with_reducible apply Aq;· first|with_reducible rfl|(simp (disch:=omega) only [gF,n0,n1,n2,c0,nt,g,w,e3,L3,ea,Br,B8]<;>omega))
  try simp (disch:=omega) only [n0,n1,n2,c0,nt,g,w,e3,L3,ea,Br,B8]
  all_goals rfl
theorem Anh (hl:l.length<=maxLen){n:Nat}(h1:1<=n)(h3:n<=3){k:Nat}(hk:k<n):∀(m i nn j:Nat)(cs:List Ce),i+m=n->m<nn->cs.length=n->(∀c∈cs,Cu c) ->
  Fin l (Dr 2000 (Ae C0 Tryz.prog 2000 (d+14)) a0_0n a0_0 a0_1 nn (n:Int) cs.length (k:Int) (i:Int) l.length (Af .i64 l) (j:Int) (B6 cs))
 |_,_,0,_,_,_,h,_,_=>by omega
 |0,i,nn+1,j,cs,hi,_,hcl,hc=>by
  obtain rfl:i=n:=by omega
  obtain ⟨v0,j0,v00,v01,n0⟩:=H1 hl j 12 (by omega) (by omega)
  obtain ⟨v1,j1,v10,v11,n1⟩:=H1 hl j0 2 (by omega) (by omega)
  obtain ⟨v2,j2,v20,v21,n2⟩:=H1 hl j1 2 (by omega) (by omega)
  obtain ⟨v3,j3,v30,v31,n3⟩:=H1 hl j2 3 (by omega) (by omega)
  have n0:=n0 (fu:=2000) (d:=d+12);have n1:=n1 (fu:=2000) (d:=d+12);have n2:=n2 (fu:=2000) (d:=d+12);have n3:=n3 (fu:=2000) (d:=d+12);have k2:=KV (fu:=2000) (d:=d+1) (by omega) 72 1
  have k1:=KV (fu:=2000) (d:=d+1) (by omega) 71 1
  obtain ⟨m1,rfl⟩:∃m:Nat,v1=m:=⟨v1.toNat,by omega⟩
  obtain ⟨m2,rfl⟩:∃m:Nat,v2=m:=⟨v2.toNat,by omega⟩
  obtain ⟨m3,rfl⟩:∃m:Nat,v3=m:=⟨v3.toNat,by omega⟩
  have w2:wrap .i64 ((2:Int)+m2)=((2+m2:Nat):Int):=by rw [Al (by omega) (by omega)];omega
  have wk:wrap .i64 ((k:Int)+1)=((k+1:Nat):Int):=by rw [Al (by omega) (by omega)];omega
  have nt:Int.toNat (m1:Int)=m1:=Gu _;have nt2:Int.toNat ((2+m2:Nat):Int)=2+m2:=Gu _;have ntk:Int.toNat (k:Int)=k:=Gu _;have ntk1:Int.toNat ((k+1:Nat):Int)=k+1:=Gu _;have hA:(Fa [⟨UY,Gz 72 1⟩,⟨UY,Gz 71 1⟩,⟨mdS,Gz 71 1⟩])=[.sc (.string UY),.sc (.int .i64 (Gz 72 1).h),.sc (.int .u64 (Gz 72 1).root),.sc (.string UY),.sc (.int .i64 (Gz 71 1).h),.sc (.int .u64 (Gz 71 1).root),.sc (.string mdS),.sc (.int .i64 (Gz 71 1).h),.sc (.int .u64 (Gz 71 1).root)]:=rfl;obtain ⟨A,hA',eA⟩:∃A,A.length=3∧A=[An.mk UY (Gz 72 1),⟨UY,Gz 71 1⟩,⟨mdS,Gz 71 1⟩]:=⟨_,rfl,rfl⟩;rw [←eA] at hA;have T:=fun (cs':List Ce) (hc':∀c∈cs',Cu c) (y:Nat) (hy:y<=cs'.length) (hy4:y<=4)=>Amy (d:=d) (a0_0n:=a0_0n) (a0_0:=a0_0) (a0_1:=a0_1) hl hc' hy hy4 (A:=A) (a:=m1) (n:=2+m2-m1) (by omega) (by omega) m3 2000 j3 [] (by omega) (by simp;omega)
  have c1:(decide (m1<=2+m2)&&decide (2+m2<=3))=true:=by simp;omega
  have ck:(decide ((0:Int)<=k)&&decide ((k:Int)<cs.length))=true:=by simp;omega
  have z3:Em []=[]:=rfl;simp only [Zw,z3,hA] at T;clear hA eA hA';generalize Gz 72 1=K2 at *
  generalize Gz 71 1=K1 at *
  simp only [Ky.cells] at k2 k1;simp only [dkc] at n0 n1 n2 n3;obtain ⟨c,hg⟩:∃c,cs[k]?=some c:=⟨_,List.getElem?_eq_getElem (by omega)⟩
  have hcu:=hc c (List.mem_of_getElem? hg);have L:=Mm cs
  have setc:∀c':Ce,Cu c'->∀x∈cs.set k c',Cu x:=fun c' h' x hx=>by
   rcases List.mem_or_eq_of_mem_set hx with hx|rfl
   ·exact hc x hx
   ·exact h'
  have hcase:v0=0∨v0=1∨v0=2∨v0=3∨(v0≠0∧v0≠1∧v0≠2∧v0≠3):=by omega
  have nlt:∀x:Int,decide (x<x)=false:=fun x=>by simp
  rcases hcase with rfl|rfl|rfl|rfl|⟨u0,u1,u2,u3⟩
  ·have es:=HI (cs:=cs) (k:=k) (c:=c) (c':={ c with serial:=wrap .u64 (c.serial+7) }) (p:=.sc (.int .u64 (wrap .u64 (c.serial+7)))) (j:=2) (by omega) hg rfl
   have c2:=(cer hg).2.2.1;obtain ⟨cs',ans',vs',j',q1,q2,q3,q4,q5⟩:=T (cs.set k { c with serial:=wrap .u64 (c.serial+7) }) (setc _ ⟨⟨(G6 _).1,hcu.wf.mod⟩,hcu.s1,hcu.s2,hcu.s3,hcu.s4⟩) cs.length (by rw [List.length_set];omega) (by omega)
   refine ⟨cs',ans',vs',j',q1,q2,q3,q4,?_⟩;have c2':(B6 cs).getD (k*13+2) .top=.sc (.int .u64 c.serial):=c2;rw [←q5,De]
   try unfold Aa
   repeat first
    |((with_reducible first|apply As|apply Ak|apply At|apply Ao|apply Aw|apply Bg|apply Bv|apply Aj);· first|with_reducible rfl|(simp (disch:=omega) only [nlt,n0,n1,n2,n3,k1,k2,w2,nt,nt2,ntk,c1,ck,c2',L,es,Br,Int.reduceBEq]<;>with_reducible rfl))
    |((with_reducible first|apply Ap|apply Ar);· first|with_reducible rfl|omega|(simp (disch:=omega) only [gT,nlt,n0,n1,n2,n3,k1,k2,w2,nt,nt2,ntk,c1,ck,c2',L,es,Br,Int.reduceBEq]<;>omega))
    |(with_reducible apply Aq;· first|with_reducible rfl|(simp (disch:=omega) only [gF,nlt,n0,n1,n2,n3,k1,k2,w2,nt,nt2,ntk,c1,ck,c2',L,es,Br,Int.reduceBEq]<;>omega))
   try simp (disch:=omega) only [nlt,n0,n1,n2,n3,k1,k2,w2,nt,nt2,ntk,c1,ck,c2',L,es,Br,Int.reduceBEq]
   all_goals rfl
  ·obtain ⟨cs',ans',vs',j',q1,q2,q3,q4,q5⟩:=T cs hc (k+1) (by omega) (by omega)
   refine ⟨cs',ans',vs',j',q1,q2,q3,q4,?_⟩;rw [←q5,De]
   try unfold Aa
   repeat first
    |((with_reducible first|apply As|apply Ak|apply At|apply Ao|apply Aw|apply Bg|apply Bv|apply Aj);· first|with_reducible rfl|(simp (disch:=omega) only [nlt,n0,n1,n2,n3,k1,k2,w2,wk,nt,nt2,ntk1,c1,ck,L,Nat.sub_zero,Br,Int.reduceBEq]<;>with_reducible rfl))
    |((with_reducible first|apply Ap|apply Ar);· first|with_reducible rfl|omega|(simp (disch:=omega) only [gT,nlt,n0,n1,n2,n3,k1,k2,w2,wk,nt,nt2,ntk1,c1,ck,L,Nat.sub_zero,Br,Int.reduceBEq]<;>omega))
    |(with_reducible apply Aq;· first|with_reducible rfl|(simp (disch:=omega) only [gF,nlt,n0,n1,n2,n3,k1,k2,w2,wk,nt,nt2,ntk1,c1,ck,L,Nat.sub_zero,Br,Int.reduceBEq]<;>omega))
   try simp (disch:=omega) only [nlt,n0,n1,n2,n3,k1,k2,w2,wk,nt,nt2,ntk1,c1,ck,L,Nat.sub_zero,Br,Int.reduceBEq]
   all_goals rfl
  ·obtain ⟨d0,d1,d2,d3,d4,d5,d6,d7,d8,d9,d10,d11,d12⟩:=cer hg;have ea:B6 cs++[.sc (.string c.subj),.sc (.string c.iss),.sc (.int .u64 c.serial),.sc (.int .i64 c.key.h),.sc (.int .u64 c.key.root),.sc (.int .i64 c.fr),.sc (.int .i64 c.un),.sc (.bool c.auth),.sc (.int .i64 c.path),.sc (.int .u64 c.model),.sc (.int .i64 c.sig.leaf),.lst false 1 c.sig.chains.length (Af .u64 c.sig.chains),.lst false 1 c.sig.path.length (Af .u64 c.sig.path)]=B6 (cs++[c]):=by rw [QT,QV];rfl
   have tk:List.take (cs.length*13) (B6 cs)=B6 cs:=Tp (by omega)
   obtain ⟨cs',ans',vs',j',q1,q2,q3,q4,q5⟩:=T (cs++[c]) (fun x hx=>by
    rcases List.mem_append.1 hx with hx|hx
    ·exact hc x hx
    ·rw [List.mem_singleton.1 hx];exact hcu) (cs.length+1) (by simp) (by omega)
   refine ⟨cs',ans',vs',j',q1,q2,q3,q4,?_⟩;rw [←q5,De]
   try unfold Aa
   repeat first
    |((with_reducible first|apply As|apply Ak|apply At|apply Ao|apply Aw|apply Bg|apply Bv|apply Aj);· first|with_reducible rfl|(simp (disch:=omega) only [nlt,n0,n1,n2,n3,k1,k2,w2,nt,nt2,ntk,c1,ck,L,d0,d1,d2,d3,d4,d5,d6,d7,d8,d9,d10,d11,d12,tk,ea,Br,Int.reduceBEq]<;>with_reducible rfl))
    |((with_reducible first|apply Ap|apply Ar);· first|with_reducible rfl|omega|(simp (disch:=omega) only [gT,nlt,n0,n1,n2,n3,k1,k2,w2,nt,nt2,ntk,c1,ck,L,d0,d1,d2,d3,d4,d5,d6,d7,d8,d9,d10,d11,d12,tk,ea,Br,Int.reduceBEq]<;>omega))
    |(with_reducible apply Aq;· first|with_reducible rfl|(simp (disch:=omega) only [gF,nlt,n0,n1,n2,n3,k1,k2,w2,nt,nt2,ntk,c1,ck,L,d0,d1,d2,d3,d4,d5,d6,d7,d8,d9,d10,d11,d12,tk,ea,Br,Int.reduceBEq]<;>omega))
   try simp (disch:=omega) only [nlt,n0,n1,n2,n3,k1,k2,w2,nt,nt2,ntk,c1,ck,L,d0,d1,d2,d3,d4,d5,d6,d7,d8,d9,d10,d11,d12,tk,ea,Br,Int.reduceBEq]
   all_goals rfl
  ·have es:=HI (cs:=cs) (k:=k) (c:=c) (c':={ c with un:= -1 }) (p:=.sc (.int .i64 (-1))) (j:=6) (by omega) hg rfl
   obtain ⟨cs',ans',vs',j',q1,q2,q3,q4,q5⟩:=T (cs.set k { c with un:= -1 }) (setc _ ⟨⟨hcu.wf.ser,hcu.wf.mod⟩,hcu.s1,hcu.s2,hcu.s3,hcu.s4⟩) cs.length (by rw [List.length_set];omega) (by omega)
   refine ⟨cs',ans',vs',j',q1,q2,q3,q4,?_⟩;rw [←q5,De]
   try unfold Aa
   repeat first
    |((with_reducible first|apply As|apply Ak|apply At|apply Ao|apply Aw|apply Bg|apply Bv|apply Aj);· first|with_reducible rfl|(simp (disch:=omega) only [nlt,n0,n1,n2,n3,k1,k2,w2,nt,nt2,ntk,c1,ck,L,es,Br,Int.reduceBEq]<;>with_reducible rfl))
    |((with_reducible first|apply Ap|apply Ar);· first|with_reducible rfl|omega|(simp (disch:=omega) only [gT,nlt,n0,n1,n2,n3,k1,k2,w2,nt,nt2,ntk,c1,ck,L,es,Br,Int.reduceBEq]<;>omega))
    |(with_reducible apply Aq;· first|with_reducible rfl|(simp (disch:=omega) only [gF,nlt,n0,n1,n2,n3,k1,k2,w2,nt,nt2,ntk,c1,ck,L,es,Br,Int.reduceBEq]<;>omega))
   try simp (disch:=omega) only [nlt,n0,n1,n2,n3,k1,k2,w2,nt,nt2,ntk,c1,ck,L,es,Br,Int.reduceBEq]
   all_goals rfl
  ·obtain ⟨cs',ans',vs',j',q1,q2,q3,q4,q5⟩:=T cs hc cs.length (by omega) (by omega)
   refine ⟨cs',ans',vs',j',q1,q2,q3,q4,?_⟩;have f0:(v0==0)=false:=beq_eq_false_iff_ne.2 u0;have f1:(v0==1)=false:=beq_eq_false_iff_ne.2 u1;have f2:(v0==2)=false:=beq_eq_false_iff_ne.2 u2;have f3:(v0==3)=false:=beq_eq_false_iff_ne.2 u3;rw [←q5,De]
   try unfold Aa
   repeat first
    |((with_reducible first|apply As|apply Ak|apply At|apply Ao|apply Aw|apply Bg|apply Bv|apply Aj);· first|with_reducible rfl|(simp (disch:=omega) only [nlt,n0,n1,n2,n3,k1,k2,w2,nt,nt2,c1,ck,L,f0,f1,f2,f3,Br]<;>with_reducible rfl))
    |((with_reducible first|apply Ap|apply Ar);· first|with_reducible rfl|omega|(simp (disch:=omega) only [gT,nlt,n0,n1,n2,n3,k1,k2,w2,nt,nt2,c1,ck,L,f0,f1,f2,f3,Br]<;>omega))
    |(with_reducible apply Aq;· first|with_reducible rfl|(simp (disch:=omega) only [gF,nlt,n0,n1,n2,n3,k1,k2,w2,nt,nt2,c1,ck,L,f0,f1,f2,f3,Br]<;>omega))
   try simp (disch:=omega) only [nlt,n0,n1,n2,n3,k1,k2,w2,nt,nt2,c1,ck,L,f0,f1,f2,f3,Br]
   all_goals rfl
 |m+1,i,nn+1,j,cs,hi,hn,hcl,hc=>by
  obtain ⟨v0,j0,v00,v01,n0⟩:=H1 hl j 2 (by omega) (by omega)
  have n0:=n0 (fu:=2000) (d:=d+12);obtain ⟨c,hg⟩:∃c,cs[i]?=some c:=⟨_,List.getElem?_eq_getElem (by omega)⟩
  have hcu:=hc c (List.mem_of_getElem? hg);have hci:=hcu.in_;obtain ⟨d0,d1,d2,d3,d4,d5,d6,d7,d8,d9,d10,d11,d12⟩:=cer hg;have nt:Int.toNat (i:Int)=i:=Gu _;have w:wrap .i64 ((i:Int)+1)=((i+1:Nat):Int):=by rw [Al (by omega) (by omega)];omega
  have wn:wrap .i64 ((n:Int)-1)=(n:Int)-1:=Al (by omega) (by omega)
  have ci:(decide ((0:Int)<=i)&&decide ((i:Int)<cs.length))=true:=by simp;omega
  have L:=Mm cs;have lt:decide ((i:Int)<(n:Int))=true:=by simp;omega
  simp only [dkc] at n0
  have go:∀(seed:Int),(if (i:Int)=(n:Int)-1 then seed=71 else seed=wrap .u64 (wrap .i64 (81+(i:Int)))) ->
    Fin l (Dr 2000 (Ae C0 Tryz.prog 2000 (d+14)) a0_0n a0_0 a0_1 (nn+1) (n:Int) cs.length (k:Int) (i:Int) l.length (Af .i64 l) (j:Int) (B6 cs)):=by
   intro seed hs;have sg:=Aey (fu:=2000) (d:=d+1) (c:=c) (by omega) hci.wf hci.s1 hci.s2 seed 1 v0
   have su:=Akh hcu seed 1 v0;generalize (Vb c seed 1 v0).2=er at *
   generalize (Vb c seed 1 v0).1=y at *
   have ep:=Aub (cs:=cs) (k:=i) (c':=y) (by omega)
   obtain ⟨cs',ans',vs',j',q1,q2,q3,q4,q5⟩:=Anh hl h1 h3 hk m (i+1) nn j0 (cs.set i y) (by omega) (by omega) (by rw [List.length_set];exact hcl) (fun x hx=>by
    rcases List.mem_or_eq_of_mem_set hx with hx|rfl
    ·exact hc x hx
    ·exact su)
   refine ⟨cs',ans',vs',j',q1,q2,q3,q4,?_⟩;rw [List.length_set] at q5;simp only [Ce.cells] at sg ep;rw [←q5,De];by_cases hb:(i:Int)=(n:Int)-1
   ·rw [Bu hb] at hs;subst hs;have eb:((i:Int)==(n:Int)-1)=true:=by simp [hb]
    try unfold Aa
    repeat first
     |((with_reducible first|apply As|apply Ak|apply At|apply Ao|apply Aw|apply Bg|apply Bv|apply Aj);· first|with_reducible rfl|(simp (disch:=omega) only [lt,wn,eb,n0,nt,w,ci,L,d0,d1,d2,d3,d4,d5,d6,d7,d8,d9,d10,d11,d12,sg,ep,Br]<;>with_reducible rfl))
     |((with_reducible first|apply Ap|apply Ar);· first|with_reducible rfl|omega|(simp (disch:=omega) only [gT,lt,wn,eb,n0,nt,w,ci,L,d0,d1,d2,d3,d4,d5,d6,d7,d8,d9,d10,d11,d12,sg,ep,Br]<;>omega))
     |(with_reducible apply Aq;· first|with_reducible rfl|(simp (disch:=omega) only [gF,lt,wn,eb,n0,nt,w,ci,L,d0,d1,d2,d3,d4,d5,d6,d7,d8,d9,d10,d11,d12,sg,ep,Br]<;>omega))
    try simp (disch:=omega) only [lt,wn,eb,n0,nt,w,ci,L,d0,d1,d2,d3,d4,d5,d6,d7,d8,d9,d10,d11,d12,sg,ep,Br]
    all_goals rfl
   ·rw [A5 hb] at hs;have eb:((i:Int)==(n:Int)-1)=false:=by simp [hb]
    rw [hs] at sg
    try unfold Aa
    repeat first
     |((with_reducible first|apply As|apply Ak|apply At|apply Ao|apply Aw|apply Bg|apply Bv|apply Aj);· first|with_reducible rfl|(simp (disch:=omega) only [lt,wn,eb,n0,nt,w,ci,L,d0,d1,d2,d3,d4,d5,d6,d7,d8,d9,d10,d11,d12,sg,ep,Br]<;>with_reducible rfl))
     |((with_reducible first|apply Ap|apply Ar);· first|with_reducible rfl|omega|(simp (disch:=omega) only [gT,lt,wn,eb,n0,nt,w,ci,L,d0,d1,d2,d3,d4,d5,d6,d7,d8,d9,d10,d11,d12,sg,ep,Br]<;>omega))
     |(with_reducible apply Aq;· first|with_reducible rfl|(simp (disch:=omega) only [gF,lt,wn,eb,n0,nt,w,ci,L,d0,d1,d2,d3,d4,d5,d6,d7,d8,d9,d10,d11,d12,sg,ep,Br]<;>omega))
    try simp (disch:=omega) only [lt,wn,eb,n0,nt,w,ci,L,d0,d1,d2,d3,d4,d5,d6,d7,d8,d9,d10,d11,d12,sg,ep,Br]
    all_goals rfl
  by_cases hb:(i:Int)=(n:Int)-1
  ·exact go 71 (by rw [Bu hb])
  ·exact go _ (by rw [A5 hb])
theorem Am6 (hl:l.length<=maxLen){n:Nat}(h1:1<=n)(h3:n<=3){k:Nat}(hk:k<n){j:Nat}{cs:List Ce}(hcl:cs.length=n)(hc:∀c∈cs,Cu c):
  Fin l (Ct 2000 (Ae C0 Tryz.prog 2000 (d+14)) a0_0n a0_0 a0_1 2000 (n:Int) cs.length (k:Int) l.length (Af .i64 l) (j:Int) (B6 cs)):=by
 rw [Tb (hnn:=by omega)]
 exact Anh hl h1 h3 hk n 0 2000 j cs (by omega) (by omega) hcl hc
theorem Amr (hl:l.length<=maxLen){n:Nat}(h1:1<=n)(h3:n<=3):∀(m i nn j:Nat)(cs:List Ce),i+m=n->m<nn->cs.length=i->(∀c∈cs,Cu c) ->
  Fin l (Cr 2000 (Ae C0 Tryz.prog 2000 (d+14)) a0_0n a0_0 a0_1 nn 3 (n:Int) cs.length (i:Int) l.length (Af .i64 l) (j:Int) [.sc (.string lfS),.sc (.string mdS),.sc (.string tpS)] (B6 cs))
 |_,_,0,_,_,_,h,_,_=>by omega
 |0,i,nn+1,j,cs,hi,_,hcl,hc=>by
  obtain rfl:i=n:=by omega
  obtain ⟨v0,j0,v00,v01,n0⟩:=H1 hl j (i:Int) (by omega) (by omega)
  obtain ⟨v1,j1,v10,v11,n1⟩:=H1 hl j0 12 (by omega) (by omega)
  have n0:=n0 (fu:=2000) (d:=d+12);have n1:=n1 (fu:=2000) (d:=d+12);obtain ⟨k,rfl⟩:∃k:Nat,v0=k:=⟨v0.toNat,by omega⟩
  have ntk:Int.toNat (k:Int)=k:=Gu _;have nlt:∀x:Int,decide (x<x)=false:=fun x=>by simp
  obtain ⟨c,hg⟩:∃c,cs[k]?=some c:=⟨_,List.getElem?_eq_getElem (by omega)⟩
  have hcu:=hc c (List.mem_of_getElem? hg);have L:=Mm cs;have ck:(decide ((0:Int)<=k)&&decide ((k:Int)<cs.length))=true:=by simp;omega
  have setc:∀c':Ce,Cu c'->∀x∈cs.set k c',Cu x:=fun c' h' x hx=>by
   rcases List.mem_or_eq_of_mem_set hx with hx|rfl
   ·exact hc x hx
   ·exact h'
  simp only [dkc] at n0 n1;have T:=fun (c':Ce) (h':Cu c')=>Am6 (d:=d) (a0_0n:=a0_0n) (a0_0:=a0_0) (a0_1:=a0_1) hl h1 h3 (k:=k) (by omega) (j:=j1) (cs:=cs.set k c') (by rw [List.length_set];omega) (setc c' h')
  have hcase:v1=0∨v1=1∨v1=2∨v1=3∨v1=4∨(v1≠0∧v1≠1∧v1≠2∧v1≠3∧v1≠4):=by omega
  rcases hcase with rfl|rfl|rfl|rfl|rfl|⟨u0,u1,u2,u3,u4⟩
  ·have es:=HI (cs:=cs) (k:=k) (c:=c) (c':={ c with auth:=false }) (p:=.sc (.bool false)) (j:=7) (by omega) hg rfl
   have hg':(cs.set k { c with auth:=false })[k]?=some { c with auth:=false }:=by rw [List.getElem?_set_self (by omega)]
   have es':=HI (k:=k) (c:={ c with auth:=false }) (c':={ c with auth:=false,path:=0 }) (p:=.sc (.int .i64 0)) (j:=8) (by omega) hg' rfl
   rw [List.set_set] at es';have L':(B6 (cs.set k { c with auth:=false })).length=cs.length*13:=by rw [Mm,List.length_set]
   obtain ⟨cs',ans',vs',j',q1,q2,q3,q4,q5⟩:=T { c with auth:=false,path:=0 } ⟨⟨hcu.wf.ser,hcu.wf.mod⟩,hcu.s1,hcu.s2,hcu.s3,hcu.s4⟩;refine ⟨cs',ans',vs',j',q1,q2,q3,q4,?_⟩;rw [List.length_set] at q5;rw [←q5,Bo]
   try unfold Aa
   repeat first
    |((with_reducible first|apply As|apply Ak|apply At|apply Ao|apply Aw|apply Bg|apply Bv|apply Aj);· first|with_reducible rfl|(simp (disch:=omega) only [nlt,n0,n1,ntk,ck,L,es,L',es',Br,Int.reduceBEq]<;>with_reducible rfl))
    |((with_reducible first|apply Ap|apply Ar);· first|with_reducible rfl|omega|(simp (disch:=omega) only [gT,nlt,n0,n1,ntk,ck,L,es,L',es',Br,Int.reduceBEq]<;>omega))
    |(with_reducible apply Aq;· first|with_reducible rfl|(simp (disch:=omega) only [gF,nlt,n0,n1,ntk,ck,L,es,L',es',Br,Int.reduceBEq]<;>omega))
   try simp (disch:=omega) only [nlt,n0,n1,ntk,ck,L,es,L',es',Br,Int.reduceBEq]
   all_goals rfl
  ·have es:=HI (cs:=cs) (k:=k) (c:=c) (c':={ c with path:=0 }) (p:=.sc (.int .i64 0)) (j:=8) (by omega) hg rfl
   obtain ⟨cs',ans',vs',j',q1,q2,q3,q4,q5⟩:=T { c with path:=0 } ⟨⟨hcu.wf.ser,hcu.wf.mod⟩,hcu.s1,hcu.s2,hcu.s3,hcu.s4⟩;refine ⟨cs',ans',vs',j',q1,q2,q3,q4,?_⟩;rw [List.length_set] at q5;rw [←q5,Bo]
   try unfold Aa
   repeat first
    |((with_reducible first|apply As|apply Ak|apply At|apply Ao|apply Aw|apply Bg|apply Bv|apply Aj);· first|with_reducible rfl|(simp (disch:=omega) only [nlt,n0,n1,ntk,ck,L,es,Br,Int.reduceBEq]<;>with_reducible rfl))
    |((with_reducible first|apply Ap|apply Ar);· first|with_reducible rfl|omega|(simp (disch:=omega) only [gT,nlt,n0,n1,ntk,ck,L,es,Br,Int.reduceBEq]<;>omega))
    |(with_reducible apply Aq;· first|with_reducible rfl|(simp (disch:=omega) only [gF,nlt,n0,n1,ntk,ck,L,es,Br,Int.reduceBEq]<;>omega))
   try simp (disch:=omega) only [nlt,n0,n1,ntk,ck,L,es,Br,Int.reduceBEq]
   all_goals rfl
  ·have es:=HI (cs:=cs) (k:=k) (c:=c) (c':={ c with iss:=otS }) (p:=.sc (.string otS)) (j:=1) (by omega) hg rfl
   obtain ⟨cs',ans',vs',j',q1,q2,q3,q4,q5⟩:=T { c with iss:=otS } ⟨⟨hcu.wf.ser,hcu.wf.mod⟩,hcu.s1,(by show otS.size<=5;decide),hcu.s3,hcu.s4⟩
   refine ⟨cs',ans',vs',j',q1,q2,q3,q4,?_⟩;rw [List.length_set] at q5;rw [←q5,Bo]
   try unfold Aa
   repeat first
    |((with_reducible first|apply As|apply Ak|apply At|apply Ao|apply Aw|apply Bg|apply Bv|apply Aj);· first|with_reducible rfl|(simp (disch:=omega) only [nlt,n0,n1,ntk,ck,L,es,Br,Int.reduceBEq]<;>with_reducible rfl))
    |((with_reducible first|apply Ap|apply Ar);· first|with_reducible rfl|omega|(simp (disch:=omega) only [gT,nlt,n0,n1,ntk,ck,L,es,Br,Int.reduceBEq]<;>omega))
    |(with_reducible apply Aq;· first|with_reducible rfl|(simp (disch:=omega) only [gF,nlt,n0,n1,ntk,ck,L,es,Br,Int.reduceBEq]<;>omega))
   try simp (disch:=omega) only [nlt,n0,n1,ntk,ck,L,es,Br,Int.reduceBEq]
   all_goals rfl
  ·have es:=HI (cs:=cs) (k:=k) (c:=c) (c':={ c with subj:=otS }) (p:=.sc (.string otS)) (j:=0) (by omega) hg rfl
   obtain ⟨cs',ans',vs',j',q1,q2,q3,q4,q5⟩:=T { c with subj:=otS } ⟨⟨hcu.wf.ser,hcu.wf.mod⟩,(by show otS.size<=5;decide),hcu.s2,hcu.s3,hcu.s4⟩
   refine ⟨cs',ans',vs',j',q1,q2,q3,q4,?_⟩;rw [List.length_set] at q5;rw [←q5,Bo]
   try unfold Aa
   repeat first
    |((with_reducible first|apply As|apply Ak|apply At|apply Ao|apply Aw|apply Bg|apply Bv|apply Aj);· first|with_reducible rfl|(simp (disch:=omega) only [nlt,n0,n1,ntk,ck,L,es,Br,Int.reduceBEq]<;>with_reducible rfl))
    |((with_reducible first|apply Ap|apply Ar);· first|with_reducible rfl|omega|(simp (disch:=omega) only [gT,nlt,n0,n1,ntk,ck,L,es,Br,Int.reduceBEq]<;>omega))
    |(with_reducible apply Aq;· first|with_reducible rfl|(simp (disch:=omega) only [gF,nlt,n0,n1,ntk,ck,L,es,Br,Int.reduceBEq]<;>omega))
   try simp (disch:=omega) only [nlt,n0,n1,ntk,ck,L,es,Br,Int.reduceBEq]
   all_goals rfl
  ·have es:=HI (cs:=cs) (k:=k) (c:=c) (c':={ c with un:=c.fr }) (p:=.sc (.int .i64 c.fr)) (j:=6) (by omega) hg rfl
   have c5:=(cer hg).2.2.2.2.2.1;have c5':(B6 cs).getD (k*13+5) .top=.sc (.int .i64 c.fr):=c5;obtain ⟨cs',ans',vs',j',q1,q2,q3,q4,q5⟩:=T { c with un:=c.fr } ⟨⟨hcu.wf.ser,hcu.wf.mod⟩,hcu.s1,hcu.s2,hcu.s3,hcu.s4⟩;refine ⟨cs',ans',vs',j',q1,q2,q3,q4,?_⟩;rw [List.length_set] at q5;rw [←q5,Bo]
   try unfold Aa
   repeat first
    |((with_reducible first|apply As|apply Ak|apply At|apply Ao|apply Aw|apply Bg|apply Bv|apply Aj);· first|with_reducible rfl|(simp (disch:=omega) only [nlt,n0,n1,ntk,ck,L,c5',es,Br,Int.reduceBEq]<;>with_reducible rfl))
    |((with_reducible first|apply Ap|apply Ar);· first|with_reducible rfl|omega|(simp (disch:=omega) only [gT,nlt,n0,n1,ntk,ck,L,c5',es,Br,Int.reduceBEq]<;>omega))
    |(with_reducible apply Aq;· first|with_reducible rfl|(simp (disch:=omega) only [gF,nlt,n0,n1,ntk,ck,L,c5',es,Br,Int.reduceBEq]<;>omega))
   try simp (disch:=omega) only [nlt,n0,n1,ntk,ck,L,c5',es,Br,Int.reduceBEq]
   all_goals rfl
  ·have f0:(v1==0)=false:=beq_eq_false_iff_ne.2 u0;have f1:(v1==1)=false:=beq_eq_false_iff_ne.2 u1;have f2:(v1==2)=false:=beq_eq_false_iff_ne.2 u2;have f3:(v1==3)=false:=beq_eq_false_iff_ne.2 u3;have f4:(v1==4)=false:=beq_eq_false_iff_ne.2 u4;obtain ⟨cs',ans',vs',j',q1,q2,q3,q4,q5⟩:=Am6 (d:=d) (a0_0n:=a0_0n) (a0_0:=a0_0) (a0_1:=a0_1) hl h1 h3 (k:=k) (by omega) (j:=j1) hcl hc
   refine ⟨cs',ans',vs',j',q1,q2,q3,q4,?_⟩;rw [←q5,Bo]
   try unfold Aa
   repeat first
    |((with_reducible first|apply As|apply Ak|apply At|apply Ao|apply Aw|apply Bg|apply Bv|apply Aj);· first|with_reducible rfl|(simp (disch:=omega) only [nlt,n0,n1,ntk,ck,L,f0,f1,f2,f3,f4,Br]<;>with_reducible rfl))
    |((with_reducible first|apply Ap|apply Ar);· first|with_reducible rfl|omega|(simp (disch:=omega) only [gT,nlt,n0,n1,ntk,ck,L,f0,f1,f2,f3,f4,Br]<;>omega))
    |(with_reducible apply Aq;· first|with_reducible rfl|(simp (disch:=omega) only [gF,nlt,n0,n1,ntk,ck,L,f0,f1,f2,f3,f4,Br]<;>omega))
   try simp (disch:=omega) only [nlt,n0,n1,ntk,ck,L,f0,f1,f2,f3,f4,Br]
   all_goals rfl
 |m+1,i,nn+1,j,cs,hi,hn,hcl,hc=>by
  obtain ⟨v0,j0,v00,v01,n0⟩:=H1 hl j 3 (by omega) (by omega)
  obtain ⟨v1,j1,v10,v11,n1⟩:=H1 hl j0 5 (by omega) (by omega)
  obtain ⟨v2,j2,v20,v21,n2⟩:=H1 hl j1 2 (by omega) (by omega)
  have n0:=n0 (fu:=2000) (d:=d+12);have n1:=n1 (fu:=2000) (d:=d+12);have n2:=n2 (fu:=2000) (d:=d+12);have ky:=KV (fu:=2000) (d:=d+1) (by omega) (wrap .u64 (wrap .i64 (80+(i:Int)))) 1
  generalize Gz (wrap .u64 (wrap .i64 (80+(i:Int)))) 1=K at *
  simp only [Ky.cells] at ky;simp only [dkc] at n0 n1 n2;obtain ⟨s1,z1,g1⟩:=TZ (n:=i) (S:=[lfS,mdS,tpS]) (m:=5) (by simp;omega) (by decide)
  simp only [Zzw,List.map_nil] at g1;have nt:Int.toNat (i:Int)=i:=Gu _;have nt1:Int.toNat ((i+1:Nat):Int)=i+1:=Gu _;have w:wrap .i64 ((i:Int)+1)=((i+1:Nat):Int):=by rw [Al (by omega) (by omega)];omega
  have wn:wrap .i64 ((n:Int)-1)=(n:Int)-1:=Al (by omega) (by omega)
  have ci:(decide ((0:Int)<=i)&&decide ((i:Int)<((3:Nat):Int)))=true:=by simp;omega
  have L:=Mm cs;have tk:List.take (cs.length*13) (B6 cs)=B6 cs:=Tp (by omega)
  have lt:decide ((i:Int)<(n:Int))=true:=by simp;omega
  have e0:Af .u64 []=[]:=rfl
  have go:∀(iss:ByteArray) (auth:Bool) (path:Int) (jj:Nat),iss.size<=5 ->
    Fin l (Cr 2000 (Ae C0 Tryz.prog 2000 (d+14)) a0_0n a0_0 a0_1 nn 3 (n:Int) (cs.length+1) ((i+1:Nat):Int) l.length (Af .i64 l) (jj:Int) [.sc (.string lfS),.sc (.string mdS),.sc (.string tpS)]
     (B6 cs++[.sc (.string s1),.sc (.string iss),.sc (.int .u64 (wrap .u64 (i:Int))),.sc (.int .i64 K.h),.sc (.int .u64 K.root),.sc (.int .i64 v0),.sc (.int .i64 (wrap .i64 (10+v1))),.sc (.bool auth),.sc (.int .i64 path),.sc (.int .u64 3),.sc (.int .i64 0),.lst false 1 0 [],.lst false 1 0 []])):=by
   intro iss auth path jj hs
   have:=Amr hl h1 h3 m (i+1) nn jj (cs++[⟨s1,iss,wrap .u64 (i:Int),K,v0,wrap .i64 (10+v1),auth,path,3,⟨0,[],[]⟩⟩]) (by omega) (by omega) (by rw [Kh,List.length_singleton];omega) (fun x hx=>by
    rcases List.mem_append.1 hx with hx|hx
    ·exact hc x hx
    ·rw [List.mem_singleton.1 hx];exact ⟨⟨(G6 _).1,(by show (0:Int)<=3;omega)⟩,z1,hs,(by show ([]:List Int).length<=18;simp),(by show ([]:List Int).length<=4;simp)⟩)
   rw [Kh,List.length_singleton,QT,QV] at this;exact this
  by_cases hlast:(i:Int)<(n:Int)-1
  ·obtain ⟨s2,z2,g2⟩:=TZ (n:=i+1) (S:=[lfS,mdS,tpS]) (m:=5) (by simp;omega) (by decide)
   simp only [Zzw,List.map_nil] at g2;have c1:(decide ((0:Int)<=((i+1:Nat):Int))&&decide (((i+1:Nat):Int)<((3:Nat):Int)))=true:=by simp;omega
   have hb:decide ((i:Int)<(n:Int)-1)=true:=decide_eq_true hlast;by_cases h0:(i:Int)>0
   ·have h0':decide ((i:Int)>0)=true:=decide_eq_true h0;obtain ⟨pth,hp⟩:∃p,(if (2:Int)<wrap .i64 (wrap .i64 ((i:Int)-1)+v2) then (2:Int) else wrap .i64 (wrap .i64 ((i:Int)-1)+v2))=p:=⟨_,rfl⟩
    obtain ⟨cs',ans',vs',j',q1,q2,q3,q4,q5⟩:=go s2 true pth j2 z2;refine ⟨cs',ans',vs',j',q1,q2,q3,q4,?_⟩;rw [←q5,Bo]
    try unfold Aa
    repeat first
     |((with_reducible first|apply As|apply Ak|apply At|apply Ao|apply Aw|apply Bg|apply Bv|apply Aj);· first|with_reducible rfl|(simp (disch:=omega) only [lt,ci,g1,ky,n0,n1,h0',n2,hp,wn,hb,w,c1,nt,nt1,g2,L,tk,Br,B8]<;>with_reducible rfl))
     |((with_reducible first|apply Ap|apply Ar);· first|with_reducible rfl|omega|(simp (disch:=omega) only [gT,lt,ci,g1,ky,n0,n1,h0',n2,hp,wn,hb,w,c1,nt,nt1,g2,L,tk,Br,B8]<;>omega))
     |(with_reducible apply Aq;· first|with_reducible rfl|(simp (disch:=omega) only [gF,lt,ci,g1,ky,n0,n1,h0',n2,hp,wn,hb,w,c1,nt,nt1,g2,L,tk,Br,B8]<;>omega))
    try simp (disch:=omega) only [lt,ci,g1,ky,n0,n1,h0',n2,hp,wn,hb,w,c1,nt,nt1,g2,L,tk,Br,B8]
    all_goals rfl
   ·have h0':decide ((i:Int)>0)=false:=decide_eq_false h0;obtain ⟨cs',ans',vs',j',q1,q2,q3,q4,q5⟩:=go s2 false 0 j1 z2;refine ⟨cs',ans',vs',j',q1,q2,q3,q4,?_⟩;rw [←q5,Bo]
    try unfold Aa
    repeat first
     |((with_reducible first|apply As|apply Ak|apply At|apply Ao|apply Aw|apply Bg|apply Bv|apply Aj);· first|with_reducible rfl|(simp (disch:=omega) only [lt,ci,g1,ky,n0,n1,h0',wn,hb,w,c1,nt,nt1,g2,L,tk,Br,B8]<;>with_reducible rfl))
     |((with_reducible first|apply Ap|apply Ar);· first|with_reducible rfl|omega|(simp (disch:=omega) only [gT,lt,ci,g1,ky,n0,n1,h0',wn,hb,w,c1,nt,nt1,g2,L,tk,Br,B8]<;>omega))
     |(with_reducible apply Aq;· first|with_reducible rfl|(simp (disch:=omega) only [gF,lt,ci,g1,ky,n0,n1,h0',wn,hb,w,c1,nt,nt1,g2,L,tk,Br,B8]<;>omega))
    try simp (disch:=omega) only [lt,ci,g1,ky,n0,n1,h0',wn,hb,w,c1,nt,nt1,g2,L,tk,Br,B8]
    all_goals rfl
  ·have hb:decide ((i:Int)<(n:Int)-1)=false:=decide_eq_false hlast;by_cases h0:(i:Int)>0
   ·have h0':decide ((i:Int)>0)=true:=decide_eq_true h0;obtain ⟨pth,hp⟩:∃p,(if (2:Int)<wrap .i64 (wrap .i64 ((i:Int)-1)+v2) then (2:Int) else wrap .i64 (wrap .i64 ((i:Int)-1)+v2))=p:=⟨_,rfl⟩
    obtain ⟨cs',ans',vs',j',q1,q2,q3,q4,q5⟩:=go UY true pth j2 (by decide)
    refine ⟨cs',ans',vs',j',q1,q2,q3,q4,?_⟩;rw [←q5,Bo]
    try unfold Aa
    repeat first
     |((with_reducible first|apply As|apply Ak|apply At|apply Ao|apply Aw|apply Bg|apply Bv|apply Aj);· first|with_reducible rfl|(simp (disch:=omega) only [lt,ci,g1,ky,n0,n1,h0',n2,hp,wn,hb,w,nt,L,tk,Br,B8]<;>with_reducible rfl))
     |((with_reducible first|apply Ap|apply Ar);· first|with_reducible rfl|omega|(simp (disch:=omega) only [gT,lt,ci,g1,ky,n0,n1,h0',n2,hp,wn,hb,w,nt,L,tk,Br,B8]<;>omega))
     |(with_reducible apply Aq;· first|with_reducible rfl|(simp (disch:=omega) only [gF,lt,ci,g1,ky,n0,n1,h0',n2,hp,wn,hb,w,nt,L,tk,Br,B8]<;>omega))
    try simp (disch:=omega) only [lt,ci,g1,ky,n0,n1,h0',n2,hp,wn,hb,w,nt,L,tk,Br,B8]
    all_goals rfl
   ·have h0':decide ((i:Int)>0)=false:=decide_eq_false h0;obtain ⟨cs',ans',vs',j',q1,q2,q3,q4,q5⟩:=go UY false 0 j1 (by decide)
    refine ⟨cs',ans',vs',j',q1,q2,q3,q4,?_⟩;rw [←q5,Bo]
    try unfold Aa
    repeat first
     |((with_reducible first|apply As|apply Ak|apply At|apply Ao|apply Aw|apply Bg|apply Bv|apply Aj);· first|with_reducible rfl|(simp (disch:=omega) only [lt,ci,g1,ky,n0,n1,h0',wn,hb,w,nt,L,tk,Br,B8]<;>with_reducible rfl))
     |((with_reducible first|apply Ap|apply Ar);· first|with_reducible rfl|omega|(simp (disch:=omega) only [gT,lt,ci,g1,ky,n0,n1,h0',wn,hb,w,nt,L,tk,Br,B8]<;>omega))
     |(with_reducible apply Aq;· first|with_reducible rfl|(simp (disch:=omega) only [gF,lt,ci,g1,ky,n0,n1,h0',wn,hb,w,nt,L,tk,Br,B8]<;>omega))
    try simp (disch:=omega) only [lt,ci,g1,ky,n0,n1,h0',wn,hb,w,nt,L,tk,Br,B8]
    all_goals rfl
theorem Aix (hl:l.length<=maxLen)(j:Nat):Fin l (Ae C0 Tryz.prog 2000 (d+15) Na [.pbox (dkc l j)]):=by
 obtain ⟨v0,j0,v00,v01,n0⟩:=H1 hl j 3 (by omega) (by omega)
 have n0:=n0 (fu:=2000) (d:=d+12);obtain ⟨m,rfl⟩:∃m:Nat,v0=m:=⟨v0.toNat,by omega⟩
 have w:wrap .i64 (1+(m:Int))=((1+m:Nat):Int):=by rw [Al (by omega) (by omega)];omega
 obtain ⟨cs',ans',vs',j',q1,q2,q3,q4,q5⟩:=Amr (d:=d) (a0_0n:=l.length) (a0_0:=Af .i64 l) (a0_1:=(j:Int)) hl (n:=1+m) (by omega) (by omega) (1+m) 0 2000 j0 [] (by omega) (by omega) rfl (by intro c h;cases h)
 refine ⟨cs',ans',vs',j',q1,q2,q3,q4,?_⟩;have E:=Wc 2000 (d+14) l.length (Af .i64 l) (j:Int);refine E.trans ?_;have z:B6 []=[]:=rfl;have z0:((0:Nat):Int)=0:=rfl;rw [z,z0,Zw] at q5;simp only [dkc] at n0;rw [←q5]
 try unfold Aa
 repeat first
  |((with_reducible first|apply As|apply Ak|apply At|apply Ao|apply Aw|apply Bg|apply Bv|apply Aj);· first|with_reducible rfl|(simp (disch:=omega) only [n0,w]<;>with_reducible rfl))
  |((with_reducible first|apply Ap|apply Ar);· first|with_reducible rfl|omega|(simp (disch:=omega) only [gT,n0,w]<;>omega))
  |(with_reducible apply Aq;· first|with_reducible rfl|(simp (disch:=omega) only [gF,n0,w]<;>omega))
 try simp (disch:=omega) only [n0,w]
 all_goals rfl
end
end
section
open Go.IntKind (wrap)
theorem OM {d:Nat}{ps:List PV}(h:WT Tryz.prog d 63 ps):∃(v0:ByteArray)(v1v0:Int)(v1v1:Int),ps=[(.sc (.string v0)),(.sc (.int .i64 v1v0)),(.sc (.int .u64 v1v1))]∧v0.size<=maxLen∧(Lit.int .i64 v1v0).wf=true∧(Lit.int .u64 v1v1).wf=true:=by
 obtain ⟨rs,rfl,h1⟩:=YW (ts:=[9,24]) (by kernel_rfl) h
 obtain ⟨r0,_,rfl,g0,h1⟩:=h1.cons_inv;obtain ⟨r1,_,rfl,g1,h1⟩:=h1.cons_inv;obtain rfl:=h1.nil_inv;obtain ⟨v0,rfl,w0_0⟩:=TL (by kernel_rfl) g0
 obtain ⟨v1v0,v1v1,rfl,w1_0,w1_1⟩:=Sa g1;exact ⟨v0,v1v0,v1v1,rfl,w0_0,w1_0,w1_1⟩
theorem DI {d:Nat}{ps:List PV}(h:WT Tryz.prog d 65 ps):∃(v0:ByteArray)(v1:Int)(v2:Int),ps=[(.sc (.string v0)),(.sc (.int .u64 v1)),(.sc (.int .i64 v2))]∧v0.size<=maxLen∧(Lit.int .u64 v1).wf=true∧(Lit.int .i64 v2).wf=true:=by
 obtain ⟨rs,rfl,h1⟩:=YW (ts:=[9,22,3]) (by kernel_rfl) h
 obtain ⟨r0,_,rfl,g0,h1⟩:=h1.cons_inv;obtain ⟨r1,_,rfl,g1,h1⟩:=h1.cons_inv;obtain ⟨r2,_,rfl,g2,h1⟩:=h1.cons_inv;obtain rfl:=h1.nil_inv;obtain ⟨v0,rfl,w0_0⟩:=TL (by kernel_rfl) g0
 obtain ⟨v1,rfl,w1_0⟩:=Nu (k:=.u64) (by kernel_rfl) g1
 obtain ⟨v2,rfl,w2_0⟩:=Nu (k:=.i64) (by kernel_rfl) g2
 exact ⟨v0,v1,v2,rfl,w0_0,w1_0,w2_0⟩
end
section
open Go.IntKind (wrap)
set_option maxRecDepth 100000
abbrev Gm:FuncId:=6
noncomputable def Db (fu:Nat)(call:Ah)(a0n:Nat)(a0:List PV)(a1:Int)(a2n:Nat)(a2:List PV)(a3n:Nat)(a3:List PV)(a4n:Nat)(a4:List PV)(nn y0:Nat)(y1:List PV)(y2:Int)(y3:Nat)(y4:List PV)(y5:Nat)(y6:List PV)(y7:Nat)(y8:List PV)(y9:Int):Option A0:=Co CB Tryz.prog fu call 6 Tryz.f6 (Bm Tryz.f6) [.lst false 1 a0n a0,.sc (.int .i64 a1),.lst false 13 a2n a2,.lst false 3 a3n a3,.lst false 3 a4n a4] [.r,.r,.l,.r,.l] nn ⟨lk [(0,(.lst false 1 y0 y1)),(1,(.sc (.int .i64 y2))),(2,(.lst false 13 y3 y4)),(3,(.lst false 3 y5 y6)),(4,(.lst false 3 y7 y8)),(11,(.sc (.int .i64 y9)))],B7 []⟩
noncomputable def Dc (fu:Nat)(call:Ah)(a0n:Nat)(a0:List PV)(a1:Int)(a2n:Nat)(a2:List PV)(a3n:Nat)(a3:List PV)(a4n:Nat)(a4:List PV)(nn y0:Nat)(y1:List PV)(y2:Nat)(y3:List PV)(y4:Nat)(y5:List PV)(y6:Nat)(y7:List PV)(y8:Nat)(y9:List PV)(y10:Nat)(Gk:List PV)(Hx:Nat)(Ja Kp:Int)(Lq:List PV):Option A0:=Co CB Tryz.prog fu call 6 Tryz.f6 (Bm Tryz.f6) [.lst false 1 a0n a0,.sc (.int .i64 a1),.lst false 13 a2n a2,.lst false 3 a3n a3,.lst false 3 a4n a4] [.r,.r,.r,.r,.r,.l,.r,.l] nn ⟨lk [(2,(.lst false 13 y0 y1)),(3,(.lst false 3 y2 y3)),(4,(.lst false 3 y4 y5)),(13,(.lst false 13 y6 y7)),(14,(.lst false 3 y8 y9)),(15,(.lst false 3 y10 Gk)),(64,(.view 64 1 0 Hx)),(65,(.sc (.int .i64 Ja))),(66,(.sc (.int .i64 Kp)))],B7 [(64,(.ar false Lq))]⟩
theorem Fs (fu:Nat)(call:Ah)(a0n:Nat)(a0:List PV)(a1:Int)(a2n:Nat)(a2:List PV)(a3n:Nat)(a3:List PV)(a4n:Nat)(a4:List PV)(nn y0:Nat)(y1:List PV)(y2:Int)(y3:Nat)(y4:List PV)(y5:Nat)(y6:List PV)(y7:Nat)(y8:List PV)(y9:Int):Db fu call a0n a0 a1 a2n a2 a3n a3 a4n a4 (nn+1) y0 y1 y2 y3 y4 y5 y6 y7 y8 y9=(A9 (decide (y9<(↑y3:Int))) (Au (decide (0<=y9)&&decide (y9<(↑y3:Int)))<|Cj (List.getD y4 (Int.toNat y9*13) .top) fun Ea=>Cj (List.getD y4 (Int.toNat y9*13+1) .top) fun En=>Ad .u64 (List.getD y4 (Int.toNat y9*13+1+1) .top) fun E1=>Ad .i64 (List.getD y4 (Int.toNat y9*13+1+1+1) .top) fun Fg=>Ad .u64 (List.getD y4 (Int.toNat y9*13+1+1+1+1) .top) fun Fp=>Ad .i64 (List.getD y4 (Int.toNat y9*13+1+1+1+1+1) .top) fun Ho=>Ad .i64 (List.getD y4 (Int.toNat y9*13+1+1+1+1+1+1) .top) fun Hb=>Bj (List.getD y4 (Int.toNat y9*13+1+1+1+1+1+1+1) .top) fun Hr=>Ad .i64 (List.getD y4 (Int.toNat y9*13+1+1+1+1+1+1+1+1) .top) fun Dz=>Ad .u64 (List.getD y4 (Int.toNat y9*13+1+1+1+1+1+1+1+1+1) .top) fun Dq=>Ad .i64 (List.getD y4 (Int.toNat y9*13+1+1+1+1+1+1+1+1+1+1) .top) fun F5=>Fk 1 (List.getD y4 (Int.toNat y9*13+1+1+1+1+1+1+1+1+1+1+1) .top) fun H3 E2 Jg=>Fk 1 (List.getD y4 (Int.toNat y9*13+1+1+1+1+1+1+1+1+1+1+1+1) .top) fun L6 J3 Mp=>Ag (call 9 [.agg [.sc (.string Ea),.sc (.string En),.sc (.int .u64 E1),.sc (.int .i64 Fg),.sc (.int .u64 Fp),.sc (.int .i64 Ho),.sc (.int .i64 Hb),.sc (.bool Hr),.sc (.int .i64 Dz),.sc (.int .u64 Dq),.sc (.int .i64 F5),.lst false 1 E2 Jg,.lst false 1 J3 Mp]]) fun Mg Nm=>Ac Nm<|Ab Mg fun Pt P7=>Bj Pt fun R4=>Ac P7<|A9 (!R4) (Ag (call 10 []) fun Hi J8=>Ac J8<|Ab Hi fun Uy Y8=>Bj Uy fun Ph=>Ac Y8<|some (A0.mk [.sc (.bool Ph)] [])) (Aa (wrap .i64 (y9+1)) fun Nw=>Db fu call a0n a0 a1 a2n a2 a3n a3 a4n a4 (nn) (y0) (y1) (y2) (y3) (y4) (y5) (y6) (y7) (y8) Nw)) (Ag (call 11 [.lst false 1 y0 y1]) fun Uo Sb=>Ac Sb<|Ab Uo fun To Xt=>Y9 To fun Yh=>Ab Yh fun Sd We=>Fk 1 Sd fun Yk Xe O3=>Ab We fun Yl DK=>Ad .i64 Yl fun BC=>Ac DK<|Ac Xt<|Ag (call 26 [.pbox [.lst false 1 Xe O3,.sc (.int .i64 BC)]]) fun Y3 U7=>Ab Y3 fun X7 BA=>Fk 13 X7 fun Zd Y6 BB=>Ab BA fun Y1 Za=>Fk 3 Y1 fun Xv Xj EB=>Ab Za fun Zs Y2=>Fk 3 Zs fun Zf Zz EG=>Ac Y2<|Ab U7 fun Zk Y4=>Ab Zk fun GZ BE=>Fk 1 GZ fun FP IU IW=>Ab BE fun UI NQ=>Ad .i64 UI fun RU=>Ac NQ<|Ac Y4<|Ag (call 16 [.sc (.int .i64 y2),.sc (.int .i64 16)]) fun OL ZG=>Ac ZG<|Ab OL fun WJ UX=>Ad .i64 WJ fun TX=>Ac UX<|Dc fu call a0n a0 a1 a2n a2 a3n a3 a4n a4 (fu) (y3) (y4) (y5) (y6) (y7) (y8) Y6 BB Xj EB Zz EG 2 2 0 ([.sc (.int .i64 y2),.sc (.int .i64 TX)]))):=by kernel_rfl
theorem Fz (fu:Nat)(call:Ah)(a0n:Nat)(a0:List PV)(a1:Int)(a2n:Nat)(a2:List PV)(a3n:Nat)(a3:List PV)(a4n:Nat)(a4:List PV)(nn y0:Nat)(y1:List PV)(y2:Nat)(y3:List PV)(y4:Nat)(y5:List PV)(y6:Nat)(y7:List PV)(y8:Nat)(y9:List PV)(y10:Nat)(Gk:List PV)(Hx:Nat)(Ja Kp:Int)(Lq:List PV):Dc fu call a0n a0 a1 a2n a2 a3n a3 a4n a4 (nn+1) y0 y1 y2 y3 y4 y5 y6 y7 y8 y9 y10 Gk Hx Ja Kp Lq=(A9 (decide (Kp<Ja)) (Au (decide (0<=Kp)&&decide (Kp<(↑Hx:Int)))<|Ad .i64 (List.getD Lq (0+Int.toNat Kp*1) .top) fun EI=>Ag (call 27 [.lst false 13 y6 y7,.lst false 3 y8 y9,.lst false 3 y10 Gk,.sc (.int .i64 EI)]) fun RG SE=>Ac SE<|Ab RG fun YA VI=>Ad .i64 YA fun x94=>Ab VI fun x95 x96=>Ad .i64 x95 fun UZ=>Ac x96<|Ag (call 28 [.lst false 13 y6 y7,.lst false 3 y8 y9,.lst false 3 y10 Gk,.sc (.int .i64 EI)]) fun ZM ZN=>Ac ZN<|Ab ZM fun Ys Xb=>Ad .i64 Ys fun H5=>Ab Xb fun D7 Z6=>Ad .i64 D7 fun Tl=>Ac Z6<|Ag (call 27 [.lst false 13 y0 y1,.lst false 3 y2 y3,.lst false 3 y4 y5,.sc (.int .i64 EI)]) fun R7 Kx=>Ac Kx<|Ab R7 fun Zu AM=>Ad .i64 Zu fun Z4=>Ab AM fun Zr Iy=>Ad .i64 Zr fun Kl=>Ac Iy<|Ag (call 28 [.lst false 13 y0 y1,.lst false 3 y2 y3,.lst false 3 y4 y5,.sc (.int .i64 EI)]) fun AW Zh=>Ac Zh<|Ab AW fun AP FS=>Ad .i64 AP fun Ub=>Ab FS fun Vw Yi=>Ad .i64 Vw fun X9=>Ac Yi<|A9 (x94 != H5) (some (A0.mk [.sc (.bool false)] [])) (A9 (UZ != Tl) (some (A0.mk [.sc (.bool false)] [])) (A9 (Z4 != Ub) (some (A0.mk [.sc (.bool false)] [])) (A9 (Kl != X9) (some (A0.mk [.sc (.bool false)] [])) (Aa (wrap .i64 (Kp+1)) fun Zo=>Dc fu call a0n a0 a1 a2n a2 a3n a3 a4n a4 (nn) (y0) (y1) (y2) (y3) (y4) (y5) (y6) (y7) (y8) (y9) (y10) (Gk) (Hx) (Ja) Zo (Lq)))))) (Ag (call 10 []) fun BI Tg=>Ac Tg<|Ab BI fun R3 Qt=>Bj R3 fun Tu=>Ac Qt<|some (A0.mk [.sc (.bool Tu)] []))):=by kernel_rfl
theorem Ld (fu d a0n:Nat)(a0:List PV)(a1:Int)(a2n:Nat)(a2:List PV)(a3n:Nat)(a3:List PV)(a4n:Nat)(a4:List PV):Ae C0 Tryz.prog fu (d+1) Gm [.lst false 1 a0n a0,.sc (.int .i64 a1),.lst false 13 a2n a2,.lst false 3 a3n a3,.lst false 3 a4n a4]=(fun (call:Ah)=>A9 (decide ((↑a2n:Int)>5)) (Ag (call 10 []) fun x1 x2=>Ac x2<|Ab x1 fun x3 x4=>Bj x3 fun x5=>Ac x4<|some (A0.mk [.sc (.bool x5)] [])) (A9 (decide ((↑a3n:Int)>5)) (Ag (call 10 []) fun x6 x7=>Ac x7<|Ab x6 fun x8 x9=>Bj x8 fun Cl=>Ac x9<|some (A0.mk [.sc (.bool Cl)] [])) (A9 (decide ((↑a4n:Int)>10)) (Ag (call 10 []) fun Cw Dl=>Ac Dl<|Ab Cw fun Ds Dk=>Bj Ds fun D9=>Ac Dk<|some (A0.mk [.sc (.bool D9)] [])) (Db fu call a0n a0 a1 a2n a2 a3n a3 a4n a4 (fu) (a0n) (a0) (a1) (a2n) (a2) (a3n) (a3) (a4n) (a4) 0)))) (Ae C0 Tryz.prog fu d):=by kernel_rfl
end
section
open Go.IntKind (wrap)
set_option maxRecDepth 1000000
theorem Ait {p:PV}(h:WTv Tryz.prog 54 p):∃l:List Ce,p=.lst false 13 l.length (B6 l)∧∀c∈l,c.ok:=by
 obtain ⟨rows,rfl,hl,hr⟩:=Aa9 (e:=29) (by kernel_rfl) (by kernel_rfl) h
 obtain ⟨xs,h1,h2,h3⟩:=Ms Ce.cells Ce.ok (rows:=rows) fun r hr'=>by
  obtain ⟨v0,v1,v2,v3,v4,v5,v6,v7,v8,v9,v10,v11,v12,rfl,e0,e1,e2,e3,e4,e5,e6,e7,e8,e9,e10,e11,e12,e13⟩:=AN (hr r hr').2;refine ⟨⟨v0,v1,v2,⟨v3,v4⟩,v5,v6,v7,v8,v9,⟨v10,v11,v12⟩⟩,rfl,?_⟩;refine ⟨?_,?_,?_,⟨fun x hx=>?_,fun x hx=>?_⟩⟩
  all_goals first|exact ML (by assumption)|exact ML (e11 x hx)|exact ML (e10 x hx)|exact ML (e13 x hx)|exact ML (e12 x hx)
 refine ⟨xs,?_,h3⟩;rw [h1,h2];rfl
theorem Akj {p:PV}(h:WTv Tryz.prog 55 p):∃l:List An,p=.lst false 3 l.length (Fa l):=by
 obtain ⟨rows,rfl,hl,hr⟩:=Aa9 (e:=63) (by kernel_rfl) (by kernel_rfl) h
 obtain ⟨xs,h1,h2,_⟩:=Ms An.cells (fun _=>True) (rows:=rows) fun r hr'=>by
  obtain ⟨v0,v1,v2,rfl,_⟩:=OM (hr r hr').2;exact ⟨⟨v0,⟨v1,v2⟩⟩,rfl,trivial⟩
 refine ⟨xs,?_⟩;rw [h1,h2];rfl
theorem Air {p:PV}(h:WTv Tryz.prog 56 p):∃l:List Rv,p=.lst false 3 l.length (Em l):=by
 obtain ⟨rows,rfl,hl,hr⟩:=Aa9 (e:=65) (by kernel_rfl) (by kernel_rfl) h
 obtain ⟨xs,h1,h2,_⟩:=Ms Rv.cells (fun _=>True) (rows:=rows) fun r hr'=>by
  obtain ⟨v0,v1,v2,rfl,_⟩:=DI (hr r hr').2;exact ⟨⟨v0,v1,v2⟩,rfl,trivial⟩
 refine ⟨xs,?_⟩;rw [h1,h2];rfl
section
variable {a0n:Nat} {a0:List PV} {a1:Int} {a2n:Nat} {a2:List PV} {a3n:Nat} {a3:List PV} {a4n:Nat} {a4:List PV}
theorem Aim {cs cs':List Ce}(hc:∀c∈cs,c.in_)(hc':∀c∈cs',c.in_){ans ans':List An}(hal:ans.length<=900)(hal':ans'.length<=900){vs vs':List Rv}(hv:vs.length<=900)(hv':vs'.length<=900){ts:List Int}(h2:ts.length=2):∀(r:List Int)(i nn:Nat),ts.drop i=r->r.length<nn->i<=ts.length ->
  Dc 2000 (Ae C0 Tryz.prog 2000 18) a0n a0 a1 a2n a2 a3n a3 a4n a4 nn cs.length (B6 cs) ans.length (Fa ans) vs.length (Em vs) cs'.length (B6 cs') ans'.length (Fa ans') vs'.length (Em vs') 2 2 (i:Int) (Af .i64 ts)=some ⟨[.sc (.bool true)],[]⟩
 |_,_,0,_,h,_=>by omega
 |[],i,nn+1,hd,hn,hi=>by
  have:=drop_nil hd;have aw:=JI (d:=3);rw [Fz]
  try unfold Aa
  repeat first
   |((with_reducible first|apply As|apply Ak|apply At|apply Ao|apply Aw|apply Bg|apply O7|apply Aj);· first|with_reducible rfl|(simp (disch:=omega) only [aw]<;>with_reducible rfl))
   |((with_reducible first|apply Ap|apply Ar);· first|with_reducible rfl|omega|(simp (disch:=omega) only [gT,aw]<;>omega))
   |(with_reducible apply Aq;· first|with_reducible rfl|(simp (disch:=omega) only [gF,aw]<;>omega))
  try simp (disch:=omega) only [aw]
  all_goals rfl
 |t::r,i,nn+1,hd,hn,hi=>by
  obtain ⟨h1,h2',h3⟩:=B3 hd;simp only [Jd] at hn;have g:=Vg (k:=.i64) h2';have nt:Int.toNat (i:Int)=i:=Gu _;have w:wrap .i64 ((i:Int)+1)=((i+1:Nat):Int):=by rw [Al (by omega) (by omega)];omega
  have ci:(decide ((0:Int)<=i)&&decide ((i:Int)<((2:Nat):Int)))=true:=by simp;omega
  have p:=CQ (fu:=2000) (d:=8) (by omega) hc hal hv t
  have q:=XP (fu:=2000) (d:=7) (by omega) hc hal hv t
  have p':=CQ (fu:=2000) (d:=8) (by omega) hc' hal' hv' t
  have q':=XP (fu:=2000) (d:=7) (by omega) hc' hal' hv' t
  have b:∀x:Int,(x != x)=false:=fun x=>bne_self_eq_false x
  have ih:=Aim hc hc' hal hal' hv hv' h2 r (i+1) nn h3 (by omega) (by omega)
  rw [Fz,←ih]
  try unfold Aa
  repeat first
   |((with_reducible first|apply As|apply Ak|apply At|apply Ao|apply Aw|apply Bg|apply O7|apply Aj);· first|with_reducible rfl|(simp (disch:=omega) only [ci,nt,Br,B8,g,p,q,p',q',b,w]<;>with_reducible rfl))
   |((with_reducible first|apply Ap|apply Ar);· first|with_reducible rfl|omega|(simp (disch:=omega) only [gT,ci,nt,Br,B8,g,p,q,p',q',b,w]<;>omega))
   |(with_reducible apply Aq;· first|with_reducible rfl|(simp (disch:=omega) only [gF,ci,nt,Br,B8,g,p,q,p',q',b,w]<;>omega))
  try simp (disch:=omega) only [ci,nt,Br,B8,g,p,q,p',q',b,w]
  all_goals rfl
theorem Aki {l:List Int}(hl:l.length<=maxLen){now:Int}{cs:List Ce}(hc:∀c∈cs,c.ok)(hcl:cs.length<=5){ans:List An}(hal:ans.length<=5){vs:List Rv}(hv:vs.length<=10):∀(r:List Ce)(i nn:Nat),cs.drop i=r->r.length<nn->i<=cs.length->(∀k c,k<i->cs[k]?=some c->c.subj.size<100∧c.iss.size<100) ->
  Db 2000 (Ae C0 Tryz.prog 2000 18) a0n a0 a1 a2n a2 a3n a3 a4n a4 nn l.length (Af .i64 l) now cs.length (B6 cs) ans.length (Fa ans) vs.length (Em vs) (i:Int)=some ⟨[.sc (.bool true)],[]⟩
 |_,_,0,_,h,_,_=>by omega
 |[],i,nn+1,hd,hn,hi,hs=>by
  have:=drop_nil hd;have nq:=Asm (fu:=2000) (d:=17) (l:=l);obtain ⟨cs',ans',vs',j,hc',hcl',hal',hvl',ce⟩:=Aix (d:=3) hl 0;obtain ⟨t,t0,t1,mo⟩:=Agn now 16 (by omega) (by omega)
  have mo:=mo (fu:=2000) (d:=17);have z0:((0:Nat):Int)=0:=rfl;simp only [dkc] at nq ce;rw [z0] at nq ce
  have hin:∀c∈cs,c.in_:=fun c h=>by
   obtain ⟨k,hk⟩:=List.getElem?_of_mem h;obtain ⟨s1,s2⟩:=hs k c (by have:=SC hk;omega) hk
   exact ⟨(hc c h).wf,by omega,by omega⟩
  have lp:=Aim (a0n:=a0n) (a0:=a0) (a1:=a1) (a2n:=a2n) (a2:=a2) (a3n:=a3n) (a3:=a3) (a4n:=a4n) (a4:=a4) hin (fun c h=>(hc' c h).in_) (ans:=ans) (ans':=ans') (by omega) (by omega) (vs:=vs) (vs':=vs') (by omega) (by omega) (ts:=[now,t]) rfl [now,t] 0 2000 rfl (by simp) (by simp)
  have e2:Af .i64 [now,t]=[.sc (.int .i64 now),.sc (.int .i64 t)]:=rfl;rw [e2,z0] at lp;rw [Fs,←lp]
  try unfold Aa
  repeat first
   |((with_reducible first|apply As|apply Ak|apply At|apply Ao|apply Aw|apply Bg|apply O7|apply Aj);· first|with_reducible rfl|(simp (disch:=omega) only [nq,ce,mo]<;>with_reducible rfl))
   |((with_reducible first|apply Ap|apply Ar);· first|with_reducible rfl|omega|(simp (disch:=omega) only [gT,nq,ce,mo]<;>omega))
   |(with_reducible apply Aq;· first|with_reducible rfl|(simp (disch:=omega) only [gF,nq,ce,mo]<;>omega))
  try simp (disch:=omega) only [nq,ce,mo]
  all_goals rfl
 |c::r,i,nn+1,hd,hn,hi,hs=>by
  obtain ⟨h1,h2,h3⟩:=B3 hd;simp only [Jd] at hn;obtain ⟨d0,d1,d2,d3,d4,d5,d6,d7,d8,d9,d10,d11,d12⟩:=cer h2;have nt:Int.toNat (i:Int)=i:=Gu _;have w:wrap .i64 ((i:Int)+1)=((i+1:Nat):Int):=by rw [Al (by omega) (by omega)];omega
  have sm:=Ag3 (fu:=2000) (d:=17) (c:=c);simp only [Ce.cells] at sm;rw [Fs];cases hsm:(decide ((c.subj.size:Int)<100)&&decide ((c.iss.size:Int)<100)&&decide ((c.sig.chains.length:Int)<40)&&decide ((c.sig.path.length:Int)<10))
  ·rw [hsm] at sm;have aw:=JI (d:=3)
   try unfold Aa
   repeat first
    |((with_reducible first|apply As|apply Ak|apply At|apply Ao|apply Aw|apply Bg|apply O7|apply Aj);· first|with_reducible rfl|(simp (disch:=omega) only [nt,d0,d1,d2,d3,d4,d5,d6,d7,d8,d9,d10,d11,d12,sm,aw,Cn]<;>with_reducible rfl))
    |((with_reducible first|apply Ap|apply Ar);· first|with_reducible rfl|omega|(simp (disch:=omega) only [gT,nt,d0,d1,d2,d3,d4,d5,d6,d7,d8,d9,d10,d11,d12,sm,aw,Cn]<;>omega))
    |(with_reducible apply Aq;· first|with_reducible rfl|(simp (disch:=omega) only [gF,nt,d0,d1,d2,d3,d4,d5,d6,d7,d8,d9,d10,d11,d12,sm,aw,Cn]<;>omega))
   try simp (disch:=omega) only [nt,d0,d1,d2,d3,d4,d5,d6,d7,d8,d9,d10,d11,d12,sm,aw,Cn]
   all_goals rfl
  ·rw [hsm] at sm;simp only [Bool.and_eq_true,decide_eq_true_eq] at hsm
   have ih:=Aki hl (now:=now) hc hcl hal hv r (i+1) nn h3 (by omega) (by omega) (fun k x hk hx=>by
    by_cases e:k=i
    ·subst e;rw [h2] at hx;cases hx;exact ⟨by omega,by omega⟩
    ·exact hs k x (by omega) hx)
   rw [←ih]
   try unfold Aa
   repeat first
    |((with_reducible first|apply As|apply Ak|apply At|apply Ao|apply Aw|apply Bg|apply O7|apply Aj);· first|with_reducible rfl|(simp (disch:=omega) only [nt,d0,d1,d2,d3,d4,d5,d6,d7,d8,d9,d10,d11,d12,sm,w,Ck]<;>with_reducible rfl))
    |((with_reducible first|apply Ap|apply Ar);· first|with_reducible rfl|omega|(simp (disch:=omega) only [gT,nt,d0,d1,d2,d3,d4,d5,d6,d7,d8,d9,d10,d11,d12,sm,w,Ck]<;>omega))
    |(with_reducible apply Aq;· first|with_reducible rfl|(simp (disch:=omega) only [gF,nt,d0,d1,d2,d3,d4,d5,d6,d7,d8,d9,d10,d11,d12,sm,w,Ck]<;>omega))
   try simp (disch:=omega) only [nt,d0,d1,d2,d3,d4,d5,d6,d7,d8,d9,d10,d11,d12,sm,w,Ck]
   all_goals rfl
end
theorem certificatePaths_plain (qs:List PV)(h:Bk (WTv Tryz.prog) [30,3,54,55,56] qs):∃fu d,Ae C0 Tryz.prog fu d Gm qs=some ⟨[.sc (.bool true)],[]⟩:=by
 obtain ⟨q0,_,rfl,h0,g⟩:=h.cons_inv;obtain ⟨q1,_,rfl,h1,g⟩:=g.cons_inv;obtain ⟨q2,_,rfl,h2,g⟩:=g.cons_inv;obtain ⟨q3,_,rfl,h3,g⟩:=g.cons_inv;obtain ⟨q4,_,rfl,h4,g⟩:=g.cons_inv;obtain rfl:=g.nil_inv;clear h g;obtain ⟨l,rfl,hl,_⟩:=Ahl (k:=.i64) (e:=3) (by kernel_rfl) (by kernel_rfl) (by kernel_rfl) (by kernel_rfl) h0
 obtain ⟨nw,rfl,_⟩:=Al3 (k:=.i64) (by kernel_rfl) (by kernel_rfl) h1
 obtain ⟨cs,rfl,hc⟩:=Ait h2;obtain ⟨ans,rfl⟩:=Akj h3;obtain ⟨vs,rfl⟩:=Air h4;clear h0 h1 h2 h3 h4;refine ⟨2000,19,?_⟩;refine (Ld 2000 18 l.length (Af .i64 l) nw cs.length (B6 cs) ans.length (Fa ans) vs.length (Em vs)).trans ?_;have aw:=JI (d:=3);by_cases b1:(cs.length:Int)>5
 ·skip
  try unfold Aa
  repeat first
   |((with_reducible first|apply As|apply Ak|apply At|apply Ao|apply Aw|apply Bg|apply O7|apply Aj);· first|with_reducible rfl|(simp (disch:=omega) only [aw]<;>with_reducible rfl))
   |((with_reducible first|apply Ap|apply Ar);· first|with_reducible rfl|omega|(simp (disch:=omega) only [gT,aw]<;>omega))
   |(with_reducible apply Aq;· first|with_reducible rfl|(simp (disch:=omega) only [gF,aw]<;>omega))
  try simp (disch:=omega) only [aw]
  all_goals rfl
 by_cases b2:(ans.length:Int)>5
 ·skip
  try unfold Aa
  repeat first
   |((with_reducible first|apply As|apply Ak|apply At|apply Ao|apply Aw|apply Bg|apply O7|apply Aj);· first|with_reducible rfl|(simp (disch:=omega) only [aw]<;>with_reducible rfl))
   |((with_reducible first|apply Ap|apply Ar);· first|with_reducible rfl|omega|(simp (disch:=omega) only [gT,aw]<;>omega))
   |(with_reducible apply Aq;· first|with_reducible rfl|(simp (disch:=omega) only [gF,aw]<;>omega))
  try simp (disch:=omega) only [aw]
  all_goals rfl
 by_cases b3:(vs.length:Int)>10
 ·skip
  try unfold Aa
  repeat first
   |((with_reducible first|apply As|apply Ak|apply At|apply Ao|apply Aw|apply Bg|apply O7|apply Aj);· first|with_reducible rfl|(simp (disch:=omega) only [aw]<;>with_reducible rfl))
   |((with_reducible first|apply Ap|apply Ar);· first|with_reducible rfl|omega|(simp (disch:=omega) only [gT,aw]<;>omega))
   |(with_reducible apply Aq;· first|with_reducible rfl|(simp (disch:=omega) only [gF,aw]<;>omega))
  try simp (disch:=omega) only [aw]
  all_goals rfl
 have lp:=Aki (a0n:=l.length) (a0:=Af .i64 l) (a1:=nw) (a2n:=cs.length) (a2:=B6 cs) (a3n:=ans.length) (a3:=Fa ans) (a4n:=vs.length) (a4:=Em vs) hl (now:=nw) hc (by omega) (ans:=ans) (by omega) (vs:=vs) (by omega) cs 0 2000 rfl (by omega) (by omega) (fun k c hk=>by omega)
 rw [←lp]
 try unfold Aa
 repeat first
  |((with_reducible first|apply As|apply Ak|apply At|apply Ao|apply Aw|apply Bg|apply O7|apply Aj);· first|with_reducible rfl|(simp (disch:=omega) only [aw]<;>with_reducible rfl))
  |((with_reducible first|apply Ap|apply Ar);· first|with_reducible rfl|omega|(simp (disch:=omega) only [gT,aw]<;>omega))
  |(with_reducible apply Aq;· first|with_reducible rfl|(simp (disch:=omega) only [gF,aw]<;>omega))
 try simp (disch:=omega) only [aw]
 all_goals rfl
end
section
open Go.IntKind (wrap)
open Go Go.RowKit
structure JM (Z Z':Nat->Prop) (w w':World):Prop where
 os:w'.os=w.os
 tape:w'.tape=w.tape
 output:w'.output=w.output
 size:w.heap.size<=w'.heap.size
 keep:∀b,b<w.heap.size->¬Z b->w'.heap[b]?=w.heap[b]?
 sub:∀b,Z b->Z' b
 new:∀b,Z' b->Z b∨w.heap.size<=b
 lt:∀b,Z' b->b<w'.heap.size
 bs:∀b,b<w.heap.size->bsz w b<=bsz w' b
structure Ym (Z:Nat->Prop) (w w':World):Prop where
 os:w'.os=w.os
 tape:w'.tape=w.tape
 output:w'.output=w.output
 size:w.heap.size<=w'.heap.size
 same:∀b,Z b->w'.heap[b]?=w.heap[b]?
theorem Ym.sub {Z Z':Nat->Prop}{w w':World}(h:Ym Z w w')(hs:∀b,Z' b->Z b):Ym Z' w w':=⟨h.os,h.tape,h.output,h.size,fun b hb=>h.same b (hs b hb)⟩
def Ano {α:Type}(P:Program)(gf:Nat)(lb:Array Value)(M:List α->α->Array Value->(Nat->Prop)->World->Prop) (S Sp:List α->Prop)(Pre:(Nat->Prop)->World->Prop):Prop:=
 ∀(l:Nat) (J Jx:(Nat->Prop)->List α->World->Prop) (W:World) (Z0:Nat->Prop),(∀b,Z0 b->b<W.heap.size)->Pre Z0 W ->
  (∀Z pre A B,J Z pre A->Ym Z A B->J Z pre B)->(∀Z pre A B,Jx Z pre A->Ym Z A B->Jx Z pre B) ->
  (∀Z pre x args A,J Z pre A->M pre x args Z A->YieldAt Fence.wide 0 P l args A fun e B=>∃Z',JM Z Z' A B ∧
   ((e=.returned (.bool true)∧J Z' (pre++[x]) B)∨(e=.returned (.bool false)∧Jx Z' (pre++[x]) B))) ->
  J Z0 [] W ->
  Calls P gf (#[.func (.yield l) #[] #[]]++lb) W fun e B=>(∃v,e=.returned v)∧∃Z xs,(S xs∧J Z xs B)∨(Sp xs∧Jx Z xs B)
theorem WS {P:Program}{n m l:Nat}{f:FuncId}{tmps:Array Value}{assign body:Code}{w:World}{R:Ending->World->Prop}(h:RoundIn Fence.wide n P l f tmps assign body w R):RoundIn Fence.wide m P l f tmps assign body w R:=
 ⟨h.1,fun c cs _=>h.2 c cs (room_wide _)⟩
def Abc {α:Type}(D:Nat)(I:(Nat->Prop)->List α->World->Prop) (Ix:Code->(Nat->Prop)->List α->World->Prop) (Z:Nat->Prop)(xs:List α)(A:World):Exit->Act->World->Prop:=fun e _ B=>
 ∃Z',JM Z Z' A B∧B.heap[D]?=A.heap[D]?∧B.heap[D+1]?=A.heap[D+1]? ∧
  match e with
  |.normal=>I Z' xs B
  |.ret=>Ix .ret Z' xs B
  |.exit id=>Ix (.exit id) Z' xs B
  |.goto t=>Ix (.goto t) Z' xs B
  |_=>False
theorem Ad5 {α:Type}{P:Program}{n:Nat}{g:Operand}{ps:Array Tmp}{assign body:Code}{Q:Exit->Act->World->Prop}{a:Act}{w:World}{gf:Nat}{lb:Array Value}
  (hg:a.eval g=.func (.func gf) #[] lb) (eg:∀args w,(callFunc gf args).run P w=.ok (.enter gf args) w)
  {M:List α->α->Array Value->(Nat->Prop)->World->Prop} {S Sp:List α->Prop} {Pre:(Nat->Prop)->World->Prop} (hit:Ano P gf lb M S Sp Pre) {Z0:Nat->Prop} (hZ0:∀b,Z0 b->b<w.heap.size)
  (hPre:∀W:World,W.heap.size=w.heap.size+2->(∀b,b<w.heap.size->W.heap[b]?=w.heap[b]?)->Pre (fun b=>Z0 b∨b=w.heap.size∨b=w.heap.size+1) W)
  (hM:∀pre x args Z A B,M pre x args Z A->A.heap.size<=B.heap.size->(∀b,b<A.heap.size->¬Z b->B.heap[b]?=A.heap[b]?)->M pre x args Z B)
  (hps:∀pre x args Z A,M pre x args Z A->args.size=ps.size)
  (I:(Nat->Prop)->List α->World->Prop) (Ix:Code->(Nat->Prop)->List α->World->Prop)
  (hI:∀Z pre A B,I Z pre A->Ym (fun b=>Z b∧b≠w.heap.size∧b≠w.heap.size+1) A B->I Z pre B)
  (hIx:∀c Z pre A B,Ix c Z pre A->Ym (fun b=>Z b∧b≠w.heap.size∧b≠w.heap.size+1) A B->Ix c Z pre B)
  (h0:∀W,W.heap.size=w.heap.size+2->Ym (fun b=>b<w.heap.size) w W->I (fun b=>Z0 b∨b=w.heap.size∨b=w.heap.size+1) [] W)
  (a₁:Array Value->Act)
  (hassign:∀pre x args Z A (K:Act->World->Prop),M pre x args Z A->K (a₁ args) A->assign.wpIn (Fence.wide.inRound (w.heap.size+1)) 0 P (Exit.then K (fun _ _ _=>False)) { tmps:=(ps.zip args).foldl (fun t (p,v)=>t.setIfInBounds p v) a.tmps,defers:=[] } A)
  (hbody:∀Z pre x args A,Z w.heap.size->Z (w.heap.size+1)->I Z pre A->M pre x args Z A->body.wpIn (Fence.wide.inRound (w.heap.size+1)) 0 P (Abc w.heap.size I Ix Z (pre++[x]) A) (a₁ args) A)
  (hdone:∀Z xs B,S xs->I Z xs B->B.heap[w.heap.size]?=some (.deferred (some []))->Q .normal { a with defers:={ target:=.collected w.heap.size,args:= #[] }::a.defers } B)
  (hstop:∀c Z xs B,Sp xs->Ix c Z xs B->B.heap[w.heap.size]?=some (.deferred (some []))->c.wpIn Fence.wide n P Q { a with defers:={ target:=.collected w.heap.size,args:= #[] }::a.defers } B):
  (Code.rangeFunc g ps assign body).wpIn Fence.wide n P Q a w:=by
 refine wpIn_rangeFunc ?_;intro fn hfn;obtain ⟨rec,hrec⟩:∃rec:LoopState->Option Code->Loop,rec=fun st pe=>{ state:=st,pending:=pe,fn,tmps:=a.tmps,params:=ps,assign,body,defers:=w.heap.size }:=⟨_,rfl⟩
 obtain ⟨D,hD⟩:∃D,w.heap.size=D:=⟨_,rfl⟩;rw [hD] at hI hIx h0 hassign hbody hdone hstop hZ0 hPre;obtain ⟨W1,hW1⟩:∃W1,(w.alloc (.deferred (some []))).alloc (.loop (rec .ready none))=W1:=⟨_,rfl⟩;have hs1:W1.heap.size=D+2:=by rw [←hW1,World.size_alloc,World.size_alloc,hD]
 have hL1:W1.heap[D+1]?=some (.loop (rec .ready none)):=by
  rw [←hW1,←hD];have:=World.alloc_heap_new (w.alloc (.deferred (some []))) (.loop (rec .ready none));rwa [World.size_alloc] at this
 have hK1:W1.heap[D]?=some (.deferred (some [])):=by
  rw [←hW1,←hD];exact (Below.heap_alloc _ _ _ (by simp)).trans (World.alloc_heap_new w _)
 have hst:Ym (fun b=>b<D) w W1:=by
  rw [←hW1,←hD];exact ⟨rfl,rfl,rfl,by simp;omega,fun b hb=>(Below.heap_alloc _ _ _ (by simp;omega)).trans (Below.heap_alloc _ _ _ hb)⟩
 refine ⟨D+1,[{ target:=.collected D,args:= #[] }],W1,{ target:=.fn (.func gf) lb,args:= #[.func (.yield (D+1)) #[] #[]] },W1,gf,
  #[.func (.yield (D+1)) #[] #[]]++lb,W1,?_,?_,fun _ _=>trivial,?_,(fun h=>by cases h),?_⟩
 ·rw [←hW1,hrec,←hD];exact run_enterLoop_outer _ _ _ _ _
 ·simp only [resolve,hg];simp [go_sem]
 ·simp [invoke,go_sem,eg]
 ·have put:∀{Z:Nat->Prop} {A:World} (o:Obj),Ym (fun b=>Z b∧b≠D∧b≠D+1) A (A.putObj (D+1) o):=fun o=>
   ⟨rfl,rfl,rfl,by simp,fun b hb=>World.putObj_heap_other hb.2.2⟩
  refine callsIn_wide.2 (Calls.mono (hit (D+1)
   (fun Z pre A=>(Z D∧Z (D+1))∧I Z pre A∧A.heap[D+1]?=some (.loop (rec .ready none))∧A.heap[D]?=some (.deferred (some [])))
   (fun Z pre A=>(Z D∧Z (D+1))∧∃c,Ix c Z pre A∧A.heap[D+1]?=some (.loop (rec .done (some c)))∧A.heap[D]?=some (.deferred (some [])))
   W1 (fun b=>Z0 b∨b=D∨b=D+1) (fun b hb=>by rw [hs1];exact hb.elim (fun h=>by have:=hZ0 b h;omega) fun h=>by omega) (hPre W1 hs1 (fun b hb=>hst.same b hb)) ?_ ?_ ?_ ?_) ?_)
  ·rintro Z pre A B ⟨hz,hi,hl,hk⟩ hs
   exact ⟨hz,hI Z pre A B hi (hs.sub fun _ h=>h.1),(hs.same _ hz.2).trans hl,(hs.same _ hz.1).trans hk⟩
  ·rintro Z pre A B ⟨hz,c,hi,hl,hk⟩ hs
   exact ⟨hz,c,hIx c Z pre A B hi (hs.sub fun _ h=>h.1),(hs.same _ hz.2).trans hl,(hs.same _ hz.1).trans hk⟩
  ·rintro Z pre x args A ⟨hz,hi,hl,hk⟩ hm
   have hlt:D+1<A.heap.size:=(Array.getElem?_eq_some_iff.1 hl).1;have hy:=run_yield (P:=P) (args:=args) hl (by rw [hrec];exact hps pre x args Z A hm)
   rw [hrec] at hy;refine ⟨fn,_,assign,body,hy,roundIn_of_wpIn hfn (hassign pre x args Z A _ hm ?_)⟩;refine ⟨_,run_beginRound hl (by rw [hrec]),?_⟩
   obtain ⟨A2,hA2⟩:∃A2,A.putObj (D+1) (.loop { rec .ready none with state:=.busy })=A2:=⟨_,rfl⟩;rw [hA2];have hl2:A2.heap[D+1]?=some (.loop { rec .ready none with state:=.busy }):=by rw [←hA2];exact World.putObj_heap_same hlt
   have hk2:A2.heap[D]?=some (.deferred (some [])):=by rw [←hA2];exact (World.putObj_heap_other (by omega)).trans hk
   have hz2:A2.heap.size=A.heap.size:=by rw [←hA2];simp
   have hi2:I Z pre A2:=by rw [←hA2];exact hI Z pre A _ hi (put _)
   have hm2:M pre x args Z A2:=by
    rw [←hA2];exact hM pre x args Z A _ hm (by simp) fun b _ hb=>World.putObj_heap_other fun e=>hb (e ▸ hz.2)
   refine wpIn_mono (hbody Z pre x args A2 hz.1 hz.2 hi2 hm2) ?_
   have fin:∀(jump:Option Code) (W3:World) (Z':Nat->Prop),JM Z Z' A2 W3->W3.heap[D]?=A2.heap[D]?->W3.heap[D+1]?=A2.heap[D+1]? ->
     (Instr.endRound (D+1) jump).run P W3=.ok (.bool jump.isNone) (W3.putObj (D+1) (.loop (rec (if jump.isNone then .ready else .done) jump))) ∧
     (W3.putObj (D+1) (.loop (rec (if jump.isNone then .ready else .done) jump))).heap[D+1]?=some (.loop (rec (if jump.isNone then .ready else .done) jump)) ∧
     (W3.putObj (D+1) (.loop (rec (if jump.isNone then .ready else .done) jump))).heap[D]?=some (.deferred (some [])) ∧
     JM Z Z' A (W3.putObj (D+1) (.loop (rec (if jump.isNone then .ready else .done) jump))):=fun jump W3 Z' ht e1 e2=>by
    have hl3:=e2.trans hl2;have:=run_endRound (P:=P) jump hl3;rw [hrec] at this ⊢;refine ⟨this,World.putObj_heap_same (Array.getElem?_eq_some_iff.1 hl3).1,(World.putObj_heap_other (by omega)).trans (e1.trans hk2),?_⟩
    have hA:A2.os=A.os∧A2.tape=A.tape∧A2.output=A.output:=by rw [←hA2];exact ⟨rfl,rfl,rfl⟩
    refine ⟨ht.os.trans hA.1,ht.tape.trans hA.2.1,ht.output.trans hA.2.2,by have:=ht.size;simp;omega,fun b hb hn=>?_,ht.sub,fun b hb=>by have:=ht.new b hb;rw [hz2] at this;exact this,fun b hb=>by simpa using ht.lt b hb,fun b hb=>?_⟩
    ·have hne:b≠D+1:=fun e=>hn (e ▸ hz.2)
     rw [World.putObj_heap_other hne,ht.keep b (by omega) hn,←hA2,World.putObj_heap_other hne]
    ·by_cases hne:b=D+1
     ·subst hne;unfold bsz;rw [hl];exact Nat.zero_le _
     ·have h5:=ht.bs b (by omega)
      have h6:bsz A2 b=bsz A b:=by unfold bsz;rw [←hA2,World.putObj_heap_other hne]
      have h7:∀o,bsz (W3.putObj (D+1) o) b=bsz W3 b:=fun o=>by unfold bsz;rw [World.putObj_heap_other hne]
      rw [h7,←h6];exact h5
   rintro e a3 W3 ⟨Z',ht,e1,e2,hp⟩
   cases e with
   |normal=>
    obtain ⟨hr,hl4,hk4,ht4⟩:=fin none W3 Z' ht e1 e2;exact ⟨_,_,hr,Z',ht4,.inl ⟨rfl,⟨ht.sub _ hz.1,ht.sub _ hz.2⟩,hI Z' _ _ _ hp (put _),hl4,hk4⟩⟩
   |ret=>
    obtain ⟨hr,hl4,hk4,ht4⟩:=fin (some .ret) W3 Z' ht e1 e2;exact ⟨_,_,hr,Z',ht4,.inr ⟨rfl,⟨ht.sub _ hz.1,ht.sub _ hz.2⟩,.ret,hIx _ Z' _ _ _ hp (put _),hl4,hk4⟩⟩
   |exit id=>
    obtain ⟨hr,hl4,hk4,ht4⟩:=fin (some (.exit id)) W3 Z' ht e1 e2;exact ⟨_,_,hr,Z',ht4,.inr ⟨rfl,⟨ht.sub _ hz.1,ht.sub _ hz.2⟩,.exit id,hIx _ Z' _ _ _ hp (put _),hl4,hk4⟩⟩
   |goto t=>
    obtain ⟨hr,hl4,hk4,ht4⟩:=fin (some (.goto t)) W3 Z' ht e1 e2;exact ⟨_,_,hr,Z',ht4,.inr ⟨rfl,⟨ht.sub _ hz.1,ht.sub _ hz.2⟩,.goto t,hIx _ Z' _ _ _ hp (put _),hl4,hk4⟩⟩
   |panic ch=>exact hp.elim
   |outgrown=>exact hp.elim
  ·exact ⟨⟨.inr (.inl rfl),.inr (.inr rfl)⟩,h0 W1 hs1 hst,hL1,hK1⟩
  ·rintro e W2 ⟨⟨v,rfl⟩,Z,xs,(⟨hS,hz,hi,hl,hk⟩|⟨hSp,hz,c,hi,hl,hk⟩)⟩
   ·exact ⟨none,_,by have:=run_endLoop (P:=P) hl (by rw [hrec];simp);rw [hrec] at this;exact this,hdone Z xs _ hS (hI Z _ _ _ hi (put _)) ((World.putObj_heap_other (by omega)).trans hk)⟩
   ·exact ⟨some c,_,by have:=run_endLoop (P:=P) hl (by rw [hrec];simp);rw [hrec] at this;exact this,hstop c Z xs _ hSp (hIx c Z _ _ _ hi (put _)) ((World.putObj_heap_other (by omega)).trans hk)⟩
def Alb (s:St)(β:Bt):Fh:={ X:=BV s.hp β,L:=fun b _=>BV s.hp β b,pn:=fun _=>False,pt:=fun _=>none,p8:=fun _ h=>h.elim }
theorem B4.rebase {N:Nat}{w0 w w':World}{X0:Fh}{Y Z':Nat->Prop}{β:Bt}{s:St}{a:Act}(h:B4 N w0 X0 Y β s a w)(ht:JM Y Z' w w')(hns:∀id c,s.hp id≠some (.st c)):B4 N w' (Alb s β) Z' β s a w':=by
 have hW:Cb (C1 s.hp β Y) w w':=⟨ht.size,fun b hb hn=>ht.keep b hb fun y=>hn (.inr y),ht.bs⟩
 have hA:∀b,b<w.heap.size->C1 s.hp β Z' b->C1 s.hp β Y b:=by
  rintro b hb (hx|hz)
  ·exact .inl hx
  ·rcases ht.new b hz with h1|h1
   ·exact .inr h1
   ·omega
 have hsame:∀b,b<w.heap.size->¬Y b->w'.heap[b]?=w.heap[b]?:=ht.keep
 refine ⟨h.dfr,h.tsz,h.tmo,fun i hi=>(h.tms i hi).step hW hA fun _ _=>rfl,fun id bx hbx=>?_,h.inj,fun id b o h1 h2=>Nat.lt_of_lt_of_le (h.blt id b o h1 h2) ht.size,h.wfT,h.wfB,fun b hb=>.inl hb,
  fun id bx b o h1 h2 h3 _ j _=>⟨id,o,by rw [h1];exact h2,h3⟩,fun i hi=>hi.elim,fun id c b o h1=>absurd h1 (hns id c),fun b hz=>?_,ht.lt,⟨rfl,rfl,rfl,⟨Nat.le_refl _,fun _ _ _=>rfl,fun _ _=>Nat.le_refl _⟩,fun _ _ _ _=>⟨rfl,rfl⟩⟩⟩
 ·cases bx with
  |st c=>exact absurd hbx (hns id c)
  |mv=>trivial
  |ar fz cells=>
   rcases h.box id _ hbx with h1|⟨b,o,h1,h2,h3,h4⟩
   ·exact .inl h1
   ·have hlt:b<w.heap.size:=h.blt id b o (by rw [hbx];simp) h1
    have hnY:¬Y b:=by
     cases fz with
     |false=>exact fun y=>h.Yx b y ⟨id,o,by rw [hbx];trivial,h1⟩
     |true=>exact fun y=>h4 rfl (.inr y)
    have hh:=hsame b hlt hnY;have hb':bsz w' b=bsz w b:=by unfold bsz;rw [hh]
    refine .inr ⟨b,o,h1,fun j c hj=>?_,fun hf j hj hjb=>?_,fun hf=>fun hA'=>h4 hf (hA b hlt hA')⟩
    ·obtain ⟨v,hv,hv1,hv2⟩:=h2 j c hj;exact ⟨v,(World.cell?_of_block (a:=(⟨b,o,none⟩:Addr).add j) (by rw [F8];exact hh)).trans hv,hv1,hv2.step hW hA⟩
    ·rw [hb'] at hjb;have:=h3 hf j hj hjb;rw [←this];unfold World.frozen?;simp only [hh]
 ·rintro ⟨id,o,h1,h2⟩
  have hlt:b<w.heap.size:=h.blt id b o (C2 h1) h2;rcases ht.new b hz with h3|h3
  ·exact h.Yx b h3 ⟨id,o,h1,h2⟩
  ·omega
theorem B4.stay {N:Nat}{w0 w:World}{X0:Fh}{Y:Nat->Prop}{β:Bt}{s:St}{a:Act}(h:B4 N w0 X0 Y β s a w)(hd:∀b,Y b->¬X0.X b):Ym Y w0 w:=
 ⟨h.fr.os,h.fr.tape,h.fr.output,h.fr.step.size,fun b hb=>h.fr.step.keep b (h.Ylt b hb) (hd b hb)⟩
end
section
open Go.IntKind (wrap)
open Go Go.RowKit
abbrev WF (ro:Option Nat):Fence:={ fn:=fun _=>True,depth:=none,alive:=false,round:=ro }
def SS (o:Oper):Bool:=
 match o.op with
 |.defer _=>false
 |_=>true
def okR:Code->Bool
 |.region _ ops _=>ops.toList.all SS
 |.seq a b=>okR a&&okR b
 |.cond _ a b=>okR a&&okR b
 |.block _ c=>okR c
 |.loop c=>okR c
 |.skip=>true
 |.exit _=>true
 |.ret=>true
 |_=>false
theorem CP {P:Program}{o:Oper}{a:Act}{w:World}{next:Act->World->Prop}{Q:Exit->Act->World->Prop}{ro:Option Nat}{n:Nat}(hd:SS o=true)(h:o.wp P a w next Q):o.wpIn (WF ro) n P a w next Q:=by
 refine ⟨fun _ _=>trivial,?_⟩
 have e:o.semAt (WF ro).round a.eval=execOp a.eval o:=Oper.semAt_eq _ _ _ (by intro c hc;unfold SS at hd;rw [hc] at hd;cases hd)
 rw [e];unfold Oper.wp at h
 revert h
 generalize (execOp a.eval o).run P w=q;intro h;cases q with
 |halt x w'=>cases x<;>first|exact h|exact h.elim
 |ok v w'=>
  cases v with
  |value v=>exact h
  |skip=>exact h
  |defer d=>exact h
  |enter f args=>exact ⟨(fun h=>by cases h),(callsIn_wide.2 h:CallsIn Fence.wide (n-1) P f args w' _)⟩
  |row row args=>exact ⟨(fun h=>by cases h),fun c cs _=>let ⟨v,w',r,s⟩:=h c cs;⟨v,w',r,stepsIn_wide.2 s⟩⟩
  |_=>exact h.elim
theorem SU {P:Program}{ops:Array Oper}{Q:Exit->Act->World->Prop}{K K':Act->World->Prop}{ro:Option Nat}{i n:Nat}{a:Act}{w:World}(hQo:¬LetsOut Q)(hnd:ops.toList.all SS=true)(hK:∀a w,K a w->K' a w)(h:wpOp P ops Q i K a w):wpOpIn (WF ro) n P ops Q i K' a w:=by
 unfold wpOp at h;unfold wpOpIn;cases ho:ops[i]? with
 |none=>rw [ho] at h;exact hK _ _ h
 |some o=>
  rw [ho] at h;simp only at h ⊢;have hn:SS o=true:=List.all_eq_true.1 hnd o (Array.mem_toList_iff.2 (Array.mem_of_getElem? ho));by_cases hw:Region.wanted o (yielded ops a.tmps)=true
  ·rw [Bu hw] at h ⊢;rcases h with h|h
   ·exact CP hn (Oper.wp_mono hK h)
   ·exact absurd h.2 hQo
  ·rw [A5 hw] at h ⊢;exact ⟨fun _ _=>trivial,hK _ _ h⟩
theorem R2 {P:Program}{ops:Array Oper}{Q:Exit->Act->World->Prop}{ro:Option Nat}{n:Nat}{md:Region.Mode}(hQo:¬LetsOut Q)(hnd:ops.toList.all SS=true):∀(fuel:Nat)(listed:Array Bool)(a:Act)(w:World),wpAny P md ops Q fuel listed a w->wpAnyIn (WF ro) n P md ops Q fuel listed a w
 |0,_,_,_,h=>h
 |fuel+1,_,_,_,h=>⟨h.1,fun i hi=>SU hQo hnd (fun a w=>R2 hQo hnd fuel _ a w) (h.2 i hi)⟩
section
variable {P:Program} {C:Hs} {N:Nat} {call:Ah} {w0:World} {X0:Fh} {Y:Nat->Prop} {R:Type} {r:R} {β:Bt} {s:St} {a:Act} {w:World} {o:Oper} {ops:Array Oper} {K:St->Option R} {ro:Option Nat} {n:Nat}
theorem HO (h:B4 N w0 X0 Y β s a w){G:Vq}(hNG:IM P G w0 X0)(hcall:∀f args res,call f args=some res->C9 G P f args res)(hnd:SS o=true)(hk:Du C P N call ops o s K=some r):
  ∃s',K s'=some r∧∀(next:Act->World->Prop) (Q:Exit->Act->World->Prop),(∀a' w' β',B4 N w0 X0 Y β' s' a' w'->next a' w') ->
   if Region.wanted o (yielded ops a.tmps) then o.wpIn (WF ro) n P a w next Q else (∀f,o.about P w a.eval=some f->(WF ro).fn f)∧next (a.put o.dst undef) w:=by
 rw [JA] at hk
 have hw:∀b,Gy ops o s.tm=some b->Region.wanted o (yielded ops a.tmps)=b:=by
  intro b hb;unfold Gy at hb;unfold Region.wanted;cases hg:o.guard with
  |none=>rw [hg] at hb;simpa using hb
  |some q=>
   obtain ⟨j,want⟩:=q;rw [hg] at hb;simp only at hb ⊢;cases hd:(ops[j]?).bind (·.dst) with
   |none=>rw [hd] at hb;cases hb
   |some d=>
    rw [hd] at hb;simp only at hb;split at hb
    ·rename_i b' ht;rw [Ud h hd ht];simp at hb;rw [←hb];cases b'<;>cases want<;>rfl
    ·rename_i ht;rw [Ud h hd ht];simp at hb;rw [hb];rfl
    ·cases hb
 split at hk
 ·cases hk
 ·rename_i hv;obtain ⟨s',hs',hn⟩:=KM h hNG hcall hk;refine ⟨s',hs',fun next Q hnext=>?_⟩
  simp only [hw _ hv,if_true];exact CP hnd (hn next Q hnext)
 ·rename_i hv;obtain ⟨hd,hk⟩:=Ax hk;refine ⟨_,hk,fun next Q hnext=>?_⟩
  simp only [hw _ hv];exact ⟨fun _ _=>trivial,hnext _ _ β (h.put hd (A7.sc _) (by simp [Bx,Cf,Ay]))⟩
theorem Yy {G:Vq}(hNG:IM P G w0 X0)(hcall:∀f args res,call f args=some res->C9 G P f args res){Q:Exit->Act->World->Prop}(hQ:∀s' a' w' β',K s'=some r->B4 N w0 X0 Y β' s' a' w'->Q .normal a' w'):
  ∀(li:List Nat) (os:List Oper),li.length=os.length->(∀(k i:Nat),li[k]?=some i->ops[i]?=os[k]?)->os.all SS=true->∀{s:St} {a:Act} {w:World} {β:Bt},B4 N w0 X0 Y β s a w->Nx C P N call ops os s K=some r->wpOpsIn (WF ro) n P ops Q li a w
 |[],[],_,_,_,s,a,w,β,h,hk=>by
  show Q .normal a w;exact hQ s a w β hk h
 |[],_::_,hl,_,_,_,_,_,_,_,_=>by cases hl
 |_::_,[],hl,_,_,_,_,_,_,_,_=>by cases hl
 |i::li,o::os,hl,hi,hnd,s,a,w,β,h,hk=>by
  obtain ⟨s1,hk,h⟩:=Tt h hk;rw [List.all_cons,Bool.and_eq_true] at hnd;have hio:ops[i]?=some o:=by simpa using hi 0 i rfl
  obtain ⟨s',hs',hn⟩:=HO (ro:=ro) (n:=n) h hNG hcall hnd.1 hk;unfold wpOpsIn;rw [hio];exact hn _ _ fun a' w' β' h'=>Yy hNG hcall hQ li os (by simpa using hl) (fun k j hj=>by simpa using hi (k+1) j (by simpa using hj)) hnd.2 h' hs'
theorem GP {c:Code}{Q:Exit->Act->World->Prop}{F:(St->Option R)->St->Option R} {nm:St->(St->Option R)->Option R}
  (hnm:∀{β s a w} {K:St->Option R},B4 N w0 X0 Y β s a w->nm s K=some r->∃β' s',K s'=some r∧B4 N w0 X0 Y β' s' a w)
  (hF:∀{β s a w} {K:St->Option R}{Q':Act->World->Prop},B4 N w0 X0 Y β s a w->F K s=some r->(∀s' a' w' β',K s'=some r->B4 N w0 X0 Y β' s' a' w'->Q' a' w')->c.wpIn (WF ro) n P (Exit.then Q' Q) a w):
  ∀(m:Nat) {β s a w},B4 N w0 X0 Y β s a w->WC F nm m s=some r->Code.roundsIn (WF ro) n P c Q m a w
 |0,_,_,_,_,_,hk=>by cases hk
 |m+1,β,s,a,w,h,hk=>by
  rw [roundsIn_succ];refine hF h hk fun s' a' w' β' hk' h'=>?_
  obtain ⟨β1,s1,hk1,h1⟩:=hnm h' hk';exact GP hnm hF m h1 hk1
theorem YM {G:Vq}(hNG:IM P G w0 X0)(hcall:∀f args res,call f args=some res->C9 G P f args res)(hm:P.follows .mixedOrders=true){fu:Nat}:
  ∀(c:Code),okR c=true->∀{ln:Nat} {lx:Nat->Nat} {lr:Nat} {kn:St->Option R} {kx:Nat->St->Option R} {kr:St->Option R} {β:Bt} {s:St} {a:Act} {w:World} {Q:Exit->Act->World->Prop},(∀a w,¬Q .outgrown a w)->B4 N w0 X0 Y β s a w ->
   Lf C P fu N call c ln lx lr kn kx kr s=some r->(∀s' a' w' β',kn s'=some r->B4 N w0 X0 Y β' s' a' w'->Q .normal a' w') ->
   (∀id s' a' w' β',kx id s'=some r->B4 N w0 X0 Y β' s' a' w'->Q (.exit id) a' w')->(∀s' a' w' β',kr s'=some r->B4 N w0 X0 Y β' s' a' w'->Q .ret a' w')->c.wpIn (WF ro) n P Q a w:=by
 intro c
 induction c with
 |skip=>intro _ ln lx lr kn kx kr β s a w Q hQo h hk hn hx hr;exact wpIn_skip (hn s a w β hk h)
 |region id ops draw=>
  intro ho ln lx lr kn kx kr β s a w Q hQo h hk hn hx hr;unfold okR at ho;unfold Lf at hk;cases draw
  ·simp only [OB,Bool.false_and,cond_false] at hk;refine wpIn_region (Yy hNG hcall hn (List.range ops.size) ops.toList (by simp) (fun k i hi=>?_) ho h hk)
   rw [List.getElem?_range] at hi
   ·simp at hi;subst hi;simp
   ·rcases Nat.lt_or_ge k ops.size with h'|h'
    ·exact h'
    ·rw [List.getElem?_eq_none (by simpa using h')] at hi;cases hi
  ·have hLo:¬LetsOut Q:=fun ⟨a,w,q⟩=>hQo a w q
   simp only [OB,Ajw,Bool.true_and,cond_true] at hk;cases hb:JF C P ops<;>rw [hb] at hk
   ·obtain ⟨hb',hk1⟩:=Ax (show Au _ _=some r from hk)
    exact wpIn_region_any hm (R2 hLo ho _ _ _ _ (Uz h hNG hcall hm hb' hk1 hn))
   ·exact wpIn_region_any hm (R2 hLo ho _ _ _ _ (S1 h hNG hcall hm hb hk hn))
 |seq c1 c2 ih1 ih2=>
  intro ho ln lx lr kn kx kr β s a w Q hQo h hk hn hx hr;unfold okR at ho;rw [Bool.and_eq_true] at ho;unfold Lf at hk
  refine wpIn_seq (ih1 ho.1 (fun a w=>hQo a w) h hk (fun s' a' w' β' hk' h'=>by
    cases hc:Acw P c1 c2
    ·rw [hc] at hk';exact ih2 ho.2 hQo h' hk' hn hx hr
    ·rw [hc] at hk';cases hq:CR c1 c2
     ·rw [hq] at hk';obtain ⟨β1,s1,hk1,h1⟩:=Do h' (show Lo _ _ _ _=some r from hk')
      exact ih2 ho.2 hQo h1 (Xf hk1) hn hx hr
     ·rw [hq] at hk';obtain ⟨β1,s1,hk1,h1⟩:=GY h' (show ZH _ _ _ _=some r from hk')
      exact ih2 ho.2 hQo h1 (Xf hk1) hn hx hr) (fun id s' a' w' β' hk' h'=>hx id s' a' w' β' hk' h') (fun s' a' w' β' hk' h'=>hr s' a' w' β' hk' h'))
 |cond c c1 c2 ih1 ih2=>
  intro ho ln lx lr kn kx kr β s a w Q hQo h hk hn hx hr;unfold okR at ho;rw [Bool.and_eq_true] at ho;unfold Lf at hk;rcases GO h hk with ⟨hc,hk1⟩|⟨hc,hk1⟩
  ·exact wpIn_cond_true hc (ih1 ho.1 hQo h hk1 hn hx hr)
  ·exact wpIn_cond_false hc (ih2 ho.2 hQo h hk1 hn hx hr)
 |block id c ih=>
  intro ho ln lx lr kn kx kr β s a w Q hQo h hk hn hx hr;unfold okR at ho;unfold Lf at hk;refine wpIn_block (ih ho (fun a w=>hQo a w) h hk (fun s' a' w' β' hk' h'=>hn s' a' w' β' hk' h') (fun j s' a' w' β' hk' h'=>?_) (fun s' a' w' β' hk' h'=>hr s' a' w' β' hk' h'))
  show (if j=id then _ else _)
  by_cases e:j=id
  ·subst e;rw [Bu rfl];rw [Nat.beq_refl] at hk';exact hn s' a' w' β' hk' h'
  ·rw [A5 e]
   have:Nat.beq j id=false:=by
    cases hb:Nat.beq j id
    ·rfl
    ·exact absurd (Nat.eq_of_beq_eq_true hb) e
   rw [this] at hk';exact hx j s' a' w' β' hk' h'
 |loop c ih=>
  intro ho ln lx lr kn kx kr β s a w Q hQo h hk hn hx hr;unfold okR at ho;unfold Lf at hk;obtain ⟨β1,s1,hk1,h1⟩:=Do h hk;refine wpIn_loop_rounds fu (GP (fun h hk=>Do h hk) (fun h hk hQ=>?_) fu h1 hk1)
  exact ih ho (fun a w=>hQo a w) h hk hQ (fun id s' a' w' β' hk' h'=>hx id s' a' w' β' hk' h') (fun s' a' w' β' hk' h'=>hr s' a' w' β' hk' h')
 |«exit» id=>intro _ ln lx lr kn kx kr β s a w Q hQo h hk hn hx hr;exact wpIn_exit (hx id s a w β hk h)
 |ret=>intro _ ln lx lr kn kx kr β s a w Q hQo h hk hn hx hr;exact wpIn_ret (hr s a w β hk h)
 |_=>intro ho;cases ho
end
end
section
open Go.IntKind (wrap)
open Go Go.RowKit
theorem O2:∀(l:List (Nat × PV)) (i:Nat),lk l i=.top∨∃q∈l,q.1=i∧lk l i=q.2
 |[],_=>.inl rfl
 |(j,p)::l,i=>by
  by_cases e:i=j
  ·subst e;refine .inr ⟨(i,p),by simp,rfl,?_⟩
   simp [lk,Nat.beq_refl]
  ·have hb:Nat.beq i j=false:=by
    cases h:Nat.beq i j
    ·rfl
    ·exact absurd (Nat.eq_of_beq_eq_true h) e
   have hb':Nat.beq j i=false:=by
    cases h:Nat.beq j i
    ·rfl
    ·exact absurd (Nat.eq_of_beq_eq_true h).symm e
   have h1:lk ((j,p)::l) i=lk l i:=by simp [lk,hb,hb']
   rw [h1];rcases O2 l i with h|⟨q,hq,h2,h3⟩
   ·exact .inl h
   ·exact .inr ⟨q,List.mem_cons_of_mem _ hq,h2,h3⟩
theorem Tj:∀(l:List (Nat × Bn)) (i:Nat),B7 l i=none∨∃q∈l,q.1=i∧B7 l i=some q.2
 |[],_=>.inl rfl
 |(j,p)::l,i=>by
  by_cases e:i=j
  ·subst e;refine .inr ⟨(i,p),by simp,rfl,?_⟩
   simp [B7,Nat.beq_refl]
  ·have hb:Nat.beq i j=false:=by
    cases h:Nat.beq i j
    ·rfl
    ·exact absurd (Nat.eq_of_beq_eq_true h) e
   have hb':Nat.beq j i=false:=by
    cases h:Nat.beq j i
    ·rfl
    ·exact absurd (Nat.eq_of_beq_eq_true h).symm e
   have h1:B7 ((j,p)::l) i=B7 l i:=by simp [B7,hb,hb']
   rw [h1];rcases Tj l i with h|⟨q,hq,h2,h3⟩
   ·exact .inl h
   ·exact .inr ⟨q,List.mem_cons_of_mem _ hq,h2,h3⟩
theorem Ae1 {P:Program}{a:Act}{w:World}{o:Oper}{c:Call}{t l:Nat}(ho:o.op=.call c)(hc:c.callee=.value (.tmp t)) (ht:a.eval (.tmp t)=.func (.yield l) #[] #[]) {r:Result Next}(hy:(Instr.yield l (c.args.map a.eval)).run P w=r):
  (execOp a.eval o).run P w=r:=by
 unfold execOp;rw [ho];simp [resolve,hc,ht,Deferred.ofValue,invoke,hy]
section
variable {P:Program} {C:Hs} {N:Nat} {call:Ah} {w0:World} {X0:Fh} {Y:Nat->Prop} {R:Type} {r:R} {β:Bt} {s:St} {a:Act} {w:World} {o:Oper} {ops:Array Oper} {K:St->Option R} {ro:Option Nat} {n:Nat}
theorem B4.part (h:B4 N w0 X0 Y β s a w)(tm':Nat->PV)(hp':Nat->Option Bn)(ht:∀i,tm' i=.top∨tm' i=s.tm i)(hh:∀id,hp' id=none∨hp' id=s.hp id)
  (hw:∀i,i<N->∀id∈Bx (tm' i),hp' id≠none) (hwB:∀id cells,hp' id=some (.st cells)->∀c∈cells,∀id'∈Ay c,hp' id'≠none) (hpin:∀i,X0.pn i->hp' (C6 N i)≠none):B4 N w0 X0 Y β ⟨tm',hp'⟩ a w:=by
 have hX:∀b,BV hp' β b->BV s.hp β b:=by
  rintro b ⟨id,o,h1,h2⟩
  rcases hh id with e|e
  ·rw [e] at h1;exact h1.elim
  ·rw [e] at h1;exact ⟨id,o,h1,h2⟩
 have hA:∀b,C1 hp' β Y b->C1 s.hp β Y b:=fun b hb=>hb.elim (fun x=>.inl (hX b x)) .inr
 have hs:∀{id bx},hp' id=some bx->s.hp id=some bx:=by
  intro id bx e;rcases hh id with e'|e'
  ·rw [e'] at e;cases e
  ·rw [←e'];exact e
 have hn:∀{id},hp' id≠none->s.hp id≠none:=by
  intro id e;rcases hh id with e'|e'
  ·exact absurd e' e
  ·rw [←e'];exact e
 have hl:∀{id},Cg (hp' id)->Cg (s.hp id):=by
  intro id e;rcases hh id with e'|e'
  ·rw [e'] at e;exact e.elim
  ·rw [←e'];exact e
 have hst:Cb (C1 s.hp β Y) w w:=⟨Nat.le_refl _,fun _ _ _=>rfl,fun _ _=>Nat.le_refl _⟩
 refine ⟨h.dfr,h.tsz,fun i hi=>?_,fun i hi=>?_,fun id bx hbx=>?_,fun id id' b o o' h1 h2=>h.inj id id' b o o' (hl h1) (hl h2),fun id b o h1 h2=>h.blt id b o (hn h1) h2,hw,hwB,fun b hb=>h.ownd b (hX b hb),fun id bx b o h1 h2 h3 h4=>h.rngB id bx b o (hs h1) h2 h3 h4,
  fun i hi=>⟨hpin i hi,(h.pin i hi).2⟩,fun id c b o h1=>h.stp id c b o (hs h1),fun b hy hx=>h.Yx b hy (hX b hx),h.Ylt,h.fr⟩
 ·rcases ht i with e|e
  ·exact e
  ·exact e.trans (h.tmo i hi)
 ·show Dx w (C1 hp' β Y) β (tm' i) _;rcases ht i with e|e
  ·rw [e];exact A7.top _
  ·rw [e];exact (h.tms i hi).step hst (fun b _=>hA b) fun _ _=>rfl
 ·have h0:=h.box id bx (hs hbx);exact h0.step' hA
theorem B4.pick (h:B4 N w0 X0 Y β s a w)(l:List (Nat × PV)) (bl:List (Nat × Bn)) (hl:∀q∈l,q.2=s.tm q.1)(hb:∀q∈bl,some q.2=s.hp q.1)
  (hw:∀q∈l,∀id∈Bx q.2,B7 bl id≠none)(hwB:∀q∈bl,∀cells,q.2=.st cells->∀c∈cells,∀id'∈Ay c,B7 bl id'≠none)(hpin:∀i,X0.pn i->B7 bl (C6 N i)≠none):B4 N w0 X0 Y β ⟨lk l,B7 bl⟩ a w:=by
 refine h.part (lk l) (B7 bl) (fun i=>?_) (fun id=>?_) (fun i _ id hid=>?_) (fun id cells e=>?_) hpin
 ·rcases O2 l i with e|⟨q,hq,h1,h2⟩
  ·exact .inl e
  ·exact .inr (by rw [h2,hl q hq,h1])
 ·rcases Tj bl id with e|⟨q,hq,h1,h2⟩
  ·exact .inl e
  ·exact .inr (by rw [h2,hb q hq,h1])
 ·rcases O2 l i with e|⟨q,hq,h1,h2⟩
  ·rw [e] at hid;simp [Bx,Cf,Ay] at hid
  ·rw [h2] at hid;exact hw q hq id hid
 ·rcases Tj bl id with e'|⟨q,hq,h1,h2⟩
  ·rw [e'] at e;cases e
  ·rw [h2] at e;exact hwB q hq cells (by injection e)
theorem M0 {G:Vq}(hNG:IM P G w0 X0)(hcall:∀f args res,call f args=some res->C9 G P f args res){Q:Exit->Act->World->Prop}{rest:List Nat}(hQ:∀s' a' w' β',K s'=some r->B4 N w0 X0 Y β' s' a' w'->wpOpsIn (WF ro) n P ops Q rest a' w'):
  ∀(li:List Nat) (os:List Oper),li.length=os.length->(∀(k i:Nat),li[k]?=some i->ops[i]?=os[k]?)->os.all SS=true->∀{s:St} {a:Act} {w:World} {β:Bt},B4 N w0 X0 Y β s a w->Nx C P N call ops os s K=some r->wpOpsIn (WF ro) n P ops Q (li++rest) a w
 |[],[],_,_,_,s,a,w,β,h,hk=>hQ s a w β hk h
 |[],_::_,hl,_,_,_,_,_,_,_,_=>by cases hl
 |_::_,[],hl,_,_,_,_,_,_,_,_=>by cases hl
 |i::li,o::os,hl,hi,hnd,s,a,w,β,h,hk=>by
  obtain ⟨s1,hk,h⟩:=Tt h hk;rw [List.all_cons,Bool.and_eq_true] at hnd;have hio:ops[i]?=some o:=by simpa using hi 0 i rfl
  obtain ⟨s',hs',hn⟩:=HO (ro:=ro) (n:=n) h hNG hcall hnd.1 hk;rw [List.cons_append];unfold wpOpsIn;rw [hio];exact hn _ _ fun a' w' β' h'=>M0 hNG hcall hQ li os (by simpa using hl) (fun k j hj=>by simpa using hi (k+1) j (by simpa using hj)) hnd.2 h' hs'
end
end
section
open Go.IntKind (wrap)
open Go Go.RowKit
abbrev Um (ds:List Deferred)(a:Act):Act:={ a with defers:=a.defers++ds }
def TD (ds:List Deferred)(Q:Exit->Act->World->Prop):Exit->Act->World->Prop:=fun e a w=>∃a0:Act,a=Um ds a0∧Q e a0 w
section
variable {P:Program} {ops:Array Oper} {Q:Exit->Act->World->Prop} {ro:Option Nat} {n:Nat} {ds:List Deferred}
theorem Qm (a:Act)(d:Option Tmp)(v:Value):(Um ds a).put d v=Um ds (a.put d v):=by cases d<;>rfl
theorem Akf (h:LetsOut Q):LetsOut (TD ds Q):=let ⟨a,w,q⟩:=h;⟨_,w,a,rfl,q⟩
theorem Aep {o:Oper}{a:Act}{w:World}{K K':Act->World->Prop}(hK:∀a w,K a w->K' (Um ds a) w) (h:o.wpIn (WF ro) n P a w K Q):o.wpIn (WF ro) n P (Um ds a) w K' (TD ds Q):=by
 refine ⟨fun _ _=>trivial,?_⟩
 have h:=h.2;show o.uponIn _ _ _ _ _ _ ((o.semAt (WF ro).round a.eval).run P w);generalize (o.semAt (WF ro).round a.eval).run P w=q at h;cases q with
 |halt x w'=>cases x<;>first|exact ⟨a,rfl,h⟩|exact h.elim
 |ok v w'=>
  cases v with
  |value v=>show K' ((Um ds a).put o.dst v) w';rw [Qm];exact hK _ _ h
  |skip=>show K' ((Um ds a).put o.dst undef) w';rw [Qm];exact hK _ _ h
  |defer d=>
   show K' (({ (Um ds a) with defers:=d::(Um ds a).defers }:Act).put o.dst undef) w';rw [show ({ (Um ds a) with defers:=d::(Um ds a).defers }:Act)=Um ds { a with defers:=d::a.defers } from rfl,Qm]
   exact hK _ _ h
  |enter f args=>
   refine ⟨h.1,h.2.mono ?_⟩;intro e w'' he;cases e with
   |returned v=>show K' ((Um ds a).put o.dst v) w'';rw [Qm];exact hK _ _ he
   |panicked c=>exact ⟨a,rfl,he⟩
   |outgrown=>exact Akf he
  |row row args=>
   refine ⟨h.1,h.2.mono ?_⟩;intro v w'' he;show K' ((Um ds a).put o.dst v) w'';rw [Qm];exact hK _ _ he
  |round l f tmps assign body=>
   refine ⟨h.1,h.2.mono ?_⟩;intro e w'' he;cases e with
   |returned v=>show K' ((Um ds a).put o.dst v) w'';rw [Qm];exact hK _ _ he
   |panicked c=>exact ⟨a,rfl,he⟩
   |outgrown=>exact Akf he
  |_=>exact h.elim
theorem Tq:∀(li:List Nat){a:Act}{w:World},wpOpsIn (WF ro) n P ops Q li a w->wpOpsIn (WF ro) n P ops (TD ds Q) li (Um ds a) w
 |[],a,w,h=>⟨a,rfl,h⟩
 |i::li,a,w,h=>by
  rw [wpOpsIn_cons] at h ⊢;unfold wpOpIn at h ⊢;cases ho:ops[i]? with
  |none=>rw [ho] at h;exact Tq li h
  |some o=>
   rw [ho] at h;simp only at h ⊢;by_cases hw:Region.wanted o (yielded ops a.tmps)=true
   ·rw [Bu hw] at h ⊢;exact Aep (fun a w=>Tq li) h
   ·rw [A5 hw] at h ⊢;refine ⟨fun _ _=>trivial,?_⟩
    rw [Qm];exact Tq li h.2
end
structure Aby (w w':World):Prop where
 os:w'.os=w.os
 tape:w'.tape=w.tape
 output:w'.output=w.output
 size:w'.heap.size=w.heap.size
 cell:∀a,w'.cell? a=w.cell? a
 frz:∀a,w'.frozen? a=w.frozen? a
 bs:∀b,bsz w' b=bsz w b
theorem A7.same {w w':World}{A:Nat->Prop}(h:Aby w w'){p:PV}{v:Value}(t:A7 w A p v):A7 w' A p v:=by
 induction t with
 |sc v=>exact .sc v
 |top v=>exact .top v
 |ub b=>exact .ub b
 |lnil z es=>exact .lnil z es
 |lemp es a cap=>exact .lemp es a cap
 |lst es n cells a cap f hs hb hA1 hn hc h1 hr ih=>exact .lst es n cells a cap f hs (by rw [h.size];exact hb) hA1 hn (fun j c hj=>by rw [h.cell];exact hc j c hj) h1 (fun j c hj=>ih j c hj)
theorem QC.same {w w':World}{A:Nat->Prop}(h:Aby w w'){a:Addr}{c:List PV}(t:QC w A a c):QC w' A a c:=fun j x hj=>by
 obtain ⟨v,h1,h2,h3⟩:=t j x hj;exact ⟨v,by rw [h.cell];exact h1,h2,h3.same h⟩
theorem Cc.same {w w':World}{A:Nat->Prop}{β:Nat->Option (Nat × Nat)} (h:Aby w w'){p:PV}{v:Value}(t:Cc w A β p v):Cc w' A β p v:=by
 cases p with
 |view id es off n=>
  rcases t with t|⟨b,o,x,cap,h1,h2,hx,h3,h4,h5⟩
  ·exact .inl t
  ·exact .inr ⟨b,o,x,cap,h1,h2,hx,h3,by rw [h.bs];exact h4,by rw [h.size];exact h5⟩
 |ptr id off=>exact t
 |iptr c off=>
  obtain ⟨a,h1,h2,h3,h4,h5⟩:=t;exact ⟨a,h1,h2,by rw [h.size];exact h3,h4,h5.same h⟩
 |_=>exact A7.same h t
theorem Bk.imp' {α β:Type}{R S:α->β->Prop}{zs:List α}{bs:List β}(h:Bk R zs bs)(f:∀a b,R a b->S a b):Bk S zs bs:=h.mono f
theorem G9.same {w w':World}{A:Nat->Prop}{β:Nat->Option (Nat × Nat)} (h:Aby w w'){p:PV}{v:Value}(t:G9 w A β p v):G9 w' A β p v:=by
 cases p with
 |agg cs=>obtain ⟨vs,h1,h2⟩:=t;exact ⟨vs,h1,h2.imp' fun _ _=>Cc.same h⟩
 |_=>exact (Uu (by intro cs e;cases e)).2 (Cc.same h ((Uu (by intro cs e;cases e)).1 t))
theorem Dx.same {w w':World}{A:Nat->Prop}{β:Nat->Option (Nat × Nat)} (h:Aby w w'){p:PV}{v:Value}(t:Dx w A β p v):Dx w' A β p v:=by
 cases p with
 |tup cs=>obtain ⟨vs,h1,h2⟩:=t;exact ⟨vs,h1,h2.imp' fun _ _=>G9.same h⟩
 |_=>exact (Pb (by intro cs e;cases e)).2 (G9.same h ((Pb (by intro cs e;cases e)).1 t))
theorem B4.same {N:Nat}{w0 w w':World}{X0:Fh}{Y:Nat->Prop}{β:Bt}{s:St}{a:Act}(h:B4 N w0 X0 Y β s a w)(hs:Aby w w')(h0:∀b,b<w0.heap.size->w'.heap[b]?=w.heap[b]?):B4 N w0 X0 Y β s a w':=by
 refine ⟨h.dfr,h.tsz,h.tmo,fun i hi=>(h.tms i hi).same hs,fun id bx e=>?_,h.inj,fun id b o h1 h2=>by rw [hs.size];exact h.blt id b o h1 h2,h.wfT,h.wfB,h.ownd,h.rngB,h.pin,h.stp,h.Yx,h.Ylt,
  ⟨hs.os.trans h.fr.os,hs.tape.trans h.fr.tape,hs.output.trans h.fr.output,⟨by rw [hs.size];exact h.fr.step.size,fun b hb hn=>(h0 b hb).trans (h.fr.step.keep b hb hn),fun b hb=>by rw [hs.bs];exact h.fr.step.bs b hb⟩,fun b j hb hn=>by rw [hs.cell,hs.frz];exact h.fr.rng b j hb hn⟩⟩
 have h1:=h.box id bx e;cases bx with
 |st c=>
  obtain ⟨b,o,g1,g2,g3⟩:=h1;refine ⟨b,o,g1,fun j c hj=>?_,fun j hj=>by rw [hs.frz];exact g3 j hj⟩
  obtain ⟨v,k1,k2⟩:=g2 j c hj;exact ⟨v,by rw [hs.cell];exact k1,k2.same hs⟩
 |ar fz c=>
  rcases h1 with h1|⟨b,o,g1,g2,g3,g4⟩
  ·exact .inl h1
  ·exact .inr ⟨b,o,g1,g2.same hs,fun hf j hj hjb=>by rw [hs.frz];exact g3 hf j hj (by rw [←hs.bs];exact hjb),g4⟩
 |mv=>trivial
theorem YP {w:World}{D:Nat}{x y:Option (List Deferred)} (h:w.heap[D]?=some (.deferred x)):Aby w (w.putObj D (.deferred y)):=by
 have hD:D<w.heap.size:=(Array.getElem?_eq_some_iff.1 h).1;have hs:(w.putObj D (.deferred y)).heap[D]?=some (.deferred y):=World.putObj_heap_same hD;refine ⟨rfl,rfl,rfl,by simp,fun a=>?_,fun a=>?_,fun b=>?_⟩
 ·by_cases e:a.block=D
  ·unfold World.cell?;rw [e,hs,h]
  ·exact World.cell?_of_block (World.putObj_heap_other e)
 ·by_cases e:a.block=D
  ·unfold World.frozen?;rw [e,hs,h]
  ·unfold World.frozen?;rw [World.putObj_heap_other e]
 ·by_cases e:b=D
  ·subst e;unfold bsz;rw [hs,h]
  ·unfold bsz;rw [World.putObj_heap_other e]
end
section
open Go.IntKind (wrap)
open Go Go.RowKit
def sL:Code->Code
 |.seq a _=>a
 |c=>c
def sR:Code->Code
 |.seq _ b=>b
 |c=>c
def sB:Code->Code
 |.block _ c=>c
 |.loop c=>c
 |c=>c
def sF:Code->Code
 |.rangeFunc _ _ _ b=>b
 |c=>c
def sA:Code->Code
 |.rangeFunc _ _ a _=>a
 |c=>c
def Mt:Code->Array Oper
 |.region _ ops _=>ops
 |_=> #[]
noncomputable abbrev BD:Code:=Bm Tryz.f107
noncomputable abbrev JX:Code:=Bm Tryz.f37
def CS:Hs:={ CB with shr:=fun _=>true }
noncomputable abbrev PI (N:Nat)(call:Ah)(c:Code)(L:Nat)(s:St):Option (Nat × St):=
 Lf CB Tryz.prog 2000 N call c L (fun _=>L) 0 (fun s=>Lo N L s fun s'=>some (0,s')) (fun id s=>Lo N L s fun s'=>some (id+1,s')) (fun _=>none) s
section
variable {N:Nat} {w0:World} {X0:Fh} {Y:Nat->Prop} {β:Bt} {s s1:St} {a:Act} {w:World}
theorem Ed {G:Vq}(hNG:IM Tryz.prog G w0 X0)(hm:Tryz.prog.follows .mixedOrders=true){call:Ah}(hcall:∀f args res,call f args=some res->C9 G Tryz.prog f args res){c:Code}{L t:Nat}{Q:Exit->Act->World->Prop}(h:B4 N w0 X0 Y β s a w)
  (hk:PI N call c L s=some (t,s1)) (hQ:∀a' w' β',B4 N w0 X0 Y β' s1 a' w'->match t with|0=>Q .normal a' w'|id+1=>Q (.exit id) a' w'):c.wp Tryz.prog Q a w:=by
 refine LC hNG hcall hm c h hk (fun s' a' w' β' h1 h2=>?_) (fun id s' a' w' β' h1 h2=>?_) (fun s' a' w' β' h1 h2=>by cases h1)
 ·obtain ⟨β1,s2,h3,h4⟩:=Do h2 h1;cases h3;exact hQ _ _ _ h4
 ·obtain ⟨β1,s2,h3,h4⟩:=Do h2 h1;cases h3;exact hQ _ _ _ h4
theorem KX {G:Vq}(hNG:IM Tryz.prog G w0 X0)(hm:Tryz.prog.follows .mixedOrders=true){call:Ah}(hcall:∀f args res,call f args=some res->C9 G Tryz.prog f args res){ro:Option Nat}{n:Nat}{c:Code}(ho:okR c=true){L t:Nat}{Q:Exit->Act->World->Prop}(hQo:∀a w,¬Q .outgrown a w)(h:B4 N w0 X0 Y β s a w)
  (hk:PI N call c L s=some (t,s1)) (hQ:∀a' w' β',B4 N w0 X0 Y β' s1 a' w'->match t with|0=>Q .normal a' w'|id+1=>Q (.exit id) a' w'):c.wpIn (WF ro) n Tryz.prog Q a w:=by
 refine YM hNG hcall hm c ho hQo h hk (fun s' a' w' β' h1 h2=>?_) (fun id s' a' w' β' h1 h2=>?_) (fun s' a' w' β' h1 h2=>by cases h1)
 ·obtain ⟨β1,s2,h3,h4⟩:=Do h2 h1;cases h3;exact hQ _ _ _ h4
 ·obtain ⟨β1,s2,h3,h4⟩:=Do h2 h1;cases h3;exact hQ _ _ _ h4
end
end
section
open Go.IntKind (wrap)
set_option maxRecDepth 100000
theorem Ar7 (call:Ah)(yv:Value)(h seed:Int):PI 63 call (sL BD) 23 ⟨lk [(0,.sc yv),(1,.iptr [.sc (.int .i64 h)] 0),(2,.iptr [.sc (.int .u64 seed)] 0)],B7 []⟩=(
 Au (decide ((0:Int)<=h)) <|
 Aa (Hc IntKind.i64 (1:Int) h) fun x1=>
 Au (decide ((0:Int)<=x1)&&decide (x1<=x1)&&decide (x1*(8:Int)<=(1099511627776:Int))&&decide (x1<=(1099511627776:Int))) <|
 some (0,⟨lk [(0,(.sc (yv))),(1,(.iptr ([PV.sc (Value.int IntKind.i64 h)]) ((0:Nat)))),(2,(.iptr ([PV.sc (Value.int IntKind.u64 seed)]) ((0:Nat)))),(4,(.view 4 1 0 (Int.toNat x1)))],B7 [(4,(.ar false (Sw (Int.toNat x1) [PV.sc (Value.int IntKind.u64 (0:Int))])))]⟩)):=by kernel_rfl
theorem Aq9 (call:Ah)(yv:Value)(h seed:Int)(n:Nat)(c:List PV):PI 63 call (sL (sL (sR BD))) 24599 ⟨lk [(0,.sc yv),(1,.iptr [.sc (.int .i64 h)] 0),(2,.iptr [.sc (.int .u64 seed)] 0),(4,.view 4 1 0 n)],B7 [(4,.ar false c)]⟩=(
 some (0,⟨lk [(0,(.sc (yv))),(1,(.iptr ([PV.sc (Value.int IntKind.i64 h)]) ((0:Nat)))),(2,(.iptr ([PV.sc (Value.int IntKind.u64 seed)]) ((0:Nat)))),(4,(.view 4 1 0 (n))),(13,(.sc (.int .i64 ((↑n:Int))))),(14,(.sc (.int .i64 ((0:Int)))))],B7 [(4,(.ar false (c)))]⟩)):=by kernel_rfl
theorem Ai6 (call:Ah)(yv:Value)(h seed m i:Int)(n:Nat)(c:List PV):PI 63 call (sB (sB (sR (sL (sR BD))))) 24599 ⟨lk [(0,.sc yv),(1,.iptr [.sc (.int .i64 h)] 0),(2,.iptr [.sc (.int .u64 seed)] 0),(4,.view 4 1 0 n),(13,.sc (.int .i64 m)),(14,.sc (.int .i64 i))],B7 [(4,.ar false c)]⟩=(
  A9 (decide (i<m))
   (
   Ag (call (108:Nat) [PV.sc (Value.int IntKind.u64 seed),PV.sc (Value.int IntKind.i64 i)]) fun x1 x2=>
   Ac (x2) <|
   Ab (x1) fun x3 x4=>
   Ad (IntKind.u64) (x3) fun x5=>
   Ac (x4) <|
   Au (decide ((0:Int)<=i)&&decide (i<(↑n:Int))) <|
   Au (decide ((0:Nat)+Int.toNat i*(1:Nat)+(1:Nat)<=List.length c)) <|
   Aa (Bd c [PV.sc (Value.int IntKind.u64 x5)] ((0:Nat)+Int.toNat i*(1:Nat))) fun x6=>
   Aa (wrap IntKind.i64 (i+(1:Int))) fun x7=>
   some (0,⟨lk [(0,(.sc (yv))),(1,(.iptr ([PV.sc (Value.int IntKind.i64 h)]) ((0:Nat)))),(2,(.iptr ([PV.sc (Value.int IntKind.u64 seed)]) ((0:Nat)))),(4,(.view 4 1 0 (n))),(13,(.sc (.int .i64 (m)))),(14,(.sc (.int .i64 (x7))))],B7 [(4,(.ar false (x6)))]⟩))
   (
   some (1,⟨lk [(0,(.sc (yv))),(1,(.iptr ([PV.sc (Value.int IntKind.i64 h)]) ((0:Nat)))),(2,(.iptr ([PV.sc (Value.int IntKind.u64 seed)]) ((0:Nat)))),(4,(.view 4 1 0 (n))),(13,(.sc (.int .i64 (m)))),(14,(.sc (.int .i64 (i))))],B7 [(4,(.ar false (c)))]⟩))):=by kernel_rfl
theorem Arj (call:Ah)(yv:Value)(h seed m i:Int)(n:Nat)(c:List PV):PI 63 call (sL (sR (sR BD))) 87 ⟨lk [(0,.sc yv),(1,.iptr [.sc (.int .i64 h)] 0),(2,.iptr [.sc (.int .u64 seed)] 0),(4,.view 4 1 0 n),(13,.sc (.int .i64 m)),(14,.sc (.int .i64 i))],B7 [(4,.ar false c)]⟩=(
 some (0,⟨lk [(0,(.sc (yv))),(1,(.iptr ([PV.sc (Value.int IntKind.i64 h)]) ((0:Nat)))),(2,(.iptr ([PV.sc (Value.int IntKind.u64 seed)]) ((0:Nat)))),(4,(.view 4 1 0 (n))),(6,(.sc (.int .i64 ((0:Int)))))],B7 [(4,(.ar false (c)))]⟩)):=by kernel_rfl
theorem Asl (call:Ah)(yv:Value)(h seed k:Int)(n:Nat)(c:List PV):PI 63 call (sL (sB (sL (sR (sB (sB (sR (sR (sR BD))))))))) 215 ⟨lk [(0,.sc yv),(1,.iptr [.sc (.int .i64 h)] 0),(2,.iptr [.sc (.int .u64 seed)] 0),(4,.view 4 1 0 n),(6,.sc (.int .i64 k))],B7 [(4,.ar false c)]⟩=(
 Aa (wrap IntKind.i64 (Int.tdiv (↑n:Int) (2:Int))) fun x1=>
 Au (decide ((0:Int)<=x1)&&decide (x1<=x1)&&decide (x1*(8:Int)<=(1099511627776:Int))&&decide (x1<=(1099511627776:Int))) <|
 some (0,⟨lk [(0,(.sc (yv))),(1,(.iptr ([PV.sc (Value.int IntKind.i64 h)]) ((0:Nat)))),(2,(.iptr ([PV.sc (Value.int IntKind.u64 seed)]) ((0:Nat)))),(4,(.view 4 1 0 (n))),(6,(.sc (.int .i64 (k)))),(7,(.view 7 1 0 (Int.toNat x1)))],B7 [(4,(.ar false (c))),(7,(.ar false (Sw (Int.toNat x1) [PV.sc (Value.int IntKind.u64 (0:Int))])))]⟩)):=by kernel_rfl
theorem Apr (call:Ah)(yv:Value)(h seed k:Int)(n m:Nat)(c e:List PV):PI 63 call (sL (sL (sR (sB (sL (sR (sB (sB (sR (sR (sR BD))))))))))) 3298534883543 ⟨lk [(0,.sc yv),(1,.iptr [.sc (.int .i64 h)] 0),(2,.iptr [.sc (.int .u64 seed)] 0),(4,.view 4 1 0 n),(6,.sc (.int .i64 k)),(7,.view 7 1 0 m)],B7 [(4,.ar false c),(7,.ar false e)]⟩=(
 some (0,⟨lk [(0,(.sc (yv))),(1,(.iptr ([PV.sc (Value.int IntKind.i64 h)]) ((0:Nat)))),(2,(.iptr ([PV.sc (Value.int IntKind.u64 seed)]) ((0:Nat)))),(4,(.view 4 1 0 (n))),(6,(.sc (.int .i64 (k)))),(7,(.view 7 1 0 (m))),(40,(.sc (.int .i64 ((↑m:Int))))),(41,(.sc (.int .i64 ((0:Int)))))],B7 [(4,(.ar false (c))),(7,(.ar false (e)))]⟩)):=by kernel_rfl
theorem Aiz (call:Ah)(yv:Value)(h seed k p i:Int)(n m:Nat)(c e:List PV):PI 63 call (sB (sB (sR (sL (sR (sB (sL (sR (sB (sB (sR (sR (sR BD))))))))))))) 3298534883543 ⟨lk [(0,.sc yv),(1,.iptr [.sc (.int .i64 h)] 0),(2,.iptr [.sc (.int .u64 seed)] 0),(4,.view 4 1 0 n),(6,.sc (.int .i64 k)),(7,.view 7 1 0 m),(40,.sc (.int .i64 p)),(41,.sc (.int .i64 i))],B7 [(4,.ar false c),(7,.ar false e)]⟩=(
  A9 (decide (i<p))
   (
   Aa (wrap IntKind.i64 (k+(1:Int))) fun x1=>
   Aa (wrap IntKind.i64 ((2:Int)*i)) fun x2=>
   Au (decide ((0:Int)<=x2)&&decide (x2<(↑n:Int))) <|
   Ad (IntKind.u64) (List.getD c ((0:Nat)+Int.toNat x2*(1:Nat)) PV.top) fun x3=>
   Aa (wrap IntKind.i64 ((2:Int)*i)) fun x4=>
   Aa (wrap IntKind.i64 (x4+(1:Int))) fun x5=>
   Au (decide ((0:Int)<=x5)&&decide (x5<(↑n:Int))) <|
   Ad (IntKind.u64) (List.getD c ((0:Nat)+Int.toNat x5*(1:Nat)) PV.top) fun x6=>
   Ag (call (82:Nat) [PV.sc (Value.int IntKind.i64 x1),PV.sc (Value.int IntKind.u64 x3),PV.sc (Value.int IntKind.u64 x6)]) fun x7 x8=>
   Ac (x8) <|
   Ab (x7) fun x9 Cl=>
   Ad (IntKind.u64) (x9) fun Cw=>
   Ac (Cl) <|
   Au (decide ((0:Int)<=i)&&decide (i<(↑m:Int))) <|
   Au (decide ((0:Nat)+Int.toNat i*(1:Nat)+(1:Nat)<=List.length e)) <|
   Aa (Bd e [PV.sc (Value.int IntKind.u64 Cw)] ((0:Nat)+Int.toNat i*(1:Nat))) fun Dl=>
   Aa (wrap IntKind.i64 (i+(1:Int))) fun Ds=>
   some (0,⟨lk [(0,(.sc (yv))),(1,(.iptr ([PV.sc (Value.int IntKind.i64 h)]) ((0:Nat)))),(2,(.iptr ([PV.sc (Value.int IntKind.u64 seed)]) ((0:Nat)))),(4,(.view 4 1 0 (n))),(6,(.sc (.int .i64 (k)))),(7,(.view 7 1 0 (m))),(40,(.sc (.int .i64 (p)))),(41,(.sc (.int .i64 (Ds))))],B7 [(4,(.ar false (c))),(7,(.ar false (Dl)))]⟩))
   (
   some (5,⟨lk [(0,(.sc (yv))),(1,(.iptr ([PV.sc (Value.int IntKind.i64 h)]) ((0:Nat)))),(2,(.iptr ([PV.sc (Value.int IntKind.u64 seed)]) ((0:Nat)))),(4,(.view 4 1 0 (n))),(6,(.sc (.int .i64 (k)))),(7,(.view 7 1 0 (m))),(40,(.sc (.int .i64 (p)))),(41,(.sc (.int .i64 (i))))],B7 [(4,(.ar false (c))),(7,(.ar false (e)))]⟩))):=by kernel_rfl
theorem Apk (call:Ah)(yv:Value)(h seed k p i:Int)(n m:Nat)(c e:List PV):PI 63 call (sR (sR (sB (sL (sR (sB (sB (sR (sR (sR BD)))))))))) 87 ⟨lk [(0,.sc yv),(1,.iptr [.sc (.int .i64 h)] 0),(2,.iptr [.sc (.int .u64 seed)] 0),(4,.view 4 1 0 n),(6,.sc (.int .i64 k)),(7,.view 7 1 0 m),(40,.sc (.int .i64 p)),(41,.sc (.int .i64 i))],B7 [(4,.ar false c),(7,.ar false e)]⟩=(
 some (0,⟨lk [(0,(.sc (yv))),(1,(.iptr ([PV.sc (Value.int IntKind.i64 h)]) ((0:Nat)))),(2,(.iptr ([PV.sc (Value.int IntKind.u64 seed)]) ((0:Nat)))),(4,(.view 4 1 0 (m))),(6,(.sc (.int .i64 (k))))],B7 [(4,(.ar false (e)))]⟩)):=by kernel_rfl
theorem Aqi (call:Ah)(yv:Value)(h seed k:Int)(n:Nat)(c:List PV):PI 63 call (sR (sR (sB (sB (sR (sR (sR BD))))))) 87 ⟨lk [(0,.sc yv),(1,.iptr [.sc (.int .i64 h)] 0),(2,.iptr [.sc (.int .u64 seed)] 0),(4,.view 4 1 0 n),(6,.sc (.int .i64 k))],B7 [(4,.ar false c)]⟩=(
 Aa (wrap IntKind.i64 (k+(1:Int))) fun x1=>
 some (0,⟨lk [(0,(.sc (yv))),(1,(.iptr ([PV.sc (Value.int IntKind.i64 h)]) ((0:Nat)))),(2,(.iptr ([PV.sc (Value.int IntKind.u64 seed)]) ((0:Nat)))),(4,(.view 4 1 0 (n))),(6,(.sc (.int .i64 (x1))))],B7 [(4,(.ar false (c)))]⟩)):=by kernel_rfl
theorem Ap0 (call:Ah)(yv:Value)(h seed k:Int)(n:Nat)(c:List PV):Nx CB Tryz.prog 63 call (Mt (sL (sL (sB (sB (sR (sR (sR BD)))))))) (List.take 3 (Mt (sL (sL (sB (sB (sR (sR (sR BD)))))))).toList) ⟨lk [(0,.sc yv),(1,.iptr [.sc (.int .i64 h)] 0),(2,.iptr [.sc (.int .u64 seed)] 0),(4,.view 4 1 0 n),(6,.sc (.int .i64 k))],B7 [(4,.ar false c)]⟩ (fun s=>Lo 63 117440599 s fun s'=>some (0,s'))=(
 some (0,⟨lk [(0,(.sc (yv))),(1,(.iptr ([PV.sc (Value.int IntKind.i64 h)]) ((0:Nat)))),(2,(.iptr ([PV.sc (Value.int IntKind.u64 seed)]) ((0:Nat)))),(4,(.view 4 1 0 (n))),(6,(.sc (.int .i64 (k)))),(24,(.sc (yv))),(25,(.sc (.int .i64 (k)))),(26,(.view 4 1 0 (n)))],B7 [(4,(.ar false (c)))]⟩)):=by kernel_rfl
theorem All (call:Ah)(yv:Value)(h seed k:Int)(n:Nat)(c:List PV):Nx CB Tryz.prog 63 call (Mt (sL (sL (sB (sB (sR (sR (sR BD)))))))) (List.drop 4 (Mt (sL (sL (sB (sB (sR (sR (sR BD)))))))).toList) ⟨lk [(0,.sc yv),(1,.iptr [.sc (.int .i64 h)] 0),(2,.iptr [.sc (.int .u64 seed)] 0),(4,.view 4 1 0 n),(6,.sc (.int .i64 k)),(27,.sc (.bool true))],B7 [(4,.ar false c)]⟩ (fun s=>Lo 63 4294967383 s fun s'=>some (0,s'))=(
 some (0,⟨lk [(0,(.sc (yv))),(1,(.iptr ([PV.sc (Value.int IntKind.i64 h)]) ((0:Nat)))),(2,(.iptr ([PV.sc (Value.int IntKind.u64 seed)]) ((0:Nat)))),(4,(.view 4 1 0 (n))),(6,(.sc (.int .i64 (k)))),(32,(.sc (.bool (decide (k<h)))))],B7 [(4,(.ar false (c)))]⟩)):=by kernel_rfl
theorem Al1 (call:Ah)(yv:Value)(h seed k:Int)(n:Nat)(c:List PV):Nx CB Tryz.prog 63 call (Mt (sL (sL (sB (sB (sR (sR (sR BD)))))))) (List.drop 4 (Mt (sL (sL (sB (sB (sR (sR (sR BD)))))))).toList) ⟨lk [(0,.sc yv),(1,.iptr [.sc (.int .i64 h)] 0),(2,.iptr [.sc (.int .u64 seed)] 0),(4,.view 4 1 0 n),(6,.sc (.int .i64 k)),(27,.sc (.bool false))],B7 [(4,.ar false c)]⟩ (fun s=>Lo 63 4294967383 s fun s'=>some (0,s'))=(
 some (0,⟨lk [(0,(.sc (yv))),(1,(.iptr ([PV.sc (Value.int IntKind.i64 h)]) ((0:Nat)))),(2,(.iptr ([PV.sc (Value.int IntKind.u64 seed)]) ((0:Nat)))),(4,(.view 4 1 0 (n))),(6,(.sc (.int .i64 (k)))),(32,(.sc (.bool (false))))],B7 [(4,(.ar false (c)))]⟩)):=by kernel_rfl
theorem Aig (call:Ah)(yv:Value)(h seed k:Int)(n:Nat)(c:List PV)(q:Bool):PI 63 call (sR (sL (sB (sB (sR (sR (sR BD))))))) 87 ⟨lk [(0,.sc yv),(1,.iptr [.sc (.int .i64 h)] 0),(2,.iptr [.sc (.int .u64 seed)] 0),(4,.view 4 1 0 n),(6,.sc (.int .i64 k)),(32,.sc (.bool q))],B7 [(4,.ar false c)]⟩=(
  A9 (q)
   (
   some (0,⟨lk [(0,(.sc (yv))),(1,(.iptr ([PV.sc (Value.int IntKind.i64 h)]) ((0:Nat)))),(2,(.iptr ([PV.sc (Value.int IntKind.u64 seed)]) ((0:Nat)))),(4,(.view 4 1 0 (n))),(6,(.sc (.int .i64 (k))))],B7 [(4,(.ar false (c)))]⟩))
   (
   some (3,⟨lk [(0,(.sc (yv))),(1,(.iptr ([PV.sc (Value.int IntKind.i64 h)]) ((0:Nat)))),(2,(.iptr ([PV.sc (Value.int IntKind.u64 seed)]) ((0:Nat)))),(4,(.view 4 1 0 (n))),(6,(.sc (.int .i64 (k))))],B7 [(4,(.ar false (c)))]⟩))):=by kernel_rfl
theorem Aqh (call:Ah)(seed h leaf m:Int):PI 48 call (sL JX) 873 ⟨lk [(0,.sc (.int .u64 seed)),(1,.sc (.int .i64 h)),(2,.sc (.int .i64 leaf)),(3,.sc (.int .u64 m))],B7 []⟩=(
 some (0,⟨lk [(0,(.sc (.int .u64 (seed)))),(3,(.sc (.int .u64 (m)))),(5,(.ptr 5 0)),(6,(.ptr 6 0)),(8,(.ptr 8 0)),(9,(.sc (.int .i64 ((0:Int)))))],B7 [(5,(.st [(.sc (.int .i64 (h)))])),(6,(.st [(.sc (.int .i64 (leaf)))])),(8,(.st [(.sc (.int .i64 ((0:Int)))),(.view 104 1 0 ((0:Nat))),(.view 152 1 0 ((0:Nat)))])),(104,(.ar false ([]))),(152,(.ar false ([])))]⟩)):=by kernel_rfl
theorem Aoi (call:Ah)(seed h leaf m:Int):PI 48 call (sL (sR JX)) 873 ⟨lk [(0,.sc (.int .u64 seed)),(3,.sc (.int .u64 m)),(5,.ptr 5 0),(6,.ptr 6 0),(8,.ptr 8 0),(9,.sc (.int .i64 0))],B7 [(5,.st [.sc (.int .i64 h)]),(6,.st [.sc (.int .i64 leaf)]),(8,.st [.sc (.int .i64 0),.view 104 1 0 0,.view 152 1 0 0]),(104,.ar false []),(152,.ar false [])]⟩=(
  Ag (call (74:Nat) [PV.sc (Value.int IntKind.i64 h)]) fun x1 x2=>
  Ac (x2) <|
  Ab (x1) fun x3 x4=>
  Bj (x3) fun x5=>
  Ac (x4) <|
  A9 (x5)
   (
   none)
   (
   Ag (call (75:Nat) [PV.sc (Value.int IntKind.i64 leaf),PV.sc (Value.int IntKind.i64 h)]) fun x6 x7=>
   Ac (x7) <|
   Ab (x6) fun x8 x9=>
   Bj (x8) fun Cl=>
   Ac (x9) <|
   A9 (Cl)
    (
    none)
    (
    some (0,⟨lk [(0,(.sc (.int .u64 (seed)))),(3,(.sc (.int .u64 (m)))),(5,(.ptr 5 0)),(6,(.ptr 6 0)),(8,(.ptr 8 0)),(9,(.sc (.int .i64 ((0:Int)))))],B7 [(5,(.st [(.sc (.int .i64 (h)))])),(6,(.st [(.sc (.int .i64 (leaf)))])),(8,(.st [(.sc (.int .i64 ((0:Int)))),(.view 104 1 0 ((0:Nat))),(.view 152 1 0 ((0:Nat)))])),(104,(.ar false ([]))),(152,(.ar false ([])))]⟩)))):=by kernel_rfl
theorem Ash (call:Ah)(seed h leaf m:Int):PI 48 call (sL (sR (sR JX))) 1897 ⟨lk [(0,.sc (.int .u64 seed)),(3,.sc (.int .u64 m)),(5,.ptr 5 0),(6,.ptr 6 0),(8,.ptr 8 0),(9,.sc (.int .i64 0))],B7 [(5,.st [.sc (.int .i64 h)]),(6,.st [.sc (.int .i64 leaf)]),(8,.st [.sc (.int .i64 0),.view 104 1 0 0,.view 152 1 0 0]),(104,.ar false []),(152,.ar false [])]⟩=(
 Ag (call (76:Nat) [PV.sc (Value.int IntKind.u64 seed),PV.sc (Value.int IntKind.i64 leaf),PV.sc (Value.int IntKind.u64 m)]) fun x1 x2=>
 Ac (x2) <|
 Ab (x1) fun x3 x4=>
 Es ((1:Nat)) (x3) fun x5 x6=>
 Ac (x4) <|
 some (0,⟨lk [(0,(.sc (.int .u64 (seed)))),(3,(.sc (.int .u64 (m)))),(5,(.ptr 5 0)),(6,(.ptr 6 0)),(8,(.ptr 8 0)),(9,(.sc (.int .i64 ((0:Int))))),(10,(.ptr 10 0))],B7 [(5,(.st [(.sc (.int .i64 (h)))])),(6,(.st [(.sc (.int .i64 (leaf)))])),(8,(.st [(.sc (.int .i64 ((0:Int)))),(.view 104 1 0 ((0:Nat))),(.view 152 1 0 ((0:Nat)))])),(104,(.ar false ([]))),(152,(.ar false ([]))),(10,(.st [(.sc (.int .i64 (leaf))),(.view 106 1 0 (x5)),(.view 154 1 0 ((0:Nat)))])),(106,(.ar false (x6))),(154,(.ar false ([])))]⟩)):=by kernel_rfl
theorem Ajj (call:Ah)(h leaf k:Int)(ch:Value)(n m:Nat)(c d:List PV):PI 48 call (sF (sB (sR (sL (sR (sR (sR JX))))))) 1024 ⟨lk [(5,.iptr [.sc (.int .i64 h)] 0),(6,.iptr [.sc (.int .i64 leaf)] 0),(10,.ptr 96000 0),(11,.sc (.int .i64 k)),(12,.lst false 1 n c)],B7 [(96000,.st [.sc (.int .i64 leaf),.sc ch,.view 20 1 0 m]),(20,.ar false d)]⟩=(
  A9 (k==h)
   (
   some (1,⟨lk [(10,(.ptr 96000 0))],B7 [(96000,(.st [(.sc (.int .i64 (leaf))),(.sc (ch)),(.view 96144 1 0 (m))])),(96144,(.ar false (d)))]⟩))
   (
   Au (decide ((0:Int)<=k)) <|
   Aa (D8 IntKind.i64 leaf k) fun x1=>
   Aa (D1 IntKind.i64 x1 (1:Int)) fun x2=>
   Au (decide ((0:Int)<=x2)&&decide (x2<(↑n:Int))) <|
   Ad (IntKind.u64) (List.getD c (Int.toNat x2*(1:Nat)) PV.top) fun x3=>
   Au (decide (m*(1:Nat)<=List.length d)&&true&&decide ((m+(1:Nat))*(8:Nat)<=(1099511627776:Nat))&&decide (m+(1:Nat)<=(1099511627776:Nat))) <|
   Aa (m+(1:Nat)) fun x4=>
   Aa (List.take (m*(1:Nat)) d++[PV.sc (Value.int IntKind.u64 x3)]) fun x5=>
   some (0,⟨lk [(10,(.ptr 96000 0))],B7 [(96000,(.st [(.sc (.int .i64 (leaf))),(.sc (ch)),(.view 96144 1 0 (x4))])),(96144,(.ar false (x5)))]⟩))):=by kernel_rfl
theorem Apz (call:Ah)(seed h leaf m:Int)(n:Nat)(c:List PV):Nx CB Tryz.prog 48 call (Mt (sL (sL (sR (sR (sR JX)))))) (List.take 2 (Mt (sL (sL (sR (sR (sR JX)))))).toList) ⟨lk [(0,.sc (.int .u64 seed)),(3,.sc (.int .u64 m)),(5,.ptr 5 0),(6,.ptr 6 0),(8,.ptr 8 0),(9,.sc (.int .i64 0)),(10,.ptr 10 0)],B7 [(5,.st [.sc (.int .i64 h)]),(6,.st [.sc (.int .i64 leaf)]),(8,.st [.sc (.int .i64 0),.view 104 1 0 0,.view 152 1 0 0]),(104,.ar false []),(152,.ar false []),(10,.st [.sc (.int .i64 leaf),.view 106 1 0 n,.view 154 1 0 0]),(106,.ar false c),(154,.ar false [])]⟩ (fun s=>Lo 48 402655081 s fun s'=>some (0,s'))=(
 some (0,⟨lk [(0,(.sc (.int .u64 (seed)))),(3,(.sc (.int .u64 (m)))),(5,(.ptr 5 0)),(6,(.ptr 6 0)),(8,(.ptr 8 0)),(9,(.sc (.int .i64 ((0:Int))))),(10,(.ptr 10 0)),(27,(.sc (.int .u64 (seed)))),(28,(.sc (.int .i64 (h))))],B7 [(5,(.st [(.sc (.int .i64 (h)))])),(6,(.st [(.sc (.int .i64 (leaf)))])),(8,(.st [(.sc (.int .i64 ((0:Int)))),(.view 104 1 0 ((0:Nat))),(.view 152 1 0 ((0:Nat)))])),(104,(.ar false ([]))),(152,(.ar false ([]))),(10,(.st [(.sc (.int .i64 (leaf))),(.view 106 1 0 (n)),(.view 154 1 0 ((0:Nat)))])),(106,(.ar false (c))),(154,(.ar false ([])))]⟩)):=by kernel_rfl
theorem Asn (call:Ah)(leaf:Int)(n1 n2:Nat)(c1 c2:List PV):Nx CB Tryz.prog 48 call (Mt (sL (sR (sR (sR (sR JX)))))) (Mt (sL (sR (sR (sR (sR JX)))))).toList ⟨lk [(8,.ptr 96000 0),(9,.sc (.int .i64 0)),(10,.iptr [.sc (.int .i64 leaf),.lst false 1 n1 c1,.lst false 1 n2 c2] 0)],B7 [(96000,.st [.top,.top,.top])]⟩ (fun s=>Lo 48 768 s fun s'=>some (0,s'))=(
 some (0,⟨lk [(8,(.ptr 96000 0)),(9,(.sc (.int .i64 ((0:Int)))))],B7 [(96000,(.st [(.sc (.int .i64 (leaf))),(.lst false 1 (n1) (c1)),(.lst false 1 (n2) (c2))]))]⟩)):=by kernel_rfl
theorem Aop (a0 a1 a2 a3 leaf:Int)(n1 n2:Nat)(c1 c2:List PV):Ab7 CS Tryz.prog 37 Tryz.f37 [.sc (.int .u64 a0),.sc (.int .i64 a1),.sc (.int .i64 a2),.sc (.int .u64 a3)] ⟨lk [(8,.ptr 96000 0),(9,.sc (.int .i64 0))],B7 [(96000,.st [.sc (.int .i64 leaf),.lst false 1 n1 c1,.lst false 1 n2 c2])]⟩=(
 some (A0.mk [PV.agg [PV.sc (Value.int IntKind.i64 leaf),PV.lst false (1:Nat) n1 c1,PV.lst false (1:Nat) n2 c2],PV.sc (Value.int IntKind.i64 (0:Int))] [])):=by kernel_rfl
theorem An7 (call:Ah)(seed h leaf m:Int):Ak4 CS Tryz.prog 2000 call 37 Tryz.f37 JX [.sc (.int .u64 seed),.sc (.int .i64 h),.sc (.int .i64 leaf),.sc (.int .u64 m)]=(
  Ag (call (74:Nat) [PV.sc (Value.int IntKind.i64 h)]) fun x1 x2=>
  Ac (x2) <|
  Ab (x1) fun x3 x4=>
  Bj (x3) fun x5=>
  Ac (x4) <|
  A9 (x5)
   (
   some (A0.mk [PV.agg [PV.sc (Value.int IntKind.i64 (0:Int)),PV.lst false (1:Nat) (0:Nat) [],PV.lst false (1:Nat) (0:Nat) []],PV.sc (Value.int IntKind.i64 (9:Int))] []))
   (
   Ag (call (75:Nat) [PV.sc (Value.int IntKind.i64 leaf),PV.sc (Value.int IntKind.i64 h)]) fun x6 x7=>
   Ac (x7) <|
   Ab (x6) fun x8 x9=>
   Bj (x8) fun Cl=>
   Ac (x9) <|
   A9 (Cl)
    (
    some (A0.mk [PV.agg [PV.sc (Value.int IntKind.i64 (0:Int)),PV.lst false (1:Nat) (0:Nat) [],PV.lst false (1:Nat) (0:Nat) []],PV.sc (Value.int IntKind.i64 (9:Int))] []))
    (
    Ag (call (76:Nat) [PV.sc (Value.int IntKind.u64 seed),PV.sc (Value.int IntKind.i64 leaf),PV.sc (Value.int IntKind.u64 m)]) fun Cw Dl=>
    Ac (Dl) <|
    Ab (Cw) fun Ds Dk=>
    Fk ((1:Nat)) (Ds) fun D9 Ea En=>
    Ac (Dk) <|
    Ag (call (77:Nat) [PV.sc (Value.int IntKind.u64 seed),PV.sc (Value.int IntKind.i64 h)]) fun E1 Fg=>
    Ac (Fg) <|
    Ab (E1) fun Fp Ho=>
    fnK (Fp) fun Hb=>
    Ac (Ho) <|
    none))):=by kernel_rfl
end
section
open Go.IntKind (wrap)
set_option maxRecDepth 20000
open Go Go.RowKit
def G1:Vq:=⟨fun _=>False,fun _=>True,fun _ _ _ _=>trivial⟩
def noX:FuncId->Option (List PV->Option A0):=fun _=>none
theorem Asj:Adj G1 Tryz.prog (CX noX):=by
 intro f g args res h _;have h':(bif BX.any (Nat.beq f) then none else (none:Option (List PV->Option A0)))=some g:=h;cases hb:BX.any (Nat.beq f)<;>rw [hb] at h'<;>cases h'
noncomputable abbrev cl:Ah:=Ae (CX noX) Tryz.prog 2000 8
theorem ngT:NoNG Tryz.prog:=by
 have h:(Tryz.prog.funcs.toList.all fun fn=> !(fn.name == "runtime.NumGoroutine"))=true:=by kernel_rfl
 intro f fn hf;have:=List.all_eq_true.1 h fn (Array.mem_toList_iff.2 (Array.mem_of_getElem? hf))
 simpa using this
theorem PO:Tryz.prog.follows .mixedOrders=true:=by kernel_rfl
theorem Dg:∀f args res,cl f args=some res->C9 G1 Tryz.prog f args res:=fun f args res h=>W6 ngT PO Asj 8 f args res h
theorem Qw (w0:World)(X0:Fh):IM Tryz.prog G1 w0 X0:=⟨ngT,fun _ _=>trivial,fun _ h=>h.elim⟩
def gl (f:Nat->Int)(n i:Nat):List Int:=(List.range i).map f++List.replicate (n-i) 0
theorem Ah9 (f:Nat->Int){n i:Nat}(h:i<=n):(gl f n i).length=n:=by simp [gl];omega
theorem Aju (f:Nat->Int){n i:Nat}(h:i<n):(gl f n i).set i (f i)=gl f n (i+1):=by
 unfold gl;rw [List.set_append_right _ _ (by simp),List.length_map,List.length_range,Nat.sub_self,show n-i=(n-(i+1))+1 by omega,List.replicate_succ,List.set_cons_zero,List.range_succ,List.map_append,ZK]
 rfl
theorem Ac6 (f:Nat->Int)(n:Nat):gl f n n=(List.range n).map f:=by simp [gl]
theorem Acf (f:Nat->Int)(n:Nat):gl f n 0=List.replicate n 0:=by simp [gl]
abbrev Af9 (yv:Value)(h seed:Int)(n:Nat)(m i:Int)(c:List PV):St:=
 ⟨lk [(0,.sc yv),(1,.iptr [.sc (.int .i64 h)] 0),(2,.iptr [.sc (.int .u64 seed)] 0),(4,.view 4 1 0 n),(13,.sc (.int .i64 m)),(14,.sc (.int .i64 i))],B7 [(4,.ar false c)]⟩
abbrev Afe (yv:Value)(h seed k:Int)(n m:Nat)(p i:Int)(c e:List PV):St:=
 ⟨lk [(0,.sc yv),(1,.iptr [.sc (.int .i64 h)] 0),(2,.iptr [.sc (.int .u64 seed)] 0),(4,.view 4 1 0 n),(6,.sc (.int .i64 k)),(7,.view 7 1 0 m),(40,.sc (.int .i64 p)),(41,.sc (.int .i64 i))],B7 [(4,.ar false c),(7,.ar false e)]⟩
theorem Atg (yv:Value)(h seed:Int){n i:Nat}(hn:n<=1000)(hi:i<n):
  PI 63 cl (sB (sB (sR (sL (sR BD))))) 24599 (Af9 yv h seed n n i (Af .u64 (gl (fun (j:Nat)=>Ig seed (j:Int)) n i)))=some (0,Af9 yv h seed n n ((i+1:Nat):Int) (Af .u64 (gl (fun (j:Nat)=>Ig seed (j:Int)) n (i+1)))):=by
 have pb:cl Mi [.sc (.int .u64 seed),.sc (.int .i64 i)]=_:=Afr (xs:=noX) (fu:=2000) (d:=1) (by omega) seed i
 have w:wrap .i64 ((i:Int)+1)=((i+1:Nat):Int):=by rw [Al (by omega) (by omega)];omega
 have L:(Af .u64 (gl (fun (j:Nat)=>Ig seed (j:Int)) n i)).length=n:=by rw [Am,Ah9 _ (by omega)]
 have hset:Bd (Af .u64 (gl (fun (j:Nat)=>Ig seed (j:Int)) n i)) [.sc (.int .u64 (Ig seed i))] i=Af .u64 (gl (fun (j:Nat)=>Ig seed (j:Int)) n (i+1)):=by
  rw [Fd (by omega),Ka]
  exact congrArg _ (Aju (fun (j:Nat)=>Ig seed (j:Int)) hi)
 refine (Ai6 cl yv h seed n i n (Af .u64 (gl (fun (j:Nat)=>Ig seed (j:Int)) n i))).trans ?_
 simp (disch:=omega) only [Bz,Gu,B8,Br,pb,L,hset,w]
theorem Aua (yv:Value)(h seed:Int)(n:Nat)(c:List PV):
  PI 63 cl (sB (sB (sR (sL (sR BD))))) 24599 (Af9 yv h seed n n n c)=some (1,Af9 yv h seed n n n c):=
 (Ai6 cl yv h seed n n n c).trans (Dj _ _ _ (by omega))
theorem ZE {yv:Value}{h seed:Int}{n:Nat}(hn:n<=1000):∀(r i nn:Nat),i+r=n->r<nn->∀{w0:World}{X0:Fh}{Y:Nat->Prop}{β:Bt}{a:Act}{w:World}{Q:Exit->Act->World->Prop},
  B4 63 w0 X0 Y β (Af9 yv h seed n n i (Af .u64 (gl (fun (j:Nat)=>Ig seed (j:Int)) n i))) a w ->
  (∀a' w' β',B4 63 w0 X0 Y β' (Af9 yv h seed n n n (Af .u64 (gl (fun (j:Nat)=>Ig seed (j:Int)) n n))) a' w'->Q (.exit 0) a' w')->Code.rounds Tryz.prog (sB (sB (sR (sL (sR BD))))) Q nn a w
 |_,_,0,_,h=>by omega
 |0,i,nn+1,hi,_=>by
  intro hs hQ;obtain rfl:i=n:=by omega
  rw [rounds_succ];exact Ed (Qw _ _) PO Dg hs (Aua yv h seed i _) fun a' w' β' h'=>hQ a' w' β' h'
 |r+1,i,nn+1,hi,hr=>by
  intro hs hQ;rw [rounds_succ];exact Ed (Qw _ _) PO Dg hs (Atg yv h seed hn (by omega)) fun a' w' β' h'=>ZE hn r (i+1) nn (by omega) (by omega) h' hQ
def Ep (seed:Int)(n k:Nat):List Int:=(List.range n).map fun (j:Nat)=>B5 seed k (j:Int)
theorem KD (seed:Int)(n k:Nat):(Ep seed n k).length=n:=by simp [Ep]
theorem S0 (seed:Int){n k j:Nat}(h:j<n):(Ep seed n k)[j]?=some (B5 seed k j):=by simp [Ep,h]
theorem At2 (yv:Value)(h seed:Int){k m i:Nat}(hm:m<=1000)(hk:k<=1000)(hi:i<m):
  PI 63 cl (sB (sB (sR (sL (sR (sB (sL (sR (sB (sB (sR (sR (sR BD))))))))))))) 3298534883543 (Afe yv h seed k (2*m) m m i (Af .u64 (Ep seed (2*m) k)) (Af .u64 (gl (fun (j:Nat)=>B5 seed (k+1) (j:Int)) m i))) =
   some (0,Afe yv h seed k (2*m) m m ((i+1:Nat):Int) (Af .u64 (Ep seed (2*m) k)) (Af .u64 (gl (fun (j:Nat)=>B5 seed (k+1) (j:Int)) m (i+1)))):=by
 have e1:wrap .i64 ((2:Int)*i)=((2*i:Nat):Int):=by rw [Al (by omega) (by omega)];omega
 have e2:wrap .i64 (((2*i:Nat):Int)+1)=((2*i+1:Nat):Int):=by rw [Al (by omega) (by omega)];omega
 have e3:wrap .i64 ((k:Int)+1)=((k+1:Nat):Int):=by rw [Al (by omega) (by omega)];omega
 have w:wrap .i64 ((i:Int)+1)=((i+1:Nat):Int):=by rw [Al (by omega) (by omega)];omega
 have a1:(Af .u64 (Ep seed (2*m) k)).getD (2*i) .top=.sc (.int .u64 (B5 seed k ((2*i:Nat):Int))):=Vg (S0 seed (by omega))
 have a2:(Af .u64 (Ep seed (2*m) k)).getD (2*i+1) .top=.sc (.int .u64 (B5 seed k ((2*i+1:Nat):Int))):=Vg (S0 seed (by omega))
 have pn:cl Mh [.sc (.int .i64 ((k+1:Nat):Int)),.sc (.int .u64 (B5 seed k ((2*i:Nat):Int))),.sc (.int .u64 (B5 seed k ((2*i+1:Nat):Int)))]=some ⟨[.sc (.int .u64 (B5 seed (k+1) (i:Int)))],[]⟩:=by
  have:=FA (xs:=noX) (fu:=2000) (d:=2) (by omega) ((k+1:Nat):Int) (B5 seed k ((2*i:Nat):Int)) (B5 seed k ((2*i+1:Nat):Int))
  rw [show B5 seed (k+1) (i:Int)=Mo ((k+1:Nat):Int) (B5 seed k ((2*i:Nat):Int)) (B5 seed k ((2*i+1:Nat):Int)) by
   rw [B5];congr 2<;>omega]
  exact this
 have L:(Af .u64 (gl (fun (j:Nat)=>B5 seed (k+1) (j:Int)) m i)).length=m:=by rw [Am,Ah9 _ (by omega)]
 have hset:Bd (Af .u64 (gl (fun (j:Nat)=>B5 seed (k+1) (j:Int)) m i)) [.sc (.int .u64 (B5 seed (k+1) (i:Int)))] i=Af .u64 (gl (fun (j:Nat)=>B5 seed (k+1) (j:Int)) m (i+1)):=by
  rw [Fd (by omega),Ka]
  exact congrArg _ (Aju (fun (j:Nat)=>B5 seed (k+1) (j:Int)) hi)
 refine (Aiz cl yv h seed k m i (2*m) m _ _).trans ?_;simp (disch:=omega) only [Bz,Gu,B8,Br,e1,e2,e3,a1,a2,pn,L,hset,w]
theorem Atx (yv:Value)(h seed k:Int)(n m:Nat)(c e:List PV):
  PI 63 cl (sB (sB (sR (sL (sR (sB (sL (sR (sB (sB (sR (sR (sR BD))))))))))))) 3298534883543 (Afe yv h seed k n m m m c e)=some (5,Afe yv h seed k n m m m c e):=
 (Aiz cl yv h seed k m m n m c e).trans (Dj _ _ _ (by omega))
theorem WG {yv:Value}{h seed:Int}{k m:Nat}(hm:m<=1000)(hk:k<=1000):∀(r i nn:Nat),i+r=m->r<nn->∀{w0:World}{X0:Fh}{Y:Nat->Prop}{β:Bt}{a:Act}{w:World}{Q:Exit->Act->World->Prop},
  B4 63 w0 X0 Y β (Afe yv h seed k (2*m) m m i (Af .u64 (Ep seed (2*m) k)) (Af .u64 (gl (fun (j:Nat)=>B5 seed (k+1) (j:Int)) m i))) a w ->
  (∀a' w' β',B4 63 w0 X0 Y β' (Afe yv h seed k (2*m) m m m (Af .u64 (Ep seed (2*m) k)) (Af .u64 (gl (fun (j:Nat)=>B5 seed (k+1) (j:Int)) m m))) a' w'->Q (.exit 4) a' w') ->
  Code.rounds Tryz.prog (sB (sB (sR (sL (sR (sB (sL (sR (sB (sB (sR (sR (sR BD))))))))))))) Q nn a w
 |_,_,0,_,h=>by omega
 |0,i,nn+1,hi,_=>by
  intro hs hQ;obtain rfl:i=m:=by omega
  rw [rounds_succ];exact Ed (Qw _ _) PO Dg hs (Atx yv h seed k (2*i) i _ _) fun a' w' β' h'=>hQ a' w' β' h'
 |r+1,i,nn+1,hi,hr=>by
  intro hs hQ;rw [rounds_succ];exact Ed (Qw _ _) PO Dg hs (At2 yv h seed hm hk (by omega)) fun a' w' β' h'=>WG hm hk r (i+1) nn (by omega) (by omega) h' hQ
end
section
open Go.IntKind (wrap)
set_option maxRecDepth 20000
open Go Go.RowKit
noncomputable abbrev OX:Code:=sB (sB (sR (sR (sR BD))))
noncomputable abbrev lvX:Code:=sB (sL (sR OX))
theorem Ans:OX=.seq (.seq (.region 7 (Mt (sL (sL OX))) false) (sR (sL OX))) (.seq (.block 3 lvX) (sR (sR OX))):=by kernel_rfl
theorem Arz:lvX=.seq (sL lvX) (.seq (.seq (sL (sL (sR lvX))) (.block 4 (.loop (sB (sB (sR (sL (sR lvX)))))))) (sR (sR lvX))):=by kernel_rfl
theorem Api:BD=.seq (sL BD) (.seq (.seq (sL (sL (sR BD))) (.block 0 (.loop (sB (sB (sR (sL (sR BD)))))))) (.seq (sL (sR (sR BD))) (.block 2 (.loop OX)))):=by kernel_rfl
theorem CC {F:Fence}{n:Nat}{P:Program}{c c':Code}{Q:Exit->Act->World->Prop}{a:Act}{w:World}(e:c=c')(h:c'.wpIn F n P Q a w):c.wpIn F n P Q a w:=e ▸ h
abbrev lvS (yv:Value)(h seed:Int)(n:Nat)(k:Int)(c:List PV):St:=
 ⟨lk [(0,.sc yv),(1,.iptr [.sc (.int .i64 h)] 0),(2,.iptr [.sc (.int .u64 seed)] 0),(4,.view 4 1 0 n),(6,.sc (.int .i64 k))],B7 [(4,.ar false c)]⟩
abbrev UV (yv:Value)(h seed:Int)(n:Nat)(k:Int)(c:List PV):St:=
 ⟨lk [(0,.sc yv),(1,.iptr [.sc (.int .i64 h)] 0),(2,.iptr [.sc (.int .u64 seed)] 0),(4,.view 4 1 0 n),(6,.sc (.int .i64 k)),(24,.sc yv),(25,.sc (.int .i64 k)),(26,.view 4 1 0 n)],B7 [(4,.ar false c)]⟩
abbrev At3 (yv:Value)(h seed:Int)(n:Nat)(k:Int)(c:List PV)(b:Bool):St:=
 ⟨lk [(0,.sc yv),(1,.iptr [.sc (.int .i64 h)] 0),(2,.iptr [.sc (.int .u64 seed)] 0),(4,.view 4 1 0 n),(6,.sc (.int .i64 k)),(27,.sc (.bool b))],B7 [(4,.ar false c)]⟩
def lvM (seed:Int)(h:Nat)(pre:List Nat)(k:Nat)(args:Array Value)(Z:Nat->Prop)(A:World):Prop:=
 k<=h∧pre=List.range k∧∃b o cap,args = #[.int .i64 k,.slice (some ⟨b,o,none⟩) (2 ^ (h-k):Nat) cap]∧2 ^ (h-k)<=cap∧b<A.heap.size∧¬Z b∧∀j,j<2 ^ (h-k)->A.cell? ⟨b,o+j,none⟩=some (.int .u64 (B5 seed k j))
theorem Aje {seed:Int}{h:Nat}{pre:List Nat}{k:Nat}{args:Array Value}{Z:Nat->Prop}{A B:World}(hm:lvM seed h pre k args Z A)(hs:A.heap.size<=B.heap.size)(hk:∀b,b<A.heap.size->¬Z b->B.heap[b]?=A.heap[b]?):lvM seed h pre k args Z B:=by
 obtain ⟨h0,hpr,b,o,cap,h1,h2,h3,h4,h5⟩:=hm;exact ⟨h0,hpr,b,o,cap,h1,h2,by omega,h4,fun j hj=>(World.cell?_of_block (a:=⟨b,o+j,none⟩) (hk b h3 h4)).trans (h5 j hj)⟩
theorem Ahj {seed:Int}{h:Nat}{pre:List Nat}{k:Nat}{args:Array Value}{Z:Nat->Prop}{A:World}(hm:lvM seed h pre k args Z A):args.size=2:=by
 obtain ⟨h0,_,b,o,cap,h1,_⟩:=hm;rw [h1];rfl
theorem Ato:∃ty pos aft x,(Mt (sL (sL OX)))[3]?=some { dst:=some 27,op:=.call { callee:=.value (.tmp 24),args:= #[.tmp 25,.tmp 26],argTypes:=x },type:=ty,pos:=pos,after:=aft,guard:=none }:=
 ⟨_,_,_,_,rfl⟩
theorem Mf {k:IntKind}{l:List Int}{i:Nat}{n:Int}(h:l[i]?=some n):(Af k l)[i]?=some (.sc (.int k n)):=by
 have h1:=Vg (k:=k) h;have hlt:i<(Af k l).length:=by rw [Am];exact (List.getElem?_eq_some_iff.1 h).1
 rw [List.getD_eq_getElem?_getD,List.getElem?_eq_getElem hlt] at h1;rw [List.getElem?_eq_getElem hlt];exact congrArg some h1
section
variable {seed:Int} {h l:Nat} {w0:World} {X0:Fh} {Z:Nat->Prop} {β:Bt} {a:Act} {w:World}
theorem Ak3 {yv:Value}{k n:Nat}{c:List PV}{hi:Int}(hs:B4 63 w0 X0 Z β (UV yv hi seed n k c) a w) (hn:0<n):
  a.tmps.getD 24 undef=yv∧a.tmps.getD 25 undef=.int .i64 k∧∃b o cap,β 4=some (b,o)∧a.tmps.getD 26 undef=.slice (some ⟨b,o,none⟩) n cap∧n<=cap∧b<w.heap.size∧QC w (C1 (B7 [(4,.ar false c)]) β Z) ⟨b,o,none⟩ c:=by
 have h24:=hs.tms 24 (by decide)
 have h25:=hs.tms 25 (by decide)
 have h26:=hs.tms 26 (by decide)
 have hb:=hs.box 4 _ (rfl:_=some (Bn.ar false c));refine ⟨(Ql h24),(Ql h25),?_⟩;rcases (show Cc w (C1 (B7 [(4,.ar false c)]) β Z) β (.view 4 1 0 n) (a.tmps.getD 26 undef) from h26) with ⟨_,_,h3,_⟩|⟨b,o,x,cap,h1,h2,h3,h4,h5,h6⟩
 ·omega
 ·rcases hb with ⟨h7,_⟩|⟨b',o',h7,h8,_⟩
  ·rw [h1] at h7;cases h7
  ·rw [h1] at h7;cases h7;have hx:x=o:=by omega
   subst hx;exact ⟨b,x,cap,h1,h2,h4,h6,h8⟩
abbrev Atb (yv:Value)(h seed:Int)(n:Nat)(k:Int)(c:List PV)(q:Bool):St:=
 ⟨lk [(0,.sc yv),(1,.iptr [.sc (.int .i64 h)] 0),(2,.iptr [.sc (.int .u64 seed)] 0),(4,.view 4 1 0 n),(6,.sc (.int .i64 k)),(32,.sc (.bool q))],B7 [(4,.ar false c)]⟩
theorem Aco {yv:Value}{hi seed:Int}{n:Nat}{k:Int}{c:List PV}:∀id cc,(UV yv hi seed n k c).hp id≠some (.st cc):=by
 intro id cc e;rcases Tj [(4,Bn.ar false c)] id with h1|⟨q,hq,h1,h2⟩
 ·rw [show (UV yv hi seed n k c).hp id=B7 [(4,Bn.ar false c)] id from rfl,h1] at e;cases e
 ·simp at hq;subst hq;rw [show (UV yv hi seed n k c).hp id=B7 [(4,Bn.ar false c)] id from rfl,h2] at e
  cases e
theorem Alf {hi:Int}{yv:Value}{n:Nat}{k:Int}{c:List PV}{Z':Nat->Prop}{B:World}(b:Bool)(hs:B4 63 w0 X0 Z β (UV yv hi seed n k c) a w) (ht:JM Z Z' w B):
  B4 63 B (Alb (UV yv hi seed n k c) β) Z' β (At3 yv hi seed n k c b) (a.put (some 27) (.bool b)) B:=by
 have h1:=(hs.rebase ht Aco).put (d:=some 27) (v:=.sc (.bool b)) (val:=.bool b) rfl (A7.sc _) (by simp [Bx,Cf,Ay])
 refine h1.pick _ _ ?_ ?_ ?_ ?_ (fun _ h=>h.elim)
 ·intro q hq;simp only [List.mem_cons,List.not_mem_nil,or_false] at hq;rcases hq with rfl|rfl|rfl|rfl|rfl|rfl<;>rfl
 ·intro q hq;simp only [List.mem_cons,List.not_mem_nil,or_false] at hq;rcases hq with rfl<;>rfl
 ·intro q hq id hid;simp only [List.mem_cons,List.not_mem_nil,or_false] at hq;rcases hq with rfl|rfl|rfl|rfl|rfl|rfl<;>simp [Bx,Cf,Ay] at hid
  subst hid;simp [B7]
 ·intro q hq cells e;simp only [List.mem_cons,List.not_mem_nil,or_false] at hq;rcases hq with rfl;cases e
theorem Amf (hh:h<=4){J Jx:(Nat->Prop)->List Nat->World->Prop} (hJ:∀Z pre A B,J Z pre A->Ym Z A B->J Z pre B)(hJx:∀Z pre A B,Jx Z pre A->Ym Z A B->Jx Z pre B)
  (hY:∀Z pre x args A,J Z pre A->lvM seed h pre x args Z A->YieldAt Fence.wide 0 Tryz.prog l args A fun e B=>∃Z',JM Z Z' A B∧((e=.returned (.bool true)∧J Z' (pre++[x]) B)∨(e=.returned (.bool false)∧Jx Z' (pre++[x]) B)))
  {k r:Nat} (hk:k+r=h) (hs:B4 63 w0 X0 Z β (lvS (.func (.yield l) #[] #[]) h seed (2 ^ r) k (Af .u64 (Ep seed (2 ^ r) k))) a w) (hd:∀b,Z b->¬X0.X b) (hj:J Z (List.range k) w0) {Q:Exit->Act->World->Prop}
  (hgo:k<h->∀w2 X2 Z' β' a' w',B4 63 w2 X2 Z' β' (lvS (.func (.yield l) #[] #[]) h seed (2 ^ r) k (Af .u64 (Ep seed (2 ^ r) k))) a' w'->(∀b,Z' b->¬X2.X b)->J Z' (List.range (k+1)) w2->Q .normal a' w')
  (hend:∀a' w',a'.defers=[]->(∃Z xs,(xs=List.range (h+1)∧J Z xs w')∨((∃k,xs=List.range (k+1))∧Jx Z xs w'))->Q (.exit 2) a' w'):
  (Code.seq (.region 7 (Mt (sL (sL OX))) false) (sR (sL OX))).wpIn Fence.wide 0 Tryz.prog Q a w:=by
 have hp:0<2 ^ r:=Nat.pos_of_ne_zero (by simp)
 refine wpIn_seq (wpIn_region ?_);have hl:List.range (Mt (sL (sL OX))).size=[0,1,2]++[3,4,5,6,7,8]:=by kernel_rfl
 rw [hl];refine M0 (ro:=none) (C:=CB) (call:=cl) (r:=((0:Nat),UV (.func (.yield l) #[] #[]) h seed (2 ^ r) k (Af .u64 (Ep seed (2 ^ r) k)))) (Qw _ _) Dg ?_ [0,1,2] (List.take 3 (Mt (sL (sL OX))).toList) (by kernel_rfl) ?_ (by kernel_rfl) hs (Ap0 cl _ h seed k (2 ^ r) _)
 rotate_left
 ·intro j i hj
  match j,hj with
  |0,hj=>cases hj;rfl
  |1,hj=>cases hj;rfl
  |2,hj=>cases hj;rfl
 intro s' a1 w1 β1 hk1 hs1;obtain ⟨β2,s2,hk2,hs2⟩:=Do hs1 hk1;cases hk2;obtain ⟨v24,v25,b,o,cap,hb,v26,hcap,hbl,hrd⟩:=Ak3 hs2 hp;have hjw:J Z (List.range k) w1:=hJ Z _ _ _ hj (hs2.stay hd);have hkr:h-k=r:=by omega
 have hm:lvM seed h (List.range k) k #[.int .i64 k,.slice (some ⟨b,o,none⟩) (2 ^ r:Nat) cap] Z w1:=by
  refine ⟨by omega,rfl,b,o,cap,by rw [hkr],by rw [hkr];exact hcap,hbl,fun hz=>hs2.Yx b hz ⟨4,o,by trivial,hb⟩,fun j hj=>?_⟩
  rw [hkr] at hj;obtain ⟨v,hv,_,hv2⟩:=hrd j (.sc (.int .u64 (B5 seed k j))) (Mf (S0 seed hj));rw [D6] at hv;rw [hv,A7.val hv2]
 obtain ⟨fn,tmps,assign,body,hy,hR⟩:=hY Z _ k _ w1 hjw hm;obtain ⟨ty,pos,aft,x,ho⟩:=Ato;rw [wpOpsIn_cons];unfold wpOpIn;rw [ho];simp only [Region.wanted,if_true]
 have run:(execOp a1.eval { dst:=some 27,op:=.call { callee:=.value (.tmp 24),args:= #[.tmp 25,.tmp 26],argTypes:=x },type:=ty,pos:=pos,after:=aft,guard:=none }).run Tryz.prog w1=.ok (.round l fn tmps assign body) w1:=by
  have e24:a1.eval (.tmp 24)=.func (.yield l) #[] #[]:=v24;have e25:a1.eval (.tmp 25)=.int .i64 k:=v25;have e26:a1.eval (.tmp 26)=.slice (some ⟨b,o,none⟩) (2 ^ r:Nat) cap:=v26;refine Ae1 rfl rfl e24 ?_;rw [←hy];simp only [List.map_toArray,Zzw,List.map_nil,e25,e26]
 refine ⟨fun _ _=>trivial,?_⟩
 rw [show Oper.semAt (WF none).round a1.eval { dst:=some 27,op:=.call { callee:=.value (.tmp 24),args:= #[.tmp 25,.tmp 26],argTypes:=x },type:=ty,pos:=pos,after:=aft,guard:=none }=execOp a1.eval { dst:=some 27,op:=.call { callee:=.value (.tmp 24),args:= #[.tmp 25,.tmp 26],argTypes:=x },type:=ty,pos:=pos,after:=aft,guard:=none } from rfl,run]
 refine ⟨(fun h=>by cases h),(WS hR).mono ?_⟩
 have rest:∀(e:Bool) (B:World) (Z':Nat->Prop) (q:Bool),JM Z Z' w1 B->(Nx CB Tryz.prog 63 cl (Mt (sL (sL OX))) (List.drop 4 (Mt (sL (sL OX))).toList) (At3 (.func (.yield l) #[] #[]) h seed (2 ^ r) k (Af .u64 (Ep seed (2 ^ r) k)) e) (fun s=>Lo 63 4294967383 s fun s'=>some (0,s'))=some ((0:Nat),Atb (.func (.yield l) #[] #[]) h seed (2 ^ r) k (Af .u64 (Ep seed (2 ^ r) k)) q)) ->
   (∀a' w' β',B4 63 B (Alb (UV (.func (.yield l) #[] #[]) h seed (2 ^ r) k (Af .u64 (Ep seed (2 ^ r) k))) β2) Z' β' (lvS (.func (.yield l) #[] #[]) h seed (2 ^ r) k (Af .u64 (Ep seed (2 ^ r) k))) a' w'->if q=true then Q .normal a' w' else Q (.exit 2) a' w') ->
   wpOpsIn (WF none) 0 Tryz.prog (Mt (sL (sL OX))) (Exit.then ((sR (sL OX)).wpIn Fence.wide 0 Tryz.prog Q) Q) [4,5,6,7,8] (a1.put (some 27) (.bool e)) B:=by
  intro e B Z' q ht heq hq;have h4:=Alf e hs2 ht;show wpOpsIn _ _ _ _ _ ([4,5,6,7,8]++[]) _ _;refine M0 (ro:=none) (C:=CB) (call:=cl) (Qw _ _) Dg ?_ [4,5,6,7,8] (List.drop 4 (Mt (sL (sL OX))).toList) (by kernel_rfl) ?_ (by kernel_rfl) h4 heq
  rotate_left
  ·intro j i hj
   match j,hj with
   |0,hj=>cases hj;rfl
   |1,hj=>cases hj;rfl
   |2,hj=>cases hj;rfl
   |3,hj=>cases hj;rfl
   |4,hj=>cases hj;rfl
  intro s' a5 w5 β5 hk5 hs5;obtain ⟨β6,s6,hk6,hs6⟩:=Do hs5 hk5;cases hk6;show (sR (sL OX)).wpIn Fence.wide 0 Tryz.prog Q a5 w5;cases q
  ·exact wpIn_wide.2 (Ed (Qw _ _) PO Dg hs6 ((Aig cl _ h seed k (2 ^ r) _ false).trans rfl) fun a' w' β' h'=>hq a' w' β' h')
  ·exact wpIn_wide.2 (Ed (Qw _ _) PO Dg hs6 ((Aig cl _ h seed k (2 ^ r) _ true).trans rfl) fun a' w' β' h'=>hq a' w' β' h')
 have hown:∀{B:World} {Z':Nat->Prop} {β':Bt} {s':St} {a':Act} {w':World},JM Z Z' w1 B->∀b,Z' b->¬(Alb (UV (.func (.yield l) #[] #[]) h seed (2 ^ r) k (Af .u64 (Ep seed (2 ^ r) k))) β2).X b:=by
  intro B Z' _ _ _ _ ht b hz;exact (hs2.rebase ht Aco).Yx b hz
 have er:List.range k++[k]=List.range (k+1):=(List.range_succ).symm
 rintro e B ⟨Z',ht,(⟨rfl,hj2⟩|⟨rfl,hj2⟩)⟩
 ·rw [er] at hj2;refine rest true B Z' (decide ((k:Int)<(h:Int))) ht (All cl _ h seed k (2 ^ r) _) fun a' w' β' h'=>?_
  have hdd:=hown (β':=β) (s':=s') (a':=a) (w':=w) ht;by_cases hlt:k<h
  ·rw [Bu (by simp;omega)]
   exact hgo hlt B _ Z' β' a' w' h' hdd hj2
  ·rw [A5 (by simp;omega)]
   exact hend a' w' h'.dfr ⟨Z',List.range (k+1),.inl ⟨by rw [show k=h by omega],hJ Z' _ _ _ hj2 (h'.stay hdd)⟩⟩
 ·refine rest false B Z' false ht (Al1 cl _ h seed k (2 ^ r) _) fun a' w' β' h'=>?_
  have hdd:=hown (β':=β) (s':=s') (a':=a) (w':=w) ht;rw [A5 (by simp)]
  exact hend a' w' h'.dfr ⟨Z',_,.inr ⟨⟨k,er⟩,hJx Z' _ _ _ hj2 (h'.stay hdd)⟩⟩
theorem PQ (hh:h<=4){J Jx:(Nat->Prop)->List Nat->World->Prop} (hJ:∀Z pre A B,J Z pre A->Ym Z A B->J Z pre B)(hJx:∀Z pre A B,Jx Z pre A->Ym Z A B->Jx Z pre B)
  (hY:∀Z pre x args A,J Z pre A->lvM seed h pre x args Z A->YieldAt Fence.wide 0 Tryz.prog l args A fun e B=>∃Z',JM Z Z' A B∧((e=.returned (.bool true)∧J Z' (pre++[x]) B)∨(e=.returned (.bool false)∧Jx Z' (pre++[x]) B)))
  {Q:Exit->Act->World->Prop} (hend:∀a' w',a'.defers=[]->(∃Z xs,(xs=List.range (h+1)∧J Z xs w')∨((∃k,xs=List.range (k+1))∧Jx Z xs w'))->Q (.exit 2) a' w'):
  ∀(r k nn:Nat),k+r=h->r<nn->∀{w0:World} {X0:Fh} {Z:Nat->Prop} {β:Bt} {a:Act} {w:World},
   B4 63 w0 X0 Z β (lvS (.func (.yield l) #[] #[]) h seed (2 ^ r:Nat) k (Af .u64 (Ep seed (2 ^ r) k))) a w->(∀b,Z b->¬X0.X b)->J Z (List.range k) w0->Code.roundsIn Fence.wide 0 Tryz.prog OX Q nn a w
 |_,_,0,_,h=>by omega
 |r,k,nn+1,hk,hr=>by
  intro hs hd hj;rw [roundsIn_succ];refine CC Ans (wpIn_seq (Amf hh hJ hJx hY hk hs hd hj ?_ fun a' w' h1 h2=>hend a' w' h1 h2))
  intro hlt w2 X2 Z' β' a' w' hs2 hd2 hj2
  match r,hk,hr,hs2 with
  |0,hk,hr,hs2=>omega
  |r+1,hk,hr,hs2=>
   have hp:2 ^ (r+1)=2*2 ^ r:=by rw [Nat.pow_succ];omega
   have hle:2 ^ r<=8:=by
    have:2 ^ r<=2 ^ 3:=Nat.pow_le_pow_right (by omega) (by omega)
    omega
   rw [hp] at hs2;show (Code.seq (.block 3 lvX) (sR (sR OX))).wpIn Fence.wide 0 Tryz.prog _ a' w';refine wpIn_seq (wpIn_block (CC Arz (wpIn_seq (wpIn_wide.2 (Ed (Qw _ _) PO Dg hs2 (L:=215) (t:=0) (s1:=⟨lk [(0,.sc (.func (.yield l) #[] #[])),(1,.iptr [.sc (.int .i64 h)] 0),(2,.iptr [.sc (.int .u64 seed)] 0),(4,.view 4 1 0 (2*2 ^ r)),(6,.sc (.int .i64 k)),(7,.view 7 1 0 (2 ^ r))],B7 [(4,.ar false (Af .u64 (Ep seed (2*2 ^ r) k))),(7,.ar false (Af .u64 (List.replicate (2 ^ r) 0)))]⟩) ?_ ?_)))))
   ·have w2:wrap .i64 (Int.tdiv ((2*2 ^ r:Nat):Int) 2)=((2 ^ r:Nat):Int):=by
     rw [Int.tdiv_eq_ediv_of_nonneg (by omega),Al (by omega) (by omega)];omega
    refine (Asl cl _ h seed k (2*2 ^ r) _).trans ?_;simp (disch:=omega) only [Bz,Gu,w2,JH]
   intro a3 w3 β3 hs3;refine wpIn_seq (wpIn_seq (wpIn_wide.2 (Ed (Qw _ _) PO Dg hs3 (Apr cl _ h seed k _ _ _ _) ?_)));intro a4 w4 β4 hs4;refine wpIn_block (wpIn_wide.2 (wp_loop_rounds 1000 (WG (k:=k) (m:=2 ^ r) (by omega) (by omega) (2 ^ r) 0 1000 (by omega) (by omega) (by rw [Acf];exact hs4) ?_)))
   intro a5 w5 β5 hs5;show (sR (sR lvX)).wpIn Fence.wide 0 Tryz.prog _ a5 w5;refine wpIn_wide.2 (Ed (Qw _ _) PO Dg hs5 (Apk cl _ h seed k _ _ _ _ _ _) ?_);intro a6 w6 β6 hs6;show (sR (sR OX)).wpIn Fence.wide 0 Tryz.prog _ a6 w6;refine wpIn_wide.2 (Ed (Qw _ _) PO Dg hs6 (L:=87) (t:=0) (s1:=lvS (.func (.yield l) #[] #[]) h seed (2 ^ r:Nat) ((k+1:Nat):Int) (Af .u64 (Ep seed (2 ^ r) (k+1)))) ?_ ?_)
   ·have w1:wrap .i64 ((k:Int)+1)=((k+1:Nat):Int):=by rw [Al (by omega) (by omega)];omega
    refine (Aqi cl _ h seed k _ _).trans ?_;simp only [Bz,w1];rw [Ac6];rfl
   intro a7 w7 β7 hs7;exact PQ hh hJ hJx hY hend r (k+1) nn (by omega) (by omega) hs7 hd2 hj2
end
end
section
open Go.IntKind (wrap)
set_option maxRecDepth 20000
open Go Go.RowKit
def noL:Fh:={ X:=fun _=>False,L:=fun _ _=>False,pn:=fun _=>False,pt:=fun _=>none,p8:=fun _ h=>h.elim }
theorem B4.init {N:Nat}{W:World}{Z0:Nat->Prop}(l:List (Nat × PV)) (a:Act)(hd:a.defers=[]) (hsz:a.tmps.size=N)(hlt:∀q∈l,q.1<N)(hv:∀q∈l,Dx W Z0 (fun _=>none) q.2 (a.tmps.getD q.1 undef)) (hr:∀q∈l,Bx q.2=[]) (hZ:∀b,Z0 b->b<W.heap.size):
  B4 N W noL Z0 (fun _=>none) ⟨lk l,B7 []⟩ a W:=by
 have hA:∀b,b<W.heap.size->C1 (B7 []) (fun _=>none) Z0 b->Z0 b:=fun b _ hb=>hb.elim (fun ⟨_,_,h,_⟩=>(h:Cg none).elim) id
 have hst:Cb Z0 W W:=⟨Nat.le_refl _,fun _ _ _=>rfl,fun _ _=>Nat.le_refl _⟩
 refine ⟨hd,hsz,fun i hi=>?_,fun i hi=>?_,fun id bx e=>(by cases e),fun id id' b o o' h=>(h:Cg none).elim,fun id b o h=>(h rfl).elim,fun i hi id hid=>?_,fun id c e=>(by cases e),fun b ⟨_,_,h,_⟩=>(h:Cg none).elim,fun id bx b o e=>(by cases e),
  fun i hi=>hi.elim,fun id c b o e=>(by cases e),fun b hz ⟨_,_,h,_⟩=>(h:Cg none).elim,hZ,⟨rfl,rfl,rfl,⟨Nat.le_refl _,fun _ _ _=>rfl,fun _ _=>Nat.le_refl _⟩,fun _ _ _ _=>⟨rfl,rfl⟩⟩⟩
 ·rcases O2 l i with e|⟨q,hq,h1,h2⟩
  ·exact e
  ·have:=hlt q hq;omega
 ·show Dx W (C1 (B7 []) (fun _=>none) Z0) (fun _=>none) (lk l i) _
  rcases O2 l i with e|⟨q,hq,h1,h2⟩
  ·rw [e];exact A7.top _
  ·rw [h2,←h1];exact (hv q hq).step hst hA fun _ _=>rfl
 ·rcases O2 l i with e|⟨q,hq,h1,h2⟩
  ·rw [show (St.mk (lk l) (B7 [])).tm i=lk l i from rfl,e] at hid;simp [Bx,Cf,Ay] at hid
  ·rw [show (St.mk (lk l) (B7 [])).tm i=lk l i from rfl,h2,hr q hq] at hid;cases hid
def Am3 (seed:Int)(h Bh Bs:Nat)(Z0:Nat->Prop)(W:World):Prop:=
 W.cell? ⟨Bh,0,none⟩=some (.int .i64 h)∧W.cell? ⟨Bs,0,none⟩=some (.int .u64 seed)∧Bh<W.heap.size∧Bs<W.heap.size∧¬Z0 Bh∧¬Z0 Bs
theorem Anc {h:Nat}(hh:h<=4):Hc .i64 1 (h:Int)=((2 ^ h:Nat):Int):=by
 have:h=0∨h=1∨h=2∨h=3∨h=4:=by omega
 rcases this with rfl|rfl|rfl|rfl|rfl<;>decide
theorem Ali {seed:Int}{h Bh Bs:Nat}{Z0:Nat->Prop}{W:World}{yv:Value}(hP:Am3 seed h Bh Bs Z0 W)(hZ:∀b,Z0 b->b<W.heap.size):
  B4 63 W noL Z0 (fun _=>none) ⟨lk [(0,.sc yv),(1,.iptr [.sc (.int .i64 h)] 0),(2,.iptr [.sc (.int .u64 seed)] 0)],B7 []⟩ { tmps:=(yv::Value.pointer (some ⟨Bh,0,none⟩)::Value.pointer (some ⟨Bs,0,none⟩)::List.replicate 60 undef).toArray,defers:=[] } W:=by
 obtain ⟨p1,p2,p3,p4,p5,p6⟩:=hP;refine B4.init _ _ rfl (by simp) ?_ ?_ ?_ hZ
 ·intro q hq;simp only [List.mem_cons,List.not_mem_nil,or_false] at hq;rcases hq with rfl|rfl|rfl<;>simp
 ·intro q hq;simp only [List.mem_cons,List.not_mem_nil,or_false] at hq;rcases hq with rfl|rfl|rfl
  ·exact A7.sc _
  ·refine ⟨⟨Bh,0,none⟩,rfl,rfl,p3,p5,fun j c hj=>?_⟩
   match j,hj with
   |0,hj=>cases hj;exact ⟨_,p1,rfl,A7.sc _⟩
  ·refine ⟨⟨Bs,0,none⟩,rfl,rfl,p4,p6,fun j c hj=>?_⟩
   match j,hj with
   |0,hj=>cases hj;exact ⟨_,p2,rfl,A7.sc _⟩
 ·intro q hq;simp only [List.mem_cons,List.not_mem_nil,or_false] at hq;rcases hq with rfl|rfl|rfl<;>rfl
theorem Alk {seed:Int}{h Bh Bs:Nat}(hh:h<=4):Ano Tryz.prog 107 #[.pointer (some ⟨Bh,0,none⟩),.pointer (some ⟨Bs,0,none⟩)] (lvM seed h) (fun xs=>xs=List.range (h+1)) (fun xs=>∃k,xs=List.range (k+1)) (Am3 seed h Bh Bs):=by
 intro l J Jx W Z0 hZ hP hJ hJx hY h0;obtain ⟨p1,p2,p3,p4,p5,p6⟩:=hP;refine callsIn_wide.1 (callsIn_of_wp (F:=Fence.wide) (n:=0) Tryz.func107 rfl trivial ?_ rfl);show BD.wpIn _ _ _ _ _ _;have t1:(({ tmps:=(#[Value.func (.yield l) #[] #[]] ++ #[Value.pointer (some ⟨Bh,0,none⟩),Value.pointer (some ⟨Bs,0,none⟩)])++Array.replicate (Tryz.f107.ntmps-(#[Value.func (.yield l) #[] #[]] ++ #[Value.pointer (some ⟨Bh,0,none⟩),Value.pointer (some ⟨Bs,0,none⟩)]).size) undef,defers:=[] }:Act))={ tmps:=(Value.func (.yield l) #[] #[]::Value.pointer (some ⟨Bh,0,none⟩)::Value.pointer (some ⟨Bs,0,none⟩)::List.replicate 60 undef).toArray,defers:=[] }:=by kernel_rfl
 rw [t1];have i0:=Ali (seed:=seed) (h:=h) (Z0:=Z0) (yv:=.func (.yield l) #[] #[]) ⟨p1,p2,p3,p4,p5,p6⟩ hZ;generalize ({ tmps:=(Value.func (.yield l) #[] #[]::Value.pointer (some ⟨Bh,0,none⟩)::Value.pointer (some ⟨Bs,0,none⟩)::List.replicate 60 undef).toArray,defers:=[] }:Act)=a0 at i0 ⊢
 have hle:2 ^ h<=16:=by
  have:2 ^ h<=2 ^ 4:=Nat.pow_le_pow_right (by omega) hh
  omega
 refine CC Api (wpIn_seq (wpIn_wide.2 (Ed (Qw _ _) PO Dg i0 (L:=23) (t:=0)
  (s1:=⟨lk [(0,.sc (.func (.yield l) #[] #[])),(1,.iptr [.sc (.int .i64 h)] 0),(2,.iptr [.sc (.int .u64 seed)] 0),(4,.view 4 1 0 (2 ^ h))],B7 [(4,.ar false (Af .u64 (List.replicate (2 ^ h) 0)))]⟩) ?_ ?_)))
 ·refine (Ar7 cl _ h seed).trans ?_;have e1:=Anc hh;have e2:(0:Int)<=h:=by omega
  generalize 2 ^ h=n at hle e1 ⊢;simp (disch:=omega) only [Bz,e1,Gu,JH]
 intro a1 w1 β1 h1;refine wpIn_seq (wpIn_seq (wpIn_wide.2 (Ed (Qw _ _) PO Dg h1 (Aq9 cl _ h seed _ _) ?_)));intro a2 w2 β2 h2;refine wpIn_block (wpIn_wide.2 (wp_loop_rounds 1000 (ZE (n:=2 ^ h) (by omega) (2 ^ h) 0 1000 (by omega) (by omega) (by rw [Acf];exact h2) ?_)))
 intro a3 w3 β3 h3;show (Code.seq (sL (sR (sR BD))) (.block 2 (.loop OX))).wpIn Fence.wide 0 Tryz.prog _ a3 w3;refine wpIn_seq (wpIn_wide.2 (Ed (Qw _ _) PO Dg h3 (L:=87) (t:=0) (s1:=lvS (.func (.yield l) #[] #[]) h seed (2 ^ h:Nat) ((0:Nat):Int) (Af .u64 (Ep seed (2 ^ h) 0))) ?_ ?_))
 ·refine (Arj cl _ h seed _ _ _ _).trans ?_;rw [Ac6];rfl
 intro a4 w4 β4 h4;refine wpIn_block (wpIn_loop_rounds 1000 (PQ hh hJ hJx hY ?_ h 0 1000 (by omega) (by omega) h4 (fun b _ hb=>hb) h0))
 intro a5 w5 h5 h6;exact ⟨h5,_,results_none rfl _ _ _,⟨_,rfl⟩,h6⟩
end
section
open Go.IntKind (wrap)
set_option maxRecDepth 20000
open Go Go.RowKit
theorem B4.make {N:Nat}{W:World}{Y:Nat->Prop}{β:Bt}(l:List (Nat × PV)) (bl:List (Nat × Bn)) (a:Act)(pn:Nat->Prop)(p8:∀i,pn i->i<8)(hd:a.defers=[]) (hsz:a.tmps.size=N)(hlt:∀q∈l,q.1<N)
  (hv:∀q∈l,Dx W (C1 (B7 bl) β Y) β q.2 (a.tmps.getD q.1 undef)) (hb:∀id bx,B7 bl id=some bx->Sz W (C1 (B7 bl) β Y) β id bx)
  (inj:∀id id' b o o',Cg (B7 bl id)->Cg (B7 bl id')->β id=some (b,o)->β id'=some (b,o')->id=id') (blt:∀id b o,B7 bl id≠none->β id=some (b,o)->b<W.heap.size)
  (wfT:∀q∈l,∀id∈Bx q.2,B7 bl id≠none)(wfB:∀id cells,B7 bl id=some (.st cells)->∀c∈cells,∀i∈Ay c,B7 bl i≠none) (hpin:∀i,pn i->B7 bl (C6 N i)≠none)
  (stp:∀id c,B7 bl id=some (.st c)->∃i,id=C6 N i∧pn i) (Yx:∀b,Y b->¬BV (B7 bl) β b) (Ylt:∀b,Y b->b<W.heap.size):
  B4 N W { X:=BV (B7 bl) β,L:=fun b _=>BV (B7 bl) β b,pn:=pn,pt:=fun i=>β (C6 N i),p8:=p8 } Y β ⟨lk l,B7 bl⟩ a W:=by
 refine ⟨hd,hsz,fun i hi=>?_,fun i hi=>?_,hb,inj,blt,fun i hi id hid=>?_,wfB,fun b hb=>.inl hb,fun id bx b o h1 h2 h3 _ j _=>⟨id,o,by rw [show B7 bl id=some bx from h1];exact h2,h3⟩,fun i hi=>⟨hpin i hi,rfl⟩,
  fun id c b o h1 _ _=>stp id c h1,Yx,Ylt,⟨rfl,rfl,rfl,⟨Nat.le_refl _,fun _ _ _=>rfl,fun _ _=>Nat.le_refl _⟩,fun _ _ _ _=>⟨rfl,rfl⟩⟩⟩
 ·rcases O2 l i with e|⟨q,hq,h1,h2⟩
  ·exact e
  ·have:=hlt q hq;omega
 ·show Dx W _ β (lk l i) _;rcases O2 l i with e|⟨q,hq,h1,h2⟩
  ·rw [e];exact A7.top _
  ·rw [h2,←h1];exact hv q hq
 ·rcases O2 l i with e|⟨q,hq,h1,h2⟩
  ·rw [show (St.mk (lk l) (B7 bl)).tm i=lk l i from rfl,e] at hid;simp [Bx,Cf,Ay] at hid
  ·rw [show (St.mk (lk l) (B7 bl)).tm i=lk l i from rfl,h2] at hid;exact wfT q hq id hid
def Ata (lo e0:Nat)(A:World)(pv:Value)(l:List Int):Prop:=
 (l=[]∧pv=.slice none 0 0)∨∃pb po cap,pv=.slice (some ⟨pb,po,none⟩) l.length cap∧l.length<=cap∧po+cap<=bsz A pb∧pb<A.heap.size∧(lo<=pb∨pb=e0)∧(∀(j:Nat) x,l[j]?=some x->A.cell? ⟨pb,po+j,none⟩=some (.int .u64 x))∧∀j,po<=j->j<bsz A pb->A.frozen? ⟨pb,j,none⟩=false
theorem frozen?_of_block {A B:World}{b j:Nat}(h:B.heap[b]?=A.heap[b]?):B.frozen? ⟨b,j,none⟩=A.frozen? ⟨b,j,none⟩:=by
 unfold World.frozen?;simp only [h]
structure FW (wS:World) (D:Nat) (seed leaf:Int) (h b10 o10 e0:Nat) (chv:Value) (Z:Nat->Prop) (pre:List Nat) (A:World):Prop where
 os:A.os=wS.os
 tape:A.tape=wS.tape
 output:A.output=wS.output
 size:D+2<=A.heap.size
 zlo:∀b,b<wS.heap.size->Z b
 zlt:∀b,Z b->b<A.heap.size
 keep:∀b,b<wS.heap.size->b≠b10->b≠e0->A.heap[b]?=wS.heap[b]?
 bs:bsz wS b10<=bsz A b10
 c0:A.cell? ⟨b10,o10,none⟩=some (.int .i64 leaf)
 c1:A.cell? ⟨b10,o10+1,none⟩=some chv
 fz:∀k,k<3->A.frozen? ⟨b10,o10+k,none⟩=false
 lt:∀x∈pre,x<h
 path:∃pv,A.cell? ⟨b10,o10+2,none⟩=some pv∧Ata (D+2) e0 A pv (pre.map fun k=>B5 seed k (Fy leaf k))∧∀pb po n cap,pv=.slice (some ⟨pb,po,none⟩) n cap->Z pb
noncomputable abbrev Abg:Code:=sF (sB (sR (sL (sR (sR (sR JX))))))
abbrev Atu (h leaf:Int)(x:Nat)(n:Nat)(c:List PV):List (Nat × PV):=[(5,.iptr [.sc (.int .i64 h)] 0),(6,.iptr [.sc (.int .i64 leaf)] 0),(10,.ptr 96000 0),(11,.sc (.int .i64 x)),(12,.lst false 1 n c)]
abbrev OJ (leaf:Int)(ch:Value)(m:Nat)(d:List PV):List (Nat × Bn):=[(96000,.st [.sc (.int .i64 leaf),.sc ch,.view 20 1 0 m]),(20,.ar false d)]
structure Aty (wS:World) (b5 o5 b6 o6 b10 o10:Nat) (args:Array Value) (a:Act):Prop where
 dfr:a.defers=[]
 size:a.tmps.size=48
 t5:a.tmps.getD 5 undef=.pointer (some ⟨b5,o5,none⟩)
 t6:a.tmps.getD 6 undef=.pointer (some ⟨b6,o6,none⟩)
 t10:a.tmps.getD 10 undef=.pointer (some ⟨b10,o10,none⟩)
 t11:a.tmps.getD 11 undef=args.getD 0 undef
 t12:a.tmps.getD 12 undef=args.getD 1 undef
theorem Ahn {wS:World}{D:Nat}{seed leaf:Int}{h b5 o5 b6 o6 b10 o10 e0:Nat}{chv:Value}{Z:Nat->Prop}{pre:List Nat}{A:World}(hI:FW wS D seed leaf h b10 o10 e0 chv Z pre A){x:Nat}{args:Array Value}(hM:lvM seed h pre x args Z A){a:Act}(ha:Aty wS b5 o5 b6 o6 b10 o10 args a)
  (h5:wS.cell? ⟨b5,o5,none⟩=some (.int .i64 h)) (h6:wS.cell? ⟨b6,o6,none⟩=some (.int .i64 leaf)) (l5:b5<wS.heap.size)(l6:b6<wS.heap.size)(l10:b10<wS.heap.size)(n5:b5≠b10)(n6:b6≠b10)(m5:b5≠e0)(m6:b6≠e0)(m10:b10≠e0)(hD:wS.heap.size<=D):
  ∃β X0,X0.pt 0=some (b10,o10)∧X0.pn 0∧(∀b,X0.X b->Z b∧(b=b10∨D+2<=b∨b=e0)) ∧
   B4 48 A X0 (fun _=>False) β ⟨lk (Atu h leaf x (2 ^ (h-x)) (Af .u64 (Ep seed (2 ^ (h-x)) x))),B7 (OJ leaf chv pre.length (Af .u64 (pre.map fun k=>B5 seed k (Fy leaf k))))⟩ a A:=by
 obtain ⟨hx,_,b,o,cap,hargs,hcap,hbl,hbz,hcell⟩:=hM;obtain ⟨pv,hpv,hown,hpz⟩:=hI.path
 obtain ⟨q,hq⟩:∃q:Option (Nat × Nat),(q=none∧pre=[]∧pv=.slice none 0 0)∨∃pb po cap,q=some (pb,po)∧pv=.slice (some ⟨pb,po,none⟩) pre.length cap∧pre.length<=cap∧po+cap<=bsz A pb∧pb<A.heap.size∧(D+2<=pb∨pb=e0)∧Z pb∧(∀(j:Nat) y,(pre.map fun k=>B5 seed k (Fy leaf k))[j]?=some y->A.cell? ⟨pb,po+j,none⟩=some (.int .u64 y))∧∀j,po<=j->j<bsz A pb->A.frozen? ⟨pb,j,none⟩=false:=by
  rcases hown with ⟨h1,h2⟩|⟨pb,po,cap,h1,h2,h3,h4,h5,h6,h7⟩
  ·exact ⟨none,.inl ⟨rfl,by simpa using h1,h2⟩⟩
  ·rw [List.length_map] at h1 h2;exact ⟨some (pb,po),.inr ⟨pb,po,cap,rfl,h1,h2,h3,h4,h5,hpz _ _ _ _ h1,h6,h7⟩⟩
 obtain ⟨β,hβ⟩:∃β:Bt,β=fun id=>if id=96000 then some (b10,o10) else if id=20 then q else none:=⟨_,rfl⟩
 have e1:β 96000=some (b10,o10):=by rw [hβ];rfl
 have e2:β 20=q:=by rw [hβ];rfl
 obtain ⟨d,hd⟩:∃d,Af .u64 (pre.map fun k=>B5 seed k (Fy leaf k))=d:=⟨_,rfl⟩
 have hdl:d.length=pre.length:=by rw [←hd,Am,List.length_map]
 rw [hd]
 have hl0:∀id bx,B7 (OJ leaf chv pre.length d) id=some bx->(id=96000∧bx=.st [.sc (.int .i64 leaf),.sc chv,.view 20 1 0 pre.length])∨(id=20∧bx=.ar false d):=by
  intro id bx e;rcases Tj (OJ leaf chv pre.length d) id with h1|⟨p,hp,h1,h2⟩
  ·rw [h1] at e;cases e
  ·rw [h2] at e;cases e;simp only [List.mem_cons,List.not_mem_nil,or_false] at hp;rcases hp with rfl|rfl
   ·exact .inl ⟨h1.symm,rfl⟩
   ·exact .inr ⟨h1.symm,rfl⟩
 have hX:∀b,BV (B7 (OJ leaf chv pre.length d)) β b->b=b10∨∃po,q=some (b,po):=by
  rintro b' ⟨id,o',hl,hb⟩
  cases hh:B7 (OJ leaf chv pre.length d) id with
  |none=>rw [hh] at hl;exact hl.elim
  |some bx=>
   rcases hl0 id bx hh with ⟨rfl,_⟩|⟨rfl,_⟩
   ·rw [e1] at hb;cases hb;exact .inl rfl
   ·rw [e2] at hb;exact .inr ⟨o',hb⟩
 have hqz:∀b' po,q=some (b',po)->Z b'∧(D+2<=b'∨b'=e0)∧b'<A.heap.size:=by
  intro b' po e;rcases hq with ⟨h1,_⟩|⟨pb,po',cap',h1,h2,h3,h4,h5,h6,h7,h8,h9⟩
  ·rw [h1] at e;cases e
  ·rw [h1] at e;cases e;exact ⟨h7,h6,h5⟩
 have hAlo:∀b',b'<wS.heap.size->b'≠b10->b'≠e0->¬C1 (B7 (OJ leaf chv pre.length d)) β (fun _=>False) b':=by
  rintro b' hb hne hne0 (hx|hf)
  ·rcases hX b' hx with h1|⟨po,h1⟩
   ·exact hne h1
   ·rcases (hqz _ _ h1).2.1 with h2|h2
    ·omega
    ·exact hne0 h2
  ·exact hf
 have hsz:wS.heap.size<A.heap.size:=by have:=hI.size;omega
 refine ⟨β,_,e1,rfl,?_,B4.make (Atu h leaf x (2 ^ (h-x)) (Af .u64 (Ep seed (2 ^ (h-x)) x))) (OJ leaf chv pre.length d) a (fun i=>i=0) (fun i hi=>by omega) ha.dfr ha.size ?_ ?_ ?_ ?_ ?_ ?_ ?_ ?_ ?_ (fun _ h=>h.elim) (fun _ h=>h.elim)⟩
 ·intro b' hb;rcases hX b' hb with rfl|⟨po,h1⟩
  ·exact ⟨hI.zlo _ l10,.inl rfl⟩
  ·exact ⟨(hqz _ _ h1).1,.inr (hqz _ _ h1).2.1⟩
 ·intro p hp;simp only [List.mem_cons,List.not_mem_nil,or_false] at hp;rcases hp with rfl|rfl|rfl|rfl|rfl<;>simp
 ·intro p hp;simp only [List.mem_cons,List.not_mem_nil,or_false] at hp;rcases hp with rfl|rfl|rfl|rfl|rfl
  ·refine ⟨⟨b5,o5,none⟩,ha.t5,rfl,by show b5<_;omega,hAlo b5 l5 n5 m5,fun j c hj=>?_⟩
   match j,hj with
   |0,hj=>cases hj;exact ⟨_,(World.cell?_of_block (a:=⟨b5,o5,none⟩) (hI.keep b5 l5 n5 m5)).trans h5,rfl,A7.sc _⟩
  ·refine ⟨⟨b6,o6,none⟩,ha.t6,rfl,by show b6<_;omega,hAlo b6 l6 n6 m6,fun j c hj=>?_⟩
   match j,hj with
   |0,hj=>cases hj;exact ⟨_,(World.cell?_of_block (a:=⟨b6,o6,none⟩) (hI.keep b6 l6 n6 m6)).trans h6,rfl,A7.sc _⟩
  ·exact ⟨b10,o10,e1,ha.t10⟩
  ·show Dx _ _ _ (.sc (.int .i64 x)) (a.tmps.getD 11 undef);rw [ha.t11,hargs];exact A7.sc _
  ·show Dx _ _ _ (.lst false 1 _ _) (a.tmps.getD 12 undef);rw [ha.t12,hargs];refine A7.lst 1 _ _ ⟨b,o,none⟩ cap (fun j=>.int .u64 (B5 seed x j)) rfl hbl ?_ hcap ?_ (fun _ _ _=>rfl) ?_
   ·rintro (hx'|hf)
    ·rcases hX b hx' with h1|⟨po,h1⟩
     ·exact hbz (h1 ▸ hI.zlo _ l10)
     ·exact hbz (hqz _ _ h1).1
    ·exact hf
   ·intro j c hj;rw [D6];have hlt:j<(Af .u64 (Ep seed (2 ^ (h-x)) x)).length:=(List.getElem?_eq_some_iff.1 hj).1;rw [Am,KD] at hlt;exact hcell j hlt
   ·intro j c hj;have hlt:j<(Af .u64 (Ep seed (2 ^ (h-x)) x)).length:=(List.getElem?_eq_some_iff.1 hj).1;rw [Am,KD] at hlt;rw [Mf (S0 seed hlt)] at hj;cases hj;exact A7.sc _
 ·intro id bx e;rcases hl0 id bx e with ⟨rfl,rfl⟩|⟨rfl,rfl⟩
  ·refine ⟨b10,o10,e1,fun j c hj=>?_,fun j hj=>hI.fz j hj⟩
   match j,hj with
   |0,hj=>cases hj;exact ⟨_,hI.c0,A7.sc _⟩
   |1,hj=>cases hj;exact ⟨_,hI.c1,A7.sc _⟩
   |2,hj=>
    cases hj;refine ⟨_,hpv,?_⟩;rcases hq with ⟨h1,h2,h3⟩|⟨pb,po,cap',h1,h2,h3,h4,h5,h6,h7,h8,h9⟩
    ·exact .inl ⟨e2.trans h1,rfl,by rw [h2];rfl,h3⟩
    ·exact .inr ⟨pb,po,po,cap',e2.trans h1,h2,.inl rfl,h3,by omega,h5⟩
  ·rcases hq with ⟨h1,h2,h3⟩|⟨pb,po,cap',h1,h2,h3,h4,h5,h6,h7,h8,h9⟩
   ·exact .inl ⟨e2.trans h1,by rw [←hd,h2];rfl⟩
   ·refine .inr ⟨pb,po,e2.trans h1,fun j c hj=>?_,fun _=>h9,fun h=>by cases h⟩
    have hlt:j<d.length:=(List.getElem?_eq_some_iff.1 hj).1;have hlt':j<(pre.map fun k=>B5 seed k (Fy leaf k)).length:=by rw [List.length_map];omega
    rw [←hd,Mf (List.getElem?_eq_getElem hlt')] at hj;cases hj;rw [D6];exact ⟨_,h8 j _ (List.getElem?_eq_getElem hlt'),rfl,A7.sc _⟩
 ·intro id id' b1 o1 o2 g1 g2 g3 g4
  have hid:∀i,Cg (B7 (OJ leaf chv pre.length d) i)->i=96000∨i=20:=by
   intro i hi;cases hh:B7 (OJ leaf chv pre.length d) i with
   |none=>rw [hh] at hi;exact hi.elim
   |some bx=>exact (hl0 i bx hh).imp (·.1) (·.1)
  have hne:∀po po',β 96000=some (b1,po)->β 20=some (b1,po')->False:=by
   intro po po' f1 f2;rw [e1] at f1;rw [e2] at f2;cases f1;rcases (hqz _ _ f2).2.1 with h2|h2
   ·omega
   ·exact m10 h2
  rcases hid id g1 with rfl|rfl<;>rcases hid id' g2 with rfl|rfl
  ·rfl
  ·exact (hne _ _ g3 g4).elim
  ·exact (hne _ _ g4 g3).elim
  ·rfl
 ·intro id b1 o1 g1 g2;cases hh:B7 (OJ leaf chv pre.length d) id with
  |none=>exact absurd hh g1
  |some bx=>
   rcases hl0 id bx hh with ⟨rfl,_⟩|⟨rfl,_⟩
   ·rw [e1] at g2;cases g2;omega
   ·rw [e2] at g2;exact (hqz _ _ g2).2.2
 ·intro p hp id hid;simp only [List.mem_cons,List.not_mem_nil,or_false] at hp;rcases hp with rfl|rfl|rfl|rfl|rfl<;>simp [Bx,Cf,Ay] at hid
  subst hid;simp [B7]
 ·intro id cells e c hc i hi;rcases hl0 id _ e with ⟨rfl,e'⟩|⟨rfl,e'⟩
  ·cases e';simp only [List.mem_cons,List.not_mem_nil,or_false] at hc;rcases hc with rfl|rfl|rfl<;>simp [Ay] at hi
   subst hi;exact fun h0:some (Bn.ar false d)=none=>by cases h0
  ·cases e'
 ·intro i hi;subst hi;simp [B7,C6]
 ·intro id c e;rcases hl0 id _ e with ⟨rfl,e'⟩|⟨rfl,e'⟩
  ·exact ⟨0,rfl,rfl⟩
  ·cases e'
end
section
open Go.IntKind (wrap)
set_option maxRecDepth 20000
open Go Go.RowKit
theorem Aem:∀h:Nat,h<5->∀k:Nat,k<h->∀n:Nat,n<16->n<2 ^ h->0<=Fy (n:Int) k∧Fy (n:Int) k<((2 ^ (h-k):Nat):Int):=by decide +kernel
theorem Acl {wS:World}{D:Nat}{seed leaf:Int}{h b10 o10 e0:Nat}{chv:Value}{Z:Nat->Prop}{pre pre':List Nat}{A w':World}(hI:FW wS D seed leaf h b10 o10 e0 chv Z pre A){β':Bt}{X0:Fh}{a':Act}{m:Nat}{d:List PV}
  (hx1:X0.pt 0=some (b10,o10)) (hx2:X0.pn 0)(hX:∀b,X0.X b->Z b∧(b=b10∨D+2<=b∨b=e0)) (nD:D≠e0)(nD1:D+1≠e0)(l10:b10<wS.heap.size)(hD:wS.heap.size<=D)
  (hs:B4 48 A X0 (fun _=>False) β' ⟨lk [(10,.ptr 96000 0)],B7 [(96000,.st [.sc (.int .i64 leaf),.sc chv,.view 96144 1 0 m]),(96144,.ar false d)]⟩ a' w')
  (hm:m=pre'.length)(hd:d=Af .u64 (pre'.map fun k=>B5 seed k (Fy leaf k))) (hlt:∀x∈pre',x<h)(hZD:Z D)(hZD1:Z (D+1)):
  JM Z (fun b=>Z b∨(A.heap.size<=b∧b<w'.heap.size)) A w'∧w'.heap[D]?=A.heap[D]?∧w'.heap[D+1]?=A.heap[D+1]?∧FW wS D seed leaf h b10 o10 e0 chv (fun b=>Z b∨(A.heap.size<=b∧b<w'.heap.size)) pre' w':=by
 have hsz:=hI.size;have hst:=hs.fr.step
 have same:∀b,b<A.heap.size->b≠b10->b≠e0->b<D+2->w'.heap[b]?=A.heap[b]?:=fun b hb hn hn0 hl=>hst.keep b hb fun hx=>by
  rcases (hX b hx).2 with h1|h1|h1
  ·exact hn h1
  ·omega
  ·exact hn0 h1
 have hp:β' 96000=some (b10,o10):=(hs.pin 0 hx2).2.trans hx1;obtain ⟨b,o,g1,g2,g3⟩:=(show ∃b o,β' 96000=some (b,o)∧_∧_ from hs.box 96000 _ (rfl:_=some (Bn.st [.sc (.int .i64 leaf),.sc chv,.view 96144 1 0 m])))
 rw [hp] at g1;cases g1;obtain ⟨v0,q0,r0⟩:=g2 0 _ rfl;obtain ⟨v1,q1,r1⟩:=g2 1 _ rfl;obtain ⟨v2,q2,r2⟩:=g2 2 _ rfl;have r0:=A7.val r0;have r1:=A7.val r1;subst r0 r1;have hb2:=hs.box 96144 _ (rfl:_=some (Bn.ar false d))
 have hne:∀pb po,β' 96144=some (pb,po)->pb≠b10∧(Z pb∨(A.heap.size<=pb∧pb<w'.heap.size))∧(D+2<=pb∨pb=e0)∧pb<w'.heap.size:=by
  intro pb po e;have hlt:pb<w'.heap.size:=hs.blt 96144 pb po (fun h0:some (Bn.ar false d)=none=>by cases h0) e
  have hn:pb≠b10:=by
   intro e';subst e';have:=hs.inj 96000 96144 pb o10 po trivial trivial hp e;cases this
  rcases hs.ownd pb ⟨96144,po,trivial,e⟩ with h1|h1
  ·have h2:=hX pb h1;rcases h2.2 with h3|h3
   ·exact absurd h3 hn
   ·exact ⟨hn,.inl h2.1,h3,hlt⟩
  ·exact ⟨hn,.inr ⟨h1,hlt⟩,.inl (by omega),hlt⟩
 refine ⟨⟨hs.fr.os,hs.fr.tape,hs.fr.output,hst.size,fun b hb hn=>hst.keep b hb fun hx=>hn (hX b hx).1,fun b hb=>.inl hb,fun b hb=>hb.imp (fun x=>x) (·.1),fun b hb=>hb.elim (fun h1=>Nat.lt_of_lt_of_le (hI.zlt b h1) hst.size) (·.2),hst.bs⟩,
  same D (hI.zlt D hZD) (by omega) nD (by omega),same (D+1) (hI.zlt _ hZD1) (by omega) nD1 (by omega),?_⟩
 refine ⟨hs.fr.os.trans hI.os,hs.fr.tape.trans hI.tape,hs.fr.output.trans hI.output,by have:=hst.size;omega,fun b hb=>.inl (hI.zlo b hb),fun b hb=>hb.elim (fun h1=>Nat.lt_of_lt_of_le (hI.zlt b h1) hst.size) (·.2),fun b hb hn hn0=>(same b (by omega) hn hn0 (by omega)).trans (hI.keep b hb hn hn0),Nat.le_trans hI.bs (hst.bs b10 (by omega)),q0,q1,fun k hk=>g3 k hk,hlt,v2,q2,?_,?_⟩
 ·rcases r2 with ⟨f1,_,f3,f4⟩|⟨pb,po,xx,cap,f1,f2,f3,f4,f5,f6⟩
  ·have:pre'=[]:=List.length_eq_zero_iff.1 (by omega)
   exact .inl ⟨by rw [this];rfl,f4⟩
  ·rcases hb2 with ⟨e1,_⟩|⟨pb',po',e1,e2,e3,_⟩
   ·rw [f1] at e1;cases e1
   ·rw [f1] at e1;cases e1;have hxx:xx=po:=by omega
    subst hxx;refine .inr ⟨pb,xx,cap,by rw [f2,List.length_map,hm],by rw [List.length_map];omega,by omega,f6,(hne pb xx f1).2.2.1,fun j y hj=>?_,fun j hj hjb=>e3 rfl j hj hjb⟩
    obtain ⟨v,h1,_,h3⟩:=e2 j (.sc (.int .u64 y)) (by rw [hd];exact Mf hj)
    rw [D6] at h1;rw [h1,A7.val h3]
 ·intro pb po n cap e;rcases r2 with ⟨f1,_,f3,f4⟩|⟨pb',po',xx,cap',f1,f2,f3,f4,f5,f6⟩
  ·rw [f4] at e;cases e
  ·rw [f2] at e;cases e;exact (hne pb po' f1).2.1
def Aoc (wS:World)(D:Nat)(seed leaf:Int)(h b10 o10 e0:Nat)(chv:Value)(c:Code)(Z:Nat->Prop)(xs:List Nat)(B:World):Prop:=c=.exit 0∧∃pre,xs=pre++[h]∧FW wS D seed leaf h b10 o10 e0 chv Z pre B
theorem Aid {wS:World}{D:Nat}{seed leaf:Int}{h b5 o5 b6 o6 b10 o10 e0:Nat}{chv:Value}{Z:Nat->Prop}{pre:List Nat}{A:World}(hh:h<=4)(hl0:0<=leaf)(hl1:leaf<((2 ^ h:Nat):Int)) (hI:FW wS D seed leaf h b10 o10 e0 chv Z pre A){x:Nat}{args:Array Value}(hM:lvM seed h pre x args Z A){a:Act}(ha:Aty wS b5 o5 b6 o6 b10 o10 args a)
  (h5:wS.cell? ⟨b5,o5,none⟩=some (.int .i64 h)) (h6:wS.cell? ⟨b6,o6,none⟩=some (.int .i64 leaf)) (l5:b5<wS.heap.size)(l6:b6<wS.heap.size)(l10:b10<wS.heap.size)(n5:b5≠b10)(n6:b6≠b10)(m5:b5≠e0)(m6:b6≠e0)(m10:b10≠e0)(nD:D≠e0)(nD1:D+1≠e0)(hD:wS.heap.size<=D)(hZD:Z D)(hZD1:Z (D+1)):
  Abg.wpIn (WF (some (D+1))) 0 Tryz.prog (Abc D (FW wS D seed leaf h b10 o10 e0 chv) (Aoc wS D seed leaf h b10 o10 e0 chv) Z (pre++[x]) A) a A:=by
 obtain ⟨β,X0,hx1,hx2,hX,hs⟩:=Ahn hI hM ha h5 h6 l5 l6 l10 n5 n6 m5 m6 m10 hD;have hx:=hM.1;have hpl:pre.length<=1000:=by rw [hM.2.1,List.length_range];omega
 have hQo:∀a w,¬Abc D (FW wS D seed leaf h b10 o10 e0 chv) (Aoc wS D seed leaf h b10 o10 e0 chv) Z (pre++[x]) A .outgrown a w:=fun a w ⟨_,_,_,_,hf⟩=>hf
 by_cases hxh:x=h
 ·subst hxh;refine KX (Qw _ _) PO Dg (by kernel_rfl) hQo hs (t:=1) (L:=1024) (s1:=⟨lk [(10,.ptr 96000 0)],B7 [(96000,.st [.sc (.int .i64 leaf),.sc chv,.view 96144 1 0 pre.length]),(96144,.ar false (Af .u64 (pre.map fun k=>B5 seed k (Fy leaf k))))]⟩) ?_ ?_
  ·refine (Ajj cl x leaf x chv _ _ _ _).trans ?_;rw [show ((x:Int)==(x:Int))=true from beq_self_eq_true _]
   rfl
  ·intro a' w' β' hs';obtain ⟨k1,k2,k3,k4⟩:=Acl hI hx1 hx2 hX nD nD1 l10 hD hs' rfl rfl hI.lt hZD hZD1;exact ⟨_,k1,k2,k3,rfl,pre,rfl,k4⟩
 ·have hlt:x<h:=by omega
  obtain ⟨n,rfl⟩:∃n:Nat,leaf=n:=⟨leaf.toNat,by omega⟩
  have h16:2 ^ h<=16:=by
   have:2 ^ h<=2 ^ 4:=Nat.pow_le_pow_right (by omega) hh
   omega
  have sb:=Aem h (by omega) x hlt n (by omega) (by omega)
  have es:D1 .i64 (D8 .i64 (n:Int) (x:Int)) 1=Fy n x:=rfl;obtain ⟨y,hy⟩:∃y:Nat,Fy n x=y:=⟨(Fy n x).toNat,by omega⟩
  have at1:(Af .u64 (Ep seed (2 ^ (h-x)) x)).getD y .top=.sc (.int .u64 (B5 seed x (Fy n x))):=by
   rw [hy] at sb ⊢;exact Vg (S0 seed (by omega))
  have L:(Af .u64 (pre.map fun k=>B5 seed k (Fy n k))).length=pre.length:=by rw [Am,List.length_map]
  have T:List.take pre.length (Af .u64 (pre.map fun k=>B5 seed k (Fy n k)))=Af .u64 (pre.map fun k=>B5 seed k (Fy n k)):=Tp (by omega)
  have bq:((x:Int)==(h:Int))=false:=by
   rw [beq_eq_false_iff_ne];omega
  refine KX (Qw _ _) PO Dg (by kernel_rfl) hQo hs (t:=0) (L:=1024) (s1:=⟨lk [(10,.ptr 96000 0)],B7 [(96000,.st [.sc (.int .i64 n),.sc chv,.view 96144 1 0 (pre.length+1)]),(96144,.ar false (Af .u64 (pre.map fun k=>B5 seed k (Fy n k))++[.sc (.int .u64 (B5 seed x (Fy n x)))]))]⟩) ?_ ?_
  ·refine (Ajj cl h n x chv _ _ _ _).trans ?_;rw [bq];have t0:(0:Int)<=x:=by omega
   have t1:(0:Int)<=y:=by omega
   have t2:(y:Int)<((2 ^ (h-x):Nat):Int):=by omega
   have hn0:((pre.length+1)*8<=1099511627776):=by omega
   generalize 2 ^ (h-x)=nn at *
   simp (disch:=omega) only [Bz,es,hy,at1,L,T,Gu,B8]
  ·intro a' w' β' hs'
   obtain ⟨k1,k2,k3,k4⟩:=Acl (pre':=pre++[x]) hI hx1 hx2 hX nD nD1 l10 hD hs' (by simp) (by simp) (by
    intro z hz;rcases List.mem_append.1 hz with h1|h1
    ·exact hI.lt z h1
    ·rw [List.mem_singleton.1 h1];exact hlt) hZD hZD1
   exact ⟨_,k1,k2,k3,k4⟩
end
section
open Go.IntKind (wrap)
set_option maxRecDepth 20000
open Go Go.RowKit Go.Shelf
set_option maxHeartbeats 2000000 in
theorem Al8 (seed h:Int)(n:Nat)(w:World):CallsIn Fence.wide n Tryz.prog 77 #[.int .u64 seed,.int .i64 h] w fun e w'=>
  e=.returned (.func (.func 107) #[] #[.pointer (some ⟨w.heap.size+1,0,none⟩),.pointer (some ⟨w.heap.size,0,none⟩)])∧w'=(w.alloc (.cells #[.int .u64 seed] 22)).alloc (.cells #[.int .i64 h] 3):=by
 refine callsIn_of_wp Tryz.func77 rfl trivial ?_ rfl;simp only [Tryz.ntmps77,List.size_toArray,Jd,Zw,Nat.reduceAdd,Nat.reduceSub,Array.replicate_succ,Array.replicate_zero,List.push_toArray,List.append_toArray,Zzq,List.cons_append]
 gi_wp2
 go_ret
 exact ⟨rfl,rfl⟩
end
section
open Go.IntKind (wrap)
set_option maxRecDepth 20000
open Go Go.RowKit
theorem An6 {G:Vq}{P:Program}{f:FuncId}{v0 v1 v2 v3:Value}{vals:List PV}(hf:∃fn,P.funcs[f]?=some fn∧fn.body.isSome=true)
  (h:∀(w:World)(Y:Nat->Prop),(∀b,Y b->b<w.heap.size)->Calls P f #[v0,v1,v2,v3] w fun e w'=>∃vs own,e=.returned (Mj vs)∧Out w w' Y OD [.sc v0,.sc v1,.sc v2,.sc v3] own ⟨vals,[]⟩ vs):C9 G P f [.sc v0,.sc v1,.sc v2,.sc v3] ⟨vals,[]⟩:=by
 refine ⟨hf,fun w Y bt us hin _ _=>?_⟩
 have hus:us=[v0,v1,v2,v3]:=by
  have ha:=hin.args
  match us,ha with
  |[u0,u1,u2,u3],⟨h0,h1,h2,h3,_⟩=>
   rw [A7.val h0.2,A7.val h1.2,A7.val h2.2,A7.val h3.2]
 subst hus
 have hl:∀i q,bt i 0≠some q:=by
  intro i q e;obtain ⟨p,h1,h2⟩:=hin.l0 i q e
  match i,h1 with
  |0,h1=>cases h1;cases h2
  |1,h1=>cases h1;cases h2
  |2,h1=>cases h1;cases h2
  |3,h1=>cases h1;cases h2
 refine (h w Y hin.Ylt).mono ?_
 rintro e w' ⟨vs,own,rfl,ho⟩
 have hA:SK bt own Y=SK OD own Y:=by
  funext b
  apply propext;constructor
  ·rintro (h1|⟨i,o,h1⟩|h1)
   ·exact .inl h1
   ·exact absurd h1 (hl i _)
   ·exact .inr (.inr h1)
  ·rintro (h1|⟨i,o,h1⟩|h1)
   ·exact .inl h1
   ·cases h1
   ·exact .inr (.inr h1)
 refine ⟨vs,own,rfl,ho.os,ho.tape,ho.output,ho.ext.weaken (fun b _ hb=>absurd hb (Wt b)),fun b j hb _=>ho.rng b j hb ?_,by rw [hA];exact ho.vals,rfl,fun j b o hj=>⟨(ho.fresh j b o hj).1,fun hlt=>?_⟩,ho.inj⟩
 ·rintro ⟨i,p,_,⟨k,o,h1,_⟩|⟨o,ps,h1,_⟩⟩
  ·cases h1
  ·cases h1
 ·obtain ⟨⟨i,k,o',h1⟩,_⟩:=(ho.fresh j b o hj).2 hlt;cases h1
theorem B4.unbase {N:Nat}{we B w':World}{X XB:Fh}{Y YB:Nat->Prop}{β:Bt}{s:St}{a:Act}(h:B4 N B XB YB β s a w')(hY:∀b,Y b->YB b)(hYlt:∀b,Y b->b<we.heap.size)(hown:∀b,XB.X b->we.heap.size<=b)(hpn:∀i,¬X.pn i)
  (hos:B.os=we.os)(ht:B.tape=we.tape)(hou:B.output=we.output)(hsz:we.heap.size<=B.heap.size)(hk:∀b,b<we.heap.size->B.heap[b]?=we.heap[b]?):B4 N we X Y β s a w':=by
 have hX:∀b,BV s.hp β b->we.heap.size<=b:=fun b hb=>(h.ownd b hb).elim (hown b) (fun h1=>Nat.le_trans hsz h1)
 have hA:∀b,C1 s.hp β Y b->C1 s.hp β YB b:=fun b hb=>hb.imp (fun x=>x) (hY b)
 have hst:Cb (C1 s.hp β YB) w' w':=⟨Nat.le_refl _,fun _ _ _=>rfl,fun _ _=>Nat.le_refl _⟩
 have hkw:∀b,b<we.heap.size->w'.heap[b]?=we.heap[b]?:=fun b hb=>(h.fr.step.keep b (by omega) fun hx=>by have:=hown b hx;omega).trans (hk b hb)
 refine ⟨h.dfr,h.tsz,h.tmo,fun i hi=>(h.tms i hi).step hst (fun b _=>hA b) fun _ _=>rfl,fun id bx e=>(h.box id bx e).step' hA,h.inj,h.blt,h.wfT,h.wfB,fun b hb=>.inr (hX b hb),fun id bx b o h1 h2 h3 h4=>?_,fun i hi=>absurd hi (hpn i),fun id c b o h1 h2 h3=>?_,fun b hy=>h.Yx b (hY b hy),hYlt,
  ⟨h.fr.os.trans hos,h.fr.tape.trans ht,h.fr.output.trans hou,⟨Nat.le_trans hsz h.fr.step.size,fun b hb _=>hkw b hb,fun b hb=>by unfold bsz;rw [hkw b hb];exact Nat.le_refl _⟩,fun b j hb _=>⟨World.cell?_of_block (hkw b hb),frozen?_of_block (hkw b hb)⟩⟩⟩
 ·have:=hX b ⟨id,o,by rw [h1];exact h2,h3⟩
  omega
 ·have:=hX b ⟨id,o,by rw [h1];trivial,h2⟩
  omega
theorem FW.stay {wS:World}{D:Nat}{seed leaf:Int}{h b10 o10 e0:Nat}{chv:Value}{Z:Nat->Prop}{pre:List Nat}{A B:World}(hI:FW wS D seed leaf h b10 o10 e0 chv Z pre A)(l10:b10<wS.heap.size)(nD:D≠e0)(nD1:D+1≠e0)(hD:wS.heap.size<=D)(hs:Ym (fun b=>Z b∧b≠D∧b≠D+1) A B):FW wS D seed leaf h b10 o10 e0 chv Z pre B:=by
 have e:∀b,b<wS.heap.size->B.heap[b]?=A.heap[b]?:=fun b hb=>hs.same b ⟨hI.zlo b hb,by omega,by omega⟩
 have hb:bsz B b10=bsz A b10:=by unfold bsz;rw [e b10 l10]
 have hc:∀j,B.cell? ⟨b10,j,none⟩=A.cell? ⟨b10,j,none⟩:=fun j=>World.cell?_of_block (e b10 l10)
 obtain ⟨pv,p1,p2,p3⟩:=hI.path;refine ⟨hs.os.trans hI.os,hs.tape.trans hI.tape,hs.output.trans hI.output,Nat.le_trans hI.size hs.size,hI.zlo,fun b hz=>Nat.lt_of_lt_of_le (hI.zlt b hz) hs.size,fun b hb hn hn0=>(e b hb).trans (hI.keep b hb hn hn0),by rw [hb];exact hI.bs,(hc _).trans hI.c0,(hc _).trans hI.c1,fun k hk=>by rw [frozen?_of_block (e b10 l10)];exact hI.fz k hk,hI.lt,pv,(hc _).trans p1,?_,p3⟩
 rcases p2 with p2|⟨pb,po,cap,h1,h2,h3,h4,h5,h6,h7⟩
 ·exact .inl p2
 ·have hh:B.heap[pb]?=A.heap[pb]?:=hs.same pb ⟨p3 _ _ _ _ h1,by omega,by omega⟩
  have hbb:bsz B pb=bsz A pb:=by unfold bsz;rw [hh]
  exact .inr ⟨pb,po,cap,h1,h2,by rw [hbb];exact h3,Nat.lt_of_lt_of_le h4 hs.size,h5,fun j x hj=>(World.cell?_of_block (a:=⟨pb,po+j,none⟩) hh).trans (h6 j x hj),fun j hj hjb=>by rw [frozen?_of_block hh];exact h7 j hj (by rw [←hbb];exact hjb)⟩
end
section
open Go.IntKind (wrap)
set_option maxRecDepth 20000
open Go Go.RowKit
abbrev sgE (leaf:Int)(n1 n2:Nat)(c1 c2:List PV):List (Nat × PV):=[(8,.ptr 96000 0),(9,.sc (.int .i64 0)),(10,.iptr [.sc (.int .i64 leaf),.lst false 1 n1 c1,.lst false 1 n2 c2] 0)]
theorem Asa {wS:World}{D:Nat}{seed leaf:Int}{h b8 o8 b10 o10 e0:Nat}{chv:Value}{Z:Nat->Prop}{pre:List Nat}{B:World}{Y:Nat->Prop}{a:Act}{n1:Nat}{c1:List PV}(hB:FW wS D seed leaf h b10 o10 e0 chv Z pre B)
  (hd:a.defers=[]) (hsz:a.tmps.size=48)(t8:a.tmps.getD 8 undef=.pointer (some ⟨b8,o8,none⟩)) (t9:a.tmps.getD 9 undef=.int .i64 0)(t10:a.tmps.getD 10 undef=.pointer (some ⟨b10,o10,none⟩))
  (c8:∀j,j<3->∃v,B.cell? ⟨b8,o8+j,none⟩=some v)(f8:∀j,j<3->B.frozen? ⟨b8,o8+j,none⟩=false)(l8:b8<B.heap.size)(l10:b10<B.heap.size)(n8:b8≠b10)(y8:¬Y b8)(y10:¬Y b10)
  (hch:A7 B (fun b=>b=b8∨Y b) (.lst false 1 n1 c1) chv) (hch1:chv.oneCell'=true)(hp:∀pb,(D+2<=pb∨pb=e0)->pb≠b8∧¬Y pb) (hY:∀b,Y b->b<B.heap.size):
  ∃X0 β,(∀b,X0.X b->b=b8)∧B4 48 B X0 Y β ⟨lk (sgE leaf n1 pre.length c1 (Af .u64 (pre.map fun k=>B5 seed k (Fy leaf k)))),B7 [(96000,.st [.top,.top,.top])]⟩ a B:=by
 obtain ⟨pv,hpv,hown,hpz⟩:=hB.path;obtain ⟨β,hβ⟩:∃β:Bt,β=fun id=>if id=96000 then some (b8,o8) else none:=⟨_,rfl⟩
 have e1:β 96000=some (b8,o8):=by rw [hβ];rfl
 have hl0:∀id bx,B7 [(96000,Bn.st [.top,.top,.top])] id=some bx->id=96000∧bx=.st [.top,.top,.top]:=by
  intro id bx e;rcases Tj [(96000,Bn.st [.top,.top,.top])] id with h1|⟨p,hp,h1,h2⟩
  ·rw [h1] at e;cases e
  ·rw [h2] at e;cases e;simp only [List.mem_cons,List.not_mem_nil,or_false] at hp;subst hp;exact ⟨h1.symm,rfl⟩
 have hX:∀b,BV (B7 [(96000,Bn.st [.top,.top,.top])]) β b->b=b8:=by
  rintro b' ⟨id,o',hl,hb⟩
  cases hh:B7 [(96000,Bn.st [.top,.top,.top])] id with
  |none=>rw [hh] at hl;exact hl.elim
  |some bx=>
   obtain ⟨rfl,_⟩:=hl0 id bx hh;rw [e1] at hb;cases hb;rfl
 have hA:∀b,C1 (B7 [(96000,Bn.st [.top,.top,.top])]) β Y b->b=b8∨Y b:=fun b hb=>hb.imp (hX b) (fun x=>x)
 have hst:Cb (fun b=>b=b8∨Y b) B B:=⟨Nat.le_refl _,fun _ _ _=>rfl,fun _ _=>Nat.le_refl _⟩
 have one:pv.oneCell'=true:=by
  rcases hown with ⟨_,h2⟩|⟨pb,po,cap,h1,_⟩
  ·rw [h2];rfl
  ·rw [h1];rfl
 refine ⟨_,β,?_,B4.make (sgE leaf n1 pre.length c1 (Af .u64 (pre.map fun k=>B5 seed k (Fy leaf k)))) [(96000,.st [.top,.top,.top])] a (fun i=>i=0) (fun i hi=>by omega) hd hsz ?_ ?_ ?_ ?_ ?_ ?_ ?_ ?_ ?_ ?_ hY⟩
 ·exact hX
 ·intro p hp';simp only [List.mem_cons,List.not_mem_nil,or_false] at hp';rcases hp' with rfl|rfl|rfl<;>simp
 ·intro p hp';simp only [List.mem_cons,List.not_mem_nil,or_false] at hp';rcases hp' with rfl|rfl|rfl
  ·exact ⟨b8,o8,e1,t8⟩
  ·show Dx _ _ _ (.sc (.int .i64 0)) (a.tmps.getD 9 undef);rw [t9];exact A7.sc _
  ·refine ⟨⟨b10,o10,none⟩,t10,rfl,l10,fun hb=>?_,fun j c hj=>?_⟩
   ·rcases hA _ hb with h1|h1
    ·exact n8 h1.symm
    ·exact y10 h1
   ·match j,hj with
    |0,hj=>cases hj;exact ⟨_,hB.c0,rfl,A7.sc _⟩
    |1,hj=>cases hj;exact ⟨_,hB.c1,hch1,hch.step hst fun b _=>hA b⟩
    |2,hj=>
     cases hj;refine ⟨_,hpv,one,?_⟩;rcases hown with ⟨h1,h2⟩|⟨pb,po,cap,h1,h2,h3,h4,h5,h6,h7⟩
     ·rw [h2];have:pre=[]:=by simpa using h1
      subst this;exact A7.lnil _ _
     ·rw [h1,List.length_map];rw [List.length_map] at h2;refine A7.lst 1 _ _ ⟨pb,po,none⟩ cap (fun j=>.int .u64 ((pre.map fun k=>B5 seed k (Fy leaf k)).getD j 0)) rfl h4 (fun hb=>?_) h2 ?_ (fun _ _ _=>rfl) ?_
      ·have hh:=hp pb h5;rcases hA _ hb with h8|h8
       ·exact hh.1 h8
       ·exact hh.2 h8
      ·intro j c hj;have hlt:j<(Af .u64 (pre.map fun k=>B5 seed k (Fy leaf k))).length:=(List.getElem?_eq_some_iff.1 hj).1
       rw [Am] at hlt;rw [D6,h6 j _ (List.getElem?_eq_getElem hlt),List.getD_eq_getElem?_getD,List.getElem?_eq_getElem hlt];rfl
      ·intro j c hj;have hlt:j<(Af .u64 (pre.map fun k=>B5 seed k (Fy leaf k))).length:=(List.getElem?_eq_some_iff.1 hj).1
       rw [Am] at hlt;rw [Mf (List.getElem?_eq_getElem hlt)] at hj;cases hj;rw [List.getD_eq_getElem?_getD,List.getElem?_eq_getElem hlt];exact A7.sc _
 ·intro id bx e;obtain ⟨rfl,rfl⟩:=hl0 id bx e;refine ⟨b8,o8,e1,fun j c hj=>?_,fun j hj=>f8 j hj⟩
  have hlt:j<3:=(List.getElem?_eq_some_iff.1 hj).1;obtain ⟨v,hv⟩:=c8 j hlt
  match j,hj with
  |0,hj=>cases hj;exact ⟨v,hv,A7.top _⟩
  |1,hj=>cases hj;exact ⟨v,hv,A7.top _⟩
  |2,hj=>cases hj;exact ⟨v,hv,A7.top _⟩
 ·intro id id' b1 o1 o2 g1 g2 g3 g4
  have hid:∀i,Cg (B7 [(96000,Bn.st [.top,.top,.top])] i)->i=96000:=by
   intro i hi;cases hh:B7 [(96000,Bn.st [.top,.top,.top])] i with
   |none=>rw [hh] at hi;exact hi.elim
   |some bx=>exact (hl0 i bx hh).1
  rw [hid id g1,hid id' g2]
 ·intro id b1 o1 g1 g2;cases hh:B7 [(96000,Bn.st [.top,.top,.top])] id with
  |none=>exact absurd hh g1
  |some bx=>
   obtain ⟨rfl,_⟩:=hl0 id bx hh;rw [e1] at g2;cases g2;exact l8
 ·intro p hp' id hid;simp only [List.mem_cons,List.not_mem_nil,or_false] at hp';rcases hp' with rfl|rfl|rfl<;>simp [Bx,Cf,Ay] at hid
  subst hid;simp [B7]
 ·intro id cells e c hc i hi;obtain ⟨rfl,e'⟩:=hl0 id _ e;cases e';simp only [List.mem_cons,List.not_mem_nil,or_false] at hc;rcases hc with rfl|rfl|rfl<;>simp [Ay] at hi
 ·intro i hi;subst hi;simp [B7,C6]
 ·intro id c e;obtain ⟨rfl,_⟩:=hl0 id _ e;exact ⟨0,rfl,rfl⟩
 ·intro b hy hx;rw [hX b hx] at hy;exact y8 hy
end
section
open Go.IntKind (wrap)
set_option maxRecDepth 20000
open Go Go.RowKit
abbrev Ael (seed h leaf m:Int)(n:Nat)(c:List PV):St:=
  ⟨lk [(0,.sc (.int .u64 seed)),(3,.sc (.int .u64 m)),(5,.ptr 5 0),(6,.ptr 6 0),(8,.ptr 8 0),(9,.sc (.int .i64 0)),(10,.ptr 10 0),(27,.sc (.int .u64 seed)),(28,.sc (.int .i64 h))],
   B7 [(5,.st [.sc (.int .i64 h)]),(6,.st [.sc (.int .i64 leaf)]),(8,.st [.sc (.int .i64 0),.view 104 1 0 0,.view 152 1 0 0]),(104,.ar false []),(152,.ar false []),(10,.st [.sc (.int .i64 leaf),.view 106 1 0 n,.view 154 1 0 0]),(106,.ar false c),(154,.ar false [])]⟩
theorem B4.var {N:Nat}{w0:World}{X0:Fh}{Y:Nat->Prop}{β:Bt}{s:St}{a:Act}{w:World}(h:B4 N w0 X0 Y β s a w){i id:Nat}{cells:List PV}(hi:i<N)(ht:s.tm i=.ptr id 0)(hb:s.hp id=some (.st cells)):
  ∃b o,β id=some (b,o)∧a.tmps.getD i undef=.pointer (some ⟨b,o,none⟩)∧b<w.heap.size∧(∀j c,cells[j]?=some c->∃v,w.cell? ⟨b,o+j,none⟩=some v∧Cc w (C1 s.hp β Y) β c v)∧∀j,j<cells.length->w.frozen? ⟨b,o+j,none⟩=false:=by
 have h1:=h.tms i hi;rw [ht] at h1;obtain ⟨b,o,e1,e2⟩:=(show ∃b o,β id=some (b,o)∧a.tmps.getD i undef=.pointer (some ⟨b,o+0,none⟩) from h1)
 obtain ⟨b',o',e3,e4,e5⟩:=(show ∃b o,β id=some (b,o)∧_∧_ from h.box id _ hb)
 rw [e1] at e3;cases e3;exact ⟨b,o,e1,e2,h.blt id b o (by rw [hb];simp) e1,e4,e5⟩
structure Ats (w w4:World) (Y:Nat->Prop) (seed h leaf:Int) (c:List PV) (n:Nat) (a4:Act) (b5 o5 b6 o6 b8 o8 b10 o10 e0:Nat) (chv:Value):Prop where
 t5:a4.tmps.getD 5 undef=.pointer (some ⟨b5,o5,none⟩)
 t6:a4.tmps.getD 6 undef=.pointer (some ⟨b6,o6,none⟩)
 t8:a4.tmps.getD 8 undef=.pointer (some ⟨b8,o8,none⟩)
 t9:a4.tmps.getD 9 undef=.int .i64 0
 t10:a4.tmps.getD 10 undef=.pointer (some ⟨b10,o10,none⟩)
 t27:a4.tmps.getD 27 undef=.int .u64 seed
 t28:a4.tmps.getD 28 undef=.int .i64 h
 c5:w4.cell? ⟨b5,o5,none⟩=some (.int .i64 h)
 c6:w4.cell? ⟨b6,o6,none⟩=some (.int .i64 leaf)
 c8:∀j,j<3->∃v,w4.cell? ⟨b8,o8+j,none⟩=some v
 f8:∀j,j<3->w4.frozen? ⟨b8,o8+j,none⟩=false
 c10:w4.cell? ⟨b10,o10,none⟩=some (.int .i64 leaf)
 c11:w4.cell? ⟨b10,o10+1,none⟩=some chv
 f10:∀j,j<3->w4.frozen? ⟨b10,o10+j,none⟩=false
 l5:b5<w4.heap.size
 l6:b6<w4.heap.size
 l8:b8<w4.heap.size
 l10:b10<w4.heap.size
 le:e0<=w4.heap.size
 n5:b5≠b10
 n6:b6≠b10
 m5:b5≠e0
 m6:b6≠e0
 m10:b10≠e0
 n8:b8≠b10
 m8:b8≠e0
 y8:¬Y b8
 y10:¬Y b10
 ye:¬Y e0
 g10:w.heap.size<=b10
 ge:w.heap.size<=e0
 g8:w.heap.size<=b8
 one:chv.oneCell'=true
 ch:∀B:World,w4.heap.size<=B.heap.size->(∀b,b<w4.heap.size->b≠b10->b≠e0->B.heap[b]?=w4.heap[b]?)->A7 B (fun b=>b=b8∨Y b) (.lst false 1 n c) chv
 p0:∃v2,w4.cell? ⟨b10,o10+2,none⟩=some v2∧(v2=.slice none 0 0∨∃x cap,v2=.slice (some ⟨e0,x,none⟩) 0 cap∧x+cap<=bsz w4 e0∧e0<w4.heap.size∧∀j,x<=j->j<bsz w4 e0->w4.frozen? ⟨e0,j,none⟩=false)
theorem Ajh {w w4:World}{Y:Nat->Prop}{seed h leaf m:Int}{l:List Int}{n:Nat}{a4:Act}{X0:Fh}{β4:Bt}(hn:0<n)(hl:l.length=n)(hX:∀b,¬X0.X b)(hs:B4 48 w X0 Y β4 (Ael seed h leaf m n (Af .u64 l)) a4 w4):
  ∃b5 o5 b6 o6 b8 o8 b10 o10 e0 chv,Ats w w4 Y seed h leaf (Af .u64 l) n a4 b5 o5 b6 o6 b8 o8 b10 o10 e0 chv:=by
 obtain ⟨b5,o5,e5,t5,l5,k5,f5⟩:=hs.var (i:=5) (id:=5) (by decide) rfl rfl
 obtain ⟨b6,o6,e6,t6,l6,k6,f6⟩:=hs.var (i:=6) (id:=6) (by decide) rfl rfl
 obtain ⟨b8,o8,e8,t8,l8,k8,f8⟩:=hs.var (i:=8) (id:=8) (by decide) rfl rfl
 obtain ⟨b10,o10,e10,t10,l10,k10,f10⟩:=hs.var (i:=10) (id:=10) (by decide) rfl rfl
 obtain ⟨v5,q5,r5⟩:=k5 0 _ rfl;obtain ⟨v6,q6,r6⟩:=k6 0 _ rfl;obtain ⟨v80,q80,_⟩:=k8 0 _ rfl;obtain ⟨v81,q81,_⟩:=k8 1 _ rfl;obtain ⟨v82,q82,_⟩:=k8 2 _ rfl;obtain ⟨v0,q0,r0⟩:=k10 0 _ rfl;obtain ⟨v1,q1,r1⟩:=k10 1 _ rfl;obtain ⟨v2,q2,r2⟩:=k10 2 _ rfl;have r5:=A7.val r5;have r6:=A7.val r6;have r0:=A7.val r0;subst r5 r6 r0;have hb1:=hs.box 106 _ (rfl:_=some (Bn.ar false (Af .u64 l)));have hb2:=hs.box 154 _ (rfl:_=some (Bn.ar false []));have own:∀id b o,Cg ((Ael seed h leaf m n (Af .u64 l)).hp id)->β4 id=some (b,o)->w.heap.size<=b∧¬Y b:=fun id b o h1 h2=>⟨(hs.ownd b ⟨id,o,h1,h2⟩).elim (fun x=>absurd x (hX b)) (fun x=>x),fun hy=>hs.Yx b hy ⟨id,o,h1,h2⟩⟩
 have dif:∀id id' b b' o o',id≠id'->Cg ((Ael seed h leaf m n (Af .u64 l)).hp id)->Cg ((Ael seed h leaf m n (Af .u64 l)).hp id')->β4 id=some (b,o)->β4 id'=some (b',o')->b≠b':=fun id id' b b' o o' hne h1 h2 h3 h4 e=>by
  subst e;exact hne (hs.inj id id' b o o' h1 h2 h3 h4)
 obtain ⟨e0,he1,he2⟩:∃e0,(∀b o,β4 154=some (b,o)->e0=b)∧((∃o,β4 154=some (e0,o))∨e0=w4.heap.size):=by
  cases hq:β4 154 with
  |none=>exact ⟨w4.heap.size,fun b o h=>by (cases h),.inr rfl⟩
  |some q=>exact ⟨q.1,fun b o h=>by (cases h;rfl),.inl ⟨q.2,rfl⟩⟩
 have hlt4:w.heap.size<=w4.heap.size:=hs.fr.step.size
 have de:∀id b o,id≠154->Cg ((Ael seed h leaf m n (Af .u64 l)).hp id)->β4 id=some (b,o)->b<w4.heap.size->b≠e0:=fun id b o hne h1 h2 hlt e=>by
  rcases he2 with ⟨o',h3⟩|h3
  ·exact dif id 154 b e0 o o' hne h1 trivial h2 h3 e
  ·omega
 have ge:w.heap.size<=e0∧¬Y e0∧e0<=w4.heap.size:=by
  rcases he2 with ⟨o',h3⟩|h3
  ·have:=own 154 e0 o' trivial h3;exact ⟨this.1,this.2,Nat.le_of_lt (hs.blt 154 e0 o' (fun h0:some (Bn.ar false [])=none=>by cases h0) h3)⟩
  ·exact ⟨by omega,fun hy=>by have:=hs.Ylt e0 hy;omega,by omega⟩
 rcases r1 with ⟨_,_,h3,_⟩|⟨cb,co,x,cap,g1,g2,g3,g4,g5,g6⟩
 ·omega
 rcases hb1 with ⟨h7,_⟩|⟨cb',co',h7,h8,h9,_⟩
 ·rw [g1] at h7;cases h7
 rw [g1] at h7;cases h7;have hx:x=co:=by omega
 subst hx
 refine ⟨b5,o5,b6,o6,b8,o8,b10,o10,e0,v1,⟨t5,t6,t8,Ql (hs.tms 9 (by decide)),t10,Ql (hs.tms 27 (by decide)),Ql (hs.tms 28 (by decide)),q5,q6,fun j hj=>?_,fun j hj=>f8 j hj,q0,q1,fun j hj=>f10 j hj,l5,l6,l8,l10,ge.2.2,
  dif 5 10 _ _ _ _ (by decide) trivial trivial e5 e10,dif 6 10 _ _ _ _ (by decide) trivial trivial e6 e10,de 5 _ _ (by decide) trivial e5 l5,de 6 _ _ (by decide) trivial e6 l6,de 10 _ _ (by decide) trivial e10 l10,dif 8 10 _ _ _ _ (by decide) trivial trivial e8 e10,de 8 _ _ (by decide) trivial e8 l8,
  (own 8 _ _ trivial e8).2,(own 10 _ _ trivial e10).2,ge.2.1,(own 10 _ _ trivial e10).1,ge.1,(own 8 _ _ trivial e8).1,by rw [g2];rfl,fun B hB hk=>?_,v2,q2,?_⟩⟩
 ·match j,hj with
  |0,_=>exact ⟨v80,q80⟩
  |1,_=>exact ⟨v81,q81⟩
  |2,_=>exact ⟨v82,q82⟩
 ·have hsame:=hk cb g6 (dif 106 10 _ _ _ _ (by decide) trivial trivial g1 e10) (de 106 _ _ (by decide) trivial g1 g6)
  rw [g2];refine A7.lst 1 _ _ ⟨cb,x,none⟩ cap (fun j=>.int .u64 (l.getD j 0)) rfl (by show cb<_;omega) (fun hb=>?_) g4 (fun j c hj=>?_) (fun _ _ _=>rfl) (fun j c hj=>?_)
  ·rcases hb with hb|hb
   ·exact dif 106 8 _ _ _ _ (by decide) trivial trivial g1 e8 hb
   ·exact (own 106 _ _ trivial g1).2 hb
  ·have hlt:j<(Af .u64 l).length:=(List.getElem?_eq_some_iff.1 hj).1;rw [Am] at hlt;obtain ⟨v,k1,_,k3⟩:=h8 j _ (Mf (List.getElem?_eq_getElem hlt));rw [D6] at k1 ⊢;rw [World.cell?_of_block (a:=⟨cb,x+j,none⟩) hsame,k1,A7.val k3,List.getD_eq_getElem?_getD,List.getElem?_eq_getElem hlt];rfl
  ·have hlt:j<(Af .u64 l).length:=(List.getElem?_eq_some_iff.1 hj).1;rw [Am] at hlt;rw [Mf (List.getElem?_eq_getElem hlt)] at hj;cases hj;rw [List.getD_eq_getElem?_getD,List.getElem?_eq_getElem hlt];exact A7.sc _
 ·rcases r2 with ⟨_,_,_,h4⟩|⟨pb,po,x',cap',k1,k2,k3,k4,k5',k6'⟩
  ·exact .inl h4
  ·have he:=he1 pb po k1;subst he;rcases hb2 with ⟨h7,_⟩|⟨pb',po',h7,_,h9',_⟩
   ·rw [k1] at h7;cases h7
   ·rw [k1] at h7;cases h7;have hxx:x'=po:=by omega
    subst hxx;exact .inr ⟨x',cap',k2,by omega,k6',fun j hj hjb=>h9' rfl j hj hjb⟩
end
section
open Go.IntKind (wrap)
set_option maxRecDepth 20000
open Go Go.RowKit
noncomputable abbrev Ag5:Code:=sA (sB (sR (sL (sR (sR (sR JX))))))
theorem Ahb:∃o1 o2:Oper,Ag5=.seq (.region 5 #[o1] false) (.region 6 #[o2] false)∧(o1.op=.assign (.tmp 30)∧o1.dst=some 11∧o1.guard=none)∧(o2.op=.assign (.tmp 31)∧o2.dst=some 12∧o2.guard=none):=
 ⟨_,_,rfl,⟨rfl,rfl,rfl⟩,⟨rfl,rfl,rfl⟩⟩
theorem Ad6 {F:Fence}{n:Nat}{P:Program}{o:Oper}{x:Operand}{a:Act}{w:World}{next:Act->World->Prop}{Q:Exit->Act->World->Prop}(hF:∀f,F.fn f)(ho:o.op=.assign x)(h:next (a.put o.dst (a.eval x)) w):o.wpIn F n P a w next Q:=by
 refine ⟨fun f _=>hF f,?_⟩
 have e:o.semAt F.round a.eval=execOp a.eval o:=Oper.semAt_eq _ _ _ (by intro c hc;rw [ho] at hc;cases hc)
 rw [e]
 have r:(execOp a.eval o).run P w=.ok (.value (a.eval x)) w:=by
  unfold execOp;rw [ho];simp
 rw [r];exact h
theorem Adl {F:Fence}{n:Nat}{P:Program}{o:Oper}{x:Operand}{id:Nat}{a:Act}{w:World}{Q:Exit->Act->World->Prop}(hF:∀f,F.fn f)(ho:o.op=.assign x)(hg:o.guard=none)(h:Q .normal (a.put o.dst (a.eval x)) w):(Code.region id #[o] false).wpIn F n P Q a w:=by
 refine wpIn_region ?_;show wpOpsIn F n P #[o] Q [0] a w;unfold wpOpsIn;simp only [List.getElem?_toArray,List.getElem?_cons_zero,Region.wanted,hg,if_true];exact Ad6 hF ho h
theorem Gj {a:Act}{i j:Nat}{v:Value}(h:i≠j):(a.put (some i) v).tmps.getD j undef=a.tmps.getD j undef:=by
 show (a.tmps.setIfInBounds i v).getD j undef=_;simp [Array.getD_eq_getD_getElem?,Array.getElem?_setIfInBounds_ne h]
theorem MP {a:Act}{i:Nat}{v:Value}(h:i<a.tmps.size):(a.put (some i) v).tmps.getD i undef=v:=by
 show (a.tmps.setIfInBounds i v).getD i undef=_;simp [Array.getD_eq_getD_getElem?,h]
def sgA (a:Act)(args:Array Value):Act:=
 let r:Act:={ tmps:=((#[30,31]:Array Tmp).zip args).foldl (fun t (p,v)=>t.setIfInBounds p v) a.tmps,defers:=[] }
 let r1:=r.put (some 11) (r.eval (.tmp 30))
 r1.put (some 12) (r1.eval (.tmp 31))
theorem Ah0 {a:Act}{x y:Value}(hs:a.tmps.size=48):(sgA a #[x,y]).defers=[]∧(sgA a #[x,y]).tmps.size=48∧(sgA a #[x,y]).tmps.getD 5 undef=a.tmps.getD 5 undef∧(sgA a #[x,y]).tmps.getD 6 undef=a.tmps.getD 6 undef∧(sgA a #[x,y]).tmps.getD 10 undef=a.tmps.getD 10 undef ∧
  (sgA a #[x,y]).tmps.getD 11 undef=x∧(sgA a #[x,y]).tmps.getD 12 undef=y:=by
 obtain ⟨b,hb⟩:∃b:Act,({ tmps:=a.tmps,defers:=[] }:Act)=b:=⟨_,rfl⟩;have hbs:b.tmps.size=48:=by rw [←hb];exact hs
 have e:sgA a #[x,y]=(((b.put (some 30) x).put (some 31) y).put (some 11) (((b.put (some 30) x).put (some 31) y).eval (.tmp 30))).put (some 12) ((((b.put (some 30) x).put (some 31) y).put (some 11) (((b.put (some 30) x).put (some 31) y).eval (.tmp 30))).eval (.tmp 31)):=by
  rw [←hb];have z:((#[30,31]:Array Tmp).zip #[x,y]) = #[(30,x),(31,y)]:=by simp
  unfold sgA;rw [z];simp [Act.put]
 have ev:∀(c:Act) (t:Nat),c.eval (.tmp t)=c.tmps.getD t undef:=fun c t=>rfl
 have e30:((b.put (some 30) x).put (some 31) y).eval (.tmp 30)=x:=by rw [ev,Gj (by decide),MP (by omega)]
 rw [e,e30];have e31:(((b.put (some 30) x).put (some 31) y).put (some 11) x).eval (.tmp 31)=y:=by rw [ev,Gj (by decide),MP (by rw [I2];omega)]
 rw [e31];have hd:b.defers=[]:=by rw [←hb]
 have ht:b.tmps=a.tmps:=by rw [←hb]
 refine ⟨by simp only [Mb,hd],by simp only [I2,hbs],?_,?_,?_,?_,?_⟩
 ·rw [Gj (by decide),Gj (by decide),Gj (by decide),Gj (by decide),ht]
 ·rw [Gj (by decide),Gj (by decide),Gj (by decide),Gj (by decide),ht]
 ·rw [Gj (by decide),Gj (by decide),Gj (by decide),Gj (by decide),ht]
 ·rw [Gj (by decide),MP (by simp only [I2];omega)]
 ·rw [MP (by simp only [I2];omega)]
theorem Alx {w w4 w5:World}{Y:Nat->Prop}{seed leaf:Int}{h:Nat}{c:List PV}{n:Nat}{a4 a5:Act}{b5 o5 b6 o6 b8 o8 b10 o10 e0:Nat}{chv:Value}(hh:h<=4)(hl0:0<=leaf)(hl1:leaf<((2 ^ h:Nat):Int)) (hp:Ats w w4 Y seed h leaf c n a4 b5 o5 b6 o6 b8 o8 b10 o10 e0 chv)
  (hsz:a4.tmps.size=48)(hw5:w5=(w4.alloc (.cells #[.int .u64 seed] 22)).alloc (.cells #[.int .i64 h] 3))
  (ha5:a5=a4.put (some 29) (.func (.func 107) #[] #[.pointer (some ⟨w4.heap.size+1,0,none⟩),.pointer (some ⟨w4.heap.size,0,none⟩)])) {K:Act->World->Prop}{Q:Exit->Act->World->Prop}
  (hK:∀Z B,FW w4 (w4.heap.size+2) seed leaf h b10 o10 e0 chv Z (List.range h) B->B.heap[w4.heap.size+2]?=some (.deferred (some []))->K { a5 with defers:={ target:=.collected (w4.heap.size+2),args:= #[] }::a5.defers } B):
  (Code.block 0 (.rangeFunc (.tmp 29) #[30,31] Ag5 Abg)).wpIn Fence.wide 0 Tryz.prog (Exit.then K Q) a5 w5:=by
 have hs5:w5.heap.size=w4.heap.size+2:=by rw [hw5,World.size_alloc,World.size_alloc]
 have hold:∀b,b<w4.heap.size->w5.heap[b]?=w4.heap[b]?:=fun b hb=>by
  rw [hw5];exact (Below.heap_alloc _ _ _ (by simp;omega)).trans (Below.heap_alloc _ _ _ hb)
 have hB1:w5.heap[w4.heap.size+1]?=some (.cells #[.int .i64 h] 3):=by
  rw [hw5];have:=World.alloc_heap_new (w4.alloc (.cells #[.int .u64 seed] 22)) (.cells #[.int .i64 h] 3);rwa [World.size_alloc] at this
 have hB0:w5.heap[w4.heap.size]?=some (.cells #[.int .u64 seed] 22):=by
  rw [hw5];exact (Below.heap_alloc _ _ _ (by simp)).trans (World.alloc_heap_new w4 _)
 have hs5':a5.tmps.size=48:=by rw [ha5,I2];exact hsz
 have g5:a5.tmps.getD 5 undef=.pointer (some ⟨b5,o5,none⟩):=by rw [ha5,Gj (by decide)];exact hp.t5
 have g6:a5.tmps.getD 6 undef=.pointer (some ⟨b6,o6,none⟩):=by rw [ha5,Gj (by decide)];exact hp.t6
 have g10:a5.tmps.getD 10 undef=.pointer (some ⟨b10,o10,none⟩):=by rw [ha5,Gj (by decide)];exact hp.t10
 have g29:a5.eval (.tmp 29)=.func (.func 107) #[] #[.pointer (some ⟨w4.heap.size+1,0,none⟩),.pointer (some ⟨w4.heap.size,0,none⟩)]:=by
  show a5.tmps.getD 29 undef=_;rw [ha5,MP (by omega)]
 have nD:w4.heap.size+2≠e0:=by have:=hp.le;omega
 have nD1:w4.heap.size+2+1≠e0:=by have:=hp.le;omega
 have WC:=Alk (seed:=seed) (h:=h) (Bh:=w4.heap.size+1) (Bs:=w4.heap.size) hh
 refine wpIn_block (Ad5 (Z0:=fun b=>b<w4.heap.size) g29 (enters_of Tryz.func107 (by kernel_rfl) rfl) WC (fun b hb=>by omega) (fun W hW hk=>?_) (fun pre x args Z A B hm h1 h2=>Aje hm h1 h2) (fun pre x args Z A hm=>Ahj hm)
  (FW w4 (w4.heap.size+2) seed leaf h b10 o10 e0 chv) (Aoc w4 (w4.heap.size+2) seed leaf h b10 o10 e0 chv) ?_ ?_ ?_ (sgA a5) ?_ ?_ ?_ ?_)
 ·have k1:=hk (w4.heap.size+1) (by omega)
  have k0:=hk w4.heap.size (by omega)
  refine ⟨(World.cell?_of_block (a:=⟨w4.heap.size+1,0,none⟩) k1).trans ?_,(World.cell?_of_block (a:=⟨w4.heap.size,0,none⟩) k0).trans ?_,by omega,by omega,?_,?_⟩
  ·unfold World.cell?;rw [hB1];rfl
  ·unfold World.cell?;rw [hB0];rfl
  ·rintro (h1|h1|h1)<;>omega
  ·rintro (h1|h1|h1)<;>omega
 ·intro Z pre A B hI hs;rw [hs5] at hs;exact hI.stay hp.l10 nD nD1 (by omega) hs
 ·rintro c' Z pre A B ⟨h1,pre',h2,hI⟩ hs
  rw [hs5] at hs;exact ⟨h1,pre',h2,hI.stay hp.l10 nD nD1 (by omega) hs⟩
 ·intro W hW hst;have e:∀b,b<w4.heap.size->W.heap[b]?=w4.heap[b]?:=fun b hb=>(hst.same b (by omega)).trans (hold b hb)
  have o5:w5.os=w4.os∧w5.tape=w4.tape∧w5.output=w4.output:=by rw [hw5];exact ⟨rfl,rfl,rfl⟩
  obtain ⟨v2,p1,p2⟩:=hp.p0;refine ⟨hst.os.trans o5.1,hst.tape.trans o5.2.1,hst.output.trans o5.2.2,by omega,fun b hb=>.inl hb,fun b hb=>by rcases hb with hb|hb|hb<;>omega,fun b hb _ _=>e b hb,by unfold bsz;rw [e b10 hp.l10];exact Nat.le_refl _,(World.cell?_of_block (e b10 hp.l10)).trans hp.c10,(World.cell?_of_block (e b10 hp.l10)).trans hp.c11,fun k hk=>by rw [frozen?_of_block (e b10 hp.l10)];exact hp.f10 k hk,(fun x hx=>by cases hx),v2,(World.cell?_of_block (e b10 hp.l10)).trans p1,?_,?_⟩
  ·rcases p2 with p2|⟨x,cap,q1,q2,q3,q4⟩
   ·exact .inl ⟨rfl,p2⟩
   ·have hb:bsz W e0=bsz w4 e0:=by unfold bsz;rw [e e0 q3]
    exact .inr ⟨e0,x,cap,q1,Nat.zero_le _,by rw [hb];exact q2,by omega,.inr rfl,fun j y hj=>(by cases hj),fun j hj hjb=>by rw [frozen?_of_block (e e0 q3)];exact q4 j hj (by rw [←hb];exact hjb)⟩
  ·intro pb po k cap' hv;rcases p2 with p2|⟨x,cap,q1,q2,q3,q4⟩
   ·rw [p2] at hv;cases hv
   ·rw [q1] at hv;cases hv;exact .inl q3
 ·intro pre x args Z A K' hm hk;obtain ⟨o1,o2,e,⟨a1,a2,a3⟩,⟨c1,c2,c3⟩⟩:=Ahb;refine CC e (wpIn_seq (Adl (fun _=>trivial) a1 a3 ?_))
  show (Code.region 6 #[o2] false).wpIn _ _ _ _ _ _;refine Adl (fun _=>trivial) c1 c3 ?_
  rw [a2,c2];exact hk
 ·intro Z pre x args A hZ1 hZ2 hI hm;rw [hs5] at hZ1 hZ2 ⊢;obtain ⟨hx,_,bb,oo,cc,hargs,_⟩:=id hm;have sp:=Ah0 (a:=a5) (x:=.int .i64 x) (y:=.slice (some ⟨bb,oo,none⟩) (2 ^ (h-x):Nat) cc) hs5';rw [←hargs] at sp;refine Aid hh hl0 hl1 hI hm ⟨sp.1,sp.2.1,sp.2.2.1.trans g5,sp.2.2.2.1.trans g6,sp.2.2.2.2.1.trans g10,?_,?_⟩ hp.c5 hp.c6 hp.l5 hp.l6 hp.l10 hp.n5 hp.n6 hp.m5 hp.m6 hp.m10 nD nD1 (by omega) hZ1 hZ2
  ·rw [sp.2.2.2.2.2.1,hargs];rfl
  ·rw [sp.2.2.2.2.2.2,hargs];rfl
 ·intro Z xs B hS hI _;subst hS;have:=hI.lt h (by simp)
  omega
 ·rintro c' Z xs B ⟨k,hk⟩ ⟨rfl,pre,hpre,hI⟩ hdf
  have hrg:pre=List.range h:=by
   rw [hpre,List.range_succ] at hk;have:=List.append_inj' hk rfl;have h2:h=k:=by simpa using this.2
   rw [this.1,h2]
  subst hrg;rw [hs5] at hdf ⊢;refine wpIn_exit ?_;simp only [Exit.inBlock,if_true];exact hK Z B hI hdf
end
section
open Go.IntKind (wrap)
set_option maxRecDepth 20000
open Go Go.RowKit
theorem Asv:JX=.seq (sL JX) (.seq (sL (sR JX)) (.seq (sL (sR (sR JX))) (.seq (.seq (.region 4 (Mt (sL (sL (sR (sR (sR JX)))))) false) (.block 0 (.rangeFunc (.tmp 29) #[30,31] Ag5 Abg))) (.seq (.region 9 (Mt (sL (sR (sR (sR (sR JX)))))) false) .ret)))):=by kernel_rfl
theorem Aud:∃ty pos aft x,(Mt (sL (sL (sR (sR (sR JX))))))[2]?=some { dst:=some 29,op:=.call { callee:=.value (.func 77),args:= #[.tmp 27,.tmp 28],argTypes:=x },type:=ty,pos:=pos,after:=aft,guard:=none }:=
 ⟨_,_,_,_,rfl⟩
theorem VU {P:Program}{ops:Array Oper}{Q Q':Exit->Act->World->Prop}{n id:Nat}{ds:List Deferred}{a:Act}{w:World}(h:wpOpsIn (WF none) n P ops Q' (List.range ops.size) a w) (hq:∀e a w,TD ds Q' e a w->Q e a w):(Code.region id ops false).wpIn Fence.wide n P Q (Um ds a) w:=
 wpIn_mono (wpIn_region (F:=Fence.wide) (Tq _ h)) hq
abbrev A4z (seed h leaf m:Int):St:=
  ⟨lk [(0,.sc (.int .u64 seed)),(3,.sc (.int .u64 m)),(5,.ptr 5 0),(6,.ptr 6 0),(8,.ptr 8 0),(9,.sc (.int .i64 0))],
   B7 [(5,.st [.sc (.int .i64 h)]),(6,.st [.sc (.int .i64 leaf)]),(8,.st [.sc (.int .i64 0),.view 104 1 0 0,.view 152 1 0 0]),(104,.ar false []),(152,.ar false [])]⟩
abbrev Azm (seed h leaf m:Int)(n:Nat)(c:List PV):St:=
  ⟨lk [(0,.sc (.int .u64 seed)),(3,.sc (.int .u64 m)),(5,.ptr 5 0),(6,.ptr 6 0),(8,.ptr 8 0),(9,.sc (.int .i64 0)),(10,.ptr 10 0)],
   B7 [(5,.st [.sc (.int .i64 h)]),(6,.st [.sc (.int .i64 leaf)]),(8,.st [.sc (.int .i64 0),.view 104 1 0 0,.view 152 1 0 0]),(104,.ar false []),(152,.ar false []),(10,.st [.sc (.int .i64 leaf),.view 106 1 0 n,.view 154 1 0 0]),(106,.ar false c),(154,.ar false [])]⟩
abbrev Arq (leaf:Int)(n1 n2:Nat)(c1 c2:List PV):St:=⟨lk [(8,.ptr 96000 0),(9,.sc (.int .i64 0))],B7 [(96000,.st [.sc (.int .i64 leaf),.lst false 1 n1 c1,.lst false 1 n2 c2])]⟩
theorem Aan {h leaf:Int}(hb:JT h leaf=false):Dh h=false∧Ip leaf h=false∧∃H:Nat,h=H∧H<=4∧0<=leaf∧leaf<((2 ^ H:Nat):Int):=by
 unfold JT at hb;rw [Bool.or_eq_false_iff] at hb;refine ⟨hb.1,hb.2,h.toNat,?_⟩;have h1:=hb.1;have h2:=hb.2;unfold Dh at h1;unfold Ip at h2;rw [Bool.or_eq_false_iff,decide_eq_false_iff_not,decide_eq_false_iff_not] at h1 h2;have h3:h=(h.toNat:Int):=by omega
 have h4:=Anc (h:=h.toNat) (by omega)
 rw [←h3] at h4;rw [h4] at h2;exact ⟨h3,by omega,by omega,by omega⟩
theorem Ald {G:Vq}{seed h leaf m:Int}(hb:JT h leaf=false):C9 G Tryz.prog 37 [.sc (.int .u64 seed),.sc (.int .i64 h),.sc (.int .i64 leaf),.sc (.int .u64 m)]
  ⟨[.agg [.sc (.int .i64 leaf),.lst false 1 18 (Af .u64 (I3 seed leaf m)),.lst false 1 h.toNat (Af .u64 ((List.range h.toNat).map fun k=>B5 seed k (Fy leaf k)))],.sc (.int .i64 0)],[]⟩:=by
 obtain ⟨hhi,hou,H,rfl,hh,hl0,hl1⟩:=Aan hb;refine An6 ⟨_,Tryz.func37,rfl⟩ fun w Y hY=>?_
 have hk0:Afp Tryz.prog 48 0 Tryz.f37.params.toList [.sc (.int .u64 seed),.sc (.int .i64 H),.sc (.int .i64 leaf),.sc (.int .u64 m)] (fun tms bs=>some (tms,bs))=some ([(0,.sc (.int .u64 seed)),(1,.sc (.int .i64 H)),(2,.sc (.int .i64 leaf)),(3,.sc (.int .u64 m))],[]):=by kernel_rfl
 have hin:Ins w Y OD [.sc (.int .u64 seed),.sc (.int .i64 H),.sc (.int .i64 leaf),.sc (.int .u64 m)] [.int .u64 seed,.int .i64 H,.int .i64 leaf,.int .u64 m]:=
  ⟨hY,fun b _=>Wt b,fun b x=>(Wt b x).elim,fun _ _ _ _ _ _ _ x=>(by cases x),fun _ _ x=>(by cases x),⟨.inl trivial,A7.sc _⟩,⟨.inl trivial,A7.sc _⟩,⟨.inl trivial,A7.sc _⟩,⟨.inl trivial,A7.sc _⟩,trivial⟩
 obtain ⟨tms,bs,hk1,hst⟩:=QZ hin hk0;cases hk1;obtain ⟨h8,β0,hs0⟩:=hst rfl (by simp)
 refine callsIn_wide.1 (callsIn_of_wp_marks (F:=Fence.wide) (n:=0) Tryz.func37 rfl trivial ?_ rfl);have t1:({ tmps:= #[Value.int .u64 seed,.int .i64 H,.int .i64 leaf,.int .u64 m]++Array.replicate (Tryz.f37.ntmps-(#[Value.int .u64 seed,.int .i64 H,.int .i64 leaf,.int .u64 m]).size) undef,defers:=[] }:Act)={ tmps:=[Value.int .u64 seed,.int .i64 H,.int .i64 leaf,.int .u64 m].toArray++Array.replicate (48-[Value.int .u64 seed,.int .i64 H,.int .i64 leaf,.int .u64 m].toArray.size) undef,defers:=[] }:=by kernel_rfl
 rw [t1];show JX.wpIn _ _ _ _ _ _;generalize ({ tmps:=[Value.int .u64 seed,.int .i64 H,.int .i64 leaf,.int .u64 m].toArray++Array.replicate (48-[Value.int .u64 seed,.int .i64 H,.int .i64 leaf,.int .u64 m].toArray.size) undef,defers:=[] }:Act)=a0 at hs0 ⊢;have hXn:∀b,¬(JE OD [.sc (.int .u64 seed),.sc (.int .i64 H),.sc (.int .i64 leaf),.sc (.int .u64 m)] h8).X b:=Wt;refine CC Asv (wpIn_seq (wpIn_wide.2 (Ed (Qw _ _) PO Dg hs0 (Aqh cl seed H leaf m) ?_)));intro a1 w1 β1 hs1;have eh:cl Ku [.sc (.int .i64 H)]=_:=Ui (xs:=noX) (fu:=2000) (d:=7) (H:Int);have eo:cl H0 [.sc (.int .i64 leaf),.sc (.int .i64 H)]=_:=Px (xs:=noX) (fu:=2000) (d:=7) leaf H (by omega)
 have es:cl P8 [.sc (.int .u64 seed),.sc (.int .i64 leaf),.sc (.int .u64 m)]=_:=Alg (xs:=noX) (fu:=2000) (d:=1) (by omega) seed leaf m
 refine wpIn_seq (wpIn_wide.2 (Ed (Qw _ _) PO Dg hs1 (L:=873) (t:=0) (s1:=A4z seed H leaf m) ?_ ?_))
 ·refine (Aoi cl seed H leaf m).trans ?_;simp only [Bz,eh,eo,hhi,hou]
 intro a2 w2 β2 hs2;refine wpIn_seq (wpIn_wide.2 (Ed (Qw _ _) PO Dg hs2 (L:=1897) (t:=0) (s1:=Azm seed H leaf m 18 (Af .u64 (I3 seed leaf m))) ?_ ?_))
 ·refine (Ash cl seed H leaf m).trans ?_;simp only [Bz,es]
 intro a3 w3 β3 hs3;refine wpIn_seq (wpIn_seq (wpIn_region ?_));have hl:List.range (Mt (sL (sL (sR (sR (sR JX)))))).size=[0,1]++[2]:=by kernel_rfl
 rw [hl];refine M0 (ro:=none) (C:=CB) (call:=cl) (r:=((0:Nat),Ael seed H leaf m 18 (Af .u64 (I3 seed leaf m)))) (Qw _ _) Dg ?_ [0,1] (List.take 2 (Mt (sL (sL (sR (sR (sR JX)))))).toList) (by kernel_rfl) ?_ (by kernel_rfl) hs3 (Apz cl seed H leaf m 18 _)
 rotate_left
 ·intro j i hj
  match j,hj with
  |0,hj=>cases hj;rfl
  |1,hj=>cases hj;rfl
 intro s' a4 w4 β4 hk4 hs4;obtain ⟨β5,s5,hk5,hs5⟩:=Do hs4 hk4;cases hk5;obtain ⟨b5,o5,b6,o6,b8,o8,b10,o10,e0,chv,hp⟩:=Ajh (l:=I3 seed leaf m) (n:=18) (by omega) (by simp [I3]) hXn hs5
 obtain ⟨ty,pos,aft,x,ho⟩:=Aud;rw [wpOpsIn_cons];unfold wpOpIn;rw [ho];simp only [Region.wanted,if_true];refine ⟨fun _ _=>trivial,?_⟩
 rw [show Oper.semAt (WF none).round a4.eval { dst:=some 29,op:=.call { callee:=.value (.func 77),args:= #[.tmp 27,.tmp 28],argTypes:=x },type:=ty,pos:=pos,after:=aft,guard:=none }=execOp a4.eval { dst:=some 29,op:=.call { callee:=.value (.func 77),args:= #[.tmp 27,.tmp 28],argTypes:=x },type:=ty,pos:=pos,after:=aft,guard:=none } from rfl,
  MZ (o:={ dst:=some 29,op:=.call { callee:=.value (.func 77),args:= #[.tmp 27,.tmp 28],argTypes:=x },type:=ty,pos:=pos,after:=aft,guard:=none }) rfl rfl ngT Tryz.func77 rfl]
 have e27:a4.eval (.tmp 27)=.int .u64 seed:=hp.t27;have e28:a4.eval (.tmp 28)=.int .i64 H:=hp.t28;simp only [List.map_toArray,Zzw,List.map_nil,e27,e28];refine ⟨(fun h=>by cases h),(Al8 seed H _ w4).mono ?_⟩
 rintro e w5 ⟨rfl,hw5⟩
 refine Alx (w:=w) (Y:=Y) hh hl0 hl1 hp hs5.tsz hw5 rfl ?_;intro Z B hRI hdf;obtain ⟨a5,ha5⟩:∃a5,a4.put (some 29) (.func (.func 107) #[] #[.pointer (some ⟨w4.heap.size+1,0,none⟩),.pointer (some ⟨w4.heap.size,0,none⟩)])=a5:=⟨_,rfl⟩;rw [ha5];have hd5:a5.defers=[]:=by rw [←ha5,Mb];exact hs5.dfr
 have hz5:a5.tmps.size=48:=by rw [←ha5,I2];exact hs5.tsz
 have ea:({ a5 with defers:={ target:=.collected (w4.heap.size+2),args:= #[] }::a5.defers }:Act)=Um [{ target:=.collected (w4.heap.size+2),args:= #[] }] a5:=by unfold Um;rw [hd5];rfl
 rw [ea];have hsB:w4.heap.size<=B.heap.size:=by have:=hRI.size;omega
 have hkB:∀b,b<w4.heap.size->b≠b10->b≠e0->B.heap[b]?=w4.heap[b]?:=hRI.keep;have h8B:=hkB b8 hp.l8 hp.n8 hp.m8
 obtain ⟨XB,βB,hXB,hB⟩:=Asa (Y:=Y) (a:=a5) (b8:=b8) (o8:=o8) (n1:=18) (c1:=Af .u64 (I3 seed leaf m)) hRI hd5 hz5 (by rw [←ha5,Gj (by decide)];exact hp.t8) (by rw [←ha5,Gj (by decide)];exact hp.t9) (by rw [←ha5,Gj (by decide)];exact hp.t10)
  (fun j hj=>by rw [World.cell?_of_block (a:=⟨b8,o8+j,none⟩) h8B];exact hp.c8 j hj) (fun j hj=>by rw [frozen?_of_block h8B];exact hp.f8 j hj) (Nat.lt_of_lt_of_le hp.l8 hsB) (Nat.lt_of_lt_of_le hp.l10 hsB) hp.n8 hp.y8 hp.y10 (hp.ch B hsB hkB) hp.one
  (fun pb hpb=>by
   rcases hpb with hpb|hpb
   ·have:=hp.l8;exact ⟨by omega,fun hy=>by have:=hY pb hy;have:=hs5.fr.step.size;omega⟩
   ·rw [hpb];exact ⟨fun e=>hp.m8 e.symm,hp.ye⟩)
  (fun b hb=>by have:=hY b hb;have:=hs5.fr.step.size;omega)
 rw [List.length_range] at hB;refine wpIn_seq (VU (Q':=fun e a' w'=>e=.normal∧∃β',B4 48 B XB Y β' (Arq leaf 18 H (Af .u64 (I3 seed leaf m)) (Af .u64 ((List.range H).map fun k=>B5 seed k (Fy leaf k)))) a' w') ?_ ?_)
 ·have hl9:List.range (Mt (sL (sR (sR (sR (sR JX)))))).size=[0,1,2]++[]:=by kernel_rfl
  rw [hl9];refine M0 (ro:=none) (C:=CB) (call:=cl) (r:=((0:Nat),Arq leaf 18 H (Af .u64 (I3 seed leaf m)) (Af .u64 ((List.range H).map fun k=>B5 seed k (Fy leaf k))))) (Qw _ _) Dg ?_ [0,1,2] (Mt (sL (sR (sR (sR (sR JX)))))).toList (by kernel_rfl) ?_ (by kernel_rfl) hB (Asn cl leaf 18 H _ _)
  rotate_left
  ·intro j i hj
   match j,hj with
   |0,hj=>cases hj;rfl
   |1,hj=>cases hj;rfl
   |2,hj=>cases hj;rfl
  intro s6 a6 w6 β6 hk6 hs6;obtain ⟨β7,s7,hk7,hs7⟩:=Do hs6 hk6;cases hk7;exact ⟨rfl,β7,hs7⟩
 ·rintro e a7 w7 ⟨a6,rfl,rfl,β6,hz⟩
  refine wpIn_ret ?_
  have hD':w7.heap[w4.heap.size+2]?=some (.deferred (some [])):=by
   have hlt:=hRI.size;have hl8:=hp.l8;rw [hz.fr.step.keep (w4.heap.size+2) (by omega) fun hx=>by have:=hXB _ hx;omega]
   exact hdf
  show LeavesInM _ _ _ _ _ _ (a6.defers++[{ target:=.collected (w4.heap.size+2),args:= #[] }]) .returning w7;rw [hz.dfr];refine ⟨by simp,.inl ⟨_,_,rfl,run_takeDeferred hD',?_⟩⟩
  have hfr:=hs5.fr
  have hu:B4 48 w (JE OD [.sc (.int .u64 seed),.sc (.int .i64 H),.sc (.int .i64 leaf),.sc (.int .u64 m)] h8) Y β6 (Arq leaf 18 H (Af .u64 (I3 seed leaf m)) (Af .u64 ((List.range H).map fun k=>B5 seed k (Fy leaf k)))) a6 w7:=
   hz.unbase (fun _ h=>h) hY (fun b hx=>by rw [hXB b hx];exact hp.g8) (fun i ⟨p,h1,h2⟩=>by
    match i,h1 with
    |0,h1=>cases h1;cases h2
    |1,h1=>cases h1;cases h2
    |2,h1=>cases h1;cases h2
    |3,h1=>cases h1;cases h2) (hRI.os.trans hfr.os) (hRI.tape.trans hfr.tape) (hRI.output.trans hfr.output) (Nat.le_trans hfr.step.size hsB) (fun b hb=>by
    have h1:=hp.g10;have h2:=hp.ge;have h3:=hfr.step.size;exact (hkB b (by omega) (by omega) (by omega)).trans (hfr.step.keep b hb (hXn b)))
  have hv:=hu.same (YP (y:=none) hD') fun b hb=>World.putObj_heap_other (by have:=hfr.step.size;omega)
  obtain ⟨_,v,r1,vs,own,r2,r3⟩:=EJ (C:=CS) (f:=37) (fn:=Tryz.f37) hin (res:=⟨[.agg [.sc (.int .i64 leaf),.lst false 1 18 (Af .u64 (I3 seed leaf m)),.lst false 1 H (Af .u64 ((List.range H).map fun k=>B5 seed k (Fy leaf k)))],.sc (.int .i64 0)],[]⟩) (Aop seed H leaf m leaf 18 H _ _) hv
  exact ⟨v,r1,vs,own,r2,r3⟩
end
end Go.Proofs.YtdjihiphpgkfmaaGreatDoor.Pv
