/-
  The proof of AttestationVerifies, part 6.
-/
import Derived.Test.YtgfgmbpmghgbkaaGreatDoorVE
import Derived.Test.YtgfgmbpmghgbkaaGreatDoorRows
set_option linter.unusedSimpArgs false
namespace Go.Proofs.YtgfgmbpmghgbkaaGreatDoor.Pv
section
open Go.IntKind (wrap)
abbrev Wn (s:ByteArray)(at_:Nat)(o:List It):List PV:=[.sc (.string s),.sc (.int .i64 at_),.own 3 o.length (Bq o)]
theorem Aae {s:ByteArray}{i:Nat}{x:Int}(h:(B4 s)[i]?=some x):∃u:UInt8,s.data.toList[i]?=some u∧x=(u.toNat:Int):=by
 unfold B4 at h;rw [List.getElem?_map] at h;cases hu:s.data.toList[i]? with
 |none=>rw [hu] at h;cases h
 |some u=>rw [hu] at h;injection h with h;exact ⟨u,rfl,h.symm⟩
theorem strB_getElem? {s:ByteArray}{i:Nat}(h:i<(B4 s).length):∃x,(B4 s)[i]?=some x:=⟨_,List.getElem?_eq_getElem h⟩
def Xj (b:List Int)(at_:Nat):Nat:=if (Bg b at_).e=0 then (Bg b at_).at_ else at_
def At1:List PV:=[PV.sc (Value.int IntKind.u64 (0:Int)),PV.sc (Value.int IntKind.u64 (24:Int)),PV.sc (Value.int IntKind.u64 (256:Int)),PV.sc (Value.int IntKind.u64 (0:Int)),PV.sc (Value.int IntKind.u64 (65536:Int)),PV.sc (Value.int IntKind.u64 (0:Int)),PV.sc (Value.int IntKind.u64 (0:Int)),PV.sc (Value.int IntKind.u64 (0:Int)),PV.sc (Value.int IntKind.u64 (4294967296:Int))]
def Ac9 (sz:Nat):Int:=if sz=0 then 0 else if sz=1 then 24 else if sz=2 then 256 else if sz=4 then 65536 else 4294967296
theorem WQ {sz:Nat}(h:sz=1∨sz=2∨sz=4∨sz=8)(n:Int):(n<Ac9 sz)↔M4 n<(sz:Int):=by
 unfold Ac9 M4;rcases h with rfl|rfl|rfl|rfl
 all_goals simp
 all_goals repeat' split
 all_goals omega
section
variable {fu d:Nat}
theorem GE {call:Ar}{a0_0:ByteArray}{a0_1:Int}{a0_2n:Nat}{a0_2:List PV}{s:ByteArray}{at_:Nat}{o:List It}{k y8 y9:Int}{y10:ByteArray}{sz:Nat}(hsz:sz=0∨sz=1∨sz=2∨sz=4∨sz=8)(hk:0<=k∧k<=5)(hl:s.size<=1000000)(ha:at_+1+sz<=s.size)(ho:o.length<=1000000):
    ∀(r:List Int) (i nn:Nat) (v:Int),(((B4 s).drop (at_+1)).take sz).drop i=r->r.length<nn->i<=sz ->
    Dg fu call a0_0 a0_1 a0_2n a0_2 nn k (sz:Int) v (i:Int) s (at_:Int) o.length (Bq o) y8 y9 y10 =
      (if r.foldl Fc v<Ac9 sz then some ⟨[.agg [.sc (.int .i64 0),.sc (.int .u64 0),.sc (.string C5)],.sc (.int .i64 2)],[Wn s at_ o]⟩
       else some ⟨[.agg [.sc (.int .i64 (1+k)),.sc (.int .u64 (r.foldl Fc v)),.sc (.string C5)],.sc (.int .i64 0)],[Wn s (at_+1+sz) o]⟩)
  |_,_,0,_,_,h,_=>by omega
  |[],i,nn+1,v,hd,hn,hi=>by
    have:=drop_nil hd
    have hs:=C9 s
    rw [List.length_take,List.length_drop] at this
    have L:=En o
    have t:List.take (o.length*3) (Bq o)=Bq o:=I0 (by omega)
    have w1:wrap .i64 ((1:Int)+(sz:Int))=1+sz:=At (by omega) (by omega)
    have w2:wrap .i64 ((at_:Int)+(1+sz))=((at_+1+sz:Nat):Int):=by rw [At (by omega) (by omega)];omega
    have g:∀q:List PV,q=At1->q.getD (0+Int.toNat (sz:Int)*1) .top=.sc (.int .u64 (Ac9 sz)):=by
      intro q hq
      subst hq
      rcases hsz with rfl|rfl|rfl|rfl|rfl<;>rfl
    have gl:=g _ rfl
    have gk:∀q:List PV,q=[PV.sc (Value.int IntKind.i64 (1:Int)),PV.sc (Value.int IntKind.i64 (2:Int)),PV.sc (Value.int IntKind.i64 (3:Int)),PV.sc (Value.int IntKind.i64 (4:Int)),PV.sc (Value.int IntKind.i64 (5:Int)),PV.sc (Value.int IntKind.i64 (6:Int))]->q.getD (0+Int.toNat k*1) .top=.sc (.int .i64 (1+k)):=by
      intro q hq
      subst hq
      have:k=0∨k=1∨k=2∨k=3∨k=4∨k=5:=by omega
      rcases this with rfl|rfl|rfl|rfl|rfl|rfl<;>rfl
    have gk':=gk _ rfl
    unfold At1 at gl
    rw [Ie,Dt _ _ _ (by omega),List.foldl_nil]
    by_cases hs:v<Ac9 sz
    · rw [Bl hs]
      try unfold Aa
      repeat first
        |((with_reducible first|apply Ap|apply Ag|apply Am|apply Cf|apply Ah);· first|with_reducible rfl|(simp (disch:=omega) only [L,t,w1,w2,gl,gk']<;>with_reducible rfl))
        |((with_reducible first|apply Ak|apply Al);· first|with_reducible rfl|omega|(simp (disch:=omega) only [gT,L,t,w1,w2,gl,gk']<;>omega))
        |(with_reducible apply Ao;· first|with_reducible rfl|(simp (disch:=omega) only [gF,L,t,w1,w2,gl,gk']<;>omega))
      try simp (disch:=omega) only [L,t,w1,w2,gl,gk']
      all_goals rfl
    · rw [A3 hs]
      try unfold Aa
      repeat first
        |((with_reducible first|apply Ap|apply Ag|apply Am|apply Cf|apply Ah);· first|with_reducible rfl|(simp (disch:=omega) only [L,t,w1,w2,gl,gk']<;>with_reducible rfl))
        |((with_reducible first|apply Ak|apply Al);· first|with_reducible rfl|omega|(simp (disch:=omega) only [gT,L,t,w1,w2,gl,gk']<;>omega))
        |(with_reducible apply Ao;· first|with_reducible rfl|(simp (disch:=omega) only [gF,L,t,w1,w2,gl,gk']<;>omega))
      try simp (disch:=omega) only [L,t,w1,w2,gl,gk']
      all_goals rfl
  |x::r,i,nn+1,v,hd,hn,hi=>by
    obtain ⟨h1,h2,h3⟩:=Cg hd
    simp only [Ib] at hn
    rw [List.length_take,List.length_drop] at h1
    have h2':(B4 s)[at_+1+i]?=some x:=by
      rw [List.getElem?_take_of_lt (by omega),List.getElem?_drop] at h2
      exact h2
    obtain ⟨u,hu,rfl⟩:=Aae h2'
    have w1:wrap .i64 ((at_:Int)+1)=((at_+1:Nat):Int):=by rw [At (by omega) (by omega)];omega
    have w2:wrap .i64 (((at_+1:Nat):Int)+(i:Int))=((at_+1+i:Nat):Int):=by rw [At (by omega) (by omega)];omega
    have w3:wrap .i64 ((i:Int)+1)=((i+1:Nat):Int):=by rw [At (by omega) (by omega)];omega
    have ih:=GE (call:=call) (a0_0:=a0_0) (a0_1:=a0_1) (a0_2n:=a0_2n) (a0_2:=a0_2) (s:=s) (at_:=at_) (o:=o) (k:=k) (y8:=y8) (y9:=y9) (y10:=y10) hsz hk hl ha ho r (i+1) nn (Fc v u.toNat) h3 (by omega) (by omega)
    have nt:Int.toNat ((at_+1+i:Nat):Int)=at_+1+i:=Hc _
    rw [List.foldl_cons,←ih,Ie]
    try unfold Aa
    repeat first
      |((with_reducible first|apply Ap|apply Ag|apply Am|apply Cf|apply Ah);· first|with_reducible rfl|(simp (disch:=omega) only [w1,w2,w3,nt,hu]<;>with_reducible rfl))
      |((with_reducible first|apply Ak|apply Al);· first|with_reducible rfl|omega|(simp (disch:=omega) only [gT,w1,w2,w3,nt,hu]<;>omega))
      |(with_reducible apply Ao;· first|with_reducible rfl|(simp (disch:=omega) only [gF,w1,w2,w3,nt,hu]<;>omega))
    try simp (disch:=omega) only [w1,w2,w3,nt,hu]
    all_goals rfl
theorem Ait (hfu:1000<=fu){s:ByteArray}{at_:Nat}{o:List It}(hl:s.size<=1000000)(ho:o.length<=1000000):
  Ae C0 Tryz.prog fu (d+1) Jy [.pbox (Wn s at_ o)]=some ⟨[.agg [.sc (.int .i64 (Bg (B4 s) at_).k),.sc (.int .u64 (Bg (B4 s) at_).n),.sc (.string C5)],.sc (.int .i64 (Bg (B4 s) at_).e)],[Wn s (Xj (B4 s) at_) o]⟩:=by
 refine (Tc fu d s (at_:Int) o.length (Bq o)).trans ?_;have hs:=C9 s;have L:=En o;have t:List.take (o.length*3) (Bq o)=Bq o:=I0 (by omega)
 unfold Xj Bg;by_cases hlt:at_<(B4 s).length
 rotate_left
 ·have hg:(B4 s)[at_]?=none:=List.getElem?_eq_none (by omega)
  rw [hg]
  try unfold Aa
  repeat first
   |((with_reducible first|apply Ap|apply Ag|apply Am|apply Cf|apply Ah);· first|with_reducible rfl|(simp (disch:=omega) only [L,t]<;>with_reducible rfl))
   |((with_reducible first|apply Ak|apply Al);· first|with_reducible rfl|omega|(simp (disch:=omega) only [gT,L,t]<;>omega))
   |(with_reducible apply Ao;· first|with_reducible rfl|(simp (disch:=omega) only [gF,L,t]<;>omega))
  try simp (disch:=omega) only [L,t]
  all_goals rfl
 obtain ⟨x,hg⟩:=strB_getElem? hlt;have hB:=Sl s _ (List.mem_of_getElem? hg);obtain ⟨u,hu,hxu⟩:=Aae hg;rw [hg];have nt:Int.toNat (at_:Int)=at_:=Hc _;have w1:wrap .i64 ((at_:Int)+1)=((at_+1:Nat):Int):=by rw [At (by omega) (by omega)];omega
 have s5:=At2 hB.1;have a31:=Aqi hB.1 hB.2;rw [hxu] at s5 a31 hB ⊢;show A4 _ _ _=_;rw [Dt _ _ _ (by omega),BU _ _ (by omega),nt,hu,Ad6]
 clear hxu hu hg;generalize ((u.toNat:Nat):Int)=y at s5 a31 hB ⊢;unfold Vx;simp only;have e20:((2:Int)=0)=False:=by simp
 have e10:((1:Int)=0)=False:=by simp
 by_cases c1:y=244
 ·subst c1;have q:wrap .u64 (wrap .u8 ((244:Int)-244))=0:=by decide
  simp (disch:=omega) only [B6,Int.reduceBEq,w1,L,t,q]
 rw [A3 c1];have b1:(y==(244:Int))=false:=by simp [c1]
 by_cases c2:y=245
 ·subst c2;have q:wrap .u64 (wrap .u8 ((245:Int)-244))=1:=by decide
  simp (disch:=omega) only [B6,Int.reduceBEq,w1,L,t,q,if_true]
 rw [A3 c2];have b2:(y==(245:Int))=false:=by simp [c2]
 by_cases c3:y=246
 ·subst c3;simp (disch:=omega) only [B6,Int.reduceBEq,w1,L,t,if_true]
 rw [A3 c3];have b3:(y==(246:Int))=false:=by simp [c3]
 have wk1:wrap .i64 (y / 32)=y / 32:=At (by omega) (by omega)
 have wk2:wrap .i64 (y % 32)=y % 32:=At (by omega) (by omega)
 by_cases c4:y / 32>5
 ·rw [Bl c4];simp (disch:=omega) only [B6,b1,b2,b3,s5,a31,wk1,wk2,L,t,e20]
 rw [A3 c4];by_cases c5:y % 32>27
 ·rw [Bl c5];simp (disch:=omega) only [B6,b1,b2,b3,s5,a31,wk1,wk2,L,t,e20]
 rw [A3 c5];have w6:wrap .i64 ((s.size:Int)-(at_:Int))=((s.size-at_:Nat):Int):=by rw [At (by omega) (by omega)];omega
 have w7:wrap .i64 (((s.size-at_:Nat):Int)-1)=((s.size-(at_+1):Nat):Int):=by rw [At (by omega) (by omega)];omega
 have wu:wrap .u64 (y % 32)=y % 32:=B5 (by omega) (by omega)
 by_cases c6:y % 32<24
 ·have lp:=GE (fu:=fu) (call:=Ae C0 Tryz.prog fu d) (a0_0:=s) (a0_1:=(at_:Int)) (a0_2n:=o.length) (a0_2:=Bq o) (s:=s) (at_:=at_) (o:=o) (k:=y / 32) (y8:=0) (y9:=0) (y10:=C5) (sz:=0) (.inl rfl) (by omega) hl (by omega) ho [] 0 fu (y % 32) rfl (by simp;omega) (by omega)
  have e0:¬(y % 32<Ac9 0):=by unfold Ac9;simp;omega
  rw [List.foldl_nil,A3 e0] at lp;rw [Bl c6];simp (disch:=omega) only [B6,b1,b2,b3,s5,a31,wk1,wk2,w6,w7,wu];exact lp
 rw [A3 c6];have q1:wrap .i64 (y % 32-24)=y % 32-24:=At (by omega) (by omega)
 have q1':wrap .u64 (y % 32-24)=y % 32-24:=B5 (by omega) (by omega)
 have q2:Ff .i64 1 (y % 32-24)=(XD (y % 32):Int):=by
  have:y % 32=24∨y % 32=25∨y % 32=26∨y % 32=27:=by omega
  rcases this with h|h|h|h<;>rw [h]<;>decide
 have q3:XD (y % 32)=1∨XD (y % 32)=2∨XD (y % 32)=4∨XD (y % 32)=8:=by
  unfold XD
  repeat' split
  all_goals omega
 generalize XD (y % 32)=sz at q2 q3 ⊢;rw [hs];by_cases c7:s.size-(at_+1)<sz
 ·rw [Bl c7];simp (disch:=omega) only [B6,b1,b2,b3,s5,a31,wk1,wk2,w6,w7,wu,q1,q1',q2,L,t,e10]
 rw [A3 c7];have lp:=GE (fu:=fu) (call:=Ae C0 Tryz.prog fu d) (a0_0:=s) (a0_1:=(at_:Int)) (a0_2n:=o.length) (a0_2:=Bq o) (s:=s) (at_:=at_) (o:=o) (k:=y / 32) (y8:=0) (y9:=0) (y10:=C5) (sz:=sz) (by omega) (by omega) hl (by omega) ho _ 0 fu 0 rfl (by rw [B8,List.length_take];omega) (by omega)
 rw [B8] at lp;unfold CK;by_cases c8:M4 ((((B4 s).drop (at_+1)).take sz).foldl Fc 0)<sz
 ·rw [Bl ((WQ q3 _).2 c8)] at lp;rw [Bl c8];simp (disch:=omega) only [B6,b1,b2,b3,s5,a31,wk1,wk2,w6,w7,wu,q1,q1',q2,e20];exact lp
 ·rw [A3 (fun h=>c8 ((WQ q3 _).1 h))] at lp
  rw [A3 c8];simp (disch:=omega) only [B6,b1,b2,b3,s5,a31,wk1,wk2,w6,w7,wu,q1,q1',q2];exact lp
end
end
section
open Go.IntKind (wrap)
def Acd (a c:ByteArray):Bool:=if a.size=c.size then Op.bytesLess a.data.toList c.data.toList else decide (a.size<c.size)
def KV (k:Int):Bool:=if k=1 then true else if k=2 then true else k==4
def Mw (k:Int):Bool:=k==3||k==4
def Qf (k:Int):Bool:=k==5||k==6
def Ka (k n depth:Int)(key:Bool)(olen rest:Nat):Int:=
 if 512<=olen then 8 else if key=true∧KV k=false then 3 else if depth>8 then 5 else if Mw k=true∧n>1024 then 8 else if Qf k=true∧n>512 then 8 else if Mw k=true∧(rest:Int)<n then 1 else 0
def H7 (key:Bool)(before:ByteArray)(x:It):Int:=
 if x.k=4∧TH x.s=false then 6 else if key=true∧GY before=false∧Acd before (Bo (Bw x))=false then 7 else 0
theorem XL {s:ByteArray}{a n:Nat}:s.extract a (a+n)=Bo (((B4 s).drop a).take n):=by
 rw [←Q8 (s.extract a (a+n))]
 congr 1
 unfold B4;rw [ByteArray.data_extract,Array.toList_extract,List.extract_eq_take_drop,Nat.add_sub_cancel_left,List.map_take,List.map_drop]
section
variable {fu d:Nat}
theorem Afw (a c:ByteArray):Ae C0 Tryz.prog fu (d+1) Rs [.sc (.string a),.sc (.string c)]=some ⟨[.sc (.bool (Acd a c))],[]⟩:=by
 rw [EZ];unfold Acd;by_cases h:a.size=c.size
 ·have:((a.size:Int) != (c.size:Int))=false:=by simp [h]
  rw [Bl h];simp only [B6,this]
 ·have e:((a.size:Int) != (c.size:Int))=true:=by simp;omega
  rw [A3 h];simp only [B6,e,Int.ofNat_lt]
theorem Amz (k:Int):Ae C0 Tryz.prog fu (d+1) Qp [.sc (.int .i64 k)]=some ⟨[.sc (.bool (KV k))],[]⟩:=by
 rw [DQ];unfold KV;by_cases h1:k=1
 ·subst h1;rfl
 ·by_cases h2:k=2
  ·subst h2;rfl
  ·have b1:(k==(1:Int))=false:=by simp [h1]
   have b2:(k==(2:Int))=false:=by simp [h2]
   rw [A3 h1,A3 h2];simp only [B6,b1,b2]
theorem Ael {a0_0:ByteArray}{a0_1:Int}{a0_2n:Nat}{a0_2:List PV}{a1:Int}{a2:Bool}{a3:ByteArray}(hfu:1000<=fu){depth n k nn':Int}{key nest:Bool}{before s t:ByteArray}{at_:Nat}{o:List It}{nn:Nat}(hnn:0<nn)(ho:o.length<=1000)(hk:1<=k∧k<=8)(hn:0<=nn')(ht:t.size<=500000)(hd:It.dat ⟨k,nn',t⟩):
    Au fu (Ae C0 Tryz.prog fu (d+3)) a0_0 a0_1 a0_2n a0_2 a1 a2 a3 nn depth key before n false nest s (at_:Int) o.length (Bq o) k nn' t =
      (if H7 key before ⟨k,nn',t⟩=0 then Ba fu (Ae C0 Tryz.prog fu (d+3)) a0_0 a0_1 a0_2n a0_2 a1 a2 a3 fu depth n nest C5 0 s (at_:Int) (o++[It.mk k nn' t]).length (Bq (o++[It.mk k nn' t])) k nn' t
       else some ⟨[.sc (.int .i64 (H7 key before ⟨k,nn',t⟩))],[Wn s at_ o]⟩):=by
  have L:=En o
  have tt:List.take (o.length*3) (Bq o)=Bq o:=I0 (by omega)
  have va:=M1 (fu:=fu) (d:=d+2) t (by omega)
  have by_:=BS (fu:=fu) (d:=d) (x:=⟨k,nn',t⟩) hfu ⟨hk.1,hk.2,hn,ht⟩ hd
  have ls:=Afw (fu:=fu) (d:=d+2) before (Bo (Bw ⟨k,nn',t⟩))
  have e:Bq (o++[It.mk k nn' t])=Bq o++[PV.sc (Value.int IntKind.i64 k),PV.sc (Value.int IntKind.u64 nn'),PV.sc (Value.string t)]:=HP o [It.mk k nn' t]
  have en:(o++[It.mk k nn' t]).length=o.length+1:=by simp
  have em:(Array.toList (ByteArray.data before)==Array.toList (ByteArray.data (ByteArray.mk #[])))=GY before:=rfl
  rw [e,en,Ih (hnn:=hnn)]
  unfold H7
  simp only at ls by_ ⊢
  unfold It.cells at by_
  have kk:((k=4)=True∧(k==(4:Int))=true)∨((k=4)=False∧(k==(4:Int))=false):=by
    by_cases h:k=4
    · exact .inl ⟨eq_true h,by simp [h]⟩
    · exact .inr ⟨eq_false h,by simp [h]⟩
  generalize Acd before (Bo (Bw ⟨k,nn',t⟩))=l at ls ⊢
  generalize GY before=bb at em ⊢
  generalize TH t=v at va ⊢
  generalize Bo (Bw ⟨k,nn',t⟩)=B at by_ ls
  rcases kk with ⟨k4',k4⟩|⟨k4',k4⟩
  · cases v
    · simp (disch:=omega) only [B6,Int.reduceBEq,k4,va,em,by_,ls,L,tt,Bp,Br,and_self,true_and,and_true,and_false,false_and,if_true,if_false,Int.reduceEq,Bool.true_eq_false,Bool.false_eq_true,reduceCtorEq,k4']
    · cases key
      · simp (disch:=omega) only [B6,Int.reduceBEq,k4,va,em,by_,ls,L,tt,Bp,Br,and_self,true_and,and_true,and_false,false_and,if_true,if_false,Int.reduceEq,Bool.true_eq_false,Bool.false_eq_true,reduceCtorEq,k4']
      · cases bb
        · cases l
          · simp (disch:=omega) only [B6,Int.reduceBEq,k4,va,em,by_,ls,L,tt,Bp,Br,and_self,true_and,and_true,and_false,false_and,if_true,if_false,Int.reduceEq,Bool.true_eq_false,Bool.false_eq_true,reduceCtorEq,k4']
          · simp (disch:=omega) only [B6,Int.reduceBEq,k4,va,em,by_,ls,L,tt,Bp,Br,and_self,true_and,and_true,and_false,false_and,if_true,if_false,Int.reduceEq,Bool.true_eq_false,Bool.false_eq_true,reduceCtorEq,k4']
        · simp (disch:=omega) only [B6,Int.reduceBEq,k4,va,em,by_,ls,L,tt,Bp,Br,and_self,true_and,and_true,and_false,false_and,if_true,if_false,Int.reduceEq,Bool.true_eq_false,Bool.false_eq_true,reduceCtorEq,k4']
  · cases key
    · simp (disch:=omega) only [B6,Int.reduceBEq,k4,va,em,by_,ls,L,tt,Bp,Br,and_self,true_and,and_true,and_false,false_and,if_true,if_false,Int.reduceEq,Bool.true_eq_false,Bool.false_eq_true,reduceCtorEq,k4']
    · cases bb
      · cases l
        · simp (disch:=omega) only [B6,Int.reduceBEq,k4,va,em,by_,ls,L,tt,Bp,Br,and_self,true_and,and_true,and_false,false_and,if_true,if_false,Int.reduceEq,Bool.true_eq_false,Bool.false_eq_true,reduceCtorEq,k4']
        · simp (disch:=omega) only [B6,Int.reduceBEq,k4,va,em,by_,ls,L,tt,Bp,Br,and_self,true_and,and_true,and_false,false_and,if_true,if_false,Int.reduceEq,Bool.true_eq_false,Bool.false_eq_true,reduceCtorEq,k4']
      · simp (disch:=omega) only [B6,Int.reduceBEq,k4,va,em,by_,ls,L,tt,Bp,Br,and_self,true_and,and_true,and_false,false_and,if_true,if_false,Int.reduceEq,Bool.true_eq_false,Bool.false_eq_true,reduceCtorEq,k4']
theorem Ahy {a0_0:ByteArray}{a0_1:Int}{a0_2n:Nat}{a0_2:List PV}{a1:Int}{a2:Bool}{a3:ByteArray}(hfu:1000<=fu){depth k:Int}{n nn':Nat}{key nest:Bool}{before s t0:ByteArray}{at_:Nat}{o:List It}{nn:Nat}(hnn:0<nn)(ho:o.length<=1000)(hk:k=3∨k=4)(hn:n<=1024)(ha:at_+n<=s.size)(hs:s.size<=1000000){t:ByteArray}(ht:t=Bo (((B4 s).drop at_).take n)):
    Au fu (Ae C0 Tryz.prog fu (d+3)) a0_0 a0_1 a0_2n a0_2 a1 a2 a3 nn depth key before (n:Int) true nest s (at_:Int) o.length (Bq o) k (nn':Int) t0 =
      (if H7 key before ⟨k,0,t⟩=0 then Ba fu (Ae C0 Tryz.prog fu (d+3)) a0_0 a0_1 a0_2n a0_2 a1 a2 a3 fu depth (n:Int) nest C5 0 s ((at_+n:Nat):Int) (o++[It.mk k 0 t]).length (Bq (o++[It.mk k 0 t])) k 0 t
       else some ⟨[.sc (.int .i64 (H7 key before ⟨k,0,t⟩))],[Wn s (at_+n) o]⟩):=by
  have hts:t.size<=1024:=by
    rw [ht,Ez,List.length_take]
    omega
  have L:=En o
  have tt:List.take (o.length*3) (Bq o)=Bq o:=I0 (by omega)
  have va:=M1 (fu:=fu) (d:=d+2) t (by omega)
  have by_:=BS (fu:=fu) (d:=d) (x:=⟨k,0,t⟩) hfu ⟨by simp only;omega,by simp only;omega,by simp,by simp only;omega⟩ (hk.elim (fun h=>.inl h) (fun h=>.inr (.inl h)))
  have ls:=Afw (fu:=fu) (d:=d+2) before (Bo (Bw ⟨k,0,t⟩))
  have e:Bq (o++[It.mk k 0 t])=Bq o++[PV.sc (Value.int IntKind.i64 k),PV.sc (Value.int IntKind.u64 0),PV.sc (Value.string t)]:=HP o [It.mk k 0 t]
  have en:(o++[It.mk k 0 t]).length=o.length+1:=by simp
  have em:(Array.toList (ByteArray.data before)==Array.toList (ByteArray.data (ByteArray.mk #[])))=GY before:=rfl
  have w1:wrap .i64 (n:Int)=n:=At (by omega) (by omega)
  have w2:wrap .i64 ((at_:Int)+(n:Int))=((at_+n:Nat):Int):=by rw [At (by omega) (by omega)];omega
  have n1:Int.toNat (at_:Int)=at_:=Hc _
  have n2:Int.toNat ((at_+n:Nat):Int)=at_+n:=Hc _
  have ex:s.extract at_ (at_+n)=t:=by rw [ht];exact XL
  rw [e,en,Ih (hnn:=hnn)]
  unfold H7
  simp only at ls by_ ⊢
  unfold It.cells at by_
  clear ht
  have kk:((k=4)=True∧(k==(4:Int))=true)∨((k=4)=False∧(k==(4:Int))=false):=by
    by_cases h:k=4
    · exact .inl ⟨eq_true h,by simp [h]⟩
    · exact .inr ⟨eq_false h,by simp [h]⟩
  generalize Acd before (Bo (Bw ⟨k,0,t⟩))=l at ls ⊢
  generalize GY before=bb at em ⊢
  generalize TH t=v at va ⊢
  generalize Bo (Bw ⟨k,0,t⟩)=B at by_ ls
  rcases kk with ⟨k4',k4⟩|⟨k4',k4⟩
  · cases v
    · simp (disch:=omega) only [B6,w1,w2,n1,n2,ex,Int.reduceBEq,k4,va,em,by_,ls,L,tt,Bp,Br,and_self,true_and,and_true,and_false,false_and,if_true,if_false,Int.reduceEq,Bool.true_eq_false,Bool.false_eq_true,reduceCtorEq,k4']
    · cases key
      · simp (disch:=omega) only [B6,w1,w2,n1,n2,ex,Int.reduceBEq,k4,va,em,by_,ls,L,tt,Bp,Br,and_self,true_and,and_true,and_false,false_and,if_true,if_false,Int.reduceEq,Bool.true_eq_false,Bool.false_eq_true,reduceCtorEq,k4']
      · cases bb
        · cases l
          · simp (disch:=omega) only [B6,w1,w2,n1,n2,ex,Int.reduceBEq,k4,va,em,by_,ls,L,tt,Bp,Br,and_self,true_and,and_true,and_false,false_and,if_true,if_false,Int.reduceEq,Bool.true_eq_false,Bool.false_eq_true,reduceCtorEq,k4']
          · simp (disch:=omega) only [B6,w1,w2,n1,n2,ex,Int.reduceBEq,k4,va,em,by_,ls,L,tt,Bp,Br,and_self,true_and,and_true,and_false,false_and,if_true,if_false,Int.reduceEq,Bool.true_eq_false,Bool.false_eq_true,reduceCtorEq,k4']
        · simp (disch:=omega) only [B6,w1,w2,n1,n2,ex,Int.reduceBEq,k4,va,em,by_,ls,L,tt,Bp,Br,and_self,true_and,and_true,and_false,false_and,if_true,if_false,Int.reduceEq,Bool.true_eq_false,Bool.false_eq_true,reduceCtorEq,k4']
  · cases key
    · simp (disch:=omega) only [B6,w1,w2,n1,n2,ex,Int.reduceBEq,k4,va,em,by_,ls,L,tt,Bp,Br,and_self,true_and,and_true,and_false,false_and,if_true,if_false,Int.reduceEq,Bool.true_eq_false,Bool.false_eq_true,reduceCtorEq,k4']
    · cases bb
      · cases l
        · simp (disch:=omega) only [B6,w1,w2,n1,n2,ex,Int.reduceBEq,k4,va,em,by_,ls,L,tt,Bp,Br,and_self,true_and,and_true,and_false,false_and,if_true,if_false,Int.reduceEq,Bool.true_eq_false,Bool.false_eq_true,reduceCtorEq,k4']
        · simp (disch:=omega) only [B6,w1,w2,n1,n2,ex,Int.reduceBEq,k4,va,em,by_,ls,L,tt,Bp,Br,and_self,true_and,and_true,and_false,false_and,if_true,if_false,Int.reduceEq,Bool.true_eq_false,Bool.false_eq_true,reduceCtorEq,k4']
      · simp (disch:=omega) only [B6,w1,w2,n1,n2,ex,Int.reduceBEq,k4,va,em,by_,ls,L,tt,Bp,Br,and_self,true_and,and_true,and_false,false_and,if_true,if_false,Int.reduceEq,Bool.true_eq_false,Bool.false_eq_true,reduceCtorEq,k4']
end
end
section
open Go.IntKind (wrap)
section
variable {fu d:Nat}
set_option maxHeartbeats 4000000 in
theorem Ak1 (hfu:1000<=fu){depth:Int}{key:Bool}{before s:ByteArray}{at_:Nat}{o:List It}(hs:s.size<=1000000)(ha:at_<=s.size)(ho:o.length<=1000):
    Ae C0 Tryz.prog fu (d+4) Dn [.pbox (Wn s at_ o),.sc (.int .i64 depth),.sc (.bool key),.sc (.string before)] =
      (if (Bg (B4 s) at_).e≠0 then some ⟨[.sc (.int .i64 (Bg (B4 s) at_).e)],[Wn s (Xj (B4 s) at_) o]⟩
       else if Ka (Bg (B4 s) at_).k (Bg (B4 s) at_).n depth key o.length (s.size-(Bg (B4 s) at_).at_)≠0 then
         some ⟨[.sc (.int .i64 (Ka (Bg (B4 s) at_).k (Bg (B4 s) at_).n depth key o.length (s.size-(Bg (B4 s) at_).at_)))],[Wn s (Xj (B4 s) at_) o]⟩
       else Au fu (Ae C0 Tryz.prog fu (d+3)) s (at_:Int) o.length (Bq o) depth key before fu depth key before (Bg (B4 s) at_).n (Mw (Bg (B4 s) at_).k) (Qf (Bg (B4 s) at_).k) s ((Bg (B4 s) at_).at_:Int) o.length (Bq o) (Bg (B4 s) at_).k (Bg (B4 s) at_).n C5):=by
  refine (Ti fu (d+3) s (at_:Int) o.length (Bq o) depth key before).trans ?_
  have hd:=Ait (fu:=fu) (d:=d+2) (s:=s) (at_:=at_) (o:=o) hfu hs (by omega)
  have ok:=Rl (b:=B4 s) (at_:=at_) (Sl s) (by rw [C9];exact ha)
  have L:=En o
  have t:List.take (o.length*3) (Bq o)=Bq o:=I0 (by omega)
  rw [C9] at ok
  have eA:(Bg (B4 s) at_).e=0->Xj (B4 s) at_=(Bg (B4 s) at_).at_:=by
    intro h
    unfold Xj
    rw [Bl h]
  generalize Xj (B4 s) at_=A at hd eA ⊢
  generalize Bg (B4 s) at_=h at hd ok eA ⊢
  obtain ⟨k,n,e,a⟩:=h
  simp only at hd ok eA ⊢
  by_cases he:e=0
  rotate_left
  · have he':(e != 0)=true:=by simp [he]
    rw [Bl he]
    try unfold Aa
    repeat first
      |((with_reducible first|apply Ap|apply Ag|apply Am|apply As|apply Ax|apply Az|apply A6|apply Ah);· first|with_reducible rfl|(simp (disch:=omega) only [hd,he',L,t]<;>with_reducible rfl))
      |((with_reducible first|apply Ak|apply Al);· first|with_reducible rfl|omega|(simp (disch:=omega) only [gT,hd,he',L,t]<;>omega))
      |(with_reducible apply Ao;· first|with_reducible rfl|(simp (disch:=omega) only [gF,hd,he',L,t]<;>omega))
    try simp (disch:=omega) only [hd,he',L,t]
    all_goals rfl
  subst he
  obtain rfl:=eA rfl
  obtain ⟨ha',hk⟩:=ok
  obtain ⟨k1,k8,n0,n1,_⟩:=hk rfl
  have e00:((0:Int) != 0)=false:=rfl
  have ik:=Amz (fu:=fu) (d:=d+2) k
  rw [A3 (by simp)]
  have w1:wrap .i64 ((s.size:Int)-(A:Int))=((s.size-A:Nat):Int):=by rw [At (by omega) (by omega)];omega
  have w2:wrap .u64 ((s.size-A:Nat):Int)=((s.size-A:Nat):Int):=B5 (by omega) (by omega)
  generalize s.size-A=rest at w1 w2 ⊢
  unfold Ka
  by_cases c1:512<=o.length
  · simp only [c1,if_true,ne_eq,Int.reduceEq,not_false_eq_true]
    have:k=1∨k=2∨k=3∨k=4∨k=5∨k=6∨k=7∨k=8:=by omega
    rcases this with rfl|rfl|rfl|rfl|rfl|rfl|rfl|rfl
    all_goals
      try unfold Aa
      repeat first
        |((with_reducible first|apply Ap|apply Ag|apply Am|apply As|apply Ax|apply Az|apply A6|apply Ah);· first|with_reducible rfl|(simp (disch:=omega) only [hd,e00,L,t,Int.reduceBEq]<;>with_reducible rfl))
        |((with_reducible first|apply Ak|apply Al);· first|with_reducible rfl|omega|(simp (disch:=omega) only [gT,hd,e00,L,t,Int.reduceBEq]<;>omega))
        |(with_reducible apply Ao;· first|with_reducible rfl|(simp (disch:=omega) only [gF,hd,e00,L,t,Int.reduceBEq]<;>omega))
      try simp (disch:=omega) only [hd,e00,L,t,Int.reduceBEq]
    all_goals rfl
  rw [A3 c1]
  by_cases c2:key=true∧KV k=false
  · obtain ⟨rfl,c2⟩:=c2
    rw [c2] at ik
    simp only [c2,and_self,if_true,ne_eq,Int.reduceEq,not_false_eq_true]
    have:k=1∨k=2∨k=3∨k=4∨k=5∨k=6∨k=7∨k=8:=by omega
    rcases this with rfl|rfl|rfl|rfl|rfl|rfl|rfl|rfl
    all_goals
      try unfold Aa
      repeat first
        |((with_reducible first|apply Ap|apply Ag|apply Am|apply As|apply Ax|apply Az|apply A6|apply Ah);· first|with_reducible rfl|(simp (disch:=omega) only [hd,e00,L,t,Int.reduceBEq,ik,Bp,Br]<;>with_reducible rfl))
        |((with_reducible first|apply Ak|apply Al);· first|with_reducible rfl|omega|(simp (disch:=omega) only [gT,hd,e00,L,t,Int.reduceBEq,ik,Bp,Br]<;>omega))
        |(with_reducible apply Ao;· first|with_reducible rfl|(simp (disch:=omega) only [gF,hd,e00,L,t,Int.reduceBEq,ik,Bp,Br]<;>omega))
      try simp (disch:=omega) only [hd,e00,L,t,Int.reduceBEq,ik,Bp,Br]
    all_goals rfl
  rw [A3 c2]
  have key2:key=false∨key=true∧KV k=true:=by
    cases key
    · exact .inl rfl
    · exact .inr ⟨rfl,by simpa using c2⟩
  clear c2
  have fin:∀(p q:Option A0),p=q->p=q:=fun _ _ h=>h
  by_cases c3:depth>8
  · simp only [c3,if_true,ne_eq,Int.reduceEq,not_false_eq_true]
    have:k=1∨k=2∨k=3∨k=4∨k=5∨k=6∨k=7∨k=8:=by omega
    rcases key2 with rfl|⟨rfl,k2⟩
    · rcases this with rfl|rfl|rfl|rfl|rfl|rfl|rfl|rfl
      all_goals
        try unfold Aa
        repeat first
          |((with_reducible first|apply Ap|apply Ag|apply Am|apply As|apply Ax|apply Az|apply A6|apply Ah);· first|with_reducible rfl|(simp (disch:=omega) only [hd,e00,L,t,Int.reduceBEq,Bp,Br]<;>with_reducible rfl))
          |((with_reducible first|apply Ak|apply Al);· first|with_reducible rfl|omega|(simp (disch:=omega) only [gT,hd,e00,L,t,Int.reduceBEq,Bp,Br]<;>omega))
          |(with_reducible apply Ao;· first|with_reducible rfl|(simp (disch:=omega) only [gF,hd,e00,L,t,Int.reduceBEq,Bp,Br]<;>omega))
        try simp (disch:=omega) only [hd,e00,L,t,Int.reduceBEq,Bp,Br]
      all_goals rfl
    · rw [k2] at ik
      rcases this with rfl|rfl|rfl|rfl|rfl|rfl|rfl|rfl
      all_goals
        try unfold Aa
        repeat first
          |((with_reducible first|apply Ap|apply Ag|apply Am|apply As|apply Ax|apply Az|apply A6|apply Ah);· first|with_reducible rfl|(simp (disch:=omega) only [hd,e00,L,t,Int.reduceBEq,ik,Bp,Br]<;>with_reducible rfl))
          |((with_reducible first|apply Ak|apply Al);· first|with_reducible rfl|omega|(simp (disch:=omega) only [gT,hd,e00,L,t,Int.reduceBEq,ik,Bp,Br]<;>omega))
          |(with_reducible apply Ao;· first|with_reducible rfl|(simp (disch:=omega) only [gF,hd,e00,L,t,Int.reduceBEq,ik,Bp,Br]<;>omega))
        try simp (disch:=omega) only [hd,e00,L,t,Int.reduceBEq,ik,Bp,Br]
      all_goals rfl
  rw [A3 c3]
  have kk:(Mw k=true∧Qf k=false∧(k=3∨k=4))∨(Mw k=false∧Qf k=true∧(k=5∨k=6))∨(Mw k=false∧Qf k=false∧(k=1∨k=2∨k=7∨k=8)):=by
    have:k=1∨k=2∨k=3∨k=4∨k=5∨k=6∨k=7∨k=8:=by omega
    rcases this with rfl|rfl|rfl|rfl|rfl|rfl|rfl|rfl<;>simp [Mw,Qf]
  rcases kk with ⟨q1,q2,kk⟩|⟨q1,q2,kk⟩|⟨q1,q2,kk⟩
  · rw [q1,q2]
    simp only [true_and,Bool.false_eq_true,false_and,if_false]
    by_cases c4:n>1024
    · simp only [c4,if_true,ne_eq,Int.reduceEq,not_false_eq_true]
      rcases key2 with rfl|⟨rfl,k2⟩
      · rcases kk with rfl|rfl
        all_goals
          try unfold Aa
          repeat first
            |((with_reducible first|apply Ap|apply Ag|apply Am|apply As|apply Ax|apply Az|apply A6|apply Ah);· first|with_reducible rfl|(simp (disch:=omega) only [hd,e00,L,t,Int.reduceBEq,Bp,Br]<;>with_reducible rfl))
            |((with_reducible first|apply Ak|apply Al);· first|with_reducible rfl|omega|(simp (disch:=omega) only [gT,hd,e00,L,t,Int.reduceBEq,Bp,Br]<;>omega))
            |(with_reducible apply Ao;· first|with_reducible rfl|(simp (disch:=omega) only [gF,hd,e00,L,t,Int.reduceBEq,Bp,Br]<;>omega))
          try simp (disch:=omega) only [hd,e00,L,t,Int.reduceBEq,Bp,Br]
        all_goals rfl
      · rw [k2] at ik
        rcases kk with rfl|rfl
        all_goals
          try unfold Aa
          repeat first
            |((with_reducible first|apply Ap|apply Ag|apply Am|apply As|apply Ax|apply Az|apply A6|apply Ah);· first|with_reducible rfl|(simp (disch:=omega) only [hd,e00,L,t,Int.reduceBEq,ik,Bp,Br]<;>with_reducible rfl))
            |((with_reducible first|apply Ak|apply Al);· first|with_reducible rfl|omega|(simp (disch:=omega) only [gT,hd,e00,L,t,Int.reduceBEq,ik,Bp,Br]<;>omega))
            |(with_reducible apply Ao;· first|with_reducible rfl|(simp (disch:=omega) only [gF,hd,e00,L,t,Int.reduceBEq,ik,Bp,Br]<;>omega))
          try simp (disch:=omega) only [hd,e00,L,t,Int.reduceBEq,ik,Bp,Br]
        all_goals rfl
    rw [A3 c4]
    by_cases c5:(rest:Int)<n
    · simp only [c5,if_true,ne_eq,Int.reduceEq,not_false_eq_true]
      rcases key2 with rfl|⟨rfl,k2⟩
      · rcases kk with rfl|rfl
        all_goals
          try unfold Aa
          repeat first
            |((with_reducible first|apply Ap|apply Ag|apply Am|apply As|apply Ax|apply Az|apply A6|apply Ah);· first|with_reducible rfl|(simp (disch:=omega) only [hd,e00,L,t,Int.reduceBEq,w1,w2,Bp,Br]<;>with_reducible rfl))
            |((with_reducible first|apply Ak|apply Al);· first|with_reducible rfl|omega|(simp (disch:=omega) only [gT,hd,e00,L,t,Int.reduceBEq,w1,w2,Bp,Br]<;>omega))
            |(with_reducible apply Ao;· first|with_reducible rfl|(simp (disch:=omega) only [gF,hd,e00,L,t,Int.reduceBEq,w1,w2,Bp,Br]<;>omega))
          try simp (disch:=omega) only [hd,e00,L,t,Int.reduceBEq,w1,w2,Bp,Br]
        all_goals rfl
      · rw [k2] at ik
        rcases kk with rfl|rfl
        all_goals
          try unfold Aa
          repeat first
            |((with_reducible first|apply Ap|apply Ag|apply Am|apply As|apply Ax|apply Az|apply A6|apply Ah);· first|with_reducible rfl|(simp (disch:=omega) only [hd,e00,L,t,Int.reduceBEq,w1,w2,ik,Bp,Br]<;>with_reducible rfl))
            |((with_reducible first|apply Ak|apply Al);· first|with_reducible rfl|omega|(simp (disch:=omega) only [gT,hd,e00,L,t,Int.reduceBEq,w1,w2,ik,Bp,Br]<;>omega))
            |(with_reducible apply Ao;· first|with_reducible rfl|(simp (disch:=omega) only [gF,hd,e00,L,t,Int.reduceBEq,w1,w2,ik,Bp,Br]<;>omega))
          try simp (disch:=omega) only [hd,e00,L,t,Int.reduceBEq,w1,w2,ik,Bp,Br]
        all_goals rfl
    rw [A3 c5,A3 (by simp)]
    rcases key2 with rfl|⟨rfl,k2⟩
    · rcases kk with rfl|rfl
      all_goals
        try unfold Aa
        repeat first
          |((with_reducible first|apply Ap|apply Ag|apply Am|apply As|apply Ax|apply Az|apply A6|apply Ah);· first|with_reducible rfl|(simp (disch:=omega) only [hd,e00,L,t,Int.reduceBEq,w1,w2,Bp,Br]<;>with_reducible rfl))
          |((with_reducible first|apply Ak|apply Al);· first|with_reducible rfl|omega|(simp (disch:=omega) only [gT,hd,e00,L,t,Int.reduceBEq,w1,w2,Bp,Br]<;>omega))
          |(with_reducible apply Ao;· first|with_reducible rfl|(simp (disch:=omega) only [gF,hd,e00,L,t,Int.reduceBEq,w1,w2,Bp,Br]<;>omega))
        try simp (disch:=omega) only [hd,e00,L,t,Int.reduceBEq,w1,w2,Bp,Br]
      all_goals rfl
    · rw [k2] at ik
      rcases kk with rfl|rfl
      all_goals
        try unfold Aa
        repeat first
          |((with_reducible first|apply Ap|apply Ag|apply Am|apply As|apply Ax|apply Az|apply A6|apply Ah);· first|with_reducible rfl|(simp (disch:=omega) only [hd,e00,L,t,Int.reduceBEq,w1,w2,ik,Bp,Br]<;>with_reducible rfl))
          |((with_reducible first|apply Ak|apply Al);· first|with_reducible rfl|omega|(simp (disch:=omega) only [gT,hd,e00,L,t,Int.reduceBEq,w1,w2,ik,Bp,Br]<;>omega))
          |(with_reducible apply Ao;· first|with_reducible rfl|(simp (disch:=omega) only [gF,hd,e00,L,t,Int.reduceBEq,w1,w2,ik,Bp,Br]<;>omega))
        try simp (disch:=omega) only [hd,e00,L,t,Int.reduceBEq,w1,w2,ik,Bp,Br]
      all_goals rfl
  · rw [q1,q2]
    simp only [true_and,Bool.false_eq_true,false_and,if_false]
    by_cases c4:n>512
    · simp only [c4,if_true,ne_eq,Int.reduceEq,not_false_eq_true]
      rcases key2 with rfl|⟨rfl,k2⟩
      · rcases kk with rfl|rfl
        all_goals
          try unfold Aa
          repeat first
            |((with_reducible first|apply Ap|apply Ag|apply Am|apply As|apply Ax|apply Az|apply A6|apply Ah);· first|with_reducible rfl|(simp (disch:=omega) only [hd,e00,L,t,Int.reduceBEq,Bp,Br]<;>with_reducible rfl))
            |((with_reducible first|apply Ak|apply Al);· first|with_reducible rfl|omega|(simp (disch:=omega) only [gT,hd,e00,L,t,Int.reduceBEq,Bp,Br]<;>omega))
            |(with_reducible apply Ao;· first|with_reducible rfl|(simp (disch:=omega) only [gF,hd,e00,L,t,Int.reduceBEq,Bp,Br]<;>omega))
          try simp (disch:=omega) only [hd,e00,L,t,Int.reduceBEq,Bp,Br]
        all_goals rfl
      · rw [k2] at ik
        rcases kk with rfl|rfl
        all_goals
          try unfold Aa
          repeat first
            |((with_reducible first|apply Ap|apply Ag|apply Am|apply As|apply Ax|apply Az|apply A6|apply Ah);· first|with_reducible rfl|(simp (disch:=omega) only [hd,e00,L,t,Int.reduceBEq,ik,Bp,Br]<;>with_reducible rfl))
            |((with_reducible first|apply Ak|apply Al);· first|with_reducible rfl|omega|(simp (disch:=omega) only [gT,hd,e00,L,t,Int.reduceBEq,ik,Bp,Br]<;>omega))
            |(with_reducible apply Ao;· first|with_reducible rfl|(simp (disch:=omega) only [gF,hd,e00,L,t,Int.reduceBEq,ik,Bp,Br]<;>omega))
          try simp (disch:=omega) only [hd,e00,L,t,Int.reduceBEq,ik,Bp,Br]
        all_goals rfl
    rw [A3 c4,A3 (by simp)]
    rcases key2 with rfl|⟨rfl,k2⟩
    · rcases kk with rfl|rfl
      all_goals
        try unfold Aa
        repeat first
          |((with_reducible first|apply Ap|apply Ag|apply Am|apply As|apply Ax|apply Az|apply A6|apply Ah);· first|with_reducible rfl|(simp (disch:=omega) only [hd,e00,L,t,Int.reduceBEq,w1,w2,Bp,Br]<;>with_reducible rfl))
          |((with_reducible first|apply Ak|apply Al);· first|with_reducible rfl|omega|(simp (disch:=omega) only [gT,hd,e00,L,t,Int.reduceBEq,w1,w2,Bp,Br]<;>omega))
          |(with_reducible apply Ao;· first|with_reducible rfl|(simp (disch:=omega) only [gF,hd,e00,L,t,Int.reduceBEq,w1,w2,Bp,Br]<;>omega))
        try simp (disch:=omega) only [hd,e00,L,t,Int.reduceBEq,w1,w2,Bp,Br]
      all_goals rfl
    · rw [k2] at ik
      rcases kk with rfl|rfl
      all_goals
        try unfold Aa
        repeat first
          |((with_reducible first|apply Ap|apply Ag|apply Am|apply As|apply Ax|apply Az|apply A6|apply Ah);· first|with_reducible rfl|(simp (disch:=omega) only [hd,e00,L,t,Int.reduceBEq,w1,w2,ik,Bp,Br]<;>with_reducible rfl))
          |((with_reducible first|apply Ak|apply Al);· first|with_reducible rfl|omega|(simp (disch:=omega) only [gT,hd,e00,L,t,Int.reduceBEq,w1,w2,ik,Bp,Br]<;>omega))
          |(with_reducible apply Ao;· first|with_reducible rfl|(simp (disch:=omega) only [gF,hd,e00,L,t,Int.reduceBEq,w1,w2,ik,Bp,Br]<;>omega))
        try simp (disch:=omega) only [hd,e00,L,t,Int.reduceBEq,w1,w2,ik,Bp,Br]
      all_goals rfl
  · rw [q1,q2]
    simp only [true_and,Bool.false_eq_true,false_and,if_false,ne_eq,not_true_eq_false]
    rcases key2 with rfl|⟨rfl,k2⟩
    · rcases kk with rfl|rfl|rfl|rfl
      all_goals
        try unfold Aa
        repeat first
          |((with_reducible first|apply Ap|apply Ag|apply Am|apply As|apply Ax|apply Az|apply A6|apply Ah);· first|with_reducible rfl|(simp (disch:=omega) only [hd,e00,L,t,Int.reduceBEq,w1,w2,Bp,Br]<;>with_reducible rfl))
          |((with_reducible first|apply Ak|apply Al);· first|with_reducible rfl|omega|(simp (disch:=omega) only [gT,hd,e00,L,t,Int.reduceBEq,w1,w2,Bp,Br]<;>omega))
          |(with_reducible apply Ao;· first|with_reducible rfl|(simp (disch:=omega) only [gF,hd,e00,L,t,Int.reduceBEq,w1,w2,Bp,Br]<;>omega))
        try simp (disch:=omega) only [hd,e00,L,t,Int.reduceBEq,w1,w2,Bp,Br]
      all_goals rfl
    · rw [k2] at ik
      rcases kk with rfl|rfl|rfl|rfl
      all_goals
        try unfold Aa
        repeat first
          |((with_reducible first|apply Ap|apply Ag|apply Am|apply As|apply Ax|apply Az|apply A6|apply Ah);· first|with_reducible rfl|(simp (disch:=omega) only [hd,e00,L,t,Int.reduceBEq,w1,w2,ik,Bp,Br]<;>with_reducible rfl))
          |((with_reducible first|apply Ak|apply Al);· first|with_reducible rfl|omega|(simp (disch:=omega) only [gT,hd,e00,L,t,Int.reduceBEq,w1,w2,ik,Bp,Br]<;>omega))
          |(with_reducible apply Ao;· first|with_reducible rfl|(simp (disch:=omega) only [gF,hd,e00,L,t,Int.reduceBEq,w1,w2,ik,Bp,Br]<;>omega))
        try simp (disch:=omega) only [hd,e00,L,t,Int.reduceBEq,w1,w2,ik,Bp,Br]
      all_goals rfl
end
end
section
open Go.IntKind (wrap)
def Ua (f:Bool->ByteArray->Nat->List It->Int × Nat × List It)(mp:Bool):Nat->ByteArray->Nat->List It->Int × Nat × List It
 |0,_,at_,o=>(0,at_,o)
 |c+1,last,at_,o=>
  if mp=true then
   if (f true last at_ o).1≠0 then f true last at_ o
   else if (f false C5 (f true last at_ o).2.1 (f true last at_ o).2.2).1≠0 then f false C5 (f true last at_ o).2.1 (f true last at_ o).2.2
   else Ua f mp c (Bo (Bw ((f true last at_ o).2.2.getD o.length it0))) (f false C5 (f true last at_ o).2.1 (f true last at_ o).2.2).2.1 (f false C5 (f true last at_ o).2.1 (f true last at_ o).2.2).2.2
  else if (f false C5 at_ o).1≠0 then f false C5 at_ o
  else Ua f mp c last (f false C5 at_ o).2.1 (f false C5 at_ o).2.2
def NB (b:List Int)(h:Hd):It × Nat:=if Mw h.k=true then (⟨h.k,0,Bo ((b.drop h.at_).take h.n.toNat)⟩,h.at_+h.n.toNat) else (⟨h.k,h.n,C5⟩,h.at_)
def Ow (b:List Int):Nat->Int->Bool->ByteArray->Nat->List It->Int × Nat × List It
 |0,_,_,_,at_,o=>(2,at_,o)
 |m+1,depth,key,before,at_,o=>
  if (Bg b at_).e≠0 then ((Bg b at_).e,at_,o)
  else if Ka (Bg b at_).k (Bg b at_).n depth key o.length (b.length-(Bg b at_).at_)≠0 then (Ka (Bg b at_).k (Bg b at_).n depth key o.length (b.length-(Bg b at_).at_),(Bg b at_).at_,o)
  else if H7 key before (NB b (Bg b at_)).1≠0 then (H7 key before (NB b (Bg b at_)).1,(NB b (Bg b at_)).2,o)
  else if Qf (Bg b at_).k=true then Ua (Ow b m (depth+1)) ((Bg b at_).k==6) (Bg b at_).n.toNat C5 (NB b (Bg b at_)).2 (o++[(NB b (Bg b at_)).1])
  else (0,(NB b (Bg b at_)).2,o++[(NB b (Bg b at_)).1])
def OkR (x:It):Prop:=OkX x∧x.dat
structure Au3 (b:List Int) (o:List It) (r:Int × Nat × List It):Prop where
 at_:r.2.1<=b.length
 all:∀x∈r.2.2,OkR x
 len:o.length<=r.2.2.length
 top:r.2.2.length<=512
 grow:r.1=0->o.length<r.2.2.length
def Akr (b:List Int)(f:Bool->ByteArray->Nat->List It->Int × Nat × List It):Prop:=∀key before at_ o,at_<=b.length->(∀x∈o,OkR x)->o.length<=512->Au3 b o (f key before at_ o)
theorem FQ {b:List Int}{f:Bool->ByteArray->Nat->List It->Int × Nat × List It}(hf:Akr b f){mp:Bool}:∀(c:Nat)(last:ByteArray)(at_:Nat)(o:List It),at_<=b.length->(∀x∈o,OkR x)->o.length<=512 ->
  (Ua f mp c last at_ o).2.1<=b.length∧(∀x∈(Ua f mp c last at_ o).2.2,OkR x)∧o.length<=(Ua f mp c last at_ o).2.2.length∧(Ua f mp c last at_ o).2.2.length<=512
 |0,_,at_,o,h1,h2,h3=>⟨h1,h2,Nat.le_refl _,h3⟩
 |c+1,last,at_,o,h1,h2,h3=>by
  unfold Ua;by_cases hm:mp=true
  ·rw [Bl hm];have q:=hf true last at_ o h1 h2 h3;generalize f true last at_ o=r at q ⊢;by_cases hr:r.1=0
   ·have p:=hf false C5 r.2.1 r.2.2 q.at_ q.all q.top;rw [A3 (by simp [hr])]
    have:=q.len;generalize f false C5 r.2.1 r.2.2=r2 at p ⊢;by_cases hr2:r2.1=0
    ·rw [A3 (by simp [hr2])]
     obtain ⟨i1,i2,i3,i4⟩:=FQ hf (mp:=mp) c (Bo (Bw (r.2.2.getD o.length it0))) r2.2.1 r2.2.2 p.at_ p.all p.top;have:=p.len;exact ⟨i1,i2,by omega,i4⟩
    ·rw [Bl (by simp [hr2])]
     have:=p.len;exact ⟨p.at_,p.all,by omega,p.top⟩
   ·rw [Bl (by simp [hr])]
    exact ⟨q.at_,q.all,q.len,q.top⟩
  ·rw [A3 hm];have q:=hf false C5 at_ o h1 h2 h3;generalize f false C5 at_ o=r at q ⊢;by_cases hr:r.1=0
   ·rw [A3 (by simp [hr])]
    obtain ⟨i1,i2,i3,i4⟩:=FQ hf (mp:=mp) c last r.2.1 r.2.2 q.at_ q.all q.top;have:=q.len;exact ⟨i1,i2,by omega,i4⟩
   ·rw [Bl (by simp [hr])]
    exact ⟨q.at_,q.all,q.len,q.top⟩
theorem GZ {k n depth:Int}{key:Bool}{ol rest:Nat}(h:Ka k n depth key ol rest=0):ol<512∧depth<=8∧(Mw k=true->n<=1024∧n<=rest)∧(Qf k=true->n<=512):=by
 unfold Ka at h;by_cases c1:512<=ol
 ·rw [Bl c1] at h;cases h
 rw [A3 c1] at h;by_cases c2:key=true∧KV k=false
 ·rw [Bl c2] at h;cases h
 rw [A3 c2] at h;by_cases c3:depth>8
 ·rw [Bl c3] at h;cases h
 rw [A3 c3] at h;by_cases c4:Mw k=true∧n>1024
 ·rw [Bl c4] at h;cases h
 rw [A3 c4] at h;by_cases c5:Qf k=true∧n>512
 ·rw [Bl c5] at h;cases h
 rw [A3 c5] at h;by_cases c6:Mw k=true∧(rest:Int)<n
 ·rw [Bl c6] at h;cases h
 refine ⟨by omega,by omega,fun hd=>⟨?_,?_⟩,fun hn=>?_⟩
 ·exact Int.not_lt.1 fun hh=>c4 ⟨hd,hh⟩
 ·exact Int.not_lt.1 fun hh=>c6 ⟨hd,hh⟩
 ·exact Int.not_lt.1 fun hh=>c5 ⟨hn,hh⟩
theorem Rm (k:Int):Mw k=true↔k=3∨k=4:=by unfold Mw;simp
theorem KM (k:Int):Qf k=true↔k=5∨k=6:=by unfold Qf;simp
theorem Am1 {b:List Int}(hb:G9 b){at_:Nat}(ha:at_<=b.length)(he:(Bg b at_).e=0) {depth:Int}{key:Bool}{ol:Nat}(hp:Ka (Bg b at_).k (Bg b at_).n depth key ol (b.length-(Bg b at_).at_)=0):OkR (NB b (Bg b at_)).1∧(NB b (Bg b at_)).2<=b.length∧at_<(NB b (Bg b at_)).2:=by
 obtain ⟨h1,h2⟩:=Rl hb ha;obtain ⟨k1,k8,n0,n1,hl⟩:=h2 he;obtain ⟨_,_,p3,_⟩:=GZ hp;unfold NB;by_cases hd:Mw (Bg b at_).k=true
 ·obtain ⟨q1,q2⟩:=p3 hd;rw [Bl hd];refine ⟨⟨⟨k1,k8,by simp,by simp,?_⟩,?_⟩,?_,?_⟩
  ·simp only;rw [Ez,List.length_take];omega
  ·rcases (Rm _).1 hd with h|h
   ·exact .inl h
   ·exact .inr (.inl h)
  ·simp only;omega
  ·simp only;omega
 ·rw [A3 hd];exact ⟨⟨⟨k1,k8,n0,n1,Nat.zero_le _⟩,.inr (.inr rfl)⟩,h1,hl⟩
theorem Sd {b:List Int}(hb:G9 b):∀(m:Nat)(depth:Int),Akr b (Ow b m depth)
 |0,depth=>fun key before at_ o h1 h2 h3=>⟨h1,h2,Nat.le_refl _,h3,fun h=>by simp [Ow] at h⟩
 |m+1,depth=>fun key before at_ o h1 h2 h3=>by
  have hk:=(Rl hb h1).1;unfold Ow;by_cases he:(Bg b at_).e=0
  rotate_left
  ·rw [Bl he];exact ⟨h1,h2,Nat.le_refl _,h3,fun h=>absurd h he⟩
  rw [A3 (by simp [he])]
  by_cases hp:Ka (Bg b at_).k (Bg b at_).n depth key o.length (b.length-(Bg b at_).at_)=0
  rotate_left
  ·rw [Bl hp];exact ⟨hk,h2,Nat.le_refl _,h3,fun h=>absurd h hp⟩
  obtain ⟨x1,x2,x3⟩:=Am1 hb h1 he hp;obtain ⟨p1,p2,p3,p4⟩:=GZ hp;rw [A3 (by simp [hp])]
  by_cases hq:H7 key before (NB b (Bg b at_)).1=0
  rotate_left
  ·rw [Bl hq];exact ⟨x2,h2,Nat.le_refl _,h3,fun h=>absurd h hq⟩
  rw [A3 (by simp [hq])]
  have a2:∀x∈o++[(NB b (Bg b at_)).1],OkR x:=by
   intro x hx;rcases List.mem_append.1 hx with hx|hx
   ·exact h2 x hx
   ·simp at hx;subst hx;exact x1
  have a3:(o++[(NB b (Bg b at_)).1]).length=o.length+1:=by simp
  by_cases hn:Qf (Bg b at_).k=true
  ·rw [Bl hn];obtain ⟨i1,i2,i3,i4⟩:=FQ (Sd hb m (depth+1)) (mp:=(Bg b at_).k==6) (Bg b at_).n.toNat C5 (NB b (Bg b at_)).2 (o++[(NB b (Bg b at_)).1]) x2 a2 (by omega)
   exact ⟨i1,i2,by omega,i4,fun _=>by omega⟩
  ·rw [A3 hn];exact ⟨x2,a2,by simp only;omega,by simp only;omega,fun _=>by simp only;omega⟩
def TN (s:ByteArray)(r:Int × Nat × List It):A0:=⟨[.sc (.int .i64 r.1)],[Wn s r.2.1 r.2.2]⟩
section
variable {fu d:Nat}
theorem RD (hfu:1000<=fu){a0_0:ByteArray}{a0_1:Int}{a0_2n:Nat}{a0_2:List PV}{a1:Int}{a2:Bool}{a3:ByteArray}{s:ByteArray}{depth k kn:Int}{kt:ByteArray}(hd0:0<=depth)(hd8:depth<=8){f:Bool->ByteArray->Nat->List It->Int × Nat × List It}(hff:Akr (B4 s) f)
  (hf:∀key before at_ o,at_<=s.size->o.length<=512->(∀x∈o,OkR x)->Ae C0 Tryz.prog fu (d+3) Dn [.pbox (Wn s at_ o),.sc (.int .i64 (depth+1)),.sc (.bool key),.sc (.string before)]=some (TN s (f key before at_ o))) {n:Nat}(hn:n<=512):
  ∀(c i nn:Nat) (last:ByteArray) (at_:Nat) (o:List It),i+c=n->c<nn->at_<=s.size->o.length<=512->(∀x∈o,OkR x) ->
  Ba fu (Ae C0 Tryz.prog fu (d+3)) a0_0 a0_1 a0_2n a0_2 a1 a2 a3 nn depth (n:Int) true last (i:Int) s (at_:Int) o.length (Bq o) k kn kt=some (TN s (Ua f (k==6) c last at_ o))
 |_,_,0,_,_,_,_,h,_,_,_=>by omega
 |0,i,nn+1,last,at_,o,hi,hc,ha,ho,hx=>by
  have L:=En o;have t:List.take (o.length*3) (Bq o)=Bq o:=I0 (by omega)
  rw [Eg]
  try unfold Aa
  repeat first
   |((with_reducible first|apply Ap|apply Ag|apply Am|apply Ax|apply Az|apply Cf|apply Ah);· first|with_reducible rfl|(simp (disch:=omega) only [L,t]<;>with_reducible rfl))
   |((with_reducible first|apply Ak|apply Al);· first|with_reducible rfl|omega|(simp (disch:=omega) only [gT,L,t]<;>omega))
   |(with_reducible apply Ao;· first|with_reducible rfl|(simp (disch:=omega) only [gF,L,t]<;>omega))
  try simp (disch:=omega) only [L,t]
  all_goals rfl
 |c+1,i,nn+1,last,at_,o,hi,hc,ha,ho,hx=>by
  have L:=En o;have t:List.take (o.length*3) (Bq o)=Bq o:=I0 (by omega)
  have w1:wrap .i64 (depth+1)=depth+1:=At (by omega) (by omega)
  have w2:wrap .u64 ((i:Int)+1)=((i+1:Nat):Int):=by rw [B5 (by omega) (by omega)];omega
  have hsz:=C9 s;rw [Eg];unfold Ua;by_cases hm:k=6
  rotate_left
  ·have hm':(k==(6:Int))=false:=by simp [hm]
   rw [hm',A3 (by simp)]
   have q:=hf false C5 at_ o ha ho hx;have fq:=hff false C5 at_ o (by omega) hx ho
   generalize f false C5 at_ o=r at q fq ⊢;obtain ⟨e,a,o'⟩:=r;have f1:=fq.at_;have f2:=fq.all;have f4:=fq.top;simp only [TN] at q f1 f2 f4 ⊢;have L':=En o';have t':List.take (o'.length*3) (Bq o')=Bq o':=I0 (by omega)
   by_cases he:e=0
   ·subst he;have ih:=RD hfu (a0_0:=a0_0) (a0_1:=a0_1) (a0_2n:=a0_2n) (a0_2:=a0_2) (a1:=a1) (a2:=a2) (a3:=a3) (k:=k) (kn:=kn) (kt:=kt) hd0 hd8 hff hf hn c (i+1) nn last a o' (by omega) (by omega) (by omega) f4 f2
    rw [hm'] at ih;have e00:((0:Int) != 0)=false:=rfl;rw [A3 (by simp)]
    simp only [TN] at ih;rw [←ih]
    try unfold Aa
    repeat first
     |((with_reducible first|apply Ap|apply Ag|apply Am|apply Ax|apply Az|apply Cf|apply Ah);· first|with_reducible rfl|(simp (disch:=omega) only [L,t,w1,w2,hm',q,e00]<;>with_reducible rfl))
     |((with_reducible first|apply Ak|apply Al);· first|with_reducible rfl|omega|(simp (disch:=omega) only [gT,L,t,w1,w2,hm',q,e00]<;>omega))
     |(with_reducible apply Ao;· first|with_reducible rfl|(simp (disch:=omega) only [gF,L,t,w1,w2,hm',q,e00]<;>omega))
    try simp (disch:=omega) only [L,t,w1,w2,hm',q,e00]
    all_goals rfl
   ·have he':(e != 0)=true:=by simp [he]
    rw [Bl he]
    try unfold Aa
    repeat first
     |((with_reducible first|apply Ap|apply Ag|apply Am|apply Ax|apply Az|apply Cf|apply Ah);· first|with_reducible rfl|(simp (disch:=omega) only [L,t,w1,w2,hm',q,he',L',t']<;>with_reducible rfl))
     |((with_reducible first|apply Ak|apply Al);· first|with_reducible rfl|omega|(simp (disch:=omega) only [gT,L,t,w1,w2,hm',q,he',L',t']<;>omega))
     |(with_reducible apply Ao;· first|with_reducible rfl|(simp (disch:=omega) only [gF,L,t,w1,w2,hm',q,he',L',t']<;>omega))
    try simp (disch:=omega) only [L,t,w1,w2,hm',q,he',L',t']
    all_goals rfl
  ·subst hm;have hm':((6:Int)==(6:Int))=true:=rfl;rw [hm',Bl rfl];have q:=hf true last at_ o ha ho hx;have fq:=hff true last at_ o (by omega) hx ho
   generalize f true last at_ o=r at q fq ⊢;obtain ⟨e,a,o'⟩:=r;have f1:=fq.at_;have f2:=fq.all;have f4:=fq.top;have f5:=fq.grow;simp only [TN] at q f1 f2 f4 f5 ⊢;have L':=En o';have t':List.take (o'.length*3) (Bq o')=Bq o':=I0 (by omega)
   by_cases he:e=0
   rotate_left
   ·have he':(e != 0)=true:=by simp [he]
    rw [Bl he]
    try unfold Aa
    repeat first
     |((with_reducible first|apply Ap|apply Ag|apply Am|apply Ax|apply Az|apply Cf|apply Ah);· first|with_reducible rfl|(simp (disch:=omega) only [L,t,w1,w2,hm',q,he',L',t']<;>with_reducible rfl))
     |((with_reducible first|apply Ak|apply Al);· first|with_reducible rfl|omega|(simp (disch:=omega) only [gT,L,t,w1,w2,hm',q,he',L',t']<;>omega))
     |(with_reducible apply Ao;· first|with_reducible rfl|(simp (disch:=omega) only [gF,L,t,w1,w2,hm',q,he',L',t']<;>omega))
    try simp (disch:=omega) only [L,t,w1,w2,hm',q,he',L',t']
    all_goals rfl
   subst he;have f5:=f5 rfl;have e00:((0:Int) != 0)=false:=rfl;rw [A3 (by simp)]
   obtain ⟨x,hxg⟩:∃x,o'[o.length]?=some x:=⟨_,List.getElem?_eq_getElem f5⟩;have hxo:=f2 x (List.mem_of_getElem? hxg);have gx:o'.getD o.length it0=x:=by rw [List.getD_eq_getElem?_getD,hxg];rfl
   rw [gx];obtain ⟨c0,c1,c2⟩:=aci hxg;have by_:=BS (fu:=fu) (d:=d) (x:=x) hfu ⟨hxo.1.k1,hxo.1.k8,hxo.1.n0,Nat.le_trans hxo.1.s1 (by omega)⟩ hxo.2
   obtain ⟨xk,xn,xs⟩:=x;unfold It.cells at by_;simp only at c0 c1 c2 by_;have nt:Int.toNat (o.length:Int)=o.length:=Hc _;have q2:=hf false C5 a o' (by omega) f4 f2
   have fq2:=hff false C5 a o' f1 f2 f4;generalize Bo (Bw ⟨xk,xn,xs⟩)=last' at by_ ⊢;generalize f false C5 a o'=r2 at q2 fq2 ⊢;obtain ⟨e2,a2',o2⟩:=r2;have g1:=fq2.at_;have g2:=fq2.all;have g4:=fq2.top;simp only [TN] at q2 g1 g2 g4 ⊢;have L2:=En o2;have t2:List.take (o2.length*3) (Bq o2)=Bq o2:=I0 (by omega)
   by_cases he2:e2=0
   ·subst he2;have ih:=RD hfu (a0_0:=a0_0) (a0_1:=a0_1) (a0_2n:=a0_2n) (a0_2:=a0_2) (a1:=a1) (a2:=a2) (a3:=a3) (k:=6) (kn:=kn) (kt:=kt) hd0 hd8 hff hf hn c (i+1) nn last' a2' o2 (by omega) (by omega) (by omega) g4 g2
    rw [hm'] at ih;rw [A3 (by simp)]
    simp only [TN] at ih;rw [←ih]
    try unfold Aa
    repeat first
     |((with_reducible first|apply Ap|apply Ag|apply Am|apply Ax|apply Az|apply Cf|apply Ah);· first|with_reducible rfl|(simp (disch:=omega) only [L,t,w1,w2,hm',q,e00,L',t',Bv,nt,c0,c1,c2,by_,q2]<;>with_reducible rfl))
     |((with_reducible first|apply Ak|apply Al);· first|with_reducible rfl|omega|(simp (disch:=omega) only [gT,L,t,w1,w2,hm',q,e00,L',t',Bv,nt,c0,c1,c2,by_,q2]<;>omega))
     |(with_reducible apply Ao;· first|with_reducible rfl|(simp (disch:=omega) only [gF,L,t,w1,w2,hm',q,e00,L',t',Bv,nt,c0,c1,c2,by_,q2]<;>omega))
    try simp (disch:=omega) only [L,t,w1,w2,hm',q,e00,L',t',Bv,nt,c0,c1,c2,by_,q2]
    all_goals rfl
   ·have he':(e2 != 0)=true:=by simp [he2]
    rw [Bl he2]
    try unfold Aa
    repeat first
     |((with_reducible first|apply Ap|apply Ag|apply Am|apply Ax|apply Az|apply Cf|apply Ah);· first|with_reducible rfl|(simp (disch:=omega) only [L,t,w1,w2,hm',q,e00,L',t',Bv,nt,c0,c1,c2,by_,q2,he',L2,t2]<;>with_reducible rfl))
     |((with_reducible first|apply Ak|apply Al);· first|with_reducible rfl|omega|(simp (disch:=omega) only [gT,L,t,w1,w2,hm',q,e00,L',t',Bv,nt,c0,c1,c2,by_,q2,he',L2,t2]<;>omega))
     |(with_reducible apply Ao;· first|with_reducible rfl|(simp (disch:=omega) only [gF,L,t,w1,w2,hm',q,e00,L',t',Bv,nt,c0,c1,c2,by_,q2,he',L2,t2]<;>omega))
    try simp (disch:=omega) only [L,t,w1,w2,hm',q,e00,L',t',Bv,nt,c0,c1,c2,by_,q2,he',L2,t2]
    all_goals rfl
theorem Am7 (hfu:1000<=fu){s:ByteArray}(hs:s.size<=1000000):∀(m:Nat)(depth:Int)(key:Bool)(before:ByteArray)(at_:Nat)(o:List It),0<=depth->9<=depth+m->depth<=9->at_<=s.size->o.length<=512->(∀x∈o,OkR x) ->
  Ae C0 Tryz.prog fu (d+4+m) Dn [.pbox (Wn s at_ o),.sc (.int .i64 depth),.sc (.bool key),.sc (.string before)]=some (TN s (Ow (B4 s) (m+1) depth key before at_ o)):=by
 intro m
 induction m with
 |zero=>
  intro depth key before at_ o d0 dm d9 ha ho hx;have pr:=Ak1 (fu:=fu) (d:=d) hfu (depth:=depth) (key:=key) (before:=before) hs ha (o:=o) (by omega)
  have hsz:=C9 s;rw [Lz,pr];unfold Ow Xj;rw [hsz];by_cases he:(Bg (B4 s) at_).e=0
  rotate_left
  ·rw [Bl he,Bl he,A3 he];rfl
  have he':¬((Bg (B4 s) at_).e≠0):=by simp [he]
  rw [A3 he',A3 he'];by_cases hp:Ka (Bg (B4 s) at_).k (Bg (B4 s) at_).n depth key o.length (s.size-(Bg (B4 s) at_).at_)=0
  ·obtain ⟨_,p2,_⟩:=GZ hp;omega
  ·rw [Bl hp,Bl hp,Bl he];rfl
 |succ m ih=>
  intro depth key before at_ o d0 dm d9 ha ho hx;have pr:=Ak1 (fu:=fu) (d:=d+1+m) hfu (depth:=depth) (key:=key) (before:=before) hs ha (o:=o) (by omega)
  have hsz:=C9 s;have ed:d+1+m+4=d+4+(m+1):=by omega
  have ed':d+4+m=d+1+m+3:=by omega
  rw [ed'] at ih;rw [ed] at pr;rw [pr];have hfine:=Sd (Sl s) (m+1) (depth+1);generalize hR:Ow (B4 s) (m+1) (depth+1)=R at hfine;unfold Ow Xj;rw [hsz,hR];by_cases he:(Bg (B4 s) at_).e=0
  rotate_left
  ·rw [Bl he,Bl he,A3 he];rfl
  have he':¬((Bg (B4 s) at_).e≠0):=by simp [he]
  rw [A3 he',A3 he'];by_cases hp:Ka (Bg (B4 s) at_).k (Bg (B4 s) at_).n depth key o.length (s.size-(Bg (B4 s) at_).at_)=0
  rotate_left
  ·rw [Bl hp,Bl hp,Bl he];rfl
  have hp':¬(Ka (Bg (B4 s) at_).k (Bg (B4 s) at_).n depth key o.length (s.size-(Bg (B4 s) at_).at_)≠0):=by simp [hp]
  rw [A3 hp',A3 hp'];clear he' hp';obtain ⟨x1,x2,x3⟩:=Am1 (Sl s) (by omega) he (by rw [hsz];exact hp)
  obtain ⟨p1,p2,p3,p4⟩:=GZ hp;obtain ⟨y1,y2⟩:=Rl (b:=B4 s) (at_:=at_) (Sl s) (by omega)
  obtain ⟨k1,k8,n0,n1,_⟩:=y2 he
  have a2:∀x∈o++[(NB (B4 s) (Bg (B4 s) at_)).1],OkR x:=by
   intro x hx';rcases List.mem_append.1 hx' with hx'|hx'
   ·exact hx x hx'
   ·simp at hx';subst hx';exact x1
  have a3:(o++[(NB (B4 s) (Bg (B4 s) at_)).1]).length=o.length+1:=by simp
  generalize Bg (B4 s) at_=h at *
  obtain ⟨k,n,e,a⟩:=h;simp only at *
  obtain ⟨n,rfl⟩:=Int.eq_ofNat_of_zero_le n0
  have hff:∀kk bb aa oo,aa<=s.size->oo.length<=512->(∀x∈oo,OkR x)->Ae C0 Tryz.prog fu (d+1+m+3) Dn [.pbox (Wn s aa oo),.sc (.int .i64 (depth+1)),.sc (.bool kk),.sc (.string bb)]=some (TN s (R kk bb aa oo)):=by
   intro kk bb aa oo h1 h2 h3;rw [ih (depth+1) kk bb aa oo (by omega) (by omega) (by omega) h1 h2 h3,hR]
  by_cases hdt:Mw k=true
  ·obtain ⟨q1,q2⟩:=p3 hdt;have hk34:=(Rm k).1 hdt;have hnest:Qf k=false:=by rcases hk34 with rfl|rfl<;>rfl
   have eX:NB (B4 s) ⟨k,(n:Int),e,a⟩=(⟨k,0,Bo (((B4 s).drop a).take n)⟩,a+n):=by
    unfold NB;rw [Bl hdt];simp
   rw [hdt,hnest,eX];have po:=Ahy (fu:=fu) (d:=d+1+m) (a0_0:=s) (a0_1:=(at_:Int)) (a0_2n:=o.length) (a0_2:=Bq o) (a1:=depth) (a2:=key) (a3:=before) hfu (depth:=depth) (k:=k) (n:=n) (nn':=n) (key:=key) (nest:=false) (before:=before) (s:=s) (t0:=C5) (at_:=a) (o:=o) (nn:=fu) (by omega) (by omega) hk34 (by omega) (by omega) hs rfl
   rw [po];simp only;by_cases hq:H7 key before ⟨k,0,Bo (((B4 s).drop a).take n)⟩=0
   ·rw [Bl hq,A3 (by simp [hq]),A3 (by simp)]
    obtain ⟨nn,rfl⟩:∃nn,fu=nn+1:=⟨fu-1,by omega⟩
    rw [Eg,QO];have L:=En (o++[It.mk k 0 (Bo (((B4 s).drop a).take n))]);have t:List.take ((o++[It.mk k 0 (Bo (((B4 s).drop a).take n))]).length*3) (Bq (o++[It.mk k 0 (Bo (((B4 s).drop a).take n))]))=Bq (o++[It.mk k 0 (Bo (((B4 s).drop a).take n))]):=I0 (by omega)
    rw [BU _ _ (by omega),t]
    rfl
   ·rw [A3 hq,Bl hq];rfl
  ·have hdt':Mw k=false:=by simpa using hdt
   have eX:NB (B4 s) ⟨k,(n:Int),e,a⟩=(⟨k,(n:Int),C5⟩,a):=by
    unfold NB;rw [A3 hdt]
   rw [hdt',eX];rw [eX] at a2 a3 x2;have po:=Ael (fu:=fu) (d:=d+1+m) (a0_0:=s) (a0_1:=(at_:Int)) (a0_2n:=o.length) (a0_2:=Bq o) (a1:=depth) (a2:=key) (a3:=before) hfu (depth:=depth) (n:=(n:Int)) (k:=k) (nn':=(n:Int)) (key:=key) (nest:=Qf k) (before:=before) (s:=s) (t:=C5) (at_:=a) (o:=o) (nn:=fu) (by omega) (by omega) ⟨k1,k8⟩ (by omega) (Nat.zero_le _) (.inr (.inr rfl))
   rw [po];simp only at a2 a3 x2 ⊢;by_cases hq:H7 key before ⟨k,(n:Int),C5⟩=0
   rotate_left
   ·rw [A3 hq,Bl hq];rfl
   rw [Bl hq,A3 (by simp [hq])]
   cases hnest:Qf k
   ·rw [A3 (by simp)]
    obtain ⟨nn,rfl⟩:∃nn,fu=nn+1:=⟨fu-1,by omega⟩
    rw [Eg,QO];have L:=En (o++[It.mk k (n:Int) C5]);have t:List.take ((o++[It.mk k (n:Int) C5]).length*3) (Bq (o++[It.mk k (n:Int) C5]))=Bq (o++[It.mk k (n:Int) C5]):=I0 (by omega)
    rw [BU _ _ (by omega),t]
    rfl
   ·rw [Bl rfl];have:=p4 hnest;rw [Hc];exact RD hfu d0 p2 hfine hff (by omega) n 0 fu C5 a _ (by omega) (by omega) (by omega) (by omega) a2
def HK (b:List Int):List It × Nat × Int:=if (Ow b 10 0 false C5 0 []).1≠0 then ([],0,(Ow b 10 0 false C5 0 []).1) else ((Ow b 10 0 false C5 0 []).2.2,(Ow b 10 0 false C5 0 []).2.1,0)
theorem Ado (hfu:1000<=fu){b:List Int}(hb:G9 b)(hl:b.length<=1000000):
  Ae C0 Tryz.prog fu (d+14) O7 [.lst false 1 b.length (Ai .u8 b)]=some ⟨FY (HK b),[]⟩:=by
 rw [AC];have L:=Aq .u8 b;have bo:=Ft b;have hsz:(Bo b).size=b.length:=Ez b;have it:=Am7 (fu:=fu) (d:=d) hfu (s:=Bo b) (by omega) 9 0 false C5 0 [] (by omega) (by omega) (by omega) (by omega) (by simp) (by simp)
 have fi:=Sd hb 10 0 false C5 0 [] (by omega) (by simp) (by simp)
 rw [Mn hb] at it;have eB:ByteArray.mk (List.toArray (b.map fun n=>n.toNat.toUInt8))=Bo b:=rfl
 unfold HK;generalize Ow b 10 0 false C5 0 []=r at it fi ⊢;obtain ⟨e,a,o⟩:=r;have f4:=fi.top;simp only [TN] at it f4 ⊢;have LT:=En o;have tT:List.take (o.length*3) (Bq o)=Bq o:=I0 (by omega)
 have it':Ae C0 Tryz.prog fu (d+13) Dn [.pbox [.sc (.string (Bo b)),.sc (.int .i64 0),.own 3 0 []],.sc (.int .i64 0),.sc (.bool false),.sc (.string C5)]=some ⟨[.sc (.int .i64 e)],[[.sc (.string (Bo b)),.sc (.int .i64 a),.own 3 o.length (Bq o)]]⟩:=it;clear it;by_cases he:e=0
 ·subst he;have e00:((0:Int) != 0)=false:=rfl;rw [A3 (by simp)]
  unfold FY
  try unfold Aa
  repeat first
   |((with_reducible first|apply Ap|apply Ag|apply Am|apply Ax|apply Az|apply Cf|apply Ah);· first|with_reducible rfl|(simp (disch:=omega) only [L,bo,eB,it',e00,LT,tT]<;>with_reducible rfl))
   |((with_reducible first|apply Ak|apply Al);· first|with_reducible rfl|omega|(simp (disch:=omega) only [gT,L,bo,eB,it',e00,LT,tT]<;>omega))
   |(with_reducible apply Ao;· first|with_reducible rfl|(simp (disch:=omega) only [gF,L,bo,eB,it',e00,LT,tT]<;>omega))
  try simp (disch:=omega) only [L,bo,eB,it',e00,LT,tT]
  all_goals rfl
 ·have he':(e != 0)=true:=by simp [he]
  rw [Bl he];unfold FY
  try unfold Aa
  repeat first
   |((with_reducible first|apply Ap|apply Ag|apply Am|apply Ax|apply Az|apply Cf|apply Ah);· first|with_reducible rfl|(simp (disch:=omega) only [L,bo,eB,it',he',LT,tT]<;>with_reducible rfl))
   |((with_reducible first|apply Ak|apply Al);· first|with_reducible rfl|omega|(simp (disch:=omega) only [gT,L,bo,eB,it',he',LT,tT]<;>omega))
   |(with_reducible apply Ao;· first|with_reducible rfl|(simp (disch:=omega) only [gF,L,bo,eB,it',he',LT,tT]<;>omega))
  try simp (disch:=omega) only [L,bo,eB,it',he',LT,tT]
  all_goals rfl
end
end
section
open Go.IntKind (wrap)
def An5 (depth:Int)(its:List It):Prop:=
 ∀(b:List Int) (at_:Nat) (rest:List Int) (m:Nat) (o:List It),b.drop at_=Bc its++rest->9<=depth+m->o.length+its.length<=512->Ow b (m+1) depth false C5 at_ o=(0,at_+(Bc its).length,o++its)
theorem Ahq {x:It}(hx:XF x)(hn:x.n<=18446744073709551615){depth:Int}(hd:depth<=8):An5 depth [x]:=by
 intro b at_ rest m o h hm ho;have kd:=hx.kd;have hs:=hx.hs;have e1:Bc [x]=Bw x:=by simp [Bc]
 rw [e1] at h ⊢;obtain ⟨q1,q2,q3,q4⟩:=GF (x:=x) hx.hsh (by omega) (by omega) hx.n0 hn hx.hs h
 have ln:x.s.size<=b.length-(at_+((Bw x).length-x.s.size)):=by
  have:=congrArg List.length h;rw [List.length_drop,H1] at this;omega
 have pe:Ka x.k (ZY x) depth false o.length (b.length-(at_+((Bw x).length-x.s.size)))=0:=by
  unfold Ka;simp only [List.length_singleton] at ho;rw [A3 (by omega),A3 (by simp),A3 (by omega)]
  by_cases c34:x.k=3∨x.k=4
  ·have e:ZY x=x.s.size:=by unfold ZY;rw [Bl c34]
   rw [e,A3 (by omega),A3 (by rw [KM];omega),A3 (by omega)]
  ·rw [A3 (by rw [Rm];omega),A3 (by rw [KM];omega),A3 (by rw [Rm];omega)]
 have rx:NB b ⟨x.k,ZY x,0,at_+((Bw x).length-x.s.size)⟩=(x,at_+(Bw x).length):=by
  unfold NB;simp only;by_cases c34:x.k=3∨x.k=4
  ·obtain ⟨z,q2⟩:=q2 c34;have e:ZY x=x.s.size:=by unfold ZY;rw [Bl c34]
   rw [Bl ((Rm _).2 c34),e,Hc,q2,List.take_left' (C9 x.s),Q8];obtain ⟨k,n,s⟩:=x;simp only at z q4 ⊢;subst z
   congr 1
   omega
  ·have q3:=q3 c34;have e:ZY x=x.n:=by unfold ZY;rw [A3 c34]
   rw [A3 (fun hh=>c34 ((Rm _).1 hh)),e]
   obtain ⟨k,n,s⟩:=x;simp only at q3 ⊢;subst q3;have:(ByteArray.mk #[]).size=0:=rfl;rw [this,Nat.sub_zero]
 unfold Ow;rw [q1];simp only;rw [A3 (by simp),pe,A3 (by simp),rx]
 have po:H7 false C5 x=0:=by
  unfold H7;rw [A3 (fun hh=>by have:=hx.hv hh.1;have h2:=hh.2;unfold TH at h2;rw [this] at h2;cases h2),A3 (by simp)]
 rw [po,A3 (by simp),A3 (by rw [KM];omega)]
theorem UK {b:List Int}{depth:Int}{rest:List Int}{m:Nat}(hm:9<=depth+1+m):∀(vs:List (List It)) (at_:Nat)(o:List It)(last:ByteArray),(∀v∈vs,An5 (depth+1) v)->b.drop at_=Bc vs.flatten++rest->o.length+vs.flatten.length<=512 ->
  Ua (Ow b (m+1) (depth+1)) false vs.length last at_ o=(0,at_+(Bc vs.flatten).length,o++vs.flatten)
 |[],at_,o,last,hv,h,ho=>by simp [Ua,Bc]
 |v::vs,at_,o,last,hv,h,ho=>by
  have e:Bc (v::vs).flatten=Bc v++Bc vs.flatten:=by simp [Bc]
  rw [e,Zzv] at h;simp only [List.flatten_cons,H1] at ho;have r:=hv v (by simp) b at_ (Bc vs.flatten++rest) m o h hm (by omega)
  have h':b.drop (at_+(Bc v).length)=Bc vs.flatten++rest:=by rw [←List.drop_drop,h,List.drop_left' rfl]
  have ih:=UK hm vs (at_+(Bc v).length) (o++v) last (fun w hw=>hv w (List.mem_cons_of_mem _ hw)) h' (by rw [H1];omega)
  rw [Ib];unfold Ua;rw [A3 (by simp),r]
  simp only;rw [A3 (by simp),ih,e]
  simp;omega
theorem Alh {vs:List (List It)} {depth:Int}(hv:∀v∈vs,An5 (depth+1) v) (hd:depth<=8)(hl:vs.length<=400):An5 depth (⟨5,vs.length,C5⟩::vs.flatten):=by
 intro b at_ rest m o h hm ho;have e1:Bc (⟨5,vs.length,C5⟩::vs.flatten)=Bw ⟨5,vs.length,C5⟩++Bc vs.flatten:=by simp [Bc]
 rw [e1,Zzv] at h;have z:C5.size=0:=rfl;obtain ⟨q1,q2,q3,q4⟩:=GF (x:=⟨5,vs.length,C5⟩) (b:=b) (at_:=at_) rfl (by simp) (by simp) (by simp) (by simp only;omega) (by rw [z];omega) h
 have e2:ZY ⟨5,vs.length,C5⟩=vs.length:=rfl;simp only [z,Nat.sub_zero] at q1;rw [e2] at q1;simp only [Ib] at ho
 have pe:Ka 5 (vs.length:Int) depth false o.length (b.length-(at_+(Bw ⟨5,vs.length,C5⟩).length))=0:=by
  unfold Ka;rw [A3 (by omega),A3 (by simp),A3 (by omega),A3 (by simp [Mw]),A3 (by omega),A3 (by simp [Mw])]
 have rx:NB b ⟨5,(vs.length:Int),0,at_+(Bw ⟨5,vs.length,C5⟩).length⟩=(⟨5,vs.length,C5⟩,at_+(Bw ⟨5,vs.length,C5⟩).length):=by
  unfold NB;rw [A3 (by simp [Mw])]
 have po:H7 false C5 ⟨5,vs.length,C5⟩=0:=by
  unfold H7;rw [A3 (fun hh=>by simp at hh),A3 (by simp)]
 have h':b.drop (at_+(Bw ⟨5,vs.length,C5⟩).length)=Bc vs.flatten++rest:=by rw [←List.drop_drop,h,List.drop_left' rfl]
 unfold Ow;rw [q1];simp only;rw [A3 (by simp),pe,A3 (by simp),rx]
 simp only;rw [po,A3 (by simp),Bl (show Qf 5=true from rfl),Hc]
 cases vs with
 |nil=>simp [Ua,Bc]
 |cons v vs=>
  obtain ⟨m,rfl⟩:∃k,m=k+1:=⟨m-1,by omega⟩
  have:=UK (b:=b) (rest:=rest) (m:=m) (depth:=depth) (by omega) (v::vs) (at_+(Bw ⟨5,(v::vs).length,C5⟩).length) (o++[⟨5,(v::vs).length,C5⟩]) C5 hv h' (by simp only [H1,List.length_singleton];omega)
  have e6:((5:Int)==6)=false:=rfl;rw [e6,this,e1];simp;omega
theorem Amt {its:List It}(h:An5 0 its)(hl:its.length<=512)(rest:List Int):HK (Bc its++rest)=(its,(Bc its).length,0):=by
 have:=h (Bc its++rest) 0 rest 9 [] (by rw [B8]) (by omega) (by simp;omega)
 unfold HK;rw [this];simp
theorem Ac8 (c:Ce):((Mf c).map fun x=>[x]).flatten=Mf c:=by simp [Mf]
theorem Aik {c:Ce}(hc:c.ok)(h:Dy c=0):HK (Eu c)=(Bb c,(Bc (Bb c)).length,0):=by
 obtain ⟨h0,h1,h2,h3,h4,h5,h6,h7,h8,h9⟩:=Mi h;refine Amt (its:=Bb c) ?_ (by simp [Bb]) (M6 c.sig)
 have hf:=Zf hc.wf h0;have u1:=hc.ser;have u2:=hc.mod
 have:=Alh (vs:=(Mf c).map fun x=>[x]) (depth:=0) (by
  intro v hv;obtain ⟨x,hx,rfl⟩:=List.mem_map.1 hv;refine Ahq (hf x hx) ?_ (by omega)
  simp only [Mf,List.mem_cons,List.not_mem_nil,or_false] at hx;rcases hx with rfl|rfl|rfl|rfl|rfl|rfl|rfl|rfl|rfl
  all_goals simp only
  all_goals try split
  all_goals omega) (by omega) (by simp [Mf])
 rw [Ac8] at this;exact this
end
section
open Go.IntKind (wrap)
def Anx (x:It):Bool:=x.k==5&&(x.n==9&&(x.s==ByteArray.mk #[]&&true))
def Ai9 (b:List Int)(used:Nat):List It->Ce × Int
 |[x0,x1,x2,x3,x4,x5,x6,x7,x8,x9]=>if Anx x0=false then (DJ,2) else (match DK (B4 x4.s),OG (b.drop used) with
  |some k,some s=>if x5.n>1099511627776 then (DJ,2) else if x6.n>1099511627776 then (DJ,2) else if x8.n>2 then (DJ,2) else if Dy (G8 x1 x2 x3 x5 x6 x7 x8 x9 k s)=0∧Eu (G8 x1 x2 x3 x5 x6 x7 x8 x9 k s)=b then (G8 x1 x2 x3 x5 x6 x7 x8 x9 k s,0) else (DJ,2)
  |_,_=>(DJ,2))
 |_=>(DJ,2)
def Zq (b:List Int)(r:List It × Nat × Int):Ce × Int:=
 if b.length>512 then (DJ,8) else if r.2.2≠0 then (DJ,2) else if r.1.length≠10 then (DJ,2) else Ai9 b r.2.1 r.1
theorem Al7 {c:Ce}(hc:c.ok)(h:Dy c=0):Ai9 (Eu c) (Bc (Bb c)).length (Bb c)=(c,0):=by
 have k:=Adz hc h;have s:=Aog hc h;have cs:=EP h;obtain ⟨h0,h1,h2,h3,h4,h5,h6,h7,h8,h9⟩:=Mi h;have a9:Anx ⟨5,9,C5⟩=true:=by decide
 have e:Ai9 (Eu c) (Bc (Bb c)).length (Bb c)=((if Anx ⟨5,9,C5⟩=false then (DJ,2) else (match DK (B4 (Bo (G0 c.key))),OG ((Eu c).drop (Bc (Bb c)).length) with
  |some k,some s=>if c.fr>1099511627776 then (DJ,2) else if c.un>1099511627776 then (DJ,2) else if c.path>2 then (DJ,2) else if Dy (G8 ⟨4,0,c.subj⟩ ⟨4,0,c.iss⟩ ⟨1,c.serial,C5⟩ ⟨1,c.fr,C5⟩ ⟨1,c.un,C5⟩ ⟨7,(if c.auth=true then 1 else 0),C5⟩ ⟨1,c.path,C5⟩ ⟨1,c.model,C5⟩ k s)=0∧Eu (G8 ⟨4,0,c.subj⟩ ⟨4,0,c.iss⟩ ⟨1,c.serial,C5⟩ ⟨1,c.fr,C5⟩ ⟨1,c.un,C5⟩ ⟨7,(if c.auth=true then 1 else 0),C5⟩ ⟨1,c.path,C5⟩ ⟨1,c.model,C5⟩ k s)=Eu c then (G8 ⟨4,0,c.subj⟩ ⟨4,0,c.iss⟩ ⟨1,c.serial,C5⟩ ⟨1,c.fr,C5⟩ ⟨1,c.un,C5⟩ ⟨7,(if c.auth=true then 1 else 0),C5⟩ ⟨1,c.path,C5⟩ ⟨1,c.model,C5⟩ k s,0) else (DJ,2)
  |_,_=>(DJ,2))):Ce × Int):=rfl
 rw [e,a9,A3 (by simp),k,s]
 simp only [cs];rw [A3 (by omega),A3 (by omega),A3 (by omega),Bl ⟨h,by trivial⟩]
theorem Ajb {b:List Int}{used:Nat}{its:List It}(hx:∀x∈its,OkX x)(hn:∀c:Ce,c.ok->Dy c=0->Eu c≠b):Ai9 b used its=(DJ,2):=by
 unfold Ai9;split
 ·split
  ·rfl
  ·split
   ·rename_i hk hs;split
    ·rfl
    split
    ·rfl
    split
    ·rfl
    rw [A3];intro ⟨h1,h2⟩;exact hn _ (Zj (hx _ (by simp)) (hx _ (by simp)) (IP hk).2 (RB hs).1) h1 h2
   ·rfl
 ·rfl
theorem Ahw {b:List Int}(hb:G9 b){r:List It × Nat × Int}(hx:∀x∈r.1,OkX x)(hc:∀c:Ce,c.ok->Dy c=0->Eu c=b->r=(Bb c,(Bc (Bb c)).length,0)):Zq b r=J8 b:=by
 by_cases h5:b.length>512
 ·unfold Zq J8;rw [Bl h5,Bl h5]
 by_cases hex:∃c:Ce,c.ok∧Dy c=0∧Eu c=b
 ·obtain ⟨c,c1,c2,c3⟩:=hex;have e:=hc c c1 c2 c3;subst c3;rw [PZ c1 c2,e];unfold Zq;rw [A3 h5,A3 (by simp),A3 (by simp [Bb])]
  exact Al7 c1 c2
 ·have hn:∀c:Ce,c.ok->Dy c=0->Eu c≠b:=fun c h1 h2 h3=>hex ⟨c,h1,h2,h3⟩
  rw [WP hb (by omega) hn]
  unfold Zq;rw [A3 h5,Ajb hx hn];split
  ·rfl
  ·split<;>rfl
section
variable {fu d:Nat}
theorem Ad4 (hfu:1000<=fu){b:List Int}(hb:G9 b)(hl:b.length<=1000000):
  Ae C0 Tryz.prog fu (d+15) Io [.lst false 1 b.length (Ai .u8 b)]=some ⟨[.agg (Zq b (HK b)).1.cells,.sc (.int .i64 (Zq b (HK b)).2)],[]⟩:=by
 refine (Yv fu (d+14) b.length (Ai .u8 b)).trans ?_;have dec:=Ado (fu:=fu) (d:=d) hfu hb hl;have fi:=Sd hb 10 0 false C5 0 [] (by omega) (by simp) (by simp)
 have hox:∀x∈(HK b).1,OkX x:=by
  unfold HK;split
  ·intro x hx;simp at hx
  ·intro x hx;exact (fi.all x hx).1
 have hat:(HK b).2.1<=b.length:=by
  unfold HK;split
  ·simp
  ·exact fi.at_
 clear fi;generalize HK b=r at dec hat hox ⊢;obtain ⟨its,used,e⟩:=r;simp only at hat hox;unfold FY at dec;simp only at dec;unfold Zq;simp only;by_cases h5:b.length>512
 ·rw [Bl h5]
  try unfold Aa
  repeat first
   |((with_reducible first|apply Ap|apply Ag|apply Am|apply Ax|apply Az|apply A6|apply Cf|apply Ah);· first|with_reducible rfl|(simp (disch:=omega) only [Bj]<;>with_reducible rfl))
   |((with_reducible first|apply Ak|apply Al);· first|with_reducible rfl|omega|(simp (disch:=omega) only [gT,Bj]<;>omega))
   |(with_reducible apply Ao;· first|with_reducible rfl|(simp (disch:=omega) only [gF,Bj]<;>omega))
  try simp (disch:=omega) only [Bj]
  all_goals rfl
 rw [A3 h5];by_cases he:e=0
 rotate_left
 ·rw [Bl he];have he':(e != 0)=true:=by simp [he]
  try unfold Aa
  repeat first
   |((with_reducible first|apply Ap|apply Ag|apply Am|apply Ax|apply Az|apply A6|apply Cf|apply Ah);· first|with_reducible rfl|(simp (disch:=omega) only [dec,he']<;>with_reducible rfl))
   |((with_reducible first|apply Ak|apply Al);· first|with_reducible rfl|omega|(simp (disch:=omega) only [gT,dec,he']<;>omega))
   |(with_reducible apply Ao;· first|with_reducible rfl|(simp (disch:=omega) only [gF,dec,he']<;>omega))
  try simp (disch:=omega) only [dec,he']
  all_goals rfl
 rw [A3 (by simp [he])]
 subst he;have e00:((0:Int) != 0)=false:=rfl;have e20:((2:Int) != 0)=true:=rfl;have LT:=En its;have tT:List.take (its.length*3) (Bq its)=Bq its:=I0 (by omega)
 by_cases h10:its.length=10
 rotate_left
 ·rw [Bl h10];have hne:((its.length:Int) != 10)=true:=by simp;omega
  try unfold Aa
  repeat first
   |((with_reducible first|apply Ap|apply Ag|apply Am|apply Ax|apply Az|apply A6|apply Cf|apply Ah);· first|with_reducible rfl|(simp (disch:=omega) only [dec,e00,B8,Bv,LT,tT,hne,Bp,Br]<;>with_reducible rfl))
   |((with_reducible first|apply Ak|apply Al);· first|with_reducible rfl|omega|(simp (disch:=omega) only [gT,dec,e00,B8,Bv,LT,tT,hne,Bp,Br]<;>omega))
   |(with_reducible apply Ao;· first|with_reducible rfl|(simp (disch:=omega) only [gF,dec,e00,B8,Bv,LT,tT,hne,Bp,Br]<;>omega))
  try simp (disch:=omega) only [dec,e00,B8,Bv,LT,tT,hne,Bp,Br]
  all_goals rfl
 rw [A3 (by simp [h10])]
 obtain ⟨x0,x1,x2,x3,x4,x5,x6,x7,x8,x9,rfl⟩:=Acq h10;have o1:=hox x1 (by simp)
 have o2:=hox x2 (by simp)
 have o3:=hox x3 (by simp)
 have o4:=hox x4 (by simp)
 have o9:=hox x9 (by simp)
 clear hox;have g0:List.getD (Bq [x0,x1,x2,x3,x4,x5,x6,x7,x8,x9]) 0 .top=.sc (.int .i64 x0.k):=rfl;have g1:List.getD (Bq [x0,x1,x2,x3,x4,x5,x6,x7,x8,x9]) 1 .top=.sc (.int .u64 x0.n):=rfl;have g2:List.getD (Bq [x0,x1,x2,x3,x4,x5,x6,x7,x8,x9]) 2 .top=.sc (.string x0.s):=rfl;have g14:List.getD (Bq [x0,x1,x2,x3,x4,x5,x6,x7,x8,x9]) 14 .top=.sc (.string x4.s):=rfl;have g5:List.getD (Bq [x0,x1,x2,x3,x4,x5,x6,x7,x8,x9]) 5 .top=.sc (.string x1.s):=rfl;have g8:List.getD (Bq [x0,x1,x2,x3,x4,x5,x6,x7,x8,x9]) 8 .top=.sc (.string x2.s):=rfl;have g10:List.getD (Bq [x0,x1,x2,x3,x4,x5,x6,x7,x8,x9]) 10 .top=.sc (.int .u64 x3.n):=rfl;have g16:List.getD (Bq [x0,x1,x2,x3,x4,x5,x6,x7,x8,x9]) 16 .top=.sc (.int .u64 x5.n):=rfl;have g19:List.getD (Bq [x0,x1,x2,x3,x4,x5,x6,x7,x8,x9]) 19 .top=.sc (.int .u64 x6.n):=rfl
 have g22:List.getD (Bq [x0,x1,x2,x3,x4,x5,x6,x7,x8,x9]) 22 .top=.sc (.int .u64 x7.n):=rfl;have g25:List.getD (Bq [x0,x1,x2,x3,x4,x5,x6,x7,x8,x9]) 25 .top=.sc (.int .u64 x8.n):=rfl;have g28:List.getD (Bq [x0,x1,x2,x3,x4,x5,x6,x7,x8,x9]) 28 .top=.sc (.int .u64 x9.n):=rfl;have ln:[x0,x1,x2,x3,x4,x5,x6,x7,x8,x9].length=10:=rfl;rw [ln] at dec LT tT;have l10:(((10:Nat):Int) != 10)=false:=rfl;generalize Bq [x0,x1,x2,x3,x4,x5,x6,x7,x8,x9]=T at *
 clear h10;have hs4:=o4.s1;have L4:(Ct x4.s).length=x4.s.size:=by rw [Fw,Aq,C9]
 have t4:List.take x4.s.size (Ct x4.s)=Ai .u8 (B4 x4.s):=by rw [Fw,I0 (by rw [Aq,C9];omega)]
 have ar:=VJ (fu:=fu) (d:=d+13) 9 (by omega) (by omega)
 have dk:=RW (fu:=fu) (d:=d+12) hfu (Sl x4.s);rw [C9] at dk;unfold Ai9;simp only;have ea:(x0.k==5&&(x0.n==9&&(x0.s==ByteArray.mk #[]&&true)))=Anx x0:=rfl;cases ha:Anx x0
 ·rw [ha] at ea;rw [Bl rfl]
  try unfold Aa
  repeat first
   |((with_reducible first|apply Ap|apply Ag|apply Am|apply Ax|apply Az|apply A6|apply Cf|apply Ah);· first|with_reducible rfl|(simp (disch:=omega) only [dec,e00,e20,l10,B8,Bv,Bj,Nat.reduceMul,LT,tT,g0,g1,g2,ar,ea,Bp,Br]<;>with_reducible rfl))
   |((with_reducible first|apply Ak|apply Al);· first|with_reducible rfl|omega|(simp (disch:=omega) only [gT,dec,e00,e20,l10,B8,Bv,Bj,Nat.reduceMul,LT,tT,g0,g1,g2,ar,ea,Bp,Br]<;>omega))
   |(with_reducible apply Ao;· first|with_reducible rfl|(simp (disch:=omega) only [gF,dec,e00,e20,l10,B8,Bv,Bj,Nat.reduceMul,LT,tT,g0,g1,g2,ar,ea,Bp,Br]<;>omega))
  try simp (disch:=omega) only [dec,e00,e20,l10,B8,Bv,Bj,Nat.reduceMul,LT,tT,g0,g1,g2,ar,ea,Bp,Br]
  all_goals rfl
 rw [ha] at ea;rw [A3 (by simp)]
 cases hk:DK (B4 x4.s) with
 |none=>
  rw [hk] at dk;simp only [FT,Ky.cells] at dk
  try unfold Aa
  repeat first
   |((with_reducible first|apply Ap|apply Ag|apply Am|apply Ax|apply Az|apply A6|apply Cf|apply Ah);· first|with_reducible rfl|(simp (disch:=omega) only [dec,e00,e20,l10,B8,Bv,Bj,Nat.reduceMul,LT,tT,g0,g1,g2,ar,ea,g14,L4,t4,dk,Bp,Br]<;>with_reducible rfl))
   |((with_reducible first|apply Ak|apply Al);· first|with_reducible rfl|omega|(simp (disch:=omega) only [gT,dec,e00,e20,l10,B8,Bv,Bj,Nat.reduceMul,LT,tT,g0,g1,g2,ar,ea,g14,L4,t4,dk,Bp,Br]<;>omega))
   |(with_reducible apply Ao;· first|with_reducible rfl|(simp (disch:=omega) only [gF,dec,e00,e20,l10,B8,Bv,Bj,Nat.reduceMul,LT,tT,g0,g1,g2,ar,ea,g14,L4,t4,dk,Bp,Br]<;>omega))
  try simp (disch:=omega) only [dec,e00,e20,l10,B8,Bv,Bj,Nat.reduceMul,LT,tT,g0,g1,g2,ar,ea,g14,L4,t4,dk,Bp,Br]
  all_goals rfl
 |some k=>
  rw [hk] at dk;simp only [FT,Ky.cells] at dk;obtain ⟨k1,k2⟩:=IP hk;have ds:=FO (fu:=fu) (d:=d+12) hfu (l:=b.drop used) (fun x hx=>hb x (List.mem_of_mem_drop hx))
  rw [List.length_drop] at ds;have tb:List.take (b.length-used) (List.drop used (Ai .u8 b))=Ai .u8 (b.drop used):=by rw [E2,I0 (by rw [Aq,List.length_drop];omega)]
  have nu:Int.toNat (used:Int)=used:=Hc used;cases hs:OG (b.drop used) with
  |none=>
   rw [hs] at ds;simp only [Si,Sg.owned] at ds
   try unfold Aa
   repeat first
    |((with_reducible first|apply Ap|apply Ag|apply Am|apply Ax|apply Az|apply A6|apply Cf|apply Ah);· first|with_reducible rfl|(simp (disch:=omega) only [dec,e00,e20,l10,B8,Bv,Bj,Nat.reduceMul,LT,tT,g0,g1,g2,ar,ea,g14,L4,t4,dk,nu,tb,ds,Bp,Br]<;>with_reducible rfl))
    |((with_reducible first|apply Ak|apply Al);· first|with_reducible rfl|omega|(simp (disch:=omega) only [gT,dec,e00,e20,l10,B8,Bv,Bj,Nat.reduceMul,LT,tT,g0,g1,g2,ar,ea,g14,L4,t4,dk,nu,tb,ds,Bp,Br]<;>omega))
    |(with_reducible apply Ao;· first|with_reducible rfl|(simp (disch:=omega) only [gF,dec,e00,e20,l10,B8,Bv,Bj,Nat.reduceMul,LT,tT,g0,g1,g2,ar,ea,g14,L4,t4,dk,nu,tb,ds,Bp,Br]<;>omega))
   try simp (disch:=omega) only [dec,e00,e20,l10,B8,Bv,Bj,Nat.reduceMul,LT,tT,g0,g1,g2,ar,ea,g14,L4,t4,dk,nu,tb,ds,Bp,Br]
   all_goals rfl
  |some s=>
   rw [hs] at ds;simp only [Si,Sg.owned] at ds;obtain ⟨s1,s2,s3⟩:=RB hs;simp only;by_cases n5:x5.n>1099511627776
   ·rw [Bl n5]
    try unfold Aa
    repeat first
     |((with_reducible first|apply Ap|apply Ag|apply Am|apply Ax|apply Az|apply A6|apply Cf|apply Ah);· first|with_reducible rfl|(simp (disch:=omega) only [dec,e00,e20,l10,B8,Bv,Bj,Nat.reduceMul,LT,tT,g0,g1,g2,ar,ea,g14,L4,t4,dk,nu,tb,ds,g16,Bp,Br]<;>with_reducible rfl))
     |((with_reducible first|apply Ak|apply Al);· first|with_reducible rfl|omega|(simp (disch:=omega) only [gT,dec,e00,e20,l10,B8,Bv,Bj,Nat.reduceMul,LT,tT,g0,g1,g2,ar,ea,g14,L4,t4,dk,nu,tb,ds,g16,Bp,Br]<;>omega))
     |(with_reducible apply Ao;· first|with_reducible rfl|(simp (disch:=omega) only [gF,dec,e00,e20,l10,B8,Bv,Bj,Nat.reduceMul,LT,tT,g0,g1,g2,ar,ea,g14,L4,t4,dk,nu,tb,ds,g16,Bp,Br]<;>omega))
    try simp (disch:=omega) only [dec,e00,e20,l10,B8,Bv,Bj,Nat.reduceMul,LT,tT,g0,g1,g2,ar,ea,g14,L4,t4,dk,nu,tb,ds,g16,Bp,Br]
    all_goals rfl
   rw [A3 n5];by_cases n6:x6.n>1099511627776
   ·rw [Bl n6]
    try unfold Aa
    repeat first
     |((with_reducible first|apply Ap|apply Ag|apply Am|apply Ax|apply Az|apply A6|apply Cf|apply Ah);· first|with_reducible rfl|(simp (disch:=omega) only [dec,e00,e20,l10,B8,Bv,Bj,Nat.reduceMul,LT,tT,g0,g1,g2,ar,ea,g14,L4,t4,dk,nu,tb,ds,g16,g19,Bp,Br]<;>with_reducible rfl))
     |((with_reducible first|apply Ak|apply Al);· first|with_reducible rfl|omega|(simp (disch:=omega) only [gT,dec,e00,e20,l10,B8,Bv,Bj,Nat.reduceMul,LT,tT,g0,g1,g2,ar,ea,g14,L4,t4,dk,nu,tb,ds,g16,g19,Bp,Br]<;>omega))
     |(with_reducible apply Ao;· first|with_reducible rfl|(simp (disch:=omega) only [gF,dec,e00,e20,l10,B8,Bv,Bj,Nat.reduceMul,LT,tT,g0,g1,g2,ar,ea,g14,L4,t4,dk,nu,tb,ds,g16,g19,Bp,Br]<;>omega))
    try simp (disch:=omega) only [dec,e00,e20,l10,B8,Bv,Bj,Nat.reduceMul,LT,tT,g0,g1,g2,ar,ea,g14,L4,t4,dk,nu,tb,ds,g16,g19,Bp,Br]
    all_goals rfl
   rw [A3 n6];by_cases n8:x8.n>2
   ·rw [Bl n8]
    try unfold Aa
    repeat first
     |((with_reducible first|apply Ap|apply Ag|apply Am|apply Ax|apply Az|apply A6|apply Cf|apply Ah);· first|with_reducible rfl|(simp (disch:=omega) only [dec,e00,e20,l10,B8,Bv,Bj,Nat.reduceMul,LT,tT,g0,g1,g2,ar,ea,g14,L4,t4,dk,nu,tb,ds,g16,g19,g25,Bp,Br]<;>with_reducible rfl))
     |((with_reducible first|apply Ak|apply Al);· first|with_reducible rfl|omega|(simp (disch:=omega) only [gT,dec,e00,e20,l10,B8,Bv,Bj,Nat.reduceMul,LT,tT,g0,g1,g2,ar,ea,g14,L4,t4,dk,nu,tb,ds,g16,g19,g25,Bp,Br]<;>omega))
     |(with_reducible apply Ao;· first|with_reducible rfl|(simp (disch:=omega) only [gF,dec,e00,e20,l10,B8,Bv,Bj,Nat.reduceMul,LT,tT,g0,g1,g2,ar,ea,g14,L4,t4,dk,nu,tb,ds,g16,g19,g25,Bp,Br]<;>omega))
    try simp (disch:=omega) only [dec,e00,e20,l10,B8,Bv,Bj,Nat.reduceMul,LT,tT,g0,g1,g2,ar,ea,g14,L4,t4,dk,nu,tb,ds,g16,g19,g25,Bp,Br]
    all_goals rfl
   rw [A3 n8];have cok:(G8 x1 x2 x3 x5 x6 x7 x8 x9 k s).ok:=Zj o3 o9 k2 s1;have en:=Aft (fu:=fu) (d:=d+8) (c:=G8 x1 x2 x3 x5 x6 x7 x8 x9 k s) hfu cok.wf (Nat.le_trans o1.s1 (by omega)) (Nat.le_trans o2.s1 (by omega)) (Nat.le_trans s2 (by omega))
   have ec:(G8 x1 x2 x3 x5 x6 x7 x8 x9 k s).cells=[.sc (.string x1.s),.sc (.string x2.s),.sc (.int .u64 x3.n),.sc (.int .i64 k.h),.sc (.int .u64 k.root),.sc (.int .i64 (wrap .i64 x5.n)),.sc (.int .i64 (wrap .i64 x6.n)),.sc (.bool (x7.n==1)),.sc (.int .i64 (wrap .i64 x8.n)),.sc (.int .u64 x9.n),.sc (.int .i64 s.leaf),.lst false 1 s.chains.length (Ai .u64 s.chains),.lst false 1 s.path.length (Ai .u64 s.path)]:=rfl;have eB:=fun h=>Ae7 (c:=G8 x1 x2 x3 x5 x6 x7 x8 x9 k s) cok.wf h
   have eL:=fun h=>GV (c:=G8 x1 x2 x3 x5 x6 x7 x8 x9 k s) h
   have Lc:=Aq .u64 s.chains;have Lp:=Aq .u64 s.path;have tc:=Gd .u64 s.chains;have tp:=Gd .u64 s.path;generalize G8 x1 x2 x3 x5 x6 x7 x8 x9 k s=c at *
   rw [ec] at en;unfold FU at en;by_cases hz:Dy c=0
   rotate_left
   ·have hz':(Dy c != 0)=true:=by simp [hz]
    rw [A3 hz] at en;rw [A3 (fun h=>hz h.1)]
    try unfold Aa
    repeat first
     |((with_reducible first|apply Ap|apply Ag|apply Am|apply Ax|apply Az|apply A6|apply Cf|apply Ah);· first|with_reducible rfl|(simp (disch:=omega) only [dec,e00,e20,l10,B8,Bv,Bj,Nat.reduceMul,LT,tT,g0,g1,g2,ar,ea,g14,L4,t4,dk,nu,tb,ds,g5,g8,g10,g16,g19,g22,g25,g28,Lc,Lp,tc,tp,en,hz',Bp,Br]<;>with_reducible rfl))
     |((with_reducible first|apply Ak|apply Al);· first|with_reducible rfl|omega|(simp (disch:=omega) only [gT,dec,e00,e20,l10,B8,Bv,Bj,Nat.reduceMul,LT,tT,g0,g1,g2,ar,ea,g14,L4,t4,dk,nu,tb,ds,g5,g8,g10,g16,g19,g22,g25,g28,Lc,Lp,tc,tp,en,hz',Bp,Br]<;>omega))
     |(with_reducible apply Ao;· first|with_reducible rfl|(simp (disch:=omega) only [gF,dec,e00,e20,l10,B8,Bv,Bj,Nat.reduceMul,LT,tT,g0,g1,g2,ar,ea,g14,L4,t4,dk,nu,tb,ds,g5,g8,g10,g16,g19,g22,g25,g28,Lc,Lp,tc,tp,en,hz',Bp,Br]<;>omega))
    try simp (disch:=omega) only [dec,e00,e20,l10,B8,Bv,Bj,Nat.reduceMul,LT,tT,g0,g1,g2,ar,ea,g14,L4,t4,dk,nu,tb,ds,g5,g8,g10,g16,g19,g22,g25,g28,Lc,Lp,tc,tp,en,hz',Bp,Br]
    all_goals rfl
   rw [Bl hz] at en;have be:=Atp (eB hz) hb;have LE:=Aq .u8 (Eu c);have tE:=Gd .u8 (Eu c);have oE:=Ft (Eu c);have LB:=Aq .u8 b;have oB:=Ft b;by_cases hq:Eu c=b
   ·rw [Bl ⟨hz,hq⟩];simp only [hq,decide_true] at be en LE tE oE;simp only [ec]
    try unfold Aa
    repeat first
     |((with_reducible first|apply Ap|apply Ag|apply Am|apply Ax|apply Az|apply A6|apply Cf|apply Ah);· first|with_reducible rfl|(simp (disch:=omega) only [dec,e00,e20,l10,B8,Bv,Bj,Nat.reduceMul,LT,tT,g0,g1,g2,ar,ea,g14,L4,t4,dk,nu,tb,ds,g5,g8,g10,g16,g19,g22,g25,g28,Lc,Lp,tc,tp,en,LE,tE,oE,LB,oB,be,Bp,Br]<;>with_reducible rfl))
     |((with_reducible first|apply Ak|apply Al);· first|with_reducible rfl|omega|(simp (disch:=omega) only [gT,dec,e00,e20,l10,B8,Bv,Bj,Nat.reduceMul,LT,tT,g0,g1,g2,ar,ea,g14,L4,t4,dk,nu,tb,ds,g5,g8,g10,g16,g19,g22,g25,g28,Lc,Lp,tc,tp,en,LE,tE,oE,LB,oB,be,Bp,Br]<;>omega))
     |(with_reducible apply Ao;· first|with_reducible rfl|(simp (disch:=omega) only [gF,dec,e00,e20,l10,B8,Bv,Bj,Nat.reduceMul,LT,tT,g0,g1,g2,ar,ea,g14,L4,t4,dk,nu,tb,ds,g5,g8,g10,g16,g19,g22,g25,g28,Lc,Lp,tc,tp,en,LE,tE,oE,LB,oB,be,Bp,Br]<;>omega))
    try simp (disch:=omega) only [dec,e00,e20,l10,B8,Bv,Bj,Nat.reduceMul,LT,tT,g0,g1,g2,ar,ea,g14,L4,t4,dk,nu,tb,ds,g5,g8,g10,g16,g19,g22,g25,g28,Lc,Lp,tc,tp,en,LE,tE,oE,LB,oB,be,Bp,Br]
    all_goals rfl
   ·rw [A3 (fun h=>hq h.2)]
    simp only [hq,decide_false] at be
    try unfold Aa
    repeat first
     |((with_reducible first|apply Ap|apply Ag|apply Am|apply Ax|apply Az|apply A6|apply Cf|apply Ah);· first|with_reducible rfl|(simp (disch:=omega) only [dec,e00,e20,l10,B8,Bv,Bj,Nat.reduceMul,LT,tT,g0,g1,g2,ar,ea,g14,L4,t4,dk,nu,tb,ds,g5,g8,g10,g16,g19,g22,g25,g28,Lc,Lp,tc,tp,en,LE,tE,oE,LB,oB,be,Bp,Br]<;>with_reducible rfl))
     |((with_reducible first|apply Ak|apply Al);· first|with_reducible rfl|omega|(simp (disch:=omega) only [gT,dec,e00,e20,l10,B8,Bv,Bj,Nat.reduceMul,LT,tT,g0,g1,g2,ar,ea,g14,L4,t4,dk,nu,tb,ds,g5,g8,g10,g16,g19,g22,g25,g28,Lc,Lp,tc,tp,en,LE,tE,oE,LB,oB,be,Bp,Br]<;>omega))
     |(with_reducible apply Ao;· first|with_reducible rfl|(simp (disch:=omega) only [gF,dec,e00,e20,l10,B8,Bv,Bj,Nat.reduceMul,LT,tT,g0,g1,g2,ar,ea,g14,L4,t4,dk,nu,tb,ds,g5,g8,g10,g16,g19,g22,g25,g28,Lc,Lp,tc,tp,en,LE,tE,oE,LB,oB,be,Bp,Br]<;>omega))
    try simp (disch:=omega) only [dec,e00,e20,l10,B8,Bv,Bj,Nat.reduceMul,LT,tT,g0,g1,g2,ar,ea,g14,L4,t4,dk,nu,tb,ds,g5,g8,g10,g16,g19,g22,g25,g28,Lc,Lp,tc,tp,en,LE,tE,oE,LB,oB,be,Bp,Br]
    all_goals rfl
theorem Ann (hfu:1000<=fu){b:List Int}(hb:G9 b)(hl:b.length<=1000000):
  Ae C0 Tryz.prog fu (d+15) Io [.lst false 1 b.length (Ai .u8 b)]=some ⟨[.agg (J8 b).1.cells,.sc (.int .i64 (J8 b).2)],[]⟩:=by
 have fi:=Sd hb 10 0 false C5 0 [] (by omega) (by simp) (by simp)
 have e:Zq b (HK b)=J8 b:=Ahw hb (by
  unfold HK;split
  ·intro x hx;simp at hx
  ·intro x hx;exact (fi.all x hx).1) (fun c c1 c2 c3=>by subst c3;exact Aik c1 c2)
 rw [←e];exact Ad4 hfu hb hl
end
end
section
open Go.IntKind (wrap)
structure An where
 name:ByteArray
 key:Ky
structure Rv where
 iss:ByteArray
 ser:Int
 at_:Int
def An.cells (a:An):List PV:=[.sc (.string a.name),.sc (.int .i64 a.key.h),.sc (.int .u64 a.key.root)]
def Rv.cells (r:Rv):List PV:=[.sc (.string r.iss),.sc (.int .u64 r.ser),.sc (.int .i64 r.at_)]
def Ev (l:List An):List PV:=l.flatMap An.cells
def Fb (l:List Rv):List PV:=l.flatMap Rv.cells
def Cc (l:List Ce):List PV:=l.flatMap Ce.cells
theorem An.cells_len (a:An):a.cells.length=3:=rfl
theorem Rv.cells_len (r:Rv):r.cells.length=3:=rfl
theorem Ce.cells_len (c:Ce):c.cells.length=13:=rfl
theorem BZ (l:List Ce):(Cc l).length=l.length*13:=PI Ce.cells_len l
abbrev eqS (a b:ByteArray):Bool:=Array.toList (ByteArray.data a)==Array.toList (ByteArray.data b)
def M2 (c:Ce)(now:Int)(r:Rv):Bool:=eqS r.iss c.iss&&(r.ser==c.serial&&decide (r.at_<=now))
def J6 (c:Ce)(now:Int)(l:List Rv):Int:=if l.any (M2 c now)=true then 39 else 0
def Gg (c:Ce)(i:Int)(l:List Rv)(now:Int):Int:=
 if Bf c≠0 then Bf c else if now<c.fr then 38 else if now>c.un then 38 else if i>0 then (if c.auth=false then 38 else if c.path<i-1 then 38 else J6 c now l) else J6 c now l
def M0 (c:Ce):Nat->List An->Int
 |_,[]=> -1
 |i,a::r=>if eqS a.name c.iss=true∧Od c a.key=0 then (i:Int) else M0 c (i+1) r
def ZH (c:Ce)(l:List An):Int × Int:=if M0 c 0 l<0 then (0,38) else (M0 c 0 l,0)
def V8 (ans:List An)(vs:List Rv)(now:Int):Nat->List Ce->Int × Int
 |_,[]=>(0,0)
 |i,[c]=>if Gg c i vs now≠0 then (0,Gg c i vs now) else ZH c ans
 |i,c::c2::r=>if Gg c i vs now≠0 then (0,Gg c i vs now) else if eqS c.iss c2.subj=false then (0,38) else if Od c c2.key≠0 then (0,Od c c2.key) else V8 ans vs now (i+1) (c2::r)
def O5 (cs:List Ce)(ans:List An)(vs:List Rv)(now:Int):Int × Int:=
 if now<0 then (0,9) else if now>1099511627776 then (0,9) else if cs.length<1 then (0,38) else if cs.length>3 then (0,38) else V8 ans vs now 0 cs
structure Ce.in_ (c:Ce):Prop where
 wf:c.wf
 s1:c.subj.size<=9223372036854775807
 s2:c.iss.size<=9223372036854775807
theorem cer {l:List Ce}{i:Nat}{c:Ce}(h:l[i]?=some c):
  (Cc l).getD (i*13) .top=.sc (.string c.subj)∧(Cc l).getD (i*13+1) .top=.sc (.string c.iss)∧(Cc l).getD (i*13+1+1) .top=.sc (.int .u64 c.serial) ∧
  (Cc l).getD (i*13+1+1+1) .top=.sc (.int .i64 c.key.h)∧(Cc l).getD (i*13+1+1+1+1) .top=.sc (.int .u64 c.key.root)∧(Cc l).getD (i*13+1+1+1+1+1) .top=.sc (.int .i64 c.fr) ∧
  (Cc l).getD (i*13+1+1+1+1+1+1) .top=.sc (.int .i64 c.un)∧(Cc l).getD (i*13+1+1+1+1+1+1+1) .top=.sc (.bool c.auth)∧(Cc l).getD (i*13+1+1+1+1+1+1+1+1) .top=.sc (.int .i64 c.path) ∧
  (Cc l).getD (i*13+1+1+1+1+1+1+1+1+1) .top=.sc (.int .u64 c.model)∧(Cc l).getD (i*13+1+1+1+1+1+1+1+1+1+1) .top=.sc (.int .i64 c.sig.leaf) ∧
  (Cc l).getD (i*13+1+1+1+1+1+1+1+1+1+1+1) .top=.lst false 1 c.sig.chains.length (Ai .u64 c.sig.chains)∧(Cc l).getD (i*13+1+1+1+1+1+1+1+1+1+1+1+1) .top=.lst false 1 c.sig.path.length (Ai .u64 c.sig.path):=
 ⟨Ex Ce.cells_len h (j:=0) (by omega),Ex Ce.cells_len h (j:=1) (by omega),Ex Ce.cells_len h (j:=2) (by omega),Ex Ce.cells_len h (j:=3) (by omega),Ex Ce.cells_len h (j:=4) (by omega),Ex Ce.cells_len h (j:=5) (by omega),Ex Ce.cells_len h (j:=6) (by omega),Ex Ce.cells_len h (j:=7) (by omega),Ex Ce.cells_len h (j:=8) (by omega),Ex Ce.cells_len h (j:=9) (by omega),Ex Ce.cells_len h (j:=10) (by omega),Ex Ce.cells_len h (j:=11) (by omega),Ex Ce.cells_len h (j:=12) (by omega)⟩
theorem rva {l:List Rv}{i:Nat}{r:Rv}(h:l[i]?=some r):(Fb l).getD (i*3) .top=.sc (.string r.iss)∧(Fb l).getD (i*3+1) .top=.sc (.int .u64 r.ser)∧(Fb l).getD (i*3+2) .top=.sc (.int .i64 r.at_):=
 ⟨Ex Rv.cells_len h (j:=0) (by omega),Ex Rv.cells_len h (j:=1) (by omega),Ex Rv.cells_len h (j:=2) (by omega)⟩
theorem ana {l:List An}{i:Nat}{a:An}(h:l[i]?=some a):(Ev l).getD (i*3) .top=.sc (.string a.name)∧(Ev l).getD (i*3+1) .top=.sc (.int .i64 a.key.h)∧(Ev l).getD (i*3+2) .top=.sc (.int .u64 a.key.root):=
 ⟨Ex An.cells_len h (j:=0) (by omega),Ex An.cells_len h (j:=1) (by omega),Ex An.cells_len h (j:=2) (by omega)⟩
section
variable {fu d:Nat}
theorem XB {call:Ar}{a0_0 a0_1:ByteArray}{a0_2 a0_3 a0_4 a0_5 a0_6 a0_8 a0_9 a0_10 a1 a3:Int}{a0_7:Bool}{a0_11n a0_12n a2n:Nat}{a0_11 a0_12 a2:List PV}{c:Ce}{now:Int}{vs:List Rv}(hl:vs.length<=1000000):∀(r:List Rv)(i nn:Nat),vs.drop i=r->r.length<nn->i<=vs.length ->
  C8 fu call a0_0 a0_1 a0_2 a0_3 a0_4 a0_5 a0_6 a0_7 a0_8 a0_9 a0_10 a0_11n a0_11 a0_12n a0_12 a1 a2n a2 a3 nn now vs.length (Fb vs) (vs.length:Int) (i:Int) c.subj c.iss c.serial c.key.h c.key.root c.fr c.un c.auth c.path c.model c.sig.leaf c.sig.chains.length (Ai .u64 c.sig.chains) c.sig.path.length (Ai .u64 c.sig.path) =
   some ⟨[.sc (.int .i64 (J6 c now r))],[]⟩
 |_,_,0,_,h,_=>by omega
 |[],i,nn+1,h,hn,hi=>by
  have:=drop_nil h;rw [I4,Dt _ _ _ (by omega)]
  rfl
 |r::rs,i,nn+1,h,hn,hi=>by
  obtain ⟨h1,h2,h3⟩:=Cg h;simp only [Ib] at hn;obtain ⟨c0,c1,c2⟩:=rva h2;have w:wrap .i64 ((i:Int)+1)=((i+1:Nat):Int):=by rw [At (by omega) (by omega)];omega
  have nt:Int.toNat (i:Int)=i:=Hc _;have c2':(Fb vs).getD (i*3+1+1) .top=.sc (.int .i64 r.at_):=c2;have ih:=XB (call:=call) (a0_0:=a0_0) (a0_1:=a0_1) (a0_2:=a0_2) (a0_3:=a0_3) (a0_4:=a0_4) (a0_5:=a0_5) (a0_6:=a0_6) (a0_7:=a0_7) (a0_8:=a0_8) (a0_9:=a0_9) (a0_10:=a0_10) (a1:=a1) (a3:=a3) (a0_11n:=a0_11n) (a0_12n:=a0_12n) (a2n:=a2n) (a0_11:=a0_11) (a0_12:=a0_12) (a2:=a2) (c:=c) (now:=now) hl rs (i+1) nn h3 (by omega) (by omega)
  have er:J6 c now (r::rs)=if M2 c now r=true then 39 else J6 c now rs:=by
   unfold J6;rw [List.any_cons];cases M2 c now r<;>rfl
  rw [er,I4];unfold M2;cases e1:eqS r.iss c.iss
  ·rw [Bool.false_and,A3 (by simp),←ih]
   try unfold Aa
   repeat first
    |((with_reducible first|apply Ap|apply Ag|apply Am|apply As|apply Ax|apply Az|apply Bh|apply Ah);· first|with_reducible rfl|(simp (disch:=omega) only [nt,c0,c1,c2',e1,w]<;>with_reducible rfl))
    |((with_reducible first|apply Ak|apply Al);· first|with_reducible rfl|omega|(simp (disch:=omega) only [gT,nt,c0,c1,c2',e1,w]<;>omega))
    |(with_reducible apply Ao;· first|with_reducible rfl|(simp (disch:=omega) only [gF,nt,c0,c1,c2',e1,w]<;>omega))
   try simp (disch:=omega) only [nt,c0,c1,c2',e1,w]
   all_goals rfl
  ·cases e2:(r.ser==c.serial)
   ·rw [Zzm,Bool.false_and,A3 (by simp),←ih]
    try unfold Aa
    repeat first
     |((with_reducible first|apply Ap|apply Ag|apply Am|apply As|apply Ax|apply Az|apply Bh|apply Ah);· first|with_reducible rfl|(simp (disch:=omega) only [nt,c0,c1,c2',e1,e2,w]<;>with_reducible rfl))
     |((with_reducible first|apply Ak|apply Al);· first|with_reducible rfl|omega|(simp (disch:=omega) only [gT,nt,c0,c1,c2',e1,e2,w]<;>omega))
     |(with_reducible apply Ao;· first|with_reducible rfl|(simp (disch:=omega) only [gF,nt,c0,c1,c2',e1,e2,w]<;>omega))
    try simp (disch:=omega) only [nt,c0,c1,c2',e1,e2,w]
    all_goals rfl
   ·by_cases e3:r.at_<=now
    ·rw [Bl (by simp [e3])]
     try unfold Aa
     repeat first
      |((with_reducible first|apply Ap|apply Ag|apply Am|apply As|apply Ax|apply Az|apply Bh|apply Ah);· first|with_reducible rfl|(simp (disch:=omega) only [nt,c0,c1,c2',e1,e2,w]<;>with_reducible rfl))
      |((with_reducible first|apply Ak|apply Al);· first|with_reducible rfl|omega|(simp (disch:=omega) only [gT,nt,c0,c1,c2',e1,e2,w]<;>omega))
      |(with_reducible apply Ao;· first|with_reducible rfl|(simp (disch:=omega) only [gF,nt,c0,c1,c2',e1,e2,w]<;>omega))
     try simp (disch:=omega) only [nt,c0,c1,c2',e1,e2,w]
     all_goals rfl
    ·rw [A3 (by simp [e3]),←ih]
     try unfold Aa
     repeat first
      |((with_reducible first|apply Ap|apply Ag|apply Am|apply As|apply Ax|apply Az|apply Bh|apply Ah);· first|with_reducible rfl|(simp (disch:=omega) only [nt,c0,c1,c2',e1,e2,w]<;>with_reducible rfl))
      |((with_reducible first|apply Ak|apply Al);· first|with_reducible rfl|omega|(simp (disch:=omega) only [gT,nt,c0,c1,c2',e1,e2,w]<;>omega))
      |(with_reducible apply Ao;· first|with_reducible rfl|(simp (disch:=omega) only [gF,nt,c0,c1,c2',e1,e2,w]<;>omega))
     try simp (disch:=omega) only [nt,c0,c1,c2',e1,e2,w]
     all_goals rfl
theorem Afs (hfu:1000<=fu){c:Ce}(hc:c.in_){vs:List Rv}(hl:vs.length<=900){i:Int}(hi:0<=i)(hi':i<=1000)(now:Int):
  Ae C0 Tryz.prog fu (d+8) Ma [.agg c.cells,.sc (.int .i64 i),.lst false 3 vs.length (Fb vs),.sc (.int .i64 now)]=some ⟨[.sc (.int .i64 (Gg c i vs now))],[]⟩:=by
 refine (Wf fu (d+7) c.subj c.iss c.serial c.key.h c.key.root c.fr c.un c.auth c.path c.model c.sig.leaf c.sig.chains.length (Ai .u64 c.sig.chains) c.sig.path.length (Ai .u64 c.sig.path) i vs.length (Fb vs) now).trans ?_;have bq:=SW (fu:=fu) (d:=d) hfu hc.wf hc.s1 hc.s2;simp only [Ce.cells] at bq;unfold G3 at bq;have lp:=XB (fu:=fu) (call:=Ae C0 Tryz.prog fu (d+7)) (a0_0:=c.subj) (a0_1:=c.iss) (a0_2:=c.serial) (a0_3:=c.key.h) (a0_4:=c.key.root) (a0_5:=c.fr) (a0_6:=c.un) (a0_7:=c.auth) (a0_8:=c.path) (a0_9:=c.model) (a0_10:=c.sig.leaf) (a1:=i) (a3:=now) (a0_11n:=c.sig.chains.length) (a0_12n:=c.sig.path.length) (a2n:=vs.length) (a0_11:=Ai .u64 c.sig.chains) (a0_12:=Ai .u64 c.sig.path) (a2:=Fb vs) (c:=c) (now:=now) (vs:=vs) (by omega) vs 0 fu rfl (by omega) (by omega)
 unfold Gg;by_cases h0:Bf c=0
 rotate_left
 ·have hne:(Bf c != 0)=true:=by simp [h0]
  rw [A3 h0] at bq;rw [Bl h0]
  try unfold Aa
  repeat first
   |((with_reducible first|apply Ap|apply Ag|apply Am|apply As|apply Ax|apply Az|apply Bh|apply Ah);· first|with_reducible rfl|(simp (disch:=omega) only [bq,hne]<;>with_reducible rfl))
   |((with_reducible first|apply Ak|apply Al);· first|with_reducible rfl|omega|(simp (disch:=omega) only [gT,bq,hne]<;>omega))
   |(with_reducible apply Ao;· first|with_reducible rfl|(simp (disch:=omega) only [gF,bq,hne]<;>omega))
  try simp (disch:=omega) only [bq,hne]
  all_goals rfl
 rw [Bl h0] at bq;rw [A3 (by simp [h0])]
 have e00:((0:Int) != 0)=false:=rfl;have w:wrap .i64 (i-1)=i-1:=At (by omega) (by omega)
 by_cases h1:now<c.fr
 ·rw [Bl h1]
  try unfold Aa
  repeat first
   |((with_reducible first|apply Ap|apply Ag|apply Am|apply As|apply Ax|apply Az|apply Bh|apply Ah);· first|with_reducible rfl|(simp (disch:=omega) only [bq,e00]<;>with_reducible rfl))
   |((with_reducible first|apply Ak|apply Al);· first|with_reducible rfl|omega|(simp (disch:=omega) only [gT,bq,e00]<;>omega))
   |(with_reducible apply Ao;· first|with_reducible rfl|(simp (disch:=omega) only [gF,bq,e00]<;>omega))
  try simp (disch:=omega) only [bq,e00]
  all_goals rfl
 rw [A3 h1];by_cases h2:now>c.un
 ·rw [Bl h2]
  try unfold Aa
  repeat first
   |((with_reducible first|apply Ap|apply Ag|apply Am|apply As|apply Ax|apply Az|apply Bh|apply Ah);· first|with_reducible rfl|(simp (disch:=omega) only [bq,e00]<;>with_reducible rfl))
   |((with_reducible first|apply Ak|apply Al);· first|with_reducible rfl|omega|(simp (disch:=omega) only [gT,bq,e00]<;>omega))
   |(with_reducible apply Ao;· first|with_reducible rfl|(simp (disch:=omega) only [gF,bq,e00]<;>omega))
  try simp (disch:=omega) only [bq,e00]
  all_goals rfl
 rw [A3 h2];by_cases h3:i>0
 ·rw [Bl h3];cases h4:c.auth
  ·rw [Bl rfl];rw [h4] at bq
   try unfold Aa
   repeat first
    |((with_reducible first|apply Ap|apply Ag|apply Am|apply As|apply Ax|apply Az|apply Bh|apply Ah);· first|with_reducible rfl|(simp (disch:=omega) only [bq,e00,Br]<;>with_reducible rfl))
    |((with_reducible first|apply Ak|apply Al);· first|with_reducible rfl|omega|(simp (disch:=omega) only [gT,bq,e00,Br]<;>omega))
    |(with_reducible apply Ao;· first|with_reducible rfl|(simp (disch:=omega) only [gF,bq,e00,Br]<;>omega))
   try simp (disch:=omega) only [bq,e00,Br]
   all_goals rfl
  ·rw [A3 (by simp)]
   rw [h4] at lp bq;by_cases h5:c.path<i-1
   ·rw [Bl h5]
    try unfold Aa
    repeat first
     |((with_reducible first|apply Ap|apply Ag|apply Am|apply As|apply Ax|apply Az|apply Bh|apply Ah);· first|with_reducible rfl|(simp (disch:=omega) only [bq,e00,h4,w,Bp]<;>with_reducible rfl))
     |((with_reducible first|apply Ak|apply Al);· first|with_reducible rfl|omega|(simp (disch:=omega) only [gT,bq,e00,h4,w,Bp]<;>omega))
     |(with_reducible apply Ao;· first|with_reducible rfl|(simp (disch:=omega) only [gF,bq,e00,h4,w,Bp]<;>omega))
    try simp (disch:=omega) only [bq,e00,h4,w,Bp]
    all_goals rfl
   ·rw [A3 h5,←lp]
    try unfold Aa
    repeat first
     |((with_reducible first|apply Ap|apply Ag|apply Am|apply As|apply Ax|apply Az|apply Bh|apply Ah);· first|with_reducible rfl|(simp (disch:=omega) only [bq,e00,h4,w,Bp]<;>with_reducible rfl))
     |((with_reducible first|apply Ak|apply Al);· first|with_reducible rfl|omega|(simp (disch:=omega) only [gT,bq,e00,h4,w,Bp]<;>omega))
     |(with_reducible apply Ao;· first|with_reducible rfl|(simp (disch:=omega) only [gF,bq,e00,h4,w,Bp]<;>omega))
    try simp (disch:=omega) only [bq,e00,h4,w,Bp]
    all_goals rfl
 ·rw [A3 h3,←lp]
  try unfold Aa
  repeat first
   |((with_reducible first|apply Ap|apply Ag|apply Am|apply As|apply Ax|apply Az|apply Bh|apply Ah);· first|with_reducible rfl|(simp (disch:=omega) only [bq,e00]<;>with_reducible rfl))
   |((with_reducible first|apply Ak|apply Al);· first|with_reducible rfl|omega|(simp (disch:=omega) only [gT,bq,e00]<;>omega))
   |(with_reducible apply Ao;· first|with_reducible rfl|(simp (disch:=omega) only [gF,bq,e00]<;>omega))
  try simp (disch:=omega) only [bq,e00]
  all_goals rfl
theorem JA (hfu:1000<=fu){a0n a1n a2n:Nat}{a0 a1 a2:List PV}{a3:Int}{c:Ce}(hc:c.in_){ans:List An}(hl:ans.length<=1000000):∀(r:List An)(i nn:Nat),ans.drop i=r->r.length<nn->i<=ans.length ->
  E1 fu (Ae C0 Tryz.prog fu (d+9)) a0n a0 a1n a1 a2n a2 a3 nn ans.length (Ev ans) (ans.length:Int) (i:Int) c.subj c.iss c.serial c.key.h c.key.root c.fr c.un c.auth c.path c.model c.sig.leaf c.sig.chains.length (Ai .u64 c.sig.chains) c.sig.path.length (Ai .u64 c.sig.path) =
   some ⟨(if M0 c i r<0 then [.sc (.int .i64 0),.sc (.int .i64 38)] else [.sc (.int .i64 (M0 c i r)),.sc (.int .i64 0)]),[]⟩
 |_,_,0,_,h,_=>by omega
 |[],i,nn+1,h,hn,hi=>by
  have:=drop_nil h;rw [Nu,Dt _ _ _ (by omega)]
  rfl
 |a::rs,i,nn+1,h,hn,hi=>by
  obtain ⟨h1,h2,h3⟩:=Cg h;simp only [Ib] at hn;obtain ⟨c0,c1,c2⟩:=ana h2;have w:wrap .i64 ((i:Int)+1)=((i+1:Nat):Int):=by rw [At (by omega) (by omega)];omega
  have nt:Int.toNat (i:Int)=i:=Hc _;have c2':(Ev ans).getD (i*3+1+1) .top=.sc (.int .u64 a.key.root):=c2;have vq:=Ab5 (fu:=fu) (d:=d) hfu hc.wf hc.s1 hc.s2 a.key;simp only [Ce.cells,Ky.cells] at vq;have ih:=JA hfu (a0n:=a0n) (a1n:=a1n) (a2n:=a2n) (a0:=a0) (a1:=a1) (a2:=a2) (a3:=a3) hc hl rs (i+1) nn h3 (by omega) (by omega)
  rw [Nu];cases e1:eqS a.name c.iss
  ·have er:M0 c i (a::rs)=M0 c (i+1) rs:=by rw [M0,A3 (by simp [e1])]
   rw [er,←ih]
   try unfold Aa
   repeat first
    |((with_reducible first|apply Ap|apply Ag|apply Am|apply As|apply Ax|apply Az|apply Bh|apply Ah);· first|with_reducible rfl|(simp (disch:=omega) only [nt,c0,c1,c2',e1,w]<;>with_reducible rfl))
    |((with_reducible first|apply Ak|apply Al);· first|with_reducible rfl|omega|(simp (disch:=omega) only [gT,nt,c0,c1,c2',e1,w]<;>omega))
    |(with_reducible apply Ao;· first|with_reducible rfl|(simp (disch:=omega) only [gF,nt,c0,c1,c2',e1,w]<;>omega))
   try simp (disch:=omega) only [nt,c0,c1,c2',e1,w]
   all_goals rfl
  ·by_cases e2:Od c a.key=0
   ·have e2':(Od c a.key==0)=true:=by simp [e2]
    have er:M0 c i (a::rs)=(i:Int):=by rw [M0,Bl ⟨e1,e2⟩]
    rw [er,A3 (by omega)]
    try unfold Aa
    repeat first
     |((with_reducible first|apply Ap|apply Ag|apply Am|apply As|apply Ax|apply Az|apply Bh|apply Ah);· first|with_reducible rfl|(simp (disch:=omega) only [nt,c0,c1,c2',e1,w,vq,e2']<;>with_reducible rfl))
     |((with_reducible first|apply Ak|apply Al);· first|with_reducible rfl|omega|(simp (disch:=omega) only [gT,nt,c0,c1,c2',e1,w,vq,e2']<;>omega))
     |(with_reducible apply Ao;· first|with_reducible rfl|(simp (disch:=omega) only [gF,nt,c0,c1,c2',e1,w,vq,e2']<;>omega))
    try simp (disch:=omega) only [nt,c0,c1,c2',e1,w,vq,e2']
    all_goals rfl
   ·have e2':(Od c a.key==0)=false:=by simp [e2]
    have er:M0 c i (a::rs)=M0 c (i+1) rs:=by rw [M0,A3 (by simp [e2])]
    rw [er,←ih]
    try unfold Aa
    repeat first
     |((with_reducible first|apply Ap|apply Ag|apply Am|apply As|apply Ax|apply Az|apply Bh|apply Ah);· first|with_reducible rfl|(simp (disch:=omega) only [nt,c0,c1,c2',e1,w,vq,e2']<;>with_reducible rfl))
     |((with_reducible first|apply Ak|apply Al);· first|with_reducible rfl|omega|(simp (disch:=omega) only [gT,nt,c0,c1,c2',e1,w,vq,e2']<;>omega))
     |(with_reducible apply Ao;· first|with_reducible rfl|(simp (disch:=omega) only [gF,nt,c0,c1,c2',e1,w,vq,e2']<;>omega))
    try simp (disch:=omega) only [nt,c0,c1,c2',e1,w,vq,e2']
    all_goals rfl
theorem WV (hfu:1000<=fu){a0n a1n a2n:Nat}{a0 a1 a2:List PV}{a3:Int}{cs:List Ce}(hc:∀c∈cs,c.in_)(h3:cs.length<=3){ans:List An}(hl:ans.length<=900){vs:List Rv}(hv:vs.length<=900){now:Int}:∀(r:List Ce)(i nn:Nat),r≠[]->cs.drop i=r->r.length<nn->i<=cs.length ->
  He fu (Ae C0 Tryz.prog fu (d+9)) a0n a0 a1n a1 a2n a2 a3 nn cs.length (Cc cs) ans.length (Ev ans) vs.length (Fb vs) now cs.length (Cc cs) (cs.length:Int) (i:Int) =
   some ⟨[.sc (.int .i64 (V8 ans vs now i r).1),.sc (.int .i64 (V8 ans vs now i r).2)],[]⟩
 |_,_,0,_,_,h,_=>by omega
 |[],i,nn+1,hne,_,_,_=>absurd rfl hne
 |[c],i,nn+1,hne,h,hn,hi=>by
  obtain ⟨h1,h2,h3'⟩:=Cg h;have hlast:=drop_nil h3';have hci:=hc c (List.mem_of_getElem? h2);obtain ⟨c0,c1,c2,c3,c4,c5,c6,c7,c8,c9,c10,c11,c12⟩:=cer h2;have nt:Int.toNat (i:Int)=i:=Hc _;have lk:=Afs (fu:=fu) (d:=d+1) hfu hci hv (i:=(i:Int)) (by omega) (by omega) now
  simp only [Ce.cells] at lk;have w:wrap .i64 ((cs.length:Int)-1)=(i:Int):=by rw [At (by omega) (by omega)];omega
  have eb:((i:Int)==(i:Int))=true:=by simp
  rw [Nx];unfold V8;by_cases hz:Gg c i vs now=0
  ·have pa:=JA (fu:=fu) (d:=d) hfu (a0n:=a0n) (a1n:=a1n) (a2n:=a2n) (a0:=a0) (a1:=a1) (a2:=a2) (a3:=a3) hci (ans:=ans) (by omega) ans 0 fu rfl (by omega) (by omega)
   have e0:(Gg c i vs now != 0)=false:=by simp [hz]
   have ea:(some ⟨(if M0 c 0 ans<0 then [.sc (.int .i64 0),.sc (.int .i64 38)] else [.sc (.int .i64 (M0 c 0 ans)),.sc (.int .i64 0)]),[]⟩:Option A0)=some ⟨[.sc (.int .i64 (ZH c ans).1),.sc (.int .i64 (ZH c ans).2)],[]⟩:=by
    unfold ZH;split<;>rfl
   rw [ea] at pa;rw [A3 (by simp [hz]),←pa]
   try unfold Aa
   repeat first
    |((with_reducible first|apply Ap|apply Ag|apply Am|apply As|apply Ax|apply Az|apply Bh|apply Ah);· first|with_reducible rfl|(simp (disch:=omega) only [nt,c0,c1,c2,c3,c4,c5,c6,c7,c8,c9,c10,c11,c12,lk,e0,w,eb]<;>with_reducible rfl))
    |((with_reducible first|apply Ak|apply Al);· first|with_reducible rfl|omega|(simp (disch:=omega) only [gT,nt,c0,c1,c2,c3,c4,c5,c6,c7,c8,c9,c10,c11,c12,lk,e0,w,eb]<;>omega))
    |(with_reducible apply Ao;· first|with_reducible rfl|(simp (disch:=omega) only [gF,nt,c0,c1,c2,c3,c4,c5,c6,c7,c8,c9,c10,c11,c12,lk,e0,w,eb]<;>omega))
   try simp (disch:=omega) only [nt,c0,c1,c2,c3,c4,c5,c6,c7,c8,c9,c10,c11,c12,lk,e0,w,eb]
   all_goals rfl
  ·have e0:(Gg c i vs now != 0)=true:=by simp [hz]
   rw [Bl hz]
   try unfold Aa
   repeat first
    |((with_reducible first|apply Ap|apply Ag|apply Am|apply As|apply Ax|apply Az|apply Bh|apply Ah);· first|with_reducible rfl|(simp (disch:=omega) only [nt,c0,c1,c2,c3,c4,c5,c6,c7,c8,c9,c10,c11,c12,lk,e0]<;>with_reducible rfl))
    |((with_reducible first|apply Ak|apply Al);· first|with_reducible rfl|omega|(simp (disch:=omega) only [gT,nt,c0,c1,c2,c3,c4,c5,c6,c7,c8,c9,c10,c11,c12,lk,e0]<;>omega))
    |(with_reducible apply Ao;· first|with_reducible rfl|(simp (disch:=omega) only [gF,nt,c0,c1,c2,c3,c4,c5,c6,c7,c8,c9,c10,c11,c12,lk,e0]<;>omega))
   try simp (disch:=omega) only [nt,c0,c1,c2,c3,c4,c5,c6,c7,c8,c9,c10,c11,c12,lk,e0]
   all_goals rfl
 |c::e::r,i,nn+1,hne,h,hn,hi=>by
  obtain ⟨h1,h2,h3'⟩:=Cg h;obtain ⟨k1,k2,k3⟩:=Cg h3';simp only [Ib] at hn;have hci:=hc c (List.mem_of_getElem? h2);obtain ⟨c0,c1,c2,c3,c4,c5,c6,c7,c8,c9,c10,c11,c12⟩:=cer h2;obtain ⟨q0,q1,q2,q3,q4,_⟩:=cer k2;have nt:Int.toNat (i:Int)=i:=Hc _;have nt1:Int.toNat ((i+1:Nat):Int)=i+1:=Hc _;have lk:=Afs (fu:=fu) (d:=d+1) hfu hci hv (i:=(i:Int)) (by omega) (by omega) now
  simp only [Ce.cells] at lk;have w:wrap .i64 ((cs.length:Int)-1)=(cs.length:Int)-1:=At (by omega) (by omega)
  have w1:wrap .i64 ((i:Int)+1)=((i+1:Nat):Int):=by rw [At (by omega) (by omega)];omega
  have eb:((i:Int)==(cs.length:Int)-1)=false:=by simp;omega
  have q3':(Cc cs).getD ((i+1)*13+3) .top=.sc (.int .i64 e.key.h):=q3;have q4':(Cc cs).getD ((i+1)*13+3+1) .top=.sc (.int .u64 e.key.root):=q4;have vq:=Ab5 (fu:=fu) (d:=d) hfu hci.wf hci.s1 hci.s2 e.key;simp only [Ce.cells,Ky.cells] at vq;rw [Nx];unfold V8;by_cases hz:Gg c i vs now=0
  rotate_left
  ·have e0:(Gg c i vs now != 0)=true:=by simp [hz]
   rw [Bl hz]
   try unfold Aa
   repeat first
    |((with_reducible first|apply Ap|apply Ag|apply Am|apply As|apply Ax|apply Az|apply Bh|apply Ah);· first|with_reducible rfl|(simp (disch:=omega) only [nt,c0,c1,c2,c3,c4,c5,c6,c7,c8,c9,c10,c11,c12,lk,e0]<;>with_reducible rfl))
    |((with_reducible first|apply Ak|apply Al);· first|with_reducible rfl|omega|(simp (disch:=omega) only [gT,nt,c0,c1,c2,c3,c4,c5,c6,c7,c8,c9,c10,c11,c12,lk,e0]<;>omega))
    |(with_reducible apply Ao;· first|with_reducible rfl|(simp (disch:=omega) only [gF,nt,c0,c1,c2,c3,c4,c5,c6,c7,c8,c9,c10,c11,c12,lk,e0]<;>omega))
   try simp (disch:=omega) only [nt,c0,c1,c2,c3,c4,c5,c6,c7,c8,c9,c10,c11,c12,lk,e0]
   all_goals rfl
  have e0:(Gg c i vs now != 0)=false:=by simp [hz]
  rw [A3 (by simp [hz])]
  cases es:eqS c.iss e.subj
  ·rw [Bl rfl]
   try unfold Aa
   repeat first
    |((with_reducible first|apply Ap|apply Ag|apply Am|apply As|apply Ax|apply Az|apply Bh|apply Ah);· first|with_reducible rfl|(simp (disch:=omega) only [nt,nt1,Lz,c0,c1,c2,c3,c4,c5,c6,c7,c8,c9,c10,c11,c12,lk,e0,w,eb,w1,q0,es,Br]<;>with_reducible rfl))
    |((with_reducible first|apply Ak|apply Al);· first|with_reducible rfl|omega|(simp (disch:=omega) only [gT,nt,nt1,Lz,c0,c1,c2,c3,c4,c5,c6,c7,c8,c9,c10,c11,c12,lk,e0,w,eb,w1,q0,es,Br]<;>omega))
    |(with_reducible apply Ao;· first|with_reducible rfl|(simp (disch:=omega) only [gF,nt,nt1,Lz,c0,c1,c2,c3,c4,c5,c6,c7,c8,c9,c10,c11,c12,lk,e0,w,eb,w1,q0,es,Br]<;>omega))
   try simp (disch:=omega) only [nt,nt1,Lz,c0,c1,c2,c3,c4,c5,c6,c7,c8,c9,c10,c11,c12,lk,e0,w,eb,w1,q0,es,Br]
   all_goals rfl
  rw [A3 (by simp)]
  by_cases hv':Od c e.key=0
  ·have v0:(Od c e.key != 0)=false:=by simp [hv']
   have ih:=WV hfu (a0n:=a0n) (a1n:=a1n) (a2n:=a2n) (a0:=a0) (a1:=a1) (a2:=a2) (a3:=a3) hc h3 hl hv (now:=now) (e::r) (i+1) nn (by simp) h3' (by simp only [Ib];omega) (by omega)
   rw [A3 (by simp [hv']),←ih]
   try unfold Aa
   repeat first
    |((with_reducible first|apply Ap|apply Ag|apply Am|apply As|apply Ax|apply Az|apply Bh|apply Ah);· first|with_reducible rfl|(simp (disch:=omega) only [nt,nt1,Lz,c0,c1,c2,c3,c4,c5,c6,c7,c8,c9,c10,c11,c12,lk,e0,w,eb,w1,q0,es,q3',q4',vq,v0,Bp]<;>with_reducible rfl))
    |((with_reducible first|apply Ak|apply Al);· first|with_reducible rfl|omega|(simp (disch:=omega) only [gT,nt,nt1,Lz,c0,c1,c2,c3,c4,c5,c6,c7,c8,c9,c10,c11,c12,lk,e0,w,eb,w1,q0,es,q3',q4',vq,v0,Bp]<;>omega))
    |(with_reducible apply Ao;· first|with_reducible rfl|(simp (disch:=omega) only [gF,nt,nt1,Lz,c0,c1,c2,c3,c4,c5,c6,c7,c8,c9,c10,c11,c12,lk,e0,w,eb,w1,q0,es,q3',q4',vq,v0,Bp]<;>omega))
   try simp (disch:=omega) only [nt,nt1,Lz,c0,c1,c2,c3,c4,c5,c6,c7,c8,c9,c10,c11,c12,lk,e0,w,eb,w1,q0,es,q3',q4',vq,v0,Bp]
   all_goals rfl
  ·have v0:(Od c e.key != 0)=true:=by simp [hv']
   rw [Bl hv']
   try unfold Aa
   repeat first
    |((with_reducible first|apply Ap|apply Ag|apply Am|apply As|apply Ax|apply Az|apply Bh|apply Ah);· first|with_reducible rfl|(simp (disch:=omega) only [nt,nt1,Lz,c0,c1,c2,c3,c4,c5,c6,c7,c8,c9,c10,c11,c12,lk,e0,w,eb,w1,q0,es,q3',q4',vq,v0,Bp]<;>with_reducible rfl))
    |((with_reducible first|apply Ak|apply Al);· first|with_reducible rfl|omega|(simp (disch:=omega) only [gT,nt,nt1,Lz,c0,c1,c2,c3,c4,c5,c6,c7,c8,c9,c10,c11,c12,lk,e0,w,eb,w1,q0,es,q3',q4',vq,v0,Bp]<;>omega))
    |(with_reducible apply Ao;· first|with_reducible rfl|(simp (disch:=omega) only [gF,nt,nt1,Lz,c0,c1,c2,c3,c4,c5,c6,c7,c8,c9,c10,c11,c12,lk,e0,w,eb,w1,q0,es,q3',q4',vq,v0,Bp]<;>omega))
   try simp (disch:=omega) only [nt,nt1,Lz,c0,c1,c2,c3,c4,c5,c6,c7,c8,c9,c10,c11,c12,lk,e0,w,eb,w1,q0,es,q3',q4',vq,v0,Bp]
   all_goals rfl
theorem Alo (hfu:1000<=fu){cs:List Ce}(hc:∀c∈cs,c.in_){ans:List An}(hl:ans.length<=900){vs:List Rv}(hv:vs.length<=900)(now:Int):
  Ae C0 Tryz.prog fu (d+10) Sj [.lst false 13 cs.length (Cc cs),.lst false 3 ans.length (Ev ans),.lst false 3 vs.length (Fb vs),.sc (.int .i64 now)]=some ⟨[.sc (.int .i64 (O5 cs ans vs now).1),.sc (.int .i64 (O5 cs ans vs now).2)],[]⟩:=by
 rw [FX];unfold O5;by_cases h1:now<0
 ·rw [Bl h1]
  try unfold Aa
  repeat first
   |((with_reducible first|apply Ap|apply Ag|apply Am|apply As|apply Ax|apply Az|apply Bh|apply Ah);· first|with_reducible rfl|(simp (disch:=omega) only [Bj]<;>with_reducible rfl))
   |((with_reducible first|apply Ak|apply Al);· first|with_reducible rfl|omega|(simp (disch:=omega) only [gT,Bj]<;>omega))
   |(with_reducible apply Ao;· first|with_reducible rfl|(simp (disch:=omega) only [gF,Bj]<;>omega))
  try simp (disch:=omega) only [Bj]
  all_goals rfl
 rw [A3 h1];by_cases h2:now>1099511627776
 ·rw [Bl h2]
  try unfold Aa
  repeat first
   |((with_reducible first|apply Ap|apply Ag|apply Am|apply As|apply Ax|apply Az|apply Bh|apply Ah);· first|with_reducible rfl|(simp (disch:=omega) only [Bj]<;>with_reducible rfl))
   |((with_reducible first|apply Ak|apply Al);· first|with_reducible rfl|omega|(simp (disch:=omega) only [gT,Bj]<;>omega))
   |(with_reducible apply Ao;· first|with_reducible rfl|(simp (disch:=omega) only [gF,Bj]<;>omega))
  try simp (disch:=omega) only [Bj]
  all_goals rfl
 rw [A3 h2];by_cases h3:cs.length<1
 ·rw [Bl h3]
  try unfold Aa
  repeat first
   |((with_reducible first|apply Ap|apply Ag|apply Am|apply As|apply Ax|apply Az|apply Bh|apply Ah);· first|with_reducible rfl|(simp (disch:=omega) only [Bj]<;>with_reducible rfl))
   |((with_reducible first|apply Ak|apply Al);· first|with_reducible rfl|omega|(simp (disch:=omega) only [gT,Bj]<;>omega))
   |(with_reducible apply Ao;· first|with_reducible rfl|(simp (disch:=omega) only [gF,Bj]<;>omega))
  try simp (disch:=omega) only [Bj]
  all_goals rfl
 rw [A3 h3];by_cases h4:cs.length>3
 ·rw [Bl h4]
  try unfold Aa
  repeat first
   |((with_reducible first|apply Ap|apply Ag|apply Am|apply As|apply Ax|apply Az|apply Bh|apply Ah);· first|with_reducible rfl|(simp (disch:=omega) only [Bj]<;>with_reducible rfl))
   |((with_reducible first|apply Ak|apply Al);· first|with_reducible rfl|omega|(simp (disch:=omega) only [gT,Bj]<;>omega))
   |(with_reducible apply Ao;· first|with_reducible rfl|(simp (disch:=omega) only [gF,Bj]<;>omega))
  try simp (disch:=omega) only [Bj]
  all_goals rfl
 rw [A3 h4];have lp:=WV (fu:=fu) (d:=d) hfu (a0n:=cs.length) (a1n:=ans.length) (a2n:=vs.length) (a0:=Cc cs) (a1:=Ev ans) (a2:=Fb vs) (a3:=now) hc (by omega) hl hv (now:=now) cs 0 fu (by intro h;subst h;simp at h3) rfl (by omega) (by omega)
 rw [←lp]
 try unfold Aa
 repeat first
  |((with_reducible first|apply Ap|apply Ag|apply Am|apply As|apply Ax|apply Az|apply Bh|apply Ah);· first|with_reducible rfl|(simp (disch:=omega) only [Bj]<;>with_reducible rfl))
  |((with_reducible first|apply Ak|apply Al);· first|with_reducible rfl|omega|(simp (disch:=omega) only [gT,Bj]<;>omega))
  |(with_reducible apply Ao;· first|with_reducible rfl|(simp (disch:=omega) only [gF,Bj]<;>omega))
 try simp (disch:=omega) only [Bj]
 all_goals rfl
end
end
section
open Go.IntKind (wrap)
section
variable {fu d:Nat}
theorem WR (hfu:1000<=fu){a0_0 a0_1:ByteArray}{a0_2 a0_3 a0_4 a0_5 a0_6 a0_8 a0_9 a0_10:Int}{a0_7:Bool}{a0_11n a0_12n a1n:Nat}{a0_11 a0_12 a1:List PV}{c:Ce}(hc:c.in_){ans:List An}(hl:ans.length<=1000000):∀(r:List An)(i nn:Nat),ans.drop i=r->r.length<nn->i<=ans.length ->
  Ew fu (Ae C0 Tryz.prog fu (d+8)) a0_0 a0_1 a0_2 a0_3 a0_4 a0_5 a0_6 a0_7 a0_8 a0_9 a0_10 a0_11n a0_11 a0_12n a0_12 a1n a1 nn ans.length (Ev ans) (i:Int) c.subj c.iss c.serial c.key.h c.key.root c.fr c.un c.auth c.path c.model c.sig.leaf c.sig.chains.length (Ai .u64 c.sig.chains) c.sig.path.length (Ai .u64 c.sig.path) =
   some ⟨[.sc (.int .i64 (M0 c i r))],[]⟩
 |_,_,0,_,h,_=>by omega
 |[],i,nn+1,h,hn,hi=>by
  have:=drop_nil h;rw [Kf,Dt _ _ _ (by omega)]
  rfl
 |a::rs,i,nn+1,h,hn,hi=>by
  obtain ⟨h1,h2,h3⟩:=Cg h;simp only [Ib] at hn;obtain ⟨c0,c1,c2⟩:=ana h2;have w:wrap .i64 ((i:Int)+1)=((i+1:Nat):Int):=by rw [At (by omega) (by omega)];omega
  have nt:Int.toNat (i:Int)=i:=Hc _;have c2':(Ev ans).getD (i*3+1+1) .top=.sc (.int .u64 a.key.root):=c2;have vq:=Aa4 (fu:=fu) (d:=d) hfu hc.wf hc.s1 hc.s2 a.key;simp only [Ce.cells,Ky.cells] at vq;have ih:=WR hfu (a0_0:=a0_0) (a0_1:=a0_1) (a0_2:=a0_2) (a0_3:=a0_3) (a0_4:=a0_4) (a0_5:=a0_5) (a0_6:=a0_6) (a0_7:=a0_7) (a0_8:=a0_8) (a0_9:=a0_9) (a0_10:=a0_10) (a0_11n:=a0_11n) (a0_12n:=a0_12n) (a1n:=a1n) (a0_11:=a0_11) (a0_12:=a0_12) (a1:=a1) hc hl rs (i+1) nn h3 (by omega) (by omega)
  rw [Kf];cases e1:eqS a.name c.iss
  ·have er:M0 c i (a::rs)=M0 c (i+1) rs:=by rw [M0,A3 (by simp [e1])]
   rw [er,←ih]
   try unfold Aa
   repeat first
    |((with_reducible first|apply Ap|apply Ag|apply Am|apply As|apply Ax|apply Az|apply Bh|apply Ah);· first|with_reducible rfl|(simp (disch:=omega) only [nt,Lz,c0,c1,c2',e1,w]<;>with_reducible rfl))
    |((with_reducible first|apply Ak|apply Al);· first|with_reducible rfl|omega|(simp (disch:=omega) only [gT,nt,Lz,c0,c1,c2',e1,w]<;>omega))
    |(with_reducible apply Ao;· first|with_reducible rfl|(simp (disch:=omega) only [gF,nt,Lz,c0,c1,c2',e1,w]<;>omega))
   try simp (disch:=omega) only [nt,Lz,c0,c1,c2',e1,w]
   all_goals rfl
  ·by_cases e2:Od c a.key=0
   ·have e2':(Od c a.key==0)=true:=by simp [e2]
    have er:M0 c i (a::rs)=(i:Int):=by rw [M0,Bl ⟨e1,e2⟩]
    rw [er]
    try unfold Aa
    repeat first
     |((with_reducible first|apply Ap|apply Ag|apply Am|apply As|apply Ax|apply Az|apply Bh|apply Ah);· first|with_reducible rfl|(simp (disch:=omega) only [nt,Lz,c0,c1,c2',e1,w,vq,e2']<;>with_reducible rfl))
     |((with_reducible first|apply Ak|apply Al);· first|with_reducible rfl|omega|(simp (disch:=omega) only [gT,nt,Lz,c0,c1,c2',e1,w,vq,e2']<;>omega))
     |(with_reducible apply Ao;· first|with_reducible rfl|(simp (disch:=omega) only [gF,nt,Lz,c0,c1,c2',e1,w,vq,e2']<;>omega))
    try simp (disch:=omega) only [nt,Lz,c0,c1,c2',e1,w,vq,e2']
    all_goals rfl
   ·have e2':(Od c a.key==0)=false:=by simp [e2]
    have er:M0 c i (a::rs)=M0 c (i+1) rs:=by rw [M0,A3 (by simp [e2])]
    rw [er,←ih]
    try unfold Aa
    repeat first
     |((with_reducible first|apply Ap|apply Ag|apply Am|apply As|apply Ax|apply Az|apply Bh|apply Ah);· first|with_reducible rfl|(simp (disch:=omega) only [nt,Lz,c0,c1,c2',e1,w,vq,e2']<;>with_reducible rfl))
     |((with_reducible first|apply Ak|apply Al);· first|with_reducible rfl|omega|(simp (disch:=omega) only [gT,nt,Lz,c0,c1,c2',e1,w,vq,e2']<;>omega))
     |(with_reducible apply Ao;· first|with_reducible rfl|(simp (disch:=omega) only [gF,nt,Lz,c0,c1,c2',e1,w,vq,e2']<;>omega))
    try simp (disch:=omega) only [nt,Lz,c0,c1,c2',e1,w,vq,e2']
    all_goals rfl
theorem Aoy (hfu:1000<=fu){c:Ce}(hc:c.in_){ans:List An}(hl:ans.length<=900):Ae C0 Tryz.prog fu (d+9) Nn [.agg c.cells,.lst false 3 ans.length (Ev ans)]=some ⟨[.sc (.int .i64 (M0 c 0 ans))],[]⟩:=
 (Yn fu (d+8) c.subj c.iss c.serial c.key.h c.key.root c.fr c.un c.auth c.path c.model c.sig.leaf c.sig.chains.length (Ai .u64 c.sig.chains) c.sig.path.length (Ai .u64 c.sig.path) ans.length (Ev ans)).trans (WR hfu hc (by omega) ans 0 fu rfl (by omega) (by omega))
theorem VT {call:Ar}{a0n a1n a2n m0:Nat}{a0 a1 a2:List PV}{a3 i:Int}{cs:List Ce}{ans:List An}{c:Ce}{now:Int}{vs:List Rv}(hl:vs.length<=1000000){T:Option A0}
  (hT:∀nn,Dm fu call a0n a0 a1n a1 a2n a2 a3 m0 (nn+1) cs.length (Cc cs) ans.length (Ev ans) vs.length (Fb vs) now i (vs.length:Int) c.subj c.iss c.serial c.key.h c.key.root c.fr c.un c.auth c.path c.model c.sig.leaf c.sig.chains.length (Ai .u64 c.sig.chains) c.sig.path.length (Ai .u64 c.sig.path)=T):∀(r:List Rv)(j nn:Nat),vs.drop j=r->r.length<nn->j<=vs.length ->
  Dm fu call a0n a0 a1n a1 a2n a2 a3 m0 nn cs.length (Cc cs) ans.length (Ev ans) vs.length (Fb vs) now i (j:Int) c.subj c.iss c.serial c.key.h c.key.root c.fr c.un c.auth c.path c.model c.sig.leaf c.sig.chains.length (Ai .u64 c.sig.chains) c.sig.path.length (Ai .u64 c.sig.path) =
   if J6 c now r=0 then T else some ⟨[.sc (.int .i64 0),.sc (.int .i64 39)],[]⟩
 |_,_,0,_,h,_=>by omega
 |[],j,nn+1,h,hn,hj=>by
  have:=drop_nil h;obtain rfl:j=vs.length:=by omega
  rw [hT nn];rfl
 |r::rs,j,nn+1,h,hn,hj=>by
  obtain ⟨h1,h2,h3⟩:=Cg h;simp only [Ib] at hn;obtain ⟨c0,c1,c2⟩:=rva h2;have w:wrap .i64 ((j:Int)+1)=((j+1:Nat):Int):=by rw [At (by omega) (by omega)];omega
  have nt:Int.toNat (j:Int)=j:=Hc _;have ih:=VT hl hT rs (j+1) nn h3 (by omega) (by omega)
  have er:J6 c now (r::rs)=if M2 c now r=true then 39 else J6 c now rs:=by
   unfold J6;rw [List.any_cons];cases M2 c now r<;>rfl
  rw [H9];cases e1:eqS r.iss c.iss
  ·have eh:M2 c now r=false:=by unfold M2;rw [e1];rfl
   have er':J6 c now (r::rs)=J6 c now rs:=by rw [er,eh];rfl
   rw [er',←ih]
   try unfold Aa
   repeat first
    |((with_reducible first|apply Ap|apply Ag|apply Am|apply As|apply Ax|apply Az|apply Bh|apply Ah);· first|with_reducible rfl|(simp (disch:=omega) only [nt,Lz,c0,c1,c2,e1,w]<;>with_reducible rfl))
    |((with_reducible first|apply Ak|apply Al);· first|with_reducible rfl|omega|(simp (disch:=omega) only [gT,nt,Lz,c0,c1,c2,e1,w]<;>omega))
    |(with_reducible apply Ao;· first|with_reducible rfl|(simp (disch:=omega) only [gF,nt,Lz,c0,c1,c2,e1,w]<;>omega))
   try simp (disch:=omega) only [nt,Lz,c0,c1,c2,e1,w]
   all_goals rfl
  ·cases e2:(r.ser==c.serial)
   ·have eh:M2 c now r=false:=by unfold M2;rw [e1,e2];rfl
    have er':J6 c now (r::rs)=J6 c now rs:=by rw [er,eh];rfl
    rw [er',←ih]
    try unfold Aa
    repeat first
     |((with_reducible first|apply Ap|apply Ag|apply Am|apply As|apply Ax|apply Az|apply Bh|apply Ah);· first|with_reducible rfl|(simp (disch:=omega) only [nt,Lz,c0,c1,c2,e1,e2,w]<;>with_reducible rfl))
     |((with_reducible first|apply Ak|apply Al);· first|with_reducible rfl|omega|(simp (disch:=omega) only [gT,nt,Lz,c0,c1,c2,e1,e2,w]<;>omega))
     |(with_reducible apply Ao;· first|with_reducible rfl|(simp (disch:=omega) only [gF,nt,Lz,c0,c1,c2,e1,e2,w]<;>omega))
    try simp (disch:=omega) only [nt,Lz,c0,c1,c2,e1,e2,w]
    all_goals rfl
   ·by_cases e3:r.at_<=now
    ·have eh:M2 c now r=true:=by unfold M2;rw [e1,e2];simp [e3]
     have er':J6 c now (r::rs)=39:=by rw [er,eh];rfl
     have n39:¬((39:Int)=0):=by omega
     rw [er',A3 n39]
     try unfold Aa
     repeat first
      |((with_reducible first|apply Ap|apply Ag|apply Am|apply As|apply Ax|apply Az|apply Bh|apply Ah);· first|with_reducible rfl|(simp (disch:=omega) only [nt,Lz,c0,c1,c2,e1,e2,w]<;>with_reducible rfl))
      |((with_reducible first|apply Ak|apply Al);· first|with_reducible rfl|omega|(simp (disch:=omega) only [gT,nt,Lz,c0,c1,c2,e1,e2,w]<;>omega))
      |(with_reducible apply Ao;· first|with_reducible rfl|(simp (disch:=omega) only [gF,nt,Lz,c0,c1,c2,e1,e2,w]<;>omega))
     try simp (disch:=omega) only [nt,Lz,c0,c1,c2,e1,e2,w]
     all_goals rfl
    ·have eh:M2 c now r=false:=by unfold M2;rw [e1,e2];simp [e3]
     have er':J6 c now (r::rs)=J6 c now rs:=by rw [er,eh];rfl
     rw [er',←ih]
     try unfold Aa
     repeat first
      |((with_reducible first|apply Ap|apply Ag|apply Am|apply As|apply Ax|apply Az|apply Bh|apply Ah);· first|with_reducible rfl|(simp (disch:=omega) only [nt,Lz,c0,c1,c2,e1,e2,w]<;>with_reducible rfl))
      |((with_reducible first|apply Ak|apply Al);· first|with_reducible rfl|omega|(simp (disch:=omega) only [gT,nt,Lz,c0,c1,c2,e1,e2,w]<;>omega))
      |(with_reducible apply Ao;· first|with_reducible rfl|(simp (disch:=omega) only [gF,nt,Lz,c0,c1,c2,e1,e2,w]<;>omega))
     try simp (disch:=omega) only [nt,Lz,c0,c1,c2,e1,e2,w]
     all_goals rfl
theorem Abg (hfu:1000<=fu){a0n a1n a2n:Nat}{a0 a1 a2:List PV}{a3:Int}{cs:List Ce}{c:Ce}{i:Nat}(hg:cs[i]?=some c) (hci:c.in_)(h3:cs.length<=3){ans:List An}{vs:List Rv}(hv:vs.length<=900){now:Int}{m:Nat}{T:Option A0}
  (hT:∀nn,Dm fu (Ae C0 Tryz.prog fu (d+9)) a0n a0 a1n a1 a2n a2 a3 m (nn+1) cs.length (Cc cs) ans.length (Ev ans) vs.length (Fb vs) now (i:Int) (vs.length:Int) c.subj c.iss c.serial c.key.h c.key.root c.fr c.un c.auth c.path c.model c.sig.leaf c.sig.chains.length (Ai .u64 c.sig.chains) c.sig.path.length (Ai .u64 c.sig.path)=T):
  Ep fu (Ae C0 Tryz.prog fu (d+9)) a0n a0 a1n a1 a2n a2 a3 (m+1) cs.length (Cc cs) ans.length (Ev ans) vs.length (Fb vs) now (i:Int) =
   if Gg c i vs now=0 then T else some ⟨[.sc (.int .i64 0),.sc (.int .i64 (Gg c i vs now))],[]⟩:=by
 obtain ⟨c0,c1,c2,c3,c4,c5,c6,c7,c8,c9,c10,c11,c12⟩:=cer hg;have hi:=Ame hg;have nt:Int.toNat (i:Int)=i:=Hc _;have bq:=ID (fu:=fu) (d:=d+4) hfu hci.wf hci.s1 hci.s2;simp only [Ce.cells] at bq;unfold G3 at bq;have wi:=Oj (fu:=fu) (d:=d+8) now c.fr c.un;have w:wrap .i64 ((i:Int)-1)=(i:Int)-1:=At (by omega) (by omega)
 have rl:=VT (fu:=fu) (c:=c) (by omega) hT vs 0 fu rfl (by omega) (by omega)
 have J:∀nn,0<nn->Gz fu (Ae C0 Tryz.prog fu (d+9)) a0n a0 a1n a1 a2n a2 a3 m nn cs.length (Cc cs) ans.length (Ev ans) vs.length (Fb vs) now (i:Int) c.subj c.iss c.serial c.key.h c.key.root c.fr c.un c.auth c.path c.model c.sig.leaf c.sig.chains.length (Ai .u64 c.sig.chains) c.sig.path.length (Ai .u64 c.sig.path)=if J6 c now vs=0 then T else some ⟨[.sc (.int .i64 0),.sc (.int .i64 39)],[]⟩:=by
  intro nn hnn;rw [Xe (hnn:=hnn)];exact rl
 have J:=J fu (by omega)
 rw [Ia];by_cases h0:Bf c=0
 rotate_left
 ·have hne:(Bf c != 0)=true:=by simp [h0]
  have el:Gg c i vs now=Bf c:=by unfold Gg;rw [Bl h0]
  rw [A3 h0] at bq;rw [el,A3 h0]
  try unfold Aa
  repeat first
   |((with_reducible first|apply Ap|apply Ag|apply Am|apply As|apply Ax|apply Az|apply Bh|apply Ah);· first|with_reducible rfl|(simp (disch:=omega) only [nt,c0,c1,c2,c3,c4,c5,c6,c7,c8,c9,c10,c11,c12,bq,hne]<;>with_reducible rfl))
   |((with_reducible first|apply Ak|apply Al);· first|with_reducible rfl|omega|(simp (disch:=omega) only [gT,nt,c0,c1,c2,c3,c4,c5,c6,c7,c8,c9,c10,c11,c12,bq,hne]<;>omega))
   |(with_reducible apply Ao;· first|with_reducible rfl|(simp (disch:=omega) only [gF,nt,c0,c1,c2,c3,c4,c5,c6,c7,c8,c9,c10,c11,c12,bq,hne]<;>omega))
  try simp (disch:=omega) only [nt,c0,c1,c2,c3,c4,c5,c6,c7,c8,c9,c10,c11,c12,bq,hne]
  all_goals rfl
 rw [Bl h0] at bq;have e00:((0:Int) != 0)=false:=rfl;have n38:¬((38:Int)=0):=by omega
 have L0:Gg c i vs now=if now<c.fr then 38 else if now>c.un then 38 else if (i:Int)>0 then (if c.auth=false then 38 else if c.path<(i:Int)-1 then 38 else J6 c now vs) else J6 c now vs:=by unfold Gg;rw [A3 (by simp [h0])]
 by_cases h1:now<c.fr
 ·have el:Gg c i vs now=38:=by rw [L0,Bl h1]
  have:(decide (c.fr<=now)&&decide (now<=c.un))=false:=by simp;omega
  rw [this] at wi;rw [el,A3 n38]
  try unfold Aa
  repeat first
   |((with_reducible first|apply Ap|apply Ag|apply Am|apply As|apply Ax|apply Az|apply Bh|apply Ah);· first|with_reducible rfl|(simp (disch:=omega) only [nt,c0,c1,c2,c3,c4,c5,c6,c7,c8,c9,c10,c11,c12,bq,e00,wi,Br]<;>with_reducible rfl))
   |((with_reducible first|apply Ak|apply Al);· first|with_reducible rfl|omega|(simp (disch:=omega) only [gT,nt,c0,c1,c2,c3,c4,c5,c6,c7,c8,c9,c10,c11,c12,bq,e00,wi,Br]<;>omega))
   |(with_reducible apply Ao;· first|with_reducible rfl|(simp (disch:=omega) only [gF,nt,c0,c1,c2,c3,c4,c5,c6,c7,c8,c9,c10,c11,c12,bq,e00,wi,Br]<;>omega))
  try simp (disch:=omega) only [nt,c0,c1,c2,c3,c4,c5,c6,c7,c8,c9,c10,c11,c12,bq,e00,wi,Br]
  all_goals rfl
 by_cases h2:now>c.un
 ·have el:Gg c i vs now=38:=by rw [L0,A3 h1,Bl h2]
  have:(decide (c.fr<=now)&&decide (now<=c.un))=false:=by simp;omega
  rw [this] at wi;rw [el,A3 n38]
  try unfold Aa
  repeat first
   |((with_reducible first|apply Ap|apply Ag|apply Am|apply As|apply Ax|apply Az|apply Bh|apply Ah);· first|with_reducible rfl|(simp (disch:=omega) only [nt,c0,c1,c2,c3,c4,c5,c6,c7,c8,c9,c10,c11,c12,bq,e00,wi,Br]<;>with_reducible rfl))
   |((with_reducible first|apply Ak|apply Al);· first|with_reducible rfl|omega|(simp (disch:=omega) only [gT,nt,c0,c1,c2,c3,c4,c5,c6,c7,c8,c9,c10,c11,c12,bq,e00,wi,Br]<;>omega))
   |(with_reducible apply Ao;· first|with_reducible rfl|(simp (disch:=omega) only [gF,nt,c0,c1,c2,c3,c4,c5,c6,c7,c8,c9,c10,c11,c12,bq,e00,wi,Br]<;>omega))
  try simp (disch:=omega) only [nt,c0,c1,c2,c3,c4,c5,c6,c7,c8,c9,c10,c11,c12,bq,e00,wi,Br]
  all_goals rfl
 have q:(decide (c.fr<=now)&&decide (now<=c.un))=true:=by simp;omega
 rw [q] at wi;by_cases h4:(i:Int)>0
 ·cases ha:c.auth
  ·have el:Gg c i vs now=38:=by rw [L0,A3 h1,A3 h2,Bl h4,Bl ha]
   rw [el,A3 n38];rw [ha] at c7 bq
   try unfold Aa
   repeat first
    |((with_reducible first|apply Ap|apply Ag|apply Am|apply As|apply Ax|apply Az|apply Bh|apply Ah);· first|with_reducible rfl|(simp (disch:=omega) only [nt,c0,c1,c2,c3,c4,c5,c6,c7,c8,c9,c10,c11,c12,bq,e00,wi,Bp,Br]<;>with_reducible rfl))
    |((with_reducible first|apply Ak|apply Al);· first|with_reducible rfl|omega|(simp (disch:=omega) only [gT,nt,c0,c1,c2,c3,c4,c5,c6,c7,c8,c9,c10,c11,c12,bq,e00,wi,Bp,Br]<;>omega))
    |(with_reducible apply Ao;· first|with_reducible rfl|(simp (disch:=omega) only [gF,nt,c0,c1,c2,c3,c4,c5,c6,c7,c8,c9,c10,c11,c12,bq,e00,wi,Bp,Br]<;>omega))
   try simp (disch:=omega) only [nt,c0,c1,c2,c3,c4,c5,c6,c7,c8,c9,c10,c11,c12,bq,e00,wi,Bp,Br]
   all_goals rfl
  ·rw [ha] at c7 bq J;by_cases h5:c.path<(i:Int)-1
   ·have el:Gg c i vs now=38:=by rw [L0,A3 h1,A3 h2,Bl h4,A3 (by simp [ha]),Bl h5]
    rw [el,A3 n38]
    try unfold Aa
    repeat first
     |((with_reducible first|apply Ap|apply Ag|apply Am|apply As|apply Ax|apply Az|apply Bh|apply Ah);· first|with_reducible rfl|(simp (disch:=omega) only [nt,c0,c1,c2,c3,c4,c5,c6,c7,c8,c9,c10,c11,c12,bq,e00,wi,w,Bp,Br]<;>with_reducible rfl))
     |((with_reducible first|apply Ak|apply Al);· first|with_reducible rfl|omega|(simp (disch:=omega) only [gT,nt,c0,c1,c2,c3,c4,c5,c6,c7,c8,c9,c10,c11,c12,bq,e00,wi,w,Bp,Br]<;>omega))
     |(with_reducible apply Ao;· first|with_reducible rfl|(simp (disch:=omega) only [gF,nt,c0,c1,c2,c3,c4,c5,c6,c7,c8,c9,c10,c11,c12,bq,e00,wi,w,Bp,Br]<;>omega))
    try simp (disch:=omega) only [nt,c0,c1,c2,c3,c4,c5,c6,c7,c8,c9,c10,c11,c12,bq,e00,wi,w,Bp,Br]
    all_goals rfl
   ·have el:Gg c i vs now=J6 c now vs:=by rw [L0,A3 h1,A3 h2,Bl h4,A3 (by simp [ha]),A3 h5]
    have e39:(if J6 c now vs=0 then T else some ⟨[.sc (.int .i64 0),.sc (.int .i64 (J6 c now vs))],[]⟩)=(if J6 c now vs=0 then T else some (A0.mk [.sc (.int .i64 0),.sc (.int .i64 39)] [])):=by
     unfold J6;split<;>rfl
    rw [el,e39,←J]
    try unfold Aa
    repeat first
     |((with_reducible first|apply Ap|apply Ag|apply Am|apply As|apply Ax|apply Az|apply Bh|apply Ah);· first|with_reducible rfl|(simp (disch:=omega) only [nt,c0,c1,c2,c3,c4,c5,c6,c7,c8,c9,c10,c11,c12,bq,e00,wi,w,Bp,Br]<;>with_reducible rfl))
     |((with_reducible first|apply Ak|apply Al);· first|with_reducible rfl|omega|(simp (disch:=omega) only [gT,nt,c0,c1,c2,c3,c4,c5,c6,c7,c8,c9,c10,c11,c12,bq,e00,wi,w,Bp,Br]<;>omega))
     |(with_reducible apply Ao;· first|with_reducible rfl|(simp (disch:=omega) only [gF,nt,c0,c1,c2,c3,c4,c5,c6,c7,c8,c9,c10,c11,c12,bq,e00,wi,w,Bp,Br]<;>omega))
    try simp (disch:=omega) only [nt,c0,c1,c2,c3,c4,c5,c6,c7,c8,c9,c10,c11,c12,bq,e00,wi,w,Bp,Br]
    all_goals rfl
 ·have el:Gg c i vs now=J6 c now vs:=by rw [L0,A3 h1,A3 h2,A3 h4]
  have e39:(if J6 c now vs=0 then T else some ⟨[.sc (.int .i64 0),.sc (.int .i64 (J6 c now vs))],[]⟩)=(if J6 c now vs=0 then T else some (A0.mk [.sc (.int .i64 0),.sc (.int .i64 39)] [])):=by
   unfold J6;split<;>rfl
  rw [el,e39,←J]
  try unfold Aa
  repeat first
   |((with_reducible first|apply Ap|apply Ag|apply Am|apply As|apply Ax|apply Az|apply Bh|apply Ah);· first|with_reducible rfl|(simp (disch:=omega) only [nt,c0,c1,c2,c3,c4,c5,c6,c7,c8,c9,c10,c11,c12,bq,e00,wi,w,Bp,Br]<;>with_reducible rfl))
   |((with_reducible first|apply Ak|apply Al);· first|with_reducible rfl|omega|(simp (disch:=omega) only [gT,nt,c0,c1,c2,c3,c4,c5,c6,c7,c8,c9,c10,c11,c12,bq,e00,wi,w,Bp,Br]<;>omega))
   |(with_reducible apply Ao;· first|with_reducible rfl|(simp (disch:=omega) only [gF,nt,c0,c1,c2,c3,c4,c5,c6,c7,c8,c9,c10,c11,c12,bq,e00,wi,w,Bp,Br]<;>omega))
  try simp (disch:=omega) only [nt,c0,c1,c2,c3,c4,c5,c6,c7,c8,c9,c10,c11,c12,bq,e00,wi,w,Bp,Br]
  all_goals rfl
theorem QK (hfu:1000<=fu){a0n a1n a2n:Nat}{a0 a1 a2:List PV}{a3:Int}{cs:List Ce}(hc:∀c∈cs,c.in_)(h3:cs.length<=3){ans:List An}(hl:ans.length<=900){vs:List Rv}(hv:vs.length<=900){now:Int}:∀(r:List Ce)(i nn:Nat),r≠[]->cs.drop i=r->r.length+1<nn->i<=cs.length ->
  Ep fu (Ae C0 Tryz.prog fu (d+10)) a0n a0 a1n a1 a2n a2 a3 nn cs.length (Cc cs) ans.length (Ev ans) vs.length (Fb vs) now (i:Int) =
   some ⟨[.sc (.int .i64 (V8 ans vs now i r).1),.sc (.int .i64 (V8 ans vs now i r).2)],[]⟩
 |_,_,0,_,_,h,_=>by omega
 |[],i,nn+1,hne,_,_,_=>absurd rfl hne
 |[c],i,nn+1,hne,h,hn,hi=>by
  obtain ⟨h1,h2,h3'⟩:=Cg h;have hlast:=drop_nil h3';have hci:=hc c (List.mem_of_getElem? h2);simp only [Ib,Y4] at hn;obtain ⟨m,rfl⟩:∃m,nn=m+1:=⟨nn-1,by omega⟩
  obtain ⟨c0,c1,c2,c3,c4,c5,c6,c7,c8,c9,c10,c11,c12⟩:=cer h2;have nt:Int.toNat (i:Int)=i:=Hc _;have w1:wrap .i64 ((i:Int)+1)=((i+1:Nat):Int):=by rw [At (by omega) (by omega)];omega
  have w2:wrap .i64 ((cs.length:Int)-1)=(i:Int):=by rw [At (by omega) (by omega)];omega
  have is_:=Aoy (fu:=fu) (d:=d+1) hfu hci (ans:=ans) hl;simp only [Ce.cells] at is_
  have st:=Abg (fu:=fu) (d:=d+1) hfu (a0n:=a0n) (a1n:=a1n) (a2n:=a2n) (a0:=a0) (a1:=a1) (a2:=a2) (a3:=a3) h2 hci h3 (ans:=ans) (vs:=vs) hv (now:=now) (m:=m+1) (T:=some ⟨[.sc (.int .i64 (ZH c ans).1),.sc (.int .i64 (ZH c ans).2)],[]⟩) (by
   intro nn;unfold ZH;rw [H9];by_cases hz:M0 c 0 ans<0
   ·rw [Bl hz]
    try unfold Aa
    repeat first
     |((with_reducible first|apply Ap|apply Ag|apply Am|apply As|apply Ax|apply Az|apply Bh|apply Ah);· first|with_reducible rfl|(simp (disch:=omega) only [w1]<;>with_reducible rfl))
     |((with_reducible first|apply Ak|apply Al);· first|with_reducible rfl|omega|(simp (disch:=omega) only [gT,w1]<;>omega))
     |(with_reducible apply Ao;· first|with_reducible rfl|(simp (disch:=omega) only [gF,w1]<;>omega))
    try simp (disch:=omega) only [w1]
    rw [Ia]
    try unfold Aa
    repeat first
     |((with_reducible first|apply Ap|apply Ag|apply Am|apply As|apply Ax|apply Az|apply Bh|apply Ah);· first|with_reducible rfl|(simp (disch:=omega) only [w2,nt,c0,c1,c2,c3,c4,c5,c6,c7,c8,c9,c10,c11,c12,is_]<;>with_reducible rfl))
     |((with_reducible first|apply Ak|apply Al);· first|with_reducible rfl|omega|(simp (disch:=omega) only [gT,w2,nt,c0,c1,c2,c3,c4,c5,c6,c7,c8,c9,c10,c11,c12,is_]<;>omega))
     |(with_reducible apply Ao;· first|with_reducible rfl|(simp (disch:=omega) only [gF,w2,nt,c0,c1,c2,c3,c4,c5,c6,c7,c8,c9,c10,c11,c12,is_]<;>omega))
    try simp (disch:=omega) only [w2,nt,c0,c1,c2,c3,c4,c5,c6,c7,c8,c9,c10,c11,c12,is_]
    all_goals rfl
   ·rw [A3 hz]
    try unfold Aa
    repeat first
     |((with_reducible first|apply Ap|apply Ag|apply Am|apply As|apply Ax|apply Az|apply Bh|apply Ah);· first|with_reducible rfl|(simp (disch:=omega) only [w1]<;>with_reducible rfl))
     |((with_reducible first|apply Ak|apply Al);· first|with_reducible rfl|omega|(simp (disch:=omega) only [gT,w1]<;>omega))
     |(with_reducible apply Ao;· first|with_reducible rfl|(simp (disch:=omega) only [gF,w1]<;>omega))
    try simp (disch:=omega) only [w1]
    rw [Ia]
    try unfold Aa
    repeat first
     |((with_reducible first|apply Ap|apply Ag|apply Am|apply As|apply Ax|apply Az|apply Bh|apply Ah);· first|with_reducible rfl|(simp (disch:=omega) only [w2,nt,c0,c1,c2,c3,c4,c5,c6,c7,c8,c9,c10,c11,c12,is_]<;>with_reducible rfl))
     |((with_reducible first|apply Ak|apply Al);· first|with_reducible rfl|omega|(simp (disch:=omega) only [gT,w2,nt,c0,c1,c2,c3,c4,c5,c6,c7,c8,c9,c10,c11,c12,is_]<;>omega))
     |(with_reducible apply Ao;· first|with_reducible rfl|(simp (disch:=omega) only [gF,w2,nt,c0,c1,c2,c3,c4,c5,c6,c7,c8,c9,c10,c11,c12,is_]<;>omega))
    try simp (disch:=omega) only [w2,nt,c0,c1,c2,c3,c4,c5,c6,c7,c8,c9,c10,c11,c12,is_]
    all_goals rfl)
  rw [st];unfold V8;by_cases hz:Gg c i vs now=0
  ·have hz':¬(Gg c i vs now≠0):=by simp [hz]
   rw [Bl hz,A3 hz']
  ·rw [A3 hz,Bl hz]
 |c::e::r,i,nn+1,hne,h,hn,hi=>by
  obtain ⟨h1,h2,h3'⟩:=Cg h;obtain ⟨k1,k2,k3⟩:=Cg h3';simp only [Ib] at hn;have hci:=hc c (List.mem_of_getElem? h2);obtain ⟨q0,q1,q2,q3,q4,_⟩:=cer k2;have nt1:Int.toNat ((i+1:Nat):Int)=i+1:=Hc _;have w1:wrap .i64 ((i:Int)+1)=((i+1:Nat):Int):=by rw [At (by omega) (by omega)];omega
  have q3':(Cc cs).getD ((i+1)*13+3) .top=.sc (.int .i64 e.key.h):=q3;have q4':(Cc cs).getD ((i+1)*13+3+1) .top=.sc (.int .u64 e.key.root):=q4;have vq:=Aa4 (fu:=fu) (d:=d+2) hfu hci.wf hci.s1 hci.s2 e.key;simp only [Ce.cells,Ky.cells] at vq;have ih:=QK hfu (a0n:=a0n) (a1n:=a1n) (a2n:=a2n) (a0:=a0) (a1:=a1) (a2:=a2) (a3:=a3) hc h3 hl hv (now:=now) (e::r) (i+1) nn (by simp) h3' (by simp only [Ib];omega) (by omega)
  have st:=Abg (fu:=fu) (d:=d+1) hfu (a0n:=a0n) (a1n:=a1n) (a2n:=a2n) (a0:=a0) (a1:=a1) (a2:=a2) (a3:=a3) h2 hci h3 (ans:=ans) (vs:=vs) hv (now:=now) (m:=nn) (T:=some ⟨[.sc (.int .i64 (if eqS c.iss e.subj=false then ((0:Int),(38:Int)) else if Od c e.key≠0 then (0,Od c e.key) else V8 ans vs now (i+1) (e::r)).1),.sc (.int .i64 (if eqS c.iss e.subj=false then ((0:Int),(38:Int)) else if Od c e.key≠0 then (0,Od c e.key) else V8 ans vs now (i+1) (e::r)).2)],[]⟩) (by
   intro nn';rw [H9];cases es:eqS c.iss e.subj
   ·simp only [if_true]
    try unfold Aa
    repeat first
     |((with_reducible first|apply Ap|apply Ag|apply Am|apply As|apply Ax|apply Az|apply Bh|apply Ah);· first|with_reducible rfl|(simp (disch:=omega) only [w1,nt1,Lz,q0,es,Br]<;>with_reducible rfl))
     |((with_reducible first|apply Ak|apply Al);· first|with_reducible rfl|omega|(simp (disch:=omega) only [gT,w1,nt1,Lz,q0,es,Br]<;>omega))
     |(with_reducible apply Ao;· first|with_reducible rfl|(simp (disch:=omega) only [gF,w1,nt1,Lz,q0,es,Br]<;>omega))
    try simp (disch:=omega) only [w1,nt1,Lz,q0,es,Br]
    all_goals rfl
   ·simp only [Bool.true_eq_false,if_false];by_cases hv':Od c e.key=0
    ·have v0:(Od c e.key != 0)=false:=by simp [hv']
     rw [A3 (by simp [hv']),←ih]
     try unfold Aa
     repeat first
      |((with_reducible first|apply Ap|apply Ag|apply Am|apply As|apply Ax|apply Az|apply Bh|apply Ah);· first|with_reducible rfl|(simp (disch:=omega) only [w1,nt1,Lz,q0,es,q3',q4',vq,v0,Bp]<;>with_reducible rfl))
      |((with_reducible first|apply Ak|apply Al);· first|with_reducible rfl|omega|(simp (disch:=omega) only [gT,w1,nt1,Lz,q0,es,q3',q4',vq,v0,Bp]<;>omega))
      |(with_reducible apply Ao;· first|with_reducible rfl|(simp (disch:=omega) only [gF,w1,nt1,Lz,q0,es,q3',q4',vq,v0,Bp]<;>omega))
     try simp (disch:=omega) only [w1,nt1,Lz,q0,es,q3',q4',vq,v0,Bp]
     all_goals rfl
    ·have v0:(Od c e.key != 0)=true:=by simp [hv']
     rw [Bl hv']
     try unfold Aa
     repeat first
      |((with_reducible first|apply Ap|apply Ag|apply Am|apply As|apply Ax|apply Az|apply Bh|apply Ah);· first|with_reducible rfl|(simp (disch:=omega) only [w1,nt1,Lz,q0,es,q3',q4',vq,v0,Bp]<;>with_reducible rfl))
      |((with_reducible first|apply Ak|apply Al);· first|with_reducible rfl|omega|(simp (disch:=omega) only [gT,w1,nt1,Lz,q0,es,q3',q4',vq,v0,Bp]<;>omega))
      |(with_reducible apply Ao;· first|with_reducible rfl|(simp (disch:=omega) only [gF,w1,nt1,Lz,q0,es,q3',q4',vq,v0,Bp]<;>omega))
     try simp (disch:=omega) only [w1,nt1,Lz,q0,es,q3',q4',vq,v0,Bp]
     all_goals rfl)
  rw [st]
  conv=>rhs;unfold V8
  by_cases hz:Gg c i vs now=0
  ·have hz':¬(Gg c i vs now≠0):=by simp [hz]
   rw [Bl hz,A3 hz']
  ·rw [A3 hz,Bl hz]
theorem Anq (hfu:1000<=fu){cs:List Ce}(hc:∀c∈cs,c.in_){ans:List An}(hl:ans.length<=900){vs:List Rv}(hv:vs.length<=900)(now:Int):
  Ae C0 Tryz.prog fu (d+11) Qj [.lst false 13 cs.length (Cc cs),.lst false 3 ans.length (Ev ans),.lst false 3 vs.length (Fb vs),.sc (.int .i64 now)]=some ⟨[.sc (.int .i64 (O5 cs ans vs now).1),.sc (.int .i64 (O5 cs ans vs now).2)],[]⟩:=by
 rw [CL];have n1:=Oj (fu:=fu) (d:=d+9) now 0 1099511627776;have n2:=Oj (fu:=fu) (d:=d+9) cs.length 1 3;unfold O5;by_cases h1:now<0
 ·have:(decide ((0:Int)<=now)&&decide (now<=1099511627776))=false:=by simp;omega
  rw [this] at n1;rw [Bl h1]
  try unfold Aa
  repeat first
   |((with_reducible first|apply Ap|apply Ag|apply Am|apply As|apply Ax|apply Az|apply Bh|apply Ah);· first|with_reducible rfl|(simp (disch:=omega) only [n1,Br]<;>with_reducible rfl))
   |((with_reducible first|apply Ak|apply Al);· first|with_reducible rfl|omega|(simp (disch:=omega) only [gT,n1,Br]<;>omega))
   |(with_reducible apply Ao;· first|with_reducible rfl|(simp (disch:=omega) only [gF,n1,Br]<;>omega))
  try simp (disch:=omega) only [n1,Br]
  all_goals rfl
 rw [A3 h1];by_cases h2:now>1099511627776
 ·have:(decide ((0:Int)<=now)&&decide (now<=1099511627776))=false:=by simp;omega
  rw [this] at n1;rw [Bl h2]
  try unfold Aa
  repeat first
   |((with_reducible first|apply Ap|apply Ag|apply Am|apply As|apply Ax|apply Az|apply Bh|apply Ah);· first|with_reducible rfl|(simp (disch:=omega) only [n1,Br]<;>with_reducible rfl))
   |((with_reducible first|apply Ak|apply Al);· first|with_reducible rfl|omega|(simp (disch:=omega) only [gT,n1,Br]<;>omega))
   |(with_reducible apply Ao;· first|with_reducible rfl|(simp (disch:=omega) only [gF,n1,Br]<;>omega))
  try simp (disch:=omega) only [n1,Br]
  all_goals rfl
 have q1:(decide ((0:Int)<=now)&&decide (now<=1099511627776))=true:=by simp;omega
 rw [q1] at n1;rw [A3 h2];by_cases h3:cs.length<1
 ·have:(decide ((1:Int)<=cs.length)&&decide ((cs.length:Int)<=3))=false:=by simp;omega
  rw [this] at n2;rw [Bl h3]
  try unfold Aa
  repeat first
   |((with_reducible first|apply Ap|apply Ag|apply Am|apply As|apply Ax|apply Az|apply Bh|apply Ah);· first|with_reducible rfl|(simp (disch:=omega) only [n1,n2,Bp,Br]<;>with_reducible rfl))
   |((with_reducible first|apply Ak|apply Al);· first|with_reducible rfl|omega|(simp (disch:=omega) only [gT,n1,n2,Bp,Br]<;>omega))
   |(with_reducible apply Ao;· first|with_reducible rfl|(simp (disch:=omega) only [gF,n1,n2,Bp,Br]<;>omega))
  try simp (disch:=omega) only [n1,n2,Bp,Br]
  all_goals rfl
 rw [A3 h3];by_cases h4:cs.length>3
 ·have:(decide ((1:Int)<=cs.length)&&decide ((cs.length:Int)<=3))=false:=by simp;omega
  rw [this] at n2;rw [Bl h4]
  try unfold Aa
  repeat first
   |((with_reducible first|apply Ap|apply Ag|apply Am|apply As|apply Ax|apply Az|apply Bh|apply Ah);· first|with_reducible rfl|(simp (disch:=omega) only [n1,n2,Bp,Br]<;>with_reducible rfl))
   |((with_reducible first|apply Ak|apply Al);· first|with_reducible rfl|omega|(simp (disch:=omega) only [gT,n1,n2,Bp,Br]<;>omega))
   |(with_reducible apply Ao;· first|with_reducible rfl|(simp (disch:=omega) only [gF,n1,n2,Bp,Br]<;>omega))
  try simp (disch:=omega) only [n1,n2,Bp,Br]
  all_goals rfl
 rw [A3 h4];have q2:(decide ((1:Int)<=cs.length)&&decide ((cs.length:Int)<=3))=true:=by simp;omega
 rw [q2] at n2;have lp:=QK (fu:=fu) (d:=d) hfu (a0n:=cs.length) (a1n:=ans.length) (a2n:=vs.length) (a0:=Cc cs) (a1:=Ev ans) (a2:=Fb vs) (a3:=now) hc (by omega) hl hv (now:=now) cs 0 fu (by intro h;subst h;simp at h3) rfl (by omega) (by omega)
 rw [←lp]
 try unfold Aa
 repeat first
  |((with_reducible first|apply Ap|apply Ag|apply Am|apply As|apply Ax|apply Az|apply Bh|apply Ah);· first|with_reducible rfl|(simp (disch:=omega) only [n1,n2,Bp,Br]<;>with_reducible rfl))
  |((with_reducible first|apply Ak|apply Al);· first|with_reducible rfl|omega|(simp (disch:=omega) only [gT,n1,n2,Bp,Br]<;>omega))
  |(with_reducible apply Ao;· first|with_reducible rfl|(simp (disch:=omega) only [gF,n1,n2,Bp,Br]<;>omega))
 try simp (disch:=omega) only [n1,n2,Bp,Br]
 all_goals rfl
end
end
section
open Go.IntKind (wrap)
set_option maxRecDepth 100000
abbrev Kl:FuncId:=30
theorem Vf (fu d:Nat)(a0_0:Int)(a0_1:ByteArray)(a0_2n:Nat)(a0_2:List PV)(a0_3n:Nat)(a0_3:List PV)(a0_4n:Nat)(a0_4:List PV)(a0_5:Int)(a0_6n:Nat)(a0_6:List PV)(a0_7:ByteArray)(a1_0 a1_1:Int)(a1_2 a1_3 a1_4:Int)(a1_5n:Nat)(a1_5:List PV)(a1_6 a1_7 a2:Int):Ae C0 Tryz.prog fu (d+1) Kl [.agg [.sc (.int .i64 a0_0),.sc (.string a0_1),.lst false 1 a0_2n a0_2,.lst false 1 a0_3n a0_3,.lst false 1 a0_4n a0_4,.sc (.int .i64 a0_5),.lst false 1 a0_6n a0_6,.sc (.string a0_7)],.agg [.sc (.int .u64 a1_0),.sc (.int .i64 a1_1),.sc (.int .i64 a1_2),.sc (.int .i64 a1_3),.sc (.int .u64 a1_4),.lst false 1 a1_5n a1_5,.sc (.int .i64 a1_6),.sc (.int .u64 a1_7)],.sc (.int .u64 a2)]=(fun (call:Ar)=>A4 (decide ((↑a0_4n:Int)>0)) (some (A0.mk [.agg [.sc (.int .i64 0),.sc (.int .i64 0),.sc (.int .i64 0)],.sc (.int .i64 4)] [])) (Aj (call 55 [.lst false 1 a0_3n a0_3]) fun x1 x2=>Ac x2<|Ab x1 fun x3 x4=>C2 x3 fun x5=>Ab x5 fun x6 x7=>Af .i64 x6 fun x8=>Ab x7 fun x9 Ck=>Dc 1 x9 fun Bn Cw=>Ab Ck fun Da Cq=>Dc 1 Da fun Cy Db=>Ac Cq<|Ab x4 fun Dq D2=>Af .i64 Dq fun D0=>Ac D2<|A4 (D0 != 0) (some (A0.mk [.agg [.sc (.int .i64 0),.sc (.int .i64 0),.sc (.int .i64 0)],.sc (.int .i64 D0)] [])) (Ay (decide (0+Bn*1<=Cw.length))<|Ay (decide (0+Cy*1<=Db.length))<|Aj (call 56 [.agg [.sc (.int .i64 a1_6),.sc (.int .u64 a1_7)],.sc (.int .u64 a2),.agg [.sc (.int .i64 x8),.lst false 1 Bn (List.take (Bn*1) (List.drop 0 Cw)),.lst false 1 Cy (List.take (Cy*1) (List.drop 0 Db))]]) fun D9 Fj=>Ac Fj<|Ab D9 fun Cn Fn=>Af .i64 Cn fun Dj=>Ac Fn<|A4 (Dj != 0) (some (A0.mk [.agg [.sc (.int .i64 0),.sc (.int .i64 0),.sc (.int .i64 0)],.sc (.int .i64 Dj)] [])) (some (A0.mk [.agg [.sc (.int .i64 1),.sc (.int .i64 (-1)),.sc (.int .i64 x8)],.sc (.int .i64 0)] []))))) (Ae C0 Tryz.prog fu d):=by kernel_rfl
abbrev Ju:FuncId:=31
noncomputable def D6 (fu:Nat)(call:Ar)(a0_0:Int)(a0_1:ByteArray)(a0_2n:Nat)(a0_2:List PV)(a0_3n:Nat)(a0_3:List PV)(a0_4n:Nat)(a0_4:List PV)(a0_5:Int)(a0_6n:Nat)(a0_6:List PV)(a0_7:ByteArray)(a1_0 a1_1:Int)(a1_2 a1_3 a1_4:Int)(a1_5n:Nat)(a1_5:List PV)(a1_6 a1_7 a2:Int)(a3n:Nat)(a3:List PV)(a4n:Nat)(a4:List PV)(a5:Int)(nn:Nat)(y0:Int)(y1:Nat)(y2:List PV)(y3:Nat)(y4:List PV)(y5:Int)(y6 y7:Nat)(y8:List PV)(y9 y10 Ej:Int)(E5:ByteArray)(Ic:Nat)(J1:List PV)(I1:Nat)(I2:List PV)(Jk:Nat)(Ov:List PV)(P4:Int)(Ty:Nat)(Oa:List PV)(Tq:ByteArray)(DA NR:Int)(OB OL TF:Int)(OH:Nat)(OO:List PV)(OI OD:Int)(GN y33 y34:Int)(CQ:List PV):Option A0:=Cz C0 Tryz.prog fu call 31 Tryz.f31 (B9 Tryz.f31) [.agg [.sc (.int .i64 a0_0),.sc (.string a0_1),.lst false 1 a0_2n a0_2,.lst false 1 a0_3n a0_3,.lst false 1 a0_4n a0_4,.sc (.int .i64 a0_5),.lst false 1 a0_6n a0_6,.sc (.string a0_7)],.agg [.sc (.int .u64 a1_0),.sc (.int .i64 a1_1),.sc (.int .i64 a1_2),.sc (.int .i64 a1_3),.sc (.int .u64 a1_4),.lst false 1 a1_5n a1_5,.sc (.int .i64 a1_6),.sc (.int .u64 a1_7)],.sc (.int .u64 a2),.lst false 3 a3n a3,.lst false 3 a4n a4,.sc (.int .i64 a5)] [.r,.r,.r,.l,.r,.l] nn ⟨lk [(2,(.sc (.int .u64 y0))),(3,(.lst false 3 y1 y2)),(4,(.lst false 3 y3 y4)),(5,(.sc (.int .i64 y5))),(6,(.ptr 6 0)),(7,(.ptr 7 0)),(12,(.ptr 12 0)),(14,(.view 14 13 0 y6)),(36,(.lst false 1 y7 y8)),(37,(.sc (.int .i64 y9))),(38,(.sc (.int .i64 y10)))],Gl [(6,(.st [(.sc (.int .i64 Ej)),(.sc (.string E5)),(.lst false 1 Ic J1),(.lst false 1 I1 I2),(.lst false 1 Jk Ov),(.sc (.int .i64 P4)),(.lst false 1 Ty Oa),(.sc (.string Tq))])),(7,(.st [(.sc (.int .u64 DA)),(.sc (.int .i64 NR)),(.sc (.int .i64 OB)),(.sc (.int .i64 OL)),(.sc (.int .u64 TF)),(.lst false 1 OH OO),(.sc (.int .i64 OI)),(.sc (.int .u64 OD))])),(12,(.st [(.sc (.int .i64 GN)),(.sc (.int .i64 y33)),(.sc (.int .i64 y34))])),(14,(.ar false CQ))]⟩
theorem Id (fu:Nat)(call:Ar)(a0_0:Int)(a0_1:ByteArray)(a0_2n:Nat)(a0_2:List PV)(a0_3n:Nat)(a0_3:List PV)(a0_4n:Nat)(a0_4:List PV)(a0_5:Int)(a0_6n:Nat)(a0_6:List PV)(a0_7:ByteArray)(a1_0 a1_1:Int)(a1_2 a1_3 a1_4:Int)(a1_5n:Nat)(a1_5:List PV)(a1_6 a1_7 a2:Int)(a3n:Nat)(a3:List PV)(a4n:Nat)(a4:List PV)(a5:Int)(nn:Nat)(y0:Int)(y1:Nat)(y2:List PV)(y3:Nat)(y4:List PV)(y5:Int)(y6 y7:Nat)(y8:List PV)(y9 y10 Ej:Int)(E5:ByteArray)(Ic:Nat)(J1:List PV)(I1:Nat)(I2:List PV)(Jk:Nat)(Ov:List PV)(P4:Int)(Ty:Nat)(Oa:List PV)(Tq:ByteArray)(DA NR:Int)(OB OL TF:Int)(OH:Nat)(OO:List PV)(OI OD:Int)(GN y33 y34:Int)(CQ:List PV):D6 fu call a0_0 a0_1 a0_2n a0_2 a0_3n a0_3 a0_4n a0_4 a0_5 a0_6n a0_6 a0_7 a1_0 a1_1 a1_2 a1_3 a1_4 a1_5n a1_5 a1_6 a1_7 a2 a3n a3 a4n a4 a5 (nn+1) y0 y1 y2 y3 y4 y5 y6 y7 y8 y9 y10 Ej E5 Ic J1 I1 I2 Jk Ov P4 Ty Oa Tq DA NR OB OL TF OH OO OI OD GN y33 y34 CQ=(A4 (decide (y10<y9)) (Ay (decide (0<=y10)&&decide (y10<(↑y7:Int)))<|F8 1 (List.getD y8 (Int.toNat y10*1) .top) fun x1 x2 x3=>Aj (call 57 [.lst false 1 x2 x3]) fun x4 x5=>Ac x5<|Ab x4 fun x6 x7=>C2 x6 fun x8=>Ab x8 fun x9 Ck=>Co x9 fun Bn=>Ab Ck fun Cw Da=>Co Cw fun Cq=>Ab Da fun Cy Db=>Af .u64 Cy fun Dq=>Ab Db fun D2 D0=>Af .i64 D2 fun D9=>Ab D0 fun Fj Cn=>Af .u64 Fj fun Fn=>Ab Cn fun Dj B3=>Af .i64 Dj fun Et=>Ab B3 fun F1 Bm=>Af .i64 F1 fun Cj=>Ab Bm fun Gt Gu=>Bx Gt fun Hz=>Ab Gu fun Ha Il=>Af .i64 Ha fun G4=>Ab Il fun Ir Kr=>Af .u64 Ir fun F0=>Ab Kr fun H2 Nc=>Af .i64 H2 fun Ot=>Ab Nc fun Kc J5=>F8 1 Kc fun Nk Md Oo=>Ab J5 fun Py Pw=>F8 1 Py fun Ox Rb Q5=>Ac Pw<|Ab x7 fun Q0 Ks=>Af .i64 Q0 fun S9=>Ac Ks<|A4 (S9 != 0) (some (A0.mk [.agg [.sc (.int .i64 0),.sc (.int .i64 0),.sc (.int .i64 0)],.sc (.int .i64 S9)] [])) (Ay (decide (y6*13<=CQ.length)&&true&&decide ((y6+1)*152<=1099511627776)&&decide (y6+1<=1099511627776))<|Aa (y6+1) fun Ql=>Aa (List.take (y6*13) CQ++[.sc (.string Bn),.sc (.string Cq),.sc (.int .u64 Dq),.sc (.int .i64 D9),.sc (.int .u64 Fn),.sc (.int .i64 Et),.sc (.int .i64 Cj),.sc (.bool Hz),.sc (.int .i64 G4),.sc (.int .u64 F0),.sc (.int .i64 Ot),.lst false 1 Md Oo,.lst false 1 Rb Q5]) fun Ru=>Aa (wrap .i64 (y10+1)) fun Nz=>D6 fu call a0_0 a0_1 a0_2n a0_2 a0_3n a0_3 a0_4n a0_4 a0_5 a0_6n a0_6 a0_7 a1_0 a1_1 a1_2 a1_3 a1_4 a1_5n a1_5 a1_6 a1_7 a2 a3n a3 a4n a4 a5 (nn) (y0) (y1) (y2) (y3) (y4) (y5) Ql (y7) (y8) (y9) Nz (Ej) (E5) (Ic) (J1) (I1) (I2) (Jk) (Ov) (P4) (Ty) (Oa) (Tq) (DA) (NR) (OB) (OL) (TF) (OH) (OO) (OI) (OD) (GN) (y33) (y34) Ru)) (Ay (decide (0<(↑y6:Int)))<|Co (List.getD CQ 0 .top) fun Pz=>Co (List.getD CQ 1 .top) fun Q9=>Af .u64 (List.getD CQ 2 .top) fun Rk=>Af .i64 (List.getD CQ 3 .top) fun Pr=>Af .u64 (List.getD CQ 4 .top) fun Te=>Af .i64 (List.getD CQ 5 .top) fun Uv=>Af .i64 (List.getD CQ 6 .top) fun S7=>Bx (List.getD CQ 7 .top) fun Rz=>Af .i64 (List.getD CQ 8 .top) fun Ro=>Af .u64 (List.getD CQ 9 .top) fun Q7=>Af .i64 (List.getD CQ 10 .top) fun Vv=>F8 1 (List.getD CQ 11 .top) fun Tn S5 Tj=>F8 1 (List.getD CQ 12 .top) fun Uz Tm S8=>A4 Rz (some (A0.mk [.agg [.sc (.int .i64 0),.sc (.int .i64 0),.sc (.int .i64 0)],.sc (.int .i64 38)] [])) (A4 (Q7==0) (some (A0.mk [.agg [.sc (.int .i64 0),.sc (.int .i64 0),.sc (.int .i64 0)],.sc (.int .i64 38)] [])) (A4 (Q7 != TF) (some (A0.mk [.agg [.sc (.int .i64 0),.sc (.int .i64 0),.sc (.int .i64 0)],.sc (.int .i64 38)] [])) (Aj (call 55 [.lst false 1 I1 I2]) fun Rr Vg=>Ac Vg<|Ab Rr fun T0 Vl=>C2 T0 fun W8=>Ab W8 fun Wv Yq=>Af .i64 Wv fun Wu=>Ab Yq fun X5 Xq=>Dc 1 X5 fun Y5 Z3=>Ab Xq fun AL Re=>Dc 1 AL fun S6 Uc=>Ac Re<|Ab Vl fun GO DV=>Af .i64 GO fun FL=>Ac DV<|A4 (FL != 0) (some (A0.mk [.agg [.sc (.int .i64 0),.sc (.int .i64 0),.sc (.int .i64 0)],.sc (.int .i64 FL)] [])) (Ay (decide (0+Y5*1<=Z3.length))<|Ay (decide (0+S6*1<=Uc.length))<|Aj (call 56 [.agg [.sc (.int .i64 Pr),.sc (.int .u64 Te)],.sc (.int .u64 y0),.agg [.sc (.int .i64 Wu),.lst false 1 Y5 (List.take (Y5*1) (List.drop 0 Z3)),.lst false 1 S6 (List.take (S6*1) (List.drop 0 Uc))]]) fun JV MP=>Ac MP<|Ab JV fun OZ NC=>Af .i64 OZ fun OC=>Ac NC<|A4 (OC != 0) (some (A0.mk [.agg [.sc (.int .i64 0),.sc (.int .i64 0),.sc (.int .i64 0)],.sc (.int .i64 OC)] [])) (Ay (decide (0+y6*13<=CQ.length))<|Aj (call 58 [.lst false 13 y6 (List.take (y6*13) (List.drop 0 CQ)),.lst false 3 y1 y2,.lst false 3 y3 y4,.sc (.int .i64 y5)]) fun NL S0=>Ac S0<|Ab NL fun Px Gw=>Af .i64 Px fun Iz=>Ab Gw fun Vh P6=>Af .i64 Vh fun Oh=>Ac P6<|A4 (Oh != 0) (some (A0.mk [.agg [.sc (.int .i64 0),.sc (.int .i64 0),.sc (.int .i64 0)],.sc (.int .i64 Oh)] [])) (some (A0.mk [.agg [.sc (.int .i64 2),.sc (.int .i64 Iz),.sc (.int .i64 (-1))],.sc (.int .i64 0)] []))))))))):=by kernel_rfl
theorem Tl (fu d:Nat)(a0_0:Int)(a0_1:ByteArray)(a0_2n:Nat)(a0_2:List PV)(a0_3n:Nat)(a0_3:List PV)(a0_4n:Nat)(a0_4:List PV)(a0_5:Int)(a0_6n:Nat)(a0_6:List PV)(a0_7:ByteArray)(a1_0 a1_1:Int)(a1_2 a1_3 a1_4:Int)(a1_5n:Nat)(a1_5:List PV)(a1_6 a1_7 a2:Int)(a3n:Nat)(a3:List PV)(a4n:Nat)(a4:List PV)(a5:Int):Ae C0 Tryz.prog fu (d+1) Ju [.agg [.sc (.int .i64 a0_0),.sc (.string a0_1),.lst false 1 a0_2n a0_2,.lst false 1 a0_3n a0_3,.lst false 1 a0_4n a0_4,.sc (.int .i64 a0_5),.lst false 1 a0_6n a0_6,.sc (.string a0_7)],.agg [.sc (.int .u64 a1_0),.sc (.int .i64 a1_1),.sc (.int .i64 a1_2),.sc (.int .i64 a1_3),.sc (.int .u64 a1_4),.lst false 1 a1_5n a1_5,.sc (.int .i64 a1_6),.sc (.int .u64 a1_7)],.sc (.int .u64 a2),.lst false 3 a3n a3,.lst false 3 a4n a4,.sc (.int .i64 a5)]=(fun (call:Ar)=>A4 (decide ((↑a0_4n:Int)<1)) (some (A0.mk [.agg [.sc (.int .i64 0),.sc (.int .i64 0),.sc (.int .i64 0)],.sc (.int .i64 38)] [])) (A4 (decide ((↑a0_4n:Int)>3)) (some (A0.mk [.agg [.sc (.int .i64 0),.sc (.int .i64 0),.sc (.int .i64 0)],.sc (.int .i64 38)] [])) (D6 fu call a0_0 a0_1 a0_2n a0_2 a0_3n a0_3 a0_4n a0_4 a0_5 a0_6n a0_6 a0_7 a1_0 a1_1 a1_2 a1_3 a1_4 a1_5n a1_5 a1_6 a1_7 a2 a3n a3 a4n a4 a5 (fu) (a2) (a3n) (a3) (a4n) (a4) (a5) 0 (a0_4n) (a0_4) ((↑a0_4n:Int)) 0 (a0_0) (a0_1) (a0_2n) (a0_2) (a0_3n) (a0_3) (a0_4n) (a0_4) (a0_5) (a0_6n) (a0_6) (a0_7) (a1_0) (a1_1) (a1_2) (a1_3) (a1_4) (a1_5n) (a1_5) (a1_6) (a1_7) 0 0 0 ([])))) (Ae C0 Tryz.prog fu d):=by kernel_rfl
abbrev O0:FuncId:=14
theorem Zt (fu d:Nat)(a0_0:Int)(a0_1:ByteArray)(a0_2n:Nat)(a0_2:List PV)(a0_3n:Nat)(a0_3:List PV)(a0_4n:Nat)(a0_4:List PV)(a0_5:Int)(a0_6n:Nat)(a0_6:List PV)(a0_7:ByteArray)(a1_0 a1_1:Int)(a1_2 a1_3 a1_4:Int)(a1_5n:Nat)(a1_5:List PV)(a1_6 a1_7 a2:Int)(a3n:Nat)(a3:List PV)(a4n:Nat)(a4:List PV)(a5:Int):Ae C0 Tryz.prog fu (d+1) O0 [.agg [.sc (.int .i64 a0_0),.sc (.string a0_1),.lst false 1 a0_2n a0_2,.lst false 1 a0_3n a0_3,.lst false 1 a0_4n a0_4,.sc (.int .i64 a0_5),.lst false 1 a0_6n a0_6,.sc (.string a0_7)],.agg [.sc (.int .u64 a1_0),.sc (.int .i64 a1_1),.sc (.int .i64 a1_2),.sc (.int .i64 a1_3),.sc (.int .u64 a1_4),.lst false 1 a1_5n a1_5,.sc (.int .i64 a1_6),.sc (.int .u64 a1_7)],.sc (.int .u64 a2),.lst false 3 a3n a3,.lst false 3 a4n a4,.sc (.int .i64 a5)]=(fun (call:Ar)=>Aa (Ed .i64 a1_1 64) fun x1=>A4 (x1==0) (some (A0.mk [.agg [.sc (.int .i64 0),.sc (.int .i64 0),.sc (.int .i64 0)],.sc (.int .i64 4)] [])) (A4 (a0_5==0) (A4 (decide ((↑a0_3n:Int)>0)) (some (A0.mk [.agg [.sc (.int .i64 0),.sc (.int .i64 0),.sc (.int .i64 0)],.sc (.int .i64 4)] [])) (A4 (decide ((↑a0_4n:Int)>0)) (some (A0.mk [.agg [.sc (.int .i64 0),.sc (.int .i64 0),.sc (.int .i64 0)],.sc (.int .i64 4)] [])) (some (A0.mk [.agg [.sc (.int .i64 0),.sc (.int .i64 (-1)),.sc (.int .i64 (-1))],.sc (.int .i64 0)] [])))) (A4 (a0_5==1) (Aj (call 30 [.agg [.sc (.int .i64 a0_0),.sc (.string a0_1),.lst false 1 a0_2n a0_2,.lst false 1 a0_3n a0_3,.lst false 1 a0_4n a0_4,.sc (.int .i64 a0_5),.lst false 1 a0_6n a0_6,.sc (.string a0_7)],.agg [.sc (.int .u64 a1_0),.sc (.int .i64 a1_1),.sc (.int .i64 a1_2),.sc (.int .i64 a1_3),.sc (.int .u64 a1_4),.lst false 1 a1_5n a1_5,.sc (.int .i64 a1_6),.sc (.int .u64 a1_7)],.sc (.int .u64 a2)]) fun x2 x3=>Ac x3<|Ab x2 fun x4 x5=>C2 x4 fun x6=>Ab x6 fun x7 x8=>Af .i64 x7 fun x9=>Ab x8 fun Ck Bn=>Af .i64 Ck fun Cw=>Ab Bn fun Da Cq=>Af .i64 Da fun Cy=>Ac Cq<|Ab x5 fun Db Dq=>Af .i64 Db fun D2=>Ac Dq<|some (A0.mk [.agg [.sc (.int .i64 x9),.sc (.int .i64 Cw),.sc (.int .i64 Cy)],.sc (.int .i64 D2)] [])) (A4 (a0_5==2) (Aj (call 31 [.agg [.sc (.int .i64 a0_0),.sc (.string a0_1),.lst false 1 a0_2n a0_2,.lst false 1 a0_3n a0_3,.lst false 1 a0_4n a0_4,.sc (.int .i64 a0_5),.lst false 1 a0_6n a0_6,.sc (.string a0_7)],.agg [.sc (.int .u64 a1_0),.sc (.int .i64 a1_1),.sc (.int .i64 a1_2),.sc (.int .i64 a1_3),.sc (.int .u64 a1_4),.lst false 1 a1_5n a1_5,.sc (.int .i64 a1_6),.sc (.int .u64 a1_7)],.sc (.int .u64 a2),.lst false 3 a3n a3,.lst false 3 a4n a4,.sc (.int .i64 a5)]) fun D0 D9=>Ac D9<|Ab D0 fun Fj Cn=>C2 Fj fun Fn=>Ab Fn fun Dj B3=>Af .i64 Dj fun Et=>Ab B3 fun F1 Bm=>Af .i64 F1 fun Cj=>Ab Bm fun Gt Gu=>Af .i64 Gt fun Hz=>Ac Gu<|Ab Cn fun Ha Il=>Af .i64 Ha fun G4=>Ac Il<|some (A0.mk [.agg [.sc (.int .i64 Et),.sc (.int .i64 Cj),.sc (.int .i64 Hz)],.sc (.int .i64 G4)] [])) (some (A0.mk [.agg [.sc (.int .i64 0),.sc (.int .i64 0),.sc (.int .i64 0)],.sc (.int .i64 3)] [])))))) (Ae C0 Tryz.prog fu d):=by kernel_rfl
abbrev O3:FuncId:=33
noncomputable def Fh (fu:Nat)(call:Ar)(a0_0:Int)(a0_1:ByteArray)(a0_2n:Nat)(a0_2:List PV)(a0_3n:Nat)(a0_3:List PV)(a0_4n:Nat)(a0_4:List PV)(a0_5:Int)(a0_6n:Nat)(a0_6:List PV)(a0_7:ByteArray)(a1_0 a1_1:Int)(a1_2 a1_3 a1_4:Int)(a1_5n:Nat)(a1_5:List PV)(a1_6 a1_7 a2:Int)(a3n:Nat)(a3:List PV)(a4n:Nat)(a4:List PV)(a5:Int)(nn:Nat)(y0:Int)(y1:Nat)(y2:List PV)(y3:Nat)(y4:List PV)(y5:Int)(y6:Nat)(y7 y8:Int)(y9:ByteArray)(y10:Nat)(Ej:List PV)(E5:Nat)(Ic:List PV)(J1:Nat)(I1:List PV)(I2:Int)(Jk:Nat)(Ov:List PV)(P4:ByteArray)(Ty Oa:Int)(Tq DA NR:Int)(OB:Nat)(OL:List PV)(TF OH:Int)(OO OI OD:Int)(GN:List PV):Option A0:=Cz C0 Tryz.prog fu call 33 Tryz.f33 (B9 Tryz.f33) [.agg [.sc (.int .i64 a0_0),.sc (.string a0_1),.lst false 1 a0_2n a0_2,.lst false 1 a0_3n a0_3,.lst false 1 a0_4n a0_4,.sc (.int .i64 a0_5),.lst false 1 a0_6n a0_6,.sc (.string a0_7)],.agg [.sc (.int .u64 a1_0),.sc (.int .i64 a1_1),.sc (.int .i64 a1_2),.sc (.int .i64 a1_3),.sc (.int .u64 a1_4),.lst false 1 a1_5n a1_5,.sc (.int .i64 a1_6),.sc (.int .u64 a1_7)],.sc (.int .u64 a2),.lst false 3 a3n a3,.lst false 3 a4n a4,.sc (.int .i64 a5)] [.r,.r,.r,.l,.r,.l] nn ⟨lk [(2,(.sc (.int .u64 y0))),(3,(.lst false 3 y1 y2)),(4,(.lst false 3 y3 y4)),(5,(.sc (.int .i64 y5))),(6,(.ptr 6 0)),(7,(.ptr 7 0)),(12,(.ptr 12 0)),(14,(.view 14 13 0 y6)),(15,(.sc (.int .i64 y7)))],Gl [(6,(.st [(.sc (.int .i64 y8)),(.sc (.string y9)),(.lst false 1 y10 Ej),(.lst false 1 E5 Ic),(.lst false 1 J1 I1),(.sc (.int .i64 I2)),(.lst false 1 Jk Ov),(.sc (.string P4))])),(7,(.st [(.sc (.int .u64 Ty)),(.sc (.int .i64 Oa)),(.sc (.int .i64 Tq)),(.sc (.int .i64 DA)),(.sc (.int .u64 NR)),(.lst false 1 OB OL),(.sc (.int .i64 TF)),(.sc (.int .u64 OH))])),(12,(.st [(.sc (.int .i64 OO)),(.sc (.int .i64 OI)),(.sc (.int .i64 OD))])),(14,(.ar false GN))]⟩
theorem Ly (fu:Nat)(call:Ar)(a0_0:Int)(a0_1:ByteArray)(a0_2n:Nat)(a0_2:List PV)(a0_3n:Nat)(a0_3:List PV)(a0_4n:Nat)(a0_4:List PV)(a0_5:Int)(a0_6n:Nat)(a0_6:List PV)(a0_7:ByteArray)(a1_0 a1_1:Int)(a1_2 a1_3 a1_4:Int)(a1_5n:Nat)(a1_5:List PV)(a1_6 a1_7 a2:Int)(a3n:Nat)(a3:List PV)(a4n:Nat)(a4:List PV)(a5:Int)(nn:Nat)(y0:Int)(y1:Nat)(y2:List PV)(y3:Nat)(y4:List PV)(y5:Int)(y6:Nat)(y7 y8:Int)(y9:ByteArray)(y10:Nat)(Ej:List PV)(E5:Nat)(Ic:List PV)(J1:Nat)(I1:List PV)(I2:Int)(Jk:Nat)(Ov:List PV)(P4:ByteArray)(Ty Oa:Int)(Tq DA NR:Int)(OB:Nat)(OL:List PV)(TF OH:Int)(OO OI OD:Int)(GN:List PV):Fh fu call a0_0 a0_1 a0_2n a0_2 a0_3n a0_3 a0_4n a0_4 a0_5 a0_6n a0_6 a0_7 a1_0 a1_1 a1_2 a1_3 a1_4 a1_5n a1_5 a1_6 a1_7 a2 a3n a3 a4n a4 a5 (nn+1) y0 y1 y2 y3 y4 y5 y6 y7 y8 y9 y10 Ej E5 Ic J1 I1 I2 Jk Ov P4 Ty Oa Tq DA NR OB OL TF OH OO OI OD GN=(A4 (decide (y7<(↑J1:Int))) (Ay (decide (0<=y7)&&decide (y7<(↑J1:Int)))<|F8 1 (List.getD I1 (Int.toNat y7*1) .top) fun x6 x7 x8=>Aj (call 21 [.lst false 1 x7 x8]) fun x9 Ck=>Ac Ck<|Ab x9 fun Bn Cw=>C2 Bn fun Da=>Ab Da fun Cq Cy=>Co Cq fun Db=>Ab Cy fun Dq D2=>Co Dq fun D0=>Ab D2 fun D9 Fj=>Af .u64 D9 fun Cn=>Ab Fj fun Fn Dj=>Af .i64 Fn fun B3=>Ab Dj fun Et F1=>Af .u64 Et fun Bm=>Ab F1 fun Cj Gt=>Af .i64 Cj fun Gu=>Ab Gt fun Hz Ha=>Af .i64 Hz fun Il=>Ab Ha fun G4 Ir=>Bx G4 fun Kr=>Ab Ir fun F0 H2=>Af .i64 F0 fun Nc=>Ab H2 fun Ot Kc=>Af .u64 Ot fun J5=>Ab Kc fun Nk Md=>Af .i64 Nk fun Oo=>Ab Md fun Py Pw=>F8 1 Py fun Ox Rb Q5=>Ab Pw fun Q0 Ks=>F8 1 Q0 fun S9 Ql Ru=>Ac Ks<|Ab Cw fun Nz Pz=>Af .i64 Nz fun Q9=>Ac Pz<|A4 (Q9 != 0) (some (A0.mk [.agg [.sc (.int .i64 0),.sc (.int .i64 0),.sc (.int .i64 0)],.sc (.int .i64 Q9)] [])) (Ay (decide (y6*13<=GN.length)&&true&&decide ((y6+1)*152<=1099511627776)&&decide (y6+1<=1099511627776))<|Aa (y6+1) fun Rk=>Aa (List.take (y6*13) GN++[.sc (.string Db),.sc (.string D0),.sc (.int .u64 Cn),.sc (.int .i64 B3),.sc (.int .u64 Bm),.sc (.int .i64 Gu),.sc (.int .i64 Il),.sc (.bool Kr),.sc (.int .i64 Nc),.sc (.int .u64 J5),.sc (.int .i64 Oo),.lst false 1 Rb Q5,.lst false 1 Ql Ru]) fun Pr=>Aa (wrap .i64 (y7+1)) fun Te=>Fh fu call a0_0 a0_1 a0_2n a0_2 a0_3n a0_3 a0_4n a0_4 a0_5 a0_6n a0_6 a0_7 a1_0 a1_1 a1_2 a1_3 a1_4 a1_5n a1_5 a1_6 a1_7 a2 a3n a3 a4n a4 a5 (nn) (y0) (y1) (y2) (y3) (y4) (y5) Rk Te (y8) (y9) (y10) (Ej) (E5) (Ic) (J1) (I1) (I2) (Jk) (Ov) (P4) (Ty) (Oa) (Tq) (DA) (NR) (OB) (OL) (TF) (OH) (OO) (OI) (OD) Pr)) (Ay (decide (0<(↑y6:Int)))<|Bx (List.getD GN 7 .top) fun Uv=>A4 Uv (some (A0.mk [.agg [.sc (.int .i64 0),.sc (.int .i64 0),.sc (.int .i64 0)],.sc (.int .i64 38)] [])) (Ay (decide (0<(↑y6:Int)))<|Af .u64 (List.getD GN 9 .top) fun S7=>A4 (S7==0) (some (A0.mk [.agg [.sc (.int .i64 0),.sc (.int .i64 0),.sc (.int .i64 0)],.sc (.int .i64 38)] [])) (Ay (decide (0<(↑y6:Int)))<|Af .u64 (List.getD GN 9 .top) fun Rz=>A4 (Rz != NR) (some (A0.mk [.agg [.sc (.int .i64 0),.sc (.int .i64 0),.sc (.int .i64 0)],.sc (.int .i64 38)] [])) (Aj (call 32 [.lst false 1 E5 Ic]) fun Ro Q7=>Ac Q7<|Ab Ro fun Vv Tn=>C2 Vv fun S5=>Ab S5 fun Tj Uz=>Af .i64 Tj fun Tm=>Ab Uz fun S8 Rr=>Dc 1 S8 fun Vg T0=>Ab Rr fun Vl W8=>Dc 1 Vl fun Wv Yq=>Ac W8<|Ab Tn fun Wu X5=>Af .i64 Wu fun Xq=>Ac X5<|A4 (Xq != 0) (some (A0.mk [.agg [.sc (.int .i64 0),.sc (.int .i64 0),.sc (.int .i64 0)],.sc (.int .i64 Xq)] [])) (Ay (decide (0<(↑y6:Int)))<|Af .i64 (List.getD GN 3 .top) fun Y5=>Af .u64 (List.getD GN 4 .top) fun Z3=>Ay (decide (0+Vg*1<=T0.length))<|Ay (decide (0+Wv*1<=Yq.length))<|Aj (call 19 [.agg [.sc (.int .i64 Y5),.sc (.int .u64 Z3)],.sc (.int .u64 y0),.agg [.sc (.int .i64 Tm),.lst false 1 Vg (List.take (Vg*1) (List.drop 0 T0)),.lst false 1 Wv (List.take (Wv*1) (List.drop 0 Yq))]]) fun AL Re=>Ac Re<|Ab AL fun S6 Uc=>Af .i64 S6 fun GO=>Ac Uc<|A4 (GO != 0) (some (A0.mk [.agg [.sc (.int .i64 0),.sc (.int .i64 0),.sc (.int .i64 0)],.sc (.int .i64 GO)] [])) (Ay (decide (0+y6*13<=GN.length))<|Aj (call 60 [.lst false 13 y6 (List.take (y6*13) (List.drop 0 GN)),.lst false 3 y1 y2,.lst false 3 y3 y4,.sc (.int .i64 y5)]) fun DV FL=>Ac FL<|Ab DV fun JV MP=>Af .i64 JV fun OZ=>Ab MP fun NC OC=>Af .i64 NC fun NL=>Ac OC<|A4 (NL != 0) (some (A0.mk [.agg [.sc (.int .i64 0),.sc (.int .i64 0),.sc (.int .i64 0)],.sc (.int .i64 NL)] [])) (some (A0.mk [.agg [.sc (.int .i64 2),.sc (.int .i64 OZ),.sc (.int .i64 (-1))],.sc (.int .i64 0)] []))))))))):=by kernel_rfl
theorem Z0 (fu d:Nat)(a0_0:Int)(a0_1:ByteArray)(a0_2n:Nat)(a0_2:List PV)(a0_3n:Nat)(a0_3:List PV)(a0_4n:Nat)(a0_4:List PV)(a0_5:Int)(a0_6n:Nat)(a0_6:List PV)(a0_7:ByteArray)(a1_0 a1_1:Int)(a1_2 a1_3 a1_4:Int)(a1_5n:Nat)(a1_5:List PV)(a1_6 a1_7 a2:Int)(a3n:Nat)(a3:List PV)(a4n:Nat)(a4:List PV)(a5:Int):Ae C0 Tryz.prog fu (d+1) O3 [.agg [.sc (.int .i64 a0_0),.sc (.string a0_1),.lst false 1 a0_2n a0_2,.lst false 1 a0_3n a0_3,.lst false 1 a0_4n a0_4,.sc (.int .i64 a0_5),.lst false 1 a0_6n a0_6,.sc (.string a0_7)],.agg [.sc (.int .u64 a1_0),.sc (.int .i64 a1_1),.sc (.int .i64 a1_2),.sc (.int .i64 a1_3),.sc (.int .u64 a1_4),.lst false 1 a1_5n a1_5,.sc (.int .i64 a1_6),.sc (.int .u64 a1_7)],.sc (.int .u64 a2),.lst false 3 a3n a3,.lst false 3 a4n a4,.sc (.int .i64 a5)]=(fun (call:Ar)=>Aj (call 59 [.sc (.int .i64 (↑a0_4n:Int)),.sc (.int .i64 1),.sc (.int .i64 3)]) fun x1 x2=>Ac x2<|Ab x1 fun x3 x4=>Bx x3 fun x5=>Ac x4<|A4 (!x5) (some (A0.mk [.agg [.sc (.int .i64 0),.sc (.int .i64 0),.sc (.int .i64 0)],.sc (.int .i64 38)] [])) (Fh fu call a0_0 a0_1 a0_2n a0_2 a0_3n a0_3 a0_4n a0_4 a0_5 a0_6n a0_6 a0_7 a1_0 a1_1 a1_2 a1_3 a1_4 a1_5n a1_5 a1_6 a1_7 a2 a3n a3 a4n a4 a5 (fu) (a2) (a3n) (a3) (a4n) (a4) (a5) 0 0 (a0_0) (a0_1) (a0_2n) (a0_2) (a0_3n) (a0_3) (a0_4n) (a0_4) (a0_5) (a0_6n) (a0_6) (a0_7) (a1_0) (a1_1) (a1_2) (a1_3) (a1_4) (a1_5n) (a1_5) (a1_6) (a1_7) 0 0 0 ([]))) (Ae C0 Tryz.prog fu d):=by kernel_rfl
abbrev Nl:FuncId:=15
theorem Y3 (fu d:Nat)(a0_0:Int)(a0_1:ByteArray)(a0_2n:Nat)(a0_2:List PV)(a0_3n:Nat)(a0_3:List PV)(a0_4n:Nat)(a0_4:List PV)(a0_5:Int)(a0_6n:Nat)(a0_6:List PV)(a0_7:ByteArray)(a1_0 a1_1:Int)(a1_2 a1_3 a1_4:Int)(a1_5n:Nat)(a1_5:List PV)(a1_6 a1_7 a2:Int)(a3n:Nat)(a3:List PV)(a4n:Nat)(a4:List PV)(a5:Int):Ae C0 Tryz.prog fu (d+1) Nl [.agg [.sc (.int .i64 a0_0),.sc (.string a0_1),.lst false 1 a0_2n a0_2,.lst false 1 a0_3n a0_3,.lst false 1 a0_4n a0_4,.sc (.int .i64 a0_5),.lst false 1 a0_6n a0_6,.sc (.string a0_7)],.agg [.sc (.int .u64 a1_0),.sc (.int .i64 a1_1),.sc (.int .i64 a1_2),.sc (.int .i64 a1_3),.sc (.int .u64 a1_4),.lst false 1 a1_5n a1_5,.sc (.int .i64 a1_6),.sc (.int .u64 a1_7)],.sc (.int .u64 a2),.lst false 3 a3n a3,.lst false 3 a4n a4,.sc (.int .i64 a5)]=(fun (call:Ar)=>Aa (Ed .i64 a1_1 64) fun x1=>A4 (x1==0) (some (A0.mk [.agg [.sc (.int .i64 0),.sc (.int .i64 0),.sc (.int .i64 0)],.sc (.int .i64 4)] [])) (A4 (a0_5==0) (A4 (decide ((↑a0_3n:Int)>0)) (some (A0.mk [.agg [.sc (.int .i64 0),.sc (.int .i64 0),.sc (.int .i64 0)],.sc (.int .i64 4)] [])) (A4 (decide ((↑a0_4n:Int)>0)) (some (A0.mk [.agg [.sc (.int .i64 0),.sc (.int .i64 0),.sc (.int .i64 0)],.sc (.int .i64 4)] [])) (some (A0.mk [.agg [.sc (.int .i64 0),.sc (.int .i64 (-1)),.sc (.int .i64 (-1))],.sc (.int .i64 0)] [])))) (A4 (a0_5==1) (A4 (decide ((↑a0_4n:Int)>0)) (some (A0.mk [.agg [.sc (.int .i64 0),.sc (.int .i64 0),.sc (.int .i64 0)],.sc (.int .i64 4)] [])) (Aj (call 32 [.lst false 1 a0_3n a0_3]) fun x2 x3=>Ac x3<|Ab x2 fun x4 x5=>C2 x4 fun x6=>Ab x6 fun x7 x8=>Af .i64 x7 fun x9=>Ab x8 fun Ck Bn=>Dc 1 Ck fun Cw Da=>Ab Bn fun Cq Cy=>Dc 1 Cq fun Db Dq=>Ac Cy<|Ab x5 fun D2 D0=>Af .i64 D2 fun D9=>Ac D0<|A4 (D9 != 0) (some (A0.mk [.agg [.sc (.int .i64 0),.sc (.int .i64 0),.sc (.int .i64 0)],.sc (.int .i64 D9)] [])) (Ay (decide (0+Cw*1<=Da.length))<|Ay (decide (0+Db*1<=Dq.length))<|Aj (call 19 [.agg [.sc (.int .i64 a1_6),.sc (.int .u64 a1_7)],.sc (.int .u64 a2),.agg [.sc (.int .i64 x9),.lst false 1 Cw (List.take (Cw*1) (List.drop 0 Da)),.lst false 1 Db (List.take (Db*1) (List.drop 0 Dq))]]) fun Fj Cn=>Ac Cn<|Ab Fj fun Fn Dj=>Af .i64 Fn fun B3=>Ac Dj<|A4 (B3 != 0) (some (A0.mk [.agg [.sc (.int .i64 0),.sc (.int .i64 0),.sc (.int .i64 0)],.sc (.int .i64 B3)] [])) (some (A0.mk [.agg [.sc (.int .i64 1),.sc (.int .i64 (-1)),.sc (.int .i64 x9)],.sc (.int .i64 0)] []))))) (A4 (a0_5==2) (Aj (call 33 [.agg [.sc (.int .i64 a0_0),.sc (.string a0_1),.lst false 1 a0_2n a0_2,.lst false 1 a0_3n a0_3,.lst false 1 a0_4n a0_4,.sc (.int .i64 a0_5),.lst false 1 a0_6n a0_6,.sc (.string a0_7)],.agg [.sc (.int .u64 a1_0),.sc (.int .i64 a1_1),.sc (.int .i64 a1_2),.sc (.int .i64 a1_3),.sc (.int .u64 a1_4),.lst false 1 a1_5n a1_5,.sc (.int .i64 a1_6),.sc (.int .u64 a1_7)],.sc (.int .u64 a2),.lst false 3 a3n a3,.lst false 3 a4n a4,.sc (.int .i64 a5)]) fun Et F1=>Ac F1<|Ab Et fun Bm Cj=>C2 Bm fun Gt=>Ab Gt fun Gu Hz=>Af .i64 Gu fun Ha=>Ab Hz fun Il G4=>Af .i64 Il fun Ir=>Ab G4 fun Kr F0=>Af .i64 Kr fun H2=>Ac F0<|Ab Cj fun Nc Ot=>Af .i64 Nc fun Kc=>Ac Ot<|some (A0.mk [.agg [.sc (.int .i64 Ha),.sc (.int .i64 Ir),.sc (.int .i64 H2)],.sc (.int .i64 Kc)] [])) (some (A0.mk [.agg [.sc (.int .i64 0),.sc (.int .i64 0),.sc (.int .i64 0)],.sc (.int .i64 3)] [])))))) (Ae C0 Tryz.prog fu d):=by kernel_rfl
abbrev Qn:FuncId:=12
theorem DD (fu d:Nat)(a0_0:Int)(a0_1:ByteArray)(a0_2n:Nat)(a0_2:List PV)(a0_3n:Nat)(a0_3:List PV)(a0_4n:Nat)(a0_4:List PV)(a0_5:Int)(a0_6n:Nat)(a0_6:List PV)(a0_7:ByteArray)(a1_0 a1_1:Int)(a1_2 a1_3 a1_4:Int)(a1_5n:Nat)(a1_5:List PV)(a1_6 a1_7 a2:Int)(a3n:Nat)(a3:List PV)(a4:Int):Ae C0 Tryz.prog fu (d+1) Qn [.agg [.sc (.int .i64 a0_0),.sc (.string a0_1),.lst false 1 a0_2n a0_2,.lst false 1 a0_3n a0_3,.lst false 1 a0_4n a0_4,.sc (.int .i64 a0_5),.lst false 1 a0_6n a0_6,.sc (.string a0_7)],.agg [.sc (.int .u64 a1_0),.sc (.int .i64 a1_1),.sc (.int .i64 a1_2),.sc (.int .i64 a1_3),.sc (.int .u64 a1_4),.lst false 1 a1_5n a1_5,.sc (.int .i64 a1_6),.sc (.int .u64 a1_7)],.sc (.int .u64 a2),.lst false 3 a3n a3,.sc (.int .i64 a4)]=(fun (call:Ar)=>Aj (call 20 []) fun x1 x2=>Ac x2<|Ab x1 fun x3 x4=>Dc 3 x3 fun x5 x6=>Ac x4<|Ay (decide (0+x5*3<=x6.length))<|Aj (call 14 [.agg [.sc (.int .i64 a0_0),.sc (.string a0_1),.lst false 1 a0_2n a0_2,.lst false 1 a0_3n a0_3,.lst false 1 a0_4n a0_4,.sc (.int .i64 a0_5),.lst false 1 a0_6n a0_6,.sc (.string a0_7)],.agg [.sc (.int .u64 a1_0),.sc (.int .i64 a1_1),.sc (.int .i64 a1_2),.sc (.int .i64 a1_3),.sc (.int .u64 a1_4),.lst false 1 a1_5n a1_5,.sc (.int .i64 a1_6),.sc (.int .u64 a1_7)],.sc (.int .u64 a2),.lst false 3 x5 (List.take (x5*3) (List.drop 0 x6)),.lst false 3 a3n a3,.sc (.int .i64 a4)]) fun x7 x8=>Ac x8<|Ab x7 fun x9 Ck=>C2 x9 fun Bn=>Ab Bn fun Cw Da=>Af .i64 Cw fun Cq=>Ab Da fun Cy Db=>Af .i64 Cy fun Dq=>Ab Db fun D2 D0=>Af .i64 D2 fun D9=>Ac D0<|Ab Ck fun Fj Cn=>Af .i64 Fj fun Fn=>Ac Cn<|Aj (call 20 []) fun Dj B3=>Ac B3<|Ab Dj fun Et F1=>Dc 3 Et fun Bm Cj=>Ac F1<|Ay (decide (0+Bm*3<=Cj.length))<|Aj (call 15 [.agg [.sc (.int .i64 a0_0),.sc (.string a0_1),.lst false 1 a0_2n a0_2,.lst false 1 a0_3n a0_3,.lst false 1 a0_4n a0_4,.sc (.int .i64 a0_5),.lst false 1 a0_6n a0_6,.sc (.string a0_7)],.agg [.sc (.int .u64 a1_0),.sc (.int .i64 a1_1),.sc (.int .i64 a1_2),.sc (.int .i64 a1_3),.sc (.int .u64 a1_4),.lst false 1 a1_5n a1_5,.sc (.int .i64 a1_6),.sc (.int .u64 a1_7)],.sc (.int .u64 a2),.lst false 3 Bm (List.take (Bm*3) (List.drop 0 Cj)),.lst false 3 a3n a3,.sc (.int .i64 a4)]) fun Gt Gu=>Ac Gu<|Ab Gt fun Hz Ha=>C2 Hz fun Il=>Ab Il fun G4 Ir=>Af .i64 G4 fun Kr=>Ab Ir fun F0 H2=>Af .i64 F0 fun Nc=>Ab H2 fun Ot Kc=>Af .i64 Ot fun J5=>Ac Kc<|Ab Ha fun Nk Md=>Af .i64 Nk fun Oo=>Ac Md<|A4 (Cq==Kr&&(Dq==Nc&&(D9==J5&&true))) (some (A0.mk [.sc (.bool (Fn==Oo))] [])) (some (A0.mk [.sc (.bool false)] []))) (Ae C0 Tryz.prog fu d):=by kernel_rfl
abbrev Mr:FuncId:=20
theorem Xm (fu d:Nat):Ae C0 Tryz.prog fu (d+1) Mr []=(fun (call:Ar)=>Aj (call 16 [.sc (.int .u64 9),.sc (.int .i64 1)]) fun x1 x2=>Ac x2<|Ab x1 fun x3 x4=>C2 x3 fun x5=>Ab x5 fun x6 x7=>Af .i64 x6 fun x8=>Ab x7 fun x9 Ck=>Af .u64 x9 fun Bn=>Ac Ck<|Ac x4<|Aj (call 16 [.sc (.int .u64 32),.sc (.int .i64 1)]) fun Cw Da=>Ac Da<|Ab Cw fun Cq Cy=>C2 Cq fun Db=>Ab Db fun Dq D2=>Af .i64 Dq fun D0=>Ab D2 fun D9 Fj=>Af .u64 D9 fun Cn=>Ac Fj<|Ac Cy<|some (A0.mk [.own 3 2 [.sc (.string (ByteArray.mk #[114,111,111,116])),.sc (.int .i64 x8),.sc (.int .u64 Bn),.sc (.string (ByteArray.mk #[114,111,111,116])),.sc (.int .i64 D0),.sc (.int .u64 Cn)]] [])) (Ae C0 Tryz.prog fu d):=by kernel_rfl
end
section
open Go.IntKind (wrap)
structure Rp where
 kind:Int
 cd:ByteArray
 ad:List Int
 sg:List Int
 certs:List (List Int)
 fmt:Int
 id_:List Int
 user:ByteArray
structure Ad where
 rp:Int
 flags:Int
 cnt:Int
 rng:Int
 model:Int
 id_:List Int
 key:Ky
abbrev Tb (l:List Int):PV:=.lst false 1 l.length (Ai .u8 l)
def An7 (l:List Int):List PV:=[Tb l]
theorem VB (l:List Int):(An7 l).length=1:=rfl
def Jl (l:List (List Int)):List PV:=l.flatMap An7
theorem atb {l:List (List Int)} {i:Nat}{b:List Int}(h:l[i]?=some b):(Jl l).getD (i*1) .top=Tb b:=Ex VB h (j:=0) (by omega)
def Rp.cells (r:Rp):List PV:=[.sc (.int .i64 r.kind),.sc (.string r.cd),Tb r.ad,Tb r.sg,.lst false 1 r.certs.length (Jl r.certs),.sc (.int .i64 r.fmt),Tb r.id_,.sc (.string r.user)]
def Ad.cells (a:Ad):List PV:=[.sc (.int .u64 a.rp),.sc (.int .i64 a.flags),.sc (.int .i64 a.cnt),.sc (.int .i64 a.rng),.sc (.int .u64 a.model),Tb a.id_,.sc (.int .i64 a.key.h),.sc (.int .u64 a.key.root)]
structure Av where
 f:Int
 anchor:Int
 leaf:Int
 e:Int
def Av.vals (v:Av):List PV:=[.agg [.sc (.int .i64 v.f),.sc (.int .i64 v.anchor),.sc (.int .i64 v.leaf)],.sc (.int .i64 v.e)]
abbrev MZ (e:Int):Av:=⟨0,0,0,e⟩
def Aca (r:Rp)(a:Ad)(w:Int):Av:=
 if r.certs.length>0 then MZ 4 else match OG r.sg with
 |none=>MZ 2
 |some s=>if Jp a.key w s≠0 then MZ (Jp a.key w s) else ⟨1,-1,s.leaf,0⟩
def Cb:List (List Int)->List Ce × Int
 |[]=>([],0)
 |b::r=>if (J8 b).2≠0 then ([],(J8 b).2) else if (Cb r).2≠0 then ([],(Cb r).2) else ((J8 b).1::(Cb r).1,0)
def Qq (sg:List Int)(model w:Int)(ans:List An)(vs:List Rv)(now:Int):List Ce->Av
 |[]=>MZ 0
 |c::cs=>if c.auth=true then MZ 38 else if c.model=0 then MZ 38 else if c.model≠model then MZ 38 else match OG sg with
  |none=>MZ 2
  |some s=>if Jp c.key w s≠0 then MZ (Jp c.key w s) else if (O5 (c::cs) ans vs now).2≠0 then MZ (O5 (c::cs) ans vs now).2 else ⟨2,(O5 (c::cs) ans vs now).1,-1,0⟩
def KZ (r:Rp)(a:Ad)(w:Int)(ans:List An)(vs:List Rv)(now:Int):Av:=
 if r.certs.length<1 then MZ 38 else if r.certs.length>3 then MZ 38 else if (Cb r.certs).2≠0 then MZ (Cb r.certs).2 else Qq r.sg a.model w ans vs now (Cb r.certs).1
def LR (r:Rp)(a:Ad)(w:Int)(ans:List An)(vs:List Rv)(now:Int):Av:=
 if Ed .i64 a.flags 64=0 then MZ 4 else if r.fmt=0 then (if r.sg.length>0 then MZ 4 else if r.certs.length>0 then MZ 4 else ⟨0,-1,-1,0⟩) else if r.fmt=1 then Aca r a w else if r.fmt=2 then KZ r a w ans vs now else MZ 3
theorem Afb {c:Ce}(h:Bf c=0):c.subj.size<=32∧c.iss.size<=32:=by
 unfold Bf at h;split at h
 ·cases h
 ·split at h
  ·cases h
  ·omega
theorem Afy {b:List Int}(hb:G9 b)(h:(J8 b).2=0):(J8 b).1.in_:=by
 obtain ⟨h1,h2⟩:=Aox hb;obtain ⟨e1,e2⟩:=h2 h;obtain ⟨n1,n2⟩:=Afb (Mi e1).1;exact ⟨h1.wf,by omega,by omega⟩
theorem VR (a b:List Ce):Cc (a++b)=Cc a++Cc b:=by
 unfold Cc;rw [List.flatMap_append]
structure Rp.ok (r:Rp):Prop where
 sg:G9 r.sg
 sgl:r.sg.length<=1000000
 certs:∀b∈r.certs,G9 b∧b.length<=1000000
section
variable {fu d:Nat}
theorem Apf (hfu:1000<=fu){r:Rp}(hr:r.ok)(a:Ad)(w:Int):Ae C0 Tryz.prog fu (d+9) Kl [.agg r.cells,.agg a.cells,.sc (.int .u64 w)]=some ⟨(Aca r a w).vals,[]⟩:=by
 refine (Vf fu (d+8) r.kind r.cd r.ad.length (Ai .u8 r.ad) r.sg.length (Ai .u8 r.sg) r.certs.length (Jl r.certs) r.fmt r.id_.length (Ai .u8 r.id_) r.user a.rp a.flags a.cnt a.rng a.model a.id_.length (Ai .u8 a.id_) a.key.h a.key.root w).trans ?_;have ds:=LU (fu:=fu) (d:=d+6) hfu hr.sg;unfold Aca;by_cases h1:r.certs.length>0
 ·rw [Bl h1]
  try unfold Aa
  repeat first
   |((with_reducible first|apply Ap|apply Ag|apply Am|apply As|apply Ax|apply Az|apply Bh|apply A6|apply Ah);· first|with_reducible rfl|(simp (disch:=omega) only [Bj]<;>with_reducible rfl))
   |((with_reducible first|apply Ak|apply Al);· first|with_reducible rfl|omega|(simp (disch:=omega) only [gT,Bj]<;>omega))
   |(with_reducible apply Ao;· first|with_reducible rfl|(simp (disch:=omega) only [gF,Bj]<;>omega))
  try simp (disch:=omega) only [Bj]
  all_goals rfl
 rw [A3 h1];cases hs:OG r.sg with
 |none=>
  rw [hs] at ds;simp only [Si,Sg.owned] at ds;have e20:((2:Int) != 0)=true:=rfl
  try unfold Aa
  repeat first
   |((with_reducible first|apply Ap|apply Ag|apply Am|apply As|apply Ax|apply Az|apply Bh|apply A6|apply Ah);· first|with_reducible rfl|(simp (disch:=omega) only [ds,e20]<;>with_reducible rfl))
   |((with_reducible first|apply Ak|apply Al);· first|with_reducible rfl|omega|(simp (disch:=omega) only [gT,ds,e20]<;>omega))
   |(with_reducible apply Ao;· first|with_reducible rfl|(simp (disch:=omega) only [gF,ds,e20]<;>omega))
  try simp (disch:=omega) only [ds,e20]
  all_goals rfl
 |some s=>
  rw [hs] at ds;simp only [Si,Sg.owned] at ds;have e00:((0:Int) != 0)=false:=rfl;have vr:=LF (fu:=fu) (d:=d) hfu a.key w s;simp only [Ky.cells,Sg.cells] at vr;have Lc:=Aq .u64 s.chains;have Lp:=Aq .u64 s.path;have tc:=Gd .u64 s.chains;have tp:=Gd .u64 s.path;simp only;by_cases hv:Jp a.key w s=0
  ·have v0:(Jp a.key w s != 0)=false:=by simp [hv]
   rw [A3 (by simp [hv])]
   try unfold Aa
   repeat first
    |((with_reducible first|apply Ap|apply Ag|apply Am|apply As|apply Ax|apply Az|apply Bh|apply A6|apply Ah);· first|with_reducible rfl|(simp (disch:=omega) only [ds,e00,B8,Bv,Bj,Lc,Lp,tc,tp,vr,v0]<;>with_reducible rfl))
    |((with_reducible first|apply Ak|apply Al);· first|with_reducible rfl|omega|(simp (disch:=omega) only [gT,ds,e00,B8,Bv,Bj,Lc,Lp,tc,tp,vr,v0]<;>omega))
    |(with_reducible apply Ao;· first|with_reducible rfl|(simp (disch:=omega) only [gF,ds,e00,B8,Bv,Bj,Lc,Lp,tc,tp,vr,v0]<;>omega))
   try simp (disch:=omega) only [ds,e00,B8,Bv,Bj,Lc,Lp,tc,tp,vr,v0]
   all_goals rfl
  ·have v0:(Jp a.key w s != 0)=true:=by simp [hv]
   rw [Bl hv]
   try unfold Aa
   repeat first
    |((with_reducible first|apply Ap|apply Ag|apply Am|apply As|apply Ax|apply Az|apply Bh|apply A6|apply Ah);· first|with_reducible rfl|(simp (disch:=omega) only [ds,e00,B8,Bv,Bj,Lc,Lp,tc,tp,vr,v0]<;>with_reducible rfl))
    |((with_reducible first|apply Ak|apply Al);· first|with_reducible rfl|omega|(simp (disch:=omega) only [gT,ds,e00,B8,Bv,Bj,Lc,Lp,tc,tp,vr,v0]<;>omega))
    |(with_reducible apply Ao;· first|with_reducible rfl|(simp (disch:=omega) only [gF,ds,e00,B8,Bv,Bj,Lc,Lp,tc,tp,vr,v0]<;>omega))
   try simp (disch:=omega) only [ds,e00,B8,Bv,Bj,Lc,Lp,tc,tp,vr,v0]
   all_goals rfl
theorem Aiu (hfu:1000<=fu){a0_0:Int}{a0_1:ByteArray}{a0_2n:Nat}{a0_2:List PV}{a0_3n:Nat}{a0_3:List PV}{a0_4n:Nat}{a0_4:List PV}{a0_5:Int}{a0_6n:Nat}{a0_6:List PV}{a0_7:ByteArray}{a1_0 a1_1 a1_2 a1_3 a1_4:Int}{a1_5n:Nat}{a1_5:List PV}{a1_6 a1_7 a2:Int}{a3n:Nat}{a3:List PV}{a4n:Nat}{a4:List PV}{a5:Int}
  {r:Rp} (hr:r.ok) (a:Ad) (w:Int) {ans:List An} (hl:ans.length<=900) {vs:List Rv} (hv:vs.length<=900) (now:Int) {cs:List Ce} (hc:∀c∈cs,c.in_) (hne:cs≠[]) (hcl:cs.length<=1000) (nn:Nat):
  D6 fu (Ae C0 Tryz.prog fu (d+10)) a0_0 a0_1 a0_2n a0_2 a0_3n a0_3 a0_4n a0_4 a0_5 a0_6n a0_6 a0_7 a1_0 a1_1 a1_2 a1_3 a1_4 a1_5n a1_5 a1_6 a1_7 a2 a3n a3 a4n a4 a5 (nn+1) w ans.length (Ev ans) vs.length (Fb vs) now cs.length r.certs.length (Jl r.certs) (r.certs.length:Int) (r.certs.length:Int) r.kind r.cd r.ad.length (Ai .u8 r.ad) r.sg.length (Ai .u8 r.sg) r.certs.length (Jl r.certs) r.fmt r.id_.length (Ai .u8 r.id_) r.user a.rp a.flags a.cnt a.rng a.model a.id_.length (Ai .u8 a.id_) a.key.h a.key.root 0 0 0 (Cc cs) =
   some ⟨(Qq r.sg a.model w ans vs now cs).vals,[]⟩:=by
 obtain ⟨c,ct,rfl⟩:∃c ct,cs=c::ct:=by
  cases cs with
  |nil=>exact absurd rfl hne
  |cons c ct=>exact ⟨c,ct,rfl⟩
 have ds:=LU (fu:=fu) (d:=d+8) hfu hr.sg;have L:=BZ (c::ct);have t:List.take ((c::ct).length*13) (Cc (c::ct))=Cc (c::ct):=I0 (by omega)
 have pe:=Alo (fu:=fu) (d:=d) hfu hc hl hv now;have g0:(Cc (c::ct)).getD 0 .top=.sc (.string c.subj):=rfl;have g1:(Cc (c::ct)).getD 1 .top=.sc (.string c.iss):=rfl;have g2:(Cc (c::ct)).getD 2 .top=.sc (.int .u64 c.serial):=rfl;have g3:(Cc (c::ct)).getD 3 .top=.sc (.int .i64 c.key.h):=rfl;have g4:(Cc (c::ct)).getD 4 .top=.sc (.int .u64 c.key.root):=rfl;have g5:(Cc (c::ct)).getD 5 .top=.sc (.int .i64 c.fr):=rfl;have g6:(Cc (c::ct)).getD 6 .top=.sc (.int .i64 c.un):=rfl;have g7:(Cc (c::ct)).getD 7 .top=.sc (.bool c.auth):=rfl;have g8:(Cc (c::ct)).getD 8 .top=.sc (.int .i64 c.path):=rfl;have g9:(Cc (c::ct)).getD 9 .top=.sc (.int .u64 c.model):=rfl;have g10:(Cc (c::ct)).getD 10 .top=.sc (.int .i64 c.sig.leaf):=rfl;have g11:(Cc (c::ct)).getD 11 .top=.lst false 1 c.sig.chains.length (Ai .u64 c.sig.chains):=rfl
 have g12:(Cc (c::ct)).getD 12 .top=.lst false 1 c.sig.path.length (Ai .u64 c.sig.path):=rfl;have hp:(((c::ct).length:Nat):Int)>0:=by simp only [Ib];omega
 rw [Qq];generalize Cc (c::ct)=E at *
 generalize O5 (c::ct) ans vs now=pr at *
 generalize (c::ct).length=n at *
 rw [Id,Dt _ _ _ (by omega)]
 cases ha:c.auth
 rotate_left
 ·rw [Bl rfl];rw [ha] at g7
  try unfold Aa
  repeat first
   |((with_reducible first|apply Ap|apply Ag|apply Am|apply As|apply Ax|apply Az|apply Bh|apply A6|apply Ah);· first|with_reducible rfl|(simp (disch:=omega) only [g0,g1,g2,g3,g4,g5,g6,g7,g8,g9,g10,g11,g12]<;>with_reducible rfl))
   |((with_reducible first|apply Ak|apply Al);· first|with_reducible rfl|omega|(simp (disch:=omega) only [gT,g0,g1,g2,g3,g4,g5,g6,g7,g8,g9,g10,g11,g12]<;>omega))
   |(with_reducible apply Ao;· first|with_reducible rfl|(simp (disch:=omega) only [gF,g0,g1,g2,g3,g4,g5,g6,g7,g8,g9,g10,g11,g12]<;>omega))
  try simp (disch:=omega) only [g0,g1,g2,g3,g4,g5,g6,g7,g8,g9,g10,g11,g12]
  all_goals rfl
 rw [ha] at g7;rw [A3 (by simp)]
 by_cases hm:c.model=0
 ·have m0:(c.model==0)=true:=by simp [hm]
  rw [Bl hm]
  try unfold Aa
  repeat first
   |((with_reducible first|apply Ap|apply Ag|apply Am|apply As|apply Ax|apply Az|apply Bh|apply A6|apply Ah);· first|with_reducible rfl|(simp (disch:=omega) only [g0,g1,g2,g3,g4,g5,g6,g7,g8,g9,g10,g11,g12,m0]<;>with_reducible rfl))
   |((with_reducible first|apply Ak|apply Al);· first|with_reducible rfl|omega|(simp (disch:=omega) only [gT,g0,g1,g2,g3,g4,g5,g6,g7,g8,g9,g10,g11,g12,m0]<;>omega))
   |(with_reducible apply Ao;· first|with_reducible rfl|(simp (disch:=omega) only [gF,g0,g1,g2,g3,g4,g5,g6,g7,g8,g9,g10,g11,g12,m0]<;>omega))
  try simp (disch:=omega) only [g0,g1,g2,g3,g4,g5,g6,g7,g8,g9,g10,g11,g12,m0]
  all_goals rfl
 have m0:(c.model==0)=false:=by simp [hm]
 rw [A3 hm];by_cases hq:c.model=a.model
 rotate_left
 ·have m1:(c.model != a.model)=true:=by simp [hq]
  rw [Bl hq]
  try unfold Aa
  repeat first
   |((with_reducible first|apply Ap|apply Ag|apply Am|apply As|apply Ax|apply Az|apply Bh|apply A6|apply Ah);· first|with_reducible rfl|(simp (disch:=omega) only [g0,g1,g2,g3,g4,g5,g6,g7,g8,g9,g10,g11,g12,m0,m1]<;>with_reducible rfl))
   |((with_reducible first|apply Ak|apply Al);· first|with_reducible rfl|omega|(simp (disch:=omega) only [gT,g0,g1,g2,g3,g4,g5,g6,g7,g8,g9,g10,g11,g12,m0,m1]<;>omega))
   |(with_reducible apply Ao;· first|with_reducible rfl|(simp (disch:=omega) only [gF,g0,g1,g2,g3,g4,g5,g6,g7,g8,g9,g10,g11,g12,m0,m1]<;>omega))
  try simp (disch:=omega) only [g0,g1,g2,g3,g4,g5,g6,g7,g8,g9,g10,g11,g12,m0,m1]
  all_goals rfl
 have m1:(c.model != a.model)=false:=by simp [hq]
 rw [A3 (by simp [hq])]
 cases hs:OG r.sg with
 |none=>
  rw [hs] at ds;simp only [Si,Sg.owned] at ds;have e20:((2:Int) != 0)=true:=rfl
  try unfold Aa
  repeat first
   |((with_reducible first|apply Ap|apply Ag|apply Am|apply As|apply Ax|apply Az|apply Bh|apply A6|apply Ah);· first|with_reducible rfl|(simp (disch:=omega) only [g0,g1,g2,g3,g4,g5,g6,g7,g8,g9,g10,g11,g12,m0,m1,ds,e20]<;>with_reducible rfl))
   |((with_reducible first|apply Ak|apply Al);· first|with_reducible rfl|omega|(simp (disch:=omega) only [gT,g0,g1,g2,g3,g4,g5,g6,g7,g8,g9,g10,g11,g12,m0,m1,ds,e20]<;>omega))
   |(with_reducible apply Ao;· first|with_reducible rfl|(simp (disch:=omega) only [gF,g0,g1,g2,g3,g4,g5,g6,g7,g8,g9,g10,g11,g12,m0,m1,ds,e20]<;>omega))
  try simp (disch:=omega) only [g0,g1,g2,g3,g4,g5,g6,g7,g8,g9,g10,g11,g12,m0,m1,ds,e20]
  all_goals rfl
 |some s=>
  rw [hs] at ds;simp only [Si,Sg.owned] at ds;have e00:((0:Int) != 0)=false:=rfl;have vr:=LF (fu:=fu) (d:=d+2) hfu c.key w s;simp only [Ky.cells,Sg.cells] at vr;have Lc:=Aq .u64 s.chains;have Lp:=Aq .u64 s.path;have tc:=Gd .u64 s.chains;have tp:=Gd .u64 s.path;simp only;by_cases hvv:Jp c.key w s=0
  rotate_left
  ·have v0:(Jp c.key w s != 0)=true:=by simp [hvv]
   rw [Bl hvv]
   try unfold Aa
   repeat first
    |((with_reducible first|apply Ap|apply Ag|apply Am|apply As|apply Ax|apply Az|apply Bh|apply A6|apply Ah);· first|with_reducible rfl|(simp (disch:=omega) only [g0,g1,g2,g3,g4,g5,g6,g7,g8,g9,g10,g11,g12,m0,m1,ds,e00,B8,Bv,Bj,Lc,Lp,tc,tp,vr,v0]<;>with_reducible rfl))
    |((with_reducible first|apply Ak|apply Al);· first|with_reducible rfl|omega|(simp (disch:=omega) only [gT,g0,g1,g2,g3,g4,g5,g6,g7,g8,g9,g10,g11,g12,m0,m1,ds,e00,B8,Bv,Bj,Lc,Lp,tc,tp,vr,v0]<;>omega))
    |(with_reducible apply Ao;· first|with_reducible rfl|(simp (disch:=omega) only [gF,g0,g1,g2,g3,g4,g5,g6,g7,g8,g9,g10,g11,g12,m0,m1,ds,e00,B8,Bv,Bj,Lc,Lp,tc,tp,vr,v0]<;>omega))
   try simp (disch:=omega) only [g0,g1,g2,g3,g4,g5,g6,g7,g8,g9,g10,g11,g12,m0,m1,ds,e00,B8,Bv,Bj,Lc,Lp,tc,tp,vr,v0]
   all_goals rfl
  have v0:(Jp c.key w s != 0)=false:=by simp [hvv]
  rw [A3 (by simp [hvv])]
  by_cases hpp:pr.2=0
  ·have p0:(pr.2 != 0)=false:=by simp [hpp]
   rw [A3 (by simp [hpp])]
   try unfold Aa
   repeat first
    |((with_reducible first|apply Ap|apply Ag|apply Am|apply As|apply Ax|apply Az|apply Bh|apply A6|apply Ah);· first|with_reducible rfl|(simp (disch:=omega) only [g0,g1,g2,g3,g4,g5,g6,g7,g8,g9,g10,g11,g12,m0,m1,ds,e00,B8,Bv,Bj,Lc,Lp,tc,tp,vr,v0,L,t,pe,p0]<;>with_reducible rfl))
    |((with_reducible first|apply Ak|apply Al);· first|with_reducible rfl|omega|(simp (disch:=omega) only [gT,g0,g1,g2,g3,g4,g5,g6,g7,g8,g9,g10,g11,g12,m0,m1,ds,e00,B8,Bv,Bj,Lc,Lp,tc,tp,vr,v0,L,t,pe,p0]<;>omega))
    |(with_reducible apply Ao;· first|with_reducible rfl|(simp (disch:=omega) only [gF,g0,g1,g2,g3,g4,g5,g6,g7,g8,g9,g10,g11,g12,m0,m1,ds,e00,B8,Bv,Bj,Lc,Lp,tc,tp,vr,v0,L,t,pe,p0]<;>omega))
   try simp (disch:=omega) only [g0,g1,g2,g3,g4,g5,g6,g7,g8,g9,g10,g11,g12,m0,m1,ds,e00,B8,Bv,Bj,Lc,Lp,tc,tp,vr,v0,L,t,pe,p0]
   all_goals rfl
  ·have p0:(pr.2 != 0)=true:=by simp [hpp]
   rw [Bl hpp]
   try unfold Aa
   repeat first
    |((with_reducible first|apply Ap|apply Ag|apply Am|apply As|apply Ax|apply Az|apply Bh|apply A6|apply Ah);· first|with_reducible rfl|(simp (disch:=omega) only [g0,g1,g2,g3,g4,g5,g6,g7,g8,g9,g10,g11,g12,m0,m1,ds,e00,B8,Bv,Bj,Lc,Lp,tc,tp,vr,v0,L,t,pe,p0]<;>with_reducible rfl))
    |((with_reducible first|apply Ak|apply Al);· first|with_reducible rfl|omega|(simp (disch:=omega) only [gT,g0,g1,g2,g3,g4,g5,g6,g7,g8,g9,g10,g11,g12,m0,m1,ds,e00,B8,Bv,Bj,Lc,Lp,tc,tp,vr,v0,L,t,pe,p0]<;>omega))
    |(with_reducible apply Ao;· first|with_reducible rfl|(simp (disch:=omega) only [gF,g0,g1,g2,g3,g4,g5,g6,g7,g8,g9,g10,g11,g12,m0,m1,ds,e00,B8,Bv,Bj,Lc,Lp,tc,tp,vr,v0,L,t,pe,p0]<;>omega))
   try simp (disch:=omega) only [g0,g1,g2,g3,g4,g5,g6,g7,g8,g9,g10,g11,g12,m0,m1,ds,e00,B8,Bv,Bj,Lc,Lp,tc,tp,vr,v0,L,t,pe,p0]
   all_goals rfl
theorem PR (hfu:1000<=fu){a0_0:Int}{a0_1:ByteArray}{a0_2n:Nat}{a0_2:List PV}{a0_3n:Nat}{a0_3:List PV}{a0_4n:Nat}{a0_4:List PV}{a0_5:Int}{a0_6n:Nat}{a0_6:List PV}{a0_7:ByteArray}{a1_0 a1_1 a1_2 a1_3 a1_4:Int}{a1_5n:Nat}{a1_5:List PV}{a1_6 a1_7 a2:Int}{a3n:Nat}{a3:List PV}{a4n:Nat}{a4:List PV}{a5:Int}
  {r:Rp} (hr:r.ok) (h3:r.certs.length<=3) (a:Ad) (w:Int) {ans:List An} (hl:ans.length<=900) {vs:List Rv} (hv:vs.length<=900) (now:Int):∀(q:List (List Int)) (i nn:Nat) (cs:List Ce),r.certs.drop i=q->q.length<nn->i<=r.certs.length->(∀c∈cs,c.in_)->cs.length=i->(q=[]->cs≠[]) ->
  D6 fu (Ae C0 Tryz.prog fu (d+10)) a0_0 a0_1 a0_2n a0_2 a0_3n a0_3 a0_4n a0_4 a0_5 a0_6n a0_6 a0_7 a1_0 a1_1 a1_2 a1_3 a1_4 a1_5n a1_5 a1_6 a1_7 a2 a3n a3 a4n a4 a5 nn w ans.length (Ev ans) vs.length (Fb vs) now cs.length r.certs.length (Jl r.certs) (r.certs.length:Int) (i:Int) r.kind r.cd r.ad.length (Ai .u8 r.ad) r.sg.length (Ai .u8 r.sg) r.certs.length (Jl r.certs) r.fmt r.id_.length (Ai .u8 r.id_) r.user a.rp a.flags a.cnt a.rng a.model a.id_.length (Ai .u8 a.id_) a.key.h a.key.root 0 0 0 (Cc cs) =
   some ⟨(if (Cb q).2≠0 then MZ (Cb q).2 else Qq r.sg a.model w ans vs now (cs++(Cb q).1)).vals,[]⟩
 |_,_,0,_,_,h,_,_,_,_=>by omega
 |[],i,nn+1,cs,h,hn,hi,hc,hcl,hne=>by
  have:=drop_nil h;obtain rfl:i=r.certs.length:=by omega
  have e:(if (Cb []).2≠0 then MZ (Cb []).2 else Qq r.sg a.model w ans vs now (cs++(Cb []).1))=Qq r.sg a.model w ans vs now cs:=by
   rw [Cb,A3 (by simp)]
   simp
  rw [e];exact Aiu hfu hr a w hl hv now hc (hne rfl) (by omega) nn
 |b::q,i,nn+1,cs,h,hn,hi,hc,hcl,hne=>by
  obtain ⟨h1,h2,h3'⟩:=Cg h;simp only [Ib] at hn;obtain ⟨hb,hbl⟩:=hr.certs b (List.mem_of_getElem? h2);have de:=Apx (fu:=fu) (d:=d+1) hfu hb hbl;have din:=Afy hb;have nt:Int.toNat (i:Int)=i:=Hc _;have g0:=atb h2;have w1:wrap .i64 ((i:Int)+1)=((i+1:Nat):Int):=by rw [At (by omega) (by omega)];omega
  have L:=BZ cs;have t:List.take (cs.length*13) (Cc cs)=Cc cs:=I0 (by omega)
  have ed:Cb (b::q)=if (J8 b).2≠0 then ([],(J8 b).2) else if (Cb q).2≠0 then ([],(Cb q).2) else ((J8 b).1::(Cb q).1,0):=rfl
  rw [ed,Id];generalize J8 b=D at de din ⊢;obtain ⟨c,e⟩:=D;simp only at de din ⊢;by_cases he:e=0
  rotate_left
  ·have e0:(e != 0)=true:=by simp [he]
   rw [Bl he];simp only [ne_eq,he,not_false_eq_true,if_true];simp only [Ce.cells] at de
   try unfold Aa
   repeat first
    |((with_reducible first|apply Ap|apply Ag|apply Am|apply As|apply Ax|apply Az|apply Bh|apply A6|apply Ah);· first|with_reducible rfl|(simp (disch:=omega) only [nt,g0,de,e0]<;>with_reducible rfl))
    |((with_reducible first|apply Ak|apply Al);· first|with_reducible rfl|omega|(simp (disch:=omega) only [gT,nt,g0,de,e0]<;>omega))
    |(with_reducible apply Ao;· first|with_reducible rfl|(simp (disch:=omega) only [gF,nt,g0,de,e0]<;>omega))
   try simp (disch:=omega) only [nt,g0,de,e0]
   all_goals rfl
  subst he;have e00:((0:Int) != 0)=false:=rfl;have hci:=din rfl;have n00:¬((0:Int)≠0):=by simp
  rw [A3 n00]
  have ih:=PR hfu (a0_0:=a0_0) (a0_1:=a0_1) (a0_2n:=a0_2n) (a0_2:=a0_2) (a0_3n:=a0_3n) (a0_3:=a0_3) (a0_4n:=a0_4n) (a0_4:=a0_4) (a0_5:=a0_5) (a0_6n:=a0_6n) (a0_6:=a0_6) (a0_7:=a0_7) (a1_0:=a1_0) (a1_1:=a1_1) (a1_2:=a1_2) (a1_3:=a1_3) (a1_4:=a1_4) (a1_5n:=a1_5n) (a1_5:=a1_5) (a1_6:=a1_6) (a1_7:=a1_7) (a2:=a2) (a3n:=a3n) (a3:=a3) (a4n:=a4n) (a4:=a4) (a5:=a5) hr h3 a w hl hv now q (i+1) nn (cs++[c]) h3' (by omega) (by omega) (by
   intro x hx;rcases List.mem_append.1 hx with hx|hx
   ·exact hc x hx
   ·simp at hx;subst hx;exact hci) (by
   simp only [H1,Ib,Y4];omega) (by intro _;simp)
  have ee:(if (if (Cb q).2≠0 then (([]:List Ce),(Cb q).2) else (c::(Cb q).1,0)).2≠0 then MZ (if (Cb q).2≠0 then (([]:List Ce),(Cb q).2) else (c::(Cb q).1,0)).2 else Qq r.sg a.model w ans vs now (cs++(if (Cb q).2≠0 then (([]:List Ce),(Cb q).2) else (c::(Cb q).1,0)).1))=(if (Cb q).2≠0 then MZ (Cb q).2 else Qq r.sg a.model w ans vs now (cs++[c]++(Cb q).1)):=by
   by_cases hd:(Cb q).2=0
   ·have hd':¬((Cb q).2≠0):=by simp [hd]
    rw [A3 hd',A3 hd'];simp
   ·rw [Bl hd,Bl hd,Bl hd]
  rw [ee,←ih,VR,H1];have e1:Cc [c]=c.cells:=by simp [Cc]
  rw [e1];simp only [Ce.cells] at de ⊢;have lr:[c].length=1:=rfl;rw [lr]
  try unfold Aa
  repeat first
   |((with_reducible first|apply Ap|apply Ag|apply Am|apply As|apply Ax|apply Az|apply Bh|apply A6|apply Ah);· first|with_reducible rfl|(simp (disch:=omega) only [nt,g0,de,e00,w1,L,t]<;>with_reducible rfl))
   |((with_reducible first|apply Ak|apply Al);· first|with_reducible rfl|omega|(simp (disch:=omega) only [gT,nt,g0,de,e00,w1,L,t]<;>omega))
   |(with_reducible apply Ao;· first|with_reducible rfl|(simp (disch:=omega) only [gF,nt,g0,de,e00,w1,L,t]<;>omega))
  try simp (disch:=omega) only [nt,g0,de,e00,w1,L,t]
  all_goals rfl
theorem Aiv (hfu:1000<=fu){r:Rp}(hr:r.ok)(a:Ad)(w:Int){ans:List An}(hl:ans.length<=900){vs:List Rv}(hv:vs.length<=900)(now:Int):
  Ae C0 Tryz.prog fu (d+11) Ju [.agg r.cells,.agg a.cells,.sc (.int .u64 w),.lst false 3 ans.length (Ev ans),.lst false 3 vs.length (Fb vs),.sc (.int .i64 now)]=some ⟨(KZ r a w ans vs now).vals,[]⟩:=by
 refine (Tl fu (d+10) r.kind r.cd r.ad.length (Ai .u8 r.ad) r.sg.length (Ai .u8 r.sg) r.certs.length (Jl r.certs) r.fmt r.id_.length (Ai .u8 r.id_) r.user a.rp a.flags a.cnt a.rng a.model a.id_.length (Ai .u8 a.id_) a.key.h a.key.root w ans.length (Ev ans) vs.length (Fb vs) now).trans ?_;unfold KZ;by_cases h1:r.certs.length<1
 ·rw [Bl h1]
  try unfold Aa
  repeat first
   |((with_reducible first|apply Ap|apply Ag|apply Am|apply As|apply Ax|apply Az|apply Bh|apply A6|apply Ah);· first|with_reducible rfl|(simp (disch:=omega) only [Bj]<;>with_reducible rfl))
   |((with_reducible first|apply Ak|apply Al);· first|with_reducible rfl|omega|(simp (disch:=omega) only [gT,Bj]<;>omega))
   |(with_reducible apply Ao;· first|with_reducible rfl|(simp (disch:=omega) only [gF,Bj]<;>omega))
  try simp (disch:=omega) only [Bj]
  all_goals rfl
 rw [A3 h1];by_cases h2:r.certs.length>3
 ·rw [Bl h2]
  try unfold Aa
  repeat first
   |((with_reducible first|apply Ap|apply Ag|apply Am|apply As|apply Ax|apply Az|apply Bh|apply A6|apply Ah);· first|with_reducible rfl|(simp (disch:=omega) only [Bj]<;>with_reducible rfl))
   |((with_reducible first|apply Ak|apply Al);· first|with_reducible rfl|omega|(simp (disch:=omega) only [gT,Bj]<;>omega))
   |(with_reducible apply Ao;· first|with_reducible rfl|(simp (disch:=omega) only [gF,Bj]<;>omega))
  try simp (disch:=omega) only [Bj]
  all_goals rfl
 rw [A3 h2];have bl:=PR (fu:=fu) (d:=d) (a0_0:=r.kind) (a0_1:=r.cd) (a0_2n:=r.ad.length) (a0_2:=Ai .u8 r.ad) (a0_3n:=r.sg.length) (a0_3:=Ai .u8 r.sg) (a0_4n:=r.certs.length) (a0_4:=Jl r.certs) (a0_5:=r.fmt) (a0_6n:=r.id_.length) (a0_6:=Ai .u8 r.id_) (a0_7:=r.user) (a1_0:=a.rp) (a1_1:=a.flags) (a1_2:=a.cnt) (a1_3:=a.rng) (a1_4:=a.model) (a1_5n:=a.id_.length) (a1_5:=Ai .u8 a.id_) (a1_6:=a.key.h) (a1_7:=a.key.root) (a2:=w) (a3n:=ans.length) (a3:=Ev ans) (a4n:=vs.length) (a4:=Fb vs) (a5:=now) hfu hr (by omega) a w hl hv now r.certs 0 fu [] rfl (by omega) (by omega) (by simp) (by simp) (by intro h;rw [h] at h1;simp at h1)
 rw [Zzq] at bl;rw [←bl]
 try unfold Aa
 repeat first
  |((with_reducible first|apply Ap|apply Ag|apply Am|apply As|apply Ax|apply Az|apply Bh|apply A6|apply Ah);· first|with_reducible rfl|(simp (disch:=omega) only [Bj]<;>with_reducible rfl))
  |((with_reducible first|apply Ak|apply Al);· first|with_reducible rfl|omega|(simp (disch:=omega) only [gT,Bj]<;>omega))
  |(with_reducible apply Ao;· first|with_reducible rfl|(simp (disch:=omega) only [gF,Bj]<;>omega))
 try simp (disch:=omega) only [Bj]
 all_goals rfl
theorem Af5 (hfu:1000<=fu){r:Rp}(hr:r.ok)(a:Ad)(w:Int){ans:List An}(hl:ans.length<=900){vs:List Rv}(hv:vs.length<=900)(now:Int):
  Ae C0 Tryz.prog fu (d+12) O0 [.agg r.cells,.agg a.cells,.sc (.int .u64 w),.lst false 3 ans.length (Ev ans),.lst false 3 vs.length (Fb vs),.sc (.int .i64 now)]=some ⟨(LR r a w ans vs now).vals,[]⟩:=by
 refine (Zt fu (d+11) r.kind r.cd r.ad.length (Ai .u8 r.ad) r.sg.length (Ai .u8 r.sg) r.certs.length (Jl r.certs) r.fmt r.id_.length (Ai .u8 r.id_) r.user a.rp a.flags a.cnt a.rng a.model a.id_.length (Ai .u8 a.id_) a.key.h a.key.root w ans.length (Ev ans) vs.length (Fb vs) now).trans ?_;have sf:=Apf (fu:=fu) (d:=d+2) hfu hr a w;have bt:=Aiv (fu:=fu) (d:=d) hfu hr a w hl hv now;simp only [Rp.cells,Ad.cells,Av.vals] at sf bt;unfold LR;by_cases h0:Ed .i64 a.flags 64=0
 ·have f0:(Ed .i64 a.flags 64==0)=true:=by simp [h0]
  rw [Bl h0]
  try unfold Aa
  repeat first
   |((with_reducible first|apply Ap|apply Ag|apply Am|apply As|apply Ax|apply Az|apply Bh|apply A6|apply Ah);· first|with_reducible rfl|(simp (disch:=omega) only [f0]<;>with_reducible rfl))
   |((with_reducible first|apply Ak|apply Al);· first|with_reducible rfl|omega|(simp (disch:=omega) only [gT,f0]<;>omega))
   |(with_reducible apply Ao;· first|with_reducible rfl|(simp (disch:=omega) only [gF,f0]<;>omega))
  try simp (disch:=omega) only [f0]
  all_goals rfl
 have f0:(Ed .i64 a.flags 64==0)=false:=by simp only [beq_eq_false_iff_ne,ne_eq];exact h0
 rw [A3 h0];generalize Ed .i64 a.flags 64=fl at *
 by_cases h1:r.fmt=0
 ·have b1:(r.fmt==0)=true:=by simp [h1]
  rw [Bl h1];by_cases h2:r.sg.length>0
  ·rw [Bl h2]
   try unfold Aa
   repeat first
    |((with_reducible first|apply Ap|apply Ag|apply Am|apply As|apply Ax|apply Az|apply Bh|apply A6|apply Ah);· first|with_reducible rfl|(simp (disch:=omega) only [f0,b1]<;>with_reducible rfl))
    |((with_reducible first|apply Ak|apply Al);· first|with_reducible rfl|omega|(simp (disch:=omega) only [gT,f0,b1]<;>omega))
    |(with_reducible apply Ao;· first|with_reducible rfl|(simp (disch:=omega) only [gF,f0,b1]<;>omega))
   try simp (disch:=omega) only [f0,b1]
   all_goals rfl
  rw [A3 h2];by_cases h3:r.certs.length>0
  ·rw [Bl h3]
   try unfold Aa
   repeat first
    |((with_reducible first|apply Ap|apply Ag|apply Am|apply As|apply Ax|apply Az|apply Bh|apply A6|apply Ah);· first|with_reducible rfl|(simp (disch:=omega) only [f0,b1]<;>with_reducible rfl))
    |((with_reducible first|apply Ak|apply Al);· first|with_reducible rfl|omega|(simp (disch:=omega) only [gT,f0,b1]<;>omega))
    |(with_reducible apply Ao;· first|with_reducible rfl|(simp (disch:=omega) only [gF,f0,b1]<;>omega))
   try simp (disch:=omega) only [f0,b1]
   all_goals rfl
  rw [A3 h3]
  try unfold Aa
  repeat first
   |((with_reducible first|apply Ap|apply Ag|apply Am|apply As|apply Ax|apply Az|apply Bh|apply A6|apply Ah);· first|with_reducible rfl|(simp (disch:=omega) only [f0,b1]<;>with_reducible rfl))
   |((with_reducible first|apply Ak|apply Al);· first|with_reducible rfl|omega|(simp (disch:=omega) only [gT,f0,b1]<;>omega))
   |(with_reducible apply Ao;· first|with_reducible rfl|(simp (disch:=omega) only [gF,f0,b1]<;>omega))
  try simp (disch:=omega) only [f0,b1]
  all_goals rfl
 have b1:(r.fmt==0)=false:=by simp [h1]
 rw [A3 h1];by_cases h2:r.fmt=1
 ·have b2:(r.fmt==1)=true:=by simp [h2]
  rw [Bl h2]
  try unfold Aa
  repeat first
   |((with_reducible first|apply Ap|apply Ag|apply Am|apply As|apply Ax|apply Az|apply Bh|apply A6|apply Ah);· first|with_reducible rfl|(simp (disch:=omega) only [f0,b1,b2,sf]<;>with_reducible rfl))
   |((with_reducible first|apply Ak|apply Al);· first|with_reducible rfl|omega|(simp (disch:=omega) only [gT,f0,b1,b2,sf]<;>omega))
   |(with_reducible apply Ao;· first|with_reducible rfl|(simp (disch:=omega) only [gF,f0,b1,b2,sf]<;>omega))
  try simp (disch:=omega) only [f0,b1,b2,sf]
  all_goals rfl
 have b2:(r.fmt==1)=false:=by simp [h2]
 rw [A3 h2];by_cases h3:r.fmt=2
 ·have b3:(r.fmt==2)=true:=by simp [h3]
  rw [Bl h3]
  try unfold Aa
  repeat first
   |((with_reducible first|apply Ap|apply Ag|apply Am|apply As|apply Ax|apply Az|apply Bh|apply A6|apply Ah);· first|with_reducible rfl|(simp (disch:=omega) only [f0,b1,b2,b3,bt]<;>with_reducible rfl))
   |((with_reducible first|apply Ak|apply Al);· first|with_reducible rfl|omega|(simp (disch:=omega) only [gT,f0,b1,b2,b3,bt]<;>omega))
   |(with_reducible apply Ao;· first|with_reducible rfl|(simp (disch:=omega) only [gF,f0,b1,b2,b3,bt]<;>omega))
  try simp (disch:=omega) only [f0,b1,b2,b3,bt]
  all_goals rfl
 have b3:(r.fmt==2)=false:=by simp [h3]
 rw [A3 h3]
 try unfold Aa
 repeat first
  |((with_reducible first|apply Ap|apply Ag|apply Am|apply As|apply Ax|apply Az|apply Bh|apply A6|apply Ah);· first|with_reducible rfl|(simp (disch:=omega) only [f0,b1,b2,b3]<;>with_reducible rfl))
  |((with_reducible first|apply Ak|apply Al);· first|with_reducible rfl|omega|(simp (disch:=omega) only [gT,f0,b1,b2,b3]<;>omega))
  |(with_reducible apply Ao;· first|with_reducible rfl|(simp (disch:=omega) only [gF,f0,b1,b2,b3]<;>omega))
 try simp (disch:=omega) only [f0,b1,b2,b3]
 all_goals rfl
end
end
section
open Go.IntKind (wrap)
section
variable {fu d:Nat}
theorem Adq (hfu:1000<=fu){a0_0:Int}{a0_1:ByteArray}{a0_2n:Nat}{a0_2:List PV}{a0_3n:Nat}{a0_3:List PV}{a0_4n:Nat}{a0_4:List PV}{a0_5:Int}{a0_6n:Nat}{a0_6:List PV}{a0_7:ByteArray}{a1_0 a1_1 a1_2 a1_3 a1_4:Int}{a1_5n:Nat}{a1_5:List PV}{a1_6 a1_7 a2:Int}{a3n:Nat}{a3:List PV}{a4n:Nat}{a4:List PV}{a5:Int}
  {r:Rp} (hr:r.ok) (a:Ad) (w:Int) {ans:List An} (hl:ans.length<=900) {vs:List Rv} (hv:vs.length<=900) (now:Int) {cs:List Ce} (hc:∀c∈cs,c.in_) (hne:cs≠[]) (hcl:cs.length<=1000) (nn:Nat):
  Fh fu (Ae C0 Tryz.prog fu (d+15)) a0_0 a0_1 a0_2n a0_2 a0_3n a0_3 a0_4n a0_4 a0_5 a0_6n a0_6 a0_7 a1_0 a1_1 a1_2 a1_3 a1_4 a1_5n a1_5 a1_6 a1_7 a2 a3n a3 a4n a4 a5 (nn+1) w ans.length (Ev ans) vs.length (Fb vs) now cs.length (r.certs.length:Int) r.kind r.cd r.ad.length (Ai .u8 r.ad) r.sg.length (Ai .u8 r.sg) r.certs.length (Jl r.certs) r.fmt r.id_.length (Ai .u8 r.id_) r.user a.rp a.flags a.cnt a.rng a.model a.id_.length (Ai .u8 a.id_) a.key.h a.key.root 0 0 0 (Cc cs) =
   some ⟨(Qq r.sg a.model w ans vs now cs).vals,[]⟩:=by
 obtain ⟨c,ct,rfl⟩:∃c ct,cs=c::ct:=by
  cases cs with
  |nil=>exact absurd rfl hne
  |cons c ct=>exact ⟨c,ct,rfl⟩
 have ds:=FO (fu:=fu) (d:=d+13) hfu hr.sg;have L:=BZ (c::ct);have t:List.take ((c::ct).length*13) (Cc (c::ct))=Cc (c::ct):=I0 (by omega)
 have pe:=Anq (fu:=fu) (d:=d+4) hfu hc hl hv now;have g0:(Cc (c::ct)).getD 0 .top=.sc (.string c.subj):=rfl;have g1:(Cc (c::ct)).getD 1 .top=.sc (.string c.iss):=rfl;have g2:(Cc (c::ct)).getD 2 .top=.sc (.int .u64 c.serial):=rfl;have g3:(Cc (c::ct)).getD 3 .top=.sc (.int .i64 c.key.h):=rfl;have g4:(Cc (c::ct)).getD 4 .top=.sc (.int .u64 c.key.root):=rfl;have g5:(Cc (c::ct)).getD 5 .top=.sc (.int .i64 c.fr):=rfl;have g6:(Cc (c::ct)).getD 6 .top=.sc (.int .i64 c.un):=rfl;have g7:(Cc (c::ct)).getD 7 .top=.sc (.bool c.auth):=rfl;have g8:(Cc (c::ct)).getD 8 .top=.sc (.int .i64 c.path):=rfl;have g9:(Cc (c::ct)).getD 9 .top=.sc (.int .u64 c.model):=rfl;have g10:(Cc (c::ct)).getD 10 .top=.sc (.int .i64 c.sig.leaf):=rfl;have g11:(Cc (c::ct)).getD 11 .top=.lst false 1 c.sig.chains.length (Ai .u64 c.sig.chains):=rfl
 have g12:(Cc (c::ct)).getD 12 .top=.lst false 1 c.sig.path.length (Ai .u64 c.sig.path):=rfl;have hp:(((c::ct).length:Nat):Int)>0:=by simp only [Ib];omega
 rw [Qq];generalize Cc (c::ct)=E at *
 generalize O5 (c::ct) ans vs now=pr at *
 generalize (c::ct).length=n at *
 rw [Ly,Dt _ _ _ (by omega)]
 cases ha:c.auth
 rotate_left
 ·rw [Bl rfl];rw [ha] at g7
  try unfold Aa
  repeat first
   |((with_reducible first|apply Ap|apply Ag|apply Am|apply As|apply Ax|apply Az|apply Bh|apply A6|apply Ah);· first|with_reducible rfl|(simp (disch:=omega) only [g0,g1,g2,g3,g4,g5,g6,g7,g8,g9,g10,g11,g12]<;>with_reducible rfl))
   |((with_reducible first|apply Ak|apply Al);· first|with_reducible rfl|omega|(simp (disch:=omega) only [gT,g0,g1,g2,g3,g4,g5,g6,g7,g8,g9,g10,g11,g12]<;>omega))
   |(with_reducible apply Ao;· first|with_reducible rfl|(simp (disch:=omega) only [gF,g0,g1,g2,g3,g4,g5,g6,g7,g8,g9,g10,g11,g12]<;>omega))
  try simp (disch:=omega) only [g0,g1,g2,g3,g4,g5,g6,g7,g8,g9,g10,g11,g12]
  all_goals rfl
 rw [ha] at g7;rw [A3 (by simp)]
 by_cases hm:c.model=0
 ·have m0:(c.model==0)=true:=by simp [hm]
  rw [Bl hm]
  try unfold Aa
  repeat first
   |((with_reducible first|apply Ap|apply Ag|apply Am|apply As|apply Ax|apply Az|apply Bh|apply A6|apply Ah);· first|with_reducible rfl|(simp (disch:=omega) only [g0,g1,g2,g3,g4,g5,g6,g7,g8,g9,g10,g11,g12,m0]<;>with_reducible rfl))
   |((with_reducible first|apply Ak|apply Al);· first|with_reducible rfl|omega|(simp (disch:=omega) only [gT,g0,g1,g2,g3,g4,g5,g6,g7,g8,g9,g10,g11,g12,m0]<;>omega))
   |(with_reducible apply Ao;· first|with_reducible rfl|(simp (disch:=omega) only [gF,g0,g1,g2,g3,g4,g5,g6,g7,g8,g9,g10,g11,g12,m0]<;>omega))
  try simp (disch:=omega) only [g0,g1,g2,g3,g4,g5,g6,g7,g8,g9,g10,g11,g12,m0]
  all_goals rfl
 have m0:(c.model==0)=false:=by simp [hm]
 rw [A3 hm];by_cases hq:c.model=a.model
 rotate_left
 ·have m1:(c.model != a.model)=true:=by simp [hq]
  rw [Bl hq]
  try unfold Aa
  repeat first
   |((with_reducible first|apply Ap|apply Ag|apply Am|apply As|apply Ax|apply Az|apply Bh|apply A6|apply Ah);· first|with_reducible rfl|(simp (disch:=omega) only [g0,g1,g2,g3,g4,g5,g6,g7,g8,g9,g10,g11,g12,m0,m1]<;>with_reducible rfl))
   |((with_reducible first|apply Ak|apply Al);· first|with_reducible rfl|omega|(simp (disch:=omega) only [gT,g0,g1,g2,g3,g4,g5,g6,g7,g8,g9,g10,g11,g12,m0,m1]<;>omega))
   |(with_reducible apply Ao;· first|with_reducible rfl|(simp (disch:=omega) only [gF,g0,g1,g2,g3,g4,g5,g6,g7,g8,g9,g10,g11,g12,m0,m1]<;>omega))
  try simp (disch:=omega) only [g0,g1,g2,g3,g4,g5,g6,g7,g8,g9,g10,g11,g12,m0,m1]
  all_goals rfl
 have m1:(c.model != a.model)=false:=by simp [hq]
 rw [A3 (by simp [hq])]
 cases hs:OG r.sg with
 |none=>
  rw [hs] at ds;simp only [Si,Sg.owned] at ds;have e20:((2:Int) != 0)=true:=rfl
  try unfold Aa
  repeat first
   |((with_reducible first|apply Ap|apply Ag|apply Am|apply As|apply Ax|apply Az|apply Bh|apply A6|apply Ah);· first|with_reducible rfl|(simp (disch:=omega) only [g0,g1,g2,g3,g4,g5,g6,g7,g8,g9,g10,g11,g12,m0,m1,ds,e20]<;>with_reducible rfl))
   |((with_reducible first|apply Ak|apply Al);· first|with_reducible rfl|omega|(simp (disch:=omega) only [gT,g0,g1,g2,g3,g4,g5,g6,g7,g8,g9,g10,g11,g12,m0,m1,ds,e20]<;>omega))
   |(with_reducible apply Ao;· first|with_reducible rfl|(simp (disch:=omega) only [gF,g0,g1,g2,g3,g4,g5,g6,g7,g8,g9,g10,g11,g12,m0,m1,ds,e20]<;>omega))
  try simp (disch:=omega) only [g0,g1,g2,g3,g4,g5,g6,g7,g8,g9,g10,g11,g12,m0,m1,ds,e20]
  all_goals rfl
 |some s=>
  rw [hs] at ds;simp only [Si,Sg.owned] at ds;have e00:((0:Int) != 0)=false:=rfl;have vr:=FJ (fu:=fu) (d:=d+8) hfu c.key w s;simp only [Ky.cells,Sg.cells] at vr;have Lc:=Aq .u64 s.chains;have Lp:=Aq .u64 s.path;have tc:=Gd .u64 s.chains;have tp:=Gd .u64 s.path;simp only;by_cases hvv:Jp c.key w s=0
  rotate_left
  ·have v0:(Jp c.key w s != 0)=true:=by simp [hvv]
   rw [Bl hvv]
   try unfold Aa
   repeat first
    |((with_reducible first|apply Ap|apply Ag|apply Am|apply As|apply Ax|apply Az|apply Bh|apply A6|apply Ah);· first|with_reducible rfl|(simp (disch:=omega) only [g0,g1,g2,g3,g4,g5,g6,g7,g8,g9,g10,g11,g12,m0,m1,ds,e00,B8,Bv,Bj,Lc,Lp,tc,tp,vr,v0]<;>with_reducible rfl))
    |((with_reducible first|apply Ak|apply Al);· first|with_reducible rfl|omega|(simp (disch:=omega) only [gT,g0,g1,g2,g3,g4,g5,g6,g7,g8,g9,g10,g11,g12,m0,m1,ds,e00,B8,Bv,Bj,Lc,Lp,tc,tp,vr,v0]<;>omega))
    |(with_reducible apply Ao;· first|with_reducible rfl|(simp (disch:=omega) only [gF,g0,g1,g2,g3,g4,g5,g6,g7,g8,g9,g10,g11,g12,m0,m1,ds,e00,B8,Bv,Bj,Lc,Lp,tc,tp,vr,v0]<;>omega))
   try simp (disch:=omega) only [g0,g1,g2,g3,g4,g5,g6,g7,g8,g9,g10,g11,g12,m0,m1,ds,e00,B8,Bv,Bj,Lc,Lp,tc,tp,vr,v0]
   all_goals rfl
  have v0:(Jp c.key w s != 0)=false:=by simp [hvv]
  rw [A3 (by simp [hvv])]
  by_cases hpp:pr.2=0
  ·have p0:(pr.2 != 0)=false:=by simp [hpp]
   rw [A3 (by simp [hpp])]
   try unfold Aa
   repeat first
    |((with_reducible first|apply Ap|apply Ag|apply Am|apply As|apply Ax|apply Az|apply Bh|apply A6|apply Ah);· first|with_reducible rfl|(simp (disch:=omega) only [g0,g1,g2,g3,g4,g5,g6,g7,g8,g9,g10,g11,g12,m0,m1,ds,e00,B8,Bv,Bj,Lc,Lp,tc,tp,vr,v0,L,t,pe,p0]<;>with_reducible rfl))
    |((with_reducible first|apply Ak|apply Al);· first|with_reducible rfl|omega|(simp (disch:=omega) only [gT,g0,g1,g2,g3,g4,g5,g6,g7,g8,g9,g10,g11,g12,m0,m1,ds,e00,B8,Bv,Bj,Lc,Lp,tc,tp,vr,v0,L,t,pe,p0]<;>omega))
    |(with_reducible apply Ao;· first|with_reducible rfl|(simp (disch:=omega) only [gF,g0,g1,g2,g3,g4,g5,g6,g7,g8,g9,g10,g11,g12,m0,m1,ds,e00,B8,Bv,Bj,Lc,Lp,tc,tp,vr,v0,L,t,pe,p0]<;>omega))
   try simp (disch:=omega) only [g0,g1,g2,g3,g4,g5,g6,g7,g8,g9,g10,g11,g12,m0,m1,ds,e00,B8,Bv,Bj,Lc,Lp,tc,tp,vr,v0,L,t,pe,p0]
   all_goals rfl
  ·have p0:(pr.2 != 0)=true:=by simp [hpp]
   rw [Bl hpp]
   try unfold Aa
   repeat first
    |((with_reducible first|apply Ap|apply Ag|apply Am|apply As|apply Ax|apply Az|apply Bh|apply A6|apply Ah);· first|with_reducible rfl|(simp (disch:=omega) only [g0,g1,g2,g3,g4,g5,g6,g7,g8,g9,g10,g11,g12,m0,m1,ds,e00,B8,Bv,Bj,Lc,Lp,tc,tp,vr,v0,L,t,pe,p0]<;>with_reducible rfl))
    |((with_reducible first|apply Ak|apply Al);· first|with_reducible rfl|omega|(simp (disch:=omega) only [gT,g0,g1,g2,g3,g4,g5,g6,g7,g8,g9,g10,g11,g12,m0,m1,ds,e00,B8,Bv,Bj,Lc,Lp,tc,tp,vr,v0,L,t,pe,p0]<;>omega))
    |(with_reducible apply Ao;· first|with_reducible rfl|(simp (disch:=omega) only [gF,g0,g1,g2,g3,g4,g5,g6,g7,g8,g9,g10,g11,g12,m0,m1,ds,e00,B8,Bv,Bj,Lc,Lp,tc,tp,vr,v0,L,t,pe,p0]<;>omega))
   try simp (disch:=omega) only [g0,g1,g2,g3,g4,g5,g6,g7,g8,g9,g10,g11,g12,m0,m1,ds,e00,B8,Bv,Bj,Lc,Lp,tc,tp,vr,v0,L,t,pe,p0]
   all_goals rfl
theorem MN (hfu:1000<=fu){a0_0:Int}{a0_1:ByteArray}{a0_2n:Nat}{a0_2:List PV}{a0_3n:Nat}{a0_3:List PV}{a0_4n:Nat}{a0_4:List PV}{a0_5:Int}{a0_6n:Nat}{a0_6:List PV}{a0_7:ByteArray}{a1_0 a1_1 a1_2 a1_3 a1_4:Int}{a1_5n:Nat}{a1_5:List PV}{a1_6 a1_7 a2:Int}{a3n:Nat}{a3:List PV}{a4n:Nat}{a4:List PV}{a5:Int}
  {r:Rp} (hr:r.ok) (h3:r.certs.length<=3) (a:Ad) (w:Int) {ans:List An} (hl:ans.length<=900) {vs:List Rv} (hv:vs.length<=900) (now:Int):∀(q:List (List Int)) (i nn:Nat) (cs:List Ce),r.certs.drop i=q->q.length<nn->i<=r.certs.length->(∀c∈cs,c.in_)->cs.length=i->(q=[]->cs≠[]) ->
  Fh fu (Ae C0 Tryz.prog fu (d+15)) a0_0 a0_1 a0_2n a0_2 a0_3n a0_3 a0_4n a0_4 a0_5 a0_6n a0_6 a0_7 a1_0 a1_1 a1_2 a1_3 a1_4 a1_5n a1_5 a1_6 a1_7 a2 a3n a3 a4n a4 a5 nn w ans.length (Ev ans) vs.length (Fb vs) now cs.length (i:Int) r.kind r.cd r.ad.length (Ai .u8 r.ad) r.sg.length (Ai .u8 r.sg) r.certs.length (Jl r.certs) r.fmt r.id_.length (Ai .u8 r.id_) r.user a.rp a.flags a.cnt a.rng a.model a.id_.length (Ai .u8 a.id_) a.key.h a.key.root 0 0 0 (Cc cs) =
   some ⟨(if (Cb q).2≠0 then MZ (Cb q).2 else Qq r.sg a.model w ans vs now (cs++(Cb q).1)).vals,[]⟩
 |_,_,0,_,_,h,_,_,_,_=>by omega
 |[],i,nn+1,cs,h,hn,hi,hc,hcl,hne=>by
  have:=drop_nil h;obtain rfl:i=r.certs.length:=by omega
  have e:(if (Cb []).2≠0 then MZ (Cb []).2 else Qq r.sg a.model w ans vs now (cs++(Cb []).1))=Qq r.sg a.model w ans vs now cs:=by
   rw [Cb,A3 (by simp)]
   simp
  rw [e];exact Adq hfu hr a w hl hv now hc (hne rfl) (by omega) nn
 |b::q,i,nn+1,cs,h,hn,hi,hc,hcl,hne=>by
  obtain ⟨h1,h2,h3'⟩:=Cg h;simp only [Ib] at hn;obtain ⟨hb,hbl⟩:=hr.certs b (List.mem_of_getElem? h2);have de:=Ann (fu:=fu) (d:=d) hfu hb hbl;have din:=Afy hb;have nt:Int.toNat (i:Int)=i:=Hc _;have g0:=atb h2;have w1:wrap .i64 ((i:Int)+1)=((i+1:Nat):Int):=by rw [At (by omega) (by omega)];omega
  have L:=BZ cs;have t:List.take (cs.length*13) (Cc cs)=Cc cs:=I0 (by omega)
  have ed:Cb (b::q)=if (J8 b).2≠0 then ([],(J8 b).2) else if (Cb q).2≠0 then ([],(Cb q).2) else ((J8 b).1::(Cb q).1,0):=rfl
  rw [ed,Ly];generalize J8 b=D at de din ⊢;obtain ⟨c,e⟩:=D;simp only at de din ⊢;by_cases he:e=0
  rotate_left
  ·have e0:(e != 0)=true:=by simp [he]
   rw [Bl he];simp only [ne_eq,he,not_false_eq_true,if_true];simp only [Ce.cells] at de
   try unfold Aa
   repeat first
    |((with_reducible first|apply Ap|apply Ag|apply Am|apply As|apply Ax|apply Az|apply Bh|apply A6|apply Ah);· first|with_reducible rfl|(simp (disch:=omega) only [nt,g0,de,e0]<;>with_reducible rfl))
    |((with_reducible first|apply Ak|apply Al);· first|with_reducible rfl|omega|(simp (disch:=omega) only [gT,nt,g0,de,e0]<;>omega))
    |(with_reducible apply Ao;· first|with_reducible rfl|(simp (disch:=omega) only [gF,nt,g0,de,e0]<;>omega))
   try simp (disch:=omega) only [nt,g0,de,e0]
   all_goals rfl
  subst he;have e00:((0:Int) != 0)=false:=rfl;have hci:=din rfl;have n00:¬((0:Int)≠0):=by simp
  rw [A3 n00]
  have ih:=MN hfu (a0_0:=a0_0) (a0_1:=a0_1) (a0_2n:=a0_2n) (a0_2:=a0_2) (a0_3n:=a0_3n) (a0_3:=a0_3) (a0_4n:=a0_4n) (a0_4:=a0_4) (a0_5:=a0_5) (a0_6n:=a0_6n) (a0_6:=a0_6) (a0_7:=a0_7) (a1_0:=a1_0) (a1_1:=a1_1) (a1_2:=a1_2) (a1_3:=a1_3) (a1_4:=a1_4) (a1_5n:=a1_5n) (a1_5:=a1_5) (a1_6:=a1_6) (a1_7:=a1_7) (a2:=a2) (a3n:=a3n) (a3:=a3) (a4n:=a4n) (a4:=a4) (a5:=a5) hr h3 a w hl hv now q (i+1) nn (cs++[c]) h3' (by omega) (by omega) (by
   intro x hx;rcases List.mem_append.1 hx with hx|hx
   ·exact hc x hx
   ·simp at hx;subst hx;exact hci) (by
   simp only [H1,Ib,Y4];omega) (by intro _;simp)
  have ee:(if (if (Cb q).2≠0 then (([]:List Ce),(Cb q).2) else (c::(Cb q).1,0)).2≠0 then MZ (if (Cb q).2≠0 then (([]:List Ce),(Cb q).2) else (c::(Cb q).1,0)).2 else Qq r.sg a.model w ans vs now (cs++(if (Cb q).2≠0 then (([]:List Ce),(Cb q).2) else (c::(Cb q).1,0)).1))=(if (Cb q).2≠0 then MZ (Cb q).2 else Qq r.sg a.model w ans vs now (cs++[c]++(Cb q).1)):=by
   by_cases hd:(Cb q).2=0
   ·have hd':¬((Cb q).2≠0):=by simp [hd]
    rw [A3 hd',A3 hd'];simp
   ·rw [Bl hd,Bl hd,Bl hd]
  rw [ee,←ih,VR,H1];have e1:Cc [c]=c.cells:=by simp [Cc]
  rw [e1];simp only [Ce.cells] at de ⊢;have lr:[c].length=1:=rfl;rw [lr]
  try unfold Aa
  repeat first
   |((with_reducible first|apply Ap|apply Ag|apply Am|apply As|apply Ax|apply Az|apply Bh|apply A6|apply Ah);· first|with_reducible rfl|(simp (disch:=omega) only [nt,g0,de,e00,w1,L,t]<;>with_reducible rfl))
   |((with_reducible first|apply Ak|apply Al);· first|with_reducible rfl|omega|(simp (disch:=omega) only [gT,nt,g0,de,e00,w1,L,t]<;>omega))
   |(with_reducible apply Ao;· first|with_reducible rfl|(simp (disch:=omega) only [gF,nt,g0,de,e00,w1,L,t]<;>omega))
  try simp (disch:=omega) only [nt,g0,de,e00,w1,L,t]
  all_goals rfl
theorem Add (hfu:1000<=fu){r:Rp}(hr:r.ok)(a:Ad)(w:Int){ans:List An}(hl:ans.length<=900){vs:List Rv}(hv:vs.length<=900)(now:Int):
  Ae C0 Tryz.prog fu (d+16) O3 [.agg r.cells,.agg a.cells,.sc (.int .u64 w),.lst false 3 ans.length (Ev ans),.lst false 3 vs.length (Fb vs),.sc (.int .i64 now)]=some ⟨(KZ r a w ans vs now).vals,[]⟩:=by
 refine (Z0 fu (d+15) r.kind r.cd r.ad.length (Ai .u8 r.ad) r.sg.length (Ai .u8 r.sg) r.certs.length (Jl r.certs) r.fmt r.id_.length (Ai .u8 r.id_) r.user a.rp a.flags a.cnt a.rng a.model a.id_.length (Ai .u8 a.id_) a.key.h a.key.root w ans.length (Ev ans) vs.length (Fb vs) now).trans ?_;have n2:=Oj (fu:=fu) (d:=d+14) r.certs.length 1 3;unfold KZ;by_cases h1:r.certs.length<1
 ·have:(decide ((1:Int)<=r.certs.length)&&decide ((r.certs.length:Int)<=3))=false:=by simp;omega
  rw [this] at n2;rw [Bl h1]
  try unfold Aa
  repeat first
   |((with_reducible first|apply Ap|apply Ag|apply Am|apply As|apply Ax|apply Az|apply Bh|apply A6|apply Ah);· first|with_reducible rfl|(simp (disch:=omega) only [n2,Br]<;>with_reducible rfl))
   |((with_reducible first|apply Ak|apply Al);· first|with_reducible rfl|omega|(simp (disch:=omega) only [gT,n2,Br]<;>omega))
   |(with_reducible apply Ao;· first|with_reducible rfl|(simp (disch:=omega) only [gF,n2,Br]<;>omega))
  try simp (disch:=omega) only [n2,Br]
  all_goals rfl
 rw [A3 h1];by_cases h2:r.certs.length>3
 ·have:(decide ((1:Int)<=r.certs.length)&&decide ((r.certs.length:Int)<=3))=false:=by simp;omega
  rw [this] at n2;rw [Bl h2]
  try unfold Aa
  repeat first
   |((with_reducible first|apply Ap|apply Ag|apply Am|apply As|apply Ax|apply Az|apply Bh|apply A6|apply Ah);· first|with_reducible rfl|(simp (disch:=omega) only [n2,Br]<;>with_reducible rfl))
   |((with_reducible first|apply Ak|apply Al);· first|with_reducible rfl|omega|(simp (disch:=omega) only [gT,n2,Br]<;>omega))
   |(with_reducible apply Ao;· first|with_reducible rfl|(simp (disch:=omega) only [gF,n2,Br]<;>omega))
  try simp (disch:=omega) only [n2,Br]
  all_goals rfl
 rw [A3 h2];have q2:(decide ((1:Int)<=r.certs.length)&&decide ((r.certs.length:Int)<=3))=true:=by simp;omega
 rw [q2] at n2;have bl:=MN (fu:=fu) (d:=d) (a0_0:=r.kind) (a0_1:=r.cd) (a0_2n:=r.ad.length) (a0_2:=Ai .u8 r.ad) (a0_3n:=r.sg.length) (a0_3:=Ai .u8 r.sg) (a0_4n:=r.certs.length) (a0_4:=Jl r.certs) (a0_5:=r.fmt) (a0_6n:=r.id_.length) (a0_6:=Ai .u8 r.id_) (a0_7:=r.user) (a1_0:=a.rp) (a1_1:=a.flags) (a1_2:=a.cnt) (a1_3:=a.rng) (a1_4:=a.model) (a1_5n:=a.id_.length) (a1_5:=Ai .u8 a.id_) (a1_6:=a.key.h) (a1_7:=a.key.root) (a2:=w) (a3n:=ans.length) (a3:=Ev ans) (a4n:=vs.length) (a4:=Fb vs) (a5:=now) hfu hr (by omega) a w hl hv now r.certs 0 fu [] rfl (by omega) (by omega) (by simp) (by simp) (by intro h;rw [h] at h1;simp at h1)
 rw [Zzq] at bl;rw [←bl]
 try unfold Aa
 repeat first
  |((with_reducible first|apply Ap|apply Ag|apply Am|apply As|apply Ax|apply Az|apply Bh|apply A6|apply Ah);· first|with_reducible rfl|(simp (disch:=omega) only [n2,Bp]<;>with_reducible rfl))
  |((with_reducible first|apply Ak|apply Al);· first|with_reducible rfl|omega|(simp (disch:=omega) only [gT,n2,Bp]<;>omega))
  |(with_reducible apply Ao;· first|with_reducible rfl|(simp (disch:=omega) only [gF,n2,Bp]<;>omega))
 try simp (disch:=omega) only [n2,Bp]
 all_goals rfl
theorem Apl (hfu:1000<=fu){r:Rp}(hr:r.ok)(a:Ad)(w:Int){ans:List An}(hl:ans.length<=900){vs:List Rv}(hv:vs.length<=900)(now:Int):
  Ae C0 Tryz.prog fu (d+17) Nl [.agg r.cells,.agg a.cells,.sc (.int .u64 w),.lst false 3 ans.length (Ev ans),.lst false 3 vs.length (Fb vs),.sc (.int .i64 now)]=some ⟨(LR r a w ans vs now).vals,[]⟩:=by
 refine (Y3 fu (d+16) r.kind r.cd r.ad.length (Ai .u8 r.ad) r.sg.length (Ai .u8 r.sg) r.certs.length (Jl r.certs) r.fmt r.id_.length (Ai .u8 r.id_) r.user a.rp a.flags a.cnt a.rng a.model a.id_.length (Ai .u8 a.id_) a.key.h a.key.root w ans.length (Ev ans) vs.length (Fb vs) now).trans ?_;have bt:=Add (fu:=fu) (d:=d) hfu hr a w hl hv now;simp only [Rp.cells,Ad.cells,Av.vals] at bt;unfold LR;by_cases h0:Ed .i64 a.flags 64=0
 ·have f0:(Ed .i64 a.flags 64==0)=true:=by simp [h0]
  rw [Bl h0]
  try unfold Aa
  repeat first
   |((with_reducible first|apply Ap|apply Ag|apply Am|apply As|apply Ax|apply Az|apply Bh|apply A6|apply Ah);· first|with_reducible rfl|(simp (disch:=omega) only [f0]<;>with_reducible rfl))
   |((with_reducible first|apply Ak|apply Al);· first|with_reducible rfl|omega|(simp (disch:=omega) only [gT,f0]<;>omega))
   |(with_reducible apply Ao;· first|with_reducible rfl|(simp (disch:=omega) only [gF,f0]<;>omega))
  try simp (disch:=omega) only [f0]
  all_goals rfl
 have f0:(Ed .i64 a.flags 64==0)=false:=by simp only [beq_eq_false_iff_ne,ne_eq];exact h0
 rw [A3 h0];generalize Ed .i64 a.flags 64=fl at *
 by_cases h1:r.fmt=0
 ·have b1:(r.fmt==0)=true:=by simp [h1]
  rw [Bl h1];by_cases h2:r.sg.length>0
  ·rw [Bl h2]
   try unfold Aa
   repeat first
    |((with_reducible first|apply Ap|apply Ag|apply Am|apply As|apply Ax|apply Az|apply Bh|apply A6|apply Ah);· first|with_reducible rfl|(simp (disch:=omega) only [f0,b1]<;>with_reducible rfl))
    |((with_reducible first|apply Ak|apply Al);· first|with_reducible rfl|omega|(simp (disch:=omega) only [gT,f0,b1]<;>omega))
    |(with_reducible apply Ao;· first|with_reducible rfl|(simp (disch:=omega) only [gF,f0,b1]<;>omega))
   try simp (disch:=omega) only [f0,b1]
   all_goals rfl
  rw [A3 h2];by_cases h3:r.certs.length>0
  ·rw [Bl h3]
   try unfold Aa
   repeat first
    |((with_reducible first|apply Ap|apply Ag|apply Am|apply As|apply Ax|apply Az|apply Bh|apply A6|apply Ah);· first|with_reducible rfl|(simp (disch:=omega) only [f0,b1]<;>with_reducible rfl))
    |((with_reducible first|apply Ak|apply Al);· first|with_reducible rfl|omega|(simp (disch:=omega) only [gT,f0,b1]<;>omega))
    |(with_reducible apply Ao;· first|with_reducible rfl|(simp (disch:=omega) only [gF,f0,b1]<;>omega))
   try simp (disch:=omega) only [f0,b1]
   all_goals rfl
  rw [A3 h3]
  try unfold Aa
  repeat first
   |((with_reducible first|apply Ap|apply Ag|apply Am|apply As|apply Ax|apply Az|apply Bh|apply A6|apply Ah);· first|with_reducible rfl|(simp (disch:=omega) only [f0,b1]<;>with_reducible rfl))
   |((with_reducible first|apply Ak|apply Al);· first|with_reducible rfl|omega|(simp (disch:=omega) only [gT,f0,b1]<;>omega))
   |(with_reducible apply Ao;· first|with_reducible rfl|(simp (disch:=omega) only [gF,f0,b1]<;>omega))
  try simp (disch:=omega) only [f0,b1]
  all_goals rfl
 have b1:(r.fmt==0)=false:=by simp [h1]
 rw [A3 h1];by_cases h2:r.fmt=1
 ·have b2:(r.fmt==1)=true:=by simp [h2]
  rw [Bl h2];have ds:=FO (fu:=fu) (d:=d+14) hfu hr.sg;unfold Aca;by_cases h1:r.certs.length>0
  ·rw [Bl h1]
   try unfold Aa
   repeat first
    |((with_reducible first|apply Ap|apply Ag|apply Am|apply As|apply Ax|apply Az|apply Bh|apply A6|apply Ah);· first|with_reducible rfl|(simp (disch:=omega) only [f0,b1,b2]<;>with_reducible rfl))
    |((with_reducible first|apply Ak|apply Al);· first|with_reducible rfl|omega|(simp (disch:=omega) only [gT,f0,b1,b2]<;>omega))
    |(with_reducible apply Ao;· first|with_reducible rfl|(simp (disch:=omega) only [gF,f0,b1,b2]<;>omega))
   try simp (disch:=omega) only [f0,b1,b2]
   all_goals rfl
  rw [A3 h1];cases hs:OG r.sg with
  |none=>
   rw [hs] at ds;simp only [Si,Sg.owned] at ds;have e20:((2:Int) != 0)=true:=rfl
   try unfold Aa
   repeat first
    |((with_reducible first|apply Ap|apply Ag|apply Am|apply As|apply Ax|apply Az|apply Bh|apply A6|apply Ah);· first|with_reducible rfl|(simp (disch:=omega) only [f0,b1,b2,ds,e20]<;>with_reducible rfl))
    |((with_reducible first|apply Ak|apply Al);· first|with_reducible rfl|omega|(simp (disch:=omega) only [gT,f0,b1,b2,ds,e20]<;>omega))
    |(with_reducible apply Ao;· first|with_reducible rfl|(simp (disch:=omega) only [gF,f0,b1,b2,ds,e20]<;>omega))
   try simp (disch:=omega) only [f0,b1,b2,ds,e20]
   all_goals rfl
  |some s=>
   rw [hs] at ds;simp only [Si,Sg.owned] at ds;have e00:((0:Int) != 0)=false:=rfl;have vr:=FJ (fu:=fu) (d:=d+9) hfu a.key w s;simp only [Ky.cells,Sg.cells] at vr;have Lc:=Aq .u64 s.chains;have Lp:=Aq .u64 s.path;have tc:=Gd .u64 s.chains;have tp:=Gd .u64 s.path;simp only;by_cases hv:Jp a.key w s=0
   ·have v0:(Jp a.key w s != 0)=false:=by simp [hv]
    rw [A3 (by simp [hv])]
    try unfold Aa
    repeat first
     |((with_reducible first|apply Ap|apply Ag|apply Am|apply As|apply Ax|apply Az|apply Bh|apply A6|apply Ah);· first|with_reducible rfl|(simp (disch:=omega) only [f0,b1,b2,ds,e00,B8,Bv,Bj,Lc,Lp,tc,tp,vr,v0]<;>with_reducible rfl))
     |((with_reducible first|apply Ak|apply Al);· first|with_reducible rfl|omega|(simp (disch:=omega) only [gT,f0,b1,b2,ds,e00,B8,Bv,Bj,Lc,Lp,tc,tp,vr,v0]<;>omega))
     |(with_reducible apply Ao;· first|with_reducible rfl|(simp (disch:=omega) only [gF,f0,b1,b2,ds,e00,B8,Bv,Bj,Lc,Lp,tc,tp,vr,v0]<;>omega))
    try simp (disch:=omega) only [f0,b1,b2,ds,e00,B8,Bv,Bj,Lc,Lp,tc,tp,vr,v0]
    all_goals rfl
   ·have v0:(Jp a.key w s != 0)=true:=by simp [hv]
    rw [Bl hv]
    try unfold Aa
    repeat first
     |((with_reducible first|apply Ap|apply Ag|apply Am|apply As|apply Ax|apply Az|apply Bh|apply A6|apply Ah);· first|with_reducible rfl|(simp (disch:=omega) only [f0,b1,b2,ds,e00,B8,Bv,Bj,Lc,Lp,tc,tp,vr,v0]<;>with_reducible rfl))
     |((with_reducible first|apply Ak|apply Al);· first|with_reducible rfl|omega|(simp (disch:=omega) only [gT,f0,b1,b2,ds,e00,B8,Bv,Bj,Lc,Lp,tc,tp,vr,v0]<;>omega))
     |(with_reducible apply Ao;· first|with_reducible rfl|(simp (disch:=omega) only [gF,f0,b1,b2,ds,e00,B8,Bv,Bj,Lc,Lp,tc,tp,vr,v0]<;>omega))
    try simp (disch:=omega) only [f0,b1,b2,ds,e00,B8,Bv,Bj,Lc,Lp,tc,tp,vr,v0]
    all_goals rfl
 have b2:(r.fmt==1)=false:=by simp [h2]
 rw [A3 h2];by_cases h3:r.fmt=2
 ·have b3:(r.fmt==2)=true:=by simp [h3]
  rw [Bl h3]
  try unfold Aa
  repeat first
   |((with_reducible first|apply Ap|apply Ag|apply Am|apply As|apply Ax|apply Az|apply Bh|apply A6|apply Ah);· first|with_reducible rfl|(simp (disch:=omega) only [f0,b1,b2,b3,bt]<;>with_reducible rfl))
   |((with_reducible first|apply Ak|apply Al);· first|with_reducible rfl|omega|(simp (disch:=omega) only [gT,f0,b1,b2,b3,bt]<;>omega))
   |(with_reducible apply Ao;· first|with_reducible rfl|(simp (disch:=omega) only [gF,f0,b1,b2,b3,bt]<;>omega))
  try simp (disch:=omega) only [f0,b1,b2,b3,bt]
  all_goals rfl
 have b3:(r.fmt==2)=false:=by simp [h3]
 rw [A3 h3]
 try unfold Aa
 repeat first
  |((with_reducible first|apply Ap|apply Ag|apply Am|apply As|apply Ax|apply Az|apply Bh|apply A6|apply Ah);· first|with_reducible rfl|(simp (disch:=omega) only [f0,b1,b2,b3]<;>with_reducible rfl))
  |((with_reducible first|apply Ak|apply Al);· first|with_reducible rfl|omega|(simp (disch:=omega) only [gT,f0,b1,b2,b3]<;>omega))
  |(with_reducible apply Ao;· first|with_reducible rfl|(simp (disch:=omega) only [gF,f0,b1,b2,b3]<;>omega))
 try simp (disch:=omega) only [f0,b1,b2,b3]
 all_goals rfl
end
end
section
open Go.IntKind (wrap)
set_option maxRecDepth 100000
abbrev Uq:FuncId:=7
theorem JH (fu d a0n:Nat)(a0:List PV):Ae C0 Tryz.prog fu (d+1) Uq [.lst false 1 a0n a0]=(fun (call:Ar)=>some (A0.mk [.pbox [.lst false 1 a0n a0,.sc (.int .i64 0)]] [])) (Ae C0 Tryz.prog fu d):=by kernel_rfl
abbrev Ue:FuncId:=11
theorem IE (fu d:Nat)(a0 a1:Int):Ae C0 Tryz.prog fu (d+1) Ue [.sc (.int .i64 a0),.sc (.int .i64 a1)]=(fun (call:Ar)=>Aa (wrap .u64 a0) fun x1=>Aa (wrap .u64 a1) fun x2=>Ay (decide (x2≠0))<|Aa (Int.tmod x1 x2) fun x3=>Aa (wrap .i64 x3) fun x4=>some (A0.mk [.sc (.int .i64 x4)] [])) (Ae C0 Tryz.prog fu d):=by kernel_rfl
abbrev Lo:FuncId:=9
theorem Lu (fu d a0_0n:Nat)(a0_0:List PV)(a0_1 a1:Int):Ae C0 Tryz.prog fu (d+1) Lo [.pbox [.lst false 1 a0_0n a0_0,.sc (.int .i64 a0_1)],.sc (.int .i64 a1)]=(fun (call:Ar)=>A4 (decide (a0_1>=(↑a0_0n:Int))) (some (A0.mk [.sc (.int .i64 0)] [[.lst false 1 a0_0n a0_0,.sc (.int .i64 a0_1)]])) (Aa (wrap .i64 (a0_1+1)) fun x1=>Aa (wrap .i64 (x1-1)) fun x2=>Ay (decide (0<=x2)&&decide (x2<(↑a0_0n:Int)))<|Af .i64 (List.getD a0_0 (Int.toNat x2*1) .top) fun x3=>Aj (call 11 [.sc (.int .i64 x3),.sc (.int .i64 a1)]) fun x4 x5=>Ac x5<|Ab x4 fun x6 x7=>Af .i64 x6 fun x8=>Ac x7<|some (A0.mk [.sc (.int .i64 x8)] [[.lst false 1 a0_0n a0_0,.sc (.int .i64 x1)]]))) (Ae C0 Tryz.prog fu d):=by kernel_rfl
end
section
open Go.IntKind (wrap)
abbrev dkc (l:List Int)(a:Nat):List PV:=[.lst false 1 l.length (Ai .i64 l),.sc (.int .i64 (a:Int))]
theorem Ark {fu d:Nat}{l:List Int}:Ae C0 Tryz.prog fu (d+1) Uq [.lst false 1 l.length (Ai .i64 l)]=some ⟨[.pbox (dkc l 0)],[]⟩:=by
 rw [JH];rfl
theorem YO (v n:Int)(hn:0<n)(hm:n<=9223372036854775807):∃r,0<=r∧r<n∧∀{fu d:Nat},Ae C0 Tryz.prog fu (d+1) Ue [.sc (.int .i64 v),.sc (.int .i64 n)]=some ⟨[.sc (.int .i64 r)],[]⟩:=by
 have h1:=Mm v;have h2:wrap .u64 n=n:=B5 (by omega) (by omega)
 have h3:0<=Int.tmod (wrap .u64 v) n:=Int.tmod_nonneg _ h1.1;have h4:Int.tmod (wrap .u64 v) n<n:=Int.tmod_lt_of_pos _ hn;refine ⟨_,h3,h4,fun {fu d}=>?_⟩
 rw [IE];simp only [Hr,h2];rw [BU _ _ (by omega),At (by omega) (by omega)]
theorem Gq {l:List Int}(hl:l.length<=maxLen)(a:Nat)(n:Int)(hn:0<n)(hm:n<=9223372036854775807):∃(v:Int)(a':Nat),0<=v∧v<n ∧
  ∀{fu d:Nat},Ae C0 Tryz.prog fu (d+2) Lo [.pbox (dkc l a),.sc (.int .i64 n)]=some ⟨[.sc (.int .i64 v)],[dkc l a']⟩:=by
 simp only [maxLen] at hl;by_cases h:a<l.length
 ·obtain ⟨r,h1,h2,h3⟩:=YO l[a] n hn hm;refine ⟨r,a+1,h1,h2,fun {fu d}=>?_⟩
  rw [Lu]
  have hg:(Ai .i64 l).getD (Int.toNat ((a:Int)+1-1)*1) .top=.sc (.int .i64 l[a]):=by
   have:=Qb (k:=.i64) (List.getElem?_eq_getElem h);rw [show Int.toNat ((a:Int)+1-1)*1=a by omega]
   exact this
  simp (disch:=omega) only [B6,At,hg,h3];rfl
 ·refine ⟨0,a,by omega,hn,fun {fu d}=>?_⟩
  rw [Lu];simp (disch:=omega) only [B6]
end
section
open Go.IntKind (wrap)
set_option maxRecDepth 100000
abbrev Ui:FuncId:=16
theorem HX (fu d:Nat)(a0 a1:Int):Ae C0 Tryz.prog fu (d+1) Ui [.sc (.int .u64 a0),.sc (.int .i64 a1)]=(fun (call:Ar)=>Aj (call 34 [.sc (.int .u64 a0),.sc (.int .i64 a1)]) fun x1 x2=>Ac x2<|Ab x1 fun x3 x4=>C2 x3 fun x5=>Ab x5 fun x6 x7=>Af .i64 x6 fun x8=>Ab x7 fun x9 Ck=>Af .u64 x9 fun Bn=>Ac Ck<|Ab x4 fun Cw Da=>Af .i64 Cw fun Cq=>Ac Da<|some (A0.mk [.agg [.sc (.int .i64 x8),.sc (.int .u64 Bn)]] [])) (Ae C0 Tryz.prog fu d):=by kernel_rfl
abbrev Hi:FuncId:=25
theorem DE (fu d:Nat)(a0 a1:Int):Ae C0 Tryz.prog fu (d+1) Hi [.sc (.int .i64 a0),.sc (.int .i64 a1)]=(fun (call:Ar)=>Aa (wrap .u64 a0) fun x1=>Aa (wrap .u64 (x1+1)) fun x2=>Aa (if 1024<a1 then 1024 else a1) fun x3=>Aa (if x3<0 then 0 else x3) fun x4=>Aj (call 52 [.sc (.int .u64 x2),.sc (.int .u64 7),.sc (.int .i64 x4)]) fun x5 x6=>Ac x6<|Ab x5 fun x7 x8=>Dc 1 x7 fun x9 Ck=>Ac x8<|Ay (decide (x9*1<=Ck.length))<|some (A0.mk [.own 1 x9 (List.take (x9*1) Ck)] [])) (Ae C0 Tryz.prog fu d):=by kernel_rfl
abbrev Kh:FuncId:=23
theorem Vb (fu d:Nat)(a0 a1:Int)(a2:Bool):Ae C0 Tryz.prog fu (d+1) Kh [.sc (.int .i64 a0),.sc (.int .i64 a1),.sc (.bool a2)]=(fun (call:Ar)=>Aa (wrap .u64 a0) fun x1=>Aa (wrap .u64 (1000+x1)) fun x2=>Aa (wrap .i64 (500+a0)) fun x3=>Aj (call 25 [.sc (.int .i64 x3),.sc (.int .i64 176)]) fun x4 x5=>Ac x5<|Ab x4 fun x6 x7=>Dc 1 x6 fun x8 x9=>Ac x7<|Ay (decide (x8*1<=x9.length))<|some (A0.mk [.agg [.sc (.int .u64 x2),.sc (.int .i64 a1),.own 1 x8 (List.take (x8*1) x9),.sc (.bool a2)]] [])) (Ae C0 Tryz.prog fu d):=by kernel_rfl
abbrev Km:FuncId:=49
theorem U9 (fu d:Nat)(a0_0 a0_1:Int)(a0_2n:Nat)(a0_2:List PV)(a0_3 a1:Bool):Ae C0 Tryz.prog fu (d+1) Km [.agg [.sc (.int .u64 a0_0),.sc (.int .i64 a0_1),.lst false 1 a0_2n a0_2,.sc (.bool a0_3)],.sc (.bool a1)]=(fun (call:Ar)=>A4 (a1) (A4 (a0_3) (some (A0.mk [.sc (.int .i64 13)] [])) (some (A0.mk [.sc (.int .i64 5)] []))) (A4 (a0_3) (some (A0.mk [.sc (.int .i64 9)] [])) (some (A0.mk [.sc (.int .i64 1)] [])))) (Ae C0 Tryz.prog fu d):=by kernel_rfl
abbrev P8:FuncId:=51
theorem CU (fu d:Nat):Ae C0 Tryz.prog fu (d+1) P8 []=(fun (call:Ar)=>Aj (call 16 [.sc (.int .u64 33),.sc (.int .i64 4)]) fun x1 x2=>Ac x2<|Ab x1 fun x3 x4=>C2 x3 fun x5=>Ab x5 fun x6 x7=>Af .i64 x6 fun x8=>Ab x7 fun x9 Ck=>Af .u64 x9 fun Bn=>Ac Ck<|Ac x4<|Aj (call 78 [.agg [.sc (.string (ByteArray.mk #[98,97,116,99,104])),.sc (.string (ByteArray.mk #[114,111,111,116])),.sc (.int .u64 1),.sc (.int .i64 x8),.sc (.int .u64 Bn),.sc (.int .i64 0),.sc (.int .i64 900),.sc (.bool false),.sc (.int .i64 0),.sc (.int .u64 3),.sc (.int .i64 0),.lst false 1 0 [],.lst false 1 0 []],.sc (.int .u64 32),.sc (.int .i64 1),.sc (.int .i64 0)]) fun Cw Da=>Ac Da<|Ab Cw fun Cq Cy=>C2 Cq fun Db=>Ab Db fun Dq D2=>Co Dq fun D0=>Ab D2 fun D9 Fj=>Co D9 fun Cn=>Ab Fj fun Fn Dj=>Af .u64 Fn fun B3=>Ab Dj fun Et F1=>Af .i64 Et fun Bm=>Ab F1 fun Cj Gt=>Af .u64 Cj fun Gu=>Ab Gt fun Hz Ha=>Af .i64 Hz fun Il=>Ab Ha fun G4 Ir=>Af .i64 G4 fun Kr=>Ab Ir fun F0 H2=>Bx F0 fun Nc=>Ab H2 fun Ot Kc=>Af .i64 Ot fun J5=>Ab Kc fun Nk Md=>Af .u64 Nk fun Oo=>Ab Md fun Py Pw=>Af .i64 Py fun Ox=>Ab Pw fun Rb Q5=>F8 1 Rb fun Q0 Ks S9=>Ab Q5 fun Ql Ru=>F8 1 Ql fun Nz Pz Q9=>Ac Ru<|Ab Cy fun Rk Pr=>Af .i64 Rk fun Te=>Ac Pr<|Aj (call 44 [.agg [.sc (.string D0),.sc (.string Cn),.sc (.int .u64 B3),.sc (.int .i64 Bm),.sc (.int .u64 Gu),.sc (.int .i64 Il),.sc (.int .i64 Kr),.sc (.bool Nc),.sc (.int .i64 J5),.sc (.int .u64 Oo),.sc (.int .i64 Ox),.lst false 1 Ks S9,.lst false 1 Pz Q9]]) fun Uv S7=>Ac S7<|Ab Uv fun Rz Ro=>Dc 1 Rz fun Q7 Vv=>Ab Ro fun Tn S5=>Af .i64 Tn fun Tj=>Ac S5<|Ay (decide (0+Q7*1<=Vv.length))<|some (A0.mk [.own 1 1 [.lst false 1 Q7 (List.take (Q7*1) (List.drop 0 Vv))]] [])) (Ae C0 Tryz.prog fu d):=by kernel_rfl
abbrev R5:FuncId:=29
theorem Rq (fu d a0n:Nat)(a0:List PV)(a1:Int):Ae C0 Tryz.prog fu (d+1) R5 [.lst false 1 a0n a0,.sc (.int .i64 a1)]=(fun (call:Ar)=>A4 ((↑a0n:Int)==0) (Aa (wrap .u8 a1) fun x1=>some (A0.mk [.own 1 1 [.sc (.int .u8 x1)]] [])) (Ay (decide (a0.length=a0n*1)&&decide (a0n*1<=1099511627776)&&decide (a0n<=1099511627776))<|Ay (decide ((↑a0n:Int)≠0))<|Aa (Int.tmod a1 (↑a0n:Int)) fun x2=>Ay (decide (0<=x2)&&decide (x2<(↑a0n:Int)))<|Af .u8 (List.getD a0 (0+Int.toNat x2*1) .top) fun x3=>Aa (Ed .i64 a1 7) fun x4=>Aa (wrap .u64 x4) fun x5=>Ay (decide (0<=x5))<|Aa (Ff .u8 1 x5) fun x6=>Aa (Er .u8 x3 x6) fun x7=>Ay (decide (0<=x2)&&decide (x2<(↑a0n:Int)))<|Ay (decide (0+Int.toNat x2*1+1<=a0.length))<|Aa (B7 a0 [.sc (.int .u8 x7)] (0+Int.toNat x2*1)) fun x8=>Ay (decide (a0n*1<=x8.length))<|some (A0.mk [.own 1 a0n (List.take (a0n*1) x8)] []))) (Ae C0 Tryz.prog fu d):=by kernel_rfl
abbrev Nt:FuncId:=80
theorem Ye (fu d:Nat)(a0 a1 a2:Int):Ae C0 Tryz.prog fu (d+1) Nt [.sc (.int .i64 a0),.sc (.int .i64 a1),.sc (.int .i64 a2)]=(fun (call:Ar)=>A4 (decide (a0>=a1)) (some (A0.mk [.sc (.bool (decide (a0<=a2)))] [])) (some (A0.mk [.sc (.bool false)] []))) (Ae C0 Tryz.prog fu d):=by kernel_rfl
abbrev Ng:FuncId:=48
theorem Yp (fu d:Nat)(a0:ByteArray):Ae C0 Tryz.prog fu (d+1) Ng [.sc (.string a0)]=(fun (call:Ar)=>Ay (decide (ByteArray.size a0<=1099511627776))<|Ay (decide (0+ByteArray.size a0*1<=List.length (Ct a0)))<|Aj (call 46 [.sc (.int .i64 9),.lst false 1 (ByteArray.size a0) (List.take (ByteArray.size a0*1) (List.drop 0 (Ct a0)))]) fun x1 x2=>Ac x2<|Ab x1 fun x3 x4=>Af .u64 x3 fun x5=>Ac x4<|some (A0.mk [.sc (.int .u64 x5)] [])) (Ae C0 Tryz.prog fu d):=by kernel_rfl
abbrev Is:FuncId:=54
theorem Rh (fu d:Nat)(a0_0 a0_1:Int)(a0_2 a0_3 a0_4:Int)(Yb:Nat)(a0_5:List PV)(a0_6 a0_7:Int):Ae C0 Tryz.prog fu (d+1) Is [.agg [.sc (.int .u64 a0_0),.sc (.int .i64 a0_1),.sc (.int .i64 a0_2),.sc (.int .i64 a0_3),.sc (.int .u64 a0_4),.lst false 1 Yb a0_5,.sc (.int .i64 a0_6),.sc (.int .u64 a0_7)]]=(fun (call:Ar)=>Aa (IQ .i64 a0_1 93) fun x1=>A4 (x1 != 0) (some (A0.mk [.sc (.int .i64 9)] [])) (Aj (call 80 [.sc (.int .i64 a0_2),.sc (.int .i64 0),.sc (.int .i64 16)]) fun x2 x3=>Ac x3<|Ab x2 fun x4 x5=>Bx x4 fun x6=>Ac x5<|A4 (!x6) (some (A0.mk [.sc (.int .i64 9)] [])) (Aj (call 80 [.sc (.int .i64 a0_3),.sc (.int .i64 0),.sc (.int .i64 15)]) fun x7 x8=>Ac x8<|Ab x7 fun x9 Ck=>Bx x9 fun Bn=>Ac Ck<|A4 (!Bn) (some (A0.mk [.sc (.int .i64 9)] [])) (Aa (Ed .i64 a0_1 16) fun Cw=>A4 (Cw != 0) (Aa (Ed .i64 a0_1 8) fun Da=>A4 (Da==0) (some (A0.mk [.sc (.int .i64 18)] [])) (Aa (Ed .i64 a0_1 64) fun Cq=>A4 (Cq==0) (A4 (a0_4 != 0) (some (A0.mk [.sc (.int .i64 4)] [])) (A4 (decide ((↑Yb:Int)>0)) (some (A0.mk [.sc (.int .i64 4)] [])) (A4 (!(a0_6==0&&(a0_7==0&&true))) (some (A0.mk [.sc (.int .i64 4)] [])) (some (A0.mk [.sc (.int .i64 0)] []))))) (A4 ((↑Yb:Int) != 176) (some (A0.mk [.sc (.int .i64 4)] [])) (Aj (call 68 [.agg [.sc (.int .i64 a0_6),.sc (.int .u64 a0_7)]]) fun Cy Db=>Ac Db<|Ab Cy fun Dq D2=>Dc 1 Dq fun D0 D9=>Ab D2 fun Fj Cn=>Af .i64 Fj fun Fn=>Ac Cn<|some (A0.mk [.sc (.int .i64 Fn)] []))))) (Aa (Ed .i64 a0_1 64) fun Dj=>A4 (Dj==0) (A4 (a0_4 != 0) (some (A0.mk [.sc (.int .i64 4)] [])) (A4 (decide ((↑Yb:Int)>0)) (some (A0.mk [.sc (.int .i64 4)] [])) (A4 (!(a0_6==0&&(a0_7==0&&true))) (some (A0.mk [.sc (.int .i64 4)] [])) (some (A0.mk [.sc (.int .i64 0)] []))))) (A4 ((↑Yb:Int) != 176) (some (A0.mk [.sc (.int .i64 4)] [])) (Aj (call 68 [.agg [.sc (.int .i64 a0_6),.sc (.int .u64 a0_7)]]) fun B3 Et=>Ac Et<|Ab B3 fun F1 Bm=>Dc 1 F1 fun Cj Gt=>Ab Bm fun Gu Hz=>Af .i64 Gu fun Ha=>Ac Hz<|some (A0.mk [.sc (.int .i64 Ha)] [])))))))) (Ae C0 Tryz.prog fu d):=by kernel_rfl
abbrev Jz:FuncId:=50
theorem To (fu d:Nat)(a0_0 a0_1:Int)(a0_2 a0_3 a0_4:Int)(Yb:Nat)(a0_5:List PV)(a0_6 a0_7:Int):Ae C0 Tryz.prog fu (d+1) Jz [.agg [.sc (.int .u64 a0_0),.sc (.int .i64 a0_1),.sc (.int .i64 a0_2),.sc (.int .i64 a0_3),.sc (.int .u64 a0_4),.lst false 1 Yb a0_5,.sc (.int .i64 a0_6),.sc (.int .u64 a0_7)]]=(fun (call:Ar)=>Aj (call 54 [.agg [.sc (.int .u64 a0_0),.sc (.int .i64 a0_1),.sc (.int .i64 a0_2),.sc (.int .i64 a0_3),.sc (.int .u64 a0_4),.lst false 1 Yb a0_5,.sc (.int .i64 a0_6),.sc (.int .u64 a0_7)]]) fun x1 x2=>Ac x2<|Ab x1 fun x3 x4=>Af .i64 x3 fun x5=>Ac x4<|A4 (x5 != 0) (some (A0.mk [.own 1 0 [],.sc (.int .i64 x5)] [])) (Aj (call 38 [.lst false 1 1 [.sc (.int .u64 a0_0)]]) fun x6 x7=>Ac x7<|Ab x6 fun x8 x9=>Dc 1 x8 fun Ck Bn=>Ac x9<|Aa (wrap .u8 a0_1) fun Cw=>Aa (wrap .u8 a0_2) fun Da=>Aa (wrap .u8 a0_3) fun Cq=>Ay (decide (Ck*1<=Bn.length)&&true&&decide ((Ck+3)*1<=1099511627776)&&decide (Ck+3<=1099511627776))<|Aa (Ck+3) fun Cy=>Aa (List.take (Ck*1) Bn++[.sc (.int .u8 Cw),.sc (.int .u8 Da),.sc (.int .u8 Cq)]) fun Db=>Aa (Ed .i64 a0_1 64) fun Dq=>A4 (Dq != 0) (Aj (call 68 [.agg [.sc (.int .i64 a0_6),.sc (.int .u64 a0_7)]]) fun D2 D0=>Ac D0<|Ab D2 fun D9 Fj=>Dc 1 D9 fun Cn Fn=>Ab Fj fun Dj B3=>Af .i64 Dj fun Et=>Ac B3<|Aj (call 38 [.lst false 1 1 [.sc (.int .u64 a0_4)]]) fun F1 Bm=>Ac Bm<|Ab F1 fun Cj Gt=>Dc 1 Cj fun Gu Hz=>Ac Gt<|Ay (decide (0+Gu*1<=Hz.length))<|Ay (decide (Cy*1<=Db.length)&&decide (List.length (List.take (Gu*1) (List.drop 0 Hz))=Gu*1)&&decide ((Cy+Gu)*1<=1099511627776)&&decide (Cy+Gu<=1099511627776))<|Aa (Cy+Gu) fun Ha=>Aa (List.take (Cy*1) Db++List.take (Gu*1) (List.drop 0 Hz)) fun Il=>Ay (decide (Ha*1<=Il.length)&&decide (a0_5.length=Yb*1)&&decide ((Ha+Yb)*1<=1099511627776)&&decide (Ha+Yb<=1099511627776))<|Aa (Ha+Yb) fun G4=>Aa (List.take (Ha*1) Il++a0_5) fun Ir=>Ay (decide (0+Cn*1<=Fn.length))<|Ay (decide (G4*1<=Ir.length)&&decide (List.length (List.take (Cn*1) (List.drop 0 Fn))=Cn*1)&&decide ((G4+Cn)*1<=1099511627776)&&decide (G4+Cn<=1099511627776))<|Aa (G4+Cn) fun Kr=>Aa (List.take (G4*1) Ir++List.take (Cn*1) (List.drop 0 Fn)) fun F0=>Ay (decide (Kr*1<=F0.length))<|some (A0.mk [.own 1 Kr (List.take (Kr*1) F0),.sc (.int .i64 0)] [])) (Ay (decide (Cy*1<=Db.length))<|some (A0.mk [.own 1 Cy (List.take (Cy*1) Db),.sc (.int .i64 0)] [])))) (Ae C0 Tryz.prog fu d):=by kernel_rfl
abbrev Jv:FuncId:=26
theorem Tk (fu d a0n:Nat)(a0:List PV):Ae C0 Tryz.prog fu (d+1) Jv [.lst false 1 a0n a0]=(fun (call:Ar)=>A4 ((↑a0n:Int) != 11) (A4 ((↑a0n:Int) != 204) (some (A0.mk [.agg [.sc (.int .u64 0),.sc (.int .i64 0),.sc (.int .i64 0),.sc (.int .i64 0),.sc (.int .u64 0),.lst false 1 0 [],.sc (.int .i64 0),.sc (.int .u64 0)],.sc (.int .i64 2)] [])) (Ay (decide (8<=a0n))<|Aa (List.take 8 (List.drop 0 a0)) fun x1=>Aj (call 53 [.lst false 1 8 x1]) fun x2 x3=>Ac x3<|Ab x2 fun x4 x5=>Af .u64 x4 fun x6=>Ac x5<|Ay (decide (8<(↑a0n:Int)))<|Af .u8 (List.getD a0 8 .top) fun x7=>Aa (wrap .i64 x7) fun x8=>Ay (decide (9<(↑a0n:Int)))<|Af .u8 (List.getD a0 9 .top) fun x9=>Aa (wrap .i64 x9) fun Ck=>Ay (decide (10<(↑a0n:Int)))<|Af .u8 (List.getD a0 10 .top) fun Bn=>Aa (wrap .i64 Bn) fun Cw=>A4 (decide ((↑a0n:Int)>11)) (Ay (decide (195<=a0n)&&decide (a0n<=a0n))<|Aa (a0n-195) fun Da=>Aa (List.take (Da*1) (List.drop 195 a0)) fun Cq=>Aj (call 43 [.lst false 1 Da Cq]) fun Cy Db=>Ac Db<|Ab Cy fun Dq D2=>C2 Dq fun D0=>Ab D0 fun D9 Fj=>Af .i64 D9 fun Cn=>Ab Fj fun Fn Dj=>Af .u64 Fn fun B3=>Ac Dj<|Ab D2 fun Et F1=>Af .i64 Et fun Bm=>Ac F1<|A4 (Bm != 0) (some (A0.mk [.agg [.sc (.int .u64 0),.sc (.int .i64 0),.sc (.int .i64 0),.sc (.int .i64 0),.sc (.int .u64 0),.lst false 1 0 [],.sc (.int .i64 0),.sc (.int .u64 0)],.sc (.int .i64 2)] [])) (Ay (decide (19<=a0n))<|Aa (List.take 8 (List.drop 11 a0)) fun Cj=>Aj (call 53 [.lst false 1 8 Cj]) fun Gt Gu=>Ac Gu<|Ab Gt fun Hz Ha=>Af .u64 Hz fun Il=>Ac Ha<|Ay (decide (195<=a0n))<|Aa (List.take 176 (List.drop 19 a0)) fun G4=>Ay (decide (G4.length=176)&&true&&true)<|Ay (decide (176<=G4.length))<|Aj (call 54 [.agg [.sc (.int .u64 x6),.sc (.int .i64 x8),.sc (.int .i64 Ck),.sc (.int .i64 Cw),.sc (.int .u64 Il),.lst false 1 176 (List.take 176 (List.drop 0 G4)),.sc (.int .i64 Cn),.sc (.int .u64 B3)]]) fun Ir Kr=>Ac Kr<|Ab Ir fun F0 H2=>Af .i64 F0 fun Nc=>Ac H2<|A4 (Nc != 0) (some (A0.mk [.agg [.sc (.int .u64 0),.sc (.int .i64 0),.sc (.int .i64 0),.sc (.int .i64 0),.sc (.int .u64 0),.lst false 1 0 [],.sc (.int .i64 0),.sc (.int .u64 0)],.sc (.int .i64 2)] [])) (Aa (Ed .i64 x8 64) fun Ot=>A4 (!decide ((↑a0n:Int)>11)==(Ot != 0)) (some (A0.mk [.agg [.sc (.int .u64 0),.sc (.int .i64 0),.sc (.int .i64 0),.sc (.int .i64 0),.sc (.int .u64 0),.lst false 1 0 [],.sc (.int .i64 0),.sc (.int .u64 0)],.sc (.int .i64 2)] [])) (Ay (decide (176<=G4.length))<|some (A0.mk [.agg [.sc (.int .u64 x6),.sc (.int .i64 x8),.sc (.int .i64 Ck),.sc (.int .i64 Cw),.sc (.int .u64 Il),.lst false 1 176 (List.take 176 (List.drop 0 G4)),.sc (.int .i64 Cn),.sc (.int .u64 B3)],.sc (.int .i64 0)] []))))) (Aj (call 54 [.agg [.sc (.int .u64 x6),.sc (.int .i64 x8),.sc (.int .i64 Ck),.sc (.int .i64 Cw),.sc (.int .u64 0),.lst false 1 0 [],.sc (.int .i64 0),.sc (.int .u64 0)]]) fun Kc J5=>Ac J5<|Ab Kc fun Nk Md=>Af .i64 Nk fun Oo=>Ac Md<|A4 (Oo != 0) (some (A0.mk [.agg [.sc (.int .u64 0),.sc (.int .i64 0),.sc (.int .i64 0),.sc (.int .i64 0),.sc (.int .u64 0),.lst false 1 0 [],.sc (.int .i64 0),.sc (.int .u64 0)],.sc (.int .i64 2)] [])) (Aa (Ed .i64 x8 64) fun Py=>A4 (!decide ((↑a0n:Int)>11)==(Py != 0)) (some (A0.mk [.agg [.sc (.int .u64 0),.sc (.int .i64 0),.sc (.int .i64 0),.sc (.int .i64 0),.sc (.int .u64 0),.lst false 1 0 [],.sc (.int .i64 0),.sc (.int .u64 0)],.sc (.int .i64 2)] [])) (some (A0.mk [.agg [.sc (.int .u64 x6),.sc (.int .i64 x8),.sc (.int .i64 Ck),.sc (.int .i64 Cw),.sc (.int .u64 0),.lst false 1 0 [],.sc (.int .i64 0),.sc (.int .u64 0)],.sc (.int .i64 0)] [])))))) (Ay (decide (8<=a0n))<|Aa (List.take 8 (List.drop 0 a0)) fun Pw=>Aj (call 53 [.lst false 1 8 Pw]) fun Ox Rb=>Ac Rb<|Ab Ox fun Q5 Q0=>Af .u64 Q5 fun Ks=>Ac Q0<|Ay (decide (8<(↑a0n:Int)))<|Af .u8 (List.getD a0 8 .top) fun S9=>Aa (wrap .i64 S9) fun Ql=>Ay (decide (9<(↑a0n:Int)))<|Af .u8 (List.getD a0 9 .top) fun Ru=>Aa (wrap .i64 Ru) fun Nz=>Ay (decide (10<(↑a0n:Int)))<|Af .u8 (List.getD a0 10 .top) fun Pz=>Aa (wrap .i64 Pz) fun Q9=>A4 (decide ((↑a0n:Int)>11)) (Ay (decide (195<=a0n)&&decide (a0n<=a0n))<|Aa (a0n-195) fun Rk=>Aa (List.take (Rk*1) (List.drop 195 a0)) fun Pr=>Aj (call 43 [.lst false 1 Rk Pr]) fun Te Uv=>Ac Uv<|Ab Te fun S7 Rz=>C2 S7 fun Ro=>Ab Ro fun Q7 Vv=>Af .i64 Q7 fun Tn=>Ab Vv fun S5 Tj=>Af .u64 S5 fun Uz=>Ac Tj<|Ab Rz fun Tm S8=>Af .i64 Tm fun Rr=>Ac S8<|A4 (Rr != 0) (some (A0.mk [.agg [.sc (.int .u64 0),.sc (.int .i64 0),.sc (.int .i64 0),.sc (.int .i64 0),.sc (.int .u64 0),.lst false 1 0 [],.sc (.int .i64 0),.sc (.int .u64 0)],.sc (.int .i64 2)] [])) (Ay (decide (19<=a0n))<|Aa (List.take 8 (List.drop 11 a0)) fun Vg=>Aj (call 53 [.lst false 1 8 Vg]) fun T0 Vl=>Ac Vl<|Ab T0 fun W8 Wv=>Af .u64 W8 fun Yq=>Ac Wv<|Ay (decide (195<=a0n))<|Aa (List.take 176 (List.drop 19 a0)) fun Wu=>Ay (decide (Wu.length=176)&&true&&true)<|Ay (decide (176<=Wu.length))<|Aj (call 54 [.agg [.sc (.int .u64 Ks),.sc (.int .i64 Ql),.sc (.int .i64 Nz),.sc (.int .i64 Q9),.sc (.int .u64 Yq),.lst false 1 176 (List.take 176 (List.drop 0 Wu)),.sc (.int .i64 Tn),.sc (.int .u64 Uz)]]) fun X5 Xq=>Ac Xq<|Ab X5 fun Y5 Z3=>Af .i64 Y5 fun AL=>Ac Z3<|A4 (AL != 0) (some (A0.mk [.agg [.sc (.int .u64 0),.sc (.int .i64 0),.sc (.int .i64 0),.sc (.int .i64 0),.sc (.int .u64 0),.lst false 1 0 [],.sc (.int .i64 0),.sc (.int .u64 0)],.sc (.int .i64 2)] [])) (Aa (Ed .i64 Ql 64) fun Re=>A4 (!decide ((↑a0n:Int)>11)==(Re != 0)) (some (A0.mk [.agg [.sc (.int .u64 0),.sc (.int .i64 0),.sc (.int .i64 0),.sc (.int .i64 0),.sc (.int .u64 0),.lst false 1 0 [],.sc (.int .i64 0),.sc (.int .u64 0)],.sc (.int .i64 2)] [])) (Ay (decide (176<=Wu.length))<|some (A0.mk [.agg [.sc (.int .u64 Ks),.sc (.int .i64 Ql),.sc (.int .i64 Nz),.sc (.int .i64 Q9),.sc (.int .u64 Yq),.lst false 1 176 (List.take 176 (List.drop 0 Wu)),.sc (.int .i64 Tn),.sc (.int .u64 Uz)],.sc (.int .i64 0)] []))))) (Aj (call 54 [.agg [.sc (.int .u64 Ks),.sc (.int .i64 Ql),.sc (.int .i64 Nz),.sc (.int .i64 Q9),.sc (.int .u64 0),.lst false 1 0 [],.sc (.int .i64 0),.sc (.int .u64 0)]]) fun S6 Uc=>Ac Uc<|Ab S6 fun GO DV=>Af .i64 GO fun FL=>Ac DV<|A4 (FL != 0) (some (A0.mk [.agg [.sc (.int .u64 0),.sc (.int .i64 0),.sc (.int .i64 0),.sc (.int .i64 0),.sc (.int .u64 0),.lst false 1 0 [],.sc (.int .i64 0),.sc (.int .u64 0)],.sc (.int .i64 2)] [])) (Aa (Ed .i64 Ql 64) fun JV=>A4 (!decide ((↑a0n:Int)>11)==(JV != 0)) (some (A0.mk [.agg [.sc (.int .u64 0),.sc (.int .i64 0),.sc (.int .i64 0),.sc (.int .i64 0),.sc (.int .u64 0),.lst false 1 0 [],.sc (.int .i64 0),.sc (.int .u64 0)],.sc (.int .i64 2)] [])) (some (A0.mk [.agg [.sc (.int .u64 Ks),.sc (.int .i64 Ql),.sc (.int .i64 Nz),.sc (.int .i64 Q9),.sc (.int .u64 0),.lst false 1 0 [],.sc (.int .i64 0),.sc (.int .u64 0)],.sc (.int .i64 0)] [])))))) (Ae C0 Tryz.prog fu d):=by kernel_rfl
abbrev Mk:FuncId:=27
theorem Wz (fu d a0n:Nat)(a0:List PV)(a1:Int):Ae C0 Tryz.prog fu (d+1) Mk [.lst false 1 a0n a0,.sc (.int .u64 a1)]=(fun (call:Ar)=>Ay (decide (a0.length=a0n*1)&&decide (a0n*1<=1099511627776)&&decide (a0n<=1099511627776))<|Aj (call 38 [.lst false 1 1 [.sc (.int .u64 a1)]]) fun x1 x2=>Ac x2<|Ab x1 fun x3 x4=>Dc 1 x3 fun x5 x6=>Ac x4<|Ay (decide (0+x5*1<=x6.length))<|Ay (decide (a0n*1<=a0.length)&&decide (List.length (List.take (x5*1) (List.drop 0 x6))=x5*1)&&decide ((a0n+x5)*1<=1099511627776)&&decide (a0n+x5<=1099511627776))<|Aa (a0n+x5) fun x7=>Aa (List.take (a0n*1) a0++List.take (x5*1) (List.drop 0 x6)) fun x8=>Ay (decide (0+x7*1<=x8.length))<|Aj (call 46 [.sc (.int .i64 13),.lst false 1 x7 (List.take (x7*1) (List.drop 0 x8))]) fun x9 Ck=>Ac Ck<|Ab x9 fun Bn Cw=>Af .u64 Bn fun Da=>Ac Cw<|some (A0.mk [.sc (.int .u64 Da)] [])) (Ae C0 Tryz.prog fu d):=by kernel_rfl
abbrev L7:FuncId:=28
theorem Wo (fu d:Nat)(a0:ByteArray):Ae C0 Tryz.prog fu (d+1) L7 [.sc (.string a0)]=(fun (call:Ar)=>Ay (decide (ByteArray.size a0<=1099511627776))<|Ay (decide (0+ByteArray.size a0*1<=List.length (Ct a0)))<|Aj (call 46 [.sc (.int .i64 11),.lst false 1 (ByteArray.size a0) (List.take (ByteArray.size a0*1) (List.drop 0 (Ct a0)))]) fun x1 x2=>Ac x2<|Ab x1 fun x3 x4=>Af .u64 x3 fun x5=>Ac x4<|some (A0.mk [.sc (.int .u64 x5)] [])) (Ae C0 Tryz.prog fu d):=by kernel_rfl
abbrev Nh:FuncId:=75
theorem Yf (fu d:Nat)(a0:Int):Ae C0 Tryz.prog fu (d+1) Nh [.sc (.int .i64 a0)]=(fun (call:Ar)=>A4 (a0==1) (some (A0.mk [.sc (.string (ByteArray.mk #[112,97,115,115,107,101,121,46,99,114,101,97,116,101]))] [])) (A4 (a0==2) (some (A0.mk [.sc (.string (ByteArray.mk #[112,97,115,115,107,101,121,46,103,101,116]))] [])) (some (A0.mk [.sc (.string (ByteArray.mk #[]))] [])))) (Ae C0 Tryz.prog fu d):=by kernel_rfl
abbrev Jx:FuncId:=77
noncomputable def Dh (fu:Nat)(call:Ar)(a0n:Nat)(a0:List PV)(nn y0:Nat)(y1:List PV)(y2:ByteArray)(y3:Int):Option A0:=Cz C0 Tryz.prog fu call 77 Tryz.f77 (B9 Tryz.f77) [.lst false 1 a0n a0] [.r,.r,.l,.r,.l] nn ⟨lk [(0,(.lst false 1 y0 y1)),(3,(.sc (.string y2))),(4,(.sc (.int .i64 y3)))],Gl []⟩
noncomputable def Cp (fu:Nat)(call:Ar)(a0n:Nat)(a0:List PV)(m0 nn y0:Nat)(y1:List PV)(y2:ByteArray)(y3 y4 y5:Int):Option A0:=Cz C0 Tryz.prog fu call 77 Tryz.f77 (B9 Tryz.f77) [.lst false 1 a0n a0] [.r,.r,.l,.r,.l,.i m0,.r,.l,.l,.r,.r,.r,.r,.l] nn ⟨lk [(0,(.lst false 1 y0 y1)),(3,(.sc (.string y2))),(4,(.sc (.int .i64 y3))),(5,(.sc (.int .u64 y4))),(6,(.sc (.int .i64 y5)))],Gl []⟩
theorem F5 (fu:Nat)(call:Ar)(a0n:Nat)(a0:List PV)(nn y0:Nat)(y1:List PV)(y2:ByteArray)(y3:Int):Dh fu call a0n a0 (nn+1) y0 y1 y2 y3=(A4 (decide (y3<(↑y0:Int))) (Ay (decide (0<=y3)&&decide (y3<(↑y0:Int)))<|Af .u8 (List.getD y1 (Int.toNat y3*1) .top) fun x1=>Aa (wrap .u64 x1) fun x2=>Aa (Ff .u64 x2 16) fun x3=>Aa (wrap .i64 (y3+1)) fun x4=>A4 (decide (x4<(↑y0:Int))) (Aa (wrap .i64 (y3+1)) fun x5=>Ay (decide (0<=x5)&&decide (x5<(↑y0:Int)))<|Af .u8 (List.getD y1 (Int.toNat x5*1) .top) fun x6=>Aa (wrap .u64 x6) fun x7=>Aa (Ff .u64 x7 8) fun x8=>Aa (CH .u64 x3 x8) fun x9=>Aa (wrap .i64 (y3+2)) fun Ck=>A4 (decide (Ck<(↑y0:Int))) (Aa (wrap .i64 (y3+2)) fun Bn=>Ay (decide (0<=Bn)&&decide (Bn<(↑y0:Int)))<|Af .u8 (List.getD y1 (Int.toNat Bn*1) .top) fun Cw=>Aa (wrap .u64 Cw) fun Da=>Aa (CH .u64 x9 Da) fun Cq=>Cp fu call a0n a0 nn (fu) (y0) (y1) (y2) (y3) Cq 0) (Cp fu call a0n a0 nn (fu) (y0) (y1) (y2) (y3) x9 0)) (Aa (wrap .i64 (y3+2)) fun Cy=>A4 (decide (Cy<(↑y0:Int))) (Aa (wrap .i64 (y3+2)) fun Db=>Ay (decide (0<=Db)&&decide (Db<(↑y0:Int)))<|Af .u8 (List.getD y1 (Int.toNat Db*1) .top) fun Dq=>Aa (wrap .u64 Dq) fun D2=>Aa (CH .u64 x3 D2) fun D0=>Cp fu call a0n a0 nn (fu) (y0) (y1) (y2) (y3) D0 0) (Cp fu call a0n a0 nn (fu) (y0) (y1) (y2) (y3) x3 0))) (some (A0.mk [.sc (.string y2)] []))):=by kernel_rfl
theorem F3 (fu:Nat)(call:Ar)(a0n:Nat)(a0:List PV)(m0 nn y0:Nat)(y1:List PV)(y2:ByteArray)(y3 y4 y5:Int):Cp fu call a0n a0 m0 (nn+1) y0 y1 y2 y3 y4 y5=(A4 (decide (y5<4)) (Aa (wrap .i64 ((↑y0:Int)-y3)) fun D9=>A4 (decide (y5<=D9)) (Aa (wrap .u64 y5) fun Fj=>Aa (wrap .u64 (6*Fj)) fun Cn=>Aa (wrap .u64 (18-Cn)) fun Fn=>Ay (decide (0<=Fn))<|Aa (El .u64 y4 Fn) fun Dj=>Aa (Ed .u64 Dj 63) fun B3=>Aa (wrap .u64 (B3+1)) fun Et=>Ay (decide (0<=B3))<|Ay (decide (0<=Et))<|Ay (decide (Int.toNat B3<=Int.toNat Et)&&decide (Int.toNat Et<=64))<|Aa (ByteArray.extract (ByteArray.mk #[65,66,67,68,69,70,71,72,73,74,75,76,77,78,79,80,81,82,83,84,85,86,87,88,89,90,97,98,99,100,101,102,103,104,105,106,107,108,109,110,111,112,113,114,115,116,117,118,119,120,121,122,48,49,50,51,52,53,54,55,56,57,45,95]) B3.toNat Et.toNat) fun F1=>Ay (decide (ByteArray.size y2+ByteArray.size F1<=9223372036854775807))<|Aa (y2++F1) fun Bm=>Aa (wrap .i64 (y5+1)) fun Cj=>Cp fu call a0n a0 m0 (nn) (y0) (y1) Bm (y3) (y4) Cj) (Aa (wrap .i64 (y3+3)) fun Gt=>Dh fu call a0n a0 (m0) (y0) (y1) (y2) Gt)) (Aa (wrap .i64 (y3+3)) fun Gu=>Dh fu call a0n a0 (m0) (y0) (y1) (y2) Gu)):=by kernel_rfl
theorem Tf (fu d a0n:Nat)(a0:List PV):Ae C0 Tryz.prog fu (d+1) Jx [.lst false 1 a0n a0]=(fun (call:Ar)=>Dh fu call a0n a0 (fu) (a0n) (a0) (ByteArray.mk #[]) 0) (Ae C0 Tryz.prog fu d):=by kernel_rfl
abbrev Jt:FuncId:=47
theorem Td (fu d:Nat)(a0_0:Int)(X9:Nat)(a0_1:List PV)(a0_2:ByteArray)(a0_3:Bool)(a0_4:ByteArray):Ae C0 Tryz.prog fu (d+1) Jt [.agg [.sc (.int .i64 a0_0),.lst false 1 X9 a0_1,.sc (.string a0_2),.sc (.bool a0_3),.sc (.string a0_4)]]=(fun (call:Ar)=>Aj (call 75 [.sc (.int .i64 a0_0)]) fun x1 x2=>Ac x2<|Ab x1 fun x3 x4=>Co x3 fun x5=>Ac x4<|A4 (Array.toList (ByteArray.data x5)==Array.toList (ByteArray.data (ByteArray.mk #[]))) (some (A0.mk [.sc (.string (ByteArray.mk #[])),.sc (.int .i64 3)] [])) (A4 (decide ((↑X9:Int)<1)) (some (A0.mk [.sc (.string (ByteArray.mk #[])),.sc (.int .i64 9)] [])) (A4 (decide ((↑X9:Int)>64)) (some (A0.mk [.sc (.string (ByteArray.mk #[])),.sc (.int .i64 9)] [])) (Aj (call 76 [.sc (.string a0_2)]) fun x6 x7=>Ac x7<|Ab x6 fun x8 x9=>C2 x8 fun Ck=>Ab Ck fun Bn Cw=>Bx Bn fun Da=>Ab Cw fun Cq Cy=>Co Cq fun Db=>Ab Cy fun Dq D2=>Af .i64 Dq fun D0=>Ac D2<|Ab x9 fun D9 Fj=>Af .i64 D9 fun Cn=>Ac Fj<|A4 (Cn != 0) (some (A0.mk [.sc (.string (ByteArray.mk #[])),.sc (.int .i64 Cn)] [])) (Aj (call 75 [.sc (.int .i64 a0_0)]) fun Fn Dj=>Ac Dj<|Ab Fn fun B3 Et=>Co B3 fun F1=>Ac Et<|Ay (decide (9+ByteArray.size F1<=9223372036854775807))<|Aa (ByteArray.mk #[123,34,116,121,112,101,34,58,34]++F1) fun Bm=>Ay (decide (ByteArray.size Bm+15<=9223372036854775807))<|Aa (Bm++ByteArray.mk #[34,44,34,99,104,97,108,108,101,110,103,101,34,58,34]) fun Cj=>Aj (call 77 [.lst false 1 X9 a0_1]) fun Gt Gu=>Ac Gu<|Ab Gt fun Hz Ha=>Co Hz fun Il=>Ac Ha<|Ay (decide (ByteArray.size Cj+ByteArray.size Il<=9223372036854775807))<|Aa (Cj++Il) fun G4=>Ay (decide (ByteArray.size G4+12<=9223372036854775807))<|Aa (G4++ByteArray.mk #[34,44,34,111,114,105,103,105,110,34,58,34]) fun Ir=>Ay (decide (ByteArray.size Ir+ByteArray.size a0_2<=9223372036854775807))<|Aa (Ir++a0_2) fun Kr=>Ay (decide (ByteArray.size Kr+16<=9223372036854775807))<|Aa (Kr++ByteArray.mk #[34,44,34,99,114,111,115,115,79,114,105,103,105,110,34,58]) fun F0=>A4 (!a0_3) (A4 (!Array.toList (ByteArray.data a0_4)==Array.toList (ByteArray.data (ByteArray.mk #[]))) (some (A0.mk [.sc (.string (ByteArray.mk #[])),.sc (.int .i64 4)] [])) (Ay (decide (ByteArray.size F0+6<=9223372036854775807))<|Aa (F0++ByteArray.mk #[102,97,108,115,101,125]) fun H2=>some (A0.mk [.sc (.string H2),.sc (.int .i64 0)] []))) (Aj (call 76 [.sc (.string a0_4)]) fun Nc Ot=>Ac Ot<|Ab Nc fun Kc J5=>C2 Kc fun Nk=>Ab Nk fun Md Oo=>Bx Md fun Py=>Ab Oo fun Pw Ox=>Co Pw fun Rb=>Ab Ox fun Q5 Q0=>Af .i64 Q5 fun Ks=>Ac Q0<|Ab J5 fun S9 Ql=>Af .i64 S9 fun Ru=>Ac Ql<|A4 (Ru != 0) (some (A0.mk [.sc (.string (ByteArray.mk #[])),.sc (.int .i64 Ru)] [])) (Ay (decide (ByteArray.size F0+18<=9223372036854775807))<|Aa (F0++ByteArray.mk #[116,114,117,101,44,34,116,111,112,79,114,105,103,105,110,34,58,34]) fun Nz=>Ay (decide (ByteArray.size Nz+ByteArray.size a0_4<=9223372036854775807))<|Aa (Nz++a0_4) fun Pz=>Ay (decide (ByteArray.size Pz+2<=9223372036854775807))<|Aa (Pz++ByteArray.mk #[34,125]) fun Q9=>some (A0.mk [.sc (.string Q9),.sc (.int .i64 0)] [])))))))) (Ae C0 Tryz.prog fu d):=by kernel_rfl
abbrev Rx:FuncId:=76
end
end Go.Proofs.YtgfgmbpmghgbkaaGreatDoor.Pv
