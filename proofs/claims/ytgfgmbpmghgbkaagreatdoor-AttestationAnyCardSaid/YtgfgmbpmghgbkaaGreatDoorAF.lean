/-
  The proof of AttestationAny, part 6 (texts Rd1 Rd2 Rd3 Rd4 Rd5 Ce7 Cp1 Cp2 GnM At1 At2 GnD Dk1 GnN Mk1).
-/
import Derived.Test.YtgfgmbpmghgbkaaGreatDoorAE
import Derived.Test.YtgfgmbpmghgbkaaGreatDoorRows
set_option linter.unusedSimpArgs false
set_option linter.unusedVariables false
namespace Go.Proofs.YtgfgmbpmghgbkaaGreatDoor.Pv
section
abbrev U5 (s:ByteArray)(at_:Nat)(o:List It):List PV:=[.sc (.string s),.sc (.int .i64 at_),.own 3 o.length (Bq o)]
theorem Ark {s:ByteArray}{i:Nat}{x:Int}(h:(Bz s)[i]?=some x):∃u:UInt8,s.data.toList[i]?=some u∧x=(u.toNat:Int):=by
 unfold Bz at h;rw [List.getElem?_map] at h;cases hu:s.data.toList[i]? with
 |none=>rw [hu] at h;cases h
 |some u=>rw [hu] at h;injection h with h;exact ⟨u,rfl,h.symm⟩
theorem strB_getElem? {s:ByteArray}{i:Nat}(h:i<(Bz s).length):∃x,(Bz s)[i]?=some x:=⟨_,List.getElem?_eq_getElem h⟩
def Wi (b:List Int)(at_:Nat):Nat:=if (Bg b at_).e=0 then (Bg b at_).at_ else at_
def A8z:List PV:=[PV.sc (Value.int IntKind.u64 (0:Int)),PV.sc (Value.int IntKind.u64 (24:Int)),PV.sc (Value.int IntKind.u64 (256:Int)),PV.sc (Value.int IntKind.u64 (0:Int)),PV.sc (Value.int IntKind.u64 (65536:Int)),PV.sc (Value.int IntKind.u64 (0:Int)),PV.sc (Value.int IntKind.u64 (0:Int)),PV.sc (Value.int IntKind.u64 (0:Int)),PV.sc (Value.int IntKind.u64 (4294967296:Int))]
def At9 (sz:Nat):Int:=if sz=0 then 0 else if sz=1 then 24 else if sz=2 then 256 else if sz=4 then 65536 else 4294967296
theorem Aod {sz:Nat}(h:sz=1∨sz=2∨sz=4∨sz=8)(n:Int):(n<At9 sz)↔Mr n<(sz:Int):=by
 unfold At9 Mr;rcases h with rfl|rfl|rfl|rfl
 all_goals simp
 all_goals repeat' split
 all_goals omega
section
variable {fu d:Nat}
theorem Abu {call:Aq}{a0_0:ByteArray}{a0_1:Int}{a0_2n:Nat}{a0_2:List PV}{s:ByteArray}{at_:Nat}{o:List It}{k y8 y9:Int}{y10:ByteArray}{sz:Nat}(hsz:sz=0∨sz=1∨sz=2∨sz=4∨sz=8)(hk:0<=k∧k<=5)(hl:s.size<=1000000)(ha:at_+1+sz<=s.size)(ho:o.length<=1000000):
    ∀(r:List Int) (i nn:Nat) (v:Int),(((Bz s).drop (at_+1)).take sz).drop i=r->r.length<nn->i<=sz ->
    Dc fu call a0_0 a0_1 a0_2n a0_2 nn k (sz:Int) v (i:Int) s (at_:Int) o.length (Bq o) y8 y9 y10 =
      (if r.foldl Fc v<At9 sz then some ⟨[.agg [.sc (.int .i64 0),.sc (.int .u64 0),.sc (.string C2)],.sc (.int .i64 2)],[U5 s at_ o]⟩
       else some ⟨[.agg [.sc (.int .i64 (1+k)),.sc (.int .u64 (r.foldl Fc v)),.sc (.string C2)],.sc (.int .i64 0)],[U5 s (at_+1+sz) o]⟩)
  |_,_,0,_,_,h,_=>by omega
  |[],i,nn+1,v,hd,hn,hi=>by
    have:=drop_nil hd
    have hs:=C7 s
    rw [List.length_take,List.length_drop] at this
    have L:=Eo o
    have t:List.take (o.length*3) (Bq o)=Bq o:=I2 (by omega)
    have w1:IntKind.wrap .i64 ((1:Int)+(sz:Int))=1+sz:=Au (by omega) (by omega)
    have w2:IntKind.wrap .i64 ((at_:Int)+(1+sz))=((at_+1+sz:Nat):Int):=by rw [Au (by omega) (by omega)];omega
    have g:∀q:List PV,q=A8z->q.getD (0+Int.toNat (sz:Int)*1) .top=.sc (.int .u64 (At9 sz)):=by
      intro q hq
      subst hq
      rcases hsz with rfl|rfl|rfl|rfl|rfl<;>rfl
    have gl:=g _ rfl
    have gk:∀q:List PV,q=[PV.sc (Value.int IntKind.i64 (1:Int)),PV.sc (Value.int IntKind.i64 (2:Int)),PV.sc (Value.int IntKind.i64 (3:Int)),PV.sc (Value.int IntKind.i64 (4:Int)),PV.sc (Value.int IntKind.i64 (5:Int)),PV.sc (Value.int IntKind.i64 (6:Int))]->q.getD (0+Int.toNat k*1) .top=.sc (.int .i64 (1+k)):=by
      intro q hq
      subst hq
      have:k=0∨k=1∨k=2∨k=3∨k=4∨k=5:=by omega
      rcases this with rfl|rfl|rfl|rfl|rfl|rfl<;>rfl
    have gk':=gk _ rfl
    unfold A8z at gl
    rw [Ie,Dj _ _ _ (by omega),List.foldl_nil]
    by_cases hs:v<At9 sz
    · rw [Bk hs]
      try unfold Aa
      repeat first
        |((with_reducible first|apply Ap|apply Ag|apply Am|apply Cf|apply Ah);· first|with_reducible rfl|(simp (disch:=omega) only [L,t,w1,w2,gl,gk']<;>with_reducible rfl))
        |((with_reducible first|apply Ao|apply Ak);· first|with_reducible rfl|omega|(simp (disch:=omega) only [gT,L,t,w1,w2,gl,gk']<;>omega))
        |(with_reducible apply Al;· first|with_reducible rfl|(simp (disch:=omega) only [gF,L,t,w1,w2,gl,gk']<;>omega))
      try simp (disch:=omega) only [L,t,w1,w2,gl,gk']
      all_goals rfl
    · rw [A3 hs]
      try unfold Aa
      repeat first
        |((with_reducible first|apply Ap|apply Ag|apply Am|apply Cf|apply Ah);· first|with_reducible rfl|(simp (disch:=omega) only [L,t,w1,w2,gl,gk']<;>with_reducible rfl))
        |((with_reducible first|apply Ao|apply Ak);· first|with_reducible rfl|omega|(simp (disch:=omega) only [gT,L,t,w1,w2,gl,gk']<;>omega))
        |(with_reducible apply Al;· first|with_reducible rfl|(simp (disch:=omega) only [gF,L,t,w1,w2,gl,gk']<;>omega))
      try simp (disch:=omega) only [L,t,w1,w2,gl,gk']
      all_goals rfl
  |x::r,i,nn+1,v,hd,hn,hi=>by
    obtain ⟨h1,h2,h3⟩:=Ca hd
    simp only [H0] at hn
    rw [List.length_take,List.length_drop] at h1
    have h2':(Bz s)[at_+1+i]?=some x:=by
      rw [List.getElem?_take_of_lt (by omega),List.getElem?_drop] at h2
      exact h2
    obtain ⟨u,hu,rfl⟩:=Ark h2'
    have w1:IntKind.wrap .i64 ((at_:Int)+1)=((at_+1:Nat):Int):=by rw [Au (by omega) (by omega)];omega
    have w2:IntKind.wrap .i64 (((at_+1:Nat):Int)+(i:Int))=((at_+1+i:Nat):Int):=by rw [Au (by omega) (by omega)];omega
    have w3:IntKind.wrap .i64 ((i:Int)+1)=((i+1:Nat):Int):=by rw [Au (by omega) (by omega)];omega
    have ih:=Abu (call:=call) (a0_0:=a0_0) (a0_1:=a0_1) (a0_2n:=a0_2n) (a0_2:=a0_2) (s:=s) (at_:=at_) (o:=o) (k:=k) (y8:=y8) (y9:=y9) (y10:=y10) hsz hk hl ha ho r (i+1) nn (Fc v u.toNat) h3 (by omega) (by omega)
    have nt:Int.toNat ((at_+1+i:Nat):Int)=at_+1+i:=G6 _
    rw [List.foldl_cons,←ih,Ie]
    try unfold Aa
    repeat first
      |((with_reducible first|apply Ap|apply Ag|apply Am|apply Cf|apply Ah);· first|with_reducible rfl|(simp (disch:=omega) only [w1,w2,w3,nt,hu]<;>with_reducible rfl))
      |((with_reducible first|apply Ao|apply Ak);· first|with_reducible rfl|omega|(simp (disch:=omega) only [gT,w1,w2,w3,nt,hu]<;>omega))
      |(with_reducible apply Al;· first|with_reducible rfl|(simp (disch:=omega) only [gF,w1,w2,w3,nt,hu]<;>omega))
    try simp (disch:=omega) only [w1,w2,w3,nt,hu]
    all_goals rfl
theorem Azd (hfu:1000<=fu){s:ByteArray}{at_:Nat}{o:List It}(hl:s.size<=1000000)(ho:o.length<=1000000):
  Ae C0 Tryz.prog fu (d+1) Jn [.pbox (U5 s at_ o)]=some ⟨[.agg [.sc (.int .i64 (Bg (Bz s) at_).k),.sc (.int .u64 (Bg (Bz s) at_).n),.sc (.string C2)],.sc (.int .i64 (Bg (Bz s) at_).e)],[U5 s (Wi (Bz s) at_) o]⟩:=by
 refine (Sj fu d s (at_:Int) o.length (Bq o)).trans ?_;have hs:=C7 s;have L:=Eo o;have t:List.take (o.length*3) (Bq o)=Bq o:=I2 (by omega)
 unfold Wi Bg;by_cases hlt:at_<(Bz s).length
 rotate_left
 ·have hg:(Bz s)[at_]?=none:=List.getElem?_eq_none (by omega)
  rw [hg]
  try unfold Aa
  repeat first
   |((with_reducible first|apply Ap|apply Ag|apply Am|apply Cf|apply Ah);· first|with_reducible rfl|(simp (disch:=omega) only [L,t]<;>with_reducible rfl))
   |((with_reducible first|apply Ao|apply Ak);· first|with_reducible rfl|omega|(simp (disch:=omega) only [gT,L,t]<;>omega))
   |(with_reducible apply Al;· first|with_reducible rfl|(simp (disch:=omega) only [gF,L,t]<;>omega))
  try simp (disch:=omega) only [L,t]
  all_goals rfl
 obtain ⟨x,hg⟩:=strB_getElem? hlt;have hB:=R2 s _ (List.mem_of_getElem? hg);obtain ⟨u,hu,hxu⟩:=Ark hg;rw [hg];have nt:Int.toNat (at_:Int)=at_:=G6 _;have w1:IntKind.wrap .i64 ((at_:Int)+1)=((at_+1:Nat):Int):=by rw [Au (by omega) (by omega)];omega
 have s5:=A81 hB.1;have a31:=A6o hB.1 hB.2;rw [hxu] at s5 a31 hB ⊢;show A4 _ _ _=_;rw [Dj _ _ _ (by omega),Zt _ _ (by omega),nt,hu,Awe]
 clear hxu hu hg;generalize ((u.toNat:Nat):Int)=y at s5 a31 hB ⊢;unfold U9;simp only;have e20:((2:Int)=0)=False:=by simp
 have e10:((1:Int)=0)=False:=by simp
 by_cases c1:y=244
 ·subst c1;have q:IntKind.wrap .u64 (IntKind.wrap .u8 ((244:Int)-244))=0:=by decide
  simp (disch:=omega) only [B6,Int.reduceBEq,w1,L,t,q]
 rw [A3 c1];have b1:(y==(244:Int))=false:=by simp [c1]
 by_cases c2:y=245
 ·subst c2;have q:IntKind.wrap .u64 (IntKind.wrap .u8 ((245:Int)-244))=1:=by decide
  simp (disch:=omega) only [B6,Int.reduceBEq,w1,L,t,q,if_true]
 rw [A3 c2];have b2:(y==(245:Int))=false:=by simp [c2]
 by_cases c3:y=246
 ·subst c3;simp (disch:=omega) only [B6,Int.reduceBEq,w1,L,t,if_true]
 rw [A3 c3];have b3:(y==(246:Int))=false:=by simp [c3]
 have wk1:IntKind.wrap .i64 (y / 32)=y / 32:=Au (by omega) (by omega)
 have wk2:IntKind.wrap .i64 (y % 32)=y % 32:=Au (by omega) (by omega)
 by_cases c4:y / 32>5
 ·rw [Bk c4];simp (disch:=omega) only [B6,b1,b2,b3,s5,a31,wk1,wk2,L,t,e20]
 rw [A3 c4];by_cases c5:y % 32>27
 ·rw [Bk c5];simp (disch:=omega) only [B6,b1,b2,b3,s5,a31,wk1,wk2,L,t,e20]
 rw [A3 c5];have w6:IntKind.wrap .i64 ((s.size:Int)-(at_:Int))=((s.size-at_:Nat):Int):=by rw [Au (by omega) (by omega)];omega
 have w7:IntKind.wrap .i64 (((s.size-at_:Nat):Int)-1)=((s.size-(at_+1):Nat):Int):=by rw [Au (by omega) (by omega)];omega
 have wu:IntKind.wrap .u64 (y % 32)=y % 32:=B7 (by omega) (by omega)
 by_cases c6:y % 32<24
 ·have lp:=Abu (fu:=fu) (call:=Ae C0 Tryz.prog fu d) (a0_0:=s) (a0_1:=(at_:Int)) (a0_2n:=o.length) (a0_2:=Bq o) (s:=s) (at_:=at_) (o:=o) (k:=y / 32) (y8:=0) (y9:=0) (y10:=C2) (sz:=0) (.inl rfl) (by omega) hl (by omega) ho [] 0 fu (y % 32) rfl (by simp;omega) (by omega)
  have e0:¬(y % 32<At9 0):=by unfold At9;simp;omega
  rw [List.foldl_nil,A3 e0] at lp;rw [Bk c6];simp (disch:=omega) only [B6,b1,b2,b3,s5,a31,wk1,wk2,w6,w7,wu];exact lp
 rw [A3 c6];have q1:IntKind.wrap .i64 (y % 32-24)=y % 32-24:=Au (by omega) (by omega)
 have q1':IntKind.wrap .u64 (y % 32-24)=y % 32-24:=B7 (by omega) (by omega)
 have q2:Fk .i64 1 (y % 32-24)=(szE (y % 32):Int):=by
  have:y % 32=24∨y % 32=25∨y % 32=26∨y % 32=27:=by omega
  rcases this with h|h|h|h<;>rw [h]<;>decide
 have q3:szE (y % 32)=1∨szE (y % 32)=2∨szE (y % 32)=4∨szE (y % 32)=8:=by
  unfold szE
  repeat' split
  all_goals omega
 generalize szE (y % 32)=sz at q2 q3 ⊢;rw [hs];by_cases c7:s.size-(at_+1)<sz
 ·rw [Bk c7];simp (disch:=omega) only [B6,b1,b2,b3,s5,a31,wk1,wk2,w6,w7,wu,q1,q1',q2,L,t,e10]
 rw [A3 c7];have lp:=Abu (fu:=fu) (call:=Ae C0 Tryz.prog fu d) (a0_0:=s) (a0_1:=(at_:Int)) (a0_2n:=o.length) (a0_2:=Bq o) (s:=s) (at_:=at_) (o:=o) (k:=y / 32) (y8:=0) (y9:=0) (y10:=C2) (sz:=sz) (by omega) (by omega) hl (by omega) ho _ 0 fu 0 rfl (by rw [Cm,List.length_take];omega) (by omega)
 rw [Cm] at lp;unfold Aah;by_cases c8:Mr ((((Bz s).drop (at_+1)).take sz).foldl Fc 0)<sz
 ·rw [Bk ((Aod q3 _).2 c8)] at lp;rw [Bk c8];simp (disch:=omega) only [B6,b1,b2,b3,s5,a31,wk1,wk2,w6,w7,wu,q1,q1',q2,e20];exact lp
 ·rw [A3 (fun h=>c8 ((Aod q3 _).1 h))] at lp
  rw [A3 c8];simp (disch:=omega) only [B6,b1,b2,b3,s5,a31,wk1,wk2,w6,w7,wu,q1,q1',q2];exact lp
end
end
section
def Atl (a c:ByteArray):Bool:=if a.size=c.size then Op.bytesLess a.data.toList c.data.toList else decide (a.size<c.size)
def Af9 (k:Int):Bool:=if k=1 then true else if k=2 then true else k==4
def Mk (k:Int):Bool:=k==3||k==4
def Pz (k:Int):Bool:=k==5||k==6
def J1 (k n depth:Int)(key:Bool)(olen rest:Nat):Int:=
 if 512<=olen then 8 else if key=true∧Af9 k=false then 3 else if depth>8 then 5 else if Mk k=true∧n>1024 then 8 else if Pz k=true∧n>512 then 8 else if Mk k=true∧(rest:Int)<n then 1 else 0
def H6 (key:Bool)(before:ByteArray)(x:It):Int:=
 if x.k=4∧okS x.s=false then 6 else if key=true∧Adq before=false∧Atl before (Bo (Bv x))=false then 7 else 0
theorem Aqb {s:ByteArray}{a n:Nat}:s.extract a (a+n)=Bo (((Bz s).drop a).take n):=by
 rw [←Qj (s.extract a (a+n))]
 congr 1
 unfold Bz;rw [ByteArray.data_extract,Array.toList_extract,List.extract_eq_take_drop,Nat.add_sub_cancel_left,List.map_take,List.map_drop]
section
variable {fu d:Nat}
theorem Aw1 (a c:ByteArray):Ae C0 Tryz.prog fu (d+1) Rs [.sc (.string a),.sc (.string c)]=some ⟨[.sc (.bool (Atl a c))],[]⟩:=by
 rw [Ac0];unfold Atl;by_cases h:a.size=c.size
 ·have:((a.size:Int) != (c.size:Int))=false:=by simp [h]
  rw [Bk h];simp only [B6,this]
 ·have e:((a.size:Int) != (c.size:Int))=true:=by simp;omega
  rw [A3 h];simp only [B6,e,Int.ofNat_lt]
theorem A35 (k:Int):Ae C0 Tryz.prog fu (d+1) Qb [.sc (.int .i64 k)]=some ⟨[.sc (.bool (Af9 k))],[]⟩:=by
 rw [Aa4];unfold Af9;by_cases h1:k=1
 ·subst h1;rfl
 ·by_cases h2:k=2
  ·subst h2;rfl
  ·have b1:(k==(1:Int))=false:=by simp [h1]
   have b2:(k==(2:Int))=false:=by simp [h2]
   rw [A3 h1,A3 h2];simp only [B6,b1,b2]
theorem Av7 {a0_0:ByteArray}{a0_1:Int}{a0_2n:Nat}{a0_2:List PV}{a1:Int}{a2:Bool}{a3:ByteArray}(hfu:1000<=fu){depth n k nn':Int}{key nest:Bool}{before s t:ByteArray}{at_:Nat}{o:List It}{nn:Nat}(hnn:0<nn)(ho:o.length<=1000)(hk:1<=k∧k<=8)(hn:0<=nn')(ht:t.size<=500000)(hd:It.dat ⟨k,nn',t⟩):
    At fu (Ae C0 Tryz.prog fu (d+3)) a0_0 a0_1 a0_2n a0_2 a1 a2 a3 nn depth key before n false nest s (at_:Int) o.length (Bq o) k nn' t =
      (if H6 key before ⟨k,nn',t⟩=0 then Ba fu (Ae C0 Tryz.prog fu (d+3)) a0_0 a0_1 a0_2n a0_2 a1 a2 a3 fu depth n nest C2 0 s (at_:Int) (o++[It.mk k nn' t]).length (Bq (o++[It.mk k nn' t])) k nn' t
       else some ⟨[.sc (.int .i64 (H6 key before ⟨k,nn',t⟩))],[U5 s at_ o]⟩):=by
  have L:=Eo o
  have tt:List.take (o.length*3) (Bq o)=Bq o:=I2 (by omega)
  have va:=Lw (fu:=fu) (d:=d+2) t (by omega)
  have by_:=Z1 (fu:=fu) (d:=d) (x:=⟨k,nn',t⟩) hfu ⟨hk.1,hk.2,hn,ht⟩ hd
  have ls:=Aw1 (fu:=fu) (d:=d+2) before (Bo (Bv ⟨k,nn',t⟩))
  have e:Bq (o++[It.mk k nn' t])=Bq o++[PV.sc (Value.int IntKind.i64 k),PV.sc (Value.int IntKind.u64 nn'),PV.sc (Value.string t)]:=Ad0 o [It.mk k nn' t]
  have en:(o++[It.mk k nn' t]).length=o.length+1:=by simp
  have em:(Array.toList (ByteArray.data before)==Array.toList (ByteArray.data (ByteArray.mk #[])))=Adq before:=rfl
  rw [e,en,Id (hnn:=hnn)]
  unfold H6
  simp only at ls by_ ⊢
  unfold It.cells at by_
  have kk:((k=4)=True∧(k==(4:Int))=true)∨((k=4)=False∧(k==(4:Int))=false):=by
    by_cases h:k=4
    · exact .inl ⟨eq_true h,by simp [h]⟩
    · exact .inr ⟨eq_false h,by simp [h]⟩
  generalize Atl before (Bo (Bv ⟨k,nn',t⟩))=l at ls ⊢
  generalize Adq before=bb at em ⊢
  generalize okS t=v at va ⊢
  generalize Bo (Bv ⟨k,nn',t⟩)=B at by_ ls
  rcases kk with ⟨k4',k4⟩|⟨k4',k4⟩
  · cases v
    · simp (disch:=omega) only [B6,Int.reduceBEq,k4,va,em,by_,ls,L,tt,Bn,Br,and_self,true_and,and_true,and_false,false_and,if_true,if_false,Int.reduceEq,Bool.true_eq_false,Bool.false_eq_true,reduceCtorEq,k4']
    · cases key
      · simp (disch:=omega) only [B6,Int.reduceBEq,k4,va,em,by_,ls,L,tt,Bn,Br,and_self,true_and,and_true,and_false,false_and,if_true,if_false,Int.reduceEq,Bool.true_eq_false,Bool.false_eq_true,reduceCtorEq,k4']
      · cases bb
        · cases l
          · simp (disch:=omega) only [B6,Int.reduceBEq,k4,va,em,by_,ls,L,tt,Bn,Br,and_self,true_and,and_true,and_false,false_and,if_true,if_false,Int.reduceEq,Bool.true_eq_false,Bool.false_eq_true,reduceCtorEq,k4']
          · simp (disch:=omega) only [B6,Int.reduceBEq,k4,va,em,by_,ls,L,tt,Bn,Br,and_self,true_and,and_true,and_false,false_and,if_true,if_false,Int.reduceEq,Bool.true_eq_false,Bool.false_eq_true,reduceCtorEq,k4']
        · simp (disch:=omega) only [B6,Int.reduceBEq,k4,va,em,by_,ls,L,tt,Bn,Br,and_self,true_and,and_true,and_false,false_and,if_true,if_false,Int.reduceEq,Bool.true_eq_false,Bool.false_eq_true,reduceCtorEq,k4']
  · cases key
    · simp (disch:=omega) only [B6,Int.reduceBEq,k4,va,em,by_,ls,L,tt,Bn,Br,and_self,true_and,and_true,and_false,false_and,if_true,if_false,Int.reduceEq,Bool.true_eq_false,Bool.false_eq_true,reduceCtorEq,k4']
    · cases bb
      · cases l
        · simp (disch:=omega) only [B6,Int.reduceBEq,k4,va,em,by_,ls,L,tt,Bn,Br,and_self,true_and,and_true,and_false,false_and,if_true,if_false,Int.reduceEq,Bool.true_eq_false,Bool.false_eq_true,reduceCtorEq,k4']
        · simp (disch:=omega) only [B6,Int.reduceBEq,k4,va,em,by_,ls,L,tt,Bn,Br,and_self,true_and,and_true,and_false,false_and,if_true,if_false,Int.reduceEq,Bool.true_eq_false,Bool.false_eq_true,reduceCtorEq,k4']
      · simp (disch:=omega) only [B6,Int.reduceBEq,k4,va,em,by_,ls,L,tt,Bn,Br,and_self,true_and,and_true,and_false,false_and,if_true,if_false,Int.reduceEq,Bool.true_eq_false,Bool.false_eq_true,reduceCtorEq,k4']
theorem Ayz {a0_0:ByteArray}{a0_1:Int}{a0_2n:Nat}{a0_2:List PV}{a1:Int}{a2:Bool}{a3:ByteArray}(hfu:1000<=fu){depth k:Int}{n nn':Nat}{key nest:Bool}{before s t0:ByteArray}{at_:Nat}{o:List It}{nn:Nat}(hnn:0<nn)(ho:o.length<=1000)(hk:k=3∨k=4)(hn:n<=1024)(ha:at_+n<=s.size)(hs:s.size<=1000000){t:ByteArray}(ht:t=Bo (((Bz s).drop at_).take n)):
    At fu (Ae C0 Tryz.prog fu (d+3)) a0_0 a0_1 a0_2n a0_2 a1 a2 a3 nn depth key before (n:Int) true nest s (at_:Int) o.length (Bq o) k (nn':Int) t0 =
      (if H6 key before ⟨k,0,t⟩=0 then Ba fu (Ae C0 Tryz.prog fu (d+3)) a0_0 a0_1 a0_2n a0_2 a1 a2 a3 fu depth (n:Int) nest C2 0 s ((at_+n:Nat):Int) (o++[It.mk k 0 t]).length (Bq (o++[It.mk k 0 t])) k 0 t
       else some ⟨[.sc (.int .i64 (H6 key before ⟨k,0,t⟩))],[U5 s (at_+n) o]⟩):=by
  have hts:t.size<=1024:=by
    rw [ht,Ey,List.length_take]
    omega
  have L:=Eo o
  have tt:List.take (o.length*3) (Bq o)=Bq o:=I2 (by omega)
  have va:=Lw (fu:=fu) (d:=d+2) t (by omega)
  have by_:=Z1 (fu:=fu) (d:=d) (x:=⟨k,0,t⟩) hfu ⟨by simp only;omega,by simp only;omega,by simp,by simp only;omega⟩ (hk.elim (fun h=>.inl h) (fun h=>.inr (.inl h)))
  have ls:=Aw1 (fu:=fu) (d:=d+2) before (Bo (Bv ⟨k,0,t⟩))
  have e:Bq (o++[It.mk k 0 t])=Bq o++[PV.sc (Value.int IntKind.i64 k),PV.sc (Value.int IntKind.u64 0),PV.sc (Value.string t)]:=Ad0 o [It.mk k 0 t]
  have en:(o++[It.mk k 0 t]).length=o.length+1:=by simp
  have em:(Array.toList (ByteArray.data before)==Array.toList (ByteArray.data (ByteArray.mk #[])))=Adq before:=rfl
  have w1:IntKind.wrap .i64 (n:Int)=n:=Au (by omega) (by omega)
  have w2:IntKind.wrap .i64 ((at_:Int)+(n:Int))=((at_+n:Nat):Int):=by rw [Au (by omega) (by omega)];omega
  have n1:Int.toNat (at_:Int)=at_:=G6 _
  have n2:Int.toNat ((at_+n:Nat):Int)=at_+n:=G6 _
  have ex:s.extract at_ (at_+n)=t:=by rw [ht];exact Aqb
  rw [e,en,Id (hnn:=hnn)]
  unfold H6
  simp only at ls by_ ⊢
  unfold It.cells at by_
  clear ht
  have kk:((k=4)=True∧(k==(4:Int))=true)∨((k=4)=False∧(k==(4:Int))=false):=by
    by_cases h:k=4
    · exact .inl ⟨eq_true h,by simp [h]⟩
    · exact .inr ⟨eq_false h,by simp [h]⟩
  generalize Atl before (Bo (Bv ⟨k,0,t⟩))=l at ls ⊢
  generalize Adq before=bb at em ⊢
  generalize okS t=v at va ⊢
  generalize Bo (Bv ⟨k,0,t⟩)=B at by_ ls
  rcases kk with ⟨k4',k4⟩|⟨k4',k4⟩
  · cases v
    · simp (disch:=omega) only [B6,w1,w2,n1,n2,ex,Int.reduceBEq,k4,va,em,by_,ls,L,tt,Bn,Br,and_self,true_and,and_true,and_false,false_and,if_true,if_false,Int.reduceEq,Bool.true_eq_false,Bool.false_eq_true,reduceCtorEq,k4']
    · cases key
      · simp (disch:=omega) only [B6,w1,w2,n1,n2,ex,Int.reduceBEq,k4,va,em,by_,ls,L,tt,Bn,Br,and_self,true_and,and_true,and_false,false_and,if_true,if_false,Int.reduceEq,Bool.true_eq_false,Bool.false_eq_true,reduceCtorEq,k4']
      · cases bb
        · cases l
          · simp (disch:=omega) only [B6,w1,w2,n1,n2,ex,Int.reduceBEq,k4,va,em,by_,ls,L,tt,Bn,Br,and_self,true_and,and_true,and_false,false_and,if_true,if_false,Int.reduceEq,Bool.true_eq_false,Bool.false_eq_true,reduceCtorEq,k4']
          · simp (disch:=omega) only [B6,w1,w2,n1,n2,ex,Int.reduceBEq,k4,va,em,by_,ls,L,tt,Bn,Br,and_self,true_and,and_true,and_false,false_and,if_true,if_false,Int.reduceEq,Bool.true_eq_false,Bool.false_eq_true,reduceCtorEq,k4']
        · simp (disch:=omega) only [B6,w1,w2,n1,n2,ex,Int.reduceBEq,k4,va,em,by_,ls,L,tt,Bn,Br,and_self,true_and,and_true,and_false,false_and,if_true,if_false,Int.reduceEq,Bool.true_eq_false,Bool.false_eq_true,reduceCtorEq,k4']
  · cases key
    · simp (disch:=omega) only [B6,w1,w2,n1,n2,ex,Int.reduceBEq,k4,va,em,by_,ls,L,tt,Bn,Br,and_self,true_and,and_true,and_false,false_and,if_true,if_false,Int.reduceEq,Bool.true_eq_false,Bool.false_eq_true,reduceCtorEq,k4']
    · cases bb
      · cases l
        · simp (disch:=omega) only [B6,w1,w2,n1,n2,ex,Int.reduceBEq,k4,va,em,by_,ls,L,tt,Bn,Br,and_self,true_and,and_true,and_false,false_and,if_true,if_false,Int.reduceEq,Bool.true_eq_false,Bool.false_eq_true,reduceCtorEq,k4']
        · simp (disch:=omega) only [B6,w1,w2,n1,n2,ex,Int.reduceBEq,k4,va,em,by_,ls,L,tt,Bn,Br,and_self,true_and,and_true,and_false,false_and,if_true,if_false,Int.reduceEq,Bool.true_eq_false,Bool.false_eq_true,reduceCtorEq,k4']
      · simp (disch:=omega) only [B6,w1,w2,n1,n2,ex,Int.reduceBEq,k4,va,em,by_,ls,L,tt,Bn,Br,and_self,true_and,and_true,and_false,false_and,if_true,if_false,Int.reduceEq,Bool.true_eq_false,Bool.false_eq_true,reduceCtorEq,k4']
end
end
section
section
variable {fu d:Nat}
set_option maxHeartbeats 4000000 in
theorem A22 (hfu:1000<=fu){depth:Int}{key:Bool}{before s:ByteArray}{at_:Nat}{o:List It}(hs:s.size<=1000000)(ha:at_<=s.size)(ho:o.length<=1000):
    Ae C0 Tryz.prog fu (d+4) Dm [.pbox (U5 s at_ o),.sc (.int .i64 depth),.sc (.bool key),.sc (.string before)] =
      (if (Bg (Bz s) at_).e≠0 then some ⟨[.sc (.int .i64 (Bg (Bz s) at_).e)],[U5 s (Wi (Bz s) at_) o]⟩
       else if J1 (Bg (Bz s) at_).k (Bg (Bz s) at_).n depth key o.length (s.size-(Bg (Bz s) at_).at_)≠0 then
         some ⟨[.sc (.int .i64 (J1 (Bg (Bz s) at_).k (Bg (Bz s) at_).n depth key o.length (s.size-(Bg (Bz s) at_).at_)))],[U5 s (Wi (Bz s) at_) o]⟩
       else At fu (Ae C0 Tryz.prog fu (d+3)) s (at_:Int) o.length (Bq o) depth key before fu depth key before (Bg (Bz s) at_).n (Mk (Bg (Bz s) at_).k) (Pz (Bg (Bz s) at_).k) s ((Bg (Bz s) at_).at_:Int) o.length (Bq o) (Bg (Bz s) at_).k (Bg (Bz s) at_).n C2):=by
  refine (Sv fu (d+3) s (at_:Int) o.length (Bq o) depth key before).trans ?_
  have hd:=Azd (fu:=fu) (d:=d+2) (s:=s) (at_:=at_) (o:=o) hfu hs (by omega)
  have ok:=Q1 (b:=Bz s) (at_:=at_) (R2 s) (by rw [C7];exact ha)
  have L:=Eo o
  have t:List.take (o.length*3) (Bq o)=Bq o:=I2 (by omega)
  rw [C7] at ok
  have eA:(Bg (Bz s) at_).e=0->Wi (Bz s) at_=(Bg (Bz s) at_).at_:=by
    intro h
    unfold Wi
    rw [Bk h]
  generalize Wi (Bz s) at_=A at hd eA ⊢
  generalize Bg (Bz s) at_=h at hd ok eA ⊢
  obtain ⟨k,n,e,a⟩:=h
  simp only at hd ok eA ⊢
  by_cases he:e=0
  rotate_left
  · have he':(e != 0)=true:=by simp [he]
    rw [Bk he]
    try unfold Aa
    repeat first
      |((with_reducible first|apply Ap|apply Ag|apply Am|apply Ar|apply Ax|apply Az|apply A6|apply Ah);· first|with_reducible rfl|(simp (disch:=omega) only [hd,he',L,t]<;>with_reducible rfl))
      |((with_reducible first|apply Ao|apply Ak);· first|with_reducible rfl|omega|(simp (disch:=omega) only [gT,hd,he',L,t]<;>omega))
      |(with_reducible apply Al;· first|with_reducible rfl|(simp (disch:=omega) only [gF,hd,he',L,t]<;>omega))
    try simp (disch:=omega) only [hd,he',L,t]
    all_goals rfl
  subst he
  obtain rfl:=eA rfl
  obtain ⟨ha',hk⟩:=ok
  obtain ⟨k1,k8,n0,n1,_⟩:=hk rfl
  have e00:((0:Int) != 0)=false:=rfl
  have ik:=A35 (fu:=fu) (d:=d+2) k
  rw [A3 (by simp)]
  have w1:IntKind.wrap .i64 ((s.size:Int)-(A:Int))=((s.size-A:Nat):Int):=by rw [Au (by omega) (by omega)];omega
  have w2:IntKind.wrap .u64 ((s.size-A:Nat):Int)=((s.size-A:Nat):Int):=B7 (by omega) (by omega)
  generalize s.size-A=rest at w1 w2 ⊢
  unfold J1
  by_cases c1:512<=o.length
  · simp only [c1,if_true,ne_eq,Int.reduceEq,not_false_eq_true]
    have:k=1∨k=2∨k=3∨k=4∨k=5∨k=6∨k=7∨k=8:=by omega
    rcases this with rfl|rfl|rfl|rfl|rfl|rfl|rfl|rfl
    all_goals
      try unfold Aa
      repeat first
        |((with_reducible first|apply Ap|apply Ag|apply Am|apply Ar|apply Ax|apply Az|apply A6|apply Ah);· first|with_reducible rfl|(simp (disch:=omega) only [hd,e00,L,t,Int.reduceBEq]<;>with_reducible rfl))
        |((with_reducible first|apply Ao|apply Ak);· first|with_reducible rfl|omega|(simp (disch:=omega) only [gT,hd,e00,L,t,Int.reduceBEq]<;>omega))
        |(with_reducible apply Al;· first|with_reducible rfl|(simp (disch:=omega) only [gF,hd,e00,L,t,Int.reduceBEq]<;>omega))
      try simp (disch:=omega) only [hd,e00,L,t,Int.reduceBEq]
    all_goals rfl
  rw [A3 c1]
  by_cases c2:key=true∧Af9 k=false
  · obtain ⟨rfl,c2⟩:=c2
    rw [c2] at ik
    simp only [c2,and_self,if_true,ne_eq,Int.reduceEq,not_false_eq_true]
    have:k=1∨k=2∨k=3∨k=4∨k=5∨k=6∨k=7∨k=8:=by omega
    rcases this with rfl|rfl|rfl|rfl|rfl|rfl|rfl|rfl
    all_goals
      try unfold Aa
      repeat first
        |((with_reducible first|apply Ap|apply Ag|apply Am|apply Ar|apply Ax|apply Az|apply A6|apply Ah);· first|with_reducible rfl|(simp (disch:=omega) only [hd,e00,L,t,Int.reduceBEq,ik,Bn,Br]<;>with_reducible rfl))
        |((with_reducible first|apply Ao|apply Ak);· first|with_reducible rfl|omega|(simp (disch:=omega) only [gT,hd,e00,L,t,Int.reduceBEq,ik,Bn,Br]<;>omega))
        |(with_reducible apply Al;· first|with_reducible rfl|(simp (disch:=omega) only [gF,hd,e00,L,t,Int.reduceBEq,ik,Bn,Br]<;>omega))
      try simp (disch:=omega) only [hd,e00,L,t,Int.reduceBEq,ik,Bn,Br]
    all_goals rfl
  rw [A3 c2]
  have key2:key=false∨key=true∧Af9 k=true:=by
    cases key
    · exact .inl rfl
    · exact .inr ⟨rfl,by simpa using c2⟩
  clear c2
  have fin:∀(p q:Option A0),p=q->p=q:=fun _ _ h=>h
  by_cases c3:depth>8
  · simp only [c3,if_true,ne_eq,Int.reduceEq,not_false_eq_true]
    have:k=1∨k=2∨k=3∨k=4∨k=5∨k=6∨k=7∨k=8:=by omega
    rcases key2 with rfl|⟨rfl,k2⟩
    · rcases this with rfl|rfl|rfl|rfl|rfl|rfl|rfl|rfl
      all_goals
        try unfold Aa
        repeat first
          |((with_reducible first|apply Ap|apply Ag|apply Am|apply Ar|apply Ax|apply Az|apply A6|apply Ah);· first|with_reducible rfl|(simp (disch:=omega) only [hd,e00,L,t,Int.reduceBEq,Bn,Br]<;>with_reducible rfl))
          |((with_reducible first|apply Ao|apply Ak);· first|with_reducible rfl|omega|(simp (disch:=omega) only [gT,hd,e00,L,t,Int.reduceBEq,Bn,Br]<;>omega))
          |(with_reducible apply Al;· first|with_reducible rfl|(simp (disch:=omega) only [gF,hd,e00,L,t,Int.reduceBEq,Bn,Br]<;>omega))
        try simp (disch:=omega) only [hd,e00,L,t,Int.reduceBEq,Bn,Br]
      all_goals rfl
    · rw [k2] at ik
      rcases this with rfl|rfl|rfl|rfl|rfl|rfl|rfl|rfl
      all_goals
        try unfold Aa
        repeat first
          |((with_reducible first|apply Ap|apply Ag|apply Am|apply Ar|apply Ax|apply Az|apply A6|apply Ah);· first|with_reducible rfl|(simp (disch:=omega) only [hd,e00,L,t,Int.reduceBEq,ik,Bn,Br]<;>with_reducible rfl))
          |((with_reducible first|apply Ao|apply Ak);· first|with_reducible rfl|omega|(simp (disch:=omega) only [gT,hd,e00,L,t,Int.reduceBEq,ik,Bn,Br]<;>omega))
          |(with_reducible apply Al;· first|with_reducible rfl|(simp (disch:=omega) only [gF,hd,e00,L,t,Int.reduceBEq,ik,Bn,Br]<;>omega))
        try simp (disch:=omega) only [hd,e00,L,t,Int.reduceBEq,ik,Bn,Br]
      all_goals rfl
  rw [A3 c3]
  have kk:(Mk k=true∧Pz k=false∧(k=3∨k=4))∨(Mk k=false∧Pz k=true∧(k=5∨k=6))∨(Mk k=false∧Pz k=false∧(k=1∨k=2∨k=7∨k=8)):=by
    have:k=1∨k=2∨k=3∨k=4∨k=5∨k=6∨k=7∨k=8:=by omega
    rcases this with rfl|rfl|rfl|rfl|rfl|rfl|rfl|rfl<;>simp [Mk,Pz]
  rcases kk with ⟨q1,q2,kk⟩|⟨q1,q2,kk⟩|⟨q1,q2,kk⟩
  · rw [q1,q2]
    simp only [true_and,Bool.false_eq_true,false_and,if_false]
    by_cases c4:n>1024
    · simp only [c4,if_true,ne_eq,Int.reduceEq,not_false_eq_true]
      rcases key2 with rfl|⟨rfl,k2⟩
      · rcases kk with rfl|rfl
        all_goals
          try unfold Aa
          repeat first
            |((with_reducible first|apply Ap|apply Ag|apply Am|apply Ar|apply Ax|apply Az|apply A6|apply Ah);· first|with_reducible rfl|(simp (disch:=omega) only [hd,e00,L,t,Int.reduceBEq,Bn,Br]<;>with_reducible rfl))
            |((with_reducible first|apply Ao|apply Ak);· first|with_reducible rfl|omega|(simp (disch:=omega) only [gT,hd,e00,L,t,Int.reduceBEq,Bn,Br]<;>omega))
            |(with_reducible apply Al;· first|with_reducible rfl|(simp (disch:=omega) only [gF,hd,e00,L,t,Int.reduceBEq,Bn,Br]<;>omega))
          try simp (disch:=omega) only [hd,e00,L,t,Int.reduceBEq,Bn,Br]
        all_goals rfl
      · rw [k2] at ik
        rcases kk with rfl|rfl
        all_goals
          try unfold Aa
          repeat first
            |((with_reducible first|apply Ap|apply Ag|apply Am|apply Ar|apply Ax|apply Az|apply A6|apply Ah);· first|with_reducible rfl|(simp (disch:=omega) only [hd,e00,L,t,Int.reduceBEq,ik,Bn,Br]<;>with_reducible rfl))
            |((with_reducible first|apply Ao|apply Ak);· first|with_reducible rfl|omega|(simp (disch:=omega) only [gT,hd,e00,L,t,Int.reduceBEq,ik,Bn,Br]<;>omega))
            |(with_reducible apply Al;· first|with_reducible rfl|(simp (disch:=omega) only [gF,hd,e00,L,t,Int.reduceBEq,ik,Bn,Br]<;>omega))
          try simp (disch:=omega) only [hd,e00,L,t,Int.reduceBEq,ik,Bn,Br]
        all_goals rfl
    rw [A3 c4]
    by_cases c5:(rest:Int)<n
    · simp only [c5,if_true,ne_eq,Int.reduceEq,not_false_eq_true]
      rcases key2 with rfl|⟨rfl,k2⟩
      · rcases kk with rfl|rfl
        all_goals
          try unfold Aa
          repeat first
            |((with_reducible first|apply Ap|apply Ag|apply Am|apply Ar|apply Ax|apply Az|apply A6|apply Ah);· first|with_reducible rfl|(simp (disch:=omega) only [hd,e00,L,t,Int.reduceBEq,w1,w2,Bn,Br]<;>with_reducible rfl))
            |((with_reducible first|apply Ao|apply Ak);· first|with_reducible rfl|omega|(simp (disch:=omega) only [gT,hd,e00,L,t,Int.reduceBEq,w1,w2,Bn,Br]<;>omega))
            |(with_reducible apply Al;· first|with_reducible rfl|(simp (disch:=omega) only [gF,hd,e00,L,t,Int.reduceBEq,w1,w2,Bn,Br]<;>omega))
          try simp (disch:=omega) only [hd,e00,L,t,Int.reduceBEq,w1,w2,Bn,Br]
        all_goals rfl
      · rw [k2] at ik
        rcases kk with rfl|rfl
        all_goals
          try unfold Aa
          repeat first
            |((with_reducible first|apply Ap|apply Ag|apply Am|apply Ar|apply Ax|apply Az|apply A6|apply Ah);· first|with_reducible rfl|(simp (disch:=omega) only [hd,e00,L,t,Int.reduceBEq,w1,w2,ik,Bn,Br]<;>with_reducible rfl))
            |((with_reducible first|apply Ao|apply Ak);· first|with_reducible rfl|omega|(simp (disch:=omega) only [gT,hd,e00,L,t,Int.reduceBEq,w1,w2,ik,Bn,Br]<;>omega))
            |(with_reducible apply Al;· first|with_reducible rfl|(simp (disch:=omega) only [gF,hd,e00,L,t,Int.reduceBEq,w1,w2,ik,Bn,Br]<;>omega))
          try simp (disch:=omega) only [hd,e00,L,t,Int.reduceBEq,w1,w2,ik,Bn,Br]
        all_goals rfl
    rw [A3 c5,A3 (by simp)]
    rcases key2 with rfl|⟨rfl,k2⟩
    · rcases kk with rfl|rfl
      all_goals
        try unfold Aa
        repeat first
          |((with_reducible first|apply Ap|apply Ag|apply Am|apply Ar|apply Ax|apply Az|apply A6|apply Ah);· first|with_reducible rfl|(simp (disch:=omega) only [hd,e00,L,t,Int.reduceBEq,w1,w2,Bn,Br]<;>with_reducible rfl))
          |((with_reducible first|apply Ao|apply Ak);· first|with_reducible rfl|omega|(simp (disch:=omega) only [gT,hd,e00,L,t,Int.reduceBEq,w1,w2,Bn,Br]<;>omega))
          |(with_reducible apply Al;· first|with_reducible rfl|(simp (disch:=omega) only [gF,hd,e00,L,t,Int.reduceBEq,w1,w2,Bn,Br]<;>omega))
        try simp (disch:=omega) only [hd,e00,L,t,Int.reduceBEq,w1,w2,Bn,Br]
      all_goals rfl
    · rw [k2] at ik
      rcases kk with rfl|rfl
      all_goals
        try unfold Aa
        repeat first
          |((with_reducible first|apply Ap|apply Ag|apply Am|apply Ar|apply Ax|apply Az|apply A6|apply Ah);· first|with_reducible rfl|(simp (disch:=omega) only [hd,e00,L,t,Int.reduceBEq,w1,w2,ik,Bn,Br]<;>with_reducible rfl))
          |((with_reducible first|apply Ao|apply Ak);· first|with_reducible rfl|omega|(simp (disch:=omega) only [gT,hd,e00,L,t,Int.reduceBEq,w1,w2,ik,Bn,Br]<;>omega))
          |(with_reducible apply Al;· first|with_reducible rfl|(simp (disch:=omega) only [gF,hd,e00,L,t,Int.reduceBEq,w1,w2,ik,Bn,Br]<;>omega))
        try simp (disch:=omega) only [hd,e00,L,t,Int.reduceBEq,w1,w2,ik,Bn,Br]
      all_goals rfl
  · rw [q1,q2]
    simp only [true_and,Bool.false_eq_true,false_and,if_false]
    by_cases c4:n>512
    · simp only [c4,if_true,ne_eq,Int.reduceEq,not_false_eq_true]
      rcases key2 with rfl|⟨rfl,k2⟩
      · rcases kk with rfl|rfl
        all_goals
          try unfold Aa
          repeat first
            |((with_reducible first|apply Ap|apply Ag|apply Am|apply Ar|apply Ax|apply Az|apply A6|apply Ah);· first|with_reducible rfl|(simp (disch:=omega) only [hd,e00,L,t,Int.reduceBEq,Bn,Br]<;>with_reducible rfl))
            |((with_reducible first|apply Ao|apply Ak);· first|with_reducible rfl|omega|(simp (disch:=omega) only [gT,hd,e00,L,t,Int.reduceBEq,Bn,Br]<;>omega))
            |(with_reducible apply Al;· first|with_reducible rfl|(simp (disch:=omega) only [gF,hd,e00,L,t,Int.reduceBEq,Bn,Br]<;>omega))
          try simp (disch:=omega) only [hd,e00,L,t,Int.reduceBEq,Bn,Br]
        all_goals rfl
      · rw [k2] at ik
        rcases kk with rfl|rfl
        all_goals
          try unfold Aa
          repeat first
            |((with_reducible first|apply Ap|apply Ag|apply Am|apply Ar|apply Ax|apply Az|apply A6|apply Ah);· first|with_reducible rfl|(simp (disch:=omega) only [hd,e00,L,t,Int.reduceBEq,ik,Bn,Br]<;>with_reducible rfl))
            |((with_reducible first|apply Ao|apply Ak);· first|with_reducible rfl|omega|(simp (disch:=omega) only [gT,hd,e00,L,t,Int.reduceBEq,ik,Bn,Br]<;>omega))
            |(with_reducible apply Al;· first|with_reducible rfl|(simp (disch:=omega) only [gF,hd,e00,L,t,Int.reduceBEq,ik,Bn,Br]<;>omega))
          try simp (disch:=omega) only [hd,e00,L,t,Int.reduceBEq,ik,Bn,Br]
        all_goals rfl
    rw [A3 c4,A3 (by simp)]
    rcases key2 with rfl|⟨rfl,k2⟩
    · rcases kk with rfl|rfl
      all_goals
        try unfold Aa
        repeat first
          |((with_reducible first|apply Ap|apply Ag|apply Am|apply Ar|apply Ax|apply Az|apply A6|apply Ah);· first|with_reducible rfl|(simp (disch:=omega) only [hd,e00,L,t,Int.reduceBEq,w1,w2,Bn,Br]<;>with_reducible rfl))
          |((with_reducible first|apply Ao|apply Ak);· first|with_reducible rfl|omega|(simp (disch:=omega) only [gT,hd,e00,L,t,Int.reduceBEq,w1,w2,Bn,Br]<;>omega))
          |(with_reducible apply Al;· first|with_reducible rfl|(simp (disch:=omega) only [gF,hd,e00,L,t,Int.reduceBEq,w1,w2,Bn,Br]<;>omega))
        try simp (disch:=omega) only [hd,e00,L,t,Int.reduceBEq,w1,w2,Bn,Br]
      all_goals rfl
    · rw [k2] at ik
      rcases kk with rfl|rfl
      all_goals
        try unfold Aa
        repeat first
          |((with_reducible first|apply Ap|apply Ag|apply Am|apply Ar|apply Ax|apply Az|apply A6|apply Ah);· first|with_reducible rfl|(simp (disch:=omega) only [hd,e00,L,t,Int.reduceBEq,w1,w2,ik,Bn,Br]<;>with_reducible rfl))
          |((with_reducible first|apply Ao|apply Ak);· first|with_reducible rfl|omega|(simp (disch:=omega) only [gT,hd,e00,L,t,Int.reduceBEq,w1,w2,ik,Bn,Br]<;>omega))
          |(with_reducible apply Al;· first|with_reducible rfl|(simp (disch:=omega) only [gF,hd,e00,L,t,Int.reduceBEq,w1,w2,ik,Bn,Br]<;>omega))
        try simp (disch:=omega) only [hd,e00,L,t,Int.reduceBEq,w1,w2,ik,Bn,Br]
      all_goals rfl
  · rw [q1,q2]
    simp only [true_and,Bool.false_eq_true,false_and,if_false,ne_eq,not_true_eq_false]
    rcases key2 with rfl|⟨rfl,k2⟩
    · rcases kk with rfl|rfl|rfl|rfl
      all_goals
        try unfold Aa
        repeat first
          |((with_reducible first|apply Ap|apply Ag|apply Am|apply Ar|apply Ax|apply Az|apply A6|apply Ah);· first|with_reducible rfl|(simp (disch:=omega) only [hd,e00,L,t,Int.reduceBEq,w1,w2,Bn,Br]<;>with_reducible rfl))
          |((with_reducible first|apply Ao|apply Ak);· first|with_reducible rfl|omega|(simp (disch:=omega) only [gT,hd,e00,L,t,Int.reduceBEq,w1,w2,Bn,Br]<;>omega))
          |(with_reducible apply Al;· first|with_reducible rfl|(simp (disch:=omega) only [gF,hd,e00,L,t,Int.reduceBEq,w1,w2,Bn,Br]<;>omega))
        try simp (disch:=omega) only [hd,e00,L,t,Int.reduceBEq,w1,w2,Bn,Br]
      all_goals rfl
    · rw [k2] at ik
      rcases kk with rfl|rfl|rfl|rfl
      all_goals
        try unfold Aa
        repeat first
          |((with_reducible first|apply Ap|apply Ag|apply Am|apply Ar|apply Ax|apply Az|apply A6|apply Ah);· first|with_reducible rfl|(simp (disch:=omega) only [hd,e00,L,t,Int.reduceBEq,w1,w2,ik,Bn,Br]<;>with_reducible rfl))
          |((with_reducible first|apply Ao|apply Ak);· first|with_reducible rfl|omega|(simp (disch:=omega) only [gT,hd,e00,L,t,Int.reduceBEq,w1,w2,ik,Bn,Br]<;>omega))
          |(with_reducible apply Al;· first|with_reducible rfl|(simp (disch:=omega) only [gF,hd,e00,L,t,Int.reduceBEq,w1,w2,ik,Bn,Br]<;>omega))
        try simp (disch:=omega) only [hd,e00,L,t,Int.reduceBEq,w1,w2,ik,Bn,Br]
      all_goals rfl
end
end
section
def Tp (f:Bool->ByteArray->Nat->List It->Int × Nat × List It)(mp:Bool):Nat->ByteArray->Nat->List It->Int × Nat × List It
 |0,_,at_,o=>(0,at_,o)
 |c+1,last,at_,o=>
  if mp=true then
   if (f true last at_ o).1≠0 then f true last at_ o
   else if (f false C2 (f true last at_ o).2.1 (f true last at_ o).2.2).1≠0 then f false C2 (f true last at_ o).2.1 (f true last at_ o).2.2
   else Tp f mp c (Bo (Bv ((f true last at_ o).2.2.getD o.length it0))) (f false C2 (f true last at_ o).2.1 (f true last at_ o).2.2).2.1 (f false C2 (f true last at_ o).2.1 (f true last at_ o).2.2).2.2
  else if (f false C2 at_ o).1≠0 then f false C2 at_ o
  else Tp f mp c last (f false C2 at_ o).2.1 (f false C2 at_ o).2.2
def rdX (b:List Int)(h:Hd):It × Nat:=if Mk h.k=true then (⟨h.k,0,Bo ((b.drop h.at_).take h.n.toNat)⟩,h.at_+h.n.toNat) else (⟨h.k,h.n,C2⟩,h.at_)
def Om (b:List Int):Nat->Int->Bool->ByteArray->Nat->List It->Int × Nat × List It
 |0,_,_,_,at_,o=>(2,at_,o)
 |m+1,depth,key,before,at_,o=>
  if (Bg b at_).e≠0 then ((Bg b at_).e,at_,o)
  else if J1 (Bg b at_).k (Bg b at_).n depth key o.length (b.length-(Bg b at_).at_)≠0 then (J1 (Bg b at_).k (Bg b at_).n depth key o.length (b.length-(Bg b at_).at_),(Bg b at_).at_,o)
  else if H6 key before (rdX b (Bg b at_)).1≠0 then (H6 key before (rdX b (Bg b at_)).1,(rdX b (Bg b at_)).2,o)
  else if Pz (Bg b at_).k=true then Tp (Om b m (depth+1)) ((Bg b at_).k==6) (Bg b at_).n.toNat C2 (rdX b (Bg b at_)).2 (o++[(rdX b (Bg b at_)).1])
  else (0,(rdX b (Bg b at_)).2,o++[(rdX b (Bg b at_)).1])
def OkR (x:It):Prop:=OkX x∧x.dat
structure Bb6 (b:List Int) (o:List It) (r:Int × Nat × List It):Prop where
 at_:r.2.1<=b.length
 all:∀x∈r.2.2,OkR x
 len:o.length<=r.2.2.length
 top:r.2.2.length<=512
 grow:r.1=0->o.length<r.2.2.length
def A1t (b:List Int)(f:Bool->ByteArray->Nat->List It->Int × Nat × List It):Prop:=∀key before at_ o,at_<=b.length->(∀x∈o,OkR x)->o.length<=512->Bb6 b o (f key before at_ o)
theorem Acb {b:List Int}{f:Bool->ByteArray->Nat->List It->Int × Nat × List It}(hf:A1t b f){mp:Bool}:∀(c:Nat)(last:ByteArray)(at_:Nat)(o:List It),at_<=b.length->(∀x∈o,OkR x)->o.length<=512 ->
  (Tp f mp c last at_ o).2.1<=b.length∧(∀x∈(Tp f mp c last at_ o).2.2,OkR x)∧o.length<=(Tp f mp c last at_ o).2.2.length∧(Tp f mp c last at_ o).2.2.length<=512
 |0,_,at_,o,h1,h2,h3=>⟨h1,h2,Nat.le_refl _,h3⟩
 |c+1,last,at_,o,h1,h2,h3=>by
  unfold Tp;by_cases hm:mp=true
  ·rw [Bk hm];have q:=hf true last at_ o h1 h2 h3;generalize f true last at_ o=r at q ⊢;by_cases hr:r.1=0
   ·have p:=hf false C2 r.2.1 r.2.2 q.at_ q.all q.top;rw [A3 (by simp [hr])]
    have:=q.len;generalize f false C2 r.2.1 r.2.2=r2 at p ⊢;by_cases hr2:r2.1=0
    ·rw [A3 (by simp [hr2])]
     obtain ⟨i1,i2,i3,i4⟩:=Acb hf (mp:=mp) c (Bo (Bv (r.2.2.getD o.length it0))) r2.2.1 r2.2.2 p.at_ p.all p.top;have:=p.len;exact ⟨i1,i2,by omega,i4⟩
    ·rw [Bk (by simp [hr2])]
     have:=p.len;exact ⟨p.at_,p.all,by omega,p.top⟩
   ·rw [Bk (by simp [hr])]
    exact ⟨q.at_,q.all,q.len,q.top⟩
  ·rw [A3 hm];have q:=hf false C2 at_ o h1 h2 h3;generalize f false C2 at_ o=r at q ⊢;by_cases hr:r.1=0
   ·rw [A3 (by simp [hr])]
    obtain ⟨i1,i2,i3,i4⟩:=Acb hf (mp:=mp) c last r.2.1 r.2.2 q.at_ q.all q.top;have:=q.len;exact ⟨i1,i2,by omega,i4⟩
   ·rw [Bk (by simp [hr])]
    exact ⟨q.at_,q.all,q.len,q.top⟩
theorem Ade {k n depth:Int}{key:Bool}{ol rest:Nat}(h:J1 k n depth key ol rest=0):ol<512∧depth<=8∧(Mk k=true->n<=1024∧n<=rest)∧(Pz k=true->n<=512):=by
 unfold J1 at h;by_cases c1:512<=ol
 ·rw [Bk c1] at h;cases h
 rw [A3 c1] at h;by_cases c2:key=true∧Af9 k=false
 ·rw [Bk c2] at h;cases h
 rw [A3 c2] at h;by_cases c3:depth>8
 ·rw [Bk c3] at h;cases h
 rw [A3 c3] at h;by_cases c4:Mk k=true∧n>1024
 ·rw [Bk c4] at h;cases h
 rw [A3 c4] at h;by_cases c5:Pz k=true∧n>512
 ·rw [Bk c5] at h;cases h
 rw [A3 c5] at h;by_cases c6:Mk k=true∧(rest:Int)<n
 ·rw [Bk c6] at h;cases h
 refine ⟨by omega,by omega,fun hd=>⟨?_,?_⟩,fun hn=>?_⟩
 ·exact Int.not_lt.1 fun hh=>c4 ⟨hd,hh⟩
 ·exact Int.not_lt.1 fun hh=>c6 ⟨hd,hh⟩
 ·exact Int.not_lt.1 fun hh=>c5 ⟨hn,hh⟩
theorem Q0 (k:Int):Mk k=true↔k=3∨k=4:=by unfold Mk;simp
theorem Afi (k:Int):Pz k=true↔k=5∨k=6:=by unfold Pz;simp
theorem A15 {b:List Int}(hb:Gn b){at_:Nat}(ha:at_<=b.length)(he:(Bg b at_).e=0) {depth:Int}{key:Bool}{ol:Nat}(hp:J1 (Bg b at_).k (Bg b at_).n depth key ol (b.length-(Bg b at_).at_)=0):OkR (rdX b (Bg b at_)).1∧(rdX b (Bg b at_)).2<=b.length∧at_<(rdX b (Bg b at_)).2:=by
 obtain ⟨h1,h2⟩:=Q1 hb ha;obtain ⟨k1,k8,n0,n1,hl⟩:=h2 he;obtain ⟨_,_,p3,_⟩:=Ade hp;unfold rdX;by_cases hd:Mk (Bg b at_).k=true
 ·obtain ⟨q1,q2⟩:=p3 hd;rw [Bk hd];refine ⟨⟨⟨k1,k8,by simp,by simp,?_⟩,?_⟩,?_,?_⟩
  ·simp only;rw [Ey,List.length_take];omega
  ·rcases (Q0 _).1 hd with h|h
   ·exact .inl h
   ·exact .inr (.inl h)
  ·simp only;omega
  ·simp only;omega
 ·rw [A3 hd];exact ⟨⟨⟨k1,k8,n0,n1,Nat.zero_le _⟩,.inr (.inr rfl)⟩,h1,hl⟩
theorem Ri {b:List Int}(hb:Gn b):∀(m:Nat)(depth:Int),A1t b (Om b m depth)
 |0,depth=>fun key before at_ o h1 h2 h3=>⟨h1,h2,Nat.le_refl _,h3,fun h=>by simp [Om] at h⟩
 |m+1,depth=>fun key before at_ o h1 h2 h3=>by
  have hk:=(Q1 hb h1).1;unfold Om;by_cases he:(Bg b at_).e=0
  rotate_left
  ·rw [Bk he];exact ⟨h1,h2,Nat.le_refl _,h3,fun h=>absurd h he⟩
  rw [A3 (by simp [he])]
  by_cases hp:J1 (Bg b at_).k (Bg b at_).n depth key o.length (b.length-(Bg b at_).at_)=0
  rotate_left
  ·rw [Bk hp];exact ⟨hk,h2,Nat.le_refl _,h3,fun h=>absurd h hp⟩
  obtain ⟨x1,x2,x3⟩:=A15 hb h1 he hp;obtain ⟨p1,p2,p3,p4⟩:=Ade hp;rw [A3 (by simp [hp])]
  by_cases hq:H6 key before (rdX b (Bg b at_)).1=0
  rotate_left
  ·rw [Bk hq];exact ⟨x2,h2,Nat.le_refl _,h3,fun h=>absurd h hq⟩
  rw [A3 (by simp [hq])]
  have a2:∀x∈o++[(rdX b (Bg b at_)).1],OkR x:=by
   intro x hx;rcases List.mem_append.1 hx with hx|hx
   ·exact h2 x hx
   ·simp at hx;subst hx;exact x1
  have a3:(o++[(rdX b (Bg b at_)).1]).length=o.length+1:=by simp
  by_cases hn:Pz (Bg b at_).k=true
  ·rw [Bk hn];obtain ⟨i1,i2,i3,i4⟩:=Acb (Ri hb m (depth+1)) (mp:=(Bg b at_).k==6) (Bg b at_).n.toNat C2 (rdX b (Bg b at_)).2 (o++[(rdX b (Bg b at_)).1]) x2 a2 (by omega)
   exact ⟨i1,i2,by omega,i4,fun _=>by omega⟩
  ·rw [A3 hn];exact ⟨x2,a2,by simp only;omega,by simp only;omega,fun _=>by simp only;omega⟩
def Amk (s:ByteArray)(r:Int × Nat × List It):A0:=⟨[.sc (.int .i64 r.1)],[U5 s r.2.1 r.2.2]⟩
section
variable {fu d:Nat}
theorem Ai2 (hfu:1000<=fu){a0_0:ByteArray}{a0_1:Int}{a0_2n:Nat}{a0_2:List PV}{a1:Int}{a2:Bool}{a3:ByteArray}{s:ByteArray}{depth k kn:Int}{kt:ByteArray}(hd0:0<=depth)(hd8:depth<=8){f:Bool->ByteArray->Nat->List It->Int × Nat × List It}(hff:A1t (Bz s) f)
  (hf:∀key before at_ o,at_<=s.size->o.length<=512->(∀x∈o,OkR x)->Ae C0 Tryz.prog fu (d+3) Dm [.pbox (U5 s at_ o),.sc (.int .i64 (depth+1)),.sc (.bool key),.sc (.string before)]=some (Amk s (f key before at_ o))) {n:Nat}(hn:n<=512):
  ∀(c i nn:Nat) (last:ByteArray) (at_:Nat) (o:List It),i+c=n->c<nn->at_<=s.size->o.length<=512->(∀x∈o,OkR x) ->
  Ba fu (Ae C0 Tryz.prog fu (d+3)) a0_0 a0_1 a0_2n a0_2 a1 a2 a3 nn depth (n:Int) true last (i:Int) s (at_:Int) o.length (Bq o) k kn kt=some (Amk s (Tp f (k==6) c last at_ o))
 |_,_,0,_,_,_,_,h,_,_,_=>by omega
 |0,i,nn+1,last,at_,o,hi,hc,ha,ho,hx=>by
  have L:=Eo o;have t:List.take (o.length*3) (Bq o)=Bq o:=I2 (by omega)
  rw [Ei]
  try unfold Aa
  repeat first
   |((with_reducible first|apply Ap|apply Ag|apply Am|apply Ax|apply Az|apply Cf|apply Ah);· first|with_reducible rfl|(simp (disch:=omega) only [L,t]<;>with_reducible rfl))
   |((with_reducible first|apply Ao|apply Ak);· first|with_reducible rfl|omega|(simp (disch:=omega) only [gT,L,t]<;>omega))
   |(with_reducible apply Al;· first|with_reducible rfl|(simp (disch:=omega) only [gF,L,t]<;>omega))
  try simp (disch:=omega) only [L,t]
  all_goals rfl
 |c+1,i,nn+1,last,at_,o,hi,hc,ha,ho,hx=>by
  have L:=Eo o;have t:List.take (o.length*3) (Bq o)=Bq o:=I2 (by omega)
  have w1:IntKind.wrap .i64 (depth+1)=depth+1:=Au (by omega) (by omega)
  have w2:IntKind.wrap .u64 ((i:Int)+1)=((i+1:Nat):Int):=by rw [B7 (by omega) (by omega)];omega
  have hsz:=C7 s;rw [Ei];unfold Tp;by_cases hm:k=6
  rotate_left
  ·have hm':(k==(6:Int))=false:=by simp [hm]
   rw [hm',A3 (by simp)]
   have q:=hf false C2 at_ o ha ho hx;have fq:=hff false C2 at_ o (by omega) hx ho
   generalize f false C2 at_ o=r at q fq ⊢;obtain ⟨e,a,o'⟩:=r;have f1:=fq.at_;have f2:=fq.all;have f4:=fq.top;simp only [Amk] at q f1 f2 f4 ⊢;have L':=Eo o';have t':List.take (o'.length*3) (Bq o')=Bq o':=I2 (by omega)
   by_cases he:e=0
   ·subst he;have ih:=Ai2 hfu (a0_0:=a0_0) (a0_1:=a0_1) (a0_2n:=a0_2n) (a0_2:=a0_2) (a1:=a1) (a2:=a2) (a3:=a3) (k:=k) (kn:=kn) (kt:=kt) hd0 hd8 hff hf hn c (i+1) nn last a o' (by omega) (by omega) (by omega) f4 f2
    rw [hm'] at ih;have e00:((0:Int) != 0)=false:=rfl;rw [A3 (by simp)]
    simp only [Amk] at ih;rw [←ih]
    try unfold Aa
    repeat first
     |((with_reducible first|apply Ap|apply Ag|apply Am|apply Ax|apply Az|apply Cf|apply Ah);· first|with_reducible rfl|(simp (disch:=omega) only [L,t,w1,w2,hm',q,e00]<;>with_reducible rfl))
     |((with_reducible first|apply Ao|apply Ak);· first|with_reducible rfl|omega|(simp (disch:=omega) only [gT,L,t,w1,w2,hm',q,e00]<;>omega))
     |(with_reducible apply Al;· first|with_reducible rfl|(simp (disch:=omega) only [gF,L,t,w1,w2,hm',q,e00]<;>omega))
    try simp (disch:=omega) only [L,t,w1,w2,hm',q,e00]
    all_goals rfl
   ·have he':(e != 0)=true:=by simp [he]
    rw [Bk he]
    try unfold Aa
    repeat first
     |((with_reducible first|apply Ap|apply Ag|apply Am|apply Ax|apply Az|apply Cf|apply Ah);· first|with_reducible rfl|(simp (disch:=omega) only [L,t,w1,w2,hm',q,he',L',t']<;>with_reducible rfl))
     |((with_reducible first|apply Ao|apply Ak);· first|with_reducible rfl|omega|(simp (disch:=omega) only [gT,L,t,w1,w2,hm',q,he',L',t']<;>omega))
     |(with_reducible apply Al;· first|with_reducible rfl|(simp (disch:=omega) only [gF,L,t,w1,w2,hm',q,he',L',t']<;>omega))
    try simp (disch:=omega) only [L,t,w1,w2,hm',q,he',L',t']
    all_goals rfl
  ·subst hm;have hm':((6:Int)==(6:Int))=true:=rfl;rw [hm',Bk rfl];have q:=hf true last at_ o ha ho hx;have fq:=hff true last at_ o (by omega) hx ho
   generalize f true last at_ o=r at q fq ⊢;obtain ⟨e,a,o'⟩:=r;have f1:=fq.at_;have f2:=fq.all;have f4:=fq.top;have f5:=fq.grow;simp only [Amk] at q f1 f2 f4 f5 ⊢;have L':=Eo o';have t':List.take (o'.length*3) (Bq o')=Bq o':=I2 (by omega)
   by_cases he:e=0
   rotate_left
   ·have he':(e != 0)=true:=by simp [he]
    rw [Bk he]
    try unfold Aa
    repeat first
     |((with_reducible first|apply Ap|apply Ag|apply Am|apply Ax|apply Az|apply Cf|apply Ah);· first|with_reducible rfl|(simp (disch:=omega) only [L,t,w1,w2,hm',q,he',L',t']<;>with_reducible rfl))
     |((with_reducible first|apply Ao|apply Ak);· first|with_reducible rfl|omega|(simp (disch:=omega) only [gT,L,t,w1,w2,hm',q,he',L',t']<;>omega))
     |(with_reducible apply Al;· first|with_reducible rfl|(simp (disch:=omega) only [gF,L,t,w1,w2,hm',q,he',L',t']<;>omega))
    try simp (disch:=omega) only [L,t,w1,w2,hm',q,he',L',t']
    all_goals rfl
   subst he;have f5:=f5 rfl;have e00:((0:Int) != 0)=false:=rfl;rw [A3 (by simp)]
   obtain ⟨x,hxg⟩:∃x,o'[o.length]?=some x:=⟨_,List.getElem?_eq_getElem f5⟩;have hxo:=f2 x (List.mem_of_getElem? hxg);have gx:o'.getD o.length it0=x:=by rw [List.getD_eq_getElem?_getD,hxg];rfl
   rw [gx];obtain ⟨c0,c1,c2⟩:=aci hxg;have by_:=Z1 (fu:=fu) (d:=d) (x:=x) hfu ⟨hxo.1.k1,hxo.1.k8,hxo.1.n0,Nat.le_trans hxo.1.s1 (by omega)⟩ hxo.2
   obtain ⟨xk,xn,xs⟩:=x;unfold It.cells at by_;simp only at c0 c1 c2 by_;have nt:Int.toNat (o.length:Int)=o.length:=G6 _;have q2:=hf false C2 a o' (by omega) f4 f2
   have fq2:=hff false C2 a o' f1 f2 f4;generalize Bo (Bv ⟨xk,xn,xs⟩)=last' at by_ ⊢;generalize f false C2 a o'=r2 at q2 fq2 ⊢;obtain ⟨e2,a2',o2⟩:=r2;have g1:=fq2.at_;have g2:=fq2.all;have g4:=fq2.top;simp only [Amk] at q2 g1 g2 g4 ⊢;have L2:=Eo o2;have t2:List.take (o2.length*3) (Bq o2)=Bq o2:=I2 (by omega)
   by_cases he2:e2=0
   ·subst he2;have ih:=Ai2 hfu (a0_0:=a0_0) (a0_1:=a0_1) (a0_2n:=a0_2n) (a0_2:=a0_2) (a1:=a1) (a2:=a2) (a3:=a3) (k:=6) (kn:=kn) (kt:=kt) hd0 hd8 hff hf hn c (i+1) nn last' a2' o2 (by omega) (by omega) (by omega) g4 g2
    rw [hm'] at ih;rw [A3 (by simp)]
    simp only [Amk] at ih;rw [←ih]
    try unfold Aa
    repeat first
     |((with_reducible first|apply Ap|apply Ag|apply Am|apply Ax|apply Az|apply Cf|apply Ah);· first|with_reducible rfl|(simp (disch:=omega) only [L,t,w1,w2,hm',q,e00,L',t',B4,nt,c0,c1,c2,by_,q2]<;>with_reducible rfl))
     |((with_reducible first|apply Ao|apply Ak);· first|with_reducible rfl|omega|(simp (disch:=omega) only [gT,L,t,w1,w2,hm',q,e00,L',t',B4,nt,c0,c1,c2,by_,q2]<;>omega))
     |(with_reducible apply Al;· first|with_reducible rfl|(simp (disch:=omega) only [gF,L,t,w1,w2,hm',q,e00,L',t',B4,nt,c0,c1,c2,by_,q2]<;>omega))
    try simp (disch:=omega) only [L,t,w1,w2,hm',q,e00,L',t',B4,nt,c0,c1,c2,by_,q2]
    all_goals rfl
   ·have he':(e2 != 0)=true:=by simp [he2]
    rw [Bk he2]
    try unfold Aa
    repeat first
     |((with_reducible first|apply Ap|apply Ag|apply Am|apply Ax|apply Az|apply Cf|apply Ah);· first|with_reducible rfl|(simp (disch:=omega) only [L,t,w1,w2,hm',q,e00,L',t',B4,nt,c0,c1,c2,by_,q2,he',L2,t2]<;>with_reducible rfl))
     |((with_reducible first|apply Ao|apply Ak);· first|with_reducible rfl|omega|(simp (disch:=omega) only [gT,L,t,w1,w2,hm',q,e00,L',t',B4,nt,c0,c1,c2,by_,q2,he',L2,t2]<;>omega))
     |(with_reducible apply Al;· first|with_reducible rfl|(simp (disch:=omega) only [gF,L,t,w1,w2,hm',q,e00,L',t',B4,nt,c0,c1,c2,by_,q2,he',L2,t2]<;>omega))
    try simp (disch:=omega) only [L,t,w1,w2,hm',q,e00,L',t',B4,nt,c0,c1,c2,by_,q2,he',L2,t2]
    all_goals rfl
theorem A23 (hfu:1000<=fu){s:ByteArray}(hs:s.size<=1000000):∀(m:Nat)(depth:Int)(key:Bool)(before:ByteArray)(at_:Nat)(o:List It),0<=depth->9<=depth+m->depth<=9->at_<=s.size->o.length<=512->(∀x∈o,OkR x) ->
  Ae C0 Tryz.prog fu (d+4+m) Dm [.pbox (U5 s at_ o),.sc (.int .i64 depth),.sc (.bool key),.sc (.string before)]=some (Amk s (Om (Bz s) (m+1) depth key before at_ o)):=by
 intro m
 induction m with
 |zero=>
  intro depth key before at_ o d0 dm d9 ha ho hx;have pr:=A22 (fu:=fu) (d:=d) hfu (depth:=depth) (key:=key) (before:=before) hs ha (o:=o) (by omega)
  have hsz:=C7 s;rw [Lu,pr];unfold Om Wi;rw [hsz];by_cases he:(Bg (Bz s) at_).e=0
  rotate_left
  ·rw [Bk he,Bk he,A3 he];rfl
  have he':¬((Bg (Bz s) at_).e≠0):=by simp [he]
  rw [A3 he',A3 he'];by_cases hp:J1 (Bg (Bz s) at_).k (Bg (Bz s) at_).n depth key o.length (s.size-(Bg (Bz s) at_).at_)=0
  ·obtain ⟨_,p2,_⟩:=Ade hp;omega
  ·rw [Bk hp,Bk hp,Bk he];rfl
 |succ m ih=>
  intro depth key before at_ o d0 dm d9 ha ho hx;have pr:=A22 (fu:=fu) (d:=d+1+m) hfu (depth:=depth) (key:=key) (before:=before) hs ha (o:=o) (by omega)
  have hsz:=C7 s;have ed:d+1+m+4=d+4+(m+1):=by omega
  have ed':d+4+m=d+1+m+3:=by omega
  rw [ed'] at ih;rw [ed] at pr;rw [pr];have hfine:=Ri (R2 s) (m+1) (depth+1);generalize hR:Om (Bz s) (m+1) (depth+1)=R at hfine;unfold Om Wi;rw [hsz,hR];by_cases he:(Bg (Bz s) at_).e=0
  rotate_left
  ·rw [Bk he,Bk he,A3 he];rfl
  have he':¬((Bg (Bz s) at_).e≠0):=by simp [he]
  rw [A3 he',A3 he'];by_cases hp:J1 (Bg (Bz s) at_).k (Bg (Bz s) at_).n depth key o.length (s.size-(Bg (Bz s) at_).at_)=0
  rotate_left
  ·rw [Bk hp,Bk hp,Bk he];rfl
  have hp':¬(J1 (Bg (Bz s) at_).k (Bg (Bz s) at_).n depth key o.length (s.size-(Bg (Bz s) at_).at_)≠0):=by simp [hp]
  rw [A3 hp',A3 hp'];clear he' hp';obtain ⟨x1,x2,x3⟩:=A15 (R2 s) (by omega) he (by rw [hsz];exact hp)
  obtain ⟨p1,p2,p3,p4⟩:=Ade hp;obtain ⟨y1,y2⟩:=Q1 (b:=Bz s) (at_:=at_) (R2 s) (by omega)
  obtain ⟨k1,k8,n0,n1,_⟩:=y2 he
  have a2:∀x∈o++[(rdX (Bz s) (Bg (Bz s) at_)).1],OkR x:=by
   intro x hx';rcases List.mem_append.1 hx' with hx'|hx'
   ·exact hx x hx'
   ·simp at hx';subst hx';exact x1
  have a3:(o++[(rdX (Bz s) (Bg (Bz s) at_)).1]).length=o.length+1:=by simp
  generalize Bg (Bz s) at_=h at *
  obtain ⟨k,n,e,a⟩:=h;simp only at *
  obtain ⟨n,rfl⟩:=Int.eq_ofNat_of_zero_le n0
  have hff:∀kk bb aa oo,aa<=s.size->oo.length<=512->(∀x∈oo,OkR x)->Ae C0 Tryz.prog fu (d+1+m+3) Dm [.pbox (U5 s aa oo),.sc (.int .i64 (depth+1)),.sc (.bool kk),.sc (.string bb)]=some (Amk s (R kk bb aa oo)):=by
   intro kk bb aa oo h1 h2 h3;rw [ih (depth+1) kk bb aa oo (by omega) (by omega) (by omega) h1 h2 h3,hR]
  by_cases hdt:Mk k=true
  ·obtain ⟨q1,q2⟩:=p3 hdt;have hk34:=(Q0 k).1 hdt;have hnest:Pz k=false:=by rcases hk34 with rfl|rfl<;>rfl
   have eX:rdX (Bz s) ⟨k,(n:Int),e,a⟩=(⟨k,0,Bo (((Bz s).drop a).take n)⟩,a+n):=by
    unfold rdX;rw [Bk hdt];simp
   rw [hdt,hnest,eX];have po:=Ayz (fu:=fu) (d:=d+1+m) (a0_0:=s) (a0_1:=(at_:Int)) (a0_2n:=o.length) (a0_2:=Bq o) (a1:=depth) (a2:=key) (a3:=before) hfu (depth:=depth) (k:=k) (n:=n) (nn':=n) (key:=key) (nest:=false) (before:=before) (s:=s) (t0:=C2) (at_:=a) (o:=o) (nn:=fu) (by omega) (by omega) hk34 (by omega) (by omega) hs rfl
   rw [po];simp only;by_cases hq:H6 key before ⟨k,0,Bo (((Bz s).drop a).take n)⟩=0
   ·rw [Bk hq,A3 (by simp [hq]),A3 (by simp)]
    obtain ⟨nn,rfl⟩:∃nn,fu=nn+1:=⟨fu-1,by omega⟩
    rw [Ei,Akp];have L:=Eo (o++[It.mk k 0 (Bo (((Bz s).drop a).take n))]);have t:List.take ((o++[It.mk k 0 (Bo (((Bz s).drop a).take n))]).length*3) (Bq (o++[It.mk k 0 (Bo (((Bz s).drop a).take n))]))=Bq (o++[It.mk k 0 (Bo (((Bz s).drop a).take n))]):=I2 (by omega)
    rw [Zt _ _ (by omega),t]
    rfl
   ·rw [A3 hq,Bk hq];rfl
  ·have hdt':Mk k=false:=by simpa using hdt
   have eX:rdX (Bz s) ⟨k,(n:Int),e,a⟩=(⟨k,(n:Int),C2⟩,a):=by
    unfold rdX;rw [A3 hdt]
   rw [hdt',eX];rw [eX] at a2 a3 x2;have po:=Av7 (fu:=fu) (d:=d+1+m) (a0_0:=s) (a0_1:=(at_:Int)) (a0_2n:=o.length) (a0_2:=Bq o) (a1:=depth) (a2:=key) (a3:=before) hfu (depth:=depth) (n:=(n:Int)) (k:=k) (nn':=(n:Int)) (key:=key) (nest:=Pz k) (before:=before) (s:=s) (t:=C2) (at_:=a) (o:=o) (nn:=fu) (by omega) (by omega) ⟨k1,k8⟩ (by omega) (Nat.zero_le _) (.inr (.inr rfl))
   rw [po];simp only at a2 a3 x2 ⊢;by_cases hq:H6 key before ⟨k,(n:Int),C2⟩=0
   rotate_left
   ·rw [A3 hq,Bk hq];rfl
   rw [Bk hq,A3 (by simp [hq])]
   cases hnest:Pz k
   ·rw [A3 (by simp)]
    obtain ⟨nn,rfl⟩:∃nn,fu=nn+1:=⟨fu-1,by omega⟩
    rw [Ei,Akp];have L:=Eo (o++[It.mk k (n:Int) C2]);have t:List.take ((o++[It.mk k (n:Int) C2]).length*3) (Bq (o++[It.mk k (n:Int) C2]))=Bq (o++[It.mk k (n:Int) C2]):=I2 (by omega)
    rw [Zt _ _ (by omega),t]
    rfl
   ·rw [Bk rfl];have:=p4 hnest;rw [G6];exact Ai2 hfu d0 p2 hfine hff (by omega) n 0 fu C2 a _ (by omega) (by omega) (by omega) (by omega) a2
def Aea (b:List Int):List It × Nat × Int:=if (Om b 10 0 false C2 0 []).1≠0 then ([],0,(Om b 10 0 false C2 0 []).1) else ((Om b 10 0 false C2 0 []).2.2,(Om b 10 0 false C2 0 []).2.1,0)
theorem Au8 (hfu:1000<=fu){b:List Int}(hb:Gn b)(hl:b.length<=1000000):
  Ae C0 Tryz.prog fu (d+14) O5 [.lst false 1 b.length (Ai .u8 b)]=some ⟨Acy (Aea b),[]⟩:=by
 rw [Yr];have L:=As .u8 b;have bo:=Fu b;have hsz:(Bo b).size=b.length:=Ey b;have it:=A23 (fu:=fu) (d:=d) hfu (s:=Bo b) (by omega) 9 0 false C2 0 [] (by omega) (by omega) (by omega) (by omega) (by simp) (by simp)
 have fi:=Ri hb 10 0 false C2 0 [] (by omega) (by simp) (by simp)
 rw [Lx hb] at it;have eB:ByteArray.mk (List.toArray (b.map fun n=>n.toNat.toUInt8))=Bo b:=rfl
 unfold Aea;generalize Om b 10 0 false C2 0 []=r at it fi ⊢;obtain ⟨e,a,o⟩:=r;have f4:=fi.top;simp only [Amk] at it f4 ⊢;have LT:=Eo o;have tT:List.take (o.length*3) (Bq o)=Bq o:=I2 (by omega)
 have it':Ae C0 Tryz.prog fu (d+13) Dm [.pbox [.sc (.string (Bo b)),.sc (.int .i64 0),.own 3 0 []],.sc (.int .i64 0),.sc (.bool false),.sc (.string C2)]=some ⟨[.sc (.int .i64 e)],[[.sc (.string (Bo b)),.sc (.int .i64 a),.own 3 o.length (Bq o)]]⟩:=it;clear it;by_cases he:e=0
 ·subst he;have e00:((0:Int) != 0)=false:=rfl;rw [A3 (by simp)]
  unfold Acy
  try unfold Aa
  repeat first
   |((with_reducible first|apply Ap|apply Ag|apply Am|apply Ax|apply Az|apply Cf|apply Ah);· first|with_reducible rfl|(simp (disch:=omega) only [L,bo,eB,it',e00,LT,tT]<;>with_reducible rfl))
   |((with_reducible first|apply Ao|apply Ak);· first|with_reducible rfl|omega|(simp (disch:=omega) only [gT,L,bo,eB,it',e00,LT,tT]<;>omega))
   |(with_reducible apply Al;· first|with_reducible rfl|(simp (disch:=omega) only [gF,L,bo,eB,it',e00,LT,tT]<;>omega))
  try simp (disch:=omega) only [L,bo,eB,it',e00,LT,tT]
  all_goals rfl
 ·have he':(e != 0)=true:=by simp [he]
  rw [Bk he];unfold Acy
  try unfold Aa
  repeat first
   |((with_reducible first|apply Ap|apply Ag|apply Am|apply Ax|apply Az|apply Cf|apply Ah);· first|with_reducible rfl|(simp (disch:=omega) only [L,bo,eB,it',he',LT,tT]<;>with_reducible rfl))
   |((with_reducible first|apply Ao|apply Ak);· first|with_reducible rfl|omega|(simp (disch:=omega) only [gT,L,bo,eB,it',he',LT,tT]<;>omega))
   |(with_reducible apply Al;· first|with_reducible rfl|(simp (disch:=omega) only [gF,L,bo,eB,it',he',LT,tT]<;>omega))
  try simp (disch:=omega) only [L,bo,eB,it',he',LT,tT]
  all_goals rfl
end
end
section
def A2u (depth:Int)(its:List It):Prop:=
 ∀(b:List Int) (at_:Nat) (rest:List Int) (m:Nat) (o:List It),b.drop at_=Bc its++rest->9<=depth+m->o.length+its.length<=512->Om b (m+1) depth false C2 at_ o=(0,at_+(Bc its).length,o++its)
theorem Az1 {x:It}(hx:Aqo x)(hn:x.n<=18446744073709551615){depth:Int}(hd:depth<=8):A2u depth [x]:=by
 intro b at_ rest m o h hm ho;have kd:=hx.kd;have hs:=hx.hs;have e1:Bc [x]=Bv x:=by simp [Bc]
 rw [e1] at h ⊢;obtain ⟨q1,q2,q3,q4⟩:=Acq (x:=x) hx.hsh (by omega) (by omega) hx.n0 hn hx.hs h
 have ln:x.s.size<=b.length-(at_+((Bv x).length-x.s.size)):=by
  have:=congrArg List.length h;rw [List.length_drop,Ic] at this;omega
 have pe:J1 x.k (nOf x) depth false o.length (b.length-(at_+((Bv x).length-x.s.size)))=0:=by
  unfold J1;simp only [List.length_singleton] at ho;rw [A3 (by omega),A3 (by simp),A3 (by omega)]
  by_cases c34:x.k=3∨x.k=4
  ·have e:nOf x=x.s.size:=by unfold nOf;rw [Bk c34]
   rw [e,A3 (by omega),A3 (by rw [Afi];omega),A3 (by omega)]
  ·rw [A3 (by rw [Q0];omega),A3 (by rw [Afi];omega),A3 (by rw [Q0];omega)]
 have rx:rdX b ⟨x.k,nOf x,0,at_+((Bv x).length-x.s.size)⟩=(x,at_+(Bv x).length):=by
  unfold rdX;simp only;by_cases c34:x.k=3∨x.k=4
  ·obtain ⟨z,q2⟩:=q2 c34;have e:nOf x=x.s.size:=by unfold nOf;rw [Bk c34]
   rw [Bk ((Q0 _).2 c34),e,G6,q2,List.take_left' (C7 x.s),Qj];obtain ⟨k,n,s⟩:=x;simp only at z q4 ⊢;subst z
   congr 1
   omega
  ·have q3:=q3 c34;have e:nOf x=x.n:=by unfold nOf;rw [A3 c34]
   rw [A3 (fun hh=>c34 ((Q0 _).1 hh)),e]
   obtain ⟨k,n,s⟩:=x;simp only at q3 ⊢;subst q3;have:(ByteArray.mk #[]).size=0:=rfl;rw [this,Nat.sub_zero]
 unfold Om;rw [q1];simp only;rw [A3 (by simp),pe,A3 (by simp),rx]
 have po:H6 false C2 x=0:=by
  unfold H6;rw [A3 (fun hh=>by have:=hx.hv hh.1;have h2:=hh.2;unfold okS at h2;rw [this] at h2;cases h2),A3 (by simp)]
 rw [po,A3 (by simp),A3 (by rw [Afi];omega)]
theorem Aoc {b:List Int}{depth:Int}{rest:List Int}{m:Nat}(hm:9<=depth+1+m):∀(vs:List (List It)) (at_:Nat)(o:List It)(last:ByteArray),(∀v∈vs,A2u (depth+1) v)->b.drop at_=Bc vs.flatten++rest->o.length+vs.flatten.length<=512 ->
  Tp (Om b (m+1) (depth+1)) false vs.length last at_ o=(0,at_+(Bc vs.flatten).length,o++vs.flatten)
 |[],at_,o,last,hv,h,ho=>by simp [Tp,Bc]
 |v::vs,at_,o,last,hv,h,ho=>by
  have e:Bc (v::vs).flatten=Bc v++Bc vs.flatten:=by simp [Bc]
  rw [e,Zzv] at h;simp only [List.flatten_cons,Ic] at ho;have r:=hv v (by simp) b at_ (Bc vs.flatten++rest) m o h hm (by omega)
  have h':b.drop (at_+(Bc v).length)=Bc vs.flatten++rest:=by rw [←List.drop_drop,h,List.drop_left' rfl]
  have ih:=Aoc hm vs (at_+(Bc v).length) (o++v) last (fun w hw=>hv w (List.mem_cons_of_mem _ hw)) h' (by rw [Ic];omega)
  rw [H0];unfold Tp;rw [A3 (by simp),r]
  simp only;rw [A3 (by simp),ih,e]
  simp;omega
theorem A2f {vs:List (List It)} {depth:Int}(hv:∀v∈vs,A2u (depth+1) v) (hd:depth<=8)(hl:vs.length<=400):A2u depth (⟨5,vs.length,C2⟩::vs.flatten):=by
 intro b at_ rest m o h hm ho;have e1:Bc (⟨5,vs.length,C2⟩::vs.flatten)=Bv ⟨5,vs.length,C2⟩++Bc vs.flatten:=by simp [Bc]
 rw [e1,Zzv] at h;have z:C2.size=0:=rfl;obtain ⟨q1,q2,q3,q4⟩:=Acq (x:=⟨5,vs.length,C2⟩) (b:=b) (at_:=at_) rfl (by simp) (by simp) (by simp) (by simp only;omega) (by rw [z];omega) h
 have e2:nOf ⟨5,vs.length,C2⟩=vs.length:=rfl;simp only [z,Nat.sub_zero] at q1;rw [e2] at q1;simp only [H0] at ho
 have pe:J1 5 (vs.length:Int) depth false o.length (b.length-(at_+(Bv ⟨5,vs.length,C2⟩).length))=0:=by
  unfold J1;rw [A3 (by omega),A3 (by simp),A3 (by omega),A3 (by simp [Mk]),A3 (by omega),A3 (by simp [Mk])]
 have rx:rdX b ⟨5,(vs.length:Int),0,at_+(Bv ⟨5,vs.length,C2⟩).length⟩=(⟨5,vs.length,C2⟩,at_+(Bv ⟨5,vs.length,C2⟩).length):=by
  unfold rdX;rw [A3 (by simp [Mk])]
 have po:H6 false C2 ⟨5,vs.length,C2⟩=0:=by
  unfold H6;rw [A3 (fun hh=>by simp at hh),A3 (by simp)]
 have h':b.drop (at_+(Bv ⟨5,vs.length,C2⟩).length)=Bc vs.flatten++rest:=by rw [←List.drop_drop,h,List.drop_left' rfl]
 unfold Om;rw [q1];simp only;rw [A3 (by simp),pe,A3 (by simp),rx]
 simp only;rw [po,A3 (by simp),Bk (show Pz 5=true from rfl),G6]
 cases vs with
 |nil=>simp [Tp,Bc]
 |cons v vs=>
  obtain ⟨m,rfl⟩:∃k,m=k+1:=⟨m-1,by omega⟩
  have:=Aoc (b:=b) (rest:=rest) (m:=m) (depth:=depth) (by omega) (v::vs) (at_+(Bv ⟨5,(v::vs).length,C2⟩).length) (o++[⟨5,(v::vs).length,C2⟩]) C2 hv h' (by simp only [Ic,List.length_singleton];omega)
  have e6:((5:Int)==6)=false:=rfl;rw [e6,this,e1];simp;omega
theorem A1j {its:List It}(h:A2u 0 its)(hl:its.length<=512)(rest:List Int):Aea (Bc its++rest)=(its,(Bc its).length,0):=by
 have:=h (Bc its++rest) 0 rest 9 [] (by rw [Cm]) (by omega) (by simp;omega)
 unfold Aea;rw [this];simp
theorem Auo (c:Ce):((Mg c).map fun x=>[x]).flatten=Mg c:=by simp [Mg]
theorem Azs {c:Ce}(hc:c.ok)(h:Dv c=0):Aea (Es c)=(Bb c,(Bc (Bb c)).length,0):=by
 obtain ⟨h0,h1,h2,h3,h4,h5,h6,h7,h8,h9⟩:=Ly h;refine A1j (its:=Bb c) ?_ (by simp [Bb]) (Mv c.sig)
 have hf:=Yd hc.wf h0;have u1:=hc.ser;have u2:=hc.mod
 have:=A2f (vs:=(Mg c).map fun x=>[x]) (depth:=0) (by
  intro v hv;obtain ⟨x,hx,rfl⟩:=List.mem_map.1 hv;refine Az1 (hf x hx) ?_ (by omega)
  simp only [Mg,List.mem_cons,List.not_mem_nil,or_false] at hx;rcases hx with rfl|rfl|rfl|rfl|rfl|rfl|rfl|rfl|rfl
  all_goals simp only
  all_goals try split
  all_goals omega) (by omega) (by simp [Mg])
 rw [Auo] at this;exact this
end
section
def A1u (x:It):Bool:=x.k==5&&(x.n==9&&(x.s==ByteArray.mk #[]&&true))
def Azq (b:List Int)(used:Nat):List It->Ce × Int
 |[x0,x1,x2,x3,x4,x5,x6,x7,x8,x9]=>if A1u x0=false then (ce0,2) else (match Aa0 (Bz x4.s),sgD (b.drop used) with
  |some k,some s=>if x5.n>1099511627776 then (ce0,2) else if x6.n>1099511627776 then (ce0,2) else if x8.n>2 then (ce0,2) else if Dv (G7 x1 x2 x3 x5 x6 x7 x8 x9 k s)=0∧Es (G7 x1 x2 x3 x5 x6 x7 x8 x9 k s)=b then (G7 x1 x2 x3 x5 x6 x7 x8 x9 k s,0) else (ce0,2)
  |_,_=>(ce0,2))
 |_=>(ce0,2)
def Yp (b:List Int)(r:List It × Nat × Int):Ce × Int:=
 if b.length>512 then (ce0,8) else if r.2.2≠0 then (ce0,2) else if r.1.length≠10 then (ce0,2) else Azq b r.2.1 r.1
theorem A2y {c:Ce}(hc:c.ok)(h:Dv c=0):Azq (Es c) (Bc (Bb c)).length (Bb c)=(c,0):=by
 have k:=Auj hc h;have s:=A1y hc h;have cs:=Ab2 h;obtain ⟨h0,h1,h2,h3,h4,h5,h6,h7,h8,h9⟩:=Ly h;have a9:A1u ⟨5,9,C2⟩=true:=by decide
 have e:Azq (Es c) (Bc (Bb c)).length (Bb c)=((if A1u ⟨5,9,C2⟩=false then (ce0,2) else (match Aa0 (Bz (Bo (G3 c.key))),sgD ((Es c).drop (Bc (Bb c)).length) with
  |some k,some s=>if c.fr>1099511627776 then (ce0,2) else if c.un>1099511627776 then (ce0,2) else if c.path>2 then (ce0,2) else if Dv (G7 ⟨4,0,c.subj⟩ ⟨4,0,c.iss⟩ ⟨1,c.serial,C2⟩ ⟨1,c.fr,C2⟩ ⟨1,c.un,C2⟩ ⟨7,(if c.auth=true then 1 else 0),C2⟩ ⟨1,c.path,C2⟩ ⟨1,c.model,C2⟩ k s)=0∧Es (G7 ⟨4,0,c.subj⟩ ⟨4,0,c.iss⟩ ⟨1,c.serial,C2⟩ ⟨1,c.fr,C2⟩ ⟨1,c.un,C2⟩ ⟨7,(if c.auth=true then 1 else 0),C2⟩ ⟨1,c.path,C2⟩ ⟨1,c.model,C2⟩ k s)=Es c then (G7 ⟨4,0,c.subj⟩ ⟨4,0,c.iss⟩ ⟨1,c.serial,C2⟩ ⟨1,c.fr,C2⟩ ⟨1,c.un,C2⟩ ⟨7,(if c.auth=true then 1 else 0),C2⟩ ⟨1,c.path,C2⟩ ⟨1,c.model,C2⟩ k s,0) else (ce0,2)
  |_,_=>(ce0,2))):Ce × Int):=rfl
 rw [e,a9,A3 (by simp),k,s]
 simp only [cs];rw [A3 (by omega),A3 (by omega),A3 (by omega),Bk ⟨h,by trivial⟩]
theorem Azv {b:List Int}{used:Nat}{its:List It}(hx:∀x∈its,OkX x)(hn:∀c:Ce,c.ok->Dv c=0->Es c≠b):Azq b used its=(ce0,2):=by
 unfold Azq;split
 ·split
  ·rfl
  ·split
   ·rename_i hk hs;split
    ·rfl
    split
    ·rfl
    split
    ·rfl
    rw [A3];intro ⟨h1,h2⟩;exact hn _ (Y1 (hx _ (by simp)) (hx _ (by simp)) (Ad5 hk).2 (Ajp hs).1) h1 h2
   ·rfl
 ·rfl
theorem Ay8 {b:List Int}(hb:Gn b){r:List It × Nat × Int}(hx:∀x∈r.1,OkX x)(hc:∀c:Ce,c.ok->Dv c=0->Es c=b->r=(Bb c,(Bc (Bb c)).length,0)):Yp b r=Jy b:=by
 by_cases h5:b.length>512
 ·unfold Yp Jy;rw [Bk h5,Bk h5]
 by_cases hex:∃c:Ce,c.ok∧Dv c=0∧Es c=b
 ·obtain ⟨c,c1,c2,c3⟩:=hex;have e:=hc c c1 c2 c3;subst c3;rw [Akf c1 c2,e];unfold Yp;rw [A3 h5,A3 (by simp),A3 (by simp [Bb])]
  exact A2y c1 c2
 ·have hn:∀c:Ce,c.ok->Dv c=0->Es c≠b:=fun c h1 h2 h3=>hex ⟨c,h1,h2,h3⟩
  rw [Aok hb (by omega) hn]
  unfold Yp;rw [A3 h5,Azv hx hn];split
  ·rfl
  ·split<;>rfl
section
variable {fu d:Nat}
theorem Avx (hfu:1000<=fu){b:List Int}(hb:Gn b)(hl:b.length<=1000000):
  Ae C0 Tryz.prog fu (d+15) Is [.lst false 1 b.length (Ai .u8 b)]=some ⟨[.agg (Yp b (Aea b)).1.cells,.sc (.int .i64 (Yp b (Aea b)).2)],[]⟩:=by
 refine (Xr fu (d+14) b.length (Ai .u8 b)).trans ?_;have dec:=Au8 (fu:=fu) (d:=d) hfu hb hl;have fi:=Ri hb 10 0 false C2 0 [] (by omega) (by simp) (by simp)
 have hox:∀x∈(Aea b).1,OkX x:=by
  unfold Aea;split
  ·intro x hx;simp at hx
  ·intro x hx;exact (fi.all x hx).1
 have hat:(Aea b).2.1<=b.length:=by
  unfold Aea;split
  ·simp
  ·exact fi.at_
 clear fi;generalize Aea b=r at dec hat hox ⊢;obtain ⟨its,used,e⟩:=r;simp only at hat hox;unfold Acy at dec;simp only at dec;unfold Yp;simp only;by_cases h5:b.length>512
 ·rw [Bk h5]
  try unfold Aa
  repeat first
   |((with_reducible first|apply Ap|apply Ag|apply Am|apply Ax|apply Az|apply A6|apply Cf|apply Ah);· first|with_reducible rfl|(simp (disch:=omega) only [Bl]<;>with_reducible rfl))
   |((with_reducible first|apply Ao|apply Ak);· first|with_reducible rfl|omega|(simp (disch:=omega) only [gT,Bl]<;>omega))
   |(with_reducible apply Al;· first|with_reducible rfl|(simp (disch:=omega) only [gF,Bl]<;>omega))
  try simp (disch:=omega) only [Bl]
  all_goals rfl
 rw [A3 h5];by_cases he:e=0
 rotate_left
 ·rw [Bk he];have he':(e != 0)=true:=by simp [he]
  try unfold Aa
  repeat first
   |((with_reducible first|apply Ap|apply Ag|apply Am|apply Ax|apply Az|apply A6|apply Cf|apply Ah);· first|with_reducible rfl|(simp (disch:=omega) only [dec,he']<;>with_reducible rfl))
   |((with_reducible first|apply Ao|apply Ak);· first|with_reducible rfl|omega|(simp (disch:=omega) only [gT,dec,he']<;>omega))
   |(with_reducible apply Al;· first|with_reducible rfl|(simp (disch:=omega) only [gF,dec,he']<;>omega))
  try simp (disch:=omega) only [dec,he']
  all_goals rfl
 rw [A3 (by simp [he])]
 subst he;have e00:((0:Int) != 0)=false:=rfl;have e20:((2:Int) != 0)=true:=rfl;have LT:=Eo its;have tT:List.take (its.length*3) (Bq its)=Bq its:=I2 (by omega)
 by_cases h10:its.length=10
 rotate_left
 ·rw [Bk h10];have hne:((its.length:Int) != 10)=true:=by simp;omega
  try unfold Aa
  repeat first
   |((with_reducible first|apply Ap|apply Ag|apply Am|apply Ax|apply Az|apply A6|apply Cf|apply Ah);· first|with_reducible rfl|(simp (disch:=omega) only [dec,e00,Cm,B4,LT,tT,hne,Bn,Br]<;>with_reducible rfl))
   |((with_reducible first|apply Ao|apply Ak);· first|with_reducible rfl|omega|(simp (disch:=omega) only [gT,dec,e00,Cm,B4,LT,tT,hne,Bn,Br]<;>omega))
   |(with_reducible apply Al;· first|with_reducible rfl|(simp (disch:=omega) only [gF,dec,e00,Cm,B4,LT,tT,hne,Bn,Br]<;>omega))
  try simp (disch:=omega) only [dec,e00,Cm,B4,LT,tT,hne,Bn,Br]
  all_goals rfl
 rw [A3 (by simp [h10])]
 obtain ⟨x0,x1,x2,x3,x4,x5,x6,x7,x8,x9,rfl⟩:=As9 h10;have o1:=hox x1 (by simp)
 have o2:=hox x2 (by simp)
 have o3:=hox x3 (by simp)
 have o4:=hox x4 (by simp)
 have o9:=hox x9 (by simp)
 clear hox;have g0:List.getD (Bq [x0,x1,x2,x3,x4,x5,x6,x7,x8,x9]) 0 .top=.sc (.int .i64 x0.k):=rfl;have g1:List.getD (Bq [x0,x1,x2,x3,x4,x5,x6,x7,x8,x9]) 1 .top=.sc (.int .u64 x0.n):=rfl;have g2:List.getD (Bq [x0,x1,x2,x3,x4,x5,x6,x7,x8,x9]) 2 .top=.sc (.string x0.s):=rfl;have g14:List.getD (Bq [x0,x1,x2,x3,x4,x5,x6,x7,x8,x9]) 14 .top=.sc (.string x4.s):=rfl;have g5:List.getD (Bq [x0,x1,x2,x3,x4,x5,x6,x7,x8,x9]) 5 .top=.sc (.string x1.s):=rfl;have g8:List.getD (Bq [x0,x1,x2,x3,x4,x5,x6,x7,x8,x9]) 8 .top=.sc (.string x2.s):=rfl;have g10:List.getD (Bq [x0,x1,x2,x3,x4,x5,x6,x7,x8,x9]) 10 .top=.sc (.int .u64 x3.n):=rfl;have g16:List.getD (Bq [x0,x1,x2,x3,x4,x5,x6,x7,x8,x9]) 16 .top=.sc (.int .u64 x5.n):=rfl;have g19:List.getD (Bq [x0,x1,x2,x3,x4,x5,x6,x7,x8,x9]) 19 .top=.sc (.int .u64 x6.n):=rfl
 have g22:List.getD (Bq [x0,x1,x2,x3,x4,x5,x6,x7,x8,x9]) 22 .top=.sc (.int .u64 x7.n):=rfl;have g25:List.getD (Bq [x0,x1,x2,x3,x4,x5,x6,x7,x8,x9]) 25 .top=.sc (.int .u64 x8.n):=rfl;have g28:List.getD (Bq [x0,x1,x2,x3,x4,x5,x6,x7,x8,x9]) 28 .top=.sc (.int .u64 x9.n):=rfl;have ln:[x0,x1,x2,x3,x4,x5,x6,x7,x8,x9].length=10:=rfl;rw [ln] at dec LT tT;have l10:(((10:Nat):Int) != 10)=false:=rfl;generalize Bq [x0,x1,x2,x3,x4,x5,x6,x7,x8,x9]=T at *
 clear h10;have hs4:=o4.s1;have L4:(Ct x4.s).length=x4.s.size:=by rw [Fp,As,C7]
 have t4:List.take x4.s.size (Ct x4.s)=Ai .u8 (Bz x4.s):=by rw [Fp,I2 (by rw [As,C7];omega)]
 have ar:=Ang (fu:=fu) (d:=d+13) 9 (by omega) (by omega)
 have dk:=Ajj (fu:=fu) (d:=d+12) hfu (R2 x4.s);rw [C7] at dk;unfold Azq;simp only;have ea:(x0.k==5&&(x0.n==9&&(x0.s==ByteArray.mk #[]&&true)))=A1u x0:=rfl;cases ha:A1u x0
 ·rw [ha] at ea;rw [Bk rfl]
  try unfold Aa
  repeat first
   |((with_reducible first|apply Ap|apply Ag|apply Am|apply Ax|apply Az|apply A6|apply Cf|apply Ah);· first|with_reducible rfl|(simp (disch:=omega) only [dec,e00,e20,l10,Cm,B4,Bl,Nat.reduceMul,LT,tT,g0,g1,g2,ar,ea,Bn,Br]<;>with_reducible rfl))
   |((with_reducible first|apply Ao|apply Ak);· first|with_reducible rfl|omega|(simp (disch:=omega) only [gT,dec,e00,e20,l10,Cm,B4,Bl,Nat.reduceMul,LT,tT,g0,g1,g2,ar,ea,Bn,Br]<;>omega))
   |(with_reducible apply Al;· first|with_reducible rfl|(simp (disch:=omega) only [gF,dec,e00,e20,l10,Cm,B4,Bl,Nat.reduceMul,LT,tT,g0,g1,g2,ar,ea,Bn,Br]<;>omega))
  try simp (disch:=omega) only [dec,e00,e20,l10,Cm,B4,Bl,Nat.reduceMul,LT,tT,g0,g1,g2,ar,ea,Bn,Br]
  all_goals rfl
 rw [ha] at ea;rw [A3 (by simp)]
 cases hk:Aa0 (Bz x4.s) with
 |none=>
  rw [hk] at dk;simp only [Acp,Ky.cells] at dk
  try unfold Aa
  repeat first
   |((with_reducible first|apply Ap|apply Ag|apply Am|apply Ax|apply Az|apply A6|apply Cf|apply Ah);· first|with_reducible rfl|(simp (disch:=omega) only [dec,e00,e20,l10,Cm,B4,Bl,Nat.reduceMul,LT,tT,g0,g1,g2,ar,ea,g14,L4,t4,dk,Bn,Br]<;>with_reducible rfl))
   |((with_reducible first|apply Ao|apply Ak);· first|with_reducible rfl|omega|(simp (disch:=omega) only [gT,dec,e00,e20,l10,Cm,B4,Bl,Nat.reduceMul,LT,tT,g0,g1,g2,ar,ea,g14,L4,t4,dk,Bn,Br]<;>omega))
   |(with_reducible apply Al;· first|with_reducible rfl|(simp (disch:=omega) only [gF,dec,e00,e20,l10,Cm,B4,Bl,Nat.reduceMul,LT,tT,g0,g1,g2,ar,ea,g14,L4,t4,dk,Bn,Br]<;>omega))
  try simp (disch:=omega) only [dec,e00,e20,l10,Cm,B4,Bl,Nat.reduceMul,LT,tT,g0,g1,g2,ar,ea,g14,L4,t4,dk,Bn,Br]
  all_goals rfl
 |some k=>
  rw [hk] at dk;simp only [Acp,Ky.cells] at dk;obtain ⟨k1,k2⟩:=Ad5 hk;have ds:=Ab8 (fu:=fu) (d:=d+12) hfu (l:=b.drop used) (fun x hx=>hb x (List.mem_of_mem_drop hx))
  rw [List.length_drop] at ds;have tb:List.take (b.length-used) (List.drop used (Ai .u8 b))=Ai .u8 (b.drop used):=by rw [E6,I2 (by rw [As,List.length_drop];omega)]
  have nu:Int.toNat (used:Int)=used:=G6 used;cases hs:sgD (b.drop used) with
  |none=>
   rw [hs] at ds;simp only [Q8,Sg.owned] at ds
   try unfold Aa
   repeat first
    |((with_reducible first|apply Ap|apply Ag|apply Am|apply Ax|apply Az|apply A6|apply Cf|apply Ah);· first|with_reducible rfl|(simp (disch:=omega) only [dec,e00,e20,l10,Cm,B4,Bl,Nat.reduceMul,LT,tT,g0,g1,g2,ar,ea,g14,L4,t4,dk,nu,tb,ds,Bn,Br]<;>with_reducible rfl))
    |((with_reducible first|apply Ao|apply Ak);· first|with_reducible rfl|omega|(simp (disch:=omega) only [gT,dec,e00,e20,l10,Cm,B4,Bl,Nat.reduceMul,LT,tT,g0,g1,g2,ar,ea,g14,L4,t4,dk,nu,tb,ds,Bn,Br]<;>omega))
    |(with_reducible apply Al;· first|with_reducible rfl|(simp (disch:=omega) only [gF,dec,e00,e20,l10,Cm,B4,Bl,Nat.reduceMul,LT,tT,g0,g1,g2,ar,ea,g14,L4,t4,dk,nu,tb,ds,Bn,Br]<;>omega))
   try simp (disch:=omega) only [dec,e00,e20,l10,Cm,B4,Bl,Nat.reduceMul,LT,tT,g0,g1,g2,ar,ea,g14,L4,t4,dk,nu,tb,ds,Bn,Br]
   all_goals rfl
  |some s=>
   rw [hs] at ds;simp only [Q8,Sg.owned] at ds;obtain ⟨s1,s2,s3⟩:=Ajp hs;simp only;by_cases n5:x5.n>1099511627776
   ·rw [Bk n5]
    try unfold Aa
    repeat first
     |((with_reducible first|apply Ap|apply Ag|apply Am|apply Ax|apply Az|apply A6|apply Cf|apply Ah);· first|with_reducible rfl|(simp (disch:=omega) only [dec,e00,e20,l10,Cm,B4,Bl,Nat.reduceMul,LT,tT,g0,g1,g2,ar,ea,g14,L4,t4,dk,nu,tb,ds,g16,Bn,Br]<;>with_reducible rfl))
     |((with_reducible first|apply Ao|apply Ak);· first|with_reducible rfl|omega|(simp (disch:=omega) only [gT,dec,e00,e20,l10,Cm,B4,Bl,Nat.reduceMul,LT,tT,g0,g1,g2,ar,ea,g14,L4,t4,dk,nu,tb,ds,g16,Bn,Br]<;>omega))
     |(with_reducible apply Al;· first|with_reducible rfl|(simp (disch:=omega) only [gF,dec,e00,e20,l10,Cm,B4,Bl,Nat.reduceMul,LT,tT,g0,g1,g2,ar,ea,g14,L4,t4,dk,nu,tb,ds,g16,Bn,Br]<;>omega))
    try simp (disch:=omega) only [dec,e00,e20,l10,Cm,B4,Bl,Nat.reduceMul,LT,tT,g0,g1,g2,ar,ea,g14,L4,t4,dk,nu,tb,ds,g16,Bn,Br]
    all_goals rfl
   rw [A3 n5];by_cases n6:x6.n>1099511627776
   ·rw [Bk n6]
    try unfold Aa
    repeat first
     |((with_reducible first|apply Ap|apply Ag|apply Am|apply Ax|apply Az|apply A6|apply Cf|apply Ah);· first|with_reducible rfl|(simp (disch:=omega) only [dec,e00,e20,l10,Cm,B4,Bl,Nat.reduceMul,LT,tT,g0,g1,g2,ar,ea,g14,L4,t4,dk,nu,tb,ds,g16,g19,Bn,Br]<;>with_reducible rfl))
     |((with_reducible first|apply Ao|apply Ak);· first|with_reducible rfl|omega|(simp (disch:=omega) only [gT,dec,e00,e20,l10,Cm,B4,Bl,Nat.reduceMul,LT,tT,g0,g1,g2,ar,ea,g14,L4,t4,dk,nu,tb,ds,g16,g19,Bn,Br]<;>omega))
     |(with_reducible apply Al;· first|with_reducible rfl|(simp (disch:=omega) only [gF,dec,e00,e20,l10,Cm,B4,Bl,Nat.reduceMul,LT,tT,g0,g1,g2,ar,ea,g14,L4,t4,dk,nu,tb,ds,g16,g19,Bn,Br]<;>omega))
    try simp (disch:=omega) only [dec,e00,e20,l10,Cm,B4,Bl,Nat.reduceMul,LT,tT,g0,g1,g2,ar,ea,g14,L4,t4,dk,nu,tb,ds,g16,g19,Bn,Br]
    all_goals rfl
   rw [A3 n6];by_cases n8:x8.n>2
   ·rw [Bk n8]
    try unfold Aa
    repeat first
     |((with_reducible first|apply Ap|apply Ag|apply Am|apply Ax|apply Az|apply A6|apply Cf|apply Ah);· first|with_reducible rfl|(simp (disch:=omega) only [dec,e00,e20,l10,Cm,B4,Bl,Nat.reduceMul,LT,tT,g0,g1,g2,ar,ea,g14,L4,t4,dk,nu,tb,ds,g16,g19,g25,Bn,Br]<;>with_reducible rfl))
     |((with_reducible first|apply Ao|apply Ak);· first|with_reducible rfl|omega|(simp (disch:=omega) only [gT,dec,e00,e20,l10,Cm,B4,Bl,Nat.reduceMul,LT,tT,g0,g1,g2,ar,ea,g14,L4,t4,dk,nu,tb,ds,g16,g19,g25,Bn,Br]<;>omega))
     |(with_reducible apply Al;· first|with_reducible rfl|(simp (disch:=omega) only [gF,dec,e00,e20,l10,Cm,B4,Bl,Nat.reduceMul,LT,tT,g0,g1,g2,ar,ea,g14,L4,t4,dk,nu,tb,ds,g16,g19,g25,Bn,Br]<;>omega))
    try simp (disch:=omega) only [dec,e00,e20,l10,Cm,B4,Bl,Nat.reduceMul,LT,tT,g0,g1,g2,ar,ea,g14,L4,t4,dk,nu,tb,ds,g16,g19,g25,Bn,Br]
    all_goals rfl
   rw [A3 n8];have cok:(G7 x1 x2 x3 x5 x6 x7 x8 x9 k s).ok:=Y1 o3 o9 k2 s1;have en:=Awq (fu:=fu) (d:=d+8) (c:=G7 x1 x2 x3 x5 x6 x7 x8 x9 k s) hfu cok.wf (Nat.le_trans o1.s1 (by omega)) (Nat.le_trans o2.s1 (by omega)) (Nat.le_trans s2 (by omega))
   have ec:(G7 x1 x2 x3 x5 x6 x7 x8 x9 k s).cells=[.sc (.string x1.s),.sc (.string x2.s),.sc (.int .u64 x3.n),.sc (.int .i64 k.h),.sc (.int .u64 k.root),.sc (.int .i64 (IntKind.wrap .i64 x5.n)),.sc (.int .i64 (IntKind.wrap .i64 x6.n)),.sc (.bool (x7.n==1)),.sc (.int .i64 (IntKind.wrap .i64 x8.n)),.sc (.int .u64 x9.n),.sc (.int .i64 s.leaf),.lst false 1 s.chains.length (Ai .u64 s.chains),.lst false 1 s.path.length (Ai .u64 s.path)]:=rfl;have eB:=fun h=>At4 (c:=G7 x1 x2 x3 x5 x6 x7 x8 x9 k s) cok.wf h
   have eL:=fun h=>Aes (c:=G7 x1 x2 x3 x5 x6 x7 x8 x9 k s) h
   have Lc:=As .u64 s.chains;have Lp:=As .u64 s.path;have tc:=G4 .u64 s.chains;have tp:=G4 .u64 s.path;generalize G7 x1 x2 x3 x5 x6 x7 x8 x9 k s=c at *
   rw [ec] at en;unfold Ab1 at en;by_cases hz:Dv c=0
   rotate_left
   ·have hz':(Dv c != 0)=true:=by simp [hz]
    rw [A3 hz] at en;rw [A3 (fun h=>hz h.1)]
    try unfold Aa
    repeat first
     |((with_reducible first|apply Ap|apply Ag|apply Am|apply Ax|apply Az|apply A6|apply Cf|apply Ah);· first|with_reducible rfl|(simp (disch:=omega) only [dec,e00,e20,l10,Cm,B4,Bl,Nat.reduceMul,LT,tT,g0,g1,g2,ar,ea,g14,L4,t4,dk,nu,tb,ds,g5,g8,g10,g16,g19,g22,g25,g28,Lc,Lp,tc,tp,en,hz',Bn,Br]<;>with_reducible rfl))
     |((with_reducible first|apply Ao|apply Ak);· first|with_reducible rfl|omega|(simp (disch:=omega) only [gT,dec,e00,e20,l10,Cm,B4,Bl,Nat.reduceMul,LT,tT,g0,g1,g2,ar,ea,g14,L4,t4,dk,nu,tb,ds,g5,g8,g10,g16,g19,g22,g25,g28,Lc,Lp,tc,tp,en,hz',Bn,Br]<;>omega))
     |(with_reducible apply Al;· first|with_reducible rfl|(simp (disch:=omega) only [gF,dec,e00,e20,l10,Cm,B4,Bl,Nat.reduceMul,LT,tT,g0,g1,g2,ar,ea,g14,L4,t4,dk,nu,tb,ds,g5,g8,g10,g16,g19,g22,g25,g28,Lc,Lp,tc,tp,en,hz',Bn,Br]<;>omega))
    try simp (disch:=omega) only [dec,e00,e20,l10,Cm,B4,Bl,Nat.reduceMul,LT,tT,g0,g1,g2,ar,ea,g14,L4,t4,dk,nu,tb,ds,g5,g8,g10,g16,g19,g22,g25,g28,Lc,Lp,tc,tp,en,hz',Bn,Br]
    all_goals rfl
   rw [Bk hz] at en;have be:=A88 (eB hz) hb;have LE:=As .u8 (Es c);have tE:=G4 .u8 (Es c);have oE:=Fu (Es c);have LB:=As .u8 b;have oB:=Fu b;by_cases hq:Es c=b
   ·rw [Bk ⟨hz,hq⟩];simp only [hq,decide_true] at be en LE tE oE;simp only [ec]
    try unfold Aa
    repeat first
     |((with_reducible first|apply Ap|apply Ag|apply Am|apply Ax|apply Az|apply A6|apply Cf|apply Ah);· first|with_reducible rfl|(simp (disch:=omega) only [dec,e00,e20,l10,Cm,B4,Bl,Nat.reduceMul,LT,tT,g0,g1,g2,ar,ea,g14,L4,t4,dk,nu,tb,ds,g5,g8,g10,g16,g19,g22,g25,g28,Lc,Lp,tc,tp,en,LE,tE,oE,LB,oB,be,Bn,Br]<;>with_reducible rfl))
     |((with_reducible first|apply Ao|apply Ak);· first|with_reducible rfl|omega|(simp (disch:=omega) only [gT,dec,e00,e20,l10,Cm,B4,Bl,Nat.reduceMul,LT,tT,g0,g1,g2,ar,ea,g14,L4,t4,dk,nu,tb,ds,g5,g8,g10,g16,g19,g22,g25,g28,Lc,Lp,tc,tp,en,LE,tE,oE,LB,oB,be,Bn,Br]<;>omega))
     |(with_reducible apply Al;· first|with_reducible rfl|(simp (disch:=omega) only [gF,dec,e00,e20,l10,Cm,B4,Bl,Nat.reduceMul,LT,tT,g0,g1,g2,ar,ea,g14,L4,t4,dk,nu,tb,ds,g5,g8,g10,g16,g19,g22,g25,g28,Lc,Lp,tc,tp,en,LE,tE,oE,LB,oB,be,Bn,Br]<;>omega))
    try simp (disch:=omega) only [dec,e00,e20,l10,Cm,B4,Bl,Nat.reduceMul,LT,tT,g0,g1,g2,ar,ea,g14,L4,t4,dk,nu,tb,ds,g5,g8,g10,g16,g19,g22,g25,g28,Lc,Lp,tc,tp,en,LE,tE,oE,LB,oB,be,Bn,Br]
    all_goals rfl
   ·rw [A3 (fun h=>hq h.2)]
    simp only [hq,decide_false] at be
    try unfold Aa
    repeat first
     |((with_reducible first|apply Ap|apply Ag|apply Am|apply Ax|apply Az|apply A6|apply Cf|apply Ah);· first|with_reducible rfl|(simp (disch:=omega) only [dec,e00,e20,l10,Cm,B4,Bl,Nat.reduceMul,LT,tT,g0,g1,g2,ar,ea,g14,L4,t4,dk,nu,tb,ds,g5,g8,g10,g16,g19,g22,g25,g28,Lc,Lp,tc,tp,en,LE,tE,oE,LB,oB,be,Bn,Br]<;>with_reducible rfl))
     |((with_reducible first|apply Ao|apply Ak);· first|with_reducible rfl|omega|(simp (disch:=omega) only [gT,dec,e00,e20,l10,Cm,B4,Bl,Nat.reduceMul,LT,tT,g0,g1,g2,ar,ea,g14,L4,t4,dk,nu,tb,ds,g5,g8,g10,g16,g19,g22,g25,g28,Lc,Lp,tc,tp,en,LE,tE,oE,LB,oB,be,Bn,Br]<;>omega))
     |(with_reducible apply Al;· first|with_reducible rfl|(simp (disch:=omega) only [gF,dec,e00,e20,l10,Cm,B4,Bl,Nat.reduceMul,LT,tT,g0,g1,g2,ar,ea,g14,L4,t4,dk,nu,tb,ds,g5,g8,g10,g16,g19,g22,g25,g28,Lc,Lp,tc,tp,en,LE,tE,oE,LB,oB,be,Bn,Br]<;>omega))
    try simp (disch:=omega) only [dec,e00,e20,l10,Cm,B4,Bl,Nat.reduceMul,LT,tT,g0,g1,g2,ar,ea,g14,L4,t4,dk,nu,tb,ds,g5,g8,g10,g16,g19,g22,g25,g28,Lc,Lp,tc,tp,en,LE,tE,oE,LB,oB,be,Bn,Br]
    all_goals rfl
theorem A2o (hfu:1000<=fu){b:List Int}(hb:Gn b)(hl:b.length<=1000000):
  Ae C0 Tryz.prog fu (d+15) Is [.lst false 1 b.length (Ai .u8 b)]=some ⟨[.agg (Jy b).1.cells,.sc (.int .i64 (Jy b).2)],[]⟩:=by
 have fi:=Ri hb 10 0 false C2 0 [] (by omega) (by simp) (by simp)
 have e:Yp b (Aea b)=Jy b:=Ay8 hb (by
  unfold Aea;split
  ·intro x hx;simp at hx
  ·intro x hx;exact (fi.all x hx).1) (fun c c1 c2 c3=>by subst c3;exact Azs c1 c2)
 rw [←e];exact Avx hfu hb hl
end
end
section
structure An where
 name:ByteArray
 key:Ky
structure Rv where
 iss:ByteArray
 ser:Int
 at_:Int
def An.cells (a:An):List PV:=[.sc (.string a.name),.sc (.int .i64 a.key.h),.sc (.int .u64 a.key.root)]
def Rv.cells (r:Rv):List PV:=[.sc (.string r.iss),.sc (.int .u64 r.ser),.sc (.int .i64 r.at_)]
def Ed (l:List An):List PV:=l.flatMap An.cells
def Ex (l:List Rv):List PV:=l.flatMap Rv.cells
def Cd (l:List Ce):List PV:=l.flatMap Ce.cells
theorem An.cells_len (a:An):a.cells.length=3:=rfl
theorem Rv.cells_len (r:Rv):r.cells.length=3:=rfl
theorem Ce.cells_len (c:Ce):c.cells.length=13:=rfl
theorem Zv (l:List Ce):(Cd l).length=l.length*13:=Ald Ce.cells_len l
abbrev eqS (a b:ByteArray):Bool:=Array.toList (ByteArray.data a)==Array.toList (ByteArray.data b)
def Me (c:Ce)(now:Int)(r:Rv):Bool:=eqS r.iss c.iss&&(r.ser==c.serial&&decide (r.at_<=now))
def Jz (c:Ce)(now:Int)(l:List Rv):Int:=if l.any (Me c now)=true then 39 else 0
def Ge (c:Ce)(i:Int)(l:List Rv)(now:Int):Int:=
 if Be c≠0 then Be c else if now<c.fr then 38 else if now>c.un then 38 else if i>0 then (if c.auth=false then 38 else if c.path<i-1 then 38 else Jz c now l) else Jz c now l
def Ms (c:Ce):Nat->List An->Int
 |_,[]=> -1
 |i,a::r=>if eqS a.name c.iss=true∧Ns c a.key=0 then (i:Int) else Ms c (i+1) r
def Aqp (c:Ce)(l:List An):Int × Int:=if Ms c 0 l<0 then (0,38) else (Ms c 0 l,0)
def Vn (ans:List An)(vs:List Rv)(now:Int):Nat->List Ce->Int × Int
 |_,[]=>(0,0)
 |i,[c]=>if Ge c i vs now≠0 then (0,Ge c i vs now) else Aqp c ans
 |i,c::c2::r=>if Ge c i vs now≠0 then (0,Ge c i vs now) else if eqS c.iss c2.subj=false then (0,38) else if Ns c c2.key≠0 then (0,Ns c c2.key) else Vn ans vs now (i+1) (c2::r)
def O1 (cs:List Ce)(ans:List An)(vs:List Rv)(now:Int):Int × Int:=
 if now<0 then (0,9) else if now>1099511627776 then (0,9) else if cs.length<1 then (0,38) else if cs.length>3 then (0,38) else Vn ans vs now 0 cs
structure Ce.in_ (c:Ce):Prop where
 wf:c.wf
 s1:c.subj.size<=9223372036854775807
 s2:c.iss.size<=9223372036854775807
theorem cer {l:List Ce}{i:Nat}{c:Ce}(h:l[i]?=some c):
  (Cd l).getD (i*13) .top=.sc (.string c.subj)∧(Cd l).getD (i*13+1) .top=.sc (.string c.iss)∧(Cd l).getD (i*13+1+1) .top=.sc (.int .u64 c.serial) ∧
  (Cd l).getD (i*13+1+1+1) .top=.sc (.int .i64 c.key.h)∧(Cd l).getD (i*13+1+1+1+1) .top=.sc (.int .u64 c.key.root)∧(Cd l).getD (i*13+1+1+1+1+1) .top=.sc (.int .i64 c.fr) ∧
  (Cd l).getD (i*13+1+1+1+1+1+1) .top=.sc (.int .i64 c.un)∧(Cd l).getD (i*13+1+1+1+1+1+1+1) .top=.sc (.bool c.auth)∧(Cd l).getD (i*13+1+1+1+1+1+1+1+1) .top=.sc (.int .i64 c.path) ∧
  (Cd l).getD (i*13+1+1+1+1+1+1+1+1+1) .top=.sc (.int .u64 c.model)∧(Cd l).getD (i*13+1+1+1+1+1+1+1+1+1+1) .top=.sc (.int .i64 c.sig.leaf) ∧
  (Cd l).getD (i*13+1+1+1+1+1+1+1+1+1+1+1) .top=.lst false 1 c.sig.chains.length (Ai .u64 c.sig.chains)∧(Cd l).getD (i*13+1+1+1+1+1+1+1+1+1+1+1+1) .top=.lst false 1 c.sig.path.length (Ai .u64 c.sig.path):=
 ⟨D3 Ce.cells_len h (j:=0) (by omega),D3 Ce.cells_len h (j:=1) (by omega),D3 Ce.cells_len h (j:=2) (by omega),D3 Ce.cells_len h (j:=3) (by omega),D3 Ce.cells_len h (j:=4) (by omega),D3 Ce.cells_len h (j:=5) (by omega),D3 Ce.cells_len h (j:=6) (by omega),D3 Ce.cells_len h (j:=7) (by omega),D3 Ce.cells_len h (j:=8) (by omega),D3 Ce.cells_len h (j:=9) (by omega),D3 Ce.cells_len h (j:=10) (by omega),D3 Ce.cells_len h (j:=11) (by omega),D3 Ce.cells_len h (j:=12) (by omega)⟩
theorem rva {l:List Rv}{i:Nat}{r:Rv}(h:l[i]?=some r):(Ex l).getD (i*3) .top=.sc (.string r.iss)∧(Ex l).getD (i*3+1) .top=.sc (.int .u64 r.ser)∧(Ex l).getD (i*3+2) .top=.sc (.int .i64 r.at_):=
 ⟨D3 Rv.cells_len h (j:=0) (by omega),D3 Rv.cells_len h (j:=1) (by omega),D3 Rv.cells_len h (j:=2) (by omega)⟩
theorem ana {l:List An}{i:Nat}{a:An}(h:l[i]?=some a):(Ed l).getD (i*3) .top=.sc (.string a.name)∧(Ed l).getD (i*3+1) .top=.sc (.int .i64 a.key.h)∧(Ed l).getD (i*3+2) .top=.sc (.int .u64 a.key.root):=
 ⟨D3 An.cells_len h (j:=0) (by omega),D3 An.cells_len h (j:=1) (by omega),D3 An.cells_len h (j:=2) (by omega)⟩
section
variable {fu d:Nat}
theorem An3 {call:Aq}{a0_0 a0_1:ByteArray}{a0_2 a0_3 a0_4 a0_5 a0_6 a0_8 a0_9 a0_10 a1 a3:Int}{a0_7:Bool}{a0_11n a0_12n a2n:Nat}{a0_11 a0_12 a2:List PV}{c:Ce}{now:Int}{vs:List Rv}(hl:vs.length<=1000000):∀(r:List Rv)(i nn:Nat),vs.drop i=r->r.length<nn->i<=vs.length ->
  C6 fu call a0_0 a0_1 a0_2 a0_3 a0_4 a0_5 a0_6 a0_7 a0_8 a0_9 a0_10 a0_11n a0_11 a0_12n a0_12 a1 a2n a2 a3 nn now vs.length (Ex vs) (vs.length:Int) (i:Int) c.subj c.iss c.serial c.key.h c.key.root c.fr c.un c.auth c.path c.model c.sig.leaf c.sig.chains.length (Ai .u64 c.sig.chains) c.sig.path.length (Ai .u64 c.sig.path) =
   some ⟨[.sc (.int .i64 (Jz c now r))],[]⟩
 |_,_,0,_,h,_=>by omega
 |[],i,nn+1,h,hn,hi=>by
  have:=drop_nil h;rw [I7,Dj _ _ _ (by omega)]
  rfl
 |r::rs,i,nn+1,h,hn,hi=>by
  obtain ⟨h1,h2,h3⟩:=Ca h;simp only [H0] at hn;obtain ⟨c0,c1,c2⟩:=rva h2;have w:IntKind.wrap .i64 ((i:Int)+1)=((i+1:Nat):Int):=by rw [Au (by omega) (by omega)];omega
  have nt:Int.toNat (i:Int)=i:=G6 _;have c2':(Ex vs).getD (i*3+1+1) .top=.sc (.int .i64 r.at_):=c2;have ih:=An3 (call:=call) (a0_0:=a0_0) (a0_1:=a0_1) (a0_2:=a0_2) (a0_3:=a0_3) (a0_4:=a0_4) (a0_5:=a0_5) (a0_6:=a0_6) (a0_7:=a0_7) (a0_8:=a0_8) (a0_9:=a0_9) (a0_10:=a0_10) (a1:=a1) (a3:=a3) (a0_11n:=a0_11n) (a0_12n:=a0_12n) (a2n:=a2n) (a0_11:=a0_11) (a0_12:=a0_12) (a2:=a2) (c:=c) (now:=now) hl rs (i+1) nn h3 (by omega) (by omega)
  have er:Jz c now (r::rs)=if Me c now r=true then 39 else Jz c now rs:=by
   unfold Jz;rw [List.any_cons];cases Me c now r<;>rfl
  rw [er,I7];unfold Me;cases e1:eqS r.iss c.iss
  ·rw [Bool.false_and,A3 (by simp),←ih]
   try unfold Aa
   repeat first
    |((with_reducible first|apply Ap|apply Ag|apply Am|apply Ar|apply Ax|apply Az|apply Bh|apply Ah);· first|with_reducible rfl|(simp (disch:=omega) only [nt,c0,c1,c2',e1,w]<;>with_reducible rfl))
    |((with_reducible first|apply Ao|apply Ak);· first|with_reducible rfl|omega|(simp (disch:=omega) only [gT,nt,c0,c1,c2',e1,w]<;>omega))
    |(with_reducible apply Al;· first|with_reducible rfl|(simp (disch:=omega) only [gF,nt,c0,c1,c2',e1,w]<;>omega))
   try simp (disch:=omega) only [nt,c0,c1,c2',e1,w]
   all_goals rfl
  ·cases e2:(r.ser==c.serial)
   ·rw [Zzm,Bool.false_and,A3 (by simp),←ih]
    try unfold Aa
    repeat first
     |((with_reducible first|apply Ap|apply Ag|apply Am|apply Ar|apply Ax|apply Az|apply Bh|apply Ah);· first|with_reducible rfl|(simp (disch:=omega) only [nt,c0,c1,c2',e1,e2,w]<;>with_reducible rfl))
     |((with_reducible first|apply Ao|apply Ak);· first|with_reducible rfl|omega|(simp (disch:=omega) only [gT,nt,c0,c1,c2',e1,e2,w]<;>omega))
     |(with_reducible apply Al;· first|with_reducible rfl|(simp (disch:=omega) only [gF,nt,c0,c1,c2',e1,e2,w]<;>omega))
    try simp (disch:=omega) only [nt,c0,c1,c2',e1,e2,w]
    all_goals rfl
   ·by_cases e3:r.at_<=now
    ·rw [Bk (by simp [e3])]
     try unfold Aa
     repeat first
      |((with_reducible first|apply Ap|apply Ag|apply Am|apply Ar|apply Ax|apply Az|apply Bh|apply Ah);· first|with_reducible rfl|(simp (disch:=omega) only [nt,c0,c1,c2',e1,e2,w]<;>with_reducible rfl))
      |((with_reducible first|apply Ao|apply Ak);· first|with_reducible rfl|omega|(simp (disch:=omega) only [gT,nt,c0,c1,c2',e1,e2,w]<;>omega))
      |(with_reducible apply Al;· first|with_reducible rfl|(simp (disch:=omega) only [gF,nt,c0,c1,c2',e1,e2,w]<;>omega))
     try simp (disch:=omega) only [nt,c0,c1,c2',e1,e2,w]
     all_goals rfl
    ·rw [A3 (by simp [e3]),←ih]
     try unfold Aa
     repeat first
      |((with_reducible first|apply Ap|apply Ag|apply Am|apply Ar|apply Ax|apply Az|apply Bh|apply Ah);· first|with_reducible rfl|(simp (disch:=omega) only [nt,c0,c1,c2',e1,e2,w]<;>with_reducible rfl))
      |((with_reducible first|apply Ao|apply Ak);· first|with_reducible rfl|omega|(simp (disch:=omega) only [gT,nt,c0,c1,c2',e1,e2,w]<;>omega))
      |(with_reducible apply Al;· first|with_reducible rfl|(simp (disch:=omega) only [gF,nt,c0,c1,c2',e1,e2,w]<;>omega))
     try simp (disch:=omega) only [nt,c0,c1,c2',e1,e2,w]
     all_goals rfl
theorem Axr (hfu:1000<=fu){c:Ce}(hc:c.in_){vs:List Rv}(hl:vs.length<=900){i:Int}(hi:0<=i)(hi':i<=1000)(now:Int):
  Ae C0 Tryz.prog fu (d+8) K0 [.agg c.cells,.sc (.int .i64 i),.lst false 3 vs.length (Ex vs),.sc (.int .i64 now)]=some ⟨[.sc (.int .i64 (Ge c i vs now))],[]⟩:=by
 refine (Vp fu (d+7) c.subj c.iss c.serial c.key.h c.key.root c.fr c.un c.auth c.path c.model c.sig.leaf c.sig.chains.length (Ai .u64 c.sig.chains) c.sig.path.length (Ai .u64 c.sig.path) i vs.length (Ex vs) now).trans ?_;have bq:=Aiq (fu:=fu) (d:=d) hfu hc.wf hc.s1 hc.s2;simp only [Ce.cells] at bq;unfold Gr at bq;have lp:=An3 (fu:=fu) (call:=Ae C0 Tryz.prog fu (d+7)) (a0_0:=c.subj) (a0_1:=c.iss) (a0_2:=c.serial) (a0_3:=c.key.h) (a0_4:=c.key.root) (a0_5:=c.fr) (a0_6:=c.un) (a0_7:=c.auth) (a0_8:=c.path) (a0_9:=c.model) (a0_10:=c.sig.leaf) (a1:=i) (a3:=now) (a0_11n:=c.sig.chains.length) (a0_12n:=c.sig.path.length) (a2n:=vs.length) (a0_11:=Ai .u64 c.sig.chains) (a0_12:=Ai .u64 c.sig.path) (a2:=Ex vs) (c:=c) (now:=now) (vs:=vs) (by omega) vs 0 fu rfl (by omega) (by omega)
 unfold Ge;by_cases h0:Be c=0
 rotate_left
 ·have hne:(Be c != 0)=true:=by simp [h0]
  rw [A3 h0] at bq;rw [Bk h0]
  try unfold Aa
  repeat first
   |((with_reducible first|apply Ap|apply Ag|apply Am|apply Ar|apply Ax|apply Az|apply Bh|apply Ah);· first|with_reducible rfl|(simp (disch:=omega) only [bq,hne]<;>with_reducible rfl))
   |((with_reducible first|apply Ao|apply Ak);· first|with_reducible rfl|omega|(simp (disch:=omega) only [gT,bq,hne]<;>omega))
   |(with_reducible apply Al;· first|with_reducible rfl|(simp (disch:=omega) only [gF,bq,hne]<;>omega))
  try simp (disch:=omega) only [bq,hne]
  all_goals rfl
 rw [Bk h0] at bq;rw [A3 (by simp [h0])]
 have e00:((0:Int) != 0)=false:=rfl;have w:IntKind.wrap .i64 (i-1)=i-1:=Au (by omega) (by omega)
 by_cases h1:now<c.fr
 ·rw [Bk h1]
  try unfold Aa
  repeat first
   |((with_reducible first|apply Ap|apply Ag|apply Am|apply Ar|apply Ax|apply Az|apply Bh|apply Ah);· first|with_reducible rfl|(simp (disch:=omega) only [bq,e00]<;>with_reducible rfl))
   |((with_reducible first|apply Ao|apply Ak);· first|with_reducible rfl|omega|(simp (disch:=omega) only [gT,bq,e00]<;>omega))
   |(with_reducible apply Al;· first|with_reducible rfl|(simp (disch:=omega) only [gF,bq,e00]<;>omega))
  try simp (disch:=omega) only [bq,e00]
  all_goals rfl
 rw [A3 h1];by_cases h2:now>c.un
 ·rw [Bk h2]
  try unfold Aa
  repeat first
   |((with_reducible first|apply Ap|apply Ag|apply Am|apply Ar|apply Ax|apply Az|apply Bh|apply Ah);· first|with_reducible rfl|(simp (disch:=omega) only [bq,e00]<;>with_reducible rfl))
   |((with_reducible first|apply Ao|apply Ak);· first|with_reducible rfl|omega|(simp (disch:=omega) only [gT,bq,e00]<;>omega))
   |(with_reducible apply Al;· first|with_reducible rfl|(simp (disch:=omega) only [gF,bq,e00]<;>omega))
  try simp (disch:=omega) only [bq,e00]
  all_goals rfl
 rw [A3 h2];by_cases h3:i>0
 ·rw [Bk h3];cases h4:c.auth
  ·rw [Bk rfl];rw [h4] at bq
   try unfold Aa
   repeat first
    |((with_reducible first|apply Ap|apply Ag|apply Am|apply Ar|apply Ax|apply Az|apply Bh|apply Ah);· first|with_reducible rfl|(simp (disch:=omega) only [bq,e00,Br]<;>with_reducible rfl))
    |((with_reducible first|apply Ao|apply Ak);· first|with_reducible rfl|omega|(simp (disch:=omega) only [gT,bq,e00,Br]<;>omega))
    |(with_reducible apply Al;· first|with_reducible rfl|(simp (disch:=omega) only [gF,bq,e00,Br]<;>omega))
   try simp (disch:=omega) only [bq,e00,Br]
   all_goals rfl
  ·rw [A3 (by simp)]
   rw [h4] at lp bq;by_cases h5:c.path<i-1
   ·rw [Bk h5]
    try unfold Aa
    repeat first
     |((with_reducible first|apply Ap|apply Ag|apply Am|apply Ar|apply Ax|apply Az|apply Bh|apply Ah);· first|with_reducible rfl|(simp (disch:=omega) only [bq,e00,h4,w,Bn]<;>with_reducible rfl))
     |((with_reducible first|apply Ao|apply Ak);· first|with_reducible rfl|omega|(simp (disch:=omega) only [gT,bq,e00,h4,w,Bn]<;>omega))
     |(with_reducible apply Al;· first|with_reducible rfl|(simp (disch:=omega) only [gF,bq,e00,h4,w,Bn]<;>omega))
    try simp (disch:=omega) only [bq,e00,h4,w,Bn]
    all_goals rfl
   ·rw [A3 h5,←lp]
    try unfold Aa
    repeat first
     |((with_reducible first|apply Ap|apply Ag|apply Am|apply Ar|apply Ax|apply Az|apply Bh|apply Ah);· first|with_reducible rfl|(simp (disch:=omega) only [bq,e00,h4,w,Bn]<;>with_reducible rfl))
     |((with_reducible first|apply Ao|apply Ak);· first|with_reducible rfl|omega|(simp (disch:=omega) only [gT,bq,e00,h4,w,Bn]<;>omega))
     |(with_reducible apply Al;· first|with_reducible rfl|(simp (disch:=omega) only [gF,bq,e00,h4,w,Bn]<;>omega))
    try simp (disch:=omega) only [bq,e00,h4,w,Bn]
    all_goals rfl
 ·rw [A3 h3,←lp]
  try unfold Aa
  repeat first
   |((with_reducible first|apply Ap|apply Ag|apply Am|apply Ar|apply Ax|apply Az|apply Bh|apply Ah);· first|with_reducible rfl|(simp (disch:=omega) only [bq,e00]<;>with_reducible rfl))
   |((with_reducible first|apply Ao|apply Ak);· first|with_reducible rfl|omega|(simp (disch:=omega) only [gT,bq,e00]<;>omega))
   |(with_reducible apply Al;· first|with_reducible rfl|(simp (disch:=omega) only [gF,bq,e00]<;>omega))
  try simp (disch:=omega) only [bq,e00]
  all_goals rfl
theorem Ae1 (hfu:1000<=fu){a0n a1n a2n:Nat}{a0 a1 a2:List PV}{a3:Int}{c:Ce}(hc:c.in_){ans:List An}(hl:ans.length<=1000000):∀(r:List An)(i nn:Nat),ans.drop i=r->r.length<nn->i<=ans.length ->
  E5 fu (Ae C0 Tryz.prog fu (d+9)) a0n a0 a1n a1 a2n a2 a3 nn ans.length (Ed ans) (ans.length:Int) (i:Int) c.subj c.iss c.serial c.key.h c.key.root c.fr c.un c.auth c.path c.model c.sig.leaf c.sig.chains.length (Ai .u64 c.sig.chains) c.sig.path.length (Ai .u64 c.sig.path) =
   some ⟨(if Ms c i r<0 then [.sc (.int .i64 0),.sc (.int .i64 38)] else [.sc (.int .i64 (Ms c i r)),.sc (.int .i64 0)]),[]⟩
 |_,_,0,_,h,_=>by omega
 |[],i,nn+1,h,hn,hi=>by
  have:=drop_nil h;rw [M3,Dj _ _ _ (by omega)]
  rfl
 |a::rs,i,nn+1,h,hn,hi=>by
  obtain ⟨h1,h2,h3⟩:=Ca h;simp only [H0] at hn;obtain ⟨c0,c1,c2⟩:=ana h2;have w:IntKind.wrap .i64 ((i:Int)+1)=((i+1:Nat):Int):=by rw [Au (by omega) (by omega)];omega
  have nt:Int.toNat (i:Int)=i:=G6 _;have c2':(Ed ans).getD (i*3+1+1) .top=.sc (.int .u64 a.key.root):=c2;have vq:=Asg (fu:=fu) (d:=d) hfu hc.wf hc.s1 hc.s2 a.key;simp only [Ce.cells,Ky.cells] at vq;have ih:=Ae1 hfu (a0n:=a0n) (a1n:=a1n) (a2n:=a2n) (a0:=a0) (a1:=a1) (a2:=a2) (a3:=a3) hc hl rs (i+1) nn h3 (by omega) (by omega)
  rw [M3];cases e1:eqS a.name c.iss
  ·have er:Ms c i (a::rs)=Ms c (i+1) rs:=by rw [Ms,A3 (by simp [e1])]
   rw [er,←ih]
   try unfold Aa
   repeat first
    |((with_reducible first|apply Ap|apply Ag|apply Am|apply Ar|apply Ax|apply Az|apply Bh|apply Ah);· first|with_reducible rfl|(simp (disch:=omega) only [nt,c0,c1,c2',e1,w]<;>with_reducible rfl))
    |((with_reducible first|apply Ao|apply Ak);· first|with_reducible rfl|omega|(simp (disch:=omega) only [gT,nt,c0,c1,c2',e1,w]<;>omega))
    |(with_reducible apply Al;· first|with_reducible rfl|(simp (disch:=omega) only [gF,nt,c0,c1,c2',e1,w]<;>omega))
   try simp (disch:=omega) only [nt,c0,c1,c2',e1,w]
   all_goals rfl
  ·by_cases e2:Ns c a.key=0
   ·have e2':(Ns c a.key==0)=true:=by simp [e2]
    have er:Ms c i (a::rs)=(i:Int):=by rw [Ms,Bk ⟨e1,e2⟩]
    rw [er,A3 (by omega)]
    try unfold Aa
    repeat first
     |((with_reducible first|apply Ap|apply Ag|apply Am|apply Ar|apply Ax|apply Az|apply Bh|apply Ah);· first|with_reducible rfl|(simp (disch:=omega) only [nt,c0,c1,c2',e1,w,vq,e2']<;>with_reducible rfl))
     |((with_reducible first|apply Ao|apply Ak);· first|with_reducible rfl|omega|(simp (disch:=omega) only [gT,nt,c0,c1,c2',e1,w,vq,e2']<;>omega))
     |(with_reducible apply Al;· first|with_reducible rfl|(simp (disch:=omega) only [gF,nt,c0,c1,c2',e1,w,vq,e2']<;>omega))
    try simp (disch:=omega) only [nt,c0,c1,c2',e1,w,vq,e2']
    all_goals rfl
   ·have e2':(Ns c a.key==0)=false:=by simp [e2]
    have er:Ms c i (a::rs)=Ms c (i+1) rs:=by rw [Ms,A3 (by simp [e2])]
    rw [er,←ih]
    try unfold Aa
    repeat first
     |((with_reducible first|apply Ap|apply Ag|apply Am|apply Ar|apply Ax|apply Az|apply Bh|apply Ah);· first|with_reducible rfl|(simp (disch:=omega) only [nt,c0,c1,c2',e1,w,vq,e2']<;>with_reducible rfl))
     |((with_reducible first|apply Ao|apply Ak);· first|with_reducible rfl|omega|(simp (disch:=omega) only [gT,nt,c0,c1,c2',e1,w,vq,e2']<;>omega))
     |(with_reducible apply Al;· first|with_reducible rfl|(simp (disch:=omega) only [gF,nt,c0,c1,c2',e1,w,vq,e2']<;>omega))
    try simp (disch:=omega) only [nt,c0,c1,c2',e1,w,vq,e2']
    all_goals rfl
theorem An9 (hfu:1000<=fu){a0n a1n a2n:Nat}{a0 a1 a2:List PV}{a3:Int}{cs:List Ce}(hc:∀c∈cs,c.in_)(h3:cs.length<=3){ans:List An}(hl:ans.length<=900){vs:List Rv}(hv:vs.length<=900){now:Int}:∀(r:List Ce)(i nn:Nat),r≠[]->cs.drop i=r->r.length<nn->i<=cs.length ->
  Hk fu (Ae C0 Tryz.prog fu (d+9)) a0n a0 a1n a1 a2n a2 a3 nn cs.length (Cd cs) ans.length (Ed ans) vs.length (Ex vs) now cs.length (Cd cs) (cs.length:Int) (i:Int) =
   some ⟨[.sc (.int .i64 (Vn ans vs now i r).1),.sc (.int .i64 (Vn ans vs now i r).2)],[]⟩
 |_,_,0,_,_,h,_=>by omega
 |[],i,nn+1,hne,_,_,_=>absurd rfl hne
 |[c],i,nn+1,hne,h,hn,hi=>by
  obtain ⟨h1,h2,h3'⟩:=Ca h;have hlast:=drop_nil h3';have hci:=hc c (List.mem_of_getElem? h2);obtain ⟨c0,c1,c2,c3,c4,c5,c6,c7,c8,c9,c10,c11,c12⟩:=cer h2;have nt:Int.toNat (i:Int)=i:=G6 _;have lk:=Axr (fu:=fu) (d:=d+1) hfu hci hv (i:=(i:Int)) (by omega) (by omega) now
  simp only [Ce.cells] at lk;have w:IntKind.wrap .i64 ((cs.length:Int)-1)=(i:Int):=by rw [Au (by omega) (by omega)];omega
  have eb:((i:Int)==(i:Int))=true:=by simp
  rw [M8];unfold Vn;by_cases hz:Ge c i vs now=0
  ·have pa:=Ae1 (fu:=fu) (d:=d) hfu (a0n:=a0n) (a1n:=a1n) (a2n:=a2n) (a0:=a0) (a1:=a1) (a2:=a2) (a3:=a3) hci (ans:=ans) (by omega) ans 0 fu rfl (by omega) (by omega)
   have e0:(Ge c i vs now != 0)=false:=by simp [hz]
   have ea:(some ⟨(if Ms c 0 ans<0 then [.sc (.int .i64 0),.sc (.int .i64 38)] else [.sc (.int .i64 (Ms c 0 ans)),.sc (.int .i64 0)]),[]⟩:Option A0)=some ⟨[.sc (.int .i64 (Aqp c ans).1),.sc (.int .i64 (Aqp c ans).2)],[]⟩:=by
    unfold Aqp;split<;>rfl
   rw [ea] at pa;rw [A3 (by simp [hz]),←pa]
   try unfold Aa
   repeat first
    |((with_reducible first|apply Ap|apply Ag|apply Am|apply Ar|apply Ax|apply Az|apply Bh|apply Ah);· first|with_reducible rfl|(simp (disch:=omega) only [nt,c0,c1,c2,c3,c4,c5,c6,c7,c8,c9,c10,c11,c12,lk,e0,w,eb]<;>with_reducible rfl))
    |((with_reducible first|apply Ao|apply Ak);· first|with_reducible rfl|omega|(simp (disch:=omega) only [gT,nt,c0,c1,c2,c3,c4,c5,c6,c7,c8,c9,c10,c11,c12,lk,e0,w,eb]<;>omega))
    |(with_reducible apply Al;· first|with_reducible rfl|(simp (disch:=omega) only [gF,nt,c0,c1,c2,c3,c4,c5,c6,c7,c8,c9,c10,c11,c12,lk,e0,w,eb]<;>omega))
   try simp (disch:=omega) only [nt,c0,c1,c2,c3,c4,c5,c6,c7,c8,c9,c10,c11,c12,lk,e0,w,eb]
   all_goals rfl
  ·have e0:(Ge c i vs now != 0)=true:=by simp [hz]
   rw [Bk hz]
   try unfold Aa
   repeat first
    |((with_reducible first|apply Ap|apply Ag|apply Am|apply Ar|apply Ax|apply Az|apply Bh|apply Ah);· first|with_reducible rfl|(simp (disch:=omega) only [nt,c0,c1,c2,c3,c4,c5,c6,c7,c8,c9,c10,c11,c12,lk,e0]<;>with_reducible rfl))
    |((with_reducible first|apply Ao|apply Ak);· first|with_reducible rfl|omega|(simp (disch:=omega) only [gT,nt,c0,c1,c2,c3,c4,c5,c6,c7,c8,c9,c10,c11,c12,lk,e0]<;>omega))
    |(with_reducible apply Al;· first|with_reducible rfl|(simp (disch:=omega) only [gF,nt,c0,c1,c2,c3,c4,c5,c6,c7,c8,c9,c10,c11,c12,lk,e0]<;>omega))
   try simp (disch:=omega) only [nt,c0,c1,c2,c3,c4,c5,c6,c7,c8,c9,c10,c11,c12,lk,e0]
   all_goals rfl
 |c::e::r,i,nn+1,hne,h,hn,hi=>by
  obtain ⟨h1,h2,h3'⟩:=Ca h;obtain ⟨k1,k2,k3⟩:=Ca h3';simp only [H0] at hn;have hci:=hc c (List.mem_of_getElem? h2);obtain ⟨c0,c1,c2,c3,c4,c5,c6,c7,c8,c9,c10,c11,c12⟩:=cer h2;obtain ⟨q0,q1,q2,q3,q4,_⟩:=cer k2;have nt:Int.toNat (i:Int)=i:=G6 _;have nt1:Int.toNat ((i+1:Nat):Int)=i+1:=G6 _;have lk:=Axr (fu:=fu) (d:=d+1) hfu hci hv (i:=(i:Int)) (by omega) (by omega) now
  simp only [Ce.cells] at lk;have w:IntKind.wrap .i64 ((cs.length:Int)-1)=(cs.length:Int)-1:=Au (by omega) (by omega)
  have w1:IntKind.wrap .i64 ((i:Int)+1)=((i+1:Nat):Int):=by rw [Au (by omega) (by omega)];omega
  have eb:((i:Int)==(cs.length:Int)-1)=false:=by simp;omega
  have q3':(Cd cs).getD ((i+1)*13+3) .top=.sc (.int .i64 e.key.h):=q3;have q4':(Cd cs).getD ((i+1)*13+3+1) .top=.sc (.int .u64 e.key.root):=q4;have vq:=Asg (fu:=fu) (d:=d) hfu hci.wf hci.s1 hci.s2 e.key;simp only [Ce.cells,Ky.cells] at vq;rw [M8];unfold Vn;by_cases hz:Ge c i vs now=0
  rotate_left
  ·have e0:(Ge c i vs now != 0)=true:=by simp [hz]
   rw [Bk hz]
   try unfold Aa
   repeat first
    |((with_reducible first|apply Ap|apply Ag|apply Am|apply Ar|apply Ax|apply Az|apply Bh|apply Ah);· first|with_reducible rfl|(simp (disch:=omega) only [nt,c0,c1,c2,c3,c4,c5,c6,c7,c8,c9,c10,c11,c12,lk,e0]<;>with_reducible rfl))
    |((with_reducible first|apply Ao|apply Ak);· first|with_reducible rfl|omega|(simp (disch:=omega) only [gT,nt,c0,c1,c2,c3,c4,c5,c6,c7,c8,c9,c10,c11,c12,lk,e0]<;>omega))
    |(with_reducible apply Al;· first|with_reducible rfl|(simp (disch:=omega) only [gF,nt,c0,c1,c2,c3,c4,c5,c6,c7,c8,c9,c10,c11,c12,lk,e0]<;>omega))
   try simp (disch:=omega) only [nt,c0,c1,c2,c3,c4,c5,c6,c7,c8,c9,c10,c11,c12,lk,e0]
   all_goals rfl
  have e0:(Ge c i vs now != 0)=false:=by simp [hz]
  rw [A3 (by simp [hz])]
  cases es:eqS c.iss e.subj
  ·rw [Bk rfl]
   try unfold Aa
   repeat first
    |((with_reducible first|apply Ap|apply Ag|apply Am|apply Ar|apply Ax|apply Az|apply Bh|apply Ah);· first|with_reducible rfl|(simp (disch:=omega) only [nt,nt1,Lu,c0,c1,c2,c3,c4,c5,c6,c7,c8,c9,c10,c11,c12,lk,e0,w,eb,w1,q0,es,Br]<;>with_reducible rfl))
    |((with_reducible first|apply Ao|apply Ak);· first|with_reducible rfl|omega|(simp (disch:=omega) only [gT,nt,nt1,Lu,c0,c1,c2,c3,c4,c5,c6,c7,c8,c9,c10,c11,c12,lk,e0,w,eb,w1,q0,es,Br]<;>omega))
    |(with_reducible apply Al;· first|with_reducible rfl|(simp (disch:=omega) only [gF,nt,nt1,Lu,c0,c1,c2,c3,c4,c5,c6,c7,c8,c9,c10,c11,c12,lk,e0,w,eb,w1,q0,es,Br]<;>omega))
   try simp (disch:=omega) only [nt,nt1,Lu,c0,c1,c2,c3,c4,c5,c6,c7,c8,c9,c10,c11,c12,lk,e0,w,eb,w1,q0,es,Br]
   all_goals rfl
  rw [A3 (by simp)]
  by_cases hv':Ns c e.key=0
  ·have v0:(Ns c e.key != 0)=false:=by simp [hv']
   have ih:=An9 hfu (a0n:=a0n) (a1n:=a1n) (a2n:=a2n) (a0:=a0) (a1:=a1) (a2:=a2) (a3:=a3) hc h3 hl hv (now:=now) (e::r) (i+1) nn (by simp) h3' (by simp only [H0];omega) (by omega)
   rw [A3 (by simp [hv']),←ih]
   try unfold Aa
   repeat first
    |((with_reducible first|apply Ap|apply Ag|apply Am|apply Ar|apply Ax|apply Az|apply Bh|apply Ah);· first|with_reducible rfl|(simp (disch:=omega) only [nt,nt1,Lu,c0,c1,c2,c3,c4,c5,c6,c7,c8,c9,c10,c11,c12,lk,e0,w,eb,w1,q0,es,q3',q4',vq,v0,Bn]<;>with_reducible rfl))
    |((with_reducible first|apply Ao|apply Ak);· first|with_reducible rfl|omega|(simp (disch:=omega) only [gT,nt,nt1,Lu,c0,c1,c2,c3,c4,c5,c6,c7,c8,c9,c10,c11,c12,lk,e0,w,eb,w1,q0,es,q3',q4',vq,v0,Bn]<;>omega))
    |(with_reducible apply Al;· first|with_reducible rfl|(simp (disch:=omega) only [gF,nt,nt1,Lu,c0,c1,c2,c3,c4,c5,c6,c7,c8,c9,c10,c11,c12,lk,e0,w,eb,w1,q0,es,q3',q4',vq,v0,Bn]<;>omega))
   try simp (disch:=omega) only [nt,nt1,Lu,c0,c1,c2,c3,c4,c5,c6,c7,c8,c9,c10,c11,c12,lk,e0,w,eb,w1,q0,es,q3',q4',vq,v0,Bn]
   all_goals rfl
  ·have v0:(Ns c e.key != 0)=true:=by simp [hv']
   rw [Bk hv']
   try unfold Aa
   repeat first
    |((with_reducible first|apply Ap|apply Ag|apply Am|apply Ar|apply Ax|apply Az|apply Bh|apply Ah);· first|with_reducible rfl|(simp (disch:=omega) only [nt,nt1,Lu,c0,c1,c2,c3,c4,c5,c6,c7,c8,c9,c10,c11,c12,lk,e0,w,eb,w1,q0,es,q3',q4',vq,v0,Bn]<;>with_reducible rfl))
    |((with_reducible first|apply Ao|apply Ak);· first|with_reducible rfl|omega|(simp (disch:=omega) only [gT,nt,nt1,Lu,c0,c1,c2,c3,c4,c5,c6,c7,c8,c9,c10,c11,c12,lk,e0,w,eb,w1,q0,es,q3',q4',vq,v0,Bn]<;>omega))
    |(with_reducible apply Al;· first|with_reducible rfl|(simp (disch:=omega) only [gF,nt,nt1,Lu,c0,c1,c2,c3,c4,c5,c6,c7,c8,c9,c10,c11,c12,lk,e0,w,eb,w1,q0,es,q3',q4',vq,v0,Bn]<;>omega))
   try simp (disch:=omega) only [nt,nt1,Lu,c0,c1,c2,c3,c4,c5,c6,c7,c8,c9,c10,c11,c12,lk,e0,w,eb,w1,q0,es,q3',q4',vq,v0,Bn]
   all_goals rfl
theorem A3w (hfu:1000<=fu){cs:List Ce}(hc:∀c∈cs,c.in_){ans:List An}(hl:ans.length<=900){vs:List Rv}(hv:vs.length<=900)(now:Int):
  Ae C0 Tryz.prog fu (d+10) Rn [.lst false 13 cs.length (Cd cs),.lst false 3 ans.length (Ed ans),.lst false 3 vs.length (Ex vs),.sc (.int .i64 now)]=some ⟨[.sc (.int .i64 (O1 cs ans vs now).1),.sc (.int .i64 (O1 cs ans vs now).2)],[]⟩:=by
 rw [Abw];unfold O1;by_cases h1:now<0
 ·rw [Bk h1]
  try unfold Aa
  repeat first
   |((with_reducible first|apply Ap|apply Ag|apply Am|apply Ar|apply Ax|apply Az|apply Bh|apply Ah);· first|with_reducible rfl|(simp (disch:=omega) only [Bl]<;>with_reducible rfl))
   |((with_reducible first|apply Ao|apply Ak);· first|with_reducible rfl|omega|(simp (disch:=omega) only [gT,Bl]<;>omega))
   |(with_reducible apply Al;· first|with_reducible rfl|(simp (disch:=omega) only [gF,Bl]<;>omega))
  try simp (disch:=omega) only [Bl]
  all_goals rfl
 rw [A3 h1];by_cases h2:now>1099511627776
 ·rw [Bk h2]
  try unfold Aa
  repeat first
   |((with_reducible first|apply Ap|apply Ag|apply Am|apply Ar|apply Ax|apply Az|apply Bh|apply Ah);· first|with_reducible rfl|(simp (disch:=omega) only [Bl]<;>with_reducible rfl))
   |((with_reducible first|apply Ao|apply Ak);· first|with_reducible rfl|omega|(simp (disch:=omega) only [gT,Bl]<;>omega))
   |(with_reducible apply Al;· first|with_reducible rfl|(simp (disch:=omega) only [gF,Bl]<;>omega))
  try simp (disch:=omega) only [Bl]
  all_goals rfl
 rw [A3 h2];by_cases h3:cs.length<1
 ·rw [Bk h3]
  try unfold Aa
  repeat first
   |((with_reducible first|apply Ap|apply Ag|apply Am|apply Ar|apply Ax|apply Az|apply Bh|apply Ah);· first|with_reducible rfl|(simp (disch:=omega) only [Bl]<;>with_reducible rfl))
   |((with_reducible first|apply Ao|apply Ak);· first|with_reducible rfl|omega|(simp (disch:=omega) only [gT,Bl]<;>omega))
   |(with_reducible apply Al;· first|with_reducible rfl|(simp (disch:=omega) only [gF,Bl]<;>omega))
  try simp (disch:=omega) only [Bl]
  all_goals rfl
 rw [A3 h3];by_cases h4:cs.length>3
 ·rw [Bk h4]
  try unfold Aa
  repeat first
   |((with_reducible first|apply Ap|apply Ag|apply Am|apply Ar|apply Ax|apply Az|apply Bh|apply Ah);· first|with_reducible rfl|(simp (disch:=omega) only [Bl]<;>with_reducible rfl))
   |((with_reducible first|apply Ao|apply Ak);· first|with_reducible rfl|omega|(simp (disch:=omega) only [gT,Bl]<;>omega))
   |(with_reducible apply Al;· first|with_reducible rfl|(simp (disch:=omega) only [gF,Bl]<;>omega))
  try simp (disch:=omega) only [Bl]
  all_goals rfl
 rw [A3 h4];have lp:=An9 (fu:=fu) (d:=d) hfu (a0n:=cs.length) (a1n:=ans.length) (a2n:=vs.length) (a0:=Cd cs) (a1:=Ed ans) (a2:=Ex vs) (a3:=now) hc (by omega) hl hv (now:=now) cs 0 fu (by intro h;subst h;simp at h3) rfl (by omega) (by omega)
 rw [←lp]
 try unfold Aa
 repeat first
  |((with_reducible first|apply Ap|apply Ag|apply Am|apply Ar|apply Ax|apply Az|apply Bh|apply Ah);· first|with_reducible rfl|(simp (disch:=omega) only [Bl]<;>with_reducible rfl))
  |((with_reducible first|apply Ao|apply Ak);· first|with_reducible rfl|omega|(simp (disch:=omega) only [gT,Bl]<;>omega))
  |(with_reducible apply Al;· first|with_reducible rfl|(simp (disch:=omega) only [gF,Bl]<;>omega))
 try simp (disch:=omega) only [Bl]
 all_goals rfl
end
end
section
section
variable {fu d:Nat}
theorem Am7 (hfu:1000<=fu){a0_0 a0_1:ByteArray}{a0_2 a0_3 a0_4 a0_5 a0_6 a0_8 a0_9 a0_10:Int}{a0_7:Bool}{a0_11n a0_12n a1n:Nat}{a0_11 a0_12 a1:List PV}{c:Ce}(hc:c.in_){ans:List An}(hl:ans.length<=1000000):∀(r:List An)(i nn:Nat),ans.drop i=r->r.length<nn->i<=ans.length ->
  E2 fu (Ae C0 Tryz.prog fu (d+8)) a0_0 a0_1 a0_2 a0_3 a0_4 a0_5 a0_6 a0_7 a0_8 a0_9 a0_10 a0_11n a0_11 a0_12n a0_12 a1n a1 nn ans.length (Ed ans) (i:Int) c.subj c.iss c.serial c.key.h c.key.root c.fr c.un c.auth c.path c.model c.sig.leaf c.sig.chains.length (Ai .u64 c.sig.chains) c.sig.path.length (Ai .u64 c.sig.path) =
   some ⟨[.sc (.int .i64 (Ms c i r))],[]⟩
 |_,_,0,_,h,_=>by omega
 |[],i,nn+1,h,hn,hi=>by
  have:=drop_nil h;rw [Kb,Dj _ _ _ (by omega)]
  rfl
 |a::rs,i,nn+1,h,hn,hi=>by
  obtain ⟨h1,h2,h3⟩:=Ca h;simp only [H0] at hn;obtain ⟨c0,c1,c2⟩:=ana h2;have w:IntKind.wrap .i64 ((i:Int)+1)=((i+1:Nat):Int):=by rw [Au (by omega) (by omega)];omega
  have nt:Int.toNat (i:Int)=i:=G6 _;have c2':(Ed ans).getD (i*3+1+1) .top=.sc (.int .u64 a.key.root):=c2;have vq:=Ary (fu:=fu) (d:=d) hfu hc.wf hc.s1 hc.s2 a.key;simp only [Ce.cells,Ky.cells] at vq;have ih:=Am7 hfu (a0_0:=a0_0) (a0_1:=a0_1) (a0_2:=a0_2) (a0_3:=a0_3) (a0_4:=a0_4) (a0_5:=a0_5) (a0_6:=a0_6) (a0_7:=a0_7) (a0_8:=a0_8) (a0_9:=a0_9) (a0_10:=a0_10) (a0_11n:=a0_11n) (a0_12n:=a0_12n) (a1n:=a1n) (a0_11:=a0_11) (a0_12:=a0_12) (a1:=a1) hc hl rs (i+1) nn h3 (by omega) (by omega)
  rw [Kb];cases e1:eqS a.name c.iss
  ·have er:Ms c i (a::rs)=Ms c (i+1) rs:=by rw [Ms,A3 (by simp [e1])]
   rw [er,←ih]
   try unfold Aa
   repeat first
    |((with_reducible first|apply Ap|apply Ag|apply Am|apply Ar|apply Ax|apply Az|apply Bh|apply Ah);· first|with_reducible rfl|(simp (disch:=omega) only [nt,Lu,c0,c1,c2',e1,w]<;>with_reducible rfl))
    |((with_reducible first|apply Ao|apply Ak);· first|with_reducible rfl|omega|(simp (disch:=omega) only [gT,nt,Lu,c0,c1,c2',e1,w]<;>omega))
    |(with_reducible apply Al;· first|with_reducible rfl|(simp (disch:=omega) only [gF,nt,Lu,c0,c1,c2',e1,w]<;>omega))
   try simp (disch:=omega) only [nt,Lu,c0,c1,c2',e1,w]
   all_goals rfl
  ·by_cases e2:Ns c a.key=0
   ·have e2':(Ns c a.key==0)=true:=by simp [e2]
    have er:Ms c i (a::rs)=(i:Int):=by rw [Ms,Bk ⟨e1,e2⟩]
    rw [er]
    try unfold Aa
    repeat first
     |((with_reducible first|apply Ap|apply Ag|apply Am|apply Ar|apply Ax|apply Az|apply Bh|apply Ah);· first|with_reducible rfl|(simp (disch:=omega) only [nt,Lu,c0,c1,c2',e1,w,vq,e2']<;>with_reducible rfl))
     |((with_reducible first|apply Ao|apply Ak);· first|with_reducible rfl|omega|(simp (disch:=omega) only [gT,nt,Lu,c0,c1,c2',e1,w,vq,e2']<;>omega))
     |(with_reducible apply Al;· first|with_reducible rfl|(simp (disch:=omega) only [gF,nt,Lu,c0,c1,c2',e1,w,vq,e2']<;>omega))
    try simp (disch:=omega) only [nt,Lu,c0,c1,c2',e1,w,vq,e2']
    all_goals rfl
   ·have e2':(Ns c a.key==0)=false:=by simp [e2]
    have er:Ms c i (a::rs)=Ms c (i+1) rs:=by rw [Ms,A3 (by simp [e2])]
    rw [er,←ih]
    try unfold Aa
    repeat first
     |((with_reducible first|apply Ap|apply Ag|apply Am|apply Ar|apply Ax|apply Az|apply Bh|apply Ah);· first|with_reducible rfl|(simp (disch:=omega) only [nt,Lu,c0,c1,c2',e1,w,vq,e2']<;>with_reducible rfl))
     |((with_reducible first|apply Ao|apply Ak);· first|with_reducible rfl|omega|(simp (disch:=omega) only [gT,nt,Lu,c0,c1,c2',e1,w,vq,e2']<;>omega))
     |(with_reducible apply Al;· first|with_reducible rfl|(simp (disch:=omega) only [gF,nt,Lu,c0,c1,c2',e1,w,vq,e2']<;>omega))
    try simp (disch:=omega) only [nt,Lu,c0,c1,c2',e1,w,vq,e2']
    all_goals rfl
theorem A5w (hfu:1000<=fu){c:Ce}(hc:c.in_){ans:List An}(hl:ans.length<=900):Ae C0 Tryz.prog fu (d+9) Nb [.agg c.cells,.lst false 3 ans.length (Ed ans)]=some ⟨[.sc (.int .i64 (Ms c 0 ans))],[]⟩:=
 (Xh fu (d+8) c.subj c.iss c.serial c.key.h c.key.root c.fr c.un c.auth c.path c.model c.sig.leaf c.sig.chains.length (Ai .u64 c.sig.chains) c.sig.path.length (Ai .u64 c.sig.path) ans.length (Ed ans)).trans (Am7 hfu hc (by omega) ans 0 fu rfl (by omega) (by omega))
theorem Am5 {call:Aq}{a0n a1n a2n m0:Nat}{a0 a1 a2:List PV}{a3 i:Int}{cs:List Ce}{ans:List An}{c:Ce}{now:Int}{vs:List Rv}(hl:vs.length<=1000000){T:Option A0}
  (hT:∀nn,Dk fu call a0n a0 a1n a1 a2n a2 a3 m0 (nn+1) cs.length (Cd cs) ans.length (Ed ans) vs.length (Ex vs) now i (vs.length:Int) c.subj c.iss c.serial c.key.h c.key.root c.fr c.un c.auth c.path c.model c.sig.leaf c.sig.chains.length (Ai .u64 c.sig.chains) c.sig.path.length (Ai .u64 c.sig.path)=T):∀(r:List Rv)(j nn:Nat),vs.drop j=r->r.length<nn->j<=vs.length ->
  Dk fu call a0n a0 a1n a1 a2n a2 a3 m0 nn cs.length (Cd cs) ans.length (Ed ans) vs.length (Ex vs) now i (j:Int) c.subj c.iss c.serial c.key.h c.key.root c.fr c.un c.auth c.path c.model c.sig.leaf c.sig.chains.length (Ai .u64 c.sig.chains) c.sig.path.length (Ai .u64 c.sig.path) =
   if Jz c now r=0 then T else some ⟨[.sc (.int .i64 0),.sc (.int .i64 39)],[]⟩
 |_,_,0,_,h,_=>by omega
 |[],j,nn+1,h,hn,hj=>by
  have:=drop_nil h;obtain rfl:j=vs.length:=by omega
  rw [hT nn];rfl
 |r::rs,j,nn+1,h,hn,hj=>by
  obtain ⟨h1,h2,h3⟩:=Ca h;simp only [H0] at hn;obtain ⟨c0,c1,c2⟩:=rva h2;have w:IntKind.wrap .i64 ((j:Int)+1)=((j+1:Nat):Int):=by rw [Au (by omega) (by omega)];omega
  have nt:Int.toNat (j:Int)=j:=G6 _;have ih:=Am5 hl hT rs (j+1) nn h3 (by omega) (by omega)
  have er:Jz c now (r::rs)=if Me c now r=true then 39 else Jz c now rs:=by
   unfold Jz;rw [List.any_cons];cases Me c now r<;>rfl
  rw [H8];cases e1:eqS r.iss c.iss
  ·have eh:Me c now r=false:=by unfold Me;rw [e1];rfl
   have er':Jz c now (r::rs)=Jz c now rs:=by rw [er,eh];rfl
   rw [er',←ih]
   try unfold Aa
   repeat first
    |((with_reducible first|apply Ap|apply Ag|apply Am|apply Ar|apply Ax|apply Az|apply Bh|apply Ah);· first|with_reducible rfl|(simp (disch:=omega) only [nt,Lu,c0,c1,c2,e1,w]<;>with_reducible rfl))
    |((with_reducible first|apply Ao|apply Ak);· first|with_reducible rfl|omega|(simp (disch:=omega) only [gT,nt,Lu,c0,c1,c2,e1,w]<;>omega))
    |(with_reducible apply Al;· first|with_reducible rfl|(simp (disch:=omega) only [gF,nt,Lu,c0,c1,c2,e1,w]<;>omega))
   try simp (disch:=omega) only [nt,Lu,c0,c1,c2,e1,w]
   all_goals rfl
  ·cases e2:(r.ser==c.serial)
   ·have eh:Me c now r=false:=by unfold Me;rw [e1,e2];rfl
    have er':Jz c now (r::rs)=Jz c now rs:=by rw [er,eh];rfl
    rw [er',←ih]
    try unfold Aa
    repeat first
     |((with_reducible first|apply Ap|apply Ag|apply Am|apply Ar|apply Ax|apply Az|apply Bh|apply Ah);· first|with_reducible rfl|(simp (disch:=omega) only [nt,Lu,c0,c1,c2,e1,e2,w]<;>with_reducible rfl))
     |((with_reducible first|apply Ao|apply Ak);· first|with_reducible rfl|omega|(simp (disch:=omega) only [gT,nt,Lu,c0,c1,c2,e1,e2,w]<;>omega))
     |(with_reducible apply Al;· first|with_reducible rfl|(simp (disch:=omega) only [gF,nt,Lu,c0,c1,c2,e1,e2,w]<;>omega))
    try simp (disch:=omega) only [nt,Lu,c0,c1,c2,e1,e2,w]
    all_goals rfl
   ·by_cases e3:r.at_<=now
    ·have eh:Me c now r=true:=by unfold Me;rw [e1,e2];simp [e3]
     have er':Jz c now (r::rs)=39:=by rw [er,eh];rfl
     have n39:¬((39:Int)=0):=by omega
     rw [er',A3 n39]
     try unfold Aa
     repeat first
      |((with_reducible first|apply Ap|apply Ag|apply Am|apply Ar|apply Ax|apply Az|apply Bh|apply Ah);· first|with_reducible rfl|(simp (disch:=omega) only [nt,Lu,c0,c1,c2,e1,e2,w]<;>with_reducible rfl))
      |((with_reducible first|apply Ao|apply Ak);· first|with_reducible rfl|omega|(simp (disch:=omega) only [gT,nt,Lu,c0,c1,c2,e1,e2,w]<;>omega))
      |(with_reducible apply Al;· first|with_reducible rfl|(simp (disch:=omega) only [gF,nt,Lu,c0,c1,c2,e1,e2,w]<;>omega))
     try simp (disch:=omega) only [nt,Lu,c0,c1,c2,e1,e2,w]
     all_goals rfl
    ·have eh:Me c now r=false:=by unfold Me;rw [e1,e2];simp [e3]
     have er':Jz c now (r::rs)=Jz c now rs:=by rw [er,eh];rfl
     rw [er',←ih]
     try unfold Aa
     repeat first
      |((with_reducible first|apply Ap|apply Ag|apply Am|apply Ar|apply Ax|apply Az|apply Bh|apply Ah);· first|with_reducible rfl|(simp (disch:=omega) only [nt,Lu,c0,c1,c2,e1,e2,w]<;>with_reducible rfl))
      |((with_reducible first|apply Ao|apply Ak);· first|with_reducible rfl|omega|(simp (disch:=omega) only [gT,nt,Lu,c0,c1,c2,e1,e2,w]<;>omega))
      |(with_reducible apply Al;· first|with_reducible rfl|(simp (disch:=omega) only [gF,nt,Lu,c0,c1,c2,e1,e2,w]<;>omega))
     try simp (disch:=omega) only [nt,Lu,c0,c1,c2,e1,e2,w]
     all_goals rfl
theorem Ar8 (hfu:1000<=fu){a0n a1n a2n:Nat}{a0 a1 a2:List PV}{a3:Int}{cs:List Ce}{c:Ce}{i:Nat}(hg:cs[i]?=some c) (hci:c.in_)(h3:cs.length<=3){ans:List An}{vs:List Rv}(hv:vs.length<=900){now:Int}{m:Nat}{T:Option A0}
  (hT:∀nn,Dk fu (Ae C0 Tryz.prog fu (d+9)) a0n a0 a1n a1 a2n a2 a3 m (nn+1) cs.length (Cd cs) ans.length (Ed ans) vs.length (Ex vs) now (i:Int) (vs.length:Int) c.subj c.iss c.serial c.key.h c.key.root c.fr c.un c.auth c.path c.model c.sig.leaf c.sig.chains.length (Ai .u64 c.sig.chains) c.sig.path.length (Ai .u64 c.sig.path)=T):
  Ep fu (Ae C0 Tryz.prog fu (d+9)) a0n a0 a1n a1 a2n a2 a3 (m+1) cs.length (Cd cs) ans.length (Ed ans) vs.length (Ex vs) now (i:Int) =
   if Ge c i vs now=0 then T else some ⟨[.sc (.int .i64 0),.sc (.int .i64 (Ge c i vs now))],[]⟩:=by
 obtain ⟨c0,c1,c2,c3,c4,c5,c6,c7,c8,c9,c10,c11,c12⟩:=cer hg;have hi:=A2x hg;have nt:Int.toNat (i:Int)=i:=G6 _;have bq:=Aef (fu:=fu) (d:=d+4) hfu hci.wf hci.s1 hci.s2;simp only [Ce.cells] at bq;unfold Gr at bq;have wi:=Nu (fu:=fu) (d:=d+8) now c.fr c.un;have w:IntKind.wrap .i64 ((i:Int)-1)=(i:Int)-1:=Au (by omega) (by omega)
 have rl:=Am5 (fu:=fu) (c:=c) (by omega) hT vs 0 fu rfl (by omega) (by omega)
 have J:∀nn,0<nn->Gz fu (Ae C0 Tryz.prog fu (d+9)) a0n a0 a1n a1 a2n a2 a3 m nn cs.length (Cd cs) ans.length (Ed ans) vs.length (Ex vs) now (i:Int) c.subj c.iss c.serial c.key.h c.key.root c.fr c.un c.auth c.path c.model c.sig.leaf c.sig.chains.length (Ai .u64 c.sig.chains) c.sig.path.length (Ai .u64 c.sig.path)=if Jz c now vs=0 then T else some ⟨[.sc (.int .i64 0),.sc (.int .i64 39)],[]⟩:=by
  intro nn hnn;rw [Wm (hnn:=hnn)];exact rl
 have J:=J fu (by omega)
 rw [Ia];by_cases h0:Be c=0
 rotate_left
 ·have hne:(Be c != 0)=true:=by simp [h0]
  have el:Ge c i vs now=Be c:=by unfold Ge;rw [Bk h0]
  rw [A3 h0] at bq;rw [el,A3 h0]
  try unfold Aa
  repeat first
   |((with_reducible first|apply Ap|apply Ag|apply Am|apply Ar|apply Ax|apply Az|apply Bh|apply Ah);· first|with_reducible rfl|(simp (disch:=omega) only [nt,c0,c1,c2,c3,c4,c5,c6,c7,c8,c9,c10,c11,c12,bq,hne]<;>with_reducible rfl))
   |((with_reducible first|apply Ao|apply Ak);· first|with_reducible rfl|omega|(simp (disch:=omega) only [gT,nt,c0,c1,c2,c3,c4,c5,c6,c7,c8,c9,c10,c11,c12,bq,hne]<;>omega))
   |(with_reducible apply Al;· first|with_reducible rfl|(simp (disch:=omega) only [gF,nt,c0,c1,c2,c3,c4,c5,c6,c7,c8,c9,c10,c11,c12,bq,hne]<;>omega))
  try simp (disch:=omega) only [nt,c0,c1,c2,c3,c4,c5,c6,c7,c8,c9,c10,c11,c12,bq,hne]
  all_goals rfl
 rw [Bk h0] at bq;have e00:((0:Int) != 0)=false:=rfl;have n38:¬((38:Int)=0):=by omega
 have L0:Ge c i vs now=if now<c.fr then 38 else if now>c.un then 38 else if (i:Int)>0 then (if c.auth=false then 38 else if c.path<(i:Int)-1 then 38 else Jz c now vs) else Jz c now vs:=by unfold Ge;rw [A3 (by simp [h0])]
 by_cases h1:now<c.fr
 ·have el:Ge c i vs now=38:=by rw [L0,Bk h1]
  have:(decide (c.fr<=now)&&decide (now<=c.un))=false:=by simp;omega
  rw [this] at wi;rw [el,A3 n38]
  try unfold Aa
  repeat first
   |((with_reducible first|apply Ap|apply Ag|apply Am|apply Ar|apply Ax|apply Az|apply Bh|apply Ah);· first|with_reducible rfl|(simp (disch:=omega) only [nt,c0,c1,c2,c3,c4,c5,c6,c7,c8,c9,c10,c11,c12,bq,e00,wi,Br]<;>with_reducible rfl))
   |((with_reducible first|apply Ao|apply Ak);· first|with_reducible rfl|omega|(simp (disch:=omega) only [gT,nt,c0,c1,c2,c3,c4,c5,c6,c7,c8,c9,c10,c11,c12,bq,e00,wi,Br]<;>omega))
   |(with_reducible apply Al;· first|with_reducible rfl|(simp (disch:=omega) only [gF,nt,c0,c1,c2,c3,c4,c5,c6,c7,c8,c9,c10,c11,c12,bq,e00,wi,Br]<;>omega))
  try simp (disch:=omega) only [nt,c0,c1,c2,c3,c4,c5,c6,c7,c8,c9,c10,c11,c12,bq,e00,wi,Br]
  all_goals rfl
 by_cases h2:now>c.un
 ·have el:Ge c i vs now=38:=by rw [L0,A3 h1,Bk h2]
  have:(decide (c.fr<=now)&&decide (now<=c.un))=false:=by simp;omega
  rw [this] at wi;rw [el,A3 n38]
  try unfold Aa
  repeat first
   |((with_reducible first|apply Ap|apply Ag|apply Am|apply Ar|apply Ax|apply Az|apply Bh|apply Ah);· first|with_reducible rfl|(simp (disch:=omega) only [nt,c0,c1,c2,c3,c4,c5,c6,c7,c8,c9,c10,c11,c12,bq,e00,wi,Br]<;>with_reducible rfl))
   |((with_reducible first|apply Ao|apply Ak);· first|with_reducible rfl|omega|(simp (disch:=omega) only [gT,nt,c0,c1,c2,c3,c4,c5,c6,c7,c8,c9,c10,c11,c12,bq,e00,wi,Br]<;>omega))
   |(with_reducible apply Al;· first|with_reducible rfl|(simp (disch:=omega) only [gF,nt,c0,c1,c2,c3,c4,c5,c6,c7,c8,c9,c10,c11,c12,bq,e00,wi,Br]<;>omega))
  try simp (disch:=omega) only [nt,c0,c1,c2,c3,c4,c5,c6,c7,c8,c9,c10,c11,c12,bq,e00,wi,Br]
  all_goals rfl
 have q:(decide (c.fr<=now)&&decide (now<=c.un))=true:=by simp;omega
 rw [q] at wi;by_cases h4:(i:Int)>0
 ·cases ha:c.auth
  ·have el:Ge c i vs now=38:=by rw [L0,A3 h1,A3 h2,Bk h4,Bk ha]
   rw [el,A3 n38];rw [ha] at c7 bq
   try unfold Aa
   repeat first
    |((with_reducible first|apply Ap|apply Ag|apply Am|apply Ar|apply Ax|apply Az|apply Bh|apply Ah);· first|with_reducible rfl|(simp (disch:=omega) only [nt,c0,c1,c2,c3,c4,c5,c6,c7,c8,c9,c10,c11,c12,bq,e00,wi,Bn,Br]<;>with_reducible rfl))
    |((with_reducible first|apply Ao|apply Ak);· first|with_reducible rfl|omega|(simp (disch:=omega) only [gT,nt,c0,c1,c2,c3,c4,c5,c6,c7,c8,c9,c10,c11,c12,bq,e00,wi,Bn,Br]<;>omega))
    |(with_reducible apply Al;· first|with_reducible rfl|(simp (disch:=omega) only [gF,nt,c0,c1,c2,c3,c4,c5,c6,c7,c8,c9,c10,c11,c12,bq,e00,wi,Bn,Br]<;>omega))
   try simp (disch:=omega) only [nt,c0,c1,c2,c3,c4,c5,c6,c7,c8,c9,c10,c11,c12,bq,e00,wi,Bn,Br]
   all_goals rfl
  ·rw [ha] at c7 bq J;by_cases h5:c.path<(i:Int)-1
   ·have el:Ge c i vs now=38:=by rw [L0,A3 h1,A3 h2,Bk h4,A3 (by simp [ha]),Bk h5]
    rw [el,A3 n38]
    try unfold Aa
    repeat first
     |((with_reducible first|apply Ap|apply Ag|apply Am|apply Ar|apply Ax|apply Az|apply Bh|apply Ah);· first|with_reducible rfl|(simp (disch:=omega) only [nt,c0,c1,c2,c3,c4,c5,c6,c7,c8,c9,c10,c11,c12,bq,e00,wi,w,Bn,Br]<;>with_reducible rfl))
     |((with_reducible first|apply Ao|apply Ak);· first|with_reducible rfl|omega|(simp (disch:=omega) only [gT,nt,c0,c1,c2,c3,c4,c5,c6,c7,c8,c9,c10,c11,c12,bq,e00,wi,w,Bn,Br]<;>omega))
     |(with_reducible apply Al;· first|with_reducible rfl|(simp (disch:=omega) only [gF,nt,c0,c1,c2,c3,c4,c5,c6,c7,c8,c9,c10,c11,c12,bq,e00,wi,w,Bn,Br]<;>omega))
    try simp (disch:=omega) only [nt,c0,c1,c2,c3,c4,c5,c6,c7,c8,c9,c10,c11,c12,bq,e00,wi,w,Bn,Br]
    all_goals rfl
   ·have el:Ge c i vs now=Jz c now vs:=by rw [L0,A3 h1,A3 h2,Bk h4,A3 (by simp [ha]),A3 h5]
    have e39:(if Jz c now vs=0 then T else some ⟨[.sc (.int .i64 0),.sc (.int .i64 (Jz c now vs))],[]⟩)=(if Jz c now vs=0 then T else some (A0.mk [.sc (.int .i64 0),.sc (.int .i64 39)] [])):=by
     unfold Jz;split<;>rfl
    rw [el,e39,←J]
    try unfold Aa
    repeat first
     |((with_reducible first|apply Ap|apply Ag|apply Am|apply Ar|apply Ax|apply Az|apply Bh|apply Ah);· first|with_reducible rfl|(simp (disch:=omega) only [nt,c0,c1,c2,c3,c4,c5,c6,c7,c8,c9,c10,c11,c12,bq,e00,wi,w,Bn,Br]<;>with_reducible rfl))
     |((with_reducible first|apply Ao|apply Ak);· first|with_reducible rfl|omega|(simp (disch:=omega) only [gT,nt,c0,c1,c2,c3,c4,c5,c6,c7,c8,c9,c10,c11,c12,bq,e00,wi,w,Bn,Br]<;>omega))
     |(with_reducible apply Al;· first|with_reducible rfl|(simp (disch:=omega) only [gF,nt,c0,c1,c2,c3,c4,c5,c6,c7,c8,c9,c10,c11,c12,bq,e00,wi,w,Bn,Br]<;>omega))
    try simp (disch:=omega) only [nt,c0,c1,c2,c3,c4,c5,c6,c7,c8,c9,c10,c11,c12,bq,e00,wi,w,Bn,Br]
    all_goals rfl
 ·have el:Ge c i vs now=Jz c now vs:=by rw [L0,A3 h1,A3 h2,A3 h4]
  have e39:(if Jz c now vs=0 then T else some ⟨[.sc (.int .i64 0),.sc (.int .i64 (Jz c now vs))],[]⟩)=(if Jz c now vs=0 then T else some (A0.mk [.sc (.int .i64 0),.sc (.int .i64 39)] [])):=by
   unfold Jz;split<;>rfl
  rw [el,e39,←J]
  try unfold Aa
  repeat first
   |((with_reducible first|apply Ap|apply Ag|apply Am|apply Ar|apply Ax|apply Az|apply Bh|apply Ah);· first|with_reducible rfl|(simp (disch:=omega) only [nt,c0,c1,c2,c3,c4,c5,c6,c7,c8,c9,c10,c11,c12,bq,e00,wi,w,Bn,Br]<;>with_reducible rfl))
   |((with_reducible first|apply Ao|apply Ak);· first|with_reducible rfl|omega|(simp (disch:=omega) only [gT,nt,c0,c1,c2,c3,c4,c5,c6,c7,c8,c9,c10,c11,c12,bq,e00,wi,w,Bn,Br]<;>omega))
   |(with_reducible apply Al;· first|with_reducible rfl|(simp (disch:=omega) only [gF,nt,c0,c1,c2,c3,c4,c5,c6,c7,c8,c9,c10,c11,c12,bq,e00,wi,w,Bn,Br]<;>omega))
  try simp (disch:=omega) only [nt,c0,c1,c2,c3,c4,c5,c6,c7,c8,c9,c10,c11,c12,bq,e00,wi,w,Bn,Br]
  all_goals rfl
theorem Ak0 (hfu:1000<=fu){a0n a1n a2n:Nat}{a0 a1 a2:List PV}{a3:Int}{cs:List Ce}(hc:∀c∈cs,c.in_)(h3:cs.length<=3){ans:List An}(hl:ans.length<=900){vs:List Rv}(hv:vs.length<=900){now:Int}:∀(r:List Ce)(i nn:Nat),r≠[]->cs.drop i=r->r.length+1<nn->i<=cs.length ->
  Ep fu (Ae C0 Tryz.prog fu (d+10)) a0n a0 a1n a1 a2n a2 a3 nn cs.length (Cd cs) ans.length (Ed ans) vs.length (Ex vs) now (i:Int) =
   some ⟨[.sc (.int .i64 (Vn ans vs now i r).1),.sc (.int .i64 (Vn ans vs now i r).2)],[]⟩
 |_,_,0,_,_,h,_=>by omega
 |[],i,nn+1,hne,_,_,_=>absurd rfl hne
 |[c],i,nn+1,hne,h,hn,hi=>by
  obtain ⟨h1,h2,h3'⟩:=Ca h;have hlast:=drop_nil h3';have hci:=hc c (List.mem_of_getElem? h2);simp only [H0,X2] at hn;obtain ⟨m,rfl⟩:∃m,nn=m+1:=⟨nn-1,by omega⟩
  obtain ⟨c0,c1,c2,c3,c4,c5,c6,c7,c8,c9,c10,c11,c12⟩:=cer h2;have nt:Int.toNat (i:Int)=i:=G6 _;have w1:IntKind.wrap .i64 ((i:Int)+1)=((i+1:Nat):Int):=by rw [Au (by omega) (by omega)];omega
  have w2:IntKind.wrap .i64 ((cs.length:Int)-1)=(i:Int):=by rw [Au (by omega) (by omega)];omega
  have is_:=A5w (fu:=fu) (d:=d+1) hfu hci (ans:=ans) hl;simp only [Ce.cells] at is_
  have st:=Ar8 (fu:=fu) (d:=d+1) hfu (a0n:=a0n) (a1n:=a1n) (a2n:=a2n) (a0:=a0) (a1:=a1) (a2:=a2) (a3:=a3) h2 hci h3 (ans:=ans) (vs:=vs) hv (now:=now) (m:=m+1) (T:=some ⟨[.sc (.int .i64 (Aqp c ans).1),.sc (.int .i64 (Aqp c ans).2)],[]⟩) (by
   intro nn;unfold Aqp;rw [H8];by_cases hz:Ms c 0 ans<0
   ·rw [Bk hz]
    try unfold Aa
    repeat first
     |((with_reducible first|apply Ap|apply Ag|apply Am|apply Ar|apply Ax|apply Az|apply Bh|apply Ah);· first|with_reducible rfl|(simp (disch:=omega) only [w1]<;>with_reducible rfl))
     |((with_reducible first|apply Ao|apply Ak);· first|with_reducible rfl|omega|(simp (disch:=omega) only [gT,w1]<;>omega))
     |(with_reducible apply Al;· first|with_reducible rfl|(simp (disch:=omega) only [gF,w1]<;>omega))
    try simp (disch:=omega) only [w1]
    rw [Ia]
    try unfold Aa
    repeat first
     |((with_reducible first|apply Ap|apply Ag|apply Am|apply Ar|apply Ax|apply Az|apply Bh|apply Ah);· first|with_reducible rfl|(simp (disch:=omega) only [w2,nt,c0,c1,c2,c3,c4,c5,c6,c7,c8,c9,c10,c11,c12,is_]<;>with_reducible rfl))
     |((with_reducible first|apply Ao|apply Ak);· first|with_reducible rfl|omega|(simp (disch:=omega) only [gT,w2,nt,c0,c1,c2,c3,c4,c5,c6,c7,c8,c9,c10,c11,c12,is_]<;>omega))
     |(with_reducible apply Al;· first|with_reducible rfl|(simp (disch:=omega) only [gF,w2,nt,c0,c1,c2,c3,c4,c5,c6,c7,c8,c9,c10,c11,c12,is_]<;>omega))
    try simp (disch:=omega) only [w2,nt,c0,c1,c2,c3,c4,c5,c6,c7,c8,c9,c10,c11,c12,is_]
    all_goals rfl
   ·rw [A3 hz]
    try unfold Aa
    repeat first
     |((with_reducible first|apply Ap|apply Ag|apply Am|apply Ar|apply Ax|apply Az|apply Bh|apply Ah);· first|with_reducible rfl|(simp (disch:=omega) only [w1]<;>with_reducible rfl))
     |((with_reducible first|apply Ao|apply Ak);· first|with_reducible rfl|omega|(simp (disch:=omega) only [gT,w1]<;>omega))
     |(with_reducible apply Al;· first|with_reducible rfl|(simp (disch:=omega) only [gF,w1]<;>omega))
    try simp (disch:=omega) only [w1]
    rw [Ia]
    try unfold Aa
    repeat first
     |((with_reducible first|apply Ap|apply Ag|apply Am|apply Ar|apply Ax|apply Az|apply Bh|apply Ah);· first|with_reducible rfl|(simp (disch:=omega) only [w2,nt,c0,c1,c2,c3,c4,c5,c6,c7,c8,c9,c10,c11,c12,is_]<;>with_reducible rfl))
     |((with_reducible first|apply Ao|apply Ak);· first|with_reducible rfl|omega|(simp (disch:=omega) only [gT,w2,nt,c0,c1,c2,c3,c4,c5,c6,c7,c8,c9,c10,c11,c12,is_]<;>omega))
     |(with_reducible apply Al;· first|with_reducible rfl|(simp (disch:=omega) only [gF,w2,nt,c0,c1,c2,c3,c4,c5,c6,c7,c8,c9,c10,c11,c12,is_]<;>omega))
    try simp (disch:=omega) only [w2,nt,c0,c1,c2,c3,c4,c5,c6,c7,c8,c9,c10,c11,c12,is_]
    all_goals rfl)
  rw [st];unfold Vn;by_cases hz:Ge c i vs now=0
  ·have hz':¬(Ge c i vs now≠0):=by simp [hz]
   rw [Bk hz,A3 hz']
  ·rw [A3 hz,Bk hz]
 |c::e::r,i,nn+1,hne,h,hn,hi=>by
  obtain ⟨h1,h2,h3'⟩:=Ca h;obtain ⟨k1,k2,k3⟩:=Ca h3';simp only [H0] at hn;have hci:=hc c (List.mem_of_getElem? h2);obtain ⟨q0,q1,q2,q3,q4,_⟩:=cer k2;have nt1:Int.toNat ((i+1:Nat):Int)=i+1:=G6 _;have w1:IntKind.wrap .i64 ((i:Int)+1)=((i+1:Nat):Int):=by rw [Au (by omega) (by omega)];omega
  have q3':(Cd cs).getD ((i+1)*13+3) .top=.sc (.int .i64 e.key.h):=q3;have q4':(Cd cs).getD ((i+1)*13+3+1) .top=.sc (.int .u64 e.key.root):=q4;have vq:=Ary (fu:=fu) (d:=d+2) hfu hci.wf hci.s1 hci.s2 e.key;simp only [Ce.cells,Ky.cells] at vq;have ih:=Ak0 hfu (a0n:=a0n) (a1n:=a1n) (a2n:=a2n) (a0:=a0) (a1:=a1) (a2:=a2) (a3:=a3) hc h3 hl hv (now:=now) (e::r) (i+1) nn (by simp) h3' (by simp only [H0];omega) (by omega)
  have st:=Ar8 (fu:=fu) (d:=d+1) hfu (a0n:=a0n) (a1n:=a1n) (a2n:=a2n) (a0:=a0) (a1:=a1) (a2:=a2) (a3:=a3) h2 hci h3 (ans:=ans) (vs:=vs) hv (now:=now) (m:=nn) (T:=some ⟨[.sc (.int .i64 (if eqS c.iss e.subj=false then ((0:Int),(38:Int)) else if Ns c e.key≠0 then (0,Ns c e.key) else Vn ans vs now (i+1) (e::r)).1),.sc (.int .i64 (if eqS c.iss e.subj=false then ((0:Int),(38:Int)) else if Ns c e.key≠0 then (0,Ns c e.key) else Vn ans vs now (i+1) (e::r)).2)],[]⟩) (by
   intro nn';rw [H8];cases es:eqS c.iss e.subj
   ·simp only [if_true]
    try unfold Aa
    repeat first
     |((with_reducible first|apply Ap|apply Ag|apply Am|apply Ar|apply Ax|apply Az|apply Bh|apply Ah);· first|with_reducible rfl|(simp (disch:=omega) only [w1,nt1,Lu,q0,es,Br]<;>with_reducible rfl))
     |((with_reducible first|apply Ao|apply Ak);· first|with_reducible rfl|omega|(simp (disch:=omega) only [gT,w1,nt1,Lu,q0,es,Br]<;>omega))
     |(with_reducible apply Al;· first|with_reducible rfl|(simp (disch:=omega) only [gF,w1,nt1,Lu,q0,es,Br]<;>omega))
    try simp (disch:=omega) only [w1,nt1,Lu,q0,es,Br]
    all_goals rfl
   ·simp only [Bool.true_eq_false,if_false];by_cases hv':Ns c e.key=0
    ·have v0:(Ns c e.key != 0)=false:=by simp [hv']
     rw [A3 (by simp [hv']),←ih]
     try unfold Aa
     repeat first
      |((with_reducible first|apply Ap|apply Ag|apply Am|apply Ar|apply Ax|apply Az|apply Bh|apply Ah);· first|with_reducible rfl|(simp (disch:=omega) only [w1,nt1,Lu,q0,es,q3',q4',vq,v0,Bn]<;>with_reducible rfl))
      |((with_reducible first|apply Ao|apply Ak);· first|with_reducible rfl|omega|(simp (disch:=omega) only [gT,w1,nt1,Lu,q0,es,q3',q4',vq,v0,Bn]<;>omega))
      |(with_reducible apply Al;· first|with_reducible rfl|(simp (disch:=omega) only [gF,w1,nt1,Lu,q0,es,q3',q4',vq,v0,Bn]<;>omega))
     try simp (disch:=omega) only [w1,nt1,Lu,q0,es,q3',q4',vq,v0,Bn]
     all_goals rfl
    ·have v0:(Ns c e.key != 0)=true:=by simp [hv']
     rw [Bk hv']
     try unfold Aa
     repeat first
      |((with_reducible first|apply Ap|apply Ag|apply Am|apply Ar|apply Ax|apply Az|apply Bh|apply Ah);· first|with_reducible rfl|(simp (disch:=omega) only [w1,nt1,Lu,q0,es,q3',q4',vq,v0,Bn]<;>with_reducible rfl))
      |((with_reducible first|apply Ao|apply Ak);· first|with_reducible rfl|omega|(simp (disch:=omega) only [gT,w1,nt1,Lu,q0,es,q3',q4',vq,v0,Bn]<;>omega))
      |(with_reducible apply Al;· first|with_reducible rfl|(simp (disch:=omega) only [gF,w1,nt1,Lu,q0,es,q3',q4',vq,v0,Bn]<;>omega))
     try simp (disch:=omega) only [w1,nt1,Lu,q0,es,q3',q4',vq,v0,Bn]
     all_goals rfl)
  rw [st]
  conv=>rhs;unfold Vn
  by_cases hz:Ge c i vs now=0
  ·have hz':¬(Ge c i vs now≠0):=by simp [hz]
   rw [Bk hz,A3 hz']
  ·rw [A3 hz,Bk hz]
theorem A4b (hfu:1000<=fu){cs:List Ce}(hc:∀c∈cs,c.in_){ans:List An}(hl:ans.length<=900){vs:List Rv}(hv:vs.length<=900)(now:Int):
  Ae C0 Tryz.prog fu (d+11) P6 [.lst false 13 cs.length (Cd cs),.lst false 3 ans.length (Ed ans),.lst false 3 vs.length (Ex vs),.sc (.int .i64 now)]=some ⟨[.sc (.int .i64 (O1 cs ans vs now).1),.sc (.int .i64 (O1 cs ans vs now).2)],[]⟩:=by
 rw [Aak];have n1:=Nu (fu:=fu) (d:=d+9) now 0 1099511627776;have n2:=Nu (fu:=fu) (d:=d+9) cs.length 1 3;unfold O1;by_cases h1:now<0
 ·have:(decide ((0:Int)<=now)&&decide (now<=1099511627776))=false:=by simp;omega
  rw [this] at n1;rw [Bk h1]
  try unfold Aa
  repeat first
   |((with_reducible first|apply Ap|apply Ag|apply Am|apply Ar|apply Ax|apply Az|apply Bh|apply Ah);· first|with_reducible rfl|(simp (disch:=omega) only [n1,Br]<;>with_reducible rfl))
   |((with_reducible first|apply Ao|apply Ak);· first|with_reducible rfl|omega|(simp (disch:=omega) only [gT,n1,Br]<;>omega))
   |(with_reducible apply Al;· first|with_reducible rfl|(simp (disch:=omega) only [gF,n1,Br]<;>omega))
  try simp (disch:=omega) only [n1,Br]
  all_goals rfl
 rw [A3 h1];by_cases h2:now>1099511627776
 ·have:(decide ((0:Int)<=now)&&decide (now<=1099511627776))=false:=by simp;omega
  rw [this] at n1;rw [Bk h2]
  try unfold Aa
  repeat first
   |((with_reducible first|apply Ap|apply Ag|apply Am|apply Ar|apply Ax|apply Az|apply Bh|apply Ah);· first|with_reducible rfl|(simp (disch:=omega) only [n1,Br]<;>with_reducible rfl))
   |((with_reducible first|apply Ao|apply Ak);· first|with_reducible rfl|omega|(simp (disch:=omega) only [gT,n1,Br]<;>omega))
   |(with_reducible apply Al;· first|with_reducible rfl|(simp (disch:=omega) only [gF,n1,Br]<;>omega))
  try simp (disch:=omega) only [n1,Br]
  all_goals rfl
 have q1:(decide ((0:Int)<=now)&&decide (now<=1099511627776))=true:=by simp;omega
 rw [q1] at n1;rw [A3 h2];by_cases h3:cs.length<1
 ·have:(decide ((1:Int)<=cs.length)&&decide ((cs.length:Int)<=3))=false:=by simp;omega
  rw [this] at n2;rw [Bk h3]
  try unfold Aa
  repeat first
   |((with_reducible first|apply Ap|apply Ag|apply Am|apply Ar|apply Ax|apply Az|apply Bh|apply Ah);· first|with_reducible rfl|(simp (disch:=omega) only [n1,n2,Bn,Br]<;>with_reducible rfl))
   |((with_reducible first|apply Ao|apply Ak);· first|with_reducible rfl|omega|(simp (disch:=omega) only [gT,n1,n2,Bn,Br]<;>omega))
   |(with_reducible apply Al;· first|with_reducible rfl|(simp (disch:=omega) only [gF,n1,n2,Bn,Br]<;>omega))
  try simp (disch:=omega) only [n1,n2,Bn,Br]
  all_goals rfl
 rw [A3 h3];by_cases h4:cs.length>3
 ·have:(decide ((1:Int)<=cs.length)&&decide ((cs.length:Int)<=3))=false:=by simp;omega
  rw [this] at n2;rw [Bk h4]
  try unfold Aa
  repeat first
   |((with_reducible first|apply Ap|apply Ag|apply Am|apply Ar|apply Ax|apply Az|apply Bh|apply Ah);· first|with_reducible rfl|(simp (disch:=omega) only [n1,n2,Bn,Br]<;>with_reducible rfl))
   |((with_reducible first|apply Ao|apply Ak);· first|with_reducible rfl|omega|(simp (disch:=omega) only [gT,n1,n2,Bn,Br]<;>omega))
   |(with_reducible apply Al;· first|with_reducible rfl|(simp (disch:=omega) only [gF,n1,n2,Bn,Br]<;>omega))
  try simp (disch:=omega) only [n1,n2,Bn,Br]
  all_goals rfl
 rw [A3 h4];have q2:(decide ((1:Int)<=cs.length)&&decide ((cs.length:Int)<=3))=true:=by simp;omega
 rw [q2] at n2;have lp:=Ak0 (fu:=fu) (d:=d) hfu (a0n:=cs.length) (a1n:=ans.length) (a2n:=vs.length) (a0:=Cd cs) (a1:=Ed ans) (a2:=Ex vs) (a3:=now) hc (by omega) hl hv (now:=now) cs 0 fu (by intro h;subst h;simp at h3) rfl (by omega) (by omega)
 rw [←lp]
 try unfold Aa
 repeat first
  |((with_reducible first|apply Ap|apply Ag|apply Am|apply Ar|apply Ax|apply Az|apply Bh|apply Ah);· first|with_reducible rfl|(simp (disch:=omega) only [n1,n2,Bn,Br]<;>with_reducible rfl))
  |((with_reducible first|apply Ao|apply Ak);· first|with_reducible rfl|omega|(simp (disch:=omega) only [gT,n1,n2,Bn,Br]<;>omega))
  |(with_reducible apply Al;· first|with_reducible rfl|(simp (disch:=omega) only [gF,n1,n2,Bn,Br]<;>omega))
 try simp (disch:=omega) only [n1,n2,Bn,Br]
 all_goals rfl
end
end
section
set_option maxRecDepth 100000
abbrev J8:FuncId:=30
theorem Tz (fu d:Nat)(a0_0:Int)(a0_1:ByteArray)(a0_2n:Nat)(a0_2:List PV)(a0_3n:Nat)(a0_3:List PV)(a0_4n:Nat)(a0_4:List PV)(a0_5:Int)(a0_6n:Nat)(a0_6:List PV)(a0_7:ByteArray)(a1_0 a1_1:Int)(a1_2 a1_3 a1_4:Int)(a1_5n:Nat)(a1_5:List PV)(a1_6 a1_7 a2:Int):Ae C0 Tryz.prog fu (d+1) J8 [.agg [.sc (.int .i64 a0_0),.sc (.string a0_1),.lst false 1 a0_2n a0_2,.lst false 1 a0_3n a0_3,.lst false 1 a0_4n a0_4,.sc (.int .i64 a0_5),.lst false 1 a0_6n a0_6,.sc (.string a0_7)],.agg [.sc (.int .u64 a1_0),.sc (.int .i64 a1_1),.sc (.int .i64 a1_2),.sc (.int .i64 a1_3),.sc (.int .u64 a1_4),.lst false 1 a1_5n a1_5,.sc (.int .i64 a1_6),.sc (.int .u64 a1_7)],.sc (.int .u64 a2)]=(fun (call:Aq)=>A4 (decide ((↑a0_4n:Int)>0)) (some (A0.mk [.agg [.sc (.int .i64 0),.sc (.int .i64 0),.sc (.int .i64 0)],.sc (.int .i64 4)] [])) (Aj (call 55 [.lst false 1 a0_3n a0_3]) fun x1 x2=>Ac x2<|Ab x1 fun x3 x4=>C3 x3 fun x5=>Ab x5 fun x6 x7=>Af .i64 x6 fun x8=>Ab x7 fun x9 Cj=>Dp 1 x9 fun Bp Cz=>Ab Cj fun C9 Cq=>Dp 1 C9 fun C8 Dh=>Ac Cq<|Ab x4 fun Dt D6=>Af .i64 Dt fun D1=>Ac D6<|A4 (D1 != 0) (some (A0.mk [.agg [.sc (.int .i64 0),.sc (.int .i64 0),.sc (.int .i64 0)],.sc (.int .i64 D1)] [])) (Ay (decide (0+Bp*1<=List.length Cz))<|Ay (decide (0+C8*1<=List.length Dh))<|Aj (call 56 [.agg [.sc (.int .i64 a1_6),.sc (.int .u64 a1_7)],.sc (.int .u64 a2),.agg [.sc (.int .i64 x8),.lst false 1 Bp (List.take (Bp*1) (List.drop 0 Cz)),.lst false 1 C8 (List.take (C8*1) (List.drop 0 Dh))]]) fun Ee Fq=>Ac Fq<|Ab Ee fun Cl Fy=>Af .i64 Cl fun Dn=>Ac Fy<|A4 (Dn != 0) (some (A0.mk [.agg [.sc (.int .i64 0),.sc (.int .i64 0),.sc (.int .i64 0)],.sc (.int .i64 Dn)] [])) (some (A0.mk [.agg [.sc (.int .i64 1),.sc (.int .i64 (-1)),.sc (.int .i64 x8)],.sc (.int .i64 0)] []))))) (Ae C0 Tryz.prog fu d):=by kernel_rfl
abbrev Jr:FuncId:=31
noncomputable def D5 (fu:Nat)(call:Aq)(a0_0:Int)(a0_1:ByteArray)(a0_2n:Nat)(a0_2:List PV)(a0_3n:Nat)(a0_3:List PV)(a0_4n:Nat)(a0_4:List PV)(a0_5:Int)(a0_6n:Nat)(a0_6:List PV)(a0_7:ByteArray)(a1_0 a1_1:Int)(a1_2 a1_3 a1_4:Int)(a1_5n:Nat)(a1_5:List PV)(a1_6 a1_7 a2:Int)(a3n:Nat)(a3:List PV)(a4n:Nat)(a4:List PV)(a5:Int)(nn:Nat)(y0:Int)(y1:Nat)(y2:List PV)(y3:Nat)(y4:List PV)(y5:Int)(y6 y7:Nat)(y8:List PV)(y9 y10 Eb:Int)(Ev:ByteArray)(Hf:Nat)(Ik:List PV)(Iq:Nat)(Iv:List PV)(I3:Nat)(J0:List PV)(Sh:Int)(Ws:Nat)(P0:List PV)(V3:ByteArray)(y23 y24:Int)(y25 y26 y27:Int)(y28:Nat)(y29:List PV)(y30 y31:Int)(y32 y33 y34:Int)(y35:List PV):Option A0:=Cw C0 Tryz.prog fu call 31 Tryz.f31 (B5 Tryz.f31) [.agg [.sc (.int .i64 a0_0),.sc (.string a0_1),.lst false 1 a0_2n a0_2,.lst false 1 a0_3n a0_3,.lst false 1 a0_4n a0_4,.sc (.int .i64 a0_5),.lst false 1 a0_6n a0_6,.sc (.string a0_7)],.agg [.sc (.int .u64 a1_0),.sc (.int .i64 a1_1),.sc (.int .i64 a1_2),.sc (.int .i64 a1_3),.sc (.int .u64 a1_4),.lst false 1 a1_5n a1_5,.sc (.int .i64 a1_6),.sc (.int .u64 a1_7)],.sc (.int .u64 a2),.lst false 3 a3n a3,.lst false 3 a4n a4,.sc (.int .i64 a5)] [.r,.r,.r,.l,.r,.l] nn ⟨lk [(2,(.sc (.int .u64 y0))),(3,(.lst false 3 y1 y2)),(4,(.lst false 3 y3 y4)),(5,(.sc (.int .i64 y5))),(6,(.ptr 6 0)),(7,(.ptr 7 0)),(12,(.ptr 12 0)),(14,(.view 14 13 0 y6)),(36,(.lst false 1 y7 y8)),(37,(.sc (.int .i64 y9))),(38,(.sc (.int .i64 y10)))],Gf [(6,(.st [(.sc (.int .i64 Eb)),(.sc (.string Ev)),(.lst false 1 Hf Ik),(.lst false 1 Iq Iv),(.lst false 1 I3 J0),(.sc (.int .i64 Sh)),(.lst false 1 Ws P0),(.sc (.string V3))])),(7,(.st [(.sc (.int .u64 y23)),(.sc (.int .i64 y24)),(.sc (.int .i64 y25)),(.sc (.int .i64 y26)),(.sc (.int .u64 y27)),(.lst false 1 y28 y29),(.sc (.int .i64 y30)),(.sc (.int .u64 y31))])),(12,(.st [(.sc (.int .i64 y32)),(.sc (.int .i64 y33)),(.sc (.int .i64 y34))])),(14,(.ar false y35))]⟩
theorem Ii (fu:Nat)(call:Aq)(a0_0:Int)(a0_1:ByteArray)(a0_2n:Nat)(a0_2:List PV)(a0_3n:Nat)(a0_3:List PV)(a0_4n:Nat)(a0_4:List PV)(a0_5:Int)(a0_6n:Nat)(a0_6:List PV)(a0_7:ByteArray)(a1_0 a1_1:Int)(a1_2 a1_3 a1_4:Int)(a1_5n:Nat)(a1_5:List PV)(a1_6 a1_7 a2:Int)(a3n:Nat)(a3:List PV)(a4n:Nat)(a4:List PV)(a5:Int)(nn:Nat)(y0:Int)(y1:Nat)(y2:List PV)(y3:Nat)(y4:List PV)(y5:Int)(y6 y7:Nat)(y8:List PV)(y9 y10 Eb:Int)(Ev:ByteArray)(Hf:Nat)(Ik:List PV)(Iq:Nat)(Iv:List PV)(I3:Nat)(J0:List PV)(Sh:Int)(Ws:Nat)(P0:List PV)(V3:ByteArray)(y23 y24:Int)(y25 y26 y27:Int)(y28:Nat)(y29:List PV)(y30 y31:Int)(y32 y33 y34:Int)(y35:List PV):D5 fu call a0_0 a0_1 a0_2n a0_2 a0_3n a0_3 a0_4n a0_4 a0_5 a0_6n a0_6 a0_7 a1_0 a1_1 a1_2 a1_3 a1_4 a1_5n a1_5 a1_6 a1_7 a2 a3n a3 a4n a4 a5 (nn+1) y0 y1 y2 y3 y4 y5 y6 y7 y8 y9 y10 Eb Ev Hf Ik Iq Iv I3 J0 Sh Ws P0 V3 y23 y24 y25 y26 y27 y28 y29 y30 y31 y32 y33 y34 y35=(A4 (decide (y10<y9)) (Ay (decide (0<=y10)&&decide (y10<(↑y7:Int)))<|Iz 1 (List.getD y8 (Int.toNat y10*1) .top) fun x1 x2 x3=>Aj (call 57 [.lst false 1 x2 x3]) fun x4 x5=>Ac x5<|Ab x4 fun x6 x7=>C3 x6 fun x8=>Ab x8 fun x9 Cj=>Cn x9 fun Bp=>Ab Cj fun Cz C9=>Cn Cz fun Cq=>Ab C9 fun C8 Dh=>Af .u64 C8 fun Dt=>Ab Dh fun D6 D1=>Af .i64 D6 fun Ee=>Ab D1 fun Fq Cl=>Af .u64 Fq fun Fy=>Ab Cl fun Dn B3=>Af .i64 Dn fun Ew=>Ab B3 fun F4 Bm=>Af .i64 F4 fun Ci=>Ab Bm fun Gx G2=>Bw Gx fun Ib=>Ab G2 fun Hz I4=>Af .i64 Hz fun G8=>Ab I4 fun I5 Ls=>Af .u64 I5 fun F5=>Ab Ls fun Il Pc=>Af .i64 Il fun Qi=>Ab Pc fun Ke Kf=>Iz 1 Ke fun Ph Mw Pi=>Ab Kf fun Ps Qx=>Iz 1 Ps fun Pd Qk Q3=>Ac Qx<|Ab x7 fun Q4 Kx=>Af .i64 Q4 fun Sk=>Ac Kx<|A4 (Sk != 0) (some (A0.mk [.agg [.sc (.int .i64 0),.sc (.int .i64 0),.sc (.int .i64 0)],.sc (.int .i64 Sk)] [])) (Ay (decide (y6*13<=List.length y35)&&true&&decide ((y6+1)*152<=1099511627776)&&decide (y6+1<=1099511627776))<|Aa (y6+1) fun Qw=>Aa (List.take (y6*13) y35++[.sc (.string Bp),.sc (.string Cq),.sc (.int .u64 Dt),.sc (.int .i64 Ee),.sc (.int .u64 Fy),.sc (.int .i64 Ew),.sc (.int .i64 Ci),.sc (.bool Ib),.sc (.int .i64 G8),.sc (.int .u64 F5),.sc (.int .i64 Qi),.lst false 1 Mw Pi,.lst false 1 Qk Q3]) fun Sx=>Aa (IntKind.wrap .i64 (y10+1)) fun Ow=>D5 fu call a0_0 a0_1 a0_2n a0_2 a0_3n a0_3 a0_4n a0_4 a0_5 a0_6n a0_6 a0_7 a1_0 a1_1 a1_2 a1_3 a1_4 a1_5n a1_5 a1_6 a1_7 a2 a3n a3 a4n a4 a5 (nn) (y0) (y1) (y2) (y3) (y4) (y5) Qw (y7) (y8) (y9) Ow (Eb) (Ev) (Hf) (Ik) (Iq) (Iv) (I3) (J0) (Sh) (Ws) (P0) (V3) (y23) (y24) (y25) (y26) (y27) (y28) (y29) (y30) (y31) (y32) (y33) (y34) Sx)) (Ay (decide (0<(↑y6:Int)))<|Cn (List.getD y35 0 .top) fun Qu=>Cn (List.getD y35 1 .top) fun R5=>Af .u64 (List.getD y35 2 .top) fun S3=>Af .i64 (List.getD y35 3 .top) fun Qm=>Af .u64 (List.getD y35 4 .top) fun Tw=>Af .i64 (List.getD y35 5 .top) fun Vs=>Af .i64 (List.getD y35 6 .top) fun Sy=>Bw (List.getD y35 7 .top) fun Su=>Af .i64 (List.getD y35 8 .top) fun Sf=>Af .u64 (List.getD y35 9 .top) fun Sa=>Af .i64 (List.getD y35 10 .top) fun Wo=>Iz 1 (List.getD y35 11 .top) fun Tf Td Th=>Iz 1 (List.getD y35 12 .top) fun Vh Uh Tc=>A4 Su (some (A0.mk [.agg [.sc (.int .i64 0),.sc (.int .i64 0),.sc (.int .i64 0)],.sc (.int .i64 38)] [])) (A4 (Sa==0) (some (A0.mk [.agg [.sc (.int .i64 0),.sc (.int .i64 0),.sc (.int .i64 0)],.sc (.int .i64 38)] [])) (A4 (Sa != y27) (some (A0.mk [.agg [.sc (.int .i64 0),.sc (.int .i64 0),.sc (.int .i64 0)],.sc (.int .i64 38)] [])) (Aj (call 55 [.lst false 1 Iq Iv]) fun So Vr=>Ac Vr<|Ab So fun Uk V2=>C3 Uk fun Xu=>Ab Xu fun Xa x81=>Af .i64 Xa fun X3=>Ab x81 fun X4 Xo=>Dp 1 X4 fun x85 x86=>Ab Xo fun x87 Ro=>Dp 1 x87 fun Uf Uo=>Ac Ro<|Ab V2 fun x91 x92=>Af .i64 x91 fun x93=>Ac x92<|A4 (x93 != 0) (some (A0.mk [.agg [.sc (.int .i64 0),.sc (.int .i64 0),.sc (.int .i64 0)],.sc (.int .i64 x93)] [])) (Ay (decide (0+x85*1<=List.length x86))<|Ay (decide (0+Uf*1<=List.length Uo))<|Aj (call 56 [.agg [.sc (.int .i64 Qm),.sc (.int .u64 Tw)],.sc (.int .u64 y0),.agg [.sc (.int .i64 X3),.lst false 1 x85 (List.take (x85*1) (List.drop 0 x86)),.lst false 1 Uf (List.take (Uf*1) (List.drop 0 Uo))]]) fun x94 x95=>Ac x95<|Ab x94 fun x96 x97=>Af .i64 x96 fun x98=>Ac x97<|A4 (x98 != 0) (some (A0.mk [.agg [.sc (.int .i64 0),.sc (.int .i64 0),.sc (.int .i64 0)],.sc (.int .i64 x98)] [])) (Ay (decide (0+y6*13<=List.length y35))<|Aj (call 58 [.lst false 13 y6 (List.take (y6*13) (List.drop 0 y35)),.lst false 3 y1 y2,.lst false 3 y3 y4,.sc (.int .i64 y5)]) fun x99 Xq=>Ac Xq<|Ab x99 fun Tu H9=>Af .i64 Tu fun Lt=>Ab H9 fun Zr Uc=>Af .i64 Zr fun Ry=>Ac Uc<|A4 (Ry != 0) (some (A0.mk [.agg [.sc (.int .i64 0),.sc (.int .i64 0),.sc (.int .i64 0)],.sc (.int .i64 Ry)] [])) (some (A0.mk [.agg [.sc (.int .i64 2),.sc (.int .i64 Lt),.sc (.int .i64 (-1))],.sc (.int .i64 0)] []))))))))):=by kernel_rfl
theorem Sp (fu d:Nat)(a0_0:Int)(a0_1:ByteArray)(a0_2n:Nat)(a0_2:List PV)(a0_3n:Nat)(a0_3:List PV)(a0_4n:Nat)(a0_4:List PV)(a0_5:Int)(a0_6n:Nat)(a0_6:List PV)(a0_7:ByteArray)(a1_0 a1_1:Int)(a1_2 a1_3 a1_4:Int)(a1_5n:Nat)(a1_5:List PV)(a1_6 a1_7 a2:Int)(a3n:Nat)(a3:List PV)(a4n:Nat)(a4:List PV)(a5:Int):Ae C0 Tryz.prog fu (d+1) Jr [.agg [.sc (.int .i64 a0_0),.sc (.string a0_1),.lst false 1 a0_2n a0_2,.lst false 1 a0_3n a0_3,.lst false 1 a0_4n a0_4,.sc (.int .i64 a0_5),.lst false 1 a0_6n a0_6,.sc (.string a0_7)],.agg [.sc (.int .u64 a1_0),.sc (.int .i64 a1_1),.sc (.int .i64 a1_2),.sc (.int .i64 a1_3),.sc (.int .u64 a1_4),.lst false 1 a1_5n a1_5,.sc (.int .i64 a1_6),.sc (.int .u64 a1_7)],.sc (.int .u64 a2),.lst false 3 a3n a3,.lst false 3 a4n a4,.sc (.int .i64 a5)]=(fun (call:Aq)=>A4 (decide ((↑a0_4n:Int)<1)) (some (A0.mk [.agg [.sc (.int .i64 0),.sc (.int .i64 0),.sc (.int .i64 0)],.sc (.int .i64 38)] [])) (A4 (decide ((↑a0_4n:Int)>3)) (some (A0.mk [.agg [.sc (.int .i64 0),.sc (.int .i64 0),.sc (.int .i64 0)],.sc (.int .i64 38)] [])) (D5 fu call a0_0 a0_1 a0_2n a0_2 a0_3n a0_3 a0_4n a0_4 a0_5 a0_6n a0_6 a0_7 a1_0 a1_1 a1_2 a1_3 a1_4 a1_5n a1_5 a1_6 a1_7 a2 a3n a3 a4n a4 a5 (fu) (a2) (a3n) (a3) (a4n) (a4) (a5) 0 (a0_4n) (a0_4) ((↑a0_4n:Int)) 0 (a0_0) (a0_1) (a0_2n) (a0_2) (a0_3n) (a0_3) (a0_4n) (a0_4) (a0_5) (a0_6n) (a0_6) (a0_7) (a1_0) (a1_1) (a1_2) (a1_3) (a1_4) (a1_5n) (a1_5) (a1_6) (a1_7) 0 0 0 ([])))) (Ae C0 Tryz.prog fu d):=by kernel_rfl
abbrev Oo:FuncId:=14
theorem Zm (fu d:Nat)(a0_0:Int)(a0_1:ByteArray)(a0_2n:Nat)(a0_2:List PV)(a0_3n:Nat)(a0_3:List PV)(a0_4n:Nat)(a0_4:List PV)(a0_5:Int)(a0_6n:Nat)(a0_6:List PV)(a0_7:ByteArray)(a1_0 a1_1:Int)(a1_2 a1_3 a1_4:Int)(a1_5n:Nat)(a1_5:List PV)(a1_6 a1_7 a2:Int)(a3n:Nat)(a3:List PV)(a4n:Nat)(a4:List PV)(a5:Int):Ae C0 Tryz.prog fu (d+1) Oo [.agg [.sc (.int .i64 a0_0),.sc (.string a0_1),.lst false 1 a0_2n a0_2,.lst false 1 a0_3n a0_3,.lst false 1 a0_4n a0_4,.sc (.int .i64 a0_5),.lst false 1 a0_6n a0_6,.sc (.string a0_7)],.agg [.sc (.int .u64 a1_0),.sc (.int .i64 a1_1),.sc (.int .i64 a1_2),.sc (.int .i64 a1_3),.sc (.int .u64 a1_4),.lst false 1 a1_5n a1_5,.sc (.int .i64 a1_6),.sc (.int .u64 a1_7)],.sc (.int .u64 a2),.lst false 3 a3n a3,.lst false 3 a4n a4,.sc (.int .i64 a5)]=(fun (call:Aq)=>Aa (Ez .i64 a1_1 64) fun x1=>A4 (x1==0) (some (A0.mk [.agg [.sc (.int .i64 0),.sc (.int .i64 0),.sc (.int .i64 0)],.sc (.int .i64 4)] [])) (A4 (a0_5==0) (A4 (decide ((↑a0_3n:Int)>0)) (some (A0.mk [.agg [.sc (.int .i64 0),.sc (.int .i64 0),.sc (.int .i64 0)],.sc (.int .i64 4)] [])) (A4 (decide ((↑a0_4n:Int)>0)) (some (A0.mk [.agg [.sc (.int .i64 0),.sc (.int .i64 0),.sc (.int .i64 0)],.sc (.int .i64 4)] [])) (some (A0.mk [.agg [.sc (.int .i64 0),.sc (.int .i64 (-1)),.sc (.int .i64 (-1))],.sc (.int .i64 0)] [])))) (A4 (a0_5==1) (Aj (call 30 [.agg [.sc (.int .i64 a0_0),.sc (.string a0_1),.lst false 1 a0_2n a0_2,.lst false 1 a0_3n a0_3,.lst false 1 a0_4n a0_4,.sc (.int .i64 a0_5),.lst false 1 a0_6n a0_6,.sc (.string a0_7)],.agg [.sc (.int .u64 a1_0),.sc (.int .i64 a1_1),.sc (.int .i64 a1_2),.sc (.int .i64 a1_3),.sc (.int .u64 a1_4),.lst false 1 a1_5n a1_5,.sc (.int .i64 a1_6),.sc (.int .u64 a1_7)],.sc (.int .u64 a2)]) fun x2 x3=>Ac x3<|Ab x2 fun x4 x5=>C3 x4 fun x6=>Ab x6 fun x7 x8=>Af .i64 x7 fun x9=>Ab x8 fun Cj Bp=>Af .i64 Cj fun Cz=>Ab Bp fun C9 Cq=>Af .i64 C9 fun C8=>Ac Cq<|Ab x5 fun Dh Dt=>Af .i64 Dh fun D6=>Ac Dt<|some (A0.mk [.agg [.sc (.int .i64 x9),.sc (.int .i64 Cz),.sc (.int .i64 C8)],.sc (.int .i64 D6)] [])) (A4 (a0_5==2) (Aj (call 31 [.agg [.sc (.int .i64 a0_0),.sc (.string a0_1),.lst false 1 a0_2n a0_2,.lst false 1 a0_3n a0_3,.lst false 1 a0_4n a0_4,.sc (.int .i64 a0_5),.lst false 1 a0_6n a0_6,.sc (.string a0_7)],.agg [.sc (.int .u64 a1_0),.sc (.int .i64 a1_1),.sc (.int .i64 a1_2),.sc (.int .i64 a1_3),.sc (.int .u64 a1_4),.lst false 1 a1_5n a1_5,.sc (.int .i64 a1_6),.sc (.int .u64 a1_7)],.sc (.int .u64 a2),.lst false 3 a3n a3,.lst false 3 a4n a4,.sc (.int .i64 a5)]) fun D1 Ee=>Ac Ee<|Ab D1 fun Fq Cl=>C3 Fq fun Fy=>Ab Fy fun Dn B3=>Af .i64 Dn fun Ew=>Ab B3 fun F4 Bm=>Af .i64 F4 fun Ci=>Ab Bm fun Gx G2=>Af .i64 Gx fun Ib=>Ac G2<|Ab Cl fun Hz I4=>Af .i64 Hz fun G8=>Ac I4<|some (A0.mk [.agg [.sc (.int .i64 Ew),.sc (.int .i64 Ci),.sc (.int .i64 Ib)],.sc (.int .i64 G8)] [])) (some (A0.mk [.agg [.sc (.int .i64 0),.sc (.int .i64 0),.sc (.int .i64 0)],.sc (.int .i64 3)] [])))))) (Ae C0 Tryz.prog fu d):=by kernel_rfl
abbrev O0:FuncId:=33
noncomputable def Fg (fu:Nat)(call:Aq)(a0_0:Int)(a0_1:ByteArray)(a0_2n:Nat)(a0_2:List PV)(a0_3n:Nat)(a0_3:List PV)(a0_4n:Nat)(a0_4:List PV)(a0_5:Int)(a0_6n:Nat)(a0_6:List PV)(a0_7:ByteArray)(a1_0 a1_1:Int)(a1_2 a1_3 a1_4:Int)(a1_5n:Nat)(a1_5:List PV)(a1_6 a1_7 a2:Int)(a3n:Nat)(a3:List PV)(a4n:Nat)(a4:List PV)(a5:Int)(nn:Nat)(y0:Int)(y1:Nat)(y2:List PV)(y3:Nat)(y4:List PV)(y5:Int)(y6:Nat)(y7 y8:Int)(y9:ByteArray)(y10:Nat)(Eb:List PV)(Ev:Nat)(Hf:List PV)(Ik:Nat)(Iq:List PV)(Iv:Int)(I3:Nat)(J0:List PV)(Sh:ByteArray)(Ws P0:Int)(V3 y23 y24:Int)(y25:Nat)(y26:List PV)(y27 y28:Int)(y29 y30 y31:Int)(y32:List PV):Option A0:=Cw C0 Tryz.prog fu call 33 Tryz.f33 (B5 Tryz.f33) [.agg [.sc (.int .i64 a0_0),.sc (.string a0_1),.lst false 1 a0_2n a0_2,.lst false 1 a0_3n a0_3,.lst false 1 a0_4n a0_4,.sc (.int .i64 a0_5),.lst false 1 a0_6n a0_6,.sc (.string a0_7)],.agg [.sc (.int .u64 a1_0),.sc (.int .i64 a1_1),.sc (.int .i64 a1_2),.sc (.int .i64 a1_3),.sc (.int .u64 a1_4),.lst false 1 a1_5n a1_5,.sc (.int .i64 a1_6),.sc (.int .u64 a1_7)],.sc (.int .u64 a2),.lst false 3 a3n a3,.lst false 3 a4n a4,.sc (.int .i64 a5)] [.r,.r,.r,.l,.r,.l] nn ⟨lk [(2,(.sc (.int .u64 y0))),(3,(.lst false 3 y1 y2)),(4,(.lst false 3 y3 y4)),(5,(.sc (.int .i64 y5))),(6,(.ptr 6 0)),(7,(.ptr 7 0)),(12,(.ptr 12 0)),(14,(.view 14 13 0 y6)),(15,(.sc (.int .i64 y7)))],Gf [(6,(.st [(.sc (.int .i64 y8)),(.sc (.string y9)),(.lst false 1 y10 Eb),(.lst false 1 Ev Hf),(.lst false 1 Ik Iq),(.sc (.int .i64 Iv)),(.lst false 1 I3 J0),(.sc (.string Sh))])),(7,(.st [(.sc (.int .u64 Ws)),(.sc (.int .i64 P0)),(.sc (.int .i64 V3)),(.sc (.int .i64 y23)),(.sc (.int .u64 y24)),(.lst false 1 y25 y26),(.sc (.int .i64 y27)),(.sc (.int .u64 y28))])),(12,(.st [(.sc (.int .i64 y29)),(.sc (.int .i64 y30)),(.sc (.int .i64 y31))])),(14,(.ar false y32))]⟩
theorem Le (fu:Nat)(call:Aq)(a0_0:Int)(a0_1:ByteArray)(a0_2n:Nat)(a0_2:List PV)(a0_3n:Nat)(a0_3:List PV)(a0_4n:Nat)(a0_4:List PV)(a0_5:Int)(a0_6n:Nat)(a0_6:List PV)(a0_7:ByteArray)(a1_0 a1_1:Int)(a1_2 a1_3 a1_4:Int)(a1_5n:Nat)(a1_5:List PV)(a1_6 a1_7 a2:Int)(a3n:Nat)(a3:List PV)(a4n:Nat)(a4:List PV)(a5:Int)(nn:Nat)(y0:Int)(y1:Nat)(y2:List PV)(y3:Nat)(y4:List PV)(y5:Int)(y6:Nat)(y7 y8:Int)(y9:ByteArray)(y10:Nat)(Eb:List PV)(Ev:Nat)(Hf:List PV)(Ik:Nat)(Iq:List PV)(Iv:Int)(I3:Nat)(J0:List PV)(Sh:ByteArray)(Ws P0:Int)(V3 y23 y24:Int)(y25:Nat)(y26:List PV)(y27 y28:Int)(y29 y30 y31:Int)(y32:List PV):Fg fu call a0_0 a0_1 a0_2n a0_2 a0_3n a0_3 a0_4n a0_4 a0_5 a0_6n a0_6 a0_7 a1_0 a1_1 a1_2 a1_3 a1_4 a1_5n a1_5 a1_6 a1_7 a2 a3n a3 a4n a4 a5 (nn+1) y0 y1 y2 y3 y4 y5 y6 y7 y8 y9 y10 Eb Ev Hf Ik Iq Iv I3 J0 Sh Ws P0 V3 y23 y24 y25 y26 y27 y28 y29 y30 y31 y32=(A4 (decide (y7<(↑Ik:Int))) (Ay (decide (0<=y7)&&decide (y7<(↑Ik:Int)))<|Iz 1 (List.getD Iq (Int.toNat y7*1) .top) fun x6 x7 x8=>Aj (call 21 [.lst false 1 x7 x8]) fun x9 Cj=>Ac Cj<|Ab x9 fun Bp Cz=>C3 Bp fun C9=>Ab C9 fun Cq C8=>Cn Cq fun Dh=>Ab C8 fun Dt D6=>Cn Dt fun D1=>Ab D6 fun Ee Fq=>Af .u64 Ee fun Cl=>Ab Fq fun Fy Dn=>Af .i64 Fy fun B3=>Ab Dn fun Ew F4=>Af .u64 Ew fun Bm=>Ab F4 fun Ci Gx=>Af .i64 Ci fun G2=>Ab Gx fun Ib Hz=>Af .i64 Ib fun I4=>Ab Hz fun G8 I5=>Bw G8 fun Ls=>Ab I5 fun F5 Il=>Af .i64 F5 fun Pc=>Ab Il fun Qi Ke=>Af .u64 Qi fun Kf=>Ab Ke fun Ph Mw=>Af .i64 Ph fun Pi=>Ab Mw fun Ps Qx=>Iz 1 Ps fun Pd Qk Q3=>Ab Qx fun Q4 Kx=>Iz 1 Q4 fun Sk Qw Sx=>Ac Kx<|Ab Cz fun Ow Qu=>Af .i64 Ow fun R5=>Ac Qu<|A4 (R5 != 0) (some (A0.mk [.agg [.sc (.int .i64 0),.sc (.int .i64 0),.sc (.int .i64 0)],.sc (.int .i64 R5)] [])) (Ay (decide (y6*13<=List.length y32)&&true&&decide ((y6+1)*152<=1099511627776)&&decide (y6+1<=1099511627776))<|Aa (y6+1) fun S3=>Aa (List.take (y6*13) y32++[.sc (.string Dh),.sc (.string D1),.sc (.int .u64 Cl),.sc (.int .i64 B3),.sc (.int .u64 Bm),.sc (.int .i64 G2),.sc (.int .i64 I4),.sc (.bool Ls),.sc (.int .i64 Pc),.sc (.int .u64 Kf),.sc (.int .i64 Pi),.lst false 1 Qk Q3,.lst false 1 Qw Sx]) fun Qm=>Aa (IntKind.wrap .i64 (y7+1)) fun Tw=>Fg fu call a0_0 a0_1 a0_2n a0_2 a0_3n a0_3 a0_4n a0_4 a0_5 a0_6n a0_6 a0_7 a1_0 a1_1 a1_2 a1_3 a1_4 a1_5n a1_5 a1_6 a1_7 a2 a3n a3 a4n a4 a5 (nn) (y0) (y1) (y2) (y3) (y4) (y5) S3 Tw (y8) (y9) (y10) (Eb) (Ev) (Hf) (Ik) (Iq) (Iv) (I3) (J0) (Sh) (Ws) (P0) (V3) (y23) (y24) (y25) (y26) (y27) (y28) (y29) (y30) (y31) Qm)) (Ay (decide (0<(↑y6:Int)))<|Bw (List.getD y32 7 .top) fun Vs=>A4 Vs (some (A0.mk [.agg [.sc (.int .i64 0),.sc (.int .i64 0),.sc (.int .i64 0)],.sc (.int .i64 38)] [])) (Ay (decide (0<(↑y6:Int)))<|Af .u64 (List.getD y32 9 .top) fun Sy=>A4 (Sy==0) (some (A0.mk [.agg [.sc (.int .i64 0),.sc (.int .i64 0),.sc (.int .i64 0)],.sc (.int .i64 38)] [])) (Ay (decide (0<(↑y6:Int)))<|Af .u64 (List.getD y32 9 .top) fun Su=>A4 (Su != y24) (some (A0.mk [.agg [.sc (.int .i64 0),.sc (.int .i64 0),.sc (.int .i64 0)],.sc (.int .i64 38)] [])) (Aj (call 32 [.lst false 1 Ev Hf]) fun Sf Sa=>Ac Sa<|Ab Sf fun Wo Tf=>C3 Wo fun Td=>Ab Td fun Th Vh=>Af .i64 Th fun Uh=>Ab Vh fun Tc So=>Dp 1 Tc fun Vr Uk=>Ab So fun V2 Xu=>Dp 1 V2 fun Xa x81=>Ac Xu<|Ab Tf fun X3 X4=>Af .i64 X3 fun Xo=>Ac X4<|A4 (Xo != 0) (some (A0.mk [.agg [.sc (.int .i64 0),.sc (.int .i64 0),.sc (.int .i64 0)],.sc (.int .i64 Xo)] [])) (Ay (decide (0<(↑y6:Int)))<|Af .i64 (List.getD y32 3 .top) fun x85=>Af .u64 (List.getD y32 4 .top) fun x86=>Ay (decide (0+Vr*1<=List.length Uk))<|Ay (decide (0+Xa*1<=List.length x81))<|Aj (call 19 [.agg [.sc (.int .i64 x85),.sc (.int .u64 x86)],.sc (.int .u64 y0),.agg [.sc (.int .i64 Uh),.lst false 1 Vr (List.take (Vr*1) (List.drop 0 Uk)),.lst false 1 Xa (List.take (Xa*1) (List.drop 0 x81))]]) fun x87 Ro=>Ac Ro<|Ab x87 fun Uf Uo=>Af .i64 Uf fun x91=>Ac Uo<|A4 (x91 != 0) (some (A0.mk [.agg [.sc (.int .i64 0),.sc (.int .i64 0),.sc (.int .i64 0)],.sc (.int .i64 x91)] [])) (Ay (decide (0+y6*13<=List.length y32))<|Aj (call 60 [.lst false 13 y6 (List.take (y6*13) (List.drop 0 y32)),.lst false 3 y1 y2,.lst false 3 y3 y4,.sc (.int .i64 y5)]) fun x92 x93=>Ac x93<|Ab x92 fun x94 x95=>Af .i64 x94 fun x96=>Ab x95 fun x97 x98=>Af .i64 x97 fun x99=>Ac x98<|A4 (x99 != 0) (some (A0.mk [.agg [.sc (.int .i64 0),.sc (.int .i64 0),.sc (.int .i64 0)],.sc (.int .i64 x99)] [])) (some (A0.mk [.agg [.sc (.int .i64 2),.sc (.int .i64 x96),.sc (.int .i64 (-1))],.sc (.int .i64 0)] []))))))))):=by kernel_rfl
theorem X5 (fu d:Nat)(a0_0:Int)(a0_1:ByteArray)(a0_2n:Nat)(a0_2:List PV)(a0_3n:Nat)(a0_3:List PV)(a0_4n:Nat)(a0_4:List PV)(a0_5:Int)(a0_6n:Nat)(a0_6:List PV)(a0_7:ByteArray)(a1_0 a1_1:Int)(a1_2 a1_3 a1_4:Int)(a1_5n:Nat)(a1_5:List PV)(a1_6 a1_7 a2:Int)(a3n:Nat)(a3:List PV)(a4n:Nat)(a4:List PV)(a5:Int):Ae C0 Tryz.prog fu (d+1) O0 [.agg [.sc (.int .i64 a0_0),.sc (.string a0_1),.lst false 1 a0_2n a0_2,.lst false 1 a0_3n a0_3,.lst false 1 a0_4n a0_4,.sc (.int .i64 a0_5),.lst false 1 a0_6n a0_6,.sc (.string a0_7)],.agg [.sc (.int .u64 a1_0),.sc (.int .i64 a1_1),.sc (.int .i64 a1_2),.sc (.int .i64 a1_3),.sc (.int .u64 a1_4),.lst false 1 a1_5n a1_5,.sc (.int .i64 a1_6),.sc (.int .u64 a1_7)],.sc (.int .u64 a2),.lst false 3 a3n a3,.lst false 3 a4n a4,.sc (.int .i64 a5)]=(fun (call:Aq)=>Aj (call 59 [.sc (.int .i64 (↑a0_4n:Int)),.sc (.int .i64 1),.sc (.int .i64 3)]) fun x1 x2=>Ac x2<|Ab x1 fun x3 x4=>Bw x3 fun x5=>Ac x4<|A4 (!x5) (some (A0.mk [.agg [.sc (.int .i64 0),.sc (.int .i64 0),.sc (.int .i64 0)],.sc (.int .i64 38)] [])) (Fg fu call a0_0 a0_1 a0_2n a0_2 a0_3n a0_3 a0_4n a0_4 a0_5 a0_6n a0_6 a0_7 a1_0 a1_1 a1_2 a1_3 a1_4 a1_5n a1_5 a1_6 a1_7 a2 a3n a3 a4n a4 a5 (fu) (a2) (a3n) (a3) (a4n) (a4) (a5) 0 0 (a0_0) (a0_1) (a0_2n) (a0_2) (a0_3n) (a0_3) (a0_4n) (a0_4) (a0_5) (a0_6n) (a0_6) (a0_7) (a1_0) (a1_1) (a1_2) (a1_3) (a1_4) (a1_5n) (a1_5) (a1_6) (a1_7) 0 0 0 ([]))) (Ae C0 Tryz.prog fu d):=by kernel_rfl
abbrev Nj:FuncId:=15
theorem Xy (fu d:Nat)(a0_0:Int)(a0_1:ByteArray)(a0_2n:Nat)(a0_2:List PV)(a0_3n:Nat)(a0_3:List PV)(a0_4n:Nat)(a0_4:List PV)(a0_5:Int)(a0_6n:Nat)(a0_6:List PV)(a0_7:ByteArray)(a1_0 a1_1:Int)(a1_2 a1_3 a1_4:Int)(a1_5n:Nat)(a1_5:List PV)(a1_6 a1_7 a2:Int)(a3n:Nat)(a3:List PV)(a4n:Nat)(a4:List PV)(a5:Int):Ae C0 Tryz.prog fu (d+1) Nj [.agg [.sc (.int .i64 a0_0),.sc (.string a0_1),.lst false 1 a0_2n a0_2,.lst false 1 a0_3n a0_3,.lst false 1 a0_4n a0_4,.sc (.int .i64 a0_5),.lst false 1 a0_6n a0_6,.sc (.string a0_7)],.agg [.sc (.int .u64 a1_0),.sc (.int .i64 a1_1),.sc (.int .i64 a1_2),.sc (.int .i64 a1_3),.sc (.int .u64 a1_4),.lst false 1 a1_5n a1_5,.sc (.int .i64 a1_6),.sc (.int .u64 a1_7)],.sc (.int .u64 a2),.lst false 3 a3n a3,.lst false 3 a4n a4,.sc (.int .i64 a5)]=(fun (call:Aq)=>Aa (Ez .i64 a1_1 64) fun x1=>A4 (x1==0) (some (A0.mk [.agg [.sc (.int .i64 0),.sc (.int .i64 0),.sc (.int .i64 0)],.sc (.int .i64 4)] [])) (A4 (a0_5==0) (A4 (decide ((↑a0_3n:Int)>0)) (some (A0.mk [.agg [.sc (.int .i64 0),.sc (.int .i64 0),.sc (.int .i64 0)],.sc (.int .i64 4)] [])) (A4 (decide ((↑a0_4n:Int)>0)) (some (A0.mk [.agg [.sc (.int .i64 0),.sc (.int .i64 0),.sc (.int .i64 0)],.sc (.int .i64 4)] [])) (some (A0.mk [.agg [.sc (.int .i64 0),.sc (.int .i64 (-1)),.sc (.int .i64 (-1))],.sc (.int .i64 0)] [])))) (A4 (a0_5==1) (A4 (decide ((↑a0_4n:Int)>0)) (some (A0.mk [.agg [.sc (.int .i64 0),.sc (.int .i64 0),.sc (.int .i64 0)],.sc (.int .i64 4)] [])) (Aj (call 32 [.lst false 1 a0_3n a0_3]) fun x2 x3=>Ac x3<|Ab x2 fun x4 x5=>C3 x4 fun x6=>Ab x6 fun x7 x8=>Af .i64 x7 fun x9=>Ab x8 fun Cj Bp=>Dp 1 Cj fun Cz C9=>Ab Bp fun Cq C8=>Dp 1 Cq fun Dh Dt=>Ac C8<|Ab x5 fun D6 D1=>Af .i64 D6 fun Ee=>Ac D1<|A4 (Ee != 0) (some (A0.mk [.agg [.sc (.int .i64 0),.sc (.int .i64 0),.sc (.int .i64 0)],.sc (.int .i64 Ee)] [])) (Ay (decide (0+Cz*1<=List.length C9))<|Ay (decide (0+Dh*1<=List.length Dt))<|Aj (call 19 [.agg [.sc (.int .i64 a1_6),.sc (.int .u64 a1_7)],.sc (.int .u64 a2),.agg [.sc (.int .i64 x9),.lst false 1 Cz (List.take (Cz*1) (List.drop 0 C9)),.lst false 1 Dh (List.take (Dh*1) (List.drop 0 Dt))]]) fun Fq Cl=>Ac Cl<|Ab Fq fun Fy Dn=>Af .i64 Fy fun B3=>Ac Dn<|A4 (B3 != 0) (some (A0.mk [.agg [.sc (.int .i64 0),.sc (.int .i64 0),.sc (.int .i64 0)],.sc (.int .i64 B3)] [])) (some (A0.mk [.agg [.sc (.int .i64 1),.sc (.int .i64 (-1)),.sc (.int .i64 x9)],.sc (.int .i64 0)] []))))) (A4 (a0_5==2) (Aj (call 33 [.agg [.sc (.int .i64 a0_0),.sc (.string a0_1),.lst false 1 a0_2n a0_2,.lst false 1 a0_3n a0_3,.lst false 1 a0_4n a0_4,.sc (.int .i64 a0_5),.lst false 1 a0_6n a0_6,.sc (.string a0_7)],.agg [.sc (.int .u64 a1_0),.sc (.int .i64 a1_1),.sc (.int .i64 a1_2),.sc (.int .i64 a1_3),.sc (.int .u64 a1_4),.lst false 1 a1_5n a1_5,.sc (.int .i64 a1_6),.sc (.int .u64 a1_7)],.sc (.int .u64 a2),.lst false 3 a3n a3,.lst false 3 a4n a4,.sc (.int .i64 a5)]) fun Ew F4=>Ac F4<|Ab Ew fun Bm Ci=>C3 Bm fun Gx=>Ab Gx fun G2 Ib=>Af .i64 G2 fun Hz=>Ab Ib fun I4 G8=>Af .i64 I4 fun I5=>Ab G8 fun Ls F5=>Af .i64 Ls fun Il=>Ac F5<|Ab Ci fun Pc Qi=>Af .i64 Pc fun Ke=>Ac Qi<|some (A0.mk [.agg [.sc (.int .i64 Hz),.sc (.int .i64 I5),.sc (.int .i64 Il)],.sc (.int .i64 Ke)] [])) (some (A0.mk [.agg [.sc (.int .i64 0),.sc (.int .i64 0),.sc (.int .i64 0)],.sc (.int .i64 3)] [])))))) (Ae C0 Tryz.prog fu d):=by kernel_rfl
abbrev Mq:FuncId:=20
theorem Wj (fu d:Nat):Ae C0 Tryz.prog fu (d+1) Mq []=(fun (call:Aq)=>Aj (call 16 [.sc (.int .u64 9),.sc (.int .i64 1)]) fun x1 x2=>Ac x2<|Ab x1 fun x3 x4=>C3 x3 fun x5=>Ab x5 fun x6 x7=>Af .i64 x6 fun x8=>Ab x7 fun x9 Cj=>Af .u64 x9 fun Bp=>Ac Cj<|Ac x4<|Aj (call 16 [.sc (.int .u64 32),.sc (.int .i64 1)]) fun Cz C9=>Ac C9<|Ab Cz fun Cq C8=>C3 Cq fun Dh=>Ab Dh fun Dt D6=>Af .i64 Dt fun D1=>Ab D6 fun Ee Fq=>Af .u64 Ee fun Cl=>Ac Fq<|Ac C8<|some (A0.mk [.own 3 2 [.sc (.string (ByteArray.mk #[114,111,111,116])),.sc (.int .i64 x8),.sc (.int .u64 Bp),.sc (.string (ByteArray.mk #[114,111,111,116])),.sc (.int .i64 D1),.sc (.int .u64 Cl)]] [])) (Ae C0 Tryz.prog fu d):=by kernel_rfl
end
section
structure Rp where
 kind:Int
 cd:ByteArray
 ad:List Int
 sg:List Int
 certs:List (List Int)
 fmt:Int
 id_:List Int
 user:ByteArray
structure Ad where
 rp:Int
 flags:Int
 cnt:Int
 rng:Int
 model:Int
 id_:List Int
 key:Ky
abbrev Sq (l:List Int):PV:=.lst false 1 l.length (Ai .u8 l)
def A1g (l:List Int):List PV:=[Sq l]
theorem Ax6 (l:List Int):(A1g l).length=1:=rfl
def Vf (l:List (List Int)):List PV:=l.flatMap A1g
theorem atb {l:List (List Int)} {i:Nat}{b:List Int}(h:l[i]?=some b):(Vf l).getD (i*1) .top=Sq b:=D3 Ax6 h (j:=0) (by omega)
def Rp.cells (r:Rp):List PV:=[.sc (.int .i64 r.kind),.sc (.string r.cd),Sq r.ad,Sq r.sg,.lst false 1 r.certs.length (Vf r.certs),.sc (.int .i64 r.fmt),Sq r.id_,.sc (.string r.user)]
def Ad.cells (a:Ad):List PV:=[.sc (.int .u64 a.rp),.sc (.int .i64 a.flags),.sc (.int .i64 a.cnt),.sc (.int .i64 a.rng),.sc (.int .u64 a.model),Sq a.id_,.sc (.int .i64 a.key.h),.sc (.int .u64 a.key.root)]
structure Av where
 f:Int
 anchor:Int
 leaf:Int
 e:Int
def Av.vals (v:Av):List PV:=[.agg [.sc (.int .i64 v.f),.sc (.int .i64 v.anchor),.sc (.int .i64 v.leaf)],.sc (.int .i64 v.e)]
abbrev avE (e:Int):Av:=⟨0,0,0,e⟩
def Ase (r:Rp)(a:Ad)(w:Int):Av:=
 if r.certs.length>0 then avE 4 else match sgD r.sg with
 |none=>avE 2
 |some s=>if Jj a.key w s≠0 then avE (Jj a.key w s) else ⟨1,-1,s.leaf,0⟩
def Cc:List (List Int)->List Ce × Int
 |[]=>([],0)
 |b::r=>if (Jy b).2≠0 then ([],(Jy b).2) else if (Cc r).2≠0 then ([],(Cc r).2) else ((Jy b).1::(Cc r).1,0)
def P5 (sg:List Int)(model w:Int)(ans:List An)(vs:List Rv)(now:Int):List Ce->Av
 |[]=>avE 0
 |c::cs=>if c.auth=true then avE 38 else if c.model=0 then avE 38 else if c.model≠model then avE 38 else match sgD sg with
  |none=>avE 2
  |some s=>if Jj c.key w s≠0 then avE (Jj c.key w s) else if (O1 (c::cs) ans vs now).2≠0 then avE (O1 (c::cs) ans vs now).2 else ⟨2,(O1 (c::cs) ans vs now).1,-1,0⟩
def Af1 (r:Rp)(a:Ad)(w:Int)(ans:List An)(vs:List Rv)(now:Int):Av:=
 if r.certs.length<1 then avE 38 else if r.certs.length>3 then avE 38 else if (Cc r.certs).2≠0 then avE (Cc r.certs).2 else P5 r.sg a.model w ans vs now (Cc r.certs).1
def Ags (r:Rp)(a:Ad)(w:Int)(ans:List An)(vs:List Rv)(now:Int):Av:=
 if Ez .i64 a.flags 64=0 then avE 4 else if r.fmt=0 then (if r.sg.length>0 then avE 4 else if r.certs.length>0 then avE 4 else ⟨0,-1,-1,0⟩) else if r.fmt=1 then Ase r a w else if r.fmt=2 then Af1 r a w ans vs now else avE 3
theorem Aua {c:Ce}(h:Be c=0):c.subj.size<=32∧c.iss.size<=32:=by
 unfold Be at h;split at h
 ·cases h
 ·split at h
  ·cases h
  ·omega
theorem Awf {b:List Int}(hb:Gn b)(h:(Jy b).2=0):(Jy b).1.in_:=by
 obtain ⟨h1,h2⟩:=A52 hb;obtain ⟨e1,e2⟩:=h2 h;obtain ⟨n1,n2⟩:=Aua (Ly e1).1;exact ⟨h1.wf,by omega,by omega⟩
theorem Ann (a b:List Ce):Cd (a++b)=Cd a++Cd b:=by
 unfold Cd;rw [List.flatMap_append]
structure Rp.ok (r:Rp):Prop where
 sg:Gn r.sg
 sgl:r.sg.length<=1000000
 certs:∀b∈r.certs,Gn b∧b.length<=1000000
section
variable {fu d:Nat}
theorem A48 (hfu:1000<=fu){r:Rp}(hr:r.ok)(a:Ad)(w:Int):Ae C0 Tryz.prog fu (d+9) J8 [.agg r.cells,.agg a.cells,.sc (.int .u64 w)]=some ⟨(Ase r a w).vals,[]⟩:=by
 refine (Tz fu (d+8) r.kind r.cd r.ad.length (Ai .u8 r.ad) r.sg.length (Ai .u8 r.sg) r.certs.length (Vf r.certs) r.fmt r.id_.length (Ai .u8 r.id_) r.user a.rp a.flags a.cnt a.rng a.model a.id_.length (Ai .u8 a.id_) a.key.h a.key.root w).trans ?_;have ds:=Ago (fu:=fu) (d:=d+6) hfu hr.sg;unfold Ase;by_cases h1:r.certs.length>0
 ·rw [Bk h1]
  try unfold Aa
  repeat first
   |((with_reducible first|apply Ap|apply Ag|apply Am|apply Ar|apply Ax|apply Az|apply Bh|apply A6|apply Ah);· first|with_reducible rfl|(simp (disch:=omega) only [Bl]<;>with_reducible rfl))
   |((with_reducible first|apply Ao|apply Ak);· first|with_reducible rfl|omega|(simp (disch:=omega) only [gT,Bl]<;>omega))
   |(with_reducible apply Al;· first|with_reducible rfl|(simp (disch:=omega) only [gF,Bl]<;>omega))
  try simp (disch:=omega) only [Bl]
  all_goals rfl
 rw [A3 h1];cases hs:sgD r.sg with
 |none=>
  rw [hs] at ds;simp only [Q8,Sg.owned] at ds;have e20:((2:Int) != 0)=true:=rfl
  try unfold Aa
  repeat first
   |((with_reducible first|apply Ap|apply Ag|apply Am|apply Ar|apply Ax|apply Az|apply Bh|apply A6|apply Ah);· first|with_reducible rfl|(simp (disch:=omega) only [ds,e20]<;>with_reducible rfl))
   |((with_reducible first|apply Ao|apply Ak);· first|with_reducible rfl|omega|(simp (disch:=omega) only [gT,ds,e20]<;>omega))
   |(with_reducible apply Al;· first|with_reducible rfl|(simp (disch:=omega) only [gF,ds,e20]<;>omega))
  try simp (disch:=omega) only [ds,e20]
  all_goals rfl
 |some s=>
  rw [hs] at ds;simp only [Q8,Sg.owned] at ds;have e00:((0:Int) != 0)=false:=rfl;have vr:=Afj (fu:=fu) (d:=d) hfu a.key w s;simp only [Ky.cells,Sg.cells] at vr;have Lc:=As .u64 s.chains;have Lp:=As .u64 s.path;have tc:=G4 .u64 s.chains;have tp:=G4 .u64 s.path;simp only;by_cases hv:Jj a.key w s=0
  ·have v0:(Jj a.key w s != 0)=false:=by simp [hv]
   rw [A3 (by simp [hv])]
   try unfold Aa
   repeat first
    |((with_reducible first|apply Ap|apply Ag|apply Am|apply Ar|apply Ax|apply Az|apply Bh|apply A6|apply Ah);· first|with_reducible rfl|(simp (disch:=omega) only [ds,e00,Cm,B4,Bl,Lc,Lp,tc,tp,vr,v0]<;>with_reducible rfl))
    |((with_reducible first|apply Ao|apply Ak);· first|with_reducible rfl|omega|(simp (disch:=omega) only [gT,ds,e00,Cm,B4,Bl,Lc,Lp,tc,tp,vr,v0]<;>omega))
    |(with_reducible apply Al;· first|with_reducible rfl|(simp (disch:=omega) only [gF,ds,e00,Cm,B4,Bl,Lc,Lp,tc,tp,vr,v0]<;>omega))
   try simp (disch:=omega) only [ds,e00,Cm,B4,Bl,Lc,Lp,tc,tp,vr,v0]
   all_goals rfl
  ·have v0:(Jj a.key w s != 0)=true:=by simp [hv]
   rw [Bk hv]
   try unfold Aa
   repeat first
    |((with_reducible first|apply Ap|apply Ag|apply Am|apply Ar|apply Ax|apply Az|apply Bh|apply A6|apply Ah);· first|with_reducible rfl|(simp (disch:=omega) only [ds,e00,Cm,B4,Bl,Lc,Lp,tc,tp,vr,v0]<;>with_reducible rfl))
    |((with_reducible first|apply Ao|apply Ak);· first|with_reducible rfl|omega|(simp (disch:=omega) only [gT,ds,e00,Cm,B4,Bl,Lc,Lp,tc,tp,vr,v0]<;>omega))
    |(with_reducible apply Al;· first|with_reducible rfl|(simp (disch:=omega) only [gF,ds,e00,Cm,B4,Bl,Lc,Lp,tc,tp,vr,v0]<;>omega))
   try simp (disch:=omega) only [ds,e00,Cm,B4,Bl,Lc,Lp,tc,tp,vr,v0]
   all_goals rfl
theorem Azh (hfu:1000<=fu){a0_0:Int}{a0_1:ByteArray}{a0_2n:Nat}{a0_2:List PV}{a0_3n:Nat}{a0_3:List PV}{a0_4n:Nat}{a0_4:List PV}{a0_5:Int}{a0_6n:Nat}{a0_6:List PV}{a0_7:ByteArray}{a1_0 a1_1 a1_2 a1_3 a1_4:Int}{a1_5n:Nat}{a1_5:List PV}{a1_6 a1_7 a2:Int}{a3n:Nat}{a3:List PV}{a4n:Nat}{a4:List PV}{a5:Int}
  {r:Rp} (hr:r.ok) (a:Ad) (w:Int) {ans:List An} (hl:ans.length<=900) {vs:List Rv} (hv:vs.length<=900) (now:Int) {cs:List Ce} (hc:∀c∈cs,c.in_) (hne:cs≠[]) (hcl:cs.length<=1000) (nn:Nat):
  D5 fu (Ae C0 Tryz.prog fu (d+10)) a0_0 a0_1 a0_2n a0_2 a0_3n a0_3 a0_4n a0_4 a0_5 a0_6n a0_6 a0_7 a1_0 a1_1 a1_2 a1_3 a1_4 a1_5n a1_5 a1_6 a1_7 a2 a3n a3 a4n a4 a5 (nn+1) w ans.length (Ed ans) vs.length (Ex vs) now cs.length r.certs.length (Vf r.certs) (r.certs.length:Int) (r.certs.length:Int) r.kind r.cd r.ad.length (Ai .u8 r.ad) r.sg.length (Ai .u8 r.sg) r.certs.length (Vf r.certs) r.fmt r.id_.length (Ai .u8 r.id_) r.user a.rp a.flags a.cnt a.rng a.model a.id_.length (Ai .u8 a.id_) a.key.h a.key.root 0 0 0 (Cd cs) =
   some ⟨(P5 r.sg a.model w ans vs now cs).vals,[]⟩:=by
 obtain ⟨c,ct,rfl⟩:∃c ct,cs=c::ct:=by
  cases cs with
  |nil=>exact absurd rfl hne
  |cons c ct=>exact ⟨c,ct,rfl⟩
 have ds:=Ago (fu:=fu) (d:=d+8) hfu hr.sg;have L:=Zv (c::ct);have t:List.take ((c::ct).length*13) (Cd (c::ct))=Cd (c::ct):=I2 (by omega)
 have pe:=A3w (fu:=fu) (d:=d) hfu hc hl hv now;have g0:(Cd (c::ct)).getD 0 .top=.sc (.string c.subj):=rfl;have g1:(Cd (c::ct)).getD 1 .top=.sc (.string c.iss):=rfl;have g2:(Cd (c::ct)).getD 2 .top=.sc (.int .u64 c.serial):=rfl;have g3:(Cd (c::ct)).getD 3 .top=.sc (.int .i64 c.key.h):=rfl;have g4:(Cd (c::ct)).getD 4 .top=.sc (.int .u64 c.key.root):=rfl;have g5:(Cd (c::ct)).getD 5 .top=.sc (.int .i64 c.fr):=rfl;have g6:(Cd (c::ct)).getD 6 .top=.sc (.int .i64 c.un):=rfl;have g7:(Cd (c::ct)).getD 7 .top=.sc (.bool c.auth):=rfl;have g8:(Cd (c::ct)).getD 8 .top=.sc (.int .i64 c.path):=rfl;have g9:(Cd (c::ct)).getD 9 .top=.sc (.int .u64 c.model):=rfl;have g10:(Cd (c::ct)).getD 10 .top=.sc (.int .i64 c.sig.leaf):=rfl;have g11:(Cd (c::ct)).getD 11 .top=.lst false 1 c.sig.chains.length (Ai .u64 c.sig.chains):=rfl
 have g12:(Cd (c::ct)).getD 12 .top=.lst false 1 c.sig.path.length (Ai .u64 c.sig.path):=rfl;have hp:(((c::ct).length:Nat):Int)>0:=by simp only [H0];omega
 rw [P5];generalize Cd (c::ct)=E at *
 generalize O1 (c::ct) ans vs now=pr at *
 generalize (c::ct).length=n at *
 rw [Ii,Dj _ _ _ (by omega)]
 cases ha:c.auth
 rotate_left
 ·rw [Bk rfl];rw [ha] at g7
  try unfold Aa
  repeat first
   |((with_reducible first|apply Ap|apply Ag|apply Am|apply Ar|apply Ax|apply Az|apply Bh|apply A6|apply Ah);· first|with_reducible rfl|(simp (disch:=omega) only [g0,g1,g2,g3,g4,g5,g6,g7,g8,g9,g10,g11,g12]<;>with_reducible rfl))
   |((with_reducible first|apply Ao|apply Ak);· first|with_reducible rfl|omega|(simp (disch:=omega) only [gT,g0,g1,g2,g3,g4,g5,g6,g7,g8,g9,g10,g11,g12]<;>omega))
   |(with_reducible apply Al;· first|with_reducible rfl|(simp (disch:=omega) only [gF,g0,g1,g2,g3,g4,g5,g6,g7,g8,g9,g10,g11,g12]<;>omega))
  try simp (disch:=omega) only [g0,g1,g2,g3,g4,g5,g6,g7,g8,g9,g10,g11,g12]
  all_goals rfl
 rw [ha] at g7;rw [A3 (by simp)]
 by_cases hm:c.model=0
 ·have m0:(c.model==0)=true:=by simp [hm]
  rw [Bk hm]
  try unfold Aa
  repeat first
   |((with_reducible first|apply Ap|apply Ag|apply Am|apply Ar|apply Ax|apply Az|apply Bh|apply A6|apply Ah);· first|with_reducible rfl|(simp (disch:=omega) only [g0,g1,g2,g3,g4,g5,g6,g7,g8,g9,g10,g11,g12,m0]<;>with_reducible rfl))
   |((with_reducible first|apply Ao|apply Ak);· first|with_reducible rfl|omega|(simp (disch:=omega) only [gT,g0,g1,g2,g3,g4,g5,g6,g7,g8,g9,g10,g11,g12,m0]<;>omega))
   |(with_reducible apply Al;· first|with_reducible rfl|(simp (disch:=omega) only [gF,g0,g1,g2,g3,g4,g5,g6,g7,g8,g9,g10,g11,g12,m0]<;>omega))
  try simp (disch:=omega) only [g0,g1,g2,g3,g4,g5,g6,g7,g8,g9,g10,g11,g12,m0]
  all_goals rfl
 have m0:(c.model==0)=false:=by simp [hm]
 rw [A3 hm];by_cases hq:c.model=a.model
 rotate_left
 ·have m1:(c.model != a.model)=true:=by simp [hq]
  rw [Bk hq]
  try unfold Aa
  repeat first
   |((with_reducible first|apply Ap|apply Ag|apply Am|apply Ar|apply Ax|apply Az|apply Bh|apply A6|apply Ah);· first|with_reducible rfl|(simp (disch:=omega) only [g0,g1,g2,g3,g4,g5,g6,g7,g8,g9,g10,g11,g12,m0,m1]<;>with_reducible rfl))
   |((with_reducible first|apply Ao|apply Ak);· first|with_reducible rfl|omega|(simp (disch:=omega) only [gT,g0,g1,g2,g3,g4,g5,g6,g7,g8,g9,g10,g11,g12,m0,m1]<;>omega))
   |(with_reducible apply Al;· first|with_reducible rfl|(simp (disch:=omega) only [gF,g0,g1,g2,g3,g4,g5,g6,g7,g8,g9,g10,g11,g12,m0,m1]<;>omega))
  try simp (disch:=omega) only [g0,g1,g2,g3,g4,g5,g6,g7,g8,g9,g10,g11,g12,m0,m1]
  all_goals rfl
 have m1:(c.model != a.model)=false:=by simp [hq]
 rw [A3 (by simp [hq])]
 cases hs:sgD r.sg with
 |none=>
  rw [hs] at ds;simp only [Q8,Sg.owned] at ds;have e20:((2:Int) != 0)=true:=rfl
  try unfold Aa
  repeat first
   |((with_reducible first|apply Ap|apply Ag|apply Am|apply Ar|apply Ax|apply Az|apply Bh|apply A6|apply Ah);· first|with_reducible rfl|(simp (disch:=omega) only [g0,g1,g2,g3,g4,g5,g6,g7,g8,g9,g10,g11,g12,m0,m1,ds,e20]<;>with_reducible rfl))
   |((with_reducible first|apply Ao|apply Ak);· first|with_reducible rfl|omega|(simp (disch:=omega) only [gT,g0,g1,g2,g3,g4,g5,g6,g7,g8,g9,g10,g11,g12,m0,m1,ds,e20]<;>omega))
   |(with_reducible apply Al;· first|with_reducible rfl|(simp (disch:=omega) only [gF,g0,g1,g2,g3,g4,g5,g6,g7,g8,g9,g10,g11,g12,m0,m1,ds,e20]<;>omega))
  try simp (disch:=omega) only [g0,g1,g2,g3,g4,g5,g6,g7,g8,g9,g10,g11,g12,m0,m1,ds,e20]
  all_goals rfl
 |some s=>
  rw [hs] at ds;simp only [Q8,Sg.owned] at ds;have e00:((0:Int) != 0)=false:=rfl;have vr:=Afj (fu:=fu) (d:=d+2) hfu c.key w s;simp only [Ky.cells,Sg.cells] at vr;have Lc:=As .u64 s.chains;have Lp:=As .u64 s.path;have tc:=G4 .u64 s.chains;have tp:=G4 .u64 s.path;simp only;by_cases hvv:Jj c.key w s=0
  rotate_left
  ·have v0:(Jj c.key w s != 0)=true:=by simp [hvv]
   rw [Bk hvv]
   try unfold Aa
   repeat first
    |((with_reducible first|apply Ap|apply Ag|apply Am|apply Ar|apply Ax|apply Az|apply Bh|apply A6|apply Ah);· first|with_reducible rfl|(simp (disch:=omega) only [g0,g1,g2,g3,g4,g5,g6,g7,g8,g9,g10,g11,g12,m0,m1,ds,e00,Cm,B4,Bl,Lc,Lp,tc,tp,vr,v0]<;>with_reducible rfl))
    |((with_reducible first|apply Ao|apply Ak);· first|with_reducible rfl|omega|(simp (disch:=omega) only [gT,g0,g1,g2,g3,g4,g5,g6,g7,g8,g9,g10,g11,g12,m0,m1,ds,e00,Cm,B4,Bl,Lc,Lp,tc,tp,vr,v0]<;>omega))
    |(with_reducible apply Al;· first|with_reducible rfl|(simp (disch:=omega) only [gF,g0,g1,g2,g3,g4,g5,g6,g7,g8,g9,g10,g11,g12,m0,m1,ds,e00,Cm,B4,Bl,Lc,Lp,tc,tp,vr,v0]<;>omega))
   try simp (disch:=omega) only [g0,g1,g2,g3,g4,g5,g6,g7,g8,g9,g10,g11,g12,m0,m1,ds,e00,Cm,B4,Bl,Lc,Lp,tc,tp,vr,v0]
   all_goals rfl
  have v0:(Jj c.key w s != 0)=false:=by simp [hvv]
  rw [A3 (by simp [hvv])]
  by_cases hpp:pr.2=0
  ·have p0:(pr.2 != 0)=false:=by simp [hpp]
   rw [A3 (by simp [hpp])]
   try unfold Aa
   repeat first
    |((with_reducible first|apply Ap|apply Ag|apply Am|apply Ar|apply Ax|apply Az|apply Bh|apply A6|apply Ah);· first|with_reducible rfl|(simp (disch:=omega) only [g0,g1,g2,g3,g4,g5,g6,g7,g8,g9,g10,g11,g12,m0,m1,ds,e00,Cm,B4,Bl,Lc,Lp,tc,tp,vr,v0,L,t,pe,p0]<;>with_reducible rfl))
    |((with_reducible first|apply Ao|apply Ak);· first|with_reducible rfl|omega|(simp (disch:=omega) only [gT,g0,g1,g2,g3,g4,g5,g6,g7,g8,g9,g10,g11,g12,m0,m1,ds,e00,Cm,B4,Bl,Lc,Lp,tc,tp,vr,v0,L,t,pe,p0]<;>omega))
    |(with_reducible apply Al;· first|with_reducible rfl|(simp (disch:=omega) only [gF,g0,g1,g2,g3,g4,g5,g6,g7,g8,g9,g10,g11,g12,m0,m1,ds,e00,Cm,B4,Bl,Lc,Lp,tc,tp,vr,v0,L,t,pe,p0]<;>omega))
   try simp (disch:=omega) only [g0,g1,g2,g3,g4,g5,g6,g7,g8,g9,g10,g11,g12,m0,m1,ds,e00,Cm,B4,Bl,Lc,Lp,tc,tp,vr,v0,L,t,pe,p0]
   all_goals rfl
  ·have p0:(pr.2 != 0)=true:=by simp [hpp]
   rw [Bk hpp]
   try unfold Aa
   repeat first
    |((with_reducible first|apply Ap|apply Ag|apply Am|apply Ar|apply Ax|apply Az|apply Bh|apply A6|apply Ah);· first|with_reducible rfl|(simp (disch:=omega) only [g0,g1,g2,g3,g4,g5,g6,g7,g8,g9,g10,g11,g12,m0,m1,ds,e00,Cm,B4,Bl,Lc,Lp,tc,tp,vr,v0,L,t,pe,p0]<;>with_reducible rfl))
    |((with_reducible first|apply Ao|apply Ak);· first|with_reducible rfl|omega|(simp (disch:=omega) only [gT,g0,g1,g2,g3,g4,g5,g6,g7,g8,g9,g10,g11,g12,m0,m1,ds,e00,Cm,B4,Bl,Lc,Lp,tc,tp,vr,v0,L,t,pe,p0]<;>omega))
    |(with_reducible apply Al;· first|with_reducible rfl|(simp (disch:=omega) only [gF,g0,g1,g2,g3,g4,g5,g6,g7,g8,g9,g10,g11,g12,m0,m1,ds,e00,Cm,B4,Bl,Lc,Lp,tc,tp,vr,v0,L,t,pe,p0]<;>omega))
   try simp (disch:=omega) only [g0,g1,g2,g3,g4,g5,g6,g7,g8,g9,g10,g11,g12,m0,m1,ds,e00,Cm,B4,Bl,Lc,Lp,tc,tp,vr,v0,L,t,pe,p0]
   all_goals rfl
theorem Ai6 (hfu:1000<=fu){a0_0:Int}{a0_1:ByteArray}{a0_2n:Nat}{a0_2:List PV}{a0_3n:Nat}{a0_3:List PV}{a0_4n:Nat}{a0_4:List PV}{a0_5:Int}{a0_6n:Nat}{a0_6:List PV}{a0_7:ByteArray}{a1_0 a1_1 a1_2 a1_3 a1_4:Int}{a1_5n:Nat}{a1_5:List PV}{a1_6 a1_7 a2:Int}{a3n:Nat}{a3:List PV}{a4n:Nat}{a4:List PV}{a5:Int}
  {r:Rp} (hr:r.ok) (h3:r.certs.length<=3) (a:Ad) (w:Int) {ans:List An} (hl:ans.length<=900) {vs:List Rv} (hv:vs.length<=900) (now:Int):∀(q:List (List Int)) (i nn:Nat) (cs:List Ce),r.certs.drop i=q->q.length<nn->i<=r.certs.length->(∀c∈cs,c.in_)->cs.length=i->(q=[]->cs≠[]) ->
  D5 fu (Ae C0 Tryz.prog fu (d+10)) a0_0 a0_1 a0_2n a0_2 a0_3n a0_3 a0_4n a0_4 a0_5 a0_6n a0_6 a0_7 a1_0 a1_1 a1_2 a1_3 a1_4 a1_5n a1_5 a1_6 a1_7 a2 a3n a3 a4n a4 a5 nn w ans.length (Ed ans) vs.length (Ex vs) now cs.length r.certs.length (Vf r.certs) (r.certs.length:Int) (i:Int) r.kind r.cd r.ad.length (Ai .u8 r.ad) r.sg.length (Ai .u8 r.sg) r.certs.length (Vf r.certs) r.fmt r.id_.length (Ai .u8 r.id_) r.user a.rp a.flags a.cnt a.rng a.model a.id_.length (Ai .u8 a.id_) a.key.h a.key.root 0 0 0 (Cd cs) =
   some ⟨(if (Cc q).2≠0 then avE (Cc q).2 else P5 r.sg a.model w ans vs now (cs++(Cc q).1)).vals,[]⟩
 |_,_,0,_,_,h,_,_,_,_=>by omega
 |[],i,nn+1,cs,h,hn,hi,hc,hcl,hne=>by
  have:=drop_nil h;obtain rfl:i=r.certs.length:=by omega
  have e:(if (Cc []).2≠0 then avE (Cc []).2 else P5 r.sg a.model w ans vs now (cs++(Cc []).1))=P5 r.sg a.model w ans vs now cs:=by
   rw [Cc,A3 (by simp)]
   simp
  rw [e];exact Azh hfu hr a w hl hv now hc (hne rfl) (by omega) nn
 |b::q,i,nn+1,cs,h,hn,hi,hc,hcl,hne=>by
  obtain ⟨h1,h2,h3'⟩:=Ca h;simp only [H0] at hn;obtain ⟨hb,hbl⟩:=hr.certs b (List.mem_of_getElem? h2);have de:=A40 (fu:=fu) (d:=d+1) hfu hb hbl;have din:=Awf hb;have nt:Int.toNat (i:Int)=i:=G6 _;have g0:=atb h2;have w1:IntKind.wrap .i64 ((i:Int)+1)=((i+1:Nat):Int):=by rw [Au (by omega) (by omega)];omega
  have L:=Zv cs;have t:List.take (cs.length*13) (Cd cs)=Cd cs:=I2 (by omega)
  have ed:Cc (b::q)=if (Jy b).2≠0 then ([],(Jy b).2) else if (Cc q).2≠0 then ([],(Cc q).2) else ((Jy b).1::(Cc q).1,0):=rfl
  rw [ed,Ii];generalize Jy b=D at de din ⊢;obtain ⟨c,e⟩:=D;simp only at de din ⊢;by_cases he:e=0
  rotate_left
  ·have e0:(e != 0)=true:=by simp [he]
   rw [Bk he];simp only [ne_eq,he,not_false_eq_true,if_true];simp only [Ce.cells] at de
   try unfold Aa
   repeat first
    |((with_reducible first|apply Ap|apply Ag|apply Am|apply Ar|apply Ax|apply Az|apply Bh|apply A6|apply Ah);· first|with_reducible rfl|(simp (disch:=omega) only [nt,g0,de,e0]<;>with_reducible rfl))
    |((with_reducible first|apply Ao|apply Ak);· first|with_reducible rfl|omega|(simp (disch:=omega) only [gT,nt,g0,de,e0]<;>omega))
    |(with_reducible apply Al;· first|with_reducible rfl|(simp (disch:=omega) only [gF,nt,g0,de,e0]<;>omega))
   try simp (disch:=omega) only [nt,g0,de,e0]
   all_goals rfl
  subst he;have e00:((0:Int) != 0)=false:=rfl;have hci:=din rfl;have n00:¬((0:Int)≠0):=by simp
  rw [A3 n00]
  have ih:=Ai6 hfu (a0_0:=a0_0) (a0_1:=a0_1) (a0_2n:=a0_2n) (a0_2:=a0_2) (a0_3n:=a0_3n) (a0_3:=a0_3) (a0_4n:=a0_4n) (a0_4:=a0_4) (a0_5:=a0_5) (a0_6n:=a0_6n) (a0_6:=a0_6) (a0_7:=a0_7) (a1_0:=a1_0) (a1_1:=a1_1) (a1_2:=a1_2) (a1_3:=a1_3) (a1_4:=a1_4) (a1_5n:=a1_5n) (a1_5:=a1_5) (a1_6:=a1_6) (a1_7:=a1_7) (a2:=a2) (a3n:=a3n) (a3:=a3) (a4n:=a4n) (a4:=a4) (a5:=a5) hr h3 a w hl hv now q (i+1) nn (cs++[c]) h3' (by omega) (by omega) (by
   intro x hx;rcases List.mem_append.1 hx with hx|hx
   ·exact hc x hx
   ·simp at hx;subst hx;exact hci) (by
   simp only [Ic,H0,X2];omega) (by intro _;simp)
  have ee:(if (if (Cc q).2≠0 then (([]:List Ce),(Cc q).2) else (c::(Cc q).1,0)).2≠0 then avE (if (Cc q).2≠0 then (([]:List Ce),(Cc q).2) else (c::(Cc q).1,0)).2 else P5 r.sg a.model w ans vs now (cs++(if (Cc q).2≠0 then (([]:List Ce),(Cc q).2) else (c::(Cc q).1,0)).1))=(if (Cc q).2≠0 then avE (Cc q).2 else P5 r.sg a.model w ans vs now (cs++[c]++(Cc q).1)):=by
   by_cases hd:(Cc q).2=0
   ·have hd':¬((Cc q).2≠0):=by simp [hd]
    rw [A3 hd',A3 hd'];simp
   ·rw [Bk hd,Bk hd,Bk hd]
  rw [ee,←ih,Ann,Ic];have e1:Cd [c]=c.cells:=by simp [Cd]
  rw [e1];simp only [Ce.cells] at de ⊢;have lr:[c].length=1:=rfl;rw [lr]
  try unfold Aa
  repeat first
   |((with_reducible first|apply Ap|apply Ag|apply Am|apply Ar|apply Ax|apply Az|apply Bh|apply A6|apply Ah);· first|with_reducible rfl|(simp (disch:=omega) only [nt,g0,de,e00,w1,L,t]<;>with_reducible rfl))
   |((with_reducible first|apply Ao|apply Ak);· first|with_reducible rfl|omega|(simp (disch:=omega) only [gT,nt,g0,de,e00,w1,L,t]<;>omega))
   |(with_reducible apply Al;· first|with_reducible rfl|(simp (disch:=omega) only [gF,nt,g0,de,e00,w1,L,t]<;>omega))
  try simp (disch:=omega) only [nt,g0,de,e00,w1,L,t]
  all_goals rfl
theorem Ayv (hfu:1000<=fu){r:Rp}(hr:r.ok)(a:Ad)(w:Int){ans:List An}(hl:ans.length<=900){vs:List Rv}(hv:vs.length<=900)(now:Int):
  Ae C0 Tryz.prog fu (d+11) Jr [.agg r.cells,.agg a.cells,.sc (.int .u64 w),.lst false 3 ans.length (Ed ans),.lst false 3 vs.length (Ex vs),.sc (.int .i64 now)]=some ⟨(Af1 r a w ans vs now).vals,[]⟩:=by
 refine (Sp fu (d+10) r.kind r.cd r.ad.length (Ai .u8 r.ad) r.sg.length (Ai .u8 r.sg) r.certs.length (Vf r.certs) r.fmt r.id_.length (Ai .u8 r.id_) r.user a.rp a.flags a.cnt a.rng a.model a.id_.length (Ai .u8 a.id_) a.key.h a.key.root w ans.length (Ed ans) vs.length (Ex vs) now).trans ?_;unfold Af1;by_cases h1:r.certs.length<1
 ·rw [Bk h1]
  try unfold Aa
  repeat first
   |((with_reducible first|apply Ap|apply Ag|apply Am|apply Ar|apply Ax|apply Az|apply Bh|apply A6|apply Ah);· first|with_reducible rfl|(simp (disch:=omega) only [Bl]<;>with_reducible rfl))
   |((with_reducible first|apply Ao|apply Ak);· first|with_reducible rfl|omega|(simp (disch:=omega) only [gT,Bl]<;>omega))
   |(with_reducible apply Al;· first|with_reducible rfl|(simp (disch:=omega) only [gF,Bl]<;>omega))
  try simp (disch:=omega) only [Bl]
  all_goals rfl
 rw [A3 h1];by_cases h2:r.certs.length>3
 ·rw [Bk h2]
  try unfold Aa
  repeat first
   |((with_reducible first|apply Ap|apply Ag|apply Am|apply Ar|apply Ax|apply Az|apply Bh|apply A6|apply Ah);· first|with_reducible rfl|(simp (disch:=omega) only [Bl]<;>with_reducible rfl))
   |((with_reducible first|apply Ao|apply Ak);· first|with_reducible rfl|omega|(simp (disch:=omega) only [gT,Bl]<;>omega))
   |(with_reducible apply Al;· first|with_reducible rfl|(simp (disch:=omega) only [gF,Bl]<;>omega))
  try simp (disch:=omega) only [Bl]
  all_goals rfl
 rw [A3 h2];have bl:=Ai6 (fu:=fu) (d:=d) (a0_0:=r.kind) (a0_1:=r.cd) (a0_2n:=r.ad.length) (a0_2:=Ai .u8 r.ad) (a0_3n:=r.sg.length) (a0_3:=Ai .u8 r.sg) (a0_4n:=r.certs.length) (a0_4:=Vf r.certs) (a0_5:=r.fmt) (a0_6n:=r.id_.length) (a0_6:=Ai .u8 r.id_) (a0_7:=r.user) (a1_0:=a.rp) (a1_1:=a.flags) (a1_2:=a.cnt) (a1_3:=a.rng) (a1_4:=a.model) (a1_5n:=a.id_.length) (a1_5:=Ai .u8 a.id_) (a1_6:=a.key.h) (a1_7:=a.key.root) (a2:=w) (a3n:=ans.length) (a3:=Ed ans) (a4n:=vs.length) (a4:=Ex vs) (a5:=now) hfu hr (by omega) a w hl hv now r.certs 0 fu [] rfl (by omega) (by omega) (by simp) (by simp) (by intro h;rw [h] at h1;simp at h1)
 rw [Zzq] at bl;rw [←bl]
 try unfold Aa
 repeat first
  |((with_reducible first|apply Ap|apply Ag|apply Am|apply Ar|apply Ax|apply Az|apply Bh|apply A6|apply Ah);· first|with_reducible rfl|(simp (disch:=omega) only [Bl]<;>with_reducible rfl))
  |((with_reducible first|apply Ao|apply Ak);· first|with_reducible rfl|omega|(simp (disch:=omega) only [gT,Bl]<;>omega))
  |(with_reducible apply Al;· first|with_reducible rfl|(simp (disch:=omega) only [gF,Bl]<;>omega))
 try simp (disch:=omega) only [Bl]
 all_goals rfl
theorem Axn (hfu:1000<=fu){r:Rp}(hr:r.ok)(a:Ad)(w:Int){ans:List An}(hl:ans.length<=900){vs:List Rv}(hv:vs.length<=900)(now:Int):
  Ae C0 Tryz.prog fu (d+12) Oo [.agg r.cells,.agg a.cells,.sc (.int .u64 w),.lst false 3 ans.length (Ed ans),.lst false 3 vs.length (Ex vs),.sc (.int .i64 now)]=some ⟨(Ags r a w ans vs now).vals,[]⟩:=by
 refine (Zm fu (d+11) r.kind r.cd r.ad.length (Ai .u8 r.ad) r.sg.length (Ai .u8 r.sg) r.certs.length (Vf r.certs) r.fmt r.id_.length (Ai .u8 r.id_) r.user a.rp a.flags a.cnt a.rng a.model a.id_.length (Ai .u8 a.id_) a.key.h a.key.root w ans.length (Ed ans) vs.length (Ex vs) now).trans ?_;have sf:=A48 (fu:=fu) (d:=d+2) hfu hr a w;have bt:=Ayv (fu:=fu) (d:=d) hfu hr a w hl hv now;simp only [Rp.cells,Ad.cells,Av.vals] at sf bt;unfold Ags;by_cases h0:Ez .i64 a.flags 64=0
 ·have f0:(Ez .i64 a.flags 64==0)=true:=by simp [h0]
  rw [Bk h0]
  try unfold Aa
  repeat first
   |((with_reducible first|apply Ap|apply Ag|apply Am|apply Ar|apply Ax|apply Az|apply Bh|apply A6|apply Ah);· first|with_reducible rfl|(simp (disch:=omega) only [f0]<;>with_reducible rfl))
   |((with_reducible first|apply Ao|apply Ak);· first|with_reducible rfl|omega|(simp (disch:=omega) only [gT,f0]<;>omega))
   |(with_reducible apply Al;· first|with_reducible rfl|(simp (disch:=omega) only [gF,f0]<;>omega))
  try simp (disch:=omega) only [f0]
  all_goals rfl
 have f0:(Ez .i64 a.flags 64==0)=false:=by simp only [beq_eq_false_iff_ne,ne_eq];exact h0
 rw [A3 h0];generalize Ez .i64 a.flags 64=fl at *
 by_cases h1:r.fmt=0
 ·have b1:(r.fmt==0)=true:=by simp [h1]
  rw [Bk h1];by_cases h2:r.sg.length>0
  ·rw [Bk h2]
   try unfold Aa
   repeat first
    |((with_reducible first|apply Ap|apply Ag|apply Am|apply Ar|apply Ax|apply Az|apply Bh|apply A6|apply Ah);· first|with_reducible rfl|(simp (disch:=omega) only [f0,b1]<;>with_reducible rfl))
    |((with_reducible first|apply Ao|apply Ak);· first|with_reducible rfl|omega|(simp (disch:=omega) only [gT,f0,b1]<;>omega))
    |(with_reducible apply Al;· first|with_reducible rfl|(simp (disch:=omega) only [gF,f0,b1]<;>omega))
   try simp (disch:=omega) only [f0,b1]
   all_goals rfl
  rw [A3 h2];by_cases h3:r.certs.length>0
  ·rw [Bk h3]
   try unfold Aa
   repeat first
    |((with_reducible first|apply Ap|apply Ag|apply Am|apply Ar|apply Ax|apply Az|apply Bh|apply A6|apply Ah);· first|with_reducible rfl|(simp (disch:=omega) only [f0,b1]<;>with_reducible rfl))
    |((with_reducible first|apply Ao|apply Ak);· first|with_reducible rfl|omega|(simp (disch:=omega) only [gT,f0,b1]<;>omega))
    |(with_reducible apply Al;· first|with_reducible rfl|(simp (disch:=omega) only [gF,f0,b1]<;>omega))
   try simp (disch:=omega) only [f0,b1]
   all_goals rfl
  rw [A3 h3]
  try unfold Aa
  repeat first
   |((with_reducible first|apply Ap|apply Ag|apply Am|apply Ar|apply Ax|apply Az|apply Bh|apply A6|apply Ah);· first|with_reducible rfl|(simp (disch:=omega) only [f0,b1]<;>with_reducible rfl))
   |((with_reducible first|apply Ao|apply Ak);· first|with_reducible rfl|omega|(simp (disch:=omega) only [gT,f0,b1]<;>omega))
   |(with_reducible apply Al;· first|with_reducible rfl|(simp (disch:=omega) only [gF,f0,b1]<;>omega))
  try simp (disch:=omega) only [f0,b1]
  all_goals rfl
 have b1:(r.fmt==0)=false:=by simp [h1]
 rw [A3 h1];by_cases h2:r.fmt=1
 ·have b2:(r.fmt==1)=true:=by simp [h2]
  rw [Bk h2]
  try unfold Aa
  repeat first
   |((with_reducible first|apply Ap|apply Ag|apply Am|apply Ar|apply Ax|apply Az|apply Bh|apply A6|apply Ah);· first|with_reducible rfl|(simp (disch:=omega) only [f0,b1,b2,sf]<;>with_reducible rfl))
   |((with_reducible first|apply Ao|apply Ak);· first|with_reducible rfl|omega|(simp (disch:=omega) only [gT,f0,b1,b2,sf]<;>omega))
   |(with_reducible apply Al;· first|with_reducible rfl|(simp (disch:=omega) only [gF,f0,b1,b2,sf]<;>omega))
  try simp (disch:=omega) only [f0,b1,b2,sf]
  all_goals rfl
 have b2:(r.fmt==1)=false:=by simp [h2]
 rw [A3 h2];by_cases h3:r.fmt=2
 ·have b3:(r.fmt==2)=true:=by simp [h3]
  rw [Bk h3]
  try unfold Aa
  repeat first
   |((with_reducible first|apply Ap|apply Ag|apply Am|apply Ar|apply Ax|apply Az|apply Bh|apply A6|apply Ah);· first|with_reducible rfl|(simp (disch:=omega) only [f0,b1,b2,b3,bt]<;>with_reducible rfl))
   |((with_reducible first|apply Ao|apply Ak);· first|with_reducible rfl|omega|(simp (disch:=omega) only [gT,f0,b1,b2,b3,bt]<;>omega))
   |(with_reducible apply Al;· first|with_reducible rfl|(simp (disch:=omega) only [gF,f0,b1,b2,b3,bt]<;>omega))
  try simp (disch:=omega) only [f0,b1,b2,b3,bt]
  all_goals rfl
 have b3:(r.fmt==2)=false:=by simp [h3]
 rw [A3 h3]
 try unfold Aa
 repeat first
  |((with_reducible first|apply Ap|apply Ag|apply Am|apply Ar|apply Ax|apply Az|apply Bh|apply A6|apply Ah);· first|with_reducible rfl|(simp (disch:=omega) only [f0,b1,b2,b3]<;>with_reducible rfl))
  |((with_reducible first|apply Ao|apply Ak);· first|with_reducible rfl|omega|(simp (disch:=omega) only [gT,f0,b1,b2,b3]<;>omega))
  |(with_reducible apply Al;· first|with_reducible rfl|(simp (disch:=omega) only [gF,f0,b1,b2,b3]<;>omega))
 try simp (disch:=omega) only [f0,b1,b2,b3]
 all_goals rfl
end
end
section
section
variable {fu d:Nat}
theorem Aup (hfu:1000<=fu){a0_0:Int}{a0_1:ByteArray}{a0_2n:Nat}{a0_2:List PV}{a0_3n:Nat}{a0_3:List PV}{a0_4n:Nat}{a0_4:List PV}{a0_5:Int}{a0_6n:Nat}{a0_6:List PV}{a0_7:ByteArray}{a1_0 a1_1 a1_2 a1_3 a1_4:Int}{a1_5n:Nat}{a1_5:List PV}{a1_6 a1_7 a2:Int}{a3n:Nat}{a3:List PV}{a4n:Nat}{a4:List PV}{a5:Int}
  {r:Rp} (hr:r.ok) (a:Ad) (w:Int) {ans:List An} (hl:ans.length<=900) {vs:List Rv} (hv:vs.length<=900) (now:Int) {cs:List Ce} (hc:∀c∈cs,c.in_) (hne:cs≠[]) (hcl:cs.length<=1000) (nn:Nat):
  Fg fu (Ae C0 Tryz.prog fu (d+15)) a0_0 a0_1 a0_2n a0_2 a0_3n a0_3 a0_4n a0_4 a0_5 a0_6n a0_6 a0_7 a1_0 a1_1 a1_2 a1_3 a1_4 a1_5n a1_5 a1_6 a1_7 a2 a3n a3 a4n a4 a5 (nn+1) w ans.length (Ed ans) vs.length (Ex vs) now cs.length (r.certs.length:Int) r.kind r.cd r.ad.length (Ai .u8 r.ad) r.sg.length (Ai .u8 r.sg) r.certs.length (Vf r.certs) r.fmt r.id_.length (Ai .u8 r.id_) r.user a.rp a.flags a.cnt a.rng a.model a.id_.length (Ai .u8 a.id_) a.key.h a.key.root 0 0 0 (Cd cs) =
   some ⟨(P5 r.sg a.model w ans vs now cs).vals,[]⟩:=by
 obtain ⟨c,ct,rfl⟩:∃c ct,cs=c::ct:=by
  cases cs with
  |nil=>exact absurd rfl hne
  |cons c ct=>exact ⟨c,ct,rfl⟩
 have ds:=Ab8 (fu:=fu) (d:=d+13) hfu hr.sg;have L:=Zv (c::ct);have t:List.take ((c::ct).length*13) (Cd (c::ct))=Cd (c::ct):=I2 (by omega)
 have pe:=A4b (fu:=fu) (d:=d+4) hfu hc hl hv now;have g0:(Cd (c::ct)).getD 0 .top=.sc (.string c.subj):=rfl;have g1:(Cd (c::ct)).getD 1 .top=.sc (.string c.iss):=rfl;have g2:(Cd (c::ct)).getD 2 .top=.sc (.int .u64 c.serial):=rfl;have g3:(Cd (c::ct)).getD 3 .top=.sc (.int .i64 c.key.h):=rfl;have g4:(Cd (c::ct)).getD 4 .top=.sc (.int .u64 c.key.root):=rfl;have g5:(Cd (c::ct)).getD 5 .top=.sc (.int .i64 c.fr):=rfl;have g6:(Cd (c::ct)).getD 6 .top=.sc (.int .i64 c.un):=rfl;have g7:(Cd (c::ct)).getD 7 .top=.sc (.bool c.auth):=rfl;have g8:(Cd (c::ct)).getD 8 .top=.sc (.int .i64 c.path):=rfl;have g9:(Cd (c::ct)).getD 9 .top=.sc (.int .u64 c.model):=rfl;have g10:(Cd (c::ct)).getD 10 .top=.sc (.int .i64 c.sig.leaf):=rfl;have g11:(Cd (c::ct)).getD 11 .top=.lst false 1 c.sig.chains.length (Ai .u64 c.sig.chains):=rfl
 have g12:(Cd (c::ct)).getD 12 .top=.lst false 1 c.sig.path.length (Ai .u64 c.sig.path):=rfl;have hp:(((c::ct).length:Nat):Int)>0:=by simp only [H0];omega
 rw [P5];generalize Cd (c::ct)=E at *
 generalize O1 (c::ct) ans vs now=pr at *
 generalize (c::ct).length=n at *
 rw [Le,Dj _ _ _ (by omega)]
 cases ha:c.auth
 rotate_left
 ·rw [Bk rfl];rw [ha] at g7
  try unfold Aa
  repeat first
   |((with_reducible first|apply Ap|apply Ag|apply Am|apply Ar|apply Ax|apply Az|apply Bh|apply A6|apply Ah);· first|with_reducible rfl|(simp (disch:=omega) only [g0,g1,g2,g3,g4,g5,g6,g7,g8,g9,g10,g11,g12]<;>with_reducible rfl))
   |((with_reducible first|apply Ao|apply Ak);· first|with_reducible rfl|omega|(simp (disch:=omega) only [gT,g0,g1,g2,g3,g4,g5,g6,g7,g8,g9,g10,g11,g12]<;>omega))
   |(with_reducible apply Al;· first|with_reducible rfl|(simp (disch:=omega) only [gF,g0,g1,g2,g3,g4,g5,g6,g7,g8,g9,g10,g11,g12]<;>omega))
  try simp (disch:=omega) only [g0,g1,g2,g3,g4,g5,g6,g7,g8,g9,g10,g11,g12]
  all_goals rfl
 rw [ha] at g7;rw [A3 (by simp)]
 by_cases hm:c.model=0
 ·have m0:(c.model==0)=true:=by simp [hm]
  rw [Bk hm]
  try unfold Aa
  repeat first
   |((with_reducible first|apply Ap|apply Ag|apply Am|apply Ar|apply Ax|apply Az|apply Bh|apply A6|apply Ah);· first|with_reducible rfl|(simp (disch:=omega) only [g0,g1,g2,g3,g4,g5,g6,g7,g8,g9,g10,g11,g12,m0]<;>with_reducible rfl))
   |((with_reducible first|apply Ao|apply Ak);· first|with_reducible rfl|omega|(simp (disch:=omega) only [gT,g0,g1,g2,g3,g4,g5,g6,g7,g8,g9,g10,g11,g12,m0]<;>omega))
   |(with_reducible apply Al;· first|with_reducible rfl|(simp (disch:=omega) only [gF,g0,g1,g2,g3,g4,g5,g6,g7,g8,g9,g10,g11,g12,m0]<;>omega))
  try simp (disch:=omega) only [g0,g1,g2,g3,g4,g5,g6,g7,g8,g9,g10,g11,g12,m0]
  all_goals rfl
 have m0:(c.model==0)=false:=by simp [hm]
 rw [A3 hm];by_cases hq:c.model=a.model
 rotate_left
 ·have m1:(c.model != a.model)=true:=by simp [hq]
  rw [Bk hq]
  try unfold Aa
  repeat first
   |((with_reducible first|apply Ap|apply Ag|apply Am|apply Ar|apply Ax|apply Az|apply Bh|apply A6|apply Ah);· first|with_reducible rfl|(simp (disch:=omega) only [g0,g1,g2,g3,g4,g5,g6,g7,g8,g9,g10,g11,g12,m0,m1]<;>with_reducible rfl))
   |((with_reducible first|apply Ao|apply Ak);· first|with_reducible rfl|omega|(simp (disch:=omega) only [gT,g0,g1,g2,g3,g4,g5,g6,g7,g8,g9,g10,g11,g12,m0,m1]<;>omega))
   |(with_reducible apply Al;· first|with_reducible rfl|(simp (disch:=omega) only [gF,g0,g1,g2,g3,g4,g5,g6,g7,g8,g9,g10,g11,g12,m0,m1]<;>omega))
  try simp (disch:=omega) only [g0,g1,g2,g3,g4,g5,g6,g7,g8,g9,g10,g11,g12,m0,m1]
  all_goals rfl
 have m1:(c.model != a.model)=false:=by simp [hq]
 rw [A3 (by simp [hq])]
 cases hs:sgD r.sg with
 |none=>
  rw [hs] at ds;simp only [Q8,Sg.owned] at ds;have e20:((2:Int) != 0)=true:=rfl
  try unfold Aa
  repeat first
   |((with_reducible first|apply Ap|apply Ag|apply Am|apply Ar|apply Ax|apply Az|apply Bh|apply A6|apply Ah);· first|with_reducible rfl|(simp (disch:=omega) only [g0,g1,g2,g3,g4,g5,g6,g7,g8,g9,g10,g11,g12,m0,m1,ds,e20]<;>with_reducible rfl))
   |((with_reducible first|apply Ao|apply Ak);· first|with_reducible rfl|omega|(simp (disch:=omega) only [gT,g0,g1,g2,g3,g4,g5,g6,g7,g8,g9,g10,g11,g12,m0,m1,ds,e20]<;>omega))
   |(with_reducible apply Al;· first|with_reducible rfl|(simp (disch:=omega) only [gF,g0,g1,g2,g3,g4,g5,g6,g7,g8,g9,g10,g11,g12,m0,m1,ds,e20]<;>omega))
  try simp (disch:=omega) only [g0,g1,g2,g3,g4,g5,g6,g7,g8,g9,g10,g11,g12,m0,m1,ds,e20]
  all_goals rfl
 |some s=>
  rw [hs] at ds;simp only [Q8,Sg.owned] at ds;have e00:((0:Int) != 0)=false:=rfl;have vr:=Acl (fu:=fu) (d:=d+8) hfu c.key w s;simp only [Ky.cells,Sg.cells] at vr;have Lc:=As .u64 s.chains;have Lp:=As .u64 s.path;have tc:=G4 .u64 s.chains;have tp:=G4 .u64 s.path;simp only;by_cases hvv:Jj c.key w s=0
  rotate_left
  ·have v0:(Jj c.key w s != 0)=true:=by simp [hvv]
   rw [Bk hvv]
   try unfold Aa
   repeat first
    |((with_reducible first|apply Ap|apply Ag|apply Am|apply Ar|apply Ax|apply Az|apply Bh|apply A6|apply Ah);· first|with_reducible rfl|(simp (disch:=omega) only [g0,g1,g2,g3,g4,g5,g6,g7,g8,g9,g10,g11,g12,m0,m1,ds,e00,Cm,B4,Bl,Lc,Lp,tc,tp,vr,v0]<;>with_reducible rfl))
    |((with_reducible first|apply Ao|apply Ak);· first|with_reducible rfl|omega|(simp (disch:=omega) only [gT,g0,g1,g2,g3,g4,g5,g6,g7,g8,g9,g10,g11,g12,m0,m1,ds,e00,Cm,B4,Bl,Lc,Lp,tc,tp,vr,v0]<;>omega))
    |(with_reducible apply Al;· first|with_reducible rfl|(simp (disch:=omega) only [gF,g0,g1,g2,g3,g4,g5,g6,g7,g8,g9,g10,g11,g12,m0,m1,ds,e00,Cm,B4,Bl,Lc,Lp,tc,tp,vr,v0]<;>omega))
   try simp (disch:=omega) only [g0,g1,g2,g3,g4,g5,g6,g7,g8,g9,g10,g11,g12,m0,m1,ds,e00,Cm,B4,Bl,Lc,Lp,tc,tp,vr,v0]
   all_goals rfl
  have v0:(Jj c.key w s != 0)=false:=by simp [hvv]
  rw [A3 (by simp [hvv])]
  by_cases hpp:pr.2=0
  ·have p0:(pr.2 != 0)=false:=by simp [hpp]
   rw [A3 (by simp [hpp])]
   try unfold Aa
   repeat first
    |((with_reducible first|apply Ap|apply Ag|apply Am|apply Ar|apply Ax|apply Az|apply Bh|apply A6|apply Ah);· first|with_reducible rfl|(simp (disch:=omega) only [g0,g1,g2,g3,g4,g5,g6,g7,g8,g9,g10,g11,g12,m0,m1,ds,e00,Cm,B4,Bl,Lc,Lp,tc,tp,vr,v0,L,t,pe,p0]<;>with_reducible rfl))
    |((with_reducible first|apply Ao|apply Ak);· first|with_reducible rfl|omega|(simp (disch:=omega) only [gT,g0,g1,g2,g3,g4,g5,g6,g7,g8,g9,g10,g11,g12,m0,m1,ds,e00,Cm,B4,Bl,Lc,Lp,tc,tp,vr,v0,L,t,pe,p0]<;>omega))
    |(with_reducible apply Al;· first|with_reducible rfl|(simp (disch:=omega) only [gF,g0,g1,g2,g3,g4,g5,g6,g7,g8,g9,g10,g11,g12,m0,m1,ds,e00,Cm,B4,Bl,Lc,Lp,tc,tp,vr,v0,L,t,pe,p0]<;>omega))
   try simp (disch:=omega) only [g0,g1,g2,g3,g4,g5,g6,g7,g8,g9,g10,g11,g12,m0,m1,ds,e00,Cm,B4,Bl,Lc,Lp,tc,tp,vr,v0,L,t,pe,p0]
   all_goals rfl
  ·have p0:(pr.2 != 0)=true:=by simp [hpp]
   rw [Bk hpp]
   try unfold Aa
   repeat first
    |((with_reducible first|apply Ap|apply Ag|apply Am|apply Ar|apply Ax|apply Az|apply Bh|apply A6|apply Ah);· first|with_reducible rfl|(simp (disch:=omega) only [g0,g1,g2,g3,g4,g5,g6,g7,g8,g9,g10,g11,g12,m0,m1,ds,e00,Cm,B4,Bl,Lc,Lp,tc,tp,vr,v0,L,t,pe,p0]<;>with_reducible rfl))
    |((with_reducible first|apply Ao|apply Ak);· first|with_reducible rfl|omega|(simp (disch:=omega) only [gT,g0,g1,g2,g3,g4,g5,g6,g7,g8,g9,g10,g11,g12,m0,m1,ds,e00,Cm,B4,Bl,Lc,Lp,tc,tp,vr,v0,L,t,pe,p0]<;>omega))
    |(with_reducible apply Al;· first|with_reducible rfl|(simp (disch:=omega) only [gF,g0,g1,g2,g3,g4,g5,g6,g7,g8,g9,g10,g11,g12,m0,m1,ds,e00,Cm,B4,Bl,Lc,Lp,tc,tp,vr,v0,L,t,pe,p0]<;>omega))
   try simp (disch:=omega) only [g0,g1,g2,g3,g4,g5,g6,g7,g8,g9,g10,g11,g12,m0,m1,ds,e00,Cm,B4,Bl,Lc,Lp,tc,tp,vr,v0,L,t,pe,p0]
   all_goals rfl
theorem Ahf (hfu:1000<=fu){a0_0:Int}{a0_1:ByteArray}{a0_2n:Nat}{a0_2:List PV}{a0_3n:Nat}{a0_3:List PV}{a0_4n:Nat}{a0_4:List PV}{a0_5:Int}{a0_6n:Nat}{a0_6:List PV}{a0_7:ByteArray}{a1_0 a1_1 a1_2 a1_3 a1_4:Int}{a1_5n:Nat}{a1_5:List PV}{a1_6 a1_7 a2:Int}{a3n:Nat}{a3:List PV}{a4n:Nat}{a4:List PV}{a5:Int}
  {r:Rp} (hr:r.ok) (h3:r.certs.length<=3) (a:Ad) (w:Int) {ans:List An} (hl:ans.length<=900) {vs:List Rv} (hv:vs.length<=900) (now:Int):∀(q:List (List Int)) (i nn:Nat) (cs:List Ce),r.certs.drop i=q->q.length<nn->i<=r.certs.length->(∀c∈cs,c.in_)->cs.length=i->(q=[]->cs≠[]) ->
  Fg fu (Ae C0 Tryz.prog fu (d+15)) a0_0 a0_1 a0_2n a0_2 a0_3n a0_3 a0_4n a0_4 a0_5 a0_6n a0_6 a0_7 a1_0 a1_1 a1_2 a1_3 a1_4 a1_5n a1_5 a1_6 a1_7 a2 a3n a3 a4n a4 a5 nn w ans.length (Ed ans) vs.length (Ex vs) now cs.length (i:Int) r.kind r.cd r.ad.length (Ai .u8 r.ad) r.sg.length (Ai .u8 r.sg) r.certs.length (Vf r.certs) r.fmt r.id_.length (Ai .u8 r.id_) r.user a.rp a.flags a.cnt a.rng a.model a.id_.length (Ai .u8 a.id_) a.key.h a.key.root 0 0 0 (Cd cs) =
   some ⟨(if (Cc q).2≠0 then avE (Cc q).2 else P5 r.sg a.model w ans vs now (cs++(Cc q).1)).vals,[]⟩
 |_,_,0,_,_,h,_,_,_,_=>by omega
 |[],i,nn+1,cs,h,hn,hi,hc,hcl,hne=>by
  have:=drop_nil h;obtain rfl:i=r.certs.length:=by omega
  have e:(if (Cc []).2≠0 then avE (Cc []).2 else P5 r.sg a.model w ans vs now (cs++(Cc []).1))=P5 r.sg a.model w ans vs now cs:=by
   rw [Cc,A3 (by simp)]
   simp
  rw [e];exact Aup hfu hr a w hl hv now hc (hne rfl) (by omega) nn
 |b::q,i,nn+1,cs,h,hn,hi,hc,hcl,hne=>by
  obtain ⟨h1,h2,h3'⟩:=Ca h;simp only [H0] at hn;obtain ⟨hb,hbl⟩:=hr.certs b (List.mem_of_getElem? h2);have de:=A2o (fu:=fu) (d:=d) hfu hb hbl;have din:=Awf hb;have nt:Int.toNat (i:Int)=i:=G6 _;have g0:=atb h2;have w1:IntKind.wrap .i64 ((i:Int)+1)=((i+1:Nat):Int):=by rw [Au (by omega) (by omega)];omega
  have L:=Zv cs;have t:List.take (cs.length*13) (Cd cs)=Cd cs:=I2 (by omega)
  have ed:Cc (b::q)=if (Jy b).2≠0 then ([],(Jy b).2) else if (Cc q).2≠0 then ([],(Cc q).2) else ((Jy b).1::(Cc q).1,0):=rfl
  rw [ed,Le];generalize Jy b=D at de din ⊢;obtain ⟨c,e⟩:=D;simp only at de din ⊢;by_cases he:e=0
  rotate_left
  ·have e0:(e != 0)=true:=by simp [he]
   rw [Bk he];simp only [ne_eq,he,not_false_eq_true,if_true];simp only [Ce.cells] at de
   try unfold Aa
   repeat first
    |((with_reducible first|apply Ap|apply Ag|apply Am|apply Ar|apply Ax|apply Az|apply Bh|apply A6|apply Ah);· first|with_reducible rfl|(simp (disch:=omega) only [nt,g0,de,e0]<;>with_reducible rfl))
    |((with_reducible first|apply Ao|apply Ak);· first|with_reducible rfl|omega|(simp (disch:=omega) only [gT,nt,g0,de,e0]<;>omega))
    |(with_reducible apply Al;· first|with_reducible rfl|(simp (disch:=omega) only [gF,nt,g0,de,e0]<;>omega))
   try simp (disch:=omega) only [nt,g0,de,e0]
   all_goals rfl
  subst he;have e00:((0:Int) != 0)=false:=rfl;have hci:=din rfl;have n00:¬((0:Int)≠0):=by simp
  rw [A3 n00]
  have ih:=Ahf hfu (a0_0:=a0_0) (a0_1:=a0_1) (a0_2n:=a0_2n) (a0_2:=a0_2) (a0_3n:=a0_3n) (a0_3:=a0_3) (a0_4n:=a0_4n) (a0_4:=a0_4) (a0_5:=a0_5) (a0_6n:=a0_6n) (a0_6:=a0_6) (a0_7:=a0_7) (a1_0:=a1_0) (a1_1:=a1_1) (a1_2:=a1_2) (a1_3:=a1_3) (a1_4:=a1_4) (a1_5n:=a1_5n) (a1_5:=a1_5) (a1_6:=a1_6) (a1_7:=a1_7) (a2:=a2) (a3n:=a3n) (a3:=a3) (a4n:=a4n) (a4:=a4) (a5:=a5) hr h3 a w hl hv now q (i+1) nn (cs++[c]) h3' (by omega) (by omega) (by
   intro x hx;rcases List.mem_append.1 hx with hx|hx
   ·exact hc x hx
   ·simp at hx;subst hx;exact hci) (by
   simp only [Ic,H0,X2];omega) (by intro _;simp)
  have ee:(if (if (Cc q).2≠0 then (([]:List Ce),(Cc q).2) else (c::(Cc q).1,0)).2≠0 then avE (if (Cc q).2≠0 then (([]:List Ce),(Cc q).2) else (c::(Cc q).1,0)).2 else P5 r.sg a.model w ans vs now (cs++(if (Cc q).2≠0 then (([]:List Ce),(Cc q).2) else (c::(Cc q).1,0)).1))=(if (Cc q).2≠0 then avE (Cc q).2 else P5 r.sg a.model w ans vs now (cs++[c]++(Cc q).1)):=by
   by_cases hd:(Cc q).2=0
   ·have hd':¬((Cc q).2≠0):=by simp [hd]
    rw [A3 hd',A3 hd'];simp
   ·rw [Bk hd,Bk hd,Bk hd]
  rw [ee,←ih,Ann,Ic];have e1:Cd [c]=c.cells:=by simp [Cd]
  rw [e1];simp only [Ce.cells] at de ⊢;have lr:[c].length=1:=rfl;rw [lr]
  try unfold Aa
  repeat first
   |((with_reducible first|apply Ap|apply Ag|apply Am|apply Ar|apply Ax|apply Az|apply Bh|apply A6|apply Ah);· first|with_reducible rfl|(simp (disch:=omega) only [nt,g0,de,e00,w1,L,t]<;>with_reducible rfl))
   |((with_reducible first|apply Ao|apply Ak);· first|with_reducible rfl|omega|(simp (disch:=omega) only [gT,nt,g0,de,e00,w1,L,t]<;>omega))
   |(with_reducible apply Al;· first|with_reducible rfl|(simp (disch:=omega) only [gF,nt,g0,de,e00,w1,L,t]<;>omega))
  try simp (disch:=omega) only [nt,g0,de,e00,w1,L,t]
  all_goals rfl
theorem Av5 (hfu:1000<=fu){r:Rp}(hr:r.ok)(a:Ad)(w:Int){ans:List An}(hl:ans.length<=900){vs:List Rv}(hv:vs.length<=900)(now:Int):
  Ae C0 Tryz.prog fu (d+16) O0 [.agg r.cells,.agg a.cells,.sc (.int .u64 w),.lst false 3 ans.length (Ed ans),.lst false 3 vs.length (Ex vs),.sc (.int .i64 now)]=some ⟨(Af1 r a w ans vs now).vals,[]⟩:=by
 refine (X5 fu (d+15) r.kind r.cd r.ad.length (Ai .u8 r.ad) r.sg.length (Ai .u8 r.sg) r.certs.length (Vf r.certs) r.fmt r.id_.length (Ai .u8 r.id_) r.user a.rp a.flags a.cnt a.rng a.model a.id_.length (Ai .u8 a.id_) a.key.h a.key.root w ans.length (Ed ans) vs.length (Ex vs) now).trans ?_;have n2:=Nu (fu:=fu) (d:=d+14) r.certs.length 1 3;unfold Af1;by_cases h1:r.certs.length<1
 ·have:(decide ((1:Int)<=r.certs.length)&&decide ((r.certs.length:Int)<=3))=false:=by simp;omega
  rw [this] at n2;rw [Bk h1]
  try unfold Aa
  repeat first
   |((with_reducible first|apply Ap|apply Ag|apply Am|apply Ar|apply Ax|apply Az|apply Bh|apply A6|apply Ah);· first|with_reducible rfl|(simp (disch:=omega) only [n2,Br]<;>with_reducible rfl))
   |((with_reducible first|apply Ao|apply Ak);· first|with_reducible rfl|omega|(simp (disch:=omega) only [gT,n2,Br]<;>omega))
   |(with_reducible apply Al;· first|with_reducible rfl|(simp (disch:=omega) only [gF,n2,Br]<;>omega))
  try simp (disch:=omega) only [n2,Br]
  all_goals rfl
 rw [A3 h1];by_cases h2:r.certs.length>3
 ·have:(decide ((1:Int)<=r.certs.length)&&decide ((r.certs.length:Int)<=3))=false:=by simp;omega
  rw [this] at n2;rw [Bk h2]
  try unfold Aa
  repeat first
   |((with_reducible first|apply Ap|apply Ag|apply Am|apply Ar|apply Ax|apply Az|apply Bh|apply A6|apply Ah);· first|with_reducible rfl|(simp (disch:=omega) only [n2,Br]<;>with_reducible rfl))
   |((with_reducible first|apply Ao|apply Ak);· first|with_reducible rfl|omega|(simp (disch:=omega) only [gT,n2,Br]<;>omega))
   |(with_reducible apply Al;· first|with_reducible rfl|(simp (disch:=omega) only [gF,n2,Br]<;>omega))
  try simp (disch:=omega) only [n2,Br]
  all_goals rfl
 rw [A3 h2];have q2:(decide ((1:Int)<=r.certs.length)&&decide ((r.certs.length:Int)<=3))=true:=by simp;omega
 rw [q2] at n2;have bl:=Ahf (fu:=fu) (d:=d) (a0_0:=r.kind) (a0_1:=r.cd) (a0_2n:=r.ad.length) (a0_2:=Ai .u8 r.ad) (a0_3n:=r.sg.length) (a0_3:=Ai .u8 r.sg) (a0_4n:=r.certs.length) (a0_4:=Vf r.certs) (a0_5:=r.fmt) (a0_6n:=r.id_.length) (a0_6:=Ai .u8 r.id_) (a0_7:=r.user) (a1_0:=a.rp) (a1_1:=a.flags) (a1_2:=a.cnt) (a1_3:=a.rng) (a1_4:=a.model) (a1_5n:=a.id_.length) (a1_5:=Ai .u8 a.id_) (a1_6:=a.key.h) (a1_7:=a.key.root) (a2:=w) (a3n:=ans.length) (a3:=Ed ans) (a4n:=vs.length) (a4:=Ex vs) (a5:=now) hfu hr (by omega) a w hl hv now r.certs 0 fu [] rfl (by omega) (by omega) (by simp) (by simp) (by intro h;rw [h] at h1;simp at h1)
 rw [Zzq] at bl;rw [←bl]
 try unfold Aa
 repeat first
  |((with_reducible first|apply Ap|apply Ag|apply Am|apply Ar|apply Ax|apply Az|apply Bh|apply A6|apply Ah);· first|with_reducible rfl|(simp (disch:=omega) only [n2,Bn]<;>with_reducible rfl))
  |((with_reducible first|apply Ao|apply Ak);· first|with_reducible rfl|omega|(simp (disch:=omega) only [gT,n2,Bn]<;>omega))
  |(with_reducible apply Al;· first|with_reducible rfl|(simp (disch:=omega) only [gF,n2,Bn]<;>omega))
 try simp (disch:=omega) only [n2,Bn]
 all_goals rfl
theorem A4r (hfu:1000<=fu){r:Rp}(hr:r.ok)(a:Ad)(w:Int){ans:List An}(hl:ans.length<=900){vs:List Rv}(hv:vs.length<=900)(now:Int):
  Ae C0 Tryz.prog fu (d+17) Nj [.agg r.cells,.agg a.cells,.sc (.int .u64 w),.lst false 3 ans.length (Ed ans),.lst false 3 vs.length (Ex vs),.sc (.int .i64 now)]=some ⟨(Ags r a w ans vs now).vals,[]⟩:=by
 refine (Xy fu (d+16) r.kind r.cd r.ad.length (Ai .u8 r.ad) r.sg.length (Ai .u8 r.sg) r.certs.length (Vf r.certs) r.fmt r.id_.length (Ai .u8 r.id_) r.user a.rp a.flags a.cnt a.rng a.model a.id_.length (Ai .u8 a.id_) a.key.h a.key.root w ans.length (Ed ans) vs.length (Ex vs) now).trans ?_;have bt:=Av5 (fu:=fu) (d:=d) hfu hr a w hl hv now;simp only [Rp.cells,Ad.cells,Av.vals] at bt;unfold Ags;by_cases h0:Ez .i64 a.flags 64=0
 ·have f0:(Ez .i64 a.flags 64==0)=true:=by simp [h0]
  rw [Bk h0]
  try unfold Aa
  repeat first
   |((with_reducible first|apply Ap|apply Ag|apply Am|apply Ar|apply Ax|apply Az|apply Bh|apply A6|apply Ah);· first|with_reducible rfl|(simp (disch:=omega) only [f0]<;>with_reducible rfl))
   |((with_reducible first|apply Ao|apply Ak);· first|with_reducible rfl|omega|(simp (disch:=omega) only [gT,f0]<;>omega))
   |(with_reducible apply Al;· first|with_reducible rfl|(simp (disch:=omega) only [gF,f0]<;>omega))
  try simp (disch:=omega) only [f0]
  all_goals rfl
 have f0:(Ez .i64 a.flags 64==0)=false:=by simp only [beq_eq_false_iff_ne,ne_eq];exact h0
 rw [A3 h0];generalize Ez .i64 a.flags 64=fl at *
 by_cases h1:r.fmt=0
 ·have b1:(r.fmt==0)=true:=by simp [h1]
  rw [Bk h1];by_cases h2:r.sg.length>0
  ·rw [Bk h2]
   try unfold Aa
   repeat first
    |((with_reducible first|apply Ap|apply Ag|apply Am|apply Ar|apply Ax|apply Az|apply Bh|apply A6|apply Ah);· first|with_reducible rfl|(simp (disch:=omega) only [f0,b1]<;>with_reducible rfl))
    |((with_reducible first|apply Ao|apply Ak);· first|with_reducible rfl|omega|(simp (disch:=omega) only [gT,f0,b1]<;>omega))
    |(with_reducible apply Al;· first|with_reducible rfl|(simp (disch:=omega) only [gF,f0,b1]<;>omega))
   try simp (disch:=omega) only [f0,b1]
   all_goals rfl
  rw [A3 h2];by_cases h3:r.certs.length>0
  ·rw [Bk h3]
   try unfold Aa
   repeat first
    |((with_reducible first|apply Ap|apply Ag|apply Am|apply Ar|apply Ax|apply Az|apply Bh|apply A6|apply Ah);· first|with_reducible rfl|(simp (disch:=omega) only [f0,b1]<;>with_reducible rfl))
    |((with_reducible first|apply Ao|apply Ak);· first|with_reducible rfl|omega|(simp (disch:=omega) only [gT,f0,b1]<;>omega))
    |(with_reducible apply Al;· first|with_reducible rfl|(simp (disch:=omega) only [gF,f0,b1]<;>omega))
   try simp (disch:=omega) only [f0,b1]
   all_goals rfl
  rw [A3 h3]
  try unfold Aa
  repeat first
   |((with_reducible first|apply Ap|apply Ag|apply Am|apply Ar|apply Ax|apply Az|apply Bh|apply A6|apply Ah);· first|with_reducible rfl|(simp (disch:=omega) only [f0,b1]<;>with_reducible rfl))
   |((with_reducible first|apply Ao|apply Ak);· first|with_reducible rfl|omega|(simp (disch:=omega) only [gT,f0,b1]<;>omega))
   |(with_reducible apply Al;· first|with_reducible rfl|(simp (disch:=omega) only [gF,f0,b1]<;>omega))
  try simp (disch:=omega) only [f0,b1]
  all_goals rfl
 have b1:(r.fmt==0)=false:=by simp [h1]
 rw [A3 h1];by_cases h2:r.fmt=1
 ·have b2:(r.fmt==1)=true:=by simp [h2]
  rw [Bk h2];have ds:=Ab8 (fu:=fu) (d:=d+14) hfu hr.sg;unfold Ase;by_cases h1:r.certs.length>0
  ·rw [Bk h1]
   try unfold Aa
   repeat first
    |((with_reducible first|apply Ap|apply Ag|apply Am|apply Ar|apply Ax|apply Az|apply Bh|apply A6|apply Ah);· first|with_reducible rfl|(simp (disch:=omega) only [f0,b1,b2]<;>with_reducible rfl))
    |((with_reducible first|apply Ao|apply Ak);· first|with_reducible rfl|omega|(simp (disch:=omega) only [gT,f0,b1,b2]<;>omega))
    |(with_reducible apply Al;· first|with_reducible rfl|(simp (disch:=omega) only [gF,f0,b1,b2]<;>omega))
   try simp (disch:=omega) only [f0,b1,b2]
   all_goals rfl
  rw [A3 h1];cases hs:sgD r.sg with
  |none=>
   rw [hs] at ds;simp only [Q8,Sg.owned] at ds;have e20:((2:Int) != 0)=true:=rfl
   try unfold Aa
   repeat first
    |((with_reducible first|apply Ap|apply Ag|apply Am|apply Ar|apply Ax|apply Az|apply Bh|apply A6|apply Ah);· first|with_reducible rfl|(simp (disch:=omega) only [f0,b1,b2,ds,e20]<;>with_reducible rfl))
    |((with_reducible first|apply Ao|apply Ak);· first|with_reducible rfl|omega|(simp (disch:=omega) only [gT,f0,b1,b2,ds,e20]<;>omega))
    |(with_reducible apply Al;· first|with_reducible rfl|(simp (disch:=omega) only [gF,f0,b1,b2,ds,e20]<;>omega))
   try simp (disch:=omega) only [f0,b1,b2,ds,e20]
   all_goals rfl
  |some s=>
   rw [hs] at ds;simp only [Q8,Sg.owned] at ds;have e00:((0:Int) != 0)=false:=rfl;have vr:=Acl (fu:=fu) (d:=d+9) hfu a.key w s;simp only [Ky.cells,Sg.cells] at vr;have Lc:=As .u64 s.chains;have Lp:=As .u64 s.path;have tc:=G4 .u64 s.chains;have tp:=G4 .u64 s.path;simp only;by_cases hv:Jj a.key w s=0
   ·have v0:(Jj a.key w s != 0)=false:=by simp [hv]
    rw [A3 (by simp [hv])]
    try unfold Aa
    repeat first
     |((with_reducible first|apply Ap|apply Ag|apply Am|apply Ar|apply Ax|apply Az|apply Bh|apply A6|apply Ah);· first|with_reducible rfl|(simp (disch:=omega) only [f0,b1,b2,ds,e00,Cm,B4,Bl,Lc,Lp,tc,tp,vr,v0]<;>with_reducible rfl))
     |((with_reducible first|apply Ao|apply Ak);· first|with_reducible rfl|omega|(simp (disch:=omega) only [gT,f0,b1,b2,ds,e00,Cm,B4,Bl,Lc,Lp,tc,tp,vr,v0]<;>omega))
     |(with_reducible apply Al;· first|with_reducible rfl|(simp (disch:=omega) only [gF,f0,b1,b2,ds,e00,Cm,B4,Bl,Lc,Lp,tc,tp,vr,v0]<;>omega))
    try simp (disch:=omega) only [f0,b1,b2,ds,e00,Cm,B4,Bl,Lc,Lp,tc,tp,vr,v0]
    all_goals rfl
   ·have v0:(Jj a.key w s != 0)=true:=by simp [hv]
    rw [Bk hv]
    try unfold Aa
    repeat first
     |((with_reducible first|apply Ap|apply Ag|apply Am|apply Ar|apply Ax|apply Az|apply Bh|apply A6|apply Ah);· first|with_reducible rfl|(simp (disch:=omega) only [f0,b1,b2,ds,e00,Cm,B4,Bl,Lc,Lp,tc,tp,vr,v0]<;>with_reducible rfl))
     |((with_reducible first|apply Ao|apply Ak);· first|with_reducible rfl|omega|(simp (disch:=omega) only [gT,f0,b1,b2,ds,e00,Cm,B4,Bl,Lc,Lp,tc,tp,vr,v0]<;>omega))
     |(with_reducible apply Al;· first|with_reducible rfl|(simp (disch:=omega) only [gF,f0,b1,b2,ds,e00,Cm,B4,Bl,Lc,Lp,tc,tp,vr,v0]<;>omega))
    try simp (disch:=omega) only [f0,b1,b2,ds,e00,Cm,B4,Bl,Lc,Lp,tc,tp,vr,v0]
    all_goals rfl
 have b2:(r.fmt==1)=false:=by simp [h2]
 rw [A3 h2];by_cases h3:r.fmt=2
 ·have b3:(r.fmt==2)=true:=by simp [h3]
  rw [Bk h3]
  try unfold Aa
  repeat first
   |((with_reducible first|apply Ap|apply Ag|apply Am|apply Ar|apply Ax|apply Az|apply Bh|apply A6|apply Ah);· first|with_reducible rfl|(simp (disch:=omega) only [f0,b1,b2,b3,bt]<;>with_reducible rfl))
   |((with_reducible first|apply Ao|apply Ak);· first|with_reducible rfl|omega|(simp (disch:=omega) only [gT,f0,b1,b2,b3,bt]<;>omega))
   |(with_reducible apply Al;· first|with_reducible rfl|(simp (disch:=omega) only [gF,f0,b1,b2,b3,bt]<;>omega))
  try simp (disch:=omega) only [f0,b1,b2,b3,bt]
  all_goals rfl
 have b3:(r.fmt==2)=false:=by simp [h3]
 rw [A3 h3]
 try unfold Aa
 repeat first
  |((with_reducible first|apply Ap|apply Ag|apply Am|apply Ar|apply Ax|apply Az|apply Bh|apply A6|apply Ah);· first|with_reducible rfl|(simp (disch:=omega) only [f0,b1,b2,b3]<;>with_reducible rfl))
  |((with_reducible first|apply Ao|apply Ak);· first|with_reducible rfl|omega|(simp (disch:=omega) only [gT,f0,b1,b2,b3]<;>omega))
  |(with_reducible apply Al;· first|with_reducible rfl|(simp (disch:=omega) only [gF,f0,b1,b2,b3]<;>omega))
 try simp (disch:=omega) only [f0,b1,b2,b3]
 all_goals rfl
end
end
section
set_option maxRecDepth 100000
abbrev S9:FuncId:=11
theorem Adf (fu d:Nat)(a0 a1:Int):Ae C0 Tryz.prog fu (d+1) S9 [.sc (.int .i64 a0),.sc (.int .i64 a1)]=(fun (call:Aq)=>Aa (IntKind.wrap .u64 a0) fun x1=>Aa (IntKind.wrap .u64 a1) fun x2=>Ay (decide (x2≠0))<|Aa (Int.tmod x1 x2) fun x3=>Aa (IntKind.wrap .i64 x3) fun x4=>some (A0.mk [.sc (.int .i64 x4)] [])) (Ae C0 Tryz.prog fu d):=by kernel_rfl
end
section
theorem A1x (v n:Int)(hn:0<n)(hm:n<=9223372036854775807):∃r,0<=r∧r<n∧∀{fu d:Nat},Ae C0 Tryz.prog fu (d+1) S9 [.sc (.int .i64 v),.sc (.int .i64 n)]=some ⟨[.sc (.int .i64 r)],[]⟩:=by
 have h1:=Mc v;have h2:IntKind.wrap .u64 n=n:=B7 (by omega) (by omega)
 have h3:0<=Int.tmod (IntKind.wrap .u64 v) n:=Int.tmod_nonneg _ h1.1;have h4:Int.tmod (IntKind.wrap .u64 v) n<n:=Int.tmod_lt_of_pos _ hn;refine ⟨_,h3,h4,fun {fu d}=>?_⟩
 rw [Adf];simp only [Hw,h2];rw [Zt _ _ (by omega),Au (by omega) (by omega)]
end
section
set_option maxRecDepth 100000
abbrev S1:FuncId:=16
theorem Adu (fu d:Nat)(a0 a1:Int):Ae C0 Tryz.prog fu (d+1) S1 [.sc (.int .u64 a0),.sc (.int .i64 a1)]=(fun (call:Aq)=>Aj (call 34 [.sc (.int .u64 a0),.sc (.int .i64 a1)]) fun x1 x2=>Ac x2<|Ab x1 fun x3 x4=>C3 x3 fun x5=>Ab x5 fun x6 x7=>Af .i64 x6 fun x8=>Ab x7 fun x9 Cj=>Af .u64 x9 fun Bp=>Ac Cj<|Ab x4 fun Cz C9=>Af .i64 Cz fun Cq=>Ac C9<|some (A0.mk [.agg [.sc (.int .i64 x8),.sc (.int .u64 Bp)]] [])) (Ae C0 Tryz.prog fu d):=by kernel_rfl
abbrev Ha:FuncId:=25
theorem Aaz (fu d:Nat)(a0 a1:Int):Ae C0 Tryz.prog fu (d+1) Ha [.sc (.int .i64 a0),.sc (.int .i64 a1)]=(fun (call:Aq)=>Aa (IntKind.wrap .u64 a0) fun x1=>Aa (IntKind.wrap .u64 (x1+1)) fun x2=>Aa (if 1024<a1 then 1024 else a1) fun x3=>Aa (if x3<0 then 0 else x3) fun x4=>Aj (call 52 [.sc (.int .u64 x2),.sc (.int .u64 7),.sc (.int .i64 x4)]) fun x5 x6=>Ac x6<|Ab x5 fun x7 x8=>Dp 1 x7 fun x9 Cj=>Ac x8<|Ay (decide (x9*1<=List.length Cj))<|some (A0.mk [.own 1 x9 (List.take (x9*1) Cj)] [])) (Ae C0 Tryz.prog fu d):=by kernel_rfl
abbrev Ka:FuncId:=23
theorem Tx (fu d:Nat)(a0 a1:Int)(a2:Bool):Ae C0 Tryz.prog fu (d+1) Ka [.sc (.int .i64 a0),.sc (.int .i64 a1),.sc (.bool a2)]=(fun (call:Aq)=>Aa (IntKind.wrap .u64 a0) fun x1=>Aa (IntKind.wrap .u64 (1000+x1)) fun x2=>Aa (IntKind.wrap .i64 (500+a0)) fun x3=>Aj (call 25 [.sc (.int .i64 x3),.sc (.int .i64 176)]) fun x4 x5=>Ac x5<|Ab x4 fun x6 x7=>Dp 1 x6 fun x8 x9=>Ac x7<|Ay (decide (x8*1<=List.length x9))<|some (A0.mk [.agg [.sc (.int .u64 x2),.sc (.int .i64 a1),.own 1 x8 (List.take (x8*1) x9),.sc (.bool a2)]] [])) (Ae C0 Tryz.prog fu d):=by kernel_rfl
abbrev J6:FuncId:=49
theorem T0 (fu d:Nat)(a0_0 a0_1:Int)(a0_2n:Nat)(a0_2:List PV)(a0_3 a1:Bool):Ae C0 Tryz.prog fu (d+1) J6 [.agg [.sc (.int .u64 a0_0),.sc (.int .i64 a0_1),.lst false 1 a0_2n a0_2,.sc (.bool a0_3)],.sc (.bool a1)]=(fun (call:Aq)=>A4 (a1) (A4 (a0_3) (some (A0.mk [.sc (.int .i64 13)] [])) (some (A0.mk [.sc (.int .i64 5)] []))) (A4 (a0_3) (some (A0.mk [.sc (.int .i64 9)] [])) (some (A0.mk [.sc (.int .i64 1)] [])))) (Ae C0 Tryz.prog fu d):=by kernel_rfl
abbrev P2:FuncId:=51
theorem Aal (fu d:Nat):Ae C0 Tryz.prog fu (d+1) P2 []=(fun (call:Aq)=>Aj (call 16 [.sc (.int .u64 33),.sc (.int .i64 4)]) fun x1 x2=>Ac x2<|Ab x1 fun x3 x4=>C3 x3 fun x5=>Ab x5 fun x6 x7=>Af .i64 x6 fun x8=>Ab x7 fun x9 Cj=>Af .u64 x9 fun Bp=>Ac Cj<|Ac x4<|Aj (call 78 [.agg [.sc (.string (ByteArray.mk #[98,97,116,99,104])),.sc (.string (ByteArray.mk #[114,111,111,116])),.sc (.int .u64 1),.sc (.int .i64 x8),.sc (.int .u64 Bp),.sc (.int .i64 0),.sc (.int .i64 900),.sc (.bool false),.sc (.int .i64 0),.sc (.int .u64 3),.sc (.int .i64 0),.lst false 1 0 [],.lst false 1 0 []],.sc (.int .u64 32),.sc (.int .i64 1),.sc (.int .i64 0)]) fun Cz C9=>Ac C9<|Ab Cz fun Cq C8=>C3 Cq fun Dh=>Ab Dh fun Dt D6=>Cn Dt fun D1=>Ab D6 fun Ee Fq=>Cn Ee fun Cl=>Ab Fq fun Fy Dn=>Af .u64 Fy fun B3=>Ab Dn fun Ew F4=>Af .i64 Ew fun Bm=>Ab F4 fun Ci Gx=>Af .u64 Ci fun G2=>Ab Gx fun Ib Hz=>Af .i64 Ib fun I4=>Ab Hz fun G8 I5=>Af .i64 G8 fun Ls=>Ab I5 fun F5 Il=>Bw F5 fun Pc=>Ab Il fun Qi Ke=>Af .i64 Qi fun Kf=>Ab Ke fun Ph Mw=>Af .u64 Ph fun Pi=>Ab Mw fun Ps Qx=>Af .i64 Ps fun Pd=>Ab Qx fun Qk Q3=>Iz 1 Qk fun Q4 Kx Sk=>Ab Q3 fun Qw Sx=>Iz 1 Qw fun Ow Qu R5=>Ac Sx<|Ab C8 fun S3 Qm=>Af .i64 S3 fun Tw=>Ac Qm<|Aj (call 44 [.agg [.sc (.string D1),.sc (.string Cl),.sc (.int .u64 B3),.sc (.int .i64 Bm),.sc (.int .u64 G2),.sc (.int .i64 I4),.sc (.int .i64 Ls),.sc (.bool Pc),.sc (.int .i64 Kf),.sc (.int .u64 Pi),.sc (.int .i64 Pd),.lst false 1 Kx Sk,.lst false 1 Qu R5]]) fun Vs Sy=>Ac Sy<|Ab Vs fun Su Sf=>Dp 1 Su fun Sa Wo=>Ab Sf fun Tf Td=>Af .i64 Tf fun Th=>Ac Td<|Ay (decide (0+Sa*1<=List.length Wo))<|some (A0.mk [.own 1 1 [.lst false 1 Sa (List.take (Sa*1) (List.drop 0 Wo))]] [])) (Ae C0 Tryz.prog fu d):=by kernel_rfl
abbrev Nc:FuncId:=80
theorem Xf (fu d:Nat)(a0 a1 a2:Int):Ae C0 Tryz.prog fu (d+1) Nc [.sc (.int .i64 a0),.sc (.int .i64 a1),.sc (.int .i64 a2)]=(fun (call:Aq)=>A4 (decide (a0>=a1)) (some (A0.mk [.sc (.bool (decide (a0<=a2)))] [])) (some (A0.mk [.sc (.bool false)] []))) (Ae C0 Tryz.prog fu d):=by kernel_rfl
abbrev M6:FuncId:=48
theorem Xw (fu d:Nat)(a0:ByteArray):Ae C0 Tryz.prog fu (d+1) M6 [.sc (.string a0)]=(fun (call:Aq)=>Ay (decide (ByteArray.size a0<=1099511627776))<|Ay (decide (0+ByteArray.size a0*1<=List.length (Ct a0)))<|Aj (call 46 [.sc (.int .i64 9),.lst false 1 (ByteArray.size a0) (List.take (ByteArray.size a0*1) (List.drop 0 (Ct a0)))]) fun x1 x2=>Ac x2<|Ab x1 fun x3 x4=>Af .u64 x3 fun x5=>Ac x4<|some (A0.mk [.sc (.int .u64 x5)] [])) (Ae C0 Tryz.prog fu d):=by kernel_rfl
abbrev Ix:FuncId:=54
theorem Qt (fu d:Nat)(a0_0 a0_1:Int)(a0_2 a0_3 a0_4:Int)(W5:Nat)(a0_5:List PV)(a0_6 a0_7:Int):Ae C0 Tryz.prog fu (d+1) Ix [.agg [.sc (.int .u64 a0_0),.sc (.int .i64 a0_1),.sc (.int .i64 a0_2),.sc (.int .i64 a0_3),.sc (.int .u64 a0_4),.lst false 1 W5 a0_5,.sc (.int .i64 a0_6),.sc (.int .u64 a0_7)]]=(fun (call:Aq)=>Aa (Apm .i64 a0_1 93) fun x1=>A4 (x1 != 0) (some (A0.mk [.sc (.int .i64 9)] [])) (Aj (call 80 [.sc (.int .i64 a0_2),.sc (.int .i64 0),.sc (.int .i64 16)]) fun x2 x3=>Ac x3<|Ab x2 fun x4 x5=>Bw x4 fun x6=>Ac x5<|A4 (!x6) (some (A0.mk [.sc (.int .i64 9)] [])) (Aj (call 80 [.sc (.int .i64 a0_3),.sc (.int .i64 0),.sc (.int .i64 15)]) fun x7 x8=>Ac x8<|Ab x7 fun x9 Cj=>Bw x9 fun Bp=>Ac Cj<|A4 (!Bp) (some (A0.mk [.sc (.int .i64 9)] [])) (Aa (Ez .i64 a0_1 16) fun Cz=>A4 (Cz != 0) (Aa (Ez .i64 a0_1 8) fun C9=>A4 (C9==0) (some (A0.mk [.sc (.int .i64 18)] [])) (Aa (Ez .i64 a0_1 64) fun Cq=>A4 (Cq==0) (A4 (a0_4 != 0) (some (A0.mk [.sc (.int .i64 4)] [])) (A4 (decide ((↑W5:Int)>0)) (some (A0.mk [.sc (.int .i64 4)] [])) (A4 (!(a0_6==0&&(a0_7==0&&true))) (some (A0.mk [.sc (.int .i64 4)] [])) (some (A0.mk [.sc (.int .i64 0)] []))))) (A4 ((↑W5:Int) != 176) (some (A0.mk [.sc (.int .i64 4)] [])) (Aj (call 68 [.agg [.sc (.int .i64 a0_6),.sc (.int .u64 a0_7)]]) fun C8 Dh=>Ac Dh<|Ab C8 fun Dt D6=>Dp 1 Dt fun D1 Ee=>Ab D6 fun Fq Cl=>Af .i64 Fq fun Fy=>Ac Cl<|some (A0.mk [.sc (.int .i64 Fy)] []))))) (Aa (Ez .i64 a0_1 64) fun Dn=>A4 (Dn==0) (A4 (a0_4 != 0) (some (A0.mk [.sc (.int .i64 4)] [])) (A4 (decide ((↑W5:Int)>0)) (some (A0.mk [.sc (.int .i64 4)] [])) (A4 (!(a0_6==0&&(a0_7==0&&true))) (some (A0.mk [.sc (.int .i64 4)] [])) (some (A0.mk [.sc (.int .i64 0)] []))))) (A4 ((↑W5:Int) != 176) (some (A0.mk [.sc (.int .i64 4)] [])) (Aj (call 68 [.agg [.sc (.int .i64 a0_6),.sc (.int .u64 a0_7)]]) fun B3 Ew=>Ac Ew<|Ab B3 fun F4 Bm=>Dp 1 F4 fun Ci Gx=>Ab Bm fun G2 Ib=>Af .i64 G2 fun Hz=>Ac Ib<|some (A0.mk [.sc (.int .i64 Hz)] [])))))))) (Ae C0 Tryz.prog fu d):=by kernel_rfl
abbrev Jq:FuncId:=50
theorem Sm (fu d:Nat)(a0_0 a0_1:Int)(a0_2 a0_3 a0_4:Int)(W5:Nat)(a0_5:List PV)(a0_6 a0_7:Int):Ae C0 Tryz.prog fu (d+1) Jq [.agg [.sc (.int .u64 a0_0),.sc (.int .i64 a0_1),.sc (.int .i64 a0_2),.sc (.int .i64 a0_3),.sc (.int .u64 a0_4),.lst false 1 W5 a0_5,.sc (.int .i64 a0_6),.sc (.int .u64 a0_7)]]=(fun (call:Aq)=>Aj (call 54 [.agg [.sc (.int .u64 a0_0),.sc (.int .i64 a0_1),.sc (.int .i64 a0_2),.sc (.int .i64 a0_3),.sc (.int .u64 a0_4),.lst false 1 W5 a0_5,.sc (.int .i64 a0_6),.sc (.int .u64 a0_7)]]) fun x1 x2=>Ac x2<|Ab x1 fun x3 x4=>Af .i64 x3 fun x5=>Ac x4<|A4 (x5 != 0) (some (A0.mk [.own 1 0 [],.sc (.int .i64 x5)] [])) (Aj (call 38 [.lst false 1 1 [.sc (.int .u64 a0_0)]]) fun x6 x7=>Ac x7<|Ab x6 fun x8 x9=>Dp 1 x8 fun Cj Bp=>Ac x9<|Aa (IntKind.wrap .u8 a0_1) fun Cz=>Aa (IntKind.wrap .u8 a0_2) fun C9=>Aa (IntKind.wrap .u8 a0_3) fun Cq=>Ay (decide (Cj*1<=List.length Bp)&&true&&decide ((Cj+3)*1<=1099511627776)&&decide (Cj+3<=1099511627776))<|Aa (Cj+3) fun C8=>Aa (List.take (Cj*1) Bp++[.sc (.int .u8 Cz),.sc (.int .u8 C9),.sc (.int .u8 Cq)]) fun Dh=>Aa (Ez .i64 a0_1 64) fun Dt=>A4 (Dt != 0) (Aj (call 68 [.agg [.sc (.int .i64 a0_6),.sc (.int .u64 a0_7)]]) fun D6 D1=>Ac D1<|Ab D6 fun Ee Fq=>Dp 1 Ee fun Cl Fy=>Ab Fq fun Dn B3=>Af .i64 Dn fun Ew=>Ac B3<|Aj (call 38 [.lst false 1 1 [.sc (.int .u64 a0_4)]]) fun F4 Bm=>Ac Bm<|Ab F4 fun Ci Gx=>Dp 1 Ci fun G2 Ib=>Ac Gx<|Ay (decide (0+G2*1<=List.length Ib))<|Ay (decide (C8*1<=List.length Dh)&&decide (List.length (List.take (G2*1) (List.drop 0 Ib))=G2*1)&&decide ((C8+G2)*1<=1099511627776)&&decide (C8+G2<=1099511627776))<|Aa (C8+G2) fun Hz=>Aa (List.take (C8*1) Dh++List.take (G2*1) (List.drop 0 Ib)) fun I4=>Ay (decide (Hz*1<=List.length I4)&&decide (List.length a0_5=W5*1)&&decide ((Hz+W5)*1<=1099511627776)&&decide (Hz+W5<=1099511627776))<|Aa (Hz+W5) fun G8=>Aa (List.take (Hz*1) I4++a0_5) fun I5=>Ay (decide (0+Cl*1<=List.length Fy))<|Ay (decide (G8*1<=List.length I5)&&decide (List.length (List.take (Cl*1) (List.drop 0 Fy))=Cl*1)&&decide ((G8+Cl)*1<=1099511627776)&&decide (G8+Cl<=1099511627776))<|Aa (G8+Cl) fun Ls=>Aa (List.take (G8*1) I5++List.take (Cl*1) (List.drop 0 Fy)) fun F5=>Ay (decide (Ls*1<=List.length F5))<|some (A0.mk [.own 1 Ls (List.take (Ls*1) F5),.sc (.int .i64 0)] [])) (Ay (decide (C8*1<=List.length Dh))<|some (A0.mk [.own 1 C8 (List.take (C8*1) Dh),.sc (.int .i64 0)] [])))) (Ae C0 Tryz.prog fu d):=by kernel_rfl
abbrev Jt:FuncId:=26
theorem Sw (fu d a0n:Nat)(a0:List PV):Ae C0 Tryz.prog fu (d+1) Jt [.lst false 1 a0n a0]=(fun (call:Aq)=>A4 ((↑a0n:Int) != 11) (A4 ((↑a0n:Int) != 204) (some (A0.mk [.agg [.sc (.int .u64 0),.sc (.int .i64 0),.sc (.int .i64 0),.sc (.int .i64 0),.sc (.int .u64 0),.lst false 1 0 [],.sc (.int .i64 0),.sc (.int .u64 0)],.sc (.int .i64 2)] [])) (Ay (decide (8<=a0n))<|Aa (List.take 8 (List.drop 0 a0)) fun x1=>Aj (call 53 [.lst false 1 8 x1]) fun x2 x3=>Ac x3<|Ab x2 fun x4 x5=>Af .u64 x4 fun x6=>Ac x5<|Ay (decide (8<(↑a0n:Int)))<|Af .u8 (List.getD a0 8 .top) fun x7=>Aa (IntKind.wrap .i64 x7) fun x8=>Ay (decide (9<(↑a0n:Int)))<|Af .u8 (List.getD a0 9 .top) fun x9=>Aa (IntKind.wrap .i64 x9) fun Cj=>Ay (decide (10<(↑a0n:Int)))<|Af .u8 (List.getD a0 10 .top) fun Bp=>Aa (IntKind.wrap .i64 Bp) fun Cz=>A4 (decide ((↑a0n:Int)>11)) (Ay (decide (195<=a0n)&&decide (a0n<=a0n))<|Aa (a0n-195) fun C9=>Aa (List.take (C9*1) (List.drop 195 a0)) fun Cq=>Aj (call 43 [.lst false 1 C9 Cq]) fun C8 Dh=>Ac Dh<|Ab C8 fun Dt D6=>C3 Dt fun D1=>Ab D1 fun Ee Fq=>Af .i64 Ee fun Cl=>Ab Fq fun Fy Dn=>Af .u64 Fy fun B3=>Ac Dn<|Ab D6 fun Ew F4=>Af .i64 Ew fun Bm=>Ac F4<|A4 (Bm != 0) (some (A0.mk [.agg [.sc (.int .u64 0),.sc (.int .i64 0),.sc (.int .i64 0),.sc (.int .i64 0),.sc (.int .u64 0),.lst false 1 0 [],.sc (.int .i64 0),.sc (.int .u64 0)],.sc (.int .i64 2)] [])) (Ay (decide (19<=a0n))<|Aa (List.take 8 (List.drop 11 a0)) fun Ci=>Aj (call 53 [.lst false 1 8 Ci]) fun Gx G2=>Ac G2<|Ab Gx fun Ib Hz=>Af .u64 Ib fun I4=>Ac Hz<|Ay (decide (195<=a0n))<|Aa (List.take 176 (List.drop 19 a0)) fun G8=>Ay (decide (List.length G8=176)&&true&&true)<|Ay (decide (176<=List.length G8))<|Aj (call 54 [.agg [.sc (.int .u64 x6),.sc (.int .i64 x8),.sc (.int .i64 Cj),.sc (.int .i64 Cz),.sc (.int .u64 I4),.lst false 1 176 (List.take 176 (List.drop 0 G8)),.sc (.int .i64 Cl),.sc (.int .u64 B3)]]) fun I5 Ls=>Ac Ls<|Ab I5 fun F5 Il=>Af .i64 F5 fun Pc=>Ac Il<|A4 (Pc != 0) (some (A0.mk [.agg [.sc (.int .u64 0),.sc (.int .i64 0),.sc (.int .i64 0),.sc (.int .i64 0),.sc (.int .u64 0),.lst false 1 0 [],.sc (.int .i64 0),.sc (.int .u64 0)],.sc (.int .i64 2)] [])) (Aa (Ez .i64 x8 64) fun Qi=>A4 (!decide ((↑a0n:Int)>11)==(Qi != 0)) (some (A0.mk [.agg [.sc (.int .u64 0),.sc (.int .i64 0),.sc (.int .i64 0),.sc (.int .i64 0),.sc (.int .u64 0),.lst false 1 0 [],.sc (.int .i64 0),.sc (.int .u64 0)],.sc (.int .i64 2)] [])) (Ay (decide (176<=List.length G8))<|some (A0.mk [.agg [.sc (.int .u64 x6),.sc (.int .i64 x8),.sc (.int .i64 Cj),.sc (.int .i64 Cz),.sc (.int .u64 I4),.lst false 1 176 (List.take 176 (List.drop 0 G8)),.sc (.int .i64 Cl),.sc (.int .u64 B3)],.sc (.int .i64 0)] []))))) (Aj (call 54 [.agg [.sc (.int .u64 x6),.sc (.int .i64 x8),.sc (.int .i64 Cj),.sc (.int .i64 Cz),.sc (.int .u64 0),.lst false 1 0 [],.sc (.int .i64 0),.sc (.int .u64 0)]]) fun Ke Kf=>Ac Kf<|Ab Ke fun Ph Mw=>Af .i64 Ph fun Pi=>Ac Mw<|A4 (Pi != 0) (some (A0.mk [.agg [.sc (.int .u64 0),.sc (.int .i64 0),.sc (.int .i64 0),.sc (.int .i64 0),.sc (.int .u64 0),.lst false 1 0 [],.sc (.int .i64 0),.sc (.int .u64 0)],.sc (.int .i64 2)] [])) (Aa (Ez .i64 x8 64) fun Ps=>A4 (!decide ((↑a0n:Int)>11)==(Ps != 0)) (some (A0.mk [.agg [.sc (.int .u64 0),.sc (.int .i64 0),.sc (.int .i64 0),.sc (.int .i64 0),.sc (.int .u64 0),.lst false 1 0 [],.sc (.int .i64 0),.sc (.int .u64 0)],.sc (.int .i64 2)] [])) (some (A0.mk [.agg [.sc (.int .u64 x6),.sc (.int .i64 x8),.sc (.int .i64 Cj),.sc (.int .i64 Cz),.sc (.int .u64 0),.lst false 1 0 [],.sc (.int .i64 0),.sc (.int .u64 0)],.sc (.int .i64 0)] [])))))) (Ay (decide (8<=a0n))<|Aa (List.take 8 (List.drop 0 a0)) fun Qx=>Aj (call 53 [.lst false 1 8 Qx]) fun Pd Qk=>Ac Qk<|Ab Pd fun Q3 Q4=>Af .u64 Q3 fun Kx=>Ac Q4<|Ay (decide (8<(↑a0n:Int)))<|Af .u8 (List.getD a0 8 .top) fun Sk=>Aa (IntKind.wrap .i64 Sk) fun Qw=>Ay (decide (9<(↑a0n:Int)))<|Af .u8 (List.getD a0 9 .top) fun Sx=>Aa (IntKind.wrap .i64 Sx) fun Ow=>Ay (decide (10<(↑a0n:Int)))<|Af .u8 (List.getD a0 10 .top) fun Qu=>Aa (IntKind.wrap .i64 Qu) fun R5=>A4 (decide ((↑a0n:Int)>11)) (Ay (decide (195<=a0n)&&decide (a0n<=a0n))<|Aa (a0n-195) fun S3=>Aa (List.take (S3*1) (List.drop 195 a0)) fun Qm=>Aj (call 43 [.lst false 1 S3 Qm]) fun Tw Vs=>Ac Vs<|Ab Tw fun Sy Su=>C3 Sy fun Sf=>Ab Sf fun Sa Wo=>Af .i64 Sa fun Tf=>Ab Wo fun Td Th=>Af .u64 Td fun Vh=>Ac Th<|Ab Su fun Uh Tc=>Af .i64 Uh fun So=>Ac Tc<|A4 (So != 0) (some (A0.mk [.agg [.sc (.int .u64 0),.sc (.int .i64 0),.sc (.int .i64 0),.sc (.int .i64 0),.sc (.int .u64 0),.lst false 1 0 [],.sc (.int .i64 0),.sc (.int .u64 0)],.sc (.int .i64 2)] [])) (Ay (decide (19<=a0n))<|Aa (List.take 8 (List.drop 11 a0)) fun Vr=>Aj (call 53 [.lst false 1 8 Vr]) fun Uk V2=>Ac V2<|Ab Uk fun Xu Xa=>Af .u64 Xu fun x81=>Ac Xa<|Ay (decide (195<=a0n))<|Aa (List.take 176 (List.drop 19 a0)) fun X3=>Ay (decide (List.length X3=176)&&true&&true)<|Ay (decide (176<=List.length X3))<|Aj (call 54 [.agg [.sc (.int .u64 Kx),.sc (.int .i64 Qw),.sc (.int .i64 Ow),.sc (.int .i64 R5),.sc (.int .u64 x81),.lst false 1 176 (List.take 176 (List.drop 0 X3)),.sc (.int .i64 Tf),.sc (.int .u64 Vh)]]) fun X4 Xo=>Ac Xo<|Ab X4 fun x85 x86=>Af .i64 x85 fun x87=>Ac x86<|A4 (x87 != 0) (some (A0.mk [.agg [.sc (.int .u64 0),.sc (.int .i64 0),.sc (.int .i64 0),.sc (.int .i64 0),.sc (.int .u64 0),.lst false 1 0 [],.sc (.int .i64 0),.sc (.int .u64 0)],.sc (.int .i64 2)] [])) (Aa (Ez .i64 Qw 64) fun Ro=>A4 (!decide ((↑a0n:Int)>11)==(Ro != 0)) (some (A0.mk [.agg [.sc (.int .u64 0),.sc (.int .i64 0),.sc (.int .i64 0),.sc (.int .i64 0),.sc (.int .u64 0),.lst false 1 0 [],.sc (.int .i64 0),.sc (.int .u64 0)],.sc (.int .i64 2)] [])) (Ay (decide (176<=List.length X3))<|some (A0.mk [.agg [.sc (.int .u64 Kx),.sc (.int .i64 Qw),.sc (.int .i64 Ow),.sc (.int .i64 R5),.sc (.int .u64 x81),.lst false 1 176 (List.take 176 (List.drop 0 X3)),.sc (.int .i64 Tf),.sc (.int .u64 Vh)],.sc (.int .i64 0)] []))))) (Aj (call 54 [.agg [.sc (.int .u64 Kx),.sc (.int .i64 Qw),.sc (.int .i64 Ow),.sc (.int .i64 R5),.sc (.int .u64 0),.lst false 1 0 [],.sc (.int .i64 0),.sc (.int .u64 0)]]) fun Uf Uo=>Ac Uo<|Ab Uf fun x91 x92=>Af .i64 x91 fun x93=>Ac x92<|A4 (x93 != 0) (some (A0.mk [.agg [.sc (.int .u64 0),.sc (.int .i64 0),.sc (.int .i64 0),.sc (.int .i64 0),.sc (.int .u64 0),.lst false 1 0 [],.sc (.int .i64 0),.sc (.int .u64 0)],.sc (.int .i64 2)] [])) (Aa (Ez .i64 Qw 64) fun x94=>A4 (!decide ((↑a0n:Int)>11)==(x94 != 0)) (some (A0.mk [.agg [.sc (.int .u64 0),.sc (.int .i64 0),.sc (.int .i64 0),.sc (.int .i64 0),.sc (.int .u64 0),.lst false 1 0 [],.sc (.int .i64 0),.sc (.int .u64 0)],.sc (.int .i64 2)] [])) (some (A0.mk [.agg [.sc (.int .u64 Kx),.sc (.int .i64 Qw),.sc (.int .i64 Ow),.sc (.int .i64 R5),.sc (.int .u64 0),.lst false 1 0 [],.sc (.int .i64 0),.sc (.int .u64 0)],.sc (.int .i64 0)] [])))))) (Ae C0 Tryz.prog fu d):=by kernel_rfl
abbrev Ma:FuncId:=27
theorem W2 (fu d a0n:Nat)(a0:List PV)(a1:Int):Ae C0 Tryz.prog fu (d+1) Ma [.lst false 1 a0n a0,.sc (.int .u64 a1)]=(fun (call:Aq)=>Ay (decide (List.length a0=a0n*1)&&decide (a0n*1<=1099511627776)&&decide (a0n<=1099511627776))<|Aj (call 38 [.lst false 1 1 [.sc (.int .u64 a1)]]) fun x1 x2=>Ac x2<|Ab x1 fun x3 x4=>Dp 1 x3 fun x5 x6=>Ac x4<|Ay (decide (0+x5*1<=List.length x6))<|Ay (decide (a0n*1<=List.length a0)&&decide (List.length (List.take (x5*1) (List.drop 0 x6))=x5*1)&&decide ((a0n+x5)*1<=1099511627776)&&decide (a0n+x5<=1099511627776))<|Aa (a0n+x5) fun x7=>Aa (List.take (a0n*1) a0++List.take (x5*1) (List.drop 0 x6)) fun x8=>Ay (decide (0+x7*1<=List.length x8))<|Aj (call 46 [.sc (.int .i64 13),.lst false 1 x7 (List.take (x7*1) (List.drop 0 x8))]) fun x9 Cj=>Ac Cj<|Ab x9 fun Bp Cz=>Af .u64 Bp fun C9=>Ac Cz<|some (A0.mk [.sc (.int .u64 C9)] [])) (Ae C0 Tryz.prog fu d):=by kernel_rfl
abbrev Kw:FuncId:=28
theorem Vw (fu d:Nat)(a0:ByteArray):Ae C0 Tryz.prog fu (d+1) Kw [.sc (.string a0)]=(fun (call:Aq)=>Ay (decide (ByteArray.size a0<=1099511627776))<|Ay (decide (0+ByteArray.size a0*1<=List.length (Ct a0)))<|Aj (call 46 [.sc (.int .i64 11),.lst false 1 (ByteArray.size a0) (List.take (ByteArray.size a0*1) (List.drop 0 (Ct a0)))]) fun x1 x2=>Ac x2<|Ab x1 fun x3 x4=>Af .u64 x3 fun x5=>Ac x4<|some (A0.mk [.sc (.int .u64 x5)] [])) (Ae C0 Tryz.prog fu d):=by kernel_rfl
abbrev Nf:FuncId:=75
theorem Xl (fu d:Nat)(a0:Int):Ae C0 Tryz.prog fu (d+1) Nf [.sc (.int .i64 a0)]=(fun (call:Aq)=>A4 (a0==1) (some (A0.mk [.sc (.string (ByteArray.mk #[112,97,115,115,107,101,121,46,99,114,101,97,116,101]))] [])) (A4 (a0==2) (some (A0.mk [.sc (.string (ByteArray.mk #[112,97,115,115,107,101,121,46,103,101,116]))] [])) (some (A0.mk [.sc (.string (ByteArray.mk #[]))] [])))) (Ae C0 Tryz.prog fu d):=by kernel_rfl
abbrev Js:FuncId:=77
noncomputable def Dd (fu:Nat)(call:Aq)(a0n:Nat)(a0:List PV)(nn y0:Nat)(y1:List PV)(y2:ByteArray)(y3:Int):Option A0:=Cw C0 Tryz.prog fu call 77 Tryz.f77 (B5 Tryz.f77) [.lst false 1 a0n a0] [.r,.r,.l,.r,.l] nn ⟨lk [(0,(.lst false 1 y0 y1)),(3,(.sc (.string y2))),(4,(.sc (.int .i64 y3)))],Gf []⟩
noncomputable def Co (fu:Nat)(call:Aq)(a0n:Nat)(a0:List PV)(m0 nn y0:Nat)(y1:List PV)(y2:ByteArray)(y3 y4 y5:Int):Option A0:=Cw C0 Tryz.prog fu call 77 Tryz.f77 (B5 Tryz.f77) [.lst false 1 a0n a0] [.r,.r,.l,.r,.l,.i m0,.r,.l,.l,.r,.r,.r,.r,.l] nn ⟨lk [(0,(.lst false 1 y0 y1)),(3,(.sc (.string y2))),(4,(.sc (.int .i64 y3))),(5,(.sc (.int .u64 y4))),(6,(.sc (.int .i64 y5)))],Gf []⟩
theorem F0 (fu:Nat)(call:Aq)(a0n:Nat)(a0:List PV)(nn y0:Nat)(y1:List PV)(y2:ByteArray)(y3:Int):Dd fu call a0n a0 (nn+1) y0 y1 y2 y3=(A4 (decide (y3<(↑y0:Int))) (Ay (decide (0<=y3)&&decide (y3<(↑y0:Int)))<|Af .u8 (List.getD y1 (Int.toNat y3*1) .top) fun x1=>Aa (IntKind.wrap .u64 x1) fun x2=>Aa (Fk .u64 x2 16) fun x3=>Aa (IntKind.wrap .i64 (y3+1)) fun x4=>A4 (decide (x4<(↑y0:Int))) (Aa (IntKind.wrap .i64 (y3+1)) fun x5=>Ay (decide (0<=x5)&&decide (x5<(↑y0:Int)))<|Af .u8 (List.getD y1 (Int.toNat x5*1) .top) fun x6=>Aa (IntKind.wrap .u64 x6) fun x7=>Aa (Fk .u64 x7 8) fun x8=>Aa (Xz .u64 x3 x8) fun x9=>Aa (IntKind.wrap .i64 (y3+2)) fun Cj=>A4 (decide (Cj<(↑y0:Int))) (Aa (IntKind.wrap .i64 (y3+2)) fun Bp=>Ay (decide (0<=Bp)&&decide (Bp<(↑y0:Int)))<|Af .u8 (List.getD y1 (Int.toNat Bp*1) .top) fun Cz=>Aa (IntKind.wrap .u64 Cz) fun C9=>Aa (Xz .u64 x9 C9) fun Cq=>Co fu call a0n a0 nn (fu) (y0) (y1) (y2) (y3) Cq 0) (Co fu call a0n a0 nn (fu) (y0) (y1) (y2) (y3) x9 0)) (Aa (IntKind.wrap .i64 (y3+2)) fun C8=>A4 (decide (C8<(↑y0:Int))) (Aa (IntKind.wrap .i64 (y3+2)) fun Dh=>Ay (decide (0<=Dh)&&decide (Dh<(↑y0:Int)))<|Af .u8 (List.getD y1 (Int.toNat Dh*1) .top) fun Dt=>Aa (IntKind.wrap .u64 Dt) fun D6=>Aa (Xz .u64 x3 D6) fun D1=>Co fu call a0n a0 nn (fu) (y0) (y1) (y2) (y3) D1 0) (Co fu call a0n a0 nn (fu) (y0) (y1) (y2) (y3) x3 0))) (some (A0.mk [.sc (.string y2)] []))):=by kernel_rfl
theorem F2 (fu:Nat)(call:Aq)(a0n:Nat)(a0:List PV)(m0 nn y0:Nat)(y1:List PV)(y2:ByteArray)(y3 y4 y5:Int):Co fu call a0n a0 m0 (nn+1) y0 y1 y2 y3 y4 y5=(A4 (decide (y5<4)) (Aa (IntKind.wrap .i64 ((↑y0:Int)-y3)) fun Ee=>A4 (decide (y5<=Ee)) (Aa (IntKind.wrap .u64 y5) fun Fq=>Aa (IntKind.wrap .u64 (6*Fq)) fun Cl=>Aa (IntKind.wrap .u64 (18-Cl)) fun Fy=>Ay (decide (0<=Fy))<|Aa (El .u64 y4 Fy) fun Dn=>Aa (Ez .u64 Dn 63) fun B3=>Aa (IntKind.wrap .u64 (B3+1)) fun Ew=>Ay (decide (0<=B3))<|Ay (decide (0<=Ew))<|Ay (decide (Int.toNat B3<=Int.toNat Ew)&&decide (Int.toNat Ew<=64))<|Aa (ByteArray.extract (ByteArray.mk #[65,66,67,68,69,70,71,72,73,74,75,76,77,78,79,80,81,82,83,84,85,86,87,88,89,90,97,98,99,100,101,102,103,104,105,106,107,108,109,110,111,112,113,114,115,116,117,118,119,120,121,122,48,49,50,51,52,53,54,55,56,57,45,95]) (Int.toNat B3) (Int.toNat Ew)) fun F4=>Ay (decide (ByteArray.size y2+ByteArray.size F4<=9223372036854775807))<|Aa (y2++F4) fun Bm=>Aa (IntKind.wrap .i64 (y5+1)) fun Ci=>Co fu call a0n a0 m0 (nn) (y0) (y1) Bm (y3) (y4) Ci) (Aa (IntKind.wrap .i64 (y3+3)) fun Gx=>Dd fu call a0n a0 (m0) (y0) (y1) (y2) Gx)) (Aa (IntKind.wrap .i64 (y3+3)) fun G2=>Dd fu call a0n a0 (m0) (y0) (y1) (y2) G2)):=by kernel_rfl
theorem Sr (fu d a0n:Nat)(a0:List PV):Ae C0 Tryz.prog fu (d+1) Js [.lst false 1 a0n a0]=(fun (call:Aq)=>Dd fu call a0n a0 (fu) (a0n) (a0) (ByteArray.mk #[]) 0) (Ae C0 Tryz.prog fu d):=by kernel_rfl
abbrev Jp:FuncId:=47
theorem Si (fu d:Nat)(a0_0:Int)(Xb:Nat)(a0_1:List PV)(a0_2:ByteArray)(a0_3:Bool)(a0_4:ByteArray):Ae C0 Tryz.prog fu (d+1) Jp [.agg [.sc (.int .i64 a0_0),.lst false 1 Xb a0_1,.sc (.string a0_2),.sc (.bool a0_3),.sc (.string a0_4)]]=(fun (call:Aq)=>Aj (call 75 [.sc (.int .i64 a0_0)]) fun x1 x2=>Ac x2<|Ab x1 fun x3 x4=>Cn x3 fun x5=>Ac x4<|A4 (Array.toList (ByteArray.data x5)==Array.toList (ByteArray.data (ByteArray.mk #[]))) (some (A0.mk [.sc (.string (ByteArray.mk #[])),.sc (.int .i64 3)] [])) (A4 (decide ((↑Xb:Int)<1)) (some (A0.mk [.sc (.string (ByteArray.mk #[])),.sc (.int .i64 9)] [])) (A4 (decide ((↑Xb:Int)>64)) (some (A0.mk [.sc (.string (ByteArray.mk #[])),.sc (.int .i64 9)] [])) (Aj (call 76 [.sc (.string a0_2)]) fun x6 x7=>Ac x7<|Ab x6 fun x8 x9=>C3 x8 fun Cj=>Ab Cj fun Bp Cz=>Bw Bp fun C9=>Ab Cz fun Cq C8=>Cn Cq fun Dh=>Ab C8 fun Dt D6=>Af .i64 Dt fun D1=>Ac D6<|Ab x9 fun Ee Fq=>Af .i64 Ee fun Cl=>Ac Fq<|A4 (Cl != 0) (some (A0.mk [.sc (.string (ByteArray.mk #[])),.sc (.int .i64 Cl)] [])) (Aj (call 75 [.sc (.int .i64 a0_0)]) fun Fy Dn=>Ac Dn<|Ab Fy fun B3 Ew=>Cn B3 fun F4=>Ac Ew<|Ay (decide (9+ByteArray.size F4<=9223372036854775807))<|Aa (ByteArray.mk #[123,34,116,121,112,101,34,58,34]++F4) fun Bm=>Ay (decide (ByteArray.size Bm+15<=9223372036854775807))<|Aa (Bm++ByteArray.mk #[34,44,34,99,104,97,108,108,101,110,103,101,34,58,34]) fun Ci=>Aj (call 77 [.lst false 1 Xb a0_1]) fun Gx G2=>Ac G2<|Ab Gx fun Ib Hz=>Cn Ib fun I4=>Ac Hz<|Ay (decide (ByteArray.size Ci+ByteArray.size I4<=9223372036854775807))<|Aa (Ci++I4) fun G8=>Ay (decide (ByteArray.size G8+12<=9223372036854775807))<|Aa (G8++ByteArray.mk #[34,44,34,111,114,105,103,105,110,34,58,34]) fun I5=>Ay (decide (ByteArray.size I5+ByteArray.size a0_2<=9223372036854775807))<|Aa (I5++a0_2) fun Ls=>Ay (decide (ByteArray.size Ls+16<=9223372036854775807))<|Aa (Ls++ByteArray.mk #[34,44,34,99,114,111,115,115,79,114,105,103,105,110,34,58]) fun F5=>A4 (!a0_3) (A4 (!Array.toList (ByteArray.data a0_4)==Array.toList (ByteArray.data (ByteArray.mk #[]))) (some (A0.mk [.sc (.string (ByteArray.mk #[])),.sc (.int .i64 4)] [])) (Ay (decide (ByteArray.size F5+6<=9223372036854775807))<|Aa (F5++ByteArray.mk #[102,97,108,115,101,125]) fun Il=>some (A0.mk [.sc (.string Il),.sc (.int .i64 0)] []))) (Aj (call 76 [.sc (.string a0_4)]) fun Pc Qi=>Ac Qi<|Ab Pc fun Ke Kf=>C3 Ke fun Ph=>Ab Ph fun Mw Pi=>Bw Mw fun Ps=>Ab Pi fun Qx Pd=>Cn Qx fun Qk=>Ab Pd fun Q3 Q4=>Af .i64 Q3 fun Kx=>Ac Q4<|Ab Kf fun Sk Qw=>Af .i64 Sk fun Sx=>Ac Qw<|A4 (Sx != 0) (some (A0.mk [.sc (.string (ByteArray.mk #[])),.sc (.int .i64 Sx)] [])) (Ay (decide (ByteArray.size F5+18<=9223372036854775807))<|Aa (F5++ByteArray.mk #[116,114,117,101,44,34,116,111,112,79,114,105,103,105,110,34,58,34]) fun Ow=>Ay (decide (ByteArray.size Ow+ByteArray.size a0_4<=9223372036854775807))<|Aa (Ow++a0_4) fun Qu=>Ay (decide (ByteArray.size Qu+2<=9223372036854775807))<|Aa (Qu++ByteArray.mk #[34,125]) fun R5=>some (A0.mk [.sc (.string R5),.sc (.int .i64 0)] [])))))))) (Ae C0 Tryz.prog fu d):=by kernel_rfl
abbrev Rg:FuncId:=76
end
section
theorem Z5 {a b:List Int}(ha:Gn a)(hb:Gn b):Gn (a++b):=by
 intro x hx;rcases List.mem_append.1 hx with hx|hx
 ·exact ha x hx
 ·exact hb x hx
section
variable {fu d:Nat}
theorem As5 (hfu:1000<=fu){a0 a1 a2:Int}{key nonce:Int}{n:Nat}(hn:n<=1024):∀(k nn:Nat)(i:Int)(l:List Int),n<=l.length+8*k->k<nn->Gn l->l.length<=2000 ->
  0<=i->i+k<=100000->∃r,Gn r∧r.length=n∧Gk fu (Ae C0 Tryz.prog fu (d+4)) a0 a1 a2 nn key nonce (n:Int) l.length i (Ai .u8 l)=some ⟨[.own 1 n (Ai .u8 r)],[]⟩:=by
 intro k
 induction k with
 |zero=>
  intro nn i l h1 h2 hb hl i0 i1;obtain ⟨m,rfl⟩:∃m,nn=m+1:=⟨nn-1,by omega⟩
  refine ⟨l.take n,hb.take n,by rw [List.length_take];omega,?_⟩
  have L:=As .u8 l;have nt:Int.toNat (n:Int)=n:=G6 _;rw [Hy]
  try unfold Aa
  repeat first
   |((with_reducible first|apply Ap|apply Ag|apply Am|apply Az|apply A6|apply Ah);· first|with_reducible rfl|(simp (disch:=omega) only [L,nt,Nat.sub_zero,Bl,Dz]<;>with_reducible rfl))
   |((with_reducible first|apply Ao|apply Ak);· first|with_reducible rfl|omega|(simp (disch:=omega) only [gT,L,nt,Nat.sub_zero,Bl,Dz]<;>omega))
   |(with_reducible apply Al;· first|with_reducible rfl|(simp (disch:=omega) only [gF,L,nt,Nat.sub_zero,Bl,Dz]<;>omega))
  try simp (disch:=omega) only [L,nt,Nat.sub_zero,Bl,Dz]
 |succ k ih=>
  intro nn i l h1 h2 hb hl i0 i1;obtain ⟨m,rfl⟩:∃m,nn=m+1:=⟨nn-1,by omega⟩
  have L:=As .u8 l;have nt:Int.toNat (n:Int)=n:=G6 _;by_cases hlt:l.length<n
  rotate_left
  ·refine ⟨l.take n,hb.take n,by rw [List.length_take];omega,?_⟩
   rw [Hy]
   try unfold Aa
   repeat first
    |((with_reducible first|apply Ap|apply Ag|apply Am|apply Az|apply A6|apply Ah);· first|with_reducible rfl|(simp (disch:=omega) only [L,nt,Nat.sub_zero,Bl,Dz]<;>with_reducible rfl))
    |((with_reducible first|apply Ao|apply Ak);· first|with_reducible rfl|omega|(simp (disch:=omega) only [gT,L,nt,Nat.sub_zero,Bl,Dz]<;>omega))
    |(with_reducible apply Al;· first|with_reducible rfl|(simp (disch:=omega) only [gF,L,nt,Nat.sub_zero,Bl,Dz]<;>omega))
   try simp (disch:=omega) only [L,nt,Nat.sub_zero,Bl,Dz]
  have w1:IntKind.wrap .u64 i=i:=B7 (by omega) (by omega)
  have w2:IntKind.wrap .i64 (i+1)=i+1:=Au (by omega) (by omega)
  have wd:Ae C0 Tryz.prog fu (d+4) Ec [.lst false 1 2 [.sc (.int .u64 nonce),.sc (.int .u64 i)]]=some ⟨[.own 1 (A7 [nonce,i]).length (Ai .u8 (A7 [nonce,i]))],[]⟩:=Lm (ws:=[nonce,i]) (by simp) (by omega) (by simp;omega)
  have mc:=Axl (fu:=fu) (d:=d) (l:=A7 [nonce,i]) (Vc _) (by rw [Db];simp) (by omega) (by rw [Db];simp;omega) key 5
  have L2:=As .u8 (A7 [nonce,i]);have t2:=G4 .u8 (A7 [nonce,i]);generalize A4w key 5 (A7 [nonce,i])=q at mc;have ow:=Avm (fu:=fu) (d:=d+3) hfu q;have Lq:(Ai .u8 (Cg q)).length=8:=by rw [As,Cy]
  have tq:List.take 8 (Ai .u8 (Cg q))=Ai .u8 (Cg q):=I2 (by omega)
  have tl:=G4 .u8 l;have ea:Ai .u8 l++Ai .u8 (Cg q)=Ai .u8 (l++Cg q):=by rw [Ai,Ai,Ai,List.flatMap_append]
  obtain ⟨r,r1,r2,r3⟩:=ih m (i+1) (l++Cg q) (by rw [Ic,Cy];omega) (by omega) (Z5 hb (Aad q)) (by rw [Ic,Cy];omega) (by omega) (by omega)
  refine ⟨r,r1,r2,?_⟩;rw [Ic,Cy] at r3;rw [←r3,Hy];generalize A7 [nonce,i]=W at *
  generalize W.length=wn at *
  try unfold Aa
  repeat first
   |((with_reducible first|apply Ap|apply Ag|apply Am|apply Az|apply A6|apply Ah);· first|with_reducible rfl|(simp (disch:=omega) only [w1,w2,wd,Cm,B4,Bl,L,L2,t2,mc,ow,Lq,tq,tl,ea]<;>with_reducible rfl))
   |((with_reducible first|apply Ao|apply Ak);· first|with_reducible rfl|omega|(simp (disch:=omega) only [gT,w1,w2,wd,Cm,B4,Bl,L,L2,t2,mc,ow,Lq,tq,tl,ea]<;>omega))
   |(with_reducible apply Al;· first|with_reducible rfl|(simp (disch:=omega) only [gF,w1,w2,wd,Cm,B4,Bl,L,L2,t2,mc,ow,Lq,tq,tl,ea]<;>omega))
  try simp (disch:=omega) only [w1,w2,wd,Cm,B4,Bl,L,L2,t2,mc,ow,Lq,tq,tl,ea]
  all_goals rfl
theorem Arj (hfu:1000<=fu)(seed:Int){n:Nat}(hn:n<=1024):∃r,Gn r∧r.length=n∧Ae C0 Tryz.prog fu (d+6) Ha [.sc (.int .i64 seed),.sc (.int .i64 n)]=some ⟨[.own 1 n (Ai .u8 r)],[]⟩:=by
 obtain ⟨r,r1,r2,r3⟩:=As5 (fu:=fu) (d:=d) hfu (a0:=IntKind.wrap .u64 (IntKind.wrap .u64 seed+1)) (a1:=7) (a2:=n) (key:=IntKind.wrap .u64 (IntKind.wrap .u64 seed+1)) (nonce:=7) hn 128 fu 0 [] (by omega) (by omega) (by intro x hx;cases hx) (by simp) (by omega) (by omega)
 refine ⟨r,r1,r2,?_⟩
 have e:Ae C0 Tryz.prog fu (d+5) Pa [.sc (.int .u64 (IntKind.wrap .u64 (IntKind.wrap .u64 seed+1))),.sc (.int .u64 7),.sc (.int .i64 n)]=some ⟨[.own 1 n (Ai .u8 r)],[]⟩:=by
  rw [Yf];have f1:(if (n:Int)<0 then (0:Int) else (n:Int))=n:=A3 (by omega)
  have f2:(if (1024:Int)<(n:Int) then (1024:Int) else (n:Int))=n:=A3 (by omega)
  simp only [Hw,f1,f2];exact r3
 have f1:(if (n:Int)<0 then (0:Int) else (n:Int))=n:=A3 (by omega)
 have f2:(if (1024:Int)<(n:Int) then (1024:Int) else (n:Int))=n:=A3 (by omega)
 have L:=As .u8 r;have t:List.take n (Ai .u8 r)=Ai .u8 r:=by rw [←r2];exact G4 .u8 r
 rw [Aaz];simp (disch:=omega) only [B6,f1,f2,e,Bl,L,t]
theorem Aqy (hfu:1000<=fu)(seed h:Int):Ae C0 Tryz.prog fu (d+13) S1 [.sc (.int .u64 seed),.sc (.int .i64 h)]=some ⟨[.agg (E1 seed h).cells],[]⟩:=by
 rw [Adu];have p:=Au9 (fu:=fu) (d:=d) hfu seed h;simp only [Ky.cells] at p ⊢;simp only [B6,p]
theorem A55 (hfu:1000<=fu){n:Int}(h0:0<=n)(h1:n<=10000)(h:Int)(sh:Bool):∃id_,Gn id_∧id_.length=176∧Ae C0 Tryz.prog fu (d+7) Ka [.sc (.int .i64 n),.sc (.int .i64 h),.sc (.bool sh)]=some ⟨[.agg [.sc (.int .u64 (1000+n)),.sc (.int .i64 h),.own 1 176 (Ai .u8 id_),.sc (.bool sh)]],[]⟩:=by
 have w1:IntKind.wrap .u64 n=n:=B7 (by omega) (by omega)
 have w2:IntKind.wrap .u64 (1000+n)=1000+n:=B7 (by omega) (by omega)
 have w3:IntKind.wrap .i64 (500+n)=500+n:=Au (by omega) (by omega)
 obtain ⟨r,r1,r2,r3⟩:=Arj (fu:=fu) (d:=d) hfu (500+n) (n:=176) (by omega)
 refine ⟨r,r1,r2,?_⟩;have L:=As .u8 r;have t:List.take 176 (Ai .u8 r)=Ai .u8 r:=by rw [←r2];exact G4 .u8 r
 have r3':Ae C0 Tryz.prog fu (d+6) Ha [.sc (.int .i64 (500+n)),.sc (.int .i64 176)]=some ⟨[.own 1 176 (Ai .u8 r)],[]⟩:=r3;rw [Tx];simp (disch:=omega) only [B6,w1,w2,w3,r3',Bl,L,t]
def Afv (sh vf:Bool):Int:=if vf=true then (if sh=true then 13 else 5) else if sh=true then 9 else 1
theorem A2a (seed h:Int)(id_:List Int)(sh vf:Bool):Ae C0 Tryz.prog fu (d+1) J6 [.agg [.sc (.int .u64 seed),.sc (.int .i64 h),.lst false 1 id_.length (Ai .u8 id_),.sc (.bool sh)],.sc (.bool vf)]=some ⟨[.sc (.int .i64 (Afv sh vf))],[]⟩:=by
 rw [T0];cases vf<;>cases sh<;>rfl
theorem Ays {s:ByteArray}(hs:s.size<=900)(hfu:1000<=fu):Ae C0 Tryz.prog fu (d+5) M6 [.sc (.string s)]=some ⟨[.sc (.int .u64 (Et 9 (Bz s)))],[]⟩:=by
 rw [Xw];have hh:=Uv (fu:=fu) (d:=d) (l:=Bz s) (R2 s) (by rw [C7];omega) (by omega) (by rw [C7];omega) 9
 have L:(Ct s).length=s.size:=by rw [Fp,As,C7]
 have t:List.take s.size (Ct s)=Ai .u8 (Bz s):=by rw [Fp,I2 (by rw [As,C7];omega)]
 rw [C7] at hh;simp (disch:=omega) only [B6,L,t,Cm,Bl,hh]
theorem Ahm {s:ByteArray}(hs:s.size<=900)(hfu:1000<=fu):Ae C0 Tryz.prog fu (d+5) Kw [.sc (.string s)]=some ⟨[.sc (.int .u64 (Et 11 (Bz s)))],[]⟩:=by
 rw [Vw];have hh:=Uv (fu:=fu) (d:=d) (l:=Bz s) (R2 s) (by rw [C7];omega) (by omega) (by rw [C7];omega) 11
 have L:(Ct s).length=s.size:=by rw [Fp,As,C7]
 have t:List.take s.size (Ct s)=Ai .u8 (Bz s):=by rw [Fp,I2 (by rw [As,C7];omega)]
 rw [C7] at hh;simp (disch:=omega) only [B6,L,t,Cm,Bl,hh]
def Wr (b:List Int)(c:Int):Int:=Et 13 (b++Cg c)
theorem Ali {b:List Int}(hb:Gn b)(hl:b.length<=900)(hfu:1000<=fu)(c:Int):Ae C0 Tryz.prog fu (d+5) Ma [.lst false 1 b.length (Ai .u8 b),.sc (.int .u64 c)]=some ⟨[.sc (.int .u64 (Wr b c))],[]⟩:=by
 rw [W2];unfold Wr;have ow:=Avm (fu:=fu) (d:=d+3) hfu c;have Lq:(Ai .u8 (Cg c)).length=8:=by rw [As,Cy]
 have tq:List.take 8 (Ai .u8 (Cg c))=Ai .u8 (Cg c):=I2 (by omega)
 have L:=As .u8 b;have t:=G4 .u8 b;have ea:Ai .u8 b++Ai .u8 (Cg c)=Ai .u8 (b++Cg c):=by rw [Ai,Ai,Ai,List.flatMap_append]
 have hl2:(b++Cg c).length=b.length+8:=by rw [Ic,Cy]
 have hh:=Uv (fu:=fu) (d:=d) (l:=b++Cg c) (Z5 hb (Aad c)) (by omega) (by omega) (by omega) 13
 have L2:=As .u8 (b++Cg c);have t2:List.take (b.length+8) (Ai .u8 (b++Cg c))=Ai .u8 (b++Cg c):=I2 (by omega)
 rw [hl2] at hh;simp (disch:=omega) only [B6,ow,Cm,B4,Bl,Lq,tq,L,t,ea,L2,t2,hh]
end
end
end Go.Proofs.YtgfgmbpmghgbkaaGreatDoor.Pv
