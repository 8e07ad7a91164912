/-
  The proof of AttestationModels, part 6 (texts Rd2 Rd3 Rd4 Rd5 Ce7 Cp1 GnM At1 GnD Dk1 GnN Mk1 Mk2 GnO Mk3 Mk4 Mk5 Mk6 Mk7 OpA La1 GnPm).
-/
import Derived.Test.YtgfgmbpmghgbkaaGreatDoorME
import Derived.Test.YtgfgmbpmghgbkaaGreatDoorRows
set_option linter.unusedSimpArgs false
set_option linter.unusedVariables false
namespace Go.Proofs.YtgfgmbpmghgbkaaGreatDoor.Pv
section
def Ars (a c:ByteArray):Bool:=if a.size=c.size then Op.bytesLess a.data.toList c.data.toList else decide (a.size<c.size)
def Afh (k:Int):Bool:=if k=1 then true else if k=2 then true else k==4
def Lj (k:Int):Bool:=k==3||k==4
def On (k:Int):Bool:=k==5||k==6
def Jd (k n depth:Int)(key:Bool)(olen rest:Nat):Int:=
 if 512<=olen then 8 else if key=true∧Afh k=false then 3 else if depth>8 then 5 else if Lj k=true∧n>1024 then 8 else if On k=true∧n>512 then 8 else if Lj k=true∧(rest:Int)<n then 1 else 0
def Hp (key:Bool)(before:ByteArray)(x:It):Int:=
 if x.k=4∧okS x.s=false then 6 else if key=true∧Aee before=false∧Ars before (Bl (Br x))=false then 7 else 0
theorem Aon {s:ByteArray}{a n:Nat}:s.extract a (a+n)=Bl (((Bv s).drop a).take n):=by
 rw [←Pg (s.extract a (a+n))]
 congr 1
 unfold Bv;rw [ByteArray.data_extract,Array.toList_extract,List.extract_eq_take_drop,Nat.add_sub_cancel_left,List.map_take,List.map_drop]
section
variable {fu d:Nat}
theorem Avh (a c:ByteArray):Ae C0 Tryz.prog fu (d+1) Q3 [.sc (.string a),.sc (.string c)]=some ⟨[.sc (.bool (Ars a c))],[]⟩:=by
 rw [Abg];unfold Ars;by_cases h:a.size=c.size
 ·have:((a.size:Int) != (c.size:Int))=false:=by simp [h]
  rw [Bm h];simp only [B3,this]
 ·have e:((a.size:Int) != (c.size:Int))=true:=by simp;omega
  rw [A0 h];simp only [B3,e,Int.ofNat_lt]
theorem A0j (k:Int):Ae C0 Tryz.prog fu (d+1) O0 [.sc (.int .i64 k)]=some ⟨[.sc (.bool (Afh k))],[]⟩:=by
 rw [Zh];unfold Afh;by_cases h1:k=1
 ·subst h1;rfl
 ·by_cases h2:k=2
  ·subst h2;rfl
  ·have b1:(k==(1:Int))=false:=by simp [h1]
   have b2:(k==(2:Int))=false:=by simp [h2]
   rw [A0 h1,A0 h2];simp only [B3,b1,b2]
theorem Atu {a0_0:ByteArray}{a0_1:Int}{a0_2n:Nat}{a0_2:List PV}{a1:Int}{a2:Bool}{a3:ByteArray}(hfu:1000<=fu){depth n k nn':Int}{key nest:Bool}{before s t:ByteArray}{at_:Nat}{o:List It}{nn:Nat}(hnn:0<nn)(ho:o.length<=1000)(hk:1<=k∧k<=8)(hn:0<=nn')(ht:t.size<=500000)(hd:It.dat ⟨k,nn',t⟩):
    Ak fu (Ae C0 Tryz.prog fu (d+3)) a0_0 a0_1 a0_2n a0_2 a1 a2 a3 nn depth key before n false nest s (at_:Int) o.length (Bn o) k nn' t =
      (if Hp key before ⟨k,nn',t⟩=0 then A9 fu (Ae C0 Tryz.prog fu (d+3)) a0_0 a0_1 a0_2n a0_2 a1 a2 a3 fu depth n nest Cy 0 s (at_:Int) (o++[It.mk k nn' t]).length (Bn (o++[It.mk k nn' t])) k nn' t
       else some ⟨[.sc (.int .i64 (Hp key before ⟨k,nn',t⟩))],[S8 s at_ o]⟩):=by
  have L:=Ej o
  have tt:List.take (o.length*3) (Bn o)=Bn o:=Iv (by omega)
  have va:=Kv (fu:=fu) (d:=d+2) t (by omega)
  have by_:=Y4 (fu:=fu) (d:=d) (x:=⟨k,nn',t⟩) hfu ⟨hk.1,hk.2,hn,ht⟩ hd
  have ls:=Avh (fu:=fu) (d:=d+2) before (Bl (Br ⟨k,nn',t⟩))
  have e:Bn (o++[It.mk k nn' t])=Bn o++[PV.sc (Value.int IntKind.i64 k),PV.sc (Value.int IntKind.u64 nn'),PV.sc (Value.string t)]:=Ad8 o [It.mk k nn' t]
  have en:(o++[It.mk k nn' t]).length=o.length+1:=by simp
  have em:(Array.toList (ByteArray.data before)==Array.toList (ByteArray.data (ByteArray.mk #[])))=Aee before:=rfl
  rw [e,en,Hs (hnn:=hnn)]
  unfold Hp
  simp only at ls by_ ⊢
  unfold It.cells at by_
  have kk:((k=4)=True∧(k==(4:Int))=true)∨((k=4)=False∧(k==(4:Int))=false):=by
    by_cases h:k=4
    · exact .inl ⟨eq_true h,by simp [h]⟩
    · exact .inr ⟨eq_false h,by simp [h]⟩
  generalize Ars before (Bl (Br ⟨k,nn',t⟩))=l at ls ⊢
  generalize Aee before=bb at em ⊢
  generalize okS t=v at va ⊢
  generalize Bl (Br ⟨k,nn',t⟩)=B at by_ ls
  rcases kk with ⟨k4',k4⟩|⟨k4',k4⟩
  · cases v
    · simp (disch:=omega) only [B3,Int.reduceBEq,k4,va,em,by_,ls,L,tt,Bs,B4,and_self,true_and,and_true,and_false,false_and,if_true,if_false,Int.reduceEq,Bool.true_eq_false,Bool.false_eq_true,reduceCtorEq,k4']
    · cases key
      · simp (disch:=omega) only [B3,Int.reduceBEq,k4,va,em,by_,ls,L,tt,Bs,B4,and_self,true_and,and_true,and_false,false_and,if_true,if_false,Int.reduceEq,Bool.true_eq_false,Bool.false_eq_true,reduceCtorEq,k4']
      · cases bb
        · cases l
          · simp (disch:=omega) only [B3,Int.reduceBEq,k4,va,em,by_,ls,L,tt,Bs,B4,and_self,true_and,and_true,and_false,false_and,if_true,if_false,Int.reduceEq,Bool.true_eq_false,Bool.false_eq_true,reduceCtorEq,k4']
          · simp (disch:=omega) only [B3,Int.reduceBEq,k4,va,em,by_,ls,L,tt,Bs,B4,and_self,true_and,and_true,and_false,false_and,if_true,if_false,Int.reduceEq,Bool.true_eq_false,Bool.false_eq_true,reduceCtorEq,k4']
        · simp (disch:=omega) only [B3,Int.reduceBEq,k4,va,em,by_,ls,L,tt,Bs,B4,and_self,true_and,and_true,and_false,false_and,if_true,if_false,Int.reduceEq,Bool.true_eq_false,Bool.false_eq_true,reduceCtorEq,k4']
  · cases key
    · simp (disch:=omega) only [B3,Int.reduceBEq,k4,va,em,by_,ls,L,tt,Bs,B4,and_self,true_and,and_true,and_false,false_and,if_true,if_false,Int.reduceEq,Bool.true_eq_false,Bool.false_eq_true,reduceCtorEq,k4']
    · cases bb
      · cases l
        · simp (disch:=omega) only [B3,Int.reduceBEq,k4,va,em,by_,ls,L,tt,Bs,B4,and_self,true_and,and_true,and_false,false_and,if_true,if_false,Int.reduceEq,Bool.true_eq_false,Bool.false_eq_true,reduceCtorEq,k4']
        · simp (disch:=omega) only [B3,Int.reduceBEq,k4,va,em,by_,ls,L,tt,Bs,B4,and_self,true_and,and_true,and_false,false_and,if_true,if_false,Int.reduceEq,Bool.true_eq_false,Bool.false_eq_true,reduceCtorEq,k4']
      · simp (disch:=omega) only [B3,Int.reduceBEq,k4,va,em,by_,ls,L,tt,Bs,B4,and_self,true_and,and_true,and_false,false_and,if_true,if_false,Int.reduceEq,Bool.true_eq_false,Bool.false_eq_true,reduceCtorEq,k4']
theorem Ayv {a0_0:ByteArray}{a0_1:Int}{a0_2n:Nat}{a0_2:List PV}{a1:Int}{a2:Bool}{a3:ByteArray}(hfu:1000<=fu){depth k:Int}{n nn':Nat}{key nest:Bool}{before s t0:ByteArray}{at_:Nat}{o:List It}{nn:Nat}(hnn:0<nn)(ho:o.length<=1000)(hk:k=3∨k=4)(hn:n<=1024)(ha:at_+n<=s.size)(hs:s.size<=1000000){t:ByteArray}(ht:t=Bl (((Bv s).drop at_).take n)):
    Ak fu (Ae C0 Tryz.prog fu (d+3)) a0_0 a0_1 a0_2n a0_2 a1 a2 a3 nn depth key before (n:Int) true nest s (at_:Int) o.length (Bn o) k (nn':Int) t0 =
      (if Hp key before ⟨k,0,t⟩=0 then A9 fu (Ae C0 Tryz.prog fu (d+3)) a0_0 a0_1 a0_2n a0_2 a1 a2 a3 fu depth (n:Int) nest Cy 0 s ((at_+n:Nat):Int) (o++[It.mk k 0 t]).length (Bn (o++[It.mk k 0 t])) k 0 t
       else some ⟨[.sc (.int .i64 (Hp key before ⟨k,0,t⟩))],[S8 s (at_+n) o]⟩):=by
  have hts:t.size<=1024:=by
    rw [ht,Er,List.length_take]
    omega
  have L:=Ej o
  have tt:List.take (o.length*3) (Bn o)=Bn o:=Iv (by omega)
  have va:=Kv (fu:=fu) (d:=d+2) t (by omega)
  have by_:=Y4 (fu:=fu) (d:=d) (x:=⟨k,0,t⟩) hfu ⟨by simp only;omega,by simp only;omega,by simp,by simp only;omega⟩ (hk.elim (fun h=>.inl h) (fun h=>.inr (.inl h)))
  have ls:=Avh (fu:=fu) (d:=d+2) before (Bl (Br ⟨k,0,t⟩))
  have e:Bn (o++[It.mk k 0 t])=Bn o++[PV.sc (Value.int IntKind.i64 k),PV.sc (Value.int IntKind.u64 0),PV.sc (Value.string t)]:=Ad8 o [It.mk k 0 t]
  have en:(o++[It.mk k 0 t]).length=o.length+1:=by simp
  have em:(Array.toList (ByteArray.data before)==Array.toList (ByteArray.data (ByteArray.mk #[])))=Aee before:=rfl
  have w1:IntKind.wrap .i64 (n:Int)=n:=Ap (by omega) (by omega)
  have w2:IntKind.wrap .i64 ((at_:Int)+(n:Int))=((at_+n:Nat):Int):=by rw [Ap (by omega) (by omega)];omega
  have n1:Int.toNat (at_:Int)=at_:=Hr _
  have n2:Int.toNat ((at_+n:Nat):Int)=at_+n:=Hr _
  have ex:s.extract at_ (at_+n)=t:=by rw [ht];exact Aon
  rw [e,en,Hs (hnn:=hnn)]
  unfold Hp
  simp only at ls by_ ⊢
  unfold It.cells at by_
  clear ht
  have kk:((k=4)=True∧(k==(4:Int))=true)∨((k=4)=False∧(k==(4:Int))=false):=by
    by_cases h:k=4
    · exact .inl ⟨eq_true h,by simp [h]⟩
    · exact .inr ⟨eq_false h,by simp [h]⟩
  generalize Ars before (Bl (Br ⟨k,0,t⟩))=l at ls ⊢
  generalize Aee before=bb at em ⊢
  generalize okS t=v at va ⊢
  generalize Bl (Br ⟨k,0,t⟩)=B at by_ ls
  rcases kk with ⟨k4',k4⟩|⟨k4',k4⟩
  · cases v
    · simp (disch:=omega) only [B3,w1,w2,n1,n2,ex,Int.reduceBEq,k4,va,em,by_,ls,L,tt,Bs,B4,and_self,true_and,and_true,and_false,false_and,if_true,if_false,Int.reduceEq,Bool.true_eq_false,Bool.false_eq_true,reduceCtorEq,k4']
    · cases key
      · simp (disch:=omega) only [B3,w1,w2,n1,n2,ex,Int.reduceBEq,k4,va,em,by_,ls,L,tt,Bs,B4,and_self,true_and,and_true,and_false,false_and,if_true,if_false,Int.reduceEq,Bool.true_eq_false,Bool.false_eq_true,reduceCtorEq,k4']
      · cases bb
        · cases l
          · simp (disch:=omega) only [B3,w1,w2,n1,n2,ex,Int.reduceBEq,k4,va,em,by_,ls,L,tt,Bs,B4,and_self,true_and,and_true,and_false,false_and,if_true,if_false,Int.reduceEq,Bool.true_eq_false,Bool.false_eq_true,reduceCtorEq,k4']
          · simp (disch:=omega) only [B3,w1,w2,n1,n2,ex,Int.reduceBEq,k4,va,em,by_,ls,L,tt,Bs,B4,and_self,true_and,and_true,and_false,false_and,if_true,if_false,Int.reduceEq,Bool.true_eq_false,Bool.false_eq_true,reduceCtorEq,k4']
        · simp (disch:=omega) only [B3,w1,w2,n1,n2,ex,Int.reduceBEq,k4,va,em,by_,ls,L,tt,Bs,B4,and_self,true_and,and_true,and_false,false_and,if_true,if_false,Int.reduceEq,Bool.true_eq_false,Bool.false_eq_true,reduceCtorEq,k4']
  · cases key
    · simp (disch:=omega) only [B3,w1,w2,n1,n2,ex,Int.reduceBEq,k4,va,em,by_,ls,L,tt,Bs,B4,and_self,true_and,and_true,and_false,false_and,if_true,if_false,Int.reduceEq,Bool.true_eq_false,Bool.false_eq_true,reduceCtorEq,k4']
    · cases bb
      · cases l
        · simp (disch:=omega) only [B3,w1,w2,n1,n2,ex,Int.reduceBEq,k4,va,em,by_,ls,L,tt,Bs,B4,and_self,true_and,and_true,and_false,false_and,if_true,if_false,Int.reduceEq,Bool.true_eq_false,Bool.false_eq_true,reduceCtorEq,k4']
        · simp (disch:=omega) only [B3,w1,w2,n1,n2,ex,Int.reduceBEq,k4,va,em,by_,ls,L,tt,Bs,B4,and_self,true_and,and_true,and_false,false_and,if_true,if_false,Int.reduceEq,Bool.true_eq_false,Bool.false_eq_true,reduceCtorEq,k4']
      · simp (disch:=omega) only [B3,w1,w2,n1,n2,ex,Int.reduceBEq,k4,va,em,by_,ls,L,tt,Bs,B4,and_self,true_and,and_true,and_false,false_and,if_true,if_false,Int.reduceEq,Bool.true_eq_false,Bool.false_eq_true,reduceCtorEq,k4']
end
end
section
section
variable {fu d:Nat}
set_option maxHeartbeats 4000000 in
theorem A1y (hfu:1000<=fu){depth:Int}{key:Bool}{before s:ByteArray}{at_:Nat}{o:List It}(hs:s.size<=1000000)(ha:at_<=s.size)(ho:o.length<=1000):
    Ae C0 Tryz.prog fu (d+4) Dh [.pbox (S8 s at_ o),.sc (.int .i64 depth),.sc (.bool key),.sc (.string before)] =
      (if (Bg (Bv s) at_).e≠0 then some ⟨[.sc (.int .i64 (Bg (Bv s) at_).e)],[S8 s (Vb (Bv s) at_) o]⟩
       else if Jd (Bg (Bv s) at_).k (Bg (Bv s) at_).n depth key o.length (s.size-(Bg (Bv s) at_).at_)≠0 then
         some ⟨[.sc (.int .i64 (Jd (Bg (Bv s) at_).k (Bg (Bv s) at_).n depth key o.length (s.size-(Bg (Bv s) at_).at_)))],[S8 s (Vb (Bv s) at_) o]⟩
       else Ak fu (Ae C0 Tryz.prog fu (d+3)) s (at_:Int) o.length (Bn o) depth key before fu depth key before (Bg (Bv s) at_).n (Lj (Bg (Bv s) at_).k) (On (Bg (Bv s) at_).k) s ((Bg (Bv s) at_).at_:Int) o.length (Bn o) (Bg (Bv s) at_).k (Bg (Bv s) at_).n Cy):=by
  refine (Rs fu (d+3) s (at_:Int) o.length (Bn o) depth key before).trans ?_
  have hd:=Axh (fu:=fu) (d:=d+2) (s:=s) (at_:=at_) (o:=o) hfu hs (by omega)
  have ok:=P0 (b:=Bv s) (at_:=at_) (Q5 s) (by rw [C3];exact ha)
  have L:=Ej o
  have t:List.take (o.length*3) (Bn o)=Bn o:=Iv (by omega)
  rw [C3] at ok
  have eA:(Bg (Bv s) at_).e=0->Vb (Bv s) at_=(Bg (Bv s) at_).at_:=by
    intro h
    unfold Vb
    rw [Bm h]
  generalize Vb (Bv s) at_=A at hd eA ⊢
  generalize Bg (Bv s) at_=h at hd ok eA ⊢
  obtain ⟨k,n,e,a⟩:=h
  simp only at hd ok eA ⊢
  by_cases he:e=0
  rotate_left
  · have he':(e != 0)=true:=by simp [he]
    rw [Bm he]
    try unfold Aa
    repeat first
      |((with_reducible first|apply At|apply Aj|apply As|apply Ax|apply Az|apply A5|apply Bb|apply Ai);· first|with_reducible rfl|(simp (disch:=omega) only [hd,he',L,t]<;>with_reducible rfl))
      |((with_reducible first|apply Ar|apply Au);· first|with_reducible rfl|omega|(simp (disch:=omega) only [gT,hd,he',L,t]<;>omega))
      |(with_reducible apply Aw;· first|with_reducible rfl|(simp (disch:=omega) only [gF,hd,he',L,t]<;>omega))
    try simp (disch:=omega) only [hd,he',L,t]
    all_goals rfl
  subst he
  obtain rfl:=eA rfl
  obtain ⟨ha',hk⟩:=ok
  obtain ⟨k1,k8,n0,n1,_⟩:=hk rfl
  have e00:((0:Int) != 0)=false:=rfl
  have ik:=A0j (fu:=fu) (d:=d+2) k
  rw [A0 (by simp)]
  have w1:IntKind.wrap .i64 ((s.size:Int)-(A:Int))=((s.size-A:Nat):Int):=by rw [Ap (by omega) (by omega)];omega
  have w2:IntKind.wrap .u64 ((s.size-A:Nat):Int)=((s.size-A:Nat):Int):=B6 (by omega) (by omega)
  generalize s.size-A=rest at w1 w2 ⊢
  unfold Jd
  by_cases c1:512<=o.length
  · simp only [c1,if_true,ne_eq,Int.reduceEq,not_false_eq_true]
    have:k=1∨k=2∨k=3∨k=4∨k=5∨k=6∨k=7∨k=8:=by omega
    rcases this with rfl|rfl|rfl|rfl|rfl|rfl|rfl|rfl
    all_goals
      try unfold Aa
      repeat first
        |((with_reducible first|apply At|apply Aj|apply As|apply Ax|apply Az|apply A5|apply Bb|apply Ai);· first|with_reducible rfl|(simp (disch:=omega) only [hd,e00,L,t,Int.reduceBEq]<;>with_reducible rfl))
        |((with_reducible first|apply Ar|apply Au);· first|with_reducible rfl|omega|(simp (disch:=omega) only [gT,hd,e00,L,t,Int.reduceBEq]<;>omega))
        |(with_reducible apply Aw;· first|with_reducible rfl|(simp (disch:=omega) only [gF,hd,e00,L,t,Int.reduceBEq]<;>omega))
      try simp (disch:=omega) only [hd,e00,L,t,Int.reduceBEq]
    all_goals rfl
  rw [A0 c1]
  by_cases c2:key=true∧Afh k=false
  · obtain ⟨rfl,c2⟩:=c2
    rw [c2] at ik
    simp only [c2,and_self,if_true,ne_eq,Int.reduceEq,not_false_eq_true]
    have:k=1∨k=2∨k=3∨k=4∨k=5∨k=6∨k=7∨k=8:=by omega
    rcases this with rfl|rfl|rfl|rfl|rfl|rfl|rfl|rfl
    all_goals
      try unfold Aa
      repeat first
        |((with_reducible first|apply At|apply Aj|apply As|apply Ax|apply Az|apply A5|apply Bb|apply Ai);· first|with_reducible rfl|(simp (disch:=omega) only [hd,e00,L,t,Int.reduceBEq,ik,Bs,B4]<;>with_reducible rfl))
        |((with_reducible first|apply Ar|apply Au);· first|with_reducible rfl|omega|(simp (disch:=omega) only [gT,hd,e00,L,t,Int.reduceBEq,ik,Bs,B4]<;>omega))
        |(with_reducible apply Aw;· first|with_reducible rfl|(simp (disch:=omega) only [gF,hd,e00,L,t,Int.reduceBEq,ik,Bs,B4]<;>omega))
      try simp (disch:=omega) only [hd,e00,L,t,Int.reduceBEq,ik,Bs,B4]
    all_goals rfl
  rw [A0 c2]
  have key2:key=false∨key=true∧Afh k=true:=by
    cases key
    · exact .inl rfl
    · exact .inr ⟨rfl,by simpa using c2⟩
  clear c2
  have fin:∀(p q:Option Ay),p=q->p=q:=fun _ _ h=>h
  by_cases c3:depth>8
  · simp only [c3,if_true,ne_eq,Int.reduceEq,not_false_eq_true]
    have:k=1∨k=2∨k=3∨k=4∨k=5∨k=6∨k=7∨k=8:=by omega
    rcases key2 with rfl|⟨rfl,k2⟩
    · rcases this with rfl|rfl|rfl|rfl|rfl|rfl|rfl|rfl
      all_goals
        try unfold Aa
        repeat first
          |((with_reducible first|apply At|apply Aj|apply As|apply Ax|apply Az|apply A5|apply Bb|apply Ai);· first|with_reducible rfl|(simp (disch:=omega) only [hd,e00,L,t,Int.reduceBEq,Bs,B4]<;>with_reducible rfl))
          |((with_reducible first|apply Ar|apply Au);· first|with_reducible rfl|omega|(simp (disch:=omega) only [gT,hd,e00,L,t,Int.reduceBEq,Bs,B4]<;>omega))
          |(with_reducible apply Aw;· first|with_reducible rfl|(simp (disch:=omega) only [gF,hd,e00,L,t,Int.reduceBEq,Bs,B4]<;>omega))
        try simp (disch:=omega) only [hd,e00,L,t,Int.reduceBEq,Bs,B4]
      all_goals rfl
    · rw [k2] at ik
      rcases this with rfl|rfl|rfl|rfl|rfl|rfl|rfl|rfl
      all_goals
        try unfold Aa
        repeat first
          |((with_reducible first|apply At|apply Aj|apply As|apply Ax|apply Az|apply A5|apply Bb|apply Ai);· first|with_reducible rfl|(simp (disch:=omega) only [hd,e00,L,t,Int.reduceBEq,ik,Bs,B4]<;>with_reducible rfl))
          |((with_reducible first|apply Ar|apply Au);· first|with_reducible rfl|omega|(simp (disch:=omega) only [gT,hd,e00,L,t,Int.reduceBEq,ik,Bs,B4]<;>omega))
          |(with_reducible apply Aw;· first|with_reducible rfl|(simp (disch:=omega) only [gF,hd,e00,L,t,Int.reduceBEq,ik,Bs,B4]<;>omega))
        try simp (disch:=omega) only [hd,e00,L,t,Int.reduceBEq,ik,Bs,B4]
      all_goals rfl
  rw [A0 c3]
  have kk:(Lj k=true∧On k=false∧(k=3∨k=4))∨(Lj k=false∧On k=true∧(k=5∨k=6))∨(Lj k=false∧On k=false∧(k=1∨k=2∨k=7∨k=8)):=by
    have:k=1∨k=2∨k=3∨k=4∨k=5∨k=6∨k=7∨k=8:=by omega
    rcases this with rfl|rfl|rfl|rfl|rfl|rfl|rfl|rfl<;>simp [Lj,On]
  rcases kk with ⟨q1,q2,kk⟩|⟨q1,q2,kk⟩|⟨q1,q2,kk⟩
  · rw [q1,q2]
    simp only [true_and,Bool.false_eq_true,false_and,if_false]
    by_cases c4:n>1024
    · simp only [c4,if_true,ne_eq,Int.reduceEq,not_false_eq_true]
      rcases key2 with rfl|⟨rfl,k2⟩
      · rcases kk with rfl|rfl
        all_goals
          try unfold Aa
          repeat first
            |((with_reducible first|apply At|apply Aj|apply As|apply Ax|apply Az|apply A5|apply Bb|apply Ai);· first|with_reducible rfl|(simp (disch:=omega) only [hd,e00,L,t,Int.reduceBEq,Bs,B4]<;>with_reducible rfl))
            |((with_reducible first|apply Ar|apply Au);· first|with_reducible rfl|omega|(simp (disch:=omega) only [gT,hd,e00,L,t,Int.reduceBEq,Bs,B4]<;>omega))
            |(with_reducible apply Aw;· first|with_reducible rfl|(simp (disch:=omega) only [gF,hd,e00,L,t,Int.reduceBEq,Bs,B4]<;>omega))
          try simp (disch:=omega) only [hd,e00,L,t,Int.reduceBEq,Bs,B4]
        all_goals rfl
      · rw [k2] at ik
        rcases kk with rfl|rfl
        all_goals
          try unfold Aa
          repeat first
            |((with_reducible first|apply At|apply Aj|apply As|apply Ax|apply Az|apply A5|apply Bb|apply Ai);· first|with_reducible rfl|(simp (disch:=omega) only [hd,e00,L,t,Int.reduceBEq,ik,Bs,B4]<;>with_reducible rfl))
            |((with_reducible first|apply Ar|apply Au);· first|with_reducible rfl|omega|(simp (disch:=omega) only [gT,hd,e00,L,t,Int.reduceBEq,ik,Bs,B4]<;>omega))
            |(with_reducible apply Aw;· first|with_reducible rfl|(simp (disch:=omega) only [gF,hd,e00,L,t,Int.reduceBEq,ik,Bs,B4]<;>omega))
          try simp (disch:=omega) only [hd,e00,L,t,Int.reduceBEq,ik,Bs,B4]
        all_goals rfl
    rw [A0 c4]
    by_cases c5:(rest:Int)<n
    · simp only [c5,if_true,ne_eq,Int.reduceEq,not_false_eq_true]
      rcases key2 with rfl|⟨rfl,k2⟩
      · rcases kk with rfl|rfl
        all_goals
          try unfold Aa
          repeat first
            |((with_reducible first|apply At|apply Aj|apply As|apply Ax|apply Az|apply A5|apply Bb|apply Ai);· first|with_reducible rfl|(simp (disch:=omega) only [hd,e00,L,t,Int.reduceBEq,w1,w2,Bs,B4]<;>with_reducible rfl))
            |((with_reducible first|apply Ar|apply Au);· first|with_reducible rfl|omega|(simp (disch:=omega) only [gT,hd,e00,L,t,Int.reduceBEq,w1,w2,Bs,B4]<;>omega))
            |(with_reducible apply Aw;· first|with_reducible rfl|(simp (disch:=omega) only [gF,hd,e00,L,t,Int.reduceBEq,w1,w2,Bs,B4]<;>omega))
          try simp (disch:=omega) only [hd,e00,L,t,Int.reduceBEq,w1,w2,Bs,B4]
        all_goals rfl
      · rw [k2] at ik
        rcases kk with rfl|rfl
        all_goals
          try unfold Aa
          repeat first
            |((with_reducible first|apply At|apply Aj|apply As|apply Ax|apply Az|apply A5|apply Bb|apply Ai);· first|with_reducible rfl|(simp (disch:=omega) only [hd,e00,L,t,Int.reduceBEq,w1,w2,ik,Bs,B4]<;>with_reducible rfl))
            |((with_reducible first|apply Ar|apply Au);· first|with_reducible rfl|omega|(simp (disch:=omega) only [gT,hd,e00,L,t,Int.reduceBEq,w1,w2,ik,Bs,B4]<;>omega))
            |(with_reducible apply Aw;· first|with_reducible rfl|(simp (disch:=omega) only [gF,hd,e00,L,t,Int.reduceBEq,w1,w2,ik,Bs,B4]<;>omega))
          try simp (disch:=omega) only [hd,e00,L,t,Int.reduceBEq,w1,w2,ik,Bs,B4]
        all_goals rfl
    rw [A0 c5,A0 (by simp)]
    rcases key2 with rfl|⟨rfl,k2⟩
    · rcases kk with rfl|rfl
      all_goals
        try unfold Aa
        repeat first
          |((with_reducible first|apply At|apply Aj|apply As|apply Ax|apply Az|apply A5|apply Bb|apply Ai);· first|with_reducible rfl|(simp (disch:=omega) only [hd,e00,L,t,Int.reduceBEq,w1,w2,Bs,B4]<;>with_reducible rfl))
          |((with_reducible first|apply Ar|apply Au);· first|with_reducible rfl|omega|(simp (disch:=omega) only [gT,hd,e00,L,t,Int.reduceBEq,w1,w2,Bs,B4]<;>omega))
          |(with_reducible apply Aw;· first|with_reducible rfl|(simp (disch:=omega) only [gF,hd,e00,L,t,Int.reduceBEq,w1,w2,Bs,B4]<;>omega))
        try simp (disch:=omega) only [hd,e00,L,t,Int.reduceBEq,w1,w2,Bs,B4]
      all_goals rfl
    · rw [k2] at ik
      rcases kk with rfl|rfl
      all_goals
        try unfold Aa
        repeat first
          |((with_reducible first|apply At|apply Aj|apply As|apply Ax|apply Az|apply A5|apply Bb|apply Ai);· first|with_reducible rfl|(simp (disch:=omega) only [hd,e00,L,t,Int.reduceBEq,w1,w2,ik,Bs,B4]<;>with_reducible rfl))
          |((with_reducible first|apply Ar|apply Au);· first|with_reducible rfl|omega|(simp (disch:=omega) only [gT,hd,e00,L,t,Int.reduceBEq,w1,w2,ik,Bs,B4]<;>omega))
          |(with_reducible apply Aw;· first|with_reducible rfl|(simp (disch:=omega) only [gF,hd,e00,L,t,Int.reduceBEq,w1,w2,ik,Bs,B4]<;>omega))
        try simp (disch:=omega) only [hd,e00,L,t,Int.reduceBEq,w1,w2,ik,Bs,B4]
      all_goals rfl
  · rw [q1,q2]
    simp only [true_and,Bool.false_eq_true,false_and,if_false]
    by_cases c4:n>512
    · simp only [c4,if_true,ne_eq,Int.reduceEq,not_false_eq_true]
      rcases key2 with rfl|⟨rfl,k2⟩
      · rcases kk with rfl|rfl
        all_goals
          try unfold Aa
          repeat first
            |((with_reducible first|apply At|apply Aj|apply As|apply Ax|apply Az|apply A5|apply Bb|apply Ai);· first|with_reducible rfl|(simp (disch:=omega) only [hd,e00,L,t,Int.reduceBEq,Bs,B4]<;>with_reducible rfl))
            |((with_reducible first|apply Ar|apply Au);· first|with_reducible rfl|omega|(simp (disch:=omega) only [gT,hd,e00,L,t,Int.reduceBEq,Bs,B4]<;>omega))
            |(with_reducible apply Aw;· first|with_reducible rfl|(simp (disch:=omega) only [gF,hd,e00,L,t,Int.reduceBEq,Bs,B4]<;>omega))
          try simp (disch:=omega) only [hd,e00,L,t,Int.reduceBEq,Bs,B4]
        all_goals rfl
      · rw [k2] at ik
        rcases kk with rfl|rfl
        all_goals
          try unfold Aa
          repeat first
            |((with_reducible first|apply At|apply Aj|apply As|apply Ax|apply Az|apply A5|apply Bb|apply Ai);· first|with_reducible rfl|(simp (disch:=omega) only [hd,e00,L,t,Int.reduceBEq,ik,Bs,B4]<;>with_reducible rfl))
            |((with_reducible first|apply Ar|apply Au);· first|with_reducible rfl|omega|(simp (disch:=omega) only [gT,hd,e00,L,t,Int.reduceBEq,ik,Bs,B4]<;>omega))
            |(with_reducible apply Aw;· first|with_reducible rfl|(simp (disch:=omega) only [gF,hd,e00,L,t,Int.reduceBEq,ik,Bs,B4]<;>omega))
          try simp (disch:=omega) only [hd,e00,L,t,Int.reduceBEq,ik,Bs,B4]
        all_goals rfl
    rw [A0 c4,A0 (by simp)]
    rcases key2 with rfl|⟨rfl,k2⟩
    · rcases kk with rfl|rfl
      all_goals
        try unfold Aa
        repeat first
          |((with_reducible first|apply At|apply Aj|apply As|apply Ax|apply Az|apply A5|apply Bb|apply Ai);· first|with_reducible rfl|(simp (disch:=omega) only [hd,e00,L,t,Int.reduceBEq,w1,w2,Bs,B4]<;>with_reducible rfl))
          |((with_reducible first|apply Ar|apply Au);· first|with_reducible rfl|omega|(simp (disch:=omega) only [gT,hd,e00,L,t,Int.reduceBEq,w1,w2,Bs,B4]<;>omega))
          |(with_reducible apply Aw;· first|with_reducible rfl|(simp (disch:=omega) only [gF,hd,e00,L,t,Int.reduceBEq,w1,w2,Bs,B4]<;>omega))
        try simp (disch:=omega) only [hd,e00,L,t,Int.reduceBEq,w1,w2,Bs,B4]
      all_goals rfl
    · rw [k2] at ik
      rcases kk with rfl|rfl
      all_goals
        try unfold Aa
        repeat first
          |((with_reducible first|apply At|apply Aj|apply As|apply Ax|apply Az|apply A5|apply Bb|apply Ai);· first|with_reducible rfl|(simp (disch:=omega) only [hd,e00,L,t,Int.reduceBEq,w1,w2,ik,Bs,B4]<;>with_reducible rfl))
          |((with_reducible first|apply Ar|apply Au);· first|with_reducible rfl|omega|(simp (disch:=omega) only [gT,hd,e00,L,t,Int.reduceBEq,w1,w2,ik,Bs,B4]<;>omega))
          |(with_reducible apply Aw;· first|with_reducible rfl|(simp (disch:=omega) only [gF,hd,e00,L,t,Int.reduceBEq,w1,w2,ik,Bs,B4]<;>omega))
        try simp (disch:=omega) only [hd,e00,L,t,Int.reduceBEq,w1,w2,ik,Bs,B4]
      all_goals rfl
  · rw [q1,q2]
    simp only [true_and,Bool.false_eq_true,false_and,if_false,ne_eq,not_true_eq_false]
    rcases key2 with rfl|⟨rfl,k2⟩
    · rcases kk with rfl|rfl|rfl|rfl
      all_goals
        try unfold Aa
        repeat first
          |((with_reducible first|apply At|apply Aj|apply As|apply Ax|apply Az|apply A5|apply Bb|apply Ai);· first|with_reducible rfl|(simp (disch:=omega) only [hd,e00,L,t,Int.reduceBEq,w1,w2,Bs,B4]<;>with_reducible rfl))
          |((with_reducible first|apply Ar|apply Au);· first|with_reducible rfl|omega|(simp (disch:=omega) only [gT,hd,e00,L,t,Int.reduceBEq,w1,w2,Bs,B4]<;>omega))
          |(with_reducible apply Aw;· first|with_reducible rfl|(simp (disch:=omega) only [gF,hd,e00,L,t,Int.reduceBEq,w1,w2,Bs,B4]<;>omega))
        try simp (disch:=omega) only [hd,e00,L,t,Int.reduceBEq,w1,w2,Bs,B4]
      all_goals rfl
    · rw [k2] at ik
      rcases kk with rfl|rfl|rfl|rfl
      all_goals
        try unfold Aa
        repeat first
          |((with_reducible first|apply At|apply Aj|apply As|apply Ax|apply Az|apply A5|apply Bb|apply Ai);· first|with_reducible rfl|(simp (disch:=omega) only [hd,e00,L,t,Int.reduceBEq,w1,w2,ik,Bs,B4]<;>with_reducible rfl))
          |((with_reducible first|apply Ar|apply Au);· first|with_reducible rfl|omega|(simp (disch:=omega) only [gT,hd,e00,L,t,Int.reduceBEq,w1,w2,ik,Bs,B4]<;>omega))
          |(with_reducible apply Aw;· first|with_reducible rfl|(simp (disch:=omega) only [gF,hd,e00,L,t,Int.reduceBEq,w1,w2,ik,Bs,B4]<;>omega))
        try simp (disch:=omega) only [hd,e00,L,t,Int.reduceBEq,w1,w2,ik,Bs,B4]
      all_goals rfl
end
end
section
def So (f:Bool->ByteArray->Nat->List It->Int × Nat × List It)(mp:Bool):Nat->ByteArray->Nat->List It->Int × Nat × List It
 |0,_,at_,o=>(0,at_,o)
 |c+1,last,at_,o=>
  if mp=true then
   if (f true last at_ o).1≠0 then f true last at_ o
   else if (f false Cy (f true last at_ o).2.1 (f true last at_ o).2.2).1≠0 then f false Cy (f true last at_ o).2.1 (f true last at_ o).2.2
   else So f mp c (Bl (Br ((f true last at_ o).2.2.getD o.length it0))) (f false Cy (f true last at_ o).2.1 (f true last at_ o).2.2).2.1 (f false Cy (f true last at_ o).2.1 (f true last at_ o).2.2).2.2
  else if (f false Cy at_ o).1≠0 then f false Cy at_ o
  else So f mp c last (f false Cy at_ o).2.1 (f false Cy at_ o).2.2
def rdX (b:List Int)(h:Hd):It × Nat:=if Lj h.k=true then (⟨h.k,0,Bl ((b.drop h.at_).take h.n.toNat)⟩,h.at_+h.n.toNat) else (⟨h.k,h.n,Cy⟩,h.at_)
def Nz (b:List Int):Nat->Int->Bool->ByteArray->Nat->List It->Int × Nat × List It
 |0,_,_,_,at_,o=>(2,at_,o)
 |m+1,depth,key,before,at_,o=>
  if (Bg b at_).e≠0 then ((Bg b at_).e,at_,o)
  else if Jd (Bg b at_).k (Bg b at_).n depth key o.length (b.length-(Bg b at_).at_)≠0 then (Jd (Bg b at_).k (Bg b at_).n depth key o.length (b.length-(Bg b at_).at_),(Bg b at_).at_,o)
  else if Hp key before (rdX b (Bg b at_)).1≠0 then (Hp key before (rdX b (Bg b at_)).1,(rdX b (Bg b at_)).2,o)
  else if On (Bg b at_).k=true then So (Nz b m (depth+1)) ((Bg b at_).k==6) (Bg b at_).n.toNat Cy (rdX b (Bg b at_)).2 (o++[(rdX b (Bg b at_)).1])
  else (0,(rdX b (Bg b at_)).2,o++[(rdX b (Bg b at_)).1])
def OkR (x:It):Prop:=OkX x∧x.dat
structure Bbs (b:List Int) (o:List It) (r:Int × Nat × List It):Prop where
 at_:r.2.1<=b.length
 all:∀x∈r.2.2,OkR x
 len:o.length<=r.2.2.length
 top:r.2.2.length<=512
 grow:r.1=0->o.length<r.2.2.length
def A23 (b:List Int)(f:Bool->ByteArray->Nat->List It->Int × Nat × List It):Prop:=∀key before at_ o,at_<=b.length->(∀x∈o,OkR x)->o.length<=512->Bbs b o (f key before at_ o)
theorem Ace {b:List Int}{f:Bool->ByteArray->Nat->List It->Int × Nat × List It}(hf:A23 b f){mp:Bool}:∀(c:Nat)(last:ByteArray)(at_:Nat)(o:List It),at_<=b.length->(∀x∈o,OkR x)->o.length<=512 ->
  (So f mp c last at_ o).2.1<=b.length∧(∀x∈(So f mp c last at_ o).2.2,OkR x)∧o.length<=(So f mp c last at_ o).2.2.length∧(So f mp c last at_ o).2.2.length<=512
 |0,_,at_,o,h1,h2,h3=>⟨h1,h2,Nat.le_refl _,h3⟩
 |c+1,last,at_,o,h1,h2,h3=>by
  unfold So;by_cases hm:mp=true
  ·rw [Bm hm];have q:=hf true last at_ o h1 h2 h3;generalize f true last at_ o=r at q ⊢;by_cases hr:r.1=0
   ·have p:=hf false Cy r.2.1 r.2.2 q.at_ q.all q.top;rw [A0 (by simp [hr])]
    have:=q.len;generalize f false Cy r.2.1 r.2.2=r2 at p ⊢;by_cases hr2:r2.1=0
    ·rw [A0 (by simp [hr2])]
     obtain ⟨i1,i2,i3,i4⟩:=Ace hf (mp:=mp) c (Bl (Br (r.2.2.getD o.length it0))) r2.2.1 r2.2.2 p.at_ p.all p.top;have:=p.len;exact ⟨i1,i2,by omega,i4⟩
    ·rw [Bm (by simp [hr2])]
     have:=p.len;exact ⟨p.at_,p.all,by omega,p.top⟩
   ·rw [Bm (by simp [hr])]
    exact ⟨q.at_,q.all,q.len,q.top⟩
  ·rw [A0 hm];have q:=hf false Cy at_ o h1 h2 h3;generalize f false Cy at_ o=r at q ⊢;by_cases hr:r.1=0
   ·rw [A0 (by simp [hr])]
    obtain ⟨i1,i2,i3,i4⟩:=Ace hf (mp:=mp) c last r.2.1 r.2.2 q.at_ q.all q.top;have:=q.len;exact ⟨i1,i2,by omega,i4⟩
   ·rw [Bm (by simp [hr])]
    exact ⟨q.at_,q.all,q.len,q.top⟩
theorem Aed {k n depth:Int}{key:Bool}{ol rest:Nat}(h:Jd k n depth key ol rest=0):ol<512∧depth<=8∧(Lj k=true->n<=1024∧n<=rest)∧(On k=true->n<=512):=by
 unfold Jd at h;by_cases c1:512<=ol
 ·rw [Bm c1] at h;cases h
 rw [A0 c1] at h;by_cases c2:key=true∧Afh k=false
 ·rw [Bm c2] at h;cases h
 rw [A0 c2] at h;by_cases c3:depth>8
 ·rw [Bm c3] at h;cases h
 rw [A0 c3] at h;by_cases c4:Lj k=true∧n>1024
 ·rw [Bm c4] at h;cases h
 rw [A0 c4] at h;by_cases c5:On k=true∧n>512
 ·rw [Bm c5] at h;cases h
 rw [A0 c5] at h;by_cases c6:Lj k=true∧(rest:Int)<n
 ·rw [Bm c6] at h;cases h
 refine ⟨by omega,by omega,fun hd=>⟨?_,?_⟩,fun hn=>?_⟩
 ·exact Int.not_lt.1 fun hh=>c4 ⟨hd,hh⟩
 ·exact Int.not_lt.1 fun hh=>c6 ⟨hd,hh⟩
 ·exact Int.not_lt.1 fun hh=>c5 ⟨hn,hh⟩
theorem Px (k:Int):Lj k=true↔k=3∨k=4:=by unfold Lj;simp
theorem Afd (k:Int):On k=true↔k=5∨k=6:=by unfold On;simp
theorem A3o {b:List Int}(hb:Hf b){at_:Nat}(ha:at_<=b.length)(he:(Bg b at_).e=0) {depth:Int}{key:Bool}{ol:Nat}(hp:Jd (Bg b at_).k (Bg b at_).n depth key ol (b.length-(Bg b at_).at_)=0):OkR (rdX b (Bg b at_)).1∧(rdX b (Bg b at_)).2<=b.length∧at_<(rdX b (Bg b at_)).2:=by
 obtain ⟨h1,h2⟩:=P0 hb ha;obtain ⟨k1,k8,n0,n1,hl⟩:=h2 he;obtain ⟨_,_,p3,_⟩:=Aed hp;unfold rdX;by_cases hd:Lj (Bg b at_).k=true
 ·obtain ⟨q1,q2⟩:=p3 hd;rw [Bm hd];refine ⟨⟨⟨k1,k8,by simp,by simp,?_⟩,?_⟩,?_,?_⟩
  ·simp only;rw [Er,List.length_take];omega
  ·rcases (Px _).1 hd with h|h
   ·exact .inl h
   ·exact .inr (.inl h)
  ·simp only;omega
  ·simp only;omega
 ·rw [A0 hd];exact ⟨⟨⟨k1,k8,n0,n1,Nat.zero_le _⟩,.inr (.inr rfl)⟩,h1,hl⟩
theorem Qb {b:List Int}(hb:Hf b):∀(m:Nat)(depth:Int),A23 b (Nz b m depth)
 |0,depth=>fun key before at_ o h1 h2 h3=>⟨h1,h2,Nat.le_refl _,h3,fun h=>by simp [Nz] at h⟩
 |m+1,depth=>fun key before at_ o h1 h2 h3=>by
  have hk:=(P0 hb h1).1;unfold Nz;by_cases he:(Bg b at_).e=0
  rotate_left
  ·rw [Bm he];exact ⟨h1,h2,Nat.le_refl _,h3,fun h=>absurd h he⟩
  rw [A0 (by simp [he])]
  by_cases hp:Jd (Bg b at_).k (Bg b at_).n depth key o.length (b.length-(Bg b at_).at_)=0
  rotate_left
  ·rw [Bm hp];exact ⟨hk,h2,Nat.le_refl _,h3,fun h=>absurd h hp⟩
  obtain ⟨x1,x2,x3⟩:=A3o hb h1 he hp;obtain ⟨p1,p2,p3,p4⟩:=Aed hp;rw [A0 (by simp [hp])]
  by_cases hq:Hp key before (rdX b (Bg b at_)).1=0
  rotate_left
  ·rw [Bm hq];exact ⟨x2,h2,Nat.le_refl _,h3,fun h=>absurd h hq⟩
  rw [A0 (by simp [hq])]
  have a2:∀x∈o++[(rdX b (Bg b at_)).1],OkR x:=by
   intro x hx;rcases List.mem_append.1 hx with hx|hx
   ·exact h2 x hx
   ·simp at hx;subst hx;exact x1
  have a3:(o++[(rdX b (Bg b at_)).1]).length=o.length+1:=by simp
  by_cases hn:On (Bg b at_).k=true
  ·rw [Bm hn];obtain ⟨i1,i2,i3,i4⟩:=Ace (Qb hb m (depth+1)) (mp:=(Bg b at_).k==6) (Bg b at_).n.toNat Cy (rdX b (Bg b at_)).2 (o++[(rdX b (Bg b at_)).1]) x2 a2 (by omega)
   exact ⟨i1,i2,by omega,i4,fun _=>by omega⟩
  ·rw [A0 hn];exact ⟨x2,a2,by simp only;omega,by simp only;omega,fun _=>by simp only;omega⟩
def Alq (s:ByteArray)(r:Int × Nat × List It):Ay:=⟨[.sc (.int .i64 r.1)],[S8 s r.2.1 r.2.2]⟩
section
variable {fu d:Nat}
theorem Aih (hfu:1000<=fu){a0_0:ByteArray}{a0_1:Int}{a0_2n:Nat}{a0_2:List PV}{a1:Int}{a2:Bool}{a3:ByteArray}{s:ByteArray}{depth k kn:Int}{kt:ByteArray}(hd0:0<=depth)(hd8:depth<=8){f:Bool->ByteArray->Nat->List It->Int × Nat × List It}(hff:A23 (Bv s) f)
  (hf:∀key before at_ o,at_<=s.size->o.length<=512->(∀x∈o,OkR x)->Ae C0 Tryz.prog fu (d+3) Dh [.pbox (S8 s at_ o),.sc (.int .i64 (depth+1)),.sc (.bool key),.sc (.string before)]=some (Alq s (f key before at_ o))) {n:Nat}(hn:n<=512):
  ∀(c i nn:Nat) (last:ByteArray) (at_:Nat) (o:List It),i+c=n->c<nn->at_<=s.size->o.length<=512->(∀x∈o,OkR x) ->
  A9 fu (Ae C0 Tryz.prog fu (d+3)) a0_0 a0_1 a0_2n a0_2 a1 a2 a3 nn depth (n:Int) true last (i:Int) s (at_:Int) o.length (Bn o) k kn kt=some (Alq s (So f (k==6) c last at_ o))
 |_,_,0,_,_,_,_,h,_,_,_=>by omega
 |0,i,nn+1,last,at_,o,hi,hc,ha,ho,hx=>by
  have L:=Ej o;have t:List.take (o.length*3) (Bn o)=Bn o:=Iv (by omega)
  rw [Ed]
  try unfold Aa
  repeat first
   |((with_reducible first|apply At|apply Aj|apply As|apply Az|apply A5|apply B9|apply Ai);· first|with_reducible rfl|(simp (disch:=omega) only [L,t]<;>with_reducible rfl))
   |((with_reducible first|apply Ar|apply Au);· first|with_reducible rfl|omega|(simp (disch:=omega) only [gT,L,t]<;>omega))
   |(with_reducible apply Aw;· first|with_reducible rfl|(simp (disch:=omega) only [gF,L,t]<;>omega))
  try simp (disch:=omega) only [L,t]
  all_goals rfl
 |c+1,i,nn+1,last,at_,o,hi,hc,ha,ho,hx=>by
  have L:=Ej o;have t:List.take (o.length*3) (Bn o)=Bn o:=Iv (by omega)
  have w1:IntKind.wrap .i64 (depth+1)=depth+1:=Ap (by omega) (by omega)
  have w2:IntKind.wrap .u64 ((i:Int)+1)=((i+1:Nat):Int):=by rw [B6 (by omega) (by omega)];omega
  have hsz:=C3 s;rw [Ed];unfold So;by_cases hm:k=6
  rotate_left
  ·have hm':(k==(6:Int))=false:=by simp [hm]
   rw [hm',A0 (by simp)]
   have q:=hf false Cy at_ o ha ho hx;have fq:=hff false Cy at_ o (by omega) hx ho
   generalize f false Cy at_ o=r at q fq ⊢;obtain ⟨e,a,o'⟩:=r;have f1:=fq.at_;have f2:=fq.all;have f4:=fq.top;simp only [Alq] at q f1 f2 f4 ⊢;have L':=Ej o';have t':List.take (o'.length*3) (Bn o')=Bn o':=Iv (by omega)
   by_cases he:e=0
   ·subst he;have ih:=Aih hfu (a0_0:=a0_0) (a0_1:=a0_1) (a0_2n:=a0_2n) (a0_2:=a0_2) (a1:=a1) (a2:=a2) (a3:=a3) (k:=k) (kn:=kn) (kt:=kt) hd0 hd8 hff hf hn c (i+1) nn last a o' (by omega) (by omega) (by omega) f4 f2
    rw [hm'] at ih;have e00:((0:Int) != 0)=false:=rfl;rw [A0 (by simp)]
    simp only [Alq] at ih;rw [←ih]
    try unfold Aa
    repeat first
     |((with_reducible first|apply At|apply Aj|apply As|apply Az|apply A5|apply B9|apply Ai);· first|with_reducible rfl|(simp (disch:=omega) only [L,t,w1,w2,hm',q,e00]<;>with_reducible rfl))
     |((with_reducible first|apply Ar|apply Au);· first|with_reducible rfl|omega|(simp (disch:=omega) only [gT,L,t,w1,w2,hm',q,e00]<;>omega))
     |(with_reducible apply Aw;· first|with_reducible rfl|(simp (disch:=omega) only [gF,L,t,w1,w2,hm',q,e00]<;>omega))
    try simp (disch:=omega) only [L,t,w1,w2,hm',q,e00]
    all_goals rfl
   ·have he':(e != 0)=true:=by simp [he]
    rw [Bm he]
    try unfold Aa
    repeat first
     |((with_reducible first|apply At|apply Aj|apply As|apply Az|apply A5|apply B9|apply Ai);· first|with_reducible rfl|(simp (disch:=omega) only [L,t,w1,w2,hm',q,he',L',t']<;>with_reducible rfl))
     |((with_reducible first|apply Ar|apply Au);· first|with_reducible rfl|omega|(simp (disch:=omega) only [gT,L,t,w1,w2,hm',q,he',L',t']<;>omega))
     |(with_reducible apply Aw;· first|with_reducible rfl|(simp (disch:=omega) only [gF,L,t,w1,w2,hm',q,he',L',t']<;>omega))
    try simp (disch:=omega) only [L,t,w1,w2,hm',q,he',L',t']
    all_goals rfl
  ·subst hm;have hm':((6:Int)==(6:Int))=true:=rfl;rw [hm',Bm rfl];have q:=hf true last at_ o ha ho hx;have fq:=hff true last at_ o (by omega) hx ho
   generalize f true last at_ o=r at q fq ⊢;obtain ⟨e,a,o'⟩:=r;have f1:=fq.at_;have f2:=fq.all;have f4:=fq.top;have f5:=fq.grow;simp only [Alq] at q f1 f2 f4 f5 ⊢;have L':=Ej o';have t':List.take (o'.length*3) (Bn o')=Bn o':=Iv (by omega)
   by_cases he:e=0
   rotate_left
   ·have he':(e != 0)=true:=by simp [he]
    rw [Bm he]
    try unfold Aa
    repeat first
     |((with_reducible first|apply At|apply Aj|apply As|apply Az|apply A5|apply B9|apply Ai);· first|with_reducible rfl|(simp (disch:=omega) only [L,t,w1,w2,hm',q,he',L',t']<;>with_reducible rfl))
     |((with_reducible first|apply Ar|apply Au);· first|with_reducible rfl|omega|(simp (disch:=omega) only [gT,L,t,w1,w2,hm',q,he',L',t']<;>omega))
     |(with_reducible apply Aw;· first|with_reducible rfl|(simp (disch:=omega) only [gF,L,t,w1,w2,hm',q,he',L',t']<;>omega))
    try simp (disch:=omega) only [L,t,w1,w2,hm',q,he',L',t']
    all_goals rfl
   subst he;have f5:=f5 rfl;have e00:((0:Int) != 0)=false:=rfl;rw [A0 (by simp)]
   obtain ⟨x,hxg⟩:∃x,o'[o.length]?=some x:=⟨_,List.getElem?_eq_getElem f5⟩;have hxo:=f2 x (List.mem_of_getElem? hxg);have gx:o'.getD o.length it0=x:=by rw [List.getD_eq_getElem?_getD,hxg];rfl
   rw [gx];obtain ⟨c0,c1,c2⟩:=aci hxg;have by_:=Y4 (fu:=fu) (d:=d) (x:=x) hfu ⟨hxo.1.k1,hxo.1.k8,hxo.1.n0,Nat.le_trans hxo.1.s1 (by omega)⟩ hxo.2
   obtain ⟨xk,xn,xs⟩:=x;unfold It.cells at by_;simp only at c0 c1 c2 by_;have nt:Int.toNat (o.length:Int)=o.length:=Hr _;have q2:=hf false Cy a o' (by omega) f4 f2
   have fq2:=hff false Cy a o' f1 f2 f4;generalize Bl (Br ⟨xk,xn,xs⟩)=last' at by_ ⊢;generalize f false Cy a o'=r2 at q2 fq2 ⊢;obtain ⟨e2,a2',o2⟩:=r2;have g1:=fq2.at_;have g2:=fq2.all;have g4:=fq2.top;simp only [Alq] at q2 g1 g2 g4 ⊢;have L2:=Ej o2;have t2:List.take (o2.length*3) (Bn o2)=Bn o2:=Iv (by omega)
   by_cases he2:e2=0
   ·subst he2;have ih:=Aih hfu (a0_0:=a0_0) (a0_1:=a0_1) (a0_2n:=a0_2n) (a0_2:=a0_2) (a1:=a1) (a2:=a2) (a3:=a3) (k:=6) (kn:=kn) (kt:=kt) hd0 hd8 hff hf hn c (i+1) nn last' a2' o2 (by omega) (by omega) (by omega) g4 g2
    rw [hm'] at ih;rw [A0 (by simp)]
    simp only [Alq] at ih;rw [←ih]
    try unfold Aa
    repeat first
     |((with_reducible first|apply At|apply Aj|apply As|apply Az|apply A5|apply B9|apply Ai);· first|with_reducible rfl|(simp (disch:=omega) only [L,t,w1,w2,hm',q,e00,L',t',Bw,nt,c0,c1,c2,by_,q2]<;>with_reducible rfl))
     |((with_reducible first|apply Ar|apply Au);· first|with_reducible rfl|omega|(simp (disch:=omega) only [gT,L,t,w1,w2,hm',q,e00,L',t',Bw,nt,c0,c1,c2,by_,q2]<;>omega))
     |(with_reducible apply Aw;· first|with_reducible rfl|(simp (disch:=omega) only [gF,L,t,w1,w2,hm',q,e00,L',t',Bw,nt,c0,c1,c2,by_,q2]<;>omega))
    try simp (disch:=omega) only [L,t,w1,w2,hm',q,e00,L',t',Bw,nt,c0,c1,c2,by_,q2]
    all_goals rfl
   ·have he':(e2 != 0)=true:=by simp [he2]
    rw [Bm he2]
    try unfold Aa
    repeat first
     |((with_reducible first|apply At|apply Aj|apply As|apply Az|apply A5|apply B9|apply Ai);· first|with_reducible rfl|(simp (disch:=omega) only [L,t,w1,w2,hm',q,e00,L',t',Bw,nt,c0,c1,c2,by_,q2,he',L2,t2]<;>with_reducible rfl))
     |((with_reducible first|apply Ar|apply Au);· first|with_reducible rfl|omega|(simp (disch:=omega) only [gT,L,t,w1,w2,hm',q,e00,L',t',Bw,nt,c0,c1,c2,by_,q2,he',L2,t2]<;>omega))
     |(with_reducible apply Aw;· first|with_reducible rfl|(simp (disch:=omega) only [gF,L,t,w1,w2,hm',q,e00,L',t',Bw,nt,c0,c1,c2,by_,q2,he',L2,t2]<;>omega))
    try simp (disch:=omega) only [L,t,w1,w2,hm',q,e00,L',t',Bw,nt,c0,c1,c2,by_,q2,he',L2,t2]
    all_goals rfl
theorem A1a (hfu:1000<=fu){s:ByteArray}(hs:s.size<=1000000):∀(m:Nat)(depth:Int)(key:Bool)(before:ByteArray)(at_:Nat)(o:List It),0<=depth->9<=depth+m->depth<=9->at_<=s.size->o.length<=512->(∀x∈o,OkR x) ->
  Ae C0 Tryz.prog fu (d+4+m) Dh [.pbox (S8 s at_ o),.sc (.int .i64 depth),.sc (.bool key),.sc (.string before)]=some (Alq s (Nz (Bv s) (m+1) depth key before at_ o)):=by
 intro m
 induction m with
 |zero=>
  intro depth key before at_ o d0 dm d9 ha ho hx;have pr:=A1y (fu:=fu) (d:=d) hfu (depth:=depth) (key:=key) (before:=before) hs ha (o:=o) (by omega)
  have hsz:=C3 s;rw [Zzr,pr];unfold Nz Vb;rw [hsz];by_cases he:(Bg (Bv s) at_).e=0
  rotate_left
  ·rw [Bm he,Bm he,A0 he];rfl
  have he':¬((Bg (Bv s) at_).e≠0):=by simp [he]
  rw [A0 he',A0 he'];by_cases hp:Jd (Bg (Bv s) at_).k (Bg (Bv s) at_).n depth key o.length (s.size-(Bg (Bv s) at_).at_)=0
  ·obtain ⟨_,p2,_⟩:=Aed hp;omega
  ·rw [Bm hp,Bm hp,Bm he];rfl
 |succ m ih=>
  intro depth key before at_ o d0 dm d9 ha ho hx;have pr:=A1y (fu:=fu) (d:=d+1+m) hfu (depth:=depth) (key:=key) (before:=before) hs ha (o:=o) (by omega)
  have hsz:=C3 s;have ed:d+1+m+4=d+4+(m+1):=by omega
  have ed':d+4+m=d+1+m+3:=by omega
  rw [ed'] at ih;rw [ed] at pr;rw [pr];have hfine:=Qb (Q5 s) (m+1) (depth+1);generalize hR:Nz (Bv s) (m+1) (depth+1)=R at hfine;unfold Nz Vb;rw [hsz,hR];by_cases he:(Bg (Bv s) at_).e=0
  rotate_left
  ·rw [Bm he,Bm he,A0 he];rfl
  have he':¬((Bg (Bv s) at_).e≠0):=by simp [he]
  rw [A0 he',A0 he'];by_cases hp:Jd (Bg (Bv s) at_).k (Bg (Bv s) at_).n depth key o.length (s.size-(Bg (Bv s) at_).at_)=0
  rotate_left
  ·rw [Bm hp,Bm hp,Bm he];rfl
  have hp':¬(Jd (Bg (Bv s) at_).k (Bg (Bv s) at_).n depth key o.length (s.size-(Bg (Bv s) at_).at_)≠0):=by simp [hp]
  rw [A0 hp',A0 hp'];clear he' hp';obtain ⟨x1,x2,x3⟩:=A3o (Q5 s) (by omega) he (by rw [hsz];exact hp)
  obtain ⟨p1,p2,p3,p4⟩:=Aed hp;obtain ⟨y1,y2⟩:=P0 (b:=Bv s) (at_:=at_) (Q5 s) (by omega)
  obtain ⟨k1,k8,n0,n1,_⟩:=y2 he
  have a2:∀x∈o++[(rdX (Bv s) (Bg (Bv s) at_)).1],OkR x:=by
   intro x hx';rcases List.mem_append.1 hx' with hx'|hx'
   ·exact hx x hx'
   ·simp at hx';subst hx';exact x1
  have a3:(o++[(rdX (Bv s) (Bg (Bv s) at_)).1]).length=o.length+1:=by simp
  generalize Bg (Bv s) at_=h at *
  obtain ⟨k,n,e,a⟩:=h;simp only at *
  obtain ⟨n,rfl⟩:=Int.eq_ofNat_of_zero_le n0
  have hff:∀kk bb aa oo,aa<=s.size->oo.length<=512->(∀x∈oo,OkR x)->Ae C0 Tryz.prog fu (d+1+m+3) Dh [.pbox (S8 s aa oo),.sc (.int .i64 (depth+1)),.sc (.bool kk),.sc (.string bb)]=some (Alq s (R kk bb aa oo)):=by
   intro kk bb aa oo h1 h2 h3;rw [ih (depth+1) kk bb aa oo (by omega) (by omega) (by omega) h1 h2 h3,hR]
  by_cases hdt:Lj k=true
  ·obtain ⟨q1,q2⟩:=p3 hdt;have hk34:=(Px k).1 hdt;have hnest:On k=false:=by rcases hk34 with rfl|rfl<;>rfl
   have eX:rdX (Bv s) ⟨k,(n:Int),e,a⟩=(⟨k,0,Bl (((Bv s).drop a).take n)⟩,a+n):=by
    unfold rdX;rw [Bm hdt];simp
   rw [hdt,hnest,eX];have po:=Ayv (fu:=fu) (d:=d+1+m) (a0_0:=s) (a0_1:=(at_:Int)) (a0_2n:=o.length) (a0_2:=Bn o) (a1:=depth) (a2:=key) (a3:=before) hfu (depth:=depth) (k:=k) (n:=n) (nn':=n) (key:=key) (nest:=false) (before:=before) (s:=s) (t0:=Cy) (at_:=a) (o:=o) (nn:=fu) (by omega) (by omega) hk34 (by omega) (by omega) hs rfl
   rw [po];simp only;by_cases hq:Hp key before ⟨k,0,Bl (((Bv s).drop a).take n)⟩=0
   ·rw [Bm hq,A0 (by simp [hq]),A0 (by simp)]
    obtain ⟨nn,rfl⟩:∃nn,fu=nn+1:=⟨fu-1,by omega⟩
    rw [Ed,Akn];have L:=Ej (o++[It.mk k 0 (Bl (((Bv s).drop a).take n))]);have t:List.take ((o++[It.mk k 0 (Bl (((Bv s).drop a).take n))]).length*3) (Bn (o++[It.mk k 0 (Bl (((Bv s).drop a).take n))]))=Bn (o++[It.mk k 0 (Bl (((Bv s).drop a).take n))]):=Iv (by omega)
    rw [Yu _ _ (by omega),t]
    rfl
   ·rw [A0 hq,Bm hq];rfl
  ·have hdt':Lj k=false:=by simpa using hdt
   have eX:rdX (Bv s) ⟨k,(n:Int),e,a⟩=(⟨k,(n:Int),Cy⟩,a):=by
    unfold rdX;rw [A0 hdt]
   rw [hdt',eX];rw [eX] at a2 a3 x2;have po:=Atu (fu:=fu) (d:=d+1+m) (a0_0:=s) (a0_1:=(at_:Int)) (a0_2n:=o.length) (a0_2:=Bn o) (a1:=depth) (a2:=key) (a3:=before) hfu (depth:=depth) (n:=(n:Int)) (k:=k) (nn':=(n:Int)) (key:=key) (nest:=On k) (before:=before) (s:=s) (t:=Cy) (at_:=a) (o:=o) (nn:=fu) (by omega) (by omega) ⟨k1,k8⟩ (by omega) (Nat.zero_le _) (.inr (.inr rfl))
   rw [po];simp only at a2 a3 x2 ⊢;by_cases hq:Hp key before ⟨k,(n:Int),Cy⟩=0
   rotate_left
   ·rw [A0 hq,Bm hq];rfl
   rw [Bm hq,A0 (by simp [hq])]
   cases hnest:On k
   ·rw [A0 (by simp)]
    obtain ⟨nn,rfl⟩:∃nn,fu=nn+1:=⟨fu-1,by omega⟩
    rw [Ed,Akn];have L:=Ej (o++[It.mk k (n:Int) Cy]);have t:List.take ((o++[It.mk k (n:Int) Cy]).length*3) (Bn (o++[It.mk k (n:Int) Cy]))=Bn (o++[It.mk k (n:Int) Cy]):=Iv (by omega)
    rw [Yu _ _ (by omega),t]
    rfl
   ·rw [Bm rfl];have:=p4 hnest;rw [Hr];exact Aih hfu d0 p2 hfine hff (by omega) n 0 fu Cy a _ (by omega) (by omega) (by omega) (by omega) a2
def Ac2 (b:List Int):List It × Nat × Int:=if (Nz b 10 0 false Cy 0 []).1≠0 then ([],0,(Nz b 10 0 false Cy 0 []).1) else ((Nz b 10 0 false Cy 0 []).2.2,(Nz b 10 0 false Cy 0 []).2.1,0)
theorem Auq (hfu:1000<=fu){b:List Int}(hb:Hf b)(hl:b.length<=1000000):
  Ae C0 Tryz.prog fu (d+14) Nw [.lst false 1 b.length (Ah .u8 b)]=some ⟨Abz (Ac2 b),[]⟩:=by
 rw [Wx];have L:=Al .u8 b;have bo:=Fk b;have hsz:(Bl b).size=b.length:=Er b;have it:=A1a (fu:=fu) (d:=d) hfu (s:=Bl b) (by omega) 9 0 false Cy 0 [] (by omega) (by omega) (by omega) (by omega) (by simp) (by simp)
 have fi:=Qb hb 10 0 false Cy 0 [] (by omega) (by simp) (by simp)
 rw [Ks hb] at it;have eB:ByteArray.mk (List.toArray (b.map fun n=>n.toNat.toUInt8))=Bl b:=rfl
 unfold Ac2;generalize Nz b 10 0 false Cy 0 []=r at it fi ⊢;obtain ⟨e,a,o⟩:=r;have f4:=fi.top;simp only [Alq] at it f4 ⊢;have LT:=Ej o;have tT:List.take (o.length*3) (Bn o)=Bn o:=Iv (by omega)
 have it':Ae C0 Tryz.prog fu (d+13) Dh [.pbox [.sc (.string (Bl b)),.sc (.int .i64 0),.own 3 0 []],.sc (.int .i64 0),.sc (.bool false),.sc (.string Cy)]=some ⟨[.sc (.int .i64 e)],[[.sc (.string (Bl b)),.sc (.int .i64 a),.own 3 o.length (Bn o)]]⟩:=it;clear it;by_cases he:e=0
 ·subst he;have e00:((0:Int) != 0)=false:=rfl;rw [A0 (by simp)]
  unfold Abz
  try unfold Aa
  repeat first
   |((with_reducible first|apply At|apply Aj|apply As|apply Az|apply A5|apply B9|apply Ai);· first|with_reducible rfl|(simp (disch:=omega) only [L,bo,eB,it',e00,LT,tT]<;>with_reducible rfl))
   |((with_reducible first|apply Ar|apply Au);· first|with_reducible rfl|omega|(simp (disch:=omega) only [gT,L,bo,eB,it',e00,LT,tT]<;>omega))
   |(with_reducible apply Aw;· first|with_reducible rfl|(simp (disch:=omega) only [gF,L,bo,eB,it',e00,LT,tT]<;>omega))
  try simp (disch:=omega) only [L,bo,eB,it',e00,LT,tT]
  all_goals rfl
 ·have he':(e != 0)=true:=by simp [he]
  rw [Bm he];unfold Abz
  try unfold Aa
  repeat first
   |((with_reducible first|apply At|apply Aj|apply As|apply Az|apply A5|apply B9|apply Ai);· first|with_reducible rfl|(simp (disch:=omega) only [L,bo,eB,it',he',LT,tT]<;>with_reducible rfl))
   |((with_reducible first|apply Ar|apply Au);· first|with_reducible rfl|omega|(simp (disch:=omega) only [gT,L,bo,eB,it',he',LT,tT]<;>omega))
   |(with_reducible apply Aw;· first|with_reducible rfl|(simp (disch:=omega) only [gF,L,bo,eB,it',he',LT,tT]<;>omega))
  try simp (disch:=omega) only [L,bo,eB,it',he',LT,tT]
  all_goals rfl
end
end
section
def A3e (depth:Int)(its:List It):Prop:=
 ∀(b:List Int) (at_:Nat) (rest:List Int) (m:Nat) (o:List It),b.drop at_=Bc its++rest->9<=depth+m->o.length+its.length<=512->Nz b (m+1) depth false Cy at_ o=(0,at_+(Bc its).length,o++its)
theorem Ayu {x:It}(hx:Aox x)(hn:x.n<=18446744073709551615){depth:Int}(hd:depth<=8):A3e depth [x]:=by
 intro b at_ rest m o h hm ho;have kd:=hx.kd;have hs:=hx.hs;have e1:Bc [x]=Br x:=by simp [Bc]
 rw [e1] at h ⊢;obtain ⟨q1,q2,q3,q4⟩:=Abw (x:=x) hx.hsh (by omega) (by omega) hx.n0 hn hx.hs h
 have ln:x.s.size<=b.length-(at_+((Br x).length-x.s.size)):=by
  have:=congrArg List.length h;rw [List.length_drop,Hz] at this;omega
 have pe:Jd x.k (nOf x) depth false o.length (b.length-(at_+((Br x).length-x.s.size)))=0:=by
  unfold Jd;simp only [List.length_singleton] at ho;rw [A0 (by omega),A0 (by simp),A0 (by omega)]
  by_cases c34:x.k=3∨x.k=4
  ·have e:nOf x=x.s.size:=by unfold nOf;rw [Bm c34]
   rw [e,A0 (by omega),A0 (by rw [Afd];omega),A0 (by omega)]
  ·rw [A0 (by rw [Px];omega),A0 (by rw [Afd];omega),A0 (by rw [Px];omega)]
 have rx:rdX b ⟨x.k,nOf x,0,at_+((Br x).length-x.s.size)⟩=(x,at_+(Br x).length):=by
  unfold rdX;simp only;by_cases c34:x.k=3∨x.k=4
  ·obtain ⟨z,q2⟩:=q2 c34;have e:nOf x=x.s.size:=by unfold nOf;rw [Bm c34]
   rw [Bm ((Px _).2 c34),e,Hr,q2,List.take_left' (C3 x.s),Pg];obtain ⟨k,n,s⟩:=x;simp only at z q4 ⊢;subst z
   congr 1
   omega
  ·have q3:=q3 c34;have e:nOf x=x.n:=by unfold nOf;rw [A0 c34]
   rw [A0 (fun hh=>c34 ((Px _).1 hh)),e]
   obtain ⟨k,n,s⟩:=x;simp only at q3 ⊢;subst q3;have:(ByteArray.mk #[]).size=0:=rfl;rw [this,Nat.sub_zero]
 unfold Nz;rw [q1];simp only;rw [A0 (by simp),pe,A0 (by simp),rx]
 have po:Hp false Cy x=0:=by
  unfold Hp;rw [A0 (fun hh=>by have:=hx.hv hh.1;have h2:=hh.2;unfold okS at h2;rw [this] at h2;cases h2),A0 (by simp)]
 rw [po,A0 (by simp),A0 (by rw [Afd];omega)]
theorem Am4 {b:List Int}{depth:Int}{rest:List Int}{m:Nat}(hm:9<=depth+1+m):∀(vs:List (List It)) (at_:Nat)(o:List It)(last:ByteArray),(∀v∈vs,A3e (depth+1) v)->b.drop at_=Bc vs.flatten++rest->o.length+vs.flatten.length<=512 ->
  So (Nz b (m+1) (depth+1)) false vs.length last at_ o=(0,at_+(Bc vs.flatten).length,o++vs.flatten)
 |[],at_,o,last,hv,h,ho=>by simp [So,Bc]
 |v::vs,at_,o,last,hv,h,ho=>by
  have e:Bc (v::vs).flatten=Bc v++Bc vs.flatten:=by simp [Bc]
  rw [e,Zzv] at h;simp only [List.flatten_cons,Hz] at ho;have r:=hv v (by simp) b at_ (Bc vs.flatten++rest) m o h hm (by omega)
  have h':b.drop (at_+(Bc v).length)=Bc vs.flatten++rest:=by rw [←List.drop_drop,h,List.drop_left' rfl]
  have ih:=Am4 hm vs (at_+(Bc v).length) (o++v) last (fun w hw=>hv w (List.mem_cons_of_mem _ hw)) h' (by rw [Hz];omega)
  rw [Iw];unfold So;rw [A0 (by simp),r]
  simp only;rw [A0 (by simp),ih,e]
  simp;omega
theorem A12 {vs:List (List It)} {depth:Int}(hv:∀v∈vs,A3e (depth+1) v) (hd:depth<=8)(hl:vs.length<=400):A3e depth (⟨5,vs.length,Cy⟩::vs.flatten):=by
 intro b at_ rest m o h hm ho;have e1:Bc (⟨5,vs.length,Cy⟩::vs.flatten)=Br ⟨5,vs.length,Cy⟩++Bc vs.flatten:=by simp [Bc]
 rw [e1,Zzv] at h;have z:Cy.size=0:=rfl;obtain ⟨q1,q2,q3,q4⟩:=Abw (x:=⟨5,vs.length,Cy⟩) (b:=b) (at_:=at_) rfl (by simp) (by simp) (by simp) (by simp only;omega) (by rw [z];omega) h
 have e2:nOf ⟨5,vs.length,Cy⟩=vs.length:=rfl;simp only [z,Nat.sub_zero] at q1;rw [e2] at q1;simp only [Iw] at ho
 have pe:Jd 5 (vs.length:Int) depth false o.length (b.length-(at_+(Br ⟨5,vs.length,Cy⟩).length))=0:=by
  unfold Jd;rw [A0 (by omega),A0 (by simp),A0 (by omega),A0 (by simp [Lj]),A0 (by omega),A0 (by simp [Lj])]
 have rx:rdX b ⟨5,(vs.length:Int),0,at_+(Br ⟨5,vs.length,Cy⟩).length⟩=(⟨5,vs.length,Cy⟩,at_+(Br ⟨5,vs.length,Cy⟩).length):=by
  unfold rdX;rw [A0 (by simp [Lj])]
 have po:Hp false Cy ⟨5,vs.length,Cy⟩=0:=by
  unfold Hp;rw [A0 (fun hh=>by simp at hh),A0 (by simp)]
 have h':b.drop (at_+(Br ⟨5,vs.length,Cy⟩).length)=Bc vs.flatten++rest:=by rw [←List.drop_drop,h,List.drop_left' rfl]
 unfold Nz;rw [q1];simp only;rw [A0 (by simp),pe,A0 (by simp),rx]
 simp only;rw [po,A0 (by simp),Bm (show On 5=true from rfl),Hr]
 cases vs with
 |nil=>simp [So,Bc]
 |cons v vs=>
  obtain ⟨m,rfl⟩:∃k,m=k+1:=⟨m-1,by omega⟩
  have:=Am4 (b:=b) (rest:=rest) (m:=m) (depth:=depth) (by omega) (v::vs) (at_+(Br ⟨5,(v::vs).length,Cy⟩).length) (o++[⟨5,(v::vs).length,Cy⟩]) Cy hv h' (by simp only [Hz,List.length_singleton];omega)
  have e6:((5:Int)==6)=false:=rfl;rw [e6,this,e1];simp;omega
theorem A2w {its:List It}(h:A3e 0 its)(hl:its.length<=512)(rest:List Int):Ac2 (Bc its++rest)=(its,(Bc its).length,0):=by
 have:=h (Bc its++rest) 0 rest 9 [] (by rw [Cf]) (by omega) (by simp;omega)
 unfold Ac2;rw [this];simp
theorem Aun (c:Ce):((Kx c).map fun x=>[x]).flatten=Kx c:=by simp [Kx]
theorem Ayf {c:Ce}(hc:c.ok)(h:Dp c=0):Ac2 (El c)=(Ba c,(Bc (Ba c)).length,0):=by
 obtain ⟨h0,h1,h2,h3,h4,h5,h6,h7,h8,h9⟩:=Lm h;refine A2w (its:=Ba c) ?_ (by simp [Ba]) (Ly c.sig)
 have hf:=Yi hc.wf h0;have u1:=hc.ser;have u2:=hc.mod
 have:=A12 (vs:=(Kx c).map fun x=>[x]) (depth:=0) (by
  intro v hv;obtain ⟨x,hx,rfl⟩:=List.mem_map.1 hv;refine Ayu (hf x hx) ?_ (by omega)
  simp only [Kx,List.mem_cons,List.not_mem_nil,or_false] at hx;rcases hx with rfl|rfl|rfl|rfl|rfl|rfl|rfl|rfl|rfl
  all_goals simp only
  all_goals try split
  all_goals omega) (by omega) (by simp [Kx])
 rw [Aun] at this;exact this
end
section
def A21 (x:It):Bool:=x.k==5&&(x.n==9&&(x.s==ByteArray.mk #[]&&true))
def Aw0 (b:List Int)(used:Nat):List It->Ce × Int
 |[x0,x1,x2,x3,x4,x5,x6,x7,x8,x9]=>if A21 x0=false then (Zy,2) else (match Zj (Bv x4.s),sgD (b.drop used) with
  |some k,some s=>if x5.n>1099511627776 then (Zy,2) else if x6.n>1099511627776 then (Zy,2) else if x8.n>2 then (Zy,2) else if Dp (Gq x1 x2 x3 x5 x6 x7 x8 x9 k s)=0∧El (Gq x1 x2 x3 x5 x6 x7 x8 x9 k s)=b then (Gq x1 x2 x3 x5 x6 x7 x8 x9 k s,0) else (Zy,2)
  |_,_=>(Zy,2))
 |_=>(Zy,2)
def X9 (b:List Int)(r:List It × Nat × Int):Ce × Int:=
 if b.length>512 then (Zy,8) else if r.2.2≠0 then (Zy,2) else if r.1.length≠10 then (Zy,2) else Aw0 b r.2.1 r.1
theorem A3k {c:Ce}(hc:c.ok)(h:Dp c=0):Aw0 (El c) (Bc (Ba c)).length (Ba c)=(c,0):=by
 have k:=Auz hc h;have s:=A2q hc h;have cs:=Ab7 h;obtain ⟨h0,h1,h2,h3,h4,h5,h6,h7,h8,h9⟩:=Lm h;have a9:A21 ⟨5,9,Cy⟩=true:=by decide
 have e:Aw0 (El c) (Bc (Ba c)).length (Ba c)=((if A21 ⟨5,9,Cy⟩=false then (Zy,2) else (match Zj (Bv (Bl (Gl c.key))),sgD ((El c).drop (Bc (Ba c)).length) with
  |some k,some s=>if c.fr>1099511627776 then (Zy,2) else if c.un>1099511627776 then (Zy,2) else if c.path>2 then (Zy,2) else if Dp (Gq ⟨4,0,c.subj⟩ ⟨4,0,c.iss⟩ ⟨1,c.serial,Cy⟩ ⟨1,c.fr,Cy⟩ ⟨1,c.un,Cy⟩ ⟨7,(if c.auth=true then 1 else 0),Cy⟩ ⟨1,c.path,Cy⟩ ⟨1,c.model,Cy⟩ k s)=0∧El (Gq ⟨4,0,c.subj⟩ ⟨4,0,c.iss⟩ ⟨1,c.serial,Cy⟩ ⟨1,c.fr,Cy⟩ ⟨1,c.un,Cy⟩ ⟨7,(if c.auth=true then 1 else 0),Cy⟩ ⟨1,c.path,Cy⟩ ⟨1,c.model,Cy⟩ k s)=El c then (Gq ⟨4,0,c.subj⟩ ⟨4,0,c.iss⟩ ⟨1,c.serial,Cy⟩ ⟨1,c.fr,Cy⟩ ⟨1,c.un,Cy⟩ ⟨7,(if c.auth=true then 1 else 0),Cy⟩ ⟨1,c.path,Cy⟩ ⟨1,c.model,Cy⟩ k s,0) else (Zy,2)
  |_,_=>(Zy,2))):Ce × Int):=rfl
 rw [e,a9,A0 (by simp),k,s]
 simp only [cs];rw [A0 (by omega),A0 (by omega),A0 (by omega),Bm ⟨h,by trivial⟩]
theorem Ax6 {b:List Int}{used:Nat}{its:List It}(hx:∀x∈its,OkX x)(hn:∀c:Ce,c.ok->Dp c=0->El c≠b):Aw0 b used its=(Zy,2):=by
 unfold Aw0;split
 ·split
  ·rfl
  ·split
   ·rename_i hk hs;split
    ·rfl
    split
    ·rfl
    split
    ·rfl
    rw [A0];intro ⟨h1,h2⟩;exact hn _ (Wy (hx _ (by simp)) (hx _ (by simp)) (Aeg hk).2 (Aie hs).1) h1 h2
   ·rfl
 ·rfl
theorem Axp {b:List Int}(hb:Hf b){r:List It × Nat × Int}(hx:∀x∈r.1,OkX x)(hc:∀c:Ce,c.ok->Dp c=0->El c=b->r=(Ba c,(Bc (Ba c)).length,0)):X9 b r=Ku b:=by
 by_cases h5:b.length>512
 ·unfold X9 Ku;rw [Bm h5,Bm h5]
 by_cases hex:∃c:Ce,c.ok∧Dp c=0∧El c=b
 ·obtain ⟨c,c1,c2,c3⟩:=hex;have e:=hc c c1 c2 c3;subst c3;rw [Aiy c1 c2,e];unfold X9;rw [A0 h5,A0 (by simp),A0 (by simp [Ba])]
  exact A3k c1 c2
 ·have hn:∀c:Ce,c.ok->Dp c=0->El c≠b:=fun c h1 h2 h3=>hex ⟨c,h1,h2,h3⟩
  rw [An3 hb (by omega) hn]
  unfold X9;rw [A0 h5,Ax6 hx hn];split
  ·rfl
  ·split<;>rfl
section
variable {fu d:Nat}
theorem Auk (hfu:1000<=fu){b:List Int}(hb:Hf b)(hl:b.length<=1000000):
  Ae C0 Tryz.prog fu (d+15) H1 [.lst false 1 b.length (Ah .u8 b)]=some ⟨[.agg (X9 b (Ac2 b)).1.cells,.sc (.int .i64 (X9 b (Ac2 b)).2)],[]⟩:=by
 refine (We fu (d+14) b.length (Ah .u8 b)).trans ?_;have dec:=Auq (fu:=fu) (d:=d) hfu hb hl;have fi:=Qb hb 10 0 false Cy 0 [] (by omega) (by simp) (by simp)
 have hox:∀x∈(Ac2 b).1,OkX x:=by
  unfold Ac2;split
  ·intro x hx;simp at hx
  ·intro x hx;exact (fi.all x hx).1
 have hat:(Ac2 b).2.1<=b.length:=by
  unfold Ac2;split
  ·simp
  ·exact fi.at_
 clear fi;generalize Ac2 b=r at dec hat hox ⊢;obtain ⟨its,used,e⟩:=r;simp only at hat hox;unfold Abz at dec;simp only at dec;unfold X9;simp only;by_cases h5:b.length>512
 ·rw [Bm h5]
  try unfold Aa
  repeat first
   |((with_reducible first|apply At|apply Aj|apply As|apply Az|apply A5|apply Bb|apply B9|apply Ai);· first|with_reducible rfl|(simp (disch:=omega) only [Bj]<;>with_reducible rfl))
   |((with_reducible first|apply Ar|apply Au);· first|with_reducible rfl|omega|(simp (disch:=omega) only [gT,Bj]<;>omega))
   |(with_reducible apply Aw;· first|with_reducible rfl|(simp (disch:=omega) only [gF,Bj]<;>omega))
  try simp (disch:=omega) only [Bj]
  all_goals rfl
 rw [A0 h5];by_cases he:e=0
 rotate_left
 ·rw [Bm he];have he':(e != 0)=true:=by simp [he]
  try unfold Aa
  repeat first
   |((with_reducible first|apply At|apply Aj|apply As|apply Az|apply A5|apply Bb|apply B9|apply Ai);· first|with_reducible rfl|(simp (disch:=omega) only [dec,he']<;>with_reducible rfl))
   |((with_reducible first|apply Ar|apply Au);· first|with_reducible rfl|omega|(simp (disch:=omega) only [gT,dec,he']<;>omega))
   |(with_reducible apply Aw;· first|with_reducible rfl|(simp (disch:=omega) only [gF,dec,he']<;>omega))
  try simp (disch:=omega) only [dec,he']
  all_goals rfl
 rw [A0 (by simp [he])]
 subst he;have e00:((0:Int) != 0)=false:=rfl;have e20:((2:Int) != 0)=true:=rfl;have LT:=Ej its;have tT:List.take (its.length*3) (Bn its)=Bn its:=Iv (by omega)
 by_cases h10:its.length=10
 rotate_left
 ·rw [Bm h10];have hne:((its.length:Int) != 10)=true:=by simp;omega
  try unfold Aa
  repeat first
   |((with_reducible first|apply At|apply Aj|apply As|apply Az|apply A5|apply Bb|apply B9|apply Ai);· first|with_reducible rfl|(simp (disch:=omega) only [dec,e00,Cf,Bw,LT,tT,hne,Bs,B4]<;>with_reducible rfl))
   |((with_reducible first|apply Ar|apply Au);· first|with_reducible rfl|omega|(simp (disch:=omega) only [gT,dec,e00,Cf,Bw,LT,tT,hne,Bs,B4]<;>omega))
   |(with_reducible apply Aw;· first|with_reducible rfl|(simp (disch:=omega) only [gF,dec,e00,Cf,Bw,LT,tT,hne,Bs,B4]<;>omega))
  try simp (disch:=omega) only [dec,e00,Cf,Bw,LT,tT,hne,Bs,B4]
  all_goals rfl
 rw [A0 (by simp [h10])]
 obtain ⟨x0,x1,x2,x3,x4,x5,x6,x7,x8,x9,rfl⟩:=Aqq h10;have o1:=hox x1 (by simp)
 have o2:=hox x2 (by simp)
 have o3:=hox x3 (by simp)
 have o4:=hox x4 (by simp)
 have o9:=hox x9 (by simp)
 clear hox;have g0:List.getD (Bn [x0,x1,x2,x3,x4,x5,x6,x7,x8,x9]) 0 .top=.sc (.int .i64 x0.k):=rfl;have g1:List.getD (Bn [x0,x1,x2,x3,x4,x5,x6,x7,x8,x9]) 1 .top=.sc (.int .u64 x0.n):=rfl;have g2:List.getD (Bn [x0,x1,x2,x3,x4,x5,x6,x7,x8,x9]) 2 .top=.sc (.string x0.s):=rfl;have g14:List.getD (Bn [x0,x1,x2,x3,x4,x5,x6,x7,x8,x9]) 14 .top=.sc (.string x4.s):=rfl;have g5:List.getD (Bn [x0,x1,x2,x3,x4,x5,x6,x7,x8,x9]) 5 .top=.sc (.string x1.s):=rfl;have g8:List.getD (Bn [x0,x1,x2,x3,x4,x5,x6,x7,x8,x9]) 8 .top=.sc (.string x2.s):=rfl;have g10:List.getD (Bn [x0,x1,x2,x3,x4,x5,x6,x7,x8,x9]) 10 .top=.sc (.int .u64 x3.n):=rfl;have g16:List.getD (Bn [x0,x1,x2,x3,x4,x5,x6,x7,x8,x9]) 16 .top=.sc (.int .u64 x5.n):=rfl;have g19:List.getD (Bn [x0,x1,x2,x3,x4,x5,x6,x7,x8,x9]) 19 .top=.sc (.int .u64 x6.n):=rfl
 have g22:List.getD (Bn [x0,x1,x2,x3,x4,x5,x6,x7,x8,x9]) 22 .top=.sc (.int .u64 x7.n):=rfl;have g25:List.getD (Bn [x0,x1,x2,x3,x4,x5,x6,x7,x8,x9]) 25 .top=.sc (.int .u64 x8.n):=rfl;have g28:List.getD (Bn [x0,x1,x2,x3,x4,x5,x6,x7,x8,x9]) 28 .top=.sc (.int .u64 x9.n):=rfl;have ln:[x0,x1,x2,x3,x4,x5,x6,x7,x8,x9].length=10:=rfl;rw [ln] at dec LT tT;have l10:(((10:Nat):Int) != 10)=false:=rfl;generalize Bn [x0,x1,x2,x3,x4,x5,x6,x7,x8,x9]=T at *
 clear h10;have hs4:=o4.s1;have L4:(Co x4.s).length=x4.s.size:=by rw [Fh,Al,C3]
 have t4:List.take x4.s.size (Co x4.s)=Ah .u8 (Bv x4.s):=by rw [Fh,Iv (by rw [Al,C3];omega)]
 have ar:=Ame (fu:=fu) (d:=d+13) 9 (by omega) (by omega)
 have dk:=Aif (fu:=fu) (d:=d+12) hfu (Q5 x4.s);rw [C3] at dk;unfold Aw0;simp only;have ea:(x0.k==5&&(x0.n==9&&(x0.s==ByteArray.mk #[]&&true)))=A21 x0:=rfl;cases ha:A21 x0
 ·rw [ha] at ea;rw [Bm rfl]
  try unfold Aa
  repeat first
   |((with_reducible first|apply At|apply Aj|apply As|apply Az|apply A5|apply Bb|apply B9|apply Ai);· first|with_reducible rfl|(simp (disch:=omega) only [dec,e00,e20,l10,Cf,Bw,Bj,Nat.reduceMul,LT,tT,g0,g1,g2,ar,ea,Bs,B4]<;>with_reducible rfl))
   |((with_reducible first|apply Ar|apply Au);· first|with_reducible rfl|omega|(simp (disch:=omega) only [gT,dec,e00,e20,l10,Cf,Bw,Bj,Nat.reduceMul,LT,tT,g0,g1,g2,ar,ea,Bs,B4]<;>omega))
   |(with_reducible apply Aw;· first|with_reducible rfl|(simp (disch:=omega) only [gF,dec,e00,e20,l10,Cf,Bw,Bj,Nat.reduceMul,LT,tT,g0,g1,g2,ar,ea,Bs,B4]<;>omega))
  try simp (disch:=omega) only [dec,e00,e20,l10,Cf,Bw,Bj,Nat.reduceMul,LT,tT,g0,g1,g2,ar,ea,Bs,B4]
  all_goals rfl
 rw [ha] at ea;rw [A0 (by simp)]
 cases hk:Zj (Bv x4.s) with
 |none=>
  rw [hk] at dk;simp only [Abl,Ky.cells] at dk
  try unfold Aa
  repeat first
   |((with_reducible first|apply At|apply Aj|apply As|apply Az|apply A5|apply Bb|apply B9|apply Ai);· first|with_reducible rfl|(simp (disch:=omega) only [dec,e00,e20,l10,Cf,Bw,Bj,Nat.reduceMul,LT,tT,g0,g1,g2,ar,ea,g14,L4,t4,dk,Bs,B4]<;>with_reducible rfl))
   |((with_reducible first|apply Ar|apply Au);· first|with_reducible rfl|omega|(simp (disch:=omega) only [gT,dec,e00,e20,l10,Cf,Bw,Bj,Nat.reduceMul,LT,tT,g0,g1,g2,ar,ea,g14,L4,t4,dk,Bs,B4]<;>omega))
   |(with_reducible apply Aw;· first|with_reducible rfl|(simp (disch:=omega) only [gF,dec,e00,e20,l10,Cf,Bw,Bj,Nat.reduceMul,LT,tT,g0,g1,g2,ar,ea,g14,L4,t4,dk,Bs,B4]<;>omega))
  try simp (disch:=omega) only [dec,e00,e20,l10,Cf,Bw,Bj,Nat.reduceMul,LT,tT,g0,g1,g2,ar,ea,g14,L4,t4,dk,Bs,B4]
  all_goals rfl
 |some k=>
  rw [hk] at dk;simp only [Abl,Ky.cells] at dk;obtain ⟨k1,k2⟩:=Aeg hk;have ds:=Auh (fu:=fu) (d:=d+12) hfu (l:=b.drop used) (fun x hx=>hb x (List.mem_of_mem_drop hx))
  rw [List.length_drop] at ds;have tb:List.take (b.length-used) (List.drop used (Ah .u8 b))=Ah .u8 (b.drop used):=by rw [Et,Iv (by rw [Al,List.length_drop];omega)]
  have nu:Int.toNat (used:Int)=used:=Hr used;cases hs:sgD (b.drop used) with
  |none=>
   rw [hs] at ds;simp only [Xe,Sg.owned] at ds
   try unfold Aa
   repeat first
    |((with_reducible first|apply At|apply Aj|apply As|apply Az|apply A5|apply Bb|apply B9|apply Ai);· first|with_reducible rfl|(simp (disch:=omega) only [dec,e00,e20,l10,Cf,Bw,Bj,Nat.reduceMul,LT,tT,g0,g1,g2,ar,ea,g14,L4,t4,dk,nu,tb,ds,Bs,B4]<;>with_reducible rfl))
    |((with_reducible first|apply Ar|apply Au);· first|with_reducible rfl|omega|(simp (disch:=omega) only [gT,dec,e00,e20,l10,Cf,Bw,Bj,Nat.reduceMul,LT,tT,g0,g1,g2,ar,ea,g14,L4,t4,dk,nu,tb,ds,Bs,B4]<;>omega))
    |(with_reducible apply Aw;· first|with_reducible rfl|(simp (disch:=omega) only [gF,dec,e00,e20,l10,Cf,Bw,Bj,Nat.reduceMul,LT,tT,g0,g1,g2,ar,ea,g14,L4,t4,dk,nu,tb,ds,Bs,B4]<;>omega))
   try simp (disch:=omega) only [dec,e00,e20,l10,Cf,Bw,Bj,Nat.reduceMul,LT,tT,g0,g1,g2,ar,ea,g14,L4,t4,dk,nu,tb,ds,Bs,B4]
   all_goals rfl
  |some s=>
   rw [hs] at ds;simp only [Xe,Sg.owned] at ds;obtain ⟨s1,s2,s3⟩:=Aie hs;simp only;by_cases n5:x5.n>1099511627776
   ·rw [Bm n5]
    try unfold Aa
    repeat first
     |((with_reducible first|apply At|apply Aj|apply As|apply Az|apply A5|apply Bb|apply B9|apply Ai);· first|with_reducible rfl|(simp (disch:=omega) only [dec,e00,e20,l10,Cf,Bw,Bj,Nat.reduceMul,LT,tT,g0,g1,g2,ar,ea,g14,L4,t4,dk,nu,tb,ds,g16,Bs,B4]<;>with_reducible rfl))
     |((with_reducible first|apply Ar|apply Au);· first|with_reducible rfl|omega|(simp (disch:=omega) only [gT,dec,e00,e20,l10,Cf,Bw,Bj,Nat.reduceMul,LT,tT,g0,g1,g2,ar,ea,g14,L4,t4,dk,nu,tb,ds,g16,Bs,B4]<;>omega))
     |(with_reducible apply Aw;· first|with_reducible rfl|(simp (disch:=omega) only [gF,dec,e00,e20,l10,Cf,Bw,Bj,Nat.reduceMul,LT,tT,g0,g1,g2,ar,ea,g14,L4,t4,dk,nu,tb,ds,g16,Bs,B4]<;>omega))
    try simp (disch:=omega) only [dec,e00,e20,l10,Cf,Bw,Bj,Nat.reduceMul,LT,tT,g0,g1,g2,ar,ea,g14,L4,t4,dk,nu,tb,ds,g16,Bs,B4]
    all_goals rfl
   rw [A0 n5];by_cases n6:x6.n>1099511627776
   ·rw [Bm n6]
    try unfold Aa
    repeat first
     |((with_reducible first|apply At|apply Aj|apply As|apply Az|apply A5|apply Bb|apply B9|apply Ai);· first|with_reducible rfl|(simp (disch:=omega) only [dec,e00,e20,l10,Cf,Bw,Bj,Nat.reduceMul,LT,tT,g0,g1,g2,ar,ea,g14,L4,t4,dk,nu,tb,ds,g16,g19,Bs,B4]<;>with_reducible rfl))
     |((with_reducible first|apply Ar|apply Au);· first|with_reducible rfl|omega|(simp (disch:=omega) only [gT,dec,e00,e20,l10,Cf,Bw,Bj,Nat.reduceMul,LT,tT,g0,g1,g2,ar,ea,g14,L4,t4,dk,nu,tb,ds,g16,g19,Bs,B4]<;>omega))
     |(with_reducible apply Aw;· first|with_reducible rfl|(simp (disch:=omega) only [gF,dec,e00,e20,l10,Cf,Bw,Bj,Nat.reduceMul,LT,tT,g0,g1,g2,ar,ea,g14,L4,t4,dk,nu,tb,ds,g16,g19,Bs,B4]<;>omega))
    try simp (disch:=omega) only [dec,e00,e20,l10,Cf,Bw,Bj,Nat.reduceMul,LT,tT,g0,g1,g2,ar,ea,g14,L4,t4,dk,nu,tb,ds,g16,g19,Bs,B4]
    all_goals rfl
   rw [A0 n6];by_cases n8:x8.n>2
   ·rw [Bm n8]
    try unfold Aa
    repeat first
     |((with_reducible first|apply At|apply Aj|apply As|apply Az|apply A5|apply Bb|apply B9|apply Ai);· first|with_reducible rfl|(simp (disch:=omega) only [dec,e00,e20,l10,Cf,Bw,Bj,Nat.reduceMul,LT,tT,g0,g1,g2,ar,ea,g14,L4,t4,dk,nu,tb,ds,g16,g19,g25,Bs,B4]<;>with_reducible rfl))
     |((with_reducible first|apply Ar|apply Au);· first|with_reducible rfl|omega|(simp (disch:=omega) only [gT,dec,e00,e20,l10,Cf,Bw,Bj,Nat.reduceMul,LT,tT,g0,g1,g2,ar,ea,g14,L4,t4,dk,nu,tb,ds,g16,g19,g25,Bs,B4]<;>omega))
     |(with_reducible apply Aw;· first|with_reducible rfl|(simp (disch:=omega) only [gF,dec,e00,e20,l10,Cf,Bw,Bj,Nat.reduceMul,LT,tT,g0,g1,g2,ar,ea,g14,L4,t4,dk,nu,tb,ds,g16,g19,g25,Bs,B4]<;>omega))
    try simp (disch:=omega) only [dec,e00,e20,l10,Cf,Bw,Bj,Nat.reduceMul,LT,tT,g0,g1,g2,ar,ea,g14,L4,t4,dk,nu,tb,ds,g16,g19,g25,Bs,B4]
    all_goals rfl
   rw [A0 n8];have cok:(Gq x1 x2 x3 x5 x6 x7 x8 x9 k s).ok:=Wy o3 o9 k2 s1;have en:=Avr (fu:=fu) (d:=d+8) (c:=Gq x1 x2 x3 x5 x6 x7 x8 x9 k s) hfu cok.wf (Nat.le_trans o1.s1 (by omega)) (Nat.le_trans o2.s1 (by omega)) (Nat.le_trans s2 (by omega))
   have ec:(Gq x1 x2 x3 x5 x6 x7 x8 x9 k s).cells=[.sc (.string x1.s),.sc (.string x2.s),.sc (.int .u64 x3.n),.sc (.int .i64 k.h),.sc (.int .u64 k.root),.sc (.int .i64 (IntKind.wrap .i64 x5.n)),.sc (.int .i64 (IntKind.wrap .i64 x6.n)),.sc (.bool (x7.n==1)),.sc (.int .i64 (IntKind.wrap .i64 x8.n)),.sc (.int .u64 x9.n),.sc (.int .i64 s.leaf),.lst false 1 s.chains.length (Ah .u64 s.chains),.lst false 1 s.path.length (Ah .u64 s.path)]:=rfl;have eB:=fun h=>At2 (c:=Gq x1 x2 x3 x5 x6 x7 x8 x9 k s) cok.wf h
   have eL:=fun h=>Adk (c:=Gq x1 x2 x3 x5 x6 x7 x8 x9 k s) h
   have Lc:=Al .u64 s.chains;have Lp:=Al .u64 s.path;have tc:=Gs .u64 s.chains;have tp:=Gs .u64 s.path;generalize Gq x1 x2 x3 x5 x6 x7 x8 x9 k s=c at *
   rw [ec] at en;unfold Abp at en;by_cases hz:Dp c=0
   rotate_left
   ·have hz':(Dp c != 0)=true:=by simp [hz]
    rw [A0 hz] at en;rw [A0 (fun h=>hz h.1)]
    try unfold Aa
    repeat first
     |((with_reducible first|apply At|apply Aj|apply As|apply Az|apply A5|apply Bb|apply B9|apply Ai);· first|with_reducible rfl|(simp (disch:=omega) only [dec,e00,e20,l10,Cf,Bw,Bj,Nat.reduceMul,LT,tT,g0,g1,g2,ar,ea,g14,L4,t4,dk,nu,tb,ds,g5,g8,g10,g16,g19,g22,g25,g28,Lc,Lp,tc,tp,en,hz',Bs,B4]<;>with_reducible rfl))
     |((with_reducible first|apply Ar|apply Au);· first|with_reducible rfl|omega|(simp (disch:=omega) only [gT,dec,e00,e20,l10,Cf,Bw,Bj,Nat.reduceMul,LT,tT,g0,g1,g2,ar,ea,g14,L4,t4,dk,nu,tb,ds,g5,g8,g10,g16,g19,g22,g25,g28,Lc,Lp,tc,tp,en,hz',Bs,B4]<;>omega))
     |(with_reducible apply Aw;· first|with_reducible rfl|(simp (disch:=omega) only [gF,dec,e00,e20,l10,Cf,Bw,Bj,Nat.reduceMul,LT,tT,g0,g1,g2,ar,ea,g14,L4,t4,dk,nu,tb,ds,g5,g8,g10,g16,g19,g22,g25,g28,Lc,Lp,tc,tp,en,hz',Bs,B4]<;>omega))
    try simp (disch:=omega) only [dec,e00,e20,l10,Cf,Bw,Bj,Nat.reduceMul,LT,tT,g0,g1,g2,ar,ea,g14,L4,t4,dk,nu,tb,ds,g5,g8,g10,g16,g19,g22,g25,g28,Lc,Lp,tc,tp,en,hz',Bs,B4]
    all_goals rfl
   rw [Bm hz] at en;have be:=Bad (eB hz) hb;have LE:=Al .u8 (El c);have tE:=Gs .u8 (El c);have oE:=Fk (El c);have LB:=Al .u8 b;have oB:=Fk b;by_cases hq:El c=b
   ·rw [Bm ⟨hz,hq⟩];simp only [hq,decide_true] at be en LE tE oE;simp only [ec]
    try unfold Aa
    repeat first
     |((with_reducible first|apply At|apply Aj|apply As|apply Az|apply A5|apply Bb|apply B9|apply Ai);· first|with_reducible rfl|(simp (disch:=omega) only [dec,e00,e20,l10,Cf,Bw,Bj,Nat.reduceMul,LT,tT,g0,g1,g2,ar,ea,g14,L4,t4,dk,nu,tb,ds,g5,g8,g10,g16,g19,g22,g25,g28,Lc,Lp,tc,tp,en,LE,tE,oE,LB,oB,be,Bs,B4]<;>with_reducible rfl))
     |((with_reducible first|apply Ar|apply Au);· first|with_reducible rfl|omega|(simp (disch:=omega) only [gT,dec,e00,e20,l10,Cf,Bw,Bj,Nat.reduceMul,LT,tT,g0,g1,g2,ar,ea,g14,L4,t4,dk,nu,tb,ds,g5,g8,g10,g16,g19,g22,g25,g28,Lc,Lp,tc,tp,en,LE,tE,oE,LB,oB,be,Bs,B4]<;>omega))
     |(with_reducible apply Aw;· first|with_reducible rfl|(simp (disch:=omega) only [gF,dec,e00,e20,l10,Cf,Bw,Bj,Nat.reduceMul,LT,tT,g0,g1,g2,ar,ea,g14,L4,t4,dk,nu,tb,ds,g5,g8,g10,g16,g19,g22,g25,g28,Lc,Lp,tc,tp,en,LE,tE,oE,LB,oB,be,Bs,B4]<;>omega))
    try simp (disch:=omega) only [dec,e00,e20,l10,Cf,Bw,Bj,Nat.reduceMul,LT,tT,g0,g1,g2,ar,ea,g14,L4,t4,dk,nu,tb,ds,g5,g8,g10,g16,g19,g22,g25,g28,Lc,Lp,tc,tp,en,LE,tE,oE,LB,oB,be,Bs,B4]
    all_goals rfl
   ·rw [A0 (fun h=>hq h.2)]
    simp only [hq,decide_false] at be
    try unfold Aa
    repeat first
     |((with_reducible first|apply At|apply Aj|apply As|apply Az|apply A5|apply Bb|apply B9|apply Ai);· first|with_reducible rfl|(simp (disch:=omega) only [dec,e00,e20,l10,Cf,Bw,Bj,Nat.reduceMul,LT,tT,g0,g1,g2,ar,ea,g14,L4,t4,dk,nu,tb,ds,g5,g8,g10,g16,g19,g22,g25,g28,Lc,Lp,tc,tp,en,LE,tE,oE,LB,oB,be,Bs,B4]<;>with_reducible rfl))
     |((with_reducible first|apply Ar|apply Au);· first|with_reducible rfl|omega|(simp (disch:=omega) only [gT,dec,e00,e20,l10,Cf,Bw,Bj,Nat.reduceMul,LT,tT,g0,g1,g2,ar,ea,g14,L4,t4,dk,nu,tb,ds,g5,g8,g10,g16,g19,g22,g25,g28,Lc,Lp,tc,tp,en,LE,tE,oE,LB,oB,be,Bs,B4]<;>omega))
     |(with_reducible apply Aw;· first|with_reducible rfl|(simp (disch:=omega) only [gF,dec,e00,e20,l10,Cf,Bw,Bj,Nat.reduceMul,LT,tT,g0,g1,g2,ar,ea,g14,L4,t4,dk,nu,tb,ds,g5,g8,g10,g16,g19,g22,g25,g28,Lc,Lp,tc,tp,en,LE,tE,oE,LB,oB,be,Bs,B4]<;>omega))
    try simp (disch:=omega) only [dec,e00,e20,l10,Cf,Bw,Bj,Nat.reduceMul,LT,tT,g0,g1,g2,ar,ea,g14,L4,t4,dk,nu,tb,ds,g5,g8,g10,g16,g19,g22,g25,g28,Lc,Lp,tc,tp,en,LE,tE,oE,LB,oB,be,Bs,B4]
    all_goals rfl
theorem A2l (hfu:1000<=fu){b:List Int}(hb:Hf b)(hl:b.length<=1000000):
  Ae C0 Tryz.prog fu (d+15) H1 [.lst false 1 b.length (Ah .u8 b)]=some ⟨[.agg (Ku b).1.cells,.sc (.int .i64 (Ku b).2)],[]⟩:=by
 have fi:=Qb hb 10 0 false Cy 0 [] (by omega) (by simp) (by simp)
 have e:X9 b (Ac2 b)=Ku b:=Axp hb (by
  unfold Ac2;split
  ·intro x hx;simp at hx
  ·intro x hx;exact (fi.all x hx).1) (fun c c1 c2 c3=>by subst c3;exact Ayf c1 c2)
 rw [←e];exact Auk hfu hb hl
end
end
section
structure An where
 name:ByteArray
 key:Ky
structure Rv where
 iss:ByteArray
 ser:Int
 at_:Int
def An.cells (a:An):List PV:=[.sc (.string a.name),.sc (.int .i64 a.key.h),.sc (.int .u64 a.key.root)]
def Rv.cells (r:Rv):List PV:=[.sc (.string r.iss),.sc (.int .u64 r.ser),.sc (.int .i64 r.at_)]
def Ic (l:List An):List PV:=l.flatMap An.cells
def Kd (l:List Rv):List PV:=l.flatMap Rv.cells
def D2 (l:List Ce):List PV:=l.flatMap Ce.cells
theorem An.cells_len (a:An):a.cells.length=3:=rfl
theorem Rv.cells_len (r:Rv):r.cells.length=3:=rfl
theorem Ce.cells_len (c:Ce):c.cells.length=13:=rfl
theorem An8 (l:List Ce):(D2 l).length=l.length*13:=Air Ce.cells_len l
abbrev eqS (a b:ByteArray):Bool:=Array.toList (ByteArray.data a)==Array.toList (ByteArray.data b)
def Ao7 (c:Ce)(now:Int)(r:Rv):Bool:=eqS r.iss c.iss&&(r.ser==c.serial&&decide (r.at_<=now))
def Aow (c:Ce)(now:Int)(l:List Rv):Int:=if l.any (Ao7 c now)=true then 39 else 0
def P6 (c:Ce)(i:Int)(l:List Rv)(now:Int):Int:=
 if Bf c≠0 then Bf c else if now<c.fr then 38 else if now>c.un then 38 else if i>0 then (if c.auth=false then 38 else if c.path<i-1 then 38 else Aow c now l) else Aow c now l
def Rf (c:Ce):Nat->List An->Int
 |_,[]=> -1
 |i,a::r=>if eqS a.name c.iss=true∧Ok c a.key=0 then (i:Int) else Rf c (i+1) r
def Aqk (c:Ce)(l:List An):Int × Int:=if Rf c 0 l<0 then (0,38) else (Rf c 0 l,0)
def Ain (ans:List An)(vs:List Rv)(now:Int):Nat->List Ce->Int × Int
 |_,[]=>(0,0)
 |i,[c]=>if P6 c i vs now≠0 then (0,P6 c i vs now) else Aqk c ans
 |i,c::c2::r=>if P6 c i vs now≠0 then (0,P6 c i vs now) else if eqS c.iss c2.subj=false then (0,38) else if Ok c c2.key≠0 then (0,Ok c c2.key) else Ain ans vs now (i+1) (c2::r)
def Ry (cs:List Ce)(ans:List An)(vs:List Rv)(now:Int):Int × Int:=
 if now<0 then (0,9) else if now>1099511627776 then (0,9) else if cs.length<1 then (0,38) else if cs.length>3 then (0,38) else Ain ans vs now 0 cs
structure Ce.in_ (c:Ce):Prop where
 wf:c.wf
 s1:c.subj.size<=9223372036854775807
 s2:c.iss.size<=9223372036854775807
theorem cer {l:List Ce}{i:Nat}{c:Ce}(h:l[i]?=some c):
  (D2 l).getD (i*13) .top=.sc (.string c.subj)∧(D2 l).getD (i*13+1) .top=.sc (.string c.iss)∧(D2 l).getD (i*13+1+1) .top=.sc (.int .u64 c.serial) ∧
  (D2 l).getD (i*13+1+1+1) .top=.sc (.int .i64 c.key.h)∧(D2 l).getD (i*13+1+1+1+1) .top=.sc (.int .u64 c.key.root)∧(D2 l).getD (i*13+1+1+1+1+1) .top=.sc (.int .i64 c.fr) ∧
  (D2 l).getD (i*13+1+1+1+1+1+1) .top=.sc (.int .i64 c.un)∧(D2 l).getD (i*13+1+1+1+1+1+1+1) .top=.sc (.bool c.auth)∧(D2 l).getD (i*13+1+1+1+1+1+1+1+1) .top=.sc (.int .i64 c.path) ∧
  (D2 l).getD (i*13+1+1+1+1+1+1+1+1+1) .top=.sc (.int .u64 c.model)∧(D2 l).getD (i*13+1+1+1+1+1+1+1+1+1+1) .top=.sc (.int .i64 c.sig.leaf) ∧
  (D2 l).getD (i*13+1+1+1+1+1+1+1+1+1+1+1) .top=.lst false 1 c.sig.chains.length (Ah .u64 c.sig.chains)∧(D2 l).getD (i*13+1+1+1+1+1+1+1+1+1+1+1+1) .top=.lst false 1 c.sig.path.length (Ah .u64 c.sig.path):=
 ⟨Ep Ce.cells_len h (j:=0) (by omega),Ep Ce.cells_len h (j:=1) (by omega),Ep Ce.cells_len h (j:=2) (by omega),Ep Ce.cells_len h (j:=3) (by omega),Ep Ce.cells_len h (j:=4) (by omega),Ep Ce.cells_len h (j:=5) (by omega),Ep Ce.cells_len h (j:=6) (by omega),Ep Ce.cells_len h (j:=7) (by omega),Ep Ce.cells_len h (j:=8) (by omega),Ep Ce.cells_len h (j:=9) (by omega),Ep Ce.cells_len h (j:=10) (by omega),Ep Ce.cells_len h (j:=11) (by omega),Ep Ce.cells_len h (j:=12) (by omega)⟩
theorem rva {l:List Rv}{i:Nat}{r:Rv}(h:l[i]?=some r):(Kd l).getD (i*3) .top=.sc (.string r.iss)∧(Kd l).getD (i*3+1) .top=.sc (.int .u64 r.ser)∧(Kd l).getD (i*3+2) .top=.sc (.int .i64 r.at_):=
 ⟨Ep Rv.cells_len h (j:=0) (by omega),Ep Rv.cells_len h (j:=1) (by omega),Ep Rv.cells_len h (j:=2) (by omega)⟩
theorem ana {l:List An}{i:Nat}{a:An}(h:l[i]?=some a):(Ic l).getD (i*3) .top=.sc (.string a.name)∧(Ic l).getD (i*3+1) .top=.sc (.int .i64 a.key.h)∧(Ic l).getD (i*3+2) .top=.sc (.int .u64 a.key.root):=
 ⟨Ep An.cells_len h (j:=0) (by omega),Ep An.cells_len h (j:=1) (by omega),Ep An.cells_len h (j:=2) (by omega)⟩
section
variable {fu d:Nat}
theorem Anc {call:Am}{a0_0 a0_1:ByteArray}{a0_2 a0_3 a0_4 a0_5 a0_6 a0_8 a0_9 a0_10 a1 a3:Int}{a0_7:Bool}{a0_11n a0_12n a2n:Nat}{a0_11 a0_12 a2:List PV}{c:Ce}{now:Int}{vs:List Rv}(hl:vs.length<=1000000):∀(r:List Rv)(i nn:Nat),vs.drop i=r->r.length<nn->i<=vs.length ->
  C2 fu call a0_0 a0_1 a0_2 a0_3 a0_4 a0_5 a0_6 a0_7 a0_8 a0_9 a0_10 a0_11n a0_11 a0_12n a0_12 a1 a2n a2 a3 nn now vs.length (Kd vs) (vs.length:Int) (i:Int) c.subj c.iss c.serial c.key.h c.key.root c.fr c.un c.auth c.path c.model c.sig.leaf c.sig.chains.length (Ah .u64 c.sig.chains) c.sig.path.length (Ah .u64 c.sig.path) =
   some ⟨[.sc (.int .i64 (Aow c now r))],[]⟩
 |_,_,0,_,h,_=>by omega
 |[],i,nn+1,h,hn,hi=>by
  have:=drop_nil h;rw [Il,Dw _ _ _ (by omega)]
  rfl
 |r::rs,i,nn+1,h,hn,hi=>by
  obtain ⟨h1,h2,h3⟩:=Ct h;simp only [Iw] at hn;obtain ⟨c0,c1,c2⟩:=rva h2;have w:IntKind.wrap .i64 ((i:Int)+1)=((i+1:Nat):Int):=by rw [Ap (by omega) (by omega)];omega
  have nt:Int.toNat (i:Int)=i:=Hr _;have c2':(Kd vs).getD (i*3+1+1) .top=.sc (.int .i64 r.at_):=c2;have ih:=Anc (call:=call) (a0_0:=a0_0) (a0_1:=a0_1) (a0_2:=a0_2) (a0_3:=a0_3) (a0_4:=a0_4) (a0_5:=a0_5) (a0_6:=a0_6) (a0_7:=a0_7) (a0_8:=a0_8) (a0_9:=a0_9) (a0_10:=a0_10) (a1:=a1) (a3:=a3) (a0_11n:=a0_11n) (a0_12n:=a0_12n) (a2n:=a2n) (a0_11:=a0_11) (a0_12:=a0_12) (a2:=a2) (c:=c) (now:=now) hl rs (i+1) nn h3 (by omega) (by omega)
  have er:Aow c now (r::rs)=if Ao7 c now r=true then 39 else Aow c now rs:=by
   unfold Aow;rw [List.any_cons];cases Ao7 c now r<;>rfl
  rw [er,Il];unfold Ao7;cases e1:eqS r.iss c.iss
  ·rw [Bool.false_and,A0 (by simp),←ih]
   try unfold Aa
   repeat first
    |((with_reducible first|apply At|apply Aj|apply As|apply Ax|apply Az|apply A5|apply Cm|apply Ai);· first|with_reducible rfl|(simp (disch:=omega) only [nt,c0,c1,c2',e1,w]<;>with_reducible rfl))
    |((with_reducible first|apply Ar|apply Au);· first|with_reducible rfl|omega|(simp (disch:=omega) only [gT,nt,c0,c1,c2',e1,w]<;>omega))
    |(with_reducible apply Aw;· first|with_reducible rfl|(simp (disch:=omega) only [gF,nt,c0,c1,c2',e1,w]<;>omega))
   try simp (disch:=omega) only [nt,c0,c1,c2',e1,w]
   all_goals rfl
  ·cases e2:(r.ser==c.serial)
   ·rw [Zzm,Bool.false_and,A0 (by simp),←ih]
    try unfold Aa
    repeat first
     |((with_reducible first|apply At|apply Aj|apply As|apply Ax|apply Az|apply A5|apply Cm|apply Ai);· first|with_reducible rfl|(simp (disch:=omega) only [nt,c0,c1,c2',e1,e2,w]<;>with_reducible rfl))
     |((with_reducible first|apply Ar|apply Au);· first|with_reducible rfl|omega|(simp (disch:=omega) only [gT,nt,c0,c1,c2',e1,e2,w]<;>omega))
     |(with_reducible apply Aw;· first|with_reducible rfl|(simp (disch:=omega) only [gF,nt,c0,c1,c2',e1,e2,w]<;>omega))
    try simp (disch:=omega) only [nt,c0,c1,c2',e1,e2,w]
    all_goals rfl
   ·by_cases e3:r.at_<=now
    ·rw [Bm (by simp [e3])]
     try unfold Aa
     repeat first
      |((with_reducible first|apply At|apply Aj|apply As|apply Ax|apply Az|apply A5|apply Cm|apply Ai);· first|with_reducible rfl|(simp (disch:=omega) only [nt,c0,c1,c2',e1,e2,w]<;>with_reducible rfl))
      |((with_reducible first|apply Ar|apply Au);· first|with_reducible rfl|omega|(simp (disch:=omega) only [gT,nt,c0,c1,c2',e1,e2,w]<;>omega))
      |(with_reducible apply Aw;· first|with_reducible rfl|(simp (disch:=omega) only [gF,nt,c0,c1,c2',e1,e2,w]<;>omega))
     try simp (disch:=omega) only [nt,c0,c1,c2',e1,e2,w]
     all_goals rfl
    ·rw [A0 (by simp [e3]),←ih]
     try unfold Aa
     repeat first
      |((with_reducible first|apply At|apply Aj|apply As|apply Ax|apply Az|apply A5|apply Cm|apply Ai);· first|with_reducible rfl|(simp (disch:=omega) only [nt,c0,c1,c2',e1,e2,w]<;>with_reducible rfl))
      |((with_reducible first|apply Ar|apply Au);· first|with_reducible rfl|omega|(simp (disch:=omega) only [gT,nt,c0,c1,c2',e1,e2,w]<;>omega))
      |(with_reducible apply Aw;· first|with_reducible rfl|(simp (disch:=omega) only [gF,nt,c0,c1,c2',e1,e2,w]<;>omega))
     try simp (disch:=omega) only [nt,c0,c1,c2',e1,e2,w]
     all_goals rfl
theorem Avp (hfu:1000<=fu){c:Ce}(hc:c.in_){vs:List Rv}(hl:vs.length<=900){i:Int}(hi:0<=i)(hi':i<=1000)(now:Int):
  Ae C0 Tryz.prog fu (d+8) Kh [.agg c.cells,.sc (.int .i64 i),.lst false 3 vs.length (Kd vs),.sc (.int .i64 now)]=some ⟨[.sc (.int .i64 (P6 c i vs now))],[]⟩:=by
 refine (Uk fu (d+7) c.subj c.iss c.serial c.key.h c.key.root c.fr c.un c.auth c.path c.model c.sig.leaf c.sig.chains.length (Ah .u64 c.sig.chains) c.sig.path.length (Ah .u64 c.sig.path) i vs.length (Kd vs) now).trans ?_;have bq:=Ak3 (fu:=fu) (d:=d) hfu hc.wf hc.s1 hc.s2;simp only [Ce.cells] at bq;unfold Gx at bq;have lp:=Anc (fu:=fu) (call:=Ae C0 Tryz.prog fu (d+7)) (a0_0:=c.subj) (a0_1:=c.iss) (a0_2:=c.serial) (a0_3:=c.key.h) (a0_4:=c.key.root) (a0_5:=c.fr) (a0_6:=c.un) (a0_7:=c.auth) (a0_8:=c.path) (a0_9:=c.model) (a0_10:=c.sig.leaf) (a1:=i) (a3:=now) (a0_11n:=c.sig.chains.length) (a0_12n:=c.sig.path.length) (a2n:=vs.length) (a0_11:=Ah .u64 c.sig.chains) (a0_12:=Ah .u64 c.sig.path) (a2:=Kd vs) (c:=c) (now:=now) (vs:=vs) (by omega) vs 0 fu rfl (by omega) (by omega)
 unfold P6;by_cases h0:Bf c=0
 rotate_left
 ·have hne:(Bf c != 0)=true:=by simp [h0]
  rw [A0 h0] at bq;rw [Bm h0]
  try unfold Aa
  repeat first
   |((with_reducible first|apply At|apply Aj|apply As|apply Ax|apply Az|apply A5|apply Cm|apply Ai);· first|with_reducible rfl|(simp (disch:=omega) only [bq,hne]<;>with_reducible rfl))
   |((with_reducible first|apply Ar|apply Au);· first|with_reducible rfl|omega|(simp (disch:=omega) only [gT,bq,hne]<;>omega))
   |(with_reducible apply Aw;· first|with_reducible rfl|(simp (disch:=omega) only [gF,bq,hne]<;>omega))
  try simp (disch:=omega) only [bq,hne]
  all_goals rfl
 rw [Bm h0] at bq;rw [A0 (by simp [h0])]
 have e00:((0:Int) != 0)=false:=rfl;have w:IntKind.wrap .i64 (i-1)=i-1:=Ap (by omega) (by omega)
 by_cases h1:now<c.fr
 ·rw [Bm h1]
  try unfold Aa
  repeat first
   |((with_reducible first|apply At|apply Aj|apply As|apply Ax|apply Az|apply A5|apply Cm|apply Ai);· first|with_reducible rfl|(simp (disch:=omega) only [bq,e00]<;>with_reducible rfl))
   |((with_reducible first|apply Ar|apply Au);· first|with_reducible rfl|omega|(simp (disch:=omega) only [gT,bq,e00]<;>omega))
   |(with_reducible apply Aw;· first|with_reducible rfl|(simp (disch:=omega) only [gF,bq,e00]<;>omega))
  try simp (disch:=omega) only [bq,e00]
  all_goals rfl
 rw [A0 h1];by_cases h2:now>c.un
 ·rw [Bm h2]
  try unfold Aa
  repeat first
   |((with_reducible first|apply At|apply Aj|apply As|apply Ax|apply Az|apply A5|apply Cm|apply Ai);· first|with_reducible rfl|(simp (disch:=omega) only [bq,e00]<;>with_reducible rfl))
   |((with_reducible first|apply Ar|apply Au);· first|with_reducible rfl|omega|(simp (disch:=omega) only [gT,bq,e00]<;>omega))
   |(with_reducible apply Aw;· first|with_reducible rfl|(simp (disch:=omega) only [gF,bq,e00]<;>omega))
  try simp (disch:=omega) only [bq,e00]
  all_goals rfl
 rw [A0 h2];by_cases h3:i>0
 ·rw [Bm h3];cases h4:c.auth
  ·rw [Bm rfl];rw [h4] at bq
   try unfold Aa
   repeat first
    |((with_reducible first|apply At|apply Aj|apply As|apply Ax|apply Az|apply A5|apply Cm|apply Ai);· first|with_reducible rfl|(simp (disch:=omega) only [bq,e00,B4]<;>with_reducible rfl))
    |((with_reducible first|apply Ar|apply Au);· first|with_reducible rfl|omega|(simp (disch:=omega) only [gT,bq,e00,B4]<;>omega))
    |(with_reducible apply Aw;· first|with_reducible rfl|(simp (disch:=omega) only [gF,bq,e00,B4]<;>omega))
   try simp (disch:=omega) only [bq,e00,B4]
   all_goals rfl
  ·rw [A0 (by simp)]
   rw [h4] at lp bq;by_cases h5:c.path<i-1
   ·rw [Bm h5]
    try unfold Aa
    repeat first
     |((with_reducible first|apply At|apply Aj|apply As|apply Ax|apply Az|apply A5|apply Cm|apply Ai);· first|with_reducible rfl|(simp (disch:=omega) only [bq,e00,h4,w,Bs]<;>with_reducible rfl))
     |((with_reducible first|apply Ar|apply Au);· first|with_reducible rfl|omega|(simp (disch:=omega) only [gT,bq,e00,h4,w,Bs]<;>omega))
     |(with_reducible apply Aw;· first|with_reducible rfl|(simp (disch:=omega) only [gF,bq,e00,h4,w,Bs]<;>omega))
    try simp (disch:=omega) only [bq,e00,h4,w,Bs]
    all_goals rfl
   ·rw [A0 h5,←lp]
    try unfold Aa
    repeat first
     |((with_reducible first|apply At|apply Aj|apply As|apply Ax|apply Az|apply A5|apply Cm|apply Ai);· first|with_reducible rfl|(simp (disch:=omega) only [bq,e00,h4,w,Bs]<;>with_reducible rfl))
     |((with_reducible first|apply Ar|apply Au);· first|with_reducible rfl|omega|(simp (disch:=omega) only [gT,bq,e00,h4,w,Bs]<;>omega))
     |(with_reducible apply Aw;· first|with_reducible rfl|(simp (disch:=omega) only [gF,bq,e00,h4,w,Bs]<;>omega))
    try simp (disch:=omega) only [bq,e00,h4,w,Bs]
    all_goals rfl
 ·rw [A0 h3,←lp]
  try unfold Aa
  repeat first
   |((with_reducible first|apply At|apply Aj|apply As|apply Ax|apply Az|apply A5|apply Cm|apply Ai);· first|with_reducible rfl|(simp (disch:=omega) only [bq,e00]<;>with_reducible rfl))
   |((with_reducible first|apply Ar|apply Au);· first|with_reducible rfl|omega|(simp (disch:=omega) only [gT,bq,e00]<;>omega))
   |(with_reducible apply Aw;· first|with_reducible rfl|(simp (disch:=omega) only [gF,bq,e00]<;>omega))
  try simp (disch:=omega) only [bq,e00]
  all_goals rfl
theorem Acs (hfu:1000<=fu){a0n a1n a2n:Nat}{a0 a1 a2:List PV}{a3:Int}{c:Ce}(hc:c.in_){ans:List An}(hl:ans.length<=1000000):∀(r:List An)(i nn:Nat),ans.drop i=r->r.length<nn->i<=ans.length ->
  Es fu (Ae C0 Tryz.prog fu (d+9)) a0n a0 a1n a1 a2n a2 a3 nn ans.length (Ic ans) (ans.length:Int) (i:Int) c.subj c.iss c.serial c.key.h c.key.root c.fr c.un c.auth c.path c.model c.sig.leaf c.sig.chains.length (Ah .u64 c.sig.chains) c.sig.path.length (Ah .u64 c.sig.path) =
   some ⟨(if Rf c i r<0 then [.sc (.int .i64 0),.sc (.int .i64 38)] else [.sc (.int .i64 (Rf c i r)),.sc (.int .i64 0)]),[]⟩
 |_,_,0,_,h,_=>by omega
 |[],i,nn+1,h,hn,hi=>by
  have:=drop_nil h;rw [Mq,Dw _ _ _ (by omega)]
  rfl
 |a::rs,i,nn+1,h,hn,hi=>by
  obtain ⟨h1,h2,h3⟩:=Ct h;simp only [Iw] at hn;obtain ⟨c0,c1,c2⟩:=ana h2;have w:IntKind.wrap .i64 ((i:Int)+1)=((i+1:Nat):Int):=by rw [Ap (by omega) (by omega)];omega
  have nt:Int.toNat (i:Int)=i:=Hr _;have c2':(Ic ans).getD (i*3+1+1) .top=.sc (.int .u64 a.key.root):=c2;have vq:=Arn (fu:=fu) (d:=d) hfu hc.wf hc.s1 hc.s2 a.key;simp only [Ce.cells,Ky.cells] at vq;have ih:=Acs hfu (a0n:=a0n) (a1n:=a1n) (a2n:=a2n) (a0:=a0) (a1:=a1) (a2:=a2) (a3:=a3) hc hl rs (i+1) nn h3 (by omega) (by omega)
  rw [Mq];cases e1:eqS a.name c.iss
  ·have er:Rf c i (a::rs)=Rf c (i+1) rs:=by rw [Rf,A0 (by simp [e1])]
   rw [er,←ih]
   try unfold Aa
   repeat first
    |((with_reducible first|apply At|apply Aj|apply As|apply Ax|apply Az|apply A5|apply Cm|apply Ai);· first|with_reducible rfl|(simp (disch:=omega) only [nt,c0,c1,c2',e1,w]<;>with_reducible rfl))
    |((with_reducible first|apply Ar|apply Au);· first|with_reducible rfl|omega|(simp (disch:=omega) only [gT,nt,c0,c1,c2',e1,w]<;>omega))
    |(with_reducible apply Aw;· first|with_reducible rfl|(simp (disch:=omega) only [gF,nt,c0,c1,c2',e1,w]<;>omega))
   try simp (disch:=omega) only [nt,c0,c1,c2',e1,w]
   all_goals rfl
  ·by_cases e2:Ok c a.key=0
   ·have e2':(Ok c a.key==0)=true:=by simp [e2]
    have er:Rf c i (a::rs)=(i:Int):=by rw [Rf,Bm ⟨e1,e2⟩]
    rw [er,A0 (by omega)]
    try unfold Aa
    repeat first
     |((with_reducible first|apply At|apply Aj|apply As|apply Ax|apply Az|apply A5|apply Cm|apply Ai);· first|with_reducible rfl|(simp (disch:=omega) only [nt,c0,c1,c2',e1,w,vq,e2']<;>with_reducible rfl))
     |((with_reducible first|apply Ar|apply Au);· first|with_reducible rfl|omega|(simp (disch:=omega) only [gT,nt,c0,c1,c2',e1,w,vq,e2']<;>omega))
     |(with_reducible apply Aw;· first|with_reducible rfl|(simp (disch:=omega) only [gF,nt,c0,c1,c2',e1,w,vq,e2']<;>omega))
    try simp (disch:=omega) only [nt,c0,c1,c2',e1,w,vq,e2']
    all_goals rfl
   ·have e2':(Ok c a.key==0)=false:=by simp [e2]
    have er:Rf c i (a::rs)=Rf c (i+1) rs:=by rw [Rf,A0 (by simp [e2])]
    rw [er,←ih]
    try unfold Aa
    repeat first
     |((with_reducible first|apply At|apply Aj|apply As|apply Ax|apply Az|apply A5|apply Cm|apply Ai);· first|with_reducible rfl|(simp (disch:=omega) only [nt,c0,c1,c2',e1,w,vq,e2']<;>with_reducible rfl))
     |((with_reducible first|apply Ar|apply Au);· first|with_reducible rfl|omega|(simp (disch:=omega) only [gT,nt,c0,c1,c2',e1,w,vq,e2']<;>omega))
     |(with_reducible apply Aw;· first|with_reducible rfl|(simp (disch:=omega) only [gF,nt,c0,c1,c2',e1,w,vq,e2']<;>omega))
    try simp (disch:=omega) only [nt,c0,c1,c2',e1,w,vq,e2']
    all_goals rfl
theorem Amj (hfu:1000<=fu){a0n a1n a2n:Nat}{a0 a1 a2:List PV}{a3:Int}{cs:List Ce}(hc:∀c∈cs,c.in_)(h3:cs.length<=3){ans:List An}(hl:ans.length<=900){vs:List Rv}(hv:vs.length<=900){now:Int}:∀(r:List Ce)(i nn:Nat),r≠[]->cs.drop i=r->r.length<nn->i<=cs.length ->
  G2 fu (Ae C0 Tryz.prog fu (d+9)) a0n a0 a1n a1 a2n a2 a3 nn cs.length (D2 cs) ans.length (Ic ans) vs.length (Kd vs) now cs.length (D2 cs) (cs.length:Int) (i:Int) =
   some ⟨[.sc (.int .i64 (Ain ans vs now i r).1),.sc (.int .i64 (Ain ans vs now i r).2)],[]⟩
 |_,_,0,_,_,h,_=>by omega
 |[],i,nn+1,hne,_,_,_=>absurd rfl hne
 |[c],i,nn+1,hne,h,hn,hi=>by
  obtain ⟨h1,h2,h3'⟩:=Ct h;have hlast:=drop_nil h3';have hci:=hc c (List.mem_of_getElem? h2);obtain ⟨c0,c1,c2,c3,c4,c5,c6,c7,c8,c9,c10,c11,c12⟩:=cer h2;have nt:Int.toNat (i:Int)=i:=Hr _;have lk:=Avp (fu:=fu) (d:=d+1) hfu hci hv (i:=(i:Int)) (by omega) (by omega) now
  simp only [Ce.cells] at lk;have w:IntKind.wrap .i64 ((cs.length:Int)-1)=(i:Int):=by rw [Ap (by omega) (by omega)];omega
  have eb:((i:Int)==(i:Int))=true:=by simp
  rw [Ma];unfold Ain;by_cases hz:P6 c i vs now=0
  ·have pa:=Acs (fu:=fu) (d:=d) hfu (a0n:=a0n) (a1n:=a1n) (a2n:=a2n) (a0:=a0) (a1:=a1) (a2:=a2) (a3:=a3) hci (ans:=ans) (by omega) ans 0 fu rfl (by omega) (by omega)
   have e0:(P6 c i vs now != 0)=false:=by simp [hz]
   have ea:(some ⟨(if Rf c 0 ans<0 then [.sc (.int .i64 0),.sc (.int .i64 38)] else [.sc (.int .i64 (Rf c 0 ans)),.sc (.int .i64 0)]),[]⟩:Option Ay)=some ⟨[.sc (.int .i64 (Aqk c ans).1),.sc (.int .i64 (Aqk c ans).2)],[]⟩:=by
    unfold Aqk;split<;>rfl
   rw [ea] at pa;rw [A0 (by simp [hz]),←pa]
   try unfold Aa
   repeat first
    |((with_reducible first|apply At|apply Aj|apply As|apply Ax|apply Az|apply A5|apply Cm|apply Ai);· first|with_reducible rfl|(simp (disch:=omega) only [nt,c0,c1,c2,c3,c4,c5,c6,c7,c8,c9,c10,c11,c12,lk,e0,w,eb]<;>with_reducible rfl))
    |((with_reducible first|apply Ar|apply Au);· first|with_reducible rfl|omega|(simp (disch:=omega) only [gT,nt,c0,c1,c2,c3,c4,c5,c6,c7,c8,c9,c10,c11,c12,lk,e0,w,eb]<;>omega))
    |(with_reducible apply Aw;· first|with_reducible rfl|(simp (disch:=omega) only [gF,nt,c0,c1,c2,c3,c4,c5,c6,c7,c8,c9,c10,c11,c12,lk,e0,w,eb]<;>omega))
   try simp (disch:=omega) only [nt,c0,c1,c2,c3,c4,c5,c6,c7,c8,c9,c10,c11,c12,lk,e0,w,eb]
   all_goals rfl
  ·have e0:(P6 c i vs now != 0)=true:=by simp [hz]
   rw [Bm hz]
   try unfold Aa
   repeat first
    |((with_reducible first|apply At|apply Aj|apply As|apply Ax|apply Az|apply A5|apply Cm|apply Ai);· first|with_reducible rfl|(simp (disch:=omega) only [nt,c0,c1,c2,c3,c4,c5,c6,c7,c8,c9,c10,c11,c12,lk,e0]<;>with_reducible rfl))
    |((with_reducible first|apply Ar|apply Au);· first|with_reducible rfl|omega|(simp (disch:=omega) only [gT,nt,c0,c1,c2,c3,c4,c5,c6,c7,c8,c9,c10,c11,c12,lk,e0]<;>omega))
    |(with_reducible apply Aw;· first|with_reducible rfl|(simp (disch:=omega) only [gF,nt,c0,c1,c2,c3,c4,c5,c6,c7,c8,c9,c10,c11,c12,lk,e0]<;>omega))
   try simp (disch:=omega) only [nt,c0,c1,c2,c3,c4,c5,c6,c7,c8,c9,c10,c11,c12,lk,e0]
   all_goals rfl
 |c::e::r,i,nn+1,hne,h,hn,hi=>by
  obtain ⟨h1,h2,h3'⟩:=Ct h;obtain ⟨k1,k2,k3⟩:=Ct h3';simp only [Iw] at hn;have hci:=hc c (List.mem_of_getElem? h2);obtain ⟨c0,c1,c2,c3,c4,c5,c6,c7,c8,c9,c10,c11,c12⟩:=cer h2;obtain ⟨q0,q1,q2,q3,q4,_⟩:=cer k2;have nt:Int.toNat (i:Int)=i:=Hr _;have nt1:Int.toNat ((i+1:Nat):Int)=i+1:=Hr _;have lk:=Avp (fu:=fu) (d:=d+1) hfu hci hv (i:=(i:Int)) (by omega) (by omega) now
  simp only [Ce.cells] at lk;have w:IntKind.wrap .i64 ((cs.length:Int)-1)=(cs.length:Int)-1:=Ap (by omega) (by omega)
  have w1:IntKind.wrap .i64 ((i:Int)+1)=((i+1:Nat):Int):=by rw [Ap (by omega) (by omega)];omega
  have eb:((i:Int)==(cs.length:Int)-1)=false:=by simp;omega
  have q3':(D2 cs).getD ((i+1)*13+3) .top=.sc (.int .i64 e.key.h):=q3;have q4':(D2 cs).getD ((i+1)*13+3+1) .top=.sc (.int .u64 e.key.root):=q4;have vq:=Arn (fu:=fu) (d:=d) hfu hci.wf hci.s1 hci.s2 e.key;simp only [Ce.cells,Ky.cells] at vq;rw [Ma];unfold Ain;by_cases hz:P6 c i vs now=0
  rotate_left
  ·have e0:(P6 c i vs now != 0)=true:=by simp [hz]
   rw [Bm hz]
   try unfold Aa
   repeat first
    |((with_reducible first|apply At|apply Aj|apply As|apply Ax|apply Az|apply A5|apply Cm|apply Ai);· first|with_reducible rfl|(simp (disch:=omega) only [nt,c0,c1,c2,c3,c4,c5,c6,c7,c8,c9,c10,c11,c12,lk,e0]<;>with_reducible rfl))
    |((with_reducible first|apply Ar|apply Au);· first|with_reducible rfl|omega|(simp (disch:=omega) only [gT,nt,c0,c1,c2,c3,c4,c5,c6,c7,c8,c9,c10,c11,c12,lk,e0]<;>omega))
    |(with_reducible apply Aw;· first|with_reducible rfl|(simp (disch:=omega) only [gF,nt,c0,c1,c2,c3,c4,c5,c6,c7,c8,c9,c10,c11,c12,lk,e0]<;>omega))
   try simp (disch:=omega) only [nt,c0,c1,c2,c3,c4,c5,c6,c7,c8,c9,c10,c11,c12,lk,e0]
   all_goals rfl
  have e0:(P6 c i vs now != 0)=false:=by simp [hz]
  rw [A0 (by simp [hz])]
  cases es:eqS c.iss e.subj
  ·rw [Bm rfl]
   try unfold Aa
   repeat first
    |((with_reducible first|apply At|apply Aj|apply As|apply Ax|apply Az|apply A5|apply Cm|apply Ai);· first|with_reducible rfl|(simp (disch:=omega) only [nt,nt1,Zzr,c0,c1,c2,c3,c4,c5,c6,c7,c8,c9,c10,c11,c12,lk,e0,w,eb,w1,q0,es,B4]<;>with_reducible rfl))
    |((with_reducible first|apply Ar|apply Au);· first|with_reducible rfl|omega|(simp (disch:=omega) only [gT,nt,nt1,Zzr,c0,c1,c2,c3,c4,c5,c6,c7,c8,c9,c10,c11,c12,lk,e0,w,eb,w1,q0,es,B4]<;>omega))
    |(with_reducible apply Aw;· first|with_reducible rfl|(simp (disch:=omega) only [gF,nt,nt1,Zzr,c0,c1,c2,c3,c4,c5,c6,c7,c8,c9,c10,c11,c12,lk,e0,w,eb,w1,q0,es,B4]<;>omega))
   try simp (disch:=omega) only [nt,nt1,Zzr,c0,c1,c2,c3,c4,c5,c6,c7,c8,c9,c10,c11,c12,lk,e0,w,eb,w1,q0,es,B4]
   all_goals rfl
  rw [A0 (by simp)]
  by_cases hv':Ok c e.key=0
  ·have v0:(Ok c e.key != 0)=false:=by simp [hv']
   have ih:=Amj hfu (a0n:=a0n) (a1n:=a1n) (a2n:=a2n) (a0:=a0) (a1:=a1) (a2:=a2) (a3:=a3) hc h3 hl hv (now:=now) (e::r) (i+1) nn (by simp) h3' (by simp only [Iw];omega) (by omega)
   rw [A0 (by simp [hv']),←ih]
   try unfold Aa
   repeat first
    |((with_reducible first|apply At|apply Aj|apply As|apply Ax|apply Az|apply A5|apply Cm|apply Ai);· first|with_reducible rfl|(simp (disch:=omega) only [nt,nt1,Zzr,c0,c1,c2,c3,c4,c5,c6,c7,c8,c9,c10,c11,c12,lk,e0,w,eb,w1,q0,es,q3',q4',vq,v0,Bs]<;>with_reducible rfl))
    |((with_reducible first|apply Ar|apply Au);· first|with_reducible rfl|omega|(simp (disch:=omega) only [gT,nt,nt1,Zzr,c0,c1,c2,c3,c4,c5,c6,c7,c8,c9,c10,c11,c12,lk,e0,w,eb,w1,q0,es,q3',q4',vq,v0,Bs]<;>omega))
    |(with_reducible apply Aw;· first|with_reducible rfl|(simp (disch:=omega) only [gF,nt,nt1,Zzr,c0,c1,c2,c3,c4,c5,c6,c7,c8,c9,c10,c11,c12,lk,e0,w,eb,w1,q0,es,q3',q4',vq,v0,Bs]<;>omega))
   try simp (disch:=omega) only [nt,nt1,Zzr,c0,c1,c2,c3,c4,c5,c6,c7,c8,c9,c10,c11,c12,lk,e0,w,eb,w1,q0,es,q3',q4',vq,v0,Bs]
   all_goals rfl
  ·have v0:(Ok c e.key != 0)=true:=by simp [hv']
   rw [Bm hv']
   try unfold Aa
   repeat first
    |((with_reducible first|apply At|apply Aj|apply As|apply Ax|apply Az|apply A5|apply Cm|apply Ai);· first|with_reducible rfl|(simp (disch:=omega) only [nt,nt1,Zzr,c0,c1,c2,c3,c4,c5,c6,c7,c8,c9,c10,c11,c12,lk,e0,w,eb,w1,q0,es,q3',q4',vq,v0,Bs]<;>with_reducible rfl))
    |((with_reducible first|apply Ar|apply Au);· first|with_reducible rfl|omega|(simp (disch:=omega) only [gT,nt,nt1,Zzr,c0,c1,c2,c3,c4,c5,c6,c7,c8,c9,c10,c11,c12,lk,e0,w,eb,w1,q0,es,q3',q4',vq,v0,Bs]<;>omega))
    |(with_reducible apply Aw;· first|with_reducible rfl|(simp (disch:=omega) only [gF,nt,nt1,Zzr,c0,c1,c2,c3,c4,c5,c6,c7,c8,c9,c10,c11,c12,lk,e0,w,eb,w1,q0,es,q3',q4',vq,v0,Bs]<;>omega))
   try simp (disch:=omega) only [nt,nt1,Zzr,c0,c1,c2,c3,c4,c5,c6,c7,c8,c9,c10,c11,c12,lk,e0,w,eb,w1,q0,es,q3',q4',vq,v0,Bs]
   all_goals rfl
theorem A3p (hfu:1000<=fu){cs:List Ce}(hc:∀c∈cs,c.in_){ans:List An}(hl:ans.length<=900){vs:List Rv}(hv:vs.length<=900)(now:Int):
  Ae C0 Tryz.prog fu (d+10) Qh [.lst false 13 cs.length (D2 cs),.lst false 3 ans.length (Ic ans),.lst false 3 vs.length (Kd vs),.sc (.int .i64 now)]=some ⟨[.sc (.int .i64 (Ry cs ans vs now).1),.sc (.int .i64 (Ry cs ans vs now).2)],[]⟩:=by
 rw [Aca];unfold Ry;by_cases h1:now<0
 ·rw [Bm h1]
  try unfold Aa
  repeat first
   |((with_reducible first|apply At|apply Aj|apply As|apply Ax|apply Az|apply A5|apply Cm|apply Ai);· first|with_reducible rfl|(simp (disch:=omega) only [Bj]<;>with_reducible rfl))
   |((with_reducible first|apply Ar|apply Au);· first|with_reducible rfl|omega|(simp (disch:=omega) only [gT,Bj]<;>omega))
   |(with_reducible apply Aw;· first|with_reducible rfl|(simp (disch:=omega) only [gF,Bj]<;>omega))
  try simp (disch:=omega) only [Bj]
  all_goals rfl
 rw [A0 h1];by_cases h2:now>1099511627776
 ·rw [Bm h2]
  try unfold Aa
  repeat first
   |((with_reducible first|apply At|apply Aj|apply As|apply Ax|apply Az|apply A5|apply Cm|apply Ai);· first|with_reducible rfl|(simp (disch:=omega) only [Bj]<;>with_reducible rfl))
   |((with_reducible first|apply Ar|apply Au);· first|with_reducible rfl|omega|(simp (disch:=omega) only [gT,Bj]<;>omega))
   |(with_reducible apply Aw;· first|with_reducible rfl|(simp (disch:=omega) only [gF,Bj]<;>omega))
  try simp (disch:=omega) only [Bj]
  all_goals rfl
 rw [A0 h2];by_cases h3:cs.length<1
 ·rw [Bm h3]
  try unfold Aa
  repeat first
   |((with_reducible first|apply At|apply Aj|apply As|apply Ax|apply Az|apply A5|apply Cm|apply Ai);· first|with_reducible rfl|(simp (disch:=omega) only [Bj]<;>with_reducible rfl))
   |((with_reducible first|apply Ar|apply Au);· first|with_reducible rfl|omega|(simp (disch:=omega) only [gT,Bj]<;>omega))
   |(with_reducible apply Aw;· first|with_reducible rfl|(simp (disch:=omega) only [gF,Bj]<;>omega))
  try simp (disch:=omega) only [Bj]
  all_goals rfl
 rw [A0 h3];by_cases h4:cs.length>3
 ·rw [Bm h4]
  try unfold Aa
  repeat first
   |((with_reducible first|apply At|apply Aj|apply As|apply Ax|apply Az|apply A5|apply Cm|apply Ai);· first|with_reducible rfl|(simp (disch:=omega) only [Bj]<;>with_reducible rfl))
   |((with_reducible first|apply Ar|apply Au);· first|with_reducible rfl|omega|(simp (disch:=omega) only [gT,Bj]<;>omega))
   |(with_reducible apply Aw;· first|with_reducible rfl|(simp (disch:=omega) only [gF,Bj]<;>omega))
  try simp (disch:=omega) only [Bj]
  all_goals rfl
 rw [A0 h4];have lp:=Amj (fu:=fu) (d:=d) hfu (a0n:=cs.length) (a1n:=ans.length) (a2n:=vs.length) (a0:=D2 cs) (a1:=Ic ans) (a2:=Kd vs) (a3:=now) hc (by omega) hl hv (now:=now) cs 0 fu (by intro h;subst h;simp at h3) rfl (by omega) (by omega)
 rw [←lp]
 try unfold Aa
 repeat first
  |((with_reducible first|apply At|apply Aj|apply As|apply Ax|apply Az|apply A5|apply Cm|apply Ai);· first|with_reducible rfl|(simp (disch:=omega) only [Bj]<;>with_reducible rfl))
  |((with_reducible first|apply Ar|apply Au);· first|with_reducible rfl|omega|(simp (disch:=omega) only [gT,Bj]<;>omega))
  |(with_reducible apply Aw;· first|with_reducible rfl|(simp (disch:=omega) only [gF,Bj]<;>omega))
 try simp (disch:=omega) only [Bj]
 all_goals rfl
end
end
section
set_option maxRecDepth 100000
abbrev Ji:FuncId:=30
theorem Sv (fu d:Nat)(a0_0:Int)(a0_1:ByteArray)(a0_2n:Nat)(a0_2:List PV)(a0_3n:Nat)(a0_3:List PV)(a0_4n:Nat)(a0_4:List PV)(a0_5:Int)(a0_6n:Nat)(a0_6:List PV)(a0_7:ByteArray)(a1_0 a1_1:Int)(a1_2 a1_3 a1_4:Int)(a1_5n:Nat)(a1_5:List PV)(a1_6 a1_7 a2:Int):Ae C0 Tryz.prog fu (d+1) Ji [.agg [.sc (.int .i64 a0_0),.sc (.string a0_1),.lst false 1 a0_2n a0_2,.lst false 1 a0_3n a0_3,.lst false 1 a0_4n a0_4,.sc (.int .i64 a0_5),.lst false 1 a0_6n a0_6,.sc (.string a0_7)],.agg [.sc (.int .u64 a1_0),.sc (.int .i64 a1_1),.sc (.int .i64 a1_2),.sc (.int .i64 a1_3),.sc (.int .u64 a1_4),.lst false 1 a1_5n a1_5,.sc (.int .i64 a1_6),.sc (.int .u64 a1_7)],.sc (.int .u64 a2)]=(fun (call:Am)=>A4 (decide ((↑a0_4n:Int)>0)) (some (Ay.mk [.agg [.sc (.int .i64 0),.sc (.int .i64 0),.sc (.int .i64 0)],.sc (.int .i64 4)] [])) (Ag (call 55 [.lst false 1 a0_3n a0_3]) fun x1 x2=>Ac x2<|Ab x1 fun x3 x4=>Cu x3 fun x5=>Ab x5 fun x6 x7=>Af .i64 x6 fun x8=>Ab x7 fun x9 Cd=>Dk 1 x9 fun Bp C4=>Ab Cd fun Da Cq=>Dk 1 Da fun C9 Do=>Ac Cq<|Ab x4 fun Du D5=>Af .i64 Du fun D7=>Ac D5<|A4 (D7 != 0) (some (Ay.mk [.agg [.sc (.int .i64 0),.sc (.int .i64 0),.sc (.int .i64 0)],.sc (.int .i64 D7)] [])) (Aq (decide (0+Bp*1<=List.length C4))<|Aq (decide (0+C9*1<=List.length Do))<|Ag (call 56 [.agg [.sc (.int .i64 a1_6),.sc (.int .u64 a1_7)],.sc (.int .u64 a2),.agg [.sc (.int .i64 x8),.lst false 1 Bp (List.take (Bp*1) (List.drop 0 C4)),.lst false 1 C9 (List.take (C9*1) (List.drop 0 Do))]]) fun Eh Fy=>Ac Fy<|Ab Eh fun Ci Fn=>Af .i64 Ci fun Ds=>Ac Fn<|A4 (Ds != 0) (some (Ay.mk [.agg [.sc (.int .i64 0),.sc (.int .i64 0),.sc (.int .i64 0)],.sc (.int .i64 Ds)] [])) (some (Ay.mk [.agg [.sc (.int .i64 1),.sc (.int .i64 (-1)),.sc (.int .i64 x8)],.sc (.int .i64 0)] []))))) (Ae C0 Tryz.prog fu d):=by kernel_rfl
abbrev Ja:FuncId:=31
noncomputable def Dz (fu:Nat)(call:Am)(a0_0:Int)(a0_1:ByteArray)(a0_2n:Nat)(a0_2:List PV)(a0_3n:Nat)(a0_3:List PV)(a0_4n:Nat)(a0_4:List PV)(a0_5:Int)(a0_6n:Nat)(a0_6:List PV)(a0_7:ByteArray)(a1_0 a1_1:Int)(a1_2 a1_3 a1_4:Int)(a1_5n:Nat)(a1_5:List PV)(a1_6 a1_7 a2:Int)(a3n:Nat)(a3:List PV)(a4n:Nat)(a4:List PV)(a5:Int)(nn:Nat)(y0:Int)(y1:Nat)(y2:List PV)(y3:Nat)(y4:List PV)(y5:Int)(y6 y7:Nat)(y8:List PV)(y9 y10 Gc:Int)(H4:ByteArray)(Wq:Nat)(y14:List PV)(y15:Nat)(y16:List PV)(y17:Nat)(y18:List PV)(y19:Int)(y20:Nat)(y21:List PV)(y22:ByteArray)(y23 y24:Int)(y25 y26 y27:Int)(y28:Nat)(y29:List PV)(y30 y31:Int)(y32 y33 y34:Int)(y35:List PV):Option Ay:=Db C0 Tryz.prog fu call 31 Tryz.f31 (Ch Tryz.f31) [.agg [.sc (.int .i64 a0_0),.sc (.string a0_1),.lst false 1 a0_2n a0_2,.lst false 1 a0_3n a0_3,.lst false 1 a0_4n a0_4,.sc (.int .i64 a0_5),.lst false 1 a0_6n a0_6,.sc (.string a0_7)],.agg [.sc (.int .u64 a1_0),.sc (.int .i64 a1_1),.sc (.int .i64 a1_2),.sc (.int .i64 a1_3),.sc (.int .u64 a1_4),.lst false 1 a1_5n a1_5,.sc (.int .i64 a1_6),.sc (.int .u64 a1_7)],.sc (.int .u64 a2),.lst false 3 a3n a3,.lst false 3 a4n a4,.sc (.int .i64 a5)] [.r,.r,.r,.l,.r,.l] nn ⟨lk [(2,(.sc (.int .u64 y0))),(3,(.lst false 3 y1 y2)),(4,(.lst false 3 y3 y4)),(5,(.sc (.int .i64 y5))),(6,(.ptr 6 0)),(7,(.ptr 7 0)),(12,(.ptr 12 0)),(14,(.view 14 13 0 y6)),(36,(.lst false 1 y7 y8)),(37,(.sc (.int .i64 y9))),(38,(.sc (.int .i64 y10)))],Gn [(6,(.st [(.sc (.int .i64 Gc)),(.sc (.string H4)),(.lst false 1 Wq y14),(.lst false 1 y15 y16),(.lst false 1 y17 y18),(.sc (.int .i64 y19)),(.lst false 1 y20 y21),(.sc (.string y22))])),(7,(.st [(.sc (.int .u64 y23)),(.sc (.int .i64 y24)),(.sc (.int .i64 y25)),(.sc (.int .i64 y26)),(.sc (.int .u64 y27)),(.lst false 1 y28 y29),(.sc (.int .i64 y30)),(.sc (.int .u64 y31))])),(12,(.st [(.sc (.int .i64 y32)),(.sc (.int .i64 y33)),(.sc (.int .i64 y34))])),(14,(.ar false y35))]⟩
theorem Hv (fu:Nat)(call:Am)(a0_0:Int)(a0_1:ByteArray)(a0_2n:Nat)(a0_2:List PV)(a0_3n:Nat)(a0_3:List PV)(a0_4n:Nat)(a0_4:List PV)(a0_5:Int)(a0_6n:Nat)(a0_6:List PV)(a0_7:ByteArray)(a1_0 a1_1:Int)(a1_2 a1_3 a1_4:Int)(a1_5n:Nat)(a1_5:List PV)(a1_6 a1_7 a2:Int)(a3n:Nat)(a3:List PV)(a4n:Nat)(a4:List PV)(a5:Int)(nn:Nat)(y0:Int)(y1:Nat)(y2:List PV)(y3:Nat)(y4:List PV)(y5:Int)(y6 y7:Nat)(y8:List PV)(y9 y10 Gc:Int)(H4:ByteArray)(Wq:Nat)(y14:List PV)(y15:Nat)(y16:List PV)(y17:Nat)(y18:List PV)(y19:Int)(y20:Nat)(y21:List PV)(y22:ByteArray)(y23 y24:Int)(y25 y26 y27:Int)(y28:Nat)(y29:List PV)(y30 y31:Int)(y32 y33 y34:Int)(y35:List PV):Dz fu call a0_0 a0_1 a0_2n a0_2 a0_3n a0_3 a0_4n a0_4 a0_5 a0_6n a0_6 a0_7 a1_0 a1_1 a1_2 a1_3 a1_4 a1_5n a1_5 a1_6 a1_7 a2 a3n a3 a4n a4 a5 (nn+1) y0 y1 y2 y3 y4 y5 y6 y7 y8 y9 y10 Gc H4 Wq y14 y15 y16 y17 y18 y19 y20 y21 y22 y23 y24 y25 y26 y27 y28 y29 y30 y31 y32 y33 y34 y35=(A4 (decide (y10<y9)) (Aq (decide (0<=y10)&&decide (y10<(↑y7:Int)))<|Ih 1 (List.getD y8 (Int.toNat y10*1) .top) fun x1 x2 x3=>Ag (call 57 [.lst false 1 x2 x3]) fun x4 x5=>Ac x5<|Ab x4 fun x6 x7=>Cu x6 fun x8=>Ab x8 fun x9 Cd=>Cn x9 fun Bp=>Ab Cd fun C4 Da=>Cn C4 fun Cq=>Ab Da fun C9 Do=>Af .u64 C9 fun Du=>Ab Do fun D5 D7=>Af .i64 D5 fun Eh=>Ab D7 fun Fy Ci=>Af .u64 Fy fun Fn=>Ab Ci fun Ds Bx=>Af .i64 Ds fun Fc=>Ab Bx fun Ft Bk=>Af .i64 Ft fun Cg=>Ab Bk fun Hg Gf=>Bz Hg fun Ie=>Ab Gf fun H0 Jn=>Af .i64 H0 fun Gt=>Ab Jn fun Ix M5=>Af .u64 Ix fun F0=>Ab M5 fun H5 Rh=>Af .i64 H5 fun R6=>Ab Rh fun L6 Rl=>Ih 1 L6 fun Pu Lx Q6=>Ab Rl fun Rj Oc=>Ih 1 Rj fun Pw Sd Pq=>Ac Oc<|Ab x7 fun Rx Lz=>Af .i64 Rx fun Py=>Ac Lz<|A4 (Py != 0) (some (Ay.mk [.agg [.sc (.int .i64 0),.sc (.int .i64 0),.sc (.int .i64 0)],.sc (.int .i64 Py)] [])) (Aq (decide (y6*13<=List.length y35)&&true&&decide ((y6+1)*152<=1099511627776)&&decide (y6+1<=1099511627776))<|Aa (y6+1) fun Rr=>Aa (List.take (y6*13) y35++[.sc (.string Bp),.sc (.string Cq),.sc (.int .u64 Du),.sc (.int .i64 Eh),.sc (.int .u64 Fn),.sc (.int .i64 Fc),.sc (.int .i64 Cg),.sc (.bool Ie),.sc (.int .i64 Gt),.sc (.int .u64 F0),.sc (.int .i64 R6),.lst false 1 Lx Q6,.lst false 1 Sd Pq]) fun Ts=>Aa (IntKind.wrap .i64 (y10+1)) fun Pi=>Dz fu call a0_0 a0_1 a0_2n a0_2 a0_3n a0_3 a0_4n a0_4 a0_5 a0_6n a0_6 a0_7 a1_0 a1_1 a1_2 a1_3 a1_4 a1_5n a1_5 a1_6 a1_7 a2 a3n a3 a4n a4 a5 (nn) (y0) (y1) (y2) (y3) (y4) (y5) Rr (y7) (y8) (y9) Pi (Gc) (H4) (Wq) (y14) (y15) (y16) (y17) (y18) (y19) (y20) (y21) (y22) (y23) (y24) (y25) (y26) (y27) (y28) (y29) (y30) (y31) (y32) (y33) (y34) Ts)) (Aq (decide (0<(↑y6:Int)))<|Cn (List.getD y35 0 .top) fun Q9=>Cn (List.getD y35 1 .top) fun S5=>Af .u64 (List.getD y35 2 .top) fun Uv=>Af .i64 (List.getD y35 3 .top) fun Oe=>Af .u64 (List.getD y35 4 .top) fun Ro=>Af .i64 (List.getD y35 5 .top) fun V9=>Af .i64 (List.getD y35 6 .top) fun Uq=>Bz (List.getD y35 7 .top) fun Q7=>Af .i64 (List.getD y35 8 .top) fun S6=>Af .u64 (List.getD y35 9 .top) fun S1=>Af .i64 (List.getD y35 10 .top) fun Ty=>Ih 1 (List.getD y35 11 .top) fun Up Us Q8=>Ih 1 (List.getD y35 12 .top) fun Ws Wj Ur=>A4 Q7 (some (Ay.mk [.agg [.sc (.int .i64 0),.sc (.int .i64 0),.sc (.int .i64 0)],.sc (.int .i64 38)] [])) (A4 (S1==0) (some (Ay.mk [.agg [.sc (.int .i64 0),.sc (.int .i64 0),.sc (.int .i64 0)],.sc (.int .i64 38)] [])) (A4 (S1 != y27) (some (Ay.mk [.agg [.sc (.int .i64 0),.sc (.int .i64 0),.sc (.int .i64 0)],.sc (.int .i64 38)] [])) (Ag (call 55 [.lst false 1 y15 y16]) fun V1 Wu=>Ac Wu<|Ab V1 fun V7 Wt=>Cu V7 fun Za=>Ab Za fun x80 x81=>Af .i64 x80 fun x82=>Ab x81 fun x83 Z9=>Dk 1 x83 fun x85 x86=>Ab Z9 fun x87 Rm=>Dk 1 x87 fun S9 Vx=>Ac Rm<|Ab Wt fun x91 x92=>Af .i64 x91 fun x93=>Ac x92<|A4 (x93 != 0) (some (Ay.mk [.agg [.sc (.int .i64 0),.sc (.int .i64 0),.sc (.int .i64 0)],.sc (.int .i64 x93)] [])) (Aq (decide (0+x85*1<=List.length x86))<|Aq (decide (0+S9*1<=List.length Vx))<|Ag (call 56 [.agg [.sc (.int .i64 Oe),.sc (.int .u64 Ro)],.sc (.int .u64 y0),.agg [.sc (.int .i64 x82),.lst false 1 x85 (List.take (x85*1) (List.drop 0 x86)),.lst false 1 S9 (List.take (S9*1) (List.drop 0 Vx))]]) fun x94 x95=>Ac x95<|Ab x94 fun x96 x97=>Af .i64 x96 fun x98=>Ac x97<|A4 (x98 != 0) (some (Ay.mk [.agg [.sc (.int .i64 0),.sc (.int .i64 0),.sc (.int .i64 0)],.sc (.int .i64 x98)] [])) (Aq (decide (0+y6*13<=List.length y35))<|Ag (call 58 [.lst false 13 y6 (List.take (y6*13) (List.drop 0 y35)),.lst false 3 y1 y2,.lst false 3 y3 y4,.sc (.int .i64 y5)]) fun x99 Tt=>Ac Tt<|Ab x99 fun Qd G5=>Af .i64 Qd fun Jm=>Ab G5 fun S0 Pn=>Af .i64 S0 fun Oh=>Ac Pn<|A4 (Oh != 0) (some (Ay.mk [.agg [.sc (.int .i64 0),.sc (.int .i64 0),.sc (.int .i64 0)],.sc (.int .i64 Oh)] [])) (some (Ay.mk [.agg [.sc (.int .i64 2),.sc (.int .i64 Jm),.sc (.int .i64 (-1))],.sc (.int .i64 0)] []))))))))):=by kernel_rfl
theorem Rn (fu d:Nat)(a0_0:Int)(a0_1:ByteArray)(a0_2n:Nat)(a0_2:List PV)(a0_3n:Nat)(a0_3:List PV)(a0_4n:Nat)(a0_4:List PV)(a0_5:Int)(a0_6n:Nat)(a0_6:List PV)(a0_7:ByteArray)(a1_0 a1_1:Int)(a1_2 a1_3 a1_4:Int)(a1_5n:Nat)(a1_5:List PV)(a1_6 a1_7 a2:Int)(a3n:Nat)(a3:List PV)(a4n:Nat)(a4:List PV)(a5:Int):Ae C0 Tryz.prog fu (d+1) Ja [.agg [.sc (.int .i64 a0_0),.sc (.string a0_1),.lst false 1 a0_2n a0_2,.lst false 1 a0_3n a0_3,.lst false 1 a0_4n a0_4,.sc (.int .i64 a0_5),.lst false 1 a0_6n a0_6,.sc (.string a0_7)],.agg [.sc (.int .u64 a1_0),.sc (.int .i64 a1_1),.sc (.int .i64 a1_2),.sc (.int .i64 a1_3),.sc (.int .u64 a1_4),.lst false 1 a1_5n a1_5,.sc (.int .i64 a1_6),.sc (.int .u64 a1_7)],.sc (.int .u64 a2),.lst false 3 a3n a3,.lst false 3 a4n a4,.sc (.int .i64 a5)]=(fun (call:Am)=>A4 (decide ((↑a0_4n:Int)<1)) (some (Ay.mk [.agg [.sc (.int .i64 0),.sc (.int .i64 0),.sc (.int .i64 0)],.sc (.int .i64 38)] [])) (A4 (decide ((↑a0_4n:Int)>3)) (some (Ay.mk [.agg [.sc (.int .i64 0),.sc (.int .i64 0),.sc (.int .i64 0)],.sc (.int .i64 38)] [])) (Dz fu call a0_0 a0_1 a0_2n a0_2 a0_3n a0_3 a0_4n a0_4 a0_5 a0_6n a0_6 a0_7 a1_0 a1_1 a1_2 a1_3 a1_4 a1_5n a1_5 a1_6 a1_7 a2 a3n a3 a4n a4 a5 (fu) (a2) (a3n) (a3) (a4n) (a4) (a5) 0 (a0_4n) (a0_4) ((↑a0_4n:Int)) 0 (a0_0) (a0_1) (a0_2n) (a0_2) (a0_3n) (a0_3) (a0_4n) (a0_4) (a0_5) (a0_6n) (a0_6) (a0_7) (a1_0) (a1_1) (a1_2) (a1_3) (a1_4) (a1_5n) (a1_5) (a1_6) (a1_7) 0 0 0 ([])))) (Ae C0 Tryz.prog fu d):=by kernel_rfl
abbrev Nm:FuncId:=14
theorem Xv (fu d:Nat)(a0_0:Int)(a0_1:ByteArray)(a0_2n:Nat)(a0_2:List PV)(a0_3n:Nat)(a0_3:List PV)(a0_4n:Nat)(a0_4:List PV)(a0_5:Int)(a0_6n:Nat)(a0_6:List PV)(a0_7:ByteArray)(a1_0 a1_1:Int)(a1_2 a1_3 a1_4:Int)(a1_5n:Nat)(a1_5:List PV)(a1_6 a1_7 a2:Int)(a3n:Nat)(a3:List PV)(a4n:Nat)(a4:List PV)(a5:Int):Ae C0 Tryz.prog fu (d+1) Nm [.agg [.sc (.int .i64 a0_0),.sc (.string a0_1),.lst false 1 a0_2n a0_2,.lst false 1 a0_3n a0_3,.lst false 1 a0_4n a0_4,.sc (.int .i64 a0_5),.lst false 1 a0_6n a0_6,.sc (.string a0_7)],.agg [.sc (.int .u64 a1_0),.sc (.int .i64 a1_1),.sc (.int .i64 a1_2),.sc (.int .i64 a1_3),.sc (.int .u64 a1_4),.lst false 1 a1_5n a1_5,.sc (.int .i64 a1_6),.sc (.int .u64 a1_7)],.sc (.int .u64 a2),.lst false 3 a3n a3,.lst false 3 a4n a4,.sc (.int .i64 a5)]=(fun (call:Am)=>Aa (E9 .i64 a1_1 64) fun x1=>A4 (x1==0) (some (Ay.mk [.agg [.sc (.int .i64 0),.sc (.int .i64 0),.sc (.int .i64 0)],.sc (.int .i64 4)] [])) (A4 (a0_5==0) (A4 (decide ((↑a0_3n:Int)>0)) (some (Ay.mk [.agg [.sc (.int .i64 0),.sc (.int .i64 0),.sc (.int .i64 0)],.sc (.int .i64 4)] [])) (A4 (decide ((↑a0_4n:Int)>0)) (some (Ay.mk [.agg [.sc (.int .i64 0),.sc (.int .i64 0),.sc (.int .i64 0)],.sc (.int .i64 4)] [])) (some (Ay.mk [.agg [.sc (.int .i64 0),.sc (.int .i64 (-1)),.sc (.int .i64 (-1))],.sc (.int .i64 0)] [])))) (A4 (a0_5==1) (Ag (call 30 [.agg [.sc (.int .i64 a0_0),.sc (.string a0_1),.lst false 1 a0_2n a0_2,.lst false 1 a0_3n a0_3,.lst false 1 a0_4n a0_4,.sc (.int .i64 a0_5),.lst false 1 a0_6n a0_6,.sc (.string a0_7)],.agg [.sc (.int .u64 a1_0),.sc (.int .i64 a1_1),.sc (.int .i64 a1_2),.sc (.int .i64 a1_3),.sc (.int .u64 a1_4),.lst false 1 a1_5n a1_5,.sc (.int .i64 a1_6),.sc (.int .u64 a1_7)],.sc (.int .u64 a2)]) fun x2 x3=>Ac x3<|Ab x2 fun x4 x5=>Cu x4 fun x6=>Ab x6 fun x7 x8=>Af .i64 x7 fun x9=>Ab x8 fun Cd Bp=>Af .i64 Cd fun C4=>Ab Bp fun Da Cq=>Af .i64 Da fun C9=>Ac Cq<|Ab x5 fun Do Du=>Af .i64 Do fun D5=>Ac Du<|some (Ay.mk [.agg [.sc (.int .i64 x9),.sc (.int .i64 C4),.sc (.int .i64 C9)],.sc (.int .i64 D5)] [])) (A4 (a0_5==2) (Ag (call 31 [.agg [.sc (.int .i64 a0_0),.sc (.string a0_1),.lst false 1 a0_2n a0_2,.lst false 1 a0_3n a0_3,.lst false 1 a0_4n a0_4,.sc (.int .i64 a0_5),.lst false 1 a0_6n a0_6,.sc (.string a0_7)],.agg [.sc (.int .u64 a1_0),.sc (.int .i64 a1_1),.sc (.int .i64 a1_2),.sc (.int .i64 a1_3),.sc (.int .u64 a1_4),.lst false 1 a1_5n a1_5,.sc (.int .i64 a1_6),.sc (.int .u64 a1_7)],.sc (.int .u64 a2),.lst false 3 a3n a3,.lst false 3 a4n a4,.sc (.int .i64 a5)]) fun D7 Eh=>Ac Eh<|Ab D7 fun Fy Ci=>Cu Fy fun Fn=>Ab Fn fun Ds Bx=>Af .i64 Ds fun Fc=>Ab Bx fun Ft Bk=>Af .i64 Ft fun Cg=>Ab Bk fun Hg Gf=>Af .i64 Hg fun Ie=>Ac Gf<|Ab Ci fun H0 Jn=>Af .i64 H0 fun Gt=>Ac Jn<|some (Ay.mk [.agg [.sc (.int .i64 Fc),.sc (.int .i64 Cg),.sc (.int .i64 Ie)],.sc (.int .i64 Gt)] [])) (some (Ay.mk [.agg [.sc (.int .i64 0),.sc (.int .i64 0),.sc (.int .i64 0)],.sc (.int .i64 3)] [])))))) (Ae C0 Tryz.prog fu d):=by kernel_rfl
abbrev Lg:FuncId:=20
theorem U5 (fu d:Nat):Ae C0 Tryz.prog fu (d+1) Lg []=(fun (call:Am)=>Ag (call 16 [.sc (.int .u64 9),.sc (.int .i64 1)]) fun x1 x2=>Ac x2<|Ab x1 fun x3 x4=>Cu x3 fun x5=>Ab x5 fun x6 x7=>Af .i64 x6 fun x8=>Ab x7 fun x9 Cd=>Af .u64 x9 fun Bp=>Ac Cd<|Ac x4<|Ag (call 16 [.sc (.int .u64 32),.sc (.int .i64 1)]) fun C4 Da=>Ac Da<|Ab C4 fun Cq C9=>Cu Cq fun Do=>Ab Do fun Du D5=>Af .i64 Du fun D7=>Ab D5 fun Eh Fy=>Af .u64 Eh fun Ci=>Ac Fy<|Ac C9<|some (Ay.mk [.own 3 2 [.sc (.string (ByteArray.mk #[114,111,111,116])),.sc (.int .i64 x8),.sc (.int .u64 Bp),.sc (.string (ByteArray.mk #[114,111,111,116])),.sc (.int .i64 D7),.sc (.int .u64 Ci)]] [])) (Ae C0 Tryz.prog fu d):=by kernel_rfl
end
section
structure Rp where
 kind:Int
 cd:ByteArray
 ad:List Int
 sg:List Int
 certs:List (List Int)
 fmt:Int
 id_:List Int
 user:ByteArray
structure Ad where
 rp:Int
 flags:Int
 cnt:Int
 rng:Int
 model:Int
 id_:List Int
 key:Ky
abbrev Vf (l:List Int):PV:=.lst false 1 l.length (Ah .u8 l)
def A6d (l:List Int):List PV:=[Vf l]
theorem Ay8 (l:List Int):(A6d l).length=1:=rfl
def Ag8 (l:List (List Int)):List PV:=l.flatMap A6d
theorem atb {l:List (List Int)} {i:Nat}{b:List Int}(h:l[i]?=some b):(Ag8 l).getD (i*1) .top=Vf b:=Ep Ay8 h (j:=0) (by omega)
def Rp.cells (r:Rp):List PV:=[.sc (.int .i64 r.kind),.sc (.string r.cd),Vf r.ad,Vf r.sg,.lst false 1 r.certs.length (Ag8 r.certs),.sc (.int .i64 r.fmt),Vf r.id_,.sc (.string r.user)]
def Ad.cells (a:Ad):List PV:=[.sc (.int .u64 a.rp),.sc (.int .i64 a.flags),.sc (.int .i64 a.cnt),.sc (.int .i64 a.rng),.sc (.int .u64 a.model),Vf a.id_,.sc (.int .i64 a.key.h),.sc (.int .u64 a.key.root)]
structure Av where
 f:Int
 anchor:Int
 leaf:Int
 e:Int
def Av.vals (v:Av):List PV:=[.agg [.sc (.int .i64 v.f),.sc (.int .i64 v.anchor),.sc (.int .i64 v.leaf)],.sc (.int .i64 v.e)]
abbrev avE (e:Int):Av:=⟨0,0,0,e⟩
def Avk (r:Rp)(a:Ad)(w:Int):Av:=
 if r.certs.length>0 then avE 4 else match sgD r.sg with
 |none=>avE 2
 |some s=>if L8 a.key w s≠0 then avE (L8 a.key w s) else ⟨1,-1,s.leaf,0⟩
def Dq:List (List Int)->List Ce × Int
 |[]=>([],0)
 |b::r=>if (Ku b).2≠0 then ([],(Ku b).2) else if (Dq r).2≠0 then ([],(Dq r).2) else ((Ku b).1::(Dq r).1,0)
def Aaf (sg:List Int)(model w:Int)(ans:List An)(vs:List Rv)(now:Int):List Ce->Av
 |[]=>avE 0
 |c::cs=>if c.auth=true then avE 38 else if c.model=0 then avE 38 else if c.model≠model then avE 38 else match sgD sg with
  |none=>avE 2
  |some s=>if L8 c.key w s≠0 then avE (L8 c.key w s) else if (Ry (c::cs) ans vs now).2≠0 then avE (Ry (c::cs) ans vs now).2 else ⟨2,(Ry (c::cs) ans vs now).1,-1,0⟩
def Aje (r:Rp)(a:Ad)(w:Int)(ans:List An)(vs:List Rv)(now:Int):Av:=
 if r.certs.length<1 then avE 38 else if r.certs.length>3 then avE 38 else if (Dq r.certs).2≠0 then avE (Dq r.certs).2 else Aaf r.sg a.model w ans vs now (Dq r.certs).1
def Ab1 (r:Rp)(a:Ad)(w:Int)(ans:List An)(vs:List Rv)(now:Int):Av:=
 if E9 .i64 a.flags 64=0 then avE 4 else if r.fmt=0 then (if r.sg.length>0 then avE 4 else if r.certs.length>0 then avE 4 else ⟨0,-1,-1,0⟩) else if r.fmt=1 then Avk r a w else if r.fmt=2 then Aje r a w ans vs now else avE 3
theorem At6 {c:Ce}(h:Bf c=0):c.subj.size<=32∧c.iss.size<=32:=by
 unfold Bf at h;split at h
 ·cases h
 ·split at h
  ·cases h
  ·omega
theorem A4r {b:List Int}(hb:Hf b)(h:(Ku b).2=0):(Ku b).1.in_:=by
 obtain ⟨h1,h2⟩:=A43 hb;obtain ⟨e1,e2⟩:=h2 h;obtain ⟨n1,n2⟩:=At6 (Lm e1).1;exact ⟨h1.wf,by omega,by omega⟩
theorem Ayh (a b:List Ce):D2 (a++b)=D2 a++D2 b:=by
 unfold D2;rw [List.flatMap_append]
structure Rp.ok (r:Rp):Prop where
 sg:Hf r.sg
 sgl:r.sg.length<=1000000
 certs:∀b∈r.certs,Hf b∧b.length<=1000000
section
variable {fu d:Nat}
theorem A47 (hfu:1000<=fu){r:Rp}(hr:r.ok)(a:Ad)(w:Int):Ae C0 Tryz.prog fu (d+9) Ji [.agg r.cells,.agg a.cells,.sc (.int .u64 w)]=some ⟨(Avk r a w).vals,[]⟩:=by
 refine (Sv fu (d+8) r.kind r.cd r.ad.length (Ah .u8 r.ad) r.sg.length (Ah .u8 r.sg) r.certs.length (Ag8 r.certs) r.fmt r.id_.length (Ah .u8 r.id_) r.user a.rp a.flags a.cnt a.rng a.model a.id_.length (Ah .u8 a.id_) a.key.h a.key.root w).trans ?_;have ds:=Afs (fu:=fu) (d:=d+6) hfu hr.sg;unfold Avk;by_cases h1:r.certs.length>0
 ·rw [Bm h1]
  try unfold Aa
  repeat first
   |((with_reducible first|apply At|apply Aj|apply As|apply Ax|apply Az|apply A5|apply Cm|apply Bb|apply Ai);· first|with_reducible rfl|(simp (disch:=omega) only [Bj]<;>with_reducible rfl))
   |((with_reducible first|apply Ar|apply Au);· first|with_reducible rfl|omega|(simp (disch:=omega) only [gT,Bj]<;>omega))
   |(with_reducible apply Aw;· first|with_reducible rfl|(simp (disch:=omega) only [gF,Bj]<;>omega))
  try simp (disch:=omega) only [Bj]
  all_goals rfl
 rw [A0 h1];cases hs:sgD r.sg with
 |none=>
  rw [hs] at ds;simp only [Xe,Sg.owned] at ds;have e20:((2:Int) != 0)=true:=rfl
  try unfold Aa
  repeat first
   |((with_reducible first|apply At|apply Aj|apply As|apply Ax|apply Az|apply A5|apply Cm|apply Bb|apply Ai);· first|with_reducible rfl|(simp (disch:=omega) only [ds,e20]<;>with_reducible rfl))
   |((with_reducible first|apply Ar|apply Au);· first|with_reducible rfl|omega|(simp (disch:=omega) only [gT,ds,e20]<;>omega))
   |(with_reducible apply Aw;· first|with_reducible rfl|(simp (disch:=omega) only [gF,ds,e20]<;>omega))
  try simp (disch:=omega) only [ds,e20]
  all_goals rfl
 |some s=>
  rw [hs] at ds;simp only [Xe,Sg.owned] at ds;have e00:((0:Int) != 0)=false:=rfl;have vr:=Af1 (fu:=fu) (d:=d) hfu a.key w s;simp only [Ky.cells,Sg.cells] at vr;have Lc:=Al .u64 s.chains;have Lp:=Al .u64 s.path;have tc:=Gs .u64 s.chains;have tp:=Gs .u64 s.path;simp only;by_cases hv:L8 a.key w s=0
  ·have v0:(L8 a.key w s != 0)=false:=by simp [hv]
   rw [A0 (by simp [hv])]
   try unfold Aa
   repeat first
    |((with_reducible first|apply At|apply Aj|apply As|apply Ax|apply Az|apply A5|apply Cm|apply Bb|apply Ai);· first|with_reducible rfl|(simp (disch:=omega) only [ds,e00,Cf,Bw,Bj,Lc,Lp,tc,tp,vr,v0]<;>with_reducible rfl))
    |((with_reducible first|apply Ar|apply Au);· first|with_reducible rfl|omega|(simp (disch:=omega) only [gT,ds,e00,Cf,Bw,Bj,Lc,Lp,tc,tp,vr,v0]<;>omega))
    |(with_reducible apply Aw;· first|with_reducible rfl|(simp (disch:=omega) only [gF,ds,e00,Cf,Bw,Bj,Lc,Lp,tc,tp,vr,v0]<;>omega))
   try simp (disch:=omega) only [ds,e00,Cf,Bw,Bj,Lc,Lp,tc,tp,vr,v0]
   all_goals rfl
  ·have v0:(L8 a.key w s != 0)=true:=by simp [hv]
   rw [Bm hv]
   try unfold Aa
   repeat first
    |((with_reducible first|apply At|apply Aj|apply As|apply Ax|apply Az|apply A5|apply Cm|apply Bb|apply Ai);· first|with_reducible rfl|(simp (disch:=omega) only [ds,e00,Cf,Bw,Bj,Lc,Lp,tc,tp,vr,v0]<;>with_reducible rfl))
    |((with_reducible first|apply Ar|apply Au);· first|with_reducible rfl|omega|(simp (disch:=omega) only [gT,ds,e00,Cf,Bw,Bj,Lc,Lp,tc,tp,vr,v0]<;>omega))
    |(with_reducible apply Aw;· first|with_reducible rfl|(simp (disch:=omega) only [gF,ds,e00,Cf,Bw,Bj,Lc,Lp,tc,tp,vr,v0]<;>omega))
   try simp (disch:=omega) only [ds,e00,Cf,Bw,Bj,Lc,Lp,tc,tp,vr,v0]
   all_goals rfl
theorem Azb (hfu:1000<=fu){a0_0:Int}{a0_1:ByteArray}{a0_2n:Nat}{a0_2:List PV}{a0_3n:Nat}{a0_3:List PV}{a0_4n:Nat}{a0_4:List PV}{a0_5:Int}{a0_6n:Nat}{a0_6:List PV}{a0_7:ByteArray}{a1_0 a1_1 a1_2 a1_3 a1_4:Int}{a1_5n:Nat}{a1_5:List PV}{a1_6 a1_7 a2:Int}{a3n:Nat}{a3:List PV}{a4n:Nat}{a4:List PV}{a5:Int}
  {r:Rp} (hr:r.ok) (a:Ad) (w:Int) {ans:List An} (hl:ans.length<=900) {vs:List Rv} (hv:vs.length<=900) (now:Int) {cs:List Ce} (hc:∀c∈cs,c.in_) (hne:cs≠[]) (hcl:cs.length<=1000) (nn:Nat):
  Dz fu (Ae C0 Tryz.prog fu (d+10)) a0_0 a0_1 a0_2n a0_2 a0_3n a0_3 a0_4n a0_4 a0_5 a0_6n a0_6 a0_7 a1_0 a1_1 a1_2 a1_3 a1_4 a1_5n a1_5 a1_6 a1_7 a2 a3n a3 a4n a4 a5 (nn+1) w ans.length (Ic ans) vs.length (Kd vs) now cs.length r.certs.length (Ag8 r.certs) (r.certs.length:Int) (r.certs.length:Int) r.kind r.cd r.ad.length (Ah .u8 r.ad) r.sg.length (Ah .u8 r.sg) r.certs.length (Ag8 r.certs) r.fmt r.id_.length (Ah .u8 r.id_) r.user a.rp a.flags a.cnt a.rng a.model a.id_.length (Ah .u8 a.id_) a.key.h a.key.root 0 0 0 (D2 cs) =
   some ⟨(Aaf r.sg a.model w ans vs now cs).vals,[]⟩:=by
 obtain ⟨c,ct,rfl⟩:∃c ct,cs=c::ct:=by
  cases cs with
  |nil=>exact absurd rfl hne
  |cons c ct=>exact ⟨c,ct,rfl⟩
 have ds:=Afs (fu:=fu) (d:=d+8) hfu hr.sg;have L:=An8 (c::ct);have t:List.take ((c::ct).length*13) (D2 (c::ct))=D2 (c::ct):=Iv (by omega)
 have pe:=A3p (fu:=fu) (d:=d) hfu hc hl hv now;have g0:(D2 (c::ct)).getD 0 .top=.sc (.string c.subj):=rfl;have g1:(D2 (c::ct)).getD 1 .top=.sc (.string c.iss):=rfl;have g2:(D2 (c::ct)).getD 2 .top=.sc (.int .u64 c.serial):=rfl;have g3:(D2 (c::ct)).getD 3 .top=.sc (.int .i64 c.key.h):=rfl;have g4:(D2 (c::ct)).getD 4 .top=.sc (.int .u64 c.key.root):=rfl;have g5:(D2 (c::ct)).getD 5 .top=.sc (.int .i64 c.fr):=rfl;have g6:(D2 (c::ct)).getD 6 .top=.sc (.int .i64 c.un):=rfl;have g7:(D2 (c::ct)).getD 7 .top=.sc (.bool c.auth):=rfl;have g8:(D2 (c::ct)).getD 8 .top=.sc (.int .i64 c.path):=rfl;have g9:(D2 (c::ct)).getD 9 .top=.sc (.int .u64 c.model):=rfl;have g10:(D2 (c::ct)).getD 10 .top=.sc (.int .i64 c.sig.leaf):=rfl;have g11:(D2 (c::ct)).getD 11 .top=.lst false 1 c.sig.chains.length (Ah .u64 c.sig.chains):=rfl
 have g12:(D2 (c::ct)).getD 12 .top=.lst false 1 c.sig.path.length (Ah .u64 c.sig.path):=rfl;have hp:(((c::ct).length:Nat):Int)>0:=by simp only [Iw];omega
 rw [Aaf];generalize D2 (c::ct)=E at *
 generalize Ry (c::ct) ans vs now=pr at *
 generalize (c::ct).length=n at *
 rw [Hv,Dw _ _ _ (by omega)]
 cases ha:c.auth
 rotate_left
 ·rw [Bm rfl];rw [ha] at g7
  try unfold Aa
  repeat first
   |((with_reducible first|apply At|apply Aj|apply As|apply Ax|apply Az|apply A5|apply Cm|apply Bb|apply Ai);· first|with_reducible rfl|(simp (disch:=omega) only [g0,g1,g2,g3,g4,g5,g6,g7,g8,g9,g10,g11,g12]<;>with_reducible rfl))
   |((with_reducible first|apply Ar|apply Au);· first|with_reducible rfl|omega|(simp (disch:=omega) only [gT,g0,g1,g2,g3,g4,g5,g6,g7,g8,g9,g10,g11,g12]<;>omega))
   |(with_reducible apply Aw;· first|with_reducible rfl|(simp (disch:=omega) only [gF,g0,g1,g2,g3,g4,g5,g6,g7,g8,g9,g10,g11,g12]<;>omega))
  try simp (disch:=omega) only [g0,g1,g2,g3,g4,g5,g6,g7,g8,g9,g10,g11,g12]
  all_goals rfl
 rw [ha] at g7;rw [A0 (by simp)]
 by_cases hm:c.model=0
 ·have m0:(c.model==0)=true:=by simp [hm]
  rw [Bm hm]
  try unfold Aa
  repeat first
   |((with_reducible first|apply At|apply Aj|apply As|apply Ax|apply Az|apply A5|apply Cm|apply Bb|apply Ai);· first|with_reducible rfl|(simp (disch:=omega) only [g0,g1,g2,g3,g4,g5,g6,g7,g8,g9,g10,g11,g12,m0]<;>with_reducible rfl))
   |((with_reducible first|apply Ar|apply Au);· first|with_reducible rfl|omega|(simp (disch:=omega) only [gT,g0,g1,g2,g3,g4,g5,g6,g7,g8,g9,g10,g11,g12,m0]<;>omega))
   |(with_reducible apply Aw;· first|with_reducible rfl|(simp (disch:=omega) only [gF,g0,g1,g2,g3,g4,g5,g6,g7,g8,g9,g10,g11,g12,m0]<;>omega))
  try simp (disch:=omega) only [g0,g1,g2,g3,g4,g5,g6,g7,g8,g9,g10,g11,g12,m0]
  all_goals rfl
 have m0:(c.model==0)=false:=by simp [hm]
 rw [A0 hm];by_cases hq:c.model=a.model
 rotate_left
 ·have m1:(c.model != a.model)=true:=by simp [hq]
  rw [Bm hq]
  try unfold Aa
  repeat first
   |((with_reducible first|apply At|apply Aj|apply As|apply Ax|apply Az|apply A5|apply Cm|apply Bb|apply Ai);· first|with_reducible rfl|(simp (disch:=omega) only [g0,g1,g2,g3,g4,g5,g6,g7,g8,g9,g10,g11,g12,m0,m1]<;>with_reducible rfl))
   |((with_reducible first|apply Ar|apply Au);· first|with_reducible rfl|omega|(simp (disch:=omega) only [gT,g0,g1,g2,g3,g4,g5,g6,g7,g8,g9,g10,g11,g12,m0,m1]<;>omega))
   |(with_reducible apply Aw;· first|with_reducible rfl|(simp (disch:=omega) only [gF,g0,g1,g2,g3,g4,g5,g6,g7,g8,g9,g10,g11,g12,m0,m1]<;>omega))
  try simp (disch:=omega) only [g0,g1,g2,g3,g4,g5,g6,g7,g8,g9,g10,g11,g12,m0,m1]
  all_goals rfl
 have m1:(c.model != a.model)=false:=by simp [hq]
 rw [A0 (by simp [hq])]
 cases hs:sgD r.sg with
 |none=>
  rw [hs] at ds;simp only [Xe,Sg.owned] at ds;have e20:((2:Int) != 0)=true:=rfl
  try unfold Aa
  repeat first
   |((with_reducible first|apply At|apply Aj|apply As|apply Ax|apply Az|apply A5|apply Cm|apply Bb|apply Ai);· first|with_reducible rfl|(simp (disch:=omega) only [g0,g1,g2,g3,g4,g5,g6,g7,g8,g9,g10,g11,g12,m0,m1,ds,e20]<;>with_reducible rfl))
   |((with_reducible first|apply Ar|apply Au);· first|with_reducible rfl|omega|(simp (disch:=omega) only [gT,g0,g1,g2,g3,g4,g5,g6,g7,g8,g9,g10,g11,g12,m0,m1,ds,e20]<;>omega))
   |(with_reducible apply Aw;· first|with_reducible rfl|(simp (disch:=omega) only [gF,g0,g1,g2,g3,g4,g5,g6,g7,g8,g9,g10,g11,g12,m0,m1,ds,e20]<;>omega))
  try simp (disch:=omega) only [g0,g1,g2,g3,g4,g5,g6,g7,g8,g9,g10,g11,g12,m0,m1,ds,e20]
  all_goals rfl
 |some s=>
  rw [hs] at ds;simp only [Xe,Sg.owned] at ds;have e00:((0:Int) != 0)=false:=rfl;have vr:=Af1 (fu:=fu) (d:=d+2) hfu c.key w s;simp only [Ky.cells,Sg.cells] at vr;have Lc:=Al .u64 s.chains;have Lp:=Al .u64 s.path;have tc:=Gs .u64 s.chains;have tp:=Gs .u64 s.path;simp only;by_cases hvv:L8 c.key w s=0
  rotate_left
  ·have v0:(L8 c.key w s != 0)=true:=by simp [hvv]
   rw [Bm hvv]
   try unfold Aa
   repeat first
    |((with_reducible first|apply At|apply Aj|apply As|apply Ax|apply Az|apply A5|apply Cm|apply Bb|apply Ai);· first|with_reducible rfl|(simp (disch:=omega) only [g0,g1,g2,g3,g4,g5,g6,g7,g8,g9,g10,g11,g12,m0,m1,ds,e00,Cf,Bw,Bj,Lc,Lp,tc,tp,vr,v0]<;>with_reducible rfl))
    |((with_reducible first|apply Ar|apply Au);· first|with_reducible rfl|omega|(simp (disch:=omega) only [gT,g0,g1,g2,g3,g4,g5,g6,g7,g8,g9,g10,g11,g12,m0,m1,ds,e00,Cf,Bw,Bj,Lc,Lp,tc,tp,vr,v0]<;>omega))
    |(with_reducible apply Aw;· first|with_reducible rfl|(simp (disch:=omega) only [gF,g0,g1,g2,g3,g4,g5,g6,g7,g8,g9,g10,g11,g12,m0,m1,ds,e00,Cf,Bw,Bj,Lc,Lp,tc,tp,vr,v0]<;>omega))
   try simp (disch:=omega) only [g0,g1,g2,g3,g4,g5,g6,g7,g8,g9,g10,g11,g12,m0,m1,ds,e00,Cf,Bw,Bj,Lc,Lp,tc,tp,vr,v0]
   all_goals rfl
  have v0:(L8 c.key w s != 0)=false:=by simp [hvv]
  rw [A0 (by simp [hvv])]
  by_cases hpp:pr.2=0
  ·have p0:(pr.2 != 0)=false:=by simp [hpp]
   rw [A0 (by simp [hpp])]
   try unfold Aa
   repeat first
    |((with_reducible first|apply At|apply Aj|apply As|apply Ax|apply Az|apply A5|apply Cm|apply Bb|apply Ai);· first|with_reducible rfl|(simp (disch:=omega) only [g0,g1,g2,g3,g4,g5,g6,g7,g8,g9,g10,g11,g12,m0,m1,ds,e00,Cf,Bw,Bj,Lc,Lp,tc,tp,vr,v0,L,t,pe,p0]<;>with_reducible rfl))
    |((with_reducible first|apply Ar|apply Au);· first|with_reducible rfl|omega|(simp (disch:=omega) only [gT,g0,g1,g2,g3,g4,g5,g6,g7,g8,g9,g10,g11,g12,m0,m1,ds,e00,Cf,Bw,Bj,Lc,Lp,tc,tp,vr,v0,L,t,pe,p0]<;>omega))
    |(with_reducible apply Aw;· first|with_reducible rfl|(simp (disch:=omega) only [gF,g0,g1,g2,g3,g4,g5,g6,g7,g8,g9,g10,g11,g12,m0,m1,ds,e00,Cf,Bw,Bj,Lc,Lp,tc,tp,vr,v0,L,t,pe,p0]<;>omega))
   try simp (disch:=omega) only [g0,g1,g2,g3,g4,g5,g6,g7,g8,g9,g10,g11,g12,m0,m1,ds,e00,Cf,Bw,Bj,Lc,Lp,tc,tp,vr,v0,L,t,pe,p0]
   all_goals rfl
  ·have p0:(pr.2 != 0)=true:=by simp [hpp]
   rw [Bm hpp]
   try unfold Aa
   repeat first
    |((with_reducible first|apply At|apply Aj|apply As|apply Ax|apply Az|apply A5|apply Cm|apply Bb|apply Ai);· first|with_reducible rfl|(simp (disch:=omega) only [g0,g1,g2,g3,g4,g5,g6,g7,g8,g9,g10,g11,g12,m0,m1,ds,e00,Cf,Bw,Bj,Lc,Lp,tc,tp,vr,v0,L,t,pe,p0]<;>with_reducible rfl))
    |((with_reducible first|apply Ar|apply Au);· first|with_reducible rfl|omega|(simp (disch:=omega) only [gT,g0,g1,g2,g3,g4,g5,g6,g7,g8,g9,g10,g11,g12,m0,m1,ds,e00,Cf,Bw,Bj,Lc,Lp,tc,tp,vr,v0,L,t,pe,p0]<;>omega))
    |(with_reducible apply Aw;· first|with_reducible rfl|(simp (disch:=omega) only [gF,g0,g1,g2,g3,g4,g5,g6,g7,g8,g9,g10,g11,g12,m0,m1,ds,e00,Cf,Bw,Bj,Lc,Lp,tc,tp,vr,v0,L,t,pe,p0]<;>omega))
   try simp (disch:=omega) only [g0,g1,g2,g3,g4,g5,g6,g7,g8,g9,g10,g11,g12,m0,m1,ds,e00,Cf,Bw,Bj,Lc,Lp,tc,tp,vr,v0,L,t,pe,p0]
   all_goals rfl
theorem Ai3 (hfu:1000<=fu){a0_0:Int}{a0_1:ByteArray}{a0_2n:Nat}{a0_2:List PV}{a0_3n:Nat}{a0_3:List PV}{a0_4n:Nat}{a0_4:List PV}{a0_5:Int}{a0_6n:Nat}{a0_6:List PV}{a0_7:ByteArray}{a1_0 a1_1 a1_2 a1_3 a1_4:Int}{a1_5n:Nat}{a1_5:List PV}{a1_6 a1_7 a2:Int}{a3n:Nat}{a3:List PV}{a4n:Nat}{a4:List PV}{a5:Int}
  {r:Rp} (hr:r.ok) (h3:r.certs.length<=3) (a:Ad) (w:Int) {ans:List An} (hl:ans.length<=900) {vs:List Rv} (hv:vs.length<=900) (now:Int):∀(q:List (List Int)) (i nn:Nat) (cs:List Ce),r.certs.drop i=q->q.length<nn->i<=r.certs.length->(∀c∈cs,c.in_)->cs.length=i->(q=[]->cs≠[]) ->
  Dz fu (Ae C0 Tryz.prog fu (d+10)) a0_0 a0_1 a0_2n a0_2 a0_3n a0_3 a0_4n a0_4 a0_5 a0_6n a0_6 a0_7 a1_0 a1_1 a1_2 a1_3 a1_4 a1_5n a1_5 a1_6 a1_7 a2 a3n a3 a4n a4 a5 nn w ans.length (Ic ans) vs.length (Kd vs) now cs.length r.certs.length (Ag8 r.certs) (r.certs.length:Int) (i:Int) r.kind r.cd r.ad.length (Ah .u8 r.ad) r.sg.length (Ah .u8 r.sg) r.certs.length (Ag8 r.certs) r.fmt r.id_.length (Ah .u8 r.id_) r.user a.rp a.flags a.cnt a.rng a.model a.id_.length (Ah .u8 a.id_) a.key.h a.key.root 0 0 0 (D2 cs) =
   some ⟨(if (Dq q).2≠0 then avE (Dq q).2 else Aaf r.sg a.model w ans vs now (cs++(Dq q).1)).vals,[]⟩
 |_,_,0,_,_,h,_,_,_,_=>by omega
 |[],i,nn+1,cs,h,hn,hi,hc,hcl,hne=>by
  have:=drop_nil h;obtain rfl:i=r.certs.length:=by omega
  have e:(if (Dq []).2≠0 then avE (Dq []).2 else Aaf r.sg a.model w ans vs now (cs++(Dq []).1))=Aaf r.sg a.model w ans vs now cs:=by
   rw [Dq,A0 (by simp)]
   simp
  rw [e];exact Azb hfu hr a w hl hv now hc (hne rfl) (by omega) nn
 |b::q,i,nn+1,cs,h,hn,hi,hc,hcl,hne=>by
  obtain ⟨h1,h2,h3'⟩:=Ct h;simp only [Iw] at hn;obtain ⟨hb,hbl⟩:=hr.certs b (List.mem_of_getElem? h2);have de:=A4v (fu:=fu) (d:=d+1) hfu hb hbl;have din:=A4r hb;have nt:Int.toNat (i:Int)=i:=Hr _;have g0:=atb h2;have w1:IntKind.wrap .i64 ((i:Int)+1)=((i+1:Nat):Int):=by rw [Ap (by omega) (by omega)];omega
  have L:=An8 cs;have t:List.take (cs.length*13) (D2 cs)=D2 cs:=Iv (by omega)
  have ed:Dq (b::q)=if (Ku b).2≠0 then ([],(Ku b).2) else if (Dq q).2≠0 then ([],(Dq q).2) else ((Ku b).1::(Dq q).1,0):=rfl
  rw [ed,Hv];generalize Ku b=D at de din ⊢;obtain ⟨c,e⟩:=D;simp only at de din ⊢;by_cases he:e=0
  rotate_left
  ·have e0:(e != 0)=true:=by simp [he]
   rw [Bm he];simp only [ne_eq,he,not_false_eq_true,if_true];simp only [Ce.cells] at de
   try unfold Aa
   repeat first
    |((with_reducible first|apply At|apply Aj|apply As|apply Ax|apply Az|apply A5|apply Cm|apply Bb|apply Ai);· first|with_reducible rfl|(simp (disch:=omega) only [nt,g0,de,e0]<;>with_reducible rfl))
    |((with_reducible first|apply Ar|apply Au);· first|with_reducible rfl|omega|(simp (disch:=omega) only [gT,nt,g0,de,e0]<;>omega))
    |(with_reducible apply Aw;· first|with_reducible rfl|(simp (disch:=omega) only [gF,nt,g0,de,e0]<;>omega))
   try simp (disch:=omega) only [nt,g0,de,e0]
   all_goals rfl
  subst he;have e00:((0:Int) != 0)=false:=rfl;have hci:=din rfl;have n00:¬((0:Int)≠0):=by simp
  rw [A0 n00]
  have ih:=Ai3 hfu (a0_0:=a0_0) (a0_1:=a0_1) (a0_2n:=a0_2n) (a0_2:=a0_2) (a0_3n:=a0_3n) (a0_3:=a0_3) (a0_4n:=a0_4n) (a0_4:=a0_4) (a0_5:=a0_5) (a0_6n:=a0_6n) (a0_6:=a0_6) (a0_7:=a0_7) (a1_0:=a1_0) (a1_1:=a1_1) (a1_2:=a1_2) (a1_3:=a1_3) (a1_4:=a1_4) (a1_5n:=a1_5n) (a1_5:=a1_5) (a1_6:=a1_6) (a1_7:=a1_7) (a2:=a2) (a3n:=a3n) (a3:=a3) (a4n:=a4n) (a4:=a4) (a5:=a5) hr h3 a w hl hv now q (i+1) nn (cs++[c]) h3' (by omega) (by omega) (by
   intro x hx;rcases List.mem_append.1 hx with hx|hx
   ·exact hc x hx
   ·simp at hx;subst hx;exact hci) (by
   simp only [Hz,Iw,Y6];omega) (by intro _;simp)
  have ee:(if (if (Dq q).2≠0 then (([]:List Ce),(Dq q).2) else (c::(Dq q).1,0)).2≠0 then avE (if (Dq q).2≠0 then (([]:List Ce),(Dq q).2) else (c::(Dq q).1,0)).2 else Aaf r.sg a.model w ans vs now (cs++(if (Dq q).2≠0 then (([]:List Ce),(Dq q).2) else (c::(Dq q).1,0)).1))=(if (Dq q).2≠0 then avE (Dq q).2 else Aaf r.sg a.model w ans vs now (cs++[c]++(Dq q).1)):=by
   by_cases hd:(Dq q).2=0
   ·have hd':¬((Dq q).2≠0):=by simp [hd]
    rw [A0 hd',A0 hd'];simp
   ·rw [Bm hd,Bm hd,Bm hd]
  rw [ee,←ih,Ayh,Hz];have e1:D2 [c]=c.cells:=by simp [D2]
  rw [e1];simp only [Ce.cells] at de ⊢;have lr:[c].length=1:=rfl;rw [lr]
  try unfold Aa
  repeat first
   |((with_reducible first|apply At|apply Aj|apply As|apply Ax|apply Az|apply A5|apply Cm|apply Bb|apply Ai);· first|with_reducible rfl|(simp (disch:=omega) only [nt,g0,de,e00,w1,L,t]<;>with_reducible rfl))
   |((with_reducible first|apply Ar|apply Au);· first|with_reducible rfl|omega|(simp (disch:=omega) only [gT,nt,g0,de,e00,w1,L,t]<;>omega))
   |(with_reducible apply Aw;· first|with_reducible rfl|(simp (disch:=omega) only [gF,nt,g0,de,e00,w1,L,t]<;>omega))
  try simp (disch:=omega) only [nt,g0,de,e00,w1,L,t]
  all_goals rfl
theorem Ay7 (hfu:1000<=fu){r:Rp}(hr:r.ok)(a:Ad)(w:Int){ans:List An}(hl:ans.length<=900){vs:List Rv}(hv:vs.length<=900)(now:Int):
  Ae C0 Tryz.prog fu (d+11) Ja [.agg r.cells,.agg a.cells,.sc (.int .u64 w),.lst false 3 ans.length (Ic ans),.lst false 3 vs.length (Kd vs),.sc (.int .i64 now)]=some ⟨(Aje r a w ans vs now).vals,[]⟩:=by
 refine (Rn fu (d+10) r.kind r.cd r.ad.length (Ah .u8 r.ad) r.sg.length (Ah .u8 r.sg) r.certs.length (Ag8 r.certs) r.fmt r.id_.length (Ah .u8 r.id_) r.user a.rp a.flags a.cnt a.rng a.model a.id_.length (Ah .u8 a.id_) a.key.h a.key.root w ans.length (Ic ans) vs.length (Kd vs) now).trans ?_;unfold Aje;by_cases h1:r.certs.length<1
 ·rw [Bm h1]
  try unfold Aa
  repeat first
   |((with_reducible first|apply At|apply Aj|apply As|apply Ax|apply Az|apply A5|apply Cm|apply Bb|apply Ai);· first|with_reducible rfl|(simp (disch:=omega) only [Bj]<;>with_reducible rfl))
   |((with_reducible first|apply Ar|apply Au);· first|with_reducible rfl|omega|(simp (disch:=omega) only [gT,Bj]<;>omega))
   |(with_reducible apply Aw;· first|with_reducible rfl|(simp (disch:=omega) only [gF,Bj]<;>omega))
  try simp (disch:=omega) only [Bj]
  all_goals rfl
 rw [A0 h1];by_cases h2:r.certs.length>3
 ·rw [Bm h2]
  try unfold Aa
  repeat first
   |((with_reducible first|apply At|apply Aj|apply As|apply Ax|apply Az|apply A5|apply Cm|apply Bb|apply Ai);· first|with_reducible rfl|(simp (disch:=omega) only [Bj]<;>with_reducible rfl))
   |((with_reducible first|apply Ar|apply Au);· first|with_reducible rfl|omega|(simp (disch:=omega) only [gT,Bj]<;>omega))
   |(with_reducible apply Aw;· first|with_reducible rfl|(simp (disch:=omega) only [gF,Bj]<;>omega))
  try simp (disch:=omega) only [Bj]
  all_goals rfl
 rw [A0 h2];have bl:=Ai3 (fu:=fu) (d:=d) (a0_0:=r.kind) (a0_1:=r.cd) (a0_2n:=r.ad.length) (a0_2:=Ah .u8 r.ad) (a0_3n:=r.sg.length) (a0_3:=Ah .u8 r.sg) (a0_4n:=r.certs.length) (a0_4:=Ag8 r.certs) (a0_5:=r.fmt) (a0_6n:=r.id_.length) (a0_6:=Ah .u8 r.id_) (a0_7:=r.user) (a1_0:=a.rp) (a1_1:=a.flags) (a1_2:=a.cnt) (a1_3:=a.rng) (a1_4:=a.model) (a1_5n:=a.id_.length) (a1_5:=Ah .u8 a.id_) (a1_6:=a.key.h) (a1_7:=a.key.root) (a2:=w) (a3n:=ans.length) (a3:=Ic ans) (a4n:=vs.length) (a4:=Kd vs) (a5:=now) hfu hr (by omega) a w hl hv now r.certs 0 fu [] rfl (by omega) (by omega) (by simp) (by simp) (by intro h;rw [h] at h1;simp at h1)
 rw [Zzq] at bl;rw [←bl]
 try unfold Aa
 repeat first
  |((with_reducible first|apply At|apply Aj|apply As|apply Ax|apply Az|apply A5|apply Cm|apply Bb|apply Ai);· first|with_reducible rfl|(simp (disch:=omega) only [Bj]<;>with_reducible rfl))
  |((with_reducible first|apply Ar|apply Au);· first|with_reducible rfl|omega|(simp (disch:=omega) only [gT,Bj]<;>omega))
  |(with_reducible apply Aw;· first|with_reducible rfl|(simp (disch:=omega) only [gF,Bj]<;>omega))
 try simp (disch:=omega) only [Bj]
 all_goals rfl
theorem Ade (hfu:1000<=fu){r:Rp}(hr:r.ok)(a:Ad)(w:Int){ans:List An}(hl:ans.length<=900){vs:List Rv}(hv:vs.length<=900)(now:Int):
  Ae C0 Tryz.prog fu (d+12) Nm [.agg r.cells,.agg a.cells,.sc (.int .u64 w),.lst false 3 ans.length (Ic ans),.lst false 3 vs.length (Kd vs),.sc (.int .i64 now)]=some ⟨(Ab1 r a w ans vs now).vals,[]⟩:=by
 refine (Xv fu (d+11) r.kind r.cd r.ad.length (Ah .u8 r.ad) r.sg.length (Ah .u8 r.sg) r.certs.length (Ag8 r.certs) r.fmt r.id_.length (Ah .u8 r.id_) r.user a.rp a.flags a.cnt a.rng a.model a.id_.length (Ah .u8 a.id_) a.key.h a.key.root w ans.length (Ic ans) vs.length (Kd vs) now).trans ?_;have sf:=A47 (fu:=fu) (d:=d+2) hfu hr a w;have bt:=Ay7 (fu:=fu) (d:=d) hfu hr a w hl hv now;simp only [Rp.cells,Ad.cells,Av.vals] at sf bt;unfold Ab1;by_cases h0:E9 .i64 a.flags 64=0
 ·have f0:(E9 .i64 a.flags 64==0)=true:=by simp [h0]
  rw [Bm h0]
  try unfold Aa
  repeat first
   |((with_reducible first|apply At|apply Aj|apply As|apply Ax|apply Az|apply A5|apply Cm|apply Bb|apply Ai);· first|with_reducible rfl|(simp (disch:=omega) only [f0]<;>with_reducible rfl))
   |((with_reducible first|apply Ar|apply Au);· first|with_reducible rfl|omega|(simp (disch:=omega) only [gT,f0]<;>omega))
   |(with_reducible apply Aw;· first|with_reducible rfl|(simp (disch:=omega) only [gF,f0]<;>omega))
  try simp (disch:=omega) only [f0]
  all_goals rfl
 have f0:(E9 .i64 a.flags 64==0)=false:=by simp only [beq_eq_false_iff_ne,ne_eq];exact h0
 rw [A0 h0];generalize E9 .i64 a.flags 64=fl at *
 by_cases h1:r.fmt=0
 ·have b1:(r.fmt==0)=true:=by simp [h1]
  rw [Bm h1];by_cases h2:r.sg.length>0
  ·rw [Bm h2]
   try unfold Aa
   repeat first
    |((with_reducible first|apply At|apply Aj|apply As|apply Ax|apply Az|apply A5|apply Cm|apply Bb|apply Ai);· first|with_reducible rfl|(simp (disch:=omega) only [f0,b1]<;>with_reducible rfl))
    |((with_reducible first|apply Ar|apply Au);· first|with_reducible rfl|omega|(simp (disch:=omega) only [gT,f0,b1]<;>omega))
    |(with_reducible apply Aw;· first|with_reducible rfl|(simp (disch:=omega) only [gF,f0,b1]<;>omega))
   try simp (disch:=omega) only [f0,b1]
   all_goals rfl
  rw [A0 h2];by_cases h3:r.certs.length>0
  ·rw [Bm h3]
   try unfold Aa
   repeat first
    |((with_reducible first|apply At|apply Aj|apply As|apply Ax|apply Az|apply A5|apply Cm|apply Bb|apply Ai);· first|with_reducible rfl|(simp (disch:=omega) only [f0,b1]<;>with_reducible rfl))
    |((with_reducible first|apply Ar|apply Au);· first|with_reducible rfl|omega|(simp (disch:=omega) only [gT,f0,b1]<;>omega))
    |(with_reducible apply Aw;· first|with_reducible rfl|(simp (disch:=omega) only [gF,f0,b1]<;>omega))
   try simp (disch:=omega) only [f0,b1]
   all_goals rfl
  rw [A0 h3]
  try unfold Aa
  repeat first
   |((with_reducible first|apply At|apply Aj|apply As|apply Ax|apply Az|apply A5|apply Cm|apply Bb|apply Ai);· first|with_reducible rfl|(simp (disch:=omega) only [f0,b1]<;>with_reducible rfl))
   |((with_reducible first|apply Ar|apply Au);· first|with_reducible rfl|omega|(simp (disch:=omega) only [gT,f0,b1]<;>omega))
   |(with_reducible apply Aw;· first|with_reducible rfl|(simp (disch:=omega) only [gF,f0,b1]<;>omega))
  try simp (disch:=omega) only [f0,b1]
  all_goals rfl
 have b1:(r.fmt==0)=false:=by simp [h1]
 rw [A0 h1];by_cases h2:r.fmt=1
 ·have b2:(r.fmt==1)=true:=by simp [h2]
  rw [Bm h2]
  try unfold Aa
  repeat first
   |((with_reducible first|apply At|apply Aj|apply As|apply Ax|apply Az|apply A5|apply Cm|apply Bb|apply Ai);· first|with_reducible rfl|(simp (disch:=omega) only [f0,b1,b2,sf]<;>with_reducible rfl))
   |((with_reducible first|apply Ar|apply Au);· first|with_reducible rfl|omega|(simp (disch:=omega) only [gT,f0,b1,b2,sf]<;>omega))
   |(with_reducible apply Aw;· first|with_reducible rfl|(simp (disch:=omega) only [gF,f0,b1,b2,sf]<;>omega))
  try simp (disch:=omega) only [f0,b1,b2,sf]
  all_goals rfl
 have b2:(r.fmt==1)=false:=by simp [h2]
 rw [A0 h2];by_cases h3:r.fmt=2
 ·have b3:(r.fmt==2)=true:=by simp [h3]
  rw [Bm h3]
  try unfold Aa
  repeat first
   |((with_reducible first|apply At|apply Aj|apply As|apply Ax|apply Az|apply A5|apply Cm|apply Bb|apply Ai);· first|with_reducible rfl|(simp (disch:=omega) only [f0,b1,b2,b3,bt]<;>with_reducible rfl))
   |((with_reducible first|apply Ar|apply Au);· first|with_reducible rfl|omega|(simp (disch:=omega) only [gT,f0,b1,b2,b3,bt]<;>omega))
   |(with_reducible apply Aw;· first|with_reducible rfl|(simp (disch:=omega) only [gF,f0,b1,b2,b3,bt]<;>omega))
  try simp (disch:=omega) only [f0,b1,b2,b3,bt]
  all_goals rfl
 have b3:(r.fmt==2)=false:=by simp [h3]
 rw [A0 h3]
 try unfold Aa
 repeat first
  |((with_reducible first|apply At|apply Aj|apply As|apply Ax|apply Az|apply A5|apply Cm|apply Bb|apply Ai);· first|with_reducible rfl|(simp (disch:=omega) only [f0,b1,b2,b3]<;>with_reducible rfl))
  |((with_reducible first|apply Ar|apply Au);· first|with_reducible rfl|omega|(simp (disch:=omega) only [gT,f0,b1,b2,b3]<;>omega))
  |(with_reducible apply Aw;· first|with_reducible rfl|(simp (disch:=omega) only [gF,f0,b1,b2,b3]<;>omega))
 try simp (disch:=omega) only [f0,b1,b2,b3]
 all_goals rfl
end
end
section
set_option maxRecDepth 100000
abbrev Sk:FuncId:=11
theorem Adw (fu d:Nat)(a0 a1:Int):Ae C0 Tryz.prog fu (d+1) Sk [.sc (.int .i64 a0),.sc (.int .i64 a1)]=(fun (call:Am)=>Aa (IntKind.wrap .u64 a0) fun x1=>Aa (IntKind.wrap .u64 a1) fun x2=>Aq (decide (x2≠0))<|Aa (Int.tmod x1 x2) fun x3=>Aa (IntKind.wrap .i64 x3) fun x4=>some (Ay.mk [.sc (.int .i64 x4)] [])) (Ae C0 Tryz.prog fu d):=by kernel_rfl
end
section
theorem Az0 (v n:Int)(hn:0<n)(hm:n<=9223372036854775807):∃r,0<=r∧r<n∧∀{fu d:Nat},Ae C0 Tryz.prog fu (d+1) Sk [.sc (.int .i64 v),.sc (.int .i64 n)]=some ⟨[.sc (.int .i64 r)],[]⟩:=by
 have h1:=Lw v;have h2:IntKind.wrap .u64 n=n:=B6 (by omega) (by omega)
 have h3:0<=Int.tmod (IntKind.wrap .u64 v) n:=Int.tmod_nonneg _ h1.1;have h4:Int.tmod (IntKind.wrap .u64 v) n<n:=Int.tmod_lt_of_pos _ hn;refine ⟨_,h3,h4,fun {fu d}=>?_⟩
 rw [Adw];simp only [Hj,h2];rw [Yu _ _ (by omega),Ap (by omega) (by omega)]
end
section
set_option maxRecDepth 100000
abbrev Sb:FuncId:=16
theorem Aej (fu d:Nat)(a0 a1:Int):Ae C0 Tryz.prog fu (d+1) Sb [.sc (.int .u64 a0),.sc (.int .i64 a1)]=(fun (call:Am)=>Ag (call 34 [.sc (.int .u64 a0),.sc (.int .i64 a1)]) fun x1 x2=>Ac x2<|Ab x1 fun x3 x4=>Cu x3 fun x5=>Ab x5 fun x6 x7=>Af .i64 x6 fun x8=>Ab x7 fun x9 Cd=>Af .u64 x9 fun Bp=>Ac Cd<|Ab x4 fun C4 Da=>Af .i64 C4 fun Cq=>Ac Da<|some (Ay.mk [.agg [.sc (.int .i64 x8),.sc (.int .u64 Bp)]] [])) (Ae C0 Tryz.prog fu d):=by kernel_rfl
abbrev Gu:FuncId:=25
theorem Z0 (fu d:Nat)(a0 a1:Int):Ae C0 Tryz.prog fu (d+1) Gu [.sc (.int .i64 a0),.sc (.int .i64 a1)]=(fun (call:Am)=>Aa (IntKind.wrap .u64 a0) fun x1=>Aa (IntKind.wrap .u64 (x1+1)) fun x2=>Aa (if 1024<a1 then 1024 else a1) fun x3=>Aa (if x3<0 then 0 else x3) fun x4=>Ag (call 52 [.sc (.int .u64 x2),.sc (.int .u64 7),.sc (.int .i64 x4)]) fun x5 x6=>Ac x6<|Ab x5 fun x7 x8=>Dk 1 x7 fun x9 Cd=>Ac x8<|Aq (decide (x9*1<=List.length Cd))<|some (Ay.mk [.own 1 x9 (List.take (x9*1) Cd)] [])) (Ae C0 Tryz.prog fu d):=by kernel_rfl
abbrev Jh:FuncId:=23
theorem Sy (fu d:Nat)(a0 a1:Int)(a2:Bool):Ae C0 Tryz.prog fu (d+1) Jh [.sc (.int .i64 a0),.sc (.int .i64 a1),.sc (.bool a2)]=(fun (call:Am)=>Aa (IntKind.wrap .u64 a0) fun x1=>Aa (IntKind.wrap .u64 (1000+x1)) fun x2=>Aa (IntKind.wrap .i64 (500+a0)) fun x3=>Ag (call 25 [.sc (.int .i64 x3),.sc (.int .i64 176)]) fun x4 x5=>Ac x5<|Ab x4 fun x6 x7=>Dk 1 x6 fun x8 x9=>Ac x7<|Aq (decide (x8*1<=List.length x9))<|some (Ay.mk [.agg [.sc (.int .u64 x2),.sc (.int .i64 a1),.own 1 x8 (List.take (x8*1) x9),.sc (.bool a2)]] [])) (Ae C0 Tryz.prog fu d):=by kernel_rfl
abbrev Jl:FuncId:=49
theorem Ss (fu d:Nat)(a0_0 a0_1:Int)(a0_2n:Nat)(a0_2:List PV)(a0_3 a1:Bool):Ae C0 Tryz.prog fu (d+1) Jl [.agg [.sc (.int .u64 a0_0),.sc (.int .i64 a0_1),.lst false 1 a0_2n a0_2,.sc (.bool a0_3)],.sc (.bool a1)]=(fun (call:Am)=>A4 (a1) (A4 (a0_3) (some (Ay.mk [.sc (.int .i64 13)] [])) (some (Ay.mk [.sc (.int .i64 5)] []))) (A4 (a0_3) (some (Ay.mk [.sc (.int .i64 9)] [])) (some (Ay.mk [.sc (.int .i64 1)] [])))) (Ae C0 Tryz.prog fu d):=by kernel_rfl
abbrev O9:FuncId:=51
theorem Zw (fu d:Nat):Ae C0 Tryz.prog fu (d+1) O9 []=(fun (call:Am)=>Ag (call 16 [.sc (.int .u64 33),.sc (.int .i64 4)]) fun x1 x2=>Ac x2<|Ab x1 fun x3 x4=>Cu x3 fun x5=>Ab x5 fun x6 x7=>Af .i64 x6 fun x8=>Ab x7 fun x9 Cd=>Af .u64 x9 fun Bp=>Ac Cd<|Ac x4<|Ag (call 78 [.agg [.sc (.string (ByteArray.mk #[98,97,116,99,104])),.sc (.string (ByteArray.mk #[114,111,111,116])),.sc (.int .u64 1),.sc (.int .i64 x8),.sc (.int .u64 Bp),.sc (.int .i64 0),.sc (.int .i64 900),.sc (.bool false),.sc (.int .i64 0),.sc (.int .u64 3),.sc (.int .i64 0),.lst false 1 0 [],.lst false 1 0 []],.sc (.int .u64 32),.sc (.int .i64 1),.sc (.int .i64 0)]) fun C4 Da=>Ac Da<|Ab C4 fun Cq C9=>Cu Cq fun Do=>Ab Do fun Du D5=>Cn Du fun D7=>Ab D5 fun Eh Fy=>Cn Eh fun Ci=>Ab Fy fun Fn Ds=>Af .u64 Fn fun Bx=>Ab Ds fun Fc Ft=>Af .i64 Fc fun Bk=>Ab Ft fun Cg Hg=>Af .u64 Cg fun Gf=>Ab Hg fun Ie H0=>Af .i64 Ie fun Jn=>Ab H0 fun Gt Ix=>Af .i64 Gt fun M5=>Ab Ix fun F0 H5=>Bz F0 fun Rh=>Ab H5 fun R6 L6=>Af .i64 R6 fun Rl=>Ab L6 fun Pu Lx=>Af .u64 Pu fun Q6=>Ab Lx fun Rj Oc=>Af .i64 Rj fun Pw=>Ab Oc fun Sd Pq=>Ih 1 Sd fun Rx Lz Py=>Ab Pq fun Rr Ts=>Ih 1 Rr fun Pi Q9 S5=>Ac Ts<|Ab C9 fun Uv Oe=>Af .i64 Uv fun Ro=>Ac Oe<|Ag (call 44 [.agg [.sc (.string D7),.sc (.string Ci),.sc (.int .u64 Bx),.sc (.int .i64 Bk),.sc (.int .u64 Gf),.sc (.int .i64 Jn),.sc (.int .i64 M5),.sc (.bool Rh),.sc (.int .i64 Rl),.sc (.int .u64 Q6),.sc (.int .i64 Pw),.lst false 1 Lz Py,.lst false 1 Q9 S5]]) fun V9 Uq=>Ac Uq<|Ab V9 fun Q7 S6=>Dk 1 Q7 fun S1 Ty=>Ab S6 fun Up Us=>Af .i64 Up fun Q8=>Ac Us<|Aq (decide (0+S1*1<=List.length Ty))<|some (Ay.mk [.own 1 1 [.lst false 1 S1 (List.take (S1*1) (List.drop 0 Ty))]] [])) (Ae C0 Tryz.prog fu d):=by kernel_rfl
abbrev Mf:FuncId:=80
theorem V8 (fu d:Nat)(a0 a1 a2:Int):Ae C0 Tryz.prog fu (d+1) Mf [.sc (.int .i64 a0),.sc (.int .i64 a1),.sc (.int .i64 a2)]=(fun (call:Am)=>A4 (decide (a0>=a1)) (some (Ay.mk [.sc (.bool (decide (a0<=a2)))] [])) (some (Ay.mk [.sc (.bool false)] []))) (Ae C0 Tryz.prog fu d):=by kernel_rfl
abbrev Mg:FuncId:=48
theorem Wb (fu d:Nat)(a0:ByteArray):Ae C0 Tryz.prog fu (d+1) Mg [.sc (.string a0)]=(fun (call:Am)=>Aq (decide (ByteArray.size a0<=1099511627776))<|Aq (decide (0+ByteArray.size a0*1<=List.length (Co a0)))<|Ag (call 46 [.sc (.int .i64 9),.lst false 1 (ByteArray.size a0) (List.take (ByteArray.size a0*1) (List.drop 0 (Co a0)))]) fun x1 x2=>Ac x2<|Ab x1 fun x3 x4=>Af .u64 x3 fun x5=>Ac x4<|some (Ay.mk [.sc (.int .u64 x5)] [])) (Ae C0 Tryz.prog fu d):=by kernel_rfl
abbrev Ib:FuncId:=54
theorem Pe (fu d:Nat)(a0_0 a0_1:Int)(a0_2 a0_3 a0_4:Int)(V6:Nat)(a0_5:List PV)(a0_6 a0_7:Int):Ae C0 Tryz.prog fu (d+1) Ib [.agg [.sc (.int .u64 a0_0),.sc (.int .i64 a0_1),.sc (.int .i64 a0_2),.sc (.int .i64 a0_3),.sc (.int .u64 a0_4),.lst false 1 V6 a0_5,.sc (.int .i64 a0_6),.sc (.int .u64 a0_7)]]=(fun (call:Am)=>Aa (Api .i64 a0_1 93) fun x1=>A4 (x1 != 0) (some (Ay.mk [.sc (.int .i64 9)] [])) (Ag (call 80 [.sc (.int .i64 a0_2),.sc (.int .i64 0),.sc (.int .i64 16)]) fun x2 x3=>Ac x3<|Ab x2 fun x4 x5=>Bz x4 fun x6=>Ac x5<|A4 (!x6) (some (Ay.mk [.sc (.int .i64 9)] [])) (Ag (call 80 [.sc (.int .i64 a0_3),.sc (.int .i64 0),.sc (.int .i64 15)]) fun x7 x8=>Ac x8<|Ab x7 fun x9 Cd=>Bz x9 fun Bp=>Ac Cd<|A4 (!Bp) (some (Ay.mk [.sc (.int .i64 9)] [])) (Aa (E9 .i64 a0_1 16) fun C4=>A4 (C4 != 0) (Aa (E9 .i64 a0_1 8) fun Da=>A4 (Da==0) (some (Ay.mk [.sc (.int .i64 18)] [])) (Aa (E9 .i64 a0_1 64) fun Cq=>A4 (Cq==0) (A4 (a0_4 != 0) (some (Ay.mk [.sc (.int .i64 4)] [])) (A4 (decide ((↑V6:Int)>0)) (some (Ay.mk [.sc (.int .i64 4)] [])) (A4 (!(a0_6==0&&(a0_7==0&&true))) (some (Ay.mk [.sc (.int .i64 4)] [])) (some (Ay.mk [.sc (.int .i64 0)] []))))) (A4 ((↑V6:Int) != 176) (some (Ay.mk [.sc (.int .i64 4)] [])) (Ag (call 68 [.agg [.sc (.int .i64 a0_6),.sc (.int .u64 a0_7)]]) fun C9 Do=>Ac Do<|Ab C9 fun Du D5=>Dk 1 Du fun D7 Eh=>Ab D5 fun Fy Ci=>Af .i64 Fy fun Fn=>Ac Ci<|some (Ay.mk [.sc (.int .i64 Fn)] []))))) (Aa (E9 .i64 a0_1 64) fun Ds=>A4 (Ds==0) (A4 (a0_4 != 0) (some (Ay.mk [.sc (.int .i64 4)] [])) (A4 (decide ((↑V6:Int)>0)) (some (Ay.mk [.sc (.int .i64 4)] [])) (A4 (!(a0_6==0&&(a0_7==0&&true))) (some (Ay.mk [.sc (.int .i64 4)] [])) (some (Ay.mk [.sc (.int .i64 0)] []))))) (A4 ((↑V6:Int) != 176) (some (Ay.mk [.sc (.int .i64 4)] [])) (Ag (call 68 [.agg [.sc (.int .i64 a0_6),.sc (.int .u64 a0_7)]]) fun Bx Fc=>Ac Fc<|Ab Bx fun Ft Bk=>Dk 1 Ft fun Cg Hg=>Ab Bk fun Gf Ie=>Af .i64 Gf fun H0=>Ac Ie<|some (Ay.mk [.sc (.int .i64 H0)] [])))))))) (Ae C0 Tryz.prog fu d):=by kernel_rfl
abbrev I9:FuncId:=50
theorem Rk (fu d:Nat)(a0_0 a0_1:Int)(a0_2 a0_3 a0_4:Int)(V6:Nat)(a0_5:List PV)(a0_6 a0_7:Int):Ae C0 Tryz.prog fu (d+1) I9 [.agg [.sc (.int .u64 a0_0),.sc (.int .i64 a0_1),.sc (.int .i64 a0_2),.sc (.int .i64 a0_3),.sc (.int .u64 a0_4),.lst false 1 V6 a0_5,.sc (.int .i64 a0_6),.sc (.int .u64 a0_7)]]=(fun (call:Am)=>Ag (call 54 [.agg [.sc (.int .u64 a0_0),.sc (.int .i64 a0_1),.sc (.int .i64 a0_2),.sc (.int .i64 a0_3),.sc (.int .u64 a0_4),.lst false 1 V6 a0_5,.sc (.int .i64 a0_6),.sc (.int .u64 a0_7)]]) fun x1 x2=>Ac x2<|Ab x1 fun x3 x4=>Af .i64 x3 fun x5=>Ac x4<|A4 (x5 != 0) (some (Ay.mk [.own 1 0 [],.sc (.int .i64 x5)] [])) (Ag (call 38 [.lst false 1 1 [.sc (.int .u64 a0_0)]]) fun x6 x7=>Ac x7<|Ab x6 fun x8 x9=>Dk 1 x8 fun Cd Bp=>Ac x9<|Aa (IntKind.wrap .u8 a0_1) fun C4=>Aa (IntKind.wrap .u8 a0_2) fun Da=>Aa (IntKind.wrap .u8 a0_3) fun Cq=>Aq (decide (Cd*1<=List.length Bp)&&true&&decide ((Cd+3)*1<=1099511627776)&&decide (Cd+3<=1099511627776))<|Aa (Cd+3) fun C9=>Aa (List.take (Cd*1) Bp++[.sc (.int .u8 C4),.sc (.int .u8 Da),.sc (.int .u8 Cq)]) fun Do=>Aa (E9 .i64 a0_1 64) fun Du=>A4 (Du != 0) (Ag (call 68 [.agg [.sc (.int .i64 a0_6),.sc (.int .u64 a0_7)]]) fun D5 D7=>Ac D7<|Ab D5 fun Eh Fy=>Dk 1 Eh fun Ci Fn=>Ab Fy fun Ds Bx=>Af .i64 Ds fun Fc=>Ac Bx<|Ag (call 38 [.lst false 1 1 [.sc (.int .u64 a0_4)]]) fun Ft Bk=>Ac Bk<|Ab Ft fun Cg Hg=>Dk 1 Cg fun Gf Ie=>Ac Hg<|Aq (decide (0+Gf*1<=List.length Ie))<|Aq (decide (C9*1<=List.length Do)&&decide (List.length (List.take (Gf*1) (List.drop 0 Ie))=Gf*1)&&decide ((C9+Gf)*1<=1099511627776)&&decide (C9+Gf<=1099511627776))<|Aa (C9+Gf) fun H0=>Aa (List.take (C9*1) Do++List.take (Gf*1) (List.drop 0 Ie)) fun Jn=>Aq (decide (H0*1<=List.length Jn)&&decide (List.length a0_5=V6*1)&&decide ((H0+V6)*1<=1099511627776)&&decide (H0+V6<=1099511627776))<|Aa (H0+V6) fun Gt=>Aa (List.take (H0*1) Jn++a0_5) fun Ix=>Aq (decide (0+Ci*1<=List.length Fn))<|Aq (decide (Gt*1<=List.length Ix)&&decide (List.length (List.take (Ci*1) (List.drop 0 Fn))=Ci*1)&&decide ((Gt+Ci)*1<=1099511627776)&&decide (Gt+Ci<=1099511627776))<|Aa (Gt+Ci) fun M5=>Aa (List.take (Gt*1) Ix++List.take (Ci*1) (List.drop 0 Fn)) fun F0=>Aq (decide (M5*1<=List.length F0))<|some (Ay.mk [.own 1 M5 (List.take (M5*1) F0),.sc (.int .i64 0)] [])) (Aq (decide (C9*1<=List.length Do))<|some (Ay.mk [.own 1 C9 (List.take (C9*1) Do),.sc (.int .i64 0)] [])))) (Ae C0 Tryz.prog fu d):=by kernel_rfl
abbrev I4:FuncId:=26
theorem Rg (fu d a0n:Nat)(a0:List PV):Ae C0 Tryz.prog fu (d+1) I4 [.lst false 1 a0n a0]=(fun (call:Am)=>A4 ((↑a0n:Int) != 11) (A4 ((↑a0n:Int) != 204) (some (Ay.mk [.agg [.sc (.int .u64 0),.sc (.int .i64 0),.sc (.int .i64 0),.sc (.int .i64 0),.sc (.int .u64 0),.lst false 1 0 [],.sc (.int .i64 0),.sc (.int .u64 0)],.sc (.int .i64 2)] [])) (Aq (decide (8<=a0n))<|Aa (List.take 8 (List.drop 0 a0)) fun x1=>Ag (call 53 [.lst false 1 8 x1]) fun x2 x3=>Ac x3<|Ab x2 fun x4 x5=>Af .u64 x4 fun x6=>Ac x5<|Aq (decide (8<(↑a0n:Int)))<|Af .u8 (List.getD a0 8 .top) fun x7=>Aa (IntKind.wrap .i64 x7) fun x8=>Aq (decide (9<(↑a0n:Int)))<|Af .u8 (List.getD a0 9 .top) fun x9=>Aa (IntKind.wrap .i64 x9) fun Cd=>Aq (decide (10<(↑a0n:Int)))<|Af .u8 (List.getD a0 10 .top) fun Bp=>Aa (IntKind.wrap .i64 Bp) fun C4=>A4 (decide ((↑a0n:Int)>11)) (Aq (decide (195<=a0n)&&decide (a0n<=a0n))<|Aa (a0n-195) fun Da=>Aa (List.take (Da*1) (List.drop 195 a0)) fun Cq=>Ag (call 43 [.lst false 1 Da Cq]) fun C9 Do=>Ac Do<|Ab C9 fun Du D5=>Cu Du fun D7=>Ab D7 fun Eh Fy=>Af .i64 Eh fun Ci=>Ab Fy fun Fn Ds=>Af .u64 Fn fun Bx=>Ac Ds<|Ab D5 fun Fc Ft=>Af .i64 Fc fun Bk=>Ac Ft<|A4 (Bk != 0) (some (Ay.mk [.agg [.sc (.int .u64 0),.sc (.int .i64 0),.sc (.int .i64 0),.sc (.int .i64 0),.sc (.int .u64 0),.lst false 1 0 [],.sc (.int .i64 0),.sc (.int .u64 0)],.sc (.int .i64 2)] [])) (Aq (decide (19<=a0n))<|Aa (List.take 8 (List.drop 11 a0)) fun Cg=>Ag (call 53 [.lst false 1 8 Cg]) fun Hg Gf=>Ac Gf<|Ab Hg fun Ie H0=>Af .u64 Ie fun Jn=>Ac H0<|Aq (decide (195<=a0n))<|Aa (List.take 176 (List.drop 19 a0)) fun Gt=>Aq (decide (List.length Gt=176)&&true&&true)<|Aq (decide (176<=List.length Gt))<|Ag (call 54 [.agg [.sc (.int .u64 x6),.sc (.int .i64 x8),.sc (.int .i64 Cd),.sc (.int .i64 C4),.sc (.int .u64 Jn),.lst false 1 176 (List.take 176 (List.drop 0 Gt)),.sc (.int .i64 Ci),.sc (.int .u64 Bx)]]) fun Ix M5=>Ac M5<|Ab Ix fun F0 H5=>Af .i64 F0 fun Rh=>Ac H5<|A4 (Rh != 0) (some (Ay.mk [.agg [.sc (.int .u64 0),.sc (.int .i64 0),.sc (.int .i64 0),.sc (.int .i64 0),.sc (.int .u64 0),.lst false 1 0 [],.sc (.int .i64 0),.sc (.int .u64 0)],.sc (.int .i64 2)] [])) (Aa (E9 .i64 x8 64) fun R6=>A4 (!decide ((↑a0n:Int)>11)==(R6 != 0)) (some (Ay.mk [.agg [.sc (.int .u64 0),.sc (.int .i64 0),.sc (.int .i64 0),.sc (.int .i64 0),.sc (.int .u64 0),.lst false 1 0 [],.sc (.int .i64 0),.sc (.int .u64 0)],.sc (.int .i64 2)] [])) (Aq (decide (176<=List.length Gt))<|some (Ay.mk [.agg [.sc (.int .u64 x6),.sc (.int .i64 x8),.sc (.int .i64 Cd),.sc (.int .i64 C4),.sc (.int .u64 Jn),.lst false 1 176 (List.take 176 (List.drop 0 Gt)),.sc (.int .i64 Ci),.sc (.int .u64 Bx)],.sc (.int .i64 0)] []))))) (Ag (call 54 [.agg [.sc (.int .u64 x6),.sc (.int .i64 x8),.sc (.int .i64 Cd),.sc (.int .i64 C4),.sc (.int .u64 0),.lst false 1 0 [],.sc (.int .i64 0),.sc (.int .u64 0)]]) fun L6 Rl=>Ac Rl<|Ab L6 fun Pu Lx=>Af .i64 Pu fun Q6=>Ac Lx<|A4 (Q6 != 0) (some (Ay.mk [.agg [.sc (.int .u64 0),.sc (.int .i64 0),.sc (.int .i64 0),.sc (.int .i64 0),.sc (.int .u64 0),.lst false 1 0 [],.sc (.int .i64 0),.sc (.int .u64 0)],.sc (.int .i64 2)] [])) (Aa (E9 .i64 x8 64) fun Rj=>A4 (!decide ((↑a0n:Int)>11)==(Rj != 0)) (some (Ay.mk [.agg [.sc (.int .u64 0),.sc (.int .i64 0),.sc (.int .i64 0),.sc (.int .i64 0),.sc (.int .u64 0),.lst false 1 0 [],.sc (.int .i64 0),.sc (.int .u64 0)],.sc (.int .i64 2)] [])) (some (Ay.mk [.agg [.sc (.int .u64 x6),.sc (.int .i64 x8),.sc (.int .i64 Cd),.sc (.int .i64 C4),.sc (.int .u64 0),.lst false 1 0 [],.sc (.int .i64 0),.sc (.int .u64 0)],.sc (.int .i64 0)] [])))))) (Aq (decide (8<=a0n))<|Aa (List.take 8 (List.drop 0 a0)) fun Oc=>Ag (call 53 [.lst false 1 8 Oc]) fun Pw Sd=>Ac Sd<|Ab Pw fun Pq Rx=>Af .u64 Pq fun Lz=>Ac Rx<|Aq (decide (8<(↑a0n:Int)))<|Af .u8 (List.getD a0 8 .top) fun Py=>Aa (IntKind.wrap .i64 Py) fun Rr=>Aq (decide (9<(↑a0n:Int)))<|Af .u8 (List.getD a0 9 .top) fun Ts=>Aa (IntKind.wrap .i64 Ts) fun Pi=>Aq (decide (10<(↑a0n:Int)))<|Af .u8 (List.getD a0 10 .top) fun Q9=>Aa (IntKind.wrap .i64 Q9) fun S5=>A4 (decide ((↑a0n:Int)>11)) (Aq (decide (195<=a0n)&&decide (a0n<=a0n))<|Aa (a0n-195) fun Uv=>Aa (List.take (Uv*1) (List.drop 195 a0)) fun Oe=>Ag (call 43 [.lst false 1 Uv Oe]) fun Ro V9=>Ac V9<|Ab Ro fun Uq Q7=>Cu Uq fun S6=>Ab S6 fun S1 Ty=>Af .i64 S1 fun Up=>Ab Ty fun Us Q8=>Af .u64 Us fun Ws=>Ac Q8<|Ab Q7 fun Wj Ur=>Af .i64 Wj fun V1=>Ac Ur<|A4 (V1 != 0) (some (Ay.mk [.agg [.sc (.int .u64 0),.sc (.int .i64 0),.sc (.int .i64 0),.sc (.int .i64 0),.sc (.int .u64 0),.lst false 1 0 [],.sc (.int .i64 0),.sc (.int .u64 0)],.sc (.int .i64 2)] [])) (Aq (decide (19<=a0n))<|Aa (List.take 8 (List.drop 11 a0)) fun Wu=>Ag (call 53 [.lst false 1 8 Wu]) fun V7 Wt=>Ac Wt<|Ab V7 fun Za x80=>Af .u64 Za fun x81=>Ac x80<|Aq (decide (195<=a0n))<|Aa (List.take 176 (List.drop 19 a0)) fun x82=>Aq (decide (List.length x82=176)&&true&&true)<|Aq (decide (176<=List.length x82))<|Ag (call 54 [.agg [.sc (.int .u64 Lz),.sc (.int .i64 Rr),.sc (.int .i64 Pi),.sc (.int .i64 S5),.sc (.int .u64 x81),.lst false 1 176 (List.take 176 (List.drop 0 x82)),.sc (.int .i64 Up),.sc (.int .u64 Ws)]]) fun x83 Z9=>Ac Z9<|Ab x83 fun x85 x86=>Af .i64 x85 fun x87=>Ac x86<|A4 (x87 != 0) (some (Ay.mk [.agg [.sc (.int .u64 0),.sc (.int .i64 0),.sc (.int .i64 0),.sc (.int .i64 0),.sc (.int .u64 0),.lst false 1 0 [],.sc (.int .i64 0),.sc (.int .u64 0)],.sc (.int .i64 2)] [])) (Aa (E9 .i64 Rr 64) fun Rm=>A4 (!decide ((↑a0n:Int)>11)==(Rm != 0)) (some (Ay.mk [.agg [.sc (.int .u64 0),.sc (.int .i64 0),.sc (.int .i64 0),.sc (.int .i64 0),.sc (.int .u64 0),.lst false 1 0 [],.sc (.int .i64 0),.sc (.int .u64 0)],.sc (.int .i64 2)] [])) (Aq (decide (176<=List.length x82))<|some (Ay.mk [.agg [.sc (.int .u64 Lz),.sc (.int .i64 Rr),.sc (.int .i64 Pi),.sc (.int .i64 S5),.sc (.int .u64 x81),.lst false 1 176 (List.take 176 (List.drop 0 x82)),.sc (.int .i64 Up),.sc (.int .u64 Ws)],.sc (.int .i64 0)] []))))) (Ag (call 54 [.agg [.sc (.int .u64 Lz),.sc (.int .i64 Rr),.sc (.int .i64 Pi),.sc (.int .i64 S5),.sc (.int .u64 0),.lst false 1 0 [],.sc (.int .i64 0),.sc (.int .u64 0)]]) fun S9 Vx=>Ac Vx<|Ab S9 fun x91 x92=>Af .i64 x91 fun x93=>Ac x92<|A4 (x93 != 0) (some (Ay.mk [.agg [.sc (.int .u64 0),.sc (.int .i64 0),.sc (.int .i64 0),.sc (.int .i64 0),.sc (.int .u64 0),.lst false 1 0 [],.sc (.int .i64 0),.sc (.int .u64 0)],.sc (.int .i64 2)] [])) (Aa (E9 .i64 Rr 64) fun x94=>A4 (!decide ((↑a0n:Int)>11)==(x94 != 0)) (some (Ay.mk [.agg [.sc (.int .u64 0),.sc (.int .i64 0),.sc (.int .i64 0),.sc (.int .i64 0),.sc (.int .u64 0),.lst false 1 0 [],.sc (.int .i64 0),.sc (.int .u64 0)],.sc (.int .i64 2)] [])) (some (Ay.mk [.agg [.sc (.int .u64 Lz),.sc (.int .i64 Rr),.sc (.int .i64 Pi),.sc (.int .i64 S5),.sc (.int .u64 0),.lst false 1 0 [],.sc (.int .i64 0),.sc (.int .u64 0)],.sc (.int .i64 0)] [])))))) (Ae C0 Tryz.prog fu d):=by kernel_rfl
abbrev Lf:FuncId:=27
theorem U7 (fu d a0n:Nat)(a0:List PV)(a1:Int):Ae C0 Tryz.prog fu (d+1) Lf [.lst false 1 a0n a0,.sc (.int .u64 a1)]=(fun (call:Am)=>Aq (decide (List.length a0=a0n*1)&&decide (a0n*1<=1099511627776)&&decide (a0n<=1099511627776))<|Ag (call 38 [.lst false 1 1 [.sc (.int .u64 a1)]]) fun x1 x2=>Ac x2<|Ab x1 fun x3 x4=>Dk 1 x3 fun x5 x6=>Ac x4<|Aq (decide (0+x5*1<=List.length x6))<|Aq (decide (a0n*1<=List.length a0)&&decide (List.length (List.take (x5*1) (List.drop 0 x6))=x5*1)&&decide ((a0n+x5)*1<=1099511627776)&&decide (a0n+x5<=1099511627776))<|Aa (a0n+x5) fun x7=>Aa (List.take (a0n*1) a0++List.take (x5*1) (List.drop 0 x6)) fun x8=>Aq (decide (0+x7*1<=List.length x8))<|Ag (call 46 [.sc (.int .i64 13),.lst false 1 x7 (List.take (x7*1) (List.drop 0 x8))]) fun x9 Cd=>Ac Cd<|Ab x9 fun Bp C4=>Af .u64 Bp fun Da=>Ac C4<|some (Ay.mk [.sc (.int .u64 Da)] [])) (Ae C0 Tryz.prog fu d):=by kernel_rfl
abbrev Ka:FuncId:=28
theorem Ue (fu d:Nat)(a0:ByteArray):Ae C0 Tryz.prog fu (d+1) Ka [.sc (.string a0)]=(fun (call:Am)=>Aq (decide (ByteArray.size a0<=1099511627776))<|Aq (decide (0+ByteArray.size a0*1<=List.length (Co a0)))<|Ag (call 46 [.sc (.int .i64 11),.lst false 1 (ByteArray.size a0) (List.take (ByteArray.size a0*1) (List.drop 0 (Co a0)))]) fun x1 x2=>Ac x2<|Ab x1 fun x3 x4=>Af .u64 x3 fun x5=>Ac x4<|some (Ay.mk [.sc (.int .u64 x5)] [])) (Ae C0 Tryz.prog fu d):=by kernel_rfl
abbrev Ms:FuncId:=75
theorem Wp (fu d:Nat)(a0:Int):Ae C0 Tryz.prog fu (d+1) Ms [.sc (.int .i64 a0)]=(fun (call:Am)=>A4 (a0==1) (some (Ay.mk [.sc (.string (ByteArray.mk #[112,97,115,115,107,101,121,46,99,114,101,97,116,101]))] [])) (A4 (a0==2) (some (Ay.mk [.sc (.string (ByteArray.mk #[112,97,115,115,107,101,121,46,103,101,116]))] [])) (some (Ay.mk [.sc (.string (ByteArray.mk #[]))] [])))) (Ae C0 Tryz.prog fu d):=by kernel_rfl
abbrev I7:FuncId:=77
noncomputable def C8 (fu:Nat)(call:Am)(a0n:Nat)(a0:List PV)(nn y0:Nat)(y1:List PV)(y2:ByteArray)(y3:Int):Option Ay:=Db C0 Tryz.prog fu call 77 Tryz.f77 (Ch Tryz.f77) [.lst false 1 a0n a0] [.r,.r,.l,.r,.l] nn ⟨lk [(0,(.lst false 1 y0 y1)),(3,(.sc (.string y2))),(4,(.sc (.int .i64 y3)))],Gn []⟩
noncomputable def Cj (fu:Nat)(call:Am)(a0n:Nat)(a0:List PV)(m0 nn y0:Nat)(y1:List PV)(y2:ByteArray)(y3 y4 y5:Int):Option Ay:=Db C0 Tryz.prog fu call 77 Tryz.f77 (Ch Tryz.f77) [.lst false 1 a0n a0] [.r,.r,.l,.r,.l,.i m0,.r,.l,.l,.r,.r,.r,.r,.l] nn ⟨lk [(0,(.lst false 1 y0 y1)),(3,(.sc (.string y2))),(4,(.sc (.int .i64 y3))),(5,(.sc (.int .u64 y4))),(6,(.sc (.int .i64 y5)))],Gn []⟩
theorem Fp (fu:Nat)(call:Am)(a0n:Nat)(a0:List PV)(nn y0:Nat)(y1:List PV)(y2:ByteArray)(y3:Int):C8 fu call a0n a0 (nn+1) y0 y1 y2 y3=(A4 (decide (y3<(↑y0:Int))) (Aq (decide (0<=y3)&&decide (y3<(↑y0:Int)))<|Af .u8 (List.getD y1 (Int.toNat y3*1) .top) fun x1=>Aa (IntKind.wrap .u64 x1) fun x2=>Aa (Fb .u64 x2 16) fun x3=>Aa (IntKind.wrap .i64 (y3+1)) fun x4=>A4 (decide (x4<(↑y0:Int))) (Aa (IntKind.wrap .i64 (y3+1)) fun x5=>Aq (decide (0<=x5)&&decide (x5<(↑y0:Int)))<|Af .u8 (List.getD y1 (Int.toNat x5*1) .top) fun x6=>Aa (IntKind.wrap .u64 x6) fun x7=>Aa (Fb .u64 x7 8) fun x8=>Aa (Y9 .u64 x3 x8) fun x9=>Aa (IntKind.wrap .i64 (y3+2)) fun Cd=>A4 (decide (Cd<(↑y0:Int))) (Aa (IntKind.wrap .i64 (y3+2)) fun Bp=>Aq (decide (0<=Bp)&&decide (Bp<(↑y0:Int)))<|Af .u8 (List.getD y1 (Int.toNat Bp*1) .top) fun C4=>Aa (IntKind.wrap .u64 C4) fun Da=>Aa (Y9 .u64 x9 Da) fun Cq=>Cj fu call a0n a0 nn (fu) (y0) (y1) (y2) (y3) Cq 0) (Cj fu call a0n a0 nn (fu) (y0) (y1) (y2) (y3) x9 0)) (Aa (IntKind.wrap .i64 (y3+2)) fun C9=>A4 (decide (C9<(↑y0:Int))) (Aa (IntKind.wrap .i64 (y3+2)) fun Do=>Aq (decide (0<=Do)&&decide (Do<(↑y0:Int)))<|Af .u8 (List.getD y1 (Int.toNat Do*1) .top) fun Du=>Aa (IntKind.wrap .u64 Du) fun D5=>Aa (Y9 .u64 x3 D5) fun D7=>Cj fu call a0n a0 nn (fu) (y0) (y1) (y2) (y3) D7 0) (Cj fu call a0n a0 nn (fu) (y0) (y1) (y2) (y3) x3 0))) (some (Ay.mk [.sc (.string y2)] []))):=by kernel_rfl
theorem Fq (fu:Nat)(call:Am)(a0n:Nat)(a0:List PV)(m0 nn y0:Nat)(y1:List PV)(y2:ByteArray)(y3 y4 y5:Int):Cj fu call a0n a0 m0 (nn+1) y0 y1 y2 y3 y4 y5=(A4 (decide (y5<4)) (Aa (IntKind.wrap .i64 ((↑y0:Int)-y3)) fun Eh=>A4 (decide (y5<=Eh)) (Aa (IntKind.wrap .u64 y5) fun Fy=>Aa (IntKind.wrap .u64 (6*Fy)) fun Ci=>Aa (IntKind.wrap .u64 (18-Ci)) fun Fn=>Aq (decide (0<=Fn))<|Aa (Eg .u64 y4 Fn) fun Ds=>Aa (E9 .u64 Ds 63) fun Bx=>Aa (IntKind.wrap .u64 (Bx+1)) fun Fc=>Aq (decide (0<=Bx))<|Aq (decide (0<=Fc))<|Aq (decide (Int.toNat Bx<=Int.toNat Fc)&&decide (Int.toNat Fc<=64))<|Aa (ByteArray.extract (ByteArray.mk #[65,66,67,68,69,70,71,72,73,74,75,76,77,78,79,80,81,82,83,84,85,86,87,88,89,90,97,98,99,100,101,102,103,104,105,106,107,108,109,110,111,112,113,114,115,116,117,118,119,120,121,122,48,49,50,51,52,53,54,55,56,57,45,95]) (Int.toNat Bx) (Int.toNat Fc)) fun Ft=>Aq (decide (ByteArray.size y2+ByteArray.size Ft<=9223372036854775807))<|Aa (y2++Ft) fun Bk=>Aa (IntKind.wrap .i64 (y5+1)) fun Cg=>Cj fu call a0n a0 m0 (nn) (y0) (y1) Bk (y3) (y4) Cg) (Aa (IntKind.wrap .i64 (y3+3)) fun Hg=>C8 fu call a0n a0 (m0) (y0) (y1) (y2) Hg)) (Aa (IntKind.wrap .i64 (y3+3)) fun Gf=>C8 fu call a0n a0 (m0) (y0) (y1) (y2) Gf)):=by kernel_rfl
theorem Ra (fu d a0n:Nat)(a0:List PV):Ae C0 Tryz.prog fu (d+1) I7 [.lst false 1 a0n a0]=(fun (call:Am)=>C8 fu call a0n a0 (fu) (a0n) (a0) (ByteArray.mk #[]) 0) (Ae C0 Tryz.prog fu d):=by kernel_rfl
abbrev I2:FuncId:=47
theorem Rq (fu d:Nat)(a0_0:Int)(V2:Nat)(a0_1:List PV)(a0_2:ByteArray)(a0_3:Bool)(a0_4:ByteArray):Ae C0 Tryz.prog fu (d+1) I2 [.agg [.sc (.int .i64 a0_0),.lst false 1 V2 a0_1,.sc (.string a0_2),.sc (.bool a0_3),.sc (.string a0_4)]]=(fun (call:Am)=>Ag (call 75 [.sc (.int .i64 a0_0)]) fun x1 x2=>Ac x2<|Ab x1 fun x3 x4=>Cn x3 fun x5=>Ac x4<|A4 (Array.toList (ByteArray.data x5)==Array.toList (ByteArray.data (ByteArray.mk #[]))) (some (Ay.mk [.sc (.string (ByteArray.mk #[])),.sc (.int .i64 3)] [])) (A4 (decide ((↑V2:Int)<1)) (some (Ay.mk [.sc (.string (ByteArray.mk #[])),.sc (.int .i64 9)] [])) (A4 (decide ((↑V2:Int)>64)) (some (Ay.mk [.sc (.string (ByteArray.mk #[])),.sc (.int .i64 9)] [])) (Ag (call 76 [.sc (.string a0_2)]) fun x6 x7=>Ac x7<|Ab x6 fun x8 x9=>Cu x8 fun Cd=>Ab Cd fun Bp C4=>Bz Bp fun Da=>Ab C4 fun Cq C9=>Cn Cq fun Do=>Ab C9 fun Du D5=>Af .i64 Du fun D7=>Ac D5<|Ab x9 fun Eh Fy=>Af .i64 Eh fun Ci=>Ac Fy<|A4 (Ci != 0) (some (Ay.mk [.sc (.string (ByteArray.mk #[])),.sc (.int .i64 Ci)] [])) (Ag (call 75 [.sc (.int .i64 a0_0)]) fun Fn Ds=>Ac Ds<|Ab Fn fun Bx Fc=>Cn Bx fun Ft=>Ac Fc<|Aq (decide (9+ByteArray.size Ft<=9223372036854775807))<|Aa (ByteArray.mk #[123,34,116,121,112,101,34,58,34]++Ft) fun Bk=>Aq (decide (ByteArray.size Bk+15<=9223372036854775807))<|Aa (Bk++ByteArray.mk #[34,44,34,99,104,97,108,108,101,110,103,101,34,58,34]) fun Cg=>Ag (call 77 [.lst false 1 V2 a0_1]) fun Hg Gf=>Ac Gf<|Ab Hg fun Ie H0=>Cn Ie fun Jn=>Ac H0<|Aq (decide (ByteArray.size Cg+ByteArray.size Jn<=9223372036854775807))<|Aa (Cg++Jn) fun Gt=>Aq (decide (ByteArray.size Gt+12<=9223372036854775807))<|Aa (Gt++ByteArray.mk #[34,44,34,111,114,105,103,105,110,34,58,34]) fun Ix=>Aq (decide (ByteArray.size Ix+ByteArray.size a0_2<=9223372036854775807))<|Aa (Ix++a0_2) fun M5=>Aq (decide (ByteArray.size M5+16<=9223372036854775807))<|Aa (M5++ByteArray.mk #[34,44,34,99,114,111,115,115,79,114,105,103,105,110,34,58]) fun F0=>A4 (!a0_3) (A4 (!Array.toList (ByteArray.data a0_4)==Array.toList (ByteArray.data (ByteArray.mk #[]))) (some (Ay.mk [.sc (.string (ByteArray.mk #[])),.sc (.int .i64 4)] [])) (Aq (decide (ByteArray.size F0+6<=9223372036854775807))<|Aa (F0++ByteArray.mk #[102,97,108,115,101,125]) fun H5=>some (Ay.mk [.sc (.string H5),.sc (.int .i64 0)] []))) (Ag (call 76 [.sc (.string a0_4)]) fun Rh R6=>Ac R6<|Ab Rh fun L6 Rl=>Cu L6 fun Pu=>Ab Pu fun Lx Q6=>Bz Lx fun Rj=>Ab Q6 fun Oc Pw=>Cn Oc fun Sd=>Ab Pw fun Pq Rx=>Af .i64 Pq fun Lz=>Ac Rx<|Ab Rl fun Py Rr=>Af .i64 Py fun Ts=>Ac Rr<|A4 (Ts != 0) (some (Ay.mk [.sc (.string (ByteArray.mk #[])),.sc (.int .i64 Ts)] [])) (Aq (decide (ByteArray.size F0+18<=9223372036854775807))<|Aa (F0++ByteArray.mk #[116,114,117,101,44,34,116,111,112,79,114,105,103,105,110,34,58,34]) fun Pi=>Aq (decide (ByteArray.size Pi+ByteArray.size a0_4<=9223372036854775807))<|Aa (Pi++a0_4) fun Q9=>Aq (decide (ByteArray.size Q9+2<=9223372036854775807))<|Aa (Q9++ByteArray.mk #[34,125]) fun S5=>some (Ay.mk [.sc (.string S5),.sc (.int .i64 0)] [])))))))) (Ae C0 Tryz.prog fu d):=by kernel_rfl
abbrev Q1:FuncId:=76
end
section
theorem Yn {a b:List Int}(ha:Hf a)(hb:Hf b):Hf (a++b):=by
 intro x hx;rcases List.mem_append.1 hx with hx|hx
 ·exact ha x hx
 ·exact hb x hx
section
variable {fu d:Nat}
theorem Ar6 (hfu:1000<=fu){a0 a1 a2:Int}{key nonce:Int}{n:Nat}(hn:n<=1024):∀(k nn:Nat)(i:Int)(l:List Int),n<=l.length+8*k->k<nn->Hf l->l.length<=2000 ->
  0<=i->i+k<=100000->∃r,Hf r∧r.length=n∧F8 fu (Ae C0 Tryz.prog fu (d+4)) a0 a1 a2 nn key nonce (n:Int) l.length i (Ah .u8 l)=some ⟨[.own 1 n (Ah .u8 r)],[]⟩:=by
 intro k
 induction k with
 |zero=>
  intro nn i l h1 h2 hb hl i0 i1;obtain ⟨m,rfl⟩:∃m,nn=m+1:=⟨nn-1,by omega⟩
  refine ⟨l.take n,hb.take n,by rw [List.length_take];omega,?_⟩
  have L:=Al .u8 l;have nt:Int.toNat (n:Int)=n:=Hr _;rw [Ha]
  try unfold Aa
  repeat first
   |((with_reducible first|apply At|apply Aj|apply As|apply A5|apply Bb|apply Ai);· first|with_reducible rfl|(simp (disch:=omega) only [L,nt,Nat.sub_zero,Bj,Dx]<;>with_reducible rfl))
   |((with_reducible first|apply Ar|apply Au);· first|with_reducible rfl|omega|(simp (disch:=omega) only [gT,L,nt,Nat.sub_zero,Bj,Dx]<;>omega))
   |(with_reducible apply Aw;· first|with_reducible rfl|(simp (disch:=omega) only [gF,L,nt,Nat.sub_zero,Bj,Dx]<;>omega))
  try simp (disch:=omega) only [L,nt,Nat.sub_zero,Bj,Dx]
 |succ k ih=>
  intro nn i l h1 h2 hb hl i0 i1;obtain ⟨m,rfl⟩:∃m,nn=m+1:=⟨nn-1,by omega⟩
  have L:=Al .u8 l;have nt:Int.toNat (n:Int)=n:=Hr _;by_cases hlt:l.length<n
  rotate_left
  ·refine ⟨l.take n,hb.take n,by rw [List.length_take];omega,?_⟩
   rw [Ha]
   try unfold Aa
   repeat first
    |((with_reducible first|apply At|apply Aj|apply As|apply A5|apply Bb|apply Ai);· first|with_reducible rfl|(simp (disch:=omega) only [L,nt,Nat.sub_zero,Bj,Dx]<;>with_reducible rfl))
    |((with_reducible first|apply Ar|apply Au);· first|with_reducible rfl|omega|(simp (disch:=omega) only [gT,L,nt,Nat.sub_zero,Bj,Dx]<;>omega))
    |(with_reducible apply Aw;· first|with_reducible rfl|(simp (disch:=omega) only [gF,L,nt,Nat.sub_zero,Bj,Dx]<;>omega))
   try simp (disch:=omega) only [L,nt,Nat.sub_zero,Bj,Dx]
  have w1:IntKind.wrap .u64 i=i:=B6 (by omega) (by omega)
  have w2:IntKind.wrap .i64 (i+1)=i+1:=Ap (by omega) (by omega)
  have wd:Ae C0 Tryz.prog fu (d+4) D6 [.lst false 1 2 [.sc (.int .u64 nonce),.sc (.int .u64 i)]]=some ⟨[.own 1 (A6 [nonce,i]).length (Ah .u8 (A6 [nonce,i]))],[]⟩:=J6 (ws:=[nonce,i]) (by simp) (by omega) (by simp;omega)
  have mc:=Avf (fu:=fu) (d:=d) (l:=A6 [nonce,i]) (Tr _) (by rw [C7];simp) (by omega) (by rw [C7];simp;omega) key 5
  have L2:=Al .u8 (A6 [nonce,i]);have t2:=Gs .u8 (A6 [nonce,i]);generalize A4a key 5 (A6 [nonce,i])=q at mc;have ow:=Aua (fu:=fu) (d:=d+3) hfu q;have Lq:(Ah .u8 (Ca q)).length=8:=by rw [Al,Cw]
  have tq:List.take 8 (Ah .u8 (Ca q))=Ah .u8 (Ca q):=Iv (by omega)
  have tl:=Gs .u8 l;have ea:Ah .u8 l++Ah .u8 (Ca q)=Ah .u8 (l++Ca q):=by rw [Ah,Ah,Ah,List.flatMap_append]
  obtain ⟨r,r1,r2,r3⟩:=ih m (i+1) (l++Ca q) (by rw [Hz,Cw];omega) (by omega) (Yn hb (Y0 q)) (by rw [Hz,Cw];omega) (by omega) (by omega)
  refine ⟨r,r1,r2,?_⟩;rw [Hz,Cw] at r3;rw [←r3,Ha];generalize A6 [nonce,i]=W at *
  generalize W.length=wn at *
  try unfold Aa
  repeat first
   |((with_reducible first|apply At|apply Aj|apply As|apply A5|apply Bb|apply Ai);· first|with_reducible rfl|(simp (disch:=omega) only [w1,w2,wd,Cf,Bw,Bj,L,L2,t2,mc,ow,Lq,tq,tl,ea]<;>with_reducible rfl))
   |((with_reducible first|apply Ar|apply Au);· first|with_reducible rfl|omega|(simp (disch:=omega) only [gT,w1,w2,wd,Cf,Bw,Bj,L,L2,t2,mc,ow,Lq,tq,tl,ea]<;>omega))
   |(with_reducible apply Aw;· first|with_reducible rfl|(simp (disch:=omega) only [gF,w1,w2,wd,Cf,Bw,Bj,L,L2,t2,mc,ow,Lq,tq,tl,ea]<;>omega))
  try simp (disch:=omega) only [w1,w2,wd,Cf,Bw,Bj,L,L2,t2,mc,ow,Lq,tq,tl,ea]
  all_goals rfl
theorem Asu (hfu:1000<=fu)(seed:Int){n:Nat}(hn:n<=1024):∃r,Hf r∧r.length=n∧Ae C0 Tryz.prog fu (d+6) Gu [.sc (.int .i64 seed),.sc (.int .i64 n)]=some ⟨[.own 1 n (Ah .u8 r)],[]⟩:=by
 obtain ⟨r,r1,r2,r3⟩:=Ar6 (fu:=fu) (d:=d) hfu (a0:=IntKind.wrap .u64 (IntKind.wrap .u64 seed+1)) (a1:=7) (a2:=n) (key:=IntKind.wrap .u64 (IntKind.wrap .u64 seed+1)) (nonce:=7) hn 128 fu 0 [] (by omega) (by omega) (by intro x hx;cases hx) (by simp) (by omega) (by omega)
 refine ⟨r,r1,r2,?_⟩
 have e:Ae C0 Tryz.prog fu (d+5) Nh [.sc (.int .u64 (IntKind.wrap .u64 (IntKind.wrap .u64 seed+1))),.sc (.int .u64 7),.sc (.int .i64 n)]=some ⟨[.own 1 n (Ah .u8 r)],[]⟩:=by
  rw [W9];have f1:(if (n:Int)<0 then (0:Int) else (n:Int))=n:=A0 (by omega)
  have f2:(if (1024:Int)<(n:Int) then (1024:Int) else (n:Int))=n:=A0 (by omega)
  simp only [Hj,f1,f2];exact r3
 have f1:(if (n:Int)<0 then (0:Int) else (n:Int))=n:=A0 (by omega)
 have f2:(if (1024:Int)<(n:Int) then (1024:Int) else (n:Int))=n:=A0 (by omega)
 have L:=Al .u8 r;have t:List.take n (Ah .u8 r)=Ah .u8 r:=by rw [←r2];exact Gs .u8 r
 rw [Z0];simp (disch:=omega) only [B3,f1,f2,e,Bj,L,t]
theorem Ao1 (hfu:1000<=fu)(seed h:Int):Ae C0 Tryz.prog fu (d+13) Sb [.sc (.int .u64 seed),.sc (.int .i64 h)]=some ⟨[.agg (Eo seed h).cells],[]⟩:=by
 rw [Aej];have p:=Atc (fu:=fu) (d:=d) hfu seed h;simp only [Ky.cells] at p ⊢;simp only [B3,p]
theorem A38 (hfu:1000<=fu){n:Int}(h0:0<=n)(h1:n<=10000)(h:Int)(sh:Bool):∃id_,Hf id_∧id_.length=176∧Ae C0 Tryz.prog fu (d+7) Jh [.sc (.int .i64 n),.sc (.int .i64 h),.sc (.bool sh)]=some ⟨[.agg [.sc (.int .u64 (1000+n)),.sc (.int .i64 h),.own 1 176 (Ah .u8 id_),.sc (.bool sh)]],[]⟩:=by
 have w1:IntKind.wrap .u64 n=n:=B6 (by omega) (by omega)
 have w2:IntKind.wrap .u64 (1000+n)=1000+n:=B6 (by omega) (by omega)
 have w3:IntKind.wrap .i64 (500+n)=500+n:=Ap (by omega) (by omega)
 obtain ⟨r,r1,r2,r3⟩:=Asu (fu:=fu) (d:=d) hfu (500+n) (n:=176) (by omega)
 refine ⟨r,r1,r2,?_⟩;have L:=Al .u8 r;have t:List.take 176 (Ah .u8 r)=Ah .u8 r:=by rw [←r2];exact Gs .u8 r
 have r3':Ae C0 Tryz.prog fu (d+6) Gu [.sc (.int .i64 (500+n)),.sc (.int .i64 176)]=some ⟨[.own 1 176 (Ah .u8 r)],[]⟩:=r3;rw [Sy];simp (disch:=omega) only [B3,w1,w2,w3,r3',Bj,L,t]
def Af3 (sh vf:Bool):Int:=if vf=true then (if sh=true then 13 else 5) else if sh=true then 9 else 1
theorem Azl (seed h:Int)(id_:List Int)(sh vf:Bool):Ae C0 Tryz.prog fu (d+1) Jl [.agg [.sc (.int .u64 seed),.sc (.int .i64 h),.lst false 1 id_.length (Ah .u8 id_),.sc (.bool sh)],.sc (.bool vf)]=some ⟨[.sc (.int .i64 (Af3 sh vf))],[]⟩:=by
 rw [Ss];cases vf<;>cases sh<;>rfl
theorem Axx {s:ByteArray}(hs:s.size<=900)(hfu:1000<=fu):Ae C0 Tryz.prog fu (d+5) Mg [.sc (.string s)]=some ⟨[.sc (.int .u64 (D8 9 (Bv s)))],[]⟩:=by
 rw [Wb];have hh:=Tx (fu:=fu) (d:=d) (l:=Bv s) (Q5 s) (by rw [C3];omega) (by omega) (by rw [C3];omega) 9
 have L:(Co s).length=s.size:=by rw [Fh,Al,C3]
 have t:List.take s.size (Co s)=Ah .u8 (Bv s):=by rw [Fh,Iv (by rw [Al,C3];omega)]
 rw [C3] at hh;simp (disch:=omega) only [B3,L,t,Cf,Bj,hh]
theorem Aga {s:ByteArray}(hs:s.size<=900)(hfu:1000<=fu):Ae C0 Tryz.prog fu (d+5) Ka [.sc (.string s)]=some ⟨[.sc (.int .u64 (D8 11 (Bv s)))],[]⟩:=by
 rw [Ue];have hh:=Tx (fu:=fu) (d:=d) (l:=Bv s) (Q5 s) (by rw [C3];omega) (by omega) (by rw [C3];omega) 11
 have L:(Co s).length=s.size:=by rw [Fh,Al,C3]
 have t:List.take s.size (Co s)=Ah .u8 (Bv s):=by rw [Fh,Iv (by rw [Al,C3];omega)]
 rw [C3] at hh;simp (disch:=omega) only [B3,L,t,Cf,Bj,hh]
def Qo (b:List Int)(c:Int):Int:=D8 13 (b++Ca c)
theorem Akh {b:List Int}(hb:Hf b)(hl:b.length<=900)(hfu:1000<=fu)(c:Int):Ae C0 Tryz.prog fu (d+5) Lf [.lst false 1 b.length (Ah .u8 b),.sc (.int .u64 c)]=some ⟨[.sc (.int .u64 (Qo b c))],[]⟩:=by
 rw [U7];unfold Qo;have ow:=Aua (fu:=fu) (d:=d+3) hfu c;have Lq:(Ah .u8 (Ca c)).length=8:=by rw [Al,Cw]
 have tq:List.take 8 (Ah .u8 (Ca c))=Ah .u8 (Ca c):=Iv (by omega)
 have L:=Al .u8 b;have t:=Gs .u8 b;have ea:Ah .u8 b++Ah .u8 (Ca c)=Ah .u8 (b++Ca c):=by rw [Ah,Ah,Ah,List.flatMap_append]
 have hl2:(b++Ca c).length=b.length+8:=by rw [Hz,Cw]
 have hh:=Tx (fu:=fu) (d:=d) (l:=b++Ca c) (Yn hb (Y0 c)) (by omega) (by omega) (by omega) 13
 have L2:=Al .u8 (b++Ca c);have t2:List.take (b.length+8) (Ah .u8 (b++Ca c))=Ah .u8 (b++Ca c):=Iv (by omega)
 rw [hl2] at hh;simp (disch:=omega) only [B3,ow,Cf,Bw,Bj,Lq,tq,L,t,ea,L2,t2,hh]
end
end
section
structure Ad.good (a:Ad):Prop where
 rp:isU a.rp
 flags:a.flags=77∨a.flags=69∨a.flags=73∨a.flags=65
 cnt:a.cnt=0∨a.cnt=1
 rng:a.rng=0
 model:isU a.model
 idB:Hf a.id_
 idl:a.id_.length=176
 key:Dd a.key.h=false
 root:isU a.key.root
def Wv (a:Ad):List Int:=Ca a.rp++([a.flags,a.cnt,a.rng]++(Ca a.model++(a.id_++Gl a.key)))
theorem Ajd (k:Ky):(Gl k).length=9:=rfl
theorem Av3 {a:Ad}(h:a.good):(Wv a).length=204:=by
 unfold Wv;simp only [Hz,Cw,Iw,Y6,h.idl,Ajd]
theorem A6b {a:Ad}(h:a.good):Hf (Wv a):=by
 have hf:=h.flags;have hc:=h.cnt;have hr:=h.rng;refine Yn (Y0 _) (Yn ?_ (Yn (Y0 _) (Yn h.idB Aul)));intro x hx;simp only [List.mem_cons,List.not_mem_nil,or_false] at hx;rcases hx with rfl|rfl|rfl<;>omega
section
variable {fu d:Nat}
theorem Ag2 (n lo hi:Int):Ae C0 Tryz.prog fu (d+1) Mf [.sc (.int .i64 n),.sc (.int .i64 lo),.sc (.int .i64 hi)]=some ⟨[.sc (.bool (decide (lo<=n)&&decide (n<=hi)))],[]⟩:=by
 rw [V8];by_cases h:lo<=n
 ·simp (disch:=omega) only [B3,h,decide_true,Zzm]
 ·simp (disch:=omega) only [B3,h,decide_false,Bool.false_and]
theorem Aij (hfu:1000<=fu){a:Ad}(h:a.good):Ae C0 Tryz.prog fu (d+3) Ib [.agg a.cells]=some ⟨[.sc (.int .i64 0)],[]⟩:=by
 refine (Pe fu (d+2) a.rp a.flags a.cnt a.rng a.model a.id_.length (Ah .u8 a.id_) a.key.h a.key.root).trans ?_;have w1:=Ag2 (fu:=fu) (d:=d+1) a.cnt 0 16;have w2:=Ag2 (fu:=fu) (d:=d+1) a.rng 0 15
 have q1:(decide ((0:Int)<=a.cnt)&&decide (a.cnt<=16))=true:=by
  rcases h.cnt with e|e<;>rw [e]<;>rfl
 have q2:(decide ((0:Int)<=a.rng)&&decide (a.rng<=15))=true:=by rw [h.rng];rfl
 rw [q1] at w1;rw [q2] at w2;have ek:=Abs (fu:=fu) (d:=d) hfu a.key;rw [h.key,A0 (by simp)] at ek
 simp only [Ky.cells] at ek;have f1:(Api .i64 a.flags 93 != 0)=false:=by rcases h.flags with e|e|e|e<;>rw [e]<;>decide
 have f2:(E9 .i64 a.flags 16 != 0)=false:=by rcases h.flags with e|e|e|e<;>rw [e]<;>decide
 have f3:(E9 .i64 a.flags 64==0)=false:=by rcases h.flags with e|e|e|e<;>rw [e]<;>decide
 have l:((a.id_.length:Int) != 176)=false:=by rw [h.idl];rfl
 try unfold Aa
 repeat first
  |((with_reducible first|apply At|apply Aj|apply As|apply Ax|apply A5|apply Bb|apply Ai);· first|with_reducible rfl|(simp (disch:=omega) only [f1,f2,f3,w1,w2,l,ek,Bs]<;>with_reducible rfl))
  |((with_reducible first|apply Ar|apply Au);· first|with_reducible rfl|omega|(simp (disch:=omega) only [gT,f1,f2,f3,w1,w2,l,ek,Bs]<;>omega))
  |(with_reducible apply Aw;· first|with_reducible rfl|(simp (disch:=omega) only [gF,f1,f2,f3,w1,w2,l,ek,Bs]<;>omega))
 try simp (disch:=omega) only [f1,f2,f3,w1,w2,l,ek,Bs]
 all_goals rfl
theorem Atr (hfu:1000<=fu){a:Ad}(h:a.good):Ae C0 Tryz.prog fu (d+4) I9 [.agg a.cells]=some ⟨[.own 1 204 (Ah .u8 (Wv a)),.sc (.int .i64 0)],[]⟩:=by
 refine (Rk fu (d+3) a.rp a.flags a.cnt a.rng a.model a.id_.length (Ah .u8 a.id_) a.key.h a.key.root).trans ?_;have vd:=Aij (fu:=fu) (d:=d) hfu h;simp only [Ad.cells,Vf] at vd;have e00:((0:Int) != 0)=false:=rfl;have ek:=Abs (fu:=fu) (d:=d+1) hfu a.key;rw [h.key,A0 (by simp)] at ek
 simp only [Ky.cells] at ek;have o1:=Aua (fu:=fu) (d:=d+2) hfu a.rp;have o2:=Aua (fu:=fu) (d:=d+2) hfu a.model;have f3:(E9 .i64 a.flags 64 != 0)=true:=by rcases h.flags with e|e|e|e<;>rw [e]<;>decide
 have u1:IntKind.wrap .u8 a.flags=a.flags:=by rcases h.flags with e|e|e|e<;>rw [e]<;>decide
 have u2:IntKind.wrap .u8 a.cnt=a.cnt:=by rcases h.cnt with e|e<;>rw [e]<;>decide
 have u3:IntKind.wrap .u8 a.rng=a.rng:=by rw [h.rng];decide
 have l1:(Ah .u8 (Ca a.rp)).length=8:=by rw [Al,Cw]
 have l2:(Ah .u8 (Ca a.model)).length=8:=by rw [Al,Cw]
 have l3:(Ah .u8 a.id_).length=176:=by rw [Al,h.idl]
 have l4:(Ah .u8 (Gl a.key)).length=9:=by rw [Al,Ajd]
 have t1:List.take 8 (Ah .u8 (Ca a.rp))=Ah .u8 (Ca a.rp):=Iv (by omega)
 have t2:List.take 8 (Ah .u8 (Ca a.model))=Ah .u8 (Ca a.model):=Iv (by omega)
 have t4:List.take 9 (Ah .u8 (Gl a.key))=Ah .u8 (Gl a.key):=Iv (by omega)
 have E:Ah .u8 (Wv a)=Ah .u8 (Ca a.rp)++[.sc (.int .u8 a.flags),.sc (.int .u8 a.cnt),.sc (.int .u8 a.rng)]++Ah .u8 (Ca a.model)++Ah .u8 a.id_++Ah .u8 (Gl a.key):=by
  unfold Wv;simp [Ah,List.flatMap_append]
 have il:=h.idl;rw [il] at vd ⊢;rw [E];generalize Ah .u8 (Ca a.rp)=c1 at *
 generalize Ah .u8 (Ca a.model)=c2 at *
 generalize Ah .u8 a.id_=c3 at *
 generalize Ah .u8 (Gl a.key)=c4 at *
 have T1:List.take 11 (c1++[PV.sc (.int .u8 a.flags),.sc (.int .u8 a.cnt),.sc (.int .u8 a.rng)])=c1++[PV.sc (.int .u8 a.flags),.sc (.int .u8 a.cnt),.sc (.int .u8 a.rng)]:=Iv (by simp;omega)
 have T2:List.take 19 (c1++[PV.sc (.int .u8 a.flags),.sc (.int .u8 a.cnt),.sc (.int .u8 a.rng)]++c2)=c1++[PV.sc (.int .u8 a.flags),.sc (.int .u8 a.cnt),.sc (.int .u8 a.rng)]++c2:=Iv (by simp;omega)
 have T3:List.take 195 (c1++[PV.sc (.int .u8 a.flags),.sc (.int .u8 a.cnt),.sc (.int .u8 a.rng)]++c2++c3)=c1++[PV.sc (.int .u8 a.flags),.sc (.int .u8 a.cnt),.sc (.int .u8 a.rng)]++c2++c3:=Iv (by simp;omega)
 have T4:List.take 204 (c1++[PV.sc (.int .u8 a.flags),.sc (.int .u8 a.cnt),.sc (.int .u8 a.rng)]++c2++c3++c4)=c1++[PV.sc (.int .u8 a.flags),.sc (.int .u8 a.cnt),.sc (.int .u8 a.rng)]++c2++c3++c4:=Iv (by simp;omega)
 have L1:(c1++[PV.sc (.int .u8 a.flags),.sc (.int .u8 a.cnt),.sc (.int .u8 a.rng)]).length=11:=by simp;omega
 have L2:(c1++[PV.sc (.int .u8 a.flags),.sc (.int .u8 a.cnt),.sc (.int .u8 a.rng)]++c2).length=19:=by simp;omega
 have L3:(c1++[PV.sc (.int .u8 a.flags),.sc (.int .u8 a.cnt),.sc (.int .u8 a.rng)]++c2++c3).length=195:=by simp;omega
 have L4:(c1++[PV.sc (.int .u8 a.flags),.sc (.int .u8 a.cnt),.sc (.int .u8 a.rng)]++c2++c3++c4).length=204:=by simp;omega
 try unfold Aa
 repeat first
  |((with_reducible first|apply At|apply Aj|apply As|apply Ax|apply A5|apply Bb|apply Ai);· first|with_reducible rfl|(simp (disch:=omega) only [vd,e00,o1,u1,u2,u3,l1,t1,Bj,Nat.reduceAdd,Nat.reduceMul,f3,ek,o2,Bw,Cf,l2,t2,L1,T1,L2,T2,l3,L3,T3,l4,t4,L4,T4]<;>with_reducible rfl))
  |((with_reducible first|apply Ar|apply Au);· first|with_reducible rfl|omega|(simp (disch:=omega) only [gT,vd,e00,o1,u1,u2,u3,l1,t1,Bj,Nat.reduceAdd,Nat.reduceMul,f3,ek,o2,Bw,Cf,l2,t2,L1,T1,L2,T2,l3,L3,T3,l4,t4,L4,T4]<;>omega))
  |(with_reducible apply Aw;· first|with_reducible rfl|(simp (disch:=omega) only [gF,vd,e00,o1,u1,u2,u3,l1,t1,Bj,Nat.reduceAdd,Nat.reduceMul,f3,ek,o2,Bw,Cf,l2,t2,L1,T1,L2,T2,l3,L3,T3,l4,t4,L4,T4]<;>omega))
 try simp (disch:=omega) only [vd,e00,o1,u1,u2,u3,l1,t1,Bj,Nat.reduceAdd,Nat.reduceMul,f3,ek,o2,Bw,Cf,l2,t2,L1,T1,L2,T2,l3,L3,T3,l4,t4,L4,T4]
 all_goals rfl
theorem Atx (hfu:1000<=fu){a:Ad}(h:a.good):Ae C0 Tryz.prog fu (d+4) I4 [.lst false 1 204 (Ah .u8 (Wv a))]=some ⟨[.agg a.cells,.sc (.int .i64 0)],[]⟩:=by
 rw [Rg];have vd:=Aij (fu:=fu) (d:=d) hfu h;simp only [Ad.cells,Vf] at vd ⊢;have e00:((0:Int) != 0)=false:=rfl;have n1:(((204:Nat):Int) != 11)=true:=rfl;have n2:(((204:Nat):Int) != 204)=false:=rfl
 have d1:List.take 8 (Ah .u8 (Wv a))=Ah .u8 (Ca a.rp):=by
  rw [Dx]
  congr 1
 have w1:=Adi (fu:=fu) (d:=d+2) hfu (l:=Ca a.rp) (Cw _);rw [Yt h.rp.1 h.rp.2] at w1
 have d2:List.take 8 (List.drop 11 (Ah .u8 (Wv a)))=Ah .u8 (Ca a.model):=by
  rw [Et,Dx]
  congr 1
 have w2:=Adi (fu:=fu) (d:=d+2) hfu (l:=Ca a.model) (Cw _);rw [Yt h.model.1 h.model.2] at w2;have g8:(Ah .u8 (Wv a)).getD 8 .top=.sc (.int .u8 a.flags):=rfl;have g9:(Ah .u8 (Wv a)).getD 9 .top=.sc (.int .u8 a.cnt):=rfl;have g10:(Ah .u8 (Wv a)).getD 10 .top=.sc (.int .u8 a.rng):=rfl;have u1:IntKind.wrap .i64 a.flags=a.flags:=by rcases h.flags with e|e|e|e<;>rw [e]<;>decide
 have u2:IntKind.wrap .i64 a.cnt=a.cnt:=by rcases h.cnt with e|e<;>rw [e]<;>decide
 have u3:IntKind.wrap .i64 a.rng=a.rng:=by rw [h.rng];decide
 have D19:(Wv a).drop 19=a.id_++Gl a.key:=rfl
 have D195:(Wv a).drop 195=Gl a.key:=by
  rw [show 195=19+a.id_.length by rw [h.idl],←List.drop_drop,D19,List.drop_left' rfl]
 have d3:List.take 9 (List.drop 195 (Ah .u8 (Wv a)))=Ah .u8 (Gl a.key):=by
  rw [Et,Dx,D195]
  congr 1
 have dk:=Aif (fu:=fu) (d:=d+1) hfu (l:=Gl a.key) Aul;rw [Anv h.key h.root] at dk;simp only [Abl,Ky.cells,Ajd] at dk
 have d4:List.take 176 (List.drop 19 (Ah .u8 (Wv a)))=Ah .u8 a.id_:=by
  rw [Et,Dx,D19,List.take_left' h.idl]
 have t4:List.take 176 (Ah .u8 a.id_)=Ah .u8 a.id_:=Iv (by rw [Al,h.idl];omega)
 have l4:(Ah .u8 a.id_).length=176:=by rw [Al,h.idl]
 have f3:(E9 .i64 a.flags 64 != 0)=true:=by rcases h.flags with e|e|e|e<;>rw [e]<;>decide
 have c1:decide (((204:Nat):Int)>11)=true:=rfl;have c2:(true==true)=true:=rfl;have s9:204-195=9:=rfl;have il:=h.idl;rw [il] at vd ⊢;generalize Ah .u8 (Wv a)=E at *
 generalize Ah .u8 (Ca a.rp)=e1 at *
 generalize Ah .u8 (Ca a.model)=e2 at *
 generalize Ah .u8 (Gl a.key)=e3 at *
 generalize Ah .u8 a.id_=e4 at *
 try unfold Aa
 repeat first
  |((with_reducible first|apply At|apply Aj|apply As|apply Ax|apply A5|apply Bb|apply Ai);· first|with_reducible rfl|(simp (disch:=omega) only [n1,n2,Cf,d1,w1,g8,g9,g10,u1,u2,u3,c1,s9,Bj,d3,dk,e00,d2,w2,d4,l4,t4,vd,f3,c2,Bs]<;>with_reducible rfl))
  |((with_reducible first|apply Ar|apply Au);· first|with_reducible rfl|omega|(simp (disch:=omega) only [gT,n1,n2,Cf,d1,w1,g8,g9,g10,u1,u2,u3,c1,s9,Bj,d3,dk,e00,d2,w2,d4,l4,t4,vd,f3,c2,Bs]<;>omega))
  |(with_reducible apply Aw;· first|with_reducible rfl|(simp (disch:=omega) only [gF,n1,n2,Cf,d1,w1,g8,g9,g10,u1,u2,u3,c1,s9,Bj,d3,dk,e00,d2,w2,d4,l4,t4,vd,f3,c2,Bs]<;>omega))
 try simp (disch:=omega) only [n1,n2,Cf,d1,w1,g8,g9,g10,u1,u2,u3,c1,s9,Bj,d3,dk,e00,d2,w2,d4,l4,t4,vd,f3,c2,Bs]
 all_goals rfl
end
end
section
set_option maxRecDepth 100000
abbrev Id:FuncId:=24
theorem Pm (fu d:Nat)(a0_0 a0_1:Int)(a0_2n:Nat)(a0_2:List PV)(a0_3:Bool)(a1 a2:ByteArray)(a3n:Nat)(a3:List PV)(a4:Int)(a5:Bool)(a6:Int):Ae C0 Tryz.prog fu (d+1) Id [.agg [.sc (.int .u64 a0_0),.sc (.int .i64 a0_1),.lst false 1 a0_2n a0_2,.sc (.bool a0_3)],.sc (.string a1),.sc (.string a2),.lst false 1 a3n a3,.sc (.int .i64 a4),.sc (.bool a5),.sc (.int .i64 a6)]=(fun (call:Am)=>Ag (call 47 [.agg [.sc (.int .i64 1),.lst false 1 a3n a3,.sc (.string a2),.sc (.bool false),.sc (.string (ByteArray.mk #[]))]]) fun x1 x2=>Ac x2<|Ab x1 fun x3 x4=>Cn x3 fun x5=>Ab x4 fun x6 x7=>Af .i64 x6 fun x8=>Ac x7<|Ag (call 48 [.sc (.string a1)]) fun x9 Cd=>Ac Cd<|Ab x9 fun Bp C4=>Af .u64 Bp fun Da=>Ac C4<|Ag (call 49 [.agg [.sc (.int .u64 a0_0),.sc (.int .i64 a0_1),.lst false 1 a0_2n a0_2,.sc (.bool a0_3)],.sc (.bool a5)]) fun Cq C9=>Ac C9<|Ab Cq fun Do Du=>Af .i64 Do fun D5=>Ac Du<|Aa (Y9 .i64 D5 64) fun D7=>Ag (call 16 [.sc (.int .u64 a0_0),.sc (.int .i64 a0_1)]) fun Eh Fy=>Ac Fy<|Ab Eh fun Ci Fn=>Cu Ci fun Ds=>Ab Ds fun Bx Fc=>Af .i64 Bx fun Ft=>Ab Fc fun Bk Cg=>Af .u64 Bk fun Hg=>Ac Cg<|Ac Fn<|A4 (a4==1) (Ag (call 50 [.agg [.sc (.int .u64 Da),.sc (.int .i64 D7),.sc (.int .i64 1),.sc (.int .i64 0),.sc (.int .u64 3),.lst false 1 a0_2n a0_2,.sc (.int .i64 Ft),.sc (.int .u64 Hg)]]) fun Gf Ie=>Ac Ie<|Ab Gf fun H0 Jn=>Dk 1 H0 fun Gt Ix=>Ab Jn fun M5 F0=>Af .i64 M5 fun H5=>Ac F0<|Ag (call 28 [.sc (.string x5)]) fun Rh R6=>Ac R6<|Ab Rh fun L6 Rl=>Af .u64 L6 fun Pu=>Ac Rl<|Aq (decide (0+Gt*1<=List.length Ix))<|Ag (call 27 [.lst false 1 Gt (List.take (Gt*1) (List.drop 0 Ix)),.sc (.int .u64 Pu)]) fun Lx Q6=>Ac Q6<|Ab Lx fun Rj Oc=>Af .u64 Rj fun Pw=>Ac Oc<|A4 (a4==1) (Ag (call 17 [.sc (.int .u64 a0_0),.sc (.int .i64 a0_1),.sc (.int .i64 0),.sc (.int .u64 Pw)]) fun Sd Pq=>Ac Pq<|Ab Sd fun Rx Lz=>Cu Rx fun Py=>Ab Py fun Rr Ts=>Af .i64 Rr fun Pi=>Ab Ts fun Q9 S5=>Dk 1 Q9 fun Uv Oe=>Ab S5 fun Ro V9=>Dk 1 Ro fun Uq Q7=>Ac V9<|Ab Lz fun S6 S1=>Af .i64 S6 fun Ty=>Ac S1<|Aq (decide (0+Uv*1<=List.length Oe))<|Aq (decide (0+Uq*1<=List.length Q7))<|Ag (call 18 [.agg [.sc (.int .i64 Pi),.lst false 1 Uv (List.take (Uv*1) (List.drop 0 Oe)),.lst false 1 Uq (List.take (Uq*1) (List.drop 0 Q7))]]) fun Up Us=>Ac Us<|Ab Up fun Q8 Ws=>Dk 1 Q8 fun Wj Ur=>Ab Ws fun V1 Wu=>Af .i64 V1 fun V7=>Ac Wu<|Aq (decide (0+Gt*1<=List.length Ix))<|Aq (decide (0+Wj*1<=List.length Ur))<|some (Ay.mk [.agg [.sc (.int .i64 1),.sc (.string x5),.lst false 1 Gt (List.take (Gt*1) (List.drop 0 Ix)),.lst false 1 Wj (List.take (Wj*1) (List.drop 0 Ur)),.lst false 1 0 [],.sc (.int .i64 a4),.lst false 1 a0_2n a0_2,.sc (.string (ByteArray.mk #[]))]] [])) (A4 (a4==2) (Ag (call 17 [.sc (.int .u64 33),.sc (.int .i64 4),.sc (.int .i64 a6),.sc (.int .u64 Pw)]) fun Wt Za=>Ac Za<|Ab Wt fun x80 x81=>Cu x80 fun x82=>Ab x82 fun x83 Z9=>Af .i64 x83 fun x85=>Ab Z9 fun x86 x87=>Dk 1 x86 fun Rm S9=>Ab x87 fun Vx x91=>Dk 1 Vx fun x92 x93=>Ac x91<|Ab x81 fun x94 x95=>Af .i64 x94 fun x96=>Ac x95<|Aq (decide (0+Rm*1<=List.length S9))<|Aq (decide (0+x92*1<=List.length x93))<|Ag (call 18 [.agg [.sc (.int .i64 x85),.lst false 1 Rm (List.take (Rm*1) (List.drop 0 S9)),.lst false 1 x92 (List.take (x92*1) (List.drop 0 x93))]]) fun x97 x98=>Ac x98<|Ab x97 fun x99 Tt=>Dk 1 x99 fun Qd G5=>Ab Tt fun Jm S0=>Af .i64 Jm fun Pn=>Ac S0<|Ag (call 51 []) fun Oh Kl=>Ac Kl<|Ab Oh fun Wd Xr=>Dk 1 Wd fun Vu Wo=>Ac Xr<|Aq (decide (0+Gt*1<=List.length Ix))<|Aq (decide (0+Qd*1<=List.length G5))<|Aq (decide (0+Vu*1<=List.length Wo))<|some (Ay.mk [.agg [.sc (.int .i64 1),.sc (.string x5),.lst false 1 Gt (List.take (Gt*1) (List.drop 0 Ix)),.lst false 1 Qd (List.take (Qd*1) (List.drop 0 G5)),.lst false 1 Vu (List.take (Vu*1) (List.drop 0 Wo)),.sc (.int .i64 a4),.lst false 1 a0_2n a0_2,.sc (.string (ByteArray.mk #[]))]] [])) (Aq (decide (0+Gt*1<=List.length Ix))<|some (Ay.mk [.agg [.sc (.int .i64 1),.sc (.string x5),.lst false 1 Gt (List.take (Gt*1) (List.drop 0 Ix)),.lst false 1 0 [],.lst false 1 0 [],.sc (.int .i64 a4),.lst false 1 a0_2n a0_2,.sc (.string (ByteArray.mk #[]))]] [])))) (Ag (call 50 [.agg [.sc (.int .u64 Da),.sc (.int .i64 D7),.sc (.int .i64 0),.sc (.int .i64 0),.sc (.int .u64 3),.lst false 1 a0_2n a0_2,.sc (.int .i64 Ft),.sc (.int .u64 Hg)]]) fun Ig Km=>Ac Km<|Ab Ig fun Abb Aa3=>Dk 1 Abb fun Om S2=>Ab Aa3 fun Aba Zm=>Af .i64 Aba fun Abj=>Ac Zm<|Ag (call 28 [.sc (.string x5)]) fun Z7 Zp=>Ac Zp<|Ab Z7 fun Abu Aa8=>Af .u64 Abu fun Zk=>Ac Aa8<|Aq (decide (0+Om*1<=List.length S2))<|Ag (call 27 [.lst false 1 Om (List.take (Om*1) (List.drop 0 S2)),.sc (.int .u64 Zk)]) fun Rc Ut=>Ac Ut<|Ab Rc fun Acc Abk=>Af .u64 Acc fun Zl=>Ac Abk<|A4 (a4==1) (Ag (call 17 [.sc (.int .u64 a0_0),.sc (.int .i64 a0_1),.sc (.int .i64 0),.sc (.int .u64 Zl)]) fun Afe Aaz=>Ac Aaz<|Ab Afe fun Ab3 Ac8=>Cu Ab3 fun Ae6=>Ab Ae6 fun Ahu Ahf=>Af .i64 Ahu fun Aex=>Ab Ahf fun Z2 Ac6=>Dk 1 Z2 fun Abx Adl=>Ab Ac6 fun Afa Abf=>Dk 1 Afa fun Z6 Zt=>Ac Abf<|Ab Ac8 fun Ae1 Aeu=>Af .i64 Ae1 fun Alj=>Ac Aeu<|Aq (decide (0+Abx*1<=List.length Adl))<|Aq (decide (0+Z6*1<=List.length Zt))<|Ag (call 18 [.agg [.sc (.int .i64 Aex),.lst false 1 Abx (List.take (Abx*1) (List.drop 0 Adl)),.lst false 1 Z6 (List.take (Z6*1) (List.drop 0 Zt))]]) fun Al4 Aia=>Ac Aia<|Ab Al4 fun Abh Aha=>Dk 1 Abh fun Aff Ahb=>Ab Aha fun Ahk Ahg=>Af .i64 Ahk fun Aht=>Ac Ahg<|Aq (decide (0+Om*1<=List.length S2))<|Aq (decide (0+Aff*1<=List.length Ahb))<|some (Ay.mk [.agg [.sc (.int .i64 1),.sc (.string x5),.lst false 1 Om (List.take (Om*1) (List.drop 0 S2)),.lst false 1 Aff (List.take (Aff*1) (List.drop 0 Ahb)),.lst false 1 0 [],.sc (.int .i64 a4),.lst false 1 a0_2n a0_2,.sc (.string (ByteArray.mk #[]))]] [])) (A4 (a4==2) (Ag (call 17 [.sc (.int .u64 33),.sc (.int .i64 4),.sc (.int .i64 a6),.sc (.int .u64 Zl)]) fun Ag9 Ajy=>Ac Ajy<|Ab Ag9 fun Aio Ajg=>Cu Aio fun Ak4=>Ab Ak4 fun Afr Aho=>Af .i64 Afr fun Ajz=>Ab Aho fun Afg Ahx=>Dk 1 Afg fun Afx Ae3=>Ab Ahx fun Ajr Aoa=>Dk 1 Ajr fun Aii Ala=>Ac Aoa<|Ab Ajg fun Ahp Al6=>Af .i64 Ahp fun Aso=>Ac Al6<|Aq (decide (0+Afx*1<=List.length Ae3))<|Aq (decide (0+Aii*1<=List.length Ala))<|Ag (call 18 [.agg [.sc (.int .i64 Ajz),.lst false 1 Afx (List.take (Afx*1) (List.drop 0 Ae3)),.lst false 1 Aii (List.take (Aii*1) (List.drop 0 Ala))]]) fun Alu Apg=>Ac Apg<|Ab Alu fun As9 Af5=>Dk 1 As9 fun X4 Apu=>Ab Af5 fun Aut Au6=>Af .i64 Aut fun Ay6=>Ac Au6<|Ag (call 51 []) fun Auy As5=>Ac As5<|Ab Auy fun Auw Ats=>Dk 1 Auw fun Aqa Arq=>Ac Ats<|Aq (decide (0+Om*1<=List.length S2))<|Aq (decide (0+X4*1<=List.length Apu))<|Aq (decide (0+Aqa*1<=List.length Arq))<|some (Ay.mk [.agg [.sc (.int .i64 1),.sc (.string x5),.lst false 1 Om (List.take (Om*1) (List.drop 0 S2)),.lst false 1 X4 (List.take (X4*1) (List.drop 0 Apu)),.lst false 1 Aqa (List.take (Aqa*1) (List.drop 0 Arq)),.sc (.int .i64 a4),.lst false 1 a0_2n a0_2,.sc (.string (ByteArray.mk #[]))]] [])) (Aq (decide (0+Om*1<=List.length S2))<|some (Ay.mk [.agg [.sc (.int .i64 1),.sc (.string x5),.lst false 1 Om (List.take (Om*1) (List.drop 0 S2)),.lst false 1 0 [],.lst false 1 0 [],.sc (.int .i64 a4),.lst false 1 a0_2n a0_2,.sc (.string (ByteArray.mk #[]))]] []))))) (Ae C0 Tryz.prog fu d):=by kernel_rfl
abbrev Oz:FuncId:=8
theorem Zx (fu d:Nat)(a0 a1:Int)(a2 a3:Int):Ae C0 Tryz.prog fu (d+1) Oz [.sc (.int .i64 a0),.sc (.int .i64 a1),.sc (.int .i64 a2),.sc (.int .i64 a3)]=(fun (call:Am)=>Ag (call 11 [.sc (.int .i64 a0),.sc (.int .i64 50)]) fun x1 x2=>Ac x2<|Ab x1 fun x3 x4=>Af .i64 x3 fun x5=>Ac x4<|Aa (E9 .i64 a0 64) fun x6=>Ag (call 23 [.sc (.int .i64 x5),.sc (.int .i64 a1),.sc (.bool (x6==64))]) fun x7 x8=>Ac x8<|Ab x7 fun x9 Cd=>Cu x9 fun Bp=>Ab Bp fun C4 Da=>Af .u64 C4 fun Cq=>Ab Da fun C9 Do=>Af .i64 C9 fun Du=>Ab Do fun D5 D7=>Dk 1 D5 fun Eh Fy=>Ab D7 fun Ci Fn=>Bz Ci fun Ds=>Ac Fn<|Ac Cd<|Aa (E9 .i64 a0 7) fun Bx=>Ag (call 25 [.sc (.int .i64 Bx),.sc (.int .i64 16)]) fun Fc Ft=>Ac Ft<|Ab Fc fun Bk Cg=>Dk 1 Bk fun Hg Gf=>Ac Cg<|Aa (E9 .i64 a0 128) fun Ie=>Aq (decide (0+Eh*1<=List.length Fy))<|Aq (decide (0+Hg*1<=List.length Gf))<|Ag (call 24 [.agg [.sc (.int .u64 Cq),.sc (.int .i64 Du),.lst false 1 Eh (List.take (Eh*1) (List.drop 0 Fy)),.sc (.bool Ds)],.sc (.string (ByteArray.mk #[101,120,97,109,112,108,101,46,99,111,109])),.sc (.string (ByteArray.mk #[104,116,116,112,115,58,47,47,101,120,97,109,112,108,101,46,99,111,109])),.lst false 1 Hg (List.take (Hg*1) (List.drop 0 Gf)),.sc (.int .i64 a2),.sc (.bool (Ie==128)),.sc (.int .i64 a3)]) fun H0 Jn=>Ac Jn<|Ab H0 fun Gt Ix=>Cu Gt fun M5=>Ab M5 fun F0 H5=>Af .i64 F0 fun Rh=>Ab H5 fun R6 L6=>Cn R6 fun Rl=>Ab L6 fun Pu Lx=>Ih 1 Pu fun Q6 Rj Oc=>Ab Lx fun Pw Sd=>Ih 1 Pw fun Pq Rx Lz=>Ab Sd fun Py Rr=>Ih 1 Py fun Ts Pi Q9=>Ab Rr fun S5 Uv=>Af .i64 S5 fun Oe=>Ab Uv fun Ro V9=>Ih 1 Ro fun Uq Q7 S6=>Ab V9 fun S1 Ty=>Cn S1 fun Up=>Ac Ty<|Ac Ix<|Ag (call 26 [.lst false 1 Rj Oc]) fun Us Q8=>Ac Q8<|Ab Us fun Ws Wj=>Cu Ws fun Ur=>Ab Ur fun V1 Wu=>Af .u64 V1 fun V7=>Ab Wu fun Wt Za=>Af .i64 Wt fun x80=>Ab Za fun x81 x82=>Af .i64 x81 fun x83=>Ab x82 fun Z9 x85=>Af .i64 Z9 fun x86=>Ab x85 fun x87 Rm=>Af .u64 x87 fun S9=>Ab Rm fun Vx x91=>Ih 1 Vx fun x92 x93 x94=>Ab x91 fun x95 x96=>Af .i64 x95 fun x97=>Ab x96 fun x98 x99=>Af .u64 x98 fun Tt=>Ac x99<|Ab Wj fun Qd G5=>Af .i64 Qd fun Jm=>Ac G5<|Ag (call 28 [.sc (.string Rl)]) fun S0 Pn=>Ac Pn<|Ab S0 fun Oh Kl=>Af .u64 Oh fun Wd=>Ac Kl<|Ag (call 27 [.lst false 1 Rj Oc,.sc (.int .u64 Wd)]) fun Xr Vu=>Ac Vu<|Ab Xr fun Wo Ig=>Af .u64 Wo fun Km=>Ac Ig<|some (Ay.mk [.agg [.sc (.int .i64 Rh),.sc (.string Rl),.lst false 1 Rj Oc,.lst false 1 Rx Lz,.lst false 1 Pi Q9,.sc (.int .i64 Oe),.lst false 1 Q7 S6,.sc (.string Up)],.agg [.sc (.int .u64 V7),.sc (.int .i64 x80),.sc (.int .i64 x83),.sc (.int .i64 x86),.sc (.int .u64 S9),.lst false 1 x93 x94,.sc (.int .i64 x97),.sc (.int .u64 Tt)],.sc (.int .u64 Km)] [])) (Ae C0 Tryz.prog fu d):=by kernel_rfl
abbrev Ni:FuncId:=13
noncomputable def Cl (fu:Nat)(call:Am)(nn:Nat)(y0:Int):Option Ay:=Db C0 Tryz.prog fu call 13 Tryz.f13 (Ch Tryz.f13) [] [.r,.l,.r,.l] nn ⟨lk [(1,(.sc (.int .i64 y0)))],Gn []⟩
theorem J8 (fu:Nat)(call:Am)(nn:Nat)(y0:Int):Cl fu call (nn+1) y0=(A4 (decide (y0<=2)) (Ag (call 8 [.sc (.int .i64 1),.sc (.int .i64 1),.sc (.int .i64 y0),.sc (.int .i64 0)]) fun x1 x2=>Ac x2<|Ab x1 fun x3 x4=>Cu x3 fun x5=>Ab x5 fun x6 x7=>Af .i64 x6 fun x8=>Ab x7 fun x9 Cd=>Cn x9 fun Bp=>Ab Cd fun C4 Da=>Ih 1 C4 fun Cq C9 Do=>Ab Da fun Du D5=>Ih 1 Du fun D7 Eh Fy=>Ab D5 fun Ci Fn=>Ih 1 Ci fun Ds Bx Fc=>Ab Fn fun Ft Bk=>Af .i64 Ft fun Cg=>Ab Bk fun Hg Gf=>Ih 1 Hg fun Ie H0 Jn=>Ab Gf fun Gt Ix=>Cn Gt fun M5=>Ac Ix<|Ab x4 fun F0 H5=>Cu F0 fun Rh=>Ab Rh fun R6 L6=>Af .u64 R6 fun Rl=>Ab L6 fun Pu Lx=>Af .i64 Pu fun Q6=>Ab Lx fun Rj Oc=>Af .i64 Rj fun Pw=>Ab Oc fun Sd Pq=>Af .i64 Sd fun Rx=>Ab Pq fun Lz Py=>Af .u64 Lz fun Rr=>Ab Py fun Ts Pi=>Ih 1 Ts fun Q9 S5 Uv=>Ab Pi fun Oe Ro=>Af .i64 Oe fun V9=>Ab Ro fun Uq Q7=>Af .u64 Uq fun S6=>Ac Q7<|Ab H5 fun S1 Ty=>Af .u64 S1 fun Up=>Ac Ty<|Ag (call 20 []) fun Us Q8=>Ac Q8<|Ab Us fun Ws Wj=>Dk 3 Ws fun Ur V1=>Ac Wj<|Aq (decide (0+Ur*3<=List.length V1))<|Ag (call 14 [.agg [.sc (.int .i64 x8),.sc (.string Bp),.lst false 1 C9 Do,.lst false 1 Eh Fy,.lst false 1 Bx Fc,.sc (.int .i64 Cg),.lst false 1 H0 Jn,.sc (.string M5)],.agg [.sc (.int .u64 Rl),.sc (.int .i64 Q6),.sc (.int .i64 Pw),.sc (.int .i64 Rx),.sc (.int .u64 Rr),.lst false 1 S5 Uv,.sc (.int .i64 V9),.sc (.int .u64 S6)],.sc (.int .u64 Up),.lst false 3 Ur (List.take (Ur*3) (List.drop 0 V1)),.lst false 3 0 [],.sc (.int .i64 5)]) fun Wu V7=>Ac V7<|Ab Wu fun Wt Za=>Cu Wt fun x80=>Ab x80 fun x81 x82=>Af .i64 x81 fun x83=>Ab x82 fun Z9 x85=>Af .i64 Z9 fun x86=>Ab x85 fun x87 Rm=>Af .i64 x87 fun S9=>Ac Rm<|Ab Za fun Vx x91=>Af .i64 Vx fun x92=>Ac x91<|A4 (y0==2) (A4 (y0==1) (A4 (x92 != 0) (some (Ay.mk [.sc (.bool false)] [])) (A4 (!(x83==y0&&(x86==1&&(S9==0&&true)))) (some (Ay.mk [.sc (.bool false)] [])) (Aa (IntKind.wrap .i64 (y0+1)) fun x93=>Cl fu call (nn) x93))) (A4 (x92 != 0) (some (Ay.mk [.sc (.bool false)] [])) (A4 (!(x83==y0&&(x86==1&&(S9==(-1)&&true)))) (some (Ay.mk [.sc (.bool false)] [])) (Aa (IntKind.wrap .i64 (y0+1)) fun x94=>Cl fu call (nn) x94)))) (A4 (y0==1) (A4 (x92 != 0) (some (Ay.mk [.sc (.bool false)] [])) (A4 (!(x83==y0&&(x86==(-1)&&(S9==0&&true)))) (some (Ay.mk [.sc (.bool false)] [])) (Aa (IntKind.wrap .i64 (y0+1)) fun x95=>Cl fu call (nn) x95))) (A4 (x92 != 0) (some (Ay.mk [.sc (.bool false)] [])) (A4 (!(x83==y0&&(x86==(-1)&&(S9==(-1)&&true)))) (some (Ay.mk [.sc (.bool false)] [])) (Aa (IntKind.wrap .i64 (y0+1)) fun x96=>Cl fu call (nn) x96))))) (some (Ay.mk [.sc (.bool true)] []))):=by kernel_rfl
theorem Xq (fu d:Nat):Ae C0 Tryz.prog fu (d+1) Ni []=(fun (call:Am)=>Cl fu call (fu) 0) (Ae C0 Tryz.prog fu d):=by kernel_rfl
end
section
set_option maxRecDepth 1000000
theorem Ah0 (dom:Int)(l:List Int):isU (D8 dom l):=Lw _
theorem A6f (key dom:Int)(l:List Int):isU (A4a key dom l):=Lw _
theorem Azt (leaf chain:Int):∀(k:Nat)(p:Int){x:Int},isU x->isU (Tb leaf chain k p x)
 |0,_,_,h=>h
 |k+1,p,x,h=>Azt leaf chain k (p+1) (Ah0 _ _)
theorem A7u (seed leaf m:Int):isW (Zf seed leaf m):=by
 intro x hx;obtain ⟨k,_,rfl⟩:=List.mem_map.1 hx;exact Azt _ _ _ _ (A6f _ _ _)
theorem Avc (seed:Int):∀(l:Nat)(i:Int),isU (Jq seed l i)
 |0,i=>Ah0 _ _
 |l+1,i=>Ah0 _ _
theorem An1 (seed h:Int):isU (Eo seed h).root:=by
 unfold Eo;split
 ·exact ⟨by simp,by simp⟩
 ·exact Avc _ _ _
theorem Anx (seed h:Int):Dd (Eo seed h).h=false:=by
 unfold Eo;cases hh:Dd h
 ·rw [A0 (by simp)]
  exact hh
 ·rw [Bm rfl];rfl
theorem Ap0 {seed h leaf m:Int}(hh:Dd h=false)(ho:F4 leaf h=false):∃s,Al7 seed h leaf m=some s∧s.ok∧s.leaf=leaf∧s.chains.length=18∧(s.path.length:Int)=h∧L8 (Eo seed h) m s=0:=by
 have hb:=Ga hh;refine ⟨⟨leaf,Zf seed leaf m,(List.range h.toNat).map fun k=>Jq seed k (Wi leaf k)⟩,?_,⟨A7u _ _ _,?_⟩,rfl,by simp [Zf],?_,A0n hh ho⟩
 ·unfold Al7;rw [A0 (by simp [hh]),A0 (by simp [ho])]
 ·intro x hx;obtain ⟨k,_,rfl⟩:=List.mem_map.1 hx;exact Avc _ _ _
 ·simp only [List.length_map,List.length_range];omega
theorem A3w {s:Sg}:(Ly s).length=2+8*s.chains.length+8*s.path.length:=by
 unfold Ly;simp only [Iw,Hz,C7];omega
section
variable {fu d:Nat}
theorem A37 {call:Am}{a0n m0:Nat}{a0:List PV}{b:List Int}{i:Nat}(hi:i<b.length)(hl:b.length<=1000){n:Int}{S B:Nat}(hB:B<=100000)(hL:∀y:ByteArray,y.size<=B->∃s:ByteArray,s.size<=S∧C8 fu call a0n a0 m0 b.length (Ah .u8 b) y ((i+3:Nat):Int)=some ⟨[.sc (.string s)],[]⟩):
  ∀(k nn:Nat) (j:Nat) (y:ByteArray),j+k=4->k<nn->y.size+k<=B->∃s:ByteArray,s.size<=S∧Cj fu call a0n a0 m0 nn b.length (Ah .u8 b) y (i:Int) n (j:Int)=some ⟨[.sc (.string s)],[]⟩:=by
 have w3:IntKind.wrap .i64 ((i:Int)+3)=((i+3:Nat):Int):=by rw [Ap (by omega) (by omega)];omega
 intro k
 induction k with
 |zero=>
  intro nn j y hj hn hy;obtain ⟨m,rfl⟩:∃m,nn=m+1:=⟨nn-1,by omega⟩
  obtain ⟨s,s1,s2⟩:=hL y (by omega)
  refine ⟨s,s1,?_⟩;rw [←s2,Fq]
  try unfold Aa
  repeat first
   |((with_reducible first|apply At|apply Aj|apply As|apply Ai);· first|with_reducible rfl|(simp (disch:=omega) only [w3]<;>with_reducible rfl))
   |((with_reducible first|apply Ar|apply Au);· first|with_reducible rfl|omega|(simp (disch:=omega) only [gT,w3]<;>omega))
   |(with_reducible apply Aw;· first|with_reducible rfl|(simp (disch:=omega) only [gF,w3]<;>omega))
  try simp (disch:=omega) only [w3]
  all_goals rfl
 |succ k ih=>
  intro nn j y hj hn hy;obtain ⟨m,rfl⟩:∃m,nn=m+1:=⟨nn-1,by omega⟩
  have w4:IntKind.wrap .i64 ((b.length:Int)-(i:Int))=(b.length:Int)-i:=Ap (by omega) (by omega)
  by_cases hjj:(j:Int)<=(b.length:Int)-i
  rotate_left
  ·obtain ⟨s,s1,s2⟩:=hL y (by omega)
   refine ⟨s,s1,?_⟩;rw [←s2,Fq]
   try unfold Aa
   repeat first
    |((with_reducible first|apply At|apply Aj|apply As|apply Ai);· first|with_reducible rfl|(simp (disch:=omega) only [w3,w4]<;>with_reducible rfl))
    |((with_reducible first|apply Ar|apply Au);· first|with_reducible rfl|omega|(simp (disch:=omega) only [gT,w3,w4]<;>omega))
    |(with_reducible apply Aw;· first|with_reducible rfl|(simp (disch:=omega) only [gF,w3,w4]<;>omega))
   try simp (disch:=omega) only [w3,w4]
   all_goals rfl
  have u1:IntKind.wrap .u64 (j:Int)=j:=B6 (by omega) (by omega)
  have u2:IntKind.wrap .u64 (6*(j:Int))=6*j:=B6 (by omega) (by omega)
  have u3:IntKind.wrap .u64 (18-6*(j:Int))=18-6*j:=B6 (by omega) (by omega)
  have ib:=Az8 (a:=Eg .u64 n (18-6*(j:Int))) (m:=63) (by omega) (by omega)
  obtain ⟨v,hv⟩:∃v,E9 .u64 (Eg .u64 n (18-6*(j:Int))) 63=v:=⟨_,rfl⟩;rw [hv] at ib;have u4:IntKind.wrap .u64 (v+1)=v+1:=B6 (by omega) (by omega)
  have w1:IntKind.wrap .i64 ((j:Int)+1)=((j+1:Nat):Int):=by rw [Ap (by omega) (by omega)];omega
  have ez:∀A:ByteArray,(A.extract v.toNat (v+1).toNat).size<=1:=by
   intro A;rw [ByteArray.size_extract];omega
  obtain ⟨q,hq⟩:∃q:List UInt8,q=[(65:UInt8),(66:UInt8),(67:UInt8),(68:UInt8),(69:UInt8),(70:UInt8),(71:UInt8),(72:UInt8),(73:UInt8),(74:UInt8),(75:UInt8),(76:UInt8),(77:UInt8),(78:UInt8),(79:UInt8),(80:UInt8),(81:UInt8),(82:UInt8),(83:UInt8),(84:UInt8),(85:UInt8),(86:UInt8),(87:UInt8),(88:UInt8),(89:UInt8),(90:UInt8),(97:UInt8),(98:UInt8),(99:UInt8),(100:UInt8),(101:UInt8),(102:UInt8),(103:UInt8),(104:UInt8),(105:UInt8),(106:UInt8),(107:UInt8),(108:UInt8),(109:UInt8),(110:UInt8),(111:UInt8),(112:UInt8),(113:UInt8),(114:UInt8),(115:UInt8),(116:UInt8),(117:UInt8),(118:UInt8),(119:UInt8),(120:UInt8),(121:UInt8),(122:UInt8),(48:UInt8),(49:UInt8),(50:UInt8),(51:UInt8),(52:UInt8),(53:UInt8),(54:UInt8),(55:UInt8),(56:UInt8),(57:UInt8),(45:UInt8),(95:UInt8)]:=⟨_,rfl⟩;have ez1:=ez (ByteArray.mk q.toArray)
  obtain ⟨s,s1,s2⟩:=ih m (j+1) (y++(ByteArray.mk q.toArray).extract v.toNat (v+1).toNat) (by omega) (by omega) (by rw [ByteArray.size_append];omega)
  refine ⟨s,s1,?_⟩;rw [←s2,Fq,←hq]
  try unfold Aa
  repeat first
   |((with_reducible first|apply At|apply Aj|apply As|apply Ai);· first|with_reducible rfl|(simp (disch:=omega) only [w4,u1,u2,u3,hv,u4,w1]<;>with_reducible rfl))
   |((with_reducible first|apply Ar|apply Au);· first|with_reducible rfl|omega|(simp (disch:=omega) only [gT,w4,u1,u2,u3,hv,u4,w1]<;>omega))
   |(with_reducible apply Aw;· first|with_reducible rfl|(simp (disch:=omega) only [gF,w4,u1,u2,u3,hv,u4,w1]<;>omega))
  try simp (disch:=omega) only [w4,u1,u2,u3,hv,u4,w1]
  all_goals rfl
theorem Axi {call:Am}{a0n:Nat}{a0:List PV}{b:List Int}(hfu:1000<=fu)(hl:b.length<=300):∀(k nn i:Nat)(y:ByteArray),b.length<=i+3*k->k<nn->i<=b.length+3->y.size+4*k<=10000->∃s:ByteArray,s.size<=y.size+4*k∧C8 fu call a0n a0 nn b.length (Ah .u8 b) y (i:Int)=some ⟨[.sc (.string s)],[]⟩:=by
 intro k
 induction k with
 |zero=>
  intro nn i y h1 h2 h3 h4;obtain ⟨m,rfl⟩:∃m,nn=m+1:=⟨nn-1,by omega⟩
  refine ⟨y,by omega,?_⟩
  rw [Fp,Dw _ _ _ (by omega)]
 |succ k ih=>
  intro nn i y h1 h2 h3 h4;obtain ⟨m,rfl⟩:∃m,nn=m+1:=⟨nn-1,by omega⟩
  by_cases hi:i<b.length
  rotate_left
  ·refine ⟨y,by omega,?_⟩
   rw [Fp,Dw _ _ _ (by omega)]
  obtain ⟨x,hx⟩:∃x,b[i]?=some x:=⟨_,List.getElem?_eq_getElem hi⟩;have g0:=Ps (k:=.u8) hx;have nt:Int.toNat (i:Int)=i:=Hr _;have nt1:Int.toNat ((i+1:Nat):Int)=i+1:=Hr _;have nt2:Int.toNat ((i+2:Nat):Int)=i+2:=Hr _;have w1:IntKind.wrap .i64 ((i:Int)+1)=((i+1:Nat):Int):=by rw [Ap (by omega) (by omega)];omega
  have w2:IntKind.wrap .i64 ((i:Int)+2)=((i+2:Nat):Int):=by rw [Ap (by omega) (by omega)];omega
  have inn:∀n:Int,∃s:ByteArray,s.size<=y.size+4*(k+1)∧Cj fu call a0n a0 m fu b.length (Ah .u8 b) y (i:Int) n 0=some ⟨[.sc (.string s)],[]⟩:=by
   intro n;refine A37 (S:=y.size+4*(k+1)) (B:=y.size+4) (m0:=m) hi (by omega) (by omega) (fun z hz=>?_) 4 fu 0 y (by omega) (by omega) (by omega)
   obtain ⟨s,s1,s2⟩:=ih m (i+3) z (by omega) (by omega) (by omega) (by omega)
   exact ⟨s,by omega,s2⟩
  rw [Fp];by_cases h1':i+1<b.length
  ·obtain ⟨x1,hx1⟩:∃x,b[i+1]?=some x:=⟨_,List.getElem?_eq_getElem h1'⟩;have g1:=Ps (k:=.u8) hx1;by_cases h2':i+2<b.length
   ·obtain ⟨x2,hx2⟩:∃x,b[i+2]?=some x:=⟨_,List.getElem?_eq_getElem h2'⟩;have g2:=Ps (k:=.u8) hx2;obtain ⟨s,s1,s2⟩:=inn (Y9 .u64 (Y9 .u64 (Fb .u64 (IntKind.wrap .u64 x) 16) (Fb .u64 (IntKind.wrap .u64 x1) 8)) (IntKind.wrap .u64 x2));refine ⟨s,s1,?_⟩;rw [←s2]
    try unfold Aa
    repeat first
     |((with_reducible first|apply At|apply Aj|apply As|apply Ai);· first|with_reducible rfl|(simp (disch:=omega) only [nt,nt1,nt2,w1,w2,Bj,g0,g1,g2]<;>with_reducible rfl))
     |((with_reducible first|apply Ar|apply Au);· first|with_reducible rfl|omega|(simp (disch:=omega) only [gT,nt,nt1,nt2,w1,w2,Bj,g0,g1,g2]<;>omega))
     |(with_reducible apply Aw;· first|with_reducible rfl|(simp (disch:=omega) only [gF,nt,nt1,nt2,w1,w2,Bj,g0,g1,g2]<;>omega))
    try simp (disch:=omega) only [nt,nt1,nt2,w1,w2,Bj,g0,g1,g2]
    all_goals rfl
   ·obtain ⟨s,s1,s2⟩:=inn (Y9 .u64 (Fb .u64 (IntKind.wrap .u64 x) 16) (Fb .u64 (IntKind.wrap .u64 x1) 8));refine ⟨s,s1,?_⟩;rw [←s2]
    try unfold Aa
    repeat first
     |((with_reducible first|apply At|apply Aj|apply As|apply Ai);· first|with_reducible rfl|(simp (disch:=omega) only [nt,nt1,nt2,w1,w2,Bj,g0,g1]<;>with_reducible rfl))
     |((with_reducible first|apply Ar|apply Au);· first|with_reducible rfl|omega|(simp (disch:=omega) only [gT,nt,nt1,nt2,w1,w2,Bj,g0,g1]<;>omega))
     |(with_reducible apply Aw;· first|with_reducible rfl|(simp (disch:=omega) only [gF,nt,nt1,nt2,w1,w2,Bj,g0,g1]<;>omega))
    try simp (disch:=omega) only [nt,nt1,nt2,w1,w2,Bj,g0,g1]
    all_goals rfl
  ·obtain ⟨s,s1,s2⟩:=inn (Fb .u64 (IntKind.wrap .u64 x) 16);refine ⟨s,s1,?_⟩;rw [←s2]
   try unfold Aa
   repeat first
    |((with_reducible first|apply At|apply Aj|apply As|apply Ai);· first|with_reducible rfl|(simp (disch:=omega) only [nt,nt1,nt2,w1,w2,Bj,g0]<;>with_reducible rfl))
    |((with_reducible first|apply Ar|apply Au);· first|with_reducible rfl|omega|(simp (disch:=omega) only [gT,nt,nt1,nt2,w1,w2,Bj,g0]<;>omega))
    |(with_reducible apply Aw;· first|with_reducible rfl|(simp (disch:=omega) only [gF,nt,nt1,nt2,w1,w2,Bj,g0]<;>omega))
   try simp (disch:=omega) only [nt,nt1,nt2,w1,w2,Bj,g0]
   all_goals rfl
theorem A31 (hfu:1000<=fu){b:List Int}(hl:b.length<=64):∃s:ByteArray,s.size<=400∧Ae C0 Tryz.prog fu (d+1) I7 [.lst false 1 b.length (Ah .u8 b)]=some ⟨[.sc (.string s)],[]⟩:=by
 obtain ⟨s,s1,s2⟩:=Axi (fu:=fu) (call:=Ae C0 Tryz.prog fu d) (a0n:=b.length) (a0:=Ah .u8 b) (b:=b) hfu (by omega) 100 fu 0 ⟨#[]⟩ (by omega) (by omega) (by omega) (by decide)
 refine ⟨s,?_,?_⟩
 ·have:(ByteArray.mk #[]).size=0:=rfl;omega
 ·rw [Ra];exact s2
end
end
section
set_option maxRecDepth 1000000
abbrev A2a:ByteArray:=⟨#[(104:UInt8),(116:UInt8),(116:UInt8),(112:UInt8),(115:UInt8),(58:UInt8),(47:UInt8),(47:UInt8),(101:UInt8),(120:UInt8),(97:UInt8),(109:UInt8),(112:UInt8),(108:UInt8),(101:UInt8),(46:UInt8),(99:UInt8),(111:UInt8),(109:UInt8)]⟩
abbrev Anb:ByteArray:=⟨#[(101:UInt8),(120:UInt8),(97:UInt8),(109:UInt8),(112:UInt8),(108:UInt8),(101:UInt8),(46:UInt8),(99:UInt8),(111:UInt8),(109:UInt8)]⟩
theorem A13 (l:List UInt8):(ByteArray.mk (List.toArray l)).size=l.length:=by exact id rfl
section
variable {d:Nat}
theorem Ayw:Ae C0 Tryz.prog 2000 (d+5) Q1 [.sc (.string A2a)]=some ⟨[.agg [.sc (.bool true),.sc (.string Anb),.sc (.int .i64 443)],.sc (.int .i64 0)],[]⟩:=by kernel_rfl
theorem Aww {b:List Int}(h1:1<=b.length)(h2:b.length<=64):∃t:ByteArray,t.size<=600∧Ae C0 Tryz.prog 2000 (d+6) I2 [.agg [.sc (.int .i64 1),.lst false 1 b.length (Ah .u8 b),.sc (.string A2a),.sc (.bool false),.sc (.string Cy)]]=some ⟨[.sc (.string t),.sc (.int .i64 0)],[]⟩:=by
 obtain ⟨s,s1,s2⟩:=A31 (fu:=2000) (d:=d+4) (by omega) (b:=b) h2
 have po:=Ayw (d:=d)
 have ty:Ae C0 Tryz.prog 2000 (d+5) Ms [.sc (.int .i64 1)]=some ⟨[.sc (.string ⟨#[(112:UInt8),(97:UInt8),(115:UInt8),(115:UInt8),(107:UInt8),(101:UInt8),(121:UInt8),(46:UInt8),(99:UInt8),(114:UInt8),(101:UInt8),(97:UInt8),(116:UInt8),(101:UInt8)]⟩)],[]⟩:=by
  rw [Wp];rfl
 have e00:((0:Int) != 0)=false:=rfl;have ze:(Array.toList (ByteArray.data (ByteArray.mk #[]))==Array.toList (ByteArray.data (ByteArray.mk #[])))=true:=rfl;have zt:(Array.toList (ByteArray.data (ByteArray.mk #[(112:UInt8),(97:UInt8),(115:UInt8),(115:UInt8),(107:UInt8),(101:UInt8),(121:UInt8),(46:UInt8),(99:UInt8),(114:UInt8),(101:UInt8),(97:UInt8),(116:UInt8),(101:UInt8)]))==Array.toList (ByteArray.data (ByteArray.mk #[])))=false:=rfl;apply Exists.intro;apply And.intro
 rotate_left
 ·refine (Rq 2000 (d+5) 1 b.length (Ah .u8 b) A2a false Cy).trans ?_
  try unfold Aa
  repeat first
   |((with_reducible first|apply At|apply Aj|apply As|apply Ax|apply Az|apply Bb|apply Ai);· first|with_reducible rfl|(simp (disch:=omega) only [ty,zt,po,e00,s2,ByteArray.size_append,A13,Iw,Y6,Nat.reduceAdd,ze,Bs,B4]<;>with_reducible rfl))
   |((with_reducible first|apply Ar|apply Au);· first|with_reducible rfl|omega|(simp (disch:=omega) only [gT,ty,zt,po,e00,s2,ByteArray.size_append,A13,Iw,Y6,Nat.reduceAdd,ze,Bs,B4]<;>omega))
   |(with_reducible apply Aw;· first|with_reducible rfl|(simp (disch:=omega) only [gF,ty,zt,po,e00,s2,ByteArray.size_append,A13,Iw,Y6,Nat.reduceAdd,ze,Bs,B4]<;>omega))
  try simp (disch:=omega) only [ty,zt,po,e00,s2,ByteArray.size_append,A13,Iw,Y6,Nat.reduceAdd,ze,Bs,B4]
  all_goals rfl
 ·simp only [ByteArray.size_append,A13,Iw,Y6,Nat.reduceAdd];omega
end
end
section
set_option maxRecDepth 1000000
abbrev A4z:ByteArray:=⟨#[(98:UInt8),(97:UInt8),(116:UInt8),(99:UInt8),(104:UInt8)]⟩
abbrev Nv:ByteArray:=⟨#[(114:UInt8),(111:UInt8),(111:UInt8),(116:UInt8)]⟩
def Mp:Ce:=⟨A4z,Nv,1,Eo 33 4,0,900,false,0,3,⟨0,[],[]⟩⟩
theorem Ake:Bf Mp=0:=by
 unfold Bf;have h1:Mp.subj.size=5:=rfl;have h2:Mp.iss.size=4:=rfl;have h3:okS Mp.subj=true:=by decide
 have h4:okS Mp.iss=true:=by decide
 have h5:Dd Mp.key.h=false:=Anx 33 4;have h6:Mp.fr=0:=rfl;have h7:Mp.un=900:=rfl;have h8:Mp.path=0:=rfl;rw [h1,h2,h3,h4,h5,h6,h7,h8];simp
theorem Av5:∃s,Al7 32 1 0 (Q0 Mp)=some s∧s.ok∧s.leaf=0∧s.chains.length=18∧(s.path.length:Int)=1∧L8 (Eo 32 1) (Q0 Mp) s=0:=Ap0 (by decide) (by decide)
noncomputable def Ald:Sg:=Classical.choose Av5
theorem Y5:Al7 32 1 0 (Q0 Mp)=some Ald∧Ald.ok∧Ald.leaf=0∧Ald.chains.length=18∧(Ald.path.length:Int)=1∧L8 (Eo 32 1) (Q0 Mp) Ald=0:=Classical.choose_spec Av5
noncomputable def cB:Ce:={ Mp with sig:=Ald }
theorem Awh:cB.ok:=⟨by decide,by decide,An1 33 4,Y5.2.1⟩
theorem Apj:Bf cB=0:=Ake
theorem Apo:Dp cB=0:=by
 obtain ⟨_,_,h3,h4,h5,_⟩:=Y5;unfold Dp;rw [Apj,Bm rfl];show Aev Ald=0;unfold Aev;rw [h5,h3,A0 (by decide),A0 (by decide),A0 (by omega)]
theorem A2u:cB.in_:=⟨Awh.wf,by show A4z.size<=_;decide,by show Nv.size<=_;decide⟩
noncomputable def H6:List Int:=El cB
theorem Arr:Hf H6:=At2 Awh.wf Apo
theorem Akk:H6.length<=400:=Adk Apo
theorem Yk:Ku H6=(cB,0):=Aiy Awh Apo
section
variable {fu d:Nat}
theorem A25 (hfu:1000<=fu):Ae C0 Tryz.prog fu (d+14) O9 []=some ⟨[.own 1 1 [Vf H6]],[]⟩:=by
 rw [Zw];have k:=Ao1 (fu:=fu) (d:=d) hfu 33 4;have sg:=Ayn (fu:=fu) (d:=d) (c:=Mp) hfu ⟨by decide,by decide⟩ (by decide) (by decide) 32 1 0
 have es:Arc Mp 32 1 0=(cB,0):=by
  unfold Arc;rw [Bm Ake,Y5.1];rfl
 rw [es] at sg;have en:=Avr (fu:=fu) (d:=d+7) (c:=cB) hfu Awh.wf (by show A4z.size<=_;decide) (by show Nv.size<=_;decide) (by have:=Y5.2.2.2.2.1;show Ald.path.length<=_;omega)
 unfold Abp at en;rw [Apo,Bm rfl] at en;have L:=Al .u8 (El cB);have t:=Gs .u8 (El cB);show _=some (Ay.mk [.own 1 1 [Vf (El cB)]] []);have c0:Mp.cells=[.sc (.string A4z),.sc (.string Nv),.sc (.int .u64 1),.sc (.int .i64 (Eo 33 4).h),.sc (.int .u64 (Eo 33 4).root),.sc (.int .i64 0),.sc (.int .i64 900),.sc (.bool false),.sc (.int .i64 0),.sc (.int .u64 3),.sc (.int .i64 0),.lst false 1 0 [],.lst false 1 0 []]:=rfl;rw [c0] at sg;simp only [Ce.cells,Ky.cells] at k sg en;generalize El cB=E at *
 generalize cB=C at *
 generalize Eo 33 4=K at *
 try unfold Aa
 repeat first
  |((with_reducible first|apply At|apply Aj|apply As|apply Ax|apply Az|apply A5|apply Cm|apply Bb|apply Ai);· first|with_reducible rfl|(simp (disch:=omega) only [k,sg,en,Cf,Bw,Bj,L,t]<;>with_reducible rfl))
  |((with_reducible first|apply Ar|apply Au);· first|with_reducible rfl|omega|(simp (disch:=omega) only [gT,k,sg,en,Cf,Bw,Bj,L,t]<;>omega))
  |(with_reducible apply Aw;· first|with_reducible rfl|(simp (disch:=omega) only [gF,k,sg,en,Cf,Bw,Bj,L,t]<;>omega))
 try simp (disch:=omega) only [k,sg,en,Cf,Bw,Bj,L,t]
 all_goals rfl
structure Ahd (sd hh fm lf:Int) (r:Rp) (a:Ad):Prop where
 ok:r.ok
 good:a.good
 ad:r.ad=Wv a
 cd:r.cd.size<=600
 fmt:r.fmt=fm
 key:a.key=Eo sd hh
 model:a.model=3
 sgl:r.sg.length<=300
 cl:r.certs.length<=1
 cb:∀b∈r.certs,b.length<=400
 kind:r.kind=1
 idB:Hf r.id_
 idl:r.id_.length=176
 user:r.user=Cy
 f0:fm=0->r.sg=[]∧r.certs=[]
 f1:fm=1->r.certs=[]∧∃s,r.sg=Ly s∧sgD r.sg=some s∧s.leaf=0∧L8 (Eo sd hh) (Qo r.ad (D8 11 (Bv r.cd))) s=0
 f2:fm=2->r.certs=[H6]∧∃s,r.sg=Ly s∧sgD r.sg=some s∧s.leaf=lf∧L8 (Eo 33 4) (Qo r.ad (D8 11 (Bv r.cd))) s=0
theorem Ast {s:Sg}(hs:s.ok)(h1:Dd s.path.length=false)(h2:F4 s.leaf s.path.length=false)(h3:s.chains.length=18):Hf (Ly s)∧(Ly s).length<=300∧sgD (Ly s)=some s:=by
 have hb:=Ga h1;refine ⟨A59 s,?_,Ave hs h1 h2 h3⟩;rw [A3w];omega
theorem A9g {seed h:Int}(hh:Dd h=false)(ho:F4 0 h=false){id_ ch:List Int}(hib:Hf id_)(hil:id_.length=176)(hcl:ch.length=16)(sh vf:Bool){fmt leaf:Int}(hf:fmt=0∨fmt=1∨fmt=2)(l0:0<=leaf)(l1:leaf<=15):
  ∃r a,Ahd seed h fmt leaf r a∧Ae C0 Tryz.prog 2000 (d+15) Id [.agg [.sc (.int .u64 seed),.sc (.int .i64 h),Vf id_,.sc (.bool sh)],.sc (.string Anb),.sc (.string A2a),.lst false 1 16 (Ah .u8 ch),.sc (.int .i64 fmt),.sc (.bool vf),.sc (.int .i64 leaf)]=some ⟨[.agg r.cells],[]⟩:=by
 obtain ⟨t,t1,t2⟩:=Aww (d:=d+8) (b:=ch) (by omega) (by omega)
 rw [hcl] at t2;have rp:=Axx (fu:=2000) (d:=d+9) (s:=Anb) (by decide) (by omega)
 have hd:=Aga (fu:=2000) (d:=d+9) (s:=t) (by omega) (by omega)
 have fl:=Azl (fu:=2000) (d:=d+13) seed h id_ sh vf;have ky:=Ao1 (fu:=2000) (d:=d+1) (by omega) seed h
 rw [hil] at fl
 have fe:Y9 .i64 (Af3 sh vf) 64=77∨Y9 .i64 (Af3 sh vf) 64=69∨Y9 .i64 (Af3 sh vf) 64=73∨Y9 .i64 (Af3 sh vf) 64=65:=by
  cases sh<;>cases vf
  ·exact .inr (.inr (.inr (by decide)))
  ·exact .inr (.inl (by decide))
  ·exact .inr (.inr (.inl (by decide)))
  ·exact .inl (by decide)
 obtain ⟨F,hF⟩:∃F,Y9 .i64 (Af3 sh vf) 64=F:=⟨_,rfl⟩;rw [hF] at fe;obtain ⟨P,hP⟩:∃P,D8 9 (Bv Anb)=P:=⟨_,rfl⟩;have hPU:=Ah0 9 (Bv Anb);rw [hP] at rp hPU;have hKr:=An1 seed h;have hKh:=Anx seed h;have good:∀cnt:Int,cnt=0∨cnt=1->(Ad.mk P F cnt 0 3 id_ (Eo seed h)).good:=fun cnt hc=>⟨hPU,fe,hc,rfl,(⟨by decide,by decide⟩:isU 3),hib,hil,hKh,hKr⟩
 have enc:=fun (cnt:Int) (hc:cnt=0∨cnt=1)=>Atr (fu:=2000) (d:=d+10) (by omega) (good cnt hc)
 have LA:=fun (cnt:Int) (hc:cnt=0∨cnt=1)=>Av3 (good cnt hc)
 have BA:=fun (cnt:Int) (hc:cnt=0∨cnt=1)=>A6b (good cnt hc)
 have msg:=fun (cnt:Int) (hc:cnt=0∨cnt=1)=>Akh (fu:=2000) (d:=d+9) (BA cnt hc) (by rw [LA cnt hc];omega) (by omega) (D8 11 (Bv t))
 simp only [Ad.cells,Vf,Ky.cells] at enc ky fl;simp only [hil] at enc;have s9:(9:Int)=9:=rfl;have oA:=fun (fm:Int) (cnt:Int) (hc:cnt=0∨cnt=1)=>(Pm 2000 (d+14) seed h id_.length (Ah .u8 id_) sh Anb A2a 16 (Ah .u8 ch) fm vf leaf)
 simp only [hil] at oA;rcases hf with rfl|rfl|rfl
 ·refine ⟨⟨1,t,Wv ⟨P,F,0,0,3,id_,Eo seed h⟩,[],[],0,id_,Cy⟩,⟨P,F,0,0,3,id_,Eo seed h⟩,⟨⟨(by intro x hx;cases hx),(by simp),(by intro b hb;cases hb)⟩,good 0 (.inl rfl),rfl,(by simp only;omega),rfl,rfl,rfl,(by simp),(by simp),(by intro b hb;cases hb),rfl,hib,hil,rfl,(fun _=>⟨rfl,rfl⟩),(fun hx=>by omega),(fun hx=>by omega)⟩,?_⟩
  have en:=enc 0 (.inl rfl);have ms:=msg 0 (.inl rfl);rw [LA 0 (.inl rfl)] at ms;have L:=Al .u8 (Wv ⟨P,F,0,0,3,id_,Eo seed h⟩);have tk:=Gs .u8 (Wv ⟨P,F,0,0,3,id_,Eo seed h⟩);rw [LA 0 (.inl rfl)] at L tk;simp only [Rp.cells,Vf,LA 0 (.inl rfl),hil];refine (oA 0 0 (.inl rfl)).trans ?_;generalize Wv ⟨P,F,0,0,3,id_,Eo seed h⟩=A at *
  generalize Eo seed h=K at *
  try unfold Aa
  repeat first
   |((with_reducible first|apply At|apply Aj|apply As|apply Ax|apply Az|apply A5|apply Cm|apply Bb|apply Ai);· first|with_reducible rfl|(simp (disch:=omega) only [t2,rp,fl,hF,ky,Int.reduceBEq,en,hd,Cf,Bw,Bj,Nat.reduceMul,L,tk,ms]<;>with_reducible rfl))
   |((with_reducible first|apply Ar|apply Au);· first|with_reducible rfl|omega|(simp (disch:=omega) only [gT,t2,rp,fl,hF,ky,Int.reduceBEq,en,hd,Cf,Bw,Bj,Nat.reduceMul,L,tk,ms]<;>omega))
   |(with_reducible apply Aw;· first|with_reducible rfl|(simp (disch:=omega) only [gF,t2,rp,fl,hF,ky,Int.reduceBEq,en,hd,Cf,Bw,Bj,Nat.reduceMul,L,tk,ms]<;>omega))
  try simp (disch:=omega) only [t2,rp,fl,hF,ky,Int.reduceBEq,en,hd,Cf,Bw,Bj,Nat.reduceMul,L,tk,ms]
  all_goals rfl
 ·obtain ⟨s,s1,s2,s3,s4,s5,s6⟩:=Ap0 (seed:=seed) (h:=h) (leaf:=0) (m:=Qo (Wv ⟨P,F,1,0,3,id_,Eo seed h⟩) (D8 11 (Bv t))) hh ho;have p1:Dd s.path.length=false:=by rw [s5];exact hh
  have p2:F4 s.leaf s.path.length=false:=by rw [s5,s3];exact ho
  obtain ⟨g1,g2,g3⟩:=Ast s2 p1 p2 s4;refine ⟨⟨1,t,Wv ⟨P,F,1,0,3,id_,Eo seed h⟩,Ly s,[],1,id_,Cy⟩,⟨P,F,1,0,3,id_,Eo seed h⟩,⟨⟨g1,(by simp only;omega),(by intro b hb;cases hb)⟩,good 1 (.inr rfl),rfl,(by simp only;omega),rfl,rfl,rfl,g2,(by simp),(by intro b hb;cases hb),rfl,hib,hil,rfl,(fun hx=>by omega),(fun _=>⟨rfl,s,rfl,g3,s3,s6⟩),(fun hx=>by omega)⟩,?_⟩
  have en:=enc 1 (.inr rfl);have ms:=msg 1 (.inr rfl);rw [LA 1 (.inr rfl)] at ms;have L:=Al .u8 (Wv ⟨P,F,1,0,3,id_,Eo seed h⟩);have tk:=Gs .u8 (Wv ⟨P,F,1,0,3,id_,Eo seed h⟩);rw [LA 1 (.inr rfl)] at L tk;have sg:=Akj (fu:=2000) (d:=d+2) (by omega) seed h 0 (Qo (Wv ⟨P,F,1,0,3,id_,Eo seed h⟩) (D8 11 (Bv t)))
  rw [s1] at sg;simp only [Ac1,Sg.owned] at sg;have es:=Abn (fu:=2000) (d:=d+12) (by omega) s (by have:=Ga p1;omega)
  rw [p1,p2,s4,A0 (by simp),A0 (by simp),A0 (by simp)] at es
  simp only [Sg.cells,s4] at es sg;have L1:=Al .u64 s.chains;have L2:=Al .u64 s.path;have t1':=Gs .u64 s.chains;have t2':=Gs .u64 s.path;rw [s4] at L1 t1';have L3:=Al .u8 (Ly s);have t3:=Gs .u8 (Ly s);simp only [Rp.cells,Vf,LA 1 (.inr rfl),hil];refine (oA 1 1 (.inr rfl)).trans ?_;clear g1 g2 g3 s6 s1;generalize Qo (Wv ⟨P,F,1,0,3,id_,Eo seed h⟩) (D8 11 (Bv t))=M at *
  generalize Wv ⟨P,F,1,0,3,id_,Eo seed h⟩=A at *
  generalize Eo seed h=K at *
  generalize Ly s=G at *
  try unfold Aa
  repeat first
   |((with_reducible first|apply At|apply Aj|apply As|apply Ax|apply Az|apply A5|apply Cm|apply Bb|apply Ai);· first|with_reducible rfl|(simp (disch:=omega) only [t2,rp,fl,hF,ky,Int.reduceBEq,en,hd,Cf,Bw,Bj,Nat.reduceMul,L,tk,ms,sg,L1,L2,t1',t2',es,L3,t3]<;>with_reducible rfl))
   |((with_reducible first|apply Ar|apply Au);· first|with_reducible rfl|omega|(simp (disch:=omega) only [gT,t2,rp,fl,hF,ky,Int.reduceBEq,en,hd,Cf,Bw,Bj,Nat.reduceMul,L,tk,ms,sg,L1,L2,t1',t2',es,L3,t3]<;>omega))
   |(with_reducible apply Aw;· first|with_reducible rfl|(simp (disch:=omega) only [gF,t2,rp,fl,hF,ky,Int.reduceBEq,en,hd,Cf,Bw,Bj,Nat.reduceMul,L,tk,ms,sg,L1,L2,t1',t2',es,L3,t3]<;>omega))
  try simp (disch:=omega) only [t2,rp,fl,hF,ky,Int.reduceBEq,en,hd,Cf,Bw,Bj,Nat.reduceMul,L,tk,ms,sg,L1,L2,t1',t2',es,L3,t3]
  all_goals rfl
 ·have ho4:F4 leaf 4=false:=by
   unfold F4;have:Fb .i64 1 4=16:=by decide
   rw [this];simp;omega
  obtain ⟨s,s1,s2,s3,s4,s5,s6⟩:=Ap0 (seed:=33) (h:=4) (leaf:=leaf) (m:=Qo (Wv ⟨P,F,0,0,3,id_,Eo seed h⟩) (D8 11 (Bv t))) (by decide) ho4
  have p1:Dd s.path.length=false:=by rw [s5];decide
  have p2:F4 s.leaf s.path.length=false:=by rw [s5,s3];exact ho4
  obtain ⟨g1,g2,g3⟩:=Ast s2 p1 p2 s4;have clen:=Akk;refine ⟨⟨1,t,Wv ⟨P,F,0,0,3,id_,Eo seed h⟩,Ly s,[H6],2,id_,Cy⟩,⟨P,F,0,0,3,id_,Eo seed h⟩,⟨⟨g1,(by simp only;omega),(by intro b hb;simp at hb;subst hb;exact ⟨Arr,by omega⟩)⟩,good 0 (.inl rfl),rfl,(by simp only;omega),rfl,rfl,rfl,g2,(by simp),(by intro b hb;simp at hb;subst hb;exact clen),rfl,hib,hil,rfl,(fun hx=>by omega),(fun hx=>by omega),(fun _=>⟨rfl,s,rfl,g3,s3,s6⟩)⟩,?_⟩
  have en:=enc 0 (.inl rfl);have ms:=msg 0 (.inl rfl);rw [LA 0 (.inl rfl)] at ms;have L:=Al .u8 (Wv ⟨P,F,0,0,3,id_,Eo seed h⟩);have tk:=Gs .u8 (Wv ⟨P,F,0,0,3,id_,Eo seed h⟩);rw [LA 0 (.inl rfl)] at L tk;have sg:=Akj (fu:=2000) (d:=d+2) (by omega) 33 4 leaf (Qo (Wv ⟨P,F,0,0,3,id_,Eo seed h⟩) (D8 11 (Bv t)))
  rw [s1] at sg;simp only [Ac1,Sg.owned] at sg;have es:=Abn (fu:=2000) (d:=d+12) (by omega) s (by have:=Ga p1;omega)
  rw [p1,p2,s4,A0 (by simp),A0 (by simp),A0 (by simp)] at es
  simp only [Sg.cells,s4] at es sg;have L1:=Al .u64 s.chains;have L2:=Al .u64 s.path;have t1':=Gs .u64 s.chains;have t2':=Gs .u64 s.path;rw [s4] at L1 t1';have L3:=Al .u8 (Ly s);have t3:=Gs .u8 (Ly s);have ch':=A25 (fu:=2000) (d:=d) (by omega)
  have eb:Ag8 [H6]=[Vf H6]:=rfl;simp only [Rp.cells,LA 0 (.inl rfl),hil,eb];simp only [Vf,LA 0 (.inl rfl),hil];refine (oA 2 0 (.inl rfl)).trans ?_;clear g1 g2 g3 s6 s1;generalize Qo (Wv ⟨P,F,0,0,3,id_,Eo seed h⟩) (D8 11 (Bv t))=M at *
  generalize Wv ⟨P,F,0,0,3,id_,Eo seed h⟩=A at *
  generalize Eo seed h=K at *
  generalize Ly s=G at *
  generalize H6=CB at *
  have tc:List.take 1 [PV.lst false 1 CB.length (Ah .u8 CB)]=[PV.lst false 1 CB.length (Ah .u8 CB)]:=rfl;have lc:[PV.lst false 1 CB.length (Ah .u8 CB)].length=1:=rfl
  try unfold Aa
  repeat first
   |((with_reducible first|apply At|apply Aj|apply As|apply Ax|apply Az|apply A5|apply Cm|apply Bb|apply Ai);· first|with_reducible rfl|(simp (disch:=omega) only [t2,rp,fl,hF,ky,Int.reduceBEq,en,hd,Cf,Bw,Bj,Nat.reduceMul,L,tk,ms,sg,L1,L2,t1',t2',es,L3,t3,ch',lc,tc]<;>with_reducible rfl))
   |((with_reducible first|apply Ar|apply Au);· first|with_reducible rfl|omega|(simp (disch:=omega) only [gT,t2,rp,fl,hF,ky,Int.reduceBEq,en,hd,Cf,Bw,Bj,Nat.reduceMul,L,tk,ms,sg,L1,L2,t1',t2',es,L3,t3,ch',lc,tc]<;>omega))
   |(with_reducible apply Aw;· first|with_reducible rfl|(simp (disch:=omega) only [gF,t2,rp,fl,hF,ky,Int.reduceBEq,en,hd,Cf,Bw,Bj,Nat.reduceMul,L,tk,ms,sg,L1,L2,t1',t2',es,L3,t3,ch',lc,tc]<;>omega))
  try simp (disch:=omega) only [t2,rp,fl,hF,ky,Int.reduceBEq,en,hd,Cf,Bw,Bj,Nat.reduceMul,L,tk,ms,sg,L1,L2,t1',t2',es,L3,t3,ch',lc,tc]
  all_goals rfl
end
end
section
set_option maxRecDepth 1000000
theorem A78:Of 9 0=13207923356878440101:=by kernel_rfl
theorem A7g:Of 9 1=15907844771915319014:=by kernel_rfl
theorem A5h:Of 32 0=10501167752601797684:=by kernel_rfl
theorem A39:Of 32 1=17170201293266426176:=by kernel_rfl
theorem A4d:(Eo 9 1).root≠(Eo 32 1).root:=by
 have h:Dd 1=false:=by decide
 have e:∀s:Int,(Eo s 1).root=M3 1 (Of s 0) (Of s 1):=by
  intro s;unfold Eo;rw [A0 (by simp [h])]
  rfl
 rw [e,e,A78,A7g,A5h,A39];exact of_decide_eq_true (by kernel_rfl)
end
section
set_option maxRecDepth 1000000
theorem A1s {k:Ky}{m:Int}{s:Sg}(h:L8 k m s=0):Vg s.leaf 0 (Alv s.leaf m s.chains) s.path=k.root:=by
 unfold L8 at h
 repeat' (split at h;· cases h)
 unfold okE at h;split at h
 ·assumption
 ·cases h
theorem A1q {k k':Ky}{m:Int}{s:Sg}(h:L8 k m s=0)(h':L8 k' m s=0):k.root=k'.root:=by rw [←A1s h,←A1s h']
noncomputable def En:List An:=[⟨Nv,Eo 9 1⟩,⟨Nv,Eo 32 1⟩]
theorem Awo (k:Ky):Ok cB k=L8 k (Q0 Mp) Ald:=by
 unfold Ok;rw [Apj,Bm rfl];rfl
theorem Axg:Ok cB (Eo 32 1)=0:=by rw [Awo];exact Y5.2.2.2.2.2
theorem A1g:Ok cB (Eo 9 1)≠0:=by
 intro h;rw [Awo] at h;exact A4d (A1q h Y5.2.2.2.2.2)
theorem Adb:Rf cB 0 En=1:=by
 unfold En;rw [Rf,A0 (fun h=>A1g h.2),Rf,Bm ⟨by decide,Axg⟩]
 rfl
theorem Azs (vs:List Rv)(now:Int):P6 cB 0 vs now=if now<0 then 38 else if now>900 then 38 else Aow cB now vs:=by
 unfold P6;rw [Apj];rfl
theorem Acq (ans:List An)(now:Int)(h0:0<=now)(h1:now<=1099511627776):Ry [cB] ans [] now=if now<=900 then Aqk cB ans else (0,38):=by
 unfold Ry;rw [A0 (by omega),A0 (by omega),A0 (by simp),A0 (by simp)]
 unfold Ain;have lk:P6 cB ((0:Nat):Int) [] now=if now<0 then 38 else if now>900 then 38 else Aow cB now []:=Azs [] now
 have n0:¬(now<0):=by omega
 rw [lk,A0 n0];by_cases h:now<=900
 ·have h9:¬(now>900):=by omega
  have r0:Aow cB now []=0:=rfl;rw [A0 h9,Bm h,r0,A0 (by simp)]
 ·have h9:now>900:=by omega
  rw [Bm h9,A0 h,Bm (by simp)]
theorem Aoz {sd hh lf:Int}{r:Rp}{a:Ad}(h:Ahd sd hh 2 lf r a)(hf:E9 .i64 a.flags 64≠0)(ans:List An)(now:Int):Ab1 r a (Qo r.ad (D8 11 (Bv r.cd))) ans [] now=if (Ry [cB] ans [] now).2≠0 then avE (Ry [cB] ans [] now).2 else ⟨2,(Ry [cB] ans [] now).1,-1,0⟩:=by
 obtain ⟨hc,s,s1,s2,s3,s4⟩:=h.f2 rfl;unfold Ab1;rw [A0 hf,h.fmt,A0 (by omega),A0 (by omega),Bm rfl]
 unfold Aje;rw [hc]
 have ed:Dq [H6]=([cB],0):=by
  rw [Dq,Yk,A0 (by simp),Dq,A0 (by simp)]
 rw [ed,A0 (by simp),A0 (by simp),A0 (by simp)]
 simp only;rw [Aaf,A0 (by show ¬(false=true);simp),A0 (by show ¬((3:Int)=0);omega),A0 (by rw [h.model];show ¬((3:Int)≠3);simp),s2]
 simp only;have e:L8 cB.key (Qo r.ad (D8 11 (Bv r.cd))) s=0:=s4;rw [e,A0 (by simp)]
theorem Mx {a:Ad}(h:a.good):E9 .i64 a.flags 64≠0:=by rcases h.flags with e|e|e|e<;>rw [e]<;>decide
theorem A8b {sd hh lf:Int}{r:Rp}{a:Ad}(h:Ahd sd hh 1 lf r a)(ans:List An)(vs:List Rv)(now:Int):Ab1 r a (Qo r.ad (D8 11 (Bv r.cd))) ans vs now=⟨1,-1,0,0⟩:=by
 obtain ⟨hc,s,s1,s2,s3,s4⟩:=h.f1 rfl;unfold Ab1;rw [A0 (Mx h.good),h.fmt,A0 (by omega),Bm rfl]
 unfold Avk;rw [hc,A0 (by simp),s2]
 simp only;rw [h.key,s4,A0 (by simp),s3]
theorem A69 {sd hh lf:Int}{r:Rp}{a:Ad}(h:Ahd sd hh 0 lf r a)(w:Int)(ans:List An)(vs:List Rv)(now:Int):Ab1 r a w ans vs now=⟨0,-1,-1,0⟩:=by
 obtain ⟨h1,h2⟩:=h.f0 rfl;unfold Ab1;rw [A0 (Mx h.good),h.fmt,Bm rfl,h1,h2,A0 (by simp),A0 (by simp)]
theorem Awn {sd hh lf:Int}{r:Rp}{a:Ad}(h:Ahd sd hh 2 lf r a):Ab1 r a (Qo r.ad (D8 11 (Bv r.cd))) En [] 5=⟨2,1,-1,0⟩:=by
 have e:Ry [cB] En [] 5=(1,0):=by
  rw [Acq _ _ (by omega) (by omega),Bm (by omega)]
  unfold Aqk;rw [Adb];rfl
 rw [Aoz h (Mx h.good),e,A0 (by simp)]
section
variable {d:Nat}
theorem Aik:Ae C0 Tryz.prog 2000 (d+14) Lg []=some ⟨[.own 3 2 (Ic En)],[]⟩:=by
 rw [U5];have k1:=Ao1 (fu:=2000) (d:=d) (by omega) 9 1
 have k2:=Ao1 (fu:=2000) (d:=d) (by omega) 32 1
 show _=some (Ay.mk [.own 3 2 [.sc (.string Nv),.sc (.int .i64 (Eo 9 1).h),.sc (.int .u64 (Eo 9 1).root),.sc (.string Nv),.sc (.int .i64 (Eo 32 1).h),.sc (.int .u64 (Eo 32 1).root)]] []);simp only [Ky.cells] at k1 k2;generalize Eo 9 1=K1 at *
 generalize Eo 32 1=K2 at *
 try unfold Aa
 repeat first
  |((with_reducible first|apply At|apply Aj|apply As|apply Ax|apply Az|apply A5|apply Cm|apply Bb|apply Ai);· first|with_reducible rfl|(simp (disch:=omega) only [k1,k2]<;>with_reducible rfl))
  |((with_reducible first|apply Ar|apply Au);· first|with_reducible rfl|omega|(simp (disch:=omega) only [gT,k1,k2]<;>omega))
  |(with_reducible apply Aw;· first|with_reducible rfl|(simp (disch:=omega) only [gF,k1,k2]<;>omega))
 try simp (disch:=omega) only [k1,k2]
 all_goals rfl
theorem Af9:(Ic En).length=6:=rfl
theorem Add:List.take 6 (Ic En)=Ic En:=rfl
theorem Awb (n:Int){h:Int}(hh:Dd h=false)(ho:F4 0 h=false){fmt leaf:Int}(hf:fmt=0∨fmt=1∨fmt=2)(l0:0<=leaf)(l1:leaf<=15):
  ∃sd r a,Ahd sd h fmt leaf r a∧Ae C0 Tryz.prog 2000 (d+16) Oz [.sc (.int .i64 n),.sc (.int .i64 h),.sc (.int .i64 fmt),.sc (.int .i64 leaf)]=some ⟨[.agg r.cells,.agg a.cells,.sc (.int .u64 (Qo r.ad (D8 11 (Bv r.cd))))],[]⟩:=by
 obtain ⟨m,m0,m1,m2⟩:=Az0 n 50 (by omega) (by omega)
 obtain ⟨id_,i1,i2,i3⟩:=A38 (fu:=2000) (d:=d+8) (by omega) (n:=m) m0 (by omega) h (E9 .i64 n 64==64)
 obtain ⟨ch,c1,c2,c3⟩:=Asu (fu:=2000) (d:=d+9) (by omega) (E9 .i64 n 7) (n:=16) (by omega)
 obtain ⟨r,a,M,R⟩:=A9g (d:=d) (seed:=1000+m) hh ho i1 i2 c2 (E9 .i64 n 64==64) (E9 .i64 n 128==128) hf l0 l1;refine ⟨1000+m,r,a,M,?_⟩;have dd:=Atx (fu:=2000) (d:=d+11) (by omega) M.good
 rw [←M.ad] at dd;have al:r.ad.length=204:=by rw [M.ad,Av3 M.good]
 have hd:=Aga (fu:=2000) (d:=d+10) (s:=r.cd) (by have:=M.cd;omega) (by omega)
 have ms:=Akh (fu:=2000) (d:=d+10) (b:=r.ad) (by rw [M.ad];exact A6b M.good) (by omega) (by omega) (D8 11 (Bv r.cd))
 rw [al] at ms;have c3':Ae C0 Tryz.prog 2000 (d+15) Gu [.sc (.int .i64 (E9 .i64 n 7)),.sc (.int .i64 16)]=some ⟨[.own 1 16 (Ah .u8 ch)],[]⟩:=c3;have L1:=Al .u8 id_;have t1:=Gs .u8 id_;have L2:=Al .u8 ch;have t2:=Gs .u8 ch;rw [i2] at L1 t1;rw [c2] at L2 t2;simp only [Rp.cells,Ad.cells,Vf,i2,al] at R dd ⊢;rw [Zx];generalize Qo r.ad (D8 11 (Bv r.cd))=W at *
 try unfold Aa
 repeat first
  |((with_reducible first|apply At|apply Aj|apply As|apply Ax|apply Az|apply A5|apply Cm|apply Bb|apply Ai);· first|with_reducible rfl|(simp (disch:=omega) only [m2,i3,c3',Cf,Bw,Bj,L1,t1,L2,t2,R,dd,hd,ms]<;>with_reducible rfl))
  |((with_reducible first|apply Ar|apply Au);· first|with_reducible rfl|omega|(simp (disch:=omega) only [gT,m2,i3,c3',Cf,Bw,Bj,L1,t1,L2,t2,R,dd,hd,ms]<;>omega))
  |(with_reducible apply Aw;· first|with_reducible rfl|(simp (disch:=omega) only [gF,m2,i3,c3',Cf,Bw,Bj,L1,t1,L2,t2,R,dd,hd,ms]<;>omega))
 try simp (disch:=omega) only [m2,i3,c3',Cf,Bw,Bj,L1,t1,L2,t2,R,dd,hd,ms]
 all_goals rfl
theorem Ajx {call:Am}{nn:Nat}{f:Int}(h:f>2):Cl 2000 call (nn+1) f=some ⟨[.sc (.bool true)],[]⟩:=by
 rw [J8,Dw _ _ _ (by omega)]
theorem Azz:Ae C0 Tryz.prog 2000 (d+17) Ni []=some ⟨[.sc (.bool true)],[]⟩:=by
 rw [Xq];have an:=Aik (d:=d+2);have l2:En.length=2:=rfl;have L:=Af9;have t:=Add;have w0:IntKind.wrap .i64 ((0:Int)+1)=1:=by decide
 have w1:IntKind.wrap .i64 ((1:Int)+1)=2:=by decide
 have w2:IntKind.wrap .i64 ((2:Int)+1)=3:=by decide
 have st:∀(f:Int) (nn:Nat),f=0∨f=1∨f=2->Cl 2000 (Ae C0 Tryz.prog 2000 (d+16)) (nn+1) f=Cl 2000 (Ae C0 Tryz.prog 2000 (d+16)) nn (f+1):=by
  intro f nn hf;obtain ⟨sd,r,a,M,R⟩:=Awb (d:=d) 1 (h:=1) (by decide) (by decide) (leaf:=0) hf (by omega) (by omega)
  have p:=Ade (fu:=2000) (d:=d+4) (by omega) M.ok a (Qo r.ad (D8 11 (Bv r.cd))) (ans:=En) (by rw [l2];omega) (vs:=[]) (by simp) 5
  have ez:Kd []=[]:=rfl;rw [l2] at p;simp only [Rp.cells,Ad.cells,Vf,Av.vals,ez,Y6] at p R
  have av:∃x y:Int,Ab1 r a (Qo r.ad (D8 11 (Bv r.cd))) En [] 5=⟨f,x,y,0⟩∧x=(if f=2 then 1 else -1)∧y=(if f=1 then 0 else -1):=by
   rcases hf with rfl|rfl|rfl
   ·exact ⟨_,_,A69 M _ _ _ _,rfl,rfl⟩
   ·exact ⟨_,_,A8b M _ _ _,rfl,rfl⟩
   ·exact ⟨_,_,Awn M,rfl,rfl⟩
  obtain ⟨x,y,e1,e2,e3⟩:=av;rw [e1] at p;simp only at p;subst e2 e3;clear e1 M;generalize Qo r.ad (D8 11 (Bv r.cd))=W at *
  generalize Ic En=E at *
  rw [J8];rcases hf with rfl|rfl|rfl
  all_goals
   try unfold Aa
   repeat first
    |((with_reducible first|apply At|apply Aj|apply As|apply Ax|apply Az|apply A5|apply Cm|apply Bb|apply Ai);· first|with_reducible rfl|(simp (disch:=omega) only [R,an,Cf,Bw,Nat.reduceMul,L,t,p,Int.reduceBEq,w0,w1,w2,bne_self_eq_false,beq_self_eq_true,Zzm,Bool.and_true,Bs,Int.reduceEq,if_true,if_false]<;>with_reducible rfl))
    |((with_reducible first|apply Ar|apply Au);· first|with_reducible rfl|omega|(simp (disch:=omega) only [gT,R,an,Cf,Bw,Nat.reduceMul,L,t,p,Int.reduceBEq,w0,w1,w2,bne_self_eq_false,beq_self_eq_true,Zzm,Bool.and_true,Bs,Int.reduceEq,if_true,if_false]<;>omega))
    |(with_reducible apply Aw;· first|with_reducible rfl|(simp (disch:=omega) only [gF,R,an,Cf,Bw,Nat.reduceMul,L,t,p,Int.reduceBEq,w0,w1,w2,bne_self_eq_false,beq_self_eq_true,Zzm,Bool.and_true,Bs,Int.reduceEq,if_true,if_false]<;>omega))
   try simp (disch:=omega) only [R,an,Cf,Bw,Nat.reduceMul,L,t,p,Int.reduceBEq,w0,w1,w2,bne_self_eq_false,beq_self_eq_true,Zzm,Bool.and_true,Bs,Int.reduceEq,if_true,if_false]
  all_goals rfl
 show Cl 2000 (Ae C0 Tryz.prog 2000 (d+16)) (1996+1+1+1+1) 0=_;rw [st 0 _ (.inl rfl),st (0+1) _ (.inr (.inl rfl)),st (0+1+1) _ (.inr (.inr rfl))];exact Ajx (by omega)
end
end
section
theorem Af4 {d:Nat}{ps:List PV}(h:WT Tryz.prog d 31 ps):∃(v0:Int)(v1:Int),ps=[(.sc (.int .i64 v0)),(.sc (.int .u64 v1))]∧(Lit.int .i64 v0).wf=true∧(Lit.int .u64 v1).wf=true:=by
 obtain ⟨rs,rfl,h1⟩:=Ban (ts:=[3,23]) (by kernel_rfl) h
 obtain ⟨r0,_,rfl,g0,h1⟩:=h1.cons_inv;obtain ⟨r1,_,rfl,g1,h1⟩:=h1.cons_inv;obtain rfl:=h1.nil_inv;obtain ⟨v0,rfl,w0_0⟩:=Aur (k:=.i64) (by kernel_rfl) g0
 obtain ⟨v1,rfl,w1_0⟩:=Aur (k:=.u64) (by kernel_rfl) g1
 exact ⟨v0,v1,rfl,w0_0,w1_0⟩
end
section
set_option maxRecDepth 1000000
theorem A3r {p:PV}(h:WTv Tryz.prog 31 p):∃k:Ky,p=.agg k.cells∧isU k.root:=by
 obtain ⟨ps,rfl,k0⟩:=A4y (by kernel_rfl) h
 obtain ⟨v0,v1,rfl,e0,e1⟩:=Af4 k0;exact ⟨⟨v0,v1⟩,rfl,A8d e1⟩
theorem Rp.cells_len (r:Rp):r.cells.length=8:=rfl
end
section
set_option maxRecDepth 100000
abbrev Gm:FuncId:=6
theorem Ls (fu d:Nat)(a0 a1:Int)(a2 A20:Int)(A2k a4:Int):Ae C0 Tryz.prog fu (d+1) Gm [.sc (.int .i64 a0),.sc (.int .u8 a1),.sc (.int .u64 a2),.agg [.sc (.int .i64 A20),.sc (.int .u64 A2k)],.sc (.int .i64 a4)]=(fun (call:Am)=>Aa (Int.tmod a1 16) fun x1=>Aa (IntKind.wrap .i64 x1) fun x2=>Ag (call 8 [.sc (.int .i64 a0),.sc (.int .i64 1),.sc (.int .i64 2),.sc (.int .i64 x2)]) fun x3 x4=>Ac x4<|Ab x3 fun x5 x6=>Cu x5 fun x7=>Ab x7 fun x8 x9=>Af .i64 x8 fun Cd=>Ab x9 fun Bp C4=>Cn Bp fun Da=>Ab C4 fun Cq C9=>Ih 1 Cq fun Do Du D5=>Ab C9 fun D7 Eh=>Ih 1 D7 fun Fy Ci Fn=>Ab Eh fun Ds Bx=>Ih 1 Ds fun Fc Ft Bk=>Ab Bx fun Cg Hg=>Af .i64 Cg fun Gf=>Ab Hg fun Ie H0=>Ih 1 Ie fun Jn Gt Ix=>Ab H0 fun M5 F0=>Cn M5 fun H5=>Ac F0<|Ab x6 fun Rh R6=>Cu Rh fun L6=>Ab L6 fun Rl Pu=>Af .u64 Rl fun Lx=>Ab Pu fun Q6 Rj=>Af .i64 Q6 fun Oc=>Ab Rj fun Pw Sd=>Af .i64 Pw fun Pq=>Ab Sd fun Rx Lz=>Af .i64 Rx fun Py=>Ab Lz fun Rr Ts=>Af .u64 Rr fun Pi=>Ab Ts fun Q9 S5=>Ih 1 Q9 fun Uv Oe Ro=>Ab S5 fun V9 Uq=>Af .i64 V9 fun Q7=>Ab Uq fun S6 S1=>Af .u64 S6 fun Ty=>Ac S1<|Ab R6 fun Up Us=>Af .u64 Up fun Q8=>Ac Us<|Ag (call 11 [.sc (.int .i64 a4),.sc (.int .i64 1000)]) fun Ws Wj=>Ac Wj<|Ab Ws fun Ur V1=>Af .i64 Ur fun Wu=>Ac V1<|Ag (call 20 []) fun V7 Wt=>Ac Wt<|Ab V7 fun Za x80=>Dk 3 Za fun x81 x82=>Ac x80<|Aq (decide (0+x81*3<=List.length x82))<|Ag (call 14 [.agg [.sc (.int .i64 Cd),.sc (.string Da),.lst false 1 Du D5,.lst false 1 Ci Fn,.lst false 1 Ft Bk,.sc (.int .i64 Gf),.lst false 1 Gt Ix,.sc (.string H5)],.agg [.sc (.int .u64 Lx),.sc (.int .i64 Oc),.sc (.int .i64 Pq),.sc (.int .i64 Py),.sc (.int .u64 Pi),.lst false 1 Oe Ro,.sc (.int .i64 Q7),.sc (.int .u64 Ty)],.sc (.int .u64 Q8),.lst false 3 x81 (List.take (x81*3) (List.drop 0 x82)),.lst false 3 0 [],.sc (.int .i64 Wu)]) fun x83 Z9=>Ac Z9<|Ab x83 fun x85 x86=>Cu x85 fun x87=>Ab x87 fun Rm S9=>Af .i64 Rm fun Vx=>Ab S9 fun x91 x92=>Af .i64 x91 fun x93=>Ab x92 fun x94 x95=>Af .i64 x94 fun x96=>Ac x95<|Ab x86 fun x97 x98=>Af .i64 x97 fun x99=>Ac x98<|A4 (!(x99==0)==decide (Wu<=900)) (some (Ay.mk [.sc (.bool false)] [])) (A4 (x99==0) (A4 (x93 != 1) (some (Ay.mk [.sc (.bool false)] [])) (Ag (call 20 []) fun Tt Qd=>Ac Qd<|Ab Tt fun G5 Jm=>Dk 3 G5 fun S0 Pn=>Ac Jm<|Aq (decide (0+S0*3<=List.length Pn))<|Ag (call 14 [.agg [.sc (.int .i64 Cd),.sc (.string Da),.lst false 1 Du D5,.lst false 1 Ci Fn,.lst false 1 Ft Bk,.sc (.int .i64 Gf),.lst false 1 Gt Ix,.sc (.string H5)],.agg [.sc (.int .u64 Lx),.sc (.int .i64 Oc),.sc (.int .i64 Pq),.sc (.int .i64 Py),.sc (.int .u64 a2),.lst false 1 Oe Ro,.sc (.int .i64 Q7),.sc (.int .u64 Ty)],.sc (.int .u64 Q8),.lst false 3 S0 (List.take (S0*3) (List.drop 0 Pn)),.lst false 3 0 [],.sc (.int .i64 5)]) fun Oh Kl=>Ac Kl<|Ab Oh fun Wd Xr=>Cu Wd fun Vu=>Ab Vu fun Wo Ig=>Af .i64 Wo fun Km=>Ab Ig fun Abb Aa3=>Af .i64 Abb fun Om=>Ab Aa3 fun S2 Aba=>Af .i64 S2 fun Zm=>Ac Aba<|Ab Xr fun Abj Z7=>Af .i64 Abj fun Zp=>Ac Z7<|Ag (call 14 [.agg [.sc (.int .i64 Cd),.sc (.string Da),.lst false 1 Du D5,.lst false 1 Ci Fn,.lst false 1 Ft Bk,.sc (.int .i64 Gf),.lst false 1 Gt Ix,.sc (.string H5)],.agg [.sc (.int .u64 Lx),.sc (.int .i64 Oc),.sc (.int .i64 Pq),.sc (.int .i64 Py),.sc (.int .u64 a2),.lst false 1 Oe Ro,.sc (.int .i64 Q7),.sc (.int .u64 Ty)],.sc (.int .u64 Q8),.lst false 3 0 [],.lst false 3 0 [],.sc (.int .i64 5)]) fun Abu Aa8=>Ac Aa8<|Ab Abu fun Zk Rc=>Cu Zk fun Ut=>Ab Ut fun Acc Abk=>Af .i64 Acc fun Zl=>Ab Abk fun Afe Aaz=>Af .i64 Afe fun Ab3=>Ab Aaz fun Ac8 Ae6=>Af .i64 Ac8 fun Ahu=>Ac Ae6<|Ab Rc fun Ahf Aex=>Af .i64 Ahf fun Z2=>Ac Aex<|Ag (call 14 [.agg [.sc (.int .i64 Cd),.sc (.string Da),.lst false 1 Du D5,.lst false 1 Ci Fn,.lst false 1 Ft Bk,.sc (.int .i64 Gf),.lst false 1 Gt Ix,.sc (.string H5)],.agg [.sc (.int .u64 Lx),.sc (.int .i64 Oc),.sc (.int .i64 Pq),.sc (.int .i64 Py),.sc (.int .u64 a2),.lst false 1 Oe Ro,.sc (.int .i64 Q7),.sc (.int .u64 Ty)],.sc (.int .u64 Q8),.lst false 3 1 [.sc (.string (ByteArray.mk #[114,111,111,116])),.sc (.int .i64 A20),.sc (.int .u64 A2k)],.lst false 3 0 [],.sc (.int .i64 5)]) fun Ac6 Abx=>Ac Abx<|Ab Ac6 fun Adl Afa=>Cu Adl fun Abf=>Ab Abf fun Z6 Zt=>Af .i64 Z6 fun Ae1=>Ab Zt fun Aeu Alj=>Af .i64 Aeu fun Al4=>Ab Alj fun Aia Abh=>Af .i64 Aia fun Aha=>Ac Abh<|Ab Afa fun Aff Ahb=>Af .i64 Aff fun Ahk=>Ac Ahb<|A4 (a2 != 3) (A4 (Zp==38) (A4 (Z2==38) (A4 (Ahk==38) (Ag (call 13 []) fun Ahg Aht=>Ac Aht<|Ab Ahg fun Ag9 Ajy=>Bz Ag9 fun Aio=>Ac Ajy<|some (Ay.mk [.sc (.bool Aio)] [])) (some (Ay.mk [.sc (.bool false)] []))) (some (Ay.mk [.sc (.bool false)] []))) (some (Ay.mk [.sc (.bool false)] []))) (Aq (decide (0<(↑Ft:Int)))<|Ih 1 (List.getD Bk 0 .top) fun Ajg Ak4 Afr=>Ag (call 21 [.lst false 1 Ak4 Afr]) fun Aho Ajz=>Ac Ajz<|Ab Aho fun Afg Ahx=>Cu Afg fun Afx=>Ab Afx fun Ae3 Ajr=>Cn Ae3 fun Aoa=>Ab Ajr fun Aii Ala=>Cn Aii fun Ahp=>Ab Ala fun Al6 Aso=>Af .u64 Al6 fun Alu=>Ab Aso fun Apg As9=>Af .i64 Apg fun Af5=>Ab As9 fun X4 Apu=>Af .u64 X4 fun Aut=>Ab Apu fun Au6 Ay6=>Af .i64 Au6 fun Auy=>Ab Ay6 fun As5 Auw=>Af .i64 As5 fun Ats=>Ab Auw fun Aqa Arq=>Bz Aqa fun A0g=>Ab Arq fun A28 A3s=>Af .i64 A28 fun Ayg=>Ab A3s fun Az2 A22=>Af .u64 Az2 fun A01=>Ab A22 fun Az4 Aw3=>Af .i64 Az4 fun Azw=>Ab Aw3 fun A2b Ayk=>Ih 1 A2b fun A36 A0x Aqr=>Ab Ayk fun Ava Azy=>Ih 1 Ava fun A4f A16 A1u=>Ac Azy<|Ab Ahx fun A1i Azr=>Af .i64 A1i fun A1l=>Ac Azr<|A4 (Zp==0) (A4 (Z2==38) (Ag (call 22 [.agg [.sc (.string Aoa),.sc (.string Ahp),.sc (.int .u64 Alu),.sc (.int .i64 Af5),.sc (.int .u64 Aut),.sc (.int .i64 Auy),.sc (.int .i64 Ats),.sc (.bool A0g),.sc (.int .i64 Ayg),.sc (.int .u64 A01),.sc (.int .i64 Azw),.lst false 1 A0x Aqr,.lst false 1 A16 A1u],.agg [.sc (.int .i64 A20),.sc (.int .u64 A2k)]]) fun Az1 A2g=>Ac A2g<|Ab Az1 fun A1t A0c=>Af .i64 A1t fun Ay2=>Ac A0c<|A4 ((Ahk==0)==(Ay2==0)) (Ag (call 13 []) fun A2s A1p=>Ac A1p<|Ab A2s fun Axj A2y=>Bz Axj fun A3b=>Ac A2y<|some (Ay.mk [.sc (.bool A3b)] [])) (some (Ay.mk [.sc (.bool false)] []))) (some (Ay.mk [.sc (.bool false)] []))) (some (Ay.mk [.sc (.bool false)] []))))) (Ag (call 20 []) fun Ary At7=>Ac At7<|Ab Ary fun A3j A7y=>Dk 3 A3j fun A29 A40=>Ac A7y<|Aq (decide (0+A29*3<=List.length A40))<|Ag (call 14 [.agg [.sc (.int .i64 Cd),.sc (.string Da),.lst false 1 Du D5,.lst false 1 Ci Fn,.lst false 1 Ft Bk,.sc (.int .i64 Gf),.lst false 1 Gt Ix,.sc (.string H5)],.agg [.sc (.int .u64 Lx),.sc (.int .i64 Oc),.sc (.int .i64 Pq),.sc (.int .i64 Py),.sc (.int .u64 a2),.lst false 1 Oe Ro,.sc (.int .i64 Q7),.sc (.int .u64 Ty)],.sc (.int .u64 Q8),.lst false 3 A29 (List.take (A29*3) (List.drop 0 A40)),.lst false 3 0 [],.sc (.int .i64 5)]) fun A8t A8a=>Ac A8a<|Ab A8t fun A87 A7p=>Cu A87 fun A85=>Ab A85 fun A6o A8q=>Af .i64 A6o fun A9u=>Ab A8q fun A7j A7b=>Af .i64 A7j fun Bac=>Ab A7b fun A8z A7h=>Af .i64 A8z fun A9z=>Ac A7h<|Ab A7p fun A74 A6n=>Af .i64 A74 fun A4o=>Ac A6n<|Ag (call 14 [.agg [.sc (.int .i64 Cd),.sc (.string Da),.lst false 1 Du D5,.lst false 1 Ci Fn,.lst false 1 Ft Bk,.sc (.int .i64 Gf),.lst false 1 Gt Ix,.sc (.string H5)],.agg [.sc (.int .u64 Lx),.sc (.int .i64 Oc),.sc (.int .i64 Pq),.sc (.int .i64 Py),.sc (.int .u64 a2),.lst false 1 Oe Ro,.sc (.int .i64 Q7),.sc (.int .u64 Ty)],.sc (.int .u64 Q8),.lst false 3 0 [],.lst false 3 0 [],.sc (.int .i64 5)]) fun A8y A81=>Ac A81<|Ab A8y fun A88 A7r=>Cu A88 fun A67=>Ab A67 fun A7k A8f=>Af .i64 A7k fun Bab=>Ab A8f fun A6m A7n=>Af .i64 A6m fun A92=>Ab A7n fun A7o A6r=>Af .i64 A7o fun Baj=>Ac A6r<|Ab A7r fun A62 A7m=>Af .i64 A62 fun A4u=>Ac A7m<|Ag (call 14 [.agg [.sc (.int .i64 Cd),.sc (.string Da),.lst false 1 Du D5,.lst false 1 Ci Fn,.lst false 1 Ft Bk,.sc (.int .i64 Gf),.lst false 1 Gt Ix,.sc (.string H5)],.agg [.sc (.int .u64 Lx),.sc (.int .i64 Oc),.sc (.int .i64 Pq),.sc (.int .i64 Py),.sc (.int .u64 a2),.lst false 1 Oe Ro,.sc (.int .i64 Q7),.sc (.int .u64 Ty)],.sc (.int .u64 Q8),.lst false 3 1 [.sc (.string (ByteArray.mk #[114,111,111,116])),.sc (.int .i64 A20),.sc (.int .u64 A2k)],.lst false 3 0 [],.sc (.int .i64 5)]) fun A65 A6h=>Ac A6h<|Ab A65 fun A8e A7i=>Cu A8e fun A7c=>Ab A7c fun A6j A8m=>Af .i64 A6j fun A9v=>Ab A8m fun A70 A6e=>Af .i64 A70 fun A9p=>Ab A6e fun A6k A7v=>Af .i64 A6k fun A93=>Ac A7v<|Ab A7i fun A8i A75=>Af .i64 A8i fun A4x=>Ac A75<|A4 (a2 != 3) (A4 (A4o==38) (A4 (A4u==38) (A4 (A4x==38) (Ag (call 13 []) fun A61 A64=>Ac A64<|Ab A61 fun A82 A9i=>Bz A82 fun A8o=>Ac A9i<|some (Ay.mk [.sc (.bool A8o)] [])) (some (Ay.mk [.sc (.bool false)] []))) (some (Ay.mk [.sc (.bool false)] []))) (some (Ay.mk [.sc (.bool false)] []))) (Aq (decide (0<(↑Ft:Int)))<|Ih 1 (List.getD Bk 0 .top) fun A95 A7t A8s=>Ag (call 21 [.lst false 1 A7t A8s]) fun A79 A9d=>Ac A9d<|Ab A79 fun A80 A7f=>Cu A80 fun A6q=>Ab A6q fun A73 A8v=>Cn A73 fun A6z=>Ab A8v fun A6w A6y=>Cn A6w fun A76=>Ab A6y fun A6v A7a=>Af .u64 A6v fun A7z=>Ab A7a fun A6s A8x=>Af .i64 A6s fun A8c=>Ab A8x fun A8n A84=>Af .u64 A8n fun A77=>Ab A84 fun A6t A8j=>Af .i64 A6t fun A7l=>Ab A8j fun A6u A71=>Af .i64 A6u fun A8l=>Ab A71 fun A8u A6g=>Bz A8u fun A86=>Ab A6g fun A72 A7d=>Af .i64 A72 fun A8g=>Ab A7d fun A9f A7w=>Af .u64 A9f fun A9b=>Ab A7w fun A89 A7e=>Af .i64 A89 fun A66=>Ab A7e fun A9a A8w=>Ih 1 A9a fun A34 A5e Bbu=>Ab A8w fun Bbf Bbl=>Ih 1 Bbf fun Bb3 Bbr Bbg=>Ac Bbl<|Ab A7f fun Ba8 Bbd=>Af .i64 Ba8 fun Bb2=>Ac Bbd<|A4 (A4o==0) (A4 (A4u==38) (Ag (call 22 [.agg [.sc (.string A6z),.sc (.string A76),.sc (.int .u64 A7z),.sc (.int .i64 A8c),.sc (.int .u64 A77),.sc (.int .i64 A7l),.sc (.int .i64 A8l),.sc (.bool A86),.sc (.int .i64 A8g),.sc (.int .u64 A9b),.sc (.int .i64 A66),.lst false 1 A5e Bbu,.lst false 1 Bbr Bbg],.agg [.sc (.int .i64 A20),.sc (.int .u64 A2k)]]) fun Ba7 Bbh=>Ac Bbh<|Ab Ba7 fun Bbo Bbp=>Af .i64 Bbo fun Bbj=>Ac Bbp<|A4 ((A4x==0)==(Bbj==0)) (Ag (call 13 []) fun Bbw Ba9=>Ac Ba9<|Ab Bbw fun Bbt Ba3=>Bz Bbt fun Bbb=>Ac Ba3<|some (Ay.mk [.sc (.bool Bbb)] [])) (some (Ay.mk [.sc (.bool false)] []))) (some (Ay.mk [.sc (.bool false)] []))) (some (Ay.mk [.sc (.bool false)] [])))))) (Ae C0 Tryz.prog fu d):=by kernel_rfl
end
end Go.Proofs.YtgfgmbpmghgbkaaGreatDoor.Pv
