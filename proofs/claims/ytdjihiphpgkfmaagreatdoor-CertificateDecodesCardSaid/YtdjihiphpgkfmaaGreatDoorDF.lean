/-
  The proof of CertificateDecodes, part 6.
-/
import Derived.Test.YtdjihiphpgkfmaaGreatDoorDE
import Derived.Test.YtdjihiphpgkfmaaGreatDoorRows
import Derived.RangeFuncNested
import Derived.RangeFuncLeaves
import Derived.WalkKit
import Derived.LoopNIn
import Derived.OrdersIn
set_option linter.unusedSimpArgs false
set_option linter.unusedVariables false
namespace Go.Proofs.YtdjihiphpgkfmaaGreatDoor.Pv
section
open Go.IntKind (wrap)
section
variable {fu d:Nat}
set_option maxHeartbeats 4000000 in
theorem Alg (hfu:1000<=fu){depth:Int}{key:Bool}{before s:ByteArray}{at_:Nat}{o:List It}(hs:s.size<=1000000)(ha:at_<=s.size)(ho:o.length<=1000):
    Ad C0 Tryz.prog fu (d+4) C7 [.pbox (Ti s at_ o),.sc (.int .i64 depth),.sc (.bool key),.sc (.string before)] =
      (if (Bc (Cg s) at_).e≠0 then some ⟨[.sc (.int .i64 (Bc (Cg s) at_).e)],[Ti s (Ug (Cg s) at_) o]⟩
       else if I3 (Bc (Cg s) at_).k (Bc (Cg s) at_).n depth key o.length (s.size-(Bc (Cg s) at_).at_)≠0 then
         some ⟨[.sc (.int .i64 (I3 (Bc (Cg s) at_).k (Bc (Cg s) at_).n depth key o.length (s.size-(Bc (Cg s) at_).at_)))],[Ti s (Ug (Cg s) at_) o]⟩
       else Ai fu (Ad C0 Tryz.prog fu (d+3)) s (at_:Int) o.length (Bl o) depth key before fu depth key before (Bc (Cg s) at_).n (Le (Bc (Cg s) at_).k) (O4 (Bc (Cg s) at_).k) s ((Bc (Cg s) at_).at_:Int) o.length (Bl o) (Bc (Cg s) at_).k (Bc (Cg s) at_).n C1):=by
  refine (Rb fu (d+3) s (at_:Int) o.length (Bl o) depth key before).trans ?_
  have hd:=Ail (fu:=fu) (d:=d+2) (s:=s) (at_:=at_) (o:=o) hfu hs (by omega)
  have ok:=Ps (b:=Cg s) (at_:=at_) (U9 s) (by rw [Ey];exact ha)
  have L:=Ee o
  have t:List.take (o.length*3) (Bl o)=Bl o:=Jv (by omega)
  rw [Ey] at ok
  have eA:(Bc (Cg s) at_).e=0->Ug (Cg s) at_=(Bc (Cg s) at_).at_:=by
    intro h
    unfold Ug
    rw [Bv h]
  generalize Ug (Cg s) at_=A at hd eA ⊢
  generalize Bc (Cg s) at_=h at hd ok eA ⊢
  obtain ⟨k,n,e,a⟩:=h
  simp only at hd ok eA ⊢
  by_cases he:e=0
  rotate_left
  · have he':(e != 0)=true:=by simp [he]
    rw [Bv he]
    try unfold Aa
    repeat first
      |((with_reducible first|apply At|apply Ao|apply Aq|apply A6|apply A0|apply Ba|apply Bi|apply Am);· first|with_reducible rfl|(simp (disch:=omega) only [hd,he',L,t]<;>with_reducible rfl))
      |((with_reducible first|apply Ar|apply As);· first|with_reducible rfl|omega|(simp (disch:=omega) only [gT,hd,he',L,t]<;>omega))
      |(with_reducible apply Au;· first|with_reducible rfl|(simp (disch:=omega) only [gF,hd,he',L,t]<;>omega))
    try simp (disch:=omega) only [hd,he',L,t]
    all_goals rfl
  subst he
  obtain rfl:=eA rfl
  obtain ⟨ha',hk⟩:=ok
  obtain ⟨k1,k8,n0,n1,_⟩:=hk rfl
  have e00:((0:Int) != 0)=false:=rfl
  have ik:=Amm (fu:=fu) (d:=d+2) k
  rw [Az (by simp)]
  have w1:wrap .i64 ((s.size:Int)-(A:Int))=((s.size-A:Nat):Int):=by rw [Ak (by omega) (by omega)];omega
  have w2:wrap .u64 ((s.size-A:Nat):Int)=((s.size-A:Nat):Int):=Ch (by omega) (by omega)
  generalize s.size-A=rest at w1 w2 ⊢
  unfold I3
  by_cases c1:512<=o.length
  · simp only [c1,if_true,ne_eq,Int.reduceEq,not_false_eq_true]
    have:k=1∨k=2∨k=3∨k=4∨k=5∨k=6∨k=7∨k=8:=by omega
    rcases this with rfl|rfl|rfl|rfl|rfl|rfl|rfl|rfl
    all_goals
      try unfold Aa
      repeat first
        |((with_reducible first|apply At|apply Ao|apply Aq|apply A6|apply A0|apply Ba|apply Bi|apply Am);· first|with_reducible rfl|(simp (disch:=omega) only [hd,e00,L,t,Int.reduceBEq]<;>with_reducible rfl))
        |((with_reducible first|apply Ar|apply As);· first|with_reducible rfl|omega|(simp (disch:=omega) only [gT,hd,e00,L,t,Int.reduceBEq]<;>omega))
        |(with_reducible apply Au;· first|with_reducible rfl|(simp (disch:=omega) only [gF,hd,e00,L,t,Int.reduceBEq]<;>omega))
      try simp (disch:=omega) only [hd,e00,L,t,Int.reduceBEq]
    all_goals rfl
  rw [Az c1]
  by_cases c2:key=true∧HQ k=false
  · obtain ⟨rfl,c2⟩:=c2
    rw [c2] at ik
    simp only [c2,and_self,if_true,ne_eq,Int.reduceEq,not_false_eq_true]
    have:k=1∨k=2∨k=3∨k=4∨k=5∨k=6∨k=7∨k=8:=by omega
    rcases this with rfl|rfl|rfl|rfl|rfl|rfl|rfl|rfl
    all_goals
      try unfold Aa
      repeat first
        |((with_reducible first|apply At|apply Ao|apply Aq|apply A6|apply A0|apply Ba|apply Bi|apply Am);· first|with_reducible rfl|(simp (disch:=omega) only [hd,e00,L,t,Int.reduceBEq,ik,Bw,B5]<;>with_reducible rfl))
        |((with_reducible first|apply Ar|apply As);· first|with_reducible rfl|omega|(simp (disch:=omega) only [gT,hd,e00,L,t,Int.reduceBEq,ik,Bw,B5]<;>omega))
        |(with_reducible apply Au;· first|with_reducible rfl|(simp (disch:=omega) only [gF,hd,e00,L,t,Int.reduceBEq,ik,Bw,B5]<;>omega))
      try simp (disch:=omega) only [hd,e00,L,t,Int.reduceBEq,ik,Bw,B5]
    all_goals rfl
  rw [Az c2]
  have key2:key=false∨key=true∧HQ k=true:=by
    cases key
    · exact .inl rfl
    · exact .inr ⟨rfl,by simpa using c2⟩
  clear c2
  have fin:∀(p q:Option Aw),p=q->p=q:=fun _ _ h=>h
  by_cases c3:depth>8
  · simp only [c3,if_true,ne_eq,Int.reduceEq,not_false_eq_true]
    have:k=1∨k=2∨k=3∨k=4∨k=5∨k=6∨k=7∨k=8:=by omega
    rcases key2 with rfl|⟨rfl,k2⟩
    · rcases this with rfl|rfl|rfl|rfl|rfl|rfl|rfl|rfl
      all_goals
        try unfold Aa
        repeat first
          |((with_reducible first|apply At|apply Ao|apply Aq|apply A6|apply A0|apply Ba|apply Bi|apply Am);· first|with_reducible rfl|(simp (disch:=omega) only [hd,e00,L,t,Int.reduceBEq,Bw,B5]<;>with_reducible rfl))
          |((with_reducible first|apply Ar|apply As);· first|with_reducible rfl|omega|(simp (disch:=omega) only [gT,hd,e00,L,t,Int.reduceBEq,Bw,B5]<;>omega))
          |(with_reducible apply Au;· first|with_reducible rfl|(simp (disch:=omega) only [gF,hd,e00,L,t,Int.reduceBEq,Bw,B5]<;>omega))
        try simp (disch:=omega) only [hd,e00,L,t,Int.reduceBEq,Bw,B5]
      all_goals rfl
    · rw [k2] at ik
      rcases this with rfl|rfl|rfl|rfl|rfl|rfl|rfl|rfl
      all_goals
        try unfold Aa
        repeat first
          |((with_reducible first|apply At|apply Ao|apply Aq|apply A6|apply A0|apply Ba|apply Bi|apply Am);· first|with_reducible rfl|(simp (disch:=omega) only [hd,e00,L,t,Int.reduceBEq,ik,Bw,B5]<;>with_reducible rfl))
          |((with_reducible first|apply Ar|apply As);· first|with_reducible rfl|omega|(simp (disch:=omega) only [gT,hd,e00,L,t,Int.reduceBEq,ik,Bw,B5]<;>omega))
          |(with_reducible apply Au;· first|with_reducible rfl|(simp (disch:=omega) only [gF,hd,e00,L,t,Int.reduceBEq,ik,Bw,B5]<;>omega))
        try simp (disch:=omega) only [hd,e00,L,t,Int.reduceBEq,ik,Bw,B5]
      all_goals rfl
  rw [Az c3]
  have kk:(Le k=true∧O4 k=false∧(k=3∨k=4))∨(Le k=false∧O4 k=true∧(k=5∨k=6))∨(Le k=false∧O4 k=false∧(k=1∨k=2∨k=7∨k=8)):=by
    have:k=1∨k=2∨k=3∨k=4∨k=5∨k=6∨k=7∨k=8:=by omega
    rcases this with rfl|rfl|rfl|rfl|rfl|rfl|rfl|rfl<;>simp [Le,O4]
  rcases kk with ⟨q1,q2,kk⟩|⟨q1,q2,kk⟩|⟨q1,q2,kk⟩
  · rw [q1,q2]
    simp only [true_and,Bool.false_eq_true,false_and,if_false]
    by_cases c4:n>1024
    · simp only [c4,if_true,ne_eq,Int.reduceEq,not_false_eq_true]
      rcases key2 with rfl|⟨rfl,k2⟩
      · rcases kk with rfl|rfl
        all_goals
          try unfold Aa
          repeat first
            |((with_reducible first|apply At|apply Ao|apply Aq|apply A6|apply A0|apply Ba|apply Bi|apply Am);· first|with_reducible rfl|(simp (disch:=omega) only [hd,e00,L,t,Int.reduceBEq,Bw,B5]<;>with_reducible rfl))
            |((with_reducible first|apply Ar|apply As);· first|with_reducible rfl|omega|(simp (disch:=omega) only [gT,hd,e00,L,t,Int.reduceBEq,Bw,B5]<;>omega))
            |(with_reducible apply Au;· first|with_reducible rfl|(simp (disch:=omega) only [gF,hd,e00,L,t,Int.reduceBEq,Bw,B5]<;>omega))
          try simp (disch:=omega) only [hd,e00,L,t,Int.reduceBEq,Bw,B5]
        all_goals rfl
      · rw [k2] at ik
        rcases kk with rfl|rfl
        all_goals
          try unfold Aa
          repeat first
            |((with_reducible first|apply At|apply Ao|apply Aq|apply A6|apply A0|apply Ba|apply Bi|apply Am);· first|with_reducible rfl|(simp (disch:=omega) only [hd,e00,L,t,Int.reduceBEq,ik,Bw,B5]<;>with_reducible rfl))
            |((with_reducible first|apply Ar|apply As);· first|with_reducible rfl|omega|(simp (disch:=omega) only [gT,hd,e00,L,t,Int.reduceBEq,ik,Bw,B5]<;>omega))
            |(with_reducible apply Au;· first|with_reducible rfl|(simp (disch:=omega) only [gF,hd,e00,L,t,Int.reduceBEq,ik,Bw,B5]<;>omega))
          try simp (disch:=omega) only [hd,e00,L,t,Int.reduceBEq,ik,Bw,B5]
        all_goals rfl
    rw [Az c4]
    by_cases c5:(rest:Int)<n
    · simp only [c5,if_true,ne_eq,Int.reduceEq,not_false_eq_true]
      rcases key2 with rfl|⟨rfl,k2⟩
      · rcases kk with rfl|rfl
        all_goals
          try unfold Aa
          repeat first
            |((with_reducible first|apply At|apply Ao|apply Aq|apply A6|apply A0|apply Ba|apply Bi|apply Am);· first|with_reducible rfl|(simp (disch:=omega) only [hd,e00,L,t,Int.reduceBEq,w1,w2,Bw,B5]<;>with_reducible rfl))
            |((with_reducible first|apply Ar|apply As);· first|with_reducible rfl|omega|(simp (disch:=omega) only [gT,hd,e00,L,t,Int.reduceBEq,w1,w2,Bw,B5]<;>omega))
            |(with_reducible apply Au;· first|with_reducible rfl|(simp (disch:=omega) only [gF,hd,e00,L,t,Int.reduceBEq,w1,w2,Bw,B5]<;>omega))
          try simp (disch:=omega) only [hd,e00,L,t,Int.reduceBEq,w1,w2,Bw,B5]
        all_goals rfl
      · rw [k2] at ik
        rcases kk with rfl|rfl
        all_goals
          try unfold Aa
          repeat first
            |((with_reducible first|apply At|apply Ao|apply Aq|apply A6|apply A0|apply Ba|apply Bi|apply Am);· first|with_reducible rfl|(simp (disch:=omega) only [hd,e00,L,t,Int.reduceBEq,w1,w2,ik,Bw,B5]<;>with_reducible rfl))
            |((with_reducible first|apply Ar|apply As);· first|with_reducible rfl|omega|(simp (disch:=omega) only [gT,hd,e00,L,t,Int.reduceBEq,w1,w2,ik,Bw,B5]<;>omega))
            |(with_reducible apply Au;· first|with_reducible rfl|(simp (disch:=omega) only [gF,hd,e00,L,t,Int.reduceBEq,w1,w2,ik,Bw,B5]<;>omega))
          try simp (disch:=omega) only [hd,e00,L,t,Int.reduceBEq,w1,w2,ik,Bw,B5]
        all_goals rfl
    rw [Az c5,Az (by simp)]
    rcases key2 with rfl|⟨rfl,k2⟩
    · rcases kk with rfl|rfl
      all_goals
        try unfold Aa
        repeat first
          |((with_reducible first|apply At|apply Ao|apply Aq|apply A6|apply A0|apply Ba|apply Bi|apply Am);· first|with_reducible rfl|(simp (disch:=omega) only [hd,e00,L,t,Int.reduceBEq,w1,w2,Bw,B5]<;>with_reducible rfl))
          |((with_reducible first|apply Ar|apply As);· first|with_reducible rfl|omega|(simp (disch:=omega) only [gT,hd,e00,L,t,Int.reduceBEq,w1,w2,Bw,B5]<;>omega))
          |(with_reducible apply Au;· first|with_reducible rfl|(simp (disch:=omega) only [gF,hd,e00,L,t,Int.reduceBEq,w1,w2,Bw,B5]<;>omega))
        try simp (disch:=omega) only [hd,e00,L,t,Int.reduceBEq,w1,w2,Bw,B5]
      all_goals rfl
    · rw [k2] at ik
      rcases kk with rfl|rfl
      all_goals
        try unfold Aa
        repeat first
          |((with_reducible first|apply At|apply Ao|apply Aq|apply A6|apply A0|apply Ba|apply Bi|apply Am);· first|with_reducible rfl|(simp (disch:=omega) only [hd,e00,L,t,Int.reduceBEq,w1,w2,ik,Bw,B5]<;>with_reducible rfl))
          |((with_reducible first|apply Ar|apply As);· first|with_reducible rfl|omega|(simp (disch:=omega) only [gT,hd,e00,L,t,Int.reduceBEq,w1,w2,ik,Bw,B5]<;>omega))
          |(with_reducible apply Au;· first|with_reducible rfl|(simp (disch:=omega) only [gF,hd,e00,L,t,Int.reduceBEq,w1,w2,ik,Bw,B5]<;>omega))
        try simp (disch:=omega) only [hd,e00,L,t,Int.reduceBEq,w1,w2,ik,Bw,B5]
      all_goals rfl
  · rw [q1,q2]
    simp only [true_and,Bool.false_eq_true,false_and,if_false]
    by_cases c4:n>512
    · simp only [c4,if_true,ne_eq,Int.reduceEq,not_false_eq_true]
      rcases key2 with rfl|⟨rfl,k2⟩
      · rcases kk with rfl|rfl
        all_goals
          try unfold Aa
          repeat first
            |((with_reducible first|apply At|apply Ao|apply Aq|apply A6|apply A0|apply Ba|apply Bi|apply Am);· first|with_reducible rfl|(simp (disch:=omega) only [hd,e00,L,t,Int.reduceBEq,Bw,B5]<;>with_reducible rfl))
            |((with_reducible first|apply Ar|apply As);· first|with_reducible rfl|omega|(simp (disch:=omega) only [gT,hd,e00,L,t,Int.reduceBEq,Bw,B5]<;>omega))
            |(with_reducible apply Au;· first|with_reducible rfl|(simp (disch:=omega) only [gF,hd,e00,L,t,Int.reduceBEq,Bw,B5]<;>omega))
          try simp (disch:=omega) only [hd,e00,L,t,Int.reduceBEq,Bw,B5]
        all_goals rfl
      · rw [k2] at ik
        rcases kk with rfl|rfl
        all_goals
          try unfold Aa
          repeat first
            |((with_reducible first|apply At|apply Ao|apply Aq|apply A6|apply A0|apply Ba|apply Bi|apply Am);· first|with_reducible rfl|(simp (disch:=omega) only [hd,e00,L,t,Int.reduceBEq,ik,Bw,B5]<;>with_reducible rfl))
            |((with_reducible first|apply Ar|apply As);· first|with_reducible rfl|omega|(simp (disch:=omega) only [gT,hd,e00,L,t,Int.reduceBEq,ik,Bw,B5]<;>omega))
            |(with_reducible apply Au;· first|with_reducible rfl|(simp (disch:=omega) only [gF,hd,e00,L,t,Int.reduceBEq,ik,Bw,B5]<;>omega))
          try simp (disch:=omega) only [hd,e00,L,t,Int.reduceBEq,ik,Bw,B5]
        all_goals rfl
    rw [Az c4,Az (by simp)]
    rcases key2 with rfl|⟨rfl,k2⟩
    · rcases kk with rfl|rfl
      all_goals
        try unfold Aa
        repeat first
          |((with_reducible first|apply At|apply Ao|apply Aq|apply A6|apply A0|apply Ba|apply Bi|apply Am);· first|with_reducible rfl|(simp (disch:=omega) only [hd,e00,L,t,Int.reduceBEq,w1,w2,Bw,B5]<;>with_reducible rfl))
          |((with_reducible first|apply Ar|apply As);· first|with_reducible rfl|omega|(simp (disch:=omega) only [gT,hd,e00,L,t,Int.reduceBEq,w1,w2,Bw,B5]<;>omega))
          |(with_reducible apply Au;· first|with_reducible rfl|(simp (disch:=omega) only [gF,hd,e00,L,t,Int.reduceBEq,w1,w2,Bw,B5]<;>omega))
        try simp (disch:=omega) only [hd,e00,L,t,Int.reduceBEq,w1,w2,Bw,B5]
      all_goals rfl
    · rw [k2] at ik
      rcases kk with rfl|rfl
      all_goals
        try unfold Aa
        repeat first
          |((with_reducible first|apply At|apply Ao|apply Aq|apply A6|apply A0|apply Ba|apply Bi|apply Am);· first|with_reducible rfl|(simp (disch:=omega) only [hd,e00,L,t,Int.reduceBEq,w1,w2,ik,Bw,B5]<;>with_reducible rfl))
          |((with_reducible first|apply Ar|apply As);· first|with_reducible rfl|omega|(simp (disch:=omega) only [gT,hd,e00,L,t,Int.reduceBEq,w1,w2,ik,Bw,B5]<;>omega))
          |(with_reducible apply Au;· first|with_reducible rfl|(simp (disch:=omega) only [gF,hd,e00,L,t,Int.reduceBEq,w1,w2,ik,Bw,B5]<;>omega))
        try simp (disch:=omega) only [hd,e00,L,t,Int.reduceBEq,w1,w2,ik,Bw,B5]
      all_goals rfl
  · rw [q1,q2]
    simp only [true_and,Bool.false_eq_true,false_and,if_false,ne_eq,not_true_eq_false]
    rcases key2 with rfl|⟨rfl,k2⟩
    · rcases kk with rfl|rfl|rfl|rfl
      all_goals
        try unfold Aa
        repeat first
          |((with_reducible first|apply At|apply Ao|apply Aq|apply A6|apply A0|apply Ba|apply Bi|apply Am);· first|with_reducible rfl|(simp (disch:=omega) only [hd,e00,L,t,Int.reduceBEq,w1,w2,Bw,B5]<;>with_reducible rfl))
          |((with_reducible first|apply Ar|apply As);· first|with_reducible rfl|omega|(simp (disch:=omega) only [gT,hd,e00,L,t,Int.reduceBEq,w1,w2,Bw,B5]<;>omega))
          |(with_reducible apply Au;· first|with_reducible rfl|(simp (disch:=omega) only [gF,hd,e00,L,t,Int.reduceBEq,w1,w2,Bw,B5]<;>omega))
        try simp (disch:=omega) only [hd,e00,L,t,Int.reduceBEq,w1,w2,Bw,B5]
      all_goals rfl
    · rw [k2] at ik
      rcases kk with rfl|rfl|rfl|rfl
      all_goals
        try unfold Aa
        repeat first
          |((with_reducible first|apply At|apply Ao|apply Aq|apply A6|apply A0|apply Ba|apply Bi|apply Am);· first|with_reducible rfl|(simp (disch:=omega) only [hd,e00,L,t,Int.reduceBEq,w1,w2,ik,Bw,B5]<;>with_reducible rfl))
          |((with_reducible first|apply Ar|apply As);· first|with_reducible rfl|omega|(simp (disch:=omega) only [gT,hd,e00,L,t,Int.reduceBEq,w1,w2,ik,Bw,B5]<;>omega))
          |(with_reducible apply Au;· first|with_reducible rfl|(simp (disch:=omega) only [gF,hd,e00,L,t,Int.reduceBEq,w1,w2,ik,Bw,B5]<;>omega))
        try simp (disch:=omega) only [hd,e00,L,t,Int.reduceBEq,w1,w2,ik,Bw,B5]
      all_goals rfl
end
end
section
open Go.IntKind (wrap)
def R3 (f:Bool->ByteArray->Nat->List It->Int × Nat × List It)(mp:Bool):Nat->ByteArray->Nat->List It->Int × Nat × List It
 |0,_,at_,o=>(0,at_,o)
 |c+1,last,at_,o=>
  if mp=true then
   if (f true last at_ o).1≠0 then f true last at_ o
   else if (f false C1 (f true last at_ o).2.1 (f true last at_ o).2.2).1≠0 then f false C1 (f true last at_ o).2.1 (f true last at_ o).2.2
   else R3 f mp c (Bj (Bp ((f true last at_ o).2.2.getD o.length it0))) (f false C1 (f true last at_ o).2.1 (f true last at_ o).2.2).2.1 (f false C1 (f true last at_ o).2.1 (f true last at_ o).2.2).2.2
  else if (f false C1 at_ o).1≠0 then f false C1 at_ o
  else R3 f mp c last (f false C1 at_ o).2.1 (f false C1 at_ o).2.2
def JB (b:List Int)(h:Hd):It × Nat:=if Le h.k=true then (⟨h.k,0,Bj ((b.drop h.at_).take h.n.toNat)⟩,h.at_+h.n.toNat) else (⟨h.k,h.n,C1⟩,h.at_)
def Nr (b:List Int):Nat->Int->Bool->ByteArray->Nat->List It->Int × Nat × List It
 |0,_,_,_,at_,o=>(2,at_,o)
 |m+1,depth,key,before,at_,o=>
  if (Bc b at_).e≠0 then ((Bc b at_).e,at_,o)
  else if I3 (Bc b at_).k (Bc b at_).n depth key o.length (b.length-(Bc b at_).at_)≠0 then (I3 (Bc b at_).k (Bc b at_).n depth key o.length (b.length-(Bc b at_).at_),(Bc b at_).at_,o)
  else if Hl key before (JB b (Bc b at_)).1≠0 then (Hl key before (JB b (Bc b at_)).1,(JB b (Bc b at_)).2,o)
  else if O4 (Bc b at_).k=true then R3 (Nr b m (depth+1)) ((Bc b at_).k==6) (Bc b at_).n.toNat C1 (JB b (Bc b at_)).2 (o++[(JB b (Bc b at_)).1])
  else (0,(JB b (Bc b at_)).2,o++[(JB b (Bc b at_)).1])
def OkR (x:It):Prop:=OkX x∧x.dat
structure Avj (b:List Int) (o:List It) (r:Int × Nat × List It):Prop where
 at_:r.2.1<=b.length
 all:∀x∈r.2.2,OkR x
 len:o.length<=r.2.2.length
 top:r.2.2.length<=512
 grow:r.1=0->o.length<r.2.2.length
def Aj0 (b:List Int)(f:Bool->ByteArray->Nat->List It->Int × Nat × List It):Prop:=∀key before at_ o,at_<=b.length->(∀x∈o,OkR x)->o.length<=512->Avj b o (f key before at_ o)
theorem BS {b:List Int}{f:Bool->ByteArray->Nat->List It->Int × Nat × List It}(hf:Aj0 b f){mp:Bool}:∀(c:Nat)(last:ByteArray)(at_:Nat)(o:List It),at_<=b.length->(∀x∈o,OkR x)->o.length<=512 ->
  (R3 f mp c last at_ o).2.1<=b.length∧(∀x∈(R3 f mp c last at_ o).2.2,OkR x)∧o.length<=(R3 f mp c last at_ o).2.2.length∧(R3 f mp c last at_ o).2.2.length<=512
 |0,_,at_,o,h1,h2,h3=>⟨h1,h2,Nat.le_refl _,h3⟩
 |c+1,last,at_,o,h1,h2,h3=>by
  unfold R3;by_cases hm:mp=true
  ·rw [Bv hm];have q:=hf true last at_ o h1 h2 h3;generalize f true last at_ o=r at q ⊢;by_cases hr:r.1=0
   ·have p:=hf false C1 r.2.1 r.2.2 q.at_ q.all q.top;rw [Az (by simp [hr])]
    have:=q.len;generalize f false C1 r.2.1 r.2.2=r2 at p ⊢;by_cases hr2:r2.1=0
    ·rw [Az (by simp [hr2])]
     obtain ⟨i1,i2,i3,i4⟩:=BS hf (mp:=mp) c (Bj (Bp (r.2.2.getD o.length it0))) r2.2.1 r2.2.2 p.at_ p.all p.top;have:=p.len;exact ⟨i1,i2,by omega,i4⟩
    ·rw [Bv (by simp [hr2])]
     have:=p.len;exact ⟨p.at_,p.all,by omega,p.top⟩
   ·rw [Bv (by simp [hr])]
    exact ⟨q.at_,q.all,q.len,q.top⟩
  ·rw [Az hm];have q:=hf false C1 at_ o h1 h2 h3;generalize f false C1 at_ o=r at q ⊢;by_cases hr:r.1=0
   ·rw [Az (by simp [hr])]
    obtain ⟨i1,i2,i3,i4⟩:=BS hf (mp:=mp) c last r.2.1 r.2.2 q.at_ q.all q.top;have:=q.len;exact ⟨i1,i2,by omega,i4⟩
   ·rw [Bv (by simp [hr])]
    exact ⟨q.at_,q.all,q.len,q.top⟩
theorem FB {k n depth:Int}{key:Bool}{ol rest:Nat}(h:I3 k n depth key ol rest=0):ol<512∧depth<=8∧(Le k=true->n<=1024∧n<=rest)∧(O4 k=true->n<=512):=by
 unfold I3 at h;by_cases c1:512<=ol
 ·rw [Bv c1] at h;cases h
 rw [Az c1] at h;by_cases c2:key=true∧HQ k=false
 ·rw [Bv c2] at h;cases h
 rw [Az c2] at h;by_cases c3:depth>8
 ·rw [Bv c3] at h;cases h
 rw [Az c3] at h;by_cases c4:Le k=true∧n>1024
 ·rw [Bv c4] at h;cases h
 rw [Az c4] at h;by_cases c5:O4 k=true∧n>512
 ·rw [Bv c5] at h;cases h
 rw [Az c5] at h;by_cases c6:Le k=true∧(rest:Int)<n
 ·rw [Bv c6] at h;cases h
 refine ⟨by omega,by omega,fun hd=>⟨?_,?_⟩,fun hn=>?_⟩
 ·exact Int.not_lt.1 fun hh=>c4 ⟨hd,hh⟩
 ·exact Int.not_lt.1 fun hh=>c6 ⟨hd,hh⟩
 ·exact Int.not_lt.1 fun hh=>c5 ⟨hn,hh⟩
theorem Pp (k:Int):Le k=true↔k=3∨k=4:=by unfold Le;simp
theorem HF (k:Int):O4 k=true↔k=5∨k=6:=by unfold O4;simp
theorem Akn {b:List Int}(hb:Hg b){at_:Nat}(ha:at_<=b.length)(he:(Bc b at_).e=0) {depth:Int}{key:Bool}{ol:Nat}(hp:I3 (Bc b at_).k (Bc b at_).n depth key ol (b.length-(Bc b at_).at_)=0):OkR (JB b (Bc b at_)).1∧(JB b (Bc b at_)).2<=b.length∧at_<(JB b (Bc b at_)).2:=by
 obtain ⟨h1,h2⟩:=Ps hb ha;obtain ⟨k1,k8,n0,n1,hl⟩:=h2 he;obtain ⟨_,_,p3,_⟩:=FB hp;unfold JB;by_cases hd:Le (Bc b at_).k=true
 ·obtain ⟨q1,q2⟩:=p3 hd;rw [Bv hd];refine ⟨⟨⟨k1,k8,by simp,by simp,?_⟩,?_⟩,?_,?_⟩
  ·simp only;rw [Ek,List.length_take];omega
  ·rcases (Pp _).1 hd with h|h
   ·exact .inl h
   ·exact .inr (.inl h)
  ·simp only;omega
  ·simp only;omega
 ·rw [Az hd];exact ⟨⟨⟨k1,k8,n0,n1,Nat.zero_le _⟩,.inr (.inr rfl)⟩,h1,hl⟩
theorem Qq {b:List Int}(hb:Hg b):∀(m:Nat)(depth:Int),Aj0 b (Nr b m depth)
 |0,depth=>fun key before at_ o h1 h2 h3=>⟨h1,h2,Nat.le_refl _,h3,fun h=>by simp [Nr] at h⟩
 |m+1,depth=>fun key before at_ o h1 h2 h3=>by
  have hk:=(Ps hb h1).1;unfold Nr;by_cases he:(Bc b at_).e=0
  rotate_left
  ·rw [Bv he];exact ⟨h1,h2,Nat.le_refl _,h3,fun h=>absurd h he⟩
  rw [Az (by simp [he])]
  by_cases hp:I3 (Bc b at_).k (Bc b at_).n depth key o.length (b.length-(Bc b at_).at_)=0
  rotate_left
  ·rw [Bv hp];exact ⟨hk,h2,Nat.le_refl _,h3,fun h=>absurd h hp⟩
  obtain ⟨x1,x2,x3⟩:=Akn hb h1 he hp;obtain ⟨p1,p2,p3,p4⟩:=FB hp;rw [Az (by simp [hp])]
  by_cases hq:Hl key before (JB b (Bc b at_)).1=0
  rotate_left
  ·rw [Bv hq];exact ⟨x2,h2,Nat.le_refl _,h3,fun h=>absurd h hq⟩
  rw [Az (by simp [hq])]
  have a2:∀x∈o++[(JB b (Bc b at_)).1],OkR x:=by
   intro x hx;rcases List.mem_append.1 hx with hx|hx
   ·exact h2 x hx
   ·simp at hx;subst hx;exact x1
  have a3:(o++[(JB b (Bc b at_)).1]).length=o.length+1:=by simp
  by_cases hn:O4 (Bc b at_).k=true
  ·rw [Bv hn];obtain ⟨i1,i2,i3,i4⟩:=BS (Qq hb m (depth+1)) (mp:=(Bc b at_).k==6) (Bc b at_).n.toNat C1 (JB b (Bc b at_)).2 (o++[(JB b (Bc b at_)).1]) x2 a2 (by omega)
   exact ⟨i1,i2,by omega,i4,fun _=>by omega⟩
  ·rw [Az hn];exact ⟨x2,a2,by simp only;omega,by simp only;omega,fun _=>by simp only;omega⟩
def RA (s:ByteArray)(r:Int × Nat × List It):Aw:=⟨[.sc (.int .i64 r.1)],[Ti s r.2.1 r.2.2]⟩
section
variable {fu d:Nat}
theorem MC (hfu:1000<=fu){a0_0:ByteArray}{a0_1:Int}{a0_2n:Nat}{a0_2:List PV}{a1:Int}{a2:Bool}{a3:ByteArray}{s:ByteArray}{depth k kn:Int}{kt:ByteArray}(hd0:0<=depth)(hd8:depth<=8){f:Bool->ByteArray->Nat->List It->Int × Nat × List It}(hff:Aj0 (Cg s) f)
  (hf:∀key before at_ o,at_<=s.size->o.length<=512->(∀x∈o,OkR x)->Ad C0 Tryz.prog fu (d+3) C7 [.pbox (Ti s at_ o),.sc (.int .i64 (depth+1)),.sc (.bool key),.sc (.string before)]=some (RA s (f key before at_ o))) {n:Nat}(hn:n<=512):
  ∀(c i nn:Nat) (last:ByteArray) (at_:Nat) (o:List It),i+c=n->c<nn->at_<=s.size->o.length<=512->(∀x∈o,OkR x) ->
  A7 fu (Ad C0 Tryz.prog fu (d+3)) a0_0 a0_1 a0_2n a0_2 a1 a2 a3 nn depth (n:Int) true last (i:Int) s (at_:Int) o.length (Bl o) k kn kt=some (RA s (R3 f (k==6) c last at_ o))
 |_,_,0,_,_,_,_,h,_,_,_=>by omega
 |0,i,nn+1,last,at_,o,hi,hc,ha,ho,hx=>by
  have L:=Ee o;have t:List.take (o.length*3) (Bl o)=Bl o:=Jv (by omega)
  rw [D5]
  try unfold Aa
  repeat first
   |((with_reducible first|apply At|apply Ao|apply Aq|apply A0|apply Ba|apply B8|apply Am);· first|with_reducible rfl|(simp (disch:=omega) only [L,t]<;>with_reducible rfl))
   |((with_reducible first|apply Ar|apply As);· first|with_reducible rfl|omega|(simp (disch:=omega) only [gT,L,t]<;>omega))
   |(with_reducible apply Au;· first|with_reducible rfl|(simp (disch:=omega) only [gF,L,t]<;>omega))
  try simp (disch:=omega) only [L,t]
  all_goals rfl
 |c+1,i,nn+1,last,at_,o,hi,hc,ha,ho,hx=>by
  have L:=Ee o;have t:List.take (o.length*3) (Bl o)=Bl o:=Jv (by omega)
  have w1:wrap .i64 (depth+1)=depth+1:=Ak (by omega) (by omega)
  have w2:wrap .u64 ((i:Int)+1)=((i+1:Nat):Int):=by rw [Ch (by omega) (by omega)];omega
  have hsz:=Ey s;rw [D5];unfold R3;by_cases hm:k=6
  rotate_left
  ·have hm':(k==(6:Int))=false:=by simp [hm]
   rw [hm',Az (by simp)]
   have q:=hf false C1 at_ o ha ho hx;have fq:=hff false C1 at_ o (by omega) hx ho
   generalize f false C1 at_ o=r at q fq ⊢;obtain ⟨e,a,o'⟩:=r;have f1:=fq.at_;have f2:=fq.all;have f4:=fq.top;simp only [RA] at q f1 f2 f4 ⊢;have L':=Ee o';have t':List.take (o'.length*3) (Bl o')=Bl o':=Jv (by omega)
   by_cases he:e=0
   ·subst he;have ih:=MC hfu (a0_0:=a0_0) (a0_1:=a0_1) (a0_2n:=a0_2n) (a0_2:=a0_2) (a1:=a1) (a2:=a2) (a3:=a3) (k:=k) (kn:=kn) (kt:=kt) hd0 hd8 hff hf hn c (i+1) nn last a o' (by omega) (by omega) (by omega) f4 f2
    rw [hm'] at ih;have e00:((0:Int) != 0)=false:=rfl;rw [Az (by simp)]
    simp only [RA] at ih;rw [←ih]
    try unfold Aa
    repeat first
     |((with_reducible first|apply At|apply Ao|apply Aq|apply A0|apply Ba|apply B8|apply Am);· first|with_reducible rfl|(simp (disch:=omega) only [L,t,w1,w2,hm',q,e00]<;>with_reducible rfl))
     |((with_reducible first|apply Ar|apply As);· first|with_reducible rfl|omega|(simp (disch:=omega) only [gT,L,t,w1,w2,hm',q,e00]<;>omega))
     |(with_reducible apply Au;· first|with_reducible rfl|(simp (disch:=omega) only [gF,L,t,w1,w2,hm',q,e00]<;>omega))
    try simp (disch:=omega) only [L,t,w1,w2,hm',q,e00]
    all_goals rfl
   ·have he':(e != 0)=true:=by simp [he]
    rw [Bv he]
    try unfold Aa
    repeat first
     |((with_reducible first|apply At|apply Ao|apply Aq|apply A0|apply Ba|apply B8|apply Am);· first|with_reducible rfl|(simp (disch:=omega) only [L,t,w1,w2,hm',q,he',L',t']<;>with_reducible rfl))
     |((with_reducible first|apply Ar|apply As);· first|with_reducible rfl|omega|(simp (disch:=omega) only [gT,L,t,w1,w2,hm',q,he',L',t']<;>omega))
     |(with_reducible apply Au;· first|with_reducible rfl|(simp (disch:=omega) only [gF,L,t,w1,w2,hm',q,he',L',t']<;>omega))
    try simp (disch:=omega) only [L,t,w1,w2,hm',q,he',L',t']
    all_goals rfl
  ·subst hm;have hm':((6:Int)==(6:Int))=true:=rfl;rw [hm',Bv rfl];have q:=hf true last at_ o ha ho hx;have fq:=hff true last at_ o (by omega) hx ho
   generalize f true last at_ o=r at q fq ⊢;obtain ⟨e,a,o'⟩:=r;have f1:=fq.at_;have f2:=fq.all;have f4:=fq.top;have f5:=fq.grow;simp only [RA] at q f1 f2 f4 f5 ⊢;have L':=Ee o';have t':List.take (o'.length*3) (Bl o')=Bl o':=Jv (by omega)
   by_cases he:e=0
   rotate_left
   ·have he':(e != 0)=true:=by simp [he]
    rw [Bv he]
    try unfold Aa
    repeat first
     |((with_reducible first|apply At|apply Ao|apply Aq|apply A0|apply Ba|apply B8|apply Am);· first|with_reducible rfl|(simp (disch:=omega) only [L,t,w1,w2,hm',q,he',L',t']<;>with_reducible rfl))
     |((with_reducible first|apply Ar|apply As);· first|with_reducible rfl|omega|(simp (disch:=omega) only [gT,L,t,w1,w2,hm',q,he',L',t']<;>omega))
     |(with_reducible apply Au;· first|with_reducible rfl|(simp (disch:=omega) only [gF,L,t,w1,w2,hm',q,he',L',t']<;>omega))
    try simp (disch:=omega) only [L,t,w1,w2,hm',q,he',L',t']
    all_goals rfl
   subst he;have f5:=f5 rfl;have e00:((0:Int) != 0)=false:=rfl;rw [Az (by simp)]
   obtain ⟨x,hxg⟩:∃x,o'[o.length]?=some x:=⟨_,List.getElem?_eq_getElem f5⟩;have hxo:=f2 x (List.mem_of_getElem? hxg);have gx:o'.getD o.length it0=x:=by rw [List.getD_eq_getElem?_getD,hxg];rfl
   rw [gx];obtain ⟨c0,c1,c2⟩:=aci hxg;have by_:=Zj (fu:=fu) (d:=d) (x:=x) hfu ⟨hxo.1.k1,hxo.1.k8,hxo.1.n0,Nat.le_trans hxo.1.s1 (by omega)⟩ hxo.2
   obtain ⟨xk,xn,xs⟩:=x;unfold It.cells at by_;simp only at c0 c1 c2 by_;have nt:Int.toNat (o.length:Int)=o.length:=Hi _;have q2:=hf false C1 a o' (by omega) f4 f2
   have fq2:=hff false C1 a o' f1 f2 f4;generalize Bj (Bp ⟨xk,xn,xs⟩)=last' at by_ ⊢;generalize f false C1 a o'=r2 at q2 fq2 ⊢;obtain ⟨e2,a2',o2⟩:=r2;have g1:=fq2.at_;have g2:=fq2.all;have g4:=fq2.top;simp only [RA] at q2 g1 g2 g4 ⊢;have L2:=Ee o2;have t2:List.take (o2.length*3) (Bl o2)=Bl o2:=Jv (by omega)
   by_cases he2:e2=0
   ·subst he2;have ih:=MC hfu (a0_0:=a0_0) (a0_1:=a0_1) (a0_2n:=a0_2n) (a0_2:=a0_2) (a1:=a1) (a2:=a2) (a3:=a3) (k:=6) (kn:=kn) (kt:=kt) hd0 hd8 hff hf hn c (i+1) nn last' a2' o2 (by omega) (by omega) (by omega) g4 g2
    rw [hm'] at ih;rw [Az (by simp)]
    simp only [RA] at ih;rw [←ih]
    try unfold Aa
    repeat first
     |((with_reducible first|apply At|apply Ao|apply Aq|apply A0|apply Ba|apply B8|apply Am);· first|with_reducible rfl|(simp (disch:=omega) only [L,t,w1,w2,hm',q,e00,L',t',Ck,nt,c0,c1,c2,by_,q2]<;>with_reducible rfl))
     |((with_reducible first|apply Ar|apply As);· first|with_reducible rfl|omega|(simp (disch:=omega) only [gT,L,t,w1,w2,hm',q,e00,L',t',Ck,nt,c0,c1,c2,by_,q2]<;>omega))
     |(with_reducible apply Au;· first|with_reducible rfl|(simp (disch:=omega) only [gF,L,t,w1,w2,hm',q,e00,L',t',Ck,nt,c0,c1,c2,by_,q2]<;>omega))
    try simp (disch:=omega) only [L,t,w1,w2,hm',q,e00,L',t',Ck,nt,c0,c1,c2,by_,q2]
    all_goals rfl
   ·have he':(e2 != 0)=true:=by simp [he2]
    rw [Bv he2]
    try unfold Aa
    repeat first
     |((with_reducible first|apply At|apply Ao|apply Aq|apply A0|apply Ba|apply B8|apply Am);· first|with_reducible rfl|(simp (disch:=omega) only [L,t,w1,w2,hm',q,e00,L',t',Ck,nt,c0,c1,c2,by_,q2,he',L2,t2]<;>with_reducible rfl))
     |((with_reducible first|apply Ar|apply As);· first|with_reducible rfl|omega|(simp (disch:=omega) only [gT,L,t,w1,w2,hm',q,e00,L',t',Ck,nt,c0,c1,c2,by_,q2,he',L2,t2]<;>omega))
     |(with_reducible apply Au;· first|with_reducible rfl|(simp (disch:=omega) only [gF,L,t,w1,w2,hm',q,e00,L',t',Ck,nt,c0,c1,c2,by_,q2,he',L2,t2]<;>omega))
    try simp (disch:=omega) only [L,t,w1,w2,hm',q,e00,L',t',Ck,nt,c0,c1,c2,by_,q2,he',L2,t2]
    all_goals rfl
theorem Ai9 (hfu:1000<=fu){s:ByteArray}(hs:s.size<=1000000):∀(m:Nat)(depth:Int)(key:Bool)(before:ByteArray)(at_:Nat)(o:List It),0<=depth->9<=depth+m->depth<=9->at_<=s.size->o.length<=512->(∀x∈o,OkR x) ->
  Ad C0 Tryz.prog fu (d+4+m) C7 [.pbox (Ti s at_ o),.sc (.int .i64 depth),.sc (.bool key),.sc (.string before)]=some (RA s (Nr (Cg s) (m+1) depth key before at_ o)):=by
 intro m
 induction m with
 |zero=>
  intro depth key before at_ o d0 dm d9 ha ho hx;have pr:=Alg (fu:=fu) (d:=d) hfu (depth:=depth) (key:=key) (before:=before) hs ha (o:=o) (by omega)
  have hsz:=Ey s;rw [QH,pr];unfold Nr Ug;rw [hsz];by_cases he:(Bc (Cg s) at_).e=0
  rotate_left
  ·rw [Bv he,Bv he,Az he];rfl
  have he':¬((Bc (Cg s) at_).e≠0):=by simp [he]
  rw [Az he',Az he'];by_cases hp:I3 (Bc (Cg s) at_).k (Bc (Cg s) at_).n depth key o.length (s.size-(Bc (Cg s) at_).at_)=0
  ·obtain ⟨_,p2,_⟩:=FB hp;omega
  ·rw [Bv hp,Bv hp,Bv he];rfl
 |succ m ih=>
  intro depth key before at_ o d0 dm d9 ha ho hx;have pr:=Alg (fu:=fu) (d:=d+1+m) hfu (depth:=depth) (key:=key) (before:=before) hs ha (o:=o) (by omega)
  have hsz:=Ey s;have ed:d+1+m+4=d+4+(m+1):=by omega
  have ed':d+4+m=d+1+m+3:=by omega
  rw [ed'] at ih;rw [ed] at pr;rw [pr];have hfine:=Qq (U9 s) (m+1) (depth+1);generalize hR:Nr (Cg s) (m+1) (depth+1)=R at hfine;unfold Nr Ug;rw [hsz,hR];by_cases he:(Bc (Cg s) at_).e=0
  rotate_left
  ·rw [Bv he,Bv he,Az he];rfl
  have he':¬((Bc (Cg s) at_).e≠0):=by simp [he]
  rw [Az he',Az he'];by_cases hp:I3 (Bc (Cg s) at_).k (Bc (Cg s) at_).n depth key o.length (s.size-(Bc (Cg s) at_).at_)=0
  rotate_left
  ·rw [Bv hp,Bv hp,Bv he];rfl
  have hp':¬(I3 (Bc (Cg s) at_).k (Bc (Cg s) at_).n depth key o.length (s.size-(Bc (Cg s) at_).at_)≠0):=by simp [hp]
  rw [Az hp',Az hp'];clear he' hp';obtain ⟨x1,x2,x3⟩:=Akn (U9 s) (by omega) he (by rw [hsz];exact hp)
  obtain ⟨p1,p2,p3,p4⟩:=FB hp;obtain ⟨y1,y2⟩:=Ps (b:=Cg s) (at_:=at_) (U9 s) (by omega)
  obtain ⟨k1,k8,n0,n1,_⟩:=y2 he
  have a2:∀x∈o++[(JB (Cg s) (Bc (Cg s) at_)).1],OkR x:=by
   intro x hx';rcases List.mem_append.1 hx' with hx'|hx'
   ·exact hx x hx'
   ·simp at hx';subst hx';exact x1
  have a3:(o++[(JB (Cg s) (Bc (Cg s) at_)).1]).length=o.length+1:=by simp
  generalize Bc (Cg s) at_=h at *
  obtain ⟨k,n,e,a⟩:=h;simp only at *
  obtain ⟨n,rfl⟩:=Int.eq_ofNat_of_zero_le n0
  have hff:∀kk bb aa oo,aa<=s.size->oo.length<=512->(∀x∈oo,OkR x)->Ad C0 Tryz.prog fu (d+1+m+3) C7 [.pbox (Ti s aa oo),.sc (.int .i64 (depth+1)),.sc (.bool kk),.sc (.string bb)]=some (RA s (R kk bb aa oo)):=by
   intro kk bb aa oo h1 h2 h3;rw [ih (depth+1) kk bb aa oo (by omega) (by omega) (by omega) h1 h2 h3,hR]
  by_cases hdt:Le k=true
  ·obtain ⟨q1,q2⟩:=p3 hdt;have hk34:=(Pp k).1 hdt;have hnest:O4 k=false:=by rcases hk34 with rfl|rfl<;>rfl
   have eX:JB (Cg s) ⟨k,(n:Int),e,a⟩=(⟨k,0,Bj (((Cg s).drop a).take n)⟩,a+n):=by
    unfold JB;rw [Bv hdt];simp
   rw [hdt,hnest,eX];have po:=Aid (fu:=fu) (d:=d+1+m) (a0_0:=s) (a0_1:=(at_:Int)) (a0_2n:=o.length) (a0_2:=Bl o) (a1:=depth) (a2:=key) (a3:=before) hfu (depth:=depth) (k:=k) (n:=n) (nn':=n) (key:=key) (nest:=false) (before:=before) (s:=s) (t0:=C1) (at_:=a) (o:=o) (nn:=fu) (by omega) (by omega) hk34 (by omega) (by omega) hs rfl
   rw [po];simp only;by_cases hq:Hl key before ⟨k,0,Bj (((Cg s).drop a).take n)⟩=0
   ·rw [Bv hq,Az (by simp [hq]),Az (by simp)]
    obtain ⟨nn,rfl⟩:∃nn,fu=nn+1:=⟨fu-1,by omega⟩
    rw [D5,ND];have L:=Ee (o++[It.mk k 0 (Bj (((Cg s).drop a).take n))]);have t:List.take ((o++[It.mk k 0 (Bj (((Cg s).drop a).take n))]).length*3) (Bl (o++[It.mk k 0 (Bj (((Cg s).drop a).take n))]))=Bl (o++[It.mk k 0 (Bj (((Cg s).drop a).take n))]):=Jv (by omega)
    rw [Zd _ _ (by omega),t]
    rfl
   ·rw [Az hq,Bv hq];rfl
  ·have hdt':Le k=false:=by simpa using hdt
   have eX:JB (Cg s) ⟨k,(n:Int),e,a⟩=(⟨k,(n:Int),C1⟩,a):=by
    unfold JB;rw [Az hdt]
   rw [hdt',eX];rw [eX] at a2 a3 x2;have po:=Abs (fu:=fu) (d:=d+1+m) (a0_0:=s) (a0_1:=(at_:Int)) (a0_2n:=o.length) (a0_2:=Bl o) (a1:=depth) (a2:=key) (a3:=before) hfu (depth:=depth) (n:=(n:Int)) (k:=k) (nn':=(n:Int)) (key:=key) (nest:=O4 k) (before:=before) (s:=s) (t:=C1) (at_:=a) (o:=o) (nn:=fu) (by omega) (by omega) ⟨k1,k8⟩ (by omega) (Nat.zero_le _) (.inr (.inr rfl))
   rw [po];simp only at a2 a3 x2 ⊢;by_cases hq:Hl key before ⟨k,(n:Int),C1⟩=0
   rotate_left
   ·rw [Az hq,Bv hq];rfl
   rw [Bv hq,Az (by simp [hq])]
   cases hnest:O4 k
   ·rw [Az (by simp)]
    obtain ⟨nn,rfl⟩:∃nn,fu=nn+1:=⟨fu-1,by omega⟩
    rw [D5,ND];have L:=Ee (o++[It.mk k (n:Int) C1]);have t:List.take ((o++[It.mk k (n:Int) C1]).length*3) (Bl (o++[It.mk k (n:Int) C1]))=Bl (o++[It.mk k (n:Int) C1]):=Jv (by omega)
    rw [Zd _ _ (by omega),t]
    rfl
   ·rw [Bv rfl];have:=p4 hnest;rw [Hi];exact MC hfu d0 p2 hfine hff (by omega) n 0 fu C1 a _ (by omega) (by omega) (by omega) (by omega) a2
def FX (b:List Int):List It × Nat × Int:=if (Nr b 10 0 false C1 0 []).1≠0 then ([],0,(Nr b 10 0 false C1 0 []).1) else ((Nr b 10 0 false C1 0 []).2.2,(Nr b 10 0 false C1 0 []).2.1,0)
theorem Adu (hfu:1000<=fu){b:List Int}(hb:Hg b)(hl:b.length<=1000000):
  Ad C0 Tryz.prog fu (d+14) Nu [.lst false 1 b.length (Af .u8 b)]=some ⟨DA (FX b),[]⟩:=by
 rw [Xt];have L:=Al .u8 b;have bo:=Ff b;have hsz:(Bj b).size=b.length:=Ek b;have it:=Ai9 (fu:=fu) (d:=d) hfu (s:=Bj b) (by omega) 9 0 false C1 0 [] (by omega) (by omega) (by omega) (by omega) (by simp) (by simp)
 have fi:=Qq hb 10 0 false C1 0 [] (by omega) (by simp) (by simp)
 rw [Ld hb] at it;have eB:ByteArray.mk (List.toArray (b.map fun n=>n.toNat.toUInt8))=Bj b:=rfl
 unfold FX;generalize Nr b 10 0 false C1 0 []=r at it fi ⊢;obtain ⟨e,a,o⟩:=r;have f4:=fi.top;simp only [RA] at it f4 ⊢;have LT:=Ee o;have tT:List.take (o.length*3) (Bl o)=Bl o:=Jv (by omega)
 have it':Ad C0 Tryz.prog fu (d+13) C7 [.pbox [.sc (.string (Bj b)),.sc (.int .i64 0),.own 3 0 []],.sc (.int .i64 0),.sc (.bool false),.sc (.string C1)]=some ⟨[.sc (.int .i64 e)],[[.sc (.string (Bj b)),.sc (.int .i64 a),.own 3 o.length (Bl o)]]⟩:=it;clear it;by_cases he:e=0
 ·subst he;have e00:((0:Int) != 0)=false:=rfl;rw [Az (by simp)]
  unfold DA
  try unfold Aa
  repeat first
   |((with_reducible first|apply At|apply Ao|apply Aq|apply A0|apply Ba|apply B8|apply Am);· first|with_reducible rfl|(simp (disch:=omega) only [L,bo,eB,it',e00,LT,tT]<;>with_reducible rfl))
   |((with_reducible first|apply Ar|apply As);· first|with_reducible rfl|omega|(simp (disch:=omega) only [gT,L,bo,eB,it',e00,LT,tT]<;>omega))
   |(with_reducible apply Au;· first|with_reducible rfl|(simp (disch:=omega) only [gF,L,bo,eB,it',e00,LT,tT]<;>omega))
  try simp (disch:=omega) only [L,bo,eB,it',e00,LT,tT]
  all_goals rfl
 ·have he':(e != 0)=true:=by simp [he]
  rw [Bv he];unfold DA
  try unfold Aa
  repeat first
   |((with_reducible first|apply At|apply Ao|apply Aq|apply A0|apply Ba|apply B8|apply Am);· first|with_reducible rfl|(simp (disch:=omega) only [L,bo,eB,it',he',LT,tT]<;>with_reducible rfl))
   |((with_reducible first|apply Ar|apply As);· first|with_reducible rfl|omega|(simp (disch:=omega) only [gT,L,bo,eB,it',he',LT,tT]<;>omega))
   |(with_reducible apply Au;· first|with_reducible rfl|(simp (disch:=omega) only [gF,L,bo,eB,it',he',LT,tT]<;>omega))
  try simp (disch:=omega) only [L,bo,eB,it',he',LT,tT]
  all_goals rfl
end
end
section
open Go.IntKind (wrap)
def Aky (depth:Int)(its:List It):Prop:=
 ∀(b:List Int) (at_:Nat) (rest:List Int) (m:Nat) (o:List It),b.drop at_=Bb its++rest->9<=depth+m->o.length+its.length<=512->Nr b (m+1) depth false C1 at_ o=(0,at_+(Bb its).length,o++its)
theorem Ah3 {x:It}(hx:VJ x)(hn:x.n<=18446744073709551615){depth:Int}(hd:depth<=8):Aky depth [x]:=by
 intro b at_ rest m o h hm ho;have kd:=hx.kd;have hs:=hx.hs;have e1:Bb [x]=Bp x:=by simp [Bb]
 rw [e1] at h ⊢;obtain ⟨q1,q2,q3,q4⟩:=BF (x:=x) hx.hsh (by omega) (by omega) hx.n0 hn hx.hs h
 have ln:x.s.size<=b.length-(at_+((Bp x).length-x.s.size)):=by
  have:=congrArg List.length h;rw [List.length_drop,Hz] at this;omega
 have pe:I3 x.k (XQ x) depth false o.length (b.length-(at_+((Bp x).length-x.s.size)))=0:=by
  unfold I3;simp only [List.length_singleton] at ho;rw [Az (by omega),Az (by simp),Az (by omega)]
  by_cases c34:x.k=3∨x.k=4
  ·have e:XQ x=x.s.size:=by unfold XQ;rw [Bv c34]
   rw [e,Az (by omega),Az (by rw [HF];omega),Az (by omega)]
  ·rw [Az (by rw [Pp];omega),Az (by rw [HF];omega),Az (by rw [Pp];omega)]
 have rx:JB b ⟨x.k,XQ x,0,at_+((Bp x).length-x.s.size)⟩=(x,at_+(Bp x).length):=by
  unfold JB;simp only;by_cases c34:x.k=3∨x.k=4
  ·obtain ⟨z,q2⟩:=q2 c34;have e:XQ x=x.s.size:=by unfold XQ;rw [Bv c34]
   rw [Bv ((Pp _).2 c34),e,Hi,q2,List.take_left' (Ey x.s),Pj];obtain ⟨k,n,s⟩:=x;simp only at z q4 ⊢;subst z
   congr 1
   omega
  ·have q3:=q3 c34;have e:XQ x=x.n:=by unfold XQ;rw [Az c34]
   rw [Az (fun hh=>c34 ((Pp _).1 hh)),e]
   obtain ⟨k,n,s⟩:=x;simp only at q3 ⊢;subst q3;have:(ByteArray.mk #[]).size=0:=rfl;rw [this,Nat.sub_zero]
 unfold Nr;rw [q1];simp only;rw [Az (by simp),pe,Az (by simp),rx]
 have po:Hl false C1 x=0:=by
  unfold Hl;rw [Az (fun hh=>by have:=hx.hv hh.1;have h2:=hh.2;unfold RH at h2;rw [this] at h2;cases h2),Az (by simp)]
 rw [po,Az (by simp),Az (by rw [HF];omega)]
theorem UB {b:List Int}{depth:Int}{rest:List Int}{m:Nat}(hm:9<=depth+1+m):∀(vs:List (List It)) (at_:Nat)(o:List It)(last:ByteArray),(∀v∈vs,Aky (depth+1) v)->b.drop at_=Bb vs.flatten++rest->o.length+vs.flatten.length<=512 ->
  R3 (Nr b (m+1) (depth+1)) false vs.length last at_ o=(0,at_+(Bb vs.flatten).length,o++vs.flatten)
 |[],at_,o,last,hv,h,ho=>by simp [R3,Bb]
 |v::vs,at_,o,last,hv,h,ho=>by
  have e:Bb (v::vs).flatten=Bb v++Bb vs.flatten:=by simp [Bb]
  rw [e,Zzv] at h;simp only [List.flatten_cons,Hz] at ho;have r:=hv v (by simp) b at_ (Bb vs.flatten++rest) m o h hm (by omega)
  have h':b.drop (at_+(Bb v).length)=Bb vs.flatten++rest:=by rw [←List.drop_drop,h,List.drop_left' rfl]
  have ih:=UB hm vs (at_+(Bb v).length) (o++v) last (fun w hw=>hv w (List.mem_cons_of_mem _ hw)) h' (by rw [Hz];omega)
  rw [Kb];unfold R3;rw [Az (by simp),r]
  simp only;rw [Az (by simp),ih,e]
  simp;omega
theorem Aln {vs:List (List It)} {depth:Int}(hv:∀v∈vs,Aky (depth+1) v) (hd:depth<=8)(hl:vs.length<=400):Aky depth (⟨5,vs.length,C1⟩::vs.flatten):=by
 intro b at_ rest m o h hm ho;have e1:Bb (⟨5,vs.length,C1⟩::vs.flatten)=Bp ⟨5,vs.length,C1⟩++Bb vs.flatten:=by simp [Bb]
 rw [e1,Zzv] at h;have z:C1.size=0:=rfl;obtain ⟨q1,q2,q3,q4⟩:=BF (x:=⟨5,vs.length,C1⟩) (b:=b) (at_:=at_) rfl (by simp) (by simp) (by simp) (by simp only;omega) (by rw [z];omega) h
 have e2:XQ ⟨5,vs.length,C1⟩=vs.length:=rfl;simp only [z,Nat.sub_zero] at q1;rw [e2] at q1;simp only [Kb] at ho
 have pe:I3 5 (vs.length:Int) depth false o.length (b.length-(at_+(Bp ⟨5,vs.length,C1⟩).length))=0:=by
  unfold I3;rw [Az (by omega),Az (by simp),Az (by omega),Az (by simp [Le]),Az (by omega),Az (by simp [Le])]
 have rx:JB b ⟨5,(vs.length:Int),0,at_+(Bp ⟨5,vs.length,C1⟩).length⟩=(⟨5,vs.length,C1⟩,at_+(Bp ⟨5,vs.length,C1⟩).length):=by
  unfold JB;rw [Az (by simp [Le])]
 have po:Hl false C1 ⟨5,vs.length,C1⟩=0:=by
  unfold Hl;rw [Az (fun hh=>by simp at hh),Az (by simp)]
 have h':b.drop (at_+(Bp ⟨5,vs.length,C1⟩).length)=Bb vs.flatten++rest:=by rw [←List.drop_drop,h,List.drop_left' rfl]
 unfold Nr;rw [q1];simp only;rw [Az (by simp),pe,Az (by simp),rx]
 simp only;rw [po,Az (by simp),Bv (show O4 5=true from rfl),Hi]
 cases vs with
 |nil=>simp [R3,Bb]
 |cons v vs=>
  obtain ⟨m,rfl⟩:∃k,m=k+1:=⟨m-1,by omega⟩
  have:=UB (b:=b) (rest:=rest) (m:=m) (depth:=depth) (by omega) (v::vs) (at_+(Bp ⟨5,(v::vs).length,C1⟩).length) (o++[⟨5,(v::vs).length,C1⟩]) C1 hv h' (by simp only [Hz,List.length_singleton];omega)
  have e6:((5:Int)==6)=false:=rfl;rw [e6,this,e1];simp;omega
theorem Am2 {its:List It}(h:Aky 0 its)(hl:its.length<=512)(rest:List Int):FX (Bb its++rest)=(its,(Bb its).length,0):=by
 have:=h (Bb its++rest) 0 rest 9 [] (by rw [Di]) (by omega) (by simp;omega)
 unfold FX;rw [this];simp
theorem Acd (c:Ce):((Ku c).map fun x=>[x]).flatten=Ku c:=by simp [Ku]
theorem Afz {c:Ce}(hc:c.ok)(h:Dn c=0):FX (En c)=(A9 c,(Bb (A9 c)).length,0):=by
 obtain ⟨h0,h1,h2,h3,h4,h5,h6,h7,h8,h9⟩:=Kv h;refine Am2 (its:=A9 c) ?_ (by simp [A9]) (Sm c.sig)
 have hf:=W5 hc.wf h0;have u1:=hc.ser;have u2:=hc.mod
 have:=Aln (vs:=(Ku c).map fun x=>[x]) (depth:=0) (by
  intro v hv;obtain ⟨x,hx,rfl⟩:=List.mem_map.1 hv;refine Ah3 (hf x hx) ?_ (by omega)
  simp only [Ku,List.mem_cons,List.not_mem_nil,or_false] at hx;rcases hx with rfl|rfl|rfl|rfl|rfl|rfl|rfl|rfl|rfl
  all_goals simp only
  all_goals try split
  all_goals omega) (by omega) (by simp [Ku])
 rw [Acd] at this;exact this
end
section
open Go.IntKind (wrap)
def Ajh (x:It):Bool:=x.k==5&&(x.n==9&&(x.s==ByteArray.mk #[]&&true))
def Ah2 (b:List Int)(used:Nat):List It->Ce × Int
 |[x0,x1,x2,x3,x4,x5,x6,x7,x8,x9]=>if Ajh x0=false then (V0,2) else (match Zo (Cg x4.s),sgD (b.drop used) with
  |some k,some s=>if x5.n>1099511627776 then (V0,2) else if x6.n>1099511627776 then (V0,2) else if x8.n>2 then (V0,2) else if Dn (Gj x1 x2 x3 x5 x6 x7 x8 x9 k s)=0∧En (Gj x1 x2 x3 x5 x6 x7 x8 x9 k s)=b then (Gj x1 x2 x3 x5 x6 x7 x8 x9 k s,0) else (V0,2)
  |_,_=>(V0,2))
 |_=>(V0,2)
def X6 (b:List Int)(r:List It × Nat × Int):Ce × Int:=
 if b.length>512 then (V0,8) else if r.2.2≠0 then (V0,2) else if r.1.length≠10 then (V0,2) else Ah2 b r.2.1 r.1
theorem Ak6 {c:Ce}(hc:c.ok)(h:Dn c=0):Ah2 (En c) (Bb (A9 c)).length (A9 c)=(c,0):=by
 have k:=Acg hc h;have s:=Ak2 hc h;have cs:=BD h;obtain ⟨h0,h1,h2,h3,h4,h5,h6,h7,h8,h9⟩:=Kv h;have a9:Ajh ⟨5,9,C1⟩=true:=by decide
 have e:Ah2 (En c) (Bb (A9 c)).length (A9 c)=((if Ajh ⟨5,9,C1⟩=false then (V0,2) else (match Zo (Cg (Bj (I7 c.key))),sgD ((En c).drop (Bb (A9 c)).length) with
  |some k,some s=>if c.fr>1099511627776 then (V0,2) else if c.un>1099511627776 then (V0,2) else if c.path>2 then (V0,2) else if Dn (Gj ⟨4,0,c.subj⟩ ⟨4,0,c.iss⟩ ⟨1,c.serial,C1⟩ ⟨1,c.fr,C1⟩ ⟨1,c.un,C1⟩ ⟨7,(if c.auth=true then 1 else 0),C1⟩ ⟨1,c.path,C1⟩ ⟨1,c.model,C1⟩ k s)=0∧En (Gj ⟨4,0,c.subj⟩ ⟨4,0,c.iss⟩ ⟨1,c.serial,C1⟩ ⟨1,c.fr,C1⟩ ⟨1,c.un,C1⟩ ⟨7,(if c.auth=true then 1 else 0),C1⟩ ⟨1,c.path,C1⟩ ⟨1,c.model,C1⟩ k s)=En c then (Gj ⟨4,0,c.subj⟩ ⟨4,0,c.iss⟩ ⟨1,c.serial,C1⟩ ⟨1,c.fr,C1⟩ ⟨1,c.un,C1⟩ ⟨7,(if c.auth=true then 1 else 0),C1⟩ ⟨1,c.path,C1⟩ ⟨1,c.model,C1⟩ k s,0) else (V0,2)
  |_,_=>(V0,2))):Ce × Int):=rfl
 rw [e,a9,Az (by simp),k,s]
 simp only [cs];rw [Az (by omega),Az (by omega),Az (by omega),Bv ⟨h,by trivial⟩]
theorem Ahx {b:List Int}{used:Nat}{its:List It}(hx:∀x∈its,OkX x)(hn:∀c:Ce,c.ok->Dn c=0->En c≠b):Ah2 b used its=(V0,2):=by
 unfold Ah2;split
 ·split
  ·rfl
  ·split
   ·rename_i hk hs;split
    ·rfl
    split
    ·rfl
    split
    ·rfl
    rw [Az];intro ⟨h1,h2⟩;exact hn _ (Xw (hx _ (by simp)) (hx _ (by simp)) (EF hk).2 (NN hs).1) h1 h2
   ·rfl
 ·rfl
theorem Ahv {b:List Int}(hb:Hg b){r:List It × Nat × Int}(hx:∀x∈r.1,OkX x)(hc:∀c:Ce,c.ok->Dn c=0->En c=b->r=(A9 c,(Bb (A9 c)).length,0)):X6 b r=Sw b:=by
 by_cases h5:b.length>512
 ·unfold X6 Sw;rw [Bv h5,Bv h5]
 by_cases hex:∃c:Ce,c.ok∧Dn c=0∧En c=b
 ·obtain ⟨c,c1,c2,c3⟩:=hex;have e:=hc c c1 c2 c3;subst c3;rw [OI c1 c2,e];unfold X6;rw [Az h5,Az (by simp),Az (by simp [A9])]
  exact Ak6 c1 c2
 ·have hn:∀c:Ce,c.ok->Dn c=0->En c≠b:=fun c h1 h2 h3=>hex ⟨c,h1,h2,h3⟩
  rw [TH hb (by omega) hn]
  unfold X6;rw [Az h5,Ahx hx hn];split
  ·rfl
  ·split<;>rfl
section
variable {fu d:Nat}
theorem Ac5 (hfu:1000<=fu){b:List Int}(hb:Hg b)(hl:b.length<=1000000):
  Ad C0 Tryz.prog fu (d+15) Hx [.lst false 1 b.length (Af .u8 b)]=some ⟨[.agg (X6 b (FX b)).1.cells,.sc (.int .i64 (X6 b (FX b)).2)],[]⟩:=by
 refine (Wi fu (d+14) b.length (Af .u8 b)).trans ?_;have dec:=Adu (fu:=fu) (d:=d) hfu hb hl;have fi:=Qq hb 10 0 false C1 0 [] (by omega) (by simp) (by simp)
 have hox:∀x∈(FX b).1,OkX x:=by
  unfold FX;split
  ·intro x hx;simp at hx
  ·intro x hx;exact (fi.all x hx).1
 have hat:(FX b).2.1<=b.length:=by
  unfold FX;split
  ·simp
  ·exact fi.at_
 clear fi;generalize FX b=r at dec hat hox ⊢;obtain ⟨its,used,e⟩:=r;simp only at hat hox;unfold DA at dec;simp only at dec;unfold X6;simp only;by_cases h5:b.length>512
 ·rw [Bv h5]
  try unfold Aa
  repeat first
   |((with_reducible first|apply At|apply Ao|apply Aq|apply A0|apply Ba|apply Bi|apply B8|apply Am);· first|with_reducible rfl|(simp (disch:=omega) only [Bz]<;>with_reducible rfl))
   |((with_reducible first|apply Ar|apply As);· first|with_reducible rfl|omega|(simp (disch:=omega) only [gT,Bz]<;>omega))
   |(with_reducible apply Au;· first|with_reducible rfl|(simp (disch:=omega) only [gF,Bz]<;>omega))
  try simp (disch:=omega) only [Bz]
  all_goals rfl
 rw [Az h5];by_cases he:e=0
 rotate_left
 ·rw [Bv he];have he':(e != 0)=true:=by simp [he]
  try unfold Aa
  repeat first
   |((with_reducible first|apply At|apply Ao|apply Aq|apply A0|apply Ba|apply Bi|apply B8|apply Am);· first|with_reducible rfl|(simp (disch:=omega) only [dec,he']<;>with_reducible rfl))
   |((with_reducible first|apply Ar|apply As);· first|with_reducible rfl|omega|(simp (disch:=omega) only [gT,dec,he']<;>omega))
   |(with_reducible apply Au;· first|with_reducible rfl|(simp (disch:=omega) only [gF,dec,he']<;>omega))
  try simp (disch:=omega) only [dec,he']
  all_goals rfl
 rw [Az (by simp [he])]
 subst he;have e00:((0:Int) != 0)=false:=rfl;have e20:((2:Int) != 0)=true:=rfl;have LT:=Ee its;have tT:List.take (its.length*3) (Bl its)=Bl its:=Jv (by omega)
 by_cases h10:its.length=10
 rotate_left
 ·rw [Bv h10];have hne:((its.length:Int) != 10)=true:=by simp;omega
  try unfold Aa
  repeat first
   |((with_reducible first|apply At|apply Ao|apply Aq|apply A0|apply Ba|apply Bi|apply B8|apply Am);· first|with_reducible rfl|(simp (disch:=omega) only [dec,e00,Di,Ck,LT,tT,hne,Bw,B5]<;>with_reducible rfl))
   |((with_reducible first|apply Ar|apply As);· first|with_reducible rfl|omega|(simp (disch:=omega) only [gT,dec,e00,Di,Ck,LT,tT,hne,Bw,B5]<;>omega))
   |(with_reducible apply Au;· first|with_reducible rfl|(simp (disch:=omega) only [gF,dec,e00,Di,Ck,LT,tT,hne,Bw,B5]<;>omega))
  try simp (disch:=omega) only [dec,e00,Di,Ck,LT,tT,hne,Bw,B5]
  all_goals rfl
 rw [Az (by simp [h10])]
 obtain ⟨x0,x1,x2,x3,x4,x5,x6,x7,x8,x9,rfl⟩:=ZI h10;have o1:=hox x1 (by simp)
 have o2:=hox x2 (by simp)
 have o3:=hox x3 (by simp)
 have o4:=hox x4 (by simp)
 have o9:=hox x9 (by simp)
 clear hox;have g0:List.getD (Bl [x0,x1,x2,x3,x4,x5,x6,x7,x8,x9]) 0 .top=.sc (.int .i64 x0.k):=rfl;have g1:List.getD (Bl [x0,x1,x2,x3,x4,x5,x6,x7,x8,x9]) 1 .top=.sc (.int .u64 x0.n):=rfl;have g2:List.getD (Bl [x0,x1,x2,x3,x4,x5,x6,x7,x8,x9]) 2 .top=.sc (.string x0.s):=rfl;have g14:List.getD (Bl [x0,x1,x2,x3,x4,x5,x6,x7,x8,x9]) 14 .top=.sc (.string x4.s):=rfl;have g5:List.getD (Bl [x0,x1,x2,x3,x4,x5,x6,x7,x8,x9]) 5 .top=.sc (.string x1.s):=rfl;have g8:List.getD (Bl [x0,x1,x2,x3,x4,x5,x6,x7,x8,x9]) 8 .top=.sc (.string x2.s):=rfl;have g10:List.getD (Bl [x0,x1,x2,x3,x4,x5,x6,x7,x8,x9]) 10 .top=.sc (.int .u64 x3.n):=rfl;have g16:List.getD (Bl [x0,x1,x2,x3,x4,x5,x6,x7,x8,x9]) 16 .top=.sc (.int .u64 x5.n):=rfl;have g19:List.getD (Bl [x0,x1,x2,x3,x4,x5,x6,x7,x8,x9]) 19 .top=.sc (.int .u64 x6.n):=rfl
 have g22:List.getD (Bl [x0,x1,x2,x3,x4,x5,x6,x7,x8,x9]) 22 .top=.sc (.int .u64 x7.n):=rfl;have g25:List.getD (Bl [x0,x1,x2,x3,x4,x5,x6,x7,x8,x9]) 25 .top=.sc (.int .u64 x8.n):=rfl;have g28:List.getD (Bl [x0,x1,x2,x3,x4,x5,x6,x7,x8,x9]) 28 .top=.sc (.int .u64 x9.n):=rfl;have ln:[x0,x1,x2,x3,x4,x5,x6,x7,x8,x9].length=10:=rfl;rw [ln] at dec LT tT;have l10:(((10:Nat):Int) != 10)=false:=rfl;generalize Bl [x0,x1,x2,x3,x4,x5,x6,x7,x8,x9]=T at *
 clear h10;have hs4:=o4.s1;have L4:(Dh x4.s).length=x4.s.size:=by rw [Ib,Al,Ey]
 have t4:List.take x4.s.size (Dh x4.s)=Af .u8 (Cg x4.s):=by rw [Ib,Jv (by rw [Al,Ey];omega)]
 have ar:=SQ (fu:=fu) (d:=d+13) 9 (by omega) (by omega)
 have dk:=Aci (fu:=fu) (d:=d+12) hfu (U9 x4.s);rw [Ey] at dk;unfold Ah2;simp only;have ea:(x0.k==5&&(x0.n==9&&(x0.s==ByteArray.mk #[]&&true)))=Ajh x0:=rfl;cases ha:Ajh x0
 ·rw [ha] at ea;rw [Bv rfl]
  try unfold Aa
  repeat first
   |((with_reducible first|apply At|apply Ao|apply Aq|apply A0|apply Ba|apply Bi|apply B8|apply Am);· first|with_reducible rfl|(simp (disch:=omega) only [dec,e00,e20,l10,Di,Ck,Bz,Nat.reduceMul,LT,tT,g0,g1,g2,ar,ea,Bw,B5]<;>with_reducible rfl))
   |((with_reducible first|apply Ar|apply As);· first|with_reducible rfl|omega|(simp (disch:=omega) only [gT,dec,e00,e20,l10,Di,Ck,Bz,Nat.reduceMul,LT,tT,g0,g1,g2,ar,ea,Bw,B5]<;>omega))
   |(with_reducible apply Au;· first|with_reducible rfl|(simp (disch:=omega) only [gF,dec,e00,e20,l10,Di,Ck,Bz,Nat.reduceMul,LT,tT,g0,g1,g2,ar,ea,Bw,B5]<;>omega))
  try simp (disch:=omega) only [dec,e00,e20,l10,Di,Ck,Bz,Nat.reduceMul,LT,tT,g0,g1,g2,ar,ea,Bw,B5]
  all_goals rfl
 rw [ha] at ea;rw [Az (by simp)]
 cases hk:Zo (Cg x4.s) with
 |none=>
  rw [hk] at dk;simp only [GO,Ky.cells] at dk
  try unfold Aa
  repeat first
   |((with_reducible first|apply At|apply Ao|apply Aq|apply A0|apply Ba|apply Bi|apply B8|apply Am);· first|with_reducible rfl|(simp (disch:=omega) only [dec,e00,e20,l10,Di,Ck,Bz,Nat.reduceMul,LT,tT,g0,g1,g2,ar,ea,g14,L4,t4,dk,Bw,B5]<;>with_reducible rfl))
   |((with_reducible first|apply Ar|apply As);· first|with_reducible rfl|omega|(simp (disch:=omega) only [gT,dec,e00,e20,l10,Di,Ck,Bz,Nat.reduceMul,LT,tT,g0,g1,g2,ar,ea,g14,L4,t4,dk,Bw,B5]<;>omega))
   |(with_reducible apply Au;· first|with_reducible rfl|(simp (disch:=omega) only [gF,dec,e00,e20,l10,Di,Ck,Bz,Nat.reduceMul,LT,tT,g0,g1,g2,ar,ea,g14,L4,t4,dk,Bw,B5]<;>omega))
  try simp (disch:=omega) only [dec,e00,e20,l10,Di,Ck,Bz,Nat.reduceMul,LT,tT,g0,g1,g2,ar,ea,g14,L4,t4,dk,Bw,B5]
  all_goals rfl
 |some k=>
  rw [hk] at dk;simp only [GO,Ky.cells] at dk;obtain ⟨k1,k2⟩:=EF hk;have ds:=Ad2 (fu:=fu) (d:=d+12) hfu (l:=b.drop used) (fun x hx=>hb x (List.mem_of_mem_drop hx))
  rw [List.length_drop] at ds;have tb:List.take (b.length-used) (List.drop used (Af .u8 b))=Af .u8 (b.drop used):=by rw [Fs,Jv (by rw [Al,List.length_drop];omega)]
  have nu:Int.toNat (used:Int)=used:=Hi used;cases hs:sgD (b.drop used) with
  |none=>
   rw [hs] at ds;simp only [MP,Sg.owned] at ds
   try unfold Aa
   repeat first
    |((with_reducible first|apply At|apply Ao|apply Aq|apply A0|apply Ba|apply Bi|apply B8|apply Am);· first|with_reducible rfl|(simp (disch:=omega) only [dec,e00,e20,l10,Di,Ck,Bz,Nat.reduceMul,LT,tT,g0,g1,g2,ar,ea,g14,L4,t4,dk,nu,tb,ds,Bw,B5]<;>with_reducible rfl))
    |((with_reducible first|apply Ar|apply As);· first|with_reducible rfl|omega|(simp (disch:=omega) only [gT,dec,e00,e20,l10,Di,Ck,Bz,Nat.reduceMul,LT,tT,g0,g1,g2,ar,ea,g14,L4,t4,dk,nu,tb,ds,Bw,B5]<;>omega))
    |(with_reducible apply Au;· first|with_reducible rfl|(simp (disch:=omega) only [gF,dec,e00,e20,l10,Di,Ck,Bz,Nat.reduceMul,LT,tT,g0,g1,g2,ar,ea,g14,L4,t4,dk,nu,tb,ds,Bw,B5]<;>omega))
   try simp (disch:=omega) only [dec,e00,e20,l10,Di,Ck,Bz,Nat.reduceMul,LT,tT,g0,g1,g2,ar,ea,g14,L4,t4,dk,nu,tb,ds,Bw,B5]
   all_goals rfl
  |some s=>
   rw [hs] at ds;simp only [MP,Sg.owned] at ds;obtain ⟨s1,s2,s3⟩:=NN hs;simp only;by_cases n5:x5.n>1099511627776
   ·rw [Bv n5]
    try unfold Aa
    repeat first
     |((with_reducible first|apply At|apply Ao|apply Aq|apply A0|apply Ba|apply Bi|apply B8|apply Am);· first|with_reducible rfl|(simp (disch:=omega) only [dec,e00,e20,l10,Di,Ck,Bz,Nat.reduceMul,LT,tT,g0,g1,g2,ar,ea,g14,L4,t4,dk,nu,tb,ds,g16,Bw,B5]<;>with_reducible rfl))
     |((with_reducible first|apply Ar|apply As);· first|with_reducible rfl|omega|(simp (disch:=omega) only [gT,dec,e00,e20,l10,Di,Ck,Bz,Nat.reduceMul,LT,tT,g0,g1,g2,ar,ea,g14,L4,t4,dk,nu,tb,ds,g16,Bw,B5]<;>omega))
     |(with_reducible apply Au;· first|with_reducible rfl|(simp (disch:=omega) only [gF,dec,e00,e20,l10,Di,Ck,Bz,Nat.reduceMul,LT,tT,g0,g1,g2,ar,ea,g14,L4,t4,dk,nu,tb,ds,g16,Bw,B5]<;>omega))
    try simp (disch:=omega) only [dec,e00,e20,l10,Di,Ck,Bz,Nat.reduceMul,LT,tT,g0,g1,g2,ar,ea,g14,L4,t4,dk,nu,tb,ds,g16,Bw,B5]
    all_goals rfl
   rw [Az n5];by_cases n6:x6.n>1099511627776
   ·rw [Bv n6]
    try unfold Aa
    repeat first
     |((with_reducible first|apply At|apply Ao|apply Aq|apply A0|apply Ba|apply Bi|apply B8|apply Am);· first|with_reducible rfl|(simp (disch:=omega) only [dec,e00,e20,l10,Di,Ck,Bz,Nat.reduceMul,LT,tT,g0,g1,g2,ar,ea,g14,L4,t4,dk,nu,tb,ds,g16,g19,Bw,B5]<;>with_reducible rfl))
     |((with_reducible first|apply Ar|apply As);· first|with_reducible rfl|omega|(simp (disch:=omega) only [gT,dec,e00,e20,l10,Di,Ck,Bz,Nat.reduceMul,LT,tT,g0,g1,g2,ar,ea,g14,L4,t4,dk,nu,tb,ds,g16,g19,Bw,B5]<;>omega))
     |(with_reducible apply Au;· first|with_reducible rfl|(simp (disch:=omega) only [gF,dec,e00,e20,l10,Di,Ck,Bz,Nat.reduceMul,LT,tT,g0,g1,g2,ar,ea,g14,L4,t4,dk,nu,tb,ds,g16,g19,Bw,B5]<;>omega))
    try simp (disch:=omega) only [dec,e00,e20,l10,Di,Ck,Bz,Nat.reduceMul,LT,tT,g0,g1,g2,ar,ea,g14,L4,t4,dk,nu,tb,ds,g16,g19,Bw,B5]
    all_goals rfl
   rw [Az n6];by_cases n8:x8.n>2
   ·rw [Bv n8]
    try unfold Aa
    repeat first
     |((with_reducible first|apply At|apply Ao|apply Aq|apply A0|apply Ba|apply Bi|apply B8|apply Am);· first|with_reducible rfl|(simp (disch:=omega) only [dec,e00,e20,l10,Di,Ck,Bz,Nat.reduceMul,LT,tT,g0,g1,g2,ar,ea,g14,L4,t4,dk,nu,tb,ds,g16,g19,g25,Bw,B5]<;>with_reducible rfl))
     |((with_reducible first|apply Ar|apply As);· first|with_reducible rfl|omega|(simp (disch:=omega) only [gT,dec,e00,e20,l10,Di,Ck,Bz,Nat.reduceMul,LT,tT,g0,g1,g2,ar,ea,g14,L4,t4,dk,nu,tb,ds,g16,g19,g25,Bw,B5]<;>omega))
     |(with_reducible apply Au;· first|with_reducible rfl|(simp (disch:=omega) only [gF,dec,e00,e20,l10,Di,Ck,Bz,Nat.reduceMul,LT,tT,g0,g1,g2,ar,ea,g14,L4,t4,dk,nu,tb,ds,g16,g19,g25,Bw,B5]<;>omega))
    try simp (disch:=omega) only [dec,e00,e20,l10,Di,Ck,Bz,Nat.reduceMul,LT,tT,g0,g1,g2,ar,ea,g14,L4,t4,dk,nu,tb,ds,g16,g19,g25,Bw,B5]
    all_goals rfl
   rw [Az n8];have cok:(Gj x1 x2 x3 x5 x6 x7 x8 x9 k s).ok:=Xw o3 o9 k2 s1;have en:=Aea (fu:=fu) (d:=d+8) (c:=Gj x1 x2 x3 x5 x6 x7 x8 x9 k s) hfu cok.wf (Nat.le_trans o1.s1 (by omega)) (Nat.le_trans o2.s1 (by omega)) (Nat.le_trans s2 (by omega))
   have ec:(Gj x1 x2 x3 x5 x6 x7 x8 x9 k s).cells=[.sc (.string x1.s),.sc (.string x2.s),.sc (.int .u64 x3.n),.sc (.int .i64 k.h),.sc (.int .u64 k.root),.sc (.int .i64 (wrap .i64 x5.n)),.sc (.int .i64 (wrap .i64 x6.n)),.sc (.bool (x7.n==1)),.sc (.int .i64 (wrap .i64 x8.n)),.sc (.int .u64 x9.n),.sc (.int .i64 s.leaf),.lst false 1 s.chains.length (Af .u64 s.chains),.lst false 1 s.path.length (Af .u64 s.path)]:=rfl;have eB:=fun h=>VD (c:=Gj x1 x2 x3 x5 x6 x7 x8 x9 k s) cok.wf h
   have eL:=fun h=>Ya (c:=Gj x1 x2 x3 x5 x6 x7 x8 x9 k s) h
   have Lc:=Al .u64 s.chains;have Lp:=Al .u64 s.path;have tc:=Ii .u64 s.chains;have tp:=Ii .u64 s.path;generalize Gj x1 x2 x3 x5 x6 x7 x8 x9 k s=c at *
   rw [ec] at en;unfold Uo at en;by_cases hz:Dn c=0
   rotate_left
   ·have hz':(Dn c != 0)=true:=by simp [hz]
    rw [Az hz] at en;rw [Az (fun h=>hz h.1)]
    try unfold Aa
    repeat first
     |((with_reducible first|apply At|apply Ao|apply Aq|apply A0|apply Ba|apply Bi|apply B8|apply Am);· first|with_reducible rfl|(simp (disch:=omega) only [dec,e00,e20,l10,Di,Ck,Bz,Nat.reduceMul,LT,tT,g0,g1,g2,ar,ea,g14,L4,t4,dk,nu,tb,ds,g5,g8,g10,g16,g19,g22,g25,g28,Lc,Lp,tc,tp,en,hz',Bw,B5]<;>with_reducible rfl))
     |((with_reducible first|apply Ar|apply As);· first|with_reducible rfl|omega|(simp (disch:=omega) only [gT,dec,e00,e20,l10,Di,Ck,Bz,Nat.reduceMul,LT,tT,g0,g1,g2,ar,ea,g14,L4,t4,dk,nu,tb,ds,g5,g8,g10,g16,g19,g22,g25,g28,Lc,Lp,tc,tp,en,hz',Bw,B5]<;>omega))
     |(with_reducible apply Au;· first|with_reducible rfl|(simp (disch:=omega) only [gF,dec,e00,e20,l10,Di,Ck,Bz,Nat.reduceMul,LT,tT,g0,g1,g2,ar,ea,g14,L4,t4,dk,nu,tb,ds,g5,g8,g10,g16,g19,g22,g25,g28,Lc,Lp,tc,tp,en,hz',Bw,B5]<;>omega))
    try simp (disch:=omega) only [dec,e00,e20,l10,Di,Ck,Bz,Nat.reduceMul,LT,tT,g0,g1,g2,ar,ea,g14,L4,t4,dk,nu,tb,ds,g5,g8,g10,g16,g19,g22,g25,g28,Lc,Lp,tc,tp,en,hz',Bw,B5]
    all_goals rfl
   rw [Bv hz] at en;have be:=Ast (eB hz) hb;have LE:=Al .u8 (En c);have tE:=Ii .u8 (En c);have oE:=Ff (En c);have LB:=Al .u8 b;have oB:=Ff b;by_cases hq:En c=b
   ·rw [Bv ⟨hz,hq⟩];simp only [hq,decide_true] at be en LE tE oE;simp only [ec]
    try unfold Aa
    repeat first
     |((with_reducible first|apply At|apply Ao|apply Aq|apply A0|apply Ba|apply Bi|apply B8|apply Am);· first|with_reducible rfl|(simp (disch:=omega) only [dec,e00,e20,l10,Di,Ck,Bz,Nat.reduceMul,LT,tT,g0,g1,g2,ar,ea,g14,L4,t4,dk,nu,tb,ds,g5,g8,g10,g16,g19,g22,g25,g28,Lc,Lp,tc,tp,en,LE,tE,oE,LB,oB,be,Bw,B5]<;>with_reducible rfl))
     |((with_reducible first|apply Ar|apply As);· first|with_reducible rfl|omega|(simp (disch:=omega) only [gT,dec,e00,e20,l10,Di,Ck,Bz,Nat.reduceMul,LT,tT,g0,g1,g2,ar,ea,g14,L4,t4,dk,nu,tb,ds,g5,g8,g10,g16,g19,g22,g25,g28,Lc,Lp,tc,tp,en,LE,tE,oE,LB,oB,be,Bw,B5]<;>omega))
     |(with_reducible apply Au;· first|with_reducible rfl|(simp (disch:=omega) only [gF,dec,e00,e20,l10,Di,Ck,Bz,Nat.reduceMul,LT,tT,g0,g1,g2,ar,ea,g14,L4,t4,dk,nu,tb,ds,g5,g8,g10,g16,g19,g22,g25,g28,Lc,Lp,tc,tp,en,LE,tE,oE,LB,oB,be,Bw,B5]<;>omega))
    try simp (disch:=omega) only [dec,e00,e20,l10,Di,Ck,Bz,Nat.reduceMul,LT,tT,g0,g1,g2,ar,ea,g14,L4,t4,dk,nu,tb,ds,g5,g8,g10,g16,g19,g22,g25,g28,Lc,Lp,tc,tp,en,LE,tE,oE,LB,oB,be,Bw,B5]
    all_goals rfl
   ·rw [Az (fun h=>hq h.2)]
    simp only [hq,decide_false] at be
    try unfold Aa
    repeat first
     |((with_reducible first|apply At|apply Ao|apply Aq|apply A0|apply Ba|apply Bi|apply B8|apply Am);· first|with_reducible rfl|(simp (disch:=omega) only [dec,e00,e20,l10,Di,Ck,Bz,Nat.reduceMul,LT,tT,g0,g1,g2,ar,ea,g14,L4,t4,dk,nu,tb,ds,g5,g8,g10,g16,g19,g22,g25,g28,Lc,Lp,tc,tp,en,LE,tE,oE,LB,oB,be,Bw,B5]<;>with_reducible rfl))
     |((with_reducible first|apply Ar|apply As);· first|with_reducible rfl|omega|(simp (disch:=omega) only [gT,dec,e00,e20,l10,Di,Ck,Bz,Nat.reduceMul,LT,tT,g0,g1,g2,ar,ea,g14,L4,t4,dk,nu,tb,ds,g5,g8,g10,g16,g19,g22,g25,g28,Lc,Lp,tc,tp,en,LE,tE,oE,LB,oB,be,Bw,B5]<;>omega))
     |(with_reducible apply Au;· first|with_reducible rfl|(simp (disch:=omega) only [gF,dec,e00,e20,l10,Di,Ck,Bz,Nat.reduceMul,LT,tT,g0,g1,g2,ar,ea,g14,L4,t4,dk,nu,tb,ds,g5,g8,g10,g16,g19,g22,g25,g28,Lc,Lp,tc,tp,en,LE,tE,oE,LB,oB,be,Bw,B5]<;>omega))
    try simp (disch:=omega) only [dec,e00,e20,l10,Di,Ck,Bz,Nat.reduceMul,LT,tT,g0,g1,g2,ar,ea,g14,L4,t4,dk,nu,tb,ds,g5,g8,g10,g16,g19,g22,g25,g28,Lc,Lp,tc,tp,en,LE,tE,oE,LB,oB,be,Bw,B5]
    all_goals rfl
theorem Al9 (hfu:1000<=fu){b:List Int}(hb:Hg b)(hl:b.length<=1000000):
  Ad C0 Tryz.prog fu (d+15) Hx [.lst false 1 b.length (Af .u8 b)]=some ⟨[.agg (Sw b).1.cells,.sc (.int .i64 (Sw b).2)],[]⟩:=by
 have fi:=Qq hb 10 0 false C1 0 [] (by omega) (by simp) (by simp)
 have e:X6 b (FX b)=Sw b:=Ahv hb (by
  unfold FX;split
  ·intro x hx;simp at hx
  ·intro x hx;exact (fi.all x hx).1) (fun c c1 c2 c3=>by subst c3;exact Afz c1 c2)
 rw [←e];exact Ac5 hfu hb hl
end
end
section
open Go.IntKind (wrap)
structure An where
 name:ByteArray
 key:Ky
structure Rv where
 iss:ByteArray
 ser:Int
 at_:Int
def An.cells (a:An):List PV:=[.sc (.string a.name),.sc (.int .i64 a.key.h),.sc (.int .u64 a.key.root)]
def Rv.cells (r:Rv):List PV:=[.sc (.string r.iss),.sc (.int .u64 r.ser),.sc (.int .i64 r.at_)]
def FM (l:List An):List PV:=l.flatMap An.cells
def V3 (l:List Rv):List PV:=l.flatMap Rv.cells
def Jb (l:List Ce):List PV:=l.flatMap Ce.cells
theorem An.cells_len (a:An):a.cells.length=3:=rfl
theorem Rv.cells_len (r:Rv):r.cells.length=3:=rfl
theorem Ce.cells_len (c:Ce):c.cells.length=13:=rfl
abbrev eqS (a b:ByteArray):Bool:=Array.toList (ByteArray.data a)==Array.toList (ByteArray.data b)
def US (c:Ce)(now:Int)(r:Rv):Bool:=eqS r.iss c.iss&&(r.ser==c.serial&&decide (r.at_<=now))
def ZT (c:Ce)(now:Int)(l:List Rv):Int:=if l.any (US c now)=true then 39 else 0
def Rz (c:Ce)(i:Int)(l:List Rv)(now:Int):Int:=
 if Bd c≠0 then Bd c else if now<c.fr then 38 else if now>c.un then 38 else if i>0 then (if c.auth=false then 38 else if c.path<i-1 then 38 else ZT c now l) else ZT c now l
def Yo (c:Ce):Nat->List An->Int
 |_,[]=> -1
 |i,a::r=>if eqS a.name c.iss=true∧IC c a.key=0 then (i:Int) else Yo c (i+1) r
def Ak5 (c:Ce)(l:List An):Int × Int:=if Yo c 0 l<0 then (0,38) else (Yo c 0 l,0)
def QE (ans:List An)(vs:List Rv)(now:Int):Nat->List Ce->Int × Int
 |_,[]=>(0,0)
 |i,[c]=>if Rz c i vs now≠0 then (0,Rz c i vs now) else Ak5 c ans
 |i,c::c2::r=>if Rz c i vs now≠0 then (0,Rz c i vs now) else if eqS c.iss c2.subj=false then (0,38) else if IC c c2.key≠0 then (0,IC c c2.key) else QE ans vs now (i+1) (c2::r)
def YC (cs:List Ce)(ans:List An)(vs:List Rv)(now:Int):Int × Int:=
 if now<0 then (0,9) else if now>1099511627776 then (0,9) else if cs.length<1 then (0,38) else if cs.length>3 then (0,38) else QE ans vs now 0 cs
structure Ce.in_ (c:Ce):Prop where
 wf:c.wf
 s1:c.subj.size<=9223372036854775807
 s2:c.iss.size<=9223372036854775807
theorem cer {l:List Ce}{i:Nat}{c:Ce}(h:l[i]?=some c):
  (Jb l).getD (i*13) .top=.sc (.string c.subj)∧(Jb l).getD (i*13+1) .top=.sc (.string c.iss)∧(Jb l).getD (i*13+1+1) .top=.sc (.int .u64 c.serial) ∧
  (Jb l).getD (i*13+1+1+1) .top=.sc (.int .i64 c.key.h)∧(Jb l).getD (i*13+1+1+1+1) .top=.sc (.int .u64 c.key.root)∧(Jb l).getD (i*13+1+1+1+1+1) .top=.sc (.int .i64 c.fr) ∧
  (Jb l).getD (i*13+1+1+1+1+1+1) .top=.sc (.int .i64 c.un)∧(Jb l).getD (i*13+1+1+1+1+1+1+1) .top=.sc (.bool c.auth)∧(Jb l).getD (i*13+1+1+1+1+1+1+1+1) .top=.sc (.int .i64 c.path) ∧
  (Jb l).getD (i*13+1+1+1+1+1+1+1+1+1) .top=.sc (.int .u64 c.model)∧(Jb l).getD (i*13+1+1+1+1+1+1+1+1+1+1) .top=.sc (.int .i64 c.sig.leaf) ∧
  (Jb l).getD (i*13+1+1+1+1+1+1+1+1+1+1+1) .top=.lst false 1 c.sig.chains.length (Af .u64 c.sig.chains)∧(Jb l).getD (i*13+1+1+1+1+1+1+1+1+1+1+1+1) .top=.lst false 1 c.sig.path.length (Af .u64 c.sig.path):=
 ⟨Ep Ce.cells_len h (j:=0) (by omega),Ep Ce.cells_len h (j:=1) (by omega),Ep Ce.cells_len h (j:=2) (by omega),Ep Ce.cells_len h (j:=3) (by omega),Ep Ce.cells_len h (j:=4) (by omega),Ep Ce.cells_len h (j:=5) (by omega),Ep Ce.cells_len h (j:=6) (by omega),Ep Ce.cells_len h (j:=7) (by omega),Ep Ce.cells_len h (j:=8) (by omega),Ep Ce.cells_len h (j:=9) (by omega),Ep Ce.cells_len h (j:=10) (by omega),Ep Ce.cells_len h (j:=11) (by omega),Ep Ce.cells_len h (j:=12) (by omega)⟩
theorem rva {l:List Rv}{i:Nat}{r:Rv}(h:l[i]?=some r):(V3 l).getD (i*3) .top=.sc (.string r.iss)∧(V3 l).getD (i*3+1) .top=.sc (.int .u64 r.ser)∧(V3 l).getD (i*3+2) .top=.sc (.int .i64 r.at_):=
 ⟨Ep Rv.cells_len h (j:=0) (by omega),Ep Rv.cells_len h (j:=1) (by omega),Ep Rv.cells_len h (j:=2) (by omega)⟩
theorem ana {l:List An}{i:Nat}{a:An}(h:l[i]?=some a):(FM l).getD (i*3) .top=.sc (.string a.name)∧(FM l).getD (i*3+1) .top=.sc (.int .i64 a.key.h)∧(FM l).getD (i*3+2) .top=.sc (.int .u64 a.key.root):=
 ⟨Ep An.cells_len h (j:=0) (by omega),Ep An.cells_len h (j:=1) (by omega),Ep An.cells_len h (j:=2) (by omega)⟩
section
variable {fu d:Nat}
theorem TX {call:Ah}{a0_0 a0_1:ByteArray}{a0_2 a0_3 a0_4 a0_5 a0_6 a0_8 a0_9 a0_10 a1 a3:Int}{a0_7:Bool}{a0_11n a0_12n a2n:Nat}{a0_11 a0_12 a2:List PV}{c:Ce}{now:Int}{vs:List Rv}(hl:vs.length<=1000000):∀(r:List Rv)(i nn:Nat),vs.drop i=r->r.length<nn->i<=vs.length ->
  Cx fu call a0_0 a0_1 a0_2 a0_3 a0_4 a0_5 a0_6 a0_7 a0_8 a0_9 a0_10 a0_11n a0_11 a0_12n a0_12 a1 a2n a2 a3 nn now vs.length (V3 vs) (vs.length:Int) (i:Int) c.subj c.iss c.serial c.key.h c.key.root c.fr c.un c.auth c.path c.model c.sig.leaf c.sig.chains.length (Af .u64 c.sig.chains) c.sig.path.length (Af .u64 c.sig.path) =
   some ⟨[.sc (.int .i64 (ZT c now r))],[]⟩
 |_,_,0,_,h,_=>by omega
 |[],i,nn+1,h,hn,hi=>by
  have:=drop_nil h;rw [H8,Dv _ _ _ (by omega)]
  rfl
 |r::rs,i,nn+1,h,hn,hi=>by
  obtain ⟨h1,h2,h3⟩:=Cz h;simp only [Kb] at hn;obtain ⟨c0,c1,c2⟩:=rva h2;have w:wrap .i64 ((i:Int)+1)=((i+1:Nat):Int):=by rw [Ak (by omega) (by omega)];omega
  have nt:Int.toNat (i:Int)=i:=Hi _;have c2':(V3 vs).getD (i*3+1+1) .top=.sc (.int .i64 r.at_):=c2;have ih:=TX (call:=call) (a0_0:=a0_0) (a0_1:=a0_1) (a0_2:=a0_2) (a0_3:=a0_3) (a0_4:=a0_4) (a0_5:=a0_5) (a0_6:=a0_6) (a0_7:=a0_7) (a0_8:=a0_8) (a0_9:=a0_9) (a0_10:=a0_10) (a1:=a1) (a3:=a3) (a0_11n:=a0_11n) (a0_12n:=a0_12n) (a2n:=a2n) (a0_11:=a0_11) (a0_12:=a0_12) (a2:=a2) (c:=c) (now:=now) hl rs (i+1) nn h3 (by omega) (by omega)
  have er:ZT c now (r::rs)=if US c now r=true then 39 else ZT c now rs:=by
   unfold ZT;rw [List.any_cons];cases US c now r<;>rfl
  rw [er,H8];unfold US;cases e1:eqS r.iss c.iss
  ·rw [Bool.false_and,Az (by simp),←ih]
   try unfold Aa
   repeat first
    |((with_reducible first|apply At|apply Ao|apply Aq|apply A6|apply A0|apply Ba|apply Dd|apply Am);· first|with_reducible rfl|(simp (disch:=omega) only [nt,c0,c1,c2',e1,w]<;>with_reducible rfl))
    |((with_reducible first|apply Ar|apply As);· first|with_reducible rfl|omega|(simp (disch:=omega) only [gT,nt,c0,c1,c2',e1,w]<;>omega))
    |(with_reducible apply Au;· first|with_reducible rfl|(simp (disch:=omega) only [gF,nt,c0,c1,c2',e1,w]<;>omega))
   try simp (disch:=omega) only [nt,c0,c1,c2',e1,w]
   all_goals rfl
  ·cases e2:(r.ser==c.serial)
   ·rw [Bool.true_and,Bool.false_and,Az (by simp),←ih]
    try unfold Aa
    repeat first
     |((with_reducible first|apply At|apply Ao|apply Aq|apply A6|apply A0|apply Ba|apply Dd|apply Am);· first|with_reducible rfl|(simp (disch:=omega) only [nt,c0,c1,c2',e1,e2,w]<;>with_reducible rfl))
     |((with_reducible first|apply Ar|apply As);· first|with_reducible rfl|omega|(simp (disch:=omega) only [gT,nt,c0,c1,c2',e1,e2,w]<;>omega))
     |(with_reducible apply Au;· first|with_reducible rfl|(simp (disch:=omega) only [gF,nt,c0,c1,c2',e1,e2,w]<;>omega))
    try simp (disch:=omega) only [nt,c0,c1,c2',e1,e2,w]
    all_goals rfl
   ·by_cases e3:r.at_<=now
    ·rw [Bv (by simp [e3])]
     try unfold Aa
     repeat first
      |((with_reducible first|apply At|apply Ao|apply Aq|apply A6|apply A0|apply Ba|apply Dd|apply Am);· first|with_reducible rfl|(simp (disch:=omega) only [nt,c0,c1,c2',e1,e2,w]<;>with_reducible rfl))
      |((with_reducible first|apply Ar|apply As);· first|with_reducible rfl|omega|(simp (disch:=omega) only [gT,nt,c0,c1,c2',e1,e2,w]<;>omega))
      |(with_reducible apply Au;· first|with_reducible rfl|(simp (disch:=omega) only [gF,nt,c0,c1,c2',e1,e2,w]<;>omega))
     try simp (disch:=omega) only [nt,c0,c1,c2',e1,e2,w]
     all_goals rfl
    ·rw [Az (by simp [e3]),←ih]
     try unfold Aa
     repeat first
      |((with_reducible first|apply At|apply Ao|apply Aq|apply A6|apply A0|apply Ba|apply Dd|apply Am);· first|with_reducible rfl|(simp (disch:=omega) only [nt,c0,c1,c2',e1,e2,w]<;>with_reducible rfl))
      |((with_reducible first|apply Ar|apply As);· first|with_reducible rfl|omega|(simp (disch:=omega) only [gT,nt,c0,c1,c2',e1,e2,w]<;>omega))
      |(with_reducible apply Au;· first|with_reducible rfl|(simp (disch:=omega) only [gF,nt,c0,c1,c2',e1,e2,w]<;>omega))
     try simp (disch:=omega) only [nt,c0,c1,c2',e1,e2,w]
     all_goals rfl
theorem Afd (hfu:1000<=fu){c:Ce}(hc:c.in_){vs:List Rv}(hl:vs.length<=900){i:Int}(hi:0<=i)(hi':i<=1000)(now:Int):
  Ad C0 Tryz.prog fu (d+8) Jt [.agg c.cells,.sc (.int .i64 i),.lst false 3 vs.length (V3 vs),.sc (.int .i64 now)]=some ⟨[.sc (.int .i64 (Rz c i vs now))],[]⟩:=by
 refine (Th fu (d+7) c.subj c.iss c.serial c.key.h c.key.root c.fr c.un c.auth c.path c.model c.sig.leaf c.sig.chains.length (Af .u64 c.sig.chains) c.sig.path.length (Af .u64 c.sig.path) i vs.length (V3 vs) now).trans ?_;have bq:=MT (fu:=fu) (d:=d) hfu hc.wf hc.s1 hc.s2;simp only [Ce.cells] at bq;unfold Hk at bq;have lp:=TX (fu:=fu) (call:=Ad C0 Tryz.prog fu (d+7)) (a0_0:=c.subj) (a0_1:=c.iss) (a0_2:=c.serial) (a0_3:=c.key.h) (a0_4:=c.key.root) (a0_5:=c.fr) (a0_6:=c.un) (a0_7:=c.auth) (a0_8:=c.path) (a0_9:=c.model) (a0_10:=c.sig.leaf) (a1:=i) (a3:=now) (a0_11n:=c.sig.chains.length) (a0_12n:=c.sig.path.length) (a2n:=vs.length) (a0_11:=Af .u64 c.sig.chains) (a0_12:=Af .u64 c.sig.path) (a2:=V3 vs) (c:=c) (now:=now) (vs:=vs) (by omega) vs 0 fu rfl (by omega) (by omega)
 unfold Rz;by_cases h0:Bd c=0
 rotate_left
 ·have hne:(Bd c != 0)=true:=by simp [h0]
  rw [Az h0] at bq;rw [Bv h0]
  try unfold Aa
  repeat first
   |((with_reducible first|apply At|apply Ao|apply Aq|apply A6|apply A0|apply Ba|apply Dd|apply Am);· first|with_reducible rfl|(simp (disch:=omega) only [bq,hne]<;>with_reducible rfl))
   |((with_reducible first|apply Ar|apply As);· first|with_reducible rfl|omega|(simp (disch:=omega) only [gT,bq,hne]<;>omega))
   |(with_reducible apply Au;· first|with_reducible rfl|(simp (disch:=omega) only [gF,bq,hne]<;>omega))
  try simp (disch:=omega) only [bq,hne]
  all_goals rfl
 rw [Bv h0] at bq;rw [Az (by simp [h0])]
 have e00:((0:Int) != 0)=false:=rfl;have w:wrap .i64 (i-1)=i-1:=Ak (by omega) (by omega)
 by_cases h1:now<c.fr
 ·rw [Bv h1]
  try unfold Aa
  repeat first
   |((with_reducible first|apply At|apply Ao|apply Aq|apply A6|apply A0|apply Ba|apply Dd|apply Am);· first|with_reducible rfl|(simp (disch:=omega) only [bq,e00]<;>with_reducible rfl))
   |((with_reducible first|apply Ar|apply As);· first|with_reducible rfl|omega|(simp (disch:=omega) only [gT,bq,e00]<;>omega))
   |(with_reducible apply Au;· first|with_reducible rfl|(simp (disch:=omega) only [gF,bq,e00]<;>omega))
  try simp (disch:=omega) only [bq,e00]
  all_goals rfl
 rw [Az h1];by_cases h2:now>c.un
 ·rw [Bv h2]
  try unfold Aa
  repeat first
   |((with_reducible first|apply At|apply Ao|apply Aq|apply A6|apply A0|apply Ba|apply Dd|apply Am);· first|with_reducible rfl|(simp (disch:=omega) only [bq,e00]<;>with_reducible rfl))
   |((with_reducible first|apply Ar|apply As);· first|with_reducible rfl|omega|(simp (disch:=omega) only [gT,bq,e00]<;>omega))
   |(with_reducible apply Au;· first|with_reducible rfl|(simp (disch:=omega) only [gF,bq,e00]<;>omega))
  try simp (disch:=omega) only [bq,e00]
  all_goals rfl
 rw [Az h2];by_cases h3:i>0
 ·rw [Bv h3];cases h4:c.auth
  ·rw [Bv rfl];rw [h4] at bq
   try unfold Aa
   repeat first
    |((with_reducible first|apply At|apply Ao|apply Aq|apply A6|apply A0|apply Ba|apply Dd|apply Am);· first|with_reducible rfl|(simp (disch:=omega) only [bq,e00,B5]<;>with_reducible rfl))
    |((with_reducible first|apply Ar|apply As);· first|with_reducible rfl|omega|(simp (disch:=omega) only [gT,bq,e00,B5]<;>omega))
    |(with_reducible apply Au;· first|with_reducible rfl|(simp (disch:=omega) only [gF,bq,e00,B5]<;>omega))
   try simp (disch:=omega) only [bq,e00,B5]
   all_goals rfl
  ·rw [Az (by simp)]
   rw [h4] at lp bq;by_cases h5:c.path<i-1
   ·rw [Bv h5]
    try unfold Aa
    repeat first
     |((with_reducible first|apply At|apply Ao|apply Aq|apply A6|apply A0|apply Ba|apply Dd|apply Am);· first|with_reducible rfl|(simp (disch:=omega) only [bq,e00,h4,w,Bw]<;>with_reducible rfl))
     |((with_reducible first|apply Ar|apply As);· first|with_reducible rfl|omega|(simp (disch:=omega) only [gT,bq,e00,h4,w,Bw]<;>omega))
     |(with_reducible apply Au;· first|with_reducible rfl|(simp (disch:=omega) only [gF,bq,e00,h4,w,Bw]<;>omega))
    try simp (disch:=omega) only [bq,e00,h4,w,Bw]
    all_goals rfl
   ·rw [Az h5,←lp]
    try unfold Aa
    repeat first
     |((with_reducible first|apply At|apply Ao|apply Aq|apply A6|apply A0|apply Ba|apply Dd|apply Am);· first|with_reducible rfl|(simp (disch:=omega) only [bq,e00,h4,w,Bw]<;>with_reducible rfl))
     |((with_reducible first|apply Ar|apply As);· first|with_reducible rfl|omega|(simp (disch:=omega) only [gT,bq,e00,h4,w,Bw]<;>omega))
     |(with_reducible apply Au;· first|with_reducible rfl|(simp (disch:=omega) only [gF,bq,e00,h4,w,Bw]<;>omega))
    try simp (disch:=omega) only [bq,e00,h4,w,Bw]
    all_goals rfl
 ·rw [Az h3,←lp]
  try unfold Aa
  repeat first
   |((with_reducible first|apply At|apply Ao|apply Aq|apply A6|apply A0|apply Ba|apply Dd|apply Am);· first|with_reducible rfl|(simp (disch:=omega) only [bq,e00]<;>with_reducible rfl))
   |((with_reducible first|apply Ar|apply As);· first|with_reducible rfl|omega|(simp (disch:=omega) only [gT,bq,e00]<;>omega))
   |(with_reducible apply Au;· first|with_reducible rfl|(simp (disch:=omega) only [gF,bq,e00]<;>omega))
  try simp (disch:=omega) only [bq,e00]
  all_goals rfl
theorem DP (hfu:1000<=fu){a0n a1n a2n:Nat}{a0 a1 a2:List PV}{a3:Int}{c:Ce}(hc:c.in_){ans:List An}(hl:ans.length<=1000000):∀(r:List An)(i nn:Nat),ans.drop i=r->r.length<nn->i<=ans.length ->
  El fu (Ad C0 Tryz.prog fu (d+9)) a0n a0 a1n a1 a2n a2 a3 nn ans.length (FM ans) (ans.length:Int) (i:Int) c.subj c.iss c.serial c.key.h c.key.root c.fr c.un c.auth c.path c.model c.sig.leaf c.sig.chains.length (Af .u64 c.sig.chains) c.sig.path.length (Af .u64 c.sig.path) =
   some ⟨(if Yo c i r<0 then [.sc (.int .i64 0),.sc (.int .i64 38)] else [.sc (.int .i64 (Yo c i r)),.sc (.int .i64 0)]),[]⟩
 |_,_,0,_,h,_=>by omega
 |[],i,nn+1,h,hn,hi=>by
  have:=drop_nil h;rw [Me,Dv _ _ _ (by omega)]
  rfl
 |a::rs,i,nn+1,h,hn,hi=>by
  obtain ⟨h1,h2,h3⟩:=Cz h;simp only [Kb] at hn;obtain ⟨c0,c1,c2⟩:=ana h2;have w:wrap .i64 ((i:Int)+1)=((i+1:Nat):Int):=by rw [Ak (by omega) (by omega)];omega
  have nt:Int.toNat (i:Int)=i:=Hi _;have c2':(FM ans).getD (i*3+1+1) .top=.sc (.int .u64 a.key.root):=c2;have vq:=Aah (fu:=fu) (d:=d) hfu hc.wf hc.s1 hc.s2 a.key;simp only [Ce.cells,Ky.cells] at vq;have ih:=DP hfu (a0n:=a0n) (a1n:=a1n) (a2n:=a2n) (a0:=a0) (a1:=a1) (a2:=a2) (a3:=a3) hc hl rs (i+1) nn h3 (by omega) (by omega)
  rw [Me];cases e1:eqS a.name c.iss
  ·have er:Yo c i (a::rs)=Yo c (i+1) rs:=by rw [Yo,Az (by simp [e1])]
   rw [er,←ih]
   try unfold Aa
   repeat first
    |((with_reducible first|apply At|apply Ao|apply Aq|apply A6|apply A0|apply Ba|apply Dd|apply Am);· first|with_reducible rfl|(simp (disch:=omega) only [nt,c0,c1,c2',e1,w]<;>with_reducible rfl))
    |((with_reducible first|apply Ar|apply As);· first|with_reducible rfl|omega|(simp (disch:=omega) only [gT,nt,c0,c1,c2',e1,w]<;>omega))
    |(with_reducible apply Au;· first|with_reducible rfl|(simp (disch:=omega) only [gF,nt,c0,c1,c2',e1,w]<;>omega))
   try simp (disch:=omega) only [nt,c0,c1,c2',e1,w]
   all_goals rfl
  ·by_cases e2:IC c a.key=0
   ·have e2':(IC c a.key==0)=true:=by simp [e2]
    have er:Yo c i (a::rs)=(i:Int):=by rw [Yo,Bv ⟨e1,e2⟩]
    rw [er,Az (by omega)]
    try unfold Aa
    repeat first
     |((with_reducible first|apply At|apply Ao|apply Aq|apply A6|apply A0|apply Ba|apply Dd|apply Am);· first|with_reducible rfl|(simp (disch:=omega) only [nt,c0,c1,c2',e1,w,vq,e2']<;>with_reducible rfl))
     |((with_reducible first|apply Ar|apply As);· first|with_reducible rfl|omega|(simp (disch:=omega) only [gT,nt,c0,c1,c2',e1,w,vq,e2']<;>omega))
     |(with_reducible apply Au;· first|with_reducible rfl|(simp (disch:=omega) only [gF,nt,c0,c1,c2',e1,w,vq,e2']<;>omega))
    try simp (disch:=omega) only [nt,c0,c1,c2',e1,w,vq,e2']
    all_goals rfl
   ·have e2':(IC c a.key==0)=false:=by simp [e2]
    have er:Yo c i (a::rs)=Yo c (i+1) rs:=by rw [Yo,Az (by simp [e2])]
    rw [er,←ih]
    try unfold Aa
    repeat first
     |((with_reducible first|apply At|apply Ao|apply Aq|apply A6|apply A0|apply Ba|apply Dd|apply Am);· first|with_reducible rfl|(simp (disch:=omega) only [nt,c0,c1,c2',e1,w,vq,e2']<;>with_reducible rfl))
     |((with_reducible first|apply Ar|apply As);· first|with_reducible rfl|omega|(simp (disch:=omega) only [gT,nt,c0,c1,c2',e1,w,vq,e2']<;>omega))
     |(with_reducible apply Au;· first|with_reducible rfl|(simp (disch:=omega) only [gF,nt,c0,c1,c2',e1,w,vq,e2']<;>omega))
    try simp (disch:=omega) only [nt,c0,c1,c2',e1,w,vq,e2']
    all_goals rfl
theorem UP (hfu:1000<=fu){a0n a1n a2n:Nat}{a0 a1 a2:List PV}{a3:Int}{cs:List Ce}(hc:∀c∈cs,c.in_)(h3:cs.length<=3){ans:List An}(hl:ans.length<=900){vs:List Rv}(hv:vs.length<=900){now:Int}:∀(r:List Ce)(i nn:Nat),r≠[]->cs.drop i=r->r.length<nn->i<=cs.length ->
  Gu fu (Ad C0 Tryz.prog fu (d+9)) a0n a0 a1n a1 a2n a2 a3 nn cs.length (Jb cs) ans.length (FM ans) vs.length (V3 vs) now cs.length (Jb cs) (cs.length:Int) (i:Int) =
   some ⟨[.sc (.int .i64 (QE ans vs now i r).1),.sc (.int .i64 (QE ans vs now i r).2)],[]⟩
 |_,_,0,_,_,h,_=>by omega
 |[],i,nn+1,hne,_,_,_=>absurd rfl hne
 |[c],i,nn+1,hne,h,hn,hi=>by
  obtain ⟨h1,h2,h3'⟩:=Cz h;have hlast:=drop_nil h3';have hci:=hc c (List.mem_of_getElem? h2);obtain ⟨c0,c1,c2,c3,c4,c5,c6,c7,c8,c9,c10,c11,c12⟩:=cer h2;have nt:Int.toNat (i:Int)=i:=Hi _;have lk:=Afd (fu:=fu) (d:=d+1) hfu hci hv (i:=(i:Int)) (by omega) (by omega) now
  simp only [Ce.cells] at lk;have w:wrap .i64 ((cs.length:Int)-1)=(i:Int):=by rw [Ak (by omega) (by omega)];omega
  have eb:((i:Int)==(i:Int))=true:=by simp
  rw [Mc];unfold QE;by_cases hz:Rz c i vs now=0
  ·have pa:=DP (fu:=fu) (d:=d) hfu (a0n:=a0n) (a1n:=a1n) (a2n:=a2n) (a0:=a0) (a1:=a1) (a2:=a2) (a3:=a3) hci (ans:=ans) (by omega) ans 0 fu rfl (by omega) (by omega)
   have e0:(Rz c i vs now != 0)=false:=by simp [hz]
   have ea:(some ⟨(if Yo c 0 ans<0 then [.sc (.int .i64 0),.sc (.int .i64 38)] else [.sc (.int .i64 (Yo c 0 ans)),.sc (.int .i64 0)]),[]⟩:Option Aw)=some ⟨[.sc (.int .i64 (Ak5 c ans).1),.sc (.int .i64 (Ak5 c ans).2)],[]⟩:=by
    unfold Ak5;split<;>rfl
   rw [ea] at pa;rw [Az (by simp [hz]),←pa]
   try unfold Aa
   repeat first
    |((with_reducible first|apply At|apply Ao|apply Aq|apply A6|apply A0|apply Ba|apply Dd|apply Am);· first|with_reducible rfl|(simp (disch:=omega) only [nt,c0,c1,c2,c3,c4,c5,c6,c7,c8,c9,c10,c11,c12,lk,e0,w,eb]<;>with_reducible rfl))
    |((with_reducible first|apply Ar|apply As);· first|with_reducible rfl|omega|(simp (disch:=omega) only [gT,nt,c0,c1,c2,c3,c4,c5,c6,c7,c8,c9,c10,c11,c12,lk,e0,w,eb]<;>omega))
    |(with_reducible apply Au;· first|with_reducible rfl|(simp (disch:=omega) only [gF,nt,c0,c1,c2,c3,c4,c5,c6,c7,c8,c9,c10,c11,c12,lk,e0,w,eb]<;>omega))
   try simp (disch:=omega) only [nt,c0,c1,c2,c3,c4,c5,c6,c7,c8,c9,c10,c11,c12,lk,e0,w,eb]
   all_goals rfl
  ·have e0:(Rz c i vs now != 0)=true:=by simp [hz]
   rw [Bv hz]
   try unfold Aa
   repeat first
    |((with_reducible first|apply At|apply Ao|apply Aq|apply A6|apply A0|apply Ba|apply Dd|apply Am);· first|with_reducible rfl|(simp (disch:=omega) only [nt,c0,c1,c2,c3,c4,c5,c6,c7,c8,c9,c10,c11,c12,lk,e0]<;>with_reducible rfl))
    |((with_reducible first|apply Ar|apply As);· first|with_reducible rfl|omega|(simp (disch:=omega) only [gT,nt,c0,c1,c2,c3,c4,c5,c6,c7,c8,c9,c10,c11,c12,lk,e0]<;>omega))
    |(with_reducible apply Au;· first|with_reducible rfl|(simp (disch:=omega) only [gF,nt,c0,c1,c2,c3,c4,c5,c6,c7,c8,c9,c10,c11,c12,lk,e0]<;>omega))
   try simp (disch:=omega) only [nt,c0,c1,c2,c3,c4,c5,c6,c7,c8,c9,c10,c11,c12,lk,e0]
   all_goals rfl
 |c::e::r,i,nn+1,hne,h,hn,hi=>by
  obtain ⟨h1,h2,h3'⟩:=Cz h;obtain ⟨k1,k2,k3⟩:=Cz h3';simp only [Kb] at hn;have hci:=hc c (List.mem_of_getElem? h2);obtain ⟨c0,c1,c2,c3,c4,c5,c6,c7,c8,c9,c10,c11,c12⟩:=cer h2;obtain ⟨q0,q1,q2,q3,q4,_⟩:=cer k2;have nt:Int.toNat (i:Int)=i:=Hi _;have nt1:Int.toNat ((i+1:Nat):Int)=i+1:=Hi _;have lk:=Afd (fu:=fu) (d:=d+1) hfu hci hv (i:=(i:Int)) (by omega) (by omega) now
  simp only [Ce.cells] at lk;have w:wrap .i64 ((cs.length:Int)-1)=(cs.length:Int)-1:=Ak (by omega) (by omega)
  have w1:wrap .i64 ((i:Int)+1)=((i+1:Nat):Int):=by rw [Ak (by omega) (by omega)];omega
  have eb:((i:Int)==(cs.length:Int)-1)=false:=by simp;omega
  have q3':(Jb cs).getD ((i+1)*13+3) .top=.sc (.int .i64 e.key.h):=q3;have q4':(Jb cs).getD ((i+1)*13+3+1) .top=.sc (.int .u64 e.key.root):=q4;have vq:=Aah (fu:=fu) (d:=d) hfu hci.wf hci.s1 hci.s2 e.key;simp only [Ce.cells,Ky.cells] at vq;rw [Mc];unfold QE;by_cases hz:Rz c i vs now=0
  rotate_left
  ·have e0:(Rz c i vs now != 0)=true:=by simp [hz]
   rw [Bv hz]
   try unfold Aa
   repeat first
    |((with_reducible first|apply At|apply Ao|apply Aq|apply A6|apply A0|apply Ba|apply Dd|apply Am);· first|with_reducible rfl|(simp (disch:=omega) only [nt,c0,c1,c2,c3,c4,c5,c6,c7,c8,c9,c10,c11,c12,lk,e0]<;>with_reducible rfl))
    |((with_reducible first|apply Ar|apply As);· first|with_reducible rfl|omega|(simp (disch:=omega) only [gT,nt,c0,c1,c2,c3,c4,c5,c6,c7,c8,c9,c10,c11,c12,lk,e0]<;>omega))
    |(with_reducible apply Au;· first|with_reducible rfl|(simp (disch:=omega) only [gF,nt,c0,c1,c2,c3,c4,c5,c6,c7,c8,c9,c10,c11,c12,lk,e0]<;>omega))
   try simp (disch:=omega) only [nt,c0,c1,c2,c3,c4,c5,c6,c7,c8,c9,c10,c11,c12,lk,e0]
   all_goals rfl
  have e0:(Rz c i vs now != 0)=false:=by simp [hz]
  rw [Az (by simp [hz])]
  cases es:eqS c.iss e.subj
  ·rw [Bv rfl]
   try unfold Aa
   repeat first
    |((with_reducible first|apply At|apply Ao|apply Aq|apply A6|apply A0|apply Ba|apply Dd|apply Am);· first|with_reducible rfl|(simp (disch:=omega) only [nt,nt1,QH,c0,c1,c2,c3,c4,c5,c6,c7,c8,c9,c10,c11,c12,lk,e0,w,eb,w1,q0,es,B5]<;>with_reducible rfl))
    |((with_reducible first|apply Ar|apply As);· first|with_reducible rfl|omega|(simp (disch:=omega) only [gT,nt,nt1,QH,c0,c1,c2,c3,c4,c5,c6,c7,c8,c9,c10,c11,c12,lk,e0,w,eb,w1,q0,es,B5]<;>omega))
    |(with_reducible apply Au;· first|with_reducible rfl|(simp (disch:=omega) only [gF,nt,nt1,QH,c0,c1,c2,c3,c4,c5,c6,c7,c8,c9,c10,c11,c12,lk,e0,w,eb,w1,q0,es,B5]<;>omega))
   try simp (disch:=omega) only [nt,nt1,QH,c0,c1,c2,c3,c4,c5,c6,c7,c8,c9,c10,c11,c12,lk,e0,w,eb,w1,q0,es,B5]
   all_goals rfl
  rw [Az (by simp)]
  by_cases hv':IC c e.key=0
  ·have v0:(IC c e.key != 0)=false:=by simp [hv']
   have ih:=UP hfu (a0n:=a0n) (a1n:=a1n) (a2n:=a2n) (a0:=a0) (a1:=a1) (a2:=a2) (a3:=a3) hc h3 hl hv (now:=now) (e::r) (i+1) nn (by simp) h3' (by simp only [Kb];omega) (by omega)
   rw [Az (by simp [hv']),←ih]
   try unfold Aa
   repeat first
    |((with_reducible first|apply At|apply Ao|apply Aq|apply A6|apply A0|apply Ba|apply Dd|apply Am);· first|with_reducible rfl|(simp (disch:=omega) only [nt,nt1,QH,c0,c1,c2,c3,c4,c5,c6,c7,c8,c9,c10,c11,c12,lk,e0,w,eb,w1,q0,es,q3',q4',vq,v0,Bw]<;>with_reducible rfl))
    |((with_reducible first|apply Ar|apply As);· first|with_reducible rfl|omega|(simp (disch:=omega) only [gT,nt,nt1,QH,c0,c1,c2,c3,c4,c5,c6,c7,c8,c9,c10,c11,c12,lk,e0,w,eb,w1,q0,es,q3',q4',vq,v0,Bw]<;>omega))
    |(with_reducible apply Au;· first|with_reducible rfl|(simp (disch:=omega) only [gF,nt,nt1,QH,c0,c1,c2,c3,c4,c5,c6,c7,c8,c9,c10,c11,c12,lk,e0,w,eb,w1,q0,es,q3',q4',vq,v0,Bw]<;>omega))
   try simp (disch:=omega) only [nt,nt1,QH,c0,c1,c2,c3,c4,c5,c6,c7,c8,c9,c10,c11,c12,lk,e0,w,eb,w1,q0,es,q3',q4',vq,v0,Bw]
   all_goals rfl
  ·have v0:(IC c e.key != 0)=true:=by simp [hv']
   rw [Bv hv']
   try unfold Aa
   repeat first
    |((with_reducible first|apply At|apply Ao|apply Aq|apply A6|apply A0|apply Ba|apply Dd|apply Am);· first|with_reducible rfl|(simp (disch:=omega) only [nt,nt1,QH,c0,c1,c2,c3,c4,c5,c6,c7,c8,c9,c10,c11,c12,lk,e0,w,eb,w1,q0,es,q3',q4',vq,v0,Bw]<;>with_reducible rfl))
    |((with_reducible first|apply Ar|apply As);· first|with_reducible rfl|omega|(simp (disch:=omega) only [gT,nt,nt1,QH,c0,c1,c2,c3,c4,c5,c6,c7,c8,c9,c10,c11,c12,lk,e0,w,eb,w1,q0,es,q3',q4',vq,v0,Bw]<;>omega))
    |(with_reducible apply Au;· first|with_reducible rfl|(simp (disch:=omega) only [gF,nt,nt1,QH,c0,c1,c2,c3,c4,c5,c6,c7,c8,c9,c10,c11,c12,lk,e0,w,eb,w1,q0,es,q3',q4',vq,v0,Bw]<;>omega))
   try simp (disch:=omega) only [nt,nt1,QH,c0,c1,c2,c3,c4,c5,c6,c7,c8,c9,c10,c11,c12,lk,e0,w,eb,w1,q0,es,q3',q4',vq,v0,Bw]
   all_goals rfl
theorem Aak (hfu:1000<=fu){cs:List Ce}(hc:∀c∈cs,c.in_){ans:List An}(hl:ans.length<=900){vs:List Rv}(hv:vs.length<=900)(now:Int):
  Ad C0 Tryz.prog fu (d+10) Qe [.lst false 13 cs.length (Jb cs),.lst false 3 ans.length (FM ans),.lst false 3 vs.length (V3 vs),.sc (.int .i64 now)]=some ⟨[.sc (.int .i64 (YC cs ans vs now).1),.sc (.int .i64 (YC cs ans vs now).2)],[]⟩:=by
 rw [BB];unfold YC;by_cases h1:now<0
 ·rw [Bv h1]
  try unfold Aa
  repeat first
   |((with_reducible first|apply At|apply Ao|apply Aq|apply A6|apply A0|apply Ba|apply Dd|apply Am);· first|with_reducible rfl|(simp (disch:=omega) only [Bz]<;>with_reducible rfl))
   |((with_reducible first|apply Ar|apply As);· first|with_reducible rfl|omega|(simp (disch:=omega) only [gT,Bz]<;>omega))
   |(with_reducible apply Au;· first|with_reducible rfl|(simp (disch:=omega) only [gF,Bz]<;>omega))
  try simp (disch:=omega) only [Bz]
  all_goals rfl
 rw [Az h1];by_cases h2:now>1099511627776
 ·rw [Bv h2]
  try unfold Aa
  repeat first
   |((with_reducible first|apply At|apply Ao|apply Aq|apply A6|apply A0|apply Ba|apply Dd|apply Am);· first|with_reducible rfl|(simp (disch:=omega) only [Bz]<;>with_reducible rfl))
   |((with_reducible first|apply Ar|apply As);· first|with_reducible rfl|omega|(simp (disch:=omega) only [gT,Bz]<;>omega))
   |(with_reducible apply Au;· first|with_reducible rfl|(simp (disch:=omega) only [gF,Bz]<;>omega))
  try simp (disch:=omega) only [Bz]
  all_goals rfl
 rw [Az h2];by_cases h3:cs.length<1
 ·rw [Bv h3]
  try unfold Aa
  repeat first
   |((with_reducible first|apply At|apply Ao|apply Aq|apply A6|apply A0|apply Ba|apply Dd|apply Am);· first|with_reducible rfl|(simp (disch:=omega) only [Bz]<;>with_reducible rfl))
   |((with_reducible first|apply Ar|apply As);· first|with_reducible rfl|omega|(simp (disch:=omega) only [gT,Bz]<;>omega))
   |(with_reducible apply Au;· first|with_reducible rfl|(simp (disch:=omega) only [gF,Bz]<;>omega))
  try simp (disch:=omega) only [Bz]
  all_goals rfl
 rw [Az h3];by_cases h4:cs.length>3
 ·rw [Bv h4]
  try unfold Aa
  repeat first
   |((with_reducible first|apply At|apply Ao|apply Aq|apply A6|apply A0|apply Ba|apply Dd|apply Am);· first|with_reducible rfl|(simp (disch:=omega) only [Bz]<;>with_reducible rfl))
   |((with_reducible first|apply Ar|apply As);· first|with_reducible rfl|omega|(simp (disch:=omega) only [gT,Bz]<;>omega))
   |(with_reducible apply Au;· first|with_reducible rfl|(simp (disch:=omega) only [gF,Bz]<;>omega))
  try simp (disch:=omega) only [Bz]
  all_goals rfl
 rw [Az h4];have lp:=UP (fu:=fu) (d:=d) hfu (a0n:=cs.length) (a1n:=ans.length) (a2n:=vs.length) (a0:=Jb cs) (a1:=FM ans) (a2:=V3 vs) (a3:=now) hc (by omega) hl hv (now:=now) cs 0 fu (by intro h;subst h;simp at h3) rfl (by omega) (by omega)
 rw [←lp]
 try unfold Aa
 repeat first
  |((with_reducible first|apply At|apply Ao|apply Aq|apply A6|apply A0|apply Ba|apply Dd|apply Am);· first|with_reducible rfl|(simp (disch:=omega) only [Bz]<;>with_reducible rfl))
  |((with_reducible first|apply Ar|apply As);· first|with_reducible rfl|omega|(simp (disch:=omega) only [gT,Bz]<;>omega))
  |(with_reducible apply Au;· first|with_reducible rfl|(simp (disch:=omega) only [gF,Bz]<;>omega))
 try simp (disch:=omega) only [Bz]
 all_goals rfl
end
end
section
open Go.IntKind (wrap)
set_option maxRecDepth 100000
abbrev Rk:FuncId:=11
theorem FH (fu d a0n:Nat)(a0:List PV):Ad C0 Tryz.prog fu (d+1) Rk [.lst false 1 a0n a0]=(fun (call:Ah)=>some (Aw.mk [.pbox [.lst false 1 a0n a0,.sc (.int .i64 0)]] [])) (Ad C0 Tryz.prog fu d):=by kernel_rfl
abbrev Rn:FuncId:=16
theorem FF (fu d:Nat)(a0 a1:Int):Ad C0 Tryz.prog fu (d+1) Rn [.sc (.int .i64 a0),.sc (.int .i64 a1)]=(fun (call:Ah)=>Aa (wrap .u64 a0) fun x1=>Aa (wrap .u64 a1) fun x2=>Ap (decide (x2≠0))<|Aa (Int.tmod x1 x2) fun x3=>Aa (wrap .i64 x3) fun x4=>some (Aw.mk [.sc (.int .i64 x4)] [])) (Ad C0 Tryz.prog fu d):=by kernel_rfl
abbrev J8:FuncId:=14
theorem Jw (fu d a0_0n:Nat)(a0_0:List PV)(a0_1 a1:Int):Ad C0 Tryz.prog fu (d+1) J8 [.pbox [.lst false 1 a0_0n a0_0,.sc (.int .i64 a0_1)],.sc (.int .i64 a1)]=(fun (call:Ah)=>A3 (decide (a0_1>=(↑a0_0n:Int))) (some (Aw.mk [.sc (.int .i64 0)] [[.lst false 1 a0_0n a0_0,.sc (.int .i64 a0_1)]])) (Aa (wrap .i64 (a0_1+1)) fun x1=>Aa (wrap .i64 (x1-1)) fun x2=>Ap (decide (0<=x2)&&decide (x2<(↑a0_0n:Int)))<|Ae .i64 (List.getD a0_0 (Int.toNat x2*1) .top) fun x3=>Ag (call 16 [.sc (.int .i64 x3),.sc (.int .i64 a1)]) fun x4 x5=>Ac x5<|Ab x4 fun x6 x7=>Ae .i64 x6 fun x8=>Ac x7<|some (Aw.mk [.sc (.int .i64 x8)] [[.lst false 1 a0_0n a0_0,.sc (.int .i64 x1)]]))) (Ad C0 Tryz.prog fu d):=by kernel_rfl
end
section
open Go.IntKind (wrap)
abbrev dkc (l:List Int)(a:Nat):List PV:=[.lst false 1 l.length (Af .i64 l),.sc (.int .i64 (a:Int))]
theorem Ap3 {fu d:Nat}{l:List Int}:Ad C0 Tryz.prog fu (d+1) Rk [.lst false 1 l.length (Af .i64 l)]=some ⟨[.pbox (dkc l 0)],[]⟩:=by
 rw [FH];rfl
theorem Ai4 (v n:Int)(hn:0<n)(hm:n<=9223372036854775807):∃r,0<=r∧r<n∧∀{fu d:Nat},Ad C0 Tryz.prog fu (d+1) Rn [.sc (.int .i64 v),.sc (.int .i64 n)]=some ⟨[.sc (.int .i64 r)],[]⟩:=by
 have h1:=Bn v;have h2:wrap .u64 n=n:=Ch (by omega) (by omega)
 have h3:0<=Int.tmod (wrap .u64 v) n:=Int.tmod_nonneg _ h1.1;have h4:Int.tmod (wrap .u64 v) n<n:=Int.tmod_lt_of_pos _ hn;refine ⟨_,h3,h4,fun {fu d}=>?_⟩
 rw [FF];simp only [Ha,h2];rw [Zd _ _ (by omega),Ak (by omega) (by omega)]
theorem Ga {l:List Int}(hl:l.length<=maxLen)(a:Nat)(n:Int)(hn:0<n)(hm:n<=9223372036854775807):∃(v:Int)(a':Nat),0<=v∧v<n ∧
  ∀{fu d:Nat},Ad C0 Tryz.prog fu (d+2) J8 [.pbox (dkc l a),.sc (.int .i64 n)]=some ⟨[.sc (.int .i64 v)],[dkc l a']⟩:=by
 simp only [maxLen] at hl;by_cases h:a<l.length
 ·obtain ⟨r,h1,h2,h3⟩:=Ai4 l[a] n hn hm;refine ⟨r,a+1,h1,h2,fun {fu d}=>?_⟩
  rw [Jw]
  have hg:(Af .i64 l).getD (Int.toNat ((a:Int)+1-1)*1) .top=.sc (.int .i64 l[a]):=by
   have:=Po (k:=.i64) (List.getElem?_eq_getElem h);rw [show Int.toNat ((a:Int)+1-1)*1=a by omega]
   exact this
  simp (disch:=omega) only [Bx,Ak,hg,h3];rfl
 ·refine ⟨0,a,by omega,hn,fun {fu d}=>?_⟩
  rw [Jw];simp (disch:=omega) only [Bx]
end
section
open Go.IntKind (wrap)
set_option maxRecDepth 100000
abbrev Rp:FuncId:=29
theorem DW (fu d:Nat)(a0 a1:Int):Ad C0 Tryz.prog fu (d+1) Rp [.sc (.int .u64 a0),.sc (.int .i64 a1)]=(fun (call:Ah)=>Ag (call 18 [.sc (.int .u64 a0),.sc (.int .i64 a1)]) fun x1 x2=>Ac x2<|Ab x1 fun x3 x4=>Dt x3 fun x5=>Ab x5 fun x6 x7=>Ae .i64 x6 fun x8=>Ab x7 fun x9 Cm=>Ae .u64 x9 fun Bq=>Ac Cm<|Ab x4 fun Dm Ds=>Ae .i64 Dm fun Cu=>Ac Ds<|some (Aw.mk [.agg [.sc (.int .i64 x8),.sc (.int .u64 Bq)]] [])) (Ad C0 Tryz.prog fu d):=by kernel_rfl
abbrev Ok:FuncId:=25
theorem Zz (fu d:Nat)(a0 a1:Int):Ad C0 Tryz.prog fu (d+1) Ok [.sc (.int .i64 a0),.sc (.int .i64 a1)]=(fun (call:Ah)=>Aa (wrap .u64 a0) fun x1=>Aa (wrap .u64 (x1+1)) fun x2=>Aa (if 1024<a1 then 1024 else a1) fun x3=>Aa (if x3<0 then 0 else x3) fun x4=>Ag (call 46 [.sc (.int .u64 x2),.sc (.int .u64 7),.sc (.int .i64 x4)]) fun x5 x6=>Ac x6<|Ab x5 fun x7 x8=>D4 1 x7 fun x9 Cm=>Ac x8<|Ap (decide (x9*1<=Cm.length))<|some (Aw.mk [.own 1 x9 (List.take (x9*1) Cm)] [])) (Ad C0 Tryz.prog fu d):=by kernel_rfl
abbrev P2:FuncId:=45
theorem Qr (fu d a0n:Nat)(a0:List PV)(a1:Int):Ad C0 Tryz.prog fu (d+1) P2 [.lst false 1 a0n a0,.sc (.int .i64 a1)]=(fun (call:Ah)=>A3 ((↑a0n:Int)==0) (Aa (wrap .u8 a1) fun x1=>some (Aw.mk [.own 1 1 [.sc (.int .u8 x1)]] [])) (Ap (decide (a0.length=a0n*1)&&decide (a0n*1<=1099511627776)&&decide (a0n<=1099511627776))<|Ap (decide ((↑a0n:Int)≠0))<|Aa (Int.tmod a1 (↑a0n:Int)) fun x2=>Ap (decide (0<=x2)&&decide (x2<(↑a0n:Int)))<|Ae .u8 (List.getD a0 (0+Int.toNat x2*1) .top) fun x3=>Aa (Mj .i64 a1 7) fun x4=>Aa (wrap .u64 x4) fun x5=>Ap (decide (0<=x5))<|Aa (Fp .u8 1 x5) fun x6=>Aa (D7 .u8 x3 x6) fun x7=>Ap (decide (0<=x2)&&decide (x2<(↑a0n:Int)))<|Ap (decide (0+Int.toNat x2*1+1<=a0.length))<|Aa (Bo a0 [.sc (.int .u8 x7)] (0+Int.toNat x2*1)) fun x8=>Ap (decide (a0n*1<=x8.length))<|some (Aw.mk [.own 1 a0n (List.take (a0n*1) x8)] []))) (Ad C0 Tryz.prog fu d):=by kernel_rfl
end
section
open Go.IntKind (wrap)
set_option maxRecDepth 1000000
theorem WY {a b:List Int}(ha:Hg a)(hb:Hg b):Hg (a++b):=by
 intro x hx;rcases List.mem_append.1 hx with hx|hx
 ·exact ha x hx
 ·exact hb x hx
section
variable {fu d:Nat}
theorem ZZ (hfu:1000<=fu){a0 a1 a2:Int}{key nonce:Int}{n:Nat}(hn:n<=1024):∀(k nn:Nat)(i:Int)(l:List Int),n<=l.length+8*k->k<nn->Hg l->l.length<=2000 ->
  0<=i->i+k<=100000->∃r,Hg r∧r.length=n∧F4 fu (Ad C0 Tryz.prog fu (d+4)) a0 a1 a2 nn key nonce (n:Int) l.length i (Af .u8 l)=some ⟨[.own 1 n (Af .u8 r)],[]⟩:=by
 intro k
 induction k with
 |zero=>
  intro nn i l h1 h2 hb hl i0 i1;obtain ⟨m,rfl⟩:∃m,nn=m+1:=⟨nn-1,by omega⟩
  refine ⟨l.take n,hb.take n,by rw [List.length_take];omega,?_⟩
  have L:=Al .u8 l;have nt:Int.toNat (n:Int)=n:=Hi _;rw [G7]
  try unfold Aa
  repeat first
   |((with_reducible first|apply At|apply Ao|apply Aq|apply Ba|apply Bi|apply Am);· first|with_reducible rfl|(simp (disch:=omega) only [L,nt,Nat.sub_zero,Bz,Ec]<;>with_reducible rfl))
   |((with_reducible first|apply Ar|apply As);· first|with_reducible rfl|omega|(simp (disch:=omega) only [gT,L,nt,Nat.sub_zero,Bz,Ec]<;>omega))
   |(with_reducible apply Au;· first|with_reducible rfl|(simp (disch:=omega) only [gF,L,nt,Nat.sub_zero,Bz,Ec]<;>omega))
  try simp (disch:=omega) only [L,nt,Nat.sub_zero,Bz,Ec]
 |succ k ih=>
  intro nn i l h1 h2 hb hl i0 i1;obtain ⟨m,rfl⟩:∃m,nn=m+1:=⟨nn-1,by omega⟩
  have L:=Al .u8 l;have nt:Int.toNat (n:Int)=n:=Hi _;by_cases hlt:l.length<n
  rotate_left
  ·refine ⟨l.take n,hb.take n,by rw [List.length_take];omega,?_⟩
   rw [G7]
   try unfold Aa
   repeat first
    |((with_reducible first|apply At|apply Ao|apply Aq|apply Ba|apply Bi|apply Am);· first|with_reducible rfl|(simp (disch:=omega) only [L,nt,Nat.sub_zero,Bz,Ec]<;>with_reducible rfl))
    |((with_reducible first|apply Ar|apply As);· first|with_reducible rfl|omega|(simp (disch:=omega) only [gT,L,nt,Nat.sub_zero,Bz,Ec]<;>omega))
    |(with_reducible apply Au;· first|with_reducible rfl|(simp (disch:=omega) only [gF,L,nt,Nat.sub_zero,Bz,Ec]<;>omega))
   try simp (disch:=omega) only [L,nt,Nat.sub_zero,Bz,Ec]
  have w1:wrap .u64 i=i:=Ch (by omega) (by omega)
  have w2:wrap .i64 (i+1)=i+1:=Ak (by omega) (by omega)
  have wd:Ad C0 Tryz.prog fu (d+4) Dy [.lst false 1 2 [.sc (.int .u64 nonce),.sc (.int .u64 i)]]=some ⟨[.own 1 (Ax [nonce,i]).length (Af .u8 (Ax [nonce,i]))],[]⟩:=J1 (xs:=Is) (ws:=[nonce,i]) (by simp) (by omega) (by simp;omega)
  have mc:=Ae7 (xs:=Is) (fu:=fu) (d:=d) (l:=Ax [nonce,i]) (Q2 _) (by rw [Cy];simp) (by omega) (by rw [Cy];simp;omega) key 5
  have L2:=Al .u8 (Ax [nonce,i]);have t2:=Ii .u8 (Ax [nonce,i]);generalize Ai3 key 5 (Ax [nonce,i])=q at mc;have ow:=Anm (fu:=fu) (d:=d+3) hfu q;have Lq:(Af .u8 (Dq q)).length=8:=by rw [Al,D1]
  have tq:List.take 8 (Af .u8 (Dq q))=Af .u8 (Dq q):=Jv (by omega)
  have tl:=Ii .u8 l;have ea:Af .u8 l++Af .u8 (Dq q)=Af .u8 (l++Dq q):=by rw [Af,Af,Af,List.flatMap_append]
  obtain ⟨r,r1,r2,r3⟩:=ih m (i+1) (l++Dq q) (by rw [Hz,D1];omega) (by omega) (WY hb (WU q)) (by rw [Hz,D1];omega) (by omega) (by omega)
  refine ⟨r,r1,r2,?_⟩;rw [Hz,D1] at r3;rw [←r3,G7];generalize Ax [nonce,i]=W at *
  generalize W.length=wn at *
  try unfold Aa
  repeat first
   |((with_reducible first|apply At|apply Ao|apply Aq|apply Ba|apply Bi|apply Am);· first|with_reducible rfl|(simp (disch:=omega) only [w1,w2,wd,Di,Ck,Bz,L,L2,t2,mc,ow,Lq,tq,tl,ea]<;>with_reducible rfl))
   |((with_reducible first|apply Ar|apply As);· first|with_reducible rfl|omega|(simp (disch:=omega) only [gT,w1,w2,wd,Di,Ck,Bz,L,L2,t2,mc,ow,Lq,tq,tl,ea]<;>omega))
   |(with_reducible apply Au;· first|with_reducible rfl|(simp (disch:=omega) only [gF,w1,w2,wd,Di,Ck,Bz,L,L2,t2,mc,ow,Lq,tq,tl,ea]<;>omega))
  try simp (disch:=omega) only [w1,w2,wd,Di,Ck,Bz,L,L2,t2,mc,ow,Lq,tq,tl,ea]
  all_goals rfl
theorem Aai (hfu:1000<=fu)(seed:Int){n:Nat}(hn:n<=1024):∃r,Hg r∧r.length=n∧Ad C0 Tryz.prog fu (d+6) Ok [.sc (.int .i64 seed),.sc (.int .i64 n)]=some ⟨[.own 1 n (Af .u8 r)],[]⟩:=by
 obtain ⟨r,r1,r2,r3⟩:=ZZ (fu:=fu) (d:=d) hfu (a0:=wrap .u64 (wrap .u64 seed+1)) (a1:=7) (a2:=n) (key:=wrap .u64 (wrap .u64 seed+1)) (nonce:=7) hn 128 fu 0 [] (by omega) (by omega) (by intro x hx;cases hx) (by simp) (by omega) (by omega)
 refine ⟨r,r1,r2,?_⟩
 have e:Ad C0 Tryz.prog fu (d+5) Nx [.sc (.int .u64 (wrap .u64 (wrap .u64 seed+1))),.sc (.int .u64 7),.sc (.int .i64 n)]=some ⟨[.own 1 n (Af .u8 r)],[]⟩:=by
  rw [Xz];have f1:(if (n:Int)<0 then (0:Int) else (n:Int))=n:=Az (by omega)
  have f2:(if (1024:Int)<(n:Int) then (1024:Int) else (n:Int))=n:=Az (by omega)
  simp only [Ha,f1,f2];exact r3
 have f1:(if (n:Int)<0 then (0:Int) else (n:Int))=n:=Az (by omega)
 have f2:(if (1024:Int)<(n:Int) then (1024:Int) else (n:Int))=n:=Az (by omega)
 have L:=Al .u8 r;have t:List.take n (Af .u8 r)=Af .u8 r:=by rw [←r2];exact Ii .u8 r
 rw [Zz];simp (disch:=omega) only [Bx,f1,f2,e,Bz,L,t]
theorem Anq {b:List Int}(hb:Hg b)(hl:b.length<=100000){n:Int}(h0:0<=n)(h1:n<=1000000):∃r,Hg r∧r.length=(if b.length=0 then 1 else b.length)∧Ad C0 Tryz.prog fu (d+1) P2 [.lst false 1 b.length (Af .u8 b),.sc (.int .i64 n)]=some ⟨[.own 1 r.length (Af .u8 r)],[]⟩:=by
 have w8:∀v:Int,0<=wrap .u8 v∧wrap .u8 v<=255:=by
  intro v;simp only [wrap,IntKind.signed,IntKind.bits];simp;omega
 by_cases hz:b.length=0
 ·refine ⟨[wrap .u8 n],?_,?_,?_⟩
  ·intro x hx;simp at hx;subst hx;exact w8 n
  ·rw [Bv hz];rfl
  ·rw [Qr];have b0:((b.length:Int)==0)=true:=by rw [hz];rfl
   simp (disch:=omega) only [Bx,b0];rfl
 have m0:0<=Int.tmod n b.length:=Int.tmod_nonneg _ h0;have m1:Int.tmod n b.length<b.length:=Int.tmod_lt_of_pos _ (by omega)
 have m2:(Int.tmod n b.length).toNat<b.length:=by generalize Int.tmod n b.length=im at *;omega
 obtain ⟨x,hx⟩:∃x,b[(Int.tmod n b.length).toNat]?=some x:=⟨_,List.getElem?_eq_getElem m2⟩;have hg:=Po (k:=.u8) hx;have ib:=ZX (a:=n) (m:=7) (by omega) (by omega)
 obtain ⟨a7,h7⟩:∃a7,Mj .i64 n 7=a7:=⟨_,rfl⟩;rw [h7] at ib;have w4:wrap .u64 a7=a7:=Ch (by omega) (by omega)
 have L:=Al .u8 b;obtain ⟨v,hv⟩:∃v,D7 .u8 x (Fp .u8 1 a7)=v:=⟨_,rfl⟩;have hvb:0<=v∧v<=255:=by rw [←hv];exact w8 _
 have es:Bo (Af .u8 b) [.sc (.int .u8 v)] (Int.tmod n b.length).toNat=Af .u8 (b.set (Int.tmod n b.length).toNat v):=by
  rw [Fj (by rw [L];exact m2)]
  have:=Aj8 (f:=Ao3 .u8) (X8 .u8) (p:=.sc (.int .u8 v)) (j:=0) (by omega) hx (y:=v) rfl
  rw [Bz,QH] at this;exact this
 have t2:=Ii .u8 (b.set (Int.tmod n b.length).toNat v);have l2:(b.set (Int.tmod n b.length).toNat v).length=b.length:=List.length_set;have L2:=Al .u8 (b.set (Int.tmod n b.length).toNat v);rw [l2] at t2;refine ⟨b.set (Int.tmod n b.length).toNat v,?_,?_,?_⟩
 ·intro y hy;rcases List.mem_or_eq_of_mem_set hy with hy|hy
  ·exact hb y hy
  ·subst hy;exact hvb
 ·rw [Az hz,l2]
 rw [Qr];have b0:((b.length:Int)==0)=false:=beq_eq_false_iff_ne.2 (by omega)
 rw [l2];generalize Int.tmod n b.length=im at *
 try unfold Aa
 repeat first
  |((with_reducible first|apply At|apply Ao|apply Aq|apply Ba|apply Bi|apply Am);· first|with_reducible rfl|(simp (disch:=omega) only [b0,Ck,Bz,L,hg,h7,w4,hv,es,L2,t2]<;>with_reducible rfl))
  |((with_reducible first|apply Ar|apply As);· first|with_reducible rfl|omega|(simp (disch:=omega) only [gT,b0,Ck,Bz,L,hg,h7,w4,hv,es,L2,t2]<;>omega))
  |(with_reducible apply Au;· first|with_reducible rfl|(simp (disch:=omega) only [gF,b0,Ck,Bz,L,hg,h7,w4,hv,es,L2,t2]<;>omega))
 try simp (disch:=omega) only [b0,Ck,Bz,L,hg,h7,w4,hv,es,L2,t2]
 all_goals rfl
theorem Akd (hfu:1000<=fu)(seed h:Int):Ad C0 Tryz.prog fu (d+13) Rp [.sc (.int .u64 seed),.sc (.int .i64 h)]=some ⟨[.agg (My seed h).cells],[]⟩:=by
 rw [DW];have p:=PE (fu:=fu) (d:=d) hfu seed h;simp only [Ky.cells] at p ⊢;simp only [Bx,p]
end
theorem WK (dom:Int)(l:List Int):isU (Ol dom l):=Bn _
theorem Apz (key dom:Int)(l:List Int):isU (Ai3 key dom l):=Bn _
theorem Alp (leaf chain:Int):∀(k:Nat)(p:Int){x:Int},isU x->isU (Sr leaf chain k p x)
 |0,_,_,h=>h
 |k+1,p,x,h=>Alp leaf chain k (p+1) (WK _ _)
theorem Aqn (seed leaf m:Int):isW (Jc seed leaf m):=by
 intro x hx;obtain ⟨k,_,rfl⟩:=List.mem_map.1 hx;exact Alp _ _ _ _ (Apz _ _ _)
theorem Aex (seed:Int):∀(l:Nat)(i:Int),isU (Cf seed l i)
 |0,i=>WK _ _
 |l+1,i=>WK _ _
theorem UD (seed h:Int):isU (My seed h).root:=by
 unfold My;split
 ·exact ⟨by simp,by simp⟩
 ·exact Aex _ _ _
theorem Ahl (seed h:Int):C4 (My seed h).h=false:=by
 unfold My;cases hh:C4 h
 ·rw [Az (by simp)]
  exact hh
 ·rw [Bv rfl];rfl
theorem Aoe {seed h leaf m:Int}(hh:C4 h=false)(ho:Hp leaf h=false):∃s,EM seed h leaf m=some s∧s.ok∧s.leaf=leaf∧s.chains.length=18∧(s.path.length:Int)=h∧Aaf (My seed h) m s=0:=by
 have hb:=H7 hh;refine ⟨⟨leaf,Jc seed leaf m,(List.range h.toNat).map fun k=>Cf seed k (Fy leaf k)⟩,?_,⟨Aqn _ _ _,?_⟩,rfl,by simp [Jc],?_,Aks hh ho⟩
 ·unfold EM;rw [Az (by simp [hh]),Az (by simp [ho])]
 ·intro x hx;obtain ⟨k,_,rfl⟩:=List.mem_map.1 hx;exact Aex _ _ _
 ·simp only [List.length_map,List.length_range];omega
end
section
open Go.IntKind (wrap)
set_option maxRecDepth 100000
abbrev Pu:FuncId:=17
theorem BL (fu d:Nat)(a0_0 a0_1:ByteArray)(a0_2 a0_3:Int)(a0_4 a0_5 a0_6:Int)(a0_7:Bool)(a0_8 a0_9 a0_10:Int)(a0_11n:Nat)(a0_11:List PV)(a0_12n:Nat)(a0_12:List PV)(a1 a2 a3:Int):Ad C0 Tryz.prog fu (d+1) Pu [.agg [.sc (.string a0_0),.sc (.string a0_1),.sc (.int .u64 a0_2),.sc (.int .i64 a0_3),.sc (.int .u64 a0_4),.sc (.int .i64 a0_5),.sc (.int .i64 a0_6),.sc (.bool a0_7),.sc (.int .i64 a0_8),.sc (.int .u64 a0_9),.sc (.int .i64 a0_10),.lst false 1 a0_11n a0_11,.lst false 1 a0_12n a0_12],.sc (.int .u64 a1),.sc (.int .i64 a2),.sc (.int .i64 a3)]=(fun (call:Ah)=>Ag (call 36 [.agg [.sc (.string a0_0),.sc (.string a0_1),.sc (.int .u64 a0_2),.sc (.int .i64 a0_3),.sc (.int .u64 a0_4),.sc (.int .i64 a0_5),.sc (.int .i64 a0_6),.sc (.bool a0_7),.sc (.int .i64 a0_8),.sc (.int .u64 a0_9),.sc (.int .i64 a0_10),.lst false 1 a0_11n a0_11,.lst false 1 a0_12n a0_12]]) fun x1 x2=>Ac x2<|Ab x1 fun x3 x4=>Ae .u64 x3 fun x5=>Ab x4 fun x6 x7=>Ae .i64 x6 fun x8=>Ac x7<|A3 (x8 != 0) (some (Aw.mk [.agg [.sc (.string (ByteArray.mk #[])),.sc (.string (ByteArray.mk #[])),.sc (.int .u64 0),.sc (.int .i64 0),.sc (.int .u64 0),.sc (.int .i64 0),.sc (.int .i64 0),.sc (.bool false),.sc (.int .i64 0),.sc (.int .u64 0),.sc (.int .i64 0),.lst false 1 0 [],.lst false 1 0 []],.sc (.int .i64 x8)] [])) (Ag (call 37 [.sc (.int .u64 a1),.sc (.int .i64 a2),.sc (.int .i64 a3),.sc (.int .u64 x5)]) fun x9 Cm=>Ac Cm<|Ab x9 fun Bq Dm=>Dt Bq fun Ds=>Ab Ds fun Cu Dw=>Ae .i64 Cu fun Ea=>Ab Dw fun Ef Ew=>Ho 1 Ef fun Ej Fb G9=>Ab Ew fun Cp Hb=>Ho 1 Cp fun Dx B4 Ft=>Ac Hb<|Ab Dm fun Hn Bk=>Ae .i64 Hn fun Ci=>Ac Bk<|A3 (Ci != 0) (some (Aw.mk [.agg [.sc (.string (ByteArray.mk #[])),.sc (.string (ByteArray.mk #[])),.sc (.int .u64 0),.sc (.int .i64 0),.sc (.int .u64 0),.sc (.int .i64 0),.sc (.int .i64 0),.sc (.bool false),.sc (.int .i64 0),.sc (.int .u64 0),.sc (.int .i64 0),.lst false 1 0 [],.lst false 1 0 []],.sc (.int .i64 Ci)] [])) (some (Aw.mk [.agg [.sc (.string a0_0),.sc (.string a0_1),.sc (.int .u64 a0_2),.sc (.int .i64 a0_3),.sc (.int .u64 a0_4),.sc (.int .i64 a0_5),.sc (.int .i64 a0_6),.sc (.bool a0_7),.sc (.int .i64 a0_8),.sc (.int .u64 a0_9),.sc (.int .i64 Ea),.lst false 1 Fb G9,.lst false 1 B4 Ft],.sc (.int .i64 0)] [])))) (Ad C0 Tryz.prog fu d):=by kernel_rfl
abbrev P7:FuncId:=24
theorem CC (fu d a0n:Nat)(a0:List PV)(a1:Int):Ad C0 Tryz.prog fu (d+1) P7 [.lst false 1 a0n a0,.sc (.int .i64 a1)]=(fun (call:Ah)=>Ag (call 16 [.sc (.int .i64 a1),.sc (.int .i64 4096)]) fun x1 x2=>Ac x2<|Ab x1 fun x3 x4=>Ae .i64 x3 fun x5=>Ac x4<|Ag (call 45 [.lst false 1 a0n a0,.sc (.int .i64 x5)]) fun x6 x7=>Ac x7<|Ab x6 fun x8 x9=>D4 1 x8 fun Cm Bq=>Ac x9<|Ap (decide (Cm*1<=Bq.length))<|some (Aw.mk [.own 1 Cm (List.take (Cm*1) Bq)] [])) (Ad C0 Tryz.prog fu d):=by kernel_rfl
end
section
open Go.IntKind (wrap)
set_option maxRecDepth 100000
abbrev G6:FuncId:=12
theorem Mt (fu d a0_0n:Nat)(a0_0:List PV)(a0_1:Int):Ad C0 Tryz.prog fu (d+1) G6 [.pbox [.lst false 1 a0_0n a0_0,.sc (.int .i64 a0_1)]]=(fun (call:Ah)=>Ag (call 14 [.pbox [.lst false 1 a0_0n a0_0,.sc (.int .i64 a0_1)],.sc (.int .i64 5)]) fun x1 x2=>Ab x1 fun x3 x4=>Ae .i64 x3 fun x5=>Ac x4<|Ab x2 fun x6 x7=>Ab x6 fun x8 x9=>Ho 1 x8 fun Cm Bq Dm=>Ab x9 fun Ds Cu=>Ae .i64 Ds fun Dw=>Ac Cu<|Ac x7<|Aa (wrap .u64 x5) fun Ea=>Ag (call 14 [.pbox [.lst false 1 Bq Dm,.sc (.int .i64 Dw)],.sc (.int .i64 3)]) fun Ef Ew=>Ab Ef fun Ej Fb=>Ae .i64 Ej fun G9=>Ac Fb<|Ab Ew fun Cp Hb=>Ab Cp fun Dx B4=>Ho 1 Dx fun Ft Hn Bk=>Ab B4 fun Ci I1=>Ae .i64 Ci fun Jd=>Ac I1<|Ac Hb<|Ag (call 18 [.sc (.int .u64 Ea),.sc (.int .i64 G9)]) fun J9 Kc=>Ac Kc<|Ab J9 fun Lx Ob=>Dt Lx fun Pt=>Ab Pt fun Q5 Gn=>Ae .i64 Q5 fun Ie=>Ab Gn fun Sv Wg=>Ae .u64 Sv fun Kd=>Ac Wg<|Ab Ob fun S1 Sd=>Ae .i64 S1 fun Re=>Ac Sd<|Ag (call 14 [.pbox [.lst false 1 Hn Bk,.sc (.int .i64 Jd)],.sc (.int .i64 9)]) fun Sf Vp=>Ab Sf fun V9 Q8=>Ae .i64 V9 fun Ud=>Ac Q8<|Ab Vp fun Vo Vx=>Ab Vo fun Nn Vt=>Ho 1 Nn fun AC Ye Up=>Ab Vt fun R7 Vl=>Ae .i64 R7 fun Wu=>Ac Vl<|Ac Vx<|Aa (if 4<Ud then 4 else Ud) fun Su=>Ap (decide (0<=Su)&&decide (Su<5))<|Cr (List.getD [.sc (.string (ByteArray.mk #[108,101,97,102])),.sc (.string (ByteArray.mk #[109,105,100])),.sc (.string (ByteArray.mk #[116,111,112])),.sc (.string (ByteArray.mk #[])),.sc (.string (ByteArray.mk #[255]))] (0+Int.toNat Su*1) .top) fun Rg=>Ag (call 14 [.pbox [.lst false 1 Ye Up,.sc (.int .i64 Wu)],.sc (.int .i64 4)]) fun Wn Wc=>Ab Wn fun Yb Uj=>Ae .i64 Yb fun Uc=>Ac Uj<|Ab Wc fun Z9 Wy=>Ab Z9 fun Wk Vu=>Ho 1 Wk fun Ze AL Yz=>Ab Vu fun Z8 BK=>Ae .i64 Z8 fun Y0=>Ac BK<|Ac Wy<|Ap (decide (0<=Uc)&&decide (Uc<4))<|Cr (List.getD [.sc (.string (ByteArray.mk #[114,111,111,116])),.sc (.string (ByteArray.mk #[109,105,100])),.sc (.string (ByteArray.mk #[116,111,112])),.sc (.string (ByteArray.mk #[111,116,104,101,114]))] (0+Int.toNat Uc*1) .top) fun Tw=>Ag (call 14 [.pbox [.lst false 1 AL Yz,.sc (.int .i64 Y0)],.sc (.int .i64 4)]) fun DU GI=>Ab DU fun PL MH=>Ae .i64 PL fun LD=>Ac MH<|Ab GI fun HV KR=>Ab HV fun ON HO=>Ho 1 ON fun Vy BA Y1=>Ab HO fun QU RY=>Ae .i64 QU fun RP=>Ac RY<|Ac KR<|Aa (wrap .u64 LD) fun GG=>Ag (call 14 [.pbox [.lst false 1 BA Y1,.sc (.int .i64 RP)],.sc (.int .i64 20)]) fun UW VV=>Ab UW fun RF SN=>Ae .i64 RF fun CW=>Ac SN<|Ab VV fun Us Sq=>Ab Us fun Hc I0=>Ho 1 Hc fun We Pe Pd=>Ab I0 fun Ja V7=>Ae .i64 Ja fun W9=>Ac V7<|Ac Sq<|Ag (call 14 [.pbox [.lst false 1 Pe Pd,.sc (.int .i64 W9)],.sc (.int .i64 60)]) fun Xy X4=>Ab Xy fun Ik Jp=>Ae .i64 Ik fun Xs=>Ac Jp<|Ab X4 fun Ys W0=>Ab Ys fun BT Yj=>Ho 1 BT fun Wm Wa V8=>Ab Yj fun Wq Yq=>Ae .i64 Wq fun Yd=>Ac Yq<|Ac W0<|Aa (wrap .i64 (20+Xs)) fun Oa=>Ag (call 14 [.pbox [.lst false 1 Wa V8,.sc (.int .i64 Yd)],.sc (.int .i64 2)]) fun Pa Sk=>Ab Pa fun Xb Yv=>Ae .i64 Xb fun Ko=>Ac Yv<|Ab Sk fun CF Xr=>Ab CF fun Uf AD=>Ho 1 Uf fun FY BC DQ=>Ab AD fun BX Xu=>Ae .i64 BX fun Zv=>Ac Xu<|Ac Xr<|Ag (call 14 [.pbox [.lst false 1 BC DQ,.sc (.int .i64 Zv)],.sc (.int .i64 3)]) fun CV CZ=>Ab CV fun BW Xo=>Ae .i64 BW fun AB=>Ac Xo<|Ab CZ fun BH Z1=>Ab BH fun CR IA=>Ho 1 CR fun KP HZ Wb=>Ab IA fun CO GL=>Ae .i64 CO fun LC=>Ac GL<|Ac Z1<|Aa (wrap .u64 AB) fun Va=>A3 (Ko==1) (Ag (call 14 [.pbox [.lst false 1 HZ Wb,.sc (.int .i64 LC)],.sc (.int .i64 3)]) fun LF HJ=>Ab LF fun KW PX=>Ae .i64 KW fun Gb=>Ac PX<|Ab HJ fun Oe MJ=>Ab Oe fun HK NA=>Ho 1 HK fun RC HN KI=>Ab NA fun MB KN=>Ae .i64 MB fun MY=>Ac KN<|Ac MJ<|Ag (call 14 [.pbox [.lst false 1 HN KI,.sc (.int .i64 MY)],.sc (.int .i64 14)]) fun XJ VP=>Ab XJ fun WA KQ=>Ae .i64 WA fun IE=>Ac KQ<|Ab VP fun WV QZ=>Ab WV fun VL Abq=>Ho 1 VL fun KS Uy KV=>Ab Abq fun Adz Ahr=>Ae .i64 Adz fun NS=>Ac Ahr<|Ac QZ<|A3 (IE==13) (Aa (wrap .i64 (CW-1)) fun Adj=>some (Aw.mk [.agg [.sc (.string Rg),.sc (.string Tw),.sc (.int .u64 GG),.sc (.int .i64 Ie),.sc (.int .u64 Kd),.sc (.int .i64 CW),.sc (.int .i64 Adj),.sc (.bool (Ko==1)),.sc (.int .i64 Gb),.sc (.int .u64 Va),.sc (.int .i64 0),.own 1 0 [],.own 1 0 []]] [[.lst false 1 Uy KV,.sc (.int .i64 NS)]])) (A3 (IE==12) (some (Aw.mk [.agg [.sc (.string Rg),.sc (.string Tw),.sc (.int .u64 GG),.sc (.int .i64 Ie),.sc (.int .u64 Kd),.sc (.int .i64 CW),.sc (.int .i64 Oa),.sc (.bool (Ko==1)),.sc (.int .i64 3),.sc (.int .u64 Va),.sc (.int .i64 0),.own 1 0 [],.own 1 0 []]] [[.lst false 1 Uy KV,.sc (.int .i64 NS)]])) (A3 (IE==11) (some (Aw.mk [.agg [.sc (.string Rg),.sc (.string Tw),.sc (.int .u64 GG),.sc (.int .i64 5),.sc (.int .u64 Kd),.sc (.int .i64 CW),.sc (.int .i64 Oa),.sc (.bool (Ko==1)),.sc (.int .i64 Gb),.sc (.int .u64 Va),.sc (.int .i64 0),.own 1 0 [],.own 1 0 []]] [[.lst false 1 Uy KV,.sc (.int .i64 NS)]])) (A3 (IE==10) (some (Aw.mk [.agg [.sc (.string Rg),.sc (.string Tw),.sc (.int .u64 GG),.sc (.int .i64 Ie),.sc (.int .u64 Kd),.sc (.int .i64 CW),.sc (.int .i64 Oa),.sc (.bool (Ko==1)),.sc (.int .i64 1),.sc (.int .u64 Va),.sc (.int .i64 0),.own 1 0 [],.own 1 0 []]] [[.lst false 1 Uy KV,.sc (.int .i64 NS)]])) (some (Aw.mk [.agg [.sc (.string Rg),.sc (.string Tw),.sc (.int .u64 GG),.sc (.int .i64 Ie),.sc (.int .u64 Kd),.sc (.int .i64 CW),.sc (.int .i64 Oa),.sc (.bool (Ko==1)),.sc (.int .i64 Gb),.sc (.int .u64 Va),.sc (.int .i64 0),.own 1 0 [],.own 1 0 []]] [[.lst false 1 Uy KV,.sc (.int .i64 NS)]])))))) (Ag (call 14 [.pbox [.lst false 1 HZ Wb,.sc (.int .i64 LC)],.sc (.int .i64 14)]) fun Ady Ade=>Ab Ady fun Acs Aca=>Ae .i64 Acs fun RE=>Ac Aca<|Ab Ade fun Adr Abp=>Ab Adr fun VN VS=>Ho 1 VN fun Ahw OU MW=>Ab VS fun Aco ZR=>Ae .i64 Aco fun PR=>Ac ZR<|Ac Abp<|A3 (RE==13) (Aa (wrap .i64 (CW-1)) fun Ac2=>some (Aw.mk [.agg [.sc (.string Rg),.sc (.string Tw),.sc (.int .u64 GG),.sc (.int .i64 Ie),.sc (.int .u64 Kd),.sc (.int .i64 CW),.sc (.int .i64 Ac2),.sc (.bool (Ko==1)),.sc (.int .i64 0),.sc (.int .u64 Va),.sc (.int .i64 0),.own 1 0 [],.own 1 0 []]] [[.lst false 1 OU MW,.sc (.int .i64 PR)]])) (A3 (RE==12) (some (Aw.mk [.agg [.sc (.string Rg),.sc (.string Tw),.sc (.int .u64 GG),.sc (.int .i64 Ie),.sc (.int .u64 Kd),.sc (.int .i64 CW),.sc (.int .i64 Oa),.sc (.bool (Ko==1)),.sc (.int .i64 3),.sc (.int .u64 Va),.sc (.int .i64 0),.own 1 0 [],.own 1 0 []]] [[.lst false 1 OU MW,.sc (.int .i64 PR)]])) (A3 (RE==11) (some (Aw.mk [.agg [.sc (.string Rg),.sc (.string Tw),.sc (.int .u64 GG),.sc (.int .i64 5),.sc (.int .u64 Kd),.sc (.int .i64 CW),.sc (.int .i64 Oa),.sc (.bool (Ko==1)),.sc (.int .i64 0),.sc (.int .u64 Va),.sc (.int .i64 0),.own 1 0 [],.own 1 0 []]] [[.lst false 1 OU MW,.sc (.int .i64 PR)]])) (A3 (RE==10) (some (Aw.mk [.agg [.sc (.string Rg),.sc (.string Tw),.sc (.int .u64 GG),.sc (.int .i64 Ie),.sc (.int .u64 Kd),.sc (.int .i64 CW),.sc (.int .i64 Oa),.sc (.bool (Ko==1)),.sc (.int .i64 1),.sc (.int .u64 Va),.sc (.int .i64 0),.own 1 0 [],.own 1 0 []]] [[.lst false 1 OU MW,.sc (.int .i64 PR)]])) (some (Aw.mk [.agg [.sc (.string Rg),.sc (.string Tw),.sc (.int .u64 GG),.sc (.int .i64 Ie),.sc (.int .u64 Kd),.sc (.int .i64 CW),.sc (.int .i64 Oa),.sc (.bool (Ko==1)),.sc (.int .i64 0),.sc (.int .u64 Va),.sc (.int .i64 0),.own 1 0 [],.own 1 0 []]] [[.lst false 1 OU MW,.sc (.int .i64 PR)]]))))))) (Ad C0 Tryz.prog fu d):=by kernel_rfl
abbrev Kg:FuncId:=23
theorem Vj (fu d a0n:Nat)(a0:List PV):Ad C0 Tryz.prog fu (d+1) Kg [.lst false 1 a0n a0]=(fun (call:Ah)=>Ag (call 31 [.lst false 1 a0n a0]) fun x1 x2=>Ac x2<|Ab x1 fun x3 x4=>Dt x3 fun x5=>Ab x5 fun x6 x7=>Cr x6 fun x8=>Ab x7 fun x9 Cm=>Cr x9 fun Bq=>Ab Cm fun Dm Ds=>Ae .u64 Dm fun Cu=>Ab Ds fun Dw Ea=>Ae .i64 Dw fun Ef=>Ab Ea fun Ew Ej=>Ae .u64 Ew fun Fb=>Ab Ej fun G9 Cp=>Ae .i64 G9 fun Hb=>Ab Cp fun Dx B4=>Ae .i64 Dx fun Ft=>Ab B4 fun Hn Bk=>Br Hn fun Ci=>Ab Bk fun I1 Jd=>Ae .i64 I1 fun J9=>Ab Jd fun Kc Lx=>Ae .u64 Kc fun Ob=>Ab Lx fun Pt Q5=>Ae .i64 Pt fun Gn=>Ab Q5 fun Ie Sv=>Ho 1 Ie fun Wg Kd S1=>Ab Sv fun Sd Re=>Ho 1 Sd fun Sf Vp V9=>Ac Re<|Ab x4 fun Q8 Ud=>Ae .i64 Q8 fun Vo=>Ac Ud<|Ag (call 44 [.lst false 1 a0n a0]) fun Vx Nn=>Ac Nn<|Ab Vx fun Vt AC=>Dt Vt fun Ye=>Ab Ye fun Up R7=>Cr Up fun Vl=>Ab R7 fun Wu Su=>Cr Wu fun Rg=>Ab Su fun Wn Wc=>Ae .u64 Wn fun Yb=>Ab Wc fun Uj Uc=>Ae .i64 Uj fun Z9=>Ab Uc fun Wy Wk=>Ae .u64 Wy fun Vu=>Ab Wk fun Ze AL=>Ae .i64 Ze fun Yz=>Ab AL fun Z8 BK=>Ae .i64 Z8 fun Y0=>Ab BK fun Tw DU=>Br Tw fun GI=>Ab DU fun PL MH=>Ae .i64 PL fun LD=>Ab MH fun HV KR=>Ae .u64 HV fun ON=>Ab KR fun HO Vy=>Ae .i64 HO fun BA=>Ab Vy fun Y1 QU=>Ho 1 Y1 fun RY RP GG=>Ab QU fun UW VV=>Ho 1 UW fun RF SN CW=>Ac VV<|Ab AC fun Us Sq=>Ae .i64 Us fun Hc=>Ac Sq<|Ag (call 19 [.agg [.sc (.string x8),.sc (.string Bq),.sc (.int .u64 Cu),.sc (.int .i64 Ef),.sc (.int .u64 Fb),.sc (.int .i64 Hb),.sc (.int .i64 Ft),.sc (.bool Ci),.sc (.int .i64 J9),.sc (.int .u64 Ob),.sc (.int .i64 Gn),.lst false 1 Kd S1,.lst false 1 Vp V9],.agg [.sc (.string Vl),.sc (.string Rg),.sc (.int .u64 Yb),.sc (.int .i64 Z9),.sc (.int .u64 Vu),.sc (.int .i64 Yz),.sc (.int .i64 Y0),.sc (.bool GI),.sc (.int .i64 LD),.sc (.int .u64 ON),.sc (.int .i64 BA),.lst false 1 RP GG,.lst false 1 SN CW]]) fun I0 We=>Ac We<|Ab I0 fun Pe Pd=>Br Pe fun Ja=>Ac Pd<|A3 Ja (some (Aw.mk [.sc (.bool (Vo==Hc))] [])) (some (Aw.mk [.sc (.bool false)] []))) (Ad C0 Tryz.prog fu d):=by kernel_rfl
abbrev M6:FuncId:=10
theorem Xj (fu d:Nat):Ad C0 Tryz.prog fu (d+1) M6 []=(fun (call:Ah)=>Ag (call 29 [.sc (.int .u64 5),.sc (.int .i64 1)]) fun x1 x2=>Ac x2<|Ab x1 fun x3 x4=>Dt x3 fun x5=>Ab x5 fun x6 x7=>Ae .i64 x6 fun x8=>Ab x7 fun x9 Cm=>Ae .u64 x9 fun Bq=>Ac Cm<|Ac x4<|Ag (call 17 [.agg [.sc (.string (ByteArray.mk #[108,101,97,102])),.sc (.string (ByteArray.mk #[114,111,111,116])),.sc (.int .u64 9),.sc (.int .i64 x8),.sc (.int .u64 Bq),.sc (.int .i64 1),.sc (.int .i64 8),.sc (.bool false),.sc (.int .i64 0),.sc (.int .u64 0),.sc (.int .i64 0),.lst false 1 0 [],.lst false 1 0 []],.sc (.int .u64 71),.sc (.int .i64 1),.sc (.int .i64 0)]) fun Dm Ds=>Ac Ds<|Ab Dm fun Cu Dw=>Dt Cu fun Ea=>Ab Ea fun Ef Ew=>Cr Ef fun Ej=>Ab Ew fun Fb G9=>Cr Fb fun Cp=>Ab G9 fun Hb Dx=>Ae .u64 Hb fun B4=>Ab Dx fun Ft Hn=>Ae .i64 Ft fun Bk=>Ab Hn fun Ci I1=>Ae .u64 Ci fun Jd=>Ab I1 fun J9 Kc=>Ae .i64 J9 fun Lx=>Ab Kc fun Ob Pt=>Ae .i64 Ob fun Q5=>Ab Pt fun Gn Ie=>Br Gn fun Sv=>Ab Ie fun Wg Kd=>Ae .i64 Wg fun S1=>Ab Kd fun Sd Re=>Ae .u64 Sd fun Sf=>Ab Re fun Vp V9=>Ae .i64 Vp fun Q8=>Ab V9 fun Ud Vo=>Ho 1 Ud fun Vx Nn Vt=>Ab Vo fun AC Ye=>Ho 1 AC fun Up R7 Vl=>Ac Ye<|Ab Dw fun Wu Su=>Ae .i64 Wu fun Rg=>Ac Su<|Ag (call 30 [.agg [.sc (.string Ej),.sc (.string Cp),.sc (.int .u64 B4),.sc (.int .i64 Bk),.sc (.int .u64 Jd),.sc (.int .i64 Lx),.sc (.int .i64 Q5),.sc (.bool Sv),.sc (.int .i64 S1),.sc (.int .u64 Sf),.sc (.int .i64 Q8),.lst false 1 Nn Vt,.lst false 1 R7 Vl]]) fun Wn Wc=>Ac Wc<|Ab Wn fun Yb Uj=>D4 1 Yb fun Uc Z9=>Ab Uj fun Wy Wk=>Ae .i64 Wy fun Vu=>Ac Wk<|Ap (decide (0+Uc*1<=Z9.length))<|Ag (call 31 [.lst false 1 Uc (List.take (Uc*1) (List.drop 0 Z9))]) fun Ze AL=>Ac AL<|Ab Ze fun Yz Z8=>Dt Yz fun BK=>Ab BK fun Y0 Tw=>Cr Y0 fun DU=>Ab Tw fun GI PL=>Cr GI fun MH=>Ab PL fun LD HV=>Ae .u64 LD fun KR=>Ab HV fun ON HO=>Ae .i64 ON fun Vy=>Ab HO fun BA Y1=>Ae .u64 BA fun QU=>Ab Y1 fun RY RP=>Ae .i64 RY fun GG=>Ab RP fun UW VV=>Ae .i64 UW fun RF=>Ab VV fun SN CW=>Br SN fun Us=>Ab CW fun Sq Hc=>Ae .i64 Sq fun I0=>Ab Hc fun We Pe=>Ae .u64 We fun Pd=>Ab Pe fun Ja V7=>Ae .i64 Ja fun W9=>Ab V7 fun Xy X4=>Ho 1 Xy fun Ik Jp Xs=>Ab X4 fun Ys W0=>Ho 1 Ys fun BT Yj Wm=>Ac W0<|Ab Z8 fun Wa V8=>Ae .i64 Wa fun Wq=>Ac V8<|Ag (call 29 [.sc (.int .u64 71),.sc (.int .i64 1)]) fun Yq Yd=>Ac Yd<|Ab Yq fun Oa Pa=>Dt Oa fun Sk=>Ab Sk fun Xb Yv=>Ae .i64 Xb fun Ko=>Ab Yv fun CF Xr=>Ae .u64 CF fun Uf=>Ac Xr<|Ac Pa<|Ag (call 27 [.lst false 13 1 [.sc (.string Ej),.sc (.string Cp),.sc (.int .u64 B4),.sc (.int .i64 Bk),.sc (.int .u64 Jd),.sc (.int .i64 Lx),.sc (.int .i64 Q5),.sc (.bool Sv),.sc (.int .i64 S1),.sc (.int .u64 Sf),.sc (.int .i64 Q8),.lst false 1 Nn Vt,.lst false 1 R7 Vl],.lst false 3 1 [.sc (.string (ByteArray.mk #[114,111,111,116])),.sc (.int .i64 Ko),.sc (.int .u64 Uf)],.lst false 3 0 [],.sc (.int .i64 8)]) fun AD FY=>Ac FY<|Ab AD fun BC DQ=>Ae .i64 BC fun BX=>Ab DQ fun Xu Zv=>Ae .i64 Xu fun CV=>Ac Zv<|Ag (call 27 [.lst false 13 1 [.sc (.string Ej),.sc (.string Cp),.sc (.int .u64 B4),.sc (.int .i64 Bk),.sc (.int .u64 Jd),.sc (.int .i64 Lx),.sc (.int .i64 Q5),.sc (.bool Sv),.sc (.int .i64 S1),.sc (.int .u64 Sf),.sc (.int .i64 Q8),.lst false 1 Nn Vt,.lst false 1 R7 Vl],.lst false 3 1 [.sc (.string (ByteArray.mk #[114,111,111,116])),.sc (.int .i64 Ko),.sc (.int .u64 Uf)],.lst false 3 0 [],.sc (.int .i64 9)]) fun CZ BW=>Ac BW<|Ab CZ fun Xo AB=>Ae .i64 Xo fun BH=>Ab AB fun Z1 CR=>Ae .i64 Z1 fun IA=>Ac CR<|A3 (Rg==0) (A3 (Vu==0) (A3 (Wq==0) (A3 (CV==0) (A3 (BX==0) (A3 (IA==38) (Ag (call 19 [.agg [.sc (.string Ej),.sc (.string Cp),.sc (.int .u64 B4),.sc (.int .i64 Bk),.sc (.int .u64 Jd),.sc (.int .i64 Lx),.sc (.int .i64 Q5),.sc (.bool Sv),.sc (.int .i64 S1),.sc (.int .u64 Sf),.sc (.int .i64 Q8),.lst false 1 Nn Vt,.lst false 1 R7 Vl],.agg [.sc (.string DU),.sc (.string MH),.sc (.int .u64 KR),.sc (.int .i64 Vy),.sc (.int .u64 QU),.sc (.int .i64 GG),.sc (.int .i64 RF),.sc (.bool Us),.sc (.int .i64 I0),.sc (.int .u64 Pd),.sc (.int .i64 W9),.lst false 1 Jp Xs,.lst false 1 Yj Wm]]) fun KP HZ=>Ac HZ<|Ab KP fun Wb CO=>Br Wb fun GL=>Ac CO<|some (Aw.mk [.sc (.bool GL)] [])) (some (Aw.mk [.sc (.bool false)] []))) (some (Aw.mk [.sc (.bool false)] []))) (some (Aw.mk [.sc (.bool false)] []))) (some (Aw.mk [.sc (.bool false)] []))) (some (Aw.mk [.sc (.bool false)] []))) (some (Aw.mk [.sc (.bool false)] []))) (Ad C0 Tryz.prog fu d):=by kernel_rfl
end
section
open Go.IntKind (wrap)
set_option maxRecDepth 1000000
section
variable {fu d:Nat} {c:Ce}
theorem Aqz (seed h leaf m:Int):Ad C0 Tryz.prog fu (d+1) 37 [.sc (.int .u64 seed),.sc (.int .i64 h),.sc (.int .i64 leaf),.sc (.int .u64 m)] =
  some ⟨[.agg [.sc (.int .i64 (tkL h leaf)),.lst false 1 (tkC seed h leaf m).length (Af .u64 (tkC seed h leaf m)),.lst false 1 (tkP seed h leaf).length (Af .u64 (tkP seed h leaf))],.sc (.int .i64 (tkE h leaf))],[]⟩:=by kernel_rfl
theorem Aqm (seed h leaf m:Int):(EM seed h leaf m=none∧tkE h leaf=9)∨(EM seed h leaf m=some ⟨tkL h leaf,tkC seed h leaf m,tkP seed h leaf⟩∧tkE h leaf=0):=by
 unfold EM tkE tkL tkC tkP NY;cases C4 h
 ·cases Hp leaf h
  ·exact .inr ⟨rfl,rfl⟩
  ·exact .inl ⟨rfl,rfl⟩
 ·exact .inl ⟨rfl,rfl⟩
theorem Amc (hfu:1000<=fu)(hw:c.wf)(hs1:c.subj.size<=9223372036854775807)(hs2:c.iss.size<=9223372036854775807)(seed h leaf:Int):Ad C0 Tryz.prog fu (d+9) Pu [.agg c.cells,.sc (.int .u64 seed),.sc (.int .i64 h),.sc (.int .i64 leaf)]=some ⟨[.agg (Qd c seed h leaf).1.cells,.sc (.int .i64 (Qd c seed h leaf).2)],[]⟩:=by
 refine (BL fu (d+8) c.subj c.iss c.serial c.key.h c.key.root c.fr c.un c.auth c.path c.model c.sig.leaf c.sig.chains.length (Af .u64 c.sig.chains) c.sig.path.length (Af .u64 c.sig.path) seed h leaf).trans ?_;have wq:=YE (fu:=fu) (d:=d) hfu hw hs1 hs2;simp only [Ce.cells] at wq;unfold LJ at wq;unfold Qd;by_cases h0:Bd c=0
 ·rw [Bv h0] at wq;rw [Bv h0];have e00:((0:Int) != 0)=false:=rfl;have e90:((9:Int) != 0)=true:=rfl;have tk:=Aqz (fu:=fu) (d:=d+7) seed h leaf (M8 c);have La:=Al .u64 (tkC seed h leaf (M8 c));have Lb:=Al .u64 (tkP seed h leaf);have ta:=Ii .u64 (tkC seed h leaf (M8 c));have tb:=Ii .u64 (tkP seed h leaf);rcases Aqm seed h leaf (M8 c) with ⟨hs,he⟩|⟨hs,he⟩
  ·rw [hs];rw [he] at tk
   try unfold Aa
   repeat first
    |((with_reducible first|apply At|apply Ao|apply Aq|apply Dd|apply Bi|apply Am);· first|with_reducible rfl|(simp (disch:=omega) only [wq,e00,e90,Bz,Ck,Di,tk,La,Lb,ta,tb]<;>with_reducible rfl))
    |((with_reducible first|apply Ar|apply As);· first|with_reducible rfl|omega|(simp (disch:=omega) only [gT,wq,e00,e90,Bz,Ck,Di,tk,La,Lb,ta,tb]<;>omega))
    |(with_reducible apply Au;· first|with_reducible rfl|(simp (disch:=omega) only [gF,wq,e00,e90,Bz,Ck,Di,tk,La,Lb,ta,tb]<;>omega))
   try simp (disch:=omega) only [wq,e00,e90,Bz,Ck,Di,tk,La,Lb,ta,tb]
   all_goals rfl
  ·rw [hs];rw [he] at tk
   try unfold Aa
   repeat first
    |((with_reducible first|apply At|apply Ao|apply Aq|apply Dd|apply Bi|apply Am);· first|with_reducible rfl|(simp (disch:=omega) only [wq,e00,e90,Bz,Ck,Di,tk,La,Lb,ta,tb]<;>with_reducible rfl))
    |((with_reducible first|apply Ar|apply As);· first|with_reducible rfl|omega|(simp (disch:=omega) only [gT,wq,e00,e90,Bz,Ck,Di,tk,La,Lb,ta,tb]<;>omega))
    |(with_reducible apply Au;· first|with_reducible rfl|(simp (disch:=omega) only [gF,wq,e00,e90,Bz,Ck,Di,tk,La,Lb,ta,tb]<;>omega))
   try simp (disch:=omega) only [wq,e00,e90,Bz,Ck,Di,tk,La,Lb,ta,tb]
   all_goals rfl
 ·have hne:(Bd c != 0)=true:=by simp [h0]
  rw [Az h0] at wq;rw [Az h0]
  try unfold Aa
  repeat first
   |((with_reducible first|apply At|apply Ao|apply Aq|apply Dd|apply Bi|apply Am);· first|with_reducible rfl|(simp (disch:=omega) only [wq,hne]<;>with_reducible rfl))
   |((with_reducible first|apply Ar|apply As);· first|with_reducible rfl|omega|(simp (disch:=omega) only [gT,wq,hne]<;>omega))
   |(with_reducible apply Au;· first|with_reducible rfl|(simp (disch:=omega) only [gF,wq,hne]<;>omega))
  try simp (disch:=omega) only [wq,hne]
  all_goals rfl
end
end
section
open Go.IntKind (wrap)
set_option maxRecDepth 1000000
section
variable {fu d:Nat}
theorem OP {call:Ah}{a0n a1n:Nat}{a0 a1:List PV}{l:List Int}(hl:l.length<=1000):∀(k i nn:Nat),i+k=l.length->k<nn ->
  Fa fu call a0n a0 a1n a1 nn l.length (Af .u64 l) l.length (Af .u64 l) i=some ⟨[.sc (.bool true)],[]⟩
 |_,_,0,_,h=>by omega
 |0,i,nn+1,hi,hn=>by
  have e:i=l.length:=by omega
  subst e;rw [Ig];simp (disch:=omega) only [Bx]
 |k+1,i,nn+1,hi,hn=>by
  have ih:=OP (call:=call) (a0n:=a0n) (a1n:=a1n) (a0:=a0) (a1:=a1) hl k (i+1) nn (by omega) (by omega)
  obtain ⟨x,hx⟩:∃x,l[i]?=some x:=⟨_,List.getElem?_eq_getElem (by omega)⟩
  have w:wrap .i64 ((i:Int)+1)=((i+1:Nat):Int):=by rw [Ak (by omega) (by omega)];omega
  have q:(x != x)=false:=bne_self_eq_false x;rw [Ig];simp (disch:=omega) only [Bx,Hi,Bz,Ck,Po hx,q,w];exact ih
theorem Aad (hfu:2000<=fu){l:List Int}(hl:l.length<=1000):Ad C0 Tryz.prog fu (d+1) Jy [.lst false 1 l.length (Af .u64 l),.lst false 1 l.length (Af .u64 l)]=some ⟨[.sc (.bool true)],[]⟩:=by
 refine (Sx fu d l.length (Af .u64 l) l.length (Af .u64 l)).trans ?_;have q:=OP (fu:=fu) (call:=Ad C0 Tryz.prog fu d) (a0n:=l.length) (a1n:=l.length) (a0:=Af .u64 l) (a1:=Af .u64 l) hl l.length 0 fu (by omega) (by omega)
 have b:((l.length:Int) != (l.length:Int))=false:=bne_self_eq_false _;simp only [Bx,b];exact q
theorem Aki (hfu:2000<=fu){s:Sg}(h1:s.chains.length<=1000)(h2:s.path.length<=1000):Ad C0 Tryz.prog fu (d+2) H2 [.agg s.cells,.agg s.cells]=some ⟨[.sc (.bool true)],[]⟩:=by
 refine (Ph fu (d+1) s.leaf s.chains.length (Af .u64 s.chains) s.path.length (Af .u64 s.path) s.leaf s.chains.length (Af .u64 s.chains) s.path.length (Af .u64 s.path)).trans ?_;have w1:=Aad (fu:=fu) (d:=d) hfu h1;have w2:=Aad (fu:=fu) (d:=d) hfu h2;have q1:(s.leaf==s.leaf)=true:=beq_self_eq_true _
 try unfold Aa
 repeat first
  |((with_reducible first|apply At|apply Ao|apply Aq|apply A6|apply A0|apply Ba|apply Dd|apply Bi|apply Am);· first|with_reducible rfl|(simp (disch:=omega) only [q1,w1,w2]<;>with_reducible rfl))
  |((with_reducible first|apply Ar|apply As);· first|with_reducible rfl|omega|(simp (disch:=omega) only [gT,q1,w1,w2]<;>omega))
  |(with_reducible apply Au;· first|with_reducible rfl|(simp (disch:=omega) only [gF,q1,w1,w2]<;>omega))
 try simp (disch:=omega) only [q1,w1,w2]
 all_goals rfl
theorem Aa7 (hfu:2000<=fu){c:Ce}(h1:c.sig.chains.length<=1000)(h2:c.sig.path.length<=1000):Ad C0 Tryz.prog fu (d+3) Gw [.agg c.cells,.agg c.cells]=some ⟨[.sc (.bool true)],[]⟩:=by
 refine (Mq fu (d+2) c.subj c.iss c.serial c.key.h c.key.root c.fr c.un c.auth c.path c.model c.sig.leaf c.sig.chains.length (Af .u64 c.sig.chains) c.sig.path.length (Af .u64 c.sig.path) c.subj c.iss c.serial c.key.h c.key.root c.fr c.un c.auth c.path c.model c.sig.leaf c.sig.chains.length (Af .u64 c.sig.chains) c.sig.path.length (Af .u64 c.sig.path)).trans ?_;have ws:=Aki (fu:=fu) (d:=d) hfu h1 h2;simp only [Sg.cells] at ws;have q0:∀l:List UInt8,(l==l)=true:=fun l=>beq_self_eq_true l
 have q1:∀l:Int,(l==l)=true:=fun l=>beq_self_eq_true l
 have q2:∀l:Bool,(l==l)=true:=fun l=>beq_self_eq_true l
 try unfold Aa
 repeat first
  |((with_reducible first|apply At|apply Ao|apply Aq|apply A6|apply A0|apply Ba|apply Dd|apply Bi|apply Am);· first|with_reducible rfl|(simp (disch:=omega) only [q0,q1,q2,Bool.and_true,ws]<;>with_reducible rfl))
  |((with_reducible first|apply Ar|apply As);· first|with_reducible rfl|omega|(simp (disch:=omega) only [gT,q0,q1,q2,Bool.and_true,ws]<;>omega))
  |(with_reducible apply Au;· first|with_reducible rfl|(simp (disch:=omega) only [gF,q0,q1,q2,Bool.and_true,ws]<;>omega))
 try simp (disch:=omega) only [q0,q1,q2,Bool.and_true,ws]
 all_goals rfl
end
abbrev lfS:ByteArray:=⟨#[(108:UInt8),(101:UInt8),(97:UInt8),(102:UInt8)]⟩
abbrev rtS:ByteArray:=⟨#[(114:UInt8),(111:UInt8),(111:UInt8),(116:UInt8)]⟩
def cA0:Ce:=⟨lfS,rtS,9,My 5 1,1,8,false,0,0,⟨0,[],[]⟩⟩
theorem Aa5:Bd cA0=0:=by
 unfold Bd;have h1:cA0.subj.size=4:=rfl;have h2:cA0.iss.size=4:=rfl;have h3:RH cA0.subj=true:=by decide
 have h4:RH cA0.iss=true:=by decide
 have h5:C4 cA0.key.h=false:=Ahl 5 1;have h6:cA0.fr=1:=rfl;have h7:cA0.un=8:=rfl;have h8:cA0.path=0:=rfl;rw [h1,h2,h3,h4,h5,h6,h7,h8];simp
theorem Ae0:∃s,EM 71 1 0 (M8 cA0)=some s∧s.ok∧s.leaf=0∧s.chains.length=18∧(s.path.length:Int)=1∧Aaf (My 71 1) (M8 cA0) s=0:=Aoe (by decide) (by decide)
noncomputable def XT:Sg:=Classical.choose Ae0
theorem FN:EM 71 1 0 (M8 cA0)=some XT∧XT.ok∧XT.leaf=0∧XT.chains.length=18∧(XT.path.length:Int)=1∧Aaf (My 71 1) (M8 cA0) XT=0:=Classical.choose_spec Ae0
noncomputable def cA:Ce:={ cA0 with sig:=XT }
theorem Aep:cA.ok:=⟨by decide,by decide,UD 5 1,FN.2.1⟩
theorem WD:Bd cA=0:=Aa5
theorem XI:Dn cA=0:=by
 obtain ⟨_,_,h3,h4,h5,_⟩:=FN;unfold Dn;rw [WD,Bv rfl];show GJ XT=0;unfold GJ;rw [h5,h3,Az (by decide),Az (by decide),Az (by omega)]
theorem Ae8:cA.in_:=⟨Aep.wf,by show lfS.size<=_;decide,by show rtS.size<=_;decide⟩
theorem Ane:IC cA (My 71 1)=0:=by
 unfold IC;rw [WD,Bv rfl];exact FN.2.2.2.2.2
theorem Af6:Qd cA0 71 1 0=(cA,0):=by
 unfold Qd;rw [Bv Aa5,FN.1];rfl
theorem Aap (now:Int)(h0:1<=now)(h1:now<=9):YC [cA] [⟨rtS,My 71 1⟩] [] now=if now<=8 then (0,0) else (0,38):=by
 unfold YC;rw [Az (by omega),Az (by omega),Az (by simp),Az (by simp)]
 unfold QE
 have lk:Rz cA ((0:Nat):Int) [] now=if now<1 then 38 else if now>8 then 38 else ZT cA now []:=by
  unfold Rz;rw [WD];rfl
 have n1:¬(now<1):=by omega
 rw [lk,Az n1];by_cases h:now<=8
 ·have r0:ZT cA now []=0:=rfl;have n8:¬(now>8):=by omega
  rw [Az n8,Bv h,r0,Az (by simp)]
  unfold Ak5
  have is:Yo cA 0 [⟨rtS,My 71 1⟩]=0:=by
   rw [Yo,Bv ⟨by decide,Ane⟩]
   rfl
  rw [is];rfl
 ·have n8:now>8:=by omega
  rw [Bv n8,Az h,Bv (by simp)]
section
variable {d:Nat}
theorem Al1:Ad C0 Tryz.prog 2000 (d+15) M6 []=some ⟨[.sc (.bool true)],[]⟩:=by
 rw [Xj];have k5:=Akd (fu:=2000) (d:=d+1) (by omega) 5 1
 have k71:=Akd (fu:=2000) (d:=d+1) (by omega) 71 1
 have sg:=Amc (fu:=2000) (d:=d+5) (c:=cA0) (by omega) ⟨by decide,by decide⟩ (by decide) (by decide) 71 1 0
 rw [Af6] at sg;obtain ⟨_,_,h3,h4,h5,_⟩:=FN;have l1:cA.sig.chains.length=18:=h4;have l2:cA.sig.path.length=1:=by have:(cA.sig.path.length:Int)=1:=h5;omega
 have en:=Afk (fu:=2000) (d:=d+6) (c:=cA) (by omega) Aep.wf Ae8.s1 Ae8.s2 (by omega) (by omega)
 unfold Uo at en;rw [XI,Bv rfl] at en;have el:=Ya (c:=cA) XI;have de:=Aew (fu:=2000) (d:=d+5) (by omega) (VD Aep.wf XI) (by omega)
 rw [OI Aep XI] at de;have p8:=Aak (fu:=2000) (d:=d+4) (by omega) (cs:=[cA]) (by intro c hc;rw [List.mem_singleton.1 hc];exact Ae8) (ans:=[⟨rtS,My 71 1⟩]) (by simp) (vs:=[]) (by simp) 8
 have p9:=Aak (fu:=2000) (d:=d+4) (by omega) (cs:=[cA]) (by intro c hc;rw [List.mem_singleton.1 hc];exact Ae8) (ans:=[⟨rtS,My 71 1⟩]) (by simp) (vs:=[]) (by simp) 9
 rw [Aap 8 (by omega) (by omega),Bv (by omega)] at p8
 rw [Aap 9 (by omega) (by omega),Az (by omega)] at p9
 have sm:=Aa7 (fu:=2000) (d:=d+11) (c:=cA) (by omega) (by omega) (by omega)
 have L:=Al .u8 (En cA);have t:=Ii .u8 (En cA);have c0:cA0.cells=[.sc (.string lfS),.sc (.string rtS),.sc (.int .u64 9),.sc (.int .i64 (My 5 1).h),.sc (.int .u64 (My 5 1).root),.sc (.int .i64 1),.sc (.int .i64 8),.sc (.bool false),.sc (.int .i64 0),.sc (.int .u64 0),.sc (.int .i64 0),.lst false 1 0 [],.lst false 1 0 []]:=rfl;rw [c0] at sg;have e0:Jb [cA]=cA.cells:=by unfold Jb;simp
 have e1:FM [⟨rtS,My 71 1⟩]=[.sc (.string rtS),.sc (.int .i64 (My 71 1).h),.sc (.int .u64 (My 71 1).root)]:=rfl;have e2:V3 []=[]:=rfl;rw [e0,e1,e2] at p8 p9;simp only [Ce.cells,Ky.cells,Kb,ED,Ck] at k5 k71 sg en de p8 p9 sm;generalize En cA=E at *
 generalize cA=C at *
 generalize My 5 1=K at *
 generalize My 71 1=K2 at *
 have b0:((0:Int)==0)=true:=rfl;have b38:((38:Int)==38)=true:=rfl
 try unfold Aa
 repeat first
  |((with_reducible first|apply At|apply Ao|apply Aq|apply A6|apply A0|apply Ba|apply Dd|apply Bi|apply Am);· first|with_reducible rfl|(simp (disch:=omega) only [k5,k71,sg,en,de,p8,p9,sm,b0,b38,Di,Ck,Bz,L,t]<;>with_reducible rfl))
  |((with_reducible first|apply Ar|apply As);· first|with_reducible rfl|omega|(simp (disch:=omega) only [gT,k5,k71,sg,en,de,p8,p9,sm,b0,b38,Di,Ck,Bz,L,t]<;>omega))
  |(with_reducible apply Au;· first|with_reducible rfl|(simp (disch:=omega) only [gF,k5,k71,sg,en,de,p8,p9,sm,b0,b38,Di,Ck,Bz,L,t]<;>omega))
 try simp (disch:=omega) only [k5,k71,sg,en,de,p8,p9,sm,b0,b38,Di,Ck,Bz,L,t]
 all_goals rfl
end
end
section
open Go.IntKind (wrap)
set_option maxRecDepth 1000000
def Ce.cells0 (c:Ce):List PV:=[.sc (.string c.subj),.sc (.string c.iss),.sc (.int .u64 c.serial),.sc (.int .i64 c.key.h),.sc (.int .u64 c.key.root),.sc (.int .i64 c.fr),.sc (.int .i64 c.un),.sc (.bool c.auth),.sc (.int .i64 c.path),.sc (.int .u64 c.model),.sc (.int .i64 0),.own 1 0 [],.own 1 0 []]
structure Ce.plain (c:Ce):Prop where
 ok:c.ok
 s1:c.subj.size<=100
 s2:c.iss.size<=100
 sg:c.sig=⟨0,[],[]⟩
theorem w0:isW ([]:List Int):=fun x h=>by cases h
theorem Aer {v:Int}{S:List ByteArray}(h0:0<=v)(h1:v<S.length)(hS:∀s∈S,s.size<=100):∃s:ByteArray,s.size<=100∧(S.map fun s=>PV.sc (.string s)).getD (0+Int.toNat v*1) .top=.sc (.string s):=by
 have hlt:v.toNat<S.length:=by omega
 refine ⟨S[v.toNat],hS _ (List.getElem_mem hlt),?_⟩;rw [Ck,Bz,List.getD_eq_getElem?_getD,List.getElem?_map,List.getElem?_eq_getElem hlt];rfl
abbrev mdS:ByteArray:=⟨#[(109:UInt8),(105:UInt8),(100:UInt8)]⟩
abbrev tpS:ByteArray:=⟨#[(116:UInt8),(111:UInt8),(112:UInt8)]⟩
abbrev xxS:ByteArray:=⟨#[]⟩
abbrev ffS:ByteArray:=⟨#[(255:UInt8)]⟩
abbrev otS:ByteArray:=⟨#[(111:UInt8),(116:UInt8),(104:UInt8),(101:UInt8),(114:UInt8)]⟩
theorem Aiz {d:Nat}{l:List Int}(hl:l.length<=maxLen)(i:Nat):∃(c:Ce)(j:Nat),c.plain ∧
  Ad C0 Tryz.prog 2000 (d+14) G6 [.pbox (dkc l i)]=some ⟨[.agg c.cells0],[dkc l j]⟩:=by
 obtain ⟨v0,j0,v00,v01,n0⟩:=Ga hl i 5 (by omega) (by omega)
 obtain ⟨v1,j1,v10,v11,n1⟩:=Ga hl j0 3 (by omega) (by omega)
 obtain ⟨v2,j2,v20,v21,n2⟩:=Ga hl j1 9 (by omega) (by omega)
 obtain ⟨v3,j3,v30,v31,n3⟩:=Ga hl j2 4 (by omega) (by omega)
 obtain ⟨v4,j4,v40,v41,n4⟩:=Ga hl j3 4 (by omega) (by omega)
 obtain ⟨v5,j5,v50,v51,n5⟩:=Ga hl j4 20 (by omega) (by omega)
 obtain ⟨v6,j6,v60,v61,n6⟩:=Ga hl j5 60 (by omega) (by omega)
 obtain ⟨v7,j7,v70,v71,n7⟩:=Ga hl j6 2 (by omega) (by omega)
 obtain ⟨v8,j8,v80,v81,n8⟩:=Ga hl j7 3 (by omega) (by omega)
 have E:=Mt 2000 (d+13) l.length (Af .i64 l) i;have n0:=n0 (fu:=2000) (d:=d+11);have n1:=n1 (fu:=2000) (d:=d+11);have n2:=n2 (fu:=2000) (d:=d+11);have n3:=n3 (fu:=2000) (d:=d+11);have n4:=n4 (fu:=2000) (d:=d+11);have n5:=n5 (fu:=2000) (d:=d+11);have n6:=n6 (fu:=2000) (d:=d+11);have n7:=n7 (fu:=2000) (d:=d+11);have n8:=n8 (fu:=2000) (d:=d+11);have pk:=PE (fu:=2000) (d:=d+1) (by omega) (wrap .u64 v0) v1
 obtain ⟨q,q0,q1,hq⟩:∃q:Int,0<=q∧q<5∧(if (4:Int)<v2 then (4:Int) else v2)=q:=⟨_,by split<;>omega,by split<;>omega,rfl⟩
 obtain ⟨s1,z1,g1⟩:=Aer (S:=[lfS,mdS,tpS,xxS,ffS]) q0 (by simpa using q1) (by decide)
 obtain ⟨s2,z2,g2⟩:=Aer (S:=[rtS,mdS,tpS,otS]) v30 (by simpa using v31) (by decide)
 simp only [Zzw,List.map_nil] at g1 g2;have cq:(decide ((0:Int)<=q)&&decide (q<5))=true:=by simp;omega
 have c3:(decide ((0:Int)<=v3)&&decide (v3<4))=true:=by simp;omega
 have kr:=UD (wrap .u64 v0) v1;simp only [Ky.cells] at pk;simp only [dkc] at n0 n1 n2 n3 n4 n5 n6 n7 n8;generalize My (wrap .u64 v0) v1=K at *
 generalize (if C4 v1=true then (9:Int) else 0)=er at *
 have ka:v7=1∨v7=0:=by omega
 rcases ka with rfl|rfl
 ·obtain ⟨v9,j9,v90,v91,n9⟩:=Ga hl j8 3 (by omega) (by omega)
  obtain ⟨vs,js,vs0,vs1,ns⟩:=Ga hl j9 14 (by omega) (by omega)
  have n9:=n9 (fu:=2000) (d:=d+11);have ns:=ns (fu:=2000) (d:=d+11);simp only [dkc] at n9 ns;have e11:((1:Int)==1)=true:=rfl;have h4:vs=13∨vs=12∨vs=11∨vs=10∨(vs≠13∧vs≠12∧vs≠11∧vs≠10):=by omega
  rcases h4 with rfl|rfl|rfl|rfl|⟨m1,m2,m3,m4⟩
  ·refine ⟨⟨s1,s2,wrap .u64 v4,K,v5,wrap .i64 (v5-1),true,v9,wrap .u64 v8,⟨0,[],[]⟩⟩,js,⟨⟨Bn _,Bn _,kr,⟨w0,w0⟩⟩,z1,z2,rfl⟩,E.trans ?_⟩
   try unfold Aa
   repeat first
    |((with_reducible first|apply At|apply Ao|apply Aq|apply A0|apply Dd|apply Bi|apply Am);· first|with_reducible rfl|(simp (disch:=omega) only [n0,n1,n2,n3,n4,n5,n6,n7,n8,n9,ns,pk,hq,g1,g2,cq,c3,e11,Int.reduceBEq]<;>with_reducible rfl))
    |((with_reducible first|apply Ar|apply As);· first|with_reducible rfl|omega|(simp (disch:=omega) only [gT,n0,n1,n2,n3,n4,n5,n6,n7,n8,n9,ns,pk,hq,g1,g2,cq,c3,e11,Int.reduceBEq]<;>omega))
    |(with_reducible apply Au;· first|with_reducible rfl|(simp (disch:=omega) only [gF,n0,n1,n2,n3,n4,n5,n6,n7,n8,n9,ns,pk,hq,g1,g2,cq,c3,e11,Int.reduceBEq]<;>omega))
   try simp (disch:=omega) only [n0,n1,n2,n3,n4,n5,n6,n7,n8,n9,ns,pk,hq,g1,g2,cq,c3,e11,Int.reduceBEq]
   all_goals rfl
  ·refine ⟨⟨s1,s2,wrap .u64 v4,K,v5,wrap .i64 (20+v6),true,3,wrap .u64 v8,⟨0,[],[]⟩⟩,js,⟨⟨Bn _,Bn _,kr,⟨w0,w0⟩⟩,z1,z2,rfl⟩,E.trans ?_⟩
   try unfold Aa
   repeat first
    |((with_reducible first|apply At|apply Ao|apply Aq|apply A0|apply Dd|apply Bi|apply Am);· first|with_reducible rfl|(simp (disch:=omega) only [n0,n1,n2,n3,n4,n5,n6,n7,n8,n9,ns,pk,hq,g1,g2,cq,c3,e11,Int.reduceBEq]<;>with_reducible rfl))
    |((with_reducible first|apply Ar|apply As);· first|with_reducible rfl|omega|(simp (disch:=omega) only [gT,n0,n1,n2,n3,n4,n5,n6,n7,n8,n9,ns,pk,hq,g1,g2,cq,c3,e11,Int.reduceBEq]<;>omega))
    |(with_reducible apply Au;· first|with_reducible rfl|(simp (disch:=omega) only [gF,n0,n1,n2,n3,n4,n5,n6,n7,n8,n9,ns,pk,hq,g1,g2,cq,c3,e11,Int.reduceBEq]<;>omega))
   try simp (disch:=omega) only [n0,n1,n2,n3,n4,n5,n6,n7,n8,n9,ns,pk,hq,g1,g2,cq,c3,e11,Int.reduceBEq]
   all_goals rfl
  ·refine ⟨⟨s1,s2,wrap .u64 v4,⟨5,K.root⟩,v5,wrap .i64 (20+v6),true,v9,wrap .u64 v8,⟨0,[],[]⟩⟩,js,⟨⟨Bn _,Bn _,kr,⟨w0,w0⟩⟩,z1,z2,rfl⟩,E.trans ?_⟩
   try unfold Aa
   repeat first
    |((with_reducible first|apply At|apply Ao|apply Aq|apply A0|apply Dd|apply Bi|apply Am);· first|with_reducible rfl|(simp (disch:=omega) only [n0,n1,n2,n3,n4,n5,n6,n7,n8,n9,ns,pk,hq,g1,g2,cq,c3,e11,Int.reduceBEq]<;>with_reducible rfl))
    |((with_reducible first|apply Ar|apply As);· first|with_reducible rfl|omega|(simp (disch:=omega) only [gT,n0,n1,n2,n3,n4,n5,n6,n7,n8,n9,ns,pk,hq,g1,g2,cq,c3,e11,Int.reduceBEq]<;>omega))
    |(with_reducible apply Au;· first|with_reducible rfl|(simp (disch:=omega) only [gF,n0,n1,n2,n3,n4,n5,n6,n7,n8,n9,ns,pk,hq,g1,g2,cq,c3,e11,Int.reduceBEq]<;>omega))
   try simp (disch:=omega) only [n0,n1,n2,n3,n4,n5,n6,n7,n8,n9,ns,pk,hq,g1,g2,cq,c3,e11,Int.reduceBEq]
   all_goals rfl
  ·refine ⟨⟨s1,s2,wrap .u64 v4,K,v5,wrap .i64 (20+v6),true,1,wrap .u64 v8,⟨0,[],[]⟩⟩,js,⟨⟨Bn _,Bn _,kr,⟨w0,w0⟩⟩,z1,z2,rfl⟩,E.trans ?_⟩
   try unfold Aa
   repeat first
    |((with_reducible first|apply At|apply Ao|apply Aq|apply A0|apply Dd|apply Bi|apply Am);· first|with_reducible rfl|(simp (disch:=omega) only [n0,n1,n2,n3,n4,n5,n6,n7,n8,n9,ns,pk,hq,g1,g2,cq,c3,e11,Int.reduceBEq]<;>with_reducible rfl))
    |((with_reducible first|apply Ar|apply As);· first|with_reducible rfl|omega|(simp (disch:=omega) only [gT,n0,n1,n2,n3,n4,n5,n6,n7,n8,n9,ns,pk,hq,g1,g2,cq,c3,e11,Int.reduceBEq]<;>omega))
    |(with_reducible apply Au;· first|with_reducible rfl|(simp (disch:=omega) only [gF,n0,n1,n2,n3,n4,n5,n6,n7,n8,n9,ns,pk,hq,g1,g2,cq,c3,e11,Int.reduceBEq]<;>omega))
   try simp (disch:=omega) only [n0,n1,n2,n3,n4,n5,n6,n7,n8,n9,ns,pk,hq,g1,g2,cq,c3,e11,Int.reduceBEq]
   all_goals rfl
  ·refine ⟨⟨s1,s2,wrap .u64 v4,K,v5,wrap .i64 (20+v6),true,v9,wrap .u64 v8,⟨0,[],[]⟩⟩,js,⟨⟨Bn _,Bn _,kr,⟨w0,w0⟩⟩,z1,z2,rfl⟩,E.trans ?_⟩;have f1:(vs==13)=false:=by rw [beq_eq_false_iff_ne];exact m1
   have f2:(vs==12)=false:=by rw [beq_eq_false_iff_ne];exact m2
   have f3:(vs==11)=false:=by rw [beq_eq_false_iff_ne];exact m3
   have f4:(vs==10)=false:=by rw [beq_eq_false_iff_ne];exact m4
   try unfold Aa
   repeat first
    |((with_reducible first|apply At|apply Ao|apply Aq|apply A0|apply Dd|apply Bi|apply Am);· first|with_reducible rfl|(simp (disch:=omega) only [n0,n1,n2,n3,n4,n5,n6,n7,n8,n9,ns,pk,hq,g1,g2,cq,c3,e11,f1,f2,f3,f4]<;>with_reducible rfl))
    |((with_reducible first|apply Ar|apply As);· first|with_reducible rfl|omega|(simp (disch:=omega) only [gT,n0,n1,n2,n3,n4,n5,n6,n7,n8,n9,ns,pk,hq,g1,g2,cq,c3,e11,f1,f2,f3,f4]<;>omega))
    |(with_reducible apply Au;· first|with_reducible rfl|(simp (disch:=omega) only [gF,n0,n1,n2,n3,n4,n5,n6,n7,n8,n9,ns,pk,hq,g1,g2,cq,c3,e11,f1,f2,f3,f4]<;>omega))
   try simp (disch:=omega) only [n0,n1,n2,n3,n4,n5,n6,n7,n8,n9,ns,pk,hq,g1,g2,cq,c3,e11,f1,f2,f3,f4]
   all_goals rfl
 ·obtain ⟨vs,js,vs0,vs1,ns⟩:=Ga hl j8 14 (by omega) (by omega)
  have ns:=ns (fu:=2000) (d:=d+11);simp only [dkc] at ns;have e11:((0:Int)==1)=false:=rfl;have h4:vs=13∨vs=12∨vs=11∨vs=10∨(vs≠13∧vs≠12∧vs≠11∧vs≠10):=by omega
  rcases h4 with rfl|rfl|rfl|rfl|⟨m1,m2,m3,m4⟩
  ·refine ⟨⟨s1,s2,wrap .u64 v4,K,v5,wrap .i64 (v5-1),false,0,wrap .u64 v8,⟨0,[],[]⟩⟩,js,⟨⟨Bn _,Bn _,kr,⟨w0,w0⟩⟩,z1,z2,rfl⟩,E.trans ?_⟩
   try unfold Aa
   repeat first
    |((with_reducible first|apply At|apply Ao|apply Aq|apply A0|apply Dd|apply Bi|apply Am);· first|with_reducible rfl|(simp (disch:=omega) only [n0,n1,n2,n3,n4,n5,n6,n7,n8,ns,pk,hq,g1,g2,cq,c3,e11,Int.reduceBEq]<;>with_reducible rfl))
    |((with_reducible first|apply Ar|apply As);· first|with_reducible rfl|omega|(simp (disch:=omega) only [gT,n0,n1,n2,n3,n4,n5,n6,n7,n8,ns,pk,hq,g1,g2,cq,c3,e11,Int.reduceBEq]<;>omega))
    |(with_reducible apply Au;· first|with_reducible rfl|(simp (disch:=omega) only [gF,n0,n1,n2,n3,n4,n5,n6,n7,n8,ns,pk,hq,g1,g2,cq,c3,e11,Int.reduceBEq]<;>omega))
   try simp (disch:=omega) only [n0,n1,n2,n3,n4,n5,n6,n7,n8,ns,pk,hq,g1,g2,cq,c3,e11,Int.reduceBEq]
   all_goals rfl
  ·refine ⟨⟨s1,s2,wrap .u64 v4,K,v5,wrap .i64 (20+v6),false,3,wrap .u64 v8,⟨0,[],[]⟩⟩,js,⟨⟨Bn _,Bn _,kr,⟨w0,w0⟩⟩,z1,z2,rfl⟩,E.trans ?_⟩
   try unfold Aa
   repeat first
    |((with_reducible first|apply At|apply Ao|apply Aq|apply A0|apply Dd|apply Bi|apply Am);· first|with_reducible rfl|(simp (disch:=omega) only [n0,n1,n2,n3,n4,n5,n6,n7,n8,ns,pk,hq,g1,g2,cq,c3,e11,Int.reduceBEq]<;>with_reducible rfl))
    |((with_reducible first|apply Ar|apply As);· first|with_reducible rfl|omega|(simp (disch:=omega) only [gT,n0,n1,n2,n3,n4,n5,n6,n7,n8,ns,pk,hq,g1,g2,cq,c3,e11,Int.reduceBEq]<;>omega))
    |(with_reducible apply Au;· first|with_reducible rfl|(simp (disch:=omega) only [gF,n0,n1,n2,n3,n4,n5,n6,n7,n8,ns,pk,hq,g1,g2,cq,c3,e11,Int.reduceBEq]<;>omega))
   try simp (disch:=omega) only [n0,n1,n2,n3,n4,n5,n6,n7,n8,ns,pk,hq,g1,g2,cq,c3,e11,Int.reduceBEq]
   all_goals rfl
  ·refine ⟨⟨s1,s2,wrap .u64 v4,⟨5,K.root⟩,v5,wrap .i64 (20+v6),false,0,wrap .u64 v8,⟨0,[],[]⟩⟩,js,⟨⟨Bn _,Bn _,kr,⟨w0,w0⟩⟩,z1,z2,rfl⟩,E.trans ?_⟩
   try unfold Aa
   repeat first
    |((with_reducible first|apply At|apply Ao|apply Aq|apply A0|apply Dd|apply Bi|apply Am);· first|with_reducible rfl|(simp (disch:=omega) only [n0,n1,n2,n3,n4,n5,n6,n7,n8,ns,pk,hq,g1,g2,cq,c3,e11,Int.reduceBEq]<;>with_reducible rfl))
    |((with_reducible first|apply Ar|apply As);· first|with_reducible rfl|omega|(simp (disch:=omega) only [gT,n0,n1,n2,n3,n4,n5,n6,n7,n8,ns,pk,hq,g1,g2,cq,c3,e11,Int.reduceBEq]<;>omega))
    |(with_reducible apply Au;· first|with_reducible rfl|(simp (disch:=omega) only [gF,n0,n1,n2,n3,n4,n5,n6,n7,n8,ns,pk,hq,g1,g2,cq,c3,e11,Int.reduceBEq]<;>omega))
   try simp (disch:=omega) only [n0,n1,n2,n3,n4,n5,n6,n7,n8,ns,pk,hq,g1,g2,cq,c3,e11,Int.reduceBEq]
   all_goals rfl
  ·refine ⟨⟨s1,s2,wrap .u64 v4,K,v5,wrap .i64 (20+v6),false,1,wrap .u64 v8,⟨0,[],[]⟩⟩,js,⟨⟨Bn _,Bn _,kr,⟨w0,w0⟩⟩,z1,z2,rfl⟩,E.trans ?_⟩
   try unfold Aa
   repeat first
    |((with_reducible first|apply At|apply Ao|apply Aq|apply A0|apply Dd|apply Bi|apply Am);· first|with_reducible rfl|(simp (disch:=omega) only [n0,n1,n2,n3,n4,n5,n6,n7,n8,ns,pk,hq,g1,g2,cq,c3,e11,Int.reduceBEq]<;>with_reducible rfl))
    |((with_reducible first|apply Ar|apply As);· first|with_reducible rfl|omega|(simp (disch:=omega) only [gT,n0,n1,n2,n3,n4,n5,n6,n7,n8,ns,pk,hq,g1,g2,cq,c3,e11,Int.reduceBEq]<;>omega))
    |(with_reducible apply Au;· first|with_reducible rfl|(simp (disch:=omega) only [gF,n0,n1,n2,n3,n4,n5,n6,n7,n8,ns,pk,hq,g1,g2,cq,c3,e11,Int.reduceBEq]<;>omega))
   try simp (disch:=omega) only [n0,n1,n2,n3,n4,n5,n6,n7,n8,ns,pk,hq,g1,g2,cq,c3,e11,Int.reduceBEq]
   all_goals rfl
  ·refine ⟨⟨s1,s2,wrap .u64 v4,K,v5,wrap .i64 (20+v6),false,0,wrap .u64 v8,⟨0,[],[]⟩⟩,js,⟨⟨Bn _,Bn _,kr,⟨w0,w0⟩⟩,z1,z2,rfl⟩,E.trans ?_⟩;have f1:(vs==13)=false:=by rw [beq_eq_false_iff_ne];exact m1
   have f2:(vs==12)=false:=by rw [beq_eq_false_iff_ne];exact m2
   have f3:(vs==11)=false:=by rw [beq_eq_false_iff_ne];exact m3
   have f4:(vs==10)=false:=by rw [beq_eq_false_iff_ne];exact m4
   try unfold Aa
   repeat first
    |((with_reducible first|apply At|apply Ao|apply Aq|apply A0|apply Dd|apply Bi|apply Am);· first|with_reducible rfl|(simp (disch:=omega) only [n0,n1,n2,n3,n4,n5,n6,n7,n8,ns,pk,hq,g1,g2,cq,c3,e11,f1,f2,f3,f4]<;>with_reducible rfl))
    |((with_reducible first|apply Ar|apply As);· first|with_reducible rfl|omega|(simp (disch:=omega) only [gT,n0,n1,n2,n3,n4,n5,n6,n7,n8,ns,pk,hq,g1,g2,cq,c3,e11,f1,f2,f3,f4]<;>omega))
    |(with_reducible apply Au;· first|with_reducible rfl|(simp (disch:=omega) only [gF,n0,n1,n2,n3,n4,n5,n6,n7,n8,ns,pk,hq,g1,g2,cq,c3,e11,f1,f2,f3,f4]<;>omega))
   try simp (disch:=omega) only [n0,n1,n2,n3,n4,n5,n6,n7,n8,ns,pk,hq,g1,g2,cq,c3,e11,f1,f2,f3,f4]
   all_goals rfl
end
section
open Go.IntKind (wrap)
set_option maxRecDepth 1000000
theorem Akt {c:Ce}(hc:c.plain)(seed h leaf:Int):(Qd c seed h leaf).1.wf∧(Qd c seed h leaf).1.subj.size<=100∧(Qd c seed h leaf).1.iss.size<=100∧(Qd c seed h leaf).1.sig.path.length<=4:=by
 have z:V0.wf∧V0.subj.size<=100∧V0.iss.size<=100∧V0.sig.path.length<=4:=⟨⟨by decide,by decide⟩,by decide,by decide,by decide⟩
 unfold Qd;split
 ·cases hs:EM seed h leaf (M8 c) with
  |none=>exact z
  |some s=>exact ⟨⟨hc.ok.ser.1,hc.ok.mod.1⟩,hc.s1,hc.s2,(TN hs).2⟩
 ·exact z
end
section
open Go.IntKind (wrap)
set_option maxRecDepth 100000
abbrev F5:FuncId:=5
theorem Ka (fu d a0n:Nat)(a0:List PV)(a1n:Nat)(a1:List PV):Ad C0 Tryz.prog fu (d+1) F5 [.lst false 1 a0n a0,.lst false 1 a1n a1]=(fun (call:Ah)=>A3 (decide ((↑a0n:Int)>600)) (Ag (call 10 []) fun x1 x2=>Ac x2<|Ab x1 fun x3 x4=>Br x3 fun x5=>Ac x4<|some (Aw.mk [.sc (.bool x5)] [])) (Ag (call 11 [.lst false 1 a1n a1]) fun x6 x7=>Ac x7<|Ab x6 fun x8 x9=>AM x8 fun Cm=>Ab Cm fun Bq Dm=>Ho 1 Bq fun Ds Cu Dw=>Ab Dm fun Ea Ef=>Ae .i64 Ea fun Ew=>Ac Ef<|Ac x9<|Ag (call 12 [.pbox [.lst false 1 Cu Dw,.sc (.int .i64 Ew)]]) fun Ej Fb=>Ab Ej fun G9 Cp=>Dt G9 fun Hb=>Ab Hb fun Dx B4=>Cr Dx fun Ft=>Ab B4 fun Hn Bk=>Cr Hn fun Ci=>Ab Bk fun I1 Jd=>Ae .u64 I1 fun J9=>Ab Jd fun Kc Lx=>Ae .i64 Kc fun Ob=>Ab Lx fun Pt Q5=>Ae .u64 Pt fun Gn=>Ab Q5 fun Ie Sv=>Ae .i64 Ie fun Wg=>Ab Sv fun Kd S1=>Ae .i64 Kd fun Sd=>Ab S1 fun Re Sf=>Br Re fun Vp=>Ab Sf fun V9 Q8=>Ae .i64 V9 fun Ud=>Ab Q8 fun Vo Vx=>Ae .u64 Vo fun Nn=>Ab Vx fun Vt AC=>Ae .i64 Vt fun Ye=>Ab AC fun Up R7=>D4 1 Up fun Vl Wu=>Ab R7 fun Su Rg=>D4 1 Su fun Wn Wc=>Ac Rg<|Ac Cp<|Ab Fb fun Yb Uj=>Ab Yb fun Uc Z9=>Ho 1 Uc fun Wy Wk Vu=>Ab Z9 fun Ze AL=>Ae .i64 Ze fun Yz=>Ac AL<|Ac Uj<|Ag (call 14 [.pbox [.lst false 1 Wk Vu,.sc (.int .i64 Yz)],.sc (.int .i64 2)]) fun Z8 BK=>Ab Z8 fun Y0 Tw=>Ae .i64 Y0 fun DU=>Ac Tw<|Ab BK fun GI PL=>Ab GI fun MH LD=>Ho 1 MH fun HV KR ON=>Ab LD fun HO Vy=>Ae .i64 HO fun BA=>Ac Vy<|Ac PL<|Aa (wrap .i64 (1+DU)) fun Y1=>Ag (call 14 [.pbox [.lst false 1 KR ON,.sc (.int .i64 BA)],.sc (.int .i64 2)]) fun QU RY=>Ab QU fun RP GG=>Ae .i64 RP fun UW=>Ac GG<|Ab RY fun VV RF=>Ab VV fun SN CW=>Ho 1 SN fun Us Sq Hc=>Ab CW fun I0 We=>Ae .i64 I0 fun Pe=>Ac We<|Ac RF<|Ap (decide (0+Vl*1<=Wu.length))<|Ap (decide (0+Wn*1<=Wc.length))<|Ag (call 13 [.agg [.sc (.string Ft),.sc (.string Ci),.sc (.int .u64 J9),.sc (.int .i64 Ob),.sc (.int .u64 Gn),.sc (.int .i64 Wg),.sc (.int .i64 Sd),.sc (.bool Vp),.sc (.int .i64 Ud),.sc (.int .u64 Nn),.sc (.int .i64 Ye),.lst false 1 Vl (List.take (Vl*1) (List.drop 0 Wu)),.lst false 1 Wn (List.take (Wn*1) (List.drop 0 Wc))],.sc (.int .u64 3),.sc (.int .i64 Y1),.sc (.int .i64 UW)]) fun Pd Ja=>Ac Ja<|Ab Pd fun V7 W9=>Dt V7 fun Xy=>Ab Xy fun X4 Ik=>Cr X4 fun Jp=>Ab Ik fun Xs Ys=>Cr Xs fun W0=>Ab Ys fun BT Yj=>Ae .u64 BT fun Wm=>Ab Yj fun Wa V8=>Ae .i64 Wa fun Wq=>Ab V8 fun Yq Yd=>Ae .u64 Yq fun Oa=>Ab Yd fun Pa Sk=>Ae .i64 Pa fun Xb=>Ab Sk fun Yv Ko=>Ae .i64 Yv fun CF=>Ab Ko fun Xr Uf=>Br Xr fun AD=>Ab Uf fun FY BC=>Ae .i64 FY fun DQ=>Ab BC fun BX Xu=>Ae .u64 BX fun Zv=>Ab Xu fun CV CZ=>Ae .i64 CV fun BW=>Ab CZ fun Xo AB=>Ho 1 Xo fun BH Z1 CR=>Ab AB fun IA KP=>Ho 1 IA fun HZ Wb CO=>Ac KP<|Ab W9 fun GL LC=>Ae .i64 GL fun Va=>Ac LC<|Ag (call 22 [.agg [.sc (.string Jp),.sc (.string W0),.sc (.int .u64 Wm),.sc (.int .i64 Wq),.sc (.int .u64 Oa),.sc (.int .i64 Xb),.sc (.int .i64 CF),.sc (.bool AD),.sc (.int .i64 DQ),.sc (.int .u64 Zv),.sc (.int .i64 BW),.lst false 1 Z1 CR,.lst false 1 Wb CO]]) fun LF HJ=>Ac HJ<|Ab LF fun KW PX=>D4 1 KW fun Gb Oe=>Ab PX fun MJ HK=>Ae .i64 MJ fun NA=>Ac HK<|Ag (call 23 [.lst false 1 a0n a0]) fun RC HN=>Ac HN<|Ab RC fun KI MB=>Br KI fun KN=>Ac MB<|A3 KN (Ap (decide (0+Gb*1<=Oe.length))<|Ag (call 23 [.lst false 1 Gb (List.take (Gb*1) (List.drop 0 Oe))]) fun MY XJ=>Ac XJ<|Ab MY fun VP WA=>Br VP fun KQ=>Ac WA<|A3 KQ (Ag (call 14 [.pbox [.lst false 1 Sq Hc,.sc (.int .i64 Pe)],.sc (.int .i64 4096)]) fun IE WV=>Ab IE fun QZ VL=>Ae .i64 QZ fun Abq=>Ac VL<|Ab WV fun KS Uy=>Ab KS fun KV Adz=>Ho 1 KV fun Ahr NS Adj=>Ab Adz fun Ady Ade=>Ae .i64 Ady fun Acs=>Ac Ade<|Ac Uy<|Ap (decide (0+Gb*1<=Oe.length))<|Ag (call 24 [.lst false 1 Gb (List.take (Gb*1) (List.drop 0 Oe)),.sc (.int .i64 Abq)]) fun Aca RE=>Ac RE<|Ab Aca fun Adr Abp=>D4 1 Adr fun VN VS=>Ac Abp<|Ap (decide (0+VN*1<=VS.length))<|Ag (call 23 [.lst false 1 VN (List.take (VN*1) (List.drop 0 VS))]) fun Ahw OU=>Ac OU<|Ab Ahw fun MW Aco=>Br MW fun ZR=>Ac Aco<|A3 ZR (Aa (wrap .i64 ((↑Gb:Int)+1)) fun PR=>Ag (call 14 [.pbox [.lst false 1 NS Adj,.sc (.int .i64 Acs)],.sc (.int .i64 PR)]) fun Ac2 Ahp=>Ab Ac2 fun Ak8 Aju=>Ae .i64 Ak8 fun RB=>Ac Aju<|Ab Ahp fun Abn Amw=>Ab Abn fun Alv Ajv=>Ho 1 Alv fun An6 Amh Ajx=>Ab Ajv fun Afv Ajt=>Ae .i64 Afv fun Akl=>Ac Ajt<|Ac Amw<|Ap (decide (0<=RB))<|Ap (decide (Int.toNat RB<=Gb))<|Aa (Int.toNat RB-0) fun Acp=>Ap (decide (0+Acp*1<=Oe.length))<|Ag (call 23 [.lst false 1 Acp (List.take (Acp*1) (List.drop 0 Oe))]) fun Ama Ag9=>Ac Ag9<|Ab Ama fun Akv Ali=>Br Akv fun Ag8=>Ac Ali<|A3 Ag8 (Ap (decide (0+Gb*1<=Oe.length))<|Ap (decide (List.length (List.take (Gb*1) (List.drop 0 Oe))=Gb*1)&&decide (Gb*1<=1099511627776)&&decide (Gb<=1099511627776))<|Ag (call 14 [.pbox [.lst false 1 Amh Ajx,.sc (.int .i64 Akl)],.sc (.int .i64 3)]) fun Akg Alh=>Ab Akg fun Aax Acj=>Ae .i64 Aax fun Aml=>Ac Acj<|Ab Alh fun Art Ar4=>Ab Art fun Arg Aqy=>Ho 1 Arg fun Atc Atb Asl=>Ab Aqy fun Aq4 Apx=>Ae .i64 Aq4 fun Asf=>Ac Apx<|Ac Ar4<|Ag (call 25 [.sc (.int .i64 1),.sc (.int .i64 Aml)]) fun Ap5 Aq8=>Ac Aq8<|Ab Ap5 fun Aqg Aqv=>D4 1 Aqg fun VQ Alq=>Ac Aqv<|Ap (decide (0+VQ*1<=Alq.length))<|Ap (decide (Gb*1<=List.length (List.take (Gb*1) (List.drop 0 Oe)))&&decide (List.length (List.take (VQ*1) (List.drop 0 Alq))=VQ*1)&&decide ((Gb+VQ)*1<=1099511627776)&&decide (Gb+VQ<=1099511627776))<|Aa (Gb+VQ) fun Ajb=>Aa (List.take (Gb*1) (List.take (Gb*1) (List.drop 0 Oe))++List.take (VQ*1) (List.drop 0 Alq)) fun Aom=>Ap (decide (0+Ajb*1<=Aom.length))<|Ag (call 23 [.lst false 1 Ajb (List.take (Ajb*1) (List.drop 0 Aom))]) fun Ap2 Ari=>Ac Ari<|Ab Ap2 fun Aqu Aqj=>Br Aqu fun Arx=>Ac Aqj<|A3 Arx (Ap (decide (0+Gb*1<=Oe.length))<|Ap (decide (List.length (List.take (Gb*1) (List.drop 0 Oe))=Gb*1)&&decide (Gb*1<=1099511627776)&&decide (Gb<=1099511627776))<|Ag (call 25 [.sc (.int .i64 1),.sc (.int .i64 500)]) fun Ara Arf=>Ac Arf<|Ab Ara fun Aql Aqk=>D4 1 Aql fun VO Als=>Ac Aqk<|Ap (decide (0+VO*1<=Als.length))<|Ap (decide (Gb*1<=List.length (List.take (Gb*1) (List.drop 0 Oe)))&&decide (List.length (List.take (VO*1) (List.drop 0 Als))=VO*1)&&decide ((Gb+VO)*1<=1099511627776)&&decide (Gb+VO<=1099511627776))<|Aa (Gb+VO) fun Ait=>Aa (List.take (Gb*1) (List.take (Gb*1) (List.drop 0 Oe))++List.take (VO*1) (List.drop 0 Als)) fun Anz=>Ap (decide (0+Ait*1<=Anz.length))<|Ag (call 23 [.lst false 1 Ait (List.take (Ait*1) (List.drop 0 Anz))]) fun Ar1 Aro=>Ac Aro<|Ab Ar1 fun Aq3 Arz=>Br Aq3 fun Aq0=>Ac Arz<|A3 Aq0 (Ag (call 10 []) fun Arb Aqq=>Ac Aqq<|Ab Arb fun Arp Aqs=>Br Arp fun Ars=>Ac Aqs<|some (Aw.mk [.sc (.bool Ars)] [])) (some (Aw.mk [.sc (.bool false)] []))) (some (Aw.mk [.sc (.bool false)] []))) (some (Aw.mk [.sc (.bool false)] []))) (some (Aw.mk [.sc (.bool false)] []))) (some (Aw.mk [.sc (.bool false)] []))) (some (Aw.mk [.sc (.bool false)] [])))) (Ad C0 Tryz.prog fu d):=by kernel_rfl
end
section
open Go.IntKind (wrap)
set_option maxRecDepth 1000000
theorem Ag3 (k:IntKind)(a b:List Int):Af k (a++b)=Af k a++Af k b:=by rw [Af,Af,Af,List.flatMap_append]
theorem Agj {c:Ce}(h:Dn c=0):c.sig.chains.length<=18∧c.sig.path.length<=4:=by
 have e:=Kv h;have h1:=e.2.2.1;unfold C4 at h1;rw [Bool.or_eq_false_iff,decide_eq_false_iff_not,decide_eq_false_iff_not] at h1;have h2:=e.2.2.2.2.1;omega
theorem Adn (b:List Int):(Sw b).1.sig.chains.length<=18∧(Sw b).1.sig.path.length<=4:=by
 have z:V0.sig.chains.length<=18∧V0.sig.path.length<=4:=⟨by decide,by decide⟩
 unfold Sw;split
 ·exact z
 ·split
  ·split
   ·rename_i h;exact Agj h.1
   ·exact z
  ·exact z
theorem Mi {d:Nat}{b:List Int}(hb:Hg b)(hl:b.length<=1000000):Ad C0 Tryz.prog 2000 (d+16) Kg [.lst false 1 b.length (Af .u8 b)]=some ⟨[.sc (.bool true)],[]⟩:=by
 refine (Vj 2000 (d+15) b.length (Af .u8 b)).trans ?_;have p:=Aew (fu:=2000) (d:=d+6) (by omega) hb hl
 have r:=Al9 (fu:=2000) (d:=d) (by omega) hb hl
 have sm:=Adn b;have s:=Aa7 (fu:=2000) (d:=d+12) (c:=(Sw b).1) (by omega) (by omega) (by omega)
 generalize (Sw b).1=c at *
 generalize (Sw b).2=e at *
 simp only [Ce.cells] at p r s;have q1:∀l:Int,(l==l)=true:=fun l=>beq_self_eq_true l
 try unfold Aa
 repeat first
  |((with_reducible first|apply At|apply Ao|apply Aq|apply A6|apply A0|apply Ba|apply Dd|apply Bi|apply LS|apply Am);· first|with_reducible rfl|(simp (disch:=omega) only [p,r,s,q1]<;>with_reducible rfl))
  |((with_reducible first|apply Ar|apply As);· first|with_reducible rfl|omega|(simp (disch:=omega) only [gT,p,r,s,q1]<;>omega))
  |(with_reducible apply Au;· first|with_reducible rfl|(simp (disch:=omega) only [gF,p,r,s,q1]<;>omega))
 try simp (disch:=omega) only [p,r,s,q1]
 all_goals rfl
theorem Al8 {d:Nat}{b:List Int}(hb:Hg b)(hl:b.length<=100000)(n:Int):∃r,Hg r∧r.length<=100000∧Ad C0 Tryz.prog 2000 (d+3) P7 [.lst false 1 b.length (Af .u8 b),.sc (.int .i64 n)]=some ⟨[.own 1 r.length (Af .u8 r)],[]⟩:=by
 obtain ⟨m,m0,m1,mo⟩:=Ai4 n 4096 (by omega) (by omega)
 obtain ⟨r,r1,r2,r3⟩:=Anq (fu:=2000) (d:=d+1) hb hl (n:=m) m0 (by omega)
 refine ⟨r,r1,by rw [r2];split<;>omega,?_⟩
 refine (CC 2000 (d+2) b.length (Af .u8 b) n).trans ?_;have L:=Al .u8 r;have t:=Ii .u8 r
 try unfold Aa
 repeat first
  |((with_reducible first|apply At|apply Ao|apply Aq|apply A6|apply A0|apply Ba|apply Dd|apply Bi|apply LS|apply Am);· first|with_reducible rfl|(simp (disch:=omega) only [mo,r3,Bz,L,t]<;>with_reducible rfl))
  |((with_reducible first|apply Ar|apply As);· first|with_reducible rfl|omega|(simp (disch:=omega) only [gT,mo,r3,Bz,L,t]<;>omega))
  |(with_reducible apply Au;· first|with_reducible rfl|(simp (disch:=omega) only [gF,mo,r3,Bz,L,t]<;>omega))
 try simp (disch:=omega) only [mo,r3,Bz,L,t]
 all_goals rfl
set_option maxHeartbeats 4000000 in
theorem certificateDecodes_plain (qs:List PV)(h:B6 (WTv Tryz.prog) [47,30] qs):∃fu d,Ad C0 Tryz.prog fu d F5 qs=some ⟨[.sc (.bool true)],[]⟩:=by
 obtain ⟨q0,_,rfl,h0,g⟩:=h.cons_inv;obtain ⟨q1,_,rfl,h1,g⟩:=g.cons_inv;obtain rfl:=g.nil_inv;clear h g;obtain ⟨b,rfl,hbl,hbw⟩:=ZP (k:=.u8) (e:=5) (by kernel_rfl) (by kernel_rfl) (by kernel_rfl) (by kernel_rfl) h0
 have hb:Hg b:=fun x hx=>Ase (hbw x hx)
 obtain ⟨l,rfl,hl,_⟩:=ZP (k:=.i64) (e:=3) (by kernel_rfl) (by kernel_rfl) (by kernel_rfl) (by kernel_rfl) h1
 clear h0 h1;refine ⟨2000,19,?_⟩;refine (Ka 2000 18 b.length (Af .u8 b) l.length (Af .i64 l)).trans ?_;have aw:=Al1 (d:=3);by_cases h6:(b.length:Int)>600
 ·have hd:decide ((b.length:Int)>600)=true:=by simp [h6]
  try unfold Aa
  repeat first
   |((with_reducible first|apply At|apply Ao|apply Aq|apply A6|apply A0|apply Ba|apply Dd|apply Bi|apply LS|apply Am);· first|with_reducible rfl|(simp (disch:=omega) only [hd,aw]<;>with_reducible rfl))
   |((with_reducible first|apply Ar|apply As);· first|with_reducible rfl|omega|(simp (disch:=omega) only [gT,hd,aw]<;>omega))
   |(with_reducible apply Au;· first|with_reducible rfl|(simp (disch:=omega) only [gF,hd,aw]<;>omega))
  try simp (disch:=omega) only [hd,aw]
  all_goals rfl
 have hd:decide ((b.length:Int)>600)=false:=by simp [h6]
 have nq:=Ap3 (fu:=2000) (d:=17) (l:=l);obtain ⟨x,j,hx,xe⟩:=Aiz (d:=4) hl 0;obtain ⟨v0,j0,v00,v01,n0⟩:=Ga hl j 2 (by omega) (by omega)
 obtain ⟨v1,j1,v10,v11,n1⟩:=Ga hl j0 2 (by omega) (by omega)
 obtain ⟨v2,j2,v20,v21,n2⟩:=Ga hl j1 4096 (by omega) (by omega)
 have sx:x.sig=⟨0,[],[]⟩:=hx.sg;have sg:=Ahg (fu:=2000) (d:=5) (c:=x) (by omega) hx.ok.wf (by have:=hx.s1;omega) (by have:=hx.s2;omega) 3 (wrap .i64 (1+v0)) v1
 have so:=Akt hx 3 (wrap .i64 (1+v0)) v1;generalize (Qd x 3 (wrap .i64 (1+v0)) v1).2=er at *
 generalize (Qd x 3 (wrap .i64 (1+v0)) v1).1=y at *
 have en:=Aea (fu:=2000) (d:=12) (c:=y) (by omega) so.1 (by have:=so.2.1;omega) (by have:=so.2.2.1;omega) (by have:=so.2.2.2;omega)
 obtain ⟨w,f,hw,hwB,hwl⟩:∃(w:List Int) (f:Int),Uo y=[.own 1 w.length (Af .u8 w),.sc (.int .i64 f)]∧Hg w∧w.length<=1000:=by
  unfold Uo;split
  ·rename_i h0;exact ⟨_,_,rfl,VD so.1 h0,by have:=Ya h0;omega⟩
  ·exact ⟨[],_,rfl,(fun x hx=>by cases hx),by simp⟩
 rw [hw] at en;have d1:=Mi (d:=2) hb (by omega)
 have d2:=Mi (d:=2) hwB (by omega)
 obtain ⟨r,rB,rl,fl⟩:=Al8 (d:=15) hwB (by omega) v2
 have d3:=Mi (d:=2) rB (by omega)
 have ww:wrap .i64 ((w.length:Int)+1)=(w.length:Int)+1:=Ak (by omega) (by omega)
 obtain ⟨v3,j3,v30,v31,n3⟩:=Ga hl j2 ((w.length:Int)+1) (by omega) (by omega)
 obtain ⟨v4,j4,v40,v41,n4⟩:=Ga hl j3 3 (by omega) (by omega)
 have n0:=n0 (fu:=2000) (d:=16);have n1:=n1 (fu:=2000) (d:=16);have n2:=n2 (fu:=2000) (d:=16);have n3:=n3 (fu:=2000) (d:=16);have n4:=n4 (fu:=2000) (d:=16);obtain ⟨k3,rfl⟩:∃k3:Nat,v3=k3:=⟨v3.toNat,by omega⟩
 obtain ⟨k4,rfl⟩:∃k4:Nat,v4=k4:=⟨v4.toNat,by omega⟩
 have hk3:k3<=w.length:=by omega
 have tB:Hg (w.take k3):=hwB.take k3;have tl:(w.take k3).length=k3:=by rw [List.length_take];omega
 have d4:=Mi (d:=2) tB (by omega)
 rw [tl] at d4;obtain ⟨p,pB,pl,pe⟩:=Aai (fu:=2000) (d:=12) (by omega) 1 (n:=k4) (by omega)
 obtain ⟨o,oB,ol,oe⟩:=Aai (fu:=2000) (d:=12) (by omega) 1 (n:=500) (by omega)
 have c500:((500:Nat):Int)=500:=rfl;rw [c500] at oe;have d5:=Mi (d:=2) (WY hwB pB) (by rw [Hz];omega)
 have d6:=Mi (d:=2) (WY hwB oB) (by rw [Hz];omega)
 rw [Hz,Ag3] at d5 d6;rw [pl] at d5;rw [ol] at d6;have Lw:=Al .u8 w;have tw:=Ii .u8 w;have Lr:=Al .u8 r;have tr:=Ii .u8 r;have Lp:(Af .u8 p).length=k4:=by rw [Al,pl]
 have tp:List.take k4 (Af .u8 p)=Af .u8 p:=Jv (by omega)
 have Lo:(Af .u8 o).length=500:=by rw [Al,ol]
 have to:List.take 500 (Af .u8 o)=Af .u8 o:=Jv (by omega)
 have L5:(Af .u8 w++Af .u8 p).length=w.length+k4:=by rw [Hz];omega
 have t5:List.take (w.length+k4) (Af .u8 w++Af .u8 p)=Af .u8 w++Af .u8 p:=Jv (by omega)
 have L6:(Af .u8 w++Af .u8 o).length=w.length+500:=by rw [Hz];omega
 have t6:List.take (w.length+500) (Af .u8 w++Af .u8 o)=Af .u8 w++Af .u8 o:=Jv (by omega)
 have t4:List.take k3 (Af .u8 w)=Af .u8 (w.take k3):=by rw [Ec]
 have nt3:Int.toNat (k3:Int)=k3:=Hi _;have z0:((0:Nat):Int)=0:=rfl;simp only [Ce.cells,Ce.cells0,dkc,sx,ED] at nq xe n0 n1 n2 n3 n4 sg en;rw [z0] at nq xe;have e0:Af .u64 []=[]:=rfl;have td:∀k:Nat,List.take k (List.drop 0 ([]:List PV))=[]:=fun k=>by rw [Di,List.take_nil]
 simp only [e0] at sg
 try unfold Aa
 repeat first
  |((with_reducible first|apply At|apply Ao|apply Aq|apply A6|apply A0|apply Ba|apply Dd|apply Bi|apply LS|apply Am);· first|with_reducible rfl|(simp (disch:=omega) only [hd,nq,xe,n0,n1,n2,n3,n4,sg,en,d1,d2,fl,d3,ww,nt3,Nat.sub_zero,t4,d4,pe,oe,d5,d6,aw,Lw,tw,Lr,tr,Lp,tp,Lo,to,L5,t5,L6,t6,Di,Ck,Bz,Nat.zero_mul,td,List.take_nil]<;>with_reducible rfl))
  |((with_reducible first|apply Ar|apply As);· first|with_reducible rfl|omega|(simp (disch:=omega) only [gT,hd,nq,xe,n0,n1,n2,n3,n4,sg,en,d1,d2,fl,d3,ww,nt3,Nat.sub_zero,t4,d4,pe,oe,d5,d6,aw,Lw,tw,Lr,tr,Lp,tp,Lo,to,L5,t5,L6,t6,Di,Ck,Bz,Nat.zero_mul,td,List.take_nil]<;>omega))
  |(with_reducible apply Au;· first|with_reducible rfl|(simp (disch:=omega) only [gF,hd,nq,xe,n0,n1,n2,n3,n4,sg,en,d1,d2,fl,d3,ww,nt3,Nat.sub_zero,t4,d4,pe,oe,d5,d6,aw,Lw,tw,Lr,tr,Lp,tp,Lo,to,L5,t5,L6,t6,Di,Ck,Bz,Nat.zero_mul,td,List.take_nil]<;>omega))
 try simp (disch:=omega) only [hd,nq,xe,n0,n1,n2,n3,n4,sg,en,d1,d2,fl,d3,ww,nt3,Nat.sub_zero,t4,d4,pe,oe,d5,d6,aw,Lw,tw,Lr,tr,Lp,tp,Lo,to,L5,t5,L6,t6,Di,Ck,Bz,Nat.zero_mul,td,List.take_nil]
 all_goals rfl
end
section
open Go.IntKind (wrap)
open Go Go.RowKit
structure QD (Z Z':Nat->Prop) (w w':World):Prop where
 os:w'.os=w.os
 tape:w'.tape=w.tape
 output:w'.output=w.output
 size:w.heap.size<=w'.heap.size
 keep:∀b,b<w.heap.size->¬Z b->w'.heap[b]?=w.heap[b]?
 sub:∀b,Z b->Z' b
 new:∀b,Z' b->Z b∨w.heap.size<=b
 lt:∀b,Z' b->b<w'.heap.size
 bs:∀b,b<w.heap.size->bsz w b<=bsz w' b
structure Z4 (Z:Nat->Prop) (w w':World):Prop where
 os:w'.os=w.os
 tape:w'.tape=w.tape
 output:w'.output=w.output
 size:w.heap.size<=w'.heap.size
 same:∀b,Z b->w'.heap[b]?=w.heap[b]?
theorem Z4.sub {Z Z':Nat->Prop}{w w':World}(h:Z4 Z w w')(hs:∀b,Z' b->Z b):Z4 Z' w w':=⟨h.os,h.tape,h.output,h.size,fun b hb=>h.same b (hs b hb)⟩
def Ao6 {α:Type}(P:Program)(gf:Nat)(lb:Array Value)(M:List α->α->Array Value->(Nat->Prop)->World->Prop) (S Sp:List α->Prop)(Pre:(Nat->Prop)->World->Prop):Prop:=
 ∀(l:Nat) (J Jx:(Nat->Prop)->List α->World->Prop) (W:World) (Z0:Nat->Prop),(∀b,Z0 b->b<W.heap.size)->Pre Z0 W ->
  (∀Z pre A B,J Z pre A->Z4 Z A B->J Z pre B)->(∀Z pre A B,Jx Z pre A->Z4 Z A B->Jx Z pre B) ->
  (∀Z pre x args A,J Z pre A->M pre x args Z A->YieldAt Fence.wide 0 P l args A fun e B=>∃Z',QD Z Z' A B ∧
   ((e=.returned (.bool true)∧J Z' (pre++[x]) B)∨(e=.returned (.bool false)∧Jx Z' (pre++[x]) B))) ->
  J Z0 [] W ->
  Calls P gf (#[.func (.yield l) #[] #[]]++lb) W fun e B=>(∃v,e=.returned v)∧∃Z xs,(S xs∧J Z xs B)∨(Sp xs∧Jx Z xs B)
theorem Aba {P:Program}{n m l:Nat}{f:FuncId}{tmps:Array Value}{assign body:Code}{w:World}{R:Ending->World->Prop}(h:RoundIn Fence.wide n P l f tmps assign body w R):RoundIn Fence.wide m P l f tmps assign body w R:=
 ⟨h.1,fun c cs _=>h.2 c cs (room_wide _)⟩
def Adx {α:Type}(D:Nat)(I:(Nat->Prop)->List α->World->Prop) (Ix:Code->(Nat->Prop)->List α->World->Prop) (Z:Nat->Prop)(xs:List α)(A:World):Exit->Act->World->Prop:=fun e _ B=>
 ∃Z',QD Z Z' A B∧B.heap[D]?=A.heap[D]?∧B.heap[D+1]?=A.heap[D+1]? ∧
  match e with
  |.normal=>I Z' xs B
  |.ret=>Ix .ret Z' xs B
  |.exit id=>Ix (.exit id) Z' xs B
  |.goto t=>Ix (.goto t) Z' xs B
  |_=>False
theorem Afx {α:Type}{P:Program}{n:Nat}{g:Operand}{ps:Array Tmp}{assign body:Code}{Q:Exit->Act->World->Prop}{a:Act}{w:World}{gf:Nat}{lb:Array Value}
  (hg:a.eval g=.func (.func gf) #[] lb) (eg:∀args w,(callFunc gf args).run P w=.ok (.enter gf args) w)
  {M:List α->α->Array Value->(Nat->Prop)->World->Prop} {S Sp:List α->Prop} {Pre:(Nat->Prop)->World->Prop} (hit:Ao6 P gf lb M S Sp Pre) {Z0:Nat->Prop} (hZ0:∀b,Z0 b->b<w.heap.size)
  (hPre:∀W:World,W.heap.size=w.heap.size+2->(∀b,b<w.heap.size->W.heap[b]?=w.heap[b]?)->Pre (fun b=>Z0 b∨b=w.heap.size∨b=w.heap.size+1) W)
  (hM:∀pre x args Z A B,M pre x args Z A->A.heap.size<=B.heap.size->(∀b,b<A.heap.size->¬Z b->B.heap[b]?=A.heap[b]?)->M pre x args Z B)
  (hps:∀pre x args Z A,M pre x args Z A->args.size=ps.size)
  (I:(Nat->Prop)->List α->World->Prop) (Ix:Code->(Nat->Prop)->List α->World->Prop)
  (hI:∀Z pre A B,I Z pre A->Z4 (fun b=>Z b∧b≠w.heap.size∧b≠w.heap.size+1) A B->I Z pre B)
  (hIx:∀c Z pre A B,Ix c Z pre A->Z4 (fun b=>Z b∧b≠w.heap.size∧b≠w.heap.size+1) A B->Ix c Z pre B)
  (h0:∀W,W.heap.size=w.heap.size+2->Z4 (fun b=>b<w.heap.size) w W->I (fun b=>Z0 b∨b=w.heap.size∨b=w.heap.size+1) [] W)
  (a₁:Array Value->Act)
  (hassign:∀pre x args Z A (K:Act->World->Prop),M pre x args Z A->K (a₁ args) A->assign.wpIn (Fence.wide.inRound (w.heap.size+1)) 0 P (Exit.then K (fun _ _ _=>False)) { tmps:=(ps.zip args).foldl (fun t (p,v)=>t.setIfInBounds p v) a.tmps,defers:=[] } A)
  (hbody:∀Z pre x args A,Z w.heap.size->Z (w.heap.size+1)->I Z pre A->M pre x args Z A->body.wpIn (Fence.wide.inRound (w.heap.size+1)) 0 P (Adx w.heap.size I Ix Z (pre++[x]) A) (a₁ args) A)
  (hdone:∀Z xs B,S xs->I Z xs B->B.heap[w.heap.size]?=some (.deferred (some []))->Q .normal { a with defers:={ target:=.collected w.heap.size,args:= #[] }::a.defers } B)
  (hstop:∀c Z xs B,Sp xs->Ix c Z xs B->B.heap[w.heap.size]?=some (.deferred (some []))->c.wpIn Fence.wide n P Q { a with defers:={ target:=.collected w.heap.size,args:= #[] }::a.defers } B):
  (Code.rangeFunc g ps assign body).wpIn Fence.wide n P Q a w:=by
 refine wpIn_rangeFunc ?_;intro fn hfn;obtain ⟨rec,hrec⟩:∃rec:LoopState->Option Code->Loop,rec=fun st pe=>{ state:=st,pending:=pe,fn,tmps:=a.tmps,params:=ps,assign,body,defers:=w.heap.size }:=⟨_,rfl⟩
 obtain ⟨D,hD⟩:∃D,w.heap.size=D:=⟨_,rfl⟩;rw [hD] at hI hIx h0 hassign hbody hdone hstop hZ0 hPre;obtain ⟨W1,hW1⟩:∃W1,(w.alloc (.deferred (some []))).alloc (.loop (rec .ready none))=W1:=⟨_,rfl⟩;have hs1:W1.heap.size=D+2:=by rw [←hW1,World.size_alloc,World.size_alloc,hD]
 have hL1:W1.heap[D+1]?=some (.loop (rec .ready none)):=by
  rw [←hW1,←hD];have:=World.alloc_heap_new (w.alloc (.deferred (some []))) (.loop (rec .ready none));rwa [World.size_alloc] at this
 have hK1:W1.heap[D]?=some (.deferred (some [])):=by
  rw [←hW1,←hD];exact (Below.heap_alloc _ _ _ (by simp)).trans (World.alloc_heap_new w _)
 have hst:Z4 (fun b=>b<D) w W1:=by
  rw [←hW1,←hD];exact ⟨rfl,rfl,rfl,by simp;omega,fun b hb=>(Below.heap_alloc _ _ _ (by simp;omega)).trans (Below.heap_alloc _ _ _ hb)⟩
 refine ⟨D+1,[{ target:=.collected D,args:= #[] }],W1,{ target:=.fn (.func gf) lb,args:= #[.func (.yield (D+1)) #[] #[]] },W1,gf,
  #[.func (.yield (D+1)) #[] #[]]++lb,W1,?_,?_,fun _ _=>trivial,?_,(fun h=>by cases h),?_⟩
 ·rw [←hW1,hrec,←hD];exact run_enterLoop_outer _ _ _ _ _
 ·simp only [resolve,hg];simp [go_sem]
 ·simp [invoke,go_sem,eg]
 ·have put:∀{Z:Nat->Prop} {A:World} (o:Obj),Z4 (fun b=>Z b∧b≠D∧b≠D+1) A (A.putObj (D+1) o):=fun o=>
   ⟨rfl,rfl,rfl,by simp,fun b hb=>World.putObj_heap_other hb.2.2⟩
  refine callsIn_wide.2 (Calls.mono (hit (D+1)
   (fun Z pre A=>(Z D∧Z (D+1))∧I Z pre A∧A.heap[D+1]?=some (.loop (rec .ready none))∧A.heap[D]?=some (.deferred (some [])))
   (fun Z pre A=>(Z D∧Z (D+1))∧∃c,Ix c Z pre A∧A.heap[D+1]?=some (.loop (rec .done (some c)))∧A.heap[D]?=some (.deferred (some [])))
   W1 (fun b=>Z0 b∨b=D∨b=D+1) (fun b hb=>by rw [hs1];exact hb.elim (fun h=>by have:=hZ0 b h;omega) fun h=>by omega) (hPre W1 hs1 (fun b hb=>hst.same b hb)) ?_ ?_ ?_ ?_) ?_)
  ·rintro Z pre A B ⟨hz,hi,hl,hk⟩ hs
   exact ⟨hz,hI Z pre A B hi (hs.sub fun _ h=>h.1),(hs.same _ hz.2).trans hl,(hs.same _ hz.1).trans hk⟩
  ·rintro Z pre A B ⟨hz,c,hi,hl,hk⟩ hs
   exact ⟨hz,c,hIx c Z pre A B hi (hs.sub fun _ h=>h.1),(hs.same _ hz.2).trans hl,(hs.same _ hz.1).trans hk⟩
  ·rintro Z pre x args A ⟨hz,hi,hl,hk⟩ hm
   have hlt:D+1<A.heap.size:=(Array.getElem?_eq_some_iff.1 hl).1;have hy:=run_yield (P:=P) (args:=args) hl (by rw [hrec];exact hps pre x args Z A hm)
   rw [hrec] at hy;refine ⟨fn,_,assign,body,hy,roundIn_of_wpIn hfn (hassign pre x args Z A _ hm ?_)⟩;refine ⟨_,run_beginRound hl (by rw [hrec]),?_⟩
   obtain ⟨A2,hA2⟩:∃A2,A.putObj (D+1) (.loop { rec .ready none with state:=.busy })=A2:=⟨_,rfl⟩;rw [hA2];have hl2:A2.heap[D+1]?=some (.loop { rec .ready none with state:=.busy }):=by rw [←hA2];exact World.putObj_heap_same hlt
   have hk2:A2.heap[D]?=some (.deferred (some [])):=by rw [←hA2];exact (World.putObj_heap_other (by omega)).trans hk
   have hz2:A2.heap.size=A.heap.size:=by rw [←hA2];simp
   have hi2:I Z pre A2:=by rw [←hA2];exact hI Z pre A _ hi (put _)
   have hm2:M pre x args Z A2:=by
    rw [←hA2];exact hM pre x args Z A _ hm (by simp) fun b _ hb=>World.putObj_heap_other fun e=>hb (e ▸ hz.2)
   refine wpIn_mono (hbody Z pre x args A2 hz.1 hz.2 hi2 hm2) ?_
   have fin:∀(jump:Option Code) (W3:World) (Z':Nat->Prop),QD Z Z' A2 W3->W3.heap[D]?=A2.heap[D]?->W3.heap[D+1]?=A2.heap[D+1]? ->
     (Instr.endRound (D+1) jump).run P W3=.ok (.bool jump.isNone) (W3.putObj (D+1) (.loop (rec (if jump.isNone then .ready else .done) jump))) ∧
     (W3.putObj (D+1) (.loop (rec (if jump.isNone then .ready else .done) jump))).heap[D+1]?=some (.loop (rec (if jump.isNone then .ready else .done) jump)) ∧
     (W3.putObj (D+1) (.loop (rec (if jump.isNone then .ready else .done) jump))).heap[D]?=some (.deferred (some [])) ∧
     QD Z Z' A (W3.putObj (D+1) (.loop (rec (if jump.isNone then .ready else .done) jump))):=fun jump W3 Z' ht e1 e2=>by
    have hl3:=e2.trans hl2;have:=run_endRound (P:=P) jump hl3;rw [hrec] at this ⊢;refine ⟨this,World.putObj_heap_same (Array.getElem?_eq_some_iff.1 hl3).1,(World.putObj_heap_other (by omega)).trans (e1.trans hk2),?_⟩
    have hA:A2.os=A.os∧A2.tape=A.tape∧A2.output=A.output:=by rw [←hA2];exact ⟨rfl,rfl,rfl⟩
    refine ⟨ht.os.trans hA.1,ht.tape.trans hA.2.1,ht.output.trans hA.2.2,by have:=ht.size;simp;omega,fun b hb hn=>?_,ht.sub,fun b hb=>by have:=ht.new b hb;rw [hz2] at this;exact this,fun b hb=>by simpa using ht.lt b hb,fun b hb=>?_⟩
    ·have hne:b≠D+1:=fun e=>hn (e ▸ hz.2)
     rw [World.putObj_heap_other hne,ht.keep b (by omega) hn,←hA2,World.putObj_heap_other hne]
    ·by_cases hne:b=D+1
     ·subst hne;unfold bsz;rw [hl];exact Nat.zero_le _
     ·have h5:=ht.bs b (by omega)
      have h6:bsz A2 b=bsz A b:=by unfold bsz;rw [←hA2,World.putObj_heap_other hne]
      have h7:∀o,bsz (W3.putObj (D+1) o) b=bsz W3 b:=fun o=>by unfold bsz;rw [World.putObj_heap_other hne]
      rw [h7,←h6];exact h5
   rintro e a3 W3 ⟨Z',ht,e1,e2,hp⟩
   cases e with
   |normal=>
    obtain ⟨hr,hl4,hk4,ht4⟩:=fin none W3 Z' ht e1 e2;exact ⟨_,_,hr,Z',ht4,.inl ⟨rfl,⟨ht.sub _ hz.1,ht.sub _ hz.2⟩,hI Z' _ _ _ hp (put _),hl4,hk4⟩⟩
   |ret=>
    obtain ⟨hr,hl4,hk4,ht4⟩:=fin (some .ret) W3 Z' ht e1 e2;exact ⟨_,_,hr,Z',ht4,.inr ⟨rfl,⟨ht.sub _ hz.1,ht.sub _ hz.2⟩,.ret,hIx _ Z' _ _ _ hp (put _),hl4,hk4⟩⟩
   |exit id=>
    obtain ⟨hr,hl4,hk4,ht4⟩:=fin (some (.exit id)) W3 Z' ht e1 e2;exact ⟨_,_,hr,Z',ht4,.inr ⟨rfl,⟨ht.sub _ hz.1,ht.sub _ hz.2⟩,.exit id,hIx _ Z' _ _ _ hp (put _),hl4,hk4⟩⟩
   |goto t=>
    obtain ⟨hr,hl4,hk4,ht4⟩:=fin (some (.goto t)) W3 Z' ht e1 e2;exact ⟨_,_,hr,Z',ht4,.inr ⟨rfl,⟨ht.sub _ hz.1,ht.sub _ hz.2⟩,.goto t,hIx _ Z' _ _ _ hp (put _),hl4,hk4⟩⟩
   |panic ch=>exact hp.elim
   |outgrown=>exact hp.elim
  ·exact ⟨⟨.inr (.inl rfl),.inr (.inr rfl)⟩,h0 W1 hs1 hst,hL1,hK1⟩
  ·rintro e W2 ⟨⟨v,rfl⟩,Z,xs,(⟨hS,hz,hi,hl,hk⟩|⟨hSp,hz,c,hi,hl,hk⟩)⟩
   ·exact ⟨none,_,by have:=run_endLoop (P:=P) hl (by rw [hrec];simp);rw [hrec] at this;exact this,hdone Z xs _ hS (hI Z _ _ _ hi (put _)) ((World.putObj_heap_other (by omega)).trans hk)⟩
   ·exact ⟨some c,_,by have:=run_endLoop (P:=P) hl (by rw [hrec];simp);rw [hrec] at this;exact this,hstop c Z xs _ hSp (hIx c Z _ _ _ hi (put _)) ((World.putObj_heap_other (by omega)).trans hk)⟩
def Ao4 (s:St)(β:Bt):Fm:={ X:=GD s.hp β,L:=fun b _=>GD s.hp β b,pn:=fun _=>False,pt:=fun _=>none,p8:=fun _ h=>h.elim }
theorem Cd.rebase {N:Nat}{w0 w w':World}{X0:Fm}{Y Z':Nat->Prop}{β:Bt}{s:St}{a:Act}(h:Cd N w0 X0 Y β s a w)(ht:QD Y Z' w w')(hns:∀id c,s.hp id≠some (.st c)):Cd N w' (Ao4 s β) Z' β s a w':=by
 have hW:Co (Da s.hp β Y) w w':=⟨ht.size,fun b hb hn=>ht.keep b hb fun y=>hn (.inr y),ht.bs⟩
 have hA:∀b,b<w.heap.size->Da s.hp β Z' b->Da s.hp β Y b:=by
  rintro b hb (hx|hz)
  ·exact .inl hx
  ·rcases ht.new b hz with h1|h1
   ·exact .inr h1
   ·omega
 have hsame:∀b,b<w.heap.size->¬Y b->w'.heap[b]?=w.heap[b]?:=ht.keep
 refine ⟨h.dfr,h.tsz,h.tmo,fun i hi=>(h.tms i hi).step hW hA fun _ _=>rfl,fun id bx hbx=>?_,h.inj,fun id b o h1 h2=>Nat.lt_of_lt_of_le (h.blt id b o h1 h2) ht.size,h.wfT,h.wfB,fun b hb=>.inl hb,
  fun id bx b o h1 h2 h3 _ j _=>⟨id,o,by rw [h1];exact h2,h3⟩,fun i hi=>hi.elim,fun id c b o h1=>absurd h1 (hns id c),fun b hz=>?_,ht.lt,⟨rfl,rfl,rfl,⟨Nat.le_refl _,fun _ _ _=>rfl,fun _ _=>Nat.le_refl _⟩,fun _ _ _ _=>⟨rfl,rfl⟩⟩⟩
 ·cases bx with
  |st c=>exact absurd hbx (hns id c)
  |mv=>trivial
  |ar fz cells=>
   rcases h.box id _ hbx with h1|⟨b,o,h1,h2,h3,h4⟩
   ·exact .inl h1
   ·have hlt:b<w.heap.size:=h.blt id b o (by rw [hbx];simp) h1
    have hnY:¬Y b:=by
     cases fz with
     |false=>exact fun y=>h.Yx b y ⟨id,o,by rw [hbx];trivial,h1⟩
     |true=>exact fun y=>h4 rfl (.inr y)
    have hh:=hsame b hlt hnY;have hb':bsz w' b=bsz w b:=by unfold bsz;rw [hh]
    refine .inr ⟨b,o,h1,fun j c hj=>?_,fun hf j hj hjb=>?_,fun hf=>fun hA'=>h4 hf (hA b hlt hA')⟩
    ·obtain ⟨v,hv,hv1,hv2⟩:=h2 j c hj;exact ⟨v,(World.cell?_of_block (a:=(⟨b,o,none⟩:Addr).add j) (by rw [F9];exact hh)).trans hv,hv1,hv2.step hW hA⟩
    ·rw [hb'] at hjb;have:=h3 hf j hj hjb;rw [←this];unfold World.frozen?;simp only [hh]
 ·rintro ⟨id,o,h1,h2⟩
  have hlt:b<w.heap.size:=h.blt id b o (Db h1) h2;rcases ht.new b hz with h3|h3
  ·exact h.Yx b h3 ⟨id,o,h1,h2⟩
  ·omega
theorem Cd.stay {N:Nat}{w0 w:World}{X0:Fm}{Y:Nat->Prop}{β:Bt}{s:St}{a:Act}(h:Cd N w0 X0 Y β s a w)(hd:∀b,Y b->¬X0.X b):Z4 Y w0 w:=
 ⟨h.fr.os,h.fr.tape,h.fr.output,h.fr.step.size,fun b hb=>h.fr.step.keep b (h.Ylt b hb) (hd b hb)⟩
end
section
open Go.IntKind (wrap)
open Go Go.RowKit
abbrev WF (ro:Option Nat):Fence:={ fn:=fun _=>True,depth:=none,alive:=false,round:=ro }
def WQ (o:Oper):Bool:=
 match o.op with
 |.defer _=>false
 |_=>true
def okR:Code->Bool
 |.region _ ops _=>ops.toList.all WQ
 |.seq a b=>okR a&&okR b
 |.cond _ a b=>okR a&&okR b
 |.block _ c=>okR c
 |.loop c=>okR c
 |.skip=>true
 |.exit _=>true
 |.ret=>true
 |_=>false
theorem FZ {P:Program}{o:Oper}{a:Act}{w:World}{next:Act->World->Prop}{Q:Exit->Act->World->Prop}{ro:Option Nat}{n:Nat}(hd:WQ o=true)(h:o.wp P a w next Q):o.wpIn (WF ro) n P a w next Q:=by
 refine ⟨fun _ _=>trivial,?_⟩
 have e:o.semAt (WF ro).round a.eval=execOp a.eval o:=Oper.semAt_eq _ _ _ (by intro c hc;unfold WQ at hd;rw [hc] at hd;cases hd)
 rw [e];unfold Oper.wp at h
 revert h
 generalize (execOp a.eval o).run P w=q;intro h;cases q with
 |halt x w'=>cases x<;>first|exact h|exact h.elim
 |ok v w'=>
  cases v with
  |value v=>exact h
  |skip=>exact h
  |defer d=>exact h
  |enter f args=>exact ⟨(fun h=>by cases h),(callsIn_wide.2 h:CallsIn Fence.wide (n-1) P f args w' _)⟩
  |row row args=>exact ⟨(fun h=>by cases h),fun c cs _=>let ⟨v,w',r,s⟩:=h c cs;⟨v,w',r,stepsIn_wide.2 s⟩⟩
  |_=>exact h.elim
theorem XN {P:Program}{ops:Array Oper}{Q:Exit->Act->World->Prop}{K K':Act->World->Prop}{ro:Option Nat}{i n:Nat}{a:Act}{w:World}(hQo:¬LetsOut Q)(hnd:ops.toList.all WQ=true)(hK:∀a w,K a w->K' a w)(h:wpOp P ops Q i K a w):wpOpIn (WF ro) n P ops Q i K' a w:=by
 unfold wpOp at h;unfold wpOpIn;cases ho:ops[i]? with
 |none=>rw [ho] at h;exact hK _ _ h
 |some o=>
  rw [ho] at h;simp only at h ⊢;have hn:WQ o=true:=List.all_eq_true.1 hnd o (Array.mem_toList_iff.2 (Array.mem_of_getElem? ho));by_cases hw:Region.wanted o (yielded ops a.tmps)=true
  ·rw [Bv hw] at h ⊢;rcases h with h|h
   ·exact FZ hn (Oper.wp_mono hK h)
   ·exact absurd h.2 hQo
  ·rw [Az hw] at h ⊢;exact ⟨fun _ _=>trivial,hK _ _ h⟩
theorem Se {P:Program}{ops:Array Oper}{Q:Exit->Act->World->Prop}{ro:Option Nat}{n:Nat}{md:Region.Mode}(hQo:¬LetsOut Q)(hnd:ops.toList.all WQ=true):∀(fuel:Nat)(listed:Array Bool)(a:Act)(w:World),wpAny P md ops Q fuel listed a w->wpAnyIn (WF ro) n P md ops Q fuel listed a w
 |0,_,_,_,h=>h
 |fuel+1,_,_,_,h=>⟨h.1,fun i hi=>XN hQo hnd (fun a w=>Se hQo hnd fuel _ a w) (h.2 i hi)⟩
section
variable {P:Program} {C:H0} {N:Nat} {call:Ah} {w0:World} {X0:Fm} {Y:Nat->Prop} {R:Type} {r:R} {β:Bt} {s:St} {a:Act} {w:World} {o:Oper} {ops:Array Oper} {K:St->Option R} {ro:Option Nat} {n:Nat}
theorem IP (h:Cd N w0 X0 Y β s a w){G:Wo}(hNG:LR P G w0 X0)(hcall:∀f args res,call f args=some res->Dk G P f args res)(hnd:WQ o=true)(hk:D3 C P N call ops o s K=some r):
  ∃s',K s'=some r∧∀(next:Act->World->Prop) (Q:Exit->Act->World->Prop),(∀a' w' β',Cd N w0 X0 Y β' s' a' w'->next a' w') ->
   if Region.wanted o (yielded ops a.tmps) then o.wpIn (WF ro) n P a w next Q else (∀f,o.about P w a.eval=some f->(WF ro).fn f)∧next (a.put o.dst undef) w:=by
 rw [LM] at hk
 have hw:∀b,Gp ops o s.tm=some b->Region.wanted o (yielded ops a.tmps)=b:=by
  intro b hb;unfold Gp at hb;unfold Region.wanted;cases hg:o.guard with
  |none=>rw [hg] at hb;simpa using hb
  |some q=>
   obtain ⟨j,want⟩:=q;rw [hg] at hb;simp only at hb ⊢;cases hd:(ops[j]?).bind (·.dst) with
   |none=>rw [hd] at hb;cases hb
   |some d=>
    rw [hd] at hb;simp only at hb;split at hb
    ·rename_i b' ht;rw [Vi h hd ht];simp at hb;rw [←hb];cases b'<;>cases want<;>rfl
    ·rename_i ht;rw [Vi h hd ht];simp at hb;rw [hb];rfl
    ·cases hb
 split at hk
 ·cases hk
 ·rename_i hv;obtain ⟨s',hs',hn⟩:=OE h hNG hcall hk;refine ⟨s',hs',fun next Q hnext=>?_⟩
  simp only [hw _ hv,if_true];exact FZ hnd (hn next Q hnext)
 ·rename_i hv;obtain ⟨hd,hk⟩:=Ay hk;refine ⟨_,hk,fun next Q hnext=>?_⟩
  simp only [hw _ hv];exact ⟨fun _ _=>trivial,hnext _ _ β (h.put hd (Be.sc _) (by simp [Cc,Cs,A4]))⟩
theorem AU {G:Wo}(hNG:LR P G w0 X0)(hcall:∀f args res,call f args=some res->Dk G P f args res){Q:Exit->Act->World->Prop}(hQ:∀s' a' w' β',K s'=some r->Cd N w0 X0 Y β' s' a' w'->Q .normal a' w'):
  ∀(li:List Nat) (os:List Oper),li.length=os.length->(∀(k i:Nat),li[k]?=some i->ops[i]?=os[k]?)->os.all WQ=true->∀{s:St} {a:Act} {w:World} {β:Bt},Cd N w0 X0 Y β s a w->Nz C P N call ops os s K=some r->wpOpsIn (WF ro) n P ops Q li a w
 |[],[],_,_,_,s,a,w,β,h,hk=>by
  show Q .normal a w;exact hQ s a w β hk h
 |[],_::_,hl,_,_,_,_,_,_,_,_=>by cases hl
 |_::_,[],hl,_,_,_,_,_,_,_,_=>by cases hl
 |i::li,o::os,hl,hi,hnd,s,a,w,β,h,hk=>by
  obtain ⟨s1,hk,h⟩:=Ve h hk;rw [List.all_cons,Bool.and_eq_true] at hnd;have hio:ops[i]?=some o:=by simpa using hi 0 i rfl
  obtain ⟨s',hs',hn⟩:=IP (ro:=ro) (n:=n) h hNG hcall hnd.1 hk;unfold wpOpsIn;rw [hio];exact hn _ _ fun a' w' β' h'=>AU hNG hcall hQ li os (by simpa using hl) (fun k j hj=>by simpa using hi (k+1) j (by simpa using hj)) hnd.2 h' hs'
theorem JW {c:Code}{Q:Exit->Act->World->Prop}{F:(St->Option R)->St->Option R} {nm:St->(St->Option R)->Option R}
  (hnm:∀{β s a w} {K:St->Option R},Cd N w0 X0 Y β s a w->nm s K=some r->∃β' s',K s'=some r∧Cd N w0 X0 Y β' s' a w)
  (hF:∀{β s a w} {K:St->Option R}{Q':Act->World->Prop},Cd N w0 X0 Y β s a w->F K s=some r->(∀s' a' w' β',K s'=some r->Cd N w0 X0 Y β' s' a' w'->Q' a' w')->c.wpIn (WF ro) n P (Exit.then Q' Q) a w):
  ∀(m:Nat) {β s a w},Cd N w0 X0 Y β s a w->Aav F nm m s=some r->Code.roundsIn (WF ro) n P c Q m a w
 |0,_,_,_,_,_,hk=>by cases hk
 |m+1,β,s,a,w,h,hk=>by
  rw [roundsIn_succ];refine hF h hk fun s' a' w' β' hk' h'=>?_
  obtain ⟨β1,s1,hk1,h1⟩:=hnm h' hk';exact JW hnm hF m h1 hk1
theorem Aam {G:Wo}(hNG:LR P G w0 X0)(hcall:∀f args res,call f args=some res->Dk G P f args res)(hm:P.follows .mixedOrders=true){fu:Nat}:
  ∀(c:Code),okR c=true->∀{ln:Nat} {lx:Nat->Nat} {lr:Nat} {kn:St->Option R} {kx:Nat->St->Option R} {kr:St->Option R} {β:Bt} {s:St} {a:Act} {w:World} {Q:Exit->Act->World->Prop},(∀a w,¬Q .outgrown a w)->Cd N w0 X0 Y β s a w ->
   Lm C P fu N call c ln lx lr kn kx kr s=some r->(∀s' a' w' β',kn s'=some r->Cd N w0 X0 Y β' s' a' w'->Q .normal a' w') ->
   (∀id s' a' w' β',kx id s'=some r->Cd N w0 X0 Y β' s' a' w'->Q (.exit id) a' w')->(∀s' a' w' β',kr s'=some r->Cd N w0 X0 Y β' s' a' w'->Q .ret a' w')->c.wpIn (WF ro) n P Q a w:=by
 intro c
 induction c with
 |skip=>intro _ ln lx lr kn kx kr β s a w Q hQo h hk hn hx hr;exact wpIn_skip (hn s a w β hk h)
 |region id ops draw=>
  intro ho ln lx lr kn kx kr β s a w Q hQo h hk hn hx hr;unfold okR at ho;unfold Lm at hk;cases draw
  ·simp only [RD,Bool.false_and,cond_false] at hk;refine wpIn_region (AU hNG hcall hn (List.range ops.size) ops.toList (by simp) (fun k i hi=>?_) ho h hk)
   rw [List.getElem?_range] at hi
   ·simp at hi;subst hi;simp
   ·rcases Nat.lt_or_ge k ops.size with h'|h'
    ·exact h'
    ·rw [List.getElem?_eq_none (by simpa using h')] at hi;cases hi
  ·have hLo:¬LetsOut Q:=fun ⟨a,w,q⟩=>hQo a w q
   simp only [RD,Al3,Bool.true_and,cond_true] at hk;cases hb:PU C P ops<;>rw [hb] at hk
   ·obtain ⟨hb',hk1⟩:=Ay (show Ap _ _=some r from hk)
    exact wpIn_region_any hm (Se hLo ho _ _ _ _ (V1 h hNG hcall hm hb' hk1 hn))
   ·exact wpIn_region_any hm (Se hLo ho _ _ _ _ (Tt h hNG hcall hm hb hk hn))
 |seq c1 c2 ih1 ih2=>
  intro ho ln lx lr kn kx kr β s a w Q hQo h hk hn hx hr;unfold okR at ho;rw [Bool.and_eq_true] at ho;unfold Lm at hk
  refine wpIn_seq (ih1 ho.1 (fun a w=>hQo a w) h hk (fun s' a' w' β' hk' h'=>by
    cases hc:Aeg P c1 c2
    ·rw [hc] at hk';exact ih2 ho.2 hQo h' hk' hn hx hr
    ·rw [hc] at hk';cases hq:EQ c1 c2
     ·rw [hq] at hk';obtain ⟨β1,s1,hk1,h1⟩:=Dz h' (show Ma _ _ _ _=some r from hk')
      exact ih2 ho.2 hQo h1 (Zf hk1) hn hx hr
     ·rw [hq] at hk';obtain ⟨β1,s1,hk1,h1⟩:=IL h' (show Aab _ _ _ _=some r from hk')
      exact ih2 ho.2 hQo h1 (Zf hk1) hn hx hr) (fun id s' a' w' β' hk' h'=>hx id s' a' w' β' hk' h') (fun s' a' w' β' hk' h'=>hr s' a' w' β' hk' h'))
 |cond c c1 c2 ih1 ih2=>
  intro ho ln lx lr kn kx kr β s a w Q hQo h hk hn hx hr;unfold okR at ho;rw [Bool.and_eq_true] at ho;unfold Lm at hk;rcases JG h hk with ⟨hc,hk1⟩|⟨hc,hk1⟩
  ·exact wpIn_cond_true hc (ih1 ho.1 hQo h hk1 hn hx hr)
  ·exact wpIn_cond_false hc (ih2 ho.2 hQo h hk1 hn hx hr)
 |block id c ih=>
  intro ho ln lx lr kn kx kr β s a w Q hQo h hk hn hx hr;unfold okR at ho;unfold Lm at hk;refine wpIn_block (ih ho (fun a w=>hQo a w) h hk (fun s' a' w' β' hk' h'=>hn s' a' w' β' hk' h') (fun j s' a' w' β' hk' h'=>?_) (fun s' a' w' β' hk' h'=>hr s' a' w' β' hk' h'))
  show (if j=id then _ else _)
  by_cases e:j=id
  ·subst e;rw [Bv rfl];rw [Nat.beq_refl] at hk';exact hn s' a' w' β' hk' h'
  ·rw [Az e]
   have:Nat.beq j id=false:=by
    cases hb:Nat.beq j id
    ·rfl
    ·exact absurd (Nat.eq_of_beq_eq_true hb) e
   rw [this] at hk';exact hx j s' a' w' β' hk' h'
 |loop c ih=>
  intro ho ln lx lr kn kx kr β s a w Q hQo h hk hn hx hr;unfold okR at ho;unfold Lm at hk;obtain ⟨β1,s1,hk1,h1⟩:=Dz h hk;refine wpIn_loop_rounds fu (JW (fun h hk=>Dz h hk) (fun h hk hQ=>?_) fu h1 hk1)
  exact ih ho (fun a w=>hQo a w) h hk hQ (fun id s' a' w' β' hk' h'=>hx id s' a' w' β' hk' h') (fun s' a' w' β' hk' h'=>hr s' a' w' β' hk' h')
 |«exit» id=>intro _ ln lx lr kn kx kr β s a w Q hQo h hk hn hx hr;exact wpIn_exit (hx id s a w β hk h)
 |ret=>intro _ ln lx lr kn kx kr β s a w Q hQo h hk hn hx hr;exact wpIn_ret (hr s a w β hk h)
 |_=>intro ho;cases ho
end
end
section
open Go.IntKind (wrap)
open Go Go.RowKit
theorem Pf:∀(l:List (Nat × PV)) (i:Nat),lk l i=.top∨∃q∈l,q.1=i∧lk l i=q.2
 |[],_=>.inl rfl
 |(j,p)::l,i=>by
  by_cases e:i=j
  ·subst e;refine .inr ⟨(i,p),by simp,rfl,?_⟩
   simp [lk,Nat.beq_refl]
  ·have hb:Nat.beq i j=false:=by
    cases h:Nat.beq i j
    ·rfl
    ·exact absurd (Nat.eq_of_beq_eq_true h) e
   have hb':Nat.beq j i=false:=by
    cases h:Nat.beq j i
    ·rfl
    ·exact absurd (Nat.eq_of_beq_eq_true h).symm e
   have h1:lk ((j,p)::l) i=lk l i:=by simp [lk,hb,hb']
   rw [h1];rcases Pf l i with h|⟨q,hq,h2,h3⟩
   ·exact .inl h
   ·exact .inr ⟨q,List.mem_cons_of_mem _ hq,h2,h3⟩
theorem S5:∀(l:List (Nat × B7)) (i:Nat),Cj l i=none∨∃q∈l,q.1=i∧Cj l i=some q.2
 |[],_=>.inl rfl
 |(j,p)::l,i=>by
  by_cases e:i=j
  ·subst e;refine .inr ⟨(i,p),by simp,rfl,?_⟩
   simp [Cj,Nat.beq_refl]
  ·have hb:Nat.beq i j=false:=by
    cases h:Nat.beq i j
    ·rfl
    ·exact absurd (Nat.eq_of_beq_eq_true h) e
   have hb':Nat.beq j i=false:=by
    cases h:Nat.beq j i
    ·rfl
    ·exact absurd (Nat.eq_of_beq_eq_true h).symm e
   have h1:Cj ((j,p)::l) i=Cj l i:=by simp [Cj,hb,hb']
   rw [h1];rcases S5 l i with h|⟨q,hq,h2,h3⟩
   ·exact .inl h
   ·exact .inr ⟨q,List.mem_cons_of_mem _ hq,h2,h3⟩
theorem Ahj {P:Program}{a:Act}{w:World}{o:Oper}{c:Call}{t l:Nat}(ho:o.op=.call c)(hc:c.callee=.value (.tmp t)) (ht:a.eval (.tmp t)=.func (.yield l) #[] #[]) {r:Result Next}(hy:(Instr.yield l (c.args.map a.eval)).run P w=r):
  (execOp a.eval o).run P w=r:=by
 unfold execOp;rw [ho];simp [resolve,hc,ht,Deferred.ofValue,invoke,hy]
section
variable {P:Program} {C:H0} {N:Nat} {call:Ah} {w0:World} {X0:Fm} {Y:Nat->Prop} {R:Type} {r:R} {β:Bt} {s:St} {a:Act} {w:World} {o:Oper} {ops:Array Oper} {K:St->Option R} {ro:Option Nat} {n:Nat}
theorem Cd.part (h:Cd N w0 X0 Y β s a w)(tm':Nat->PV)(hp':Nat->Option B7)(ht:∀i,tm' i=.top∨tm' i=s.tm i)(hh:∀id,hp' id=none∨hp' id=s.hp id)
  (hw:∀i,i<N->∀id∈Cc (tm' i),hp' id≠none) (hwB:∀id cells,hp' id=some (.st cells)->∀c∈cells,∀id'∈A4 c,hp' id'≠none) (hpin:∀i,X0.pn i->hp' (De N i)≠none):Cd N w0 X0 Y β ⟨tm',hp'⟩ a w:=by
 have hX:∀b,GD hp' β b->GD s.hp β b:=by
  rintro b ⟨id,o,h1,h2⟩
  rcases hh id with e|e
  ·rw [e] at h1;exact h1.elim
  ·rw [e] at h1;exact ⟨id,o,h1,h2⟩
 have hA:∀b,Da hp' β Y b->Da s.hp β Y b:=fun b hb=>hb.elim (fun x=>.inl (hX b x)) .inr
 have hs:∀{id bx},hp' id=some bx->s.hp id=some bx:=by
  intro id bx e;rcases hh id with e'|e'
  ·rw [e'] at e;cases e
  ·rw [←e'];exact e
 have hn:∀{id},hp' id≠none->s.hp id≠none:=by
  intro id e;rcases hh id with e'|e'
  ·exact absurd e' e
  ·rw [←e'];exact e
 have hl:∀{id},Ct (hp' id)->Ct (s.hp id):=by
  intro id e;rcases hh id with e'|e'
  ·rw [e'] at e;exact e.elim
  ·rw [←e'];exact e
 have hst:Co (Da s.hp β Y) w w:=⟨Nat.le_refl _,fun _ _ _=>rfl,fun _ _=>Nat.le_refl _⟩
 refine ⟨h.dfr,h.tsz,fun i hi=>?_,fun i hi=>?_,fun id bx hbx=>?_,fun id id' b o o' h1 h2=>h.inj id id' b o o' (hl h1) (hl h2),fun id b o h1 h2=>h.blt id b o (hn h1) h2,hw,hwB,fun b hb=>h.ownd b (hX b hb),fun id bx b o h1 h2 h3 h4=>h.rngB id bx b o (hs h1) h2 h3 h4,
  fun i hi=>⟨hpin i hi,(h.pin i hi).2⟩,fun id c b o h1=>h.stp id c b o (hs h1),fun b hy hx=>h.Yx b hy (hX b hx),h.Ylt,h.fr⟩
 ·rcases ht i with e|e
  ·exact e
  ·exact e.trans (h.tmo i hi)
 ·show D9 w (Da hp' β Y) β (tm' i) _;rcases ht i with e|e
  ·rw [e];exact Be.top _
  ·rw [e];exact (h.tms i hi).step hst (fun b _=>hA b) fun _ _=>rfl
 ·have h0:=h.box id bx (hs hbx);exact h0.step' hA
theorem Cd.pick (h:Cd N w0 X0 Y β s a w)(l:List (Nat × PV)) (bl:List (Nat × B7)) (hl:∀q∈l,q.2=s.tm q.1)(hb:∀q∈bl,some q.2=s.hp q.1)
  (hw:∀q∈l,∀id∈Cc q.2,Cj bl id≠none)(hwB:∀q∈bl,∀cells,q.2=.st cells->∀c∈cells,∀id'∈A4 c,Cj bl id'≠none)(hpin:∀i,X0.pn i->Cj bl (De N i)≠none):Cd N w0 X0 Y β ⟨lk l,Cj bl⟩ a w:=by
 refine h.part (lk l) (Cj bl) (fun i=>?_) (fun id=>?_) (fun i _ id hid=>?_) (fun id cells e=>?_) hpin
 ·rcases Pf l i with e|⟨q,hq,h1,h2⟩
  ·exact .inl e
  ·exact .inr (by rw [h2,hl q hq,h1])
 ·rcases S5 bl id with e|⟨q,hq,h1,h2⟩
  ·exact .inl e
  ·exact .inr (by rw [h2,hb q hq,h1])
 ·rcases Pf l i with e|⟨q,hq,h1,h2⟩
  ·rw [e] at hid;simp [Cc,Cs,A4] at hid
  ·rw [h2] at hid;exact hw q hq id hid
 ·rcases S5 bl id with e'|⟨q,hq,h1,h2⟩
  ·rw [e'] at e;cases e
  ·rw [h2] at e;exact hwB q hq cells (by injection e)
theorem M5 {G:Wo}(hNG:LR P G w0 X0)(hcall:∀f args res,call f args=some res->Dk G P f args res){Q:Exit->Act->World->Prop}{rest:List Nat}(hQ:∀s' a' w' β',K s'=some r->Cd N w0 X0 Y β' s' a' w'->wpOpsIn (WF ro) n P ops Q rest a' w'):
  ∀(li:List Nat) (os:List Oper),li.length=os.length->(∀(k i:Nat),li[k]?=some i->ops[i]?=os[k]?)->os.all WQ=true->∀{s:St} {a:Act} {w:World} {β:Bt},Cd N w0 X0 Y β s a w->Nz C P N call ops os s K=some r->wpOpsIn (WF ro) n P ops Q (li++rest) a w
 |[],[],_,_,_,s,a,w,β,h,hk=>hQ s a w β hk h
 |[],_::_,hl,_,_,_,_,_,_,_,_=>by cases hl
 |_::_,[],hl,_,_,_,_,_,_,_,_=>by cases hl
 |i::li,o::os,hl,hi,hnd,s,a,w,β,h,hk=>by
  obtain ⟨s1,hk,h⟩:=Ve h hk;rw [List.all_cons,Bool.and_eq_true] at hnd;have hio:ops[i]?=some o:=by simpa using hi 0 i rfl
  obtain ⟨s',hs',hn⟩:=IP (ro:=ro) (n:=n) h hNG hcall hnd.1 hk;rw [List.cons_append];unfold wpOpsIn;rw [hio];exact hn _ _ fun a' w' β' h'=>M5 hNG hcall hQ li os (by simpa using hl) (fun k j hj=>by simpa using hi (k+1) j (by simpa using hj)) hnd.2 h' hs'
end
end
section
open Go.IntKind (wrap)
open Go Go.RowKit
abbrev Vh (ds:List Deferred)(a:Act):Act:={ a with defers:=a.defers++ds }
def TD (ds:List Deferred)(Q:Exit->Act->World->Prop):Exit->Act->World->Prop:=fun e a w=>∃a0:Act,a=Vh ds a0∧Q e a0 w
section
variable {P:Program} {ops:Array Oper} {Q:Exit->Act->World->Prop} {ro:Option Nat} {n:Nat} {ds:List Deferred}
theorem P0 (a:Act)(d:Option Tmp)(v:Value):(Vh ds a).put d v=Vh ds (a.put d v):=by cases d<;>rfl
theorem Ams (h:LetsOut Q):LetsOut (TD ds Q):=let ⟨a,w,q⟩:=h;⟨_,w,a,rfl,q⟩
theorem Af9 {o:Oper}{a:Act}{w:World}{K K':Act->World->Prop}(hK:∀a w,K a w->K' (Vh ds a) w) (h:o.wpIn (WF ro) n P a w K Q):o.wpIn (WF ro) n P (Vh ds a) w K' (TD ds Q):=by
 refine ⟨fun _ _=>trivial,?_⟩
 have h:=h.2;show o.uponIn _ _ _ _ _ _ ((o.semAt (WF ro).round a.eval).run P w);generalize (o.semAt (WF ro).round a.eval).run P w=q at h;cases q with
 |halt x w'=>cases x<;>first|exact ⟨a,rfl,h⟩|exact h.elim
 |ok v w'=>
  cases v with
  |value v=>show K' ((Vh ds a).put o.dst v) w';rw [P0];exact hK _ _ h
  |skip=>show K' ((Vh ds a).put o.dst undef) w';rw [P0];exact hK _ _ h
  |defer d=>
   show K' (({ (Vh ds a) with defers:=d::(Vh ds a).defers }:Act).put o.dst undef) w';rw [show ({ (Vh ds a) with defers:=d::(Vh ds a).defers }:Act)=Vh ds { a with defers:=d::a.defers } from rfl,P0]
   exact hK _ _ h
  |enter f args=>
   refine ⟨h.1,h.2.mono ?_⟩;intro e w'' he;cases e with
   |returned v=>show K' ((Vh ds a).put o.dst v) w'';rw [P0];exact hK _ _ he
   |panicked c=>exact ⟨a,rfl,he⟩
   |outgrown=>exact Ams he
  |row row args=>
   refine ⟨h.1,h.2.mono ?_⟩;intro v w'' he;show K' ((Vh ds a).put o.dst v) w'';rw [P0];exact hK _ _ he
  |round l f tmps assign body=>
   refine ⟨h.1,h.2.mono ?_⟩;intro e w'' he;cases e with
   |returned v=>show K' ((Vh ds a).put o.dst v) w'';rw [P0];exact hK _ _ he
   |panicked c=>exact ⟨a,rfl,he⟩
   |outgrown=>exact Ams he
  |_=>exact h.elim
theorem Vg:∀(li:List Nat){a:Act}{w:World},wpOpsIn (WF ro) n P ops Q li a w->wpOpsIn (WF ro) n P ops (TD ds Q) li (Vh ds a) w
 |[],a,w,h=>⟨a,rfl,h⟩
 |i::li,a,w,h=>by
  rw [wpOpsIn_cons] at h ⊢;unfold wpOpIn at h ⊢;cases ho:ops[i]? with
  |none=>rw [ho] at h;exact Vg li h
  |some o=>
   rw [ho] at h;simp only at h ⊢;by_cases hw:Region.wanted o (yielded ops a.tmps)=true
   ·rw [Bv hw] at h ⊢;exact Af9 (fun a w=>Vg li) h
   ·rw [Az hw] at h ⊢;refine ⟨fun _ _=>trivial,?_⟩
    rw [P0];exact Vg li h.2
end
structure Adf (w w':World):Prop where
 os:w'.os=w.os
 tape:w'.tape=w.tape
 output:w'.output=w.output
 size:w'.heap.size=w.heap.size
 cell:∀a,w'.cell? a=w.cell? a
 frz:∀a,w'.frozen? a=w.frozen? a
 bs:∀b,bsz w' b=bsz w b
theorem Be.same {w w':World}{A:Nat->Prop}(h:Adf w w'){p:PV}{v:Value}(t:Be w A p v):Be w' A p v:=by
 induction t with
 |sc v=>exact .sc v
 |top v=>exact .top v
 |ub b=>exact .ub b
 |lnil z es=>exact .lnil z es
 |lemp es a cap=>exact .lemp es a cap
 |lst es n cells a cap f hs hb hA1 hn hc h1 hr ih=>exact .lst es n cells a cap f hs (by rw [h.size];exact hb) hA1 hn (fun j c hj=>by rw [h.cell];exact hc j c hj) h1 (fun j c hj=>ih j c hj)
theorem SG.same {w w':World}{A:Nat->Prop}(h:Adf w w'){a:Addr}{c:List PV}(t:SG w A a c):SG w' A a c:=fun j x hj=>by
 obtain ⟨v,h1,h2,h3⟩:=t j x hj;exact ⟨v,by rw [h.cell];exact h1,h2,h3.same h⟩
theorem Cq.same {w w':World}{A:Nat->Prop}{β:Nat->Option (Nat × Nat)} (h:Adf w w'){p:PV}{v:Value}(t:Cq w A β p v):Cq w' A β p v:=by
 cases p with
 |view id es off n=>
  rcases t with t|⟨b,o,x,cap,h1,h2,hx,h3,h4,h5⟩
  ·exact .inl t
  ·exact .inr ⟨b,o,x,cap,h1,h2,hx,h3,by rw [h.bs];exact h4,by rw [h.size];exact h5⟩
 |ptr id off=>exact t
 |iptr c off=>
  obtain ⟨a,h1,h2,h3,h4,h5⟩:=t;exact ⟨a,h1,h2,by rw [h.size];exact h3,h4,h5.same h⟩
 |_=>exact Be.same h t
theorem B6.imp' {α β:Type}{R S:α->β->Prop}{zs:List α}{bs:List β}(h:B6 R zs bs)(f:∀a b,R a b->S a b):B6 S zs bs:=h.mono f
theorem G4.same {w w':World}{A:Nat->Prop}{β:Nat->Option (Nat × Nat)} (h:Adf w w'){p:PV}{v:Value}(t:G4 w A β p v):G4 w' A β p v:=by
 cases p with
 |agg cs=>obtain ⟨vs,h1,h2⟩:=t;exact ⟨vs,h1,h2.imp' fun _ _=>Cq.same h⟩
 |_=>exact (Uh (by intro cs e;cases e)).2 (Cq.same h ((Uh (by intro cs e;cases e)).1 t))
theorem D9.same {w w':World}{A:Nat->Prop}{β:Nat->Option (Nat × Nat)} (h:Adf w w'){p:PV}{v:Value}(t:D9 w A β p v):D9 w' A β p v:=by
 cases p with
 |tup cs=>obtain ⟨vs,h1,h2⟩:=t;exact ⟨vs,h1,h2.imp' fun _ _=>G4.same h⟩
 |_=>exact (Pi (by intro cs e;cases e)).2 (G4.same h ((Pi (by intro cs e;cases e)).1 t))
theorem Cd.same {N:Nat}{w0 w w':World}{X0:Fm}{Y:Nat->Prop}{β:Bt}{s:St}{a:Act}(h:Cd N w0 X0 Y β s a w)(hs:Adf w w')(h0:∀b,b<w0.heap.size->w'.heap[b]?=w.heap[b]?):Cd N w0 X0 Y β s a w':=by
 refine ⟨h.dfr,h.tsz,h.tmo,fun i hi=>(h.tms i hi).same hs,fun id bx e=>?_,h.inj,fun id b o h1 h2=>by rw [hs.size];exact h.blt id b o h1 h2,h.wfT,h.wfB,h.ownd,h.rngB,h.pin,h.stp,h.Yx,h.Ylt,
  ⟨hs.os.trans h.fr.os,hs.tape.trans h.fr.tape,hs.output.trans h.fr.output,⟨by rw [hs.size];exact h.fr.step.size,fun b hb hn=>(h0 b hb).trans (h.fr.step.keep b hb hn),fun b hb=>by rw [hs.bs];exact h.fr.step.bs b hb⟩,fun b j hb hn=>by rw [hs.cell,hs.frz];exact h.fr.rng b j hb hn⟩⟩
 have h1:=h.box id bx e;cases bx with
 |st c=>
  obtain ⟨b,o,g1,g2,g3⟩:=h1;refine ⟨b,o,g1,fun j c hj=>?_,fun j hj=>by rw [hs.frz];exact g3 j hj⟩
  obtain ⟨v,k1,k2⟩:=g2 j c hj;exact ⟨v,by rw [hs.cell];exact k1,k2.same hs⟩
 |ar fz c=>
  rcases h1 with h1|⟨b,o,g1,g2,g3,g4⟩
  ·exact .inl h1
  ·exact .inr ⟨b,o,g1,g2.same hs,fun hf j hj hjb=>by rw [hs.frz];exact g3 hf j hj (by rw [←hs.bs];exact hjb),g4⟩
 |mv=>trivial
theorem ZW {w:World}{D:Nat}{x y:Option (List Deferred)} (h:w.heap[D]?=some (.deferred x)):Adf w (w.putObj D (.deferred y)):=by
 have hD:D<w.heap.size:=(Array.getElem?_eq_some_iff.1 h).1;have hs:(w.putObj D (.deferred y)).heap[D]?=some (.deferred y):=World.putObj_heap_same hD;refine ⟨rfl,rfl,rfl,by simp,fun a=>?_,fun a=>?_,fun b=>?_⟩
 ·by_cases e:a.block=D
  ·unfold World.cell?;rw [e,hs,h]
  ·exact World.cell?_of_block (World.putObj_heap_other e)
 ·by_cases e:a.block=D
  ·unfold World.frozen?;rw [e,hs,h]
  ·unfold World.frozen?;rw [World.putObj_heap_other e]
 ·by_cases e:b=D
  ·subst e;unfold bsz;rw [hs,h]
  ·unfold bsz;rw [World.putObj_heap_other e]
end
section
open Go.IntKind (wrap)
open Go Go.RowKit
def sL:Code->Code
 |.seq a _=>a
 |c=>c
def sR:Code->Code
 |.seq _ b=>b
 |c=>c
def sB:Code->Code
 |.block _ c=>c
 |.loop c=>c
 |c=>c
def sF:Code->Code
 |.rangeFunc _ _ _ b=>b
 |c=>c
def sA:Code->Code
 |.rangeFunc _ _ a _=>a
 |c=>c
def Nb:Code->Array Oper
 |.region _ ops _=>ops
 |_=> #[]
noncomputable abbrev DJ:Code:=Cb Tryz.f107
noncomputable abbrev PJ:Code:=Cb Tryz.f37
def CS:H0:={ CB with shr:=fun _=>true }
noncomputable abbrev TQ (N:Nat)(call:Ah)(c:Code)(L:Nat)(s:St):Option (Nat × St):=
 Lm CB Tryz.prog 2000 N call c L (fun _=>L) 0 (fun s=>Ma N L s fun s'=>some (0,s')) (fun id s=>Ma N L s fun s'=>some (id+1,s')) (fun _=>none) s
section
variable {N:Nat} {w0:World} {X0:Fm} {Y:Nat->Prop} {β:Bt} {s s1:St} {a:Act} {w:World}
theorem Em {G:Wo}(hNG:LR Tryz.prog G w0 X0)(hm:Tryz.prog.follows .mixedOrders=true){call:Ah}(hcall:∀f args res,call f args=some res->Dk G Tryz.prog f args res){c:Code}{L t:Nat}{Q:Exit->Act->World->Prop}(h:Cd N w0 X0 Y β s a w)
  (hk:TQ N call c L s=some (t,s1)) (hQ:∀a' w' β',Cd N w0 X0 Y β' s1 a' w'->match t with|0=>Q .normal a' w'|id+1=>Q (.exit id) a' w'):c.wp Tryz.prog Q a w:=by
 refine PB hNG hcall hm c h hk (fun s' a' w' β' h1 h2=>?_) (fun id s' a' w' β' h1 h2=>?_) (fun s' a' w' β' h1 h2=>by cases h1)
 ·obtain ⟨β1,s2,h3,h4⟩:=Dz h2 h1;cases h3;exact hQ _ _ _ h4
 ·obtain ⟨β1,s2,h3,h4⟩:=Dz h2 h1;cases h3;exact hQ _ _ _ h4
theorem NX {G:Wo}(hNG:LR Tryz.prog G w0 X0)(hm:Tryz.prog.follows .mixedOrders=true){call:Ah}(hcall:∀f args res,call f args=some res->Dk G Tryz.prog f args res){ro:Option Nat}{n:Nat}{c:Code}(ho:okR c=true){L t:Nat}{Q:Exit->Act->World->Prop}(hQo:∀a w,¬Q .outgrown a w)(h:Cd N w0 X0 Y β s a w)
  (hk:TQ N call c L s=some (t,s1)) (hQ:∀a' w' β',Cd N w0 X0 Y β' s1 a' w'->match t with|0=>Q .normal a' w'|id+1=>Q (.exit id) a' w'):c.wpIn (WF ro) n Tryz.prog Q a w:=by
 refine Aam hNG hcall hm c ho hQo h hk (fun s' a' w' β' h1 h2=>?_) (fun id s' a' w' β' h1 h2=>?_) (fun s' a' w' β' h1 h2=>by cases h1)
 ·obtain ⟨β1,s2,h3,h4⟩:=Dz h2 h1;cases h3;exact hQ _ _ _ h4
 ·obtain ⟨β1,s2,h3,h4⟩:=Dz h2 h1;cases h3;exact hQ _ _ _ h4
end
end
section
open Go.IntKind (wrap)
set_option maxRecDepth 100000
theorem Aq5 (call:Ah)(yv:Value)(h seed:Int):TQ 63 call (sL DJ) 23 ⟨lk [(0,.sc yv),(1,.iptr [.sc (.int .i64 h)] 0),(2,.iptr [.sc (.int .u64 seed)] 0)],Cj []⟩=(
 Ap (decide ((0:Int)<=h)) <|
 Aa (Fp IntKind.i64 (1:Int) h) fun x1=>
 Ap (decide ((0:Int)<=x1)&&decide (x1<=x1)&&decide (x1*(8:Int)<=(1099511627776:Int))&&decide (x1<=(1099511627776:Int))) <|
 some (0,⟨lk [(0,(.sc (yv))),(1,(.iptr ([PV.sc (Value.int IntKind.i64 h)]) ((0:Nat)))),(2,(.iptr ([PV.sc (Value.int IntKind.u64 seed)]) ((0:Nat)))),(4,(.view 4 1 0 (Int.toNat x1)))],Cj [(4,(.ar false (S8 (Int.toNat x1) [PV.sc (Value.int IntKind.u64 (0:Int))])))]⟩)):=by kernel_rfl
theorem Aqw (call:Ah)(yv:Value)(h seed:Int)(n:Nat)(c:List PV):TQ 63 call (sL (sL (sR DJ))) 24599 ⟨lk [(0,.sc yv),(1,.iptr [.sc (.int .i64 h)] 0),(2,.iptr [.sc (.int .u64 seed)] 0),(4,.view 4 1 0 n)],Cj [(4,.ar false c)]⟩=(
 some (0,⟨lk [(0,(.sc (yv))),(1,(.iptr ([PV.sc (Value.int IntKind.i64 h)]) ((0:Nat)))),(2,(.iptr ([PV.sc (Value.int IntKind.u64 seed)]) ((0:Nat)))),(4,(.view 4 1 0 (n))),(13,(.sc (.int .i64 ((↑n:Int))))),(14,(.sc (.int .i64 ((0:Int)))))],Cj [(4,(.ar false (c)))]⟩)):=by kernel_rfl
theorem Aj7 (call:Ah)(yv:Value)(h seed m i:Int)(n:Nat)(c:List PV):TQ 63 call (sB (sB (sR (sL (sR DJ))))) 24599 ⟨lk [(0,.sc yv),(1,.iptr [.sc (.int .i64 h)] 0),(2,.iptr [.sc (.int .u64 seed)] 0),(4,.view 4 1 0 n),(13,.sc (.int .i64 m)),(14,.sc (.int .i64 i))],Cj [(4,.ar false c)]⟩=(
  A3 (decide (i<m))
   (
   Ag (call (108:Nat) [PV.sc (Value.int IntKind.u64 seed),PV.sc (Value.int IntKind.i64 i)]) fun x1 x2=>
   Ac (x2) <|
   Ab (x1) fun x3 x4=>
   Ae (IntKind.u64) (x3) fun x5=>
   Ac (x4) <|
   Ap (decide ((0:Int)<=i)&&decide (i<(↑n:Int))) <|
   Ap (decide ((0:Nat)+Int.toNat i*(1:Nat)+(1:Nat)<=List.length c)) <|
   Aa (Bo c [PV.sc (Value.int IntKind.u64 x5)] ((0:Nat)+Int.toNat i*(1:Nat))) fun x6=>
   Aa (wrap IntKind.i64 (i+(1:Int))) fun x7=>
   some (0,⟨lk [(0,(.sc (yv))),(1,(.iptr ([PV.sc (Value.int IntKind.i64 h)]) ((0:Nat)))),(2,(.iptr ([PV.sc (Value.int IntKind.u64 seed)]) ((0:Nat)))),(4,(.view 4 1 0 (n))),(13,(.sc (.int .i64 (m)))),(14,(.sc (.int .i64 (x7))))],Cj [(4,(.ar false (x6)))]⟩))
   (
   some (1,⟨lk [(0,(.sc (yv))),(1,(.iptr ([PV.sc (Value.int IntKind.i64 h)]) ((0:Nat)))),(2,(.iptr ([PV.sc (Value.int IntKind.u64 seed)]) ((0:Nat)))),(4,(.view 4 1 0 (n))),(13,(.sc (.int .i64 (m)))),(14,(.sc (.int .i64 (i))))],Cj [(4,(.ar false (c)))]⟩))):=by kernel_rfl
theorem Arj (call:Ah)(yv:Value)(h seed m i:Int)(n:Nat)(c:List PV):TQ 63 call (sL (sR (sR DJ))) 87 ⟨lk [(0,.sc yv),(1,.iptr [.sc (.int .i64 h)] 0),(2,.iptr [.sc (.int .u64 seed)] 0),(4,.view 4 1 0 n),(13,.sc (.int .i64 m)),(14,.sc (.int .i64 i))],Cj [(4,.ar false c)]⟩=(
 some (0,⟨lk [(0,(.sc (yv))),(1,(.iptr ([PV.sc (Value.int IntKind.i64 h)]) ((0:Nat)))),(2,(.iptr ([PV.sc (Value.int IntKind.u64 seed)]) ((0:Nat)))),(4,(.view 4 1 0 (n))),(6,(.sc (.int .i64 ((0:Int)))))],Cj [(4,(.ar false (c)))]⟩)):=by kernel_rfl
theorem Ap0 (call:Ah)(yv:Value)(h seed k:Int)(n:Nat)(c:List PV):TQ 63 call (sL (sB (sL (sR (sB (sB (sR (sR (sR DJ))))))))) 215 ⟨lk [(0,.sc yv),(1,.iptr [.sc (.int .i64 h)] 0),(2,.iptr [.sc (.int .u64 seed)] 0),(4,.view 4 1 0 n),(6,.sc (.int .i64 k))],Cj [(4,.ar false c)]⟩=(
 Aa (wrap IntKind.i64 (Int.tdiv (↑n:Int) (2:Int))) fun x1=>
 Ap (decide ((0:Int)<=x1)&&decide (x1<=x1)&&decide (x1*(8:Int)<=(1099511627776:Int))&&decide (x1<=(1099511627776:Int))) <|
 some (0,⟨lk [(0,(.sc (yv))),(1,(.iptr ([PV.sc (Value.int IntKind.i64 h)]) ((0:Nat)))),(2,(.iptr ([PV.sc (Value.int IntKind.u64 seed)]) ((0:Nat)))),(4,(.view 4 1 0 (n))),(6,(.sc (.int .i64 (k)))),(7,(.view 7 1 0 (Int.toNat x1)))],Cj [(4,(.ar false (c))),(7,(.ar false (S8 (Int.toNat x1) [PV.sc (Value.int IntKind.u64 (0:Int))])))]⟩)):=by kernel_rfl
theorem Ard (call:Ah)(yv:Value)(h seed k:Int)(n m:Nat)(c e:List PV):TQ 63 call (sL (sL (sR (sB (sL (sR (sB (sB (sR (sR (sR DJ))))))))))) 3298534883543 ⟨lk [(0,.sc yv),(1,.iptr [.sc (.int .i64 h)] 0),(2,.iptr [.sc (.int .u64 seed)] 0),(4,.view 4 1 0 n),(6,.sc (.int .i64 k)),(7,.view 7 1 0 m)],Cj [(4,.ar false c),(7,.ar false e)]⟩=(
 some (0,⟨lk [(0,(.sc (yv))),(1,(.iptr ([PV.sc (Value.int IntKind.i64 h)]) ((0:Nat)))),(2,(.iptr ([PV.sc (Value.int IntKind.u64 seed)]) ((0:Nat)))),(4,(.view 4 1 0 (n))),(6,(.sc (.int .i64 (k)))),(7,(.view 7 1 0 (m))),(40,(.sc (.int .i64 ((↑m:Int))))),(41,(.sc (.int .i64 ((0:Int)))))],Cj [(4,(.ar false (c))),(7,(.ar false (e)))]⟩)):=by kernel_rfl
theorem Al7 (call:Ah)(yv:Value)(h seed k p i:Int)(n m:Nat)(c e:List PV):TQ 63 call (sB (sB (sR (sL (sR (sB (sL (sR (sB (sB (sR (sR (sR DJ))))))))))))) 3298534883543 ⟨lk [(0,.sc yv),(1,.iptr [.sc (.int .i64 h)] 0),(2,.iptr [.sc (.int .u64 seed)] 0),(4,.view 4 1 0 n),(6,.sc (.int .i64 k)),(7,.view 7 1 0 m),(40,.sc (.int .i64 p)),(41,.sc (.int .i64 i))],Cj [(4,.ar false c),(7,.ar false e)]⟩=(
  A3 (decide (i<p))
   (
   Aa (wrap IntKind.i64 (k+(1:Int))) fun x1=>
   Aa (wrap IntKind.i64 ((2:Int)*i)) fun x2=>
   Ap (decide ((0:Int)<=x2)&&decide (x2<(↑n:Int))) <|
   Ae (IntKind.u64) (List.getD c ((0:Nat)+Int.toNat x2*(1:Nat)) PV.top) fun x3=>
   Aa (wrap IntKind.i64 ((2:Int)*i)) fun x4=>
   Aa (wrap IntKind.i64 (x4+(1:Int))) fun x5=>
   Ap (decide ((0:Int)<=x5)&&decide (x5<(↑n:Int))) <|
   Ae (IntKind.u64) (List.getD c ((0:Nat)+Int.toNat x5*(1:Nat)) PV.top) fun x6=>
   Ag (call (82:Nat) [PV.sc (Value.int IntKind.i64 x1),PV.sc (Value.int IntKind.u64 x3),PV.sc (Value.int IntKind.u64 x6)]) fun x7 x8=>
   Ac (x8) <|
   Ab (x7) fun x9 Cm=>
   Ae (IntKind.u64) (x9) fun Bq=>
   Ac (Cm) <|
   Ap (decide ((0:Int)<=i)&&decide (i<(↑m:Int))) <|
   Ap (decide ((0:Nat)+Int.toNat i*(1:Nat)+(1:Nat)<=List.length e)) <|
   Aa (Bo e [PV.sc (Value.int IntKind.u64 Bq)] ((0:Nat)+Int.toNat i*(1:Nat))) fun Dm=>
   Aa (wrap IntKind.i64 (i+(1:Int))) fun Ds=>
   some (0,⟨lk [(0,(.sc (yv))),(1,(.iptr ([PV.sc (Value.int IntKind.i64 h)]) ((0:Nat)))),(2,(.iptr ([PV.sc (Value.int IntKind.u64 seed)]) ((0:Nat)))),(4,(.view 4 1 0 (n))),(6,(.sc (.int .i64 (k)))),(7,(.view 7 1 0 (m))),(40,(.sc (.int .i64 (p)))),(41,(.sc (.int .i64 (Ds))))],Cj [(4,(.ar false (c))),(7,(.ar false (Dm)))]⟩))
   (
   some (5,⟨lk [(0,(.sc (yv))),(1,(.iptr ([PV.sc (Value.int IntKind.i64 h)]) ((0:Nat)))),(2,(.iptr ([PV.sc (Value.int IntKind.u64 seed)]) ((0:Nat)))),(4,(.view 4 1 0 (n))),(6,(.sc (.int .i64 (k)))),(7,(.view 7 1 0 (m))),(40,(.sc (.int .i64 (p)))),(41,(.sc (.int .i64 (i))))],Cj [(4,(.ar false (c))),(7,(.ar false (e)))]⟩))):=by kernel_rfl
theorem Aq7 (call:Ah)(yv:Value)(h seed k p i:Int)(n m:Nat)(c e:List PV):TQ 63 call (sR (sR (sB (sL (sR (sB (sB (sR (sR (sR DJ)))))))))) 87 ⟨lk [(0,.sc yv),(1,.iptr [.sc (.int .i64 h)] 0),(2,.iptr [.sc (.int .u64 seed)] 0),(4,.view 4 1 0 n),(6,.sc (.int .i64 k)),(7,.view 7 1 0 m),(40,.sc (.int .i64 p)),(41,.sc (.int .i64 i))],Cj [(4,.ar false c),(7,.ar false e)]⟩=(
 some (0,⟨lk [(0,(.sc (yv))),(1,(.iptr ([PV.sc (Value.int IntKind.i64 h)]) ((0:Nat)))),(2,(.iptr ([PV.sc (Value.int IntKind.u64 seed)]) ((0:Nat)))),(4,(.view 4 1 0 (m))),(6,(.sc (.int .i64 (k))))],Cj [(4,(.ar false (e)))]⟩)):=by kernel_rfl
theorem Ap8 (call:Ah)(yv:Value)(h seed k:Int)(n:Nat)(c:List PV):TQ 63 call (sR (sR (sB (sB (sR (sR (sR DJ))))))) 87 ⟨lk [(0,.sc yv),(1,.iptr [.sc (.int .i64 h)] 0),(2,.iptr [.sc (.int .u64 seed)] 0),(4,.view 4 1 0 n),(6,.sc (.int .i64 k))],Cj [(4,.ar false c)]⟩=(
 Aa (wrap IntKind.i64 (k+(1:Int))) fun x1=>
 some (0,⟨lk [(0,(.sc (yv))),(1,(.iptr ([PV.sc (Value.int IntKind.i64 h)]) ((0:Nat)))),(2,(.iptr ([PV.sc (Value.int IntKind.u64 seed)]) ((0:Nat)))),(4,(.view 4 1 0 (n))),(6,(.sc (.int .i64 (x1))))],Cj [(4,(.ar false (c)))]⟩)):=by kernel_rfl
theorem Aqx (call:Ah)(yv:Value)(h seed k:Int)(n:Nat)(c:List PV):Nz CB Tryz.prog 63 call (Nb (sL (sL (sB (sB (sR (sR (sR DJ)))))))) (List.take 3 (Nb (sL (sL (sB (sB (sR (sR (sR DJ)))))))).toList) ⟨lk [(0,.sc yv),(1,.iptr [.sc (.int .i64 h)] 0),(2,.iptr [.sc (.int .u64 seed)] 0),(4,.view 4 1 0 n),(6,.sc (.int .i64 k))],Cj [(4,.ar false c)]⟩ (fun s=>Ma 63 117440599 s fun s'=>some (0,s'))=(
 some (0,⟨lk [(0,(.sc (yv))),(1,(.iptr ([PV.sc (Value.int IntKind.i64 h)]) ((0:Nat)))),(2,(.iptr ([PV.sc (Value.int IntKind.u64 seed)]) ((0:Nat)))),(4,(.view 4 1 0 (n))),(6,(.sc (.int .i64 (k)))),(24,(.sc (yv))),(25,(.sc (.int .i64 (k)))),(26,(.view 4 1 0 (n)))],Cj [(4,(.ar false (c)))]⟩)):=by kernel_rfl
theorem Ani (call:Ah)(yv:Value)(h seed k:Int)(n:Nat)(c:List PV):Nz CB Tryz.prog 63 call (Nb (sL (sL (sB (sB (sR (sR (sR DJ)))))))) (List.drop 4 (Nb (sL (sL (sB (sB (sR (sR (sR DJ)))))))).toList) ⟨lk [(0,.sc yv),(1,.iptr [.sc (.int .i64 h)] 0),(2,.iptr [.sc (.int .u64 seed)] 0),(4,.view 4 1 0 n),(6,.sc (.int .i64 k)),(27,.sc (.bool true))],Cj [(4,.ar false c)]⟩ (fun s=>Ma 63 4294967383 s fun s'=>some (0,s'))=(
 some (0,⟨lk [(0,(.sc (yv))),(1,(.iptr ([PV.sc (Value.int IntKind.i64 h)]) ((0:Nat)))),(2,(.iptr ([PV.sc (Value.int IntKind.u64 seed)]) ((0:Nat)))),(4,(.view 4 1 0 (n))),(6,(.sc (.int .i64 (k)))),(32,(.sc (.bool (decide (k<h)))))],Cj [(4,(.ar false (c)))]⟩)):=by kernel_rfl
theorem An2 (call:Ah)(yv:Value)(h seed k:Int)(n:Nat)(c:List PV):Nz CB Tryz.prog 63 call (Nb (sL (sL (sB (sB (sR (sR (sR DJ)))))))) (List.drop 4 (Nb (sL (sL (sB (sB (sR (sR (sR DJ)))))))).toList) ⟨lk [(0,.sc yv),(1,.iptr [.sc (.int .i64 h)] 0),(2,.iptr [.sc (.int .u64 seed)] 0),(4,.view 4 1 0 n),(6,.sc (.int .i64 k)),(27,.sc (.bool false))],Cj [(4,.ar false c)]⟩ (fun s=>Ma 63 4294967383 s fun s'=>some (0,s'))=(
 some (0,⟨lk [(0,(.sc (yv))),(1,(.iptr ([PV.sc (Value.int IntKind.i64 h)]) ((0:Nat)))),(2,(.iptr ([PV.sc (Value.int IntKind.u64 seed)]) ((0:Nat)))),(4,(.view 4 1 0 (n))),(6,(.sc (.int .i64 (k)))),(32,(.sc (.bool (false))))],Cj [(4,(.ar false (c)))]⟩)):=by kernel_rfl
theorem Am5 (call:Ah)(yv:Value)(h seed k:Int)(n:Nat)(c:List PV)(q:Bool):TQ 63 call (sR (sL (sB (sB (sR (sR (sR DJ))))))) 87 ⟨lk [(0,.sc yv),(1,.iptr [.sc (.int .i64 h)] 0),(2,.iptr [.sc (.int .u64 seed)] 0),(4,.view 4 1 0 n),(6,.sc (.int .i64 k)),(32,.sc (.bool q))],Cj [(4,.ar false c)]⟩=(
  A3 (q)
   (
   some (0,⟨lk [(0,(.sc (yv))),(1,(.iptr ([PV.sc (Value.int IntKind.i64 h)]) ((0:Nat)))),(2,(.iptr ([PV.sc (Value.int IntKind.u64 seed)]) ((0:Nat)))),(4,(.view 4 1 0 (n))),(6,(.sc (.int .i64 (k))))],Cj [(4,(.ar false (c)))]⟩))
   (
   some (3,⟨lk [(0,(.sc (yv))),(1,(.iptr ([PV.sc (Value.int IntKind.i64 h)]) ((0:Nat)))),(2,(.iptr ([PV.sc (Value.int IntKind.u64 seed)]) ((0:Nat)))),(4,(.view 4 1 0 (n))),(6,(.sc (.int .i64 (k))))],Cj [(4,(.ar false (c)))]⟩))):=by kernel_rfl
theorem Aqo (call:Ah)(seed h leaf m:Int):TQ 48 call (sL PJ) 873 ⟨lk [(0,.sc (.int .u64 seed)),(1,.sc (.int .i64 h)),(2,.sc (.int .i64 leaf)),(3,.sc (.int .u64 m))],Cj []⟩=(
 some (0,⟨lk [(0,(.sc (.int .u64 (seed)))),(3,(.sc (.int .u64 (m)))),(5,(.ptr 5 0)),(6,(.ptr 6 0)),(8,(.ptr 8 0)),(9,(.sc (.int .i64 ((0:Int)))))],Cj [(5,(.st [(.sc (.int .i64 (h)))])),(6,(.st [(.sc (.int .i64 (leaf)))])),(8,(.st [(.sc (.int .i64 ((0:Int)))),(.view 104 1 0 ((0:Nat))),(.view 152 1 0 ((0:Nat)))])),(104,(.ar false ([]))),(152,(.ar false ([])))]⟩)):=by kernel_rfl
theorem Aqf (call:Ah)(seed h leaf m:Int):TQ 48 call (sL (sR PJ)) 873 ⟨lk [(0,.sc (.int .u64 seed)),(3,.sc (.int .u64 m)),(5,.ptr 5 0),(6,.ptr 6 0),(8,.ptr 8 0),(9,.sc (.int .i64 0))],Cj [(5,.st [.sc (.int .i64 h)]),(6,.st [.sc (.int .i64 leaf)]),(8,.st [.sc (.int .i64 0),.view 104 1 0 0,.view 152 1 0 0]),(104,.ar false []),(152,.ar false [])]⟩=(
  Ag (call (74:Nat) [PV.sc (Value.int IntKind.i64 h)]) fun x1 x2=>
  Ac (x2) <|
  Ab (x1) fun x3 x4=>
  Br (x3) fun x5=>
  Ac (x4) <|
  A3 (x5)
   (
   none)
   (
   Ag (call (75:Nat) [PV.sc (Value.int IntKind.i64 leaf),PV.sc (Value.int IntKind.i64 h)]) fun x6 x7=>
   Ac (x7) <|
   Ab (x6) fun x8 x9=>
   Br (x8) fun Cm=>
   Ac (x9) <|
   A3 (Cm)
    (
    none)
    (
    some (0,⟨lk [(0,(.sc (.int .u64 (seed)))),(3,(.sc (.int .u64 (m)))),(5,(.ptr 5 0)),(6,(.ptr 6 0)),(8,(.ptr 8 0)),(9,(.sc (.int .i64 ((0:Int)))))],Cj [(5,(.st [(.sc (.int .i64 (h)))])),(6,(.st [(.sc (.int .i64 (leaf)))])),(8,(.st [(.sc (.int .i64 ((0:Int)))),(.view 104 1 0 ((0:Nat))),(.view 152 1 0 ((0:Nat)))])),(104,(.ar false ([]))),(152,(.ar false ([])))]⟩)))):=by kernel_rfl
theorem Aqt (call:Ah)(seed h leaf m:Int):TQ 48 call (sL (sR (sR PJ))) 1897 ⟨lk [(0,.sc (.int .u64 seed)),(3,.sc (.int .u64 m)),(5,.ptr 5 0),(6,.ptr 6 0),(8,.ptr 8 0),(9,.sc (.int .i64 0))],Cj [(5,.st [.sc (.int .i64 h)]),(6,.st [.sc (.int .i64 leaf)]),(8,.st [.sc (.int .i64 0),.view 104 1 0 0,.view 152 1 0 0]),(104,.ar false []),(152,.ar false [])]⟩=(
 Ag (call (76:Nat) [PV.sc (Value.int IntKind.u64 seed),PV.sc (Value.int IntKind.i64 leaf),PV.sc (Value.int IntKind.u64 m)]) fun x1 x2=>
 Ac (x2) <|
 Ab (x1) fun x3 x4=>
 D4 ((1:Nat)) (x3) fun x5 x6=>
 Ac (x4) <|
 some (0,⟨lk [(0,(.sc (.int .u64 (seed)))),(3,(.sc (.int .u64 (m)))),(5,(.ptr 5 0)),(6,(.ptr 6 0)),(8,(.ptr 8 0)),(9,(.sc (.int .i64 ((0:Int))))),(10,(.ptr 10 0))],Cj [(5,(.st [(.sc (.int .i64 (h)))])),(6,(.st [(.sc (.int .i64 (leaf)))])),(8,(.st [(.sc (.int .i64 ((0:Int)))),(.view 104 1 0 ((0:Nat))),(.view 152 1 0 ((0:Nat)))])),(104,(.ar false ([]))),(152,(.ar false ([]))),(10,(.st [(.sc (.int .i64 (leaf))),(.view 106 1 0 (x5)),(.view 154 1 0 ((0:Nat)))])),(106,(.ar false (x6))),(154,(.ar false ([])))]⟩)):=by kernel_rfl
theorem Ajj (call:Ah)(h leaf k:Int)(ch:Value)(n m:Nat)(c d:List PV):TQ 48 call (sF (sB (sR (sL (sR (sR (sR PJ))))))) 1024 ⟨lk [(5,.iptr [.sc (.int .i64 h)] 0),(6,.iptr [.sc (.int .i64 leaf)] 0),(10,.ptr 96000 0),(11,.sc (.int .i64 k)),(12,.lst false 1 n c)],Cj [(96000,.st [.sc (.int .i64 leaf),.sc ch,.view 20 1 0 m]),(20,.ar false d)]⟩=(
  A3 (k==h)
   (
   some (1,⟨lk [(10,(.ptr 96000 0))],Cj [(96000,(.st [(.sc (.int .i64 (leaf))),(.sc (ch)),(.view 96144 1 0 (m))])),(96144,(.ar false (d)))]⟩))
   (
   Ap (decide ((0:Int)<=k)) <|
   Aa (Ei IntKind.i64 leaf k) fun x1=>
   Aa (D7 IntKind.i64 x1 (1:Int)) fun x2=>
   Ap (decide ((0:Int)<=x2)&&decide (x2<(↑n:Int))) <|
   Ae (IntKind.u64) (List.getD c (Int.toNat x2*(1:Nat)) PV.top) fun x3=>
   Ap (decide (m*(1:Nat)<=List.length d)&&true&&decide ((m+(1:Nat))*(8:Nat)<=(1099511627776:Nat))&&decide (m+(1:Nat)<=(1099511627776:Nat))) <|
   Aa (m+(1:Nat)) fun x4=>
   Aa (List.take (m*(1:Nat)) d++[PV.sc (Value.int IntKind.u64 x3)]) fun x5=>
   some (0,⟨lk [(10,(.ptr 96000 0))],Cj [(96000,(.st [(.sc (.int .i64 (leaf))),(.sc (ch)),(.view 96144 1 0 (x4))])),(96144,(.ar false (x5)))]⟩))):=by kernel_rfl
theorem Arl (call:Ah)(seed h leaf m:Int)(n:Nat)(c:List PV):Nz CB Tryz.prog 48 call (Nb (sL (sL (sR (sR (sR PJ)))))) (List.take 2 (Nb (sL (sL (sR (sR (sR PJ)))))).toList) ⟨lk [(0,.sc (.int .u64 seed)),(3,.sc (.int .u64 m)),(5,.ptr 5 0),(6,.ptr 6 0),(8,.ptr 8 0),(9,.sc (.int .i64 0)),(10,.ptr 10 0)],Cj [(5,.st [.sc (.int .i64 h)]),(6,.st [.sc (.int .i64 leaf)]),(8,.st [.sc (.int .i64 0),.view 104 1 0 0,.view 152 1 0 0]),(104,.ar false []),(152,.ar false []),(10,.st [.sc (.int .i64 leaf),.view 106 1 0 n,.view 154 1 0 0]),(106,.ar false c),(154,.ar false [])]⟩ (fun s=>Ma 48 402655081 s fun s'=>some (0,s'))=(
 some (0,⟨lk [(0,(.sc (.int .u64 (seed)))),(3,(.sc (.int .u64 (m)))),(5,(.ptr 5 0)),(6,(.ptr 6 0)),(8,(.ptr 8 0)),(9,(.sc (.int .i64 ((0:Int))))),(10,(.ptr 10 0)),(27,(.sc (.int .u64 (seed)))),(28,(.sc (.int .i64 (h))))],Cj [(5,(.st [(.sc (.int .i64 (h)))])),(6,(.st [(.sc (.int .i64 (leaf)))])),(8,(.st [(.sc (.int .i64 ((0:Int)))),(.view 104 1 0 ((0:Nat))),(.view 152 1 0 ((0:Nat)))])),(104,(.ar false ([]))),(152,(.ar false ([]))),(10,(.st [(.sc (.int .i64 (leaf))),(.view 106 1 0 (n)),(.view 154 1 0 ((0:Nat)))])),(106,(.ar false (c))),(154,(.ar false ([])))]⟩)):=by kernel_rfl
theorem Arn (call:Ah)(leaf:Int)(n1 n2:Nat)(c1 c2:List PV):Nz CB Tryz.prog 48 call (Nb (sL (sR (sR (sR (sR PJ)))))) (Nb (sL (sR (sR (sR (sR PJ)))))).toList ⟨lk [(8,.ptr 96000 0),(9,.sc (.int .i64 0)),(10,.iptr [.sc (.int .i64 leaf),.lst false 1 n1 c1,.lst false 1 n2 c2] 0)],Cj [(96000,.st [.top,.top,.top])]⟩ (fun s=>Ma 48 768 s fun s'=>some (0,s'))=(
 some (0,⟨lk [(8,(.ptr 96000 0)),(9,(.sc (.int .i64 ((0:Int)))))],Cj [(96000,(.st [(.sc (.int .i64 (leaf))),(.lst false 1 (n1) (c1)),(.lst false 1 (n2) (c2))]))]⟩)):=by kernel_rfl
theorem Aq6 (a0 a1 a2 a3 leaf:Int)(n1 n2:Nat)(c1 c2:List PV):Ac6 CS Tryz.prog 37 Tryz.f37 [.sc (.int .u64 a0),.sc (.int .i64 a1),.sc (.int .i64 a2),.sc (.int .u64 a3)] ⟨lk [(8,.ptr 96000 0),(9,.sc (.int .i64 0))],Cj [(96000,.st [.sc (.int .i64 leaf),.lst false 1 n1 c1,.lst false 1 n2 c2])]⟩=(
 some (Aw.mk [PV.agg [PV.sc (Value.int IntKind.i64 leaf),PV.lst false (1:Nat) n1 c1,PV.lst false (1:Nat) n2 c2],PV.sc (Value.int IntKind.i64 (0:Int))] [])):=by kernel_rfl
theorem Aqh (call:Ah)(seed h leaf m:Int):An7 CS Tryz.prog 2000 call 37 Tryz.f37 PJ [.sc (.int .u64 seed),.sc (.int .i64 h),.sc (.int .i64 leaf),.sc (.int .u64 m)]=(
  Ag (call (74:Nat) [PV.sc (Value.int IntKind.i64 h)]) fun x1 x2=>
  Ac (x2) <|
  Ab (x1) fun x3 x4=>
  Br (x3) fun x5=>
  Ac (x4) <|
  A3 (x5)
   (
   some (Aw.mk [PV.agg [PV.sc (Value.int IntKind.i64 (0:Int)),PV.lst false (1:Nat) (0:Nat) [],PV.lst false (1:Nat) (0:Nat) []],PV.sc (Value.int IntKind.i64 (9:Int))] []))
   (
   Ag (call (75:Nat) [PV.sc (Value.int IntKind.i64 leaf),PV.sc (Value.int IntKind.i64 h)]) fun x6 x7=>
   Ac (x7) <|
   Ab (x6) fun x8 x9=>
   Br (x8) fun Cm=>
   Ac (x9) <|
   A3 (Cm)
    (
    some (Aw.mk [PV.agg [PV.sc (Value.int IntKind.i64 (0:Int)),PV.lst false (1:Nat) (0:Nat) [],PV.lst false (1:Nat) (0:Nat) []],PV.sc (Value.int IntKind.i64 (9:Int))] []))
    (
    Ag (call (76:Nat) [PV.sc (Value.int IntKind.u64 seed),PV.sc (Value.int IntKind.i64 leaf),PV.sc (Value.int IntKind.u64 m)]) fun Bq Dm=>
    Ac (Dm) <|
    Ab (Bq) fun Ds Cu=>
    Ho ((1:Nat)) (Ds) fun Dw Ea Ef=>
    Ac (Cu) <|
    Ag (call (77:Nat) [PV.sc (Value.int IntKind.u64 seed),PV.sc (Value.int IntKind.i64 h)]) fun Ew Ej=>
    Ac (Ej) <|
    Ab (Ew) fun Fb G9=>
    fnK (Fb) fun Cp=>
    Ac (G9) <|
    none))):=by kernel_rfl
end
section
open Go.IntKind (wrap)
set_option maxRecDepth 20000
open Go Go.RowKit
def G1:Wo:=⟨fun _=>False,fun _=>True,fun _ _ _ _=>trivial⟩
def noX:FuncId->Option (List PV->Option Aw):=fun _=>none
theorem Aq9:Ae6 G1 Tryz.prog (CX noX):=by
 intro f g args res h _;have h':(bif DN.any (Nat.beq f) then none else (none:Option (List PV->Option Aw)))=some g:=h;cases hb:DN.any (Nat.beq f)<;>rw [hb] at h'<;>cases h'
noncomputable abbrev cl:Ah:=Ad (CX noX) Tryz.prog 2000 8
theorem ngT:NoNG Tryz.prog:=by
 have h:(Tryz.prog.funcs.toList.all fun fn=> !(fn.name == "runtime.NumGoroutine"))=true:=by kernel_rfl
 intro f fn hf;have:=List.all_eq_true.1 h fn (Array.mem_toList_iff.2 (Array.mem_of_getElem? hf))
 simpa using this
theorem TV:Tryz.prog.follows .mixedOrders=true:=by kernel_rfl
theorem Dr:∀f args res,cl f args=some res->Dk G1 Tryz.prog f args res:=fun f args res h=>X1 ngT TV Aq9 8 f args res h
theorem Rf (w0:World)(X0:Fm):LR Tryz.prog G1 w0 X0:=⟨ngT,fun _ _=>trivial,fun _ h=>h.elim⟩
def gl (f:Nat->Int)(n i:Nat):List Int:=(List.range i).map f++List.replicate (n-i) 0
theorem Al2 (f:Nat->Int){n i:Nat}(h:i<=n):(gl f n i).length=n:=by simp [gl];omega
theorem Alw (f:Nat->Int){n i:Nat}(h:i<n):(gl f n i).set i (f i)=gl f n (i+1):=by
 unfold gl;rw [List.set_append_right _ _ (by simp),List.length_map,List.length_range,Nat.sub_self,show n-i=(n-(i+1))+1 by omega,List.replicate_succ,List.set_cons_zero,List.range_succ,List.map_append,Zzv]
 rfl
theorem Afg (f:Nat->Int)(n:Nat):gl f n n=(List.range n).map f:=by simp [gl]
theorem Aet (f:Nat->Int)(n:Nat):gl f n 0=List.replicate n 0:=by simp [gl]
abbrev Agk (yv:Value)(h seed:Int)(n:Nat)(m i:Int)(c:List PV):St:=
 ⟨lk [(0,.sc yv),(1,.iptr [.sc (.int .i64 h)] 0),(2,.iptr [.sc (.int .u64 seed)] 0),(4,.view 4 1 0 n),(13,.sc (.int .i64 m)),(14,.sc (.int .i64 i))],Cj [(4,.ar false c)]⟩
abbrev Ahd (yv:Value)(h seed k:Int)(n m:Nat)(p i:Int)(c e:List PV):St:=
 ⟨lk [(0,.sc yv),(1,.iptr [.sc (.int .i64 h)] 0),(2,.iptr [.sc (.int .u64 seed)] 0),(4,.view 4 1 0 n),(6,.sc (.int .i64 k)),(7,.view 7 1 0 m),(40,.sc (.int .i64 p)),(41,.sc (.int .i64 i))],Cj [(4,.ar false c),(7,.ar false e)]⟩
theorem Asm (yv:Value)(h seed:Int){n i:Nat}(hn:n<=1000)(hi:i<n):
  TQ 63 cl (sB (sB (sR (sL (sR DJ))))) 24599 (Agk yv h seed n n i (Af .u64 (gl (fun (j:Nat)=>Ij seed (j:Int)) n i)))=some (0,Agk yv h seed n n ((i+1:Nat):Int) (Af .u64 (gl (fun (j:Nat)=>Ij seed (j:Int)) n (i+1)))):=by
 have pb:cl Mp [.sc (.int .u64 seed),.sc (.int .i64 i)]=_:=Ahc (xs:=noX) (fu:=2000) (d:=1) (by omega) seed i
 have w:wrap .i64 ((i:Int)+1)=((i+1:Nat):Int):=by rw [Ak (by omega) (by omega)];omega
 have L:(Af .u64 (gl (fun (j:Nat)=>Ij seed (j:Int)) n i)).length=n:=by rw [Al,Al2 _ (by omega)]
 have hset:Bo (Af .u64 (gl (fun (j:Nat)=>Ij seed (j:Int)) n i)) [.sc (.int .u64 (Ij seed i))] i=Af .u64 (gl (fun (j:Nat)=>Ij seed (j:Int)) n (i+1)):=by
  rw [Fj (by omega),Kk]
  exact congrArg _ (Alw (fun (j:Nat)=>Ij seed (j:Int)) hi)
 refine (Aj7 cl yv h seed n i n (Af .u64 (gl (fun (j:Nat)=>Ij seed (j:Int)) n i))).trans ?_
 simp (disch:=omega) only [Bx,Hi,Bz,Ck,pb,L,hset,w]
theorem Ate (yv:Value)(h seed:Int)(n:Nat)(c:List PV):
  TQ 63 cl (sB (sB (sR (sL (sR DJ))))) 24599 (Agk yv h seed n n n c)=some (1,Agk yv h seed n n n c):=
 (Aj7 cl yv h seed n n n c).trans (Dv _ _ _ (by omega))
theorem Aaj {yv:Value}{h seed:Int}{n:Nat}(hn:n<=1000):∀(r i nn:Nat),i+r=n->r<nn->∀{w0:World}{X0:Fm}{Y:Nat->Prop}{β:Bt}{a:Act}{w:World}{Q:Exit->Act->World->Prop},
  Cd 63 w0 X0 Y β (Agk yv h seed n n i (Af .u64 (gl (fun (j:Nat)=>Ij seed (j:Int)) n i))) a w ->
  (∀a' w' β',Cd 63 w0 X0 Y β' (Agk yv h seed n n n (Af .u64 (gl (fun (j:Nat)=>Ij seed (j:Int)) n n))) a' w'->Q (.exit 0) a' w')->Code.rounds Tryz.prog (sB (sB (sR (sL (sR DJ))))) Q nn a w
 |_,_,0,_,h=>by omega
 |0,i,nn+1,hi,_=>by
  intro hs hQ;obtain rfl:i=n:=by omega
  rw [rounds_succ];exact Em (Rf _ _) TV Dr hs (Ate yv h seed i _) fun a' w' β' h'=>hQ a' w' β' h'
 |r+1,i,nn+1,hi,hr=>by
  intro hs hQ;rw [rounds_succ];exact Em (Rf _ _) TV Dr hs (Asm yv h seed hn (by omega)) fun a' w' β' h'=>Aaj hn r (i+1) nn (by omega) (by omega) h' hQ
def Ez (seed:Int)(n k:Nat):List Int:=(List.range n).map fun (j:Nat)=>Cf seed k (j:Int)
theorem OH (seed:Int)(n k:Nat):(Ez seed n k).length=n:=by simp [Ez]
theorem S6 (seed:Int){n k j:Nat}(h:j<n):(Ez seed n k)[j]?=some (Cf seed k j):=by simp [Ez,h]
theorem Ath (yv:Value)(h seed:Int){k m i:Nat}(hm:m<=1000)(hk:k<=1000)(hi:i<m):
  TQ 63 cl (sB (sB (sR (sL (sR (sB (sL (sR (sB (sB (sR (sR (sR DJ))))))))))))) 3298534883543 (Ahd yv h seed k (2*m) m m i (Af .u64 (Ez seed (2*m) k)) (Af .u64 (gl (fun (j:Nat)=>Cf seed (k+1) (j:Int)) m i))) =
   some (0,Ahd yv h seed k (2*m) m m ((i+1:Nat):Int) (Af .u64 (Ez seed (2*m) k)) (Af .u64 (gl (fun (j:Nat)=>Cf seed (k+1) (j:Int)) m (i+1)))):=by
 have e1:wrap .i64 ((2:Int)*i)=((2*i:Nat):Int):=by rw [Ak (by omega) (by omega)];omega
 have e2:wrap .i64 (((2*i:Nat):Int)+1)=((2*i+1:Nat):Int):=by rw [Ak (by omega) (by omega)];omega
 have e3:wrap .i64 ((k:Int)+1)=((k+1:Nat):Int):=by rw [Ak (by omega) (by omega)];omega
 have w:wrap .i64 ((i:Int)+1)=((i+1:Nat):Int):=by rw [Ak (by omega) (by omega)];omega
 have a1:(Af .u64 (Ez seed (2*m) k)).getD (2*i) .top=.sc (.int .u64 (Cf seed k ((2*i:Nat):Int))):=Po (S6 seed (by omega))
 have a2:(Af .u64 (Ez seed (2*m) k)).getD (2*i+1) .top=.sc (.int .u64 (Cf seed k ((2*i+1:Nat):Int))):=Po (S6 seed (by omega))
 have pn:cl Mv [.sc (.int .i64 ((k+1:Nat):Int)),.sc (.int .u64 (Cf seed k ((2*i:Nat):Int))),.sc (.int .u64 (Cf seed k ((2*i+1:Nat):Int)))]=some ⟨[.sc (.int .u64 (Cf seed (k+1) (i:Int)))],[]⟩:=by
  have:=GT (xs:=noX) (fu:=2000) (d:=2) (by omega) ((k+1:Nat):Int) (Cf seed k ((2*i:Nat):Int)) (Cf seed k ((2*i+1:Nat):Int))
  rw [show Cf seed (k+1) (i:Int)=M1 ((k+1:Nat):Int) (Cf seed k ((2*i:Nat):Int)) (Cf seed k ((2*i+1:Nat):Int)) by
   rw [Cf];congr 2<;>omega]
  exact this
 have L:(Af .u64 (gl (fun (j:Nat)=>Cf seed (k+1) (j:Int)) m i)).length=m:=by rw [Al,Al2 _ (by omega)]
 have hset:Bo (Af .u64 (gl (fun (j:Nat)=>Cf seed (k+1) (j:Int)) m i)) [.sc (.int .u64 (Cf seed (k+1) (i:Int)))] i=Af .u64 (gl (fun (j:Nat)=>Cf seed (k+1) (j:Int)) m (i+1)):=by
  rw [Fj (by omega),Kk]
  exact congrArg _ (Alw (fun (j:Nat)=>Cf seed (k+1) (j:Int)) hi)
 refine (Al7 cl yv h seed k m i (2*m) m _ _).trans ?_;simp (disch:=omega) only [Bx,Hi,Bz,Ck,e1,e2,e3,a1,a2,pn,L,hset,w]
theorem Asp (yv:Value)(h seed k:Int)(n m:Nat)(c e:List PV):
  TQ 63 cl (sB (sB (sR (sL (sR (sB (sL (sR (sB (sB (sR (sR (sR DJ))))))))))))) 3298534883543 (Ahd yv h seed k n m m m c e)=some (5,Ahd yv h seed k n m m m c e):=
 (Al7 cl yv h seed k m m n m c e).trans (Dv _ _ _ (by omega))
theorem ZH {yv:Value}{h seed:Int}{k m:Nat}(hm:m<=1000)(hk:k<=1000):∀(r i nn:Nat),i+r=m->r<nn->∀{w0:World}{X0:Fm}{Y:Nat->Prop}{β:Bt}{a:Act}{w:World}{Q:Exit->Act->World->Prop},
  Cd 63 w0 X0 Y β (Ahd yv h seed k (2*m) m m i (Af .u64 (Ez seed (2*m) k)) (Af .u64 (gl (fun (j:Nat)=>Cf seed (k+1) (j:Int)) m i))) a w ->
  (∀a' w' β',Cd 63 w0 X0 Y β' (Ahd yv h seed k (2*m) m m m (Af .u64 (Ez seed (2*m) k)) (Af .u64 (gl (fun (j:Nat)=>Cf seed (k+1) (j:Int)) m m))) a' w'->Q (.exit 4) a' w') ->
  Code.rounds Tryz.prog (sB (sB (sR (sL (sR (sB (sL (sR (sB (sB (sR (sR (sR DJ))))))))))))) Q nn a w
 |_,_,0,_,h=>by omega
 |0,i,nn+1,hi,_=>by
  intro hs hQ;obtain rfl:i=m:=by omega
  rw [rounds_succ];exact Em (Rf _ _) TV Dr hs (Asp yv h seed k (2*i) i _ _) fun a' w' β' h'=>hQ a' w' β' h'
 |r+1,i,nn+1,hi,hr=>by
  intro hs hQ;rw [rounds_succ];exact Em (Rf _ _) TV Dr hs (Ath yv h seed hm hk (by omega)) fun a' w' β' h'=>ZH hm hk r (i+1) nn (by omega) (by omega) h' hQ
end
section
open Go.IntKind (wrap)
set_option maxRecDepth 20000
open Go Go.RowKit
noncomputable abbrev QN:Code:=sB (sB (sR (sR (sR DJ))))
noncomputable abbrev lvX:Code:=sB (sL (sR QN))
theorem Aq1:QN=.seq (.seq (.region 7 (Nb (sL (sL QN))) false) (sR (sL QN))) (.seq (.block 3 lvX) (sR (sR QN))):=by kernel_rfl
theorem Arr:lvX=.seq (sL lvX) (.seq (.seq (sL (sL (sR lvX))) (.block 4 (.loop (sB (sB (sR (sL (sR lvX)))))))) (sR (sR lvX))):=by kernel_rfl
theorem Arv:DJ=.seq (sL DJ) (.seq (.seq (sL (sL (sR DJ))) (.block 0 (.loop (sB (sB (sR (sL (sR DJ)))))))) (.seq (sL (sR (sR DJ))) (.block 2 (.loop QN)))):=by kernel_rfl
theorem EG {F:Fence}{n:Nat}{P:Program}{c c':Code}{Q:Exit->Act->World->Prop}{a:Act}{w:World}(e:c=c')(h:c'.wpIn F n P Q a w):c.wpIn F n P Q a w:=e ▸ h
abbrev lvS (yv:Value)(h seed:Int)(n:Nat)(k:Int)(c:List PV):St:=
 ⟨lk [(0,.sc yv),(1,.iptr [.sc (.int .i64 h)] 0),(2,.iptr [.sc (.int .u64 seed)] 0),(4,.view 4 1 0 n),(6,.sc (.int .i64 k))],Cj [(4,.ar false c)]⟩
abbrev XK (yv:Value)(h seed:Int)(n:Nat)(k:Int)(c:List PV):St:=
 ⟨lk [(0,.sc yv),(1,.iptr [.sc (.int .i64 h)] 0),(2,.iptr [.sc (.int .u64 seed)] 0),(4,.view 4 1 0 n),(6,.sc (.int .i64 k)),(24,.sc yv),(25,.sc (.int .i64 k)),(26,.view 4 1 0 n)],Cj [(4,.ar false c)]⟩
abbrev Asz (yv:Value)(h seed:Int)(n:Nat)(k:Int)(c:List PV)(b:Bool):St:=
 ⟨lk [(0,.sc yv),(1,.iptr [.sc (.int .i64 h)] 0),(2,.iptr [.sc (.int .u64 seed)] 0),(4,.view 4 1 0 n),(6,.sc (.int .i64 k)),(27,.sc (.bool b))],Cj [(4,.ar false c)]⟩
def lvM (seed:Int)(h:Nat)(pre:List Nat)(k:Nat)(args:Array Value)(Z:Nat->Prop)(A:World):Prop:=
 k<=h∧pre=List.range k∧∃b o cap,args = #[.int .i64 k,.slice (some ⟨b,o,none⟩) (2 ^ (h-k):Nat) cap]∧2 ^ (h-k)<=cap∧b<A.heap.size∧¬Z b∧∀j,j<2 ^ (h-k)->A.cell? ⟨b,o+j,none⟩=some (.int .u64 (Cf seed k j))
theorem Akk {seed:Int}{h:Nat}{pre:List Nat}{k:Nat}{args:Array Value}{Z:Nat->Prop}{A B:World}(hm:lvM seed h pre k args Z A)(hs:A.heap.size<=B.heap.size)(hk:∀b,b<A.heap.size->¬Z b->B.heap[b]?=A.heap[b]?):lvM seed h pre k args Z B:=by
 obtain ⟨h0,hpr,b,o,cap,h1,h2,h3,h4,h5⟩:=hm;exact ⟨h0,hpr,b,o,cap,h1,h2,by omega,h4,fun j hj=>(World.cell?_of_block (a:=⟨b,o+j,none⟩) (hk b h3 h4)).trans (h5 j hj)⟩
theorem Ajq {seed:Int}{h:Nat}{pre:List Nat}{k:Nat}{args:Array Value}{Z:Nat->Prop}{A:World}(hm:lvM seed h pre k args Z A):args.size=2:=by
 obtain ⟨h0,_,b,o,cap,h1,_⟩:=hm;rw [h1];rfl
theorem Asx:∃ty pos aft x,(Nb (sL (sL QN)))[3]?=some { dst:=some 27,op:=.call { callee:=.value (.tmp 24),args:= #[.tmp 25,.tmp 26],argTypes:=x },type:=ty,pos:=pos,after:=aft,guard:=none }:=
 ⟨_,_,_,_,rfl⟩
theorem Mr {k:IntKind}{l:List Int}{i:Nat}{n:Int}(h:l[i]?=some n):(Af k l)[i]?=some (.sc (.int k n)):=by
 have h1:=Po (k:=k) h;have hlt:i<(Af k l).length:=by rw [Al];exact (List.getElem?_eq_some_iff.1 h).1
 rw [List.getD_eq_getElem?_getD,List.getElem?_eq_getElem hlt] at h1;rw [List.getElem?_eq_getElem hlt];exact congrArg some h1
section
variable {seed:Int} {h l:Nat} {w0:World} {X0:Fm} {Z:Nat->Prop} {β:Bt} {a:Act} {w:World}
theorem Ank {yv:Value}{k n:Nat}{c:List PV}{hi:Int}(hs:Cd 63 w0 X0 Z β (XK yv hi seed n k c) a w) (hn:0<n):
  a.tmps.getD 24 undef=yv∧a.tmps.getD 25 undef=.int .i64 k∧∃b o cap,β 4=some (b,o)∧a.tmps.getD 26 undef=.slice (some ⟨b,o,none⟩) n cap∧n<=cap∧b<w.heap.size∧SG w (Da (Cj [(4,.ar false c)]) β Z) ⟨b,o,none⟩ c:=by
 have h24:=hs.tms 24 (by decide)
 have h25:=hs.tms 25 (by decide)
 have h26:=hs.tms 26 (by decide)
 have hb:=hs.box 4 _ (rfl:_=some (B7.ar false c));refine ⟨(Qi h24),(Qi h25),?_⟩;rcases (show Cq w (Da (Cj [(4,.ar false c)]) β Z) β (.view 4 1 0 n) (a.tmps.getD 26 undef) from h26) with ⟨_,_,h3,_⟩|⟨b,o,x,cap,h1,h2,h3,h4,h5,h6⟩
 ·omega
 ·rcases hb with ⟨h7,_⟩|⟨b',o',h7,h8,_⟩
  ·rw [h1] at h7;cases h7
  ·rw [h1] at h7;cases h7;have hx:x=o:=by omega
   subst hx;exact ⟨b,x,cap,h1,h2,h4,h6,h8⟩
abbrev As3 (yv:Value)(h seed:Int)(n:Nat)(k:Int)(c:List PV)(q:Bool):St:=
 ⟨lk [(0,.sc yv),(1,.iptr [.sc (.int .i64 h)] 0),(2,.iptr [.sc (.int .u64 seed)] 0),(4,.view 4 1 0 n),(6,.sc (.int .i64 k)),(32,.sc (.bool q))],Cj [(4,.ar false c)]⟩
theorem Ad8 {yv:Value}{hi seed:Int}{n:Nat}{k:Int}{c:List PV}:∀id cc,(XK yv hi seed n k c).hp id≠some (.st cc):=by
 intro id cc e;rcases S5 [(4,B7.ar false c)] id with h1|⟨q,hq,h1,h2⟩
 ·rw [show (XK yv hi seed n k c).hp id=Cj [(4,B7.ar false c)] id from rfl,h1] at e;cases e
 ·simp at hq;subst hq;rw [show (XK yv hi seed n k c).hp id=Cj [(4,B7.ar false c)] id from rfl,h2] at e
  cases e
theorem Anl {hi:Int}{yv:Value}{n:Nat}{k:Int}{c:List PV}{Z':Nat->Prop}{B:World}(b:Bool)(hs:Cd 63 w0 X0 Z β (XK yv hi seed n k c) a w) (ht:QD Z Z' w B):
  Cd 63 B (Ao4 (XK yv hi seed n k c) β) Z' β (Asz yv hi seed n k c b) (a.put (some 27) (.bool b)) B:=by
 have h1:=(hs.rebase ht Ad8).put (d:=some 27) (v:=.sc (.bool b)) (val:=.bool b) rfl (Be.sc _) (by simp [Cc,Cs,A4])
 refine h1.pick _ _ ?_ ?_ ?_ ?_ (fun _ h=>h.elim)
 ·intro q hq;simp only [List.mem_cons,List.not_mem_nil,or_false] at hq;rcases hq with rfl|rfl|rfl|rfl|rfl|rfl<;>rfl
 ·intro q hq;simp only [List.mem_cons,List.not_mem_nil,or_false] at hq;rcases hq with rfl<;>rfl
 ·intro q hq id hid;simp only [List.mem_cons,List.not_mem_nil,or_false] at hq;rcases hq with rfl|rfl|rfl|rfl|rfl|rfl<;>simp [Cc,Cs,A4] at hid
  subst hid;simp [Cj]
 ·intro q hq cells e;simp only [List.mem_cons,List.not_mem_nil,or_false] at hq;rcases hq with rfl;cases e
theorem An0 (hh:h<=4){J Jx:(Nat->Prop)->List Nat->World->Prop} (hJ:∀Z pre A B,J Z pre A->Z4 Z A B->J Z pre B)(hJx:∀Z pre A B,Jx Z pre A->Z4 Z A B->Jx Z pre B)
  (hY:∀Z pre x args A,J Z pre A->lvM seed h pre x args Z A->YieldAt Fence.wide 0 Tryz.prog l args A fun e B=>∃Z',QD Z Z' A B∧((e=.returned (.bool true)∧J Z' (pre++[x]) B)∨(e=.returned (.bool false)∧Jx Z' (pre++[x]) B)))
  {k r:Nat} (hk:k+r=h) (hs:Cd 63 w0 X0 Z β (lvS (.func (.yield l) #[] #[]) h seed (2 ^ r) k (Af .u64 (Ez seed (2 ^ r) k))) a w) (hd:∀b,Z b->¬X0.X b) (hj:J Z (List.range k) w0) {Q:Exit->Act->World->Prop}
  (hgo:k<h->∀w2 X2 Z' β' a' w',Cd 63 w2 X2 Z' β' (lvS (.func (.yield l) #[] #[]) h seed (2 ^ r) k (Af .u64 (Ez seed (2 ^ r) k))) a' w'->(∀b,Z' b->¬X2.X b)->J Z' (List.range (k+1)) w2->Q .normal a' w')
  (hend:∀a' w',a'.defers=[]->(∃Z xs,(xs=List.range (h+1)∧J Z xs w')∨((∃k,xs=List.range (k+1))∧Jx Z xs w'))->Q (.exit 2) a' w'):
  (Code.seq (.region 7 (Nb (sL (sL QN))) false) (sR (sL QN))).wpIn Fence.wide 0 Tryz.prog Q a w:=by
 have hp:0<2 ^ r:=Nat.pos_of_ne_zero (by simp)
 refine wpIn_seq (wpIn_region ?_);have hl:List.range (Nb (sL (sL QN))).size=[0,1,2]++[3,4,5,6,7,8]:=by kernel_rfl
 rw [hl];refine M5 (ro:=none) (C:=CB) (call:=cl) (r:=((0:Nat),XK (.func (.yield l) #[] #[]) h seed (2 ^ r) k (Af .u64 (Ez seed (2 ^ r) k)))) (Rf _ _) Dr ?_ [0,1,2] (List.take 3 (Nb (sL (sL QN))).toList) (by kernel_rfl) ?_ (by kernel_rfl) hs (Aqx cl _ h seed k (2 ^ r) _)
 rotate_left
 ·intro j i hj
  match j,hj with
  |0,hj=>cases hj;rfl
  |1,hj=>cases hj;rfl
  |2,hj=>cases hj;rfl
 intro s' a1 w1 β1 hk1 hs1;obtain ⟨β2,s2,hk2,hs2⟩:=Dz hs1 hk1;cases hk2;obtain ⟨v24,v25,b,o,cap,hb,v26,hcap,hbl,hrd⟩:=Ank hs2 hp;have hjw:J Z (List.range k) w1:=hJ Z _ _ _ hj (hs2.stay hd);have hkr:h-k=r:=by omega
 have hm:lvM seed h (List.range k) k #[.int .i64 k,.slice (some ⟨b,o,none⟩) (2 ^ r:Nat) cap] Z w1:=by
  refine ⟨by omega,rfl,b,o,cap,by rw [hkr],by rw [hkr];exact hcap,hbl,fun hz=>hs2.Yx b hz ⟨4,o,by trivial,hb⟩,fun j hj=>?_⟩
  rw [hkr] at hj;obtain ⟨v,hv,_,hv2⟩:=hrd j (.sc (.int .u64 (Cf seed k j))) (Mr (S6 seed hj));rw [Eh] at hv;rw [hv,Be.val hv2]
 obtain ⟨fn,tmps,assign,body,hy,hR⟩:=hY Z _ k _ w1 hjw hm;obtain ⟨ty,pos,aft,x,ho⟩:=Asx;rw [wpOpsIn_cons];unfold wpOpIn;rw [ho];simp only [Region.wanted,if_true]
 have run:(execOp a1.eval { dst:=some 27,op:=.call { callee:=.value (.tmp 24),args:= #[.tmp 25,.tmp 26],argTypes:=x },type:=ty,pos:=pos,after:=aft,guard:=none }).run Tryz.prog w1=.ok (.round l fn tmps assign body) w1:=by
  have e24:a1.eval (.tmp 24)=.func (.yield l) #[] #[]:=v24;have e25:a1.eval (.tmp 25)=.int .i64 k:=v25;have e26:a1.eval (.tmp 26)=.slice (some ⟨b,o,none⟩) (2 ^ r:Nat) cap:=v26;refine Ahj rfl rfl e24 ?_;rw [←hy];simp only [List.map_toArray,Zzw,List.map_nil,e25,e26]
 refine ⟨fun _ _=>trivial,?_⟩
 rw [show Oper.semAt (WF none).round a1.eval { dst:=some 27,op:=.call { callee:=.value (.tmp 24),args:= #[.tmp 25,.tmp 26],argTypes:=x },type:=ty,pos:=pos,after:=aft,guard:=none }=execOp a1.eval { dst:=some 27,op:=.call { callee:=.value (.tmp 24),args:= #[.tmp 25,.tmp 26],argTypes:=x },type:=ty,pos:=pos,after:=aft,guard:=none } from rfl,run]
 refine ⟨(fun h=>by cases h),(Aba hR).mono ?_⟩
 have rest:∀(e:Bool) (B:World) (Z':Nat->Prop) (q:Bool),QD Z Z' w1 B->(Nz CB Tryz.prog 63 cl (Nb (sL (sL QN))) (List.drop 4 (Nb (sL (sL QN))).toList) (Asz (.func (.yield l) #[] #[]) h seed (2 ^ r) k (Af .u64 (Ez seed (2 ^ r) k)) e) (fun s=>Ma 63 4294967383 s fun s'=>some (0,s'))=some ((0:Nat),As3 (.func (.yield l) #[] #[]) h seed (2 ^ r) k (Af .u64 (Ez seed (2 ^ r) k)) q)) ->
   (∀a' w' β',Cd 63 B (Ao4 (XK (.func (.yield l) #[] #[]) h seed (2 ^ r) k (Af .u64 (Ez seed (2 ^ r) k))) β2) Z' β' (lvS (.func (.yield l) #[] #[]) h seed (2 ^ r) k (Af .u64 (Ez seed (2 ^ r) k))) a' w'->if q=true then Q .normal a' w' else Q (.exit 2) a' w') ->
   wpOpsIn (WF none) 0 Tryz.prog (Nb (sL (sL QN))) (Exit.then ((sR (sL QN)).wpIn Fence.wide 0 Tryz.prog Q) Q) [4,5,6,7,8] (a1.put (some 27) (.bool e)) B:=by
  intro e B Z' q ht heq hq;have h4:=Anl e hs2 ht;show wpOpsIn _ _ _ _ _ ([4,5,6,7,8]++[]) _ _;refine M5 (ro:=none) (C:=CB) (call:=cl) (Rf _ _) Dr ?_ [4,5,6,7,8] (List.drop 4 (Nb (sL (sL QN))).toList) (by kernel_rfl) ?_ (by kernel_rfl) h4 heq
  rotate_left
  ·intro j i hj
   match j,hj with
   |0,hj=>cases hj;rfl
   |1,hj=>cases hj;rfl
   |2,hj=>cases hj;rfl
   |3,hj=>cases hj;rfl
   |4,hj=>cases hj;rfl
  intro s' a5 w5 β5 hk5 hs5;obtain ⟨β6,s6,hk6,hs6⟩:=Dz hs5 hk5;cases hk6;show (sR (sL QN)).wpIn Fence.wide 0 Tryz.prog Q a5 w5;cases q
  ·exact wpIn_wide.2 (Em (Rf _ _) TV Dr hs6 ((Am5 cl _ h seed k (2 ^ r) _ false).trans rfl) fun a' w' β' h'=>hq a' w' β' h')
  ·exact wpIn_wide.2 (Em (Rf _ _) TV Dr hs6 ((Am5 cl _ h seed k (2 ^ r) _ true).trans rfl) fun a' w' β' h'=>hq a' w' β' h')
 have hown:∀{B:World} {Z':Nat->Prop} {β':Bt} {s':St} {a':Act} {w':World},QD Z Z' w1 B->∀b,Z' b->¬(Ao4 (XK (.func (.yield l) #[] #[]) h seed (2 ^ r) k (Af .u64 (Ez seed (2 ^ r) k))) β2).X b:=by
  intro B Z' _ _ _ _ ht b hz;exact (hs2.rebase ht Ad8).Yx b hz
 have er:List.range k++[k]=List.range (k+1):=(List.range_succ).symm
 rintro e B ⟨Z',ht,(⟨rfl,hj2⟩|⟨rfl,hj2⟩)⟩
 ·rw [er] at hj2;refine rest true B Z' (decide ((k:Int)<(h:Int))) ht (Ani cl _ h seed k (2 ^ r) _) fun a' w' β' h'=>?_
  have hdd:=hown (β':=β) (s':=s') (a':=a) (w':=w) ht;by_cases hlt:k<h
  ·rw [Bv (by simp;omega)]
   exact hgo hlt B _ Z' β' a' w' h' hdd hj2
  ·rw [Az (by simp;omega)]
   exact hend a' w' h'.dfr ⟨Z',List.range (k+1),.inl ⟨by rw [show k=h by omega],hJ Z' _ _ _ hj2 (h'.stay hdd)⟩⟩
 ·refine rest false B Z' false ht (An2 cl _ h seed k (2 ^ r) _) fun a' w' β' h'=>?_
  have hdd:=hown (β':=β) (s':=s') (a':=a) (w':=w) ht;rw [Az (by simp)]
  exact hend a' w' h'.dfr ⟨Z',_,.inr ⟨⟨k,er⟩,hJx Z' _ _ _ hj2 (h'.stay hdd)⟩⟩
theorem TF (hh:h<=4){J Jx:(Nat->Prop)->List Nat->World->Prop} (hJ:∀Z pre A B,J Z pre A->Z4 Z A B->J Z pre B)(hJx:∀Z pre A B,Jx Z pre A->Z4 Z A B->Jx Z pre B)
  (hY:∀Z pre x args A,J Z pre A->lvM seed h pre x args Z A->YieldAt Fence.wide 0 Tryz.prog l args A fun e B=>∃Z',QD Z Z' A B∧((e=.returned (.bool true)∧J Z' (pre++[x]) B)∨(e=.returned (.bool false)∧Jx Z' (pre++[x]) B)))
  {Q:Exit->Act->World->Prop} (hend:∀a' w',a'.defers=[]->(∃Z xs,(xs=List.range (h+1)∧J Z xs w')∨((∃k,xs=List.range (k+1))∧Jx Z xs w'))->Q (.exit 2) a' w'):
  ∀(r k nn:Nat),k+r=h->r<nn->∀{w0:World} {X0:Fm} {Z:Nat->Prop} {β:Bt} {a:Act} {w:World},
   Cd 63 w0 X0 Z β (lvS (.func (.yield l) #[] #[]) h seed (2 ^ r:Nat) k (Af .u64 (Ez seed (2 ^ r) k))) a w->(∀b,Z b->¬X0.X b)->J Z (List.range k) w0->Code.roundsIn Fence.wide 0 Tryz.prog QN Q nn a w
 |_,_,0,_,h=>by omega
 |r,k,nn+1,hk,hr=>by
  intro hs hd hj;rw [roundsIn_succ];refine EG Aq1 (wpIn_seq (An0 hh hJ hJx hY hk hs hd hj ?_ fun a' w' h1 h2=>hend a' w' h1 h2))
  intro hlt w2 X2 Z' β' a' w' hs2 hd2 hj2
  match r,hk,hr,hs2 with
  |0,hk,hr,hs2=>omega
  |r+1,hk,hr,hs2=>
   have hp:2 ^ (r+1)=2*2 ^ r:=by rw [Nat.pow_succ];omega
   have hle:2 ^ r<=8:=by
    have:2 ^ r<=2 ^ 3:=Nat.pow_le_pow_right (by omega) (by omega)
    omega
   rw [hp] at hs2;show (Code.seq (.block 3 lvX) (sR (sR QN))).wpIn Fence.wide 0 Tryz.prog _ a' w';refine wpIn_seq (wpIn_block (EG Arr (wpIn_seq (wpIn_wide.2 (Em (Rf _ _) TV Dr hs2 (L:=215) (t:=0) (s1:=⟨lk [(0,.sc (.func (.yield l) #[] #[])),(1,.iptr [.sc (.int .i64 h)] 0),(2,.iptr [.sc (.int .u64 seed)] 0),(4,.view 4 1 0 (2*2 ^ r)),(6,.sc (.int .i64 k)),(7,.view 7 1 0 (2 ^ r))],Cj [(4,.ar false (Af .u64 (Ez seed (2*2 ^ r) k))),(7,.ar false (Af .u64 (List.replicate (2 ^ r) 0)))]⟩) ?_ ?_)))))
   ·have w2:wrap .i64 (Int.tdiv ((2*2 ^ r:Nat):Int) 2)=((2 ^ r:Nat):Int):=by
     rw [Int.tdiv_eq_ediv_of_nonneg (by omega),Ak (by omega) (by omega)];omega
    refine (Ap0 cl _ h seed k (2*2 ^ r) _).trans ?_;simp (disch:=omega) only [Bx,Hi,w2,OK]
   intro a3 w3 β3 hs3;refine wpIn_seq (wpIn_seq (wpIn_wide.2 (Em (Rf _ _) TV Dr hs3 (Ard cl _ h seed k _ _ _ _) ?_)));intro a4 w4 β4 hs4;refine wpIn_block (wpIn_wide.2 (wp_loop_rounds 1000 (ZH (k:=k) (m:=2 ^ r) (by omega) (by omega) (2 ^ r) 0 1000 (by omega) (by omega) (by rw [Aet];exact hs4) ?_)))
   intro a5 w5 β5 hs5;show (sR (sR lvX)).wpIn Fence.wide 0 Tryz.prog _ a5 w5;refine wpIn_wide.2 (Em (Rf _ _) TV Dr hs5 (Aq7 cl _ h seed k _ _ _ _ _ _) ?_);intro a6 w6 β6 hs6;show (sR (sR QN)).wpIn Fence.wide 0 Tryz.prog _ a6 w6;refine wpIn_wide.2 (Em (Rf _ _) TV Dr hs6 (L:=87) (t:=0) (s1:=lvS (.func (.yield l) #[] #[]) h seed (2 ^ r:Nat) ((k+1:Nat):Int) (Af .u64 (Ez seed (2 ^ r) (k+1)))) ?_ ?_)
   ·have w1:wrap .i64 ((k:Int)+1)=((k+1:Nat):Int):=by rw [Ak (by omega) (by omega)];omega
    refine (Ap8 cl _ h seed k _ _).trans ?_;simp only [Bx,w1];rw [Afg];rfl
   intro a7 w7 β7 hs7;exact TF hh hJ hJx hY hend r (k+1) nn (by omega) (by omega) hs7 hd2 hj2
end
end
section
open Go.IntKind (wrap)
set_option maxRecDepth 20000
open Go Go.RowKit
def noL:Fm:={ X:=fun _=>False,L:=fun _ _=>False,pn:=fun _=>False,pt:=fun _=>none,p8:=fun _ h=>h.elim }
theorem Cd.init {N:Nat}{W:World}{Z0:Nat->Prop}(l:List (Nat × PV)) (a:Act)(hd:a.defers=[]) (hsz:a.tmps.size=N)(hlt:∀q∈l,q.1<N)(hv:∀q∈l,D9 W Z0 (fun _=>none) q.2 (a.tmps.getD q.1 undef)) (hr:∀q∈l,Cc q.2=[]) (hZ:∀b,Z0 b->b<W.heap.size):
  Cd N W noL Z0 (fun _=>none) ⟨lk l,Cj []⟩ a W:=by
 have hA:∀b,b<W.heap.size->Da (Cj []) (fun _=>none) Z0 b->Z0 b:=fun b _ hb=>hb.elim (fun ⟨_,_,h,_⟩=>(h:Ct none).elim) id
 have hst:Co Z0 W W:=⟨Nat.le_refl _,fun _ _ _=>rfl,fun _ _=>Nat.le_refl _⟩
 refine ⟨hd,hsz,fun i hi=>?_,fun i hi=>?_,fun id bx e=>(by cases e),fun id id' b o o' h=>(h:Ct none).elim,fun id b o h=>(h rfl).elim,fun i hi id hid=>?_,fun id c e=>(by cases e),fun b ⟨_,_,h,_⟩=>(h:Ct none).elim,fun id bx b o e=>(by cases e),
  fun i hi=>hi.elim,fun id c b o e=>(by cases e),fun b hz ⟨_,_,h,_⟩=>(h:Ct none).elim,hZ,⟨rfl,rfl,rfl,⟨Nat.le_refl _,fun _ _ _=>rfl,fun _ _=>Nat.le_refl _⟩,fun _ _ _ _=>⟨rfl,rfl⟩⟩⟩
 ·rcases Pf l i with e|⟨q,hq,h1,h2⟩
  ·exact e
  ·have:=hlt q hq;omega
 ·show D9 W (Da (Cj []) (fun _=>none) Z0) (fun _=>none) (lk l i) _
  rcases Pf l i with e|⟨q,hq,h1,h2⟩
  ·rw [e];exact Be.top _
  ·rw [h2,←h1];exact (hv q hq).step hst hA fun _ _=>rfl
 ·rcases Pf l i with e|⟨q,hq,h1,h2⟩
  ·rw [show (St.mk (lk l) (Cj [])).tm i=lk l i from rfl,e] at hid;simp [Cc,Cs,A4] at hid
  ·rw [show (St.mk (lk l) (Cj [])).tm i=lk l i from rfl,h2,hr q hq] at hid;cases hid
def Ao9 (seed:Int)(h Bh Bs:Nat)(Z0:Nat->Prop)(W:World):Prop:=
 W.cell? ⟨Bh,0,none⟩=some (.int .i64 h)∧W.cell? ⟨Bs,0,none⟩=some (.int .u64 seed)∧Bh<W.heap.size∧Bs<W.heap.size∧¬Z0 Bh∧¬Z0 Bs
theorem Ao8 {h:Nat}(hh:h<=4):Fp .i64 1 (h:Int)=((2 ^ h:Nat):Int):=by
 have:h=0∨h=1∨h=2∨h=3∨h=4:=by omega
 rcases this with rfl|rfl|rfl|rfl|rfl<;>decide
theorem Ao0 {seed:Int}{h Bh Bs:Nat}{Z0:Nat->Prop}{W:World}{yv:Value}(hP:Ao9 seed h Bh Bs Z0 W)(hZ:∀b,Z0 b->b<W.heap.size):
  Cd 63 W noL Z0 (fun _=>none) ⟨lk [(0,.sc yv),(1,.iptr [.sc (.int .i64 h)] 0),(2,.iptr [.sc (.int .u64 seed)] 0)],Cj []⟩ { tmps:=(yv::Value.pointer (some ⟨Bh,0,none⟩)::Value.pointer (some ⟨Bs,0,none⟩)::List.replicate 60 undef).toArray,defers:=[] } W:=by
 obtain ⟨p1,p2,p3,p4,p5,p6⟩:=hP;refine Cd.init _ _ rfl (by simp) ?_ ?_ ?_ hZ
 ·intro q hq;simp only [List.mem_cons,List.not_mem_nil,or_false] at hq;rcases hq with rfl|rfl|rfl<;>simp
 ·intro q hq;simp only [List.mem_cons,List.not_mem_nil,or_false] at hq;rcases hq with rfl|rfl|rfl
  ·exact Be.sc _
  ·refine ⟨⟨Bh,0,none⟩,rfl,rfl,p3,p5,fun j c hj=>?_⟩
   match j,hj with
   |0,hj=>cases hj;exact ⟨_,p1,rfl,Be.sc _⟩
  ·refine ⟨⟨Bs,0,none⟩,rfl,rfl,p4,p6,fun j c hj=>?_⟩
   match j,hj with
   |0,hj=>cases hj;exact ⟨_,p2,rfl,Be.sc _⟩
 ·intro q hq;simp only [List.mem_cons,List.not_mem_nil,or_false] at hq;rcases hq with rfl|rfl|rfl<;>rfl
theorem Ang {seed:Int}{h Bh Bs:Nat}(hh:h<=4):Ao6 Tryz.prog 107 #[.pointer (some ⟨Bh,0,none⟩),.pointer (some ⟨Bs,0,none⟩)] (lvM seed h) (fun xs=>xs=List.range (h+1)) (fun xs=>∃k,xs=List.range (k+1)) (Ao9 seed h Bh Bs):=by
 intro l J Jx W Z0 hZ hP hJ hJx hY h0;obtain ⟨p1,p2,p3,p4,p5,p6⟩:=hP;refine callsIn_wide.1 (callsIn_of_wp (F:=Fence.wide) (n:=0) Tryz.func107 rfl trivial ?_ rfl);show DJ.wpIn _ _ _ _ _ _;have t1:(({ tmps:=(#[Value.func (.yield l) #[] #[]] ++ #[Value.pointer (some ⟨Bh,0,none⟩),Value.pointer (some ⟨Bs,0,none⟩)])++Array.replicate (Tryz.f107.ntmps-(#[Value.func (.yield l) #[] #[]] ++ #[Value.pointer (some ⟨Bh,0,none⟩),Value.pointer (some ⟨Bs,0,none⟩)]).size) undef,defers:=[] }:Act))={ tmps:=(Value.func (.yield l) #[] #[]::Value.pointer (some ⟨Bh,0,none⟩)::Value.pointer (some ⟨Bs,0,none⟩)::List.replicate 60 undef).toArray,defers:=[] }:=by kernel_rfl
 rw [t1];have i0:=Ao0 (seed:=seed) (h:=h) (Z0:=Z0) (yv:=.func (.yield l) #[] #[]) ⟨p1,p2,p3,p4,p5,p6⟩ hZ;generalize ({ tmps:=(Value.func (.yield l) #[] #[]::Value.pointer (some ⟨Bh,0,none⟩)::Value.pointer (some ⟨Bs,0,none⟩)::List.replicate 60 undef).toArray,defers:=[] }:Act)=a0 at i0 ⊢
 have hle:2 ^ h<=16:=by
  have:2 ^ h<=2 ^ 4:=Nat.pow_le_pow_right (by omega) hh
  omega
 refine EG Arv (wpIn_seq (wpIn_wide.2 (Em (Rf _ _) TV Dr i0 (L:=23) (t:=0)
  (s1:=⟨lk [(0,.sc (.func (.yield l) #[] #[])),(1,.iptr [.sc (.int .i64 h)] 0),(2,.iptr [.sc (.int .u64 seed)] 0),(4,.view 4 1 0 (2 ^ h))],Cj [(4,.ar false (Af .u64 (List.replicate (2 ^ h) 0)))]⟩) ?_ ?_)))
 ·refine (Aq5 cl _ h seed).trans ?_;have e1:=Ao8 hh;have e2:(0:Int)<=h:=by omega
  generalize 2 ^ h=n at hle e1 ⊢;simp (disch:=omega) only [Bx,e1,Hi,OK]
 intro a1 w1 β1 h1;refine wpIn_seq (wpIn_seq (wpIn_wide.2 (Em (Rf _ _) TV Dr h1 (Aqw cl _ h seed _ _) ?_)));intro a2 w2 β2 h2;refine wpIn_block (wpIn_wide.2 (wp_loop_rounds 1000 (Aaj (n:=2 ^ h) (by omega) (2 ^ h) 0 1000 (by omega) (by omega) (by rw [Aet];exact h2) ?_)))
 intro a3 w3 β3 h3;show (Code.seq (sL (sR (sR DJ))) (.block 2 (.loop QN))).wpIn Fence.wide 0 Tryz.prog _ a3 w3;refine wpIn_seq (wpIn_wide.2 (Em (Rf _ _) TV Dr h3 (L:=87) (t:=0) (s1:=lvS (.func (.yield l) #[] #[]) h seed (2 ^ h:Nat) ((0:Nat):Int) (Af .u64 (Ez seed (2 ^ h) 0))) ?_ ?_))
 ·refine (Arj cl _ h seed _ _ _ _).trans ?_;rw [Afg];rfl
 intro a4 w4 β4 h4;refine wpIn_block (wpIn_loop_rounds 1000 (TF hh hJ hJx hY ?_ h 0 1000 (by omega) (by omega) h4 (fun b _ hb=>hb) h0))
 intro a5 w5 h5 h6;exact ⟨h5,_,results_none rfl _ _ _,⟨_,rfl⟩,h6⟩
end
end Go.Proofs.YtdjihiphpgkfmaaGreatDoor.Pv
