/-
  The proof of CertificateSigns, part 6.
-/
import Derived.Test.YtdjihiphpgkfmaaGreatDoorGE
import Derived.Test.YtdjihiphpgkfmaaGreatDoorRows
import Derived.RangeFuncNested
import Derived.RangeFuncLeaves
import Derived.WalkKit
import Derived.LoopNIn
import Derived.OrdersIn
import Derived.Shelf.Abstract
import Derived.OwnWalkIn
import Derived.TacticsInMore
import Derived.Lib.BytesEntry
import Derived.Lib.Bytealg
import Derived.Lib.Walk
import Derived.WalkMore
import Derived.Shelf.Unicode.ValidAny
import Derived.Lib.LaidU8T
set_option linter.unusedSimpArgs false
set_option linter.unusedVariables false
namespace Go.Proofs.YtdjihiphpgkfmaaGreatDoor.Pv
section
open Go.IntKind (wrap)
set_option maxRecDepth 1000000
def Ce.cells0 (c:Ce):List PV:=[.sc (.string c.subj),.sc (.string c.iss),.sc (.int .u64 c.serial),.sc (.int .i64 c.key.h),.sc (.int .u64 c.key.root),.sc (.int .i64 c.fr),.sc (.int .i64 c.un),.sc (.bool c.auth),.sc (.int .i64 c.path),.sc (.int .u64 c.model),.sc (.int .i64 0),.own 1 0 [],.own 1 0 []]
structure Ce.plain (c:Ce):Prop where
 ok:c.ok
 s1:c.subj.size<=100
 s2:c.iss.size<=100
 sg:c.sig=⟨0,[],[]⟩
theorem w0:isW ([]:List Int):=fun x h=>by cases h
theorem Ab0 {v:Int}{S:List ByteArray}(h0:0<=v)(h1:v<S.length)(hS:∀s∈S,s.size<=100):∃s:ByteArray,s.size<=100∧(S.map fun s=>PV.sc (.string s)).getD (0+Int.toNat v*1) .top=.sc (.string s):=by
 have hlt:v.toNat<S.length:=by omega
 refine ⟨S[v.toNat],hS _ (List.getElem_mem hlt),?_⟩;rw [C3,Cc,List.getD_eq_getElem?_getD,List.getElem?_map,List.getElem?_eq_getElem hlt];rfl
abbrev mdS:ByteArray:=⟨#[(109:UInt8),(105:UInt8),(100:UInt8)]⟩
abbrev tpS:ByteArray:=⟨#[(116:UInt8),(111:UInt8),(112:UInt8)]⟩
abbrev xxS:ByteArray:=⟨#[]⟩
abbrev ffS:ByteArray:=⟨#[(255:UInt8)]⟩
abbrev otS:ByteArray:=⟨#[(111:UInt8),(116:UInt8),(104:UInt8),(101:UInt8),(114:UInt8)]⟩
theorem Aga {d:Nat}{l:List Int}(hl:l.length<=maxLen)(i:Nat):∃(c:Ce)(j:Nat),c.plain ∧
  Ae C0 Tryz.prog 2000 (d+14) Gd [.pbox (dkc l i)]=some ⟨[.agg c.cells0],[dkc l j]⟩:=by
 obtain ⟨v0,j0,v00,v01,n0⟩:=Gs hl i 5 (by omega) (by omega)
 obtain ⟨v1,j1,v10,v11,n1⟩:=Gs hl j0 3 (by omega) (by omega)
 obtain ⟨v2,j2,v20,v21,n2⟩:=Gs hl j1 9 (by omega) (by omega)
 obtain ⟨v3,j3,v30,v31,n3⟩:=Gs hl j2 4 (by omega) (by omega)
 obtain ⟨v4,j4,v40,v41,n4⟩:=Gs hl j3 4 (by omega) (by omega)
 obtain ⟨v5,j5,v50,v51,n5⟩:=Gs hl j4 20 (by omega) (by omega)
 obtain ⟨v6,j6,v60,v61,n6⟩:=Gs hl j5 60 (by omega) (by omega)
 obtain ⟨v7,j7,v70,v71,n7⟩:=Gs hl j6 2 (by omega) (by omega)
 obtain ⟨v8,j8,v80,v81,n8⟩:=Gs hl j7 3 (by omega) (by omega)
 have E:=Kv 2000 (d+13) l.length (Af .i64 l) i;have n0:=n0 (fu:=2000) (d:=d+11);have n1:=n1 (fu:=2000) (d:=d+11);have n2:=n2 (fu:=2000) (d:=d+11);have n3:=n3 (fu:=2000) (d:=d+11);have n4:=n4 (fu:=2000) (d:=d+11);have n5:=n5 (fu:=2000) (d:=d+11);have n6:=n6 (fu:=2000) (d:=d+11);have n7:=n7 (fu:=2000) (d:=d+11);have n8:=n8 (fu:=2000) (d:=d+11);have pk:=Yv (fu:=2000) (d:=d+1) (by omega) (wrap .u64 v0) v1
 obtain ⟨q,q0,q1,hq⟩:∃q:Int,0<=q∧q<5∧(if (4:Int)<v2 then (4:Int) else v2)=q:=⟨_,by split<;>omega,by split<;>omega,rfl⟩
 obtain ⟨s1,z1,g1⟩:=Ab0 (S:=[lfS,mdS,tpS,xxS,ffS]) q0 (by simpa using q1) (by decide)
 obtain ⟨s2,z2,g2⟩:=Ab0 (S:=[rtS,mdS,tpS,otS]) v30 (by simpa using v31) (by decide)
 simp only [Zzw,List.map_nil] at g1 g2;have cq:(decide ((0:Int)<=q)&&decide (q<5))=true:=by simp;omega
 have c3:(decide ((0:Int)<=v3)&&decide (v3<4))=true:=by simp;omega
 have kr:=PZ (wrap .u64 v0) v1;simp only [Ky.cells] at pk;simp only [dkc] at n0 n1 n2 n3 n4 n5 n6 n7 n8;generalize J7 (wrap .u64 v0) v1=K at *
 generalize (if C2 v1=true then (9:Int) else 0)=er at *
 have ka:v7=1∨v7=0:=by omega
 rcases ka with rfl|rfl
 ·obtain ⟨v9,j9,v90,v91,n9⟩:=Gs hl j8 3 (by omega) (by omega)
  obtain ⟨vs,js,vs0,vs1,ns⟩:=Gs hl j9 14 (by omega) (by omega)
  have n9:=n9 (fu:=2000) (d:=d+11);have ns:=ns (fu:=2000) (d:=d+11);simp only [dkc] at n9 ns;have e11:((1:Int)==1)=true:=rfl;have h4:vs=13∨vs=12∨vs=11∨vs=10∨(vs≠13∧vs≠12∧vs≠11∧vs≠10):=by omega
  rcases h4 with rfl|rfl|rfl|rfl|⟨m1,m2,m3,m4⟩
  ·refine ⟨⟨s1,s2,wrap .u64 v4,K,v5,wrap .i64 (v5-1),true,v9,wrap .u64 v8,⟨0,[],[]⟩⟩,js,⟨⟨Bc _,Bc _,kr,⟨w0,w0⟩⟩,z1,z2,rfl⟩,E.trans ?_⟩
   try unfold Aa
   repeat first
    |((with_reducible first|apply Ay|apply Am|apply Az|apply Ba|apply Cu|apply B9|apply Ao);· first|with_reducible rfl|(simp (disch:=omega) only [n0,n1,n2,n3,n4,n5,n6,n7,n8,n9,ns,pk,hq,g1,g2,cq,c3,e11,Int.reduceBEq]<;>with_reducible rfl))
    |((with_reducible first|apply Ax|apply Av);· first|with_reducible rfl|omega|(simp (disch:=omega) only [gT,n0,n1,n2,n3,n4,n5,n6,n7,n8,n9,ns,pk,hq,g1,g2,cq,c3,e11,Int.reduceBEq]<;>omega))
    |(with_reducible apply Aw;· first|with_reducible rfl|(simp (disch:=omega) only [gF,n0,n1,n2,n3,n4,n5,n6,n7,n8,n9,ns,pk,hq,g1,g2,cq,c3,e11,Int.reduceBEq]<;>omega))
   try simp (disch:=omega) only [n0,n1,n2,n3,n4,n5,n6,n7,n8,n9,ns,pk,hq,g1,g2,cq,c3,e11,Int.reduceBEq]
   all_goals rfl
  ·refine ⟨⟨s1,s2,wrap .u64 v4,K,v5,wrap .i64 (20+v6),true,3,wrap .u64 v8,⟨0,[],[]⟩⟩,js,⟨⟨Bc _,Bc _,kr,⟨w0,w0⟩⟩,z1,z2,rfl⟩,E.trans ?_⟩
   try unfold Aa
   repeat first
    |((with_reducible first|apply Ay|apply Am|apply Az|apply Ba|apply Cu|apply B9|apply Ao);· first|with_reducible rfl|(simp (disch:=omega) only [n0,n1,n2,n3,n4,n5,n6,n7,n8,n9,ns,pk,hq,g1,g2,cq,c3,e11,Int.reduceBEq]<;>with_reducible rfl))
    |((with_reducible first|apply Ax|apply Av);· first|with_reducible rfl|omega|(simp (disch:=omega) only [gT,n0,n1,n2,n3,n4,n5,n6,n7,n8,n9,ns,pk,hq,g1,g2,cq,c3,e11,Int.reduceBEq]<;>omega))
    |(with_reducible apply Aw;· first|with_reducible rfl|(simp (disch:=omega) only [gF,n0,n1,n2,n3,n4,n5,n6,n7,n8,n9,ns,pk,hq,g1,g2,cq,c3,e11,Int.reduceBEq]<;>omega))
   try simp (disch:=omega) only [n0,n1,n2,n3,n4,n5,n6,n7,n8,n9,ns,pk,hq,g1,g2,cq,c3,e11,Int.reduceBEq]
   all_goals rfl
  ·refine ⟨⟨s1,s2,wrap .u64 v4,⟨5,K.root⟩,v5,wrap .i64 (20+v6),true,v9,wrap .u64 v8,⟨0,[],[]⟩⟩,js,⟨⟨Bc _,Bc _,kr,⟨w0,w0⟩⟩,z1,z2,rfl⟩,E.trans ?_⟩
   try unfold Aa
   repeat first
    |((with_reducible first|apply Ay|apply Am|apply Az|apply Ba|apply Cu|apply B9|apply Ao);· first|with_reducible rfl|(simp (disch:=omega) only [n0,n1,n2,n3,n4,n5,n6,n7,n8,n9,ns,pk,hq,g1,g2,cq,c3,e11,Int.reduceBEq]<;>with_reducible rfl))
    |((with_reducible first|apply Ax|apply Av);· first|with_reducible rfl|omega|(simp (disch:=omega) only [gT,n0,n1,n2,n3,n4,n5,n6,n7,n8,n9,ns,pk,hq,g1,g2,cq,c3,e11,Int.reduceBEq]<;>omega))
    |(with_reducible apply Aw;· first|with_reducible rfl|(simp (disch:=omega) only [gF,n0,n1,n2,n3,n4,n5,n6,n7,n8,n9,ns,pk,hq,g1,g2,cq,c3,e11,Int.reduceBEq]<;>omega))
   try simp (disch:=omega) only [n0,n1,n2,n3,n4,n5,n6,n7,n8,n9,ns,pk,hq,g1,g2,cq,c3,e11,Int.reduceBEq]
   all_goals rfl
  ·refine ⟨⟨s1,s2,wrap .u64 v4,K,v5,wrap .i64 (20+v6),true,1,wrap .u64 v8,⟨0,[],[]⟩⟩,js,⟨⟨Bc _,Bc _,kr,⟨w0,w0⟩⟩,z1,z2,rfl⟩,E.trans ?_⟩
   try unfold Aa
   repeat first
    |((with_reducible first|apply Ay|apply Am|apply Az|apply Ba|apply Cu|apply B9|apply Ao);· first|with_reducible rfl|(simp (disch:=omega) only [n0,n1,n2,n3,n4,n5,n6,n7,n8,n9,ns,pk,hq,g1,g2,cq,c3,e11,Int.reduceBEq]<;>with_reducible rfl))
    |((with_reducible first|apply Ax|apply Av);· first|with_reducible rfl|omega|(simp (disch:=omega) only [gT,n0,n1,n2,n3,n4,n5,n6,n7,n8,n9,ns,pk,hq,g1,g2,cq,c3,e11,Int.reduceBEq]<;>omega))
    |(with_reducible apply Aw;· first|with_reducible rfl|(simp (disch:=omega) only [gF,n0,n1,n2,n3,n4,n5,n6,n7,n8,n9,ns,pk,hq,g1,g2,cq,c3,e11,Int.reduceBEq]<;>omega))
   try simp (disch:=omega) only [n0,n1,n2,n3,n4,n5,n6,n7,n8,n9,ns,pk,hq,g1,g2,cq,c3,e11,Int.reduceBEq]
   all_goals rfl
  ·refine ⟨⟨s1,s2,wrap .u64 v4,K,v5,wrap .i64 (20+v6),true,v9,wrap .u64 v8,⟨0,[],[]⟩⟩,js,⟨⟨Bc _,Bc _,kr,⟨w0,w0⟩⟩,z1,z2,rfl⟩,E.trans ?_⟩;have f1:(vs==13)=false:=by rw [beq_eq_false_iff_ne];exact m1
   have f2:(vs==12)=false:=by rw [beq_eq_false_iff_ne];exact m2
   have f3:(vs==11)=false:=by rw [beq_eq_false_iff_ne];exact m3
   have f4:(vs==10)=false:=by rw [beq_eq_false_iff_ne];exact m4
   try unfold Aa
   repeat first
    |((with_reducible first|apply Ay|apply Am|apply Az|apply Ba|apply Cu|apply B9|apply Ao);· first|with_reducible rfl|(simp (disch:=omega) only [n0,n1,n2,n3,n4,n5,n6,n7,n8,n9,ns,pk,hq,g1,g2,cq,c3,e11,f1,f2,f3,f4]<;>with_reducible rfl))
    |((with_reducible first|apply Ax|apply Av);· first|with_reducible rfl|omega|(simp (disch:=omega) only [gT,n0,n1,n2,n3,n4,n5,n6,n7,n8,n9,ns,pk,hq,g1,g2,cq,c3,e11,f1,f2,f3,f4]<;>omega))
    |(with_reducible apply Aw;· first|with_reducible rfl|(simp (disch:=omega) only [gF,n0,n1,n2,n3,n4,n5,n6,n7,n8,n9,ns,pk,hq,g1,g2,cq,c3,e11,f1,f2,f3,f4]<;>omega))
   try simp (disch:=omega) only [n0,n1,n2,n3,n4,n5,n6,n7,n8,n9,ns,pk,hq,g1,g2,cq,c3,e11,f1,f2,f3,f4]
   all_goals rfl
 ·obtain ⟨vs,js,vs0,vs1,ns⟩:=Gs hl j8 14 (by omega) (by omega)
  have ns:=ns (fu:=2000) (d:=d+11);simp only [dkc] at ns;have e11:((0:Int)==1)=false:=rfl;have h4:vs=13∨vs=12∨vs=11∨vs=10∨(vs≠13∧vs≠12∧vs≠11∧vs≠10):=by omega
  rcases h4 with rfl|rfl|rfl|rfl|⟨m1,m2,m3,m4⟩
  ·refine ⟨⟨s1,s2,wrap .u64 v4,K,v5,wrap .i64 (v5-1),false,0,wrap .u64 v8,⟨0,[],[]⟩⟩,js,⟨⟨Bc _,Bc _,kr,⟨w0,w0⟩⟩,z1,z2,rfl⟩,E.trans ?_⟩
   try unfold Aa
   repeat first
    |((with_reducible first|apply Ay|apply Am|apply Az|apply Ba|apply Cu|apply B9|apply Ao);· first|with_reducible rfl|(simp (disch:=omega) only [n0,n1,n2,n3,n4,n5,n6,n7,n8,ns,pk,hq,g1,g2,cq,c3,e11,Int.reduceBEq]<;>with_reducible rfl))
    |((with_reducible first|apply Ax|apply Av);· first|with_reducible rfl|omega|(simp (disch:=omega) only [gT,n0,n1,n2,n3,n4,n5,n6,n7,n8,ns,pk,hq,g1,g2,cq,c3,e11,Int.reduceBEq]<;>omega))
    |(with_reducible apply Aw;· first|with_reducible rfl|(simp (disch:=omega) only [gF,n0,n1,n2,n3,n4,n5,n6,n7,n8,ns,pk,hq,g1,g2,cq,c3,e11,Int.reduceBEq]<;>omega))
   try simp (disch:=omega) only [n0,n1,n2,n3,n4,n5,n6,n7,n8,ns,pk,hq,g1,g2,cq,c3,e11,Int.reduceBEq]
   all_goals rfl
  ·refine ⟨⟨s1,s2,wrap .u64 v4,K,v5,wrap .i64 (20+v6),false,3,wrap .u64 v8,⟨0,[],[]⟩⟩,js,⟨⟨Bc _,Bc _,kr,⟨w0,w0⟩⟩,z1,z2,rfl⟩,E.trans ?_⟩
   try unfold Aa
   repeat first
    |((with_reducible first|apply Ay|apply Am|apply Az|apply Ba|apply Cu|apply B9|apply Ao);· first|with_reducible rfl|(simp (disch:=omega) only [n0,n1,n2,n3,n4,n5,n6,n7,n8,ns,pk,hq,g1,g2,cq,c3,e11,Int.reduceBEq]<;>with_reducible rfl))
    |((with_reducible first|apply Ax|apply Av);· first|with_reducible rfl|omega|(simp (disch:=omega) only [gT,n0,n1,n2,n3,n4,n5,n6,n7,n8,ns,pk,hq,g1,g2,cq,c3,e11,Int.reduceBEq]<;>omega))
    |(with_reducible apply Aw;· first|with_reducible rfl|(simp (disch:=omega) only [gF,n0,n1,n2,n3,n4,n5,n6,n7,n8,ns,pk,hq,g1,g2,cq,c3,e11,Int.reduceBEq]<;>omega))
   try simp (disch:=omega) only [n0,n1,n2,n3,n4,n5,n6,n7,n8,ns,pk,hq,g1,g2,cq,c3,e11,Int.reduceBEq]
   all_goals rfl
  ·refine ⟨⟨s1,s2,wrap .u64 v4,⟨5,K.root⟩,v5,wrap .i64 (20+v6),false,0,wrap .u64 v8,⟨0,[],[]⟩⟩,js,⟨⟨Bc _,Bc _,kr,⟨w0,w0⟩⟩,z1,z2,rfl⟩,E.trans ?_⟩
   try unfold Aa
   repeat first
    |((with_reducible first|apply Ay|apply Am|apply Az|apply Ba|apply Cu|apply B9|apply Ao);· first|with_reducible rfl|(simp (disch:=omega) only [n0,n1,n2,n3,n4,n5,n6,n7,n8,ns,pk,hq,g1,g2,cq,c3,e11,Int.reduceBEq]<;>with_reducible rfl))
    |((with_reducible first|apply Ax|apply Av);· first|with_reducible rfl|omega|(simp (disch:=omega) only [gT,n0,n1,n2,n3,n4,n5,n6,n7,n8,ns,pk,hq,g1,g2,cq,c3,e11,Int.reduceBEq]<;>omega))
    |(with_reducible apply Aw;· first|with_reducible rfl|(simp (disch:=omega) only [gF,n0,n1,n2,n3,n4,n5,n6,n7,n8,ns,pk,hq,g1,g2,cq,c3,e11,Int.reduceBEq]<;>omega))
   try simp (disch:=omega) only [n0,n1,n2,n3,n4,n5,n6,n7,n8,ns,pk,hq,g1,g2,cq,c3,e11,Int.reduceBEq]
   all_goals rfl
  ·refine ⟨⟨s1,s2,wrap .u64 v4,K,v5,wrap .i64 (20+v6),false,1,wrap .u64 v8,⟨0,[],[]⟩⟩,js,⟨⟨Bc _,Bc _,kr,⟨w0,w0⟩⟩,z1,z2,rfl⟩,E.trans ?_⟩
   try unfold Aa
   repeat first
    |((with_reducible first|apply Ay|apply Am|apply Az|apply Ba|apply Cu|apply B9|apply Ao);· first|with_reducible rfl|(simp (disch:=omega) only [n0,n1,n2,n3,n4,n5,n6,n7,n8,ns,pk,hq,g1,g2,cq,c3,e11,Int.reduceBEq]<;>with_reducible rfl))
    |((with_reducible first|apply Ax|apply Av);· first|with_reducible rfl|omega|(simp (disch:=omega) only [gT,n0,n1,n2,n3,n4,n5,n6,n7,n8,ns,pk,hq,g1,g2,cq,c3,e11,Int.reduceBEq]<;>omega))
    |(with_reducible apply Aw;· first|with_reducible rfl|(simp (disch:=omega) only [gF,n0,n1,n2,n3,n4,n5,n6,n7,n8,ns,pk,hq,g1,g2,cq,c3,e11,Int.reduceBEq]<;>omega))
   try simp (disch:=omega) only [n0,n1,n2,n3,n4,n5,n6,n7,n8,ns,pk,hq,g1,g2,cq,c3,e11,Int.reduceBEq]
   all_goals rfl
  ·refine ⟨⟨s1,s2,wrap .u64 v4,K,v5,wrap .i64 (20+v6),false,0,wrap .u64 v8,⟨0,[],[]⟩⟩,js,⟨⟨Bc _,Bc _,kr,⟨w0,w0⟩⟩,z1,z2,rfl⟩,E.trans ?_⟩;have f1:(vs==13)=false:=by rw [beq_eq_false_iff_ne];exact m1
   have f2:(vs==12)=false:=by rw [beq_eq_false_iff_ne];exact m2
   have f3:(vs==11)=false:=by rw [beq_eq_false_iff_ne];exact m3
   have f4:(vs==10)=false:=by rw [beq_eq_false_iff_ne];exact m4
   try unfold Aa
   repeat first
    |((with_reducible first|apply Ay|apply Am|apply Az|apply Ba|apply Cu|apply B9|apply Ao);· first|with_reducible rfl|(simp (disch:=omega) only [n0,n1,n2,n3,n4,n5,n6,n7,n8,ns,pk,hq,g1,g2,cq,c3,e11,f1,f2,f3,f4]<;>with_reducible rfl))
    |((with_reducible first|apply Ax|apply Av);· first|with_reducible rfl|omega|(simp (disch:=omega) only [gT,n0,n1,n2,n3,n4,n5,n6,n7,n8,ns,pk,hq,g1,g2,cq,c3,e11,f1,f2,f3,f4]<;>omega))
    |(with_reducible apply Aw;· first|with_reducible rfl|(simp (disch:=omega) only [gF,n0,n1,n2,n3,n4,n5,n6,n7,n8,ns,pk,hq,g1,g2,cq,c3,e11,f1,f2,f3,f4]<;>omega))
   try simp (disch:=omega) only [n0,n1,n2,n3,n4,n5,n6,n7,n8,ns,pk,hq,g1,g2,cq,c3,e11,f1,f2,f3,f4]
   all_goals rfl
end
section
open Go.IntKind (wrap)
set_option maxRecDepth 1000000
theorem Akl {p:PV}(h:WTv Tryz.prog 29 p):∃c:Ce,p=.agg c.cells∧c.ok:=by
 obtain ⟨ps,rfl,k0⟩:=Aci (by kernel_rfl) h
 obtain ⟨v0,v1,v2,v3,v4,v5,v6,v7,v8,v9,v10,v11,v12,rfl,e0,e1,e2,e3,e4,e5,e6,e7,e8,e9,e10,e11,e12,e13⟩:=Yi k0;refine ⟨⟨v0,v1,v2,⟨v3,v4⟩,v5,v6,v7,v8,v9,⟨v10,v11,v12⟩⟩,rfl,?_⟩;refine ⟨?_,?_,?_,⟨fun x hx=>?_,fun x hx=>?_⟩⟩
 all_goals first|exact ID (by assumption)|exact ID (e11 x hx)|exact ID (e10 x hx)|exact ID (e13 x hx)|exact ID (e12 x hx)
theorem Aic {c:Ce}(hc:c.plain)(seed h leaf:Int):(Lz c seed h leaf).1.wf∧(Lz c seed h leaf).1.subj.size<=100∧(Lz c seed h leaf).1.iss.size<=100∧(Lz c seed h leaf).1.sig.path.length<=4:=by
 have z:OU.wf∧OU.subj.size<=100∧OU.iss.size<=100∧OU.sig.path.length<=4:=⟨⟨by decide,by decide⟩,by decide,by decide,by decide⟩
 unfold Lz;split
 ·cases hs:X8 seed h leaf (Ja c) with
  |none=>exact z
  |some s=>exact ⟨⟨hc.ok.ser.1,hc.ok.mod.1⟩,hc.s1,hc.s2,(DR hs).2⟩
 ·exact z
end
section
open Go.IntKind (wrap)
set_option maxRecDepth 100000
abbrev F1:FuncId:=4
theorem J3 (fu d:Nat)(a0_0 a0_1:ByteArray)(a0_2 a0_3:Int)(a0_4 a0_5 a0_6:Int)(a0_7:Bool)(a0_8 a0_9 a0_10:Int)(a0_11n:Nat)(a0_11:List PV)(a0_12n:Nat)(a0_12:List PV)(a1_0 a1_1:Int)(a2n:Nat)(a2:List PV)(a3 a4 a5:Int):Ae C0 Tryz.prog fu (d+1) F1 [.agg [.sc (.string a0_0),.sc (.string a0_1),.sc (.int .u64 a0_2),.sc (.int .i64 a0_3),.sc (.int .u64 a0_4),.sc (.int .i64 a0_5),.sc (.int .i64 a0_6),.sc (.bool a0_7),.sc (.int .i64 a0_8),.sc (.int .u64 a0_9),.sc (.int .i64 a0_10),.lst false 1 a0_11n a0_11,.lst false 1 a0_12n a0_12],.agg [.sc (.int .i64 a1_0),.sc (.int .u64 a1_1)],.lst false 1 a2n a2,.sc (.int .u64 a3),.sc (.int .i64 a4),.sc (.int .i64 a5)]=(fun (call:Ai)=>Ag (call 9 [.agg [.sc (.string a0_0),.sc (.string a0_1),.sc (.int .u64 a0_2),.sc (.int .i64 a0_3),.sc (.int .u64 a0_4),.sc (.int .i64 a0_5),.sc (.int .i64 a0_6),.sc (.bool a0_7),.sc (.int .i64 a0_8),.sc (.int .u64 a0_9),.sc (.int .i64 a0_10),.lst false 1 a0_11n a0_11,.lst false 1 a0_12n a0_12]]) fun x1 x2=>Ac x2<|Ab x1 fun x3 x4=>Bm x3 fun x5=>Ac x4<|Bb (!x5) (Ag (call 10 []) fun x6 x7=>Ac x7<|Ab x6 fun x8 x9=>Bm x8 fun Ch=>Ac x9<|some (At.mk [.sc (.bool Ch)] [])) (Ag (call 11 [.lst false 1 a2n a2]) fun Cm Dg=>Ac Dg<|Ab Cm fun Do Dd=>Xw Do fun Dx=>Ab Dx fun D5 Em=>Ha 1 D5 fun E5 E2 Fl=>Ab Em fun He Gn=>Ad .i64 He fun Hf=>Ac Gn<|Ac Dd<|Ag (call 12 [.pbox [.lst false 1 E2 Fl,.sc (.int .i64 Hf)]]) fun Dv Df=>Ab Dv fun Fw Hs=>Dh Fw fun Ev=>Ab Ev fun Jd Lq=>Cw Jd fun J1=>Ab Lq fun Mk Lm=>Cw Mk fun Mt=>Ab Lm fun Pu Rh=>Ad .u64 Pu fun Sa=>Ab Rh fun Gv Id=>Ad .i64 Gv fun Tv=>Ab Id fun Yk Lo=>Ad .u64 Yk fun Ui=>Ab Lo fun Tt Tr=>Ad .i64 Tt fun Sr=>Ab Tr fun X6 Zh=>Ad .i64 X6 fun Sh=>Ab Zh fun Wh Xt=>Bm Wh fun Xl=>Ab Xt fun Ov Yq=>Ad .i64 Ov fun CU=>Ab Yq fun AX CY=>Ad .u64 AX fun Ud=>Ab CY fun Y2 CQ=>Ad .i64 Y2 fun X1=>Ab CQ fun Ue CR=>Ea 1 Ue fun Vk Xv=>Ab CR fun W8 V9=>Ea 1 W8 fun Xy Xr=>Ac V9<|Ac Hs<|Ab Df fun Zy Zr=>Ab Zy fun CV HD=>Ha 1 CV fun EL GB HQ=>Ab HD fun CP V8=>Ad .i64 CP fun MQ=>Ac V8<|Ac Zr<|Ag (call 16 [.sc (.int .i64 a4),.sc (.int .i64 6)]) fun MR YE=>Ac YE<|Ab MR fun VT SL=>Ad .i64 VT fun TK=>Ac SL<|Aa (wrap .i64 (TK-1)) fun WH=>Ag (call 16 [.sc (.int .i64 a4),.sc (.int .i64 2)]) fun WI UD=>Ac UD<|Ab WI fun UC HC=>Ad .i64 UC fun QJ=>Ac HC<|Aa (wrap .i64 (1+QJ)) fun WN=>Ag (call 14 [.pbox [.lst false 1 GB HQ,.sc (.int .i64 MQ)],.sc (.int .i64 3)]) fun WS VU=>Ab WS fun HY x95=>Ad .i64 HY fun UH=>Ac x95<|Ab VU fun UE YP=>Ab UE fun CZ Wr=>Ha 1 CZ fun Wv Hc Jj=>Ab Wr fun AE Q4=>Ad .i64 AE fun R7=>Ac Q4<|Ac YP<|Ap (decide (0<=UH)&&decide (UH<3))<|Ad .i64 (List.getD [.sc (.int .i64 a4),.sc (.int .i64 WH),.sc (.int .i64 WN)] (0+Int.toNat UH*1) .top) fun Je=>Ag (call 16 [.sc (.int .i64 a5),.sc (.int .i64 18)]) fun Xk Y6=>Ac Y6<|Ab Xk fun Y1 Y0=>Ad .i64 Y1 fun H4=>Ac Y0<|Aa (wrap .i64 (H4-1)) fun Ji=>Ag (call 16 [.sc (.int .i64 a5),.sc (.int .i64 2)]) fun Y8 Zb=>Ac Zb<|Ab Y8 fun Yf EH=>Ad .i64 Yf fun Zk=>Ac EH<|Ag (call 14 [.pbox [.lst false 1 Hc Jj,.sc (.int .i64 R7)],.sc (.int .i64 3)]) fun W0 Xd=>Ab W0 fun Wo Za=>Ad .i64 Wo fun Vb=>Ac Za<|Ab Xd fun Yl Ox=>Ab Yl fun Px Ss=>Ha 1 Px fun AP Zs Ku=>Ab Ss fun DF Y4=>Ad .i64 DF fun Vu=>Ac Y4<|Ac Ox<|Ap (decide (0<=Vb)&&decide (Vb<3))<|Ad .i64 (List.getD [.sc (.int .i64 a5),.sc (.int .i64 Ji),.sc (.int .i64 Zk)] (0+Int.toNat Vb*1) .top) fun Yu=>Ap (decide (0+Vk*1<=Xv.length))<|Ap (decide (0+Xy*1<=Xr.length))<|Ag (call 17 [.agg [.sc (.string J1),.sc (.string Mt),.sc (.int .u64 Sa),.sc (.int .i64 Tv),.sc (.int .u64 Ui),.sc (.int .i64 Sr),.sc (.int .i64 Sh),.sc (.bool Xl),.sc (.int .i64 CU),.sc (.int .u64 Ud),.sc (.int .i64 X1),.lst false 1 Vk (List.take (Vk*1) (List.drop 0 Xv)),.lst false 1 Xy (List.take (Xy*1) (List.drop 0 Xr))],.sc (.int .u64 a3),.sc (.int .i64 Je),.sc (.int .i64 Yu)]) fun GX EF=>Ac EF<|Ab GX fun GU DB=>Dh GU fun Yg=>Ab Yg fun CC EM=>Cw CC fun DT=>Ab EM fun EZ Zj=>Cw EZ fun BG=>Ab Zj fun BK BO=>Ad .u64 BK fun DA=>Ab BO fun KN NU=>Ad .i64 KN fun HF=>Ab NU fun Wz EX=>Ad .u64 Wz fun IB=>Ab EX fun OB Ty=>Ad .i64 OB fun NE=>Ab Ty fun JP NS=>Ad .i64 JP fun TL=>Ab NS fun IJ NW=>Bm IJ fun TQ=>Ab NW fun LM NP=>Ad .i64 LM fun UT=>Ab NP fun IC NZ=>Ad .u64 IC fun SY=>Ab NZ fun RI SG=>Ad .i64 RI fun Aa1=>Ab SG fun YT Abk=>Ha 1 YT fun VC MO Aag=>Ab Abk fun YW ZR=>Ha 1 YW fun Ake Ali LG=>Ac ZR<|Ab DB fun NA Ahf=>Ad .i64 NA fun Agi=>Ac Ahf<|Ap (decide (0+Vk*1<=Xv.length))<|Ap (decide (0+Xy*1<=Xr.length))<|Ag (call 13 [.agg [.sc (.string J1),.sc (.string Mt),.sc (.int .u64 Sa),.sc (.int .i64 Tv),.sc (.int .u64 Ui),.sc (.int .i64 Sr),.sc (.int .i64 Sh),.sc (.bool Xl),.sc (.int .i64 CU),.sc (.int .u64 Ud),.sc (.int .i64 X1),.lst false 1 Vk (List.take (Vk*1) (List.drop 0 Xv)),.lst false 1 Xy (List.take (Xy*1) (List.drop 0 Xr))],.sc (.int .u64 a3),.sc (.int .i64 Je),.sc (.int .i64 Yu)]) fun TF Agc=>Ac Agc<|Ab TF fun Ai7 Agj=>Dh Ai7 fun Agk=>Ab Agk fun Ajq VS=>Cw Ajq fun SO=>Ab VS fun Ai2 Agv=>Cw Ai2 fun RL=>Ab Agv fun Akk TA=>Ad .u64 Akk fun GW=>Ab TA fun Ag4 Agx=>Ad .i64 Ag4 fun EU=>Ab Agx fun Ah5 Ao5=>Ad .u64 Ah5 fun Aaj=>Ab Ao5 fun Aqe Anh=>Ad .i64 Aqe fun Aal=>Ab Anh fun Ao1 Aqg=>Ad .i64 Ao1 fun YS=>Ab Aqg fun Anj Ao3=>Bm Anj fun Aak=>Ab Ao3 fun Aoz Aou=>Ad .i64 Aoz fun Aan=>Ab Aou fun Apv Apx=>Ad .u64 Apv fun Abc=>Ab Apx fun Apg An8=>Ad .i64 Apg fun Aao=>Ab An8 fun Amv Amy=>Ha 1 Amv fun Arn Aay Abf=>Ab Amy fun Ap6 Aoa=>Ha 1 Ap6 fun Arr Aa6 ZK=>Ac Aoa<|Ab Agj fun An4 Apo=>Ad .i64 An4 fun Apa=>Ac Apo<|Ag (call 18 [.sc (.int .u64 a3),.sc (.int .i64 Je)]) fun Api Ap4=>Ac Ap4<|Ab Api fun An0 Apr=>Dh An0 fun An5=>Ab An5 fun Apu Ao0=>Ad .i64 Apu fun Aem=>Ab Ao0 fun Am8 Aqi=>Ad .u64 Am8 fun Afi=>Ac Aqi<|Ab Apr fun Apj Ao2=>Ad .i64 Apj fun Arf=>Ac Ao2<|Ag (call 14 [.pbox [.lst false 1 Zs Ku,.sc (.int .i64 Vu)],.sc (.int .i64 2)]) fun Apd Ap9=>Ab Apd fun Ao7 Ap8=>Ad .i64 Ao7 fun Aqd=>Ac Ap8<|Ab Ap9 fun Ape Ang=>Ab Ape fun Aqa An3=>Ha 1 Aqa fun Arl Are Aq3=>Ab An3 fun Amz Apm=>Ad .i64 Amz fun Aq6=>Ac Apm<|Ac Ang<|Aa (wrap .u64 Aqd) fun Aov=>Aa (C8 .u64 GW Aov) fun Ak7=>Ag (call 19 [.agg [.sc (.string DT),.sc (.string BG),.sc (.int .u64 DA),.sc (.int .i64 HF),.sc (.int .u64 IB),.sc (.int .i64 NE),.sc (.int .i64 TL),.sc (.bool TQ),.sc (.int .i64 UT),.sc (.int .u64 SY),.sc (.int .i64 Aa1),.lst false 1 MO Aag,.lst false 1 Ali LG],.agg [.sc (.string SO),.sc (.string RL),.sc (.int .u64 GW),.sc (.int .i64 EU),.sc (.int .u64 Aaj),.sc (.int .i64 Aal),.sc (.int .i64 YS),.sc (.bool Aak),.sc (.int .i64 Aan),.sc (.int .u64 Abc),.sc (.int .i64 Aao),.lst false 1 Aay Abf,.lst false 1 Aa6 ZK]]) fun Ank Aoq=>Ac Aoq<|Ab Ank fun Amu Aoi=>Bm Amu fun Aoh=>Ac Aoi<|Bb Aoh (Bb (Agi==Apa) (Ag (call 20 [.agg [.sc (.string a0_0),.sc (.string a0_1),.sc (.int .u64 a0_2),.sc (.int .i64 a0_3),.sc (.int .u64 a0_4),.sc (.int .i64 a0_5),.sc (.int .i64 a0_6),.sc (.bool a0_7),.sc (.int .i64 a0_8),.sc (.int .u64 a0_9),.sc (.int .i64 a0_10),.lst false 1 a0_11n a0_11,.lst false 1 a0_12n a0_12],.agg [.sc (.int .i64 a1_0),.sc (.int .u64 a1_1)]]) fun And Aom=>Ac Aom<|Ab And fun Aqb Ane=>Ad .i64 Aqb fun Aqc=>Ac Ane<|Ag (call 21 [.agg [.sc (.string a0_0),.sc (.string a0_1),.sc (.int .u64 a0_2),.sc (.int .i64 a0_3),.sc (.int .u64 a0_4),.sc (.int .i64 a0_5),.sc (.int .i64 a0_6),.sc (.bool a0_7),.sc (.int .i64 a0_8),.sc (.int .u64 a0_9),.sc (.int .i64 a0_10),.lst false 1 a0_11n a0_11,.lst false 1 a0_12n a0_12],.agg [.sc (.int .i64 a1_0),.sc (.int .u64 a1_1)]]) fun Ap5 Apn=>Ac Apn<|Ab Ap5 fun Ant Apf=>Ad .i64 Ant fun Am5=>Ac Apf<|Bb (Aqc==Am5) (Ag (call 20 [.agg [.sc (.string SO),.sc (.string RL),.sc (.int .u64 GW),.sc (.int .i64 EU),.sc (.int .u64 Aaj),.sc (.int .i64 Aal),.sc (.int .i64 YS),.sc (.bool Aak),.sc (.int .i64 Aan),.sc (.int .u64 Abc),.sc (.int .i64 Aao),.lst false 1 Aay Abf,.lst false 1 Aa6 ZK],.agg [.sc (.int .i64 Aem),.sc (.int .u64 Afi)]]) fun Anw Am6=>Ac Am6<|Ab Anw fun An7 Anb=>Ad .i64 An7 fun Ann=>Ac Anb<|Ag (call 21 [.agg [.sc (.string SO),.sc (.string RL),.sc (.int .u64 GW),.sc (.int .i64 EU),.sc (.int .u64 Aaj),.sc (.int .i64 Aal),.sc (.int .i64 YS),.sc (.bool Aak),.sc (.int .i64 Aan),.sc (.int .u64 Abc),.sc (.int .i64 Aao),.lst false 1 Aay Abf,.lst false 1 Aa6 ZK],.agg [.sc (.int .i64 Aem),.sc (.int .u64 Afi)]]) fun Anf Apc=>Ac Apc<|Ab Anf fun Ap0 Aoy=>Ad .i64 Ap0 fun Aph=>Ac Aoy<|Bb (Ann==Aph) (Ag (call 20 [.agg [.sc (.string SO),.sc (.string RL),.sc (.int .u64 Ak7),.sc (.int .i64 EU),.sc (.int .u64 Aaj),.sc (.int .i64 Aal),.sc (.int .i64 YS),.sc (.bool Aak),.sc (.int .i64 Aan),.sc (.int .u64 Abc),.sc (.int .i64 Aao),.lst false 1 Aay Abf,.lst false 1 Aa6 ZK],.agg [.sc (.int .i64 Aem),.sc (.int .u64 Afi)]]) fun Aqf An2=>Ac An2<|Ab Aqf fun Ao9 Apl=>Ad .i64 Ao9 fun Anl=>Ac Apl<|Ag (call 21 [.agg [.sc (.string SO),.sc (.string RL),.sc (.int .u64 Ak7),.sc (.int .i64 EU),.sc (.int .u64 Aaj),.sc (.int .i64 Aal),.sc (.int .i64 YS),.sc (.bool Aak),.sc (.int .i64 Aan),.sc (.int .u64 Abc),.sc (.int .i64 Aao),.lst false 1 Aay Abf,.lst false 1 Aa6 ZK],.agg [.sc (.int .i64 Aem),.sc (.int .u64 Afi)]]) fun Anu Ao4=>Ac Ao4<|Ab Anu fun Aow An1=>Ad .i64 Aow fun Apw=>Ac An1<|Bb (Anl==Apw) (Ag (call 10 []) fun Ans Apq=>Ac Apq<|Ab Ans fun Aox Apb=>Bm Aox fun Amt=>Ac Apb<|some (At.mk [.sc (.bool Amt)] [])) (some (At.mk [.sc (.bool false)] []))) (some (At.mk [.sc (.bool false)] []))) (some (At.mk [.sc (.bool false)] []))) (some (At.mk [.sc (.bool false)] []))) (some (At.mk [.sc (.bool false)] [])))) (Ae C0 Tryz.prog fu d):=by kernel_rfl
end
section
open Go.IntKind (wrap)
set_option maxRecDepth 1000000
theorem Ak1 {p:PV}(h:WTv Tryz.prog 24 p):∃k:Ky,p=.agg k.cells:=by
 obtain ⟨ps,rfl,k0⟩:=Aci (by kernel_rfl) h
 obtain ⟨v0,v1,rfl,_⟩:=Rf k0;exact ⟨⟨v0,v1⟩,rfl⟩
theorem Ah4 {c:Ce}(hc:c.plain)(seed h leaf:Int):(Lz c seed h leaf).1.sig.chains.length<=18:=by
 have z:OU.sig.chains.length<=18:=by decide
 unfold Lz;split
 ·cases hs:X8 seed h leaf (Ja c) with
  |none=>exact z
  |some s=>exact Nat.le_of_eq (DR hs).1
 ·exact z
theorem Al3 {v a b c:Int}(h0:0<=v)(h1:v<3):∃t:Int,List.getD [PV.sc (.int .i64 a),PV.sc (.int .i64 b),PV.sc (.int .i64 c)] (0+Int.toNat v*1) .top=PV.sc (.int .i64 t):=by
 have:v=0∨v=1∨v=2:=by omega
 rcases this with rfl|rfl|rfl
 ·exact ⟨a,rfl⟩
 ·exact ⟨b,rfl⟩
 ·exact ⟨c,rfl⟩
theorem certificateSigns_plain (qs:List PV)(h:Bj (WTv Tryz.prog) [29,24,30,22,3,3] qs):∃fu d,Ae C0 Tryz.prog fu d F1 qs=some ⟨[.sc (.bool true)],[]⟩:=by
 obtain ⟨q0,_,rfl,h0,g⟩:=h.cons_inv;obtain ⟨q1,_,rfl,h1,g⟩:=g.cons_inv;obtain ⟨q2,_,rfl,h2,g⟩:=g.cons_inv;obtain ⟨q3,_,rfl,h3,g⟩:=g.cons_inv;obtain ⟨q4,_,rfl,h4,g⟩:=g.cons_inv;obtain ⟨q5,_,rfl,h5,g⟩:=g.cons_inv;obtain rfl:=g.nil_inv;clear h g;obtain ⟨c,rfl,hc⟩:=Akl h0;obtain ⟨k,rfl⟩:=Ak1 h1;obtain ⟨l,rfl,hl,_⟩:=Ajl (k:=.i64) (e:=3) (by kernel_rfl) (by kernel_rfl) (by kernel_rfl) (by kernel_rfl) h2
 obtain ⟨seed,rfl,_⟩:=SP (k:=.u64) (by kernel_rfl) (by kernel_rfl) h3
 obtain ⟨hg,rfl,_⟩:=SP (k:=.i64) (by kernel_rfl) (by kernel_rfl) h4
 obtain ⟨lf,rfl,_⟩:=SP (k:=.i64) (by kernel_rfl) (by kernel_rfl) h5
 clear h0 h1 h2 h3 h4 h5;refine ⟨2000,19,?_⟩;refine (J3 2000 18 c.subj c.iss c.serial c.key.h c.key.root c.fr c.un c.auth c.path c.model c.sig.leaf c.sig.chains.length (Af .u64 c.sig.chains) c.sig.path.length (Af .u64 c.sig.path) k.h k.root l.length (Af .i64 l) seed hg lf).trans ?_;have sm:=Ahi (fu:=2000) (d:=17) (c:=c);have aw:=Agg (d:=3);cases hs:(decide ((c.subj.size:Int)<100)&&decide ((c.iss.size:Int)<100)&&decide ((c.sig.chains.length:Int)<40)&&decide ((c.sig.path.length:Int)<10))
 ·rw [hs] at sm;simp only [Ce.cells] at sm
  try unfold Aa
  repeat first
   |((with_reducible first|apply Ay|apply Am|apply Az|apply A5|apply Ba|apply Bi|apply Cu|apply B9|apply Ac0|apply Ao);· first|with_reducible rfl|(simp (disch:=omega) only [sm,aw,Dn]<;>with_reducible rfl))
   |((with_reducible first|apply Ax|apply Av);· first|with_reducible rfl|omega|(simp (disch:=omega) only [gT,sm,aw,Dn]<;>omega))
   |(with_reducible apply Aw;· first|with_reducible rfl|(simp (disch:=omega) only [gF,sm,aw,Dn]<;>omega))
  try simp (disch:=omega) only [sm,aw,Dn]
  all_goals rfl
 ·rw [hs] at sm;simp only [Bool.and_eq_true,decide_eq_true_eq] at hs;have nq:=Aon (fu:=2000) (d:=17) (l:=l);obtain ⟨x,j,hx,xe⟩:=Aga (d:=4) hl 0;obtain ⟨m1,m10,m11,u1⟩:=LH hg 6 (by omega) (by omega)
  obtain ⟨m2,m20,m21,u2⟩:=LH hg 2 (by omega) (by omega)
  obtain ⟨m3,m30,m31,u3⟩:=LH lf 18 (by omega) (by omega)
  obtain ⟨m4,m40,m41,u4⟩:=LH lf 2 (by omega) (by omega)
  obtain ⟨v0,j0,v00,v01,n0⟩:=Gs hl j 3 (by omega) (by omega)
  obtain ⟨v1,j1,v10,v11,n1⟩:=Gs hl j0 3 (by omega) (by omega)
  obtain ⟨v2,j2,v20,v21,n2⟩:=Gs hl j1 2 (by omega) (by omega)
  have n0:=n0 (fu:=2000) (d:=16);have n1:=n1 (fu:=2000) (d:=16);have n2:=n2 (fu:=2000) (d:=16);obtain ⟨th,gh⟩:=Al3 (a:=hg) (b:=wrap .i64 (m1-1)) (c:=wrap .i64 (1+m2)) v00 v01;obtain ⟨tl,gl⟩:=Al3 (a:=lf) (b:=wrap .i64 (m3-1)) (c:=m4) v10 v11;have c0:(decide ((0:Int)<=v0)&&decide (v0<3))=true:=by simp;omega
  have c1:(decide ((0:Int)<=v1)&&decide (v1<3))=true:=by simp;omega
  have sx:x.sig=⟨0,[],[]⟩:=hx.sg;have sg:=Afr (fu:=2000) (d:=5) (c:=x) (by omega) hx.ok.wf (by have:=hx.s1;omega) (by have:=hx.s2;omega) seed th tl
  have sp:=XI (fu:=2000) (d:=9) (c:=x) (by omega) hx.ok.wf (by have:=hx.s1;omega) (by have:=hx.s2;omega) seed th tl
  have so:=Aic hx seed th tl;have sc:=Ah4 hx seed th tl;have pk:=Yv (fu:=2000) (d:=6) (by omega) seed th
  generalize (Lz x seed th tl).2=er at *
  generalize (Lz x seed th tl).1=y at *
  generalize J7 seed th=K at *
  generalize (if C2 th=true then (9:Int) else 0)=e9 at *
  have same:=UL (fu:=2000) (d:=15) (c:=y) (by omega) (by omega) (by have:=so.2.2.2;omega)
  have p1:=Uu (fu:=2000) (d:=9) (c:=c) (by omega) hc.wf (by omega) (by omega) k
  have r1:=JE (fu:=2000) (d:=10) (c:=c) (by omega) hc.wf (by omega) (by omega) k
  have p2:=Uu (fu:=2000) (d:=9) (c:=y) (by omega) so.1 (by have:=so.2.1;omega) (by have:=so.2.2.1;omega) K
  have r2:=JE (fu:=2000) (d:=10) (c:=y) (by omega) so.1 (by have:=so.2.1;omega) (by have:=so.2.2.1;omega) K
  have wo:({ y with serial:=C8 .u64 y.serial (wrap .u64 v2) }:Ce).wf:=⟨(Bc _).1,so.1.mod⟩;have p3:=Uu (fu:=2000) (d:=9) (c:={ y with serial:=C8 .u64 y.serial (wrap .u64 v2) }) (by omega) wo (by have:=so.2.1;show y.subj.size<=_;omega) (by have:=so.2.2.1;show y.iss.size<=_;omega) K
  have r3:=JE (fu:=2000) (d:=10) (c:={ y with serial:=C8 .u64 y.serial (wrap .u64 v2) }) (by omega) wo (by have:=so.2.1;show y.subj.size<=_;omega) (by have:=so.2.2.1;show y.iss.size<=_;omega) K
  generalize Uc { y with serial:=C8 .u64 y.serial (wrap .u64 v2) } K=w3 at *
  generalize Uc y K=w2 at *
  generalize Uc c k=w1 at *
  have z0:((0:Nat):Int)=0:=rfl;have q1:∀l:Int,(l==l)=true:=fun l=>beq_self_eq_true l
  simp only [Ce.cells,Ce.cells0,Ky.cells,dkc,sx,Z3] at sm nq xe n0 n1 n2 sg sp pk same p1 r1 p2 r2 p3 r3;rw [z0] at nq xe;have e0:Af .u64 []=[]:=rfl;have td:∀k:Nat,List.take k (List.drop 0 ([]:List PV))=[]:=fun k=>by rw [Es,List.take_nil]
  simp only [e0] at sg sp
  try unfold Aa
  repeat first
   |((with_reducible first|apply Ay|apply Am|apply Az|apply A5|apply Ba|apply Bi|apply Cu|apply B9|apply Ac0|apply Ao);· first|with_reducible rfl|(simp (disch:=omega) only [sm,aw,nq,xe,n0,n1,n2,u1,u2,u3,u4,gh,gl,c0,c1,sg,sp,pk,same,p1,r1,p2,r2,p3,r3,q1,C6,Nat.zero_mul,td]<;>with_reducible rfl))
   |((with_reducible first|apply Ax|apply Av);· first|with_reducible rfl|omega|(simp (disch:=omega) only [gT,sm,aw,nq,xe,n0,n1,n2,u1,u2,u3,u4,gh,gl,c0,c1,sg,sp,pk,same,p1,r1,p2,r2,p3,r3,q1,C6,Nat.zero_mul,td]<;>omega))
   |(with_reducible apply Aw;· first|with_reducible rfl|(simp (disch:=omega) only [gF,sm,aw,nq,xe,n0,n1,n2,u1,u2,u3,u4,gh,gl,c0,c1,sg,sp,pk,same,p1,r1,p2,r2,p3,r3,q1,C6,Nat.zero_mul,td]<;>omega))
  try simp (disch:=omega) only [sm,aw,nq,xe,n0,n1,n2,u1,u2,u3,u4,gh,gl,c0,c1,sg,sp,pk,same,p1,r1,p2,r2,p3,r3,q1,C6,Nat.zero_mul,td]
  all_goals rfl
end
section
open Go.IntKind (wrap)
open Go Go.RowKit
structure JH (Z Z':Nat->Prop) (w w':World):Prop where
 os:w'.os=w.os
 tape:w'.tape=w.tape
 output:w'.output=w.output
 size:w.heap.size<=w'.heap.size
 keep:∀b,b<w.heap.size->¬Z b->w'.heap[b]?=w.heap[b]?
 sub:∀b,Z b->Z' b
 new:∀b,Z' b->Z b∨w.heap.size<=b
 lt:∀b,Z' b->b<w'.heap.size
 bs:∀b,b<w.heap.size->bsz w b<=bsz w' b
structure W7 (Z:Nat->Prop) (w w':World):Prop where
 os:w'.os=w.os
 tape:w'.tape=w.tape
 output:w'.output=w.output
 size:w.heap.size<=w'.heap.size
 same:∀b,Z b->w'.heap[b]?=w.heap[b]?
theorem W7.sub {Z Z':Nat->Prop}{w w':World}(h:W7 Z w w')(hs:∀b,Z' b->Z b):W7 Z' w w':=⟨h.os,h.tape,h.output,h.size,fun b hb=>h.same b (hs b hb)⟩
def Al4 {α:Type}(P:Program)(gf:Nat)(lb:Array Value)(M:List α->α->Array Value->(Nat->Prop)->World->Prop) (S Sp:List α->Prop)(Pre:(Nat->Prop)->World->Prop):Prop:=
 ∀(l:Nat) (J Jx:(Nat->Prop)->List α->World->Prop) (W:World) (Z0:Nat->Prop),(∀b,Z0 b->b<W.heap.size)->Pre Z0 W ->
  (∀Z pre A B,J Z pre A->W7 Z A B->J Z pre B)->(∀Z pre A B,Jx Z pre A->W7 Z A B->Jx Z pre B) ->
  (∀Z pre x args A,J Z pre A->M pre x args Z A->YieldAt Fence.wide 0 P l args A fun e B=>∃Z',JH Z Z' A B ∧
   ((e=.returned (.bool true)∧J Z' (pre++[x]) B)∨(e=.returned (.bool false)∧Jx Z' (pre++[x]) B))) ->
  J Z0 [] W ->
  Calls P gf (#[.func (.yield l) #[] #[]]++lb) W fun e B=>(∃v,e=.returned v)∧∃Z xs,(S xs∧J Z xs B)∨(Sp xs∧Jx Z xs B)
theorem XR {P:Program}{n m l:Nat}{f:FuncId}{tmps:Array Value}{assign body:Code}{w:World}{R:Ending->World->Prop}(h:RoundIn Fence.wide n P l f tmps assign body w R):RoundIn Fence.wide m P l f tmps assign body w R:=
 ⟨h.1,fun c cs _=>h.2 c cs (room_wide _)⟩
def Abi {α:Type}(D:Nat)(I:(Nat->Prop)->List α->World->Prop) (Ix:Code->(Nat->Prop)->List α->World->Prop) (Z:Nat->Prop)(xs:List α)(A:World):Exit->Act->World->Prop:=fun e _ B=>
 ∃Z',JH Z Z' A B∧B.heap[D]?=A.heap[D]?∧B.heap[D+1]?=A.heap[D+1]? ∧
  match e with
  |.normal=>I Z' xs B
  |.ret=>Ix .ret Z' xs B
  |.exit id=>Ix (.exit id) Z' xs B
  |.goto t=>Ix (.goto t) Z' xs B
  |_=>False
theorem Ae0 {α:Type}{P:Program}{n:Nat}{g:Operand}{ps:Array Tmp}{assign body:Code}{Q:Exit->Act->World->Prop}{a:Act}{w:World}{gf:Nat}{lb:Array Value}
  (hg:a.eval g=.func (.func gf) #[] lb) (eg:∀args w,(callFunc gf args).run P w=.ok (.enter gf args) w)
  {M:List α->α->Array Value->(Nat->Prop)->World->Prop} {S Sp:List α->Prop} {Pre:(Nat->Prop)->World->Prop} (hit:Al4 P gf lb M S Sp Pre) {Z0:Nat->Prop} (hZ0:∀b,Z0 b->b<w.heap.size)
  (hPre:∀W:World,W.heap.size=w.heap.size+2->(∀b,b<w.heap.size->W.heap[b]?=w.heap[b]?)->Pre (fun b=>Z0 b∨b=w.heap.size∨b=w.heap.size+1) W)
  (hM:∀pre x args Z A B,M pre x args Z A->A.heap.size<=B.heap.size->(∀b,b<A.heap.size->¬Z b->B.heap[b]?=A.heap[b]?)->M pre x args Z B)
  (hps:∀pre x args Z A,M pre x args Z A->args.size=ps.size)
  (I:(Nat->Prop)->List α->World->Prop) (Ix:Code->(Nat->Prop)->List α->World->Prop)
  (hI:∀Z pre A B,I Z pre A->W7 (fun b=>Z b∧b≠w.heap.size∧b≠w.heap.size+1) A B->I Z pre B)
  (hIx:∀c Z pre A B,Ix c Z pre A->W7 (fun b=>Z b∧b≠w.heap.size∧b≠w.heap.size+1) A B->Ix c Z pre B)
  (h0:∀W,W.heap.size=w.heap.size+2->W7 (fun b=>b<w.heap.size) w W->I (fun b=>Z0 b∨b=w.heap.size∨b=w.heap.size+1) [] W)
  (a₁:Array Value->Act)
  (hassign:∀pre x args Z A (K:Act->World->Prop),M pre x args Z A->K (a₁ args) A->assign.wpIn (Fence.wide.inRound (w.heap.size+1)) 0 P (Exit.then K (fun _ _ _=>False)) { tmps:=(ps.zip args).foldl (fun t (p,v)=>t.setIfInBounds p v) a.tmps,defers:=[] } A)
  (hbody:∀Z pre x args A,Z w.heap.size->Z (w.heap.size+1)->I Z pre A->M pre x args Z A->body.wpIn (Fence.wide.inRound (w.heap.size+1)) 0 P (Abi w.heap.size I Ix Z (pre++[x]) A) (a₁ args) A)
  (hdone:∀Z xs B,S xs->I Z xs B->B.heap[w.heap.size]?=some (.deferred (some []))->Q .normal { a with defers:={ target:=.collected w.heap.size,args:= #[] }::a.defers } B)
  (hstop:∀c Z xs B,Sp xs->Ix c Z xs B->B.heap[w.heap.size]?=some (.deferred (some []))->c.wpIn Fence.wide n P Q { a with defers:={ target:=.collected w.heap.size,args:= #[] }::a.defers } B):
  (Code.rangeFunc g ps assign body).wpIn Fence.wide n P Q a w:=by
 refine wpIn_rangeFunc ?_;intro fn hfn;obtain ⟨rec,hrec⟩:∃rec:LoopState->Option Code->Loop,rec=fun st pe=>{ state:=st,pending:=pe,fn,tmps:=a.tmps,params:=ps,assign,body,defers:=w.heap.size }:=⟨_,rfl⟩
 obtain ⟨D,hD⟩:∃D,w.heap.size=D:=⟨_,rfl⟩;rw [hD] at hI hIx h0 hassign hbody hdone hstop hZ0 hPre;obtain ⟨W1,hW1⟩:∃W1,(w.alloc (.deferred (some []))).alloc (.loop (rec .ready none))=W1:=⟨_,rfl⟩;have hs1:W1.heap.size=D+2:=by rw [←hW1,World.size_alloc,World.size_alloc,hD]
 have hL1:W1.heap[D+1]?=some (.loop (rec .ready none)):=by
  rw [←hW1,←hD];have:=World.alloc_heap_new (w.alloc (.deferred (some []))) (.loop (rec .ready none));rwa [World.size_alloc] at this
 have hK1:W1.heap[D]?=some (.deferred (some [])):=by
  rw [←hW1,←hD];exact (Below.heap_alloc _ _ _ (by simp)).trans (World.alloc_heap_new w _)
 have hst:W7 (fun b=>b<D) w W1:=by
  rw [←hW1,←hD];exact ⟨rfl,rfl,rfl,by simp;omega,fun b hb=>(Below.heap_alloc _ _ _ (by simp;omega)).trans (Below.heap_alloc _ _ _ hb)⟩
 refine ⟨D+1,[{ target:=.collected D,args:= #[] }],W1,{ target:=.fn (.func gf) lb,args:= #[.func (.yield (D+1)) #[] #[]] },W1,gf,
  #[.func (.yield (D+1)) #[] #[]]++lb,W1,?_,?_,fun _ _=>trivial,?_,(fun h=>by cases h),?_⟩
 ·rw [←hW1,hrec,←hD];exact run_enterLoop_outer _ _ _ _ _
 ·simp only [resolve,hg];simp [go_sem]
 ·simp [invoke,go_sem,eg]
 ·have put:∀{Z:Nat->Prop} {A:World} (o:Obj),W7 (fun b=>Z b∧b≠D∧b≠D+1) A (A.putObj (D+1) o):=fun o=>
   ⟨rfl,rfl,rfl,by simp,fun b hb=>World.putObj_heap_other hb.2.2⟩
  refine callsIn_wide.2 (Calls.mono (hit (D+1)
   (fun Z pre A=>(Z D∧Z (D+1))∧I Z pre A∧A.heap[D+1]?=some (.loop (rec .ready none))∧A.heap[D]?=some (.deferred (some [])))
   (fun Z pre A=>(Z D∧Z (D+1))∧∃c,Ix c Z pre A∧A.heap[D+1]?=some (.loop (rec .done (some c)))∧A.heap[D]?=some (.deferred (some [])))
   W1 (fun b=>Z0 b∨b=D∨b=D+1) (fun b hb=>by rw [hs1];exact hb.elim (fun h=>by have:=hZ0 b h;omega) fun h=>by omega) (hPre W1 hs1 (fun b hb=>hst.same b hb)) ?_ ?_ ?_ ?_) ?_)
  ·rintro Z pre A B ⟨hz,hi,hl,hk⟩ hs
   exact ⟨hz,hI Z pre A B hi (hs.sub fun _ h=>h.1),(hs.same _ hz.2).trans hl,(hs.same _ hz.1).trans hk⟩
  ·rintro Z pre A B ⟨hz,c,hi,hl,hk⟩ hs
   exact ⟨hz,c,hIx c Z pre A B hi (hs.sub fun _ h=>h.1),(hs.same _ hz.2).trans hl,(hs.same _ hz.1).trans hk⟩
  ·rintro Z pre x args A ⟨hz,hi,hl,hk⟩ hm
   have hlt:D+1<A.heap.size:=(Array.getElem?_eq_some_iff.1 hl).1;have hy:=run_yield (P:=P) (args:=args) hl (by rw [hrec];exact hps pre x args Z A hm)
   rw [hrec] at hy;refine ⟨fn,_,assign,body,hy,roundIn_of_wpIn hfn (hassign pre x args Z A _ hm ?_)⟩;refine ⟨_,run_beginRound hl (by rw [hrec]),?_⟩
   obtain ⟨A2,hA2⟩:∃A2,A.putObj (D+1) (.loop { rec .ready none with state:=.busy })=A2:=⟨_,rfl⟩;rw [hA2];have hl2:A2.heap[D+1]?=some (.loop { rec .ready none with state:=.busy }):=by rw [←hA2];exact World.putObj_heap_same hlt
   have hk2:A2.heap[D]?=some (.deferred (some [])):=by rw [←hA2];exact (World.putObj_heap_other (by omega)).trans hk
   have hz2:A2.heap.size=A.heap.size:=by rw [←hA2];simp
   have hi2:I Z pre A2:=by rw [←hA2];exact hI Z pre A _ hi (put _)
   have hm2:M pre x args Z A2:=by
    rw [←hA2];exact hM pre x args Z A _ hm (by simp) fun b _ hb=>World.putObj_heap_other fun e=>hb (e ▸ hz.2)
   refine wpIn_mono (hbody Z pre x args A2 hz.1 hz.2 hi2 hm2) ?_
   have fin:∀(jump:Option Code) (W3:World) (Z':Nat->Prop),JH Z Z' A2 W3->W3.heap[D]?=A2.heap[D]?->W3.heap[D+1]?=A2.heap[D+1]? ->
     (Instr.endRound (D+1) jump).run P W3=.ok (.bool jump.isNone) (W3.putObj (D+1) (.loop (rec (if jump.isNone then .ready else .done) jump))) ∧
     (W3.putObj (D+1) (.loop (rec (if jump.isNone then .ready else .done) jump))).heap[D+1]?=some (.loop (rec (if jump.isNone then .ready else .done) jump)) ∧
     (W3.putObj (D+1) (.loop (rec (if jump.isNone then .ready else .done) jump))).heap[D]?=some (.deferred (some [])) ∧
     JH Z Z' A (W3.putObj (D+1) (.loop (rec (if jump.isNone then .ready else .done) jump))):=fun jump W3 Z' ht e1 e2=>by
    have hl3:=e2.trans hl2;have:=run_endRound (P:=P) jump hl3;rw [hrec] at this ⊢;refine ⟨this,World.putObj_heap_same (Array.getElem?_eq_some_iff.1 hl3).1,(World.putObj_heap_other (by omega)).trans (e1.trans hk2),?_⟩
    have hA:A2.os=A.os∧A2.tape=A.tape∧A2.output=A.output:=by rw [←hA2];exact ⟨rfl,rfl,rfl⟩
    refine ⟨ht.os.trans hA.1,ht.tape.trans hA.2.1,ht.output.trans hA.2.2,by have:=ht.size;simp;omega,fun b hb hn=>?_,ht.sub,fun b hb=>by have:=ht.new b hb;rw [hz2] at this;exact this,fun b hb=>by simpa using ht.lt b hb,fun b hb=>?_⟩
    ·have hne:b≠D+1:=fun e=>hn (e ▸ hz.2)
     rw [World.putObj_heap_other hne,ht.keep b (by omega) hn,←hA2,World.putObj_heap_other hne]
    ·by_cases hne:b=D+1
     ·subst hne;unfold bsz;rw [hl];exact Nat.zero_le _
     ·have h5:=ht.bs b (by omega)
      have h6:bsz A2 b=bsz A b:=by unfold bsz;rw [←hA2,World.putObj_heap_other hne]
      have h7:∀o,bsz (W3.putObj (D+1) o) b=bsz W3 b:=fun o=>by unfold bsz;rw [World.putObj_heap_other hne]
      rw [h7,←h6];exact h5
   rintro e a3 W3 ⟨Z',ht,e1,e2,hp⟩
   cases e with
   |normal=>
    obtain ⟨hr,hl4,hk4,ht4⟩:=fin none W3 Z' ht e1 e2;exact ⟨_,_,hr,Z',ht4,.inl ⟨rfl,⟨ht.sub _ hz.1,ht.sub _ hz.2⟩,hI Z' _ _ _ hp (put _),hl4,hk4⟩⟩
   |ret=>
    obtain ⟨hr,hl4,hk4,ht4⟩:=fin (some .ret) W3 Z' ht e1 e2;exact ⟨_,_,hr,Z',ht4,.inr ⟨rfl,⟨ht.sub _ hz.1,ht.sub _ hz.2⟩,.ret,hIx _ Z' _ _ _ hp (put _),hl4,hk4⟩⟩
   |exit id=>
    obtain ⟨hr,hl4,hk4,ht4⟩:=fin (some (.exit id)) W3 Z' ht e1 e2;exact ⟨_,_,hr,Z',ht4,.inr ⟨rfl,⟨ht.sub _ hz.1,ht.sub _ hz.2⟩,.exit id,hIx _ Z' _ _ _ hp (put _),hl4,hk4⟩⟩
   |goto t=>
    obtain ⟨hr,hl4,hk4,ht4⟩:=fin (some (.goto t)) W3 Z' ht e1 e2;exact ⟨_,_,hr,Z',ht4,.inr ⟨rfl,⟨ht.sub _ hz.1,ht.sub _ hz.2⟩,.goto t,hIx _ Z' _ _ _ hp (put _),hl4,hk4⟩⟩
   |panic ch=>exact hp.elim
   |outgrown=>exact hp.elim
  ·exact ⟨⟨.inr (.inl rfl),.inr (.inr rfl)⟩,h0 W1 hs1 hst,hL1,hK1⟩
  ·rintro e W2 ⟨⟨v,rfl⟩,Z,xs,(⟨hS,hz,hi,hl,hk⟩|⟨hSp,hz,c,hi,hl,hk⟩)⟩
   ·exact ⟨none,_,by have:=run_endLoop (P:=P) hl (by rw [hrec];simp);rw [hrec] at this;exact this,hdone Z xs _ hS (hI Z _ _ _ hi (put _)) ((World.putObj_heap_other (by omega)).trans hk)⟩
   ·exact ⟨some c,_,by have:=run_endLoop (P:=P) hl (by rw [hrec];simp);rw [hrec] at this;exact this,hstop c Z xs _ hSp (hIx c Z _ _ _ hi (put _)) ((World.putObj_heap_other (by omega)).trans hk)⟩
def Akj (s:St)(β:Bt):Ew:={ X:=BF s.hp β,L:=fun b _=>BF s.hp β b,pn:=fun _=>False,pt:=fun _=>none,p8:=fun _ h=>h.elim }
theorem Bu.rebase {N:Nat}{w0 w w':World}{X0:Ew}{Y Z':Nat->Prop}{β:Bt}{s:St}{a:Act}(h:Bu N w0 X0 Y β s a w)(ht:JH Y Z' w w')(hns:∀id c,s.hp id≠some (.st c)):Bu N w' (Akj s β) Z' β s a w':=by
 have hW:B5 (Co s.hp β Y) w w':=⟨ht.size,fun b hb hn=>ht.keep b hb fun y=>hn (.inr y),ht.bs⟩
 have hA:∀b,b<w.heap.size->Co s.hp β Z' b->Co s.hp β Y b:=by
  rintro b hb (hx|hz)
  ·exact .inl hx
  ·rcases ht.new b hz with h1|h1
   ·exact .inr h1
   ·omega
 have hsame:∀b,b<w.heap.size->¬Y b->w'.heap[b]?=w.heap[b]?:=ht.keep
 refine ⟨h.dfr,h.tsz,h.tmo,fun i hi=>(h.tms i hi).step hW hA fun _ _=>rfl,fun id bx hbx=>?_,h.inj,fun id b o h1 h2=>Nat.lt_of_lt_of_le (h.blt id b o h1 h2) ht.size,h.wfT,h.wfB,fun b hb=>.inl hb,
  fun id bx b o h1 h2 h3 _ j _=>⟨id,o,by rw [h1];exact h2,h3⟩,fun i hi=>hi.elim,fun id c b o h1=>absurd h1 (hns id c),fun b hz=>?_,ht.lt,⟨rfl,rfl,rfl,⟨Nat.le_refl _,fun _ _ _=>rfl,fun _ _=>Nat.le_refl _⟩,fun _ _ _ _=>⟨rfl,rfl⟩⟩⟩
 ·cases bx with
  |st c=>exact absurd hbx (hns id c)
  |mv=>trivial
  |ar fz cells=>
   rcases h.box id _ hbx with h1|⟨b,o,h1,h2,h3,h4⟩
   ·exact .inl h1
   ·have hlt:b<w.heap.size:=h.blt id b o (by rw [hbx];simp) h1
    have hnY:¬Y b:=by
     cases fz with
     |false=>exact fun y=>h.Yx b y ⟨id,o,by rw [hbx];trivial,h1⟩
     |true=>exact fun y=>h4 rfl (.inr y)
    have hh:=hsame b hlt hnY;have hb':bsz w' b=bsz w b:=by unfold bsz;rw [hh]
    refine .inr ⟨b,o,h1,fun j c hj=>?_,fun hf j hj hjb=>?_,fun hf=>fun hA'=>h4 hf (hA b hlt hA')⟩
    ·obtain ⟨v,hv,hv1,hv2⟩:=h2 j c hj;exact ⟨v,(World.cell?_of_block (a:=(⟨b,o,none⟩:Addr).add j) (by rw [Fn];exact hh)).trans hv,hv1,hv2.step hW hA⟩
    ·rw [hb'] at hjb;have:=h3 hf j hj hjb;rw [←this];unfold World.frozen?;simp only [hh]
 ·rintro ⟨id,o,h1,h2⟩
  have hlt:b<w.heap.size:=h.blt id b o (Cp h1) h2;rcases ht.new b hz with h3|h3
  ·exact h.Yx b h3 ⟨id,o,h1,h2⟩
  ·omega
theorem Bu.stay {N:Nat}{w0 w:World}{X0:Ew}{Y:Nat->Prop}{β:Bt}{s:St}{a:Act}(h:Bu N w0 X0 Y β s a w)(hd:∀b,Y b->¬X0.X b):W7 Y w0 w:=
 ⟨h.fr.os,h.fr.tape,h.fr.output,h.fr.step.size,fun b hb=>h.fr.step.keep b (h.Ylt b hb) (hd b hb)⟩
end
section
open Go.IntKind (wrap)
open Go Go.RowKit
abbrev WF (ro:Option Nat):Fence:={ fn:=fun _=>True,depth:=none,alive:=false,round:=ro }
def TU (o:Oper):Bool:=
 match o.op with
 |.defer _=>false
 |_=>true
def okR:Code->Bool
 |.region _ ops _=>ops.toList.all TU
 |.seq a b=>okR a&&okR b
 |.cond _ a b=>okR a&&okR b
 |.block _ c=>okR c
 |.loop c=>okR c
 |.skip=>true
 |.exit _=>true
 |.ret=>true
 |_=>false
theorem CN {P:Program}{o:Oper}{a:Act}{w:World}{next:Act->World->Prop}{Q:Exit->Act->World->Prop}{ro:Option Nat}{n:Nat}(hd:TU o=true)(h:o.wp P a w next Q):o.wpIn (WF ro) n P a w next Q:=by
 refine ⟨fun _ _=>trivial,?_⟩
 have e:o.semAt (WF ro).round a.eval=execOp a.eval o:=Oper.semAt_eq _ _ _ (by intro c hc;unfold TU at hd;rw [hc] at hd;cases hd)
 rw [e];unfold Oper.wp at h
 revert h
 generalize (execOp a.eval o).run P w=q;intro h;cases q with
 |halt x w'=>cases x<;>first|exact h|exact h.elim
 |ok v w'=>
  cases v with
  |value v=>exact h
  |skip=>exact h
  |defer d=>exact h
  |enter f args=>exact ⟨(fun h=>by cases h),(callsIn_wide.2 h:CallsIn Fence.wide (n-1) P f args w' _)⟩
  |row row args=>exact ⟨(fun h=>by cases h),fun c cs _=>let ⟨v,w',r,s⟩:=h c cs;⟨v,w',r,stepsIn_wide.2 s⟩⟩
  |_=>exact h.elim
theorem SJ {P:Program}{ops:Array Oper}{Q:Exit->Act->World->Prop}{K K':Act->World->Prop}{ro:Option Nat}{i n:Nat}{a:Act}{w:World}(hQo:¬LetsOut Q)(hnd:ops.toList.all TU=true)(hK:∀a w,K a w->K' a w)(h:wpOp P ops Q i K a w):wpOpIn (WF ro) n P ops Q i K' a w:=by
 unfold wpOp at h;unfold wpOpIn;cases ho:ops[i]? with
 |none=>rw [ho] at h;exact hK _ _ h
 |some o=>
  rw [ho] at h;simp only at h ⊢;have hn:TU o=true:=List.all_eq_true.1 hnd o (Array.mem_toList_iff.2 (Array.mem_of_getElem? ho));by_cases hw:Region.wanted o (yielded ops a.tmps)=true
  ·rw [B4 hw] at h ⊢;rcases h with h|h
   ·exact CN hn (Oper.wp_mono hK h)
   ·exact absurd h.2 hQo
  ·rw [A6 hw] at h ⊢;exact ⟨fun _ _=>trivial,hK _ _ h⟩
theorem Qu {P:Program}{ops:Array Oper}{Q:Exit->Act->World->Prop}{ro:Option Nat}{n:Nat}{md:Region.Mode}(hQo:¬LetsOut Q)(hnd:ops.toList.all TU=true):∀(fuel:Nat)(listed:Array Bool)(a:Act)(w:World),wpAny P md ops Q fuel listed a w->wpAnyIn (WF ro) n P md ops Q fuel listed a w
 |0,_,_,_,h=>h
 |fuel+1,_,_,_,h=>⟨h.1,fun i hi=>SJ hQo hnd (fun a w=>Qu hQo hnd fuel _ a w) (h.2 i hi)⟩
section
variable {P:Program} {C:G2} {N:Nat} {call:Ai} {w0:World} {X0:Ew} {Y:Nat->Prop} {R:Type} {r:R} {β:Bt} {s:St} {a:Act} {w:World} {o:Oper} {ops:Array Oper} {K:St->Option R} {ro:Option Nat} {n:Nat}
theorem FC (h:Bu N w0 X0 Y β s a w){G:Ug}(hNG:HW P G w0 X0)(hcall:∀f args res,call f args=some res->Cy G P f args res)(hnd:TU o=true)(hk:Dj C P N call ops o s K=some r):
  ∃s',K s'=some r∧∀(next:Act->World->Prop) (Q:Exit->Act->World->Prop),(∀a' w' β',Bu N w0 X0 Y β' s' a' w'->next a' w') ->
   if Region.wanted o (yielded ops a.tmps) then o.wpIn (WF ro) n P a w next Q else (∀f,o.about P w a.eval=some f->(WF ro).fn f)∧next (a.put o.dst undef) w:=by
 rw [HL] at hk
 have hw:∀b,Ga ops o s.tm=some b->Region.wanted o (yielded ops a.tmps)=b:=by
  intro b hb;unfold Ga at hb;unfold Region.wanted;cases hg:o.guard with
  |none=>rw [hg] at hb;simpa using hb
  |some q=>
   obtain ⟨j,want⟩:=q;rw [hg] at hb;simp only at hb ⊢;cases hd:(ops[j]?).bind (·.dst) with
   |none=>rw [hd] at hb;cases hb
   |some d=>
    rw [hd] at hb;simp only at hb;split at hb
    ·rename_i b' ht;rw [Td h hd ht];simp at hb;rw [←hb];cases b'<;>cases want<;>rfl
    ·rename_i ht;rw [Td h hd ht];simp at hb;rw [hb];rfl
    ·cases hb
 split at hk
 ·cases hk
 ·rename_i hv;obtain ⟨s',hs',hn⟩:=LC h hNG hcall hk;refine ⟨s',hs',fun next Q hnext=>?_⟩
  simp only [hw _ hv,if_true];exact CN hnd (hn next Q hnext)
 ·rename_i hv;obtain ⟨hd,hk⟩:=Aq hk;refine ⟨_,hk,fun next Q hnext=>?_⟩
  simp only [hw _ hv];exact ⟨fun _ _=>trivial,hnext _ _ β (h.put hd (A4.sc _) (by simp [Bq,B8,Ar]))⟩
theorem Xn {G:Ug}(hNG:HW P G w0 X0)(hcall:∀f args res,call f args=some res->Cy G P f args res){Q:Exit->Act->World->Prop}(hQ:∀s' a' w' β',K s'=some r->Bu N w0 X0 Y β' s' a' w'->Q .normal a' w'):
  ∀(li:List Nat) (os:List Oper),li.length=os.length->(∀(k i:Nat),li[k]?=some i->ops[i]?=os[k]?)->os.all TU=true->∀{s:St} {a:Act} {w:World} {β:Bt},Bu N w0 X0 Y β s a w->Mx C P N call ops os s K=some r->wpOpsIn (WF ro) n P ops Q li a w
 |[],[],_,_,_,s,a,w,β,h,hk=>by
  show Q .normal a w;exact hQ s a w β hk h
 |[],_::_,hl,_,_,_,_,_,_,_,_=>by cases hl
 |_::_,[],hl,_,_,_,_,_,_,_,_=>by cases hl
 |i::li,o::os,hl,hi,hnd,s,a,w,β,h,hk=>by
  obtain ⟨s1,hk,h⟩:=Sx h hk;rw [List.all_cons,Bool.and_eq_true] at hnd;have hio:ops[i]?=some o:=by simpa using hi 0 i rfl
  obtain ⟨s',hs',hn⟩:=FC (ro:=ro) (n:=n) h hNG hcall hnd.1 hk;unfold wpOpsIn;rw [hio];exact hn _ _ fun a' w' β' h'=>Xn hNG hcall hQ li os (by simpa using hl) (fun k j hj=>by simpa using hi (k+1) j (by simpa using hj)) hnd.2 h' hs'
theorem FW {c:Code}{Q:Exit->Act->World->Prop}{F:(St->Option R)->St->Option R} {nm:St->(St->Option R)->Option R}
  (hnm:∀{β s a w} {K:St->Option R},Bu N w0 X0 Y β s a w->nm s K=some r->∃β' s',K s'=some r∧Bu N w0 X0 Y β' s' a w)
  (hF:∀{β s a w} {K:St->Option R}{Q':Act->World->Prop},Bu N w0 X0 Y β s a w->F K s=some r->(∀s' a' w' β',K s'=some r->Bu N w0 X0 Y β' s' a' w'->Q' a' w')->c.wpIn (WF ro) n P (Exit.then Q' Q) a w):
  ∀(m:Nat) {β s a w},Bu N w0 X0 Y β s a w->XQ F nm m s=some r->Code.roundsIn (WF ro) n P c Q m a w
 |0,_,_,_,_,_,hk=>by cases hk
 |m+1,β,s,a,w,h,hk=>by
  rw [roundsIn_succ];refine hF h hk fun s' a' w' β' hk' h'=>?_
  obtain ⟨β1,s1,hk1,h1⟩:=hnm h' hk';exact FW hnm hF m h1 hk1
theorem UW {G:Ug}(hNG:HW P G w0 X0)(hcall:∀f args res,call f args=some res->Cy G P f args res)(hm:P.follows .mixedOrders=true){fu:Nat}:
  ∀(c:Code),okR c=true->∀{ln:Nat} {lx:Nat->Nat} {lr:Nat} {kn:St->Option R} {kx:Nat->St->Option R} {kr:St->Option R} {β:Bt} {s:St} {a:Act} {w:World} {Q:Exit->Act->World->Prop},(∀a w,¬Q .outgrown a w)->Bu N w0 X0 Y β s a w ->
   J5 C P fu N call c ln lx lr kn kx kr s=some r->(∀s' a' w' β',kn s'=some r->Bu N w0 X0 Y β' s' a' w'->Q .normal a' w') ->
   (∀id s' a' w' β',kx id s'=some r->Bu N w0 X0 Y β' s' a' w'->Q (.exit id) a' w')->(∀s' a' w' β',kr s'=some r->Bu N w0 X0 Y β' s' a' w'->Q .ret a' w')->c.wpIn (WF ro) n P Q a w:=by
 intro c
 induction c with
 |skip=>intro _ ln lx lr kn kx kr β s a w Q hQo h hk hn hx hr;exact wpIn_skip (hn s a w β hk h)
 |region id ops draw=>
  intro ho ln lx lr kn kx kr β s a w Q hQo h hk hn hx hr;unfold okR at ho;unfold J5 at hk;cases draw
  ·simp only [NM,Bool.false_and,cond_false] at hk;refine wpIn_region (Xn hNG hcall hn (List.range ops.size) ops.toList (by simp) (fun k i hi=>?_) ho h hk)
   rw [List.getElem?_range] at hi
   ·simp at hi;subst hi;simp
   ·rcases Nat.lt_or_ge k ops.size with h'|h'
    ·exact h'
    ·rw [List.getElem?_eq_none (by simpa using h')] at hi;cases hi
  ·have hLo:¬LetsOut Q:=fun ⟨a,w,q⟩=>hQo a w q
   simp only [NM,Ais,Bool.true_and,cond_true] at hk;cases hb:MN C P ops<;>rw [hb] at hk
   ·obtain ⟨hb',hk1⟩:=Aq (show Ap _ _=some r from hk)
    exact wpIn_region_any hm (Qu hLo ho _ _ _ _ (Th h hNG hcall hm hb' hk1 hn))
   ·exact wpIn_region_any hm (Qu hLo ho _ _ _ _ (R5 h hNG hcall hm hb hk hn))
 |seq c1 c2 ih1 ih2=>
  intro ho ln lx lr kn kx kr β s a w Q hQo h hk hn hx hr;unfold okR at ho;rw [Bool.and_eq_true] at ho;unfold J5 at hk
  refine wpIn_seq (ih1 ho.1 (fun a w=>hQo a w) h hk (fun s' a' w' β' hk' h'=>by
    cases hc:Acd P c1 c2
    ·rw [hc] at hk';exact ih2 ho.2 hQo h' hk' hn hx hr
    ·rw [hc] at hk';cases hq:BZ c1 c2
     ·rw [hq] at hk';obtain ⟨β1,s1,hk1,h1⟩:=De h' (show Kc _ _ _ _=some r from hk')
      exact ih2 ho.2 hQo h1 (Wn hk1) hn hx hr
     ·rw [hq] at hk';obtain ⟨β1,s1,hk1,h1⟩:=GI h' (show UZ _ _ _ _=some r from hk')
      exact ih2 ho.2 hQo h1 (Wn hk1) hn hx hr) (fun id s' a' w' β' hk' h'=>hx id s' a' w' β' hk' h') (fun s' a' w' β' hk' h'=>hr s' a' w' β' hk' h'))
 |cond c c1 c2 ih1 ih2=>
  intro ho ln lx lr kn kx kr β s a w Q hQo h hk hn hx hr;unfold okR at ho;rw [Bool.and_eq_true] at ho;unfold J5 at hk;rcases FS h hk with ⟨hc,hk1⟩|⟨hc,hk1⟩
  ·exact wpIn_cond_true hc (ih1 ho.1 hQo h hk1 hn hx hr)
  ·exact wpIn_cond_false hc (ih2 ho.2 hQo h hk1 hn hx hr)
 |block id c ih=>
  intro ho ln lx lr kn kx kr β s a w Q hQo h hk hn hx hr;unfold okR at ho;unfold J5 at hk;refine wpIn_block (ih ho (fun a w=>hQo a w) h hk (fun s' a' w' β' hk' h'=>hn s' a' w' β' hk' h') (fun j s' a' w' β' hk' h'=>?_) (fun s' a' w' β' hk' h'=>hr s' a' w' β' hk' h'))
  show (if j=id then _ else _)
  by_cases e:j=id
  ·subst e;rw [B4 rfl];rw [Nat.beq_refl] at hk';exact hn s' a' w' β' hk' h'
  ·rw [A6 e]
   have:Nat.beq j id=false:=by
    cases hb:Nat.beq j id
    ·rfl
    ·exact absurd (Nat.eq_of_beq_eq_true hb) e
   rw [this] at hk';exact hx j s' a' w' β' hk' h'
 |loop c ih=>
  intro ho ln lx lr kn kx kr β s a w Q hQo h hk hn hx hr;unfold okR at ho;unfold J5 at hk;obtain ⟨β1,s1,hk1,h1⟩:=De h hk;refine wpIn_loop_rounds fu (FW (fun h hk=>De h hk) (fun h hk hQ=>?_) fu h1 hk1)
  exact ih ho (fun a w=>hQo a w) h hk hQ (fun id s' a' w' β' hk' h'=>hx id s' a' w' β' hk' h') (fun s' a' w' β' hk' h'=>hr s' a' w' β' hk' h')
 |«exit» id=>intro _ ln lx lr kn kx kr β s a w Q hQo h hk hn hx hr;exact wpIn_exit (hx id s a w β hk h)
 |ret=>intro _ ln lx lr kn kx kr β s a w Q hQo h hk hn hx hr;exact wpIn_ret (hr s a w β hk h)
 |_=>intro ho;cases ho
end
end
section
open Go.IntKind (wrap)
open Go Go.RowKit
theorem Nx:∀(l:List (Nat × PV)) (i:Nat),lk l i=.top∨∃q∈l,q.1=i∧lk l i=q.2
 |[],_=>.inl rfl
 |(j,p)::l,i=>by
  by_cases e:i=j
  ·subst e;refine .inr ⟨(i,p),by simp,rfl,?_⟩
   simp [lk,Nat.beq_refl]
  ·have hb:Nat.beq i j=false:=by
    cases h:Nat.beq i j
    ·rfl
    ·exact absurd (Nat.eq_of_beq_eq_true h) e
   have hb':Nat.beq j i=false:=by
    cases h:Nat.beq j i
    ·rfl
    ·exact absurd (Nat.eq_of_beq_eq_true h).symm e
   have h1:lk ((j,p)::l) i=lk l i:=by simp [lk,hb,hb']
   rw [h1];rcases Nx l i with h|⟨q,hq,h2,h3⟩
   ·exact .inl h
   ·exact .inr ⟨q,List.mem_cons_of_mem _ hq,h2,h3⟩
theorem Q7:∀(l:List (Nat × Bl)) (i:Nat),B3 l i=none∨∃q∈l,q.1=i∧B3 l i=some q.2
 |[],_=>.inl rfl
 |(j,p)::l,i=>by
  by_cases e:i=j
  ·subst e;refine .inr ⟨(i,p),by simp,rfl,?_⟩
   simp [B3,Nat.beq_refl]
  ·have hb:Nat.beq i j=false:=by
    cases h:Nat.beq i j
    ·rfl
    ·exact absurd (Nat.eq_of_beq_eq_true h) e
   have hb':Nat.beq j i=false:=by
    cases h:Nat.beq j i
    ·rfl
    ·exact absurd (Nat.eq_of_beq_eq_true h).symm e
   have h1:B3 ((j,p)::l) i=B3 l i:=by simp [B3,hb,hb']
   rw [h1];rcases Q7 l i with h|⟨q,hq,h2,h3⟩
   ·exact .inl h
   ·exact .inr ⟨q,List.mem_cons_of_mem _ hq,h2,h3⟩
theorem Ado {P:Program}{a:Act}{w:World}{o:Oper}{c:Call}{t l:Nat}(ho:o.op=.call c)(hc:c.callee=.value (.tmp t)) (ht:a.eval (.tmp t)=.func (.yield l) #[] #[]) {r:Result Next}(hy:(Instr.yield l (c.args.map a.eval)).run P w=r):
  (execOp a.eval o).run P w=r:=by
 unfold execOp;rw [ho];simp [resolve,hc,ht,Deferred.ofValue,invoke,hy]
section
variable {P:Program} {C:G2} {N:Nat} {call:Ai} {w0:World} {X0:Ew} {Y:Nat->Prop} {R:Type} {r:R} {β:Bt} {s:St} {a:Act} {w:World} {o:Oper} {ops:Array Oper} {K:St->Option R} {ro:Option Nat} {n:Nat}
theorem Bu.part (h:Bu N w0 X0 Y β s a w)(tm':Nat->PV)(hp':Nat->Option Bl)(ht:∀i,tm' i=.top∨tm' i=s.tm i)(hh:∀id,hp' id=none∨hp' id=s.hp id)
  (hw:∀i,i<N->∀id∈Bq (tm' i),hp' id≠none) (hwB:∀id cells,hp' id=some (.st cells)->∀c∈cells,∀id'∈Ar c,hp' id'≠none) (hpin:∀i,X0.pn i->hp' (Cs N i)≠none):Bu N w0 X0 Y β ⟨tm',hp'⟩ a w:=by
 have hX:∀b,BF hp' β b->BF s.hp β b:=by
  rintro b ⟨id,o,h1,h2⟩
  rcases hh id with e|e
  ·rw [e] at h1;exact h1.elim
  ·rw [e] at h1;exact ⟨id,o,h1,h2⟩
 have hA:∀b,Co hp' β Y b->Co s.hp β Y b:=fun b hb=>hb.elim (fun x=>.inl (hX b x)) .inr
 have hs:∀{id bx},hp' id=some bx->s.hp id=some bx:=by
  intro id bx e;rcases hh id with e'|e'
  ·rw [e'] at e;cases e
  ·rw [←e'];exact e
 have hn:∀{id},hp' id≠none->s.hp id≠none:=by
  intro id e;rcases hh id with e'|e'
  ·exact absurd e' e
  ·rw [←e'];exact e
 have hl:∀{id},Ca (hp' id)->Ca (s.hp id):=by
  intro id e;rcases hh id with e'|e'
  ·rw [e'] at e;exact e.elim
  ·rw [←e'];exact e
 have hst:B5 (Co s.hp β Y) w w:=⟨Nat.le_refl _,fun _ _ _=>rfl,fun _ _=>Nat.le_refl _⟩
 refine ⟨h.dfr,h.tsz,fun i hi=>?_,fun i hi=>?_,fun id bx hbx=>?_,fun id id' b o o' h1 h2=>h.inj id id' b o o' (hl h1) (hl h2),fun id b o h1 h2=>h.blt id b o (hn h1) h2,hw,hwB,fun b hb=>h.ownd b (hX b hb),fun id bx b o h1 h2 h3 h4=>h.rngB id bx b o (hs h1) h2 h3 h4,
  fun i hi=>⟨hpin i hi,(h.pin i hi).2⟩,fun id c b o h1=>h.stp id c b o (hs h1),fun b hy hx=>h.Yx b hy (hX b hx),h.Ylt,h.fr⟩
 ·rcases ht i with e|e
  ·exact e
  ·exact e.trans (h.tmo i hi)
 ·show Dl w (Co hp' β Y) β (tm' i) _;rcases ht i with e|e
  ·rw [e];exact A4.top _
  ·rw [e];exact (h.tms i hi).step hst (fun b _=>hA b) fun _ _=>rfl
 ·have h0:=h.box id bx (hs hbx);exact h0.step' hA
theorem Bu.pick (h:Bu N w0 X0 Y β s a w)(l:List (Nat × PV)) (bl:List (Nat × Bl)) (hl:∀q∈l,q.2=s.tm q.1)(hb:∀q∈bl,some q.2=s.hp q.1)
  (hw:∀q∈l,∀id∈Bq q.2,B3 bl id≠none)(hwB:∀q∈bl,∀cells,q.2=.st cells->∀c∈cells,∀id'∈Ar c,B3 bl id'≠none)(hpin:∀i,X0.pn i->B3 bl (Cs N i)≠none):Bu N w0 X0 Y β ⟨lk l,B3 bl⟩ a w:=by
 refine h.part (lk l) (B3 bl) (fun i=>?_) (fun id=>?_) (fun i _ id hid=>?_) (fun id cells e=>?_) hpin
 ·rcases Nx l i with e|⟨q,hq,h1,h2⟩
  ·exact .inl e
  ·exact .inr (by rw [h2,hl q hq,h1])
 ·rcases Q7 bl id with e|⟨q,hq,h1,h2⟩
  ·exact .inl e
  ·exact .inr (by rw [h2,hb q hq,h1])
 ·rcases Nx l i with e|⟨q,hq,h1,h2⟩
  ·rw [e] at hid;simp [Bq,B8,Ar] at hid
  ·rw [h2] at hid;exact hw q hq id hid
 ·rcases Q7 bl id with e'|⟨q,hq,h1,h2⟩
  ·rw [e'] at e;cases e
  ·rw [h2] at e;exact hwB q hq cells (by injection e)
theorem Mb {G:Ug}(hNG:HW P G w0 X0)(hcall:∀f args res,call f args=some res->Cy G P f args res){Q:Exit->Act->World->Prop}{rest:List Nat}(hQ:∀s' a' w' β',K s'=some r->Bu N w0 X0 Y β' s' a' w'->wpOpsIn (WF ro) n P ops Q rest a' w'):
  ∀(li:List Nat) (os:List Oper),li.length=os.length->(∀(k i:Nat),li[k]?=some i->ops[i]?=os[k]?)->os.all TU=true->∀{s:St} {a:Act} {w:World} {β:Bt},Bu N w0 X0 Y β s a w->Mx C P N call ops os s K=some r->wpOpsIn (WF ro) n P ops Q (li++rest) a w
 |[],[],_,_,_,s,a,w,β,h,hk=>hQ s a w β hk h
 |[],_::_,hl,_,_,_,_,_,_,_,_=>by cases hl
 |_::_,[],hl,_,_,_,_,_,_,_,_=>by cases hl
 |i::li,o::os,hl,hi,hnd,s,a,w,β,h,hk=>by
  obtain ⟨s1,hk,h⟩:=Sx h hk;rw [List.all_cons,Bool.and_eq_true] at hnd;have hio:ops[i]?=some o:=by simpa using hi 0 i rfl
  obtain ⟨s',hs',hn⟩:=FC (ro:=ro) (n:=n) h hNG hcall hnd.1 hk;rw [List.cons_append];unfold wpOpsIn;rw [hio];exact hn _ _ fun a' w' β' h'=>Mb hNG hcall hQ li os (by simpa using hl) (fun k j hj=>by simpa using hi (k+1) j (by simpa using hj)) hnd.2 h' hs'
end
end
section
open Go.IntKind (wrap)
open Go Go.RowKit
abbrev S0 (ds:List Deferred)(a:Act):Act:={ a with defers:=a.defers++ds }
def TD (ds:List Deferred)(Q:Exit->Act->World->Prop):Exit->Act->World->Prop:=fun e a w=>∃a0:Act,a=S0 ds a0∧Q e a0 w
section
variable {P:Program} {ops:Array Oper} {Q:Exit->Act->World->Prop} {ro:Option Nat} {n:Nat} {ds:List Deferred}
theorem Pd (a:Act)(d:Option Tmp)(v:Value):(S0 ds a).put d v=S0 ds (a.put d v):=by cases d<;>rfl
theorem Aja (h:LetsOut Q):LetsOut (TD ds Q):=let ⟨a,w,q⟩:=h;⟨_,w,a,rfl,q⟩
theorem Aeg {o:Oper}{a:Act}{w:World}{K K':Act->World->Prop}(hK:∀a w,K a w->K' (S0 ds a) w) (h:o.wpIn (WF ro) n P a w K Q):o.wpIn (WF ro) n P (S0 ds a) w K' (TD ds Q):=by
 refine ⟨fun _ _=>trivial,?_⟩
 have h:=h.2;show o.uponIn _ _ _ _ _ _ ((o.semAt (WF ro).round a.eval).run P w);generalize (o.semAt (WF ro).round a.eval).run P w=q at h;cases q with
 |halt x w'=>cases x<;>first|exact ⟨a,rfl,h⟩|exact h.elim
 |ok v w'=>
  cases v with
  |value v=>show K' ((S0 ds a).put o.dst v) w';rw [Pd];exact hK _ _ h
  |skip=>show K' ((S0 ds a).put o.dst undef) w';rw [Pd];exact hK _ _ h
  |defer d=>
   show K' (({ (S0 ds a) with defers:=d::(S0 ds a).defers }:Act).put o.dst undef) w';rw [show ({ (S0 ds a) with defers:=d::(S0 ds a).defers }:Act)=S0 ds { a with defers:=d::a.defers } from rfl,Pd]
   exact hK _ _ h
  |enter f args=>
   refine ⟨h.1,h.2.mono ?_⟩;intro e w'' he;cases e with
   |returned v=>show K' ((S0 ds a).put o.dst v) w'';rw [Pd];exact hK _ _ he
   |panicked c=>exact ⟨a,rfl,he⟩
   |outgrown=>exact Aja he
  |row row args=>
   refine ⟨h.1,h.2.mono ?_⟩;intro v w'' he;show K' ((S0 ds a).put o.dst v) w'';rw [Pd];exact hK _ _ he
  |round l f tmps assign body=>
   refine ⟨h.1,h.2.mono ?_⟩;intro e w'' he;cases e with
   |returned v=>show K' ((S0 ds a).put o.dst v) w'';rw [Pd];exact hK _ _ he
   |panicked c=>exact ⟨a,rfl,he⟩
   |outgrown=>exact Aja he
  |_=>exact h.elim
theorem Si:∀(li:List Nat){a:Act}{w:World},wpOpsIn (WF ro) n P ops Q li a w->wpOpsIn (WF ro) n P ops (TD ds Q) li (S0 ds a) w
 |[],a,w,h=>⟨a,rfl,h⟩
 |i::li,a,w,h=>by
  rw [wpOpsIn_cons] at h ⊢;unfold wpOpIn at h ⊢;cases ho:ops[i]? with
  |none=>rw [ho] at h;exact Si li h
  |some o=>
   rw [ho] at h;simp only at h ⊢;by_cases hw:Region.wanted o (yielded ops a.tmps)=true
   ·rw [B4 hw] at h ⊢;exact Aeg (fun a w=>Si li) h
   ·rw [A6 hw] at h ⊢;refine ⟨fun _ _=>trivial,?_⟩
    rw [Pd];exact Si li h.2
end
structure ZX (w w':World):Prop where
 os:w'.os=w.os
 tape:w'.tape=w.tape
 output:w'.output=w.output
 size:w'.heap.size=w.heap.size
 cell:∀a,w'.cell? a=w.cell? a
 frz:∀a,w'.frozen? a=w.frozen? a
 bs:∀b,bsz w' b=bsz w b
theorem A4.same {w w':World}{A:Nat->Prop}(h:ZX w w'){p:PV}{v:Value}(t:A4 w A p v):A4 w' A p v:=by
 induction t with
 |sc v=>exact .sc v
 |top v=>exact .top v
 |ub b=>exact .ub b
 |lnil z es=>exact .lnil z es
 |lemp es a cap=>exact .lemp es a cap
 |lst es n cells a cap f hs hb hA1 hn hc h1 hr ih=>exact .lst es n cells a cap f hs (by rw [h.size];exact hb) hA1 hn (fun j c hj=>by rw [h.cell];exact hc j c hj) h1 (fun j c hj=>ih j c hj)
theorem OW.same {w w':World}{A:Nat->Prop}(h:ZX w w'){a:Addr}{c:List PV}(t:OW w A a c):OW w' A a c:=fun j x hj=>by
 obtain ⟨v,h1,h2,h3⟩:=t j x hj;exact ⟨v,by rw [h.cell];exact h1,h2,h3.same h⟩
theorem B6.same {w w':World}{A:Nat->Prop}{β:Nat->Option (Nat × Nat)} (h:ZX w w'){p:PV}{v:Value}(t:B6 w A β p v):B6 w' A β p v:=by
 cases p with
 |view id es off n=>
  rcases t with t|⟨b,o,x,cap,h1,h2,hx,h3,h4,h5⟩
  ·exact .inl t
  ·exact .inr ⟨b,o,x,cap,h1,h2,hx,h3,by rw [h.bs];exact h4,by rw [h.size];exact h5⟩
 |ptr id off=>exact t
 |iptr c off=>
  obtain ⟨a,h1,h2,h3,h4,h5⟩:=t;exact ⟨a,h1,h2,by rw [h.size];exact h3,h4,h5.same h⟩
 |_=>exact A4.same h t
theorem Bj.imp' {α β:Type}{R S:α->β->Prop}{zs:List α}{bs:List β}(h:Bj R zs bs)(f:∀a b,R a b->S a b):Bj S zs bs:=h.mono f
theorem Gg.same {w w':World}{A:Nat->Prop}{β:Nat->Option (Nat × Nat)} (h:ZX w w'){p:PV}{v:Value}(t:Gg w A β p v):Gg w' A β p v:=by
 cases p with
 |agg cs=>obtain ⟨vs,h1,h2⟩:=t;exact ⟨vs,h1,h2.imp' fun _ _=>B6.same h⟩
 |_=>exact (Te (by intro cs e;cases e)).2 (B6.same h ((Te (by intro cs e;cases e)).1 t))
theorem Dl.same {w w':World}{A:Nat->Prop}{β:Nat->Option (Nat × Nat)} (h:ZX w w'){p:PV}{v:Value}(t:Dl w A β p v):Dl w' A β p v:=by
 cases p with
 |tup cs=>obtain ⟨vs,h1,h2⟩:=t;exact ⟨vs,h1,h2.imp' fun _ _=>Gg.same h⟩
 |_=>exact (Ns (by intro cs e;cases e)).2 (Gg.same h ((Ns (by intro cs e;cases e)).1 t))
theorem Bu.same {N:Nat}{w0 w w':World}{X0:Ew}{Y:Nat->Prop}{β:Bt}{s:St}{a:Act}(h:Bu N w0 X0 Y β s a w)(hs:ZX w w')(h0:∀b,b<w0.heap.size->w'.heap[b]?=w.heap[b]?):Bu N w0 X0 Y β s a w':=by
 refine ⟨h.dfr,h.tsz,h.tmo,fun i hi=>(h.tms i hi).same hs,fun id bx e=>?_,h.inj,fun id b o h1 h2=>by rw [hs.size];exact h.blt id b o h1 h2,h.wfT,h.wfB,h.ownd,h.rngB,h.pin,h.stp,h.Yx,h.Ylt,
  ⟨hs.os.trans h.fr.os,hs.tape.trans h.fr.tape,hs.output.trans h.fr.output,⟨by rw [hs.size];exact h.fr.step.size,fun b hb hn=>(h0 b hb).trans (h.fr.step.keep b hb hn),fun b hb=>by rw [hs.bs];exact h.fr.step.bs b hb⟩,fun b j hb hn=>by rw [hs.cell,hs.frz];exact h.fr.rng b j hb hn⟩⟩
 have h1:=h.box id bx e;cases bx with
 |st c=>
  obtain ⟨b,o,g1,g2,g3⟩:=h1;refine ⟨b,o,g1,fun j c hj=>?_,fun j hj=>by rw [hs.frz];exact g3 j hj⟩
  obtain ⟨v,k1,k2⟩:=g2 j c hj;exact ⟨v,by rw [hs.cell];exact k1,k2.same hs⟩
 |ar fz c=>
  rcases h1 with h1|⟨b,o,g1,g2,g3,g4⟩
  ·exact .inl h1
  ·exact .inr ⟨b,o,g1,g2.same hs,fun hf j hj hjb=>by rw [hs.frz];exact g3 hf j hj (by rw [←hs.bs];exact hjb),g4⟩
 |mv=>trivial
theorem WE {w:World}{D:Nat}{x y:Option (List Deferred)} (h:w.heap[D]?=some (.deferred x)):ZX w (w.putObj D (.deferred y)):=by
 have hD:D<w.heap.size:=(Array.getElem?_eq_some_iff.1 h).1;have hs:(w.putObj D (.deferred y)).heap[D]?=some (.deferred y):=World.putObj_heap_same hD;refine ⟨rfl,rfl,rfl,by simp,fun a=>?_,fun a=>?_,fun b=>?_⟩
 ·by_cases e:a.block=D
  ·unfold World.cell?;rw [e,hs,h]
  ·exact World.cell?_of_block (World.putObj_heap_other e)
 ·by_cases e:a.block=D
  ·unfold World.frozen?;rw [e,hs,h]
  ·unfold World.frozen?;rw [World.putObj_heap_other e]
 ·by_cases e:b=D
  ·subst e;unfold bsz;rw [hs,h]
  ·unfold bsz;rw [World.putObj_heap_other e]
end
section
open Go.IntKind (wrap)
open Go Go.RowKit
def sL:Code->Code
 |.seq a _=>a
 |c=>c
def sR:Code->Code
 |.seq _ b=>b
 |c=>c
def sB:Code->Code
 |.block _ c=>c
 |.loop c=>c
 |c=>c
def sF:Code->Code
 |.rangeFunc _ _ _ b=>b
 |c=>c
def sA:Code->Code
 |.rangeFunc _ _ a _=>a
 |c=>c
def Mm:Code->Array Oper
 |.region _ ops _=>ops
 |_=> #[]
noncomputable abbrev Zx:Code:=Bw Tryz.f107
noncomputable abbrev LS:Code:=Bw Tryz.f37
def CS:G2:={ CB with shr:=fun _=>true }
noncomputable abbrev QC (N:Nat)(call:Ai)(c:Code)(L:Nat)(s:St):Option (Nat × St):=
 J5 CB Tryz.prog 2000 N call c L (fun _=>L) 0 (fun s=>Kc N L s fun s'=>some (0,s')) (fun id s=>Kc N L s fun s'=>some (id+1,s')) (fun _=>none) s
section
variable {N:Nat} {w0:World} {X0:Ew} {Y:Nat->Prop} {β:Bt} {s s1:St} {a:Act} {w:World}
theorem D0 {G:Ug}(hNG:HW Tryz.prog G w0 X0)(hm:Tryz.prog.follows .mixedOrders=true){call:Ai}(hcall:∀f args res,call f args=some res->Cy G Tryz.prog f args res){c:Code}{L t:Nat}{Q:Exit->Act->World->Prop}(h:Bu N w0 X0 Y β s a w)
  (hk:QC N call c L s=some (t,s1)) (hQ:∀a' w' β',Bu N w0 X0 Y β' s1 a' w'->match t with|0=>Q .normal a' w'|id+1=>Q (.exit id) a' w'):c.wp Tryz.prog Q a w:=by
 refine KW hNG hcall hm c h hk (fun s' a' w' β' h1 h2=>?_) (fun id s' a' w' β' h1 h2=>?_) (fun s' a' w' β' h1 h2=>by cases h1)
 ·obtain ⟨β1,s2,h3,h4⟩:=De h2 h1;cases h3;exact hQ _ _ _ h4
 ·obtain ⟨β1,s2,h3,h4⟩:=De h2 h1;cases h3;exact hQ _ _ _ h4
theorem JR {G:Ug}(hNG:HW Tryz.prog G w0 X0)(hm:Tryz.prog.follows .mixedOrders=true){call:Ai}(hcall:∀f args res,call f args=some res->Cy G Tryz.prog f args res){ro:Option Nat}{n:Nat}{c:Code}(ho:okR c=true){L t:Nat}{Q:Exit->Act->World->Prop}(hQo:∀a w,¬Q .outgrown a w)(h:Bu N w0 X0 Y β s a w)
  (hk:QC N call c L s=some (t,s1)) (hQ:∀a' w' β',Bu N w0 X0 Y β' s1 a' w'->match t with|0=>Q .normal a' w'|id+1=>Q (.exit id) a' w'):c.wpIn (WF ro) n Tryz.prog Q a w:=by
 refine UW hNG hcall hm c ho hQo h hk (fun s' a' w' β' h1 h2=>?_) (fun id s' a' w' β' h1 h2=>?_) (fun s' a' w' β' h1 h2=>by cases h1)
 ·obtain ⟨β1,s2,h3,h4⟩:=De h2 h1;cases h3;exact hQ _ _ _ h4
 ·obtain ⟨β1,s2,h3,h4⟩:=De h2 h1;cases h3;exact hQ _ _ _ h4
end
end
section
open Go.IntKind (wrap)
set_option maxRecDepth 100000
theorem Ap2 (call:Ai)(yv:Value)(h seed:Int):QC 63 call (sL Zx) 23 ⟨lk [(0,.sc yv),(1,.iptr [.sc (.int .i64 h)] 0),(2,.iptr [.sc (.int .u64 seed)] 0)],B3 []⟩=(
 Ap (decide ((0:Int)<=h)) <|
 Aa (Gl IntKind.i64 (1:Int) h) fun x1=>
 Ap (decide ((0:Int)<=x1)&&decide (x1<=x1)&&decide (x1*(8:Int)<=(1099511627776:Int))&&decide (x1<=(1099511627776:Int))) <|
 some (0,⟨lk [(0,(.sc (yv))),(1,(.iptr ([PV.sc (Value.int IntKind.i64 h)]) ((0:Nat)))),(2,(.iptr ([PV.sc (Value.int IntKind.u64 seed)]) ((0:Nat)))),(4,(.view 4 1 0 (Int.toNat x1)))],B3 [(4,(.ar false (Rn (Int.toNat x1) [PV.sc (Value.int IntKind.u64 (0:Int))])))]⟩)):=by kernel_rfl
theorem Anr (call:Ai)(yv:Value)(h seed:Int)(n:Nat)(c:List PV):QC 63 call (sL (sL (sR Zx))) 24599 ⟨lk [(0,.sc yv),(1,.iptr [.sc (.int .i64 h)] 0),(2,.iptr [.sc (.int .u64 seed)] 0),(4,.view 4 1 0 n)],B3 [(4,.ar false c)]⟩=(
 some (0,⟨lk [(0,(.sc (yv))),(1,(.iptr ([PV.sc (Value.int IntKind.i64 h)]) ((0:Nat)))),(2,(.iptr ([PV.sc (Value.int IntKind.u64 seed)]) ((0:Nat)))),(4,(.view 4 1 0 (n))),(13,(.sc (.int .i64 ((↑n:Int))))),(14,(.sc (.int .i64 ((0:Int)))))],B3 [(4,(.ar false (c)))]⟩)):=by kernel_rfl
theorem Ahc (call:Ai)(yv:Value)(h seed m i:Int)(n:Nat)(c:List PV):QC 63 call (sB (sB (sR (sL (sR Zx))))) 24599 ⟨lk [(0,.sc yv),(1,.iptr [.sc (.int .i64 h)] 0),(2,.iptr [.sc (.int .u64 seed)] 0),(4,.view 4 1 0 n),(13,.sc (.int .i64 m)),(14,.sc (.int .i64 i))],B3 [(4,.ar false c)]⟩=(
  Bb (decide (i<m))
   (
   Ag (call (108:Nat) [PV.sc (Value.int IntKind.u64 seed),PV.sc (Value.int IntKind.i64 i)]) fun x1 x2=>
   Ac (x2) <|
   Ab (x1) fun x3 x4=>
   Ad (IntKind.u64) (x3) fun x5=>
   Ac (x4) <|
   Ap (decide ((0:Int)<=i)&&decide (i<(↑n:Int))) <|
   Ap (decide ((0:Nat)+Int.toNat i*(1:Nat)+(1:Nat)<=List.length c)) <|
   Aa (Bf c [PV.sc (Value.int IntKind.u64 x5)] ((0:Nat)+Int.toNat i*(1:Nat))) fun x6=>
   Aa (wrap IntKind.i64 (i+(1:Int))) fun x7=>
   some (0,⟨lk [(0,(.sc (yv))),(1,(.iptr ([PV.sc (Value.int IntKind.i64 h)]) ((0:Nat)))),(2,(.iptr ([PV.sc (Value.int IntKind.u64 seed)]) ((0:Nat)))),(4,(.view 4 1 0 (n))),(13,(.sc (.int .i64 (m)))),(14,(.sc (.int .i64 (x7))))],B3 [(4,(.ar false (x6)))]⟩))
   (
   some (1,⟨lk [(0,(.sc (yv))),(1,(.iptr ([PV.sc (Value.int IntKind.i64 h)]) ((0:Nat)))),(2,(.iptr ([PV.sc (Value.int IntKind.u64 seed)]) ((0:Nat)))),(4,(.view 4 1 0 (n))),(13,(.sc (.int .i64 (m)))),(14,(.sc (.int .i64 (i))))],B3 [(4,(.ar false (c)))]⟩))):=by kernel_rfl
theorem Ani (call:Ai)(yv:Value)(h seed m i:Int)(n:Nat)(c:List PV):QC 63 call (sL (sR (sR Zx))) 87 ⟨lk [(0,.sc yv),(1,.iptr [.sc (.int .i64 h)] 0),(2,.iptr [.sc (.int .u64 seed)] 0),(4,.view 4 1 0 n),(13,.sc (.int .i64 m)),(14,.sc (.int .i64 i))],B3 [(4,.ar false c)]⟩=(
 some (0,⟨lk [(0,(.sc (yv))),(1,(.iptr ([PV.sc (Value.int IntKind.i64 h)]) ((0:Nat)))),(2,(.iptr ([PV.sc (Value.int IntKind.u64 seed)]) ((0:Nat)))),(4,(.view 4 1 0 (n))),(6,(.sc (.int .i64 ((0:Int)))))],B3 [(4,(.ar false (c)))]⟩)):=by kernel_rfl
theorem Anq (call:Ai)(yv:Value)(h seed k:Int)(n:Nat)(c:List PV):QC 63 call (sL (sB (sL (sR (sB (sB (sR (sR (sR Zx))))))))) 215 ⟨lk [(0,.sc yv),(1,.iptr [.sc (.int .i64 h)] 0),(2,.iptr [.sc (.int .u64 seed)] 0),(4,.view 4 1 0 n),(6,.sc (.int .i64 k))],B3 [(4,.ar false c)]⟩=(
 Aa (wrap IntKind.i64 (Int.tdiv (↑n:Int) (2:Int))) fun x1=>
 Ap (decide ((0:Int)<=x1)&&decide (x1<=x1)&&decide (x1*(8:Int)<=(1099511627776:Int))&&decide (x1<=(1099511627776:Int))) <|
 some (0,⟨lk [(0,(.sc (yv))),(1,(.iptr ([PV.sc (Value.int IntKind.i64 h)]) ((0:Nat)))),(2,(.iptr ([PV.sc (Value.int IntKind.u64 seed)]) ((0:Nat)))),(4,(.view 4 1 0 (n))),(6,(.sc (.int .i64 (k)))),(7,(.view 7 1 0 (Int.toNat x1)))],B3 [(4,(.ar false (c))),(7,(.ar false (Rn (Int.toNat x1) [PV.sc (Value.int IntKind.u64 (0:Int))])))]⟩)):=by kernel_rfl
theorem Aps (call:Ai)(yv:Value)(h seed k:Int)(n m:Nat)(c e:List PV):QC 63 call (sL (sL (sR (sB (sL (sR (sB (sB (sR (sR (sR Zx))))))))))) 3298534883543 ⟨lk [(0,.sc yv),(1,.iptr [.sc (.int .i64 h)] 0),(2,.iptr [.sc (.int .u64 seed)] 0),(4,.view 4 1 0 n),(6,.sc (.int .i64 k)),(7,.view 7 1 0 m)],B3 [(4,.ar false c),(7,.ar false e)]⟩=(
 some (0,⟨lk [(0,(.sc (yv))),(1,(.iptr ([PV.sc (Value.int IntKind.i64 h)]) ((0:Nat)))),(2,(.iptr ([PV.sc (Value.int IntKind.u64 seed)]) ((0:Nat)))),(4,(.view 4 1 0 (n))),(6,(.sc (.int .i64 (k)))),(7,(.view 7 1 0 (m))),(40,(.sc (.int .i64 ((↑m:Int))))),(41,(.sc (.int .i64 ((0:Int)))))],B3 [(4,(.ar false (c))),(7,(.ar false (e)))]⟩)):=by kernel_rfl
theorem Ajt (call:Ai)(yv:Value)(h seed k p i:Int)(n m:Nat)(c e:List PV):QC 63 call (sB (sB (sR (sL (sR (sB (sL (sR (sB (sB (sR (sR (sR Zx))))))))))))) 3298534883543 ⟨lk [(0,.sc yv),(1,.iptr [.sc (.int .i64 h)] 0),(2,.iptr [.sc (.int .u64 seed)] 0),(4,.view 4 1 0 n),(6,.sc (.int .i64 k)),(7,.view 7 1 0 m),(40,.sc (.int .i64 p)),(41,.sc (.int .i64 i))],B3 [(4,.ar false c),(7,.ar false e)]⟩=(
  Bb (decide (i<p))
   (
   Aa (wrap IntKind.i64 (k+(1:Int))) fun x1=>
   Aa (wrap IntKind.i64 ((2:Int)*i)) fun x2=>
   Ap (decide ((0:Int)<=x2)&&decide (x2<(↑n:Int))) <|
   Ad (IntKind.u64) (List.getD c ((0:Nat)+Int.toNat x2*(1:Nat)) PV.top) fun x3=>
   Aa (wrap IntKind.i64 ((2:Int)*i)) fun x4=>
   Aa (wrap IntKind.i64 (x4+(1:Int))) fun x5=>
   Ap (decide ((0:Int)<=x5)&&decide (x5<(↑n:Int))) <|
   Ad (IntKind.u64) (List.getD c ((0:Nat)+Int.toNat x5*(1:Nat)) PV.top) fun x6=>
   Ag (call (82:Nat) [PV.sc (Value.int IntKind.i64 x1),PV.sc (Value.int IntKind.u64 x3),PV.sc (Value.int IntKind.u64 x6)]) fun x7 x8=>
   Ac (x8) <|
   Ab (x7) fun x9 Ch=>
   Ad (IntKind.u64) (x9) fun Cm=>
   Ac (Ch) <|
   Ap (decide ((0:Int)<=i)&&decide (i<(↑m:Int))) <|
   Ap (decide ((0:Nat)+Int.toNat i*(1:Nat)+(1:Nat)<=List.length e)) <|
   Aa (Bf e [PV.sc (Value.int IntKind.u64 Cm)] ((0:Nat)+Int.toNat i*(1:Nat))) fun Dg=>
   Aa (wrap IntKind.i64 (i+(1:Int))) fun Do=>
   some (0,⟨lk [(0,(.sc (yv))),(1,(.iptr ([PV.sc (Value.int IntKind.i64 h)]) ((0:Nat)))),(2,(.iptr ([PV.sc (Value.int IntKind.u64 seed)]) ((0:Nat)))),(4,(.view 4 1 0 (n))),(6,(.sc (.int .i64 (k)))),(7,(.view 7 1 0 (m))),(40,(.sc (.int .i64 (p)))),(41,(.sc (.int .i64 (Do))))],B3 [(4,(.ar false (c))),(7,(.ar false (Dg)))]⟩))
   (
   some (5,⟨lk [(0,(.sc (yv))),(1,(.iptr ([PV.sc (Value.int IntKind.i64 h)]) ((0:Nat)))),(2,(.iptr ([PV.sc (Value.int IntKind.u64 seed)]) ((0:Nat)))),(4,(.view 4 1 0 (n))),(6,(.sc (.int .i64 (k)))),(7,(.view 7 1 0 (m))),(40,(.sc (.int .i64 (p)))),(41,(.sc (.int .i64 (i))))],B3 [(4,(.ar false (c))),(7,(.ar false (e)))]⟩))):=by kernel_rfl
theorem Apz (call:Ai)(yv:Value)(h seed k p i:Int)(n m:Nat)(c e:List PV):QC 63 call (sR (sR (sB (sL (sR (sB (sB (sR (sR (sR Zx)))))))))) 87 ⟨lk [(0,.sc yv),(1,.iptr [.sc (.int .i64 h)] 0),(2,.iptr [.sc (.int .u64 seed)] 0),(4,.view 4 1 0 n),(6,.sc (.int .i64 k)),(7,.view 7 1 0 m),(40,.sc (.int .i64 p)),(41,.sc (.int .i64 i))],B3 [(4,.ar false c),(7,.ar false e)]⟩=(
 some (0,⟨lk [(0,(.sc (yv))),(1,(.iptr ([PV.sc (Value.int IntKind.i64 h)]) ((0:Nat)))),(2,(.iptr ([PV.sc (Value.int IntKind.u64 seed)]) ((0:Nat)))),(4,(.view 4 1 0 (m))),(6,(.sc (.int .i64 (k))))],B3 [(4,(.ar false (e)))]⟩)):=by kernel_rfl
theorem App (call:Ai)(yv:Value)(h seed k:Int)(n:Nat)(c:List PV):QC 63 call (sR (sR (sB (sB (sR (sR (sR Zx))))))) 87 ⟨lk [(0,.sc yv),(1,.iptr [.sc (.int .i64 h)] 0),(2,.iptr [.sc (.int .u64 seed)] 0),(4,.view 4 1 0 n),(6,.sc (.int .i64 k))],B3 [(4,.ar false c)]⟩=(
 Aa (wrap IntKind.i64 (k+(1:Int))) fun x1=>
 some (0,⟨lk [(0,(.sc (yv))),(1,(.iptr ([PV.sc (Value.int IntKind.i64 h)]) ((0:Nat)))),(2,(.iptr ([PV.sc (Value.int IntKind.u64 seed)]) ((0:Nat)))),(4,(.view 4 1 0 (n))),(6,(.sc (.int .i64 (x1))))],B3 [(4,(.ar false (c)))]⟩)):=by kernel_rfl
theorem Anz (call:Ai)(yv:Value)(h seed k:Int)(n:Nat)(c:List PV):Mx CB Tryz.prog 63 call (Mm (sL (sL (sB (sB (sR (sR (sR Zx)))))))) (List.take 3 (Mm (sL (sL (sB (sB (sR (sR (sR Zx)))))))).toList) ⟨lk [(0,.sc yv),(1,.iptr [.sc (.int .i64 h)] 0),(2,.iptr [.sc (.int .u64 seed)] 0),(4,.view 4 1 0 n),(6,.sc (.int .i64 k))],B3 [(4,.ar false c)]⟩ (fun s=>Kc 63 117440599 s fun s'=>some (0,s'))=(
 some (0,⟨lk [(0,(.sc (yv))),(1,(.iptr ([PV.sc (Value.int IntKind.i64 h)]) ((0:Nat)))),(2,(.iptr ([PV.sc (Value.int IntKind.u64 seed)]) ((0:Nat)))),(4,(.view 4 1 0 (n))),(6,(.sc (.int .i64 (k)))),(24,(.sc (yv))),(25,(.sc (.int .i64 (k)))),(26,(.view 4 1 0 (n)))],B3 [(4,(.ar false (c)))]⟩)):=by kernel_rfl
theorem Alp (call:Ai)(yv:Value)(h seed k:Int)(n:Nat)(c:List PV):Mx CB Tryz.prog 63 call (Mm (sL (sL (sB (sB (sR (sR (sR Zx)))))))) (List.drop 4 (Mm (sL (sL (sB (sB (sR (sR (sR Zx)))))))).toList) ⟨lk [(0,.sc yv),(1,.iptr [.sc (.int .i64 h)] 0),(2,.iptr [.sc (.int .u64 seed)] 0),(4,.view 4 1 0 n),(6,.sc (.int .i64 k)),(27,.sc (.bool true))],B3 [(4,.ar false c)]⟩ (fun s=>Kc 63 4294967383 s fun s'=>some (0,s'))=(
 some (0,⟨lk [(0,(.sc (yv))),(1,(.iptr ([PV.sc (Value.int IntKind.i64 h)]) ((0:Nat)))),(2,(.iptr ([PV.sc (Value.int IntKind.u64 seed)]) ((0:Nat)))),(4,(.view 4 1 0 (n))),(6,(.sc (.int .i64 (k)))),(32,(.sc (.bool (decide (k<h)))))],B3 [(4,(.ar false (c)))]⟩)):=by kernel_rfl
theorem Akd (call:Ai)(yv:Value)(h seed k:Int)(n:Nat)(c:List PV):Mx CB Tryz.prog 63 call (Mm (sL (sL (sB (sB (sR (sR (sR Zx)))))))) (List.drop 4 (Mm (sL (sL (sB (sB (sR (sR (sR Zx)))))))).toList) ⟨lk [(0,.sc yv),(1,.iptr [.sc (.int .i64 h)] 0),(2,.iptr [.sc (.int .u64 seed)] 0),(4,.view 4 1 0 n),(6,.sc (.int .i64 k)),(27,.sc (.bool false))],B3 [(4,.ar false c)]⟩ (fun s=>Kc 63 4294967383 s fun s'=>some (0,s'))=(
 some (0,⟨lk [(0,(.sc (yv))),(1,(.iptr ([PV.sc (Value.int IntKind.i64 h)]) ((0:Nat)))),(2,(.iptr ([PV.sc (Value.int IntKind.u64 seed)]) ((0:Nat)))),(4,(.view 4 1 0 (n))),(6,(.sc (.int .i64 (k)))),(32,(.sc (.bool (false))))],B3 [(4,(.ar false (c)))]⟩)):=by kernel_rfl
theorem Ajf (call:Ai)(yv:Value)(h seed k:Int)(n:Nat)(c:List PV)(q:Bool):QC 63 call (sR (sL (sB (sB (sR (sR (sR Zx))))))) 87 ⟨lk [(0,.sc yv),(1,.iptr [.sc (.int .i64 h)] 0),(2,.iptr [.sc (.int .u64 seed)] 0),(4,.view 4 1 0 n),(6,.sc (.int .i64 k)),(32,.sc (.bool q))],B3 [(4,.ar false c)]⟩=(
  Bb (q)
   (
   some (0,⟨lk [(0,(.sc (yv))),(1,(.iptr ([PV.sc (Value.int IntKind.i64 h)]) ((0:Nat)))),(2,(.iptr ([PV.sc (Value.int IntKind.u64 seed)]) ((0:Nat)))),(4,(.view 4 1 0 (n))),(6,(.sc (.int .i64 (k))))],B3 [(4,(.ar false (c)))]⟩))
   (
   some (3,⟨lk [(0,(.sc (yv))),(1,(.iptr ([PV.sc (Value.int IntKind.i64 h)]) ((0:Nat)))),(2,(.iptr ([PV.sc (Value.int IntKind.u64 seed)]) ((0:Nat)))),(4,(.view 4 1 0 (n))),(6,(.sc (.int .i64 (k))))],B3 [(4,(.ar false (c)))]⟩))):=by kernel_rfl
theorem Apy (call:Ai)(seed h leaf m:Int):QC 48 call (sL LS) 873 ⟨lk [(0,.sc (.int .u64 seed)),(1,.sc (.int .i64 h)),(2,.sc (.int .i64 leaf)),(3,.sc (.int .u64 m))],B3 []⟩=(
 some (0,⟨lk [(0,(.sc (.int .u64 (seed)))),(3,(.sc (.int .u64 (m)))),(5,(.ptr 5 0)),(6,(.ptr 6 0)),(8,(.ptr 8 0)),(9,(.sc (.int .i64 ((0:Int)))))],B3 [(5,(.st [(.sc (.int .i64 (h)))])),(6,(.st [(.sc (.int .i64 (leaf)))])),(8,(.st [(.sc (.int .i64 ((0:Int)))),(.view 104 1 0 ((0:Nat))),(.view 152 1 0 ((0:Nat)))])),(104,(.ar false ([]))),(152,(.ar false ([])))]⟩)):=by kernel_rfl
theorem Ana (call:Ai)(seed h leaf m:Int):QC 48 call (sL (sR LS)) 873 ⟨lk [(0,.sc (.int .u64 seed)),(3,.sc (.int .u64 m)),(5,.ptr 5 0),(6,.ptr 6 0),(8,.ptr 8 0),(9,.sc (.int .i64 0))],B3 [(5,.st [.sc (.int .i64 h)]),(6,.st [.sc (.int .i64 leaf)]),(8,.st [.sc (.int .i64 0),.view 104 1 0 0,.view 152 1 0 0]),(104,.ar false []),(152,.ar false [])]⟩=(
  Ag (call (74:Nat) [PV.sc (Value.int IntKind.i64 h)]) fun x1 x2=>
  Ac (x2) <|
  Ab (x1) fun x3 x4=>
  Bm (x3) fun x5=>
  Ac (x4) <|
  Bb (x5)
   (
   none)
   (
   Ag (call (75:Nat) [PV.sc (Value.int IntKind.i64 leaf),PV.sc (Value.int IntKind.i64 h)]) fun x6 x7=>
   Ac (x7) <|
   Ab (x6) fun x8 x9=>
   Bm (x8) fun Ch=>
   Ac (x9) <|
   Bb (Ch)
    (
    none)
    (
    some (0,⟨lk [(0,(.sc (.int .u64 (seed)))),(3,(.sc (.int .u64 (m)))),(5,(.ptr 5 0)),(6,(.ptr 6 0)),(8,(.ptr 8 0)),(9,(.sc (.int .i64 ((0:Int)))))],B3 [(5,(.st [(.sc (.int .i64 (h)))])),(6,(.st [(.sc (.int .i64 (leaf)))])),(8,(.st [(.sc (.int .i64 ((0:Int)))),(.view 104 1 0 ((0:Nat))),(.view 152 1 0 ((0:Nat)))])),(104,(.ar false ([]))),(152,(.ar false ([])))]⟩)))):=by kernel_rfl
theorem Aoo (call:Ai)(seed h leaf m:Int):QC 48 call (sL (sR (sR LS))) 1897 ⟨lk [(0,.sc (.int .u64 seed)),(3,.sc (.int .u64 m)),(5,.ptr 5 0),(6,.ptr 6 0),(8,.ptr 8 0),(9,.sc (.int .i64 0))],B3 [(5,.st [.sc (.int .i64 h)]),(6,.st [.sc (.int .i64 leaf)]),(8,.st [.sc (.int .i64 0),.view 104 1 0 0,.view 152 1 0 0]),(104,.ar false []),(152,.ar false [])]⟩=(
 Ag (call (76:Nat) [PV.sc (Value.int IntKind.u64 seed),PV.sc (Value.int IntKind.i64 leaf),PV.sc (Value.int IntKind.u64 m)]) fun x1 x2=>
 Ac (x2) <|
 Ab (x1) fun x3 x4=>
 Ea ((1:Nat)) (x3) fun x5 x6=>
 Ac (x4) <|
 some (0,⟨lk [(0,(.sc (.int .u64 (seed)))),(3,(.sc (.int .u64 (m)))),(5,(.ptr 5 0)),(6,(.ptr 6 0)),(8,(.ptr 8 0)),(9,(.sc (.int .i64 ((0:Int))))),(10,(.ptr 10 0))],B3 [(5,(.st [(.sc (.int .i64 (h)))])),(6,(.st [(.sc (.int .i64 (leaf)))])),(8,(.st [(.sc (.int .i64 ((0:Int)))),(.view 104 1 0 ((0:Nat))),(.view 152 1 0 ((0:Nat)))])),(104,(.ar false ([]))),(152,(.ar false ([]))),(10,(.st [(.sc (.int .i64 (leaf))),(.view 106 1 0 (x5)),(.view 154 1 0 ((0:Nat)))])),(106,(.ar false (x6))),(154,(.ar false ([])))]⟩)):=by kernel_rfl
theorem Agw (call:Ai)(h leaf k:Int)(ch:Value)(n m:Nat)(c d:List PV):QC 48 call (sF (sB (sR (sL (sR (sR (sR LS))))))) 1024 ⟨lk [(5,.iptr [.sc (.int .i64 h)] 0),(6,.iptr [.sc (.int .i64 leaf)] 0),(10,.ptr 96000 0),(11,.sc (.int .i64 k)),(12,.lst false 1 n c)],B3 [(96000,.st [.sc (.int .i64 leaf),.sc ch,.view 20 1 0 m]),(20,.ar false d)]⟩=(
  Bb (k==h)
   (
   some (1,⟨lk [(10,(.ptr 96000 0))],B3 [(96000,(.st [(.sc (.int .i64 (leaf))),(.sc (ch)),(.view 96144 1 0 (m))])),(96144,(.ar false (d)))]⟩))
   (
   Ap (decide ((0:Int)<=k)) <|
   Aa (Dw IntKind.i64 leaf k) fun x1=>
   Aa (C8 IntKind.i64 x1 (1:Int)) fun x2=>
   Ap (decide ((0:Int)<=x2)&&decide (x2<(↑n:Int))) <|
   Ad (IntKind.u64) (List.getD c (Int.toNat x2*(1:Nat)) PV.top) fun x3=>
   Ap (decide (m*(1:Nat)<=List.length d)&&true&&decide ((m+(1:Nat))*(8:Nat)<=(1099511627776:Nat))&&decide (m+(1:Nat)<=(1099511627776:Nat))) <|
   Aa (m+(1:Nat)) fun x4=>
   Aa (List.take (m*(1:Nat)) d++[PV.sc (Value.int IntKind.u64 x3)]) fun x5=>
   some (0,⟨lk [(10,(.ptr 96000 0))],B3 [(96000,(.st [(.sc (.int .i64 (leaf))),(.sc (ch)),(.view 96144 1 0 (x4))])),(96144,(.ar false (x5)))]⟩))):=by kernel_rfl
theorem Anm (call:Ai)(seed h leaf m:Int)(n:Nat)(c:List PV):Mx CB Tryz.prog 48 call (Mm (sL (sL (sR (sR (sR LS)))))) (List.take 2 (Mm (sL (sL (sR (sR (sR LS)))))).toList) ⟨lk [(0,.sc (.int .u64 seed)),(3,.sc (.int .u64 m)),(5,.ptr 5 0),(6,.ptr 6 0),(8,.ptr 8 0),(9,.sc (.int .i64 0)),(10,.ptr 10 0)],B3 [(5,.st [.sc (.int .i64 h)]),(6,.st [.sc (.int .i64 leaf)]),(8,.st [.sc (.int .i64 0),.view 104 1 0 0,.view 152 1 0 0]),(104,.ar false []),(152,.ar false []),(10,.st [.sc (.int .i64 leaf),.view 106 1 0 n,.view 154 1 0 0]),(106,.ar false c),(154,.ar false [])]⟩ (fun s=>Kc 48 402655081 s fun s'=>some (0,s'))=(
 some (0,⟨lk [(0,(.sc (.int .u64 (seed)))),(3,(.sc (.int .u64 (m)))),(5,(.ptr 5 0)),(6,(.ptr 6 0)),(8,(.ptr 8 0)),(9,(.sc (.int .i64 ((0:Int))))),(10,(.ptr 10 0)),(27,(.sc (.int .u64 (seed)))),(28,(.sc (.int .i64 (h))))],B3 [(5,(.st [(.sc (.int .i64 (h)))])),(6,(.st [(.sc (.int .i64 (leaf)))])),(8,(.st [(.sc (.int .i64 ((0:Int)))),(.view 104 1 0 ((0:Nat))),(.view 152 1 0 ((0:Nat)))])),(104,(.ar false ([]))),(152,(.ar false ([]))),(10,(.st [(.sc (.int .i64 (leaf))),(.view 106 1 0 (n)),(.view 154 1 0 ((0:Nat)))])),(106,(.ar false (c))),(154,(.ar false ([])))]⟩)):=by kernel_rfl
theorem Apk (call:Ai)(leaf:Int)(n1 n2:Nat)(c1 c2:List PV):Mx CB Tryz.prog 48 call (Mm (sL (sR (sR (sR (sR LS)))))) (Mm (sL (sR (sR (sR (sR LS)))))).toList ⟨lk [(8,.ptr 96000 0),(9,.sc (.int .i64 0)),(10,.iptr [.sc (.int .i64 leaf),.lst false 1 n1 c1,.lst false 1 n2 c2] 0)],B3 [(96000,.st [.top,.top,.top])]⟩ (fun s=>Kc 48 768 s fun s'=>some (0,s'))=(
 some (0,⟨lk [(8,(.ptr 96000 0)),(9,(.sc (.int .i64 ((0:Int)))))],B3 [(96000,(.st [(.sc (.int .i64 (leaf))),(.lst false 1 (n1) (c1)),(.lst false 1 (n2) (c2))]))]⟩)):=by kernel_rfl
theorem Aod (a0 a1 a2 a3 leaf:Int)(n1 n2:Nat)(c1 c2:List PV):ZS CS Tryz.prog 37 Tryz.f37 [.sc (.int .u64 a0),.sc (.int .i64 a1),.sc (.int .i64 a2),.sc (.int .u64 a3)] ⟨lk [(8,.ptr 96000 0),(9,.sc (.int .i64 0))],B3 [(96000,.st [.sc (.int .i64 leaf),.lst false 1 n1 c1,.lst false 1 n2 c2])]⟩=(
 some (At.mk [PV.agg [PV.sc (Value.int IntKind.i64 leaf),PV.lst false (1:Nat) n1 c1,PV.lst false (1:Nat) n2 c2],PV.sc (Value.int IntKind.i64 (0:Int))] [])):=by kernel_rfl
theorem Aot (call:Ai)(seed h leaf m:Int):Als CS Tryz.prog 2000 call 37 Tryz.f37 LS [.sc (.int .u64 seed),.sc (.int .i64 h),.sc (.int .i64 leaf),.sc (.int .u64 m)]=(
  Ag (call (74:Nat) [PV.sc (Value.int IntKind.i64 h)]) fun x1 x2=>
  Ac (x2) <|
  Ab (x1) fun x3 x4=>
  Bm (x3) fun x5=>
  Ac (x4) <|
  Bb (x5)
   (
   some (At.mk [PV.agg [PV.sc (Value.int IntKind.i64 (0:Int)),PV.lst false (1:Nat) (0:Nat) [],PV.lst false (1:Nat) (0:Nat) []],PV.sc (Value.int IntKind.i64 (9:Int))] []))
   (
   Ag (call (75:Nat) [PV.sc (Value.int IntKind.i64 leaf),PV.sc (Value.int IntKind.i64 h)]) fun x6 x7=>
   Ac (x7) <|
   Ab (x6) fun x8 x9=>
   Bm (x8) fun Ch=>
   Ac (x9) <|
   Bb (Ch)
    (
    some (At.mk [PV.agg [PV.sc (Value.int IntKind.i64 (0:Int)),PV.lst false (1:Nat) (0:Nat) [],PV.lst false (1:Nat) (0:Nat) []],PV.sc (Value.int IntKind.i64 (9:Int))] []))
    (
    Ag (call (76:Nat) [PV.sc (Value.int IntKind.u64 seed),PV.sc (Value.int IntKind.i64 leaf),PV.sc (Value.int IntKind.u64 m)]) fun Cm Dg=>
    Ac (Dg) <|
    Ab (Cm) fun Do Dd=>
    Ha ((1:Nat)) (Do) fun Dx D5 Em=>
    Ac (Dd) <|
    Ag (call (77:Nat) [PV.sc (Value.int IntKind.u64 seed),PV.sc (Value.int IntKind.i64 h)]) fun E5 E2=>
    Ac (E2) <|
    Ab (E5) fun Fl He=>
    fnK (Fl) fun Gn=>
    Ac (He) <|
    none))):=by kernel_rfl
end
section
open Go.IntKind (wrap)
set_option maxRecDepth 20000
open Go Go.RowKit
def G1:Ug:=⟨fun _=>False,fun _=>True,fun _ _ _ _=>trivial⟩
def noX:FuncId->Option (List PV->Option At):=fun _=>none
theorem Aok:Acm G1 Tryz.prog (CX noX):=by
 intro f g args res h _;have h':(bif AK.any (Nat.beq f) then none else (none:Option (List PV->Option At)))=some g:=h;cases hb:AK.any (Nat.beq f)<;>rw [hb] at h'<;>cases h'
noncomputable abbrev cl:Ai:=Ae (CX noX) Tryz.prog 2000 8
theorem ngT:NoNG Tryz.prog:=by
 have h:(Tryz.prog.funcs.toList.all fun fn=> !(fn.name == "runtime.NumGoroutine"))=true:=by kernel_rfl
 intro f fn hf;have:=List.all_eq_true.1 h fn (Array.mem_toList_iff.2 (Array.mem_of_getElem? hf))
 simpa using this
theorem QT:Tryz.prog.follows .mixedOrders=true:=by kernel_rfl
theorem C5:∀f args res,cl f args=some res->Cy G1 Tryz.prog f args res:=fun f args res h=>Vz ngT QT Aok 8 f args res h
theorem Pp (w0:World)(X0:Ew):HW Tryz.prog G1 w0 X0:=⟨ngT,fun _ _=>trivial,fun _ h=>h.elim⟩
def gl (f:Nat->Int)(n i:Nat):List Int:=(List.range i).map f++List.replicate (n-i) 0
theorem Aje (f:Nat->Int){n i:Nat}(h:i<=n):(gl f n i).length=n:=by simp [gl];omega
theorem Ahl (f:Nat->Int){n i:Nat}(h:i<n):(gl f n i).set i (f i)=gl f n (i+1):=by
 unfold gl;rw [List.set_append_right _ _ (by simp),List.length_map,List.length_range,Nat.sub_self,show n-i=(n-(i+1))+1 by omega,List.replicate_succ,List.set_cons_zero,List.range_succ,List.map_append,Zzv]
 rfl
theorem Acg (f:Nat->Int)(n:Nat):gl f n n=(List.range n).map f:=by simp [gl]
theorem Add (f:Nat->Int)(n:Nat):gl f n 0=List.replicate n 0:=by simp [gl]
abbrev Aeb (yv:Value)(h seed:Int)(n:Nat)(m i:Int)(c:List PV):St:=
 ⟨lk [(0,.sc yv),(1,.iptr [.sc (.int .i64 h)] 0),(2,.iptr [.sc (.int .u64 seed)] 0),(4,.view 4 1 0 n),(13,.sc (.int .i64 m)),(14,.sc (.int .i64 i))],B3 [(4,.ar false c)]⟩
abbrev Aef (yv:Value)(h seed k:Int)(n m:Nat)(p i:Int)(c e:List PV):St:=
 ⟨lk [(0,.sc yv),(1,.iptr [.sc (.int .i64 h)] 0),(2,.iptr [.sc (.int .u64 seed)] 0),(4,.view 4 1 0 n),(6,.sc (.int .i64 k)),(7,.view 7 1 0 m),(40,.sc (.int .i64 p)),(41,.sc (.int .i64 i))],B3 [(4,.ar false c),(7,.ar false e)]⟩
theorem Aq9 (yv:Value)(h seed:Int){n i:Nat}(hn:n<=1000)(hi:i<n):
  QC 63 cl (sB (sB (sR (sL (sR Zx))))) 24599 (Aeb yv h seed n n i (Af .u64 (gl (fun (j:Nat)=>Hg seed (j:Int)) n i)))=some (0,Aeb yv h seed n n ((i+1:Nat):Int) (Af .u64 (gl (fun (j:Nat)=>Hg seed (j:Int)) n (i+1)))):=by
 have pb:cl Lh [.sc (.int .u64 seed),.sc (.int .i64 i)]=_:=Adp (xs:=noX) (fu:=2000) (d:=1) (by omega) seed i
 have w:wrap .i64 ((i:Int)+1)=((i+1:Nat):Int):=by rw [Ak (by omega) (by omega)];omega
 have L:(Af .u64 (gl (fun (j:Nat)=>Hg seed (j:Int)) n i)).length=n:=by rw [Aj,Aje _ (by omega)]
 have hset:Bf (Af .u64 (gl (fun (j:Nat)=>Hg seed (j:Int)) n i)) [.sc (.int .u64 (Hg seed i))] i=Af .u64 (gl (fun (j:Nat)=>Hg seed (j:Int)) n (i+1)):=by
  rw [Fa (by omega),Ju]
  exact congrArg _ (Ahl (fun (j:Nat)=>Hg seed (j:Int)) hi)
 refine (Ahc cl yv h seed n i n (Af .u64 (gl (fun (j:Nat)=>Hg seed (j:Int)) n i))).trans ?_
 simp (disch:=omega) only [Br,H2,Cc,C3,pb,L,hset,w]
theorem Ark (yv:Value)(h seed:Int)(n:Nat)(c:List PV):
  QC 63 cl (sB (sB (sR (sL (sR Zx))))) 24599 (Aeb yv h seed n n n c)=some (1,Aeb yv h seed n n n c):=
 (Ahc cl yv h seed n n n c).trans (Da _ _ _ (by omega))
theorem XK {yv:Value}{h seed:Int}{n:Nat}(hn:n<=1000):∀(r i nn:Nat),i+r=n->r<nn->∀{w0:World}{X0:Ew}{Y:Nat->Prop}{β:Bt}{a:Act}{w:World}{Q:Exit->Act->World->Prop},
  Bu 63 w0 X0 Y β (Aeb yv h seed n n i (Af .u64 (gl (fun (j:Nat)=>Hg seed (j:Int)) n i))) a w ->
  (∀a' w' β',Bu 63 w0 X0 Y β' (Aeb yv h seed n n n (Af .u64 (gl (fun (j:Nat)=>Hg seed (j:Int)) n n))) a' w'->Q (.exit 0) a' w')->Code.rounds Tryz.prog (sB (sB (sR (sL (sR Zx))))) Q nn a w
 |_,_,0,_,h=>by omega
 |0,i,nn+1,hi,_=>by
  intro hs hQ;obtain rfl:i=n:=by omega
  rw [rounds_succ];exact D0 (Pp _ _) QT C5 hs (Ark yv h seed i _) fun a' w' β' h'=>hQ a' w' β' h'
 |r+1,i,nn+1,hi,hr=>by
  intro hs hQ;rw [rounds_succ];exact D0 (Pp _ _) QT C5 hs (Aq9 yv h seed hn (by omega)) fun a' w' β' h'=>XK hn r (i+1) nn (by omega) (by omega) h' hQ
def Eb (seed:Int)(n k:Nat):List Int:=(List.range n).map fun (j:Nat)=>Bv seed k (j:Int)
theorem KM (seed:Int)(n k:Nat):(Eb seed n k).length=n:=by simp [Eb]
theorem Rc (seed:Int){n k j:Nat}(h:j<n):(Eb seed n k)[j]?=some (Bv seed k j):=by simp [Eb,h]
theorem Aqw (yv:Value)(h seed:Int){k m i:Nat}(hm:m<=1000)(hk:k<=1000)(hi:i<m):
  QC 63 cl (sB (sB (sR (sL (sR (sB (sL (sR (sB (sB (sR (sR (sR Zx))))))))))))) 3298534883543 (Aef yv h seed k (2*m) m m i (Af .u64 (Eb seed (2*m) k)) (Af .u64 (gl (fun (j:Nat)=>Bv seed (k+1) (j:Int)) m i))) =
   some (0,Aef yv h seed k (2*m) m m ((i+1:Nat):Int) (Af .u64 (Eb seed (2*m) k)) (Af .u64 (gl (fun (j:Nat)=>Bv seed (k+1) (j:Int)) m (i+1)))):=by
 have e1:wrap .i64 ((2:Int)*i)=((2*i:Nat):Int):=by rw [Ak (by omega) (by omega)];omega
 have e2:wrap .i64 (((2*i:Nat):Int)+1)=((2*i+1:Nat):Int):=by rw [Ak (by omega) (by omega)];omega
 have e3:wrap .i64 ((k:Int)+1)=((k+1:Nat):Int):=by rw [Ak (by omega) (by omega)];omega
 have w:wrap .i64 ((i:Int)+1)=((i+1:Nat):Int):=by rw [Ak (by omega) (by omega)];omega
 have a1:(Af .u64 (Eb seed (2*m) k)).getD (2*i) .top=.sc (.int .u64 (Bv seed k ((2*i:Nat):Int))):=Uh (Rc seed (by omega))
 have a2:(Af .u64 (Eb seed (2*m) k)).getD (2*i+1) .top=.sc (.int .u64 (Bv seed k ((2*i+1:Nat):Int))):=Uh (Rc seed (by omega))
 have pn:cl K0 [.sc (.int .i64 ((k+1:Nat):Int)),.sc (.int .u64 (Bv seed k ((2*i:Nat):Int))),.sc (.int .u64 (Bv seed k ((2*i+1:Nat):Int)))]=some ⟨[.sc (.int .u64 (Bv seed (k+1) (i:Int)))],[]⟩:=by
  have:=EK (xs:=noX) (fu:=2000) (d:=2) (by omega) ((k+1:Nat):Int) (Bv seed k ((2*i:Nat):Int)) (Bv seed k ((2*i+1:Nat):Int))
  rw [show Bv seed (k+1) (i:Int)=Lr ((k+1:Nat):Int) (Bv seed k ((2*i:Nat):Int)) (Bv seed k ((2*i+1:Nat):Int)) by
   rw [Bv];congr 2<;>omega]
  exact this
 have L:(Af .u64 (gl (fun (j:Nat)=>Bv seed (k+1) (j:Int)) m i)).length=m:=by rw [Aj,Aje _ (by omega)]
 have hset:Bf (Af .u64 (gl (fun (j:Nat)=>Bv seed (k+1) (j:Int)) m i)) [.sc (.int .u64 (Bv seed (k+1) (i:Int)))] i=Af .u64 (gl (fun (j:Nat)=>Bv seed (k+1) (j:Int)) m (i+1)):=by
  rw [Fa (by omega),Ju]
  exact congrArg _ (Ahl (fun (j:Nat)=>Bv seed (k+1) (j:Int)) hi)
 refine (Ajt cl yv h seed k m i (2*m) m _ _).trans ?_;simp (disch:=omega) only [Br,H2,Cc,C3,e1,e2,e3,a1,a2,pn,L,hset,w]
theorem Aq1 (yv:Value)(h seed k:Int)(n m:Nat)(c e:List PV):
  QC 63 cl (sB (sB (sR (sL (sR (sB (sL (sR (sB (sB (sR (sR (sR Zx))))))))))))) 3298534883543 (Aef yv h seed k n m m m c e)=some (5,Aef yv h seed k n m m m c e):=
 (Ajt cl yv h seed k m m n m c e).trans (Da _ _ _ (by omega))
theorem UU {yv:Value}{h seed:Int}{k m:Nat}(hm:m<=1000)(hk:k<=1000):∀(r i nn:Nat),i+r=m->r<nn->∀{w0:World}{X0:Ew}{Y:Nat->Prop}{β:Bt}{a:Act}{w:World}{Q:Exit->Act->World->Prop},
  Bu 63 w0 X0 Y β (Aef yv h seed k (2*m) m m i (Af .u64 (Eb seed (2*m) k)) (Af .u64 (gl (fun (j:Nat)=>Bv seed (k+1) (j:Int)) m i))) a w ->
  (∀a' w' β',Bu 63 w0 X0 Y β' (Aef yv h seed k (2*m) m m m (Af .u64 (Eb seed (2*m) k)) (Af .u64 (gl (fun (j:Nat)=>Bv seed (k+1) (j:Int)) m m))) a' w'->Q (.exit 4) a' w') ->
  Code.rounds Tryz.prog (sB (sB (sR (sL (sR (sB (sL (sR (sB (sB (sR (sR (sR Zx))))))))))))) Q nn a w
 |_,_,0,_,h=>by omega
 |0,i,nn+1,hi,_=>by
  intro hs hQ;obtain rfl:i=m:=by omega
  rw [rounds_succ];exact D0 (Pp _ _) QT C5 hs (Aq1 yv h seed k (2*i) i _ _) fun a' w' β' h'=>hQ a' w' β' h'
 |r+1,i,nn+1,hi,hr=>by
  intro hs hQ;rw [rounds_succ];exact D0 (Pp _ _) QT C5 hs (Aqw yv h seed hm hk (by omega)) fun a' w' β' h'=>UU hm hk r (i+1) nn (by omega) (by omega) h' hQ
end
section
open Go.IntKind (wrap)
set_option maxRecDepth 20000
open Go Go.RowKit
noncomputable abbrev NN:Code:=sB (sB (sR (sR (sR Zx))))
noncomputable abbrev lvX:Code:=sB (sL (sR NN))
theorem Aqh:NN=.seq (.seq (.region 7 (Mm (sL (sL NN))) false) (sR (sL NN))) (.seq (.block 3 lvX) (sR (sR NN))):=by kernel_rfl
theorem Aog:lvX=.seq (sL lvX) (.seq (.seq (sL (sL (sR lvX))) (.block 4 (.loop (sB (sB (sR (sL (sR lvX)))))))) (sR (sR lvX))):=by kernel_rfl
theorem An9:Zx=.seq (sL Zx) (.seq (.seq (sL (sL (sR Zx))) (.block 0 (.loop (sB (sB (sR (sL (sR Zx)))))))) (.seq (sL (sR (sR Zx))) (.block 2 (.loop NN)))):=by kernel_rfl
theorem CA {F:Fence}{n:Nat}{P:Program}{c c':Code}{Q:Exit->Act->World->Prop}{a:Act}{w:World}(e:c=c')(h:c'.wpIn F n P Q a w):c.wpIn F n P Q a w:=e ▸ h
abbrev lvS (yv:Value)(h seed:Int)(n:Nat)(k:Int)(c:List PV):St:=
 ⟨lk [(0,.sc yv),(1,.iptr [.sc (.int .i64 h)] 0),(2,.iptr [.sc (.int .u64 seed)] 0),(4,.view 4 1 0 n),(6,.sc (.int .i64 k))],B3 [(4,.ar false c)]⟩
abbrev TM (yv:Value)(h seed:Int)(n:Nat)(k:Int)(c:List PV):St:=
 ⟨lk [(0,.sc yv),(1,.iptr [.sc (.int .i64 h)] 0),(2,.iptr [.sc (.int .u64 seed)] 0),(4,.view 4 1 0 n),(6,.sc (.int .i64 k)),(24,.sc yv),(25,.sc (.int .i64 k)),(26,.view 4 1 0 n)],B3 [(4,.ar false c)]⟩
abbrev Aqv (yv:Value)(h seed:Int)(n:Nat)(k:Int)(c:List PV)(b:Bool):St:=
 ⟨lk [(0,.sc yv),(1,.iptr [.sc (.int .i64 h)] 0),(2,.iptr [.sc (.int .u64 seed)] 0),(4,.view 4 1 0 n),(6,.sc (.int .i64 k)),(27,.sc (.bool b))],B3 [(4,.ar false c)]⟩
def lvM (seed:Int)(h:Nat)(pre:List Nat)(k:Nat)(args:Array Value)(Z:Nat->Prop)(A:World):Prop:=
 k<=h∧pre=List.range k∧∃b o cap,args = #[.int .i64 k,.slice (some ⟨b,o,none⟩) (2 ^ (h-k):Nat) cap]∧2 ^ (h-k)<=cap∧b<A.heap.size∧¬Z b∧∀j,j<2 ^ (h-k)->A.cell? ⟨b,o+j,none⟩=some (.int .u64 (Bv seed k j))
theorem Ahu {seed:Int}{h:Nat}{pre:List Nat}{k:Nat}{args:Array Value}{Z:Nat->Prop}{A B:World}(hm:lvM seed h pre k args Z A)(hs:A.heap.size<=B.heap.size)(hk:∀b,b<A.heap.size->¬Z b->B.heap[b]?=A.heap[b]?):lvM seed h pre k args Z B:=by
 obtain ⟨h0,hpr,b,o,cap,h1,h2,h3,h4,h5⟩:=hm;exact ⟨h0,hpr,b,o,cap,h1,h2,by omega,h4,fun j hj=>(World.cell?_of_block (a:=⟨b,o+j,none⟩) (hk b h3 h4)).trans (h5 j hj)⟩
theorem Ajj {seed:Int}{h:Nat}{pre:List Nat}{k:Nat}{args:Array Value}{Z:Nat->Prop}{A:World}(hm:lvM seed h pre k args Z A):args.size=2:=by
 obtain ⟨h0,_,b,o,cap,h1,_⟩:=hm;rw [h1];rfl
theorem Art:∃ty pos aft x,(Mm (sL (sL NN)))[3]?=some { dst:=some 27,op:=.call { callee:=.value (.tmp 24),args:= #[.tmp 25,.tmp 26],argTypes:=x },type:=ty,pos:=pos,after:=aft,guard:=none }:=
 ⟨_,_,_,_,rfl⟩
theorem Ks {k:IntKind}{l:List Int}{i:Nat}{n:Int}(h:l[i]?=some n):(Af k l)[i]?=some (.sc (.int k n)):=by
 have h1:=Uh (k:=k) h;have hlt:i<(Af k l).length:=by rw [Aj];exact (List.getElem?_eq_some_iff.1 h).1
 rw [List.getD_eq_getElem?_getD,List.getElem?_eq_getElem hlt] at h1;rw [List.getElem?_eq_getElem hlt];exact congrArg some h1
section
variable {seed:Int} {h l:Nat} {w0:World} {X0:Ew} {Z:Nat->Prop} {β:Bt} {a:Act} {w:World}
theorem Alc {yv:Value}{k n:Nat}{c:List PV}{hi:Int}(hs:Bu 63 w0 X0 Z β (TM yv hi seed n k c) a w) (hn:0<n):
  a.tmps.getD 24 undef=yv∧a.tmps.getD 25 undef=.int .i64 k∧∃b o cap,β 4=some (b,o)∧a.tmps.getD 26 undef=.slice (some ⟨b,o,none⟩) n cap∧n<=cap∧b<w.heap.size∧OW w (Co (B3 [(4,.ar false c)]) β Z) ⟨b,o,none⟩ c:=by
 have h24:=hs.tms 24 (by decide)
 have h25:=hs.tms 25 (by decide)
 have h26:=hs.tms 26 (by decide)
 have hb:=hs.box 4 _ (rfl:_=some (Bl.ar false c));refine ⟨(Oc h24),(Oc h25),?_⟩;rcases (show B6 w (Co (B3 [(4,.ar false c)]) β Z) β (.view 4 1 0 n) (a.tmps.getD 26 undef) from h26) with ⟨_,_,h3,_⟩|⟨b,o,x,cap,h1,h2,h3,h4,h5,h6⟩
 ·omega
 ·rcases hb with ⟨h7,_⟩|⟨b',o',h7,h8,_⟩
  ·rw [h1] at h7;cases h7
  ·rw [h1] at h7;cases h7;have hx:x=o:=by omega
   subst hx;exact ⟨b,x,cap,h1,h2,h4,h6,h8⟩
abbrev Arw (yv:Value)(h seed:Int)(n:Nat)(k:Int)(c:List PV)(q:Bool):St:=
 ⟨lk [(0,.sc yv),(1,.iptr [.sc (.int .i64 h)] 0),(2,.iptr [.sc (.int .u64 seed)] 0),(4,.view 4 1 0 n),(6,.sc (.int .i64 k)),(32,.sc (.bool q))],B3 [(4,.ar false c)]⟩
theorem Abr {yv:Value}{hi seed:Int}{n:Nat}{k:Int}{c:List PV}:∀id cc,(TM yv hi seed n k c).hp id≠some (.st cc):=by
 intro id cc e;rcases Q7 [(4,Bl.ar false c)] id with h1|⟨q,hq,h1,h2⟩
 ·rw [show (TM yv hi seed n k c).hp id=B3 [(4,Bl.ar false c)] id from rfl,h1] at e;cases e
 ·simp at hq;subst hq;rw [show (TM yv hi seed n k c).hp id=B3 [(4,Bl.ar false c)] id from rfl,h2] at e
  cases e
theorem Aka {hi:Int}{yv:Value}{n:Nat}{k:Int}{c:List PV}{Z':Nat->Prop}{B:World}(b:Bool)(hs:Bu 63 w0 X0 Z β (TM yv hi seed n k c) a w) (ht:JH Z Z' w B):
  Bu 63 B (Akj (TM yv hi seed n k c) β) Z' β (Aqv yv hi seed n k c b) (a.put (some 27) (.bool b)) B:=by
 have h1:=(hs.rebase ht Abr).put (d:=some 27) (v:=.sc (.bool b)) (val:=.bool b) rfl (A4.sc _) (by simp [Bq,B8,Ar])
 refine h1.pick _ _ ?_ ?_ ?_ ?_ (fun _ h=>h.elim)
 ·intro q hq;simp only [List.mem_cons,List.not_mem_nil,or_false] at hq;rcases hq with rfl|rfl|rfl|rfl|rfl|rfl<;>rfl
 ·intro q hq;simp only [List.mem_cons,List.not_mem_nil,or_false] at hq;rcases hq with rfl<;>rfl
 ·intro q hq id hid;simp only [List.mem_cons,List.not_mem_nil,or_false] at hq;rcases hq with rfl|rfl|rfl|rfl|rfl|rfl<;>simp [Bq,B8,Ar] at hid
  subst hid;simp [B3]
 ·intro q hq cells e;simp only [List.mem_cons,List.not_mem_nil,or_false] at hq;rcases hq with rfl;cases e
theorem Ak0 (hh:h<=4){J Jx:(Nat->Prop)->List Nat->World->Prop} (hJ:∀Z pre A B,J Z pre A->W7 Z A B->J Z pre B)(hJx:∀Z pre A B,Jx Z pre A->W7 Z A B->Jx Z pre B)
  (hY:∀Z pre x args A,J Z pre A->lvM seed h pre x args Z A->YieldAt Fence.wide 0 Tryz.prog l args A fun e B=>∃Z',JH Z Z' A B∧((e=.returned (.bool true)∧J Z' (pre++[x]) B)∨(e=.returned (.bool false)∧Jx Z' (pre++[x]) B)))
  {k r:Nat} (hk:k+r=h) (hs:Bu 63 w0 X0 Z β (lvS (.func (.yield l) #[] #[]) h seed (2 ^ r) k (Af .u64 (Eb seed (2 ^ r) k))) a w) (hd:∀b,Z b->¬X0.X b) (hj:J Z (List.range k) w0) {Q:Exit->Act->World->Prop}
  (hgo:k<h->∀w2 X2 Z' β' a' w',Bu 63 w2 X2 Z' β' (lvS (.func (.yield l) #[] #[]) h seed (2 ^ r) k (Af .u64 (Eb seed (2 ^ r) k))) a' w'->(∀b,Z' b->¬X2.X b)->J Z' (List.range (k+1)) w2->Q .normal a' w')
  (hend:∀a' w',a'.defers=[]->(∃Z xs,(xs=List.range (h+1)∧J Z xs w')∨((∃k,xs=List.range (k+1))∧Jx Z xs w'))->Q (.exit 2) a' w'):
  (Code.seq (.region 7 (Mm (sL (sL NN))) false) (sR (sL NN))).wpIn Fence.wide 0 Tryz.prog Q a w:=by
 have hp:0<2 ^ r:=Nat.pos_of_ne_zero (by simp)
 refine wpIn_seq (wpIn_region ?_);have hl:List.range (Mm (sL (sL NN))).size=[0,1,2]++[3,4,5,6,7,8]:=by kernel_rfl
 rw [hl];refine Mb (ro:=none) (C:=CB) (call:=cl) (r:=((0:Nat),TM (.func (.yield l) #[] #[]) h seed (2 ^ r) k (Af .u64 (Eb seed (2 ^ r) k)))) (Pp _ _) C5 ?_ [0,1,2] (List.take 3 (Mm (sL (sL NN))).toList) (by kernel_rfl) ?_ (by kernel_rfl) hs (Anz cl _ h seed k (2 ^ r) _)
 rotate_left
 ·intro j i hj
  match j,hj with
  |0,hj=>cases hj;rfl
  |1,hj=>cases hj;rfl
  |2,hj=>cases hj;rfl
 intro s' a1 w1 β1 hk1 hs1;obtain ⟨β2,s2,hk2,hs2⟩:=De hs1 hk1;cases hk2;obtain ⟨v24,v25,b,o,cap,hb,v26,hcap,hbl,hrd⟩:=Alc hs2 hp;have hjw:J Z (List.range k) w1:=hJ Z _ _ _ hj (hs2.stay hd);have hkr:h-k=r:=by omega
 have hm:lvM seed h (List.range k) k #[.int .i64 k,.slice (some ⟨b,o,none⟩) (2 ^ r:Nat) cap] Z w1:=by
  refine ⟨by omega,rfl,b,o,cap,by rw [hkr],by rw [hkr];exact hcap,hbl,fun hz=>hs2.Yx b hz ⟨4,o,by trivial,hb⟩,fun j hj=>?_⟩
  rw [hkr] at hj;obtain ⟨v,hv,_,hv2⟩:=hrd j (.sc (.int .u64 (Bv seed k j))) (Ks (Rc seed hj));rw [Du] at hv;rw [hv,A4.val hv2]
 obtain ⟨fn,tmps,assign,body,hy,hR⟩:=hY Z _ k _ w1 hjw hm;obtain ⟨ty,pos,aft,x,ho⟩:=Art;rw [wpOpsIn_cons];unfold wpOpIn;rw [ho];simp only [Region.wanted,if_true]
 have run:(execOp a1.eval { dst:=some 27,op:=.call { callee:=.value (.tmp 24),args:= #[.tmp 25,.tmp 26],argTypes:=x },type:=ty,pos:=pos,after:=aft,guard:=none }).run Tryz.prog w1=.ok (.round l fn tmps assign body) w1:=by
  have e24:a1.eval (.tmp 24)=.func (.yield l) #[] #[]:=v24;have e25:a1.eval (.tmp 25)=.int .i64 k:=v25;have e26:a1.eval (.tmp 26)=.slice (some ⟨b,o,none⟩) (2 ^ r:Nat) cap:=v26;refine Ado rfl rfl e24 ?_;rw [←hy];simp only [List.map_toArray,Zzw,List.map_nil,e25,e26]
 refine ⟨fun _ _=>trivial,?_⟩
 rw [show Oper.semAt (WF none).round a1.eval { dst:=some 27,op:=.call { callee:=.value (.tmp 24),args:= #[.tmp 25,.tmp 26],argTypes:=x },type:=ty,pos:=pos,after:=aft,guard:=none }=execOp a1.eval { dst:=some 27,op:=.call { callee:=.value (.tmp 24),args:= #[.tmp 25,.tmp 26],argTypes:=x },type:=ty,pos:=pos,after:=aft,guard:=none } from rfl,run]
 refine ⟨(fun h=>by cases h),(XR hR).mono ?_⟩
 have rest:∀(e:Bool) (B:World) (Z':Nat->Prop) (q:Bool),JH Z Z' w1 B->(Mx CB Tryz.prog 63 cl (Mm (sL (sL NN))) (List.drop 4 (Mm (sL (sL NN))).toList) (Aqv (.func (.yield l) #[] #[]) h seed (2 ^ r) k (Af .u64 (Eb seed (2 ^ r) k)) e) (fun s=>Kc 63 4294967383 s fun s'=>some (0,s'))=some ((0:Nat),Arw (.func (.yield l) #[] #[]) h seed (2 ^ r) k (Af .u64 (Eb seed (2 ^ r) k)) q)) ->
   (∀a' w' β',Bu 63 B (Akj (TM (.func (.yield l) #[] #[]) h seed (2 ^ r) k (Af .u64 (Eb seed (2 ^ r) k))) β2) Z' β' (lvS (.func (.yield l) #[] #[]) h seed (2 ^ r) k (Af .u64 (Eb seed (2 ^ r) k))) a' w'->if q=true then Q .normal a' w' else Q (.exit 2) a' w') ->
   wpOpsIn (WF none) 0 Tryz.prog (Mm (sL (sL NN))) (Exit.then ((sR (sL NN)).wpIn Fence.wide 0 Tryz.prog Q) Q) [4,5,6,7,8] (a1.put (some 27) (.bool e)) B:=by
  intro e B Z' q ht heq hq;have h4:=Aka e hs2 ht;show wpOpsIn _ _ _ _ _ ([4,5,6,7,8]++[]) _ _;refine Mb (ro:=none) (C:=CB) (call:=cl) (Pp _ _) C5 ?_ [4,5,6,7,8] (List.drop 4 (Mm (sL (sL NN))).toList) (by kernel_rfl) ?_ (by kernel_rfl) h4 heq
  rotate_left
  ·intro j i hj
   match j,hj with
   |0,hj=>cases hj;rfl
   |1,hj=>cases hj;rfl
   |2,hj=>cases hj;rfl
   |3,hj=>cases hj;rfl
   |4,hj=>cases hj;rfl
  intro s' a5 w5 β5 hk5 hs5;obtain ⟨β6,s6,hk6,hs6⟩:=De hs5 hk5;cases hk6;show (sR (sL NN)).wpIn Fence.wide 0 Tryz.prog Q a5 w5;cases q
  ·exact wpIn_wide.2 (D0 (Pp _ _) QT C5 hs6 ((Ajf cl _ h seed k (2 ^ r) _ false).trans rfl) fun a' w' β' h'=>hq a' w' β' h')
  ·exact wpIn_wide.2 (D0 (Pp _ _) QT C5 hs6 ((Ajf cl _ h seed k (2 ^ r) _ true).trans rfl) fun a' w' β' h'=>hq a' w' β' h')
 have hown:∀{B:World} {Z':Nat->Prop} {β':Bt} {s':St} {a':Act} {w':World},JH Z Z' w1 B->∀b,Z' b->¬(Akj (TM (.func (.yield l) #[] #[]) h seed (2 ^ r) k (Af .u64 (Eb seed (2 ^ r) k))) β2).X b:=by
  intro B Z' _ _ _ _ ht b hz;exact (hs2.rebase ht Abr).Yx b hz
 have er:List.range k++[k]=List.range (k+1):=(List.range_succ).symm
 rintro e B ⟨Z',ht,(⟨rfl,hj2⟩|⟨rfl,hj2⟩)⟩
 ·rw [er] at hj2;refine rest true B Z' (decide ((k:Int)<(h:Int))) ht (Alp cl _ h seed k (2 ^ r) _) fun a' w' β' h'=>?_
  have hdd:=hown (β':=β) (s':=s') (a':=a) (w':=w) ht;by_cases hlt:k<h
  ·rw [B4 (by simp;omega)]
   exact hgo hlt B _ Z' β' a' w' h' hdd hj2
  ·rw [A6 (by simp;omega)]
   exact hend a' w' h'.dfr ⟨Z',List.range (k+1),.inl ⟨by rw [show k=h by omega],hJ Z' _ _ _ hj2 (h'.stay hdd)⟩⟩
 ·refine rest false B Z' false ht (Akd cl _ h seed k (2 ^ r) _) fun a' w' β' h'=>?_
  have hdd:=hown (β':=β) (s':=s') (a':=a) (w':=w) ht;rw [A6 (by simp)]
  exact hend a' w' h'.dfr ⟨Z',_,.inr ⟨⟨k,er⟩,hJx Z' _ _ _ hj2 (h'.stay hdd)⟩⟩
theorem QG (hh:h<=4){J Jx:(Nat->Prop)->List Nat->World->Prop} (hJ:∀Z pre A B,J Z pre A->W7 Z A B->J Z pre B)(hJx:∀Z pre A B,Jx Z pre A->W7 Z A B->Jx Z pre B)
  (hY:∀Z pre x args A,J Z pre A->lvM seed h pre x args Z A->YieldAt Fence.wide 0 Tryz.prog l args A fun e B=>∃Z',JH Z Z' A B∧((e=.returned (.bool true)∧J Z' (pre++[x]) B)∨(e=.returned (.bool false)∧Jx Z' (pre++[x]) B)))
  {Q:Exit->Act->World->Prop} (hend:∀a' w',a'.defers=[]->(∃Z xs,(xs=List.range (h+1)∧J Z xs w')∨((∃k,xs=List.range (k+1))∧Jx Z xs w'))->Q (.exit 2) a' w'):
  ∀(r k nn:Nat),k+r=h->r<nn->∀{w0:World} {X0:Ew} {Z:Nat->Prop} {β:Bt} {a:Act} {w:World},
   Bu 63 w0 X0 Z β (lvS (.func (.yield l) #[] #[]) h seed (2 ^ r:Nat) k (Af .u64 (Eb seed (2 ^ r) k))) a w->(∀b,Z b->¬X0.X b)->J Z (List.range k) w0->Code.roundsIn Fence.wide 0 Tryz.prog NN Q nn a w
 |_,_,0,_,h=>by omega
 |r,k,nn+1,hk,hr=>by
  intro hs hd hj;rw [roundsIn_succ];refine CA Aqh (wpIn_seq (Ak0 hh hJ hJx hY hk hs hd hj ?_ fun a' w' h1 h2=>hend a' w' h1 h2))
  intro hlt w2 X2 Z' β' a' w' hs2 hd2 hj2
  match r,hk,hr,hs2 with
  |0,hk,hr,hs2=>omega
  |r+1,hk,hr,hs2=>
   have hp:2 ^ (r+1)=2*2 ^ r:=by rw [Nat.pow_succ];omega
   have hle:2 ^ r<=8:=by
    have:2 ^ r<=2 ^ 3:=Nat.pow_le_pow_right (by omega) (by omega)
    omega
   rw [hp] at hs2;show (Code.seq (.block 3 lvX) (sR (sR NN))).wpIn Fence.wide 0 Tryz.prog _ a' w';refine wpIn_seq (wpIn_block (CA Aog (wpIn_seq (wpIn_wide.2 (D0 (Pp _ _) QT C5 hs2 (L:=215) (t:=0) (s1:=⟨lk [(0,.sc (.func (.yield l) #[] #[])),(1,.iptr [.sc (.int .i64 h)] 0),(2,.iptr [.sc (.int .u64 seed)] 0),(4,.view 4 1 0 (2*2 ^ r)),(6,.sc (.int .i64 k)),(7,.view 7 1 0 (2 ^ r))],B3 [(4,.ar false (Af .u64 (Eb seed (2*2 ^ r) k))),(7,.ar false (Af .u64 (List.replicate (2 ^ r) 0)))]⟩) ?_ ?_)))))
   ·have w2:wrap .i64 (Int.tdiv ((2*2 ^ r:Nat):Int) 2)=((2 ^ r:Nat):Int):=by
     rw [Int.tdiv_eq_ediv_of_nonneg (by omega),Ak (by omega) (by omega)];omega
    refine (Anq cl _ h seed k (2*2 ^ r) _).trans ?_;simp (disch:=omega) only [Br,H2,w2,IG]
   intro a3 w3 β3 hs3;refine wpIn_seq (wpIn_seq (wpIn_wide.2 (D0 (Pp _ _) QT C5 hs3 (Aps cl _ h seed k _ _ _ _) ?_)));intro a4 w4 β4 hs4;refine wpIn_block (wpIn_wide.2 (wp_loop_rounds 1000 (UU (k:=k) (m:=2 ^ r) (by omega) (by omega) (2 ^ r) 0 1000 (by omega) (by omega) (by rw [Add];exact hs4) ?_)))
   intro a5 w5 β5 hs5;show (sR (sR lvX)).wpIn Fence.wide 0 Tryz.prog _ a5 w5;refine wpIn_wide.2 (D0 (Pp _ _) QT C5 hs5 (Apz cl _ h seed k _ _ _ _ _ _) ?_);intro a6 w6 β6 hs6;show (sR (sR NN)).wpIn Fence.wide 0 Tryz.prog _ a6 w6;refine wpIn_wide.2 (D0 (Pp _ _) QT C5 hs6 (L:=87) (t:=0) (s1:=lvS (.func (.yield l) #[] #[]) h seed (2 ^ r:Nat) ((k+1:Nat):Int) (Af .u64 (Eb seed (2 ^ r) (k+1)))) ?_ ?_)
   ·have w1:wrap .i64 ((k:Int)+1)=((k+1:Nat):Int):=by rw [Ak (by omega) (by omega)];omega
    refine (App cl _ h seed k _ _).trans ?_;simp only [Br,w1];rw [Acg];rfl
   intro a7 w7 β7 hs7;exact QG hh hJ hJx hY hend r (k+1) nn (by omega) (by omega) hs7 hd2 hj2
end
end
section
open Go.IntKind (wrap)
set_option maxRecDepth 20000
open Go Go.RowKit
def noL:Ew:={ X:=fun _=>False,L:=fun _ _=>False,pn:=fun _=>False,pt:=fun _=>none,p8:=fun _ h=>h.elim }
theorem Bu.init {N:Nat}{W:World}{Z0:Nat->Prop}(l:List (Nat × PV)) (a:Act)(hd:a.defers=[]) (hsz:a.tmps.size=N)(hlt:∀q∈l,q.1<N)(hv:∀q∈l,Dl W Z0 (fun _=>none) q.2 (a.tmps.getD q.1 undef)) (hr:∀q∈l,Bq q.2=[]) (hZ:∀b,Z0 b->b<W.heap.size):
  Bu N W noL Z0 (fun _=>none) ⟨lk l,B3 []⟩ a W:=by
 have hA:∀b,b<W.heap.size->Co (B3 []) (fun _=>none) Z0 b->Z0 b:=fun b _ hb=>hb.elim (fun ⟨_,_,h,_⟩=>(h:Ca none).elim) id
 have hst:B5 Z0 W W:=⟨Nat.le_refl _,fun _ _ _=>rfl,fun _ _=>Nat.le_refl _⟩
 refine ⟨hd,hsz,fun i hi=>?_,fun i hi=>?_,fun id bx e=>(by cases e),fun id id' b o o' h=>(h:Ca none).elim,fun id b o h=>(h rfl).elim,fun i hi id hid=>?_,fun id c e=>(by cases e),fun b ⟨_,_,h,_⟩=>(h:Ca none).elim,fun id bx b o e=>(by cases e),
  fun i hi=>hi.elim,fun id c b o e=>(by cases e),fun b hz ⟨_,_,h,_⟩=>(h:Ca none).elim,hZ,⟨rfl,rfl,rfl,⟨Nat.le_refl _,fun _ _ _=>rfl,fun _ _=>Nat.le_refl _⟩,fun _ _ _ _=>⟨rfl,rfl⟩⟩⟩
 ·rcases Nx l i with e|⟨q,hq,h1,h2⟩
  ·exact e
  ·have:=hlt q hq;omega
 ·show Dl W (Co (B3 []) (fun _=>none) Z0) (fun _=>none) (lk l i) _
  rcases Nx l i with e|⟨q,hq,h1,h2⟩
  ·rw [e];exact A4.top _
  ·rw [h2,←h1];exact (hv q hq).step hst hA fun _ _=>rfl
 ·rcases Nx l i with e|⟨q,hq,h1,h2⟩
  ·rw [show (St.mk (lk l) (B3 [])).tm i=lk l i from rfl,e] at hid;simp [Bq,B8,Ar] at hid
  ·rw [show (St.mk (lk l) (B3 [])).tm i=lk l i from rfl,h2,hr q hq] at hid;cases hid
def Ami (seed:Int)(h Bh Bs:Nat)(Z0:Nat->Prop)(W:World):Prop:=
 W.cell? ⟨Bh,0,none⟩=some (.int .i64 h)∧W.cell? ⟨Bs,0,none⟩=some (.int .u64 seed)∧Bh<W.heap.size∧Bs<W.heap.size∧¬Z0 Bh∧¬Z0 Bs
theorem Amh {h:Nat}(hh:h<=4):Gl .i64 1 (h:Int)=((2 ^ h:Nat):Int):=by
 have:h=0∨h=1∨h=2∨h=3∨h=4:=by omega
 rcases this with rfl|rfl|rfl|rfl|rfl<;>decide
theorem Ak8 {seed:Int}{h Bh Bs:Nat}{Z0:Nat->Prop}{W:World}{yv:Value}(hP:Ami seed h Bh Bs Z0 W)(hZ:∀b,Z0 b->b<W.heap.size):
  Bu 63 W noL Z0 (fun _=>none) ⟨lk [(0,.sc yv),(1,.iptr [.sc (.int .i64 h)] 0),(2,.iptr [.sc (.int .u64 seed)] 0)],B3 []⟩ { tmps:=(yv::Value.pointer (some ⟨Bh,0,none⟩)::Value.pointer (some ⟨Bs,0,none⟩)::List.replicate 60 undef).toArray,defers:=[] } W:=by
 obtain ⟨p1,p2,p3,p4,p5,p6⟩:=hP;refine Bu.init _ _ rfl (by simp) ?_ ?_ ?_ hZ
 ·intro q hq;simp only [List.mem_cons,List.not_mem_nil,or_false] at hq;rcases hq with rfl|rfl|rfl<;>simp
 ·intro q hq;simp only [List.mem_cons,List.not_mem_nil,or_false] at hq;rcases hq with rfl|rfl|rfl
  ·exact A4.sc _
  ·refine ⟨⟨Bh,0,none⟩,rfl,rfl,p3,p5,fun j c hj=>?_⟩
   match j,hj with
   |0,hj=>cases hj;exact ⟨_,p1,rfl,A4.sc _⟩
  ·refine ⟨⟨Bs,0,none⟩,rfl,rfl,p4,p6,fun j c hj=>?_⟩
   match j,hj with
   |0,hj=>cases hj;exact ⟨_,p2,rfl,A4.sc _⟩
 ·intro q hq;simp only [List.mem_cons,List.not_mem_nil,or_false] at hq;rcases hq with rfl|rfl|rfl<;>rfl
theorem Akr {seed:Int}{h Bh Bs:Nat}(hh:h<=4):Al4 Tryz.prog 107 #[.pointer (some ⟨Bh,0,none⟩),.pointer (some ⟨Bs,0,none⟩)] (lvM seed h) (fun xs=>xs=List.range (h+1)) (fun xs=>∃k,xs=List.range (k+1)) (Ami seed h Bh Bs):=by
 intro l J Jx W Z0 hZ hP hJ hJx hY h0;obtain ⟨p1,p2,p3,p4,p5,p6⟩:=hP;refine callsIn_wide.1 (callsIn_of_wp (F:=Fence.wide) (n:=0) Tryz.func107 rfl trivial ?_ rfl);show Zx.wpIn _ _ _ _ _ _;have t1:(({ tmps:=(#[Value.func (.yield l) #[] #[]] ++ #[Value.pointer (some ⟨Bh,0,none⟩),Value.pointer (some ⟨Bs,0,none⟩)])++Array.replicate (Tryz.f107.ntmps-(#[Value.func (.yield l) #[] #[]] ++ #[Value.pointer (some ⟨Bh,0,none⟩),Value.pointer (some ⟨Bs,0,none⟩)]).size) undef,defers:=[] }:Act))={ tmps:=(Value.func (.yield l) #[] #[]::Value.pointer (some ⟨Bh,0,none⟩)::Value.pointer (some ⟨Bs,0,none⟩)::List.replicate 60 undef).toArray,defers:=[] }:=by kernel_rfl
 rw [t1];have i0:=Ak8 (seed:=seed) (h:=h) (Z0:=Z0) (yv:=.func (.yield l) #[] #[]) ⟨p1,p2,p3,p4,p5,p6⟩ hZ;generalize ({ tmps:=(Value.func (.yield l) #[] #[]::Value.pointer (some ⟨Bh,0,none⟩)::Value.pointer (some ⟨Bs,0,none⟩)::List.replicate 60 undef).toArray,defers:=[] }:Act)=a0 at i0 ⊢
 have hle:2 ^ h<=16:=by
  have:2 ^ h<=2 ^ 4:=Nat.pow_le_pow_right (by omega) hh
  omega
 refine CA An9 (wpIn_seq (wpIn_wide.2 (D0 (Pp _ _) QT C5 i0 (L:=23) (t:=0)
  (s1:=⟨lk [(0,.sc (.func (.yield l) #[] #[])),(1,.iptr [.sc (.int .i64 h)] 0),(2,.iptr [.sc (.int .u64 seed)] 0),(4,.view 4 1 0 (2 ^ h))],B3 [(4,.ar false (Af .u64 (List.replicate (2 ^ h) 0)))]⟩) ?_ ?_)))
 ·refine (Ap2 cl _ h seed).trans ?_;have e1:=Amh hh;have e2:(0:Int)<=h:=by omega
  generalize 2 ^ h=n at hle e1 ⊢;simp (disch:=omega) only [Br,e1,H2,IG]
 intro a1 w1 β1 h1;refine wpIn_seq (wpIn_seq (wpIn_wide.2 (D0 (Pp _ _) QT C5 h1 (Anr cl _ h seed _ _) ?_)));intro a2 w2 β2 h2;refine wpIn_block (wpIn_wide.2 (wp_loop_rounds 1000 (XK (n:=2 ^ h) (by omega) (2 ^ h) 0 1000 (by omega) (by omega) (by rw [Add];exact h2) ?_)))
 intro a3 w3 β3 h3;show (Code.seq (sL (sR (sR Zx))) (.block 2 (.loop NN))).wpIn Fence.wide 0 Tryz.prog _ a3 w3;refine wpIn_seq (wpIn_wide.2 (D0 (Pp _ _) QT C5 h3 (L:=87) (t:=0) (s1:=lvS (.func (.yield l) #[] #[]) h seed (2 ^ h:Nat) ((0:Nat):Int) (Af .u64 (Eb seed (2 ^ h) 0))) ?_ ?_))
 ·refine (Ani cl _ h seed _ _ _ _).trans ?_;rw [Acg];rfl
 intro a4 w4 β4 h4;refine wpIn_block (wpIn_loop_rounds 1000 (QG hh hJ hJx hY ?_ h 0 1000 (by omega) (by omega) h4 (fun b _ hb=>hb) h0))
 intro a5 w5 h5 h6;exact ⟨h5,_,results_none rfl _ _ _,⟨_,rfl⟩,h6⟩
end
section
open Go.IntKind (wrap)
set_option maxRecDepth 20000
open Go Go.RowKit
theorem Bu.make {N:Nat}{W:World}{Y:Nat->Prop}{β:Bt}(l:List (Nat × PV)) (bl:List (Nat × Bl)) (a:Act)(pn:Nat->Prop)(p8:∀i,pn i->i<8)(hd:a.defers=[]) (hsz:a.tmps.size=N)(hlt:∀q∈l,q.1<N)
  (hv:∀q∈l,Dl W (Co (B3 bl) β Y) β q.2 (a.tmps.getD q.1 undef)) (hb:∀id bx,B3 bl id=some bx->Rt W (Co (B3 bl) β Y) β id bx)
  (inj:∀id id' b o o',Ca (B3 bl id)->Ca (B3 bl id')->β id=some (b,o)->β id'=some (b,o')->id=id') (blt:∀id b o,B3 bl id≠none->β id=some (b,o)->b<W.heap.size)
  (wfT:∀q∈l,∀id∈Bq q.2,B3 bl id≠none)(wfB:∀id cells,B3 bl id=some (.st cells)->∀c∈cells,∀i∈Ar c,B3 bl i≠none) (hpin:∀i,pn i->B3 bl (Cs N i)≠none)
  (stp:∀id c,B3 bl id=some (.st c)->∃i,id=Cs N i∧pn i) (Yx:∀b,Y b->¬BF (B3 bl) β b) (Ylt:∀b,Y b->b<W.heap.size):
  Bu N W { X:=BF (B3 bl) β,L:=fun b _=>BF (B3 bl) β b,pn:=pn,pt:=fun i=>β (Cs N i),p8:=p8 } Y β ⟨lk l,B3 bl⟩ a W:=by
 refine ⟨hd,hsz,fun i hi=>?_,fun i hi=>?_,hb,inj,blt,fun i hi id hid=>?_,wfB,fun b hb=>.inl hb,fun id bx b o h1 h2 h3 _ j _=>⟨id,o,by rw [show B3 bl id=some bx from h1];exact h2,h3⟩,fun i hi=>⟨hpin i hi,rfl⟩,
  fun id c b o h1 _ _=>stp id c h1,Yx,Ylt,⟨rfl,rfl,rfl,⟨Nat.le_refl _,fun _ _ _=>rfl,fun _ _=>Nat.le_refl _⟩,fun _ _ _ _=>⟨rfl,rfl⟩⟩⟩
 ·rcases Nx l i with e|⟨q,hq,h1,h2⟩
  ·exact e
  ·have:=hlt q hq;omega
 ·show Dl W _ β (lk l i) _;rcases Nx l i with e|⟨q,hq,h1,h2⟩
  ·rw [e];exact A4.top _
  ·rw [h2,←h1];exact hv q hq
 ·rcases Nx l i with e|⟨q,hq,h1,h2⟩
  ·rw [show (St.mk (lk l) (B3 bl)).tm i=lk l i from rfl,e] at hid;simp [Bq,B8,Ar] at hid
  ·rw [show (St.mk (lk l) (B3 bl)).tm i=lk l i from rfl,h2] at hid;exact wfT q hq id hid
def Aqx (lo e0:Nat)(A:World)(pv:Value)(l:List Int):Prop:=
 (l=[]∧pv=.slice none 0 0)∨∃pb po cap,pv=.slice (some ⟨pb,po,none⟩) l.length cap∧l.length<=cap∧po+cap<=bsz A pb∧pb<A.heap.size∧(lo<=pb∨pb=e0)∧(∀(j:Nat) x,l[j]?=some x->A.cell? ⟨pb,po+j,none⟩=some (.int .u64 x))∧∀j,po<=j->j<bsz A pb->A.frozen? ⟨pb,j,none⟩=false
theorem frozen?_of_block {A B:World}{b j:Nat}(h:B.heap[b]?=A.heap[b]?):B.frozen? ⟨b,j,none⟩=A.frozen? ⟨b,j,none⟩:=by
 unfold World.frozen?;simp only [h]
structure FB (wS:World) (D:Nat) (seed leaf:Int) (h b10 o10 e0:Nat) (chv:Value) (Z:Nat->Prop) (pre:List Nat) (A:World):Prop where
 os:A.os=wS.os
 tape:A.tape=wS.tape
 output:A.output=wS.output
 size:D+2<=A.heap.size
 zlo:∀b,b<wS.heap.size->Z b
 zlt:∀b,Z b->b<A.heap.size
 keep:∀b,b<wS.heap.size->b≠b10->b≠e0->A.heap[b]?=wS.heap[b]?
 bs:bsz wS b10<=bsz A b10
 c0:A.cell? ⟨b10,o10,none⟩=some (.int .i64 leaf)
 c1:A.cell? ⟨b10,o10+1,none⟩=some chv
 fz:∀k,k<3->A.frozen? ⟨b10,o10+k,none⟩=false
 lt:∀x∈pre,x<h
 path:∃pv,A.cell? ⟨b10,o10+2,none⟩=some pv∧Aqx (D+2) e0 A pv (pre.map fun k=>Bv seed k (Fb leaf k))∧∀pb po n cap,pv=.slice (some ⟨pb,po,none⟩) n cap->Z pb
noncomputable abbrev Abg:Code:=sF (sB (sR (sL (sR (sR (sR LS))))))
abbrev Arh (h leaf:Int)(x:Nat)(n:Nat)(c:List PV):List (Nat × PV):=[(5,.iptr [.sc (.int .i64 h)] 0),(6,.iptr [.sc (.int .i64 leaf)] 0),(10,.ptr 96000 0),(11,.sc (.int .i64 x)),(12,.lst false 1 n c)]
abbrev NG (leaf:Int)(ch:Value)(m:Nat)(d:List PV):List (Nat × Bl):=[(96000,.st [.sc (.int .i64 leaf),.sc ch,.view 20 1 0 m]),(20,.ar false d)]
structure Aqz (wS:World) (b5 o5 b6 o6 b10 o10:Nat) (args:Array Value) (a:Act):Prop where
 dfr:a.defers=[]
 size:a.tmps.size=48
 t5:a.tmps.getD 5 undef=.pointer (some ⟨b5,o5,none⟩)
 t6:a.tmps.getD 6 undef=.pointer (some ⟨b6,o6,none⟩)
 t10:a.tmps.getD 10 undef=.pointer (some ⟨b10,o10,none⟩)
 t11:a.tmps.getD 11 undef=args.getD 0 undef
 t12:a.tmps.getD 12 undef=args.getD 1 undef
theorem Aiy {wS:World}{D:Nat}{seed leaf:Int}{h b5 o5 b6 o6 b10 o10 e0:Nat}{chv:Value}{Z:Nat->Prop}{pre:List Nat}{A:World}(hI:FB wS D seed leaf h b10 o10 e0 chv Z pre A){x:Nat}{args:Array Value}(hM:lvM seed h pre x args Z A){a:Act}(ha:Aqz wS b5 o5 b6 o6 b10 o10 args a)
  (h5:wS.cell? ⟨b5,o5,none⟩=some (.int .i64 h)) (h6:wS.cell? ⟨b6,o6,none⟩=some (.int .i64 leaf)) (l5:b5<wS.heap.size)(l6:b6<wS.heap.size)(l10:b10<wS.heap.size)(n5:b5≠b10)(n6:b6≠b10)(m5:b5≠e0)(m6:b6≠e0)(m10:b10≠e0)(hD:wS.heap.size<=D):
  ∃β X0,X0.pt 0=some (b10,o10)∧X0.pn 0∧(∀b,X0.X b->Z b∧(b=b10∨D+2<=b∨b=e0)) ∧
   Bu 48 A X0 (fun _=>False) β ⟨lk (Arh h leaf x (2 ^ (h-x)) (Af .u64 (Eb seed (2 ^ (h-x)) x))),B3 (NG leaf chv pre.length (Af .u64 (pre.map fun k=>Bv seed k (Fb leaf k))))⟩ a A:=by
 obtain ⟨hx,_,b,o,cap,hargs,hcap,hbl,hbz,hcell⟩:=hM;obtain ⟨pv,hpv,hown,hpz⟩:=hI.path
 obtain ⟨q,hq⟩:∃q:Option (Nat × Nat),(q=none∧pre=[]∧pv=.slice none 0 0)∨∃pb po cap,q=some (pb,po)∧pv=.slice (some ⟨pb,po,none⟩) pre.length cap∧pre.length<=cap∧po+cap<=bsz A pb∧pb<A.heap.size∧(D+2<=pb∨pb=e0)∧Z pb∧(∀(j:Nat) y,(pre.map fun k=>Bv seed k (Fb leaf k))[j]?=some y->A.cell? ⟨pb,po+j,none⟩=some (.int .u64 y))∧∀j,po<=j->j<bsz A pb->A.frozen? ⟨pb,j,none⟩=false:=by
  rcases hown with ⟨h1,h2⟩|⟨pb,po,cap,h1,h2,h3,h4,h5,h6,h7⟩
  ·exact ⟨none,.inl ⟨rfl,by simpa using h1,h2⟩⟩
  ·rw [List.length_map] at h1 h2;exact ⟨some (pb,po),.inr ⟨pb,po,cap,rfl,h1,h2,h3,h4,h5,hpz _ _ _ _ h1,h6,h7⟩⟩
 obtain ⟨β,hβ⟩:∃β:Bt,β=fun id=>if id=96000 then some (b10,o10) else if id=20 then q else none:=⟨_,rfl⟩
 have e1:β 96000=some (b10,o10):=by rw [hβ];rfl
 have e2:β 20=q:=by rw [hβ];rfl
 obtain ⟨d,hd⟩:∃d,Af .u64 (pre.map fun k=>Bv seed k (Fb leaf k))=d:=⟨_,rfl⟩
 have hdl:d.length=pre.length:=by rw [←hd,Aj,List.length_map]
 rw [hd]
 have hl0:∀id bx,B3 (NG leaf chv pre.length d) id=some bx->(id=96000∧bx=.st [.sc (.int .i64 leaf),.sc chv,.view 20 1 0 pre.length])∨(id=20∧bx=.ar false d):=by
  intro id bx e;rcases Q7 (NG leaf chv pre.length d) id with h1|⟨p,hp,h1,h2⟩
  ·rw [h1] at e;cases e
  ·rw [h2] at e;cases e;simp only [List.mem_cons,List.not_mem_nil,or_false] at hp;rcases hp with rfl|rfl
   ·exact .inl ⟨h1.symm,rfl⟩
   ·exact .inr ⟨h1.symm,rfl⟩
 have hX:∀b,BF (B3 (NG leaf chv pre.length d)) β b->b=b10∨∃po,q=some (b,po):=by
  rintro b' ⟨id,o',hl,hb⟩
  cases hh:B3 (NG leaf chv pre.length d) id with
  |none=>rw [hh] at hl;exact hl.elim
  |some bx=>
   rcases hl0 id bx hh with ⟨rfl,_⟩|⟨rfl,_⟩
   ·rw [e1] at hb;cases hb;exact .inl rfl
   ·rw [e2] at hb;exact .inr ⟨o',hb⟩
 have hqz:∀b' po,q=some (b',po)->Z b'∧(D+2<=b'∨b'=e0)∧b'<A.heap.size:=by
  intro b' po e;rcases hq with ⟨h1,_⟩|⟨pb,po',cap',h1,h2,h3,h4,h5,h6,h7,h8,h9⟩
  ·rw [h1] at e;cases e
  ·rw [h1] at e;cases e;exact ⟨h7,h6,h5⟩
 have hAlo:∀b',b'<wS.heap.size->b'≠b10->b'≠e0->¬Co (B3 (NG leaf chv pre.length d)) β (fun _=>False) b':=by
  rintro b' hb hne hne0 (hx|hf)
  ·rcases hX b' hx with h1|⟨po,h1⟩
   ·exact hne h1
   ·rcases (hqz _ _ h1).2.1 with h2|h2
    ·omega
    ·exact hne0 h2
  ·exact hf
 have hsz:wS.heap.size<A.heap.size:=by have:=hI.size;omega
 refine ⟨β,_,e1,rfl,?_,Bu.make (Arh h leaf x (2 ^ (h-x)) (Af .u64 (Eb seed (2 ^ (h-x)) x))) (NG leaf chv pre.length d) a (fun i=>i=0) (fun i hi=>by omega) ha.dfr ha.size ?_ ?_ ?_ ?_ ?_ ?_ ?_ ?_ ?_ (fun _ h=>h.elim) (fun _ h=>h.elim)⟩
 ·intro b' hb;rcases hX b' hb with rfl|⟨po,h1⟩
  ·exact ⟨hI.zlo _ l10,.inl rfl⟩
  ·exact ⟨(hqz _ _ h1).1,.inr (hqz _ _ h1).2.1⟩
 ·intro p hp;simp only [List.mem_cons,List.not_mem_nil,or_false] at hp;rcases hp with rfl|rfl|rfl|rfl|rfl<;>simp
 ·intro p hp;simp only [List.mem_cons,List.not_mem_nil,or_false] at hp;rcases hp with rfl|rfl|rfl|rfl|rfl
  ·refine ⟨⟨b5,o5,none⟩,ha.t5,rfl,by show b5<_;omega,hAlo b5 l5 n5 m5,fun j c hj=>?_⟩
   match j,hj with
   |0,hj=>cases hj;exact ⟨_,(World.cell?_of_block (a:=⟨b5,o5,none⟩) (hI.keep b5 l5 n5 m5)).trans h5,rfl,A4.sc _⟩
  ·refine ⟨⟨b6,o6,none⟩,ha.t6,rfl,by show b6<_;omega,hAlo b6 l6 n6 m6,fun j c hj=>?_⟩
   match j,hj with
   |0,hj=>cases hj;exact ⟨_,(World.cell?_of_block (a:=⟨b6,o6,none⟩) (hI.keep b6 l6 n6 m6)).trans h6,rfl,A4.sc _⟩
  ·exact ⟨b10,o10,e1,ha.t10⟩
  ·show Dl _ _ _ (.sc (.int .i64 x)) (a.tmps.getD 11 undef);rw [ha.t11,hargs];exact A4.sc _
  ·show Dl _ _ _ (.lst false 1 _ _) (a.tmps.getD 12 undef);rw [ha.t12,hargs];refine A4.lst 1 _ _ ⟨b,o,none⟩ cap (fun j=>.int .u64 (Bv seed x j)) rfl hbl ?_ hcap ?_ (fun _ _ _=>rfl) ?_
   ·rintro (hx'|hf)
    ·rcases hX b hx' with h1|⟨po,h1⟩
     ·exact hbz (h1 ▸ hI.zlo _ l10)
     ·exact hbz (hqz _ _ h1).1
    ·exact hf
   ·intro j c hj;rw [Du];have hlt:j<(Af .u64 (Eb seed (2 ^ (h-x)) x)).length:=(List.getElem?_eq_some_iff.1 hj).1;rw [Aj,KM] at hlt;exact hcell j hlt
   ·intro j c hj;have hlt:j<(Af .u64 (Eb seed (2 ^ (h-x)) x)).length:=(List.getElem?_eq_some_iff.1 hj).1;rw [Aj,KM] at hlt;rw [Ks (Rc seed hlt)] at hj;cases hj;exact A4.sc _
 ·intro id bx e;rcases hl0 id bx e with ⟨rfl,rfl⟩|⟨rfl,rfl⟩
  ·refine ⟨b10,o10,e1,fun j c hj=>?_,fun j hj=>hI.fz j hj⟩
   match j,hj with
   |0,hj=>cases hj;exact ⟨_,hI.c0,A4.sc _⟩
   |1,hj=>cases hj;exact ⟨_,hI.c1,A4.sc _⟩
   |2,hj=>
    cases hj;refine ⟨_,hpv,?_⟩;rcases hq with ⟨h1,h2,h3⟩|⟨pb,po,cap',h1,h2,h3,h4,h5,h6,h7,h8,h9⟩
    ·exact .inl ⟨e2.trans h1,rfl,by rw [h2];rfl,h3⟩
    ·exact .inr ⟨pb,po,po,cap',e2.trans h1,h2,.inl rfl,h3,by omega,h5⟩
  ·rcases hq with ⟨h1,h2,h3⟩|⟨pb,po,cap',h1,h2,h3,h4,h5,h6,h7,h8,h9⟩
   ·exact .inl ⟨e2.trans h1,by rw [←hd,h2];rfl⟩
   ·refine .inr ⟨pb,po,e2.trans h1,fun j c hj=>?_,fun _=>h9,fun h=>by cases h⟩
    have hlt:j<d.length:=(List.getElem?_eq_some_iff.1 hj).1;have hlt':j<(pre.map fun k=>Bv seed k (Fb leaf k)).length:=by rw [List.length_map];omega
    rw [←hd,Ks (List.getElem?_eq_getElem hlt')] at hj;cases hj;rw [Du];exact ⟨_,h8 j _ (List.getElem?_eq_getElem hlt'),rfl,A4.sc _⟩
 ·intro id id' b1 o1 o2 g1 g2 g3 g4
  have hid:∀i,Ca (B3 (NG leaf chv pre.length d) i)->i=96000∨i=20:=by
   intro i hi;cases hh:B3 (NG leaf chv pre.length d) i with
   |none=>rw [hh] at hi;exact hi.elim
   |some bx=>exact (hl0 i bx hh).imp (·.1) (·.1)
  have hne:∀po po',β 96000=some (b1,po)->β 20=some (b1,po')->False:=by
   intro po po' f1 f2;rw [e1] at f1;rw [e2] at f2;cases f1;rcases (hqz _ _ f2).2.1 with h2|h2
   ·omega
   ·exact m10 h2
  rcases hid id g1 with rfl|rfl<;>rcases hid id' g2 with rfl|rfl
  ·rfl
  ·exact (hne _ _ g3 g4).elim
  ·exact (hne _ _ g4 g3).elim
  ·rfl
 ·intro id b1 o1 g1 g2;cases hh:B3 (NG leaf chv pre.length d) id with
  |none=>exact absurd hh g1
  |some bx=>
   rcases hl0 id bx hh with ⟨rfl,_⟩|⟨rfl,_⟩
   ·rw [e1] at g2;cases g2;omega
   ·rw [e2] at g2;exact (hqz _ _ g2).2.2
 ·intro p hp id hid;simp only [List.mem_cons,List.not_mem_nil,or_false] at hp;rcases hp with rfl|rfl|rfl|rfl|rfl<;>simp [Bq,B8,Ar] at hid
  subst hid;simp [B3]
 ·intro id cells e c hc i hi;rcases hl0 id _ e with ⟨rfl,e'⟩|⟨rfl,e'⟩
  ·cases e';simp only [List.mem_cons,List.not_mem_nil,or_false] at hc;rcases hc with rfl|rfl|rfl<;>simp [Ar] at hi
   subst hi;exact fun h0:some (Bl.ar false d)=none=>by cases h0
  ·cases e'
 ·intro i hi;subst hi;simp [B3,Cs]
 ·intro id c e;rcases hl0 id _ e with ⟨rfl,e'⟩|⟨rfl,e'⟩
  ·exact ⟨0,rfl,rfl⟩
  ·cases e'
end
section
open Go.IntKind (wrap)
set_option maxRecDepth 20000
open Go Go.RowKit
theorem Adw:∀h:Nat,h<5->∀k:Nat,k<h->∀n:Nat,n<16->n<2 ^ h->0<=Fb (n:Int) k∧Fb (n:Int) k<((2 ^ (h-k):Nat):Int):=by decide +kernel
theorem Abq {wS:World}{D:Nat}{seed leaf:Int}{h b10 o10 e0:Nat}{chv:Value}{Z:Nat->Prop}{pre pre':List Nat}{A w':World}(hI:FB wS D seed leaf h b10 o10 e0 chv Z pre A){β':Bt}{X0:Ew}{a':Act}{m:Nat}{d:List PV}
  (hx1:X0.pt 0=some (b10,o10)) (hx2:X0.pn 0)(hX:∀b,X0.X b->Z b∧(b=b10∨D+2<=b∨b=e0)) (nD:D≠e0)(nD1:D+1≠e0)(l10:b10<wS.heap.size)(hD:wS.heap.size<=D)
  (hs:Bu 48 A X0 (fun _=>False) β' ⟨lk [(10,.ptr 96000 0)],B3 [(96000,.st [.sc (.int .i64 leaf),.sc chv,.view 96144 1 0 m]),(96144,.ar false d)]⟩ a' w')
  (hm:m=pre'.length)(hd:d=Af .u64 (pre'.map fun k=>Bv seed k (Fb leaf k))) (hlt:∀x∈pre',x<h)(hZD:Z D)(hZD1:Z (D+1)):
  JH Z (fun b=>Z b∨(A.heap.size<=b∧b<w'.heap.size)) A w'∧w'.heap[D]?=A.heap[D]?∧w'.heap[D+1]?=A.heap[D+1]?∧FB wS D seed leaf h b10 o10 e0 chv (fun b=>Z b∨(A.heap.size<=b∧b<w'.heap.size)) pre' w':=by
 have hsz:=hI.size;have hst:=hs.fr.step
 have same:∀b,b<A.heap.size->b≠b10->b≠e0->b<D+2->w'.heap[b]?=A.heap[b]?:=fun b hb hn hn0 hl=>hst.keep b hb fun hx=>by
  rcases (hX b hx).2 with h1|h1|h1
  ·exact hn h1
  ·omega
  ·exact hn0 h1
 have hp:β' 96000=some (b10,o10):=(hs.pin 0 hx2).2.trans hx1;obtain ⟨b,o,g1,g2,g3⟩:=(show ∃b o,β' 96000=some (b,o)∧_∧_ from hs.box 96000 _ (rfl:_=some (Bl.st [.sc (.int .i64 leaf),.sc chv,.view 96144 1 0 m])))
 rw [hp] at g1;cases g1;obtain ⟨v0,q0,r0⟩:=g2 0 _ rfl;obtain ⟨v1,q1,r1⟩:=g2 1 _ rfl;obtain ⟨v2,q2,r2⟩:=g2 2 _ rfl;have r0:=A4.val r0;have r1:=A4.val r1;subst r0 r1;have hb2:=hs.box 96144 _ (rfl:_=some (Bl.ar false d))
 have hne:∀pb po,β' 96144=some (pb,po)->pb≠b10∧(Z pb∨(A.heap.size<=pb∧pb<w'.heap.size))∧(D+2<=pb∨pb=e0)∧pb<w'.heap.size:=by
  intro pb po e;have hlt:pb<w'.heap.size:=hs.blt 96144 pb po (fun h0:some (Bl.ar false d)=none=>by cases h0) e
  have hn:pb≠b10:=by
   intro e';subst e';have:=hs.inj 96000 96144 pb o10 po trivial trivial hp e;cases this
  rcases hs.ownd pb ⟨96144,po,trivial,e⟩ with h1|h1
  ·have h2:=hX pb h1;rcases h2.2 with h3|h3
   ·exact absurd h3 hn
   ·exact ⟨hn,.inl h2.1,h3,hlt⟩
  ·exact ⟨hn,.inr ⟨h1,hlt⟩,.inl (by omega),hlt⟩
 refine ⟨⟨hs.fr.os,hs.fr.tape,hs.fr.output,hst.size,fun b hb hn=>hst.keep b hb fun hx=>hn (hX b hx).1,fun b hb=>.inl hb,fun b hb=>hb.imp (fun x=>x) (·.1),fun b hb=>hb.elim (fun h1=>Nat.lt_of_lt_of_le (hI.zlt b h1) hst.size) (·.2),hst.bs⟩,
  same D (hI.zlt D hZD) (by omega) nD (by omega),same (D+1) (hI.zlt _ hZD1) (by omega) nD1 (by omega),?_⟩
 refine ⟨hs.fr.os.trans hI.os,hs.fr.tape.trans hI.tape,hs.fr.output.trans hI.output,by have:=hst.size;omega,fun b hb=>.inl (hI.zlo b hb),fun b hb=>hb.elim (fun h1=>Nat.lt_of_lt_of_le (hI.zlt b h1) hst.size) (·.2),fun b hb hn hn0=>(same b (by omega) hn hn0 (by omega)).trans (hI.keep b hb hn hn0),Nat.le_trans hI.bs (hst.bs b10 (by omega)),q0,q1,fun k hk=>g3 k hk,hlt,v2,q2,?_,?_⟩
 ·rcases r2 with ⟨f1,_,f3,f4⟩|⟨pb,po,xx,cap,f1,f2,f3,f4,f5,f6⟩
  ·have:pre'=[]:=List.length_eq_zero_iff.1 (by omega)
   exact .inl ⟨by rw [this];rfl,f4⟩
  ·rcases hb2 with ⟨e1,_⟩|⟨pb',po',e1,e2,e3,_⟩
   ·rw [f1] at e1;cases e1
   ·rw [f1] at e1;cases e1;have hxx:xx=po:=by omega
    subst hxx;refine .inr ⟨pb,xx,cap,by rw [f2,List.length_map,hm],by rw [List.length_map];omega,by omega,f6,(hne pb xx f1).2.2.1,fun j y hj=>?_,fun j hj hjb=>e3 rfl j hj hjb⟩
    obtain ⟨v,h1,_,h3⟩:=e2 j (.sc (.int .u64 y)) (by rw [hd];exact Ks hj)
    rw [Du] at h1;rw [h1,A4.val h3]
 ·intro pb po n cap e;rcases r2 with ⟨f1,_,f3,f4⟩|⟨pb',po',xx,cap',f1,f2,f3,f4,f5,f6⟩
  ·rw [f4] at e;cases e
  ·rw [f2] at e;cases e;exact (hne pb po' f1).2.1
def Ap3 (wS:World)(D:Nat)(seed leaf:Int)(h b10 o10 e0:Nat)(chv:Value)(c:Code)(Z:Nat->Prop)(xs:List Nat)(B:World):Prop:=c=.exit 0∧∃pre,xs=pre++[h]∧FB wS D seed leaf h b10 o10 e0 chv Z pre B
theorem Aiv {wS:World}{D:Nat}{seed leaf:Int}{h b5 o5 b6 o6 b10 o10 e0:Nat}{chv:Value}{Z:Nat->Prop}{pre:List Nat}{A:World}(hh:h<=4)(hl0:0<=leaf)(hl1:leaf<((2 ^ h:Nat):Int)) (hI:FB wS D seed leaf h b10 o10 e0 chv Z pre A){x:Nat}{args:Array Value}(hM:lvM seed h pre x args Z A){a:Act}(ha:Aqz wS b5 o5 b6 o6 b10 o10 args a)
  (h5:wS.cell? ⟨b5,o5,none⟩=some (.int .i64 h)) (h6:wS.cell? ⟨b6,o6,none⟩=some (.int .i64 leaf)) (l5:b5<wS.heap.size)(l6:b6<wS.heap.size)(l10:b10<wS.heap.size)(n5:b5≠b10)(n6:b6≠b10)(m5:b5≠e0)(m6:b6≠e0)(m10:b10≠e0)(nD:D≠e0)(nD1:D+1≠e0)(hD:wS.heap.size<=D)(hZD:Z D)(hZD1:Z (D+1)):
  Abg.wpIn (WF (some (D+1))) 0 Tryz.prog (Abi D (FB wS D seed leaf h b10 o10 e0 chv) (Ap3 wS D seed leaf h b10 o10 e0 chv) Z (pre++[x]) A) a A:=by
 obtain ⟨β,X0,hx1,hx2,hX,hs⟩:=Aiy hI hM ha h5 h6 l5 l6 l10 n5 n6 m5 m6 m10 hD;have hx:=hM.1;have hpl:pre.length<=1000:=by rw [hM.2.1,List.length_range];omega
 have hQo:∀a w,¬Abi D (FB wS D seed leaf h b10 o10 e0 chv) (Ap3 wS D seed leaf h b10 o10 e0 chv) Z (pre++[x]) A .outgrown a w:=fun a w ⟨_,_,_,_,hf⟩=>hf
 by_cases hxh:x=h
 ·subst hxh;refine JR (Pp _ _) QT C5 (by kernel_rfl) hQo hs (t:=1) (L:=1024) (s1:=⟨lk [(10,.ptr 96000 0)],B3 [(96000,.st [.sc (.int .i64 leaf),.sc chv,.view 96144 1 0 pre.length]),(96144,.ar false (Af .u64 (pre.map fun k=>Bv seed k (Fb leaf k))))]⟩) ?_ ?_
  ·refine (Agw cl x leaf x chv _ _ _ _).trans ?_;rw [show ((x:Int)==(x:Int))=true from beq_self_eq_true _]
   rfl
  ·intro a' w' β' hs';obtain ⟨k1,k2,k3,k4⟩:=Abq hI hx1 hx2 hX nD nD1 l10 hD hs' rfl rfl hI.lt hZD hZD1;exact ⟨_,k1,k2,k3,rfl,pre,rfl,k4⟩
 ·have hlt:x<h:=by omega
  obtain ⟨n,rfl⟩:∃n:Nat,leaf=n:=⟨leaf.toNat,by omega⟩
  have h16:2 ^ h<=16:=by
   have:2 ^ h<=2 ^ 4:=Nat.pow_le_pow_right (by omega) hh
   omega
  have sb:=Adw h (by omega) x hlt n (by omega) (by omega)
  have es:C8 .i64 (Dw .i64 (n:Int) (x:Int)) 1=Fb n x:=rfl;obtain ⟨y,hy⟩:∃y:Nat,Fb n x=y:=⟨(Fb n x).toNat,by omega⟩
  have at1:(Af .u64 (Eb seed (2 ^ (h-x)) x)).getD y .top=.sc (.int .u64 (Bv seed x (Fb n x))):=by
   rw [hy] at sb ⊢;exact Uh (Rc seed (by omega))
  have L:(Af .u64 (pre.map fun k=>Bv seed k (Fb n k))).length=pre.length:=by rw [Aj,List.length_map]
  have T:List.take pre.length (Af .u64 (pre.map fun k=>Bv seed k (Fb n k)))=Af .u64 (pre.map fun k=>Bv seed k (Fb n k)):=Uf (by omega)
  have bq:((x:Int)==(h:Int))=false:=by
   rw [beq_eq_false_iff_ne];omega
  refine JR (Pp _ _) QT C5 (by kernel_rfl) hQo hs (t:=0) (L:=1024) (s1:=⟨lk [(10,.ptr 96000 0)],B3 [(96000,.st [.sc (.int .i64 n),.sc chv,.view 96144 1 0 (pre.length+1)]),(96144,.ar false (Af .u64 (pre.map fun k=>Bv seed k (Fb n k))++[.sc (.int .u64 (Bv seed x (Fb n x)))]))]⟩) ?_ ?_
  ·refine (Agw cl h n x chv _ _ _ _).trans ?_;rw [bq];have t0:(0:Int)<=x:=by omega
   have t1:(0:Int)<=y:=by omega
   have t2:(y:Int)<((2 ^ (h-x):Nat):Int):=by omega
   have hn0:((pre.length+1)*8<=1099511627776):=by omega
   generalize 2 ^ (h-x)=nn at *
   simp (disch:=omega) only [Br,es,hy,at1,L,T,H2,Cc]
  ·intro a' w' β' hs'
   obtain ⟨k1,k2,k3,k4⟩:=Abq (pre':=pre++[x]) hI hx1 hx2 hX nD nD1 l10 hD hs' (by simp) (by simp) (by
    intro z hz;rcases List.mem_append.1 hz with h1|h1
    ·exact hI.lt z h1
    ·rw [List.mem_singleton.1 h1];exact hlt) hZD hZD1
   exact ⟨_,k1,k2,k3,k4⟩
end
section
open Go.IntKind (wrap)
set_option maxRecDepth 20000
open Go Go.RowKit Go.Shelf
set_option maxHeartbeats 2000000 in
theorem Alv (seed h:Int)(n:Nat)(w:World):CallsIn Fence.wide n Tryz.prog 77 #[.int .u64 seed,.int .i64 h] w fun e w'=>
  e=.returned (.func (.func 107) #[] #[.pointer (some ⟨w.heap.size+1,0,none⟩),.pointer (some ⟨w.heap.size,0,none⟩)])∧w'=(w.alloc (.cells #[.int .u64 seed] 22)).alloc (.cells #[.int .i64 h] 3):=by
 refine callsIn_of_wp Tryz.func77 rfl trivial ?_ rfl;simp only [Tryz.ntmps77,List.size_toArray,J4,Z3,Nat.reduceAdd,Nat.reduceSub,Array.replicate_succ,Array.replicate_zero,List.push_toArray,List.append_toArray,Zzq,List.cons_append]
 gi_wp2
 go_ret
 exact ⟨rfl,rfl⟩
end
section
open Go.IntKind (wrap)
set_option maxRecDepth 20000
open Go Go.RowKit
theorem Am9 {G:Ug}{P:Program}{f:FuncId}{v0 v1 v2 v3:Value}{vals:List PV}(hf:∃fn,P.funcs[f]?=some fn∧fn.body.isSome=true)
  (h:∀(w:World)(Y:Nat->Prop),(∀b,Y b->b<w.heap.size)->Calls P f #[v0,v1,v2,v3] w fun e w'=>∃vs own,e=.returned (Ld vs)∧Out w w' Y MU [.sc v0,.sc v1,.sc v2,.sc v3] own ⟨vals,[]⟩ vs):Cy G P f [.sc v0,.sc v1,.sc v2,.sc v3] ⟨vals,[]⟩:=by
 refine ⟨hf,fun w Y bt us hin _ _=>?_⟩
 have hus:us=[v0,v1,v2,v3]:=by
  have ha:=hin.args
  match us,ha with
  |[u0,u1,u2,u3],⟨h0,h1,h2,h3,_⟩=>
   rw [A4.val h0.2,A4.val h1.2,A4.val h2.2,A4.val h3.2]
 subst hus
 have hl:∀i q,bt i 0≠some q:=by
  intro i q e;obtain ⟨p,h1,h2⟩:=hin.l0 i q e
  match i,h1 with
  |0,h1=>cases h1;cases h2
  |1,h1=>cases h1;cases h2
  |2,h1=>cases h1;cases h2
  |3,h1=>cases h1;cases h2
 refine (h w Y hin.Ylt).mono ?_
 rintro e w' ⟨vs,own,rfl,ho⟩
 have hA:TV bt own Y=TV MU own Y:=by
  funext b
  apply propext;constructor
  ·rintro (h1|⟨i,o,h1⟩|h1)
   ·exact .inl h1
   ·exact absurd h1 (hl i _)
   ·exact .inr (.inr h1)
  ·rintro (h1|⟨i,o,h1⟩|h1)
   ·exact .inl h1
   ·cases h1
   ·exact .inr (.inr h1)
 refine ⟨vs,own,rfl,ho.os,ho.tape,ho.output,ho.ext.weaken (fun b _ hb=>absurd hb (Ut b)),fun b j hb _=>ho.rng b j hb ?_,by rw [hA];exact ho.vals,rfl,fun j b o hj=>⟨(ho.fresh j b o hj).1,fun hlt=>?_⟩,ho.inj⟩
 ·rintro ⟨i,p,_,⟨k,o,h1,_⟩|⟨o,ps,h1,_⟩⟩
  ·cases h1
  ·cases h1
 ·obtain ⟨⟨i,k,o',h1⟩,_⟩:=(ho.fresh j b o hj).2 hlt;cases h1
theorem Bu.unbase {N:Nat}{we B w':World}{X XB:Ew}{Y YB:Nat->Prop}{β:Bt}{s:St}{a:Act}(h:Bu N B XB YB β s a w')(hY:∀b,Y b->YB b)(hYlt:∀b,Y b->b<we.heap.size)(hown:∀b,XB.X b->we.heap.size<=b)(hpn:∀i,¬X.pn i)
  (hos:B.os=we.os)(ht:B.tape=we.tape)(hou:B.output=we.output)(hsz:we.heap.size<=B.heap.size)(hk:∀b,b<we.heap.size->B.heap[b]?=we.heap[b]?):Bu N we X Y β s a w':=by
 have hX:∀b,BF s.hp β b->we.heap.size<=b:=fun b hb=>(h.ownd b hb).elim (hown b) (fun h1=>Nat.le_trans hsz h1)
 have hA:∀b,Co s.hp β Y b->Co s.hp β YB b:=fun b hb=>hb.imp (fun x=>x) (hY b)
 have hst:B5 (Co s.hp β YB) w' w':=⟨Nat.le_refl _,fun _ _ _=>rfl,fun _ _=>Nat.le_refl _⟩
 have hkw:∀b,b<we.heap.size->w'.heap[b]?=we.heap[b]?:=fun b hb=>(h.fr.step.keep b (by omega) fun hx=>by have:=hown b hx;omega).trans (hk b hb)
 refine ⟨h.dfr,h.tsz,h.tmo,fun i hi=>(h.tms i hi).step hst (fun b _=>hA b) fun _ _=>rfl,fun id bx e=>(h.box id bx e).step' hA,h.inj,h.blt,h.wfT,h.wfB,fun b hb=>.inr (hX b hb),fun id bx b o h1 h2 h3 h4=>?_,fun i hi=>absurd hi (hpn i),fun id c b o h1 h2 h3=>?_,fun b hy=>h.Yx b (hY b hy),hYlt,
  ⟨h.fr.os.trans hos,h.fr.tape.trans ht,h.fr.output.trans hou,⟨Nat.le_trans hsz h.fr.step.size,fun b hb _=>hkw b hb,fun b hb=>by unfold bsz;rw [hkw b hb];exact Nat.le_refl _⟩,fun b j hb _=>⟨World.cell?_of_block (hkw b hb),frozen?_of_block (hkw b hb)⟩⟩⟩
 ·have:=hX b ⟨id,o,by rw [h1];exact h2,h3⟩
  omega
 ·have:=hX b ⟨id,o,by rw [h1];trivial,h2⟩
  omega
theorem FB.stay {wS:World}{D:Nat}{seed leaf:Int}{h b10 o10 e0:Nat}{chv:Value}{Z:Nat->Prop}{pre:List Nat}{A B:World}(hI:FB wS D seed leaf h b10 o10 e0 chv Z pre A)(l10:b10<wS.heap.size)(nD:D≠e0)(nD1:D+1≠e0)(hD:wS.heap.size<=D)(hs:W7 (fun b=>Z b∧b≠D∧b≠D+1) A B):FB wS D seed leaf h b10 o10 e0 chv Z pre B:=by
 have e:∀b,b<wS.heap.size->B.heap[b]?=A.heap[b]?:=fun b hb=>hs.same b ⟨hI.zlo b hb,by omega,by omega⟩
 have hb:bsz B b10=bsz A b10:=by unfold bsz;rw [e b10 l10]
 have hc:∀j,B.cell? ⟨b10,j,none⟩=A.cell? ⟨b10,j,none⟩:=fun j=>World.cell?_of_block (e b10 l10)
 obtain ⟨pv,p1,p2,p3⟩:=hI.path;refine ⟨hs.os.trans hI.os,hs.tape.trans hI.tape,hs.output.trans hI.output,Nat.le_trans hI.size hs.size,hI.zlo,fun b hz=>Nat.lt_of_lt_of_le (hI.zlt b hz) hs.size,fun b hb hn hn0=>(e b hb).trans (hI.keep b hb hn hn0),by rw [hb];exact hI.bs,(hc _).trans hI.c0,(hc _).trans hI.c1,fun k hk=>by rw [frozen?_of_block (e b10 l10)];exact hI.fz k hk,hI.lt,pv,(hc _).trans p1,?_,p3⟩
 rcases p2 with p2|⟨pb,po,cap,h1,h2,h3,h4,h5,h6,h7⟩
 ·exact .inl p2
 ·have hh:B.heap[pb]?=A.heap[pb]?:=hs.same pb ⟨p3 _ _ _ _ h1,by omega,by omega⟩
  have hbb:bsz B pb=bsz A pb:=by unfold bsz;rw [hh]
  exact .inr ⟨pb,po,cap,h1,h2,by rw [hbb];exact h3,Nat.lt_of_lt_of_le h4 hs.size,h5,fun j x hj=>(World.cell?_of_block (a:=⟨pb,po+j,none⟩) hh).trans (h6 j x hj),fun j hj hjb=>by rw [frozen?_of_block hh];exact h7 j hj (by rw [←hbb];exact hjb)⟩
end
section
open Go.IntKind (wrap)
set_option maxRecDepth 20000
open Go Go.RowKit
abbrev sgE (leaf:Int)(n1 n2:Nat)(c1 c2:List PV):List (Nat × PV):=[(8,.ptr 96000 0),(9,.sc (.int .i64 0)),(10,.iptr [.sc (.int .i64 leaf),.lst false 1 n1 c1,.lst false 1 n2 c2] 0)]
theorem Amq {wS:World}{D:Nat}{seed leaf:Int}{h b8 o8 b10 o10 e0:Nat}{chv:Value}{Z:Nat->Prop}{pre:List Nat}{B:World}{Y:Nat->Prop}{a:Act}{n1:Nat}{c1:List PV}(hB:FB wS D seed leaf h b10 o10 e0 chv Z pre B)
  (hd:a.defers=[]) (hsz:a.tmps.size=48)(t8:a.tmps.getD 8 undef=.pointer (some ⟨b8,o8,none⟩)) (t9:a.tmps.getD 9 undef=.int .i64 0)(t10:a.tmps.getD 10 undef=.pointer (some ⟨b10,o10,none⟩))
  (c8:∀j,j<3->∃v,B.cell? ⟨b8,o8+j,none⟩=some v)(f8:∀j,j<3->B.frozen? ⟨b8,o8+j,none⟩=false)(l8:b8<B.heap.size)(l10:b10<B.heap.size)(n8:b8≠b10)(y8:¬Y b8)(y10:¬Y b10)
  (hch:A4 B (fun b=>b=b8∨Y b) (.lst false 1 n1 c1) chv) (hch1:chv.oneCell'=true)(hp:∀pb,(D+2<=pb∨pb=e0)->pb≠b8∧¬Y pb) (hY:∀b,Y b->b<B.heap.size):
  ∃X0 β,(∀b,X0.X b->b=b8)∧Bu 48 B X0 Y β ⟨lk (sgE leaf n1 pre.length c1 (Af .u64 (pre.map fun k=>Bv seed k (Fb leaf k)))),B3 [(96000,.st [.top,.top,.top])]⟩ a B:=by
 obtain ⟨pv,hpv,hown,hpz⟩:=hB.path;obtain ⟨β,hβ⟩:∃β:Bt,β=fun id=>if id=96000 then some (b8,o8) else none:=⟨_,rfl⟩
 have e1:β 96000=some (b8,o8):=by rw [hβ];rfl
 have hl0:∀id bx,B3 [(96000,Bl.st [.top,.top,.top])] id=some bx->id=96000∧bx=.st [.top,.top,.top]:=by
  intro id bx e;rcases Q7 [(96000,Bl.st [.top,.top,.top])] id with h1|⟨p,hp,h1,h2⟩
  ·rw [h1] at e;cases e
  ·rw [h2] at e;cases e;simp only [List.mem_cons,List.not_mem_nil,or_false] at hp;subst hp;exact ⟨h1.symm,rfl⟩
 have hX:∀b,BF (B3 [(96000,Bl.st [.top,.top,.top])]) β b->b=b8:=by
  rintro b' ⟨id,o',hl,hb⟩
  cases hh:B3 [(96000,Bl.st [.top,.top,.top])] id with
  |none=>rw [hh] at hl;exact hl.elim
  |some bx=>
   obtain ⟨rfl,_⟩:=hl0 id bx hh;rw [e1] at hb;cases hb;rfl
 have hA:∀b,Co (B3 [(96000,Bl.st [.top,.top,.top])]) β Y b->b=b8∨Y b:=fun b hb=>hb.imp (hX b) (fun x=>x)
 have hst:B5 (fun b=>b=b8∨Y b) B B:=⟨Nat.le_refl _,fun _ _ _=>rfl,fun _ _=>Nat.le_refl _⟩
 have one:pv.oneCell'=true:=by
  rcases hown with ⟨_,h2⟩|⟨pb,po,cap,h1,_⟩
  ·rw [h2];rfl
  ·rw [h1];rfl
 refine ⟨_,β,?_,Bu.make (sgE leaf n1 pre.length c1 (Af .u64 (pre.map fun k=>Bv seed k (Fb leaf k)))) [(96000,.st [.top,.top,.top])] a (fun i=>i=0) (fun i hi=>by omega) hd hsz ?_ ?_ ?_ ?_ ?_ ?_ ?_ ?_ ?_ ?_ hY⟩
 ·exact hX
 ·intro p hp';simp only [List.mem_cons,List.not_mem_nil,or_false] at hp';rcases hp' with rfl|rfl|rfl<;>simp
 ·intro p hp';simp only [List.mem_cons,List.not_mem_nil,or_false] at hp';rcases hp' with rfl|rfl|rfl
  ·exact ⟨b8,o8,e1,t8⟩
  ·show Dl _ _ _ (.sc (.int .i64 0)) (a.tmps.getD 9 undef);rw [t9];exact A4.sc _
  ·refine ⟨⟨b10,o10,none⟩,t10,rfl,l10,fun hb=>?_,fun j c hj=>?_⟩
   ·rcases hA _ hb with h1|h1
    ·exact n8 h1.symm
    ·exact y10 h1
   ·match j,hj with
    |0,hj=>cases hj;exact ⟨_,hB.c0,rfl,A4.sc _⟩
    |1,hj=>cases hj;exact ⟨_,hB.c1,hch1,hch.step hst fun b _=>hA b⟩
    |2,hj=>
     cases hj;refine ⟨_,hpv,one,?_⟩;rcases hown with ⟨h1,h2⟩|⟨pb,po,cap,h1,h2,h3,h4,h5,h6,h7⟩
     ·rw [h2];have:pre=[]:=by simpa using h1
      subst this;exact A4.lnil _ _
     ·rw [h1,List.length_map];rw [List.length_map] at h2;refine A4.lst 1 _ _ ⟨pb,po,none⟩ cap (fun j=>.int .u64 ((pre.map fun k=>Bv seed k (Fb leaf k)).getD j 0)) rfl h4 (fun hb=>?_) h2 ?_ (fun _ _ _=>rfl) ?_
      ·have hh:=hp pb h5;rcases hA _ hb with h8|h8
       ·exact hh.1 h8
       ·exact hh.2 h8
      ·intro j c hj;have hlt:j<(Af .u64 (pre.map fun k=>Bv seed k (Fb leaf k))).length:=(List.getElem?_eq_some_iff.1 hj).1
       rw [Aj] at hlt;rw [Du,h6 j _ (List.getElem?_eq_getElem hlt),List.getD_eq_getElem?_getD,List.getElem?_eq_getElem hlt];rfl
      ·intro j c hj;have hlt:j<(Af .u64 (pre.map fun k=>Bv seed k (Fb leaf k))).length:=(List.getElem?_eq_some_iff.1 hj).1
       rw [Aj] at hlt;rw [Ks (List.getElem?_eq_getElem hlt)] at hj;cases hj;rw [List.getD_eq_getElem?_getD,List.getElem?_eq_getElem hlt];exact A4.sc _
 ·intro id bx e;obtain ⟨rfl,rfl⟩:=hl0 id bx e;refine ⟨b8,o8,e1,fun j c hj=>?_,fun j hj=>f8 j hj⟩
  have hlt:j<3:=(List.getElem?_eq_some_iff.1 hj).1;obtain ⟨v,hv⟩:=c8 j hlt
  match j,hj with
  |0,hj=>cases hj;exact ⟨v,hv,A4.top _⟩
  |1,hj=>cases hj;exact ⟨v,hv,A4.top _⟩
  |2,hj=>cases hj;exact ⟨v,hv,A4.top _⟩
 ·intro id id' b1 o1 o2 g1 g2 g3 g4
  have hid:∀i,Ca (B3 [(96000,Bl.st [.top,.top,.top])] i)->i=96000:=by
   intro i hi;cases hh:B3 [(96000,Bl.st [.top,.top,.top])] i with
   |none=>rw [hh] at hi;exact hi.elim
   |some bx=>exact (hl0 i bx hh).1
  rw [hid id g1,hid id' g2]
 ·intro id b1 o1 g1 g2;cases hh:B3 [(96000,Bl.st [.top,.top,.top])] id with
  |none=>exact absurd hh g1
  |some bx=>
   obtain ⟨rfl,_⟩:=hl0 id bx hh;rw [e1] at g2;cases g2;exact l8
 ·intro p hp' id hid;simp only [List.mem_cons,List.not_mem_nil,or_false] at hp';rcases hp' with rfl|rfl|rfl<;>simp [Bq,B8,Ar] at hid
  subst hid;simp [B3]
 ·intro id cells e c hc i hi;obtain ⟨rfl,e'⟩:=hl0 id _ e;cases e';simp only [List.mem_cons,List.not_mem_nil,or_false] at hc;rcases hc with rfl|rfl|rfl<;>simp [Ar] at hi
 ·intro i hi;subst hi;simp [B3,Cs]
 ·intro id c e;obtain ⟨rfl,_⟩:=hl0 id _ e;exact ⟨0,rfl,rfl⟩
 ·intro b hy hx;rw [hX b hx] at hy;exact y8 hy
end
section
open Go.IntKind (wrap)
set_option maxRecDepth 20000
open Go Go.RowKit
abbrev Adz (seed h leaf m:Int)(n:Nat)(c:List PV):St:=
  ⟨lk [(0,.sc (.int .u64 seed)),(3,.sc (.int .u64 m)),(5,.ptr 5 0),(6,.ptr 6 0),(8,.ptr 8 0),(9,.sc (.int .i64 0)),(10,.ptr 10 0),(27,.sc (.int .u64 seed)),(28,.sc (.int .i64 h))],
   B3 [(5,.st [.sc (.int .i64 h)]),(6,.st [.sc (.int .i64 leaf)]),(8,.st [.sc (.int .i64 0),.view 104 1 0 0,.view 152 1 0 0]),(104,.ar false []),(152,.ar false []),(10,.st [.sc (.int .i64 leaf),.view 106 1 0 n,.view 154 1 0 0]),(106,.ar false c),(154,.ar false [])]⟩
theorem Bu.var {N:Nat}{w0:World}{X0:Ew}{Y:Nat->Prop}{β:Bt}{s:St}{a:Act}{w:World}(h:Bu N w0 X0 Y β s a w){i id:Nat}{cells:List PV}(hi:i<N)(ht:s.tm i=.ptr id 0)(hb:s.hp id=some (.st cells)):
  ∃b o,β id=some (b,o)∧a.tmps.getD i undef=.pointer (some ⟨b,o,none⟩)∧b<w.heap.size∧(∀j c,cells[j]?=some c->∃v,w.cell? ⟨b,o+j,none⟩=some v∧B6 w (Co s.hp β Y) β c v)∧∀j,j<cells.length->w.frozen? ⟨b,o+j,none⟩=false:=by
 have h1:=h.tms i hi;rw [ht] at h1;obtain ⟨b,o,e1,e2⟩:=(show ∃b o,β id=some (b,o)∧a.tmps.getD i undef=.pointer (some ⟨b,o+0,none⟩) from h1)
 obtain ⟨b',o',e3,e4,e5⟩:=(show ∃b o,β id=some (b,o)∧_∧_ from h.box id _ hb)
 rw [e1] at e3;cases e3;exact ⟨b,o,e1,e2,h.blt id b o (by rw [hb];simp) e1,e4,e5⟩
structure Aq2 (w w4:World) (Y:Nat->Prop) (seed h leaf:Int) (c:List PV) (n:Nat) (a4:Act) (b5 o5 b6 o6 b8 o8 b10 o10 e0:Nat) (chv:Value):Prop where
 t5:a4.tmps.getD 5 undef=.pointer (some ⟨b5,o5,none⟩)
 t6:a4.tmps.getD 6 undef=.pointer (some ⟨b6,o6,none⟩)
 t8:a4.tmps.getD 8 undef=.pointer (some ⟨b8,o8,none⟩)
 t9:a4.tmps.getD 9 undef=.int .i64 0
 t10:a4.tmps.getD 10 undef=.pointer (some ⟨b10,o10,none⟩)
 t27:a4.tmps.getD 27 undef=.int .u64 seed
 t28:a4.tmps.getD 28 undef=.int .i64 h
 c5:w4.cell? ⟨b5,o5,none⟩=some (.int .i64 h)
 c6:w4.cell? ⟨b6,o6,none⟩=some (.int .i64 leaf)
 c8:∀j,j<3->∃v,w4.cell? ⟨b8,o8+j,none⟩=some v
 f8:∀j,j<3->w4.frozen? ⟨b8,o8+j,none⟩=false
 c10:w4.cell? ⟨b10,o10,none⟩=some (.int .i64 leaf)
 c11:w4.cell? ⟨b10,o10+1,none⟩=some chv
 f10:∀j,j<3->w4.frozen? ⟨b10,o10+j,none⟩=false
 l5:b5<w4.heap.size
 l6:b6<w4.heap.size
 l8:b8<w4.heap.size
 l10:b10<w4.heap.size
 le:e0<=w4.heap.size
 n5:b5≠b10
 n6:b6≠b10
 m5:b5≠e0
 m6:b6≠e0
 m10:b10≠e0
 n8:b8≠b10
 m8:b8≠e0
 y8:¬Y b8
 y10:¬Y b10
 ye:¬Y e0
 g10:w.heap.size<=b10
 ge:w.heap.size<=e0
 g8:w.heap.size<=b8
 one:chv.oneCell'=true
 ch:∀B:World,w4.heap.size<=B.heap.size->(∀b,b<w4.heap.size->b≠b10->b≠e0->B.heap[b]?=w4.heap[b]?)->A4 B (fun b=>b=b8∨Y b) (.lst false 1 n c) chv
 p0:∃v2,w4.cell? ⟨b10,o10+2,none⟩=some v2∧(v2=.slice none 0 0∨∃x cap,v2=.slice (some ⟨e0,x,none⟩) 0 cap∧x+cap<=bsz w4 e0∧e0<w4.heap.size∧∀j,x<=j->j<bsz w4 e0->w4.frozen? ⟨e0,j,none⟩=false)
theorem Ai4 {w w4:World}{Y:Nat->Prop}{seed h leaf m:Int}{l:List Int}{n:Nat}{a4:Act}{X0:Ew}{β4:Bt}(hn:0<n)(hl:l.length=n)(hX:∀b,¬X0.X b)(hs:Bu 48 w X0 Y β4 (Adz seed h leaf m n (Af .u64 l)) a4 w4):
  ∃b5 o5 b6 o6 b8 o8 b10 o10 e0 chv,Aq2 w w4 Y seed h leaf (Af .u64 l) n a4 b5 o5 b6 o6 b8 o8 b10 o10 e0 chv:=by
 obtain ⟨b5,o5,e5,t5,l5,k5,f5⟩:=hs.var (i:=5) (id:=5) (by decide) rfl rfl
 obtain ⟨b6,o6,e6,t6,l6,k6,f6⟩:=hs.var (i:=6) (id:=6) (by decide) rfl rfl
 obtain ⟨b8,o8,e8,t8,l8,k8,f8⟩:=hs.var (i:=8) (id:=8) (by decide) rfl rfl
 obtain ⟨b10,o10,e10,t10,l10,k10,f10⟩:=hs.var (i:=10) (id:=10) (by decide) rfl rfl
 obtain ⟨v5,q5,r5⟩:=k5 0 _ rfl;obtain ⟨v6,q6,r6⟩:=k6 0 _ rfl;obtain ⟨v80,q80,_⟩:=k8 0 _ rfl;obtain ⟨v81,q81,_⟩:=k8 1 _ rfl;obtain ⟨v82,q82,_⟩:=k8 2 _ rfl;obtain ⟨v0,q0,r0⟩:=k10 0 _ rfl;obtain ⟨v1,q1,r1⟩:=k10 1 _ rfl;obtain ⟨v2,q2,r2⟩:=k10 2 _ rfl;have r5:=A4.val r5;have r6:=A4.val r6;have r0:=A4.val r0;subst r5 r6 r0;have hb1:=hs.box 106 _ (rfl:_=some (Bl.ar false (Af .u64 l)));have hb2:=hs.box 154 _ (rfl:_=some (Bl.ar false []));have own:∀id b o,Ca ((Adz seed h leaf m n (Af .u64 l)).hp id)->β4 id=some (b,o)->w.heap.size<=b∧¬Y b:=fun id b o h1 h2=>⟨(hs.ownd b ⟨id,o,h1,h2⟩).elim (fun x=>absurd x (hX b)) (fun x=>x),fun hy=>hs.Yx b hy ⟨id,o,h1,h2⟩⟩
 have dif:∀id id' b b' o o',id≠id'->Ca ((Adz seed h leaf m n (Af .u64 l)).hp id)->Ca ((Adz seed h leaf m n (Af .u64 l)).hp id')->β4 id=some (b,o)->β4 id'=some (b',o')->b≠b':=fun id id' b b' o o' hne h1 h2 h3 h4 e=>by
  subst e;exact hne (hs.inj id id' b o o' h1 h2 h3 h4)
 obtain ⟨e0,he1,he2⟩:∃e0,(∀b o,β4 154=some (b,o)->e0=b)∧((∃o,β4 154=some (e0,o))∨e0=w4.heap.size):=by
  cases hq:β4 154 with
  |none=>exact ⟨w4.heap.size,fun b o h=>by (cases h),.inr rfl⟩
  |some q=>exact ⟨q.1,fun b o h=>by (cases h;rfl),.inl ⟨q.2,rfl⟩⟩
 have hlt4:w.heap.size<=w4.heap.size:=hs.fr.step.size
 have de:∀id b o,id≠154->Ca ((Adz seed h leaf m n (Af .u64 l)).hp id)->β4 id=some (b,o)->b<w4.heap.size->b≠e0:=fun id b o hne h1 h2 hlt e=>by
  rcases he2 with ⟨o',h3⟩|h3
  ·exact dif id 154 b e0 o o' hne h1 trivial h2 h3 e
  ·omega
 have ge:w.heap.size<=e0∧¬Y e0∧e0<=w4.heap.size:=by
  rcases he2 with ⟨o',h3⟩|h3
  ·have:=own 154 e0 o' trivial h3;exact ⟨this.1,this.2,Nat.le_of_lt (hs.blt 154 e0 o' (fun h0:some (Bl.ar false [])=none=>by cases h0) h3)⟩
  ·exact ⟨by omega,fun hy=>by have:=hs.Ylt e0 hy;omega,by omega⟩
 rcases r1 with ⟨_,_,h3,_⟩|⟨cb,co,x,cap,g1,g2,g3,g4,g5,g6⟩
 ·omega
 rcases hb1 with ⟨h7,_⟩|⟨cb',co',h7,h8,h9,_⟩
 ·rw [g1] at h7;cases h7
 rw [g1] at h7;cases h7;have hx:x=co:=by omega
 subst hx
 refine ⟨b5,o5,b6,o6,b8,o8,b10,o10,e0,v1,⟨t5,t6,t8,Oc (hs.tms 9 (by decide)),t10,Oc (hs.tms 27 (by decide)),Oc (hs.tms 28 (by decide)),q5,q6,fun j hj=>?_,fun j hj=>f8 j hj,q0,q1,fun j hj=>f10 j hj,l5,l6,l8,l10,ge.2.2,
  dif 5 10 _ _ _ _ (by decide) trivial trivial e5 e10,dif 6 10 _ _ _ _ (by decide) trivial trivial e6 e10,de 5 _ _ (by decide) trivial e5 l5,de 6 _ _ (by decide) trivial e6 l6,de 10 _ _ (by decide) trivial e10 l10,dif 8 10 _ _ _ _ (by decide) trivial trivial e8 e10,de 8 _ _ (by decide) trivial e8 l8,
  (own 8 _ _ trivial e8).2,(own 10 _ _ trivial e10).2,ge.2.1,(own 10 _ _ trivial e10).1,ge.1,(own 8 _ _ trivial e8).1,by rw [g2];rfl,fun B hB hk=>?_,v2,q2,?_⟩⟩
 ·match j,hj with
  |0,_=>exact ⟨v80,q80⟩
  |1,_=>exact ⟨v81,q81⟩
  |2,_=>exact ⟨v82,q82⟩
 ·have hsame:=hk cb g6 (dif 106 10 _ _ _ _ (by decide) trivial trivial g1 e10) (de 106 _ _ (by decide) trivial g1 g6)
  rw [g2];refine A4.lst 1 _ _ ⟨cb,x,none⟩ cap (fun j=>.int .u64 (l.getD j 0)) rfl (by show cb<_;omega) (fun hb=>?_) g4 (fun j c hj=>?_) (fun _ _ _=>rfl) (fun j c hj=>?_)
  ·rcases hb with hb|hb
   ·exact dif 106 8 _ _ _ _ (by decide) trivial trivial g1 e8 hb
   ·exact (own 106 _ _ trivial g1).2 hb
  ·have hlt:j<(Af .u64 l).length:=(List.getElem?_eq_some_iff.1 hj).1;rw [Aj] at hlt;obtain ⟨v,k1,_,k3⟩:=h8 j _ (Ks (List.getElem?_eq_getElem hlt));rw [Du] at k1 ⊢;rw [World.cell?_of_block (a:=⟨cb,x+j,none⟩) hsame,k1,A4.val k3,List.getD_eq_getElem?_getD,List.getElem?_eq_getElem hlt];rfl
  ·have hlt:j<(Af .u64 l).length:=(List.getElem?_eq_some_iff.1 hj).1;rw [Aj] at hlt;rw [Ks (List.getElem?_eq_getElem hlt)] at hj;cases hj;rw [List.getD_eq_getElem?_getD,List.getElem?_eq_getElem hlt];exact A4.sc _
 ·rcases r2 with ⟨_,_,_,h4⟩|⟨pb,po,x',cap',k1,k2,k3,k4,k5',k6'⟩
  ·exact .inl h4
  ·have he:=he1 pb po k1;subst he;rcases hb2 with ⟨h7,_⟩|⟨pb',po',h7,_,h9',_⟩
   ·rw [k1] at h7;cases h7
   ·rw [k1] at h7;cases h7;have hxx:x'=po:=by omega
    subst hxx;exact .inr ⟨x',cap',k2,by omega,k6',fun j hj hjb=>h9' rfl j hj hjb⟩
end
section
open Go.IntKind (wrap)
set_option maxRecDepth 20000
open Go Go.RowKit
noncomputable abbrev Ahk:Code:=sA (sB (sR (sL (sR (sR (sR LS))))))
theorem Aij:∃o1 o2:Oper,Ahk=.seq (.region 5 #[o1] false) (.region 6 #[o2] false)∧(o1.op=.assign (.tmp 30)∧o1.dst=some 11∧o1.guard=none)∧(o2.op=.assign (.tmp 31)∧o2.dst=some 12∧o2.guard=none):=
 ⟨_,_,rfl,⟨rfl,rfl,rfl⟩,⟨rfl,rfl,rfl⟩⟩
theorem Afv {F:Fence}{n:Nat}{P:Program}{o:Oper}{x:Operand}{a:Act}{w:World}{next:Act->World->Prop}{Q:Exit->Act->World->Prop}(hF:∀f,F.fn f)(ho:o.op=.assign x)(h:next (a.put o.dst (a.eval x)) w):o.wpIn F n P a w next Q:=by
 refine ⟨fun f _=>hF f,?_⟩
 have e:o.semAt F.round a.eval=execOp a.eval o:=Oper.semAt_eq _ _ _ (by intro c hc;rw [ho] at hc;cases hc)
 rw [e]
 have r:(execOp a.eval o).run P w=.ok (.value (a.eval x)) w:=by
  unfold execOp;rw [ho];simp
 rw [r];exact h
theorem Ab9 {F:Fence}{n:Nat}{P:Program}{o:Oper}{x:Operand}{id:Nat}{a:Act}{w:World}{Q:Exit->Act->World->Prop}(hF:∀f,F.fn f)(ho:o.op=.assign x)(hg:o.guard=none)(h:Q .normal (a.put o.dst (a.eval x)) w):(Code.region id #[o] false).wpIn F n P Q a w:=by
 refine wpIn_region ?_;show wpOpsIn F n P #[o] Q [0] a w;unfold wpOpsIn;simp only [List.getElem?_toArray,List.getElem?_cons_zero,Region.wanted,hg,if_true];exact Afv hF ho h
theorem Fz {a:Act}{i j:Nat}{v:Value}(h:i≠j):(a.put (some i) v).tmps.getD j undef=a.tmps.getD j undef:=by
 show (a.tmps.setIfInBounds i v).getD j undef=_;simp [Array.getD_eq_getD_getElem?,Array.getElem?_setIfInBounds_ne h]
theorem IA {a:Act}{i:Nat}{v:Value}(h:i<a.tmps.size):(a.put (some i) v).tmps.getD i undef=v:=by
 show (a.tmps.setIfInBounds i v).getD i undef=_;simp [Array.getD_eq_getD_getElem?,h]
def sgA (a:Act)(args:Array Value):Act:=
 let r:Act:={ tmps:=((#[30,31]:Array Tmp).zip args).foldl (fun t (p,v)=>t.setIfInBounds p v) a.tmps,defers:=[] }
 let r1:=r.put (some 11) (r.eval (.tmp 30))
 r1.put (some 12) (r1.eval (.tmp 31))
theorem Agy {a:Act}{x y:Value}(hs:a.tmps.size=48):(sgA a #[x,y]).defers=[]∧(sgA a #[x,y]).tmps.size=48∧(sgA a #[x,y]).tmps.getD 5 undef=a.tmps.getD 5 undef∧(sgA a #[x,y]).tmps.getD 6 undef=a.tmps.getD 6 undef∧(sgA a #[x,y]).tmps.getD 10 undef=a.tmps.getD 10 undef ∧
  (sgA a #[x,y]).tmps.getD 11 undef=x∧(sgA a #[x,y]).tmps.getD 12 undef=y:=by
 obtain ⟨b,hb⟩:∃b:Act,({ tmps:=a.tmps,defers:=[] }:Act)=b:=⟨_,rfl⟩;have hbs:b.tmps.size=48:=by rw [←hb];exact hs
 have e:sgA a #[x,y]=(((b.put (some 30) x).put (some 31) y).put (some 11) (((b.put (some 30) x).put (some 31) y).eval (.tmp 30))).put (some 12) ((((b.put (some 30) x).put (some 31) y).put (some 11) (((b.put (some 30) x).put (some 31) y).eval (.tmp 30))).eval (.tmp 31)):=by
  rw [←hb];have z:((#[30,31]:Array Tmp).zip #[x,y]) = #[(30,x),(31,y)]:=by simp
  unfold sgA;rw [z];simp [Act.put]
 have ev:∀(c:Act) (t:Nat),c.eval (.tmp t)=c.tmps.getD t undef:=fun c t=>rfl
 have e30:((b.put (some 30) x).put (some 31) y).eval (.tmp 30)=x:=by rw [ev,Fz (by decide),IA (by omega)]
 rw [e,e30];have e31:(((b.put (some 30) x).put (some 31) y).put (some 11) x).eval (.tmp 31)=y:=by rw [ev,Fz (by decide),IA (by rw [H8];omega)]
 rw [e31];have hd:b.defers=[]:=by rw [←hb]
 have ht:b.tmps=a.tmps:=by rw [←hb]
 refine ⟨by simp only [Kx,hd],by simp only [H8,hbs],?_,?_,?_,?_,?_⟩
 ·rw [Fz (by decide),Fz (by decide),Fz (by decide),Fz (by decide),ht]
 ·rw [Fz (by decide),Fz (by decide),Fz (by decide),Fz (by decide),ht]
 ·rw [Fz (by decide),Fz (by decide),Fz (by decide),Fz (by decide),ht]
 ·rw [Fz (by decide),IA (by simp only [H8];omega)]
 ·rw [IA (by simp only [H8];omega)]
theorem Alg {w w4 w5:World}{Y:Nat->Prop}{seed leaf:Int}{h:Nat}{c:List PV}{n:Nat}{a4 a5:Act}{b5 o5 b6 o6 b8 o8 b10 o10 e0:Nat}{chv:Value}(hh:h<=4)(hl0:0<=leaf)(hl1:leaf<((2 ^ h:Nat):Int)) (hp:Aq2 w w4 Y seed h leaf c n a4 b5 o5 b6 o6 b8 o8 b10 o10 e0 chv)
  (hsz:a4.tmps.size=48)(hw5:w5=(w4.alloc (.cells #[.int .u64 seed] 22)).alloc (.cells #[.int .i64 h] 3))
  (ha5:a5=a4.put (some 29) (.func (.func 107) #[] #[.pointer (some ⟨w4.heap.size+1,0,none⟩),.pointer (some ⟨w4.heap.size,0,none⟩)])) {K:Act->World->Prop}{Q:Exit->Act->World->Prop}
  (hK:∀Z B,FB w4 (w4.heap.size+2) seed leaf h b10 o10 e0 chv Z (List.range h) B->B.heap[w4.heap.size+2]?=some (.deferred (some []))->K { a5 with defers:={ target:=.collected (w4.heap.size+2),args:= #[] }::a5.defers } B):
  (Code.block 0 (.rangeFunc (.tmp 29) #[30,31] Ahk Abg)).wpIn Fence.wide 0 Tryz.prog (Exit.then K Q) a5 w5:=by
 have hs5:w5.heap.size=w4.heap.size+2:=by rw [hw5,World.size_alloc,World.size_alloc]
 have hold:∀b,b<w4.heap.size->w5.heap[b]?=w4.heap[b]?:=fun b hb=>by
  rw [hw5];exact (Below.heap_alloc _ _ _ (by simp;omega)).trans (Below.heap_alloc _ _ _ hb)
 have hB1:w5.heap[w4.heap.size+1]?=some (.cells #[.int .i64 h] 3):=by
  rw [hw5];have:=World.alloc_heap_new (w4.alloc (.cells #[.int .u64 seed] 22)) (.cells #[.int .i64 h] 3);rwa [World.size_alloc] at this
 have hB0:w5.heap[w4.heap.size]?=some (.cells #[.int .u64 seed] 22):=by
  rw [hw5];exact (Below.heap_alloc _ _ _ (by simp)).trans (World.alloc_heap_new w4 _)
 have hs5':a5.tmps.size=48:=by rw [ha5,H8];exact hsz
 have g5:a5.tmps.getD 5 undef=.pointer (some ⟨b5,o5,none⟩):=by rw [ha5,Fz (by decide)];exact hp.t5
 have g6:a5.tmps.getD 6 undef=.pointer (some ⟨b6,o6,none⟩):=by rw [ha5,Fz (by decide)];exact hp.t6
 have g10:a5.tmps.getD 10 undef=.pointer (some ⟨b10,o10,none⟩):=by rw [ha5,Fz (by decide)];exact hp.t10
 have g29:a5.eval (.tmp 29)=.func (.func 107) #[] #[.pointer (some ⟨w4.heap.size+1,0,none⟩),.pointer (some ⟨w4.heap.size,0,none⟩)]:=by
  show a5.tmps.getD 29 undef=_;rw [ha5,IA (by omega)]
 have nD:w4.heap.size+2≠e0:=by have:=hp.le;omega
 have nD1:w4.heap.size+2+1≠e0:=by have:=hp.le;omega
 have XQ:=Akr (seed:=seed) (h:=h) (Bh:=w4.heap.size+1) (Bs:=w4.heap.size) hh
 refine wpIn_block (Ae0 (Z0:=fun b=>b<w4.heap.size) g29 (enters_of Tryz.func107 (by kernel_rfl) rfl) XQ (fun b hb=>by omega) (fun W hW hk=>?_) (fun pre x args Z A B hm h1 h2=>Ahu hm h1 h2) (fun pre x args Z A hm=>Ajj hm)
  (FB w4 (w4.heap.size+2) seed leaf h b10 o10 e0 chv) (Ap3 w4 (w4.heap.size+2) seed leaf h b10 o10 e0 chv) ?_ ?_ ?_ (sgA a5) ?_ ?_ ?_ ?_)
 ·have k1:=hk (w4.heap.size+1) (by omega)
  have k0:=hk w4.heap.size (by omega)
  refine ⟨(World.cell?_of_block (a:=⟨w4.heap.size+1,0,none⟩) k1).trans ?_,(World.cell?_of_block (a:=⟨w4.heap.size,0,none⟩) k0).trans ?_,by omega,by omega,?_,?_⟩
  ·unfold World.cell?;rw [hB1];rfl
  ·unfold World.cell?;rw [hB0];rfl
  ·rintro (h1|h1|h1)<;>omega
  ·rintro (h1|h1|h1)<;>omega
 ·intro Z pre A B hI hs;rw [hs5] at hs;exact hI.stay hp.l10 nD nD1 (by omega) hs
 ·rintro c' Z pre A B ⟨h1,pre',h2,hI⟩ hs
  rw [hs5] at hs;exact ⟨h1,pre',h2,hI.stay hp.l10 nD nD1 (by omega) hs⟩
 ·intro W hW hst;have e:∀b,b<w4.heap.size->W.heap[b]?=w4.heap[b]?:=fun b hb=>(hst.same b (by omega)).trans (hold b hb)
  have o5:w5.os=w4.os∧w5.tape=w4.tape∧w5.output=w4.output:=by rw [hw5];exact ⟨rfl,rfl,rfl⟩
  obtain ⟨v2,p1,p2⟩:=hp.p0;refine ⟨hst.os.trans o5.1,hst.tape.trans o5.2.1,hst.output.trans o5.2.2,by omega,fun b hb=>.inl hb,fun b hb=>by rcases hb with hb|hb|hb<;>omega,fun b hb _ _=>e b hb,by unfold bsz;rw [e b10 hp.l10];exact Nat.le_refl _,(World.cell?_of_block (e b10 hp.l10)).trans hp.c10,(World.cell?_of_block (e b10 hp.l10)).trans hp.c11,fun k hk=>by rw [frozen?_of_block (e b10 hp.l10)];exact hp.f10 k hk,(fun x hx=>by cases hx),v2,(World.cell?_of_block (e b10 hp.l10)).trans p1,?_,?_⟩
  ·rcases p2 with p2|⟨x,cap,q1,q2,q3,q4⟩
   ·exact .inl ⟨rfl,p2⟩
   ·have hb:bsz W e0=bsz w4 e0:=by unfold bsz;rw [e e0 q3]
    exact .inr ⟨e0,x,cap,q1,Nat.zero_le _,by rw [hb];exact q2,by omega,.inr rfl,fun j y hj=>(by cases hj),fun j hj hjb=>by rw [frozen?_of_block (e e0 q3)];exact q4 j hj (by rw [←hb];exact hjb)⟩
  ·intro pb po k cap' hv;rcases p2 with p2|⟨x,cap,q1,q2,q3,q4⟩
   ·rw [p2] at hv;cases hv
   ·rw [q1] at hv;cases hv;exact .inl q3
 ·intro pre x args Z A K' hm hk;obtain ⟨o1,o2,e,⟨a1,a2,a3⟩,⟨c1,c2,c3⟩⟩:=Aij;refine CA e (wpIn_seq (Ab9 (fun _=>trivial) a1 a3 ?_))
  show (Code.region 6 #[o2] false).wpIn _ _ _ _ _ _;refine Ab9 (fun _=>trivial) c1 c3 ?_
  rw [a2,c2];exact hk
 ·intro Z pre x args A hZ1 hZ2 hI hm;rw [hs5] at hZ1 hZ2 ⊢;obtain ⟨hx,_,bb,oo,cc,hargs,_⟩:=id hm;have sp:=Agy (a:=a5) (x:=.int .i64 x) (y:=.slice (some ⟨bb,oo,none⟩) (2 ^ (h-x):Nat) cc) hs5';rw [←hargs] at sp;refine Aiv hh hl0 hl1 hI hm ⟨sp.1,sp.2.1,sp.2.2.1.trans g5,sp.2.2.2.1.trans g6,sp.2.2.2.2.1.trans g10,?_,?_⟩ hp.c5 hp.c6 hp.l5 hp.l6 hp.l10 hp.n5 hp.n6 hp.m5 hp.m6 hp.m10 nD nD1 (by omega) hZ1 hZ2
  ·rw [sp.2.2.2.2.2.1,hargs];rfl
  ·rw [sp.2.2.2.2.2.2,hargs];rfl
 ·intro Z xs B hS hI _;subst hS;have:=hI.lt h (by simp)
  omega
 ·rintro c' Z xs B ⟨k,hk⟩ ⟨rfl,pre,hpre,hI⟩ hdf
  have hrg:pre=List.range h:=by
   rw [hpre,List.range_succ] at hk;have:=List.append_inj' hk rfl;have h2:h=k:=by simpa using this.2
   rw [this.1,h2]
  subst hrg;rw [hs5] at hdf ⊢;refine wpIn_exit ?_;simp only [Exit.inBlock,if_true];exact hK Z B hI hdf
end
section
open Go.IntKind (wrap)
set_option maxRecDepth 20000
open Go Go.RowKit
theorem Apt:LS=.seq (sL LS) (.seq (sL (sR LS)) (.seq (sL (sR (sR LS))) (.seq (.seq (.region 4 (Mm (sL (sL (sR (sR (sR LS)))))) false) (.block 0 (.rangeFunc (.tmp 29) #[30,31] Ahk Abg))) (.seq (.region 9 (Mm (sL (sR (sR (sR (sR LS)))))) false) .ret)))):=by kernel_rfl
theorem Arv:∃ty pos aft x,(Mm (sL (sL (sR (sR (sR LS))))))[2]?=some { dst:=some 29,op:=.call { callee:=.value (.func 77),args:= #[.tmp 27,.tmp 28],argTypes:=x },type:=ty,pos:=pos,after:=aft,guard:=none }:=
 ⟨_,_,_,_,rfl⟩
theorem UQ {P:Program}{ops:Array Oper}{Q Q':Exit->Act->World->Prop}{n id:Nat}{ds:List Deferred}{a:Act}{w:World}(h:wpOpsIn (WF none) n P ops Q' (List.range ops.size) a w) (hq:∀e a w,TD ds Q' e a w->Q e a w):(Code.region id ops false).wpIn Fence.wide n P Q (S0 ds a) w:=
 wpIn_mono (wpIn_region (F:=Fence.wide) (Si _ h)) hq
abbrev Asc (seed h leaf m:Int):St:=
  ⟨lk [(0,.sc (.int .u64 seed)),(3,.sc (.int .u64 m)),(5,.ptr 5 0),(6,.ptr 6 0),(8,.ptr 8 0),(9,.sc (.int .i64 0))],
   B3 [(5,.st [.sc (.int .i64 h)]),(6,.st [.sc (.int .i64 leaf)]),(8,.st [.sc (.int .i64 0),.view 104 1 0 0,.view 152 1 0 0]),(104,.ar false []),(152,.ar false [])]⟩
abbrev Asx (seed h leaf m:Int)(n:Nat)(c:List PV):St:=
  ⟨lk [(0,.sc (.int .u64 seed)),(3,.sc (.int .u64 m)),(5,.ptr 5 0),(6,.ptr 6 0),(8,.ptr 8 0),(9,.sc (.int .i64 0)),(10,.ptr 10 0)],
   B3 [(5,.st [.sc (.int .i64 h)]),(6,.st [.sc (.int .i64 leaf)]),(8,.st [.sc (.int .i64 0),.view 104 1 0 0,.view 152 1 0 0]),(104,.ar false []),(152,.ar false []),(10,.st [.sc (.int .i64 leaf),.view 106 1 0 n,.view 154 1 0 0]),(106,.ar false c),(154,.ar false [])]⟩
abbrev Aop (leaf:Int)(n1 n2:Nat)(c1 c2:List PV):St:=⟨lk [(8,.ptr 96000 0),(9,.sc (.int .i64 0))],B3 [(96000,.st [.sc (.int .i64 leaf),.lst false 1 n1 c1,.lst false 1 n2 c2])]⟩
theorem YZ {h leaf:Int}(hb:JN h leaf=false):C2 h=false∧Hu leaf h=false∧∃H:Nat,h=H∧H<=4∧0<=leaf∧leaf<((2 ^ H:Nat):Int):=by
 unfold JN at hb;rw [Bool.or_eq_false_iff] at hb;refine ⟨hb.1,hb.2,h.toNat,?_⟩;have h1:=hb.1;have h2:=hb.2;unfold C2 at h1;unfold Hu at h2;rw [Bool.or_eq_false_iff,decide_eq_false_iff_not,decide_eq_false_iff_not] at h1 h2;have h3:h=(h.toNat:Int):=by omega
 have h4:=Amh (h:=h.toNat) (by omega)
 rw [←h3] at h4;rw [h4] at h2;exact ⟨h3,by omega,by omega,by omega⟩
theorem Aj3 {G:Ug}{seed h leaf m:Int}(hb:JN h leaf=false):Cy G Tryz.prog 37 [.sc (.int .u64 seed),.sc (.int .i64 h),.sc (.int .i64 leaf),.sc (.int .u64 m)]
  ⟨[.agg [.sc (.int .i64 leaf),.lst false 1 18 (Af .u64 (Ie seed leaf m)),.lst false 1 h.toNat (Af .u64 ((List.range h.toNat).map fun k=>Bv seed k (Fb leaf k)))],.sc (.int .i64 0)],[]⟩:=by
 obtain ⟨hhi,hou,H,rfl,hh,hl0,hl1⟩:=YZ hb;refine Am9 ⟨_,Tryz.func37,rfl⟩ fun w Y hY=>?_
 have hk0:Ad4 Tryz.prog 48 0 Tryz.f37.params.toList [.sc (.int .u64 seed),.sc (.int .i64 H),.sc (.int .i64 leaf),.sc (.int .u64 m)] (fun tms bs=>some (tms,bs))=some ([(0,.sc (.int .u64 seed)),(1,.sc (.int .i64 H)),(2,.sc (.int .i64 leaf)),(3,.sc (.int .u64 m))],[]):=by kernel_rfl
 have hin:Ins w Y MU [.sc (.int .u64 seed),.sc (.int .i64 H),.sc (.int .i64 leaf),.sc (.int .u64 m)] [.int .u64 seed,.int .i64 H,.int .i64 leaf,.int .u64 m]:=
  ⟨hY,fun b _=>Ut b,fun b x=>(Ut b x).elim,fun _ _ _ _ _ _ _ x=>(by cases x),fun _ _ x=>(by cases x),⟨.inl trivial,A4.sc _⟩,⟨.inl trivial,A4.sc _⟩,⟨.inl trivial,A4.sc _⟩,⟨.inl trivial,A4.sc _⟩,trivial⟩
 obtain ⟨tms,bs,hk1,hst⟩:=OO hin hk0;cases hk1;obtain ⟨h8,β0,hs0⟩:=hst rfl (by simp)
 refine callsIn_wide.1 (callsIn_of_wp_marks (F:=Fence.wide) (n:=0) Tryz.func37 rfl trivial ?_ rfl);have t1:({ tmps:= #[Value.int .u64 seed,.int .i64 H,.int .i64 leaf,.int .u64 m]++Array.replicate (Tryz.f37.ntmps-(#[Value.int .u64 seed,.int .i64 H,.int .i64 leaf,.int .u64 m]).size) undef,defers:=[] }:Act)={ tmps:=[Value.int .u64 seed,.int .i64 H,.int .i64 leaf,.int .u64 m].toArray++Array.replicate (48-[Value.int .u64 seed,.int .i64 H,.int .i64 leaf,.int .u64 m].toArray.size) undef,defers:=[] }:=by kernel_rfl
 rw [t1];show LS.wpIn _ _ _ _ _ _;generalize ({ tmps:=[Value.int .u64 seed,.int .i64 H,.int .i64 leaf,.int .u64 m].toArray++Array.replicate (48-[Value.int .u64 seed,.int .i64 H,.int .i64 leaf,.int .u64 m].toArray.size) undef,defers:=[] }:Act)=a0 at hs0 ⊢;have hXn:∀b,¬(MI MU [.sc (.int .u64 seed),.sc (.int .i64 H),.sc (.int .i64 leaf),.sc (.int .u64 m)] h8).X b:=Ut;refine CA Apt (wpIn_seq (wpIn_wide.2 (D0 (Pp _ _) QT C5 hs0 (Apy cl seed H leaf m) ?_)));intro a1 w1 β1 hs1;have eh:cl Jg [.sc (.int .i64 H)]=_:=Tb (xs:=noX) (fu:=2000) (d:=7) (H:Int);have eo:cl G9 [.sc (.int .i64 leaf),.sc (.int .i64 H)]=_:=Pc (xs:=noX) (fu:=2000) (d:=7) leaf H (by omega)
 have es:cl Pe [.sc (.int .u64 seed),.sc (.int .i64 leaf),.sc (.int .u64 m)]=_:=Ak9 (xs:=noX) (fu:=2000) (d:=1) (by omega) seed leaf m
 refine wpIn_seq (wpIn_wide.2 (D0 (Pp _ _) QT C5 hs1 (L:=873) (t:=0) (s1:=Asc seed H leaf m) ?_ ?_))
 ·refine (Ana cl seed H leaf m).trans ?_;simp only [Br,eh,eo,hhi,hou]
 intro a2 w2 β2 hs2;refine wpIn_seq (wpIn_wide.2 (D0 (Pp _ _) QT C5 hs2 (L:=1897) (t:=0) (s1:=Asx seed H leaf m 18 (Af .u64 (Ie seed leaf m))) ?_ ?_))
 ·refine (Aoo cl seed H leaf m).trans ?_;simp only [Br,es]
 intro a3 w3 β3 hs3;refine wpIn_seq (wpIn_seq (wpIn_region ?_));have hl:List.range (Mm (sL (sL (sR (sR (sR LS)))))).size=[0,1]++[2]:=by kernel_rfl
 rw [hl];refine Mb (ro:=none) (C:=CB) (call:=cl) (r:=((0:Nat),Adz seed H leaf m 18 (Af .u64 (Ie seed leaf m)))) (Pp _ _) C5 ?_ [0,1] (List.take 2 (Mm (sL (sL (sR (sR (sR LS)))))).toList) (by kernel_rfl) ?_ (by kernel_rfl) hs3 (Anm cl seed H leaf m 18 _)
 rotate_left
 ·intro j i hj
  match j,hj with
  |0,hj=>cases hj;rfl
  |1,hj=>cases hj;rfl
 intro s' a4 w4 β4 hk4 hs4;obtain ⟨β5,s5,hk5,hs5⟩:=De hs4 hk4;cases hk5;obtain ⟨b5,o5,b6,o6,b8,o8,b10,o10,e0,chv,hp⟩:=Ai4 (l:=Ie seed leaf m) (n:=18) (by omega) (by simp [Ie]) hXn hs5
 obtain ⟨ty,pos,aft,x,ho⟩:=Arv;rw [wpOpsIn_cons];unfold wpOpIn;rw [ho];simp only [Region.wanted,if_true];refine ⟨fun _ _=>trivial,?_⟩
 rw [show Oper.semAt (WF none).round a4.eval { dst:=some 29,op:=.call { callee:=.value (.func 77),args:= #[.tmp 27,.tmp 28],argTypes:=x },type:=ty,pos:=pos,after:=aft,guard:=none }=execOp a4.eval { dst:=some 29,op:=.call { callee:=.value (.func 77),args:= #[.tmp 27,.tmp 28],argTypes:=x },type:=ty,pos:=pos,after:=aft,guard:=none } from rfl,
  JC (o:={ dst:=some 29,op:=.call { callee:=.value (.func 77),args:= #[.tmp 27,.tmp 28],argTypes:=x },type:=ty,pos:=pos,after:=aft,guard:=none }) rfl rfl ngT Tryz.func77 rfl]
 have e27:a4.eval (.tmp 27)=.int .u64 seed:=hp.t27;have e28:a4.eval (.tmp 28)=.int .i64 H:=hp.t28;simp only [List.map_toArray,Zzw,List.map_nil,e27,e28];refine ⟨(fun h=>by cases h),(Alv seed H _ w4).mono ?_⟩
 rintro e w5 ⟨rfl,hw5⟩
 refine Alg (w:=w) (Y:=Y) hh hl0 hl1 hp hs5.tsz hw5 rfl ?_;intro Z B hRI hdf;obtain ⟨a5,ha5⟩:∃a5,a4.put (some 29) (.func (.func 107) #[] #[.pointer (some ⟨w4.heap.size+1,0,none⟩),.pointer (some ⟨w4.heap.size,0,none⟩)])=a5:=⟨_,rfl⟩;rw [ha5];have hd5:a5.defers=[]:=by rw [←ha5,Kx];exact hs5.dfr
 have hz5:a5.tmps.size=48:=by rw [←ha5,H8];exact hs5.tsz
 have ea:({ a5 with defers:={ target:=.collected (w4.heap.size+2),args:= #[] }::a5.defers }:Act)=S0 [{ target:=.collected (w4.heap.size+2),args:= #[] }] a5:=by unfold S0;rw [hd5];rfl
 rw [ea];have hsB:w4.heap.size<=B.heap.size:=by have:=hRI.size;omega
 have hkB:∀b,b<w4.heap.size->b≠b10->b≠e0->B.heap[b]?=w4.heap[b]?:=hRI.keep;have h8B:=hkB b8 hp.l8 hp.n8 hp.m8
 obtain ⟨XB,βB,hXB,hB⟩:=Amq (Y:=Y) (a:=a5) (b8:=b8) (o8:=o8) (n1:=18) (c1:=Af .u64 (Ie seed leaf m)) hRI hd5 hz5 (by rw [←ha5,Fz (by decide)];exact hp.t8) (by rw [←ha5,Fz (by decide)];exact hp.t9) (by rw [←ha5,Fz (by decide)];exact hp.t10)
  (fun j hj=>by rw [World.cell?_of_block (a:=⟨b8,o8+j,none⟩) h8B];exact hp.c8 j hj) (fun j hj=>by rw [frozen?_of_block h8B];exact hp.f8 j hj) (Nat.lt_of_lt_of_le hp.l8 hsB) (Nat.lt_of_lt_of_le hp.l10 hsB) hp.n8 hp.y8 hp.y10 (hp.ch B hsB hkB) hp.one
  (fun pb hpb=>by
   rcases hpb with hpb|hpb
   ·have:=hp.l8;exact ⟨by omega,fun hy=>by have:=hY pb hy;have:=hs5.fr.step.size;omega⟩
   ·rw [hpb];exact ⟨fun e=>hp.m8 e.symm,hp.ye⟩)
  (fun b hb=>by have:=hY b hb;have:=hs5.fr.step.size;omega)
 rw [List.length_range] at hB;refine wpIn_seq (UQ (Q':=fun e a' w'=>e=.normal∧∃β',Bu 48 B XB Y β' (Aop leaf 18 H (Af .u64 (Ie seed leaf m)) (Af .u64 ((List.range H).map fun k=>Bv seed k (Fb leaf k)))) a' w') ?_ ?_)
 ·have hl9:List.range (Mm (sL (sR (sR (sR (sR LS)))))).size=[0,1,2]++[]:=by kernel_rfl
  rw [hl9];refine Mb (ro:=none) (C:=CB) (call:=cl) (r:=((0:Nat),Aop leaf 18 H (Af .u64 (Ie seed leaf m)) (Af .u64 ((List.range H).map fun k=>Bv seed k (Fb leaf k))))) (Pp _ _) C5 ?_ [0,1,2] (Mm (sL (sR (sR (sR (sR LS)))))).toList (by kernel_rfl) ?_ (by kernel_rfl) hB (Apk cl leaf 18 H _ _)
  rotate_left
  ·intro j i hj
   match j,hj with
   |0,hj=>cases hj;rfl
   |1,hj=>cases hj;rfl
   |2,hj=>cases hj;rfl
  intro s6 a6 w6 β6 hk6 hs6;obtain ⟨β7,s7,hk7,hs7⟩:=De hs6 hk6;cases hk7;exact ⟨rfl,β7,hs7⟩
 ·rintro e a7 w7 ⟨a6,rfl,rfl,β6,hz⟩
  refine wpIn_ret ?_
  have hD':w7.heap[w4.heap.size+2]?=some (.deferred (some [])):=by
   have hlt:=hRI.size;have hl8:=hp.l8;rw [hz.fr.step.keep (w4.heap.size+2) (by omega) fun hx=>by have:=hXB _ hx;omega]
   exact hdf
  show LeavesInM _ _ _ _ _ _ (a6.defers++[{ target:=.collected (w4.heap.size+2),args:= #[] }]) .returning w7;rw [hz.dfr];refine ⟨by simp,.inl ⟨_,_,rfl,run_takeDeferred hD',?_⟩⟩
  have hfr:=hs5.fr
  have hu:Bu 48 w (MI MU [.sc (.int .u64 seed),.sc (.int .i64 H),.sc (.int .i64 leaf),.sc (.int .u64 m)] h8) Y β6 (Aop leaf 18 H (Af .u64 (Ie seed leaf m)) (Af .u64 ((List.range H).map fun k=>Bv seed k (Fb leaf k)))) a6 w7:=
   hz.unbase (fun _ h=>h) hY (fun b hx=>by rw [hXB b hx];exact hp.g8) (fun i ⟨p,h1,h2⟩=>by
    match i,h1 with
    |0,h1=>cases h1;cases h2
    |1,h1=>cases h1;cases h2
    |2,h1=>cases h1;cases h2
    |3,h1=>cases h1;cases h2) (hRI.os.trans hfr.os) (hRI.tape.trans hfr.tape) (hRI.output.trans hfr.output) (Nat.le_trans hfr.step.size hsB) (fun b hb=>by
    have h1:=hp.g10;have h2:=hp.ge;have h3:=hfr.step.size;exact (hkB b (by omega) (by omega) (by omega)).trans (hfr.step.keep b hb (hXn b)))
  have hv:=hu.same (WE (y:=none) hD') fun b hb=>World.putObj_heap_other (by have:=hfr.step.size;omega)
  obtain ⟨_,v,r1,vs,own,r2,r3⟩:=DD (C:=CS) (f:=37) (fn:=Tryz.f37) hin (res:=⟨[.agg [.sc (.int .i64 leaf),.lst false 1 18 (Af .u64 (Ie seed leaf m)),.lst false 1 H (Af .u64 ((List.range H).map fun k=>Bv seed k (Fb leaf k)))],.sc (.int .i64 0)],[]⟩) (Aod seed H leaf m leaf 18 H _ _) hv
  exact ⟨v,r1,vs,own,r2,r3⟩
end
section
open Go.IntKind (wrap)
set_option maxRecDepth 20000
open Go Go.RowKit
theorem Cy.any {G:Ug}{P:Program}{f:FuncId}{args:List PV}{r:At}(h:Cy G1 P f args r):Cy G P f args r:=
 ⟨h.1,fun w Y bt us hin _ _=>h.2 w Y bt us hin trivial fun _ hb=>hb.elim⟩
theorem Ao6 {G:Ug}{seed h leaf m:Int}(hb:JN h leaf=true):Cy G Tryz.prog 37 [.sc (.int .u64 seed),.sc (.int .i64 h),.sc (.int .i64 leaf),.sc (.int .u64 m)]
  ⟨[.agg [.sc (.int .i64 0),.lst false 1 0 [],.lst false 1 0 []],.sc (.int .i64 9)],[]⟩:=by
 refine Cy.any (LL ngT QT C5 Tryz.func37 rfl ((Aot cl seed h leaf m).trans ?_));have eh:cl Jg [.sc (.int .i64 h)]=_:=Tb (xs:=noX) (fu:=2000) (d:=7) h;unfold JN at hb;cases hhi:C2 h
 ·rw [hhi,Bool.false_or] at hb
  have h0:0<=h:=by
   unfold C2 at hhi;rw [Bool.or_eq_false_iff,decide_eq_false_iff_not] at hhi;omega
  have eo:cl G9 [.sc (.int .i64 leaf),.sc (.int .i64 h)]=_:=Pc (xs:=noX) (fu:=2000) (d:=7) leaf h h0;simp only [Br,eh,eo,hhi,hb]
 ·simp only [Br,eh,hhi]
theorem Afo {G:Ug}{args:List PV}{r:At}(h:Amp args=some r):Cy G Tryz.prog 37 args r:=by
 unfold Amp at h;split at h
 ·rename_i seed hh leaf m;cases h;cases hb:JN hh leaf
  ·have l18:(Ie seed leaf m).length=18:=by simp [Ie]
   have:=Aj3 (G:=G) (seed:=seed) (m:=m) hb;unfold tkL tkC tkP tkE;rw [hb];simp only [Bool.false_eq_true,if_false,l18,List.length_map,List.length_range];exact this
  ·have:=Ao6 (G:=G) (seed:=seed) (m:=m) hb;unfold tkL tkC tkP tkE;rw [hb];exact this
 ·cases h
end
section
open Go.IntKind (wrap)
open Go.RowKit
theorem PU {w w':World}{Y:Nat->Prop}{bt:HS}{args:List PV}{v:Value}(hb:Below w.heap.size w w')(ho:Z2 w' (TV bt (fun _=>none) Y) (fun _=>none) bt (Qz [.sc v]) 0 args []):
  Out w w' Y bt args (fun _=>none) ⟨[.sc v],[]⟩ [v] where
 os:=hb.os
 tape:=hb.tape
 output:=hb.output
 ext:=⟨hb.size,fun b h _=>hb.block b h,fun b h=>by unfold bsz;rw [hb.block b h];exact Nat.le_refl _⟩
 rng:=fun b j h _=>⟨by unfold World.cell?;simp only [hb.block b h],by unfold World.frozen?;simp only [hb.block b h]⟩
 vals:=⟨A4.sc v,trivial⟩
 outs:=ho
 fresh:=fun j b o h=>by cases h
 inj:=fun j j' b o o' h=>by cases h
theorem GO {P:Program}{w:World}{A:Nat->Prop}{bt:Bt}{z:Bool}{n:Nat}{c:List PV}{u:Value}{l:List UInt8}(h:VE w A bt (.lst z 1 n c) u) (hl:bytesOf c=some l)(hn:c.length=n):
  (Extern.Bytes.bytesOf u).run P w=.ok ⟨l.toArray⟩ w:=by
 obtain ⟨ns,rfl,rfl⟩:=Ul hl;have ht:A4 w A (.lst z 1 n (ns.map fun n=>.sc (.int .u8 n))) u:=h.2
 generalize hc:(ns.map fun n=>PV.sc (.int .u8 n))=c at ht
 cases ht with
 |lnil=>
  have:ns=[]:=by simpa using hc
  subst this;rfl
 |lemp=>
  have:ns=[]:=by simpa using hc
  subst this;rfl
 |lst _ _ _ a cap f hs hb hA hn' hcell h1 hr=>
  subst hc;rw [List.length_map] at hn;subst hn;show (Extern.Bytes.loadBytes a ns.length .empty).run P w=_;rw [Lib.run_loadBytesX w ns a .empty fun j x hj=>?_]
  ·simp [Lib.bytesOf,Nat.toUInt8]
  ·have e:(ns.map fun n=>PV.sc (.int .u8 n))[j]?=some (.sc (.int .u8 x)):=by rw [List.getElem?_map,hj];rfl
   rw [hcell j _ e,(hr j _ e).val]
set_option maxRecDepth 1000000 in
theorem RC (u1 u2:Value)(a b:List UInt8)(w:World)(h1:(Extern.Bytes.bytesOf u1).run Tryz.prog w=.ok ⟨a.toArray⟩ w) (h2:(Extern.Bytes.bytesOf u2).run Tryz.prog w=.ok ⟨b.toArray⟩ w):
  Calls Tryz.prog 133 #[u1,u2] w fun e w'=>e=.returned (.int .i64 (Lib.compareBytes a b))∧w'=w:=by
 have hr:(Extern.BytealgCompare.compare #[u1,u2]).run Tryz.prog w=.ok (.int .i64 (Lib.compareBytes a b)) w:=by
  change Sem.run Tryz.prog (do pure (goInt (Extern.BytealgCompare.cmp (←Extern.Bytes.bytesOf u1) (←Extern.Bytes.bytesOf u2)))) w=_
  simp only [Sem.run_bind,Sem.run_pure,Result.andThen,h1,h2];rw [Lib.cmp_eq];rfl
 go_enter Tryz.func133,Tryz.ntmps133
 go_wp2
 rw [run_callFunc_extern Tryz.func134 (by kernel_rfl) (by kernel_rfl) (by kernel_rfl) (e:=Extern.BytealgCompare.compare) (by kernel_rfl),hr]
 simp only [Result.andThen];rw [Oper.upon_value]
 go_wp2
 go_ret
 exact ⟨rfl,rfl⟩
theorem OA (G:Ug)(args:List PV)(res:At)(h:Vj args=some res):Cy G Tryz.prog 133 args res:=by
 refine ⟨⟨_,Tryz.func133,by kernel_rfl⟩,fun w Y bt us hi _ _=>?_⟩
 unfold Vj at h;split at h
 rotate_left
 ·cases h
 rename_i z n c z' m c';cases hq:(Nat.beq c.length n&&Nat.beq c'.length m)
 ·rw [hq] at h;cases h
 rw [hq] at h;simp only [Bool.and_eq_true] at hq;have hn:=Nat.eq_of_beq_eq_true hq.1;have hm:=Nat.eq_of_beq_eq_true hq.2;simp only [cond_true] at h;split at h
 rotate_left
 ·cases h
 rename_i a b ha hb;cases h;have ps:=hi.args
 match us,ps with
 |[u1,u2],ps=>
  refine (RC u1 u2 a b w (GO ps.1 ha hn) (GO ps.2.1 hb hm)).mono ?_
  rintro e w' ⟨rfl,rfl⟩
  exact ⟨[.int .i64 (Lib.compareBytes a b)],fun _=>none,rfl,PU (Below.refl _ _) rfl⟩
 |[],ps=>exact ps.elim
 |[_],ps=>exact ps.2.elim
 |_::_::_::_,ps=>exact ps.2.2.elim
end
section
open Go.IntKind (wrap)
set_option maxRecDepth 1000000
open Go.Shelf Go.RowKit Go.Lib
def Aq5:Go.Shelf.Ren:=⟨fun|196=>56|259=>93|n=>n,fun|0=>0|3=>3|4=>4|5=>5|9=>9|12=>12|46=>76|53=>22|119=>136|138=>138|139=>139|n=>n,fun|3=>0|4=>1|n=>n⟩
theorem laysVS:Lays.n196 Tryz.prog Aq5:={
 mixed:=by kernel_rfl
 f196:=Tryz.func56.trans (congrArg some (by kernel_rfl))
 f259:=Tryz.func93.trans (congrArg some (by kernel_rfl))
 t0:=Tryz.underlying0
 a0:=Tryz.isAgg0
 z0:=Tryz.sizeOf0
 v0:=Tryz.zeroValue0
 t3:=Tryz.underlying3
 a3:=Tryz.isAgg3
 z3:=Tryz.sizeOf3
 v3:=Tryz.zeroValue3
 t4:=Tryz.underlying4
 a4:=Tryz.isAgg4
 z4:=Tryz.sizeOf4
 v4:=Tryz.zeroValue4
 t5:=Tryz.underlying5
 a5:=Tryz.isAgg5
 z5:=Tryz.sizeOf5
 v5:=Tryz.zeroValue5
 t9:=Tryz.underlying9
 a9:=Tryz.isAgg9
 z9:=Tryz.sizeOf9
 v9:=Tryz.zeroValue9
 t12:=Tryz.underlying12
 a12:=Tryz.isAgg12
 z12:=Tryz.sizeOf12
 v12:=Tryz.zeroValue12
 t46:=Tryz.underlying76
 a46:=Tryz.isAgg76
 z46:=Tryz.sizeOf76
 v46:=Tryz.zeroValue76
 t53:=Tryz.underlying22
 a53:=Tryz.isAgg22
 z53:=Tryz.sizeOf22
 v53:=Tryz.zeroValue22
 t119:=Tryz.underlying136
 a119:=Tryz.isAgg136
 z119:=Tryz.sizeOf136
 t138:=Tryz.underlying138
 a138:=Tryz.isAgg138
 z138:=Tryz.sizeOf138
 v138:=Tryz.zeroValue138
 t139:=Tryz.underlying139
 a139:=Tryz.isAgg139
 z139:=Tryz.sizeOf139
 v139:=Tryz.zeroValue139
 g3:=by kernel_rfl
 g4:=by kernel_rfl }
def gU:Ug:=⟨fun b=>b=0∨b=1,fun w=>0<w.heap.size∧1<w.heap.size∧Lib.Utf8Tabs 0 1 w,fun w w' h ⟨s1,s2,h1,h2⟩=>by
 have e1:=h _ (.inl rfl) s1;have e2:=h _ (.inr rfl) s2
 have hs:∀b,b<w.heap.size->w'.heap[b]?=w.heap[b]?->b<w'.heap.size:=by
  intro b hb he;rw [Array.getElem?_eq_getElem hb] at he;rcases Nat.lt_or_ge b w'.heap.size with q|q
  ·exact q
  ·rw [Array.getElem?_eq_none q] at he;cases he
 refine ⟨hs _ s1 e1,hs _ s2 e2,fun c hc=>?_,fun i hi=>?_⟩
 ·have:=h1 c hc;unfold World.cell? at this ⊢;simp only [e1] at this ⊢;exact this
 ·obtain ⟨a,b⟩:=h2 i hi;unfold World.cell? at a b ⊢;simp only [e2] at a b ⊢;exact ⟨a,b⟩⟩
theorem WZ (args:List PV)(res:At)(h:IF args=some res):Cy gU Tryz.prog 56 args res:=by
 refine ⟨⟨_,Tryz.func56,by kernel_rfl⟩,fun w Y bt us hi hok _=>?_⟩
 unfold IF at h;split at h
 rotate_left
 ·cases h
 rename_i s;cases hq:decide (s.size<=9223372036854775807)
 ·rw [hq] at h;cases h
 rw [hq] at h;cases h;have hs:=of_decide_eq_true hq;have ps:=hi.args
 match us,ps with
 |[u],ps=>
  have hu:u=.string s:=by
   have:A4 w _ (.sc (.string s)) u:=ps.1.2;exact this.val
  subst hu;refine (Any.utf8_ValidString laysVS s w hs hok.2.2).mono ?_
  rintro e w' ⟨rfl,hb⟩
  exact ⟨[.bool (Lib.validD s.data.toList)],fun _=>none,rfl,PU hb rfl⟩
 |[],ps=>exact ps.elim
 |_::_::_,ps=>exact ps.2.elim
theorem extU:Acm gU Tryz.prog C0:=by
 intro f g args res hx hg;have hx0:(bif AK.any (Nat.beq f) then none else Jw f)=some g:=hx;cases hb:AK.any (Nat.beq f)
 rotate_left
 ·rw [hb,cond_true] at hx0;cases hx0
 rw [hb,cond_false] at hx0;have hx':Jw f=some g:=hx0;unfold Jw at hx';cases h1:Nat.beq f 56
 rotate_left
 ·rw [h1,cond_true] at hx';cases hx';rw [Nat.eq_of_beq_eq_true h1];exact WZ args res hg
 rw [h1,cond_false] at hx';cases h2:Nat.beq f 133
 rotate_left
 ·rw [h2,cond_true] at hx';cases hx';rw [Nat.eq_of_beq_eq_true h2];exact OA gU args res hg
 rw [h2,cond_false] at hx';cases h4:Nat.beq f 37
 rotate_left
 ·rw [h4,cond_true] at hx';cases hx';rw [Nat.eq_of_beq_eq_true h4];exact Afo hg
 rw [h4,cond_false] at hx';cases h3:Nat.beq f 1000000
 ·rw [h3,cond_false] at hx';cases hx'
 ·rw [h3,cond_true] at hx';cases hx';cases hg
end
end Go.Proofs.YtdjihiphpgkfmaaGreatDoor.Pv
