/-
  The proof of CertificatePaths, part 5.
-/
import Derived.Test.YtdjihiphpgkfmaaGreatDoorPD
import Derived.Test.YtdjihiphpgkfmaaGreatDoorRows
set_option linter.unusedSimpArgs false
set_option linter.unusedVariables false
namespace Go.Proofs.YtdjihiphpgkfmaaGreatDoor.Pv
section
open Go.IntKind (wrap)
structure Ce where
 subj:ByteArray
 iss:ByteArray
 serial:Int
 key:Ky
 fr:Int
 un:Int
 auth:Bool
 path:Int
 model:Int
 sig:Sg
def Ce.cells (c:Ce):List PV:=[.sc (.string c.subj),.sc (.string c.iss),.sc (.int .u64 c.serial),.sc (.int .i64 c.key.h),.sc (.int .u64 c.key.root),.sc (.int .i64 c.fr),.sc (.int .i64 c.un),.sc (.bool c.auth),.sc (.int .i64 c.path),.sc (.int .u64 c.model),.sc (.int .i64 c.sig.leaf),.lst false 1 c.sig.chains.length (Af .u64 c.sig.chains),.lst false 1 c.sig.path.length (Af .u64 c.sig.path)]
abbrev VW (s:ByteArray):Bool:=Lib.validD s.data.toList
abbrev Gm:ByteArray:=⟨#[]⟩
def A4 (c:Ce):Int:=
 if c.subj.size<1∨32<c.subj.size then 9 else if c.iss.size<1∨32<c.iss.size then 9 else if VW c.subj=false then 6 else if VW c.iss=false then 6 else
 if Dh c.key.h=true then 9 else if c.fr<0 then 9 else if c.un<c.fr then 9 else if c.un>1099511627776 then 9 else if c.path<0∨2<c.path then 9 else if c.path≠0∧c.auth=false then 4 else 0
def Bb (c:Ce):List It:=[⟨5,9,Gm⟩,⟨4,0,c.subj⟩,⟨4,0,c.iss⟩,⟨1,c.serial,Gm⟩,⟨3,0,Cd (Jo c.key)⟩,⟨1,c.fr,Gm⟩,⟨1,c.un,Gm⟩,⟨7,(if c.auth=true then 1 else 0),Gm⟩,⟨1,c.path,Gm⟩,⟨1,c.model,Gm⟩]
structure Ce.wf (c:Ce):Prop where
 ser:0<=c.serial
 mod:0<=c.model
def Gq (c:Ce):List PV:=if A4 c=0 then [.own 1 (Bf (Bb c)).length (Af .u8 (Bf (Bb c))),.sc (.int .i64 0)] else [.own 1 0 [],.sc (.int .i64 (A4 c))]
theorem AZ {c:Ce}(hw:c.wf)(h:A4 c=0):∀x∈Bb c,x.ok∧x.dat:=by
 unfold A4 at h;have kl:(Cd (Jo c.key)).size=9:=by rw [Ge];rfl
 have ns:Gm.size=0:=rfl;have hs:=hw.ser;have hm:=hw.mod
 repeat' (split at h;· cases h)
 intro x hx;simp only [Bb,List.mem_cons,List.not_mem_nil,or_false] at hx;rcases hx with rfl|rfl|rfl|rfl|rfl|rfl|rfl|rfl|rfl|rfl
 ·exact ⟨⟨by simp,by simp,by simp,by simp [ns]⟩,.inr (.inr rfl)⟩
 ·exact ⟨⟨by simp,by simp,by simp,by simp only;omega⟩,.inr (.inl rfl)⟩
 ·exact ⟨⟨by simp,by simp,by simp,by simp only;omega⟩,.inr (.inl rfl)⟩
 ·exact ⟨⟨by simp,by simp,hs,by simp [ns]⟩,.inr (.inr rfl)⟩
 ·exact ⟨⟨by simp,by simp,by simp,by simp only [kl];omega⟩,.inl rfl⟩
 ·exact ⟨⟨by simp,by simp,by simp only;omega,by simp [ns]⟩,.inr (.inr rfl)⟩
 ·exact ⟨⟨by simp,by simp,by simp only;omega,by simp [ns]⟩,.inr (.inr rfl)⟩
 ·exact ⟨⟨by simp,by simp,by simp only;split<;>omega,by simp [ns]⟩,.inr (.inr rfl)⟩
 ·exact ⟨⟨by simp,by simp,by simp only;omega,by simp [ns]⟩,.inr (.inr rfl)⟩
 ·exact ⟨⟨by simp,by simp,hm,by simp [ns]⟩,.inr (.inr rfl)⟩
section
variable {fu d:Nat}
theorem Qj (s:ByteArray)(h:s.size<=9223372036854775807):Ae C0 Tryz.prog fu (d+1) 56 [.sc (.string s)]=some ⟨[.sc (.bool (VW s))],[]⟩:=by
 show ML [.sc (.string s)]=_;unfold ML;simp [h]
theorem Pe (n lo hi:Int):Ae C0 Tryz.prog fu (d+1) Lo [.sc (.int .i64 n),.sc (.int .i64 lo),.sc (.int .i64 hi)]=some ⟨[.sc (.bool (decide (lo<=n)&&decide (n<=hi)))],[]⟩:=by
 rw [Vg];by_cases h:lo<=n
 ·simp (disch:=omega) only [Bx,h,decide_true,Bool.true_and]
 ·simp (disch:=omega) only [Bx,h,decide_false,Bool.false_and]
theorem Ae7 (n:Int)(h0:0<=n)(h1:n<=1000):Ae C0 Tryz.prog fu (d+1) Mu [.sc (.int .i64 n)]=some ⟨[.agg [.sc (.int .i64 5),.sc (.int .u64 n),.sc (.string Gm)]],[]⟩:=by
 rw [Ww];have w:wrap .u64 n=n:=Cq (by omega) (by omega)
 simp only [Bx,w]
theorem ZG (s:ByteArray):Ae C0 Tryz.prog fu (d+1) Oj [.sc (.string s)]=some ⟨[.agg [.sc (.int .i64 4),.sc (.int .u64 0),.sc (.string s)]],[]⟩:=by
 rw [Yi]
theorem Abs (n:Int):Ae C0 Tryz.prog fu (d+1) Lr [.sc (.int .u64 n)]=some ⟨[.agg [.sc (.int .i64 1),.sc (.int .u64 n),.sc (.string Gm)]],[]⟩:=by
 rw [Vl]
theorem Ai5 (l:List Int):Ae C0 Tryz.prog fu (d+1) Oh [.lst false 1 l.length (Af .u8 l)]=some ⟨[.agg [.sc (.int .i64 3),.sc (.int .u64 0),.sc (.string (Cd l))]],[]⟩:=by
 rw [X5];have L:=Am .u8 l;have bo:=He l;simp (disch:=omega) only [Bx,L,bo];rfl
theorem ZH (b:Bool):Ae C0 Tryz.prog fu (d+1) Ku [.sc (.bool b)]=some ⟨[.agg [.sc (.int .i64 7),.sc (.int .u64 (if b=true then 1 else 0)),.sc (.string Gm)]],[]⟩:=by
 rw [Ue];cases b<;>rfl
theorem ND (hfu:1000<=fu){c:Ce}(hw:c.wf)(hs1:c.subj.size<=9223372036854775807)(hs2:c.iss.size<=9223372036854775807):Ae C0 Tryz.prog fu (d+5) Om [.agg c.cells]=some ⟨Gq c,[]⟩:=by
 refine (Yf fu (d+4) c.subj c.iss c.serial c.key.h c.key.root c.fr c.un c.auth c.path c.model c.sig.leaf c.sig.chains.length (Af .u64 c.sig.chains) c.sig.path.length (Af .u64 c.sig.path)).trans ?_;have n1:=Pe (fu:=fu) (d:=d+3) c.subj.size 1 32;have n2:=Pe (fu:=fu) (d:=d+3) c.iss.size 1 32;have n3:=Pe (fu:=fu) (d:=d+3) c.path 0 2;have v1:=Qj (fu:=fu) (d:=d+3) c.subj hs1;have v2:=Qj (fu:=fu) (d:=d+3) c.iss hs2;have ek:=Aa4 (fu:=fu) (d:=d+2) hfu c.key;have e90:((9:Int) != 0)=true:=rfl;have e00:((0:Int) != 0)=false:=rfl;simp only [Ky.cells] at ek;unfold Gq;by_cases e1:c.subj.size<1∨32<c.subj.size
 ·have hb:A4 c=9:=by unfold A4;rw [Bv e1]
  have:(decide ((1:Int)<=c.subj.size)&&decide ((c.subj.size:Int)<=32))=false:=by simp;omega
  rw [this] at n1;rw [hb,A5 (by omega)]
  try unfold Aa
  repeat first
   |((with_reducible first|apply Aq|apply Ak|apply Ar|apply Ao|apply Aw|apply Bc|apply Bu|apply Dm|apply Aj);· first|with_reducible rfl|(simp (disch:=omega) only [n1,Int.reduceEq,Ck,Cn]<;>with_reducible rfl))
   |((with_reducible first|apply At|apply As);· first|with_reducible rfl|omega|(simp (disch:=omega) only [gT,n1,Int.reduceEq,Ck,Cn]<;>omega))
   |(with_reducible apply Ap;· first|with_reducible rfl|(simp (disch:=omega) only [gF,n1,Int.reduceEq,Ck,Cn]<;>omega))
  try simp (disch:=omega) only [n1,Int.reduceEq,Ck,Cn]
  all_goals rfl
 have q1:(decide ((1:Int)<=c.subj.size)&&decide ((c.subj.size:Int)<=32))=true:=by simp;omega
 rw [q1] at n1;by_cases e2:c.iss.size<1∨32<c.iss.size
 ·have hb:A4 c=9:=by unfold A4;rw [A5 e1,Bv e2]
  have:(decide ((1:Int)<=c.iss.size)&&decide ((c.iss.size:Int)<=32))=false:=by simp;omega
  rw [this] at n2;rw [hb,A5 (by omega)]
  try unfold Aa
  repeat first
   |((with_reducible first|apply Aq|apply Ak|apply Ar|apply Ao|apply Aw|apply Bc|apply Bu|apply Dm|apply Aj);· first|with_reducible rfl|(simp (disch:=omega) only [n1,n2,Int.reduceEq,Ck,Cn]<;>with_reducible rfl))
   |((with_reducible first|apply At|apply As);· first|with_reducible rfl|omega|(simp (disch:=omega) only [gT,n1,n2,Int.reduceEq,Ck,Cn]<;>omega))
   |(with_reducible apply Ap;· first|with_reducible rfl|(simp (disch:=omega) only [gF,n1,n2,Int.reduceEq,Ck,Cn]<;>omega))
  try simp (disch:=omega) only [n1,n2,Int.reduceEq,Ck,Cn]
  all_goals rfl
 have q2:(decide ((1:Int)<=c.iss.size)&&decide ((c.iss.size:Int)<=32))=true:=by simp;omega
 rw [q2] at n2;cases e3:VW c.subj
 ·have hb:A4 c=6:=by unfold A4;rw [A5 e1,A5 e2,Bv e3]
  rw [e3] at v1;rw [hb,A5 (by omega)]
  try unfold Aa
  repeat first
   |((with_reducible first|apply Aq|apply Ak|apply Ar|apply Ao|apply Aw|apply Bc|apply Bu|apply Dm|apply Aj);· first|with_reducible rfl|(simp (disch:=omega) only [n1,n2,v1,Int.reduceEq,Ck,Cn]<;>with_reducible rfl))
   |((with_reducible first|apply At|apply As);· first|with_reducible rfl|omega|(simp (disch:=omega) only [gT,n1,n2,v1,Int.reduceEq,Ck,Cn]<;>omega))
   |(with_reducible apply Ap;· first|with_reducible rfl|(simp (disch:=omega) only [gF,n1,n2,v1,Int.reduceEq,Ck,Cn]<;>omega))
  try simp (disch:=omega) only [n1,n2,v1,Int.reduceEq,Ck,Cn]
  all_goals rfl
 rw [e3] at v1;cases e4:VW c.iss
 ·have hb:A4 c=6:=by unfold A4;rw [A5 e1,A5 e2,A5 (by simp [e3]),Bv e4]
  rw [e4] at v2;rw [hb,A5 (by omega)]
  try unfold Aa
  repeat first
   |((with_reducible first|apply Aq|apply Ak|apply Ar|apply Ao|apply Aw|apply Bc|apply Bu|apply Dm|apply Aj);· first|with_reducible rfl|(simp (disch:=omega) only [n1,n2,v1,v2,Int.reduceEq,Ck,Cn]<;>with_reducible rfl))
   |((with_reducible first|apply At|apply As);· first|with_reducible rfl|omega|(simp (disch:=omega) only [gT,n1,n2,v1,v2,Int.reduceEq,Ck,Cn]<;>omega))
   |(with_reducible apply Ap;· first|with_reducible rfl|(simp (disch:=omega) only [gF,n1,n2,v1,v2,Int.reduceEq,Ck,Cn]<;>omega))
  try simp (disch:=omega) only [n1,n2,v1,v2,Int.reduceEq,Ck,Cn]
  all_goals rfl
 rw [e4] at v2;cases e5:Dh c.key.h
 rotate_left
 ·have hb:A4 c=9:=by unfold A4;rw [A5 e1,A5 e2,A5 (by simp [e3]),A5 (by simp [e4]),Bv e5]
  rw [e5,Bv rfl] at ek;rw [hb,A5 (by omega)]
  try unfold Aa
  repeat first
   |((with_reducible first|apply Aq|apply Ak|apply Ar|apply Ao|apply Aw|apply Bc|apply Bu|apply Dm|apply Aj);· first|with_reducible rfl|(simp (disch:=omega) only [n1,n2,v1,v2,ek,e90,e00,Int.reduceEq,Ck,Cn]<;>with_reducible rfl))
   |((with_reducible first|apply At|apply As);· first|with_reducible rfl|omega|(simp (disch:=omega) only [gT,n1,n2,v1,v2,ek,e90,e00,Int.reduceEq,Ck,Cn]<;>omega))
   |(with_reducible apply Ap;· first|with_reducible rfl|(simp (disch:=omega) only [gF,n1,n2,v1,v2,ek,e90,e00,Int.reduceEq,Ck,Cn]<;>omega))
  try simp (disch:=omega) only [n1,n2,v1,v2,ek,e90,e00,Int.reduceEq,Ck,Cn]
  all_goals rfl
 rw [e5,A5 (by simp)] at ek
 have B0:A4 c=if c.fr<0 then 9 else if c.un<c.fr then 9 else if c.un>1099511627776 then 9 else if c.path<0∨2<c.path then 9 else if c.path≠0∧c.auth=false then 4 else 0:=by
  unfold A4;rw [A5 e1,A5 e2,A5 (by simp [e3]),A5 (by simp [e4]),A5 (by simp [e5])]
 by_cases e6:c.fr<0
 ·have hb:A4 c=9:=by rw [B0,Bv e6]
  rw [hb,A5 (by omega)]
  try unfold Aa
  repeat first
   |((with_reducible first|apply Aq|apply Ak|apply Ar|apply Ao|apply Aw|apply Bc|apply Bu|apply Dm|apply Aj);· first|with_reducible rfl|(simp (disch:=omega) only [n1,n2,v1,v2,ek,e90,e00,Int.reduceEq,Ck,Cn]<;>with_reducible rfl))
   |((with_reducible first|apply At|apply As);· first|with_reducible rfl|omega|(simp (disch:=omega) only [gT,n1,n2,v1,v2,ek,e90,e00,Int.reduceEq,Ck,Cn]<;>omega))
   |(with_reducible apply Ap;· first|with_reducible rfl|(simp (disch:=omega) only [gF,n1,n2,v1,v2,ek,e90,e00,Int.reduceEq,Ck,Cn]<;>omega))
  try simp (disch:=omega) only [n1,n2,v1,v2,ek,e90,e00,Int.reduceEq,Ck,Cn]
  all_goals rfl
 by_cases e7:c.un<c.fr
 ·have hb:A4 c=9:=by rw [B0,A5 e6,Bv e7]
  rw [hb,A5 (by omega)]
  try unfold Aa
  repeat first
   |((with_reducible first|apply Aq|apply Ak|apply Ar|apply Ao|apply Aw|apply Bc|apply Bu|apply Dm|apply Aj);· first|with_reducible rfl|(simp (disch:=omega) only [n1,n2,v1,v2,ek,e90,e00,Int.reduceEq,Ck,Cn]<;>with_reducible rfl))
   |((with_reducible first|apply At|apply As);· first|with_reducible rfl|omega|(simp (disch:=omega) only [gT,n1,n2,v1,v2,ek,e90,e00,Int.reduceEq,Ck,Cn]<;>omega))
   |(with_reducible apply Ap;· first|with_reducible rfl|(simp (disch:=omega) only [gF,n1,n2,v1,v2,ek,e90,e00,Int.reduceEq,Ck,Cn]<;>omega))
  try simp (disch:=omega) only [n1,n2,v1,v2,ek,e90,e00,Int.reduceEq,Ck,Cn]
  all_goals rfl
 by_cases e8:c.un>1099511627776
 ·have hb:A4 c=9:=by rw [B0,A5 e6,A5 e7,Bv e8]
  rw [hb,A5 (by omega)]
  try unfold Aa
  repeat first
   |((with_reducible first|apply Aq|apply Ak|apply Ar|apply Ao|apply Aw|apply Bc|apply Bu|apply Dm|apply Aj);· first|with_reducible rfl|(simp (disch:=omega) only [n1,n2,v1,v2,ek,e90,e00,Int.reduceEq,Ck,Cn]<;>with_reducible rfl))
   |((with_reducible first|apply At|apply As);· first|with_reducible rfl|omega|(simp (disch:=omega) only [gT,n1,n2,v1,v2,ek,e90,e00,Int.reduceEq,Ck,Cn]<;>omega))
   |(with_reducible apply Ap;· first|with_reducible rfl|(simp (disch:=omega) only [gF,n1,n2,v1,v2,ek,e90,e00,Int.reduceEq,Ck,Cn]<;>omega))
  try simp (disch:=omega) only [n1,n2,v1,v2,ek,e90,e00,Int.reduceEq,Ck,Cn]
  all_goals rfl
 by_cases e9:c.path<0∨2<c.path
 ·have hb:A4 c=9:=by rw [B0,A5 e6,A5 e7,A5 e8,Bv e9]
  have:(decide ((0:Int)<=c.path)&&decide (c.path<=2))=false:=by simp;omega
  rw [this] at n3;rw [hb,A5 (by omega)]
  try unfold Aa
  repeat first
   |((with_reducible first|apply Aq|apply Ak|apply Ar|apply Ao|apply Aw|apply Bc|apply Bu|apply Dm|apply Aj);· first|with_reducible rfl|(simp (disch:=omega) only [n1,n2,v1,v2,ek,e90,e00,n3,Int.reduceEq,Ck,Cn]<;>with_reducible rfl))
   |((with_reducible first|apply At|apply As);· first|with_reducible rfl|omega|(simp (disch:=omega) only [gT,n1,n2,v1,v2,ek,e90,e00,n3,Int.reduceEq,Ck,Cn]<;>omega))
   |(with_reducible apply Ap;· first|with_reducible rfl|(simp (disch:=omega) only [gF,n1,n2,v1,v2,ek,e90,e00,n3,Int.reduceEq,Ck,Cn]<;>omega))
  try simp (disch:=omega) only [n1,n2,v1,v2,ek,e90,e00,n3,Int.reduceEq,Ck,Cn]
  all_goals rfl
 have q9:(decide ((0:Int)<=c.path)&&decide (c.path<=2))=true:=by simp;omega
 rw [q9] at n3;by_cases e10:c.path≠0∧c.auth=false
 ·have hb:A4 c=4:=by rw [B0,A5 e6,A5 e7,A5 e8,A5 e9,Bv e10]
  have ea:=e10.2;have ep:(c.path != 0)=true:=by simp [e10.1]
  rw [hb,A5 (by omega)]
  try unfold Aa
  repeat first
   |((with_reducible first|apply Aq|apply Ak|apply Ar|apply Ao|apply Aw|apply Bc|apply Bu|apply Dm|apply Aj);· first|with_reducible rfl|(simp (disch:=omega) only [n1,n2,v1,v2,ek,e90,e00,n3,ep,ea,Int.reduceEq,Ck,Cn]<;>with_reducible rfl))
   |((with_reducible first|apply At|apply As);· first|with_reducible rfl|omega|(simp (disch:=omega) only [gT,n1,n2,v1,v2,ek,e90,e00,n3,ep,ea,Int.reduceEq,Ck,Cn]<;>omega))
   |(with_reducible apply Ap;· first|with_reducible rfl|(simp (disch:=omega) only [gF,n1,n2,v1,v2,ek,e90,e00,n3,ep,ea,Int.reduceEq,Ck,Cn]<;>omega))
  try simp (disch:=omega) only [n1,n2,v1,v2,ek,e90,e00,n3,ep,ea,Int.reduceEq,Ck,Cn]
  all_goals rfl
 have hb:A4 c=0:=by rw [B0,A5 e6,A5 e7,A5 e8,A5 e9,A5 e10]
 rw [hb,Bv rfl];have a0:=Ae7 (fu:=fu) (d:=d+3) 9 (by omega) (by omega)
 have t1:=ZG (fu:=fu) (d:=d+3) c.subj;have t2:=ZG (fu:=fu) (d:=d+3) c.iss;have nu:=fun n=>Abs (fu:=fu) (d:=d+3) n
 have da:=Ai5 (fu:=fu) (d:=d+3) (Jo c.key);have k9:(Jo c.key).length=9:=rfl;rw [k9] at da;have bo:=ZH (fu:=fu) (d:=d+3) c.auth;have wf:wrap .u64 c.fr=c.fr:=Cq (by omega) (by omega)
 have wu:wrap .u64 c.un=c.un:=Cq (by omega) (by omega)
 have wp:wrap .u64 c.path=c.path:=Cq (by omega) (by omega)
 have bi:=Afg (fu:=fu) (d:=d) (AZ hw hb) (by simp [Bb]) hfu
 have L9:=Am .u8 (Jo c.key);rw [k9] at L9;have tk9:List.take 9 (Af .u8 (Jo c.key))=Af .u8 (Jo c.key):=To (by omega)
 have LB:=Am .u8 (Bf (Bb c));have tB:=J6 .u8 (Bf (Bb c));generalize Bf (Bb c)=W at bi LB tB ⊢;simp only [Bb,Ci,List.flatMap_cons,List.flatMap_nil,It.cells,List.cons_append,Zzq,List.append_nil,Ja,AV,Br,Nat.reduceAdd] at bi;have w0:wrap .u64 (0:Int)=0:=rfl;by_cases ep:c.path=0
 ·rw [ep] at bi n3
  try unfold Aa
  repeat first
   |((with_reducible first|apply Aq|apply Ak|apply Ar|apply Ao|apply Aw|apply Bc|apply Bu|apply Dm|apply Aj);· first|with_reducible rfl|(simp (disch:=omega) only [n1,n2,v1,v2,ek,e90,e00,n3,ep,w0,a0,t1,t2,nu,B8,Br,E6,L9,tk9,da,wf,wu,bo,bi,LB,tB,Int.reduceEq,Ck,Cn]<;>with_reducible rfl))
   |((with_reducible first|apply At|apply As);· first|with_reducible rfl|omega|(simp (disch:=omega) only [gT,n1,n2,v1,v2,ek,e90,e00,n3,ep,w0,a0,t1,t2,nu,B8,Br,E6,L9,tk9,da,wf,wu,bo,bi,LB,tB,Int.reduceEq,Ck,Cn]<;>omega))
   |(with_reducible apply Ap;· first|with_reducible rfl|(simp (disch:=omega) only [gF,n1,n2,v1,v2,ek,e90,e00,n3,ep,w0,a0,t1,t2,nu,B8,Br,E6,L9,tk9,da,wf,wu,bo,bi,LB,tB,Int.reduceEq,Ck,Cn]<;>omega))
  try simp (disch:=omega) only [n1,n2,v1,v2,ek,e90,e00,n3,ep,w0,a0,t1,t2,nu,B8,Br,E6,L9,tk9,da,wf,wu,bo,bi,LB,tB,Int.reduceEq,Ck,Cn]
  all_goals rfl
 ·have ea:c.auth=true:=by
   cases h:c.auth
   ·exact absurd ⟨ep,h⟩ e10
   ·rfl
  rw [ea,Bv rfl] at bo bi;have ep:(c.path != 0)=true:=by simp [ep]
  try unfold Aa
  repeat first
   |((with_reducible first|apply Aq|apply Ak|apply Ar|apply Ao|apply Aw|apply Bc|apply Bu|apply Dm|apply Aj);· first|with_reducible rfl|(simp (disch:=omega) only [n1,n2,v1,v2,ek,e90,e00,n3,ep,ea,a0,t1,t2,nu,B8,Br,E6,L9,tk9,da,wf,wu,wp,bo,bi,LB,tB,Int.reduceEq,Ck,Cn]<;>with_reducible rfl))
   |((with_reducible first|apply At|apply As);· first|with_reducible rfl|omega|(simp (disch:=omega) only [gT,n1,n2,v1,v2,ek,e90,e00,n3,ep,ea,a0,t1,t2,nu,B8,Br,E6,L9,tk9,da,wf,wu,wp,bo,bi,LB,tB,Int.reduceEq,Ck,Cn]<;>omega))
   |(with_reducible apply Ap;· first|with_reducible rfl|(simp (disch:=omega) only [gF,n1,n2,v1,v2,ek,e90,e00,n3,ep,ea,a0,t1,t2,nu,B8,Br,E6,L9,tk9,da,wf,wu,wp,bo,bi,LB,tB,Int.reduceEq,Ck,Cn]<;>omega))
  try simp (disch:=omega) only [n1,n2,v1,v2,ek,e90,e00,n3,ep,ea,a0,t1,t2,nu,B8,Br,E6,L9,tk9,da,wf,wu,wp,bo,bi,LB,tB,Int.reduceEq,Ck,Cn]
  all_goals rfl
end
end
section
open Go.IntKind (wrap)
def LQ (s:Sg):Int:=if Dh s.path.length=true then 9 else if Io s.leaf s.path.length=true then 9 else if s.chains.length≠18 then 4 else 0
def Fe (c:Ce):Int:=if A4 c=0 then LQ c.sig else A4 c
def H5 (c:Ce):List Int:=Bf (Bb c)++EJ c.sig
def UL (c:Ce):List PV:=if Fe c=0 then [.own 1 (H5 c).length (Af .u8 (H5 c)),.sc (.int .i64 0)] else [.own 1 0 [],.sc (.int .i64 (Fe c))]
def Kj (c:Ce):Int:=My 14 (Bf (Bb c))
def Ns (c:Ce)(k:Ky):Int:=if A4 c=0 then OU k (Kj c) c.sig else A4 c
def ZL:Ce:=⟨Gm,Gm,0,⟨0,0⟩,0,0,false,0,0,⟨0,[],[]⟩⟩
def U9 (c:Ce)(seed h leaf:Int):Ce × Int:=
 if A4 c=0 then (match EE seed h leaf (Kj c) with|some s=>({ c with sig:=s },0)|none=>(ZL,9)) else (ZL,A4 c)
theorem J3 {c:Ce}(h:A4 c=0):(Bf (Bb c)).length<=200:=by
 have k9:(Cd (Jo c.key)).size=9:=by rw [Ge];rfl
 have ns:Gm.size=0:=rfl;unfold A4 at h
 have hs:c.subj.size<=32∧c.iss.size<=32:=by
  split at h
  ·cases h
  ·split at h
   ·cases h
   ·omega
 have e:Bf (Bb c)=Bw ⟨5,9,Gm⟩++(Bw ⟨4,0,c.subj⟩++(Bw ⟨4,0,c.iss⟩++(Bw ⟨1,c.serial,Gm⟩++(Bw ⟨3,0,Cd (Jo c.key)⟩++(Bw ⟨1,c.fr,Gm⟩++(Bw ⟨1,c.un,Gm⟩++(Bw ⟨7,(if c.auth=true then 1 else 0),Gm⟩++(Bw ⟨1,c.path,Gm⟩++(Bw ⟨1,c.model,Gm⟩++[]))))))))):=rfl
 rw [e];simp only [Kt,AV];have i1:=Ha ⟨5,9,Gm⟩;have i2:=Ha ⟨4,0,c.subj⟩;have i3:=Ha ⟨4,0,c.iss⟩;have i4:=Ha ⟨1,c.serial,Gm⟩;have i5:=Ha ⟨3,0,Cd (Jo c.key)⟩;have i6:=Ha ⟨1,c.fr,Gm⟩;have i7:=Ha ⟨1,c.un,Gm⟩;have i8:=Ha ⟨7,(if c.auth=true then 1 else 0),Gm⟩
 have i9:=Ha ⟨1,c.path,Gm⟩;have i0:=Ha ⟨1,c.model,Gm⟩;simp only [ns,k9] at i1 i2 i3 i4 i5 i6 i7 i8 i9 i0;omega
theorem Xr {c:Ce}(hw:c.wf)(h:A4 c=0):Kx (Bf (Bb c)):=by
 intro y hy;obtain ⟨x,hx,hy⟩:=List.mem_flatMap.1 hy;have:=(AZ hw h x hx).1;exact Adi this.k1 this.k8 this.n0 y hy
theorem FY {seed h leaf m:Int}{s:Sg}(e:EE seed h leaf m=some s):s.chains.length=18∧s.path.length<=4:=by
 unfold EE at e;split at e
 ·cases e
 ·rename_i hh;split at e
  ·cases e
  ·cases e;have:=Hx (by simpa using hh)
   simp [I3];omega
section
variable {fu d:Nat} {c:Ce}
theorem VY (hfu:1000<=fu)(hw:c.wf)(hs1:c.subj.size<=9223372036854775807)(hs2:c.iss.size<=9223372036854775807)(k:Ky):Ae C0 Tryz.prog fu (d+8) L5 [.agg c.cells,.agg k.cells]=some ⟨[.sc (.int .i64 (Ns c k))],[]⟩:=by
 refine (Vh fu (d+7) c.subj c.iss c.serial c.key.h c.key.root c.fr c.un c.auth c.path c.model c.sig.leaf c.sig.chains.length (Af .u64 c.sig.chains) c.sig.path.length (Af .u64 c.sig.path) k.h k.root).trans ?_;have bq:=ND (fu:=fu) (d:=d+2) hfu hw hs1 hs2;simp only [Ce.cells] at bq;unfold Gq at bq;unfold Ns;by_cases h0:A4 c=0
 ·have lb:=J3 h0;rw [Bv h0] at bq;rw [Bv h0];have e00:((0:Int) != 0)=false:=rfl;have hh:=MD (xs:=Kd) (fu:=fu) (d:=d+3) (Xr hw h0) (by omega) (by omega) (by omega) 14
  have vr:=Abo (fu:=fu) (d:=d) hfu k (Kj c) c.sig;simp only [Ky.cells,Sg.cells] at vr;have eW:My 14 (Bf (Bb c))=Kj c:=rfl;rw [eW] at hh;have L1:=Am .u8 (Bf (Bb c));have t1:=J6 .u8 (Bf (Bb c));generalize (Bf (Bb c)).length=n1 at *
  generalize Af .u8 (Bf (Bb c))=c1 at *
  try unfold Aa
  repeat first
   |((with_reducible first|apply Aq|apply Ak|apply Ar|apply Bc|apply Bu|apply Aj);· first|with_reducible rfl|(simp (disch:=omega) only [bq,e00,B8,Br,E6,L1,t1,hh,vr]<;>with_reducible rfl))
   |((with_reducible first|apply At|apply As);· first|with_reducible rfl|omega|(simp (disch:=omega) only [gT,bq,e00,B8,Br,E6,L1,t1,hh,vr]<;>omega))
   |(with_reducible apply Ap;· first|with_reducible rfl|(simp (disch:=omega) only [gF,bq,e00,B8,Br,E6,L1,t1,hh,vr]<;>omega))
  try simp (disch:=omega) only [bq,e00,B8,Br,E6,L1,t1,hh,vr]
  all_goals rfl
 ·have hne:(A4 c != 0)=true:=by simp [h0]
  rw [A5 h0] at bq;rw [A5 h0]
  try unfold Aa
  repeat first
   |((with_reducible first|apply Aq|apply Ak|apply Ar|apply Bc|apply Bu|apply Aj);· first|with_reducible rfl|(simp (disch:=omega) only [bq,hne]<;>with_reducible rfl))
   |((with_reducible first|apply At|apply As);· first|with_reducible rfl|omega|(simp (disch:=omega) only [gT,bq,hne]<;>omega))
   |(with_reducible apply Ap;· first|with_reducible rfl|(simp (disch:=omega) only [gF,bq,hne]<;>omega))
  try simp (disch:=omega) only [bq,hne]
  all_goals rfl
theorem Aec (hfu:1000<=fu)(hw:c.wf)(hs1:c.subj.size<=9223372036854775807)(hs2:c.iss.size<=9223372036854775807)(seed h leaf:Int):Ae C0 Tryz.prog fu (d+13) Ot [.agg c.cells,.sc (.int .u64 seed),.sc (.int .i64 h),.sc (.int .i64 leaf)]=some ⟨[.agg (U9 c seed h leaf).1.cells,.sc (.int .i64 (U9 c seed h leaf).2)],[]⟩:=by
 refine (Yn fu (d+12) c.subj c.iss c.serial c.key.h c.key.root c.fr c.un c.auth c.path c.model c.sig.leaf c.sig.chains.length (Af .u64 c.sig.chains) c.sig.path.length (Af .u64 c.sig.path) seed h leaf).trans ?_;have bq:=ND (fu:=fu) (d:=d+7) hfu hw hs1 hs2;simp only [Ce.cells] at bq;unfold Gq at bq;unfold U9;by_cases h0:A4 c=0
 ·have lb:=J3 h0;rw [Bv h0] at bq;rw [Bv h0];have e00:((0:Int) != 0)=false:=rfl;have e90:((9:Int) != 0)=true:=rfl;have hh:=MD (xs:=Kd) (fu:=fu) (d:=d+8) (Xr hw h0) (by omega) (by omega) (by omega) 14
  have sg:=Ai3 (fu:=fu) (d:=d) hfu seed h leaf (Kj c);have eW:My 14 (Bf (Bb c))=Kj c:=rfl;rw [eW] at hh;have L1:=Am .u8 (Bf (Bb c));have t1:=J6 .u8 (Bf (Bb c));generalize (Bf (Bb c)).length=n1 at *
  generalize Af .u8 (Bf (Bb c))=c1 at *
  cases hs:EE seed h leaf (Kj c) with
  |none=>
   rw [hs] at sg;simp only [SL,Sg.owned,AV] at sg
   try unfold Aa
   repeat first
    |((with_reducible first|apply Aq|apply Ak|apply Ar|apply Bc|apply Bu|apply Aj);· first|with_reducible rfl|(simp (disch:=omega) only [bq,e00,e90,B8,Br,E6,L1,t1,hh,sg]<;>with_reducible rfl))
    |((with_reducible first|apply At|apply As);· first|with_reducible rfl|omega|(simp (disch:=omega) only [gT,bq,e00,e90,B8,Br,E6,L1,t1,hh,sg]<;>omega))
    |(with_reducible apply Ap;· first|with_reducible rfl|(simp (disch:=omega) only [gF,bq,e00,e90,B8,Br,E6,L1,t1,hh,sg]<;>omega))
   try simp (disch:=omega) only [bq,e00,e90,B8,Br,E6,L1,t1,hh,sg]
   all_goals rfl
  |some s=>
   rw [hs] at sg;simp only [SL,Sg.owned] at sg;have hl:=FY hs;have La:=Am .u64 s.chains;have Lb:=Am .u64 s.path;have ta:=J6 .u64 s.chains;have tb:=J6 .u64 s.path
   try unfold Aa
   repeat first
    |((with_reducible first|apply Aq|apply Ak|apply Ar|apply Bc|apply Bu|apply Aj);· first|with_reducible rfl|(simp (disch:=omega) only [bq,e00,B8,Br,E6,L1,t1,hh,sg,La,Lb,ta,tb]<;>with_reducible rfl))
    |((with_reducible first|apply At|apply As);· first|with_reducible rfl|omega|(simp (disch:=omega) only [gT,bq,e00,B8,Br,E6,L1,t1,hh,sg,La,Lb,ta,tb]<;>omega))
    |(with_reducible apply Ap;· first|with_reducible rfl|(simp (disch:=omega) only [gF,bq,e00,B8,Br,E6,L1,t1,hh,sg,La,Lb,ta,tb]<;>omega))
   try simp (disch:=omega) only [bq,e00,B8,Br,E6,L1,t1,hh,sg,La,Lb,ta,tb]
   all_goals rfl
 ·have hne:(A4 c != 0)=true:=by simp [h0]
  rw [A5 h0] at bq;rw [A5 h0]
  try unfold Aa
  repeat first
   |((with_reducible first|apply Aq|apply Ak|apply Ar|apply Bc|apply Bu|apply Aj);· first|with_reducible rfl|(simp (disch:=omega) only [bq,hne]<;>with_reducible rfl))
   |((with_reducible first|apply At|apply As);· first|with_reducible rfl|omega|(simp (disch:=omega) only [gT,bq,hne]<;>omega))
   |(with_reducible apply Ap;· first|with_reducible rfl|(simp (disch:=omega) only [gF,bq,hne]<;>omega))
  try simp (disch:=omega) only [bq,hne]
  all_goals rfl
end
end
section
open Go.IntKind (wrap)
structure G6 where
 p:Bool
 left:Int
 last:List Int
def G6.cells (f:G6):List PV:=[.sc (.bool f.p),.sc (.int .i64 f.left),.lst false 1 f.last.length (Af .u8 f.last)]
def Ez (l:List G6):List PV:=l.flatMap G6.cells
theorem G6.cells_len (f:G6):f.cells.length=3:=rfl
theorem C5 (l:List G6):(Ez l).length=l.length*3:=Z8 G6.cells_len l
theorem Di (l:List G6):List.take (l.length*3) (Ez l)=Ez l:=To (by rw [C5];omega)
def R3 (l:List G6):Bool:=match l.getLast? with|some f=>f.p&&(Int.tmod f.left 2==0)|none=>false
def Jh (l:List G6)(cnt k:Int):Int:=
 if cnt>=512 then 8 else if k<1 then 3 else if k>8 then 3 else if R3 l=true∧k≠1∧k≠2∧k≠4 then 3 else if (l.length:Int)>8 then 5 else 0
abbrev Lf (l:List G6)(cnt:Int):List PV:=[.own 3 l.length (Ez l),.sc (.int .i64 cnt)]
section
variable {fu d:Nat}
theorem TA (l:List G6)(cnt:Int):Ae C0 Tryz.prog fu (d+1) S4 [.pbox (Lf l cnt)]=some ⟨[.sc (.bool (decide (cnt>0)&&((l.length:Int)==0)))],[Lf l cnt]⟩:=by
 rw [ER];have L:=C5 l;have t:=Di l;by_cases h:cnt>0
 ·simp (disch:=omega) only [Bx,h,decide_true,Bool.true_and,L,t]
 ·simp (disch:=omega) only [Bx,h,decide_false,Bool.false_and,L,t]
theorem KA {l:List G6}(hl:l.length<=1000000)(cnt:Int):Ae C0 Tryz.prog fu (d+1) Rj [.pbox (Lf l cnt)]=some ⟨[.sc (.bool (R3 l))],[Lf l cnt]⟩:=by
 rw [EA];have L:=C5 l;have t:=Di l;unfold R3;rcases List.eq_nil_or_concat l with rfl|⟨l',f,rfl⟩
 ·have e0:¬(((([]:List G6).length:Nat):Int)>0):=by simp
  simp (disch:=first|assumption|omega) only [Bx,L,t]
  first|done|rfl
 ·have hn:(l'.concat f).length=l'.length+1:=by simp
  have hx:(l'.concat f)[l'.length]?=some f:=by simp
  have gl:(l'.concat f).getLast?=some f:=by simp
  have w:wrap .i64 (((l'.concat f).length:Int)-1)=(l'.length:Int):=by rw [Al (by omega) (by omega)];omega
  have g0:(Ez (l'.concat f)).getD (l'.length*3) .top=.sc (.bool f.p):=Ef G6.cells_len hx (j:=0) (by omega)
  have g1:(Ez (l'.concat f)).getD (l'.length*3+1) .top=.sc (.int .i64 f.left):=Ef G6.cells_len hx (j:=1) (by omega)
  rw [gl];cases hp:f.p
  ·rw [hp] at g0;simp (disch:=omega) only [Bx,w,Gy,Br,J7,g0,L,t,hp,Bool.false_and]
  ·rw [hp] at g0;simp (disch:=omega) only [Bx,w,Gy,Br,J7,g0,g1,L,t,hp,Bool.true_and]
theorem VP {l:List G6}(hl:l.length<=1000000)(cnt k:Int):Ae C0 Tryz.prog fu (d+2) Q8 [.pbox (Lf l cnt),.sc (.int .i64 k)]=some ⟨[.sc (.int .i64 (Jh l cnt k))],[Lf l cnt]⟩:=by
 refine (BL fu (d+1) l.length (Ez l) cnt k).trans ?_;have L:=C5 l;have t:=Di l;have ak:=KA (fu:=fu) (d:=d) hl cnt;unfold Lf at ak;unfold Jh;by_cases c1:cnt>=512
 ·rw [Bv c1];simp (disch:=omega) only [Bx,L,t]
 rw [A5 c1];by_cases c2:k<1
 ·rw [Bv c2];simp (disch:=omega) only [Bx,L,t]
 rw [A5 c2];by_cases c3:k>8
 ·rw [Bv c3];simp (disch:=omega) only [Bx,L,t]
 rw [A5 c3];cases ha:R3 l
 ·rw [ha] at ak;rw [A5 (by simp)]
  by_cases c5:(l.length:Int)>8
  ·rw [Bv c5];simp (disch:=omega) only [Bx,L,t,ak]
  ·rw [A5 c5];simp (disch:=omega) only [Bx,L,t,ak]
 ·rw [ha] at ak;by_cases c4:k≠1∧k≠2∧k≠4
  ·rw [Bv ⟨rfl,c4⟩];simp (disch:=omega) only [Bx,L,t,ak,D5];rw [A5 c4.1,A5 c4.2.1,A5 c4.2.2]
  ·rw [A5 (fun h=>c4 h.2)]
   have hk:k=1∨k=2∨k=4:=by omega
   by_cases c5:(l.length:Int)>8
   ·rw [Bv c5];rcases hk with rfl|rfl|rfl<;>simp (disch:=omega) only [Bx,L,t,ak,D5,Int.reduceEq,if_true,if_false]
   ·rw [A5 c5];rcases hk with rfl|rfl|rfl<;>simp (disch:=omega) only [Bx,L,t,ak,D5,Int.reduceEq,if_true,if_false]
end
end
section
open Go.IntKind (wrap)
theorem Nf (l:List G6):l=[]∨∃l' f,l=l'++[f]:=by
 rcases List.eq_nil_or_concat l with h|⟨a,b,h⟩
 ·exact .inl h
 ·exact .inr ⟨a,b,by simpa using h⟩
def FD (l:List G6):List G6:=(l.reverse.dropWhile fun f=>f.left==0).reverse
theorem QK {l:List G6}{f:G6}(h:f.left=0):FD (l++[f])=FD l:=by
 unfold FD;rw [List.reverse_append,List.reverse_singleton,List.singleton_append,List.dropWhile_cons_of_pos (by simp [h])]
theorem JF {l:List G6}{f:G6}(h:f.left≠0):FD (l++[f])=l++[f]:=by
 unfold FD;rw [List.reverse_append,List.reverse_singleton,List.singleton_append,List.dropWhile_cons_of_neg (by simp [h])]
 simp
def LX (l:List G6):List G6:=match l.getLast? with|some f=>l.dropLast++[⟨f.p,wrap .i64 (f.left-1),f.last⟩]|none=>[]
def RX (l:List G6)(x:It):List G6:=
 if x.k=5∧x.n>0 then l++[⟨false,wrap .i64 x.n,[]⟩] else if x.k=6∧x.n>0 then l++[⟨true,wrap .i64 (2*wrap .i64 x.n),[]⟩] else l
def Ft (l:List G6)(x:It):List G6:=FD (RX (LX l) x)
theorem Wb (l:List G6)(f:G6):LX (l++[f])=l++[⟨f.p,wrap .i64 (f.left-1),f.last⟩]:=by
 unfold LX;simp
theorem NC (l:List G6):(LX l).length=l.length:=by
 rcases Nf l with rfl|⟨l',f,rfl⟩
 ·rfl
 ·rw [Wb];simp
theorem So (a b:List G6):Ez (a++b)=Ez a++Ez b:=by
 unfold Ez;rw [List.flatMap_append]
theorem Se (f:G6):Ez [f]=f.cells:=by
 unfold Ez;simp
section
variable {fu d:Nat}
theorem PL {call:Ah}{a0_0n:Nat}{a0_0:List PV}{a0_1 a1_0 a1_1:Int}{a1_2:ByteArray}{c:Int}:∀(n:Nat)(l:List G6)(r:List PV)(nn:Nat),l.length=n->n<nn->n<=1000000 ->
  A8 fu call a0_0n a0_0 a0_1 a1_0 a1_1 a1_2 nn (l.length:Int) l.length c (Ez l++r)=some ⟨[],[Lf (FD l) c]⟩:=by
 intro n
 induction n with
 |zero=>
  intro l r nn hl hn _;obtain rfl:l=[]:=List.eq_nil_of_length_eq_zero hl;obtain ⟨m,rfl⟩:∃m,nn=m+1:=⟨nn-1,by omega⟩
  have e0:¬(((([]:List G6).length:Nat):Int)>0):=by simp
  have e1:([]:List G6).length*3<=(Ez []++r).length:=by simp
  rw [Oo];simp (disch:=first|assumption|omega) only [Bx];rfl
 |succ n ih=>
  intro l r nn hl hn hm;obtain ⟨m,rfl⟩:∃m,nn=m+1:=⟨nn-1,by omega⟩
  rcases Nf l with rfl|⟨l',f,rfl⟩
  ·simp at hl
  have hn':(l'++[f]).length=l'.length+1:=by simp
  have hx:(l'++[f])[l'.length]?=some f:=by simp
  have w:wrap .i64 (((l'++[f]).length:Int)-1)=(l'.length:Int):=by rw [Al (by omega) (by omega)];omega
  have L:=C5 (l'++[f]);have L2:(Ez (l'++[f])++r).length=(l'++[f]).length*3+r.length:=by rw [Kt,L]
  have t:List.take ((l'++[f]).length*3) (Ez (l'++[f])++r)=Ez (l'++[f]):=by rw [←L,List.take_left'];rfl
  have g1:(Ez (l'++[f])++r).getD (l'.length*3+1) .top=.sc (.int .i64 f.left):=by
   have:=Ef (f:=G6.cells) G6.cells_len hx (j:=1) (by omega)
   rw [List.getD_eq_getElem?_getD,List.getElem?_append_left (by rw [L];omega),←List.getD_eq_getElem?_getD]
   exact this
  rw [Oo];by_cases hz:f.left=0
  ·have e:Ez (l'++[f])++r=Ez l'++(f.cells++r):=by rw [So,Se,ZJ]
   have q:=ih l' (f.cells++r) m (by omega) (by omega) (by omega)
   rw [←e] at q;rw [QK hz];have hb:(f.left==(0:Int))=true:=by simp [hz]
   simp (disch:=omega) only [Bx,w,Gy,Br,Nat.sub_zero,g1,hb,q]
  ·rw [JF hz];have hb:(f.left==(0:Int))=false:=by simp [hz]
   simp (disch:=omega) only [Bx,w,Gy,Br,g1,hb,L2,t]
theorem Acd {l:List G6}{x:It}{cnt:Int}(hl:l.length<=100000)(hf:l.length+1<fu)(h0:0<=cnt)(h1:cnt<=1000000):
  Ae C0 Tryz.prog fu (d+1) Sx [.pbox (Lf l cnt),.agg x.cells]=some ⟨[],[Lf (Ft l x) (cnt+1)]⟩:=by
 obtain ⟨k,v,s⟩:=x;refine (ES fu d l.length (Ez l) cnt k v s).trans ?_;have w1:wrap .i64 (cnt+1)=cnt+1:=Al (by omega) (by omega)
 unfold Ft RX;have DL:=NC l;generalize hD:LX l=l1 at DL ⊢;have L1:(Ez l1).length=l.length*3:=by rw [C5,DL]
 have t1:List.take (l.length*3) (Ez l1)=Ez l1:=To (by omega)
 have p5:∀b u,Ez l1++[.sc (.bool b),.sc (.int .i64 u),.lst false 1 0 []]=Ez (l1++[⟨b,u,[]⟩]):=by
  intro b u;rw [So,Se];rfl
 have lp0:∀call,A8 fu call l.length (Ez l) cnt k v s fu (l.length:Int) l.length (cnt+1) (Ez l1)=some ⟨[],[Lf (FD l1) (cnt+1)]⟩:=by
  intro call;have:=PL (fu:=fu) (call:=call) (a0_0n:=l.length) (a0_0:=Ez l) (a0_1:=cnt) (a1_0:=k) (a1_1:=v) (a1_2:=s) (c:=cnt+1) _ l1 [] fu rfl (by omega) (by omega)
  rw [List.append_nil,DL] at this;exact this
 have lp1:∀call f,A8 fu call l.length (Ez l) cnt k v s fu ((l.length+1:Nat):Int) (l.length+1) (cnt+1) (Ez (l1++[f]))=some ⟨[],[Lf (FD (l1++[f])) (cnt+1)]⟩:=by
  intro call f;have ll:(l1++[f]).length=l.length+1:=by simp [DL]
  have:=PL (fu:=fu) (call:=call) (a0_0n:=l.length) (a0_0:=Ez l) (a0_1:=cnt) (a1_0:=k) (a1_1:=v) (a1_2:=s) (c:=cnt+1) _ (l1++[f]) [] fu rfl (by omega) (by omega)
  rw [List.append_nil,ll] at this;exact this
 rcases Nf l with rfl|⟨l',f,rfl⟩
 ·have e0:¬(((([]:List G6).length:Nat):Int)>0):=by simp
  obtain rfl:l1=[]:=by rw [←hD];rfl
  by_cases k5:k=5
  ·subst k5;by_cases hv:v>0
   ·rw [Bv ⟨rfl,hv⟩];simp (disch:=first|assumption|omega) only [Bx,w1,L1,t1,p5,lp1,Int.reduceBEq]
   ·rw [A5 (fun h=>hv h.2),A5 (fun h=>hv h.2)]
    simp (disch:=first|assumption|omega) only [Bx,w1,L1,t1,p5,lp0,Int.reduceBEq]
  ·have b5:(k==(5:Int))=false:=by simp [k5]
   rw [A5 (fun h=>k5 h.1)]
   by_cases k6:k=6
   ·subst k6;by_cases hv:v>0
    ·rw [Bv ⟨rfl,hv⟩];simp (disch:=first|assumption|omega) only [Bx,w1,L1,t1,p5,lp1,Int.reduceBEq]
    ·rw [A5 (fun h=>hv h.2)]
     simp (disch:=first|assumption|omega) only [Bx,w1,L1,t1,p5,lp0,Int.reduceBEq]
   ·have b6:(k==(6:Int))=false:=by simp [k6]
    rw [A5 (fun h=>k6 h.1)]
    simp (disch:=first|assumption|omega) only [Bx,w1,L1,t1,p5,lp0,b5,b6]
 ·have hn':(l'++[f]).length=l'.length+1:=by simp
  have hx:(l'++[f])[l'.length]?=some f:=by simp
  have w:wrap .i64 (((l'++[f]).length:Int)-1)=(l'.length:Int):=by rw [Al (by omega) (by omega)];omega
  have L:=C5 (l'++[f]);have g1:(Ez (l'++[f])).getD (l'.length*3+1) .top=.sc (.int .i64 f.left):=Ef G6.cells_len hx (j:=1) (by omega)
  have sp:Bd (Ez (l'++[f])) [.sc (.int .i64 (wrap .i64 (f.left-1)))] (l'.length*3+1)=Ez l1:=by
   rw [Ff (by omega),←hD,Wb,So,So,Se,Se]
   have:=C5 l';rw [List.set_append_right _ _ (by omega)]
   have:l'.length*3+1-(Ez l').length=1:=by omega
   rw [this];rfl
  by_cases k5:k=5
  ·subst k5;by_cases hv:v>0
   ·rw [Bv ⟨rfl,hv⟩];simp (disch:=first|assumption|omega) only [Bx,w,w1,Gy,Br,g1,sp,L1,t1,p5,lp1,Int.reduceBEq]
   ·rw [A5 (fun h=>hv h.2),A5 (fun h=>hv h.2)]
    simp (disch:=first|assumption|omega) only [Bx,w,w1,Gy,Br,g1,sp,L1,t1,p5,lp0,Int.reduceBEq]
  ·have b5:(k==(5:Int))=false:=by simp [k5]
   rw [A5 (fun h=>k5 h.1)]
   by_cases k6:k=6
   ·subst k6;by_cases hv:v>0
    ·rw [Bv ⟨rfl,hv⟩];simp (disch:=first|assumption|omega) only [Bx,w,w1,Gy,Br,g1,sp,L1,t1,p5,lp1,Int.reduceBEq]
    ·rw [A5 (fun h=>hv h.2)]
     simp (disch:=first|assumption|omega) only [Bx,w,w1,Gy,Br,g1,sp,L1,t1,p5,lp0,Int.reduceBEq]
   ·have b6:(k==(6:Int))=false:=by simp [k6]
    rw [A5 (fun h=>k6 h.1)]
    simp (disch:=first|assumption|omega) only [Bx,w,w1,Gy,Br,g1,sp,L1,t1,p5,lp0,b5,b6]
end
end
section
open Go.IntKind (wrap)
def TE (s:ByteArray):Bool:=Array.toList (ByteArray.data s)==Array.toList (ByteArray.data (ByteArray.mk #[]))
def Gr (x:It):Bool:=
 if x.k=3 then x.n==0 else if x.k=4 then x.n==0 else if x.k=8 then (x.n==0)&&TE x.s else if x.k=7 then decide (x.n<=1)&&TE x.s else TE x.s
section
variable {fu d:Nat}
theorem Aff (x:It):Ae C0 Tryz.prog fu (d+1) Zb [.agg x.cells]=some ⟨[.sc (.bool (Gr x))],[]⟩:=by
 obtain ⟨k,n,s⟩:=x;refine (NY fu d k n s).trans ?_;unfold Gr;show _=some (⟨[.sc (.bool (if k=3 then n==0 else if k=4 then n==0 else if k=8 then (n==0)&&TE s else if k=7 then decide (n<=1)&&TE s else TE s))],[]⟩:A0)
 by_cases h3:k=3
 ·subst h3;simp only [Bx,Int.reduceBEq,if_true]
 by_cases h4:k=4
 ·subst h4;simp only [Bx,Int.reduceBEq,Int.reduceEq,if_true,if_false]
 have b3:(k==(3:Int))=false:=by simp [h3]
 have b4:(k==(4:Int))=false:=by simp [h4]
 by_cases h8:k=8
 ·subst h8;cases hn:n==0<;>simp only [Bx,Int.reduceBEq,Int.reduceEq,if_true,if_false,hn,Bool.true_and,Bool.false_and]<;>rfl
 have b8:(k==(8:Int))=false:=by simp [h8]
 by_cases h7:k=7
 ·subst h7;cases hn:decide (n<=1)<;>simp only [Bx,Int.reduceBEq,Int.reduceEq,if_true,if_false,hn,Bool.true_and,Bool.false_and]<;>rfl
 have b7:(k==(7:Int))=false:=by simp [h7]
 simp only [Bx,b3,b4,b8,b7,A5 h3,A5 h4,A5 h8,A5 h7];rfl
theorem HR {l:List G6}{x:It}{cnt:Int}(hl:l.length<=1000)(hf:l.length+1<fu)(h0:0<=cnt)(h1:cnt<=1000000)(ha:R3 l=false)
  (hs:x.s.size<=100000)(hv:x.k=4->Lib.validD x.s.data.toList=true):
  Ae C0 Tryz.prog fu (d+2) Jf [.pbox (Lf l cnt),.agg x.cells]=some ⟨[.sc (.int .i64 0)],[Lf (Ft l x) (cnt+1)]⟩:=by
 have st:=Acd (fu:=fu) (d:=d) (l:=l) (x:=x) (cnt:=cnt) (by omega) hf h0 h1
 have ak:=KA (fu:=fu) (d:=d) (l:=l) (by omega) cnt
 have L:=C5 l;have t:=Di l;have L2:=C5 (Ft l x);have t2:=Di (Ft l x);rw [ha] at ak;generalize hE:Ft l x=E at *
 obtain ⟨k,n,s⟩:=x;have va:=Qj (fu:=fu) (d:=d) s (Nat.le_trans hs (by omega))
 unfold VW at va;refine (Je fu (d+1) l.length (Ez l) cnt k n s).trans ?_;unfold Lf It.cells at st;unfold Lf at ak;by_cases k4:k=4
 ·subst k4;rw [hv rfl] at va;simp (disch:=omega) only [Bx,Int.reduceBEq,va,Ck,L,t,ak,st,L2,t2]
 ·have b4:(k==(4:Int))=false:=by simp [k4]
  simp (disch:=omega) only [Bx,b4,L,t,ak,st,L2,t2]
theorem Akh {l:List G6}{x:It}{cnt:Int}(hl:l.length<=1000)(hf:l.length+1<fu)(h0:0<=cnt)(h1:cnt<=1000000)(ha:R3 l=false)
  (hs:x.s.size<=1024)(hv:x.k=4->Lib.validD x.s.data.toList=true)(hd:(decide (cnt>0)&&((l.length:Int)==0))=false) (hm:Jh l cnt x.k=0)(hsh:Gr x=true)(hn:x.n<=512∨(x.k≠5∧x.k≠6)):
  Ae C0 Tryz.prog fu (d+3) Oz [.pbox (Lf l cnt),.agg x.cells]=some ⟨[.sc (.int .i64 0)],[Lf (Ft l x) (cnt+1)]⟩:=by
 have ac:=HR (fu:=fu) (d:=d) (l:=l) (x:=x) (cnt:=cnt) hl hf h0 h1 ha (by omega) hv
 have dn:=TA (fu:=fu) (d:=d+1) l cnt;have ad:=VP (fu:=fu) (d:=d) (l:=l) (by omega) cnt x.k
 have sh:=Aff (fu:=fu) (d:=d+1) x;rw [hd] at dn;rw [hm] at ad;rw [hsh] at sh;have L:=C5 l;have t:=Di l;have L2:=C5 (Ft l x);have t2:=Di (Ft l x);generalize hE:Ft l x=E at *
 obtain ⟨k,n,s⟩:=x;have hs':¬((s.size:Int)>1024):=by have:s.size<=1024:=hs;omega
 refine (Yd fu (d+2) l.length (Ez l) cnt k n s).trans ?_;unfold Lf It.cells at ac;unfold Lf at dn ad;unfold It.cells at sh;by_cases k5:k=5
 ·subst k5;have hn':¬(n>512):=hn.elim (fun h=>Int.not_lt.2 h) (fun h=>absurd rfl h.1)
  simp (disch:=first|assumption|omega) only [Bx,Int.reduceBEq,dn,ad,sh,ac,Ck,L,t,L2,t2,bne_self_eq_false]
 have b5:(k==(5:Int))=false:=by simp [k5]
 by_cases k6:k=6
 ·subst k6;have hn':¬(n>512):=hn.elim (fun h=>Int.not_lt.2 h) (fun h=>absurd rfl h.2)
  simp (disch:=first|assumption|omega) only [Bx,Int.reduceBEq,dn,ad,sh,ac,Ck,L,t,L2,t2,bne_self_eq_false]
 have b6:(k==(6:Int))=false:=by simp [k6]
 simp (disch:=first|assumption|omega) only [Bx,b5,b6,dn,ad,sh,ac,Ck,L,t,L2,t2,bne_self_eq_false]
end
end
section
open Go.IntKind (wrap)
theorem Ta (l:List It):(Ci l).length=l.length*3:=Z8 It.cells_len l
structure Am9 (l:List G6) (cnt:Int) (x:It):Prop where
 hl:l.length<=100
 h0:0<=cnt
 h1:cnt<=1000
 ha:R3 l=false
 hs:x.s.size<=1024
 hv:x.k=4->Lib.validD x.s.data.toList=true
 hd:(decide (cnt>0)&&((l.length:Int)==0))=false
 hm:Jh l cnt x.k=0
 hsh:Gr x=true
 hn:x.n<=512∨(x.k≠5∧x.k≠6)
def Pm:List G6->Int->List It->Prop
 |l,cnt,[]=>l=[]∧cnt>0
 |l,cnt,x::r=>Am9 l cnt x∧Pm (Ft l x) (cnt+1) r
section
variable {fu d:Nat}
theorem OO (hfu:200<=fu){l:List It}(hl:l.length<=100000){a0n:Nat}{a0:List PV}:∀(r:List It)(i:Nat)(fs:List G6)(cnt:Int)(nn:Nat),l.drop i=r->i+r.length=l.length->r.length<nn->Pm fs cnt r ->
  Im fu (Ae C0 Tryz.prog fu (d+3)) a0n a0 nn l.length (Ci l) (l.length:Int) (i:Int) fs.length cnt (Ez fs)=some ⟨[.sc (.int .i64 0)],[]⟩:=by
 intro r
 induction r with
 |nil=>
  intro i fs cnt nn hd hi hn hg;obtain ⟨rfl,hc⟩:=hg;obtain ⟨m,rfl⟩:∃m,nn=m+1:=⟨nn-1,by omega⟩
  rw [AV,J7] at hi;rw [P3];have dn:=TA (fu:=fu) (d:=d+2) [] cnt;have e:(decide (cnt>0)&&(((([]:List G6).length:Nat):Int)==0))=true:=by simp [hc]
  rw [e] at dn;unfold Lf at dn;have L:=C5 [];have t:=Di [];have c:¬((i:Int)<(l.length:Int)):=by omega
  simp (disch:=first|assumption|omega) only [Bx,L,t,dn,Ck]
 |cons x r ih=>
  intro i fs cnt nn hd hi hn hg;obtain ⟨g,hg⟩:=hg;obtain ⟨m,rfl⟩:∃m,nn=m+1:=⟨nn-1,by omega⟩
  rw [Ja] at hi hn
  have hx:l[i]?=some x:=by
   have:=congrArg (fun q=>q[0]?) hd
   simpa using this
  have hd':l.drop (i+1)=r:=by
   have:=congrArg (List.drop 1) hd;rw [List.drop_drop] at this
   simpa using this
  have q:=ih (i+1) (Ft fs x) (cnt+1) m hd' (by omega) (by omega) hg
  have ck:=Akh (fu:=fu) (d:=d) (l:=fs) (x:=x) (cnt:=cnt) (by have:=g.hl;omega) (by have:=g.hl;omega) g.h0 (by have:=g.h1;omega) g.ha g.hs g.hv g.hd g.hm g.hsh g.hn
  generalize Ft fs x=E at *
  have g0:(Ci l).getD (i*3) .top=.sc (.int .i64 x.k):=Ef It.cells_len hx (j:=0) (by omega)
  have g1:(Ci l).getD (i*3+1) .top=.sc (.int .u64 x.n):=Ef It.cells_len hx (j:=1) (by omega)
  have g2:(Ci l).getD (i*3+1+1) .top=.sc (.string x.s):=Ef It.cells_len hx (j:=2) (by omega)
  have L:=C5 fs;have t:=Di fs;have w:wrap .i64 ((i:Int)+1)=((i+1:Nat):Int):=by rw [Al (by omega) (by omega)];omega
  rw [P3];unfold Lf It.cells at ck;simp (disch:=first|assumption|omega) only [Bx,Gy,g0,g1,g2,L,t,ck,bne_self_eq_false,w,q]
theorem R1 (hfu:200<=fu){l:List It}(hl:l.length<=100000)(hf:l.length<fu)(hg:Pm [] 0 l):Ae C0 Tryz.prog fu (d+4) Uz [.lst false 3 l.length (Ci l)]=some ⟨[.sc (.int .i64 0)],[]⟩:=by
 rw [IF];exact OO hfu hl l 0 [] 0 fu rfl (by omega) hf hg
end
end
section
open Go.IntKind (wrap)
section
variable {fu d:Nat}
theorem YF (hfu:1000<=fu){l:List It}(hl:l.length<=100000){a0n:Nat}{a0:List PV}:∀(r:List It)(i:Nat)(o:List Int)(nn:Nat),l.drop i=r->i+r.length=l.length->r.length<nn->(∀x∈r,x.ok)->(o++Bf r).length<=300000 ->
  Ka fu (Ae C0 Tryz.prog fu (d+2)) a0n a0 nn o.length l.length (Ci l) (l.length:Int) (i:Int) (Af .u8 o)=some ⟨[.own 1 (o++Bf r).length (Af .u8 (o++Bf r)),.sc (.int .i64 0)],[]⟩:=by
 intro r
 induction r with
 |nil=>
  intro i o nn hd hi hn hg hb;obtain ⟨m,rfl⟩:∃m,nn=m+1:=⟨nn-1,by omega⟩
  rw [AV,J7] at hi;have e:o++Bf []=o:=by simp [Bf]
  rw [e,S9];have L:(Af .u8 o).length=o.length:=Am _ _;have t:List.take o.length (Af .u8 o)=Af .u8 o:=To (by omega)
  have c:¬((i:Int)<(l.length:Int)):=by omega
  simp (disch:=first|assumption|omega) only [Bx,B8,L,t]
 |cons x r ih=>
  intro i o nn hd hi hn hg hb;obtain ⟨m,rfl⟩:∃m,nn=m+1:=⟨nn-1,by omega⟩
  rw [Ja] at hi hn
  have hx:l[i]?=some x:=by
   have:=congrArg (fun q=>q[0]?) hd
   simpa using this
  have hd':l.drop (i+1)=r:=by
   have:=congrArg (List.drop 1) hd;rw [List.drop_drop] at this
   simpa using this
  have e:o++Bf (x::r)=(o++Bw x)++Bf r:=by simp [Bf]
  rw [e] at hb ⊢
  have ho:o.length<=300000:=by
   rw [Kt,Kt] at hb;omega
  have q:=ih (i+1) (o++Bw x) m hd' (by omega) (by omega) (fun y hy=>hg y (List.mem_cons_of_mem _ hy)) hb
  have it:=Add (fu:=fu) (d:=d) hfu (l:=o) ho (x:=x) (hg x (by simp))
  have g0:(Ci l).getD (i*3) .top=.sc (.int .i64 x.k):=Ef It.cells_len hx (j:=0) (by omega)
  have g1:(Ci l).getD (i*3+1) .top=.sc (.int .u64 x.n):=Ef It.cells_len hx (j:=1) (by omega)
  have g2:(Ci l).getD (i*3+1+1) .top=.sc (.string x.s):=Ef It.cells_len hx (j:=2) (by omega)
  have L:(Af .u8 o).length=o.length:=Am _ _;have t:List.take o.length (Af .u8 o)=Af .u8 o:=To (by omega)
  have w:wrap .i64 ((i:Int)+1)=((i+1:Nat):Int):=by rw [Al (by omega) (by omega)];omega
  rw [S9];unfold It.cells at it;simp (disch:=first|assumption|omega) only [Bx,Gy,B8,g0,g1,g2,L,t,it,w,q]
theorem ZF (hfu:1000<=fu){l:List It}(hl:l.length<=100000)(hf:l.length<fu)(hg:Pm [] 0 l) (hk:∀x∈l,x.ok)(hb:(Bf l).length<=300000):
  Ae C0 Tryz.prog fu (d+5) Ru [.lst false 3 l.length (Ci l)]=some ⟨[.own 1 (Bf l).length (Af .u8 (Bf l)),.sc (.int .i64 0)],[]⟩:=by
 rw [NW];have v:=R1 (fu:=fu) (d:=d) (by omega) hl hf hg
 have q:=YF (fu:=fu) (d:=d+2) hfu hl (a0n:=l.length) (a0:=Ci l) l 0 [] fu rfl (by omega) hf hk (by simpa using hb)
 rw [Zzq] at q;simp only [Bx,v,bne_self_eq_false];exact q
end
end
section
open Go.IntKind (wrap)
section
variable {fu d:Nat}
theorem SB (hfu:200<=fu){l:List It}(hl:l.length<=100000)(hf:l.length<fu)(hg:Pm [] 0 l):
  Ae C0 Tryz.prog fu (d+5) Wo [.own 3 l.length (Ci l)]=some ⟨[.own 3 l.length (Ci l),.sc (.int .i64 0)],[]⟩:=by
 rw [JQ];have v:=R1 (fu:=fu) (d:=d) hfu hl hf hg;have L:=Ta l;have t:List.take (l.length*3) (Ci l)=Ci l:=To (by omega)
 simp (disch:=omega) only [Bx,L,t,E6,v,bne_self_eq_false]
end
end
section
open Go.IntKind (wrap)
structure WV (x:It):Prop where
 kd:x.k=1∨x.k=2∨x.k=3∨x.k=4∨x.k=7∨x.k=8
 hs:x.s.size<=1024
 hv:x.k=4->Lib.validD x.s.data.toList=true
 hsh:Gr x=true
 n0:0<=x.n
theorem WV.ok {x:It}(h:WV x):x.ok:=by
 have:=h.kd;have:=h.hs;exact ⟨by omega,by omega,h.n0,by omega⟩
theorem WV.push {x:It}(h:WV x)(l:List G6):RX l x=l:=by
 unfold RX;have:=h.kd;rw [A5 (by omega),A5 (by omega)]
theorem Afr {x:It}(h:WV x):Pm [] 0 [x]:=by
 have hk:=h.kd;refine ⟨⟨by simp,by omega,by omega,rfl,h.hs,h.hv,rfl,?_,h.hsh,.inr (by omega)⟩,?_,?_⟩
 ·unfold Jh;rw [A5 (by omega),A5 (by omega),A5 (by omega),A5 (by intro q;exact absurd q.1 (by decide)),A5 (by simp)]
 ·unfold Ft;rw [h.push];rfl
 ·omega
theorem KX:∀(r:List It)(cnt:Int),r≠[]->(∀x∈r,WV x)->0<cnt->cnt+r.length<=500->Pm [⟨false,r.length,[]⟩] cnt r
 |[],_,h,_,_,_=>absurd rfl h
 |x::r,cnt,_,hf,hc,hl=>by
  have h:=hf x (by simp)
  have hk:=h.kd;simp only [Ja] at hl;refine ⟨⟨by simp,by omega,by omega,rfl,h.hs,h.hv,by simp,?_,h.hsh,.inr (by omega)⟩,?_⟩
  ·unfold Jh;rw [A5 (by omega),A5 (by omega),A5 (by omega),A5 (by intro q;exact absurd q.1 (by simp [R3])),A5 (by simp)]
  ·have w:wrap .i64 (((x::r).length:Int)-1)=(r.length:Int):=by
    rw [Al (by simp only [Ja];omega) (by simp only [Ja];omega)]
    simp only [Ja];omega
   have e:Ft [⟨false,((x::r).length:Nat),[]⟩] x=FD [⟨false,(r.length:Nat),[]⟩]:=by
    unfold Ft;rw [h.push];have:=Wb [] ⟨false,((x::r).length:Nat),[]⟩;rw [Zzq,Zzq] at this;rw [this];simp only [w]
   rw [e];by_cases hr:r=[]
   ·subst hr;have:=QK (l:=[]) (f:=⟨false,(([]:List It).length:Nat),[]⟩) rfl;rw [Zzq] at this;rw [this];exact ⟨rfl,by omega⟩
   ·have:=JF (l:=[]) (f:=⟨false,(r.length:Nat),[]⟩) (by simp only;have:=List.length_pos_iff.2 hr;omega)
    rw [Zzq] at this;rw [this];exact KX r (cnt+1) hr (fun y hy=>hf y (List.mem_cons_of_mem _ hy)) (by omega) (by omega)
theorem Afp {r:List It}(hr:r≠[]) (hl:r.length<=400)(hf:∀x∈r,WV x):Pm [] 0 (⟨5,r.length,⟨#[]⟩⟩::r):=by
 have hp:=List.length_pos_iff.2 hr;refine ⟨⟨by simp,by omega,by omega,rfl,Nat.zero_le _,(by intro h;cases h),rfl,?_,(by rfl),.inl (by simp only;omega)⟩,?_⟩
 ·unfold Jh;rw [A5 (by omega),A5 (by simp),A5 (by simp),A5 (by intro q;exact absurd q.1 (by decide)),A5 (by simp)]
 ·have w:wrap .i64 (r.length:Int)=(r.length:Int):=Al (by omega) (by omega)
  have e:Ft [] ⟨5,(r.length:Nat),⟨#[]⟩⟩=FD [⟨false,(r.length:Nat),[]⟩]:=by
   unfold Ft RX;rw [Bv ⟨rfl,by simp only;omega⟩]
   simp only [w];rfl
  have:=JF (l:=[]) (f:=⟨false,(r.length:Nat),[]⟩) (by simp only;omega)
  rw [Zzq] at this;rw [e,this];exact KX r _ hr hf (by omega) (by omega)
end
section
open Go.IntKind (wrap)
def Ana (v:List It):List PV:=[.lst false 3 v.length (Ci v)]
theorem Afw (v:List It):(Ana v).length=1:=rfl
def Afd (l:List (List It)):List PV:=l.flatMap Ana
theorem atv {l:List (List It)} {i:Nat}{v:List It}(h:l[i]?=some v):(Afd l).getD (i*1) .top=.lst false 3 v.length (Ci v):=by
 exact Ef Afw h (j:=0) (by omega)
section
variable {fu d:Nat}
theorem GK (hfu:1000<=fu){a0n:Nat}{a0:List PV}{vs:List (List It)} (hl:vs.length<=100000):∀(r:List (List It)) (i nn:Nat),vs.drop i=r->r.length<nn->(∀v∈r,Pm [] 0 v∧v.length<1000)->i<=vs.length ->
  Kb fu (Ae C0 Tryz.prog fu (d+4)) a0n a0 nn vs.length (Afd vs) (vs.length:Int) (i:Int)=some ⟨[.sc (.int .i64 0)],[]⟩
 |_,_,0,_,h,_,_=>by omega
 |[],i,nn+1,h,hn,hg,hi=>by
  have:=drop_nil h;rw [S5,Dj _ _ _ (by omega)]
 |v::r,i,nn+1,h,hn,hg,hi=>by
  obtain ⟨h1,h2,h3⟩:=B3 h;simp only [Ja] at hn;have w:wrap .i64 ((i:Int)+1)=((i+1:Nat):Int):=by rw [Al (by omega) (by omega)];omega
  have ih:=GK hfu (a0n:=a0n) (a0:=a0) hl r (i+1) nn h3 (by omega) (fun v hv=>hg v (List.mem_cons_of_mem _ hv)) (by omega)
  obtain ⟨g,gl⟩:=hg v (by simp)
  have vg:=R1 (fu:=fu) (d:=d) (by omega) (by omega) (by omega) g
  have g0:=atv h2;rw [S5];simp (disch:=omega) only [Bx,Gy,g0,vg,bne_self_eq_false,w,ih]
theorem WZ (hfu:1000<=fu){vs:List (List It)} (hl:vs.length<1000)(hg:∀v∈vs,Pm [] 0 v∧v.length<1000):
  Ae C0 Tryz.prog fu (d+5) Yw [.lst false 1 vs.length (Afd vs)]=some ⟨[.sc (.int .i64 0)],[]⟩:=by
 rw [OB];exact GK hfu (by omega) vs 0 fu rfl (by omega) hg (by omega)
theorem XU (a b:List It):Ci (a++b)=Ci a++Ci b:=by
 unfold Ci;rw [List.flatMap_append]
theorem KN (hfu:1000<=fu){a0n:Nat}{a0:List PV}{vs:List (List It)} (hl:vs.length<=100000):∀(r:List (List It)) (i nn:Nat)(o:List It),vs.drop i=r->r.length<nn->Pm [] 0 (o++r.flatten)->(o++r.flatten).length<=500->i<=vs.length ->
  Ms fu (Ae C0 Tryz.prog fu (d+5)) a0n a0 nn o.length vs.length (Afd vs) (vs.length:Int) (i:Int) (Ci o)=some ⟨[.own 3 (o++r.flatten).length (Ci (o++r.flatten)),.sc (.int .i64 0)],[]⟩
 |_,_,0,_,_,h,_,_,_=>by omega
 |[],i,nn+1,o,h,hn,hg,hb,hi=>by
  have:=drop_nil h;have e:o++([]:List (List It)).flatten=o:=by simp
  rw [e] at hg hb ⊢;have L:=Ta o;have t:List.take (o.length*3) (Ci o)=Ci o:=To (by omega)
  have ck:=SB (fu:=fu) (d:=d) (by omega) (by omega) (by omega) hg
  rw [U5,Dj _ _ _ (by omega)]
  simp (disch:=omega) only [Bx,L,t,ck]
 |v::r,i,nn+1,o,h,hn,hg,hb,hi=>by
  obtain ⟨h1,h2,h3⟩:=B3 h;simp only [Ja] at hn;have w:wrap .i64 ((i:Int)+1)=((i+1:Nat):Int):=by rw [Al (by omega) (by omega)];omega
  have e:o++(v::r).flatten=(o++v)++r.flatten:=by simp
  rw [e] at hg hb ⊢
  have hb':o.length+v.length<=500:=by
   rw [Kt,Kt] at hb;omega
  have ih:=KN hfu (a0n:=a0n) (a0:=a0) hl r (i+1) nn (o++v) h3 (by omega) hg hb (by omega)
  have g0:=atv h2;have L:=Ta o;have Lv:=Ta v;have t:List.take (o.length*3) (Ci o)=Ci o:=To (by omega)
  rw [Kt,XU] at ih;rw [U5];simp (disch:=omega) only [Bx,Gy,g0,L,Lv,t,w,ih]
theorem Aai (hfu:1000<=fu){vs:List (List It)} (hg:∀v∈vs,Pm [] 0 v∧v.length<1000) (hl:vs.length<=400)(ha:Pm [] 0 (⟨5,vs.length,⟨#[]⟩⟩::vs.flatten)) (hb:vs.flatten.length<=400):
  Ae C0 Tryz.prog fu (d+6) Ty [.lst false 1 vs.length (Afd vs)]=some ⟨[.own 3 (vs.flatten.length+1) (Ci (⟨5,vs.length,⟨#[]⟩⟩::vs.flatten)),.sc (.int .i64 0)],[]⟩:=by
 rw [TC];have f:=WZ (fu:=fu) (d:=d) hfu (by omega) hg
 have w:wrap .u64 (vs.length:Int)=vs.length:=Cq (by omega) (by omega)
 have q:=KN (fu:=fu) (d:=d) hfu (a0n:=vs.length) (a0:=Afd vs) (by omega) vs 0 fu [⟨5,vs.length,⟨#[]⟩⟩] rfl (by omega) ha (by rw [Kt,List.length_singleton];omega) (by omega)
 simp only [Bx,f,bne_self_eq_false,w];exact q
end
end
section
open Go.IntKind (wrap)
def At0 (a b:List Int):Int:=Lib.compareBytes (a.map fun n=>n.toNat.toUInt8) (b.map fun n=>n.toNat.toUInt8)
def Sz (a b:List Int):Bool:=if a.length=b.length then decide (At0 a b<0) else decide (a.length<b.length)
def Jl (l:List G6)(key:List Int):List G6:=match l.getLast? with|some f=>l.dropLast++[⟨f.p,f.left,key⟩]|none=>l
theorem Mx (l:List G6)(f:G6)(key:List Int):Jl (l++[f]) key=l++[⟨f.p,f.left,key⟩]:=by
 unfold Jl;simp
def JC (l:List G6):List Int:=match l.getLast? with|some f=>f.last|none=>[]
theorem UG (l:List G6)(f:G6):JC (l++[f])=f.last:=by
 unfold JC;simp
def D4 (l:List G6)(x:It):Int × List G6:=
 if x.k=4∧VW x.s=false then (6,l)
 else if R3 l=true then (if JC l≠[]∧Sz (JC l) (Bw x)=false then (7,l) else (0,Ft (Jl l (Bw x)) x))
 else (0,Ft l x)
theorem Agi (x:It):1<=(Bw x).length:=by
 unfold Bw;have h2:=Ho 2 x.s.size;have h3:=Ho 3 x.s.size;have h4:=Ho (x.k-1) x.n
 repeat' split
 all_goals try simp only [Kt,Ja,AV]
 all_goals omega
section
variable {fu d:Nat}
theorem Abr (a b:List Int):Ae C0 Tryz.prog fu (d+1) 133 [.lst false 1 a.length (Af .u8 a),.lst false 1 b.length (Af .u8 b)]=some ⟨[.sc (.int .i64 (At0 a b))],[]⟩:=by
 have h:Ae C0 Tryz.prog fu (d+1) 133 [.lst false 1 a.length (Af .u8 a),.lst false 1 b.length (Af .u8 b)]=Wp [.lst false 1 a.length (Af .u8 a),.lst false 1 b.length (Af .u8 b)]:=by kernel_rfl
 rw [h];unfold Wp;simp only [Am,Nat.beq_refl,Bool.and_self,cond_true,He];rfl
theorem Aca (a b:List Int):Ae C0 Tryz.prog fu (d+2) Wq [.lst false 1 a.length (Af .u8 a),.lst false 1 b.length (Af .u8 b)]=some ⟨[.sc (.bool (Sz a b))],[]⟩:=by
 refine (JG fu (d+1) _ _ _ _).trans ?_;have c:=Abr (fu:=fu) (d:=d) a b;unfold Sz;by_cases h:a.length=b.length
 ·have b0:((a.length:Int) != (b.length:Int))=false:=by simp [h]
  rw [Bv h];simp only [Bx,b0,c]
 ·have b0:((a.length:Int) != (b.length:Int))=true:=by simp;omega
  rw [A5 h];simp only [Bx,b0];simp
theorem PF {l:List G6}{x:It}{cnt:Int}(hfu:1000<=fu)(hl:l.length<=900)(h0:0<=cnt)(h1:cnt<=1000000)(hx:x.ok)(hs:x.s.size<=100000):
  Ae C0 Tryz.prog fu (d+3) Jf [.pbox (Lf l cnt),.agg x.cells]=some ⟨[.sc (.int .i64 (D4 l x).1)],[Lf (D4 l x).2 (if (D4 l x).1=0 then cnt+1 else cnt)]⟩:=by
 cases ha:R3 l with
 |false=>
  cases hv:(x.k==4) && !VW x.s with
  |false=>
   have e:D4 l x=(0,Ft l x):=by
    unfold D4;rw [A5,A5 (by simp [ha])]
    intro hh;simp [hh.1,hh.2] at hv
   have:=HR (fu:=fu) (d:=d+1) (l:=l) (x:=x) (cnt:=cnt) (by omega) (by omega) h0 h1 ha hs (by
    intro hk;simp [hk] at hv;exact hv)
   rw [e,this];rfl
  |true=>
   simp at hv
   have e:D4 l x=(6,l):=by
    unfold D4;rw [Bv hv]
   rw [e];obtain ⟨k,n,s⟩:=x;have va:=Qj (fu:=fu) (d:=d+1) s (Nat.le_trans hs (by omega))
   simp only at hv;obtain ⟨rfl,hv⟩:=hv;rw [hv] at va;have L:=C5 l;have t:=Di l;refine (Je fu (d+2) l.length (Ez l) cnt 4 n s).trans ?_;simp (disch:=omega) only [Bx,Int.reduceBEq,va,L,t];rfl
 |true=>
  rcases Nf l with rfl|⟨l',f,rfl⟩
  ·exact absurd ha (by decide)
  have it:=Add (fu:=fu) (d:=d) hfu (l:=[]) (by simp) hx
  rw [Zzq] at it;have hp:=Agi x;have sm:=Aca (fu:=fu) (d:=d) f.last (Bw x);have ak:=KA (fu:=fu) (d:=d+1) (l:=l'++[f]) (by omega) cnt
  rw [ha] at ak;have st:=Acd (fu:=fu) (d:=d+1) (l:=Jl (l'++[f]) (Bw x)) (x:=x) (cnt:=cnt) (by rw [Mx];simp at hl ⊢;omega) (by rw [Mx];simp at hl ⊢;omega) h0 h1
  have E:D4 (l'++[f]) x=(if x.k=4∧VW x.s=false then (6,l'++[f]) else if f.last≠[]∧Sz f.last (Bw x)=false then (7,l'++[f]) else (0,Ft (Jl (l'++[f]) (Bw x)) x)):=by
   unfold D4;rw [ha,UG];simp only [if_true]
  have hn':(l'++[f]).length=l'.length+1:=by simp
  have hx':(l'++[f])[l'.length]?=some f:=by simp
  have w:wrap .i64 (((l'++[f]).length:Int)-1)=(l'.length:Int):=by rw [Al (by omega) (by omega)];omega
  have L:=C5 (l'++[f]);have t:=Di (l'++[f]);have g2:(Ez (l'++[f])).getD (l'.length*3+2) .top=.lst false 1 f.last.length (Af .u8 f.last):=Ef G6.cells_len hx' (j:=2) (by omega)
  have sp:Bd (Ez (l'++[f])) [.lst false 1 (Bw x).length (Af .u8 (Bw x))] (l'.length*3+2)=Ez (Jl (l'++[f]) (Bw x)):=by
   rw [Ff (by omega),Mx,So,So,Se,Se]
   have:=C5 l';rw [List.set_append_right _ _ (by omega)]
   have:l'.length*3+2-(Ez l').length=2:=by omega
   rw [this];rfl
  have LK:=C5 (Jl (l'++[f]) (Bw x));have tK:=Di (Jl (l'++[f]) (Bw x));have nK:(Jl (l'++[f]) (Bw x)).length=(l'++[f]).length:=by rw [Mx];simp
  rw [nK] at LK tK;have L2:=C5 (Ft (Jl (l'++[f]) (Bw x)) x);have t2:=Di (Ft (Jl (l'++[f]) (Bw x)) x);have Lk:=Am .u8 (Bw x);have tk:=J6 .u8 (Bw x);unfold Lf at st ak ⊢;rw [nK] at st;rw [E];generalize Ft (Jl (l'++[f]) (Bw x)) x=S at *
  generalize Ez (Jl (l'++[f]) (Bw x))=K at *
  have hsm:f.last.length=0->Sz f.last (Bw x)=true:=by
   intro hz;unfold Sz;rw [A5 (by omega)]
   simp;omega
  have hnil:f.last≠[]↔0<f.last.length:=by rw [List.length_pos_iff]
  generalize hKe:Bw x=key at *
  obtain ⟨k,n,s⟩:=x;have va:=Qj (fu:=fu) (d:=d+1) s (Nat.le_trans hs (by omega))
  unfold VW at va ⊢;unfold It.cells at st it ⊢;simp only at st it hs ⊢;refine (Je fu (d+2) (l'++[f]).length (Ez (l'++[f])) cnt k n s).trans ?_;simp only [AV] at it;have it0:Af .u8 []=[]:=rfl;rw [it0] at it
  try unfold Aa
  repeat' first
   |((with_reducible first|apply Aq|apply Ak|apply Ar|apply Ao|apply Bc|apply Bg|apply Aj);· first|with_reducible rfl|(simp (disch:=first|with_reducible assumption|omega) only [va,L,t,ak,w,Gy,Br,J7,it,g2,B8,E6,Lk,tk,sm,sp,LK,tK,st,L2,t2]<;>with_reducible rfl))
   |((with_reducible first|apply At|apply As);· first|with_reducible rfl|with_reducible assumption|omega|(simp (disch:=first|with_reducible assumption|omega) only [gT,va,L,t,ak,w,Gy,Br,J7,it,g2,B8,E6,Lk,tk,sm,sp,LK,tK,st,L2,t2]<;>omega))
   |(with_reducible apply Ap;· first|with_reducible rfl|with_reducible assumption|(simp (disch:=first|with_reducible assumption|omega) only [gF,va,L,t,ak,w,Gy,Br,J7,it,g2,B8,E6,Lk,tk,sm,sp,LK,tK,st,L2,t2]<;>omega))
   |(with_reducible refine Aii ?_ ?_<;>intro hb<;>try simp only [decide_eq_true_eq,decide_eq_false_iff_not,beq_iff_eq,beq_eq_false_iff_ne,bne_iff_ne,bne_eq_false_iff_eq,ne_eq,Bool.not_eq_true',Bool.not_eq_false',Bool.not_eq_true,Bool.not_eq_false] at hb)
   |(with_reducible refine UX ?_ ?_)
  all_goals try simp (disch:=first|with_reducible assumption|omega) only [va,L,t,ak,w,Gy,Br,J7,it,g2,B8,E6,Lk,tk,sm,sp,LK,tK,st,L2,t2]
  all_goals clear st it ak va sm L t g2 sp LK tK L2 t2 Lk tk it0 E ha hKe
  all_goals repeat' split
  all_goals first
   |rfl
   |(exfalso;simp_all;done)
   |(exfalso;simp_all;omega)
end
end
section
open Go.IntKind (wrap)
set_option maxRecDepth 100000
abbrev Qh:FuncId:=113
noncomputable def Gx (fu:Nat)(call:Ah)(a0_0n:Nat)(a0_0:List PV)(a0_1:Int)(Fn:Nat)(a0_2:List PV)(a0_3:Int)(nn:Nat)(y0 y1 y2:Int)(y3:Nat)(y4:List PV)(y5 y6:Int)(y7:Nat)(y8:Int)(y9:Nat)(y10:List PV)(Gh:Int)(H2:List PV):Option A0:=Co CB Tryz.prog fu call 113 Tryz.f113 (Bm Tryz.f113) [.pbox [.own 3 a0_0n a0_0,.sc (.int .i64 a0_1),.lst false 1 Fn a0_2,.sc (.int .i64 a0_3)]] [.r,.r,.r,.r,.r,.r,.r,.r,.r,.r,.r,.l,.r,.l] nn ⟨lk [(0,(.ptr 240000 0)),(2,(.sc (.int .i64 y0))),(3,(.sc (.int .u64 y1))),(8,(.sc (.int .i64 y2))),(94,(.lst false 1 y3 y4)),(95,(.sc (.int .i64 y5))),(96,(.sc (.int .i64 y6)))],B7 [(240000,(.st [(.view 240120 3 0 y7),(.sc (.int .i64 y8)),(.lst false 1 y9 y10),(.sc (.int .i64 Gh))])),(240120,(.ar false H2))]⟩
theorem Ls (fu:Nat)(call:Ah)(a0_0n:Nat)(a0_0:List PV)(a0_1:Int)(Fn:Nat)(a0_2:List PV)(a0_3:Int)(nn:Nat)(y0 y1 y2:Int)(y3:Nat)(y4:List PV)(y5 y6:Int)(y7:Nat)(y8:Int)(y9:Nat)(y10:List PV)(Gh:Int)(H2:List PV):Gx fu call a0_0n a0_0 a0_1 Fn a0_2 a0_3 (nn+1) y0 y1 y2 y3 y4 y5 y6 y7 y8 y9 y10 Gh H2=(A9 (decide (y6<y5)) (Au (decide (0<=y6)&&decide (y6<(↑y3:Int)))<|Ad .u8 (List.getD y4 (Int.toNat y6*1) .top) fun E2=>Aa (Hc .u64 y1 8) fun Fg=>Aa (wrap .u64 E2) fun Fp=>Aa (PK .u64 Fg Fp) fun Hp=>Aa (wrap .i64 (y6+1)) fun Hb=>Gx fu call a0_0n a0_0 a0_1 Fn a0_2 a0_3 (nn) (y0) Hp (y2) (y3) (y4) (y5) Hb (y7) (y8) (y9) (y10) (Gh) (H2)) (Aa (wrap .i64 (Gh+y2)) fun Hq=>Ag (call 127 [.sc (.int .u64 y1)]) fun Dz Dq=>Ac Dq<|Ab Dz fun F5 H3=>Ad .i64 F5 fun E1=>Ac H3<|A9 (decide (E1<y2)) (Au (decide (y7*3<=H2.length))<|some (A0.mk [.sc (.int .i64 0),.sc (.int .u64 0),.sc (.int .i64 2)] [[.own 3 y7 (List.take (y7*3) H2),.sc (.int .i64 y8),.lst false 1 y9 y10,.sc (.int .i64 Hq)]])) (Au (decide (y7*3<=H2.length))<|some (A0.mk [.sc (.int .i64 y0),.sc (.int .u64 y1),.sc (.int .i64 0)] [[.own 3 y7 (List.take (y7*3) H2),.sc (.int .i64 y8),.lst false 1 y9 y10,.sc (.int .i64 Hq)]])))):=by kernel_rfl
theorem Zn (fu d a0_0n:Nat)(a0_0:List PV)(a0_1:Int)(Fn:Nat)(a0_2:List PV)(a0_3:Int):Ae C0 Tryz.prog fu (d+1) Qh [.pbox [.own 3 a0_0n a0_0,.sc (.int .i64 a0_1),.lst false 1 Fn a0_2,.sc (.int .i64 a0_3)]]=(fun (call:Ah)=>A9 (decide (a0_3>=(↑Fn:Int))) (Au (decide (a0_0n*3<=a0_0.length))<|some (A0.mk [.sc (.int .i64 0),.sc (.int .u64 0),.sc (.int .i64 1)] [[.own 3 a0_0n (List.take (a0_0n*3) a0_0),.sc (.int .i64 a0_1),.lst false 1 Fn a0_2,.sc (.int .i64 a0_3)]])) (Au (decide (0<=a0_3)&&decide (a0_3<(↑Fn:Int)))<|Ad .u8 (List.getD a0_2 (Int.toNat a0_3*1) .top) fun x1=>Aa (wrap .i64 (a0_3+1)) fun x2=>A9 (x1==244) (Aa (wrap .u8 (x1-244)) fun x3=>Aa (wrap .u64 x3) fun x4=>Au (decide (a0_0n*3<=a0_0.length))<|some (A0.mk [.sc (.int .i64 7),.sc (.int .u64 x4),.sc (.int .i64 0)] [[.own 3 a0_0n (List.take (a0_0n*3) a0_0),.sc (.int .i64 a0_1),.lst false 1 Fn a0_2,.sc (.int .i64 x2)]])) (A9 (x1==245) (Aa (wrap .u8 (x1-244)) fun x5=>Aa (wrap .u64 x5) fun x6=>Au (decide (a0_0n*3<=a0_0.length))<|some (A0.mk [.sc (.int .i64 7),.sc (.int .u64 x6),.sc (.int .i64 0)] [[.own 3 a0_0n (List.take (a0_0n*3) a0_0),.sc (.int .i64 a0_1),.lst false 1 Fn a0_2,.sc (.int .i64 x2)]])) (A9 (x1==246) (Au (decide (a0_0n*3<=a0_0.length))<|some (A0.mk [.sc (.int .i64 8),.sc (.int .u64 0),.sc (.int .i64 0)] [[.own 3 a0_0n (List.take (a0_0n*3) a0_0),.sc (.int .i64 a0_1),.lst false 1 Fn a0_2,.sc (.int .i64 x2)]])) (Aa (D7 .u8 x1 5) fun x7=>Aa (Qv .u8 x1 31) fun x8=>A9 (decide (x7>5)) (Au (decide (a0_0n*3<=a0_0.length))<|some (A0.mk [.sc (.int .i64 0),.sc (.int .u64 0),.sc (.int .i64 2)] [[.own 3 a0_0n (List.take (a0_0n*3) a0_0),.sc (.int .i64 a0_1),.lst false 1 Fn a0_2,.sc (.int .i64 x2)]])) (A9 (decide (x8>27)) (Au (decide (a0_0n*3<=a0_0.length))<|some (A0.mk [.sc (.int .i64 0),.sc (.int .u64 0),.sc (.int .i64 2)] [[.own 3 a0_0n (List.take (a0_0n*3) a0_0),.sc (.int .i64 a0_1),.lst false 1 Fn a0_2,.sc (.int .i64 x2)]])) (Aa (wrap .i64 x7) fun x9=>Aa (wrap .i64 (1+x9)) fun Cl=>A9 (decide (x8<24)) (Aa (wrap .u64 x8) fun Cw=>Au (decide (a0_0n*3<=a0_0.length))<|some (A0.mk [.sc (.int .i64 Cl),.sc (.int .u64 Cw),.sc (.int .i64 0)] [[.own 3 a0_0n (List.take (a0_0n*3) a0_0),.sc (.int .i64 a0_1),.lst false 1 Fn a0_2,.sc (.int .i64 x2)]])) (Aa (wrap .u8 (x8-24)) fun Dl=>Au (decide (0<=Dl))<|Aa (Hc .i64 1 Dl) fun Dr=>Aa (wrap .i64 ((↑Fn:Int)-x2)) fun Dk=>A9 (decide (Dk<Dr)) (Au (decide (a0_0n*3<=a0_0.length))<|some (A0.mk [.sc (.int .i64 0),.sc (.int .u64 0),.sc (.int .i64 1)] [[.own 3 a0_0n (List.take (a0_0n*3) a0_0),.sc (.int .i64 a0_1),.lst false 1 Fn a0_2,.sc (.int .i64 x2)]])) (Aa (wrap .i64 (x2+Dr)) fun D9=>Au (decide (0<=x2))<|Au (decide (0<=D9))<|Au (decide (Int.toNat x2<=Int.toNat D9)&&decide (Int.toNat D9<=Fn))<|Aa (Int.toNat D9-Int.toNat x2) fun Ea=>Aa (List.take (Ea*1) (List.drop (Int.toNat x2*1) a0_2)) fun En=>Gx fu call a0_0n a0_0 a0_1 Fn a0_2 a0_3 (fu) Cl 0 Dr Ea En ((↑Ea:Int)) 0 (a0_0n) (a0_1) (Fn) (a0_2) x2 (a0_0)))))))))) (Ae C0 Tryz.prog fu d):=by kernel_rfl
abbrev Qm:FuncId:=91
theorem Zq (fu d a0_0n:Nat)(a0_0:List PV)(a0_1:Int)(Fn:Nat)(a0_2:List PV)(a0_3:Int):Ae C0 Tryz.prog fu (d+1) Qm [.pbox [.own 3 a0_0n a0_0,.sc (.int .i64 a0_1),.lst false 1 Fn a0_2,.sc (.int .i64 a0_3)]]=(fun (call:Ah)=>Au (decide (a0_0n*3<=a0_0.length))<|Ag (call 113 [.pbox [.own 3 a0_0n (List.take (a0_0n*3) a0_0),.sc (.int .i64 a0_1),.lst false 1 Fn a0_2,.sc (.int .i64 a0_3)]]) fun x1 x2=>Ab x1 fun x3 x4=>Ad .i64 x3 fun x5=>Ab x4 fun x6 x7=>Ad .u64 x6 fun x8=>Ab x7 fun x9 Cl=>Ad .i64 x9 fun Cw=>Ac Cl<|Ab x2 fun Dl Dr=>Ab Dl fun Dk D9=>Es 3 Dk fun Ea En=>Ab D9 fun E2 Fg=>Ad .i64 E2 fun Fp=>Ab Fg fun Hp Hb=>Fk 1 Hp fun Hq Dz Dq=>Ab Hb fun F5 H3=>Ad .i64 F5 fun E1=>Ac H3<|Ac Dr<|A9 (Cw != 0) (Au (decide (Ea*3<=En.length))<|some (A0.mk [.agg [.sc (.int .i64 0),.sc (.int .u64 0),.sc (.string (ByteArray.mk #[]))],.sc (.int .i64 Cw)] [[.own 3 Ea (List.take (Ea*3) En),.sc (.int .i64 Fp),.lst false 1 Dz Dq,.sc (.int .i64 E1)]])) (Au (decide (Ea*3<=En.length))<|Ag (call 114 [.pbox [.own 3 Ea (List.take (Ea*3) En),.sc (.int .i64 Fp)],.sc (.int .i64 x5)]) fun Jk L8=>Ab Jk fun Jt Mr=>Ad .i64 Jt fun Mb=>Ac Mr<|Ab L8 fun Np Qp=>Ab Np fun Pt R5=>Es 3 Pt fun Hh J8=>Ab R5 fun Va Y9=>Ad .i64 Va fun Qq=>Ac Y9<|Ac Qp<|A9 (Mb != 0) (Au (decide (Hh*3<=J8.length))<|some (A0.mk [.agg [.sc (.int .i64 0),.sc (.int .u64 0),.sc (.string (ByteArray.mk #[]))],.sc (.int .i64 Mb)] [[.own 3 Hh (List.take (Hh*3) J8),.sc (.int .i64 Qq),.lst false 1 Dz Dq,.sc (.int .i64 E1)]])) (A9 (x5==5) (A9 (decide (x8>512)) (Au (decide (Hh*3<=J8.length))<|some (A0.mk [.agg [.sc (.int .i64 0),.sc (.int .u64 0),.sc (.string (ByteArray.mk #[]))],.sc (.int .i64 8)] [[.own 3 Hh (List.take (Hh*3) J8),.sc (.int .i64 Qq),.lst false 1 Dz Dq,.sc (.int .i64 E1)]])) (Au (decide (Hh*3<=J8.length))<|Ag (call 115 [.pbox [.own 3 Hh (List.take (Hh*3) J8),.sc (.int .i64 Qq)],.agg [.sc (.int .i64 x5),.sc (.int .u64 x8),.sc (.string (ByteArray.mk #[]))]]) fun Nw Uh=>Ab Nw fun Sd Tp=>Ad .i64 Sd fun Xd=>Ac Tp<|Ab Uh fun Yb Sn=>Ab Yb fun Vz Yj=>Es 3 Vz fun Xv Pc=>Ab Yj fun X8 DW=>Ad .i64 X8 fun BE=>Ac DW<|Ac Sn<|A9 (Xd != 0) (Au (decide (Xv*3<=Pc.length))<|some (A0.mk [.agg [.sc (.int .i64 0),.sc (.int .u64 0),.sc (.string (ByteArray.mk #[]))],.sc (.int .i64 Xd)] [[.own 3 Xv (List.take (Xv*3) Pc),.sc (.int .i64 BE),.lst false 1 Dz Dq,.sc (.int .i64 E1)]])) (Au (decide (Xv*3<=Pc.length))<|some (A0.mk [.agg [.sc (.int .i64 x5),.sc (.int .u64 x8),.sc (.string (ByteArray.mk #[]))],.sc (.int .i64 0)] [[.own 3 Xv (List.take (Xv*3) Pc),.sc (.int .i64 BE),.lst false 1 Dz Dq,.sc (.int .i64 E1)]])))) (A9 (x5==6) (A9 (decide (x8>512)) (Au (decide (Hh*3<=J8.length))<|some (A0.mk [.agg [.sc (.int .i64 0),.sc (.int .u64 0),.sc (.string (ByteArray.mk #[]))],.sc (.int .i64 8)] [[.own 3 Hh (List.take (Hh*3) J8),.sc (.int .i64 Qq),.lst false 1 Dz Dq,.sc (.int .i64 E1)]])) (Au (decide (Hh*3<=J8.length))<|Ag (call 115 [.pbox [.own 3 Hh (List.take (Hh*3) J8),.sc (.int .i64 Qq)],.agg [.sc (.int .i64 x5),.sc (.int .u64 x8),.sc (.string (ByteArray.mk #[]))]]) fun Za U0=>Ab Za fun X4 BC=>Ad .i64 X4 fun Y2=>Ac BC<|Ab U0 fun Ze BB=>Ab Ze fun Y8 Zd=>Es 3 Y8 fun Xc Xm=>Ab Zd fun BO Zj=>Ad .i64 BO fun Yv=>Ac Zj<|Ac BB<|A9 (Y2 != 0) (Au (decide (Xc*3<=Xm.length))<|some (A0.mk [.agg [.sc (.int .i64 0),.sc (.int .u64 0),.sc (.string (ByteArray.mk #[]))],.sc (.int .i64 Y2)] [[.own 3 Xc (List.take (Xc*3) Xm),.sc (.int .i64 Yv),.lst false 1 Dz Dq,.sc (.int .i64 E1)]])) (Au (decide (Xc*3<=Xm.length))<|some (A0.mk [.agg [.sc (.int .i64 x5),.sc (.int .u64 x8),.sc (.string (ByteArray.mk #[]))],.sc (.int .i64 0)] [[.own 3 Xc (List.take (Xc*3) Xm),.sc (.int .i64 Yv),.lst false 1 Dz Dq,.sc (.int .i64 E1)]])))) (A9 (x5==3) (A9 (decide (x8>1024)) (Au (decide (Hh*3<=J8.length))<|some (A0.mk [.agg [.sc (.int .i64 0),.sc (.int .u64 0),.sc (.string (ByteArray.mk #[]))],.sc (.int .i64 8)] [[.own 3 Hh (List.take (Hh*3) J8),.sc (.int .i64 Qq),.lst false 1 Dz Dq,.sc (.int .i64 E1)]])) (Aa (wrap .i64 ((↑Dz:Int)-E1)) fun Y1=>Aa (wrap .i64 x8) fun AG=>A9 (decide (Y1<AG)) (Au (decide (Hh*3<=J8.length))<|some (A0.mk [.agg [.sc (.int .i64 0),.sc (.int .u64 0),.sc (.string (ByteArray.mk #[]))],.sc (.int .i64 1)] [[.own 3 Hh (List.take (Hh*3) J8),.sc (.int .i64 Qq),.lst false 1 Dz Dq,.sc (.int .i64 E1)]])) (Aa (wrap .i64 x8) fun EH=>Aa (wrap .i64 (E1+EH)) fun Z3=>Au (decide (0<=E1))<|Au (decide (0<=Z3))<|Au (decide (Int.toNat E1<=Int.toNat Z3)&&decide (Int.toNat Z3<=Dz))<|Aa (Int.toNat Z3-Int.toNat E1) fun Yu=>Aa (List.take (Yu*1) (List.drop (Int.toNat E1*1) Dq)) fun HC=>Au (decide (HC.length=Yu))<|E5 (bytesOf HC) fun BA=>Aa (wrap .i64 x8) fun EN=>Aa (wrap .i64 (E1+EN)) fun IP=>Au (decide (Hh*3<=J8.length))<|Ag (call 115 [.pbox [.own 3 Hh (List.take (Hh*3) J8),.sc (.int .i64 Qq)],.agg [.sc (.int .i64 x5),.sc (.int .u64 0),.sc (.string (ByteArray.mk (List.toArray BA)))]]) fun IX TZ=>Ab IX fun NQ RW=>Ad .i64 NQ fun NS=>Ac RW<|Ab TZ fun WY XT=>Ab WY fun VB SV=>Es 3 VB fun EG RS=>Ab SV fun UE YG=>Ad .i64 UE fun ZE=>Ac YG<|Ac XT<|A9 (NS != 0) (Au (decide (EG*3<=RS.length))<|some (A0.mk [.agg [.sc (.int .i64 0),.sc (.int .u64 0),.sc (.string (ByteArray.mk #[]))],.sc (.int .i64 NS)] [[.own 3 EG (List.take (EG*3) RS),.sc (.int .i64 ZE),.lst false 1 Dz Dq,.sc (.int .i64 IP)]])) (Au (decide (EG*3<=RS.length))<|some (A0.mk [.agg [.sc (.int .i64 x5),.sc (.int .u64 0),.sc (.string (ByteArray.mk (List.toArray BA)))],.sc (.int .i64 0)] [[.own 3 EG (List.take (EG*3) RS),.sc (.int .i64 ZE),.lst false 1 Dz Dq,.sc (.int .i64 IP)]]))))) (A9 (x5==4) (A9 (decide (x8>1024)) (Au (decide (Hh*3<=J8.length))<|some (A0.mk [.agg [.sc (.int .i64 0),.sc (.int .u64 0),.sc (.string (ByteArray.mk #[]))],.sc (.int .i64 8)] [[.own 3 Hh (List.take (Hh*3) J8),.sc (.int .i64 Qq),.lst false 1 Dz Dq,.sc (.int .i64 E1)]])) (Aa (wrap .i64 ((↑Dz:Int)-E1)) fun x94=>Aa (wrap .i64 x8) fun x95=>A9 (decide (x94<x95)) (Au (decide (Hh*3<=J8.length))<|some (A0.mk [.agg [.sc (.int .i64 0),.sc (.int .u64 0),.sc (.string (ByteArray.mk #[]))],.sc (.int .i64 1)] [[.own 3 Hh (List.take (Hh*3) J8),.sc (.int .i64 Qq),.lst false 1 Dz Dq,.sc (.int .i64 E1)]])) (Aa (wrap .i64 x8) fun ZZ=>Aa (wrap .i64 (E1+ZZ)) fun UZ=>Au (decide (0<=E1))<|Au (decide (0<=UZ))<|Au (decide (Int.toNat E1<=Int.toNat UZ)&&decide (Int.toNat UZ<=Dz))<|Aa (Int.toNat UZ-Int.toNat E1) fun ZK=>Aa (List.take (ZK*1) (List.drop (Int.toNat E1*1) Dq)) fun ZN=>Au (decide (ZN.length=ZK))<|E5 (bytesOf ZN) fun Ya=>Aa (wrap .i64 x8) fun We=>Aa (wrap .i64 (E1+We)) fun H4=>Au (decide (Hh*3<=J8.length))<|Ag (call 115 [.pbox [.own 3 Hh (List.take (Hh*3) J8),.sc (.int .i64 Qq)],.agg [.sc (.int .i64 x5),.sc (.int .u64 0),.sc (.string (ByteArray.mk (List.toArray Ya)))]]) fun D8 AR=>Ab D8 fun Tg Sk=>Ad .i64 Tg fun Kz=>Ac Sk<|Ab AR fun AP Z9=>Ab AP fun Zz AA=>Es 3 Zz fun Iy Kl=>Ab AA fun Zs AQ=>Ad .i64 Zs fun AF=>Ac AQ<|Ac Z9<|A9 (Kz != 0) (Au (decide (Iy*3<=Kl.length))<|some (A0.mk [.agg [.sc (.int .i64 0),.sc (.int .u64 0),.sc (.string (ByteArray.mk #[]))],.sc (.int .i64 Kz)] [[.own 3 Iy (List.take (Iy*3) Kl),.sc (.int .i64 AF),.lst false 1 Dz Dq,.sc (.int .i64 H4)]])) (Au (decide (Iy*3<=Kl.length))<|some (A0.mk [.agg [.sc (.int .i64 x5),.sc (.int .u64 0),.sc (.string (ByteArray.mk (List.toArray Ya)))],.sc (.int .i64 0)] [[.own 3 Iy (List.take (Iy*3) Kl),.sc (.int .i64 AF),.lst false 1 Dz Dq,.sc (.int .i64 H4)]]))))) (Au (decide (Hh*3<=J8.length))<|Ag (call 115 [.pbox [.own 3 Hh (List.take (Hh*3) J8),.sc (.int .i64 Qq)],.agg [.sc (.int .i64 x5),.sc (.int .u64 x8),.sc (.string (ByteArray.mk #[]))]]) fun FQ Ul=>Ab FQ fun Wy Ye=>Ad .i64 Wy fun X9=>Ac Ye<|Ab Ul fun Zk DU=>Ab Zk fun Tl Rx=>Es 3 Tl fun Qy Tz=>Ab Rx fun Vj BJ=>Ad .i64 Vj fun AK=>Ac BJ<|Ac DU<|A9 (X9 != 0) (Au (decide (Qy*3<=Tz.length))<|some (A0.mk [.agg [.sc (.int .i64 0),.sc (.int .u64 0),.sc (.string (ByteArray.mk #[]))],.sc (.int .i64 X9)] [[.own 3 Qy (List.take (Qy*3) Tz),.sc (.int .i64 AK),.lst false 1 Dz Dq,.sc (.int .i64 E1)]])) (Au (decide (Qy*3<=Tz.length))<|some (A0.mk [.agg [.sc (.int .i64 x5),.sc (.int .u64 x8),.sc (.string (ByteArray.mk #[]))],.sc (.int .i64 0)] [[.own 3 Qy (List.take (Qy*3) Tz),.sc (.int .i64 AK),.lst false 1 Dz Dq,.sc (.int .i64 E1)]]))))))))) (Ae C0 Tryz.prog fu d):=by kernel_rfl
abbrev Zg:FuncId:=51
noncomputable def Kf (fu:Nat)(call:Ah)(a0n:Nat)(a0:List PV)(nn y0:Nat)(y1:List PV)(y2:Nat)(y3:Int)(y4:Nat)(y5:List PV)(y6:Int)(y7:List PV):Option A0:=Co CB Tryz.prog fu call 51 Tryz.f51 (Bm Tryz.f51) [.lst false 1 a0n a0] [.r,.r,.l,.l] nn ⟨lk [(2,(.view 2 3 0 y0)),(5,(.ptr 5 0))],B7 [(2,(.ar false y1)),(5,(.st [(.view 32 3 0 y2),(.sc (.int .i64 y3)),(.lst false 1 y4 y5),(.sc (.int .i64 y6))])),(32,(.ar false y7))]⟩
theorem EY (fu:Nat)(call:Ah)(a0n:Nat)(a0:List PV)(nn y0:Nat)(y1:List PV)(y2:Nat)(y3:Int)(y4:Nat)(y5:List PV)(y6:Int)(y7:List PV):Kf fu call a0n a0 (nn+1) y0 y1 y2 y3 y4 y5 y6 y7=(Au (decide (y2*3<=y7.length))<|Ag (call 90 [.pbox [.own 3 y2 (List.take (y2*3) y7),.sc (.int .i64 y3)]]) fun x1 x2=>Ab x1 fun x3 x4=>Bj x3 fun x5=>Ac x4<|Ab x2 fun x6 x7=>Ab x6 fun x8 x9=>Es 3 x8 fun Cl Cw=>Ab x9 fun Dl Dr=>Ad .i64 Dl fun Dk=>Ac Dr<|Ac x7<|A9 (!x5) (Au (decide (Cl*3<=Cw.length))<|Ag (call 91 [.pbox [.own 3 Cl (List.take (Cl*3) Cw),.sc (.int .i64 Dk),.lst false 1 y4 y5,.sc (.int .i64 y6)]]) fun D9 Ea=>Ab D9 fun En E2=>C4 En fun Fg=>Ab Fg fun Fp Hp=>Ad .i64 Fp fun Hb=>Ab Hp fun Hq Dz=>Ad .u64 Hq fun Dq=>Ab Dz fun F5 H3=>Cj F5 fun E1=>Ac H3<|Ab E2 fun Jk L8=>Ad .i64 Jk fun Jt=>Ac L8<|Ab Ea fun Mr Mb=>Ab Mr fun Np Qp=>Es 3 Np fun Pt R5=>Ab Qp fun Hh J8=>Ad .i64 Hh fun Va=>Ab J8 fun Y9 Qq=>Fk 1 Y9 fun Nw Uh Sd=>Ab Qq fun Tp Xd=>Ad .i64 Tp fun Yb=>Ac Xd<|Ac Mb<|A9 (Jt != 0) (some (A0.mk [.own 3 0 [],.sc (.int .i64 0),.sc (.int .i64 Jt)] [])) (Au (decide (y0*3<=y1.length)&&true&&decide ((y0+1)*32<=1099511627776)&&decide (y0+1<=1099511627776))<|Aa (y0+1) fun Sn=>Aa (List.take (y0*3) y1++[.sc (.int .i64 Hb),.sc (.int .u64 Dq),.sc (.string E1)]) fun Vz=>Kf fu call a0n a0 (nn) Sn Vz Pt Va Uh Sd Yb R5)) (Au (decide (y0*3<=y1.length))<|some (A0.mk [.own 3 y0 (List.take (y0*3) y1),.sc (.int .i64 y6),.sc (.int .i64 0)] []))):=by kernel_rfl
theorem OM (fu d a0n:Nat)(a0:List PV):Ae C0 Tryz.prog fu (d+1) Zg [.lst false 1 a0n a0]=(fun (call:Ah)=>Kf fu call a0n a0 (fu) 0 ([]) 0 0 (a0n) (a0) 0 ([])) (Ae C0 Tryz.prog fu d):=by kernel_rfl
end
section
open Go.IntKind (wrap)
structure Hd where
 k:Int
 n:Int
 e:Int
 at_:Nat
def Pz (n:Int):Int:=if n<24 then 0 else if n<256 then 1 else if n<65536 then 2 else if n<4294967296 then 4 else 8
def szE (low:Int):Nat:=if low=24 then 1 else if low=25 then 2 else if low=26 then 4 else 8
def Ux (b:List Int)(at_:Nat)(x:Int):Hd:=
 if x=244 then ⟨7,0,0,at_+1⟩ else if x=245 then ⟨7,1,0,at_+1⟩ else if x=246 then ⟨8,0,0,at_+1⟩
 else if x / 32>5 then ⟨0,0,2,at_+1⟩ else if x % 32>27 then ⟨0,0,2,at_+1⟩
 else if x % 32<24 then ⟨1+x / 32,x % 32,0,at_+1⟩
 else if b.length-(at_+1)<szE (x % 32) then ⟨0,0,1,at_+1⟩
 else if Pz (MB ((b.drop (at_+1)).take (szE (x % 32))))<szE (x % 32) then ⟨0,0,2,at_+1+szE (x % 32)⟩
 else ⟨1+x / 32,MB ((b.drop (at_+1)).take (szE (x % 32))),0,at_+1+szE (x % 32)⟩
def Gi (b:List Int)(at_:Nat):Hd:=match b[at_]? with|none=>⟨0,0,1,at_⟩|some x=>Ux b at_ x
theorem Az4 {x:Int}(h:0<=x):D7 .u8 x 5=x / 32:=by
 unfold D7;show x.fdiv (2 ^ (min (5:Int).toNat IntKind.u8.bits))=_;have h2:(2:Int) ^ (min (5:Int).toNat IntKind.u8.bits)=32:=by decide
 rw [h2,Int.fdiv_eq_ediv_of_nonneg _ (by omega)]
theorem Atk {x:Int}(h0:0<=x)(h1:x<=255):Qv .u8 x 31=x % 32:=by
 obtain ⟨n,rfl⟩:=Int.eq_ofNat_of_zero_le h0;have hn:n<256:=by omega
 have e1:(BitVec.ofInt 8 (n:Int)).toNat=n:=by
  rw [BitVec.toNat_ofInt];omega
 have e2:(BitVec.ofInt 8 (31:Int)).toNat=2 ^ 5-1:=by decide
 unfold Qv;show wrap .u8 ((BitVec.ofInt 8 (n:Int) &&& BitVec.ofInt 8 (31:Int)).toNat:Int)=_;rw [BitVec.toNat_and,e1,e2,Nat.and_two_pow_sub_one_eq_mod,F2 (by omega) (by omega)]
 omega
abbrev Ae4 (l:List G6)(cnt:Int)(b:List Int)(at_:Nat):List PV:=[.own 3 l.length (Ez l),.sc (.int .i64 cnt),.lst false 1 b.length (Af .u8 b),.sc (.int .i64 at_)]
section
variable {fu d:Nat}
theorem Ag5 (n:Int):Ae C0 Tryz.prog fu (d+1) CY [.sc (.int .u64 n)]=some ⟨[.sc (.int .i64 (Pz n))],[]⟩:=by
 rw [SD];unfold Pz
 try unfold Aa
 repeat' first
  |((with_reducible first|apply Aq|apply Ak|apply Ar|apply Aj);· first|with_reducible rfl|(simp (disch:=first|with_reducible assumption|omega) only [Bv,A5]<;>with_reducible rfl))
  |((with_reducible first|apply At|apply As);· first|with_reducible rfl|with_reducible assumption|omega|(simp (disch:=first|with_reducible assumption|omega) only [gT,Bv,A5]<;>omega))
  |(with_reducible apply Ap;· first|with_reducible rfl|with_reducible assumption|(simp (disch:=first|with_reducible assumption|omega) only [gF,Bv,A5]<;>omega))
  |(with_reducible refine Aii ?_ ?_<;>intro hb<;>try simp only [decide_eq_true_eq,decide_eq_false_iff_not,beq_iff_eq,beq_eq_false_iff_ne,bne_iff_ne,bne_eq_false_iff_eq,ne_eq,Bool.not_eq_true',Bool.not_eq_false',Bool.not_eq_true,Bool.not_eq_false] at hb)
  |(with_reducible refine UX ?_ ?_)
 all_goals try simp (disch:=first|with_reducible assumption|omega) only [Bv,A5]
theorem MT {a0n a2n:Nat}{a0 a2:List PV}{a1 a3 k cnt:Int}{l:List G6}{b:List Int}{off sz:Nat}{q:List Int}(hq:q.length=sz)(hb:b.length<=1000000)(ho:off+sz<=b.length):∀(r:List Int)(i nn:Nat)(v:Int),q.drop i=r->r.length<nn->i<=sz ->
    Gx fu (Ae C0 Tryz.prog fu (d+1)) a0n a0 a1 a2n a2 a3 nn k v (sz:Int) sz (Af .u8 q) (sz:Int) (i:Int) l.length cnt b.length (Af .u8 b) (off:Int) (Ez l) =
      (if Pz (r.foldl Fo v)<sz then some ⟨[.sc (.int .i64 0),.sc (.int .u64 0),.sc (.int .i64 2)],[Ae4 l cnt b (off+sz)]⟩
       else some ⟨[.sc (.int .i64 k),.sc (.int .u64 (r.foldl Fo v)),.sc (.int .i64 0)],[Ae4 l cnt b (off+sz)]⟩)
  |_,_,0,_,_,h,_=>by omega
  |[],i,nn+1,v,hd,hn,hi=>by
    have:=drop_nil hd
    have sh:=Ag5 (fu:=fu) (d:=d) v
    have L:=C5 l
    have t:=Di l
    have w:wrap .i64 ((off:Int)+(sz:Int))=((off+sz:Nat):Int):=by rw [Al (by omega) (by omega)];omega
    rw [Ls,Dj _ _ _ (by omega),List.foldl_nil]
    by_cases hs:Pz v<sz
    · rw [Bv hs]
      simp (disch:=omega) only [Bx,w,sh,L,t,B8]
    · rw [A5 hs]
      simp (disch:=omega) only [Bx,w,sh,L,t,B8]
  |x::r,i,nn+1,v,hd,hn,hi=>by
    obtain ⟨h1,h2,h3⟩:=B3 hd
    simp only [Ja] at hn
    have g0:=Vf (k:=.u8) h2
    have w:wrap .i64 ((i:Int)+1)=((i+1:Nat):Int):=by rw [Al (by omega) (by omega)];omega
    have ih:=MT (a0n:=a0n) (a2n:=a2n) (a0:=a0) (a2:=a2) (a1:=a1) (a3:=a3) (k:=k) (cnt:=cnt) (l:=l) hq hb ho r (i+1) nn (Fo v x) h3 (by omega) (by omega)
    rw [List.foldl_cons,←ih,Ls]
    simp (disch:=omega) only [Bx,Gy,B8,g0,w]
theorem Aj8 {l:List G6}{cnt:Int}{b:List Int}{at_:Nat}(hfu:1000<=fu)(hb:Kx b)(hl:b.length<=1000000):
  Ae C0 Tryz.prog fu (d+2) Qh [.pbox (Ae4 l cnt b at_)]=some ⟨[.sc (.int .i64 (Gi b at_).k),.sc (.int .u64 (Gi b at_).n),.sc (.int .i64 (Gi b at_).e)],[Ae4 l cnt b (Gi b at_).at_]⟩:=by
 refine (Zn fu (d+1) l.length (Ez l) cnt b.length (Af .u8 b) (at_:Int)).trans ?_;have L:=C5 l;have t:=Di l;have Lb:=Am .u8 b;have tb:=J6 .u8 b;unfold Gi;by_cases hlt:at_<b.length
 rotate_left
 ·have hg:b[at_]?=none:=List.getElem?_eq_none (by omega)
  rw [hg];simp (disch:=omega) only [Bx,L,t,Lb,tb,B8]
 have hg:b[at_]?=some b[at_]:=List.getElem?_eq_getElem hlt;have hB:=hb _ (List.getElem_mem hlt);rw [hg];generalize b[at_]=x at hg hB;have g0:=Vf (k:=.u8) hg;have w1:wrap .i64 ((at_:Int)+1)=((at_+1:Nat):Int):=by rw [Al (by omega) (by omega)];omega
 have s5:=Az4 hB.1;have a31:=Atk hB.1 hB.2;unfold Ux;simp only;by_cases c1:x=244
 ·subst c1;have q:wrap .u64 (wrap .u8 ((244:Int)-244))=0:=by decide
  simp (disch:=omega) only [Bx,Gy,Br,B8,g0,Int.reduceBEq,w1,L,t,Lb,tb,q]
 rw [A5 c1];have b1:(x==(244:Int))=false:=by simp [c1]
 by_cases c2:x=245
 ·subst c2;have q:wrap .u64 (wrap .u8 ((245:Int)-244))=1:=by decide
  simp (disch:=omega) only [Bx,Gy,Br,B8,g0,Int.reduceBEq,w1,L,t,Lb,tb,q,if_true]
 rw [A5 c2];have b2:(x==(245:Int))=false:=by simp [c2]
 by_cases c3:x=246
 ·subst c3;simp (disch:=omega) only [Bx,Gy,Br,B8,g0,Int.reduceBEq,w1,L,t,Lb,tb,if_true]
 rw [A5 c3];have b3:(x==(246:Int))=false:=by simp [c3]
 by_cases c4:x / 32>5
 ·rw [Bv c4];simp (disch:=omega) only [Bx,Gy,Br,B8,g0,b1,b2,b3,s5,a31,w1,L,t,Lb,tb]
 rw [A5 c4];by_cases c5:x % 32>27
 ·rw [Bv c5];simp (disch:=omega) only [Bx,Gy,Br,B8,g0,b1,b2,b3,s5,a31,w1,L,t,Lb,tb]
 rw [A5 c5];have wk1:wrap .i64 (x / 32)=x / 32:=Al (by omega) (by omega)
 have wk2:wrap .i64 (1+x / 32)=1+x / 32:=Al (by omega) (by omega)
 by_cases c6:x % 32<24
 ·have wn:wrap .u64 (x % 32)=x % 32:=Cq (by omega) (by omega)
  rw [Bv c6];simp (disch:=omega) only [Bx,Gy,Br,B8,g0,b1,b2,b3,s5,a31,w1,wk1,wk2,wn,L,t,Lb,tb]
 rw [A5 c6];have q1:wrap .u8 (x % 32-24)=x % 32-24:=F2 (by omega) (by omega)
 have q2:Hc .i64 1 (x % 32-24)=(szE (x % 32):Int):=by
  have:x % 32=24∨x % 32=25∨x % 32=26∨x % 32=27:=by omega
  rcases this with h|h|h|h<;>rw [h]<;>decide
 have q3:szE (x % 32)<=8:=by
  unfold szE
  repeat' split
  all_goals omega
 generalize szE (x % 32)=sz at q2 q3 ⊢;have q4:wrap .i64 ((b.length:Int)-((at_+1:Nat):Int))=((b.length-(at_+1):Nat):Int):=by rw [Al (by omega) (by omega)];omega
 by_cases c7:b.length-(at_+1)<sz
 ·rw [Bv c7];simp (disch:=omega) only [Bx,Gy,Br,B8,g0,b1,b2,b3,s5,a31,w1,wk1,wk2,q1,q2,q4,L,t,Lb,tb]
 rw [A5 c7];have q5:wrap .i64 (((at_+1:Nat):Int)+(sz:Int))=((at_+1+sz:Nat):Int):=by rw [Al (by omega) (by omega)];omega
 have q6:at_+1+sz-(at_+1)=sz:=by omega
 have lp:=MT (fu:=fu) (d:=d) (a0n:=l.length) (a2n:=b.length) (a0:=Ez l) (a2:=Af .u8 b) (a1:=cnt) (a3:=(at_:Int)) (k:=1+x / 32) (cnt:=cnt) (l:=l) (b:=b) (off:=at_+1) (sz:=sz) (q:=(b.drop (at_+1)).take sz) (by rw [List.length_take,List.length_drop];omega) hl (by omega) _ 0 fu 0 rfl (by rw [E6,List.length_take];omega) (by omega)
 rw [E6] at lp;have lp':=lp;unfold MB;by_cases c8:Pz (((b.drop (at_+1)).take sz).foldl Fo 0)<sz
 ·rw [Bv c8] at lp' ⊢;simp (disch:=omega) only [Bx,Gy,Br,B8,g0,b1,b2,b3,s5,a31,w1,wk1,wk2,q1,q2,q4,q5,q6,Ip,Pg,L,t,Lb,tb];exact lp'
 ·rw [A5 c8] at lp' ⊢;simp (disch:=omega) only [Bx,Gy,Br,B8,g0,b1,b2,b3,s5,a31,w1,wk1,wk2,q1,q2,q4,q5,q6,Ip,Pg,L,t,Lb,tb];exact lp'
end
end
section
open Go.IntKind (wrap)
structure Rd where
 x:It
 e:Int
 l:List G6
 cnt:Int
 at_:Nat
def it0:It:=⟨0,0,⟨#[]⟩⟩
def Vb (l:List G6)(cnt:Int)(x:It)(at_:Nat):Rd:=if (D4 l x).1=0 then ⟨x,0,(D4 l x).2,cnt+1,at_⟩ else ⟨it0,(D4 l x).1,(D4 l x).2,cnt,at_⟩
def TS (l:List G6)(cnt:Int)(b:List Int)(h:Hd):Rd:=
 if h.e≠0 then ⟨it0,h.e,l,cnt,h.at_⟩
 else if Jh l cnt h.k≠0 then ⟨it0,Jh l cnt h.k,l,cnt,h.at_⟩
 else if h.k=5∨h.k=6 then (if h.n>512 then ⟨it0,8,l,cnt,h.at_⟩ else Vb l cnt ⟨h.k,h.n,⟨#[]⟩⟩ h.at_)
 else if h.k=3∨h.k=4 then (if h.n>1024 then ⟨it0,8,l,cnt,h.at_⟩ else if b.length-h.at_<h.n.toNat then ⟨it0,1,l,cnt,h.at_⟩
  else Vb l cnt ⟨h.k,0,Cd ((b.drop h.at_).take h.n.toNat)⟩ (h.at_+h.n.toNat))
 else Vb l cnt ⟨h.k,h.n,⟨#[]⟩⟩ h.at_
def Fu (l:List G6)(cnt:Int)(b:List Int)(at_:Nat):Rd:=TS l cnt b (Gi b at_)
theorem HH (a b:Int):0<=Fo a b∧Fo a b<=18446744073709551615:=Gz _
theorem Wa:∀(l:List Int)(v:Int),0<=v->v<=18446744073709551615->0<=l.foldl Fo v∧l.foldl Fo v<=18446744073709551615
 |[],v,h0,h1=>⟨h0,h1⟩
 |x::l,v,h0,h1=>Wa l _ (HH v x).1 (HH v x).2
theorem QB {b:List Int}{at_:Nat}(hb:Kx b)(ha:at_<=b.length):(Gi b at_).at_<=b.length∧((Gi b at_).e=0->1<=(Gi b at_).k∧(Gi b at_).k<=8∧0<=(Gi b at_).n∧(Gi b at_).n<=18446744073709551615∧at_<(Gi b at_).at_):=by
 unfold Gi;by_cases hlt:at_<b.length
 rotate_left
 ·have hg:b[at_]?=none:=List.getElem?_eq_none (by omega)
  rw [hg];exact ⟨ha,fun h=>by simp at h⟩
 have hg:b[at_]?=some b[at_]:=List.getElem?_eq_getElem hlt;have hB:=hb _ (List.getElem_mem hlt);rw [hg];generalize b[at_]=x at hB;have hd:=Wa ((b.drop (at_+1)).take (szE (x % 32))) 0 (by omega) (by omega)
 show (Ux b at_ x).at_<=b.length∧_;simp only [Ux];unfold MB
 repeat' split
 all_goals refine ⟨by simp only;omega,fun h=>?_⟩
 all_goals first
  |(simp at h;done)
  |(simp only;omega)
section
variable {fu d:Nat}
theorem Aiw {l:List G6}{cnt:Int}{b:List Int}{at_:Nat}(hfu:1000<=fu)(hb:Kx b)(hl:b.length<=1000000)(ha:at_<=b.length)(hf:l.length<=900)(h0:0<=cnt)(h1:cnt<=1000000):
  Ae C0 Tryz.prog fu (d+4) Qm [.pbox (Ae4 l cnt b at_)]=some ⟨[.agg (Fu l cnt b at_).x.cells,.sc (.int .i64 (Fu l cnt b at_).e)],[Ae4 (Fu l cnt b at_).l (Fu l cnt b at_).cnt b (Fu l cnt b at_).at_]⟩:=by
 refine (Zq fu (d+3) l.length (Ez l) cnt b.length (Af .u8 b) (at_:Int)).trans ?_;have hd:=Aj8 (fu:=fu) (d:=d+1) (l:=l) (cnt:=cnt) (at_:=at_) hfu hb hl;have hk:=QB hb ha;unfold Fu;generalize Gi b at_=h at hd hk ⊢;obtain ⟨k,n,e,a⟩:=h;obtain ⟨ka,hk⟩:=hk;simp only at hd ka hk;have L:=C5 l;have t:=Di l;have ad:=VP (fu:=fu) (d:=d+1) (l:=l) (by omega) cnt k
 unfold Lf at ad;unfold TS;by_cases he:e=0
 rotate_left
 ·simp only [ne_eq,he,not_false_eq_true,if_true];have he':(e != 0)=true:=by simp [he]
  try unfold Aa
  repeat first
   |((with_reducible first|apply Aq|apply Ak|apply Ar|apply Bc|apply Bg|apply Dm|apply Aj);· first|with_reducible rfl|(simp (disch:=omega) only [hd,he',L,t]<;>with_reducible rfl))
   |((with_reducible first|apply At|apply As);· first|with_reducible rfl|omega|(simp (disch:=omega) only [gT,hd,he',L,t]<;>omega))
   |(with_reducible apply Ap;· first|with_reducible rfl|(simp (disch:=omega) only [gF,hd,he',L,t]<;>omega))
  try simp (disch:=omega) only [hd,he',L,t]
  all_goals rfl
 subst he;obtain ⟨k1,k8,n0,n1,_⟩:=hk rfl;obtain ⟨m,rfl⟩:=Int.eq_ofNat_of_zero_le n0;have e00:((0:Int) != 0)=false:=rfl;simp only [ne_eq,not_true_eq_false,if_false];by_cases hm:Jh l cnt k=0
 rotate_left
 ·simp only [hm,not_false_eq_true,if_true];have he':(Jh l cnt k != 0)=true:=by simp [hm]
  try unfold Aa
  repeat first
   |((with_reducible first|apply Aq|apply Ak|apply Ar|apply Bc|apply Bg|apply Dm|apply Aj);· first|with_reducible rfl|(simp (disch:=omega) only [hd,e00,ad,he',L,t]<;>with_reducible rfl))
   |((with_reducible first|apply At|apply As);· first|with_reducible rfl|omega|(simp (disch:=omega) only [gT,hd,e00,ad,he',L,t]<;>omega))
   |(with_reducible apply Ap;· first|with_reducible rfl|(simp (disch:=omega) only [gF,hd,e00,ad,he',L,t]<;>omega))
  try simp (disch:=omega) only [hd,e00,ad,he',L,t]
  all_goals rfl
 rw [hm] at ad ⊢;simp only [not_true_eq_false,if_false,Gy];have ac1:=PF (fu:=fu) (d:=d) (l:=l) (x:=⟨k,m,⟨#[]⟩⟩) (cnt:=cnt) hfu (by omega) h0 h1 ⟨k1,k8,n0,Nat.zero_le _⟩ (Nat.zero_le _)
 have LA:=C5 (D4 l ⟨k,m,⟨#[]⟩⟩).2;have tA:=Di (D4 l ⟨k,m,⟨#[]⟩⟩).2;have B:=fun (hn:m<=1024)=>PF (fu:=fu) (d:=d) (l:=l) (x:=⟨k,0,Cd ((b.drop a).take m)⟩) (cnt:=cnt) hfu (by omega) h0 h1 ⟨k1,k8,by simp,by rw [Ge,List.length_take];omega⟩ (by rw [Ge,List.length_take];omega)
 have LB:=C5 (D4 l ⟨k,0,Cd ((b.drop a).take m)⟩).2;have tB:=Di (D4 l ⟨k,0,Cd ((b.drop a).take m)⟩).2;unfold Vb;generalize D4 l ⟨k,m,⟨#[]⟩⟩=A at *
 obtain ⟨A1,A2⟩:=A;have eB:ByteArray.mk (List.toArray (((b.drop a).take m).map fun n=>n.toNat.toUInt8))=Cd ((b.drop a).take m):=rfl
 have bo:=He ((b.drop a).take m);have tk:List.take m (List.drop a (Af .u8 b))=Af .u8 ((b.drop a).take m):=by rw [Ip,Pg]
 have lq:(Af .u8 ((b.drop a).take m)).length=min m (b.length-a):=by rw [Am,List.length_take,List.length_drop]
 have Lb:=Am .u8 b;generalize Cd ((b.drop a).take m)=S at *
 generalize D4 l ⟨k,0,S⟩=B' at *
 obtain ⟨B1,B2⟩:=B';generalize (b.drop a).take m=q at *
 unfold Lf It.cells at ac1 B;simp only at ac1 B LA tA LB tB;have w1:wrap .i64 ((b.length:Int)-(a:Int))=((b.length-a:Nat):Int):=by rw [Al (by omega) (by omega)];omega
 have w2:m<=1024->wrap .i64 (m:Int)=m:=fun h=>Al (by omega) (by omega)
 have w3:m<=1024->wrap .i64 ((a:Int)+(m:Int))=((a+m:Nat):Int):=fun h=>by rw [Al (by omega) (by omega)];omega
 have w4:a+m-a=m:=by omega
 try unfold Aa
 repeat' first
  |((with_reducible first|apply Aq|apply Ak|apply Ar|apply Bc|apply Bg|apply Dm|apply Aj);· first|with_reducible rfl|(simp (disch:=first|with_reducible assumption|omega) only [hd,e00,ad,L,t,ac1,LA,tA,B,LB,tB,w1,w2,w3,w4,tk,bo,lq,eB,Gy,B8,Br]<;>with_reducible rfl))
  |((with_reducible first|apply At|apply As);· first|with_reducible rfl|with_reducible assumption|omega|(simp (disch:=first|with_reducible assumption|omega) only [gT,hd,e00,ad,L,t,ac1,LA,tA,B,LB,tB,w1,w2,w3,w4,tk,bo,lq,eB,Gy,B8,Br]<;>omega))
  |(with_reducible apply Ap;· first|with_reducible rfl|with_reducible assumption|(simp (disch:=first|with_reducible assumption|omega) only [gF,hd,e00,ad,L,t,ac1,LA,tA,B,LB,tB,w1,w2,w3,w4,tk,bo,lq,eB,Gy,B8,Br]<;>omega))
  |(with_reducible refine Aii ?_ ?_<;>intro hb<;>try simp only [decide_eq_true_eq,decide_eq_false_iff_not,beq_iff_eq,beq_eq_false_iff_ne,bne_iff_ne,bne_eq_false_iff_eq,ne_eq,Bool.not_eq_true',Bool.not_eq_false',Bool.not_eq_true,Bool.not_eq_false] at hb)
  |(with_reducible refine UX ?_ ?_)
 all_goals try simp (disch:=first|with_reducible assumption|omega) only [hd,e00,ad,L,t,ac1,LA,tA,B,LB,tB,w1,w2,w3,w4,tk,bo,lq,eB,Gy,B8,Br,Bv,A5]
 all_goals rfl
end
end
section
open Go.IntKind (wrap)
def QW (l:List G6)(cnt:Int):Bool:=decide (cnt>0)&&((l.length:Int)==0)
def Ju:Nat->List G6->Int->List Int->Nat->List It->List It × Nat × Int
 |0,_,_,_,_,_=>([],0,2)
 |m+1,l,cnt,b,at_,its=>if QW l cnt=true then (its,at_,0) else
  if (Fu l cnt b at_).e≠0 then ([],0,(Fu l cnt b at_).e) else Ju m (Fu l cnt b at_).l (Fu l cnt b at_).cnt b (Fu l cnt b at_).at_ (its++[(Fu l cnt b at_).x])
def Ab0 (r:List It × Nat × Int):List PV:=[.own 3 r.1.length (Ci r.1),.sc (.int .i64 r.2.1),.sc (.int .i64 r.2.2)]
theorem Ai2 (l:List G6):(FD l).length<=l.length:=by
 unfold FD;rw [List.length_reverse];have:=(List.dropWhile_sublist (l:=l.reverse) fun f=>f.left==0).length_le
 rw [List.length_reverse] at this;exact this
theorem PE (l:List G6)(x:It):(Ft l x).length<=l.length+1:=by
 unfold Ft;refine Nat.le_trans (Ai2 _) ?_;have:=NC l;unfold RX
 repeat' split
 all_goals simp
 all_goals omega
theorem ZO (l:List G6)(k:List Int):(Jl l k).length=l.length:=by
 rcases Nf l with rfl|⟨l',f,rfl⟩
 ·rfl
 ·rw [Mx];simp
theorem VC (l:List G6)(x:It):(D4 l x).2.length<=l.length+1:=by
 unfold D4;have h1:=PE l x;have h2:=PE (Jl l (Bw x)) x;rw [ZO] at h2
 repeat' split
 all_goals simp only
 all_goals omega
structure OkX (x:It):Prop where
 k1:1<=x.k
 k8:x.k<=8
 n0:0<=x.n
 n1:x.n<=18446744073709551615
 s1:x.s.size<=1024
theorem Ag2 {l:List G6}{cnt k:Int}(h:Jh l cnt k=0):cnt<512∧l.length<=8:=by
 unfold Jh at h
 repeat' split at h
 all_goals first
  |(cases h;done)
  |omega
theorem MR {l:List G6}{cnt:Int}{x:It}{at_:Nat}(hx:OkX x)(h:(Vb l cnt x at_).e=0):(Vb l cnt x at_).cnt=cnt+1∧(Vb l cnt x at_).l.length<=l.length+1∧(Vb l cnt x at_).at_=at_∧OkX (Vb l cnt x at_).x:=by
 have:=VC l x;unfold Vb at h ⊢;by_cases hz:(D4 l x).1=0
 ·rw [Bv hz];exact ⟨rfl,this,rfl,hx⟩
 ·rw [A5 hz] at h;exact absurd h hz
theorem PA {l:List G6}{cnt:Int}{b:List Int}{at_:Nat}(hb:Kx b)(ha:at_<=b.length)(h:(Fu l cnt b at_).e=0):
  cnt<512∧(Fu l cnt b at_).cnt=cnt+1∧(Fu l cnt b at_).l.length<=9∧at_<(Fu l cnt b at_).at_∧(Fu l cnt b at_).at_<=b.length∧OkX (Fu l cnt b at_).x:=by
 have hk:=QB hb ha;unfold Fu at h ⊢;generalize Gi b at_=q at h hk ⊢;obtain ⟨k,n,e,a⟩:=q;obtain ⟨ka,hk⟩:=hk;unfold TS at h ⊢;simp only at h hk ka ⊢;by_cases he:e=0
 rotate_left
 ·rw [Bv he] at h;exact absurd h he
 subst he;obtain ⟨k1,k8,n0,n1,hlt⟩:=hk rfl;rw [A5 (by simp)] at h ⊢
 by_cases hm:Jh l cnt k=0
 rotate_left
 ·rw [Bv hm] at h;exact absurd h hm
 obtain ⟨c1,c2⟩:=Ag2 hm;rw [A5 (by simp [hm])] at h ⊢
 have z:(ByteArray.mk #[]).size<=1024:=Nat.zero_le _;by_cases h56:k=5∨k=6
 ·rw [Bv h56] at h ⊢;by_cases hn:n>512
  ·rw [Bv hn] at h;exact absurd h (by simp)
  ·rw [A5 hn] at h ⊢;obtain ⟨p1,p2,p3,p4⟩:=MR ⟨k1,k8,n0,n1,z⟩ h;exact ⟨c1,p1,by omega,by omega,by omega,p4⟩
 ·rw [A5 h56] at h ⊢;by_cases h34:k=3∨k=4
  ·rw [Bv h34] at h ⊢;by_cases hn:n>1024
   ·rw [Bv hn] at h;exact absurd h (by simp)
   ·rw [A5 hn] at h ⊢;by_cases hr:b.length-a<n.toNat
    ·rw [Bv hr] at h;exact absurd h (by simp)
    ·rw [A5 hr] at h ⊢;obtain ⟨p1,p2,p3,p4⟩:=MR ⟨k1,k8,by simp,by simp,by rw [Ge,List.length_take];omega⟩ h
     exact ⟨c1,p1,by omega,by omega,by omega,p4⟩
  ·rw [A5 h34] at h ⊢;obtain ⟨p1,p2,p3,p4⟩:=MR ⟨k1,k8,n0,n1,z⟩ h;exact ⟨c1,p1,by omega,by omega,by omega,p4⟩
theorem CU {b:List Int}(hb:Kx b):∀(m:Nat)(l:List G6)(cnt:Int)(at_:Nat)(its:List It),at_<=b.length->(∀x∈its,OkX x)->(Ju m l cnt b at_ its).2.1<=b.length∧∀x∈(Ju m l cnt b at_ its).1,OkX x
 |0,l,cnt,at_,its,h,hi=>⟨by simp [Ju],by intro x hx;simp [Ju] at hx⟩
 |m+1,l,cnt,at_,its,h,hi=>by
  unfold Ju;by_cases hd:QW l cnt=true
  ·rw [Bv hd];exact ⟨h,hi⟩
  ·rw [A5 hd];by_cases he:(Fu l cnt b at_).e=0
   ·rw [A5 (by simp [he])]
    obtain ⟨_,_,_,_,p,q⟩:=PA hb h he;refine CU hb m _ _ _ _ p ?_;intro x hx;rcases List.mem_append.1 hx with hx|hx
    ·exact hi x hx
    ·simp at hx;subst hx;exact q
   ·rw [Bv he];exact ⟨by simp,by intro x hx;simp at hx⟩
section
variable {fu d:Nat}
theorem XZ (hfu:1000<=fu){a0n:Nat}{a0:List PV}{b:List Int}(hb:Kx b)(hl:b.length<=1000000):∀(nn:Nat)(l:List G6)(cnt:Int)(at_:Nat)(its:List It),0<=cnt->cnt<=512->512-cnt<nn->l.length<=9->at_<=b.length->its.length=cnt.toNat ->
  Kf fu (Ae C0 Tryz.prog fu (d+4)) a0n a0 nn its.length (Ci its) l.length cnt b.length (Af .u8 b) (at_:Int) (Ez l)=some ⟨Ab0 (Ju nn l cnt b at_ its),[]⟩
 |0,_,_,_,_,_,_,h,_,_,_=>by omega
 |nn+1,l,cnt,at_,its,h0,h1,hn,hf,ha,hi=>by
  have dn:=TA (fu:=fu) (d:=d+3) l cnt;have ri:=Aiw (fu:=fu) (d:=d) (l:=l) (cnt:=cnt) (b:=b) (at_:=at_) hfu hb hl ha (by omega) h0 (by omega)
  have ok:=PA (l:=l) (cnt:=cnt) hb ha;have L:=C5 l;have t:=Di l;have LT:=Ta its;have tT:List.take (its.length*3) (Ci its)=Ci its:=To (by omega)
  have ih:=XZ hfu (a0n:=a0n) (a0:=a0) hb hl nn;rw [EY];unfold Ju;unfold Lf at dn;change _=some (A0.mk [.sc (.bool (QW l cnt))] _) at dn;generalize Fu l cnt b at_=r at ri ok ⊢;obtain ⟨x,e,l2,cnt2,at2⟩:=r;simp only at ri ok ⊢;cases hd:QW l cnt
  ·rw [hd] at dn;rw [A5 (by simp)]
   by_cases he:e=0
   ·subst he;obtain ⟨p1,rfl,p3,p4,p5,p6⟩:=ok rfl;have q:=ih l2 (cnt+1) at2 (its++[x]) (by omega) (by omega) (by omega) p3 p5 (by simp;omega)
    rw [A5 (by simp),←q,XU,Kt]
    have e1:Ci [x]=x.cells:=by simp [Ci]
    rw [e1];obtain ⟨xk,xn,xs⟩:=x;unfold It.cells at ri ⊢;have e00:((0:Int) != 0)=false:=rfl
    try unfold Aa
    repeat first
     |((with_reducible first|apply Aq|apply Ak|apply Ar|apply Ao|apply Aw|apply Bc|apply Bg|apply Bu|apply Aj);· first|with_reducible rfl|(simp (disch:=omega) only [dn,ri,e00,L,t,LT,tT]<;>with_reducible rfl))
     |((with_reducible first|apply At|apply As);· first|with_reducible rfl|omega|(simp (disch:=omega) only [gT,dn,ri,e00,L,t,LT,tT]<;>omega))
     |(with_reducible apply Ap;· first|with_reducible rfl|(simp (disch:=omega) only [gF,dn,ri,e00,L,t,LT,tT]<;>omega))
    try simp (disch:=omega) only [dn,ri,e00,L,t,LT,tT]
    all_goals rfl
   ·have he':(e != 0)=true:=by simp [he]
    rw [Bv he];obtain ⟨xk,xn,xs⟩:=x;unfold It.cells at ri
    try unfold Aa
    repeat first
     |((with_reducible first|apply Aq|apply Ak|apply Ar|apply Ao|apply Aw|apply Bc|apply Bg|apply Bu|apply Aj);· first|with_reducible rfl|(simp (disch:=omega) only [dn,ri,he',L,t,LT,tT]<;>with_reducible rfl))
     |((with_reducible first|apply At|apply As);· first|with_reducible rfl|omega|(simp (disch:=omega) only [gT,dn,ri,he',L,t,LT,tT]<;>omega))
     |(with_reducible apply Ap;· first|with_reducible rfl|(simp (disch:=omega) only [gF,dn,ri,he',L,t,LT,tT]<;>omega))
    try simp (disch:=omega) only [dn,ri,he',L,t,LT,tT]
    all_goals rfl
  ·rw [hd] at dn;rw [Bv rfl]
   try unfold Aa
   repeat first
    |((with_reducible first|apply Aq|apply Ak|apply Ar|apply Ao|apply Aw|apply Bc|apply Bg|apply Bu|apply Aj);· first|with_reducible rfl|(simp (disch:=omega) only [dn,L,t,LT,tT]<;>with_reducible rfl))
    |((with_reducible first|apply At|apply As);· first|with_reducible rfl|omega|(simp (disch:=omega) only [gT,dn,L,t,LT,tT]<;>omega))
    |(with_reducible apply Ap;· first|with_reducible rfl|(simp (disch:=omega) only [gF,dn,L,t,LT,tT]<;>omega))
   try simp (disch:=omega) only [dn,L,t,LT,tT]
   all_goals rfl
theorem Afv (hfu:1000<=fu){b:List Int}(hb:Kx b)(hl:b.length<=1000000):
  Ae C0 Tryz.prog fu (d+5) Zg [.lst false 1 b.length (Af .u8 b)]=some ⟨Ab0 (Ju fu [] 0 b 0 []),[]⟩:=by
 rw [OM];exact XZ hfu hb hl fu [] 0 0 [] (by omega) (by omega) (by omega) (by simp) (by omega) (by simp)
end
end
section
open Go.IntKind (wrap)
theorem Amc {n:Int}(h0:0<=n):(n<256->MB (tb n 1)=n)∧(n<65536->MB (tb n 2)=n)∧(n<4294967296->MB (tb n 4)=n)∧(n<=18446744073709551615->MB (tb n 8)=n):=by
 have st:∀(k:Nat) (D:Int),n<=18446744073709551615->k<8->(2:Int) ^ (56-8*k)=D->0<D->Fo (n / D / 256) (Da n k)=n / D:=by
  intro k D h1 hk hD hp;rw [QF k hk,hD];exact Ams (Int.ediv_nonneg h0 (Int.le_of_lt hp)) (Int.le_trans (Int.ediv_le_self _ h0) h1)
 refine ⟨fun h=>?_,fun h=>?_,fun h=>?_,fun h=>PT h0 h⟩
 ·have s7:=st 7 1 (by omega) (by omega) (by decide) (by omega)
  rw [show n / 1 / 256=0 by omega,show n / 1=n by omega] at s7
  exact s7
 ·have s6:=st 6 256 (by omega) (by omega) (by decide) (by omega)
  have s7:=st 7 1 (by omega) (by omega) (by decide) (by omega)
  rw [show n / 256 / 256=0 by omega] at s6
  rw [show n / 1 / 256=n / 256 by omega,show n / 1=n by omega] at s7
  show Fo (Fo 0 (Da n 6)) (Da n 7)=n;rw [s6,s7]
 ·have s4:=st 4 16777216 (by omega) (by omega) (by decide) (by omega)
  have s5:=st 5 65536 (by omega) (by omega) (by decide) (by omega)
  have s6:=st 6 256 (by omega) (by omega) (by decide) (by omega)
  have s7:=st 7 1 (by omega) (by omega) (by decide) (by omega)
  rw [show n / 16777216 / 256=0 by omega] at s4
  rw [show n / 65536 / 256=n / 16777216 by omega] at s5
  rw [show n / 256 / 256=n / 65536 by omega] at s6
  rw [show n / 1 / 256=n / 256 by omega,show n / 1=n by omega] at s7
  show Fo (Fo (Fo (Fo 0 (Da n 4)) (Da n 5)) (Da n 6)) (Da n 7)=n;rw [s4,s5,s6,s7]
theorem Xn {b:List Int}{at_:Nat}{mj n low:Int}{k:Nat}{rest:List Int}(m0:0<=mj)(m5:mj<=5)(l0:24<=low)(l1:low<=27)(hk:szE low=k)(h:b.drop (at_+1)=tb n k++rest) (hd:MB (tb n k)=n) (hs:¬(Pz n<(k:Int))):
  Ux b at_ (32*mj+low)=⟨1+mj,n,0,at_+1+k⟩:=by
 have e1:(32*mj+low) / 32=mj:=by omega
 have e2:(32*mj+low) % 32=low:=by omega
 have e3:(b.drop (at_+1)).take k=tb n k:=by rw [h,List.take_left' (Zh n k)]
 have e4:k<=b.length-(at_+1):=by
  have:=congrArg List.length h;rw [List.length_drop,Kt,Zh] at this;omega
 unfold Ux;rw [e1,e2,hk,e3,hd,A5 (by omega),A5 (by omega),A5 (by omega),A5 (by omega),A5 (by omega),A5 (by omega),A5 (by omega),A5 hs]
theorem AU {b:List Int}{at_:Nat}{mj n:Int}{rest:List Int}(h:b.drop at_=C3 mj n++rest)(m0:0<=mj)(m5:mj<=5)(n0:0<=n)(n1:n<=18446744073709551615):
  Gi b at_=⟨1+mj,n,0,at_+(C3 mj n).length⟩:=by
 obtain ⟨d1,d2,d4,d8⟩:=Amc n0;unfold Gi;unfold C3 at h ⊢;by_cases c1:n<24
 ·rw [Bv c1] at h ⊢;obtain ⟨_,g,_⟩:=B3 h;rw [g];show Ux b at_ (32*mj+n)=_;unfold Ux;have e1:(32*mj+n) / 32=mj:=by omega
  have e2:(32*mj+n) % 32=n:=by omega
  rw [e1,e2,A5 (by omega),A5 (by omega),A5 (by omega),A5 (by omega),A5 (by omega),Bv c1]
  rfl
 rw [A5 c1] at h ⊢;by_cases c2:n<256
 ·rw [Bv c2] at h ⊢;obtain ⟨_,g,g2⟩:=B3 h;rw [g];have:=Xn (at_:=at_) m0 m5 (low:=24) (by omega) (by omega) (k:=1) (by decide) g2 (d1 c2) (by unfold Pz;rw [A5 c1,Bv c2];omega)
  show Ux b at_ (32*mj+24)=_;rw [this,Ja,Zh]
 rw [A5 c2] at h ⊢;by_cases c3:n<65536
 ·rw [Bv c3] at h ⊢;obtain ⟨_,g,g2⟩:=B3 h;rw [g];have:=Xn (at_:=at_) m0 m5 (low:=25) (by omega) (by omega) (k:=2) (by decide) g2 (d2 c3) (by unfold Pz;rw [A5 c1,A5 c2,Bv c3];omega)
  show Ux b at_ (32*mj+25)=_;rw [this,Ja,Zh]
 rw [A5 c3] at h ⊢;by_cases c4:n<4294967296
 ·rw [Bv c4] at h ⊢;obtain ⟨_,g,g2⟩:=B3 h;rw [g];have:=Xn (at_:=at_) m0 m5 (low:=26) (by omega) (by omega) (k:=4) (by decide) g2 (d4 c4) (by unfold Pz;rw [A5 c1,A5 c2,A5 c3,Bv c4];omega)
  show Ux b at_ (32*mj+26)=_;rw [this,Ja,Zh]
 ·rw [A5 c4] at h ⊢;obtain ⟨_,g,g2⟩:=B3 h;rw [g];have:=Xn (at_:=at_) m0 m5 (low:=27) (by omega) (by omega) (k:=8) (by decide) g2 (d8 n1) (by unfold Pz;rw [A5 c1,A5 c2,A5 c3,A5 c4];omega)
  show Ux b at_ (32*mj+27)=_;rw [this,Ja,Zh]
theorem TB {s:ByteArray}(h:TE s=true):s=⟨#[]⟩:=by
 unfold TE at h;have:=eq_of_beq h;apply ByteArray.ext;exact Array.toList_inj.1 this
def nOf (x:It):Int:=if x.k=3∨x.k=4 then (x.s.size:Int) else x.n
theorem Aat {x:It}{b:List Int}{at_:Nat}{rest:List Int}(hsh:Gr x=true)(k1:1<=x.k)(k8:x.k<=8)(n0:0<=x.n)(n1:x.n<=18446744073709551615)(hs:x.s.size<=1024)(h:b.drop at_=Bw x++rest):
  Gi b at_=⟨x.k,nOf x,0,at_+((Bw x).length-x.s.size)⟩∧(x.k=3∨x.k=4->x.n=0∧b.drop (at_+((Bw x).length-x.s.size))=I7 x.s++rest)∧(¬(x.k=3∨x.k=4)->x.s=⟨#[]⟩)∧x.s.size<=(Bw x).length:=by
 obtain ⟨k,n,s⟩:=x;have z:(ByteArray.mk #[]).size=0:=rfl;simp only at k1 k8 n0 n1 hs ⊢;unfold Gr at hsh;simp only at hsh;have L:=Qn s;have E7:k=7->Bw ⟨k,n,s⟩=[wrap .u8 (244+wrap .u8 n)]:=fun e=>by unfold Bw;rw [Bv e]
 have E8:k=8->Bw ⟨k,n,s⟩=[246]:=fun e=>by subst e;rfl
 have E3:k=3->Bw ⟨k,n,s⟩=C3 2 s.size++I7 s:=fun e=>by subst e;rfl
 have E4:k=4->Bw ⟨k,n,s⟩=C3 3 s.size++I7 s:=fun e=>by subst e;rfl
 have E0:k≠7->k≠8->k≠3->k≠4->Bw ⟨k,n,s⟩=C3 (k-1) n:=fun a b c d=>by unfold Bw;rw [A5 a,A5 b,A5 c,A5 d]
 have N34:k=3∨k=4->nOf ⟨k,n,s⟩=s.size:=fun e=>by unfold nOf;rw [Bv e]
 have N0:¬(k=3∨k=4)->nOf ⟨k,n,s⟩=n:=fun e=>by unfold nOf;rw [A5 e]
 by_cases c7:k=7
 ·subst c7;simp at hsh;obtain ⟨hn,hs⟩:=hsh;obtain rfl:=TB hs;rw [E7 rfl] at h ⊢;rw [N0 (by omega)]
  obtain ⟨_,g,_⟩:=B3 h;refine ⟨?_,fun h=>by omega,fun _=>rfl,Nat.zero_le _⟩
  have:n=0∨n=1:=by omega
  unfold Gi;rw [g];rcases this with rfl|rfl
  ·rfl
  ·rfl
 by_cases c8:k=8
 ·subst c8;simp at hsh;obtain ⟨rfl,hs⟩:=hsh;obtain rfl:=TB hs;rw [E8 rfl] at h ⊢;rw [N0 (by omega)]
  obtain ⟨_,g,_⟩:=B3 h;refine ⟨?_,fun h=>by omega,fun _=>rfl,Nat.zero_le _⟩
  unfold Gi;rw [g];rfl
 by_cases c3:k=3
 ·subst c3;simp at hsh;subst hsh;rw [E3 rfl] at h ⊢;rw [N34 (by omega)]
  rw [ZJ] at h;have q:=AU h (by omega) (by omega) (by omega) (by omega)
  have e:(C3 2 (s.size:Int)++I7 s).length-s.size=(C3 2 (s.size:Int)).length:=by rw [Kt,L];omega
  rw [e];refine ⟨q,fun _=>⟨rfl,?_⟩,fun h=>by omega,by rw [Kt,L];omega⟩
  rw [←List.drop_drop,h,List.drop_left' rfl]
 by_cases c4:k=4
 ·subst c4;simp at hsh;subst hsh;rw [E4 rfl] at h ⊢;rw [N34 (by omega)]
  rw [ZJ] at h;have q:=AU h (by omega) (by omega) (by omega) (by omega)
  have e:(C3 3 (s.size:Int)++I7 s).length-s.size=(C3 3 (s.size:Int)).length:=by rw [Kt,L];omega
  rw [e];refine ⟨q,fun _=>⟨rfl,?_⟩,fun h=>by omega,by rw [Kt,L];omega⟩
  rw [←List.drop_drop,h,List.drop_left' rfl]
 rw [A5 c3,A5 c4,A5 c8,A5 c7] at hsh;obtain rfl:=TB hsh;rw [E0 c7 c8 c3 c4] at h ⊢;rw [N0 (by omega)]
 have q:=AU h (by omega) (by omega) n0 n1
 refine ⟨?_,fun h=>by omega,fun _=>rfl,by rw [z];omega⟩
 rw [q,z,Nat.sub_zero]
 congr 1
 omega
theorem Aa3 {l:List G6}{cnt:Int}{x:It}{b:List Int}{at_:Nat}{rest:List Int}(g:Am9 l cnt x)(n0:0<=x.n)(n1:x.n<=18446744073709551615)(h:b.drop at_=Bw x++rest):
  Fu l cnt b at_=⟨x,0,Ft l x,cnt+1,at_+(Bw x).length⟩:=by
 have k18:1<=x.k∧x.k<=8:=by
  have hm:=g.hm;unfold Jh at hm
  repeat' split at hm
  all_goals first
   |(cases hm;done)
   |omega
 obtain ⟨q1,q2,q3,q4⟩:=Aat g.hsh k18.1 k18.2 n0 n1 g.hs h
 have ac:∀a:Nat,Vb l cnt x a=⟨x,0,Ft l x,cnt+1,a⟩:=by
  intro a
  have:D4 l x=(0,Ft l x):=by
   unfold D4;rw [A5,A5 (by simp [g.ha])]
   intro hh;have:=g.hv hh.1;exact absurd hh.2 (by simp [VW,this])
  unfold Vb;rw [this];rfl
 have ln:b.length-(at_+((Bw x).length-x.s.size))>=x.s.size:=by
  have:=congrArg List.length h;rw [List.length_drop,Kt] at this;omega
 unfold Fu;rw [q1];unfold TS;simp only;rw [A5 (by simp),g.hm,A5 (by simp)]
 have hs:=g.hs;have hn:=g.hn;obtain ⟨k,n,s⟩:=x;simp only at *
 by_cases c34:k=3∨k=4
 ·obtain ⟨rfl,q2⟩:=q2 c34;have N:nOf ⟨k,0,s⟩=s.size:=by unfold nOf;rw [Bv c34]
  rw [N,A5 (by omega),Bv c34,A5 (by omega),Gy,A5 (by omega),q2,List.take_left' (Qn s),CI,ac]
  congr 1
  omega
 ·obtain rfl:=q3 c34;have z:(ByteArray.mk #[]).size=0:=rfl;have N:nOf ⟨k,n,⟨#[]⟩⟩=n:=by unfold nOf;rw [A5 c34]
  rw [N,A5 c34,z,Nat.sub_zero];by_cases c56:k=5∨k=6
  ·rw [Bv c56,A5 (by omega),ac]
  ·rw [A5 c56,ac]
theorem PH {b:List Int}{rest:List Int}:∀(its:List It)(l:List G6)(cnt:Int)(at_ m:Nat)(acc:List It),Pm l cnt its->(∀x∈its,0<=x.n∧x.n<=18446744073709551615)->b.drop at_=Bf its++rest->its.length<m ->
  Ju m l cnt b at_ acc=(acc++its,at_+(Bf its).length,0)
 |[],l,cnt,at_,m,acc,hg,hn,h,hm=>by
  obtain ⟨rfl,hc⟩:=hg;obtain ⟨m,rfl⟩:∃k,m=k+1:=⟨m-1,by omega⟩
  unfold Ju;rw [Bv (by simp [QW,hc])]
  simp [Bf]
 |x::its,l,cnt,at_,m,acc,hg,hn,h,hm=>by
  obtain ⟨g,hg⟩:=hg;obtain ⟨m,rfl⟩:∃k,m=k+1:=⟨m-1,by simp at hm;omega⟩
  have e:Bf (x::its)=Bw x++Bf its:=by simp [Bf]
  rw [e,ZJ] at h;have r:=Aa3 g (hn x (by simp)).1 (hn x (by simp)).2 h
  have h':b.drop (at_+(Bw x).length)=Bf its++rest:=by rw [←List.drop_drop,h,List.drop_left' rfl]
  have ih:=PH its (Ft l x) (cnt+1) (at_+(Bw x).length) m (acc++[x]) hg (fun y hy=>hn y (List.mem_cons_of_mem _ hy)) h' (by simp at hm;omega)
  unfold Ju;have hd:QW l cnt=false:=g.hd;rw [A5 (by simp [hd]),r]
  simp only;rw [A5 (by simp),ih,e]
  simp;omega
end
section
open Go.IntKind (wrap)
abbrev isU (x:Int):Prop:=0<=x∧x<=18446744073709551615
abbrev isW (l:List Int):Prop:=∀x∈l,isU x
theorem YC (l:List Int)(i:Nat):isU (Rt l i):=Wa _ 0 (by omega) (by omega)
theorem XW (l:List Int):isW (Fy l):=by
 intro x hx;obtain ⟨k,_,rfl⟩:=List.mem_map.1 hx;exact YC l k
theorem Tq:∀{ws:List Int}{i:Nat}{w:Int},isW ws->ws[i]?=some w->Rt (A6 ws) i=w
 |[],i,w,_,h=>by simp at h
 |a::ws,0,w,hw,h=>by
  simp at h;subst h;have e:A6 (a::ws)=D3 a++A6 ws:=rfl;unfold Rt;rw [Nat.mul_zero,E6,e,List.take_left' (Fa a)];have:=hw a (by simp)
  exact PT this.1 this.2
 |a::ws,i+1,w,hw,h=>by
  simp at h;have ih:=Tq (ws:=ws) (fun x hx=>hw x (List.mem_cons_of_mem _ hx)) h
  have e:A6 (a::ws)=D3 a++A6 ws:=rfl;unfold Rt at ih ⊢;rw [show 8*(i+1)=(D3 a).length+8*i by rw [Fa];omega,e,←List.drop_drop,List.drop_left' rfl]
  exact ih
theorem DZ {ws:List Int}(hw:isW ws):Fy (A6 ws)=ws:=by
 have hl:(A6 ws).length / 8=ws.length:=by rw [Dn];omega
 apply List.ext_getElem?;intro i;unfold Fy;rw [hl];by_cases h:i<ws.length
 ·rw [List.getElem?_map,List.getElem?_range h,List.getElem?_eq_getElem h];simp only [Option.map_some];rw [Tq hw (List.getElem?_eq_getElem h)]
 ·rw [List.getElem?_eq_none (by simp;omega),List.getElem?_eq_none (by omega)]
theorem Af3 {k:Ky}(hh:Dh k.h=false)(hr:isU k.root):JY (Jo k)=some k:=by
 obtain ⟨h,r⟩:=k;have hb:=Hx hh;simp only at hb hr hh;have w:wrap .u8 h=h:=F2 (by omega) (by omega)
 have w1:A6 [r]=D3 r:=by simp [A6]
 have:=Tq (ws:=[r]) (i:=0) (w:=r) (by intro x hx;simp at hx;subst hx;exact hr) rfl
 rw [w1] at this;unfold JY Jo;simp only [w,List.getD_cons_zero,List.drop_succ_cons,E6,this,Ja,Fa,hh,and_self,if_true]
theorem Aqj {k:Ky}:Kx (Jo k):=by
 intro x hx;rcases List.mem_cons.1 hx with rfl|hx
 ·have:∀v:Int,0<=wrap .u8 v∧wrap .u8 v<=255:=by
   intro v;simp only [wrap,IntKind.signed,IntKind.bits];simp;omega
  exact this _
 ·exact Acl _ x hx
theorem SY {l:List Int}{k:Ky}(h:JY l=some k):Dh k.h=false∧isU k.root:=by
 unfold JY at h;split at h
 ·rename_i hh;cases h;exact ⟨hh.2,YC _ _⟩
 ·cases h
structure Sg.ok (s:Sg):Prop where
 ch:isW s.chains
 pa:isW s.path
theorem Atm (s:Sg):Kx (EJ s):=by
 have w8:∀v:Int,0<=wrap .u8 v∧wrap .u8 v<=255:=by
  intro v;simp only [wrap,IntKind.signed,IntKind.bits];simp;omega
 intro x hx;unfold EJ at hx;rcases List.mem_cons.1 hx with rfl|hx
 ·exact w8 _
 rcases List.mem_cons.1 hx with rfl|hx
 ·exact w8 _
 rcases List.mem_append.1 hx with hx|hx
 ·exact Ss _ x hx
 ·exact Ss _ x hx
theorem Amh {s:Sg}(hs:s.ok)(h1:Dh s.path.length=false)(h2:Io s.leaf s.path.length=false)(h3:s.chains.length=18):sgD (EJ s)=some s:=by
 obtain ⟨leaf,ch,pa⟩:=s;obtain ⟨hc,hp⟩:=hs;simp only at h1 h2 h3 hc hp;have hb:=Hx h1;have ho:=Abd hb.1 hb.2 h2;have h16:=Asn hb.1 hb.2;have w1:wrap .u8 leaf=leaf:=F2 (by omega) (by omega)
 have w2:wrap .u8 (pa.length:Int)=pa.length:=F2 (by omega) (by omega)
 have lc:(A6 ch).length=144:=by rw [Dn];omega
 have lp:(A6 pa).length=8*pa.length:=Dn pa
 have len:(EJ ⟨leaf,ch,pa⟩).length=2+144+8*pa.length:=by
  unfold EJ;simp only [Ja,Kt,lc,lp];omega
 have g0:(EJ ⟨leaf,ch,pa⟩).getD 0 0=leaf:=w1;have g1:(EJ ⟨leaf,ch,pa⟩).getD 1 0=pa.length:=w2;have d2:(EJ ⟨leaf,ch,pa⟩).drop 2=A6 ch++A6 pa:=rfl
 have d146:(EJ ⟨leaf,ch,pa⟩).drop 146=A6 pa:=by
  rw [show 146=2+144 from rfl,←List.drop_drop,d2,List.drop_left' lc]
 unfold sgD;rw [Bv ⟨by omega,by rw [g1];exact h1,by rw [g0,g1];exact h2,by rw [g1,len];omega⟩,g0,d2,d146,List.take_left' lc,DZ hc,DZ hp]
theorem Abf {l:List Int}{s:Sg}(h:sgD l=some s):s.ok∧s.path.length<=4∧s.chains.length=18:=by
 unfold sgD at h;split at h
 ·rename_i hh;cases h;have hb:=Hx hh.2.1;refine ⟨⟨XW _,XW _⟩,?_,?_⟩
  ·simp only [Pn,List.length_drop];omega
  ·simp only [Pn,List.length_take,List.length_drop];omega
 ·cases h
end
section
open Go.IntKind (wrap)
set_option maxRecDepth 100000
abbrev Qr:FuncId:=35
noncomputable def Fi (fu:Nat)(call:Ah)(a0_0 a0_1:ByteArray)(a0_2 a0_3:Int)(a0_4 a0_5 a0_6:Int)(a0_7:Bool)(a0_8 a0_9 a0_10:Int)(a0_11n:Nat)(a0_11:List PV)(a0_12n:Nat)(a0_12:List PV)(nn:Nat)(y0 y1:ByteArray)(y2:Int)(y3 y4:ByteArray)(y5 y6:Int)(y7 y8 y9:Int)(y10:Bool)(Gh H2 Jb:Int)(Ks:Nat)(Lj:List PV)(Oy:Nat)(Ob:List PV):Option A0:=Co CB Tryz.prog fu call 35 Tryz.f35 (Bm Tryz.f35) [.agg [.sc (.string a0_0),.sc (.string a0_1),.sc (.int .u64 a0_2),.sc (.int .i64 a0_3),.sc (.int .u64 a0_4),.sc (.int .i64 a0_5),.sc (.int .i64 a0_6),.sc (.bool a0_7),.sc (.int .i64 a0_8),.sc (.int .u64 a0_9),.sc (.int .i64 a0_10),.lst false 1 a0_11n a0_11,.lst false 1 a0_12n a0_12]] [.r,.l,.r,.l] nn ⟨lk [(1,(.ptr 1 0)),(13,(.agg [(.sc (.string y0)),(.sc (.string y1))])),(14,(.sc (.int .i64 y2)))],B7 [(1,(.st [(.sc (.string y3)),(.sc (.string y4)),(.sc (.int .u64 y5)),(.sc (.int .i64 y6)),(.sc (.int .u64 y7)),(.sc (.int .i64 y8)),(.sc (.int .i64 y9)),(.sc (.bool y10)),(.sc (.int .i64 Gh)),(.sc (.int .u64 H2)),(.sc (.int .i64 Jb)),(.lst false 1 Ks Lj),(.lst false 1 Oy Ob)]))]⟩
theorem Ek (fu:Nat)(call:Ah)(a0_0 a0_1:ByteArray)(a0_2 a0_3:Int)(a0_4 a0_5 a0_6:Int)(a0_7:Bool)(a0_8 a0_9 a0_10:Int)(a0_11n:Nat)(a0_11:List PV)(a0_12n:Nat)(a0_12:List PV)(nn:Nat)(y0 y1:ByteArray)(y2:Int)(y3 y4:ByteArray)(y5 y6:Int)(y7 y8 y9:Int)(y10:Bool)(Gh H2 Jb:Int)(Ks:Nat)(Lj:List PV)(Oy:Nat)(Ob:List PV):Fi fu call a0_0 a0_1 a0_2 a0_3 a0_4 a0_5 a0_6 a0_7 a0_8 a0_9 a0_10 a0_11n a0_11 a0_12n a0_12 (nn+1) y0 y1 y2 y3 y4 y5 y6 y7 y8 y9 y10 Gh H2 Jb Ks Lj Oy Ob=(A9 (decide (y2<2)) (Au (decide (0<=y2)&&decide (y2<2)&&true)<|Cj (List.getD [.sc (.string y0),.sc (.string y1)] (Int.toNat y2*1) .top) fun x1=>A9 (decide ((↑(ByteArray.size x1):Int)<1)) (some (A0.mk [.own 1 0 [],.sc (.int .i64 9)] [])) (A9 (decide ((↑(ByteArray.size x1):Int)>32)) (some (A0.mk [.own 1 0 [],.sc (.int .i64 9)] [])) (Aa (wrap .i64 (y2+1)) fun x2=>Fi fu call a0_0 a0_1 a0_2 a0_3 a0_4 a0_5 a0_6 a0_7 a0_8 a0_9 a0_10 a0_11n a0_11 a0_12n a0_12 (nn) (y0) (y1) x2 (y3) (y4) (y5) (y6) (y7) (y8) (y9) (y10) (Gh) (H2) (Jb) (Ks) (Lj) (Oy) (Ob)))) (Ag (call 56 [.sc (.string y3)]) fun x3 x4=>Ac x4<|Ab x3 fun x5 x6=>Bj x5 fun x7=>Ac x6<|A9 (!x7) (some (A0.mk [.own 1 0 [],.sc (.int .i64 6)] [])) (Ag (call 56 [.sc (.string y4)]) fun x8 x9=>Ac x9<|Ab x8 fun Cl Cw=>Bj Cl fun Dl=>Ac Cw<|A9 (!Dl) (some (A0.mk [.own 1 0 [],.sc (.int .i64 6)] [])) (Ag (call 66 [.agg [.sc (.int .i64 y6),.sc (.int .u64 y7)]]) fun Dr Dk=>Ac Dk<|Ab Dr fun D9 Ea=>Es 1 D9 fun En E2=>Ab Ea fun Fg Fp=>Ad .i64 Fg fun Hp=>Ac Fp<|A9 (Hp != 0) (some (A0.mk [.own 1 0 [],.sc (.int .i64 Hp)] [])) (A9 (decide (y8<0)) (some (A0.mk [.own 1 0 [],.sc (.int .i64 9)] [])) (A9 (decide (y8>y9)) (some (A0.mk [.own 1 0 [],.sc (.int .i64 9)] [])) (A9 (decide (y9>1099511627776)) (some (A0.mk [.own 1 0 [],.sc (.int .i64 9)] [])) (A9 (decide (Gh<0)) (some (A0.mk [.own 1 0 [],.sc (.int .i64 9)] [])) (A9 (decide (Gh>2)) (some (A0.mk [.own 1 0 [],.sc (.int .i64 9)] [])) (A9 (Gh != 0) (A9 (!y10) (some (A0.mk [.own 1 0 [],.sc (.int .i64 4)] [])) (Ag (call 68 [.sc (.string y3)]) fun Hb Hq=>Ac Hq<|Ab Hb fun Dz Dq=>Es 3 Dz fun F5 H3=>Ac Dq<|Ag (call 68 [.sc (.string y4)]) fun E1 Jk=>Ac Jk<|Ab E1 fun L8 Jt=>Es 3 L8 fun Mr Mb=>Ac Jt<|Ag (call 69 [.sc (.int .u64 y5)]) fun Np Qp=>Ac Qp<|Ab Np fun Pt R5=>Es 3 Pt fun Hh J8=>Ac R5<|Au (decide (0+En*1<=E2.length))<|Ag (call 70 [.lst false 1 En (List.take (En*1) (List.drop 0 E2))]) fun Va Y9=>Ac Y9<|Ab Va fun Qq Nw=>Es 3 Qq fun Uh Sd=>Ac Nw<|Aa (wrap .u64 y8) fun Tp=>Ag (call 69 [.sc (.int .u64 Tp)]) fun Xd Yb=>Ac Yb<|Ab Xd fun Sn Vz=>Es 3 Sn fun Yj Xv=>Ac Vz<|Aa (wrap .u64 y9) fun Pc=>Ag (call 69 [.sc (.int .u64 Pc)]) fun X8 DW=>Ac DW<|Ab X8 fun BE Za=>Es 3 BE fun U0 X4=>Ac Za<|Ag (call 71 [.sc (.bool y10)]) fun BC Y2=>Ac Y2<|Ab BC fun Ze BB=>Es 3 Ze fun Y8 Zd=>Ac BB<|Aa (wrap .u64 Gh) fun Xc=>Ag (call 69 [.sc (.int .u64 Xc)]) fun Xm BO=>Ac BO<|Ab Xm fun Zj Yv=>Es 3 Zj fun Y1 AG=>Ac Yv<|Ag (call 69 [.sc (.int .u64 H2)]) fun EH Z3=>Ac Z3<|Ab EH fun Yu HC=>Es 3 Yu fun BA EN=>Ac HC<|Au (decide (0+F5*3<=H3.length))<|Au (decide (0+Mr*3<=Mb.length))<|Au (decide (0+Hh*3<=J8.length))<|Au (decide (0+Uh*3<=Sd.length))<|Au (decide (0+Yj*3<=Xv.length))<|Au (decide (0+U0*3<=X4.length))<|Au (decide (0+Y8*3<=Zd.length))<|Au (decide (0+Y1*3<=AG.length))<|Au (decide (0+BA*3<=EN.length))<|Ag (call 67 [.lst false 1 9 [.lst false 3 F5 (List.take (F5*3) (List.drop 0 H3)),.lst false 3 Mr (List.take (Mr*3) (List.drop 0 Mb)),.lst false 3 Hh (List.take (Hh*3) (List.drop 0 J8)),.lst false 3 Uh (List.take (Uh*3) (List.drop 0 Sd)),.lst false 3 Yj (List.take (Yj*3) (List.drop 0 Xv)),.lst false 3 U0 (List.take (U0*3) (List.drop 0 X4)),.lst false 3 Y8 (List.take (Y8*3) (List.drop 0 Zd)),.lst false 3 Y1 (List.take (Y1*3) (List.drop 0 AG)),.lst false 3 BA (List.take (BA*3) (List.drop 0 EN))]]) fun IP IX=>Ac IX<|Ab IP fun TZ NQ=>Es 3 TZ fun RW NS=>Ab NQ fun WY XT=>Ad .i64 WY fun VB=>Ac XT<|A9 (VB != 0) (some (A0.mk [.own 1 0 [],.sc (.int .i64 VB)] [])) (Au (decide (0+RW*3<=NS.length))<|Ag (call 72 [.lst false 3 RW (List.take (RW*3) (List.drop 0 NS))]) fun SV EG=>Ac EG<|Ab SV fun RS UE=>Es 1 RS fun YG ZE=>Ab UE fun x94 x95=>Ad .i64 x94 fun ZZ=>Ac x95<|Au (decide (YG*1<=ZE.length))<|some (A0.mk [.own 1 YG (List.take (YG*1) ZE),.sc (.int .i64 ZZ)] [])))) (Ag (call 68 [.sc (.string y3)]) fun UZ ZK=>Ac ZK<|Ab UZ fun ZN Ya=>Es 3 ZN fun We H4=>Ac Ya<|Ag (call 68 [.sc (.string y4)]) fun D8 AR=>Ac AR<|Ab D8 fun Tg Sk=>Es 3 Tg fun Kz AP=>Ac Sk<|Ag (call 69 [.sc (.int .u64 y5)]) fun Z9 Zz=>Ac Zz<|Ab Z9 fun AA Iy=>Es 3 AA fun Kl Zs=>Ac Iy<|Au (decide (0+En*1<=E2.length))<|Ag (call 70 [.lst false 1 En (List.take (En*1) (List.drop 0 E2))]) fun AQ AF=>Ac AF<|Ab AQ fun FQ Ul=>Es 3 FQ fun Wy Ye=>Ac Ul<|Aa (wrap .u64 y8) fun X9=>Ag (call 69 [.sc (.int .u64 X9)]) fun Zk DU=>Ac DU<|Ab Zk fun Tl Rx=>Es 3 Tl fun Qy Tz=>Ac Rx<|Aa (wrap .u64 y9) fun Vj=>Ag (call 69 [.sc (.int .u64 Vj)]) fun BJ AK=>Ac AK<|Ab BJ fun JP FM=>Es 3 JP fun Zy HZ=>Ac FM<|Ag (call 71 [.sc (.bool y10)]) fun LJ LR=>Ac LR<|Ab LJ fun NV KF=>Es 3 NV fun FB HX=>Ac KF<|Aa (wrap .u64 Gh) fun JJ=>Ag (call 69 [.sc (.int .u64 JJ)]) fun ME MA=>Ac MA<|Ab ME fun GD IB=>Es 3 GD fun IH HT=>Ac IB<|Ag (call 69 [.sc (.int .u64 H2)]) fun LM UF=>Ac UF<|Ab LM fun WS TG=>Es 3 WS fun EM OJ=>Ac TG<|Au (decide (0+We*3<=H4.length))<|Au (decide (0+Kz*3<=AP.length))<|Au (decide (0+Kl*3<=Zs.length))<|Au (decide (0+Wy*3<=Ye.length))<|Au (decide (0+Qy*3<=Tz.length))<|Au (decide (0+Zy*3<=HZ.length))<|Au (decide (0+FB*3<=HX.length))<|Au (decide (0+IH*3<=HT.length))<|Au (decide (0+EM*3<=OJ.length))<|Ag (call 67 [.lst false 1 9 [.lst false 3 We (List.take (We*3) (List.drop 0 H4)),.lst false 3 Kz (List.take (Kz*3) (List.drop 0 AP)),.lst false 3 Kl (List.take (Kl*3) (List.drop 0 Zs)),.lst false 3 Wy (List.take (Wy*3) (List.drop 0 Ye)),.lst false 3 Qy (List.take (Qy*3) (List.drop 0 Tz)),.lst false 3 Zy (List.take (Zy*3) (List.drop 0 HZ)),.lst false 3 FB (List.take (FB*3) (List.drop 0 HX)),.lst false 3 IH (List.take (IH*3) (List.drop 0 HT)),.lst false 3 EM (List.take (EM*3) (List.drop 0 OJ))]]) fun RY Ab6=>Ac Ab6<|Ab RY fun Ab5 YL=>Es 3 Ab5 fun RZ VK=>Ab YL fun Aaq Aag=>Ad .i64 Aaq fun VT=>Ac Aag<|A9 (VT != 0) (some (A0.mk [.own 1 0 [],.sc (.int .i64 VT)] [])) (Au (decide (0+RZ*3<=VK.length))<|Ag (call 72 [.lst false 3 RZ (List.take (RZ*3) (List.drop 0 VK))]) fun Aao TH=>Ac TH<|Ab Aao fun Aax Aac=>Es 1 Aax fun TT WP=>Ab Aac fun Abn ZX=>Ad .i64 Abn fun Ab2=>Ac ZX<|Au (decide (TT*1<=WP.length))<|some (A0.mk [.own 1 TT (List.take (TT*1) WP),.sc (.int .i64 Ab2)] []))))))))))))):=by kernel_rfl
theorem AW (fu d:Nat)(a0_0 a0_1:ByteArray)(a0_2 a0_3:Int)(a0_4 a0_5 a0_6:Int)(a0_7:Bool)(a0_8 a0_9 a0_10:Int)(a0_11n:Nat)(a0_11:List PV)(a0_12n:Nat)(a0_12:List PV):Ae C0 Tryz.prog fu (d+1) Qr [.agg [.sc (.string a0_0),.sc (.string a0_1),.sc (.int .u64 a0_2),.sc (.int .i64 a0_3),.sc (.int .u64 a0_4),.sc (.int .i64 a0_5),.sc (.int .i64 a0_6),.sc (.bool a0_7),.sc (.int .i64 a0_8),.sc (.int .u64 a0_9),.sc (.int .i64 a0_10),.lst false 1 a0_11n a0_11,.lst false 1 a0_12n a0_12]]=(fun (call:Ah)=>Fi fu call a0_0 a0_1 a0_2 a0_3 a0_4 a0_5 a0_6 a0_7 a0_8 a0_9 a0_10 a0_11n a0_11 a0_12n a0_12 (fu) (a0_0) (a0_1) 0 (a0_0) (a0_1) (a0_2) (a0_3) (a0_4) (a0_5) (a0_6) (a0_7) (a0_8) (a0_9) (a0_10) (a0_11n) (a0_11) (a0_12n) (a0_12)) (Ae C0 Tryz.prog fu d):=by kernel_rfl
abbrev Qi:FuncId:=36
theorem AX (fu d:Nat)(a0_0 a0_1:ByteArray)(a0_2 a0_3:Int)(a0_4 a0_5 a0_6:Int)(a0_7:Bool)(a0_8 a0_9 a0_10:Int)(a0_11n:Nat)(a0_11:List PV)(a0_12n:Nat)(a0_12:List PV):Ae C0 Tryz.prog fu (d+1) Qi [.agg [.sc (.string a0_0),.sc (.string a0_1),.sc (.int .u64 a0_2),.sc (.int .i64 a0_3),.sc (.int .u64 a0_4),.sc (.int .i64 a0_5),.sc (.int .i64 a0_6),.sc (.bool a0_7),.sc (.int .i64 a0_8),.sc (.int .u64 a0_9),.sc (.int .i64 a0_10),.lst false 1 a0_11n a0_11,.lst false 1 a0_12n a0_12]]=(fun (call:Ah)=>Ag (call 35 [.agg [.sc (.string a0_0),.sc (.string a0_1),.sc (.int .u64 a0_2),.sc (.int .i64 a0_3),.sc (.int .u64 a0_4),.sc (.int .i64 a0_5),.sc (.int .i64 a0_6),.sc (.bool a0_7),.sc (.int .i64 a0_8),.sc (.int .u64 a0_9),.sc (.int .i64 a0_10),.lst false 1 a0_11n a0_11,.lst false 1 a0_12n a0_12]]) fun x1 x2=>Ac x2<|Ab x1 fun x3 x4=>Es 1 x3 fun x5 x6=>Ab x4 fun x7 x8=>Ad .i64 x7 fun x9=>Ac x8<|A9 (x9 != 0) (some (A0.mk [.sc (.int .u64 0),.sc (.int .i64 x9)] [])) (Au (decide (0+x5*1<=x6.length))<|Ag (call 73 [.sc (.int .i64 14),.lst false 1 x5 (List.take (x5*1) (List.drop 0 x6))]) fun Cl Cw=>Ac Cw<|Ab Cl fun Dl Dr=>Ad .u64 Dl fun Dk=>Ac Dr<|some (A0.mk [.sc (.int .u64 Dk),.sc (.int .i64 0)] []))) (Ae C0 Tryz.prog fu d):=by kernel_rfl
abbrev M4:FuncId:=20
theorem Wh (fu d:Nat)(a0_0 a0_1:ByteArray)(a0_2 a0_3:Int)(a0_4 a0_5 a0_6:Int)(a0_7:Bool)(a0_8 a0_9 a0_10:Int)(a0_11n:Nat)(a0_11:List PV)(a0_12n:Nat)(a0_12:List PV)(a1_0 a1_1:Int):Ae C0 Tryz.prog fu (d+1) M4 [.agg [.sc (.string a0_0),.sc (.string a0_1),.sc (.int .u64 a0_2),.sc (.int .i64 a0_3),.sc (.int .u64 a0_4),.sc (.int .i64 a0_5),.sc (.int .i64 a0_6),.sc (.bool a0_7),.sc (.int .i64 a0_8),.sc (.int .u64 a0_9),.sc (.int .i64 a0_10),.lst false 1 a0_11n a0_11,.lst false 1 a0_12n a0_12],.agg [.sc (.int .i64 a1_0),.sc (.int .u64 a1_1)]]=(fun (call:Ah)=>Ag (call 36 [.agg [.sc (.string a0_0),.sc (.string a0_1),.sc (.int .u64 a0_2),.sc (.int .i64 a0_3),.sc (.int .u64 a0_4),.sc (.int .i64 a0_5),.sc (.int .i64 a0_6),.sc (.bool a0_7),.sc (.int .i64 a0_8),.sc (.int .u64 a0_9),.sc (.int .i64 a0_10),.lst false 1 a0_11n a0_11,.lst false 1 a0_12n a0_12]]) fun x1 x2=>Ac x2<|Ab x1 fun x3 x4=>Ad .u64 x3 fun x5=>Ab x4 fun x6 x7=>Ad .i64 x6 fun x8=>Ac x7<|A9 (x8 != 0) (some (A0.mk [.sc (.int .i64 x8)] [])) (Ag (call 41 [.agg [.sc (.int .i64 a1_0),.sc (.int .u64 a1_1)],.sc (.int .u64 x5),.agg [.sc (.int .i64 a0_10),.lst false 1 a0_11n a0_11,.lst false 1 a0_12n a0_12]]) fun x9 Cl=>Ac Cl<|Ab x9 fun Cw Dl=>Ad .i64 Cw fun Dr=>Ac Dl<|some (A0.mk [.sc (.int .i64 Dr)] []))) (Ae C0 Tryz.prog fu d):=by kernel_rfl
abbrev Nc:FuncId:=30
theorem Wk (fu d:Nat)(a0_0 a0_1:ByteArray)(a0_2 a0_3:Int)(a0_4 a0_5 a0_6:Int)(a0_7:Bool)(a0_8 a0_9 a0_10:Int)(a0_11n:Nat)(a0_11:List PV)(a0_12n:Nat)(a0_12:List PV):Ae C0 Tryz.prog fu (d+1) Nc [.agg [.sc (.string a0_0),.sc (.string a0_1),.sc (.int .u64 a0_2),.sc (.int .i64 a0_3),.sc (.int .u64 a0_4),.sc (.int .i64 a0_5),.sc (.int .i64 a0_6),.sc (.bool a0_7),.sc (.int .i64 a0_8),.sc (.int .u64 a0_9),.sc (.int .i64 a0_10),.lst false 1 a0_11n a0_11,.lst false 1 a0_12n a0_12]]=(fun (call:Ah)=>Ag (call 35 [.agg [.sc (.string a0_0),.sc (.string a0_1),.sc (.int .u64 a0_2),.sc (.int .i64 a0_3),.sc (.int .u64 a0_4),.sc (.int .i64 a0_5),.sc (.int .i64 a0_6),.sc (.bool a0_7),.sc (.int .i64 a0_8),.sc (.int .u64 a0_9),.sc (.int .i64 a0_10),.lst false 1 a0_11n a0_11,.lst false 1 a0_12n a0_12]]) fun x1 x2=>Ac x2<|Ab x1 fun x3 x4=>Es 1 x3 fun x5 x6=>Ab x4 fun x7 x8=>Ad .i64 x7 fun x9=>Ac x8<|A9 (x9 != 0) (some (A0.mk [.own 1 0 [],.sc (.int .i64 x9)] [])) (Ag (call 50 [.agg [.sc (.int .i64 a0_10),.lst false 1 a0_11n a0_11,.lst false 1 a0_12n a0_12]]) fun Cl Cw=>Ac Cw<|Ab Cl fun Dl Dr=>Es 1 Dl fun Dk D9=>Ab Dr fun Ea En=>Ad .i64 Ea fun E2=>Ac En<|A9 (E2 != 0) (some (A0.mk [.own 1 0 [],.sc (.int .i64 E2)] [])) (Au (decide (0+Dk*1<=D9.length))<|Au (decide (x5*1<=x6.length)&&decide (List.length (List.take (Dk*1) (List.drop 0 D9))=Dk*1)&&decide ((x5+Dk)*1<=1099511627776)&&decide (x5+Dk<=1099511627776))<|Aa (x5+Dk) fun Fg=>Aa (List.take (x5*1) x6++List.take (Dk*1) (List.drop 0 D9)) fun Fp=>Au (decide (Fg*1<=Fp.length))<|some (A0.mk [.own 1 Fg (List.take (Fg*1) Fp),.sc (.int .i64 0)] [])))) (Ae C0 Tryz.prog fu d):=by kernel_rfl
abbrev Nk:FuncId:=52
noncomputable def Ht (fu:Nat)(call:Ah)(a0n:Nat)(a0:List PV)(nn y0:Nat)(y1:List PV):Option A0:=Co CB Tryz.prog fu call 52 Tryz.f52 (Bm Tryz.f52) [.lst false 3 a0n a0] [] nn ⟨lk [(0,(.lst false 3 y0 y1))],B7 []⟩
noncomputable def Lu (fu:Nat)(call:Ah)(a0n:Nat)(a0:List PV)(nn y0:Nat)(y1 y2:List PV):Option A0:=Co CB Tryz.prog fu call 52 Tryz.f52 (Bm Tryz.f52) [.lst false 3 a0n a0] [.r] nn ⟨lk [(0,(.lst false 3 y0 y1)),(3,(.ptr 3 0))],B7 [(3,(.ar false y2))]⟩
noncomputable def F3 (fu:Nat)(call:Ah)(a0n:Nat)(a0:List PV)(nn y0:Nat)(y1:List PV)(y2 y3:Int)(y4:List PV):Option A0:=Co CB Tryz.prog fu call 52 Tryz.f52 (Bm Tryz.f52) [.lst false 3 a0n a0] [.r,.r,.r,.l,.r,.l] nn ⟨lk [(3,(.ptr 3 0)),(10,(.lst false 3 y0 y1)),(11,(.sc (.int .i64 y2))),(12,(.sc (.int .i64 y3)))],B7 [(3,(.ar false y4))]⟩
theorem S3 (fu:Nat)(call:Ah)(a0n:Nat)(a0:List PV)(nn:Nat)(hnn:0<nn)(y0:Nat)(y1:List PV):Ht fu call a0n a0 nn y0 y1=(Lu fu call a0n a0 (fu) (y0) (y1) ([.sc (.int .i64 5),.sc (.int .i64 4),.sc (.int .i64 4),.sc (.int .i64 1),.sc (.int .i64 3),.sc (.int .i64 1),.sc (.int .i64 1),.sc (.int .i64 7),.sc (.int .i64 1),.sc (.int .i64 1)])):=by cases nn with|zero=>exact absurd hnn (Nat.lt_irrefl 0)|succ nn=>kernel_rfl
theorem Tj (fu:Nat)(call:Ah)(a0n:Nat)(a0:List PV)(nn:Nat)(hnn:0<nn)(y0:Nat)(y1 y2:List PV):Lu fu call a0n a0 nn y0 y1 y2=(A9 ((↑y0:Int) != 10) (some (A0.mk [.sc (.bool false)] [])) (F3 fu call a0n a0 (fu) (y0) (y1) ((↑y0:Int)) 0 (y2))):=by cases nn with|zero=>exact absurd hnn (Nat.lt_irrefl 0)|succ nn=>kernel_rfl
theorem Jz (fu:Nat)(call:Ah)(a0n:Nat)(a0:List PV)(nn y0:Nat)(y1:List PV)(y2 y3:Int)(y4:List PV):F3 fu call a0n a0 (nn+1) y0 y1 y2 y3 y4=(A9 (decide (y3<y2)) (Au (decide (0<=y3)&&decide (y3<(↑y0:Int)))<|Ad .i64 (List.getD y1 (Int.toNat y3*3) .top) fun x1=>Ad .u64 (List.getD y1 (Int.toNat y3*3+1) .top) fun x2=>Cj (List.getD y1 (Int.toNat y3*3+1+1) .top) fun x3=>Au (decide (0<=y3)&&decide (y3<10))<|Ad .i64 (List.getD y4 (0+Int.toNat y3*1) .top) fun x4=>A9 (x1 != x4) (some (A0.mk [.sc (.bool false)] [])) (Aa (wrap .i64 (y3+1)) fun x5=>F3 fu call a0n a0 (nn) (y0) (y1) (y2) x5 (y4))) (some (A0.mk [.sc (.bool true)] []))):=by kernel_rfl
theorem Wd (fu d a0n:Nat)(a0:List PV):Ae C0 Tryz.prog fu (d+1) Nk [.lst false 3 a0n a0]=(fun (call:Ah)=>Ht fu call a0n a0 (fu) (a0n) (a0)) (Ae C0 Tryz.prog fu d):=by kernel_rfl
abbrev H8:FuncId:=31
theorem Wc (fu d a0n:Nat)(a0:List PV):Ae C0 Tryz.prog fu (d+1) H8 [.lst false 1 a0n a0]=(fun (call:Ah)=>A9 (decide ((↑a0n:Int)>512)) (some (A0.mk [.agg [.sc (.string (ByteArray.mk #[])),.sc (.string (ByteArray.mk #[])),.sc (.int .u64 0),.sc (.int .i64 0),.sc (.int .u64 0),.sc (.int .i64 0),.sc (.int .i64 0),.sc (.bool false),.sc (.int .i64 0),.sc (.int .u64 0),.sc (.int .i64 0),.lst false 1 0 [],.lst false 1 0 []],.sc (.int .i64 8)] [])) (Ag (call 51 [.lst false 1 a0n a0]) fun x1 x2=>Ac x2<|Ab x1 fun x3 x4=>Es 3 x3 fun x5 x6=>Ab x4 fun x7 x8=>Ad .i64 x7 fun x9=>Ab x8 fun Cl Cw=>Ad .i64 Cl fun Dl=>Ac Cw<|A9 (Dl != 0) (some (A0.mk [.agg [.sc (.string (ByteArray.mk #[])),.sc (.string (ByteArray.mk #[])),.sc (.int .u64 0),.sc (.int .i64 0),.sc (.int .u64 0),.sc (.int .i64 0),.sc (.int .i64 0),.sc (.bool false),.sc (.int .i64 0),.sc (.int .u64 0),.sc (.int .i64 0),.lst false 1 0 [],.lst false 1 0 []],.sc (.int .i64 2)] [])) (Au (decide (0+x5*3<=x6.length))<|Ag (call 52 [.lst false 3 x5 (List.take (x5*3) (List.drop 0 x6))]) fun Dr Dk=>Ac Dk<|Ab Dr fun D9 Ea=>Bj D9 fun En=>Ac Ea<|A9 (!En) (some (A0.mk [.agg [.sc (.string (ByteArray.mk #[])),.sc (.string (ByteArray.mk #[])),.sc (.int .u64 0),.sc (.int .i64 0),.sc (.int .u64 0),.sc (.int .i64 0),.sc (.int .i64 0),.sc (.bool false),.sc (.int .i64 0),.sc (.int .u64 0),.sc (.int .i64 0),.lst false 1 0 [],.lst false 1 0 []],.sc (.int .i64 2)] [])) (Au (decide (4<(↑x5:Int)))<|Cj (List.getD x6 14 .top) fun E2=>Au (decide (ByteArray.size E2<=1099511627776))<|Au (decide (0+ByteArray.size E2*1<=List.length (Dv E2)))<|Ag (call 53 [.lst false 1 (ByteArray.size E2) (List.take (ByteArray.size E2*1) (List.drop 0 (Dv E2)))]) fun Fg Fp=>Ac Fp<|Ab Fg fun Hp Hb=>C4 Hp fun Hq=>Ab Hq fun Dz Dq=>Ad .i64 Dz fun F5=>Ab Dq fun H3 E1=>Ad .u64 H3 fun Jk=>Ac E1<|Ab Hb fun L8 Jt=>Ad .i64 L8 fun Mr=>Ac Jt<|A9 (Mr != 0) (some (A0.mk [.agg [.sc (.string (ByteArray.mk #[])),.sc (.string (ByteArray.mk #[])),.sc (.int .u64 0),.sc (.int .i64 0),.sc (.int .u64 0),.sc (.int .i64 0),.sc (.int .i64 0),.sc (.bool false),.sc (.int .i64 0),.sc (.int .u64 0),.sc (.int .i64 0),.lst false 1 0 [],.lst false 1 0 []],.sc (.int .i64 2)] [])) (Au (decide (0<=x9))<|Au (decide (Int.toNat x9<=a0n)&&decide (a0n<=a0n))<|Aa (a0n-Int.toNat x9) fun Mb=>Aa (List.take (Mb*1) (List.drop (Int.toNat x9*1) a0)) fun Np=>Ag (call 54 [.lst false 1 Mb Np]) fun Qp Pt=>Ac Pt<|Ab Qp fun R5 Hh=>C4 R5 fun J8=>Ab J8 fun Va Y9=>Ad .i64 Va fun Qq=>Ab Y9 fun Nw Uh=>Es 1 Nw fun Sd Tp=>Ab Uh fun Xd Yb=>Es 1 Xd fun Sn Vz=>Ac Yb<|Ab Hh fun Yj Xv=>Ad .i64 Yj fun Pc=>Ac Xv<|A9 (Pc != 0) (some (A0.mk [.agg [.sc (.string (ByteArray.mk #[])),.sc (.string (ByteArray.mk #[])),.sc (.int .u64 0),.sc (.int .i64 0),.sc (.int .u64 0),.sc (.int .i64 0),.sc (.int .i64 0),.sc (.bool false),.sc (.int .i64 0),.sc (.int .u64 0),.sc (.int .i64 0),.lst false 1 0 [],.lst false 1 0 []],.sc (.int .i64 2)] [])) (Au (decide (1<(↑x5:Int)))<|Cj (List.getD x6 5 .top) fun X8=>Au (decide (2<(↑x5:Int)))<|Cj (List.getD x6 8 .top) fun DW=>Au (decide (3<(↑x5:Int)))<|Ad .u64 (List.getD x6 10 .top) fun BE=>Au (decide (5<(↑x5:Int)))<|Ad .u64 (List.getD x6 16 .top) fun Za=>Aa (wrap .i64 Za) fun U0=>Au (decide (6<(↑x5:Int)))<|Ad .u64 (List.getD x6 19 .top) fun X4=>Aa (wrap .i64 X4) fun BC=>Au (decide (7<(↑x5:Int)))<|Ad .u64 (List.getD x6 22 .top) fun Y2=>Au (decide (8<(↑x5:Int)))<|Ad .u64 (List.getD x6 25 .top) fun Ze=>Aa (wrap .i64 Ze) fun BB=>Au (decide (9<(↑x5:Int)))<|Ad .u64 (List.getD x6 28 .top) fun Y8=>Au (decide (0+Sd*1<=Tp.length))<|Au (decide (0+Sn*1<=Vz.length))<|Ag (call 30 [.agg [.sc (.string X8),.sc (.string DW),.sc (.int .u64 BE),.sc (.int .i64 F5),.sc (.int .u64 Jk),.sc (.int .i64 U0),.sc (.int .i64 BC),.sc (.bool (Y2==1)),.sc (.int .i64 BB),.sc (.int .u64 Y8),.sc (.int .i64 Qq),.lst false 1 Sd (List.take (Sd*1) (List.drop 0 Tp)),.lst false 1 Sn (List.take (Sn*1) (List.drop 0 Vz))]]) fun Zd Xc=>Ac Xc<|Ab Zd fun Xm BO=>Es 1 Xm fun Zj Yv=>Ab BO fun Y1 AG=>Ad .i64 Y1 fun EH=>Ac AG<|A9 (EH != 0) (some (A0.mk [.agg [.sc (.string (ByteArray.mk #[])),.sc (.string (ByteArray.mk #[])),.sc (.int .u64 0),.sc (.int .i64 0),.sc (.int .u64 0),.sc (.int .i64 0),.sc (.int .i64 0),.sc (.bool false),.sc (.int .i64 0),.sc (.int .u64 0),.sc (.int .i64 0),.lst false 1 0 [],.lst false 1 0 []],.sc (.int .i64 2)] [])) (Au (decide (0+Zj*1<=Yv.length))<|Ag (call 55 [.lst false 1 Zj (List.take (Zj*1) (List.drop 0 Yv)),.lst false 1 a0n a0]) fun Z3 Yu=>Ac Yu<|Ab Z3 fun HC BA=>Bj HC fun EN=>Ac BA<|A9 (!EN) (some (A0.mk [.agg [.sc (.string (ByteArray.mk #[])),.sc (.string (ByteArray.mk #[])),.sc (.int .u64 0),.sc (.int .i64 0),.sc (.int .u64 0),.sc (.int .i64 0),.sc (.int .i64 0),.sc (.bool false),.sc (.int .i64 0),.sc (.int .u64 0),.sc (.int .i64 0),.lst false 1 0 [],.lst false 1 0 []],.sc (.int .i64 2)] [])) (Au (decide (0+Sd*1<=Tp.length))<|Au (decide (0+Sn*1<=Vz.length))<|some (A0.mk [.agg [.sc (.string X8),.sc (.string DW),.sc (.int .u64 BE),.sc (.int .i64 F5),.sc (.int .u64 Jk),.sc (.int .i64 U0),.sc (.int .i64 BC),.sc (.bool (Y2==1)),.sc (.int .i64 BB),.sc (.int .u64 Y8),.sc (.int .i64 Qq),.lst false 1 Sd (List.take (Sd*1) (List.drop 0 Tp)),.lst false 1 Sn (List.take (Sn*1) (List.drop 0 Vz))],.sc (.int .i64 0)] []))))))))) (Ae C0 Tryz.prog fu d):=by kernel_rfl
abbrev Jv:FuncId:=47
noncomputable def Cp (fu:Nat)(call:Ah)(a0_0 a0_1:ByteArray)(a0_2 a0_3:Int)(a0_4 a0_5 a0_6:Int)(a0_7:Bool)(a0_8 a0_9 a0_10:Int)(a0_11n:Nat)(a0_11:List PV)(a0_12n:Nat)(a0_12:List PV)(a1:Int)(a2n:Nat)(a2:List PV)(a3:Int)(nn:Nat)(y0:Int)(y1:Nat)(y2:List PV)(y3 y4:Int)(y5 y6:ByteArray)(y7 y8:Int)(y9 y10 Gh:Int)(H2:Bool)(Jb Ks Lj:Int)(Oy:Nat)(Ob:List PV)(U6:Nat)(Zv:List PV):Option A0:=Co CB Tryz.prog fu call 47 Tryz.f47 (Bm Tryz.f47) [.agg [.sc (.string a0_0),.sc (.string a0_1),.sc (.int .u64 a0_2),.sc (.int .i64 a0_3),.sc (.int .u64 a0_4),.sc (.int .i64 a0_5),.sc (.int .i64 a0_6),.sc (.bool a0_7),.sc (.int .i64 a0_8),.sc (.int .u64 a0_9),.sc (.int .i64 a0_10),.lst false 1 a0_11n a0_11,.lst false 1 a0_12n a0_12],.sc (.int .i64 a1),.lst false 3 a2n a2,.sc (.int .i64 a3)] [.r,.r,.r,.r,.l,.r,.l] nn ⟨lk [(3,(.sc (.int .i64 y0))),(4,(.ptr 4 0)),(45,(.lst false 3 y1 y2)),(46,(.sc (.int .i64 y3))),(47,(.sc (.int .i64 y4)))],B7 [(4,(.st [(.sc (.string y5)),(.sc (.string y6)),(.sc (.int .u64 y7)),(.sc (.int .i64 y8)),(.sc (.int .u64 y9)),(.sc (.int .i64 y10)),(.sc (.int .i64 Gh)),(.sc (.bool H2)),(.sc (.int .i64 Jb)),(.sc (.int .u64 Ks)),(.sc (.int .i64 Lj)),(.lst false 1 Oy Ob),(.lst false 1 U6 Zv)]))]⟩
theorem H7 (fu:Nat)(call:Ah)(a0_0 a0_1:ByteArray)(a0_2 a0_3:Int)(a0_4 a0_5 a0_6:Int)(a0_7:Bool)(a0_8 a0_9 a0_10:Int)(a0_11n:Nat)(a0_11:List PV)(a0_12n:Nat)(a0_12:List PV)(a1:Int)(a2n:Nat)(a2:List PV)(a3:Int)(nn:Nat)(y0:Int)(y1:Nat)(y2:List PV)(y3 y4:Int)(y5 y6:ByteArray)(y7 y8:Int)(y9 y10 Gh:Int)(H2:Bool)(Jb Ks Lj:Int)(Oy:Nat)(Ob:List PV)(U6:Nat)(Zv:List PV):Cp fu call a0_0 a0_1 a0_2 a0_3 a0_4 a0_5 a0_6 a0_7 a0_8 a0_9 a0_10 a0_11n a0_11 a0_12n a0_12 a1 a2n a2 a3 (nn+1) y0 y1 y2 y3 y4 y5 y6 y7 y8 y9 y10 Gh H2 Jb Ks Lj Oy Ob U6 Zv=(A9 (decide (y4<y3)) (Au (decide (0<=y4)&&decide (y4<(↑y1:Int)))<|Cj (List.getD y2 (Int.toNat y4*3) .top) fun Cw=>Ad .u64 (List.getD y2 (Int.toNat y4*3+1) .top) fun Dl=>Ad .i64 (List.getD y2 (Int.toNat y4*3+1+1) .top) fun Dr=>A9 (Array.toList (ByteArray.data Cw)==Array.toList (ByteArray.data y6)) (A9 (Dl==y7) (A9 (decide (Dr<=y0)) (some (A0.mk [.sc (.int .i64 39)] [])) (Aa (wrap .i64 (y4+1)) fun Dk=>Cp fu call a0_0 a0_1 a0_2 a0_3 a0_4 a0_5 a0_6 a0_7 a0_8 a0_9 a0_10 a0_11n a0_11 a0_12n a0_12 a1 a2n a2 a3 (nn) (y0) (y1) (y2) (y3) Dk (y5) (y6) (y7) (y8) (y9) (y10) (Gh) (H2) (Jb) (Ks) (Lj) (Oy) (Ob) (U6) (Zv))) (Aa (wrap .i64 (y4+1)) fun D9=>Cp fu call a0_0 a0_1 a0_2 a0_3 a0_4 a0_5 a0_6 a0_7 a0_8 a0_9 a0_10 a0_11n a0_11 a0_12n a0_12 a1 a2n a2 a3 (nn) (y0) (y1) (y2) (y3) D9 (y5) (y6) (y7) (y8) (y9) (y10) (Gh) (H2) (Jb) (Ks) (Lj) (Oy) (Ob) (U6) (Zv))) (Aa (wrap .i64 (y4+1)) fun Ea=>Cp fu call a0_0 a0_1 a0_2 a0_3 a0_4 a0_5 a0_6 a0_7 a0_8 a0_9 a0_10 a0_11n a0_11 a0_12n a0_12 a1 a2n a2 a3 (nn) (y0) (y1) (y2) (y3) Ea (y5) (y6) (y7) (y8) (y9) (y10) (Gh) (H2) (Jb) (Ks) (Lj) (Oy) (Ob) (U6) (Zv))) (some (A0.mk [.sc (.int .i64 0)] []))):=by kernel_rfl
theorem Si (fu d:Nat)(a0_0 a0_1:ByteArray)(a0_2 a0_3:Int)(a0_4 a0_5 a0_6:Int)(a0_7:Bool)(a0_8 a0_9 a0_10:Int)(a0_11n:Nat)(a0_11:List PV)(a0_12n:Nat)(a0_12:List PV)(a1:Int)(a2n:Nat)(a2:List PV)(a3:Int):Ae C0 Tryz.prog fu (d+1) Jv [.agg [.sc (.string a0_0),.sc (.string a0_1),.sc (.int .u64 a0_2),.sc (.int .i64 a0_3),.sc (.int .u64 a0_4),.sc (.int .i64 a0_5),.sc (.int .i64 a0_6),.sc (.bool a0_7),.sc (.int .i64 a0_8),.sc (.int .u64 a0_9),.sc (.int .i64 a0_10),.lst false 1 a0_11n a0_11,.lst false 1 a0_12n a0_12],.sc (.int .i64 a1),.lst false 3 a2n a2,.sc (.int .i64 a3)]=(fun (call:Ah)=>Ag (call 35 [.agg [.sc (.string a0_0),.sc (.string a0_1),.sc (.int .u64 a0_2),.sc (.int .i64 a0_3),.sc (.int .u64 a0_4),.sc (.int .i64 a0_5),.sc (.int .i64 a0_6),.sc (.bool a0_7),.sc (.int .i64 a0_8),.sc (.int .u64 a0_9),.sc (.int .i64 a0_10),.lst false 1 a0_11n a0_11,.lst false 1 a0_12n a0_12]]) fun x1 x2=>Ac x2<|Ab x1 fun x3 x4=>Es 1 x3 fun x5 x6=>Ab x4 fun x7 x8=>Ad .i64 x7 fun x9=>Ac x8<|A9 (x9 != 0) (some (A0.mk [.sc (.int .i64 x9)] [])) (A9 (decide (a3<a0_5)) (some (A0.mk [.sc (.int .i64 38)] [])) (A9 (decide (a3>a0_6)) (some (A0.mk [.sc (.int .i64 38)] [])) (A9 (decide (a1>0)) (A9 (!a0_7) (some (A0.mk [.sc (.int .i64 38)] [])) (Aa (wrap .i64 (a1-1)) fun Cl=>A9 (decide (a0_8<Cl)) (some (A0.mk [.sc (.int .i64 38)] [])) (Cp fu call a0_0 a0_1 a0_2 a0_3 a0_4 a0_5 a0_6 a0_7 a0_8 a0_9 a0_10 a0_11n a0_11 a0_12n a0_12 a1 a2n a2 a3 (fu) (a3) (a2n) (a2) ((↑a2n:Int)) 0 (a0_0) (a0_1) (a0_2) (a0_3) (a0_4) (a0_5) (a0_6) (a0_7) (a0_8) (a0_9) (a0_10) (a0_11n) (a0_11) (a0_12n) (a0_12)))) (Cp fu call a0_0 a0_1 a0_2 a0_3 a0_4 a0_5 a0_6 a0_7 a0_8 a0_9 a0_10 a0_11n a0_11 a0_12n a0_12 a1 a2n a2 a3 (fu) (a3) (a2n) (a2) ((↑a2n:Int)) 0 (a0_0) (a0_1) (a0_2) (a0_3) (a0_4) (a0_5) (a0_6) (a0_7) (a0_8) (a0_9) (a0_10) (a0_11n) (a0_11) (a0_12n) (a0_12)))))) (Ae C0 Tryz.prog fu d):=by kernel_rfl
abbrev Qd:FuncId:=27
noncomputable def Gv (fu:Nat)(call:Ah)(a0n:Nat)(a0:List PV)(a1n:Nat)(a1:List PV)(a2n:Nat)(a2:List PV)(a3:Int)(nn y0:Nat)(y1:List PV)(y2:Nat)(y3:List PV)(y4:Nat)(y5:List PV)(y6:Int)(y7:Nat)(y8:List PV)(y9 y10:Int):Option A0:=Co CB Tryz.prog fu call 27 Tryz.f27 (Bm Tryz.f27) [.lst false 13 a0n a0,.lst false 3 a1n a1,.lst false 3 a2n a2,.sc (.int .i64 a3)] [.r,.r,.r,.l,.r,.l] nn ⟨lk [(0,(.lst false 13 y0 y1)),(1,(.lst false 3 y2 y3)),(2,(.lst false 3 y4 y5)),(3,(.sc (.int .i64 y6))),(31,(.lst false 13 y7 y8)),(32,(.sc (.int .i64 y9))),(33,(.sc (.int .i64 y10)))],B7 []⟩
noncomputable def Ed (fu:Nat)(call:Ah)(a0n:Nat)(a0:List PV)(a1n:Nat)(a1:List PV)(a2n:Nat)(a2:List PV)(a3:Int)(nn y0:Nat)(y1:List PV)(y2 y3:Int)(y4 y5:ByteArray)(y6 y7:Int)(y8 y9 y10:Int)(Gh:Bool)(H2 Jb Ks:Int)(Lj:Nat)(Oy:List PV)(Ob:Nat)(U6:List PV):Option A0:=Co CB Tryz.prog fu call 27 Tryz.f27 (Bm Tryz.f27) [.lst false 13 a0n a0,.lst false 3 a1n a1,.lst false 3 a2n a2,.sc (.int .i64 a3)] [.r,.r,.r,.r,.r,.l,.r,.l] nn ⟨lk [(14,(.ptr 14 0)),(78,(.lst false 3 y0 y1)),(79,(.sc (.int .i64 y2))),(80,(.sc (.int .i64 y3)))],B7 [(14,(.st [(.sc (.string y4)),(.sc (.string y5)),(.sc (.int .u64 y6)),(.sc (.int .i64 y7)),(.sc (.int .u64 y8)),(.sc (.int .i64 y9)),(.sc (.int .i64 y10)),(.sc (.bool Gh)),(.sc (.int .i64 H2)),(.sc (.int .u64 Jb)),(.sc (.int .i64 Ks)),(.lst false 1 Lj Oy),(.lst false 1 Ob U6)]))]⟩
theorem Ly (fu:Nat)(call:Ah)(a0n:Nat)(a0:List PV)(a1n:Nat)(a1:List PV)(a2n:Nat)(a2:List PV)(a3:Int)(nn y0:Nat)(y1:List PV)(y2:Nat)(y3:List PV)(y4:Nat)(y5:List PV)(y6:Int)(y7:Nat)(y8:List PV)(y9 y10:Int):Gv fu call a0n a0 a1n a1 a2n a2 a3 (nn+1) y0 y1 y2 y3 y4 y5 y6 y7 y8 y9 y10=(A9 (decide (y10<y9)) (Au (decide (0<=y10)&&decide (y10<(↑y7:Int)))<|Cj (List.getD y8 (Int.toNat y10*13) .top) fun x1=>Cj (List.getD y8 (Int.toNat y10*13+1) .top) fun x2=>Ad .u64 (List.getD y8 (Int.toNat y10*13+1+1) .top) fun x3=>Ad .i64 (List.getD y8 (Int.toNat y10*13+1+1+1) .top) fun x4=>Ad .u64 (List.getD y8 (Int.toNat y10*13+1+1+1+1) .top) fun x5=>Ad .i64 (List.getD y8 (Int.toNat y10*13+1+1+1+1+1) .top) fun x6=>Ad .i64 (List.getD y8 (Int.toNat y10*13+1+1+1+1+1+1) .top) fun x7=>Bj (List.getD y8 (Int.toNat y10*13+1+1+1+1+1+1+1) .top) fun x8=>Ad .i64 (List.getD y8 (Int.toNat y10*13+1+1+1+1+1+1+1+1) .top) fun x9=>Ad .u64 (List.getD y8 (Int.toNat y10*13+1+1+1+1+1+1+1+1+1) .top) fun Cl=>Ad .i64 (List.getD y8 (Int.toNat y10*13+1+1+1+1+1+1+1+1+1+1) .top) fun Cw=>Fk 1 (List.getD y8 (Int.toNat y10*13+1+1+1+1+1+1+1+1+1+1+1) .top) fun Dl Dr Dk=>Fk 1 (List.getD y8 (Int.toNat y10*13+1+1+1+1+1+1+1+1+1+1+1+1) .top) fun D9 Ea En=>Ag (call 47 [.agg [.sc (.string x1),.sc (.string x2),.sc (.int .u64 x3),.sc (.int .i64 x4),.sc (.int .u64 x5),.sc (.int .i64 x6),.sc (.int .i64 x7),.sc (.bool x8),.sc (.int .i64 x9),.sc (.int .u64 Cl),.sc (.int .i64 Cw),.lst false 1 Dr Dk,.lst false 1 Ea En],.sc (.int .i64 y10),.lst false 3 y4 y5,.sc (.int .i64 y6)]) fun E2 Fg=>Ac Fg<|Ab E2 fun Fp Hp=>Ad .i64 Fp fun Hb=>Ac Hp<|A9 (Hb != 0) (some (A0.mk [.sc (.int .i64 0),.sc (.int .i64 Hb)] [])) (Aa (wrap .i64 ((↑y0:Int)-1)) fun Hq=>A9 (y10==Hq) (Aa (wrap .i64 ((↑y0:Int)-1)) fun Dz=>Au (decide (0<=Dz)&&decide (Dz<(↑y0:Int)))<|Cj (List.getD y1 (Int.toNat Dz*13) .top) fun Dq=>Cj (List.getD y1 (Int.toNat Dz*13+1) .top) fun F5=>Ad .u64 (List.getD y1 (Int.toNat Dz*13+1+1) .top) fun H3=>Ad .i64 (List.getD y1 (Int.toNat Dz*13+1+1+1) .top) fun E1=>Ad .u64 (List.getD y1 (Int.toNat Dz*13+1+1+1+1) .top) fun Jk=>Ad .i64 (List.getD y1 (Int.toNat Dz*13+1+1+1+1+1) .top) fun L8=>Ad .i64 (List.getD y1 (Int.toNat Dz*13+1+1+1+1+1+1) .top) fun Jt=>Bj (List.getD y1 (Int.toNat Dz*13+1+1+1+1+1+1+1) .top) fun Mr=>Ad .i64 (List.getD y1 (Int.toNat Dz*13+1+1+1+1+1+1+1+1) .top) fun Mb=>Ad .u64 (List.getD y1 (Int.toNat Dz*13+1+1+1+1+1+1+1+1+1) .top) fun Np=>Ad .i64 (List.getD y1 (Int.toNat Dz*13+1+1+1+1+1+1+1+1+1+1) .top) fun Qp=>Fk 1 (List.getD y1 (Int.toNat Dz*13+1+1+1+1+1+1+1+1+1+1+1) .top) fun Pt R5 Hh=>Fk 1 (List.getD y1 (Int.toNat Dz*13+1+1+1+1+1+1+1+1+1+1+1+1) .top) fun J8 Va Y9=>Ed fu call a0n a0 a1n a1 a2n a2 a3 (fu) (y2) (y3) ((↑y2:Int)) 0 Dq F5 H3 E1 Jk L8 Jt Mr Mb Np Qp R5 Hh Va Y9) (Aa (wrap .i64 (y10+1)) fun Qq=>Au (decide (0<=Qq)&&decide (Qq<(↑y0:Int)))<|Cj (List.getD y1 (Int.toNat Qq*13+0) .top) fun Nw=>A9 (!Array.toList (ByteArray.data x2)==Array.toList (ByteArray.data Nw)) (some (A0.mk [.sc (.int .i64 0),.sc (.int .i64 38)] [])) (Aa (wrap .i64 (y10+1)) fun Uh=>Au (decide (0<=Uh)&&decide (Uh<(↑y0:Int)))<|Ad .i64 (List.getD y1 (Int.toNat Uh*13+3) .top) fun Sd=>Ad .u64 (List.getD y1 (Int.toNat Uh*13+3+1) .top) fun Tp=>Ag (call 20 [.agg [.sc (.string x1),.sc (.string x2),.sc (.int .u64 x3),.sc (.int .i64 x4),.sc (.int .u64 x5),.sc (.int .i64 x6),.sc (.int .i64 x7),.sc (.bool x8),.sc (.int .i64 x9),.sc (.int .u64 Cl),.sc (.int .i64 Cw),.lst false 1 Dr Dk,.lst false 1 Ea En],.agg [.sc (.int .i64 Sd),.sc (.int .u64 Tp)]]) fun Xd Yb=>Ac Yb<|Ab Xd fun Sn Vz=>Ad .i64 Sn fun Yj=>Ac Vz<|A9 (Yj != 0) (some (A0.mk [.sc (.int .i64 0),.sc (.int .i64 Yj)] [])) (Aa (wrap .i64 (y10+1)) fun Xv=>Gv fu call a0n a0 a1n a1 a2n a2 a3 (nn) (y0) (y1) (y2) (y3) (y4) (y5) (y6) (y7) (y8) (y9) Xv))))) (Aa (wrap .i64 ((↑y0:Int)-1)) fun Pc=>Au (decide (0<=Pc)&&decide (Pc<(↑y0:Int)))<|Cj (List.getD y1 (Int.toNat Pc*13) .top) fun X8=>Cj (List.getD y1 (Int.toNat Pc*13+1) .top) fun DW=>Ad .u64 (List.getD y1 (Int.toNat Pc*13+1+1) .top) fun BE=>Ad .i64 (List.getD y1 (Int.toNat Pc*13+1+1+1) .top) fun Za=>Ad .u64 (List.getD y1 (Int.toNat Pc*13+1+1+1+1) .top) fun U0=>Ad .i64 (List.getD y1 (Int.toNat Pc*13+1+1+1+1+1) .top) fun X4=>Ad .i64 (List.getD y1 (Int.toNat Pc*13+1+1+1+1+1+1) .top) fun BC=>Bj (List.getD y1 (Int.toNat Pc*13+1+1+1+1+1+1+1) .top) fun Y2=>Ad .i64 (List.getD y1 (Int.toNat Pc*13+1+1+1+1+1+1+1+1) .top) fun Ze=>Ad .u64 (List.getD y1 (Int.toNat Pc*13+1+1+1+1+1+1+1+1+1) .top) fun BB=>Ad .i64 (List.getD y1 (Int.toNat Pc*13+1+1+1+1+1+1+1+1+1+1) .top) fun Y8=>Fk 1 (List.getD y1 (Int.toNat Pc*13+1+1+1+1+1+1+1+1+1+1+1) .top) fun Zd Xc Xm=>Fk 1 (List.getD y1 (Int.toNat Pc*13+1+1+1+1+1+1+1+1+1+1+1+1) .top) fun BO Zj Yv=>Ed fu call a0n a0 a1n a1 a2n a2 a3 (fu) (y2) (y3) ((↑y2:Int)) 0 X8 DW BE Za U0 X4 BC Y2 Ze BB Y8 Xc Xm Zj Yv)):=by kernel_rfl
theorem Lz (fu:Nat)(call:Ah)(a0n:Nat)(a0:List PV)(a1n:Nat)(a1:List PV)(a2n:Nat)(a2:List PV)(a3:Int)(nn y0:Nat)(y1:List PV)(y2 y3:Int)(y4 y5:ByteArray)(y6 y7:Int)(y8 y9 y10:Int)(Gh:Bool)(H2 Jb Ks:Int)(Lj:Nat)(Oy:List PV)(Ob:Nat)(U6:List PV):Ed fu call a0n a0 a1n a1 a2n a2 a3 (nn+1) y0 y1 y2 y3 y4 y5 y6 y7 y8 y9 y10 Gh H2 Jb Ks Lj Oy Ob U6=(A9 (decide (y3<y2)) (Au (decide (0<=y3)&&decide (y3<(↑y0:Int)))<|Cj (List.getD y1 (Int.toNat y3*3) .top) fun Y1=>Ad .i64 (List.getD y1 (Int.toNat y3*3+1) .top) fun AG=>Ad .u64 (List.getD y1 (Int.toNat y3*3+1+1) .top) fun EH=>A9 (Array.toList (ByteArray.data Y1)==Array.toList (ByteArray.data y5)) (Ag (call 20 [.agg [.sc (.string y4),.sc (.string y5),.sc (.int .u64 y6),.sc (.int .i64 y7),.sc (.int .u64 y8),.sc (.int .i64 y9),.sc (.int .i64 y10),.sc (.bool Gh),.sc (.int .i64 H2),.sc (.int .u64 Jb),.sc (.int .i64 Ks),.lst false 1 Lj Oy,.lst false 1 Ob U6],.agg [.sc (.int .i64 AG),.sc (.int .u64 EH)]]) fun Z3 Yu=>Ac Yu<|Ab Z3 fun HC BA=>Ad .i64 HC fun EN=>Ac BA<|A9 (EN==0) (some (A0.mk [.sc (.int .i64 y3),.sc (.int .i64 0)] [])) (Aa (wrap .i64 (y3+1)) fun IP=>Ed fu call a0n a0 a1n a1 a2n a2 a3 (nn) (y0) (y1) (y2) IP (y4) (y5) (y6) (y7) (y8) (y9) (y10) (Gh) (H2) (Jb) (Ks) (Lj) (Oy) (Ob) (U6))) (Aa (wrap .i64 (y3+1)) fun IX=>Ed fu call a0n a0 a1n a1 a2n a2 a3 (nn) (y0) (y1) (y2) IX (y4) (y5) (y6) (y7) (y8) (y9) (y10) (Gh) (H2) (Jb) (Ks) (Lj) (Oy) (Ob) (U6))) (some (A0.mk [.sc (.int .i64 0),.sc (.int .i64 38)] []))):=by kernel_rfl
theorem Z6 (fu d a0n:Nat)(a0:List PV)(a1n:Nat)(a1:List PV)(a2n:Nat)(a2:List PV)(a3:Int):Ae C0 Tryz.prog fu (d+1) Qd [.lst false 13 a0n a0,.lst false 3 a1n a1,.lst false 3 a2n a2,.sc (.int .i64 a3)]=(fun (call:Ah)=>A9 (decide (a3<0)) (some (A0.mk [.sc (.int .i64 0),.sc (.int .i64 9)] [])) (A9 (decide (a3>1099511627776)) (some (A0.mk [.sc (.int .i64 0),.sc (.int .i64 9)] [])) (A9 (decide ((↑a0n:Int)<1)) (some (A0.mk [.sc (.int .i64 0),.sc (.int .i64 38)] [])) (A9 (decide ((↑a0n:Int)>3)) (some (A0.mk [.sc (.int .i64 0),.sc (.int .i64 38)] [])) (Gv fu call a0n a0 a1n a1 a2n a2 a3 (fu) (a0n) (a0) (a1n) (a1) (a2n) (a2) (a3) (a0n) (a0) ((↑a0n:Int)) 0))))) (Ae C0 Tryz.prog fu d):=by kernel_rfl
abbrev Y3:FuncId:=55
theorem OI (fu d a0n:Nat)(a0:List PV)(a1n:Nat)(a1:List PV):Ae C0 Tryz.prog fu (d+1) Y3 [.lst false 1 a0n a0,.lst false 1 a1n a1]=(fun (call:Ah)=>Au (decide (a0.length=a0n))<|E5 (bytesOf a0) fun x1=>Au (decide (a1.length=a1n))<|E5 (bytesOf a1) fun x2=>some (A0.mk [.sc (.bool (Array.toList (ByteArray.data (ByteArray.mk (List.toArray x1)))==Array.toList (ByteArray.data (ByteArray.mk (List.toArray x2)))))] [])) (Ae C0 Tryz.prog fu d):=by kernel_rfl
end
section
open Go.IntKind (wrap)
theorem VO {c:Ce}{e:Int}(h:A4 c=e)(he:e≠0):Gq c=[.own 1 0 [],.sc (.int .i64 e)]:=by
 unfold Gq;rw [h,A5 he]
theorem Ev {c:Ce}{e:Int}(h:A4 c=e)(he:e≠0):some (A0.mk [.own 1 0 [],.sc (.int .i64 e)] [])=some (A0.mk (Gq c) []):=by
 rw [VO h he]
def Wt (c:Ce):List It:=[⟨4,0,c.subj⟩,⟨4,0,c.iss⟩,⟨1,c.serial,Gm⟩,⟨3,0,Cd (Jo c.key)⟩,⟨1,c.fr,Gm⟩,⟨1,c.un,Gm⟩,⟨7,(if c.auth=true then 1 else 0),Gm⟩,⟨1,c.path,Gm⟩,⟨1,c.model,Gm⟩]
theorem HN {c:Ce}(hw:c.wf)(h:A4 c=0):∀x∈Wt c,WV x:=by
 unfold A4 at h;have kl:(Cd (Jo c.key)).size=9:=by rw [Ge];rfl
 have ns:Gm.size=0:=rfl;have hs:=hw.ser;have hm:=hw.mod;have es:TE Gm=true:=rfl;by_cases e1:c.subj.size<1∨32<c.subj.size
 ·rw [Bv e1] at h;cases h
 rw [A5 e1] at h;by_cases e2:c.iss.size<1∨32<c.iss.size
 ·rw [Bv e2] at h;cases h
 rw [A5 e2] at h;by_cases e3:VW c.subj=false
 ·rw [Bv e3] at h;cases h
 rw [A5 e3] at h;by_cases e4:VW c.iss=false
 ·rw [Bv e4] at h;cases h
 rw [A5 e4] at h
 repeat' (split at h;· cases h)
 rw [Bool.not_eq_false] at e3 e4;intro x hx;simp only [Wt,List.mem_cons,List.not_mem_nil,or_false] at hx;rcases hx with rfl|rfl|rfl|rfl|rfl|rfl|rfl|rfl|rfl
 ·exact ⟨by simp,by simp only;omega,fun _=>e3,by simp [Gr],by simp⟩
 ·exact ⟨by simp,by simp only;omega,fun _=>e4,by simp [Gr],by simp⟩
 ·exact ⟨by simp,by simp only [ns];omega,fun h=>by simp at h,by simp [Gr,es],hs⟩
 ·exact ⟨by simp,by simp only [kl];omega,fun h=>by simp at h,by simp [Gr],by simp⟩
 ·exact ⟨by simp,by simp only [ns];omega,fun h=>by simp at h,by simp [Gr,es],by simp only;omega⟩
 ·exact ⟨by simp,by simp only [ns];omega,fun h=>by simp at h,by simp [Gr,es],by simp only;omega⟩
 ·exact ⟨by simp,by simp only [ns];omega,fun h=>by simp at h,by simp [Gr,es];split<;>omega,by simp only;split<;>omega⟩
 ·exact ⟨by simp,by simp only [ns];omega,fun h=>by simp at h,by simp [Gr,es],by simp only;omega⟩
 ·exact ⟨by simp,by simp only [ns];omega,fun h=>by simp at h,by simp [Gr,es],hm⟩
theorem AN {c:Ce}(hw:c.wf)(h:A4 c=0):Pm [] 0 (Bb c):=Afp (r:=Wt c) (by simp [Wt]) (by simp [Wt]) (HN hw h)
section
variable {fu d:Nat}
theorem XA (s:ByteArray):Ae C0 Tryz.prog fu (d+1) GN [.sc (.string s)]=some ⟨[.own 3 1 (Ci [⟨4,0,s⟩])],[]⟩:=by rw [XK];rfl
theorem V0 (n:Int):Ae C0 Tryz.prog fu (d+1) HS [.sc (.int .u64 n)]=some ⟨[.own 3 1 (Ci [⟨1,n,Gm⟩])],[]⟩:=by rw [YM];rfl
theorem Ahe (b:Bool):Ae C0 Tryz.prog fu (d+1) GG [.sc (.bool b)]=some ⟨[.own 3 1 (Ci [⟨7,(if b=true then 1 else 0),Gm⟩])],[]⟩:=by rw [VG];cases b<;>rfl
theorem Afm (l:List Int):Ae C0 Tryz.prog fu (d+1) CJ [.lst false 1 l.length (Af .u8 l)]=some ⟨[.own 3 1 (Ci [⟨3,0,Cd l⟩])],[]⟩:=by
 rw [TN];have L:=Am .u8 l;have bo:=He l;simp (disch:=omega) only [Bx,L,bo];rfl
theorem Abb (hfu:1000<=fu){c:Ce}(hw:c.wf)(hs1:c.subj.size<=9223372036854775807)(hs2:c.iss.size<=9223372036854775807)(e1:¬(c.subj.size<1∨32<c.subj.size)) (e2:¬(c.iss.size<1∨32<c.iss.size)) (nn:Nat):
  Fi fu (Ae C0 Tryz.prog fu (d+6)) c.subj c.iss c.serial c.key.h c.key.root c.fr c.un c.auth c.path c.model c.sig.leaf c.sig.chains.length (Af .u64 c.sig.chains) c.sig.path.length (Af .u64 c.sig.path) (nn+1) c.subj c.iss 2 c.subj c.iss c.serial c.key.h c.key.root c.fr c.un c.auth c.path c.model c.sig.leaf c.sig.chains.length (Af .u64 c.sig.chains) c.sig.path.length (Af .u64 c.sig.path)=some ⟨Gq c,[]⟩:=by
 have v1:=Qj (fu:=fu) (d:=d+5) c.subj hs1;have v2:=Qj (fu:=fu) (d:=d+5) c.iss hs2;have ek:=Afu (xs:=Kd) (fu:=fu) (d:=d+4) hfu c.key;simp only [Ky.cells] at ek;have e90:((9:Int) != 0)=true:=rfl;have e00:((0:Int) != 0)=false:=rfl;rw [Ek,Dj _ _ _ (by omega)]
 cases e3:VW c.subj
 ·have hb:A4 c=6:=by unfold A4;rw [A5 e1,A5 e2,Bv e3]
  rw [e3] at v1;rw [←Ev hb (by omega)]
  try unfold Aa
  repeat first
   |((with_reducible first|apply Aq|apply Ak|apply Ar|apply Ao|apply Aw|apply Bc|apply Dm|apply Aj);· first|with_reducible rfl|(simp (disch:=omega) only [v1,Ck,Cn]<;>with_reducible rfl))
   |((with_reducible first|apply At|apply As);· first|with_reducible rfl|omega|(simp (disch:=omega) only [gT,v1,Ck,Cn]<;>omega))
   |(with_reducible apply Ap;· first|with_reducible rfl|(simp (disch:=omega) only [gF,v1,Ck,Cn]<;>omega))
  try simp (disch:=omega) only [v1,Ck,Cn]
 rw [e3] at v1;cases e4:VW c.iss
 ·have hb:A4 c=6:=by unfold A4;rw [A5 e1,A5 e2,A5 (by simp [e3]),Bv e4]
  rw [e4] at v2;rw [←Ev hb (by omega)]
  try unfold Aa
  repeat first
   |((with_reducible first|apply Aq|apply Ak|apply Ar|apply Ao|apply Aw|apply Bc|apply Dm|apply Aj);· first|with_reducible rfl|(simp (disch:=omega) only [v1,v2,Ck,Cn]<;>with_reducible rfl))
   |((with_reducible first|apply At|apply As);· first|with_reducible rfl|omega|(simp (disch:=omega) only [gT,v1,v2,Ck,Cn]<;>omega))
   |(with_reducible apply Ap;· first|with_reducible rfl|(simp (disch:=omega) only [gF,v1,v2,Ck,Cn]<;>omega))
  try simp (disch:=omega) only [v1,v2,Ck,Cn]
 rw [e4] at v2;cases e5:Dh c.key.h
 rotate_left
 ·have hb:A4 c=9:=by unfold A4;rw [A5 e1,A5 e2,A5 (by simp [e3]),A5 (by simp [e4]),Bv e5]
  rw [e5,Bv rfl] at ek;rw [←Ev hb (by omega)]
  try unfold Aa
  repeat first
   |((with_reducible first|apply Aq|apply Ak|apply Ar|apply Ao|apply Aw|apply Bc|apply Dm|apply Aj);· first|with_reducible rfl|(simp (disch:=omega) only [v1,v2,ek,e90,Ck,Cn]<;>with_reducible rfl))
   |((with_reducible first|apply At|apply As);· first|with_reducible rfl|omega|(simp (disch:=omega) only [gT,v1,v2,ek,e90,Ck,Cn]<;>omega))
   |(with_reducible apply Ap;· first|with_reducible rfl|(simp (disch:=omega) only [gF,v1,v2,ek,e90,Ck,Cn]<;>omega))
  try simp (disch:=omega) only [v1,v2,ek,e90,Ck,Cn]
 rw [e5,A5 (by simp)] at ek
 have B0:A4 c=if c.fr<0 then 9 else if c.un<c.fr then 9 else if c.un>1099511627776 then 9 else if c.path<0∨2<c.path then 9 else if c.path≠0∧c.auth=false then 4 else 0:=by
  unfold A4;rw [A5 e1,A5 e2,A5 (by simp [e3]),A5 (by simp [e4]),A5 (by simp [e5])]
 by_cases e6:c.fr<0
 ·have hb:A4 c=9:=by rw [B0,Bv e6]
  rw [←Ev hb (by omega)]
  try unfold Aa
  repeat first
   |((with_reducible first|apply Aq|apply Ak|apply Ar|apply Ao|apply Aw|apply Bc|apply Dm|apply Aj);· first|with_reducible rfl|(simp (disch:=omega) only [v1,v2,ek,e00,Ck,Cn]<;>with_reducible rfl))
   |((with_reducible first|apply At|apply As);· first|with_reducible rfl|omega|(simp (disch:=omega) only [gT,v1,v2,ek,e00,Ck,Cn]<;>omega))
   |(with_reducible apply Ap;· first|with_reducible rfl|(simp (disch:=omega) only [gF,v1,v2,ek,e00,Ck,Cn]<;>omega))
  try simp (disch:=omega) only [v1,v2,ek,e00,Ck,Cn]
 by_cases e7:c.un<c.fr
 ·have hb:A4 c=9:=by rw [B0,A5 e6,Bv e7]
  rw [←Ev hb (by omega)]
  try unfold Aa
  repeat first
   |((with_reducible first|apply Aq|apply Ak|apply Ar|apply Ao|apply Aw|apply Bc|apply Dm|apply Aj);· first|with_reducible rfl|(simp (disch:=omega) only [v1,v2,ek,e00,Ck,Cn]<;>with_reducible rfl))
   |((with_reducible first|apply At|apply As);· first|with_reducible rfl|omega|(simp (disch:=omega) only [gT,v1,v2,ek,e00,Ck,Cn]<;>omega))
   |(with_reducible apply Ap;· first|with_reducible rfl|(simp (disch:=omega) only [gF,v1,v2,ek,e00,Ck,Cn]<;>omega))
  try simp (disch:=omega) only [v1,v2,ek,e00,Ck,Cn]
 by_cases e8:c.un>1099511627776
 ·have hb:A4 c=9:=by rw [B0,A5 e6,A5 e7,Bv e8]
  rw [←Ev hb (by omega)]
  try unfold Aa
  repeat first
   |((with_reducible first|apply Aq|apply Ak|apply Ar|apply Ao|apply Aw|apply Bc|apply Dm|apply Aj);· first|with_reducible rfl|(simp (disch:=omega) only [v1,v2,ek,e00,Ck,Cn]<;>with_reducible rfl))
   |((with_reducible first|apply At|apply As);· first|with_reducible rfl|omega|(simp (disch:=omega) only [gT,v1,v2,ek,e00,Ck,Cn]<;>omega))
   |(with_reducible apply Ap;· first|with_reducible rfl|(simp (disch:=omega) only [gF,v1,v2,ek,e00,Ck,Cn]<;>omega))
  try simp (disch:=omega) only [v1,v2,ek,e00,Ck,Cn]
 by_cases e9:c.path<0∨2<c.path
 ·have hb:A4 c=9:=by rw [B0,A5 e6,A5 e7,A5 e8,Bv e9]
  rw [←Ev hb (by omega)]
  by_cases e9':c.path<0
  ·skip
   try unfold Aa
   repeat first
    |((with_reducible first|apply Aq|apply Ak|apply Ar|apply Ao|apply Aw|apply Bc|apply Dm|apply Aj);· first|with_reducible rfl|(simp (disch:=omega) only [v1,v2,ek,e00,Ck,Cn]<;>with_reducible rfl))
    |((with_reducible first|apply At|apply As);· first|with_reducible rfl|omega|(simp (disch:=omega) only [gT,v1,v2,ek,e00,Ck,Cn]<;>omega))
    |(with_reducible apply Ap;· first|with_reducible rfl|(simp (disch:=omega) only [gF,v1,v2,ek,e00,Ck,Cn]<;>omega))
   try simp (disch:=omega) only [v1,v2,ek,e00,Ck,Cn]
  ·skip
   try unfold Aa
   repeat first
    |((with_reducible first|apply Aq|apply Ak|apply Ar|apply Ao|apply Aw|apply Bc|apply Dm|apply Aj);· first|with_reducible rfl|(simp (disch:=omega) only [v1,v2,ek,e00,Ck,Cn]<;>with_reducible rfl))
    |((with_reducible first|apply At|apply As);· first|with_reducible rfl|omega|(simp (disch:=omega) only [gT,v1,v2,ek,e00,Ck,Cn]<;>omega))
    |(with_reducible apply Ap;· first|with_reducible rfl|(simp (disch:=omega) only [gF,v1,v2,ek,e00,Ck,Cn]<;>omega))
   try simp (disch:=omega) only [v1,v2,ek,e00,Ck,Cn]
 by_cases e10:c.path≠0∧c.auth=false
 ·have hb:A4 c=4:=by rw [B0,A5 e6,A5 e7,A5 e8,A5 e9,Bv e10]
  have ea:=e10.2;have ep:(c.path != 0)=true:=by simp [e10.1]
  rw [←Ev hb (by omega)]
  try unfold Aa
  repeat first
   |((with_reducible first|apply Aq|apply Ak|apply Ar|apply Ao|apply Aw|apply Bc|apply Dm|apply Aj);· first|with_reducible rfl|(simp (disch:=omega) only [v1,v2,ek,e00,ep,ea,Ck,Cn]<;>with_reducible rfl))
   |((with_reducible first|apply At|apply As);· first|with_reducible rfl|omega|(simp (disch:=omega) only [gT,v1,v2,ek,e00,ep,ea,Ck,Cn]<;>omega))
   |(with_reducible apply Ap;· first|with_reducible rfl|(simp (disch:=omega) only [gF,v1,v2,ek,e00,ep,ea,Ck,Cn]<;>omega))
  try simp (disch:=omega) only [v1,v2,ek,e00,ep,ea,Ck,Cn]
 have hz:A4 c=0:=by rw [B0,A5 e6,A5 e7,A5 e8,A5 e9,A5 e10]
 have hfl:=HN hw hz
 have ar:=Aai (fu:=fu) (d:=d) hfu (vs:=(Wt c).map fun x=>[x]) (by
  intro v hv;obtain ⟨x,hx,rfl⟩:=List.mem_map.1 hv;exact ⟨Afr (hfl x hx),by simp⟩) (by simp [Wt]) (AN hw hz) (by simp [Wt])
 have en:=ZF (fu:=fu) (d:=d+1) hfu (l:=Bb c) (by simp [Bb]) (by simp [Bb];omega) (AN hw hz) (fun x hx=>(AZ hw hz x hx).1) (Nat.le_trans (J3 hz) (by omega))
 have ar':Ae C0 Tryz.prog fu (d+6) Ty [.lst false 1 9 [.lst false 3 1 (Ci [⟨4,0,c.subj⟩]),.lst false 3 1 (Ci [⟨4,0,c.iss⟩]),.lst false 3 1 (Ci [⟨1,c.serial,Gm⟩]),.lst false 3 1 (Ci [⟨3,0,Cd (Jo c.key)⟩]),.lst false 3 1 (Ci [⟨1,c.fr,Gm⟩]),.lst false 3 1 (Ci [⟨1,c.un,Gm⟩]),.lst false 3 1 (Ci [⟨7,(if c.auth=true then 1 else 0),Gm⟩]),.lst false 3 1 (Ci [⟨1,c.path,Gm⟩]),.lst false 3 1 (Ci [⟨1,c.model,Gm⟩])]]=some ⟨[.own 3 10 (Ci (Bb c)),.sc (.int .i64 0)],[]⟩:=ar
 have en':Ae C0 Tryz.prog fu (d+1+5) Ru [.lst false 3 10 (Ci (Bb c))]=some ⟨[.own 1 (Bf (Bb c)).length (Af .u8 (Bf (Bb c))),.sc (.int .i64 0)],[]⟩:=en;clear ar en hfl;have t1:=XA (fu:=fu) (d:=d+5) c.subj;have t2:=XA (fu:=fu) (d:=d+5) c.iss;have u1:=V0 (fu:=fu) (d:=d+5) c.serial;have u2:=V0 (fu:=fu) (d:=d+5) c.fr;have u3:=V0 (fu:=fu) (d:=d+5) c.un;have u4:=V0 (fu:=fu) (d:=d+5) c.path;have u5:=V0 (fu:=fu) (d:=d+5) c.model;have bo:=Ahe (fu:=fu) (d:=d+5) c.auth;have by_:=Afm (fu:=fu) (d:=d+5) (Jo c.key);have k9:(Jo c.key).length=9:=rfl;rw [k9] at by_;have L9:=Am .u8 (Jo c.key);rw [k9] at L9;have tk9:List.take 9 (Af .u8 (Jo c.key))=Af .u8 (Jo c.key):=To (by omega)
 have wf:wrap .u64 c.fr=c.fr:=Cq (by omega) (by omega)
 have wu:wrap .u64 c.un=c.un:=Cq (by omega) (by omega)
 have wp:wrap .u64 c.path=c.path:=Cq (by omega) (by omega)
 have R:Gq c=[.own 1 (Bf (Bb c)).length (Af .u8 (Bf (Bb c))),.sc (.int .i64 0)]:=by unfold Gq;rw [hz,Bv rfl]
 have LB:=Am .u8 (Bf (Bb c));have tB:=J6 .u8 (Bf (Bb c));rw [R];generalize Bf (Bb c)=W at en' LB tB ⊢;have LI:(Ci (Bb c)).length=30:=rfl;have tI:List.take 30 (Ci (Bb c))=Ci (Bb c):=rfl;generalize Ci (Bb c)=I at ar' en' LI tI;have K:∀x:It,List.take 3 (Ci [x])=Ci [x]:=fun _=>rfl
 have N:∀x:It,(Ci [x]).length=3:=fun _=>rfl
 have K1:=K ⟨4,0,c.subj⟩;have K2:=K ⟨4,0,c.iss⟩;have K3:=K ⟨1,c.serial,Gm⟩;have K4:=K ⟨3,0,Cd (Jo c.key)⟩;have K5:=K ⟨1,c.fr,Gm⟩;have K6:=K ⟨1,c.un,Gm⟩;have K7:=K ⟨7,(if c.auth=true then 1 else 0),Gm⟩
 have K8:=K ⟨1,c.path,Gm⟩;have K9:=K ⟨1,c.model,Gm⟩;have N1:=N ⟨4,0,c.subj⟩;have N2:=N ⟨4,0,c.iss⟩;have N3:=N ⟨1,c.serial,Gm⟩;have N4:=N ⟨3,0,Cd (Jo c.key)⟩;have N5:=N ⟨1,c.fr,Gm⟩;have N6:=N ⟨1,c.un,Gm⟩;have N7:=N ⟨7,(if c.auth=true then 1 else 0),Gm⟩
 have N8:=N ⟨1,c.path,Gm⟩;have N9:=N ⟨1,c.model,Gm⟩;generalize Ci [⟨4,0,c.subj⟩]=T1 at *
 generalize Ci [⟨4,0,c.iss⟩]=T2 at *
 generalize Ci [⟨1,c.serial,Gm⟩]=T3 at *
 generalize Ci [⟨3,0,Cd (Jo c.key)⟩]=T4 at *
 generalize Ci [⟨1,c.fr,Gm⟩]=T5 at *
 generalize Ci [⟨1,c.un,Gm⟩]=T6 at *
 generalize Ci [⟨7,(if c.auth=true then 1 else 0),Gm⟩]=T7 at *
 generalize Ci [⟨1,c.path,Gm⟩]=T8 at *
 generalize Ci [⟨1,c.model,Gm⟩]=T9 at *
 generalize Af .u8 (Jo c.key)=KB at *
 by_cases ep:c.path=0
 ·have ep':(c.path != 0)=false:=by simp [ep]
  try unfold Aa
  repeat first
   |((with_reducible first|apply Aq|apply Ak|apply Ar|apply Ao|apply Aw|apply Bc|apply Dm|apply Aj);· first|with_reducible rfl|(simp (disch:=omega) only [v1,v2,ek,e00,ep',t1,t2,u1,u2,u3,u4,u5,bo,by_,wf,wu,wp,L9,tk9,K1,K2,K3,K4,K5,K6,K7,K8,K9,N1,N2,N3,N4,N5,N6,N7,N8,N9,Br,Nat.one_mul,B8,Nat.reduceMul,E6,ar',LI,tI,en',LB,tB,Ck,Cn]<;>with_reducible rfl))
   |((with_reducible first|apply At|apply As);· first|with_reducible rfl|omega|(simp (disch:=omega) only [gT,v1,v2,ek,e00,ep',t1,t2,u1,u2,u3,u4,u5,bo,by_,wf,wu,wp,L9,tk9,K1,K2,K3,K4,K5,K6,K7,K8,K9,N1,N2,N3,N4,N5,N6,N7,N8,N9,Br,Nat.one_mul,B8,Nat.reduceMul,E6,ar',LI,tI,en',LB,tB,Ck,Cn]<;>omega))
   |(with_reducible apply Ap;· first|with_reducible rfl|(simp (disch:=omega) only [gF,v1,v2,ek,e00,ep',t1,t2,u1,u2,u3,u4,u5,bo,by_,wf,wu,wp,L9,tk9,K1,K2,K3,K4,K5,K6,K7,K8,K9,N1,N2,N3,N4,N5,N6,N7,N8,N9,Br,Nat.one_mul,B8,Nat.reduceMul,E6,ar',LI,tI,en',LB,tB,Ck,Cn]<;>omega))
  try simp (disch:=omega) only [v1,v2,ek,e00,ep',t1,t2,u1,u2,u3,u4,u5,bo,by_,wf,wu,wp,L9,tk9,K1,K2,K3,K4,K5,K6,K7,K8,K9,N1,N2,N3,N4,N5,N6,N7,N8,N9,Br,Nat.one_mul,B8,Nat.reduceMul,E6,ar',LI,tI,en',LB,tB,Ck,Cn]
 ·have ea:c.auth=true:=by
   cases h:c.auth
   ·exact absurd ⟨ep,h⟩ e10
   ·rfl
  have ep':(c.path != 0)=true:=by simp [ep]
  rw [ea] at bo
  try unfold Aa
  repeat first
   |((with_reducible first|apply Aq|apply Ak|apply Ar|apply Ao|apply Aw|apply Bc|apply Dm|apply Aj);· first|with_reducible rfl|(simp (disch:=omega) only [v1,v2,ek,e00,ep',ea,t1,t2,u1,u2,u3,u4,u5,bo,by_,wf,wu,wp,L9,tk9,K1,K2,K3,K4,K5,K6,K7,K8,K9,N1,N2,N3,N4,N5,N6,N7,N8,N9,Br,Nat.one_mul,B8,Nat.reduceMul,E6,ar',LI,tI,en',LB,tB,Ck,Cn]<;>with_reducible rfl))
   |((with_reducible first|apply At|apply As);· first|with_reducible rfl|omega|(simp (disch:=omega) only [gT,v1,v2,ek,e00,ep',ea,t1,t2,u1,u2,u3,u4,u5,bo,by_,wf,wu,wp,L9,tk9,K1,K2,K3,K4,K5,K6,K7,K8,K9,N1,N2,N3,N4,N5,N6,N7,N8,N9,Br,Nat.one_mul,B8,Nat.reduceMul,E6,ar',LI,tI,en',LB,tB,Ck,Cn]<;>omega))
   |(with_reducible apply Ap;· first|with_reducible rfl|(simp (disch:=omega) only [gF,v1,v2,ek,e00,ep',ea,t1,t2,u1,u2,u3,u4,u5,bo,by_,wf,wu,wp,L9,tk9,K1,K2,K3,K4,K5,K6,K7,K8,K9,N1,N2,N3,N4,N5,N6,N7,N8,N9,Br,Nat.one_mul,B8,Nat.reduceMul,E6,ar',LI,tI,en',LB,tB,Ck,Cn]<;>omega))
  try simp (disch:=omega) only [v1,v2,ek,e00,ep',ea,t1,t2,u1,u2,u3,u4,u5,bo,by_,wf,wu,wp,L9,tk9,K1,K2,K3,K4,K5,K6,K7,K8,K9,N1,N2,N3,N4,N5,N6,N7,N8,N9,Br,Nat.one_mul,B8,Nat.reduceMul,E6,ar',LI,tI,en',LB,tB,Ck,Cn]
theorem Abe (hfu:1000<=fu){c:Ce}(hw:c.wf)(hs1:c.subj.size<=9223372036854775807)(hs2:c.iss.size<=9223372036854775807)(nn:Nat)(hn:3<=nn):
  Fi fu (Ae C0 Tryz.prog fu (d+6)) c.subj c.iss c.serial c.key.h c.key.root c.fr c.un c.auth c.path c.model c.sig.leaf c.sig.chains.length (Af .u64 c.sig.chains) c.sig.path.length (Af .u64 c.sig.path) nn c.subj c.iss 0 c.subj c.iss c.serial c.key.h c.key.root c.fr c.un c.auth c.path c.model c.sig.leaf c.sig.chains.length (Af .u64 c.sig.chains) c.sig.path.length (Af .u64 c.sig.path)=some ⟨Gq c,[]⟩:=by
 obtain ⟨m,rfl⟩:∃m,nn=m+1+1+1:=⟨nn-3,by omega⟩
 have g0:List.getD [PV.sc (Value.string c.subj),PV.sc (Value.string c.iss)] (Int.toNat (0:Int)*1) PV.top=.sc (.string c.subj):=rfl;have g1:List.getD [PV.sc (Value.string c.subj),PV.sc (Value.string c.iss)] (Int.toNat (1:Int)*1) PV.top=.sc (.string c.iss):=rfl;have i1:wrap .i64 ((0:Int)+1)=1:=rfl;have i2:wrap .i64 ((1:Int)+1)=2:=rfl;by_cases e1:c.subj.size<1∨32<c.subj.size
 ·have hb:A4 c=9:=by unfold A4;rw [Bv e1]
  rw [←Ev hb (by omega),Ek]
  by_cases e1':c.subj.size<1
  ·skip
   try unfold Aa
   repeat first
    |((with_reducible first|apply Aq|apply Ak|apply Ar|apply Ao|apply Aw|apply Bc|apply Dm|apply Aj);· first|with_reducible rfl|(simp (disch:=omega) only [g0]<;>with_reducible rfl))
    |((with_reducible first|apply At|apply As);· first|with_reducible rfl|omega|(simp (disch:=omega) only [gT,g0]<;>omega))
    |(with_reducible apply Ap;· first|with_reducible rfl|(simp (disch:=omega) only [gF,g0]<;>omega))
   try simp (disch:=omega) only [g0]
  ·skip
   try unfold Aa
   repeat first
    |((with_reducible first|apply Aq|apply Ak|apply Ar|apply Ao|apply Aw|apply Bc|apply Dm|apply Aj);· first|with_reducible rfl|(simp (disch:=omega) only [g0]<;>with_reducible rfl))
    |((with_reducible first|apply At|apply As);· first|with_reducible rfl|omega|(simp (disch:=omega) only [gT,g0]<;>omega))
    |(with_reducible apply Ap;· first|with_reducible rfl|(simp (disch:=omega) only [gF,g0]<;>omega))
   try simp (disch:=omega) only [g0]
 rw [Ek];by_cases e2:c.iss.size<1∨32<c.iss.size
 ·have hb:A4 c=9:=by unfold A4;rw [A5 e1,Bv e2]
  rw [←Ev hb (by omega)]
  try unfold Aa
  repeat first
   |((with_reducible first|apply Aq|apply Ak|apply Ar|apply Ao|apply Aw|apply Bc|apply Dm|apply Aj);· first|with_reducible rfl|(simp (disch:=omega) only [g0,i1]<;>with_reducible rfl))
   |((with_reducible first|apply At|apply As);· first|with_reducible rfl|omega|(simp (disch:=omega) only [gT,g0,i1]<;>omega))
   |(with_reducible apply Ap;· first|with_reducible rfl|(simp (disch:=omega) only [gF,g0,i1]<;>omega))
  try simp (disch:=omega) only [g0,i1]
  rw [Ek];by_cases e2':c.iss.size<1
  ·skip
   try unfold Aa
   repeat first
    |((with_reducible first|apply Aq|apply Ak|apply Ar|apply Ao|apply Aw|apply Bc|apply Dm|apply Aj);· first|with_reducible rfl|(simp (disch:=omega) only [g1]<;>with_reducible rfl))
    |((with_reducible first|apply At|apply As);· first|with_reducible rfl|omega|(simp (disch:=omega) only [gT,g1]<;>omega))
    |(with_reducible apply Ap;· first|with_reducible rfl|(simp (disch:=omega) only [gF,g1]<;>omega))
   try simp (disch:=omega) only [g1]
  ·skip
   try unfold Aa
   repeat first
    |((with_reducible first|apply Aq|apply Ak|apply Ar|apply Ao|apply Aw|apply Bc|apply Dm|apply Aj);· first|with_reducible rfl|(simp (disch:=omega) only [g1]<;>with_reducible rfl))
    |((with_reducible first|apply At|apply As);· first|with_reducible rfl|omega|(simp (disch:=omega) only [gT,g1]<;>omega))
    |(with_reducible apply Ap;· first|with_reducible rfl|(simp (disch:=omega) only [gF,g1]<;>omega))
   try simp (disch:=omega) only [g1]
 try unfold Aa
 repeat first
  |((with_reducible first|apply Aq|apply Ak|apply Ar|apply Ao|apply Aw|apply Bc|apply Dm|apply Aj);· first|with_reducible rfl|(simp (disch:=omega) only [g0,i1]<;>with_reducible rfl))
  |((with_reducible first|apply At|apply As);· first|with_reducible rfl|omega|(simp (disch:=omega) only [gT,g0,i1]<;>omega))
  |(with_reducible apply Ap;· first|with_reducible rfl|(simp (disch:=omega) only [gF,g0,i1]<;>omega))
 try simp (disch:=omega) only [g0,i1]
 rw [Ek]
 try unfold Aa
 repeat first
  |((with_reducible first|apply Aq|apply Ak|apply Ar|apply Ao|apply Aw|apply Bc|apply Dm|apply Aj);· first|with_reducible rfl|(simp (disch:=omega) only [g1,i2]<;>with_reducible rfl))
  |((with_reducible first|apply At|apply As);· first|with_reducible rfl|omega|(simp (disch:=omega) only [gT,g1,i2]<;>omega))
  |(with_reducible apply Ap;· first|with_reducible rfl|(simp (disch:=omega) only [gF,g1,i2]<;>omega))
 try simp (disch:=omega) only [g1,i2]
 exact Abb hfu hw hs1 hs2 e1 e2 m
theorem MP (hfu:1000<=fu){c:Ce}(hw:c.wf)(hs1:c.subj.size<=9223372036854775807)(hs2:c.iss.size<=9223372036854775807):Ae C0 Tryz.prog fu (d+7) Qr [.agg c.cells]=some ⟨Gq c,[]⟩:=
 (AW fu (d+6) c.subj c.iss c.serial c.key.h c.key.root c.fr c.un c.auth c.path c.model c.sig.leaf c.sig.chains.length (Af .u64 c.sig.chains) c.sig.path.length (Af .u64 c.sig.path)).trans (Abe hfu hw hs1 hs2 fu (by omega))
end
end
section
open Go.IntKind (wrap)
def IW (c:Ce):List PV:=if A4 c=0 then [.sc (.int .u64 (Kj c)),.sc (.int .i64 0)] else [.sc (.int .u64 0),.sc (.int .i64 (A4 c))]
section
variable {fu d:Nat} {c:Ce}
theorem WE (hfu:1000<=fu)(hw:c.wf)(hs1:c.subj.size<=9223372036854775807)(hs2:c.iss.size<=9223372036854775807):Ae C0 Tryz.prog fu (d+8) Qi [.agg c.cells]=some ⟨IW c,[]⟩:=by
 refine (AX fu (d+7) c.subj c.iss c.serial c.key.h c.key.root c.fr c.un c.auth c.path c.model c.sig.leaf c.sig.chains.length (Af .u64 c.sig.chains) c.sig.path.length (Af .u64 c.sig.path)).trans ?_;have bq:=MP (fu:=fu) (d:=d) hfu hw hs1 hs2;simp only [Ce.cells] at bq;unfold Gq at bq;unfold IW;by_cases h0:A4 c=0
 ·have lb:=J3 h0;rw [Bv h0] at bq;rw [Bv h0];have e00:((0:Int) != 0)=false:=rfl;have hh:=Acz (xs:=Kd) (fu:=fu) (d:=d+2) (Xr hw h0) (by omega) (by omega) (by omega) 14
  have eW:My 14 (Bf (Bb c))=Kj c:=rfl;rw [eW] at hh;have L1:=Am .u8 (Bf (Bb c));have t1:=J6 .u8 (Bf (Bb c));generalize (Bf (Bb c)).length=n1 at *
  generalize Af .u8 (Bf (Bb c))=c1 at *
  try unfold Aa
  repeat first
   |((with_reducible first|apply Aq|apply Ak|apply Ar|apply Bc|apply Aj);· first|with_reducible rfl|(simp (disch:=omega) only [bq,e00,B8,Br,E6,L1,t1,hh]<;>with_reducible rfl))
   |((with_reducible first|apply At|apply As);· first|with_reducible rfl|omega|(simp (disch:=omega) only [gT,bq,e00,B8,Br,E6,L1,t1,hh]<;>omega))
   |(with_reducible apply Ap;· first|with_reducible rfl|(simp (disch:=omega) only [gF,bq,e00,B8,Br,E6,L1,t1,hh]<;>omega))
  try simp (disch:=omega) only [bq,e00,B8,Br,E6,L1,t1,hh]
  all_goals rfl
 ·have hne:(A4 c != 0)=true:=by simp [h0]
  rw [A5 h0] at bq;rw [A5 h0]
  try unfold Aa
  repeat first
   |((with_reducible first|apply Aq|apply Ak|apply Ar|apply Bc|apply Aj);· first|with_reducible rfl|(simp (disch:=omega) only [bq,hne]<;>with_reducible rfl))
   |((with_reducible first|apply At|apply As);· first|with_reducible rfl|omega|(simp (disch:=omega) only [gT,bq,hne]<;>omega))
   |(with_reducible apply Ap;· first|with_reducible rfl|(simp (disch:=omega) only [gF,bq,hne]<;>omega))
  try simp (disch:=omega) only [bq,hne]
  all_goals rfl
theorem WR (hfu:1000<=fu)(hw:c.wf)(hs1:c.subj.size<=9223372036854775807)(hs2:c.iss.size<=9223372036854775807)(k:Ky):Ae C0 Tryz.prog fu (d+9) M4 [.agg c.cells,.agg k.cells]=some ⟨[.sc (.int .i64 (Ns c k))],[]⟩:=by
 refine (Wh fu (d+8) c.subj c.iss c.serial c.key.h c.key.root c.fr c.un c.auth c.path c.model c.sig.leaf c.sig.chains.length (Af .u64 c.sig.chains) c.sig.path.length (Af .u64 c.sig.path) k.h k.root).trans ?_;have bq:=WE (fu:=fu) (d:=d) hfu hw hs1 hs2;simp only [Ce.cells] at bq;unfold IW at bq;unfold Ns;by_cases h0:A4 c=0
 ·rw [Bv h0] at bq;rw [Bv h0];have e00:((0:Int) != 0)=false:=rfl;have vr:=Ae6 (xs:=Kd) (fu:=fu) (d:=d) hfu k (Kj c) c.sig;simp only [Ky.cells,Sg.cells] at vr
  try unfold Aa
  repeat first
   |((with_reducible first|apply Aq|apply Ak|apply Ar|apply Bc|apply Aj);· first|with_reducible rfl|(simp (disch:=omega) only [bq,e00,vr]<;>with_reducible rfl))
   |((with_reducible first|apply At|apply As);· first|with_reducible rfl|omega|(simp (disch:=omega) only [gT,bq,e00,vr]<;>omega))
   |(with_reducible apply Ap;· first|with_reducible rfl|(simp (disch:=omega) only [gF,bq,e00,vr]<;>omega))
  try simp (disch:=omega) only [bq,e00,vr]
  all_goals rfl
 ·have hne:(A4 c != 0)=true:=by simp [h0]
  rw [A5 h0] at bq;rw [A5 h0]
  try unfold Aa
  repeat first
   |((with_reducible first|apply Aq|apply Ak|apply Ar|apply Bc|apply Aj);· first|with_reducible rfl|(simp (disch:=omega) only [bq,hne]<;>with_reducible rfl))
   |((with_reducible first|apply At|apply As);· first|with_reducible rfl|omega|(simp (disch:=omega) only [gT,bq,hne]<;>omega))
   |(with_reducible apply Ap;· first|with_reducible rfl|(simp (disch:=omega) only [gF,bq,hne]<;>omega))
  try simp (disch:=omega) only [bq,hne]
  all_goals rfl
theorem Acn (hfu:1000<=fu)(hw:c.wf)(hs1:c.subj.size<=9223372036854775807)(hs2:c.iss.size<=9223372036854775807)(hp:c.sig.path.length<=1000000000)(hf:c.sig.path.length<fu):Ae C0 Tryz.prog fu (d+8) Nc [.agg c.cells]=some ⟨UL c,[]⟩:=by
 refine (Wk fu (d+7) c.subj c.iss c.serial c.key.h c.key.root c.fr c.un c.auth c.path c.model c.sig.leaf c.sig.chains.length (Af .u64 c.sig.chains) c.sig.path.length (Af .u64 c.sig.path)).trans ?_;have bq:=MP (fu:=fu) (d:=d) hfu hw hs1 hs2;simp only [Ce.cells] at bq;have es:=Af1 (xs:=Kd) (fu:=fu) (d:=d+5) hfu c.sig hp hf;simp only [Sg.cells] at es;unfold Gq at bq;unfold UL Fe;by_cases h0:A4 c=0
 ·have lb:=J3 h0;rw [Bv h0] at bq;rw [Bv h0];have L1:=Am .u8 (Bf (Bb c));have t1:=J6 .u8 (Bf (Bb c));have e00:((0:Int) != 0)=false:=rfl;have e90:((9:Int) != 0)=true:=rfl;have e40:((4:Int) != 0)=true:=rfl;unfold LQ;by_cases g1:Dh c.sig.path.length=true
  ·rw [Bv g1] at es;rw [Bv g1,A5 (by omega)]
   try unfold Aa
   repeat first
    |((with_reducible first|apply Aq|apply Ak|apply Ar|apply Bc|apply Aj);· first|with_reducible rfl|(simp (disch:=omega) only [bq,es,e00,e90]<;>with_reducible rfl))
    |((with_reducible first|apply At|apply As);· first|with_reducible rfl|omega|(simp (disch:=omega) only [gT,bq,es,e00,e90]<;>omega))
    |(with_reducible apply Ap;· first|with_reducible rfl|(simp (disch:=omega) only [gF,bq,es,e00,e90]<;>omega))
   try simp (disch:=omega) only [bq,es,e00,e90]
   all_goals rfl
  rw [A5 g1] at es;rw [A5 g1];by_cases g2:Io c.sig.leaf c.sig.path.length=true
  ·rw [Bv g2] at es;rw [Bv g2,A5 (by omega)]
   try unfold Aa
   repeat first
    |((with_reducible first|apply Aq|apply Ak|apply Ar|apply Bc|apply Aj);· first|with_reducible rfl|(simp (disch:=omega) only [bq,es,e00,e90]<;>with_reducible rfl))
    |((with_reducible first|apply At|apply As);· first|with_reducible rfl|omega|(simp (disch:=omega) only [gT,bq,es,e00,e90]<;>omega))
    |(with_reducible apply Ap;· first|with_reducible rfl|(simp (disch:=omega) only [gF,bq,es,e00,e90]<;>omega))
   try simp (disch:=omega) only [bq,es,e00,e90]
   all_goals rfl
  rw [A5 g2] at es;rw [A5 g2];by_cases g3:c.sig.chains.length≠18
  ·rw [Bv g3] at es;rw [Bv g3,A5 (by omega)]
   try unfold Aa
   repeat first
    |((with_reducible first|apply Aq|apply Ak|apply Ar|apply Bc|apply Aj);· first|with_reducible rfl|(simp (disch:=omega) only [bq,es,e00,e40]<;>with_reducible rfl))
    |((with_reducible first|apply At|apply As);· first|with_reducible rfl|omega|(simp (disch:=omega) only [gT,bq,es,e00,e40]<;>omega))
    |(with_reducible apply Ap;· first|with_reducible rfl|(simp (disch:=omega) only [gF,bq,es,e00,e40]<;>omega))
   try simp (disch:=omega) only [bq,es,e00,e40]
   all_goals rfl
  rw [A5 g3] at es;rw [A5 g3,Bv rfl];have hb4:=Hx (h:=c.sig.path.length) (by simpa using g1)
  have ls:(EJ c.sig).length=2+8*c.sig.chains.length+8*c.sig.path.length:=by
   unfold EJ;simp only [Ja,Kt,Dn];omega
  have L2:=Am .u8 (EJ c.sig);have t2:=J6 .u8 (EJ c.sig)
  have ea:Af .u8 (Bf (Bb c))++Af .u8 (EJ c.sig)=Af .u8 (H5 c):=by
   unfold H5;rw [Af,Af,Af,List.flatMap_append]
  have le:(H5 c).length=(Bf (Bb c)).length+(EJ c.sig).length:=by unfold H5;rw [Kt]
  have L3:=Am .u8 (H5 c);have t3:List.take ((Bf (Bb c)).length+(EJ c.sig).length) (Af .u8 (H5 c))=Af .u8 (H5 c):=To (by omega)
  rw [le] at L3 ⊢;generalize (Bf (Bb c)).length=n1 at *
  generalize (EJ c.sig).length=n2 at *
  generalize Af .u8 (Bf (Bb c))=c1 at *
  generalize Af .u8 (EJ c.sig)=c2 at *
  try unfold Aa
  repeat first
   |((with_reducible first|apply Aq|apply Ak|apply Ar|apply Bc|apply Aj);· first|with_reducible rfl|(simp (disch:=omega) only [bq,es,e00,B8,Br,E6,L1,t1,L2,t2,ea,L3,t3]<;>with_reducible rfl))
   |((with_reducible first|apply At|apply As);· first|with_reducible rfl|omega|(simp (disch:=omega) only [gT,bq,es,e00,B8,Br,E6,L1,t1,L2,t2,ea,L3,t3]<;>omega))
   |(with_reducible apply Ap;· first|with_reducible rfl|(simp (disch:=omega) only [gF,bq,es,e00,B8,Br,E6,L1,t1,L2,t2,ea,L3,t3]<;>omega))
  try simp (disch:=omega) only [bq,es,e00,B8,Br,E6,L1,t1,L2,t2,ea,L3,t3]
  all_goals rfl
 ·have hne:(A4 c != 0)=true:=by simp [h0]
  rw [A5 h0] at bq;rw [A5 h0,A5 h0]
  try unfold Aa
  repeat first
   |((with_reducible first|apply Aq|apply Ak|apply Ar|apply Bc|apply Aj);· first|with_reducible rfl|(simp (disch:=omega) only [bq,hne]<;>with_reducible rfl))
   |((with_reducible first|apply At|apply As);· first|with_reducible rfl|omega|(simp (disch:=omega) only [gT,bq,hne]<;>omega))
   |(with_reducible apply Ap;· first|with_reducible rfl|(simp (disch:=omega) only [gF,bq,hne]<;>omega))
  try simp (disch:=omega) only [bq,hne]
  all_goals rfl
end
end
section
open Go.IntKind (wrap)
theorem aci {its:List It}{i:Nat}{x:It}(h:its[i]?=some x):(Ci its).getD (i*3) .top=.sc (.int .i64 x.k)∧(Ci its).getD (i*3+1) .top=.sc (.int .u64 x.n)∧(Ci its).getD (i*3+2) .top=.sc (.string x.s):=
 ⟨Ef It.cells_len h (j:=0) (by omega),Ef It.cells_len h (j:=1) (by omega),Ef It.cells_len h (j:=2) (by omega)⟩
def Ny:List Int:=[5,4,4,1,3,1,1,7,1,1]
def Ub (its:List It):Bool:=its.map (·.k)==Ny
section
variable {fu d:Nat}
theorem GT {call:Ah}{a0n:Nat}{a0:List PV}{its:List It}(h10:its.length=10):∀(r:List It)(rk:List Int)(i nn:Nat),its.drop i=r->Ny.drop i=rk->r.length<nn->i<=10 ->
  F3 fu call a0n a0 nn its.length (Ci its) (its.length:Int) (i:Int) (Af .i64 Ny)=some ⟨[.sc (.bool (r.map (·.k)==rk))],[]⟩
 |_,_,_,0,_,_,h,_=>by omega
 |[],rk,i,nn+1,h,hk,hn,hi=>by
  have:=drop_nil h;obtain rfl:i=10:=by omega
  subst hk;rw [Jz,Dj _ _ _ (by omega)]
  rfl
 |x::r,rk,i,nn+1,h,hk,hn,hi=>by
  obtain ⟨h1,h2,h3⟩:=B3 h;simp only [Ja] at hn;obtain ⟨k,hk1⟩:∃k,Ny[i]?=some k:=⟨_,List.getElem?_eq_getElem (by show i<10;omega)⟩
  have hk2:rk=k::Ny.drop (i+1):=by
   rw [←hk,List.drop_eq_getElem_cons (by show i<10;omega)]
   congr 1
   rw [List.getElem?_eq_getElem (by show i<10;omega)] at hk1
   injection hk1
  subst hk2;have w:wrap .i64 ((i:Int)+1)=((i+1:Nat):Int):=by rw [Al (by omega) (by omega)];omega
  obtain ⟨c0,c1,c2⟩:=aci h2;have ck:=Vf (k:=.i64) hk1;have ih:=GT (call:=call) (a0n:=a0n) (a0:=a0) h10 r _ (i+1) nn h3 rfl (by omega) (by omega)
  rw [Jz,Zzw];by_cases e:x.k=k
  ·have b0:(x.k != k)=false:=by simp [e]
   have e1:(x.k::List.map (·.k) r==k::Ny.drop (i+1))=(List.map (·.k) r==Ny.drop (i+1)):=by simp [e]
   rw [e1,←ih];simp (disch:=omega) only [Bx,Gy,B8,Br,c0,c1,c2,ck,b0,w]
  ·have b0:(x.k != k)=true:=by simp [e]
   have e1:(x.k::List.map (·.k) r==k::Ny.drop (i+1))=false:=by simp [e]
   rw [e1];simp (disch:=omega) only [Bx,Gy,B8,Br,c0,c1,c2,ck,b0,w]
theorem Aeq (hfu:1000<=fu)(its:List It):Ae C0 Tryz.prog fu (d+1) Nk [.lst false 3 its.length (Ci its)]=some ⟨[.sc (.bool (Ub its))],[]⟩:=by
 rw [Wd];show Ht _ _ _ _ _ _ _=_;rw [S3 (hnn:=by omega),Tj (hnn:=by omega)]
 by_cases h:its.length=10
 ·have b0:((its.length:Int) != 10)=false:=by simp;omega
  rw [b0,Aab];exact GT (call:=Ae C0 Tryz.prog fu d) h its Ny 0 fu rfl rfl (by omega) (by omega)
 ·have b0:((its.length:Int) != 10)=true:=by simp;omega
  have e:Ub its=false:=by
   unfold Ub;cases q:(its.map (·.k)==Ny)
   ·rfl
   ·have:=congrArg List.length (eq_of_beq q);simp [Ny] at this;omega
  rw [b0,Aa6,e]
theorem Aa5 {a b:List Int}(ha:Kx a)(hb:Kx b)(h:(a.map fun n=>n.toNat.toUInt8)=(b.map fun n=>n.toNat.toUInt8)):a=b:=by
 have e:Cd a=Cd b:=by unfold Cd;rw [h]
 rw [←O1 ha,←O1 hb,e]
theorem A63 {a b:List Int}(ha:Kx a)(hb:Kx b):(Array.toList (ByteArray.data (ByteArray.mk (List.toArray (a.map fun n=>n.toNat.toUInt8))))==Array.toList (ByteArray.data (ByteArray.mk (List.toArray (b.map fun n=>n.toNat.toUInt8)))))=decide (a=b):=by
 by_cases h:a=b
 ·subst h;simp
 ·have:(List.map (fun n=>n.toNat.toUInt8) a)≠(List.map (fun n=>n.toNat.toUInt8) b):=fun e=>h (Aa5 ha hb e)
  simp only [h,decide_false]
  simpa using this
theorem OT {a b:List Int}(ha:Kx a)(hb:Kx b):Ae C0 Tryz.prog fu (d+1) Y3 [.lst false 1 a.length (Af .u8 a),.lst false 1 b.length (Af .u8 b)]=some ⟨[.sc (.bool (decide (a=b)))],[]⟩:=by
 rw [OI];have La:=Am .u8 a;have Lb:=Am .u8 b;have ba:=He a;have bb:=He b;have q:=A63 ha hb;simp (disch:=omega) only [Bx,La,Lb,ba,bb,q]
end
structure Ce.ok (c:Ce):Prop where
 ser:isU c.serial
 mod:isU c.model
 root:isU c.key.root
 sg:c.sig.ok
theorem Ce.ok.wf {c:Ce}(h:c.ok):c.wf:=⟨h.ser.1,h.mod.1⟩
def Of (x1 x2 x3 x5 x6 x7 x8 x9:It)(k:Ky)(s:Sg):Ce:=⟨x1.s,x2.s,x3.n,k,wrap .i64 x5.n,wrap .i64 x6.n,x7.n==1,wrap .i64 x8.n,x9.n,s⟩
def RE (b:List Int):Option Ce:=
 if (Ju 1000 [] 0 b 0 []).2.2≠0 then none else
 match (Ju 1000 [] 0 b 0 []).1 with
 |[_,x1,x2,x3,x4,x5,x6,x7,x8,x9]=>(match JY (I7 x4.s),sgD (b.drop (Ju 1000 [] 0 b 0 []).2.1) with|some k,some s=>some (Of x1 x2 x3 x5 x6 x7 x8 x9 k s)|_,_=>none)
 |_=>none
def TY (b:List Int):Ce × Int:=
 if b.length>512 then (ZL,8) else match RE b with|some c=>if Fe c=0∧H5 c=b∧c.serial<=18446744073709551615∧c.model<=18446744073709551615 then (c,0) else (ZL,2)|none=>(ZL,2)
theorem Te {c:Ce}(h:Fe c=0):A4 c=0∧Dh c.key.h=false∧Dh c.sig.path.length=false∧Io c.sig.leaf c.sig.path.length=false∧c.sig.chains.length=18∧0<=c.fr∧c.fr<=c.un∧c.un<=1099511627776∧0<=c.path∧c.path<=2:=by
 unfold Fe at h;by_cases h0:A4 c=0
 rotate_left
 ·rw [A5 h0] at h;exact absurd h h0
 rw [Bv h0] at h;unfold LQ at h;have hb:=h0;unfold A4 at hb
 repeat' (split at h;· cases h)
 repeat' (split at hb;· cases hb)
 refine ⟨h0,by simp_all,by simp_all,by simp_all,by omega,by omega,by omega,by omega,by omega,by omega⟩
theorem WW {c:Ce}(hc:c.ok)(h:Fe c=0){m:Nat}(hm:10<m):Ju m [] 0 (H5 c) 0 []=(Bb c,(Bf (Bb c)).length,0):=by
 obtain ⟨h0,h1,h2,h3,h4,h5,h6,h7,h8,h9⟩:=Te h
 have r:=PH (b:=H5 c) (rest:=EJ c.sig) (Bb c) [] 0 0 m [] (AN hc.wf h0) (by
  intro x hx;have u1:=hc.ser;have u2:=hc.mod;simp only [Bb,List.mem_cons,List.not_mem_nil,or_false] at hx;rcases hx with rfl|rfl|rfl|rfl|rfl|rfl|rfl|rfl|rfl|rfl
  all_goals simp only
  all_goals try split
  all_goals omega) rfl (by simpa [Bb] using hm)
 simpa using r
theorem JL {c:Ce}(h:Fe c=0):Of ⟨4,0,c.subj⟩ ⟨4,0,c.iss⟩ ⟨1,c.serial,Gm⟩ ⟨1,c.fr,Gm⟩ ⟨1,c.un,Gm⟩ ⟨7,(if c.auth=true then 1 else 0),Gm⟩ ⟨1,c.path,Gm⟩ ⟨1,c.model,Gm⟩ c.key c.sig=c:=by
 obtain ⟨h0,h1,h2,h3,h4,h5,h6,h7,h8,h9⟩:=Te h;obtain ⟨subj,iss,serial,key,fr,un,auth,path,model,sig⟩:=c;simp only at *
 unfold Of;simp only;rw [Al (by omega) (by omega),Al (by omega) (by omega),Al (by omega) (by omega)]
 cases auth<;>rfl
theorem KE {c:Ce}(h:Fe c=0):(H5 c).length<=400:=by
 obtain ⟨h0,h1,h2,h3,h4,h5,h6,h7,h8,h9⟩:=Te h;have:=J3 h0;have hb:=Hx h2;unfold H5 EJ;simp only [Kt,Ja,Dn];omega
theorem Ajg {c:Ce}(hw:c.wf)(h:Fe c=0):Kx (H5 c):=by
 intro x hx;rcases List.mem_append.1 hx with hx|hx
 ·exact Xr hw (Te h).1 x hx
 ·exact Atm _ x hx
theorem Ahr {c:Ce}(hc:c.ok)(h:Fe c=0):JY (I7 (Cd (Jo c.key)))=some c.key:=by
 rw [O1 Aqj];exact Af3 (Te h).2.1 hc.root
theorem Amz {c:Ce}(hc:c.ok)(h:Fe c=0):sgD ((H5 c).drop (Bf (Bb c)).length)=some c.sig:=by
 obtain ⟨h0,h1,h2,h3,h4,h5,h6,h7,h8,h9⟩:=Te h;unfold H5;rw [List.drop_left' rfl];exact Amh hc.sg h2 h3 h4
theorem XC {c:Ce}(hc:c.ok)(h:Fe c=0):TY (H5 c)=(c,0):=by
 have r:=WW hc h (m:=1000) (by omega)
 have k:=Ahr hc h;have s:=Amz hc h;have cs:=JL h;have l:=KE h;have u1:=hc.ser;have u2:=hc.mod
 have:RE (H5 c)=some c:=by
  unfold RE;rw [r];simp only [Bb];simp only [Bb] at s;rw [A5 (by simp),k,s]
  simp only [cs]
 unfold TY;rw [A5 (by omega),this]
 simp only;rw [Bv ⟨h,by trivial,u1.2,u2.2⟩]
theorem NK {x1 x2 x3 x5 x6 x7 x8 x9:It}{k:Ky}{s:Sg}(h3:OkX x3)(h9:OkX x9)(hk:isU k.root)(hs:s.ok):(Of x1 x2 x3 x5 x6 x7 x8 x9 k s).ok:=⟨⟨h3.n0,h3.n1⟩,⟨h9.n0,h9.n1⟩,hk,hs⟩
theorem Ahs {b:List Int}(hb:Kx b){c:Ce}(h:RE b=some c):c.ok:=by
 have ok:=(CU hb 1000 [] 0 0 [] (by omega) (by simp)).2
 unfold RE at h;split at h
 ·cases h
 ·split at h
  ·rename_i e;rw [e] at ok;split at h
   ·rename_i hk hs;cases h;exact NK (ok _ (by simp)) (ok _ (by simp)) (SY hk).2 (Abf hs).1
   ·cases h
  ·cases h
theorem Afe {b:List Int}(hB:Kx b)(hl:b.length<=512)(hn:∀c:Ce,c.ok->Fe c=0->H5 c≠b):TY b=(ZL,2):=by
 unfold TY;rw [A5 (by omega)]
 cases h:RE b with
 |none=>rfl
 |some c=>
  simp only;rw [A5];intro ⟨h1,h2,_⟩;exact hn c (Ahs hB h) h1 h2
end
section
open Go.IntKind (wrap)
def Agc (b:List Int)(used:Nat):List It->Ce × Int
 |[_,x1,x2,x3,x4,x5,x6,x7,x8,x9]=>(match JY (I7 x4.s),sgD (b.drop used) with
  |some k,some s=>if Fe (Of x1 x2 x3 x5 x6 x7 x8 x9 k s)=0∧H5 (Of x1 x2 x3 x5 x6 x7 x8 x9 k s)=b then (Of x1 x2 x3 x5 x6 x7 x8 x9 k s,0) else (ZL,2)
  |_,_=>(ZL,2))
 |_=>(ZL,2)
def GJ (b:List Int)(r:List It × Nat × Int):Ce × Int:=
 if b.length>512 then (ZL,8) else if r.2.2≠0 then (ZL,2) else if Ub r.1=false then (ZL,2) else Agc b r.2.1 r.1
theorem WL {its:List It}(h:Ub its=true):its.length=10:=by
 have:=congrArg List.length (eq_of_beq h)
 simpa [Ny] using this
theorem Akk {its:List It}(h:its.length=10):∃x0 x1 x2 x3 x4 x5 x6 x7 x8 x9,its=[x0,x1,x2,x3,x4,x5,x6,x7,x8,x9]:=by
 match its,h with
 |[x0,x1,x2,x3,x4,x5,x6,x7,x8,x9],_=>exact ⟨x0,x1,x2,x3,x4,x5,x6,x7,x8,x9,rfl⟩
theorem Ai6 {c:Ce}(hc:c.ok)(h:Fe c=0):Agc (H5 c) (Bf (Bb c)).length (Bb c)=(c,0):=by
 have k:=Ahr hc h;have s:=Amz hc h;have cs:=JL h
 have e:Agc (H5 c) (Bf (Bb c)).length (Bb c)=(match JY (I7 (Cd (Jo c.key))),sgD ((H5 c).drop (Bf (Bb c)).length) with
  |some k,some s=>if Fe (Of ⟨4,0,c.subj⟩ ⟨4,0,c.iss⟩ ⟨1,c.serial,Gm⟩ ⟨1,c.fr,Gm⟩ ⟨1,c.un,Gm⟩ ⟨7,(if c.auth=true then 1 else 0),Gm⟩ ⟨1,c.path,Gm⟩ ⟨1,c.model,Gm⟩ k s)=0∧H5 (Of ⟨4,0,c.subj⟩ ⟨4,0,c.iss⟩ ⟨1,c.serial,Gm⟩ ⟨1,c.fr,Gm⟩ ⟨1,c.un,Gm⟩ ⟨7,(if c.auth=true then 1 else 0),Gm⟩ ⟨1,c.path,Gm⟩ ⟨1,c.model,Gm⟩ k s)=H5 c then (Of ⟨4,0,c.subj⟩ ⟨4,0,c.iss⟩ ⟨1,c.serial,Gm⟩ ⟨1,c.fr,Gm⟩ ⟨1,c.un,Gm⟩ ⟨7,(if c.auth=true then 1 else 0),Gm⟩ ⟨1,c.path,Gm⟩ ⟨1,c.model,Gm⟩ k s,0) else (ZL,2)
  |_,_=>(ZL,2)):=rfl
 rw [e,k,s];simp only [cs];rw [Bv ⟨h,by trivial⟩]
theorem Ae9 {b:List Int}{used:Nat}{its:List It}(hx:∀x∈its,OkX x)(hn:∀c:Ce,c.ok->Fe c=0->H5 c≠b):Agc b used its=(ZL,2):=by
 unfold Agc;split
 ·split
  ·rename_i hk hs;rw [A5];intro ⟨h1,h2⟩;exact hn _ (NK (hx _ (by simp)) (hx _ (by simp)) (SY hk).2 (Abf hs).1) h1 h2
  ·rfl
 ·rfl
theorem Ad0 (c:Ce):Ub (Bb c)=true:=rfl
theorem Ajr {b:List Int}(hb:Kx b){r:List It × Nat × Int}(hx:∀x∈r.1,OkX x)(hc:∀c:Ce,c.ok->Fe c=0->H5 c=b->r=(Bb c,(Bf (Bb c)).length,0)):GJ b r=TY b:=by
 by_cases h5:b.length>512
 ·unfold GJ TY;rw [Bv h5,Bv h5]
 by_cases hex:∃c:Ce,c.ok∧Fe c=0∧H5 c=b
 ·obtain ⟨c,c1,c2,c3⟩:=hex;have e:=hc c c1 c2 c3;subst c3;rw [XC c1 c2,e];unfold GJ;rw [A5 h5,A5 (by simp),A5 (by simp [Ad0])]
  exact Ai6 c1 c2
 ·have hn:∀c:Ce,c.ok->Fe c=0->H5 c≠b:=fun c h1 h2 h3=>hex ⟨c,h1,h2,h3⟩
  rw [Afe hb (by omega) hn]
  unfold GJ;rw [A5 h5,Ae9 hx hn];split
  ·rfl
  ·split<;>rfl
section
variable {fu d:Nat}
theorem Aga (hfu:1000<=fu){b:List Int}(hb:Kx b)(hl:b.length<=1000000):
  Ae C0 Tryz.prog fu (d+9) H8 [.lst false 1 b.length (Af .u8 b)]=some ⟨[.agg (GJ b (Ju fu [] 0 b 0 [])).1.cells,.sc (.int .i64 (GJ b (Ju fu [] 0 b 0 [])).2)],[]⟩:=by
 refine (Wc fu (d+8) b.length (Af .u8 b)).trans ?_;have dec:=Afv (fu:=fu) (d:=d+3) hfu hb hl;obtain ⟨hat,hox⟩:=CU hb fu [] 0 0 [] (by omega) (by simp)
 generalize Ju fu [] 0 b 0 []=r at dec hat hox ⊢;obtain ⟨its,used,e⟩:=r;simp only at hat hox;unfold Ab0 at dec;simp only at dec;unfold GJ;simp only;by_cases h5:b.length>512
 ·rw [Bv h5]
  try unfold Aa
  repeat first
   |((with_reducible first|apply Aq|apply Ak|apply Ar|apply Ao|apply Aw|apply Bc|apply Bu|apply Aj);· first|with_reducible rfl|(simp (disch:=omega) only [B8]<;>with_reducible rfl))
   |((with_reducible first|apply At|apply As);· first|with_reducible rfl|omega|(simp (disch:=omega) only [gT,B8]<;>omega))
   |(with_reducible apply Ap;· first|with_reducible rfl|(simp (disch:=omega) only [gF,B8]<;>omega))
  try simp (disch:=omega) only [B8]
  all_goals rfl
 rw [A5 h5];by_cases he:e=0
 rotate_left
 ·rw [Bv he];have he':(e != 0)=true:=by simp [he]
  try unfold Aa
  repeat first
   |((with_reducible first|apply Aq|apply Ak|apply Ar|apply Ao|apply Aw|apply Bc|apply Bu|apply Aj);· first|with_reducible rfl|(simp (disch:=omega) only [dec,he']<;>with_reducible rfl))
   |((with_reducible first|apply At|apply As);· first|with_reducible rfl|omega|(simp (disch:=omega) only [gT,dec,he']<;>omega))
   |(with_reducible apply Ap;· first|with_reducible rfl|(simp (disch:=omega) only [gF,dec,he']<;>omega))
  try simp (disch:=omega) only [dec,he']
  all_goals rfl
 rw [A5 (by simp [he])]
 subst he;have e00:((0:Int) != 0)=false:=rfl;have e20:((2:Int) != 0)=true:=rfl;have ib:=Aeq (fu:=fu) (d:=d+7) hfu its;have LT:=Ta its;have tT:List.take (its.length*3) (Ci its)=Ci its:=To (by omega)
 cases hib:Ub its
 ·rw [hib] at ib;rw [Bv rfl]
  try unfold Aa
  repeat first
   |((with_reducible first|apply Aq|apply Ak|apply Ar|apply Ao|apply Aw|apply Bc|apply Bu|apply Aj);· first|with_reducible rfl|(simp (disch:=omega) only [dec,e00,E6,Br,LT,tT,ib,Ck,Cn]<;>with_reducible rfl))
   |((with_reducible first|apply At|apply As);· first|with_reducible rfl|omega|(simp (disch:=omega) only [gT,dec,e00,E6,Br,LT,tT,ib,Ck,Cn]<;>omega))
   |(with_reducible apply Ap;· first|with_reducible rfl|(simp (disch:=omega) only [gF,dec,e00,E6,Br,LT,tT,ib,Ck,Cn]<;>omega))
  try simp (disch:=omega) only [dec,e00,E6,Br,LT,tT,ib,Ck,Cn]
  all_goals rfl
 rw [hib] at ib;rw [A5 (by simp)]
 have h10:=WL hib;obtain ⟨x0,x1,x2,x3,x4,x5,x6,x7,x8,x9,rfl⟩:=Akk h10;clear hib;have o1:=hox x1 (by simp)
 have o2:=hox x2 (by simp)
 have o3:=hox x3 (by simp)
 have o4:=hox x4 (by simp)
 have o9:=hox x9 (by simp)
 clear hox;have g14:List.getD (Ci [x0,x1,x2,x3,x4,x5,x6,x7,x8,x9]) 14 .top=.sc (.string x4.s):=rfl;have g5:List.getD (Ci [x0,x1,x2,x3,x4,x5,x6,x7,x8,x9]) 5 .top=.sc (.string x1.s):=rfl;have g8:List.getD (Ci [x0,x1,x2,x3,x4,x5,x6,x7,x8,x9]) 8 .top=.sc (.string x2.s):=rfl;have g10:List.getD (Ci [x0,x1,x2,x3,x4,x5,x6,x7,x8,x9]) 10 .top=.sc (.int .u64 x3.n):=rfl;have g16:List.getD (Ci [x0,x1,x2,x3,x4,x5,x6,x7,x8,x9]) 16 .top=.sc (.int .u64 x5.n):=rfl;have g19:List.getD (Ci [x0,x1,x2,x3,x4,x5,x6,x7,x8,x9]) 19 .top=.sc (.int .u64 x6.n):=rfl;have g22:List.getD (Ci [x0,x1,x2,x3,x4,x5,x6,x7,x8,x9]) 22 .top=.sc (.int .u64 x7.n):=rfl;have g25:List.getD (Ci [x0,x1,x2,x3,x4,x5,x6,x7,x8,x9]) 25 .top=.sc (.int .u64 x8.n):=rfl;have g28:List.getD (Ci [x0,x1,x2,x3,x4,x5,x6,x7,x8,x9]) 28 .top=.sc (.int .u64 x9.n):=rfl;have ln:[x0,x1,x2,x3,x4,x5,x6,x7,x8,x9].length=10:=rfl
 rw [ln] at dec ib LT tT;generalize Ci [x0,x1,x2,x3,x4,x5,x6,x7,x8,x9]=T at *
 clear h10;have hs4:=o4.s1;have L4:(Dv x4.s).length=x4.s.size:=by rw [Na,Am,Qn]
 have t4:List.take x4.s.size (Dv x4.s)=Af .u8 (I7 x4.s):=by rw [Na,To (by rw [Am,Qn];omega)]
 have dk:=Agf (xs:=Kd) (fu:=fu) (d:=d+6) hfu (ZP x4.s);rw [Qn] at dk;unfold Agc;simp only;cases hk:JY (I7 x4.s) with
 |none=>
  rw [hk] at dk;simp only [Abj,Ky.cells] at dk
  try unfold Aa
  repeat first
   |((with_reducible first|apply Aq|apply Ak|apply Ar|apply Ao|apply Aw|apply Bc|apply Bu|apply Aj);· first|with_reducible rfl|(simp (disch:=omega) only [dec,e00,e20,E6,Br,B8,Nat.reduceMul,LT,tT,ib,g14,L4,t4,dk,Ck,Cn]<;>with_reducible rfl))
   |((with_reducible first|apply At|apply As);· first|with_reducible rfl|omega|(simp (disch:=omega) only [gT,dec,e00,e20,E6,Br,B8,Nat.reduceMul,LT,tT,ib,g14,L4,t4,dk,Ck,Cn]<;>omega))
   |(with_reducible apply Ap;· first|with_reducible rfl|(simp (disch:=omega) only [gF,dec,e00,e20,E6,Br,B8,Nat.reduceMul,LT,tT,ib,g14,L4,t4,dk,Ck,Cn]<;>omega))
  try simp (disch:=omega) only [dec,e00,e20,E6,Br,B8,Nat.reduceMul,LT,tT,ib,g14,L4,t4,dk,Ck,Cn]
  all_goals rfl
 |some k=>
  rw [hk] at dk;simp only [Abj,Ky.cells] at dk;obtain ⟨k1,k2⟩:=SY hk;have ds:=Aew (xs:=Kd) (fu:=fu) (d:=d+6) hfu (l:=b.drop used) (fun x hx=>hb x (List.mem_of_mem_drop hx))
  rw [List.length_drop] at ds;have tb:List.take (b.length-used) (List.drop used (Af .u8 b))=Af .u8 (b.drop used):=by rw [Ip,To (by rw [Am,List.length_drop];omega)]
  have nu:Int.toNat (used:Int)=used:=Gy used;cases hs:sgD (b.drop used) with
  |none=>
   rw [hs] at ds;simp only [Acm,Sg.owned] at ds
   try unfold Aa
   repeat first
    |((with_reducible first|apply Aq|apply Ak|apply Ar|apply Ao|apply Aw|apply Bc|apply Bu|apply Aj);· first|with_reducible rfl|(simp (disch:=omega) only [dec,e00,e20,E6,Br,B8,Nat.reduceMul,LT,tT,ib,g14,L4,t4,dk,nu,tb,ds,Ck,Cn]<;>with_reducible rfl))
    |((with_reducible first|apply At|apply As);· first|with_reducible rfl|omega|(simp (disch:=omega) only [gT,dec,e00,e20,E6,Br,B8,Nat.reduceMul,LT,tT,ib,g14,L4,t4,dk,nu,tb,ds,Ck,Cn]<;>omega))
    |(with_reducible apply Ap;· first|with_reducible rfl|(simp (disch:=omega) only [gF,dec,e00,e20,E6,Br,B8,Nat.reduceMul,LT,tT,ib,g14,L4,t4,dk,nu,tb,ds,Ck,Cn]<;>omega))
   try simp (disch:=omega) only [dec,e00,e20,E6,Br,B8,Nat.reduceMul,LT,tT,ib,g14,L4,t4,dk,nu,tb,ds,Ck,Cn]
   all_goals rfl
  |some s=>
   rw [hs] at ds;simp only [Acm,Sg.owned] at ds;obtain ⟨s1,s2,s3⟩:=Abf hs;have cok:(Of x1 x2 x3 x5 x6 x7 x8 x9 k s).ok:=NK o3 o9 k2 s1;have en:=Acn (fu:=fu) (d:=d) (c:=Of x1 x2 x3 x5 x6 x7 x8 x9 k s) hfu cok.wf (Nat.le_trans o1.s1 (by omega)) (Nat.le_trans o2.s1 (by omega)) (Nat.le_trans s2 (by omega)) (Nat.lt_of_le_of_lt s2 (by omega))
   have ec:(Of x1 x2 x3 x5 x6 x7 x8 x9 k s).cells=[.sc (.string x1.s),.sc (.string x2.s),.sc (.int .u64 x3.n),.sc (.int .i64 k.h),.sc (.int .u64 k.root),.sc (.int .i64 (wrap .i64 x5.n)),.sc (.int .i64 (wrap .i64 x6.n)),.sc (.bool (x7.n==1)),.sc (.int .i64 (wrap .i64 x8.n)),.sc (.int .u64 x9.n),.sc (.int .i64 s.leaf),.lst false 1 s.chains.length (Af .u64 s.chains),.lst false 1 s.path.length (Af .u64 s.path)]:=rfl;have eB:=fun h=>Ajg (c:=Of x1 x2 x3 x5 x6 x7 x8 x9 k s) cok.wf h
   have eL:=fun h=>KE (c:=Of x1 x2 x3 x5 x6 x7 x8 x9 k s) h
   have Lc:=Am .u64 s.chains;have Lp:=Am .u64 s.path;have tc:=J6 .u64 s.chains;have tp:=J6 .u64 s.path;simp only;generalize Of x1 x2 x3 x5 x6 x7 x8 x9 k s=c at *
   rw [ec] at en;unfold UL at en;by_cases hz:Fe c=0
   rotate_left
   ·have hz':(Fe c != 0)=true:=by simp [hz]
    rw [A5 hz] at en;rw [A5 (fun h=>hz h.1)]
    try unfold Aa
    repeat first
     |((with_reducible first|apply Aq|apply Ak|apply Ar|apply Ao|apply Aw|apply Bc|apply Bu|apply Aj);· first|with_reducible rfl|(simp (disch:=omega) only [dec,e00,e20,E6,Br,B8,Nat.reduceMul,LT,tT,ib,g14,L4,t4,dk,nu,tb,ds,g5,g8,g10,g16,g19,g22,g25,g28,Lc,Lp,tc,tp,en,hz',Ck,Cn]<;>with_reducible rfl))
     |((with_reducible first|apply At|apply As);· first|with_reducible rfl|omega|(simp (disch:=omega) only [gT,dec,e00,e20,E6,Br,B8,Nat.reduceMul,LT,tT,ib,g14,L4,t4,dk,nu,tb,ds,g5,g8,g10,g16,g19,g22,g25,g28,Lc,Lp,tc,tp,en,hz',Ck,Cn]<;>omega))
     |(with_reducible apply Ap;· first|with_reducible rfl|(simp (disch:=omega) only [gF,dec,e00,e20,E6,Br,B8,Nat.reduceMul,LT,tT,ib,g14,L4,t4,dk,nu,tb,ds,g5,g8,g10,g16,g19,g22,g25,g28,Lc,Lp,tc,tp,en,hz',Ck,Cn]<;>omega))
    try simp (disch:=omega) only [dec,e00,e20,E6,Br,B8,Nat.reduceMul,LT,tT,ib,g14,L4,t4,dk,nu,tb,ds,g5,g8,g10,g16,g19,g22,g25,g28,Lc,Lp,tc,tp,en,hz',Ck,Cn]
    all_goals rfl
   rw [Bv hz] at en;have be:=OT (fu:=fu) (d:=d+7) (eB hz) hb;have LE:=Am .u8 (H5 c);have tE:=J6 .u8 (H5 c);by_cases hq:H5 c=b
   ·rw [Bv ⟨hz,hq⟩];simp only [hq,decide_true] at be en LE tE;simp only [ec]
    try unfold Aa
    repeat first
     |((with_reducible first|apply Aq|apply Ak|apply Ar|apply Ao|apply Aw|apply Bc|apply Bu|apply Aj);· first|with_reducible rfl|(simp (disch:=omega) only [dec,e00,e20,E6,Br,B8,Nat.reduceMul,LT,tT,ib,g14,L4,t4,dk,nu,tb,ds,g5,g8,g10,g16,g19,g22,g25,g28,Lc,Lp,tc,tp,en,LE,tE,be,Ck,Cn]<;>with_reducible rfl))
     |((with_reducible first|apply At|apply As);· first|with_reducible rfl|omega|(simp (disch:=omega) only [gT,dec,e00,e20,E6,Br,B8,Nat.reduceMul,LT,tT,ib,g14,L4,t4,dk,nu,tb,ds,g5,g8,g10,g16,g19,g22,g25,g28,Lc,Lp,tc,tp,en,LE,tE,be,Ck,Cn]<;>omega))
     |(with_reducible apply Ap;· first|with_reducible rfl|(simp (disch:=omega) only [gF,dec,e00,e20,E6,Br,B8,Nat.reduceMul,LT,tT,ib,g14,L4,t4,dk,nu,tb,ds,g5,g8,g10,g16,g19,g22,g25,g28,Lc,Lp,tc,tp,en,LE,tE,be,Ck,Cn]<;>omega))
    try simp (disch:=omega) only [dec,e00,e20,E6,Br,B8,Nat.reduceMul,LT,tT,ib,g14,L4,t4,dk,nu,tb,ds,g5,g8,g10,g16,g19,g22,g25,g28,Lc,Lp,tc,tp,en,LE,tE,be,Ck,Cn]
    all_goals rfl
   ·rw [A5 (fun h=>hq h.2)]
    simp only [hq,decide_false] at be
    try unfold Aa
    repeat first
     |((with_reducible first|apply Aq|apply Ak|apply Ar|apply Ao|apply Aw|apply Bc|apply Bu|apply Aj);· first|with_reducible rfl|(simp (disch:=omega) only [dec,e00,e20,E6,Br,B8,Nat.reduceMul,LT,tT,ib,g14,L4,t4,dk,nu,tb,ds,g5,g8,g10,g16,g19,g22,g25,g28,Lc,Lp,tc,tp,en,LE,tE,be,Ck,Cn]<;>with_reducible rfl))
     |((with_reducible first|apply At|apply As);· first|with_reducible rfl|omega|(simp (disch:=omega) only [gT,dec,e00,e20,E6,Br,B8,Nat.reduceMul,LT,tT,ib,g14,L4,t4,dk,nu,tb,ds,g5,g8,g10,g16,g19,g22,g25,g28,Lc,Lp,tc,tp,en,LE,tE,be,Ck,Cn]<;>omega))
     |(with_reducible apply Ap;· first|with_reducible rfl|(simp (disch:=omega) only [gF,dec,e00,e20,E6,Br,B8,Nat.reduceMul,LT,tT,ib,g14,L4,t4,dk,nu,tb,ds,g5,g8,g10,g16,g19,g22,g25,g28,Lc,Lp,tc,tp,en,LE,tE,be,Ck,Cn]<;>omega))
    try simp (disch:=omega) only [dec,e00,e20,E6,Br,B8,Nat.reduceMul,LT,tT,ib,g14,L4,t4,dk,nu,tb,ds,g5,g8,g10,g16,g19,g22,g25,g28,Lc,Lp,tc,tp,en,LE,tE,be,Ck,Cn]
    all_goals rfl
theorem Aly (hfu:1000<=fu){b:List Int}(hb:Kx b)(hl:b.length<=1000000):
  Ae C0 Tryz.prog fu (d+9) H8 [.lst false 1 b.length (Af .u8 b)]=some ⟨[.agg (TY b).1.cells,.sc (.int .i64 (TY b).2)],[]⟩:=by
 have e:GJ b (Ju fu [] 0 b 0 [])=TY b:=Ajr hb (CU hb fu [] 0 0 [] (by omega) (by simp)).2 (fun c c1 c2 c3=>by subst c3;exact WW c1 c2 (by omega))
 rw [←e];exact Aga hfu hb hl
end
end
section
open Go.IntKind (wrap)
structure An where
 name:ByteArray
 key:Ky
structure Rv where
 iss:ByteArray
 ser:Int
 at_:Int
def An.cells (a:An):List PV:=[.sc (.string a.name),.sc (.int .i64 a.key.h),.sc (.int .u64 a.key.root)]
def Rv.cells (r:Rv):List PV:=[.sc (.string r.iss),.sc (.int .u64 r.ser),.sc (.int .i64 r.at_)]
def Fb (l:List An):List PV:=l.flatMap An.cells
def Em (l:List Rv):List PV:=l.flatMap Rv.cells
def B5 (l:List Ce):List PV:=l.flatMap Ce.cells
theorem An.cells_len (a:An):a.cells.length=3:=rfl
theorem Rv.cells_len (r:Rv):r.cells.length=3:=rfl
theorem Ce.cells_len (c:Ce):c.cells.length=13:=rfl
theorem Mm (l:List Ce):(B5 l).length=l.length*13:=Z8 Ce.cells_len l
abbrev eqS (a b:ByteArray):Bool:=Array.toList (ByteArray.data a)==Array.toList (ByteArray.data b)
def Kk (c:Ce)(now:Int)(r:Rv):Bool:=eqS r.iss c.iss&&(r.ser==c.serial&&decide (r.at_<=now))
def I6 (c:Ce)(now:Int)(l:List Rv):Int:=if l.any (Kk c now)=true then 39 else 0
def F6 (c:Ce)(i:Int)(l:List Rv)(now:Int):Int:=
 if A4 c≠0 then A4 c else if now<c.fr then 38 else if now>c.un then 38 else if i>0 then (if c.auth=false then 38 else if c.path<i-1 then 38 else I6 c now l) else I6 c now l
def Ld (c:Ce):Nat->List An->Int
 |_,[]=> -1
 |i,a::r=>if eqS a.name c.iss=true∧Ns c a.key=0 then (i:Int) else Ld c (i+1) r
def XX (c:Ce)(l:List An):Int × Int:=if Ld c 0 l<0 then (0,38) else (Ld c 0 l,0)
def Sm (ans:List An)(vs:List Rv)(now:Int):Nat->List Ce->Int × Int
 |_,[]=>(0,0)
 |i,[c]=>if F6 c i vs now≠0 then (0,F6 c i vs now) else XX c ans
 |i,c::c2::r=>if F6 c i vs now≠0 then (0,F6 c i vs now) else if eqS c.iss c2.subj=false then (0,38) else if Ns c c2.key≠0 then (0,Ns c c2.key) else Sm ans vs now (i+1) (c2::r)
def HK (cs:List Ce)(ans:List An)(vs:List Rv)(now:Int):Int × Int:=
 if now<0 then (0,9) else if now>1099511627776 then (0,9) else if cs.length<1 then (0,38) else if cs.length>3 then (0,38) else Sm ans vs now 0 cs
structure Ce.in_ (c:Ce):Prop where
 wf:c.wf
 s1:c.subj.size<=9223372036854775807
 s2:c.iss.size<=9223372036854775807
theorem cer {l:List Ce}{i:Nat}{c:Ce}(h:l[i]?=some c):
  (B5 l).getD (i*13) .top=.sc (.string c.subj)∧(B5 l).getD (i*13+1) .top=.sc (.string c.iss)∧(B5 l).getD (i*13+1+1) .top=.sc (.int .u64 c.serial) ∧
  (B5 l).getD (i*13+1+1+1) .top=.sc (.int .i64 c.key.h)∧(B5 l).getD (i*13+1+1+1+1) .top=.sc (.int .u64 c.key.root)∧(B5 l).getD (i*13+1+1+1+1+1) .top=.sc (.int .i64 c.fr) ∧
  (B5 l).getD (i*13+1+1+1+1+1+1) .top=.sc (.int .i64 c.un)∧(B5 l).getD (i*13+1+1+1+1+1+1+1) .top=.sc (.bool c.auth)∧(B5 l).getD (i*13+1+1+1+1+1+1+1+1) .top=.sc (.int .i64 c.path) ∧
  (B5 l).getD (i*13+1+1+1+1+1+1+1+1+1) .top=.sc (.int .u64 c.model)∧(B5 l).getD (i*13+1+1+1+1+1+1+1+1+1+1) .top=.sc (.int .i64 c.sig.leaf) ∧
  (B5 l).getD (i*13+1+1+1+1+1+1+1+1+1+1+1) .top=.lst false 1 c.sig.chains.length (Af .u64 c.sig.chains)∧(B5 l).getD (i*13+1+1+1+1+1+1+1+1+1+1+1+1) .top=.lst false 1 c.sig.path.length (Af .u64 c.sig.path):=
 ⟨Ef Ce.cells_len h (j:=0) (by omega),Ef Ce.cells_len h (j:=1) (by omega),Ef Ce.cells_len h (j:=2) (by omega),Ef Ce.cells_len h (j:=3) (by omega),Ef Ce.cells_len h (j:=4) (by omega),Ef Ce.cells_len h (j:=5) (by omega),Ef Ce.cells_len h (j:=6) (by omega),Ef Ce.cells_len h (j:=7) (by omega),Ef Ce.cells_len h (j:=8) (by omega),Ef Ce.cells_len h (j:=9) (by omega),Ef Ce.cells_len h (j:=10) (by omega),Ef Ce.cells_len h (j:=11) (by omega),Ef Ce.cells_len h (j:=12) (by omega)⟩
theorem rva {l:List Rv}{i:Nat}{r:Rv}(h:l[i]?=some r):(Em l).getD (i*3) .top=.sc (.string r.iss)∧(Em l).getD (i*3+1) .top=.sc (.int .u64 r.ser)∧(Em l).getD (i*3+2) .top=.sc (.int .i64 r.at_):=
 ⟨Ef Rv.cells_len h (j:=0) (by omega),Ef Rv.cells_len h (j:=1) (by omega),Ef Rv.cells_len h (j:=2) (by omega)⟩
theorem ana {l:List An}{i:Nat}{a:An}(h:l[i]?=some a):(Fb l).getD (i*3) .top=.sc (.string a.name)∧(Fb l).getD (i*3+1) .top=.sc (.int .i64 a.key.h)∧(Fb l).getD (i*3+2) .top=.sc (.int .u64 a.key.root):=
 ⟨Ef An.cells_len h (j:=0) (by omega),Ef An.cells_len h (j:=1) (by omega),Ef An.cells_len h (j:=2) (by omega)⟩
section
variable {fu d:Nat}
theorem QM {call:Ah}{a0_0 a0_1:ByteArray}{a0_2 a0_3 a0_4 a0_5 a0_6 a0_8 a0_9 a0_10 a1 a3:Int}{a0_7:Bool}{a0_11n a0_12n a2n:Nat}{a0_11 a0_12 a2:List PV}{c:Ce}{now:Int}{vs:List Rv}(hl:vs.length<=1000000):∀(r:List Rv)(i nn:Nat),vs.drop i=r->r.length<nn->i<=vs.length ->
  Cp fu call a0_0 a0_1 a0_2 a0_3 a0_4 a0_5 a0_6 a0_7 a0_8 a0_9 a0_10 a0_11n a0_11 a0_12n a0_12 a1 a2n a2 a3 nn now vs.length (Em vs) (vs.length:Int) (i:Int) c.subj c.iss c.serial c.key.h c.key.root c.fr c.un c.auth c.path c.model c.sig.leaf c.sig.chains.length (Af .u64 c.sig.chains) c.sig.path.length (Af .u64 c.sig.path) =
   some ⟨[.sc (.int .i64 (I6 c now r))],[]⟩
 |_,_,0,_,h,_=>by omega
 |[],i,nn+1,h,hn,hi=>by
  have:=drop_nil h;rw [H7,Dj _ _ _ (by omega)]
  rfl
 |r::rs,i,nn+1,h,hn,hi=>by
  obtain ⟨h1,h2,h3⟩:=B3 h;simp only [Ja] at hn;obtain ⟨c0,c1,c2⟩:=rva h2;have w:wrap .i64 ((i:Int)+1)=((i+1:Nat):Int):=by rw [Al (by omega) (by omega)];omega
  have nt:Int.toNat (i:Int)=i:=Gy _;have c2':(Em vs).getD (i*3+1+1) .top=.sc (.int .i64 r.at_):=c2;have ih:=QM (call:=call) (a0_0:=a0_0) (a0_1:=a0_1) (a0_2:=a0_2) (a0_3:=a0_3) (a0_4:=a0_4) (a0_5:=a0_5) (a0_6:=a0_6) (a0_7:=a0_7) (a0_8:=a0_8) (a0_9:=a0_9) (a0_10:=a0_10) (a1:=a1) (a3:=a3) (a0_11n:=a0_11n) (a0_12n:=a0_12n) (a2n:=a2n) (a0_11:=a0_11) (a0_12:=a0_12) (a2:=a2) (c:=c) (now:=now) hl rs (i+1) nn h3 (by omega) (by omega)
  have er:I6 c now (r::rs)=if Kk c now r=true then 39 else I6 c now rs:=by
   unfold I6;rw [List.any_cons];cases Kk c now r<;>rfl
  rw [er,H7];unfold Kk;cases e1:eqS r.iss c.iss
  ·rw [Bool.false_and,A5 (by simp),←ih]
   try unfold Aa
   repeat first
    |((with_reducible first|apply Aq|apply Ak|apply Ar|apply Ao|apply Aw|apply Bc|apply Bg|apply Aj);· first|with_reducible rfl|(simp (disch:=omega) only [nt,c0,c1,c2',e1,w]<;>with_reducible rfl))
    |((with_reducible first|apply At|apply As);· first|with_reducible rfl|omega|(simp (disch:=omega) only [gT,nt,c0,c1,c2',e1,w]<;>omega))
    |(with_reducible apply Ap;· first|with_reducible rfl|(simp (disch:=omega) only [gF,nt,c0,c1,c2',e1,w]<;>omega))
   try simp (disch:=omega) only [nt,c0,c1,c2',e1,w]
   all_goals rfl
  ·cases e2:(r.ser==c.serial)
   ·rw [Bool.true_and,Bool.false_and,A5 (by simp),←ih]
    try unfold Aa
    repeat first
     |((with_reducible first|apply Aq|apply Ak|apply Ar|apply Ao|apply Aw|apply Bc|apply Bg|apply Aj);· first|with_reducible rfl|(simp (disch:=omega) only [nt,c0,c1,c2',e1,e2,w]<;>with_reducible rfl))
     |((with_reducible first|apply At|apply As);· first|with_reducible rfl|omega|(simp (disch:=omega) only [gT,nt,c0,c1,c2',e1,e2,w]<;>omega))
     |(with_reducible apply Ap;· first|with_reducible rfl|(simp (disch:=omega) only [gF,nt,c0,c1,c2',e1,e2,w]<;>omega))
    try simp (disch:=omega) only [nt,c0,c1,c2',e1,e2,w]
    all_goals rfl
   ·by_cases e3:r.at_<=now
    ·rw [Bv (by simp [e3])]
     try unfold Aa
     repeat first
      |((with_reducible first|apply Aq|apply Ak|apply Ar|apply Ao|apply Aw|apply Bc|apply Bg|apply Aj);· first|with_reducible rfl|(simp (disch:=omega) only [nt,c0,c1,c2',e1,e2,w]<;>with_reducible rfl))
      |((with_reducible first|apply At|apply As);· first|with_reducible rfl|omega|(simp (disch:=omega) only [gT,nt,c0,c1,c2',e1,e2,w]<;>omega))
      |(with_reducible apply Ap;· first|with_reducible rfl|(simp (disch:=omega) only [gF,nt,c0,c1,c2',e1,e2,w]<;>omega))
     try simp (disch:=omega) only [nt,c0,c1,c2',e1,e2,w]
     all_goals rfl
    ·rw [A5 (by simp [e3]),←ih]
     try unfold Aa
     repeat first
      |((with_reducible first|apply Aq|apply Ak|apply Ar|apply Ao|apply Aw|apply Bc|apply Bg|apply Aj);· first|with_reducible rfl|(simp (disch:=omega) only [nt,c0,c1,c2',e1,e2,w]<;>with_reducible rfl))
      |((with_reducible first|apply At|apply As);· first|with_reducible rfl|omega|(simp (disch:=omega) only [gT,nt,c0,c1,c2',e1,e2,w]<;>omega))
      |(with_reducible apply Ap;· first|with_reducible rfl|(simp (disch:=omega) only [gF,nt,c0,c1,c2',e1,e2,w]<;>omega))
     try simp (disch:=omega) only [nt,c0,c1,c2',e1,e2,w]
     all_goals rfl
theorem Adq (hfu:1000<=fu){c:Ce}(hc:c.in_){vs:List Rv}(hl:vs.length<=900){i:Int}(hi:0<=i)(hi':i<=1000)(now:Int):
  Ae C0 Tryz.prog fu (d+8) Jv [.agg c.cells,.sc (.int .i64 i),.lst false 3 vs.length (Em vs),.sc (.int .i64 now)]=some ⟨[.sc (.int .i64 (F6 c i vs now))],[]⟩:=by
 refine (Si fu (d+7) c.subj c.iss c.serial c.key.h c.key.root c.fr c.un c.auth c.path c.model c.sig.leaf c.sig.chains.length (Af .u64 c.sig.chains) c.sig.path.length (Af .u64 c.sig.path) i vs.length (Em vs) now).trans ?_;have bq:=MP (fu:=fu) (d:=d) hfu hc.wf hc.s1 hc.s2;simp only [Ce.cells] at bq;unfold Gq at bq;have lp:=QM (fu:=fu) (call:=Ae C0 Tryz.prog fu (d+7)) (a0_0:=c.subj) (a0_1:=c.iss) (a0_2:=c.serial) (a0_3:=c.key.h) (a0_4:=c.key.root) (a0_5:=c.fr) (a0_6:=c.un) (a0_7:=c.auth) (a0_8:=c.path) (a0_9:=c.model) (a0_10:=c.sig.leaf) (a1:=i) (a3:=now) (a0_11n:=c.sig.chains.length) (a0_12n:=c.sig.path.length) (a2n:=vs.length) (a0_11:=Af .u64 c.sig.chains) (a0_12:=Af .u64 c.sig.path) (a2:=Em vs) (c:=c) (now:=now) (vs:=vs) (by omega) vs 0 fu rfl (by omega) (by omega)
 unfold F6;by_cases h0:A4 c=0
 rotate_left
 ·have hne:(A4 c != 0)=true:=by simp [h0]
  rw [A5 h0] at bq;rw [Bv h0]
  try unfold Aa
  repeat first
   |((with_reducible first|apply Aq|apply Ak|apply Ar|apply Ao|apply Aw|apply Bc|apply Bg|apply Aj);· first|with_reducible rfl|(simp (disch:=omega) only [bq,hne]<;>with_reducible rfl))
   |((with_reducible first|apply At|apply As);· first|with_reducible rfl|omega|(simp (disch:=omega) only [gT,bq,hne]<;>omega))
   |(with_reducible apply Ap;· first|with_reducible rfl|(simp (disch:=omega) only [gF,bq,hne]<;>omega))
  try simp (disch:=omega) only [bq,hne]
  all_goals rfl
 rw [Bv h0] at bq;rw [A5 (by simp [h0])]
 have e00:((0:Int) != 0)=false:=rfl;have w:wrap .i64 (i-1)=i-1:=Al (by omega) (by omega)
 by_cases h1:now<c.fr
 ·rw [Bv h1]
  try unfold Aa
  repeat first
   |((with_reducible first|apply Aq|apply Ak|apply Ar|apply Ao|apply Aw|apply Bc|apply Bg|apply Aj);· first|with_reducible rfl|(simp (disch:=omega) only [bq,e00]<;>with_reducible rfl))
   |((with_reducible first|apply At|apply As);· first|with_reducible rfl|omega|(simp (disch:=omega) only [gT,bq,e00]<;>omega))
   |(with_reducible apply Ap;· first|with_reducible rfl|(simp (disch:=omega) only [gF,bq,e00]<;>omega))
  try simp (disch:=omega) only [bq,e00]
  all_goals rfl
 rw [A5 h1];by_cases h2:now>c.un
 ·rw [Bv h2]
  try unfold Aa
  repeat first
   |((with_reducible first|apply Aq|apply Ak|apply Ar|apply Ao|apply Aw|apply Bc|apply Bg|apply Aj);· first|with_reducible rfl|(simp (disch:=omega) only [bq,e00]<;>with_reducible rfl))
   |((with_reducible first|apply At|apply As);· first|with_reducible rfl|omega|(simp (disch:=omega) only [gT,bq,e00]<;>omega))
   |(with_reducible apply Ap;· first|with_reducible rfl|(simp (disch:=omega) only [gF,bq,e00]<;>omega))
  try simp (disch:=omega) only [bq,e00]
  all_goals rfl
 rw [A5 h2];by_cases h3:i>0
 ·rw [Bv h3];cases h4:c.auth
  ·rw [Bv rfl];rw [h4] at bq
   try unfold Aa
   repeat first
    |((with_reducible first|apply Aq|apply Ak|apply Ar|apply Ao|apply Aw|apply Bc|apply Bg|apply Aj);· first|with_reducible rfl|(simp (disch:=omega) only [bq,e00,Cn]<;>with_reducible rfl))
    |((with_reducible first|apply At|apply As);· first|with_reducible rfl|omega|(simp (disch:=omega) only [gT,bq,e00,Cn]<;>omega))
    |(with_reducible apply Ap;· first|with_reducible rfl|(simp (disch:=omega) only [gF,bq,e00,Cn]<;>omega))
   try simp (disch:=omega) only [bq,e00,Cn]
   all_goals rfl
  ·rw [A5 (by simp)]
   rw [h4] at lp bq;by_cases h5:c.path<i-1
   ·rw [Bv h5]
    try unfold Aa
    repeat first
     |((with_reducible first|apply Aq|apply Ak|apply Ar|apply Ao|apply Aw|apply Bc|apply Bg|apply Aj);· first|with_reducible rfl|(simp (disch:=omega) only [bq,e00,h4,w,Ck]<;>with_reducible rfl))
     |((with_reducible first|apply At|apply As);· first|with_reducible rfl|omega|(simp (disch:=omega) only [gT,bq,e00,h4,w,Ck]<;>omega))
     |(with_reducible apply Ap;· first|with_reducible rfl|(simp (disch:=omega) only [gF,bq,e00,h4,w,Ck]<;>omega))
    try simp (disch:=omega) only [bq,e00,h4,w,Ck]
    all_goals rfl
   ·rw [A5 h5,←lp]
    try unfold Aa
    repeat first
     |((with_reducible first|apply Aq|apply Ak|apply Ar|apply Ao|apply Aw|apply Bc|apply Bg|apply Aj);· first|with_reducible rfl|(simp (disch:=omega) only [bq,e00,h4,w,Ck]<;>with_reducible rfl))
     |((with_reducible first|apply At|apply As);· first|with_reducible rfl|omega|(simp (disch:=omega) only [gT,bq,e00,h4,w,Ck]<;>omega))
     |(with_reducible apply Ap;· first|with_reducible rfl|(simp (disch:=omega) only [gF,bq,e00,h4,w,Ck]<;>omega))
    try simp (disch:=omega) only [bq,e00,h4,w,Ck]
    all_goals rfl
 ·rw [A5 h3,←lp]
  try unfold Aa
  repeat first
   |((with_reducible first|apply Aq|apply Ak|apply Ar|apply Ao|apply Aw|apply Bc|apply Bg|apply Aj);· first|with_reducible rfl|(simp (disch:=omega) only [bq,e00]<;>with_reducible rfl))
   |((with_reducible first|apply At|apply As);· first|with_reducible rfl|omega|(simp (disch:=omega) only [gT,bq,e00]<;>omega))
   |(with_reducible apply Ap;· first|with_reducible rfl|(simp (disch:=omega) only [gF,bq,e00]<;>omega))
  try simp (disch:=omega) only [bq,e00]
  all_goals rfl
theorem DF (hfu:1000<=fu){a0n a1n a2n:Nat}{a0 a1 a2:List PV}{a3:Int}{c:Ce}(hc:c.in_){ans:List An}(hl:ans.length<=1000000):∀(r:List An)(i nn:Nat),ans.drop i=r->r.length<nn->i<=ans.length ->
  Ed fu (Ae C0 Tryz.prog fu (d+9)) a0n a0 a1n a1 a2n a2 a3 nn ans.length (Fb ans) (ans.length:Int) (i:Int) c.subj c.iss c.serial c.key.h c.key.root c.fr c.un c.auth c.path c.model c.sig.leaf c.sig.chains.length (Af .u64 c.sig.chains) c.sig.path.length (Af .u64 c.sig.path) =
   some ⟨(if Ld c i r<0 then [.sc (.int .i64 0),.sc (.int .i64 38)] else [.sc (.int .i64 (Ld c i r)),.sc (.int .i64 0)]),[]⟩
 |_,_,0,_,h,_=>by omega
 |[],i,nn+1,h,hn,hi=>by
  have:=drop_nil h;rw [Lz,Dj _ _ _ (by omega)]
  rfl
 |a::rs,i,nn+1,h,hn,hi=>by
  obtain ⟨h1,h2,h3⟩:=B3 h;simp only [Ja] at hn;obtain ⟨c0,c1,c2⟩:=ana h2;have w:wrap .i64 ((i:Int)+1)=((i+1:Nat):Int):=by rw [Al (by omega) (by omega)];omega
  have nt:Int.toNat (i:Int)=i:=Gy _;have c2':(Fb ans).getD (i*3+1+1) .top=.sc (.int .u64 a.key.root):=c2;have vq:=WR (fu:=fu) (d:=d) hfu hc.wf hc.s1 hc.s2 a.key;simp only [Ce.cells,Ky.cells] at vq;have ih:=DF hfu (a0n:=a0n) (a1n:=a1n) (a2n:=a2n) (a0:=a0) (a1:=a1) (a2:=a2) (a3:=a3) hc hl rs (i+1) nn h3 (by omega) (by omega)
  rw [Lz];cases e1:eqS a.name c.iss
  ·have er:Ld c i (a::rs)=Ld c (i+1) rs:=by rw [Ld,A5 (by simp [e1])]
   rw [er,←ih]
   try unfold Aa
   repeat first
    |((with_reducible first|apply Aq|apply Ak|apply Ar|apply Ao|apply Aw|apply Bc|apply Bg|apply Aj);· first|with_reducible rfl|(simp (disch:=omega) only [nt,c0,c1,c2',e1,w]<;>with_reducible rfl))
    |((with_reducible first|apply At|apply As);· first|with_reducible rfl|omega|(simp (disch:=omega) only [gT,nt,c0,c1,c2',e1,w]<;>omega))
    |(with_reducible apply Ap;· first|with_reducible rfl|(simp (disch:=omega) only [gF,nt,c0,c1,c2',e1,w]<;>omega))
   try simp (disch:=omega) only [nt,c0,c1,c2',e1,w]
   all_goals rfl
  ·by_cases e2:Ns c a.key=0
   ·have e2':(Ns c a.key==0)=true:=by simp [e2]
    have er:Ld c i (a::rs)=(i:Int):=by rw [Ld,Bv ⟨e1,e2⟩]
    rw [er,A5 (by omega)]
    try unfold Aa
    repeat first
     |((with_reducible first|apply Aq|apply Ak|apply Ar|apply Ao|apply Aw|apply Bc|apply Bg|apply Aj);· first|with_reducible rfl|(simp (disch:=omega) only [nt,c0,c1,c2',e1,w,vq,e2']<;>with_reducible rfl))
     |((with_reducible first|apply At|apply As);· first|with_reducible rfl|omega|(simp (disch:=omega) only [gT,nt,c0,c1,c2',e1,w,vq,e2']<;>omega))
     |(with_reducible apply Ap;· first|with_reducible rfl|(simp (disch:=omega) only [gF,nt,c0,c1,c2',e1,w,vq,e2']<;>omega))
    try simp (disch:=omega) only [nt,c0,c1,c2',e1,w,vq,e2']
    all_goals rfl
   ·have e2':(Ns c a.key==0)=false:=by simp [e2]
    have er:Ld c i (a::rs)=Ld c (i+1) rs:=by rw [Ld,A5 (by simp [e2])]
    rw [er,←ih]
    try unfold Aa
    repeat first
     |((with_reducible first|apply Aq|apply Ak|apply Ar|apply Ao|apply Aw|apply Bc|apply Bg|apply Aj);· first|with_reducible rfl|(simp (disch:=omega) only [nt,c0,c1,c2',e1,w,vq,e2']<;>with_reducible rfl))
     |((with_reducible first|apply At|apply As);· first|with_reducible rfl|omega|(simp (disch:=omega) only [gT,nt,c0,c1,c2',e1,w,vq,e2']<;>omega))
     |(with_reducible apply Ap;· first|with_reducible rfl|(simp (disch:=omega) only [gF,nt,c0,c1,c2',e1,w,vq,e2']<;>omega))
    try simp (disch:=omega) only [nt,c0,c1,c2',e1,w,vq,e2']
    all_goals rfl
theorem OZ (hfu:1000<=fu){a0n a1n a2n:Nat}{a0 a1 a2:List PV}{a3:Int}{cs:List Ce}(hc:∀c∈cs,c.in_)(h3:cs.length<=3){ans:List An}(hl:ans.length<=900){vs:List Rv}(hv:vs.length<=900){now:Int}:∀(r:List Ce)(i nn:Nat),r≠[]->cs.drop i=r->r.length<nn->i<=cs.length ->
  Gv fu (Ae C0 Tryz.prog fu (d+9)) a0n a0 a1n a1 a2n a2 a3 nn cs.length (B5 cs) ans.length (Fb ans) vs.length (Em vs) now cs.length (B5 cs) (cs.length:Int) (i:Int) =
   some ⟨[.sc (.int .i64 (Sm ans vs now i r).1),.sc (.int .i64 (Sm ans vs now i r).2)],[]⟩
 |_,_,0,_,_,h,_=>by omega
 |[],i,nn+1,hne,_,_,_=>absurd rfl hne
 |[c],i,nn+1,hne,h,hn,hi=>by
  obtain ⟨h1,h2,h3'⟩:=B3 h;have hlast:=drop_nil h3';have hci:=hc c (List.mem_of_getElem? h2);obtain ⟨c0,c1,c2,c3,c4,c5,c6,c7,c8,c9,c10,c11,c12⟩:=cer h2;have nt:Int.toNat (i:Int)=i:=Gy _;have lk:=Adq (fu:=fu) (d:=d+1) hfu hci hv (i:=(i:Int)) (by omega) (by omega) now
  simp only [Ce.cells] at lk;have w:wrap .i64 ((cs.length:Int)-1)=(i:Int):=by rw [Al (by omega) (by omega)];omega
  have eb:((i:Int)==(i:Int))=true:=by simp
  rw [Ly];unfold Sm;by_cases hz:F6 c i vs now=0
  ·have pa:=DF (fu:=fu) (d:=d) hfu (a0n:=a0n) (a1n:=a1n) (a2n:=a2n) (a0:=a0) (a1:=a1) (a2:=a2) (a3:=a3) hci (ans:=ans) (by omega) ans 0 fu rfl (by omega) (by omega)
   have e0:(F6 c i vs now != 0)=false:=by simp [hz]
   have ea:(some ⟨(if Ld c 0 ans<0 then [.sc (.int .i64 0),.sc (.int .i64 38)] else [.sc (.int .i64 (Ld c 0 ans)),.sc (.int .i64 0)]),[]⟩:Option A0)=some ⟨[.sc (.int .i64 (XX c ans).1),.sc (.int .i64 (XX c ans).2)],[]⟩:=by
    unfold XX;split<;>rfl
   rw [ea] at pa;rw [A5 (by simp [hz]),←pa]
   try unfold Aa
   repeat first
    |((with_reducible first|apply Aq|apply Ak|apply Ar|apply Ao|apply Aw|apply Bc|apply Bg|apply Aj);· first|with_reducible rfl|(simp (disch:=omega) only [nt,c0,c1,c2,c3,c4,c5,c6,c7,c8,c9,c10,c11,c12,lk,e0,w,eb]<;>with_reducible rfl))
    |((with_reducible first|apply At|apply As);· first|with_reducible rfl|omega|(simp (disch:=omega) only [gT,nt,c0,c1,c2,c3,c4,c5,c6,c7,c8,c9,c10,c11,c12,lk,e0,w,eb]<;>omega))
    |(with_reducible apply Ap;· first|with_reducible rfl|(simp (disch:=omega) only [gF,nt,c0,c1,c2,c3,c4,c5,c6,c7,c8,c9,c10,c11,c12,lk,e0,w,eb]<;>omega))
   try simp (disch:=omega) only [nt,c0,c1,c2,c3,c4,c5,c6,c7,c8,c9,c10,c11,c12,lk,e0,w,eb]
   all_goals rfl
  ·have e0:(F6 c i vs now != 0)=true:=by simp [hz]
   rw [Bv hz]
   try unfold Aa
   repeat first
    |((with_reducible first|apply Aq|apply Ak|apply Ar|apply Ao|apply Aw|apply Bc|apply Bg|apply Aj);· first|with_reducible rfl|(simp (disch:=omega) only [nt,c0,c1,c2,c3,c4,c5,c6,c7,c8,c9,c10,c11,c12,lk,e0]<;>with_reducible rfl))
    |((with_reducible first|apply At|apply As);· first|with_reducible rfl|omega|(simp (disch:=omega) only [gT,nt,c0,c1,c2,c3,c4,c5,c6,c7,c8,c9,c10,c11,c12,lk,e0]<;>omega))
    |(with_reducible apply Ap;· first|with_reducible rfl|(simp (disch:=omega) only [gF,nt,c0,c1,c2,c3,c4,c5,c6,c7,c8,c9,c10,c11,c12,lk,e0]<;>omega))
   try simp (disch:=omega) only [nt,c0,c1,c2,c3,c4,c5,c6,c7,c8,c9,c10,c11,c12,lk,e0]
   all_goals rfl
 |c::e::r,i,nn+1,hne,h,hn,hi=>by
  obtain ⟨h1,h2,h3'⟩:=B3 h;obtain ⟨k1,k2,k3⟩:=B3 h3';simp only [Ja] at hn;have hci:=hc c (List.mem_of_getElem? h2);obtain ⟨c0,c1,c2,c3,c4,c5,c6,c7,c8,c9,c10,c11,c12⟩:=cer h2;obtain ⟨q0,q1,q2,q3,q4,_⟩:=cer k2;have nt:Int.toNat (i:Int)=i:=Gy _;have nt1:Int.toNat ((i+1:Nat):Int)=i+1:=Gy _;have lk:=Adq (fu:=fu) (d:=d+1) hfu hci hv (i:=(i:Int)) (by omega) (by omega) now
  simp only [Ce.cells] at lk;have w:wrap .i64 ((cs.length:Int)-1)=(cs.length:Int)-1:=Al (by omega) (by omega)
  have w1:wrap .i64 ((i:Int)+1)=((i+1:Nat):Int):=by rw [Al (by omega) (by omega)];omega
  have eb:((i:Int)==(cs.length:Int)-1)=false:=by simp;omega
  have q3':(B5 cs).getD ((i+1)*13+3) .top=.sc (.int .i64 e.key.h):=q3;have q4':(B5 cs).getD ((i+1)*13+3+1) .top=.sc (.int .u64 e.key.root):=q4;have vq:=WR (fu:=fu) (d:=d) hfu hci.wf hci.s1 hci.s2 e.key;simp only [Ce.cells,Ky.cells] at vq;rw [Ly];unfold Sm;by_cases hz:F6 c i vs now=0
  rotate_left
  ·have e0:(F6 c i vs now != 0)=true:=by simp [hz]
   rw [Bv hz]
   try unfold Aa
   repeat first
    |((with_reducible first|apply Aq|apply Ak|apply Ar|apply Ao|apply Aw|apply Bc|apply Bg|apply Aj);· first|with_reducible rfl|(simp (disch:=omega) only [nt,c0,c1,c2,c3,c4,c5,c6,c7,c8,c9,c10,c11,c12,lk,e0]<;>with_reducible rfl))
    |((with_reducible first|apply At|apply As);· first|with_reducible rfl|omega|(simp (disch:=omega) only [gT,nt,c0,c1,c2,c3,c4,c5,c6,c7,c8,c9,c10,c11,c12,lk,e0]<;>omega))
    |(with_reducible apply Ap;· first|with_reducible rfl|(simp (disch:=omega) only [gF,nt,c0,c1,c2,c3,c4,c5,c6,c7,c8,c9,c10,c11,c12,lk,e0]<;>omega))
   try simp (disch:=omega) only [nt,c0,c1,c2,c3,c4,c5,c6,c7,c8,c9,c10,c11,c12,lk,e0]
   all_goals rfl
  have e0:(F6 c i vs now != 0)=false:=by simp [hz]
  rw [A5 (by simp [hz])]
  cases es:eqS c.iss e.subj
  ·rw [Bv rfl]
   try unfold Aa
   repeat first
    |((with_reducible first|apply Aq|apply Ak|apply Ar|apply Ao|apply Aw|apply Bc|apply Bg|apply Aj);· first|with_reducible rfl|(simp (disch:=omega) only [nt,nt1,J7,c0,c1,c2,c3,c4,c5,c6,c7,c8,c9,c10,c11,c12,lk,e0,w,eb,w1,q0,es,Cn]<;>with_reducible rfl))
    |((with_reducible first|apply At|apply As);· first|with_reducible rfl|omega|(simp (disch:=omega) only [gT,nt,nt1,J7,c0,c1,c2,c3,c4,c5,c6,c7,c8,c9,c10,c11,c12,lk,e0,w,eb,w1,q0,es,Cn]<;>omega))
    |(with_reducible apply Ap;· first|with_reducible rfl|(simp (disch:=omega) only [gF,nt,nt1,J7,c0,c1,c2,c3,c4,c5,c6,c7,c8,c9,c10,c11,c12,lk,e0,w,eb,w1,q0,es,Cn]<;>omega))
   try simp (disch:=omega) only [nt,nt1,J7,c0,c1,c2,c3,c4,c5,c6,c7,c8,c9,c10,c11,c12,lk,e0,w,eb,w1,q0,es,Cn]
   all_goals rfl
  rw [A5 (by simp)]
  by_cases hv':Ns c e.key=0
  ·have v0:(Ns c e.key != 0)=false:=by simp [hv']
   have ih:=OZ hfu (a0n:=a0n) (a1n:=a1n) (a2n:=a2n) (a0:=a0) (a1:=a1) (a2:=a2) (a3:=a3) hc h3 hl hv (now:=now) (e::r) (i+1) nn (by simp) h3' (by simp only [Ja];omega) (by omega)
   rw [A5 (by simp [hv']),←ih]
   try unfold Aa
   repeat first
    |((with_reducible first|apply Aq|apply Ak|apply Ar|apply Ao|apply Aw|apply Bc|apply Bg|apply Aj);· first|with_reducible rfl|(simp (disch:=omega) only [nt,nt1,J7,c0,c1,c2,c3,c4,c5,c6,c7,c8,c9,c10,c11,c12,lk,e0,w,eb,w1,q0,es,q3',q4',vq,v0,Ck]<;>with_reducible rfl))
    |((with_reducible first|apply At|apply As);· first|with_reducible rfl|omega|(simp (disch:=omega) only [gT,nt,nt1,J7,c0,c1,c2,c3,c4,c5,c6,c7,c8,c9,c10,c11,c12,lk,e0,w,eb,w1,q0,es,q3',q4',vq,v0,Ck]<;>omega))
    |(with_reducible apply Ap;· first|with_reducible rfl|(simp (disch:=omega) only [gF,nt,nt1,J7,c0,c1,c2,c3,c4,c5,c6,c7,c8,c9,c10,c11,c12,lk,e0,w,eb,w1,q0,es,q3',q4',vq,v0,Ck]<;>omega))
   try simp (disch:=omega) only [nt,nt1,J7,c0,c1,c2,c3,c4,c5,c6,c7,c8,c9,c10,c11,c12,lk,e0,w,eb,w1,q0,es,q3',q4',vq,v0,Ck]
   all_goals rfl
  ·have v0:(Ns c e.key != 0)=true:=by simp [hv']
   rw [Bv hv']
   try unfold Aa
   repeat first
    |((with_reducible first|apply Aq|apply Ak|apply Ar|apply Ao|apply Aw|apply Bc|apply Bg|apply Aj);· first|with_reducible rfl|(simp (disch:=omega) only [nt,nt1,J7,c0,c1,c2,c3,c4,c5,c6,c7,c8,c9,c10,c11,c12,lk,e0,w,eb,w1,q0,es,q3',q4',vq,v0,Ck]<;>with_reducible rfl))
    |((with_reducible first|apply At|apply As);· first|with_reducible rfl|omega|(simp (disch:=omega) only [gT,nt,nt1,J7,c0,c1,c2,c3,c4,c5,c6,c7,c8,c9,c10,c11,c12,lk,e0,w,eb,w1,q0,es,q3',q4',vq,v0,Ck]<;>omega))
    |(with_reducible apply Ap;· first|with_reducible rfl|(simp (disch:=omega) only [gF,nt,nt1,J7,c0,c1,c2,c3,c4,c5,c6,c7,c8,c9,c10,c11,c12,lk,e0,w,eb,w1,q0,es,q3',q4',vq,v0,Ck]<;>omega))
   try simp (disch:=omega) only [nt,nt1,J7,c0,c1,c2,c3,c4,c5,c6,c7,c8,c9,c10,c11,c12,lk,e0,w,eb,w1,q0,es,q3',q4',vq,v0,Ck]
   all_goals rfl
theorem DG (hfu:1000<=fu){cs:List Ce}(hc:∀c∈cs,c.in_){ans:List An}(hl:ans.length<=900){vs:List Rv}(hv:vs.length<=900)(now:Int):
  Ae C0 Tryz.prog fu (d+10) Qd [.lst false 13 cs.length (B5 cs),.lst false 3 ans.length (Fb ans),.lst false 3 vs.length (Em vs),.sc (.int .i64 now)]=some ⟨[.sc (.int .i64 (HK cs ans vs now).1),.sc (.int .i64 (HK cs ans vs now).2)],[]⟩:=by
 rw [Z6];unfold HK;by_cases h1:now<0
 ·rw [Bv h1]
  try unfold Aa
  repeat first
   |((with_reducible first|apply Aq|apply Ak|apply Ar|apply Ao|apply Aw|apply Bc|apply Bg|apply Aj);· first|with_reducible rfl|(simp (disch:=omega) only [B8]<;>with_reducible rfl))
   |((with_reducible first|apply At|apply As);· first|with_reducible rfl|omega|(simp (disch:=omega) only [gT,B8]<;>omega))
   |(with_reducible apply Ap;· first|with_reducible rfl|(simp (disch:=omega) only [gF,B8]<;>omega))
  try simp (disch:=omega) only [B8]
  all_goals rfl
 rw [A5 h1];by_cases h2:now>1099511627776
 ·rw [Bv h2]
  try unfold Aa
  repeat first
   |((with_reducible first|apply Aq|apply Ak|apply Ar|apply Ao|apply Aw|apply Bc|apply Bg|apply Aj);· first|with_reducible rfl|(simp (disch:=omega) only [B8]<;>with_reducible rfl))
   |((with_reducible first|apply At|apply As);· first|with_reducible rfl|omega|(simp (disch:=omega) only [gT,B8]<;>omega))
   |(with_reducible apply Ap;· first|with_reducible rfl|(simp (disch:=omega) only [gF,B8]<;>omega))
  try simp (disch:=omega) only [B8]
  all_goals rfl
 rw [A5 h2];by_cases h3:cs.length<1
 ·rw [Bv h3]
  try unfold Aa
  repeat first
   |((with_reducible first|apply Aq|apply Ak|apply Ar|apply Ao|apply Aw|apply Bc|apply Bg|apply Aj);· first|with_reducible rfl|(simp (disch:=omega) only [B8]<;>with_reducible rfl))
   |((with_reducible first|apply At|apply As);· first|with_reducible rfl|omega|(simp (disch:=omega) only [gT,B8]<;>omega))
   |(with_reducible apply Ap;· first|with_reducible rfl|(simp (disch:=omega) only [gF,B8]<;>omega))
  try simp (disch:=omega) only [B8]
  all_goals rfl
 rw [A5 h3];by_cases h4:cs.length>3
 ·rw [Bv h4]
  try unfold Aa
  repeat first
   |((with_reducible first|apply Aq|apply Ak|apply Ar|apply Ao|apply Aw|apply Bc|apply Bg|apply Aj);· first|with_reducible rfl|(simp (disch:=omega) only [B8]<;>with_reducible rfl))
   |((with_reducible first|apply At|apply As);· first|with_reducible rfl|omega|(simp (disch:=omega) only [gT,B8]<;>omega))
   |(with_reducible apply Ap;· first|with_reducible rfl|(simp (disch:=omega) only [gF,B8]<;>omega))
  try simp (disch:=omega) only [B8]
  all_goals rfl
 rw [A5 h4];have lp:=OZ (fu:=fu) (d:=d) hfu (a0n:=cs.length) (a1n:=ans.length) (a2n:=vs.length) (a0:=B5 cs) (a1:=Fb ans) (a2:=Em vs) (a3:=now) hc (by omega) hl hv (now:=now) cs 0 fu (by intro h;subst h;simp at h3) rfl (by omega) (by omega)
 rw [←lp]
 try unfold Aa
 repeat first
  |((with_reducible first|apply Aq|apply Ak|apply Ar|apply Ao|apply Aw|apply Bc|apply Bg|apply Aj);· first|with_reducible rfl|(simp (disch:=omega) only [B8]<;>with_reducible rfl))
  |((with_reducible first|apply At|apply As);· first|with_reducible rfl|omega|(simp (disch:=omega) only [gT,B8]<;>omega))
  |(with_reducible apply Ap;· first|with_reducible rfl|(simp (disch:=omega) only [gF,B8]<;>omega))
 try simp (disch:=omega) only [B8]
 all_goals rfl
end
end
section
open Go.IntKind (wrap)
section
variable {fu d:Nat}
theorem RJ (hfu:1000<=fu){a0_0 a0_1:ByteArray}{a0_2 a0_3 a0_4 a0_5 a0_6 a0_8 a0_9 a0_10:Int}{a0_7:Bool}{a0_11n a0_12n a1n:Nat}{a0_11 a0_12 a1:List PV}{c:Ce}(hc:c.in_){ans:List An}(hl:ans.length<=1000000):∀(r:List An)(i nn:Nat),ans.drop i=r->r.length<nn->i<=ans.length ->
  Eb fu (Ae C0 Tryz.prog fu (d+8)) a0_0 a0_1 a0_2 a0_3 a0_4 a0_5 a0_6 a0_7 a0_8 a0_9 a0_10 a0_11n a0_11 a0_12n a0_12 a1n a1 nn ans.length (Fb ans) (i:Int) c.subj c.iss c.serial c.key.h c.key.root c.fr c.un c.auth c.path c.model c.sig.leaf c.sig.chains.length (Af .u64 c.sig.chains) c.sig.path.length (Af .u64 c.sig.path) =
   some ⟨[.sc (.int .i64 (Ld c i r))],[]⟩
 |_,_,0,_,h,_=>by omega
 |[],i,nn+1,h,hn,hi=>by
  have:=drop_nil h;rw [I4,Dj _ _ _ (by omega)]
  rfl
 |a::rs,i,nn+1,h,hn,hi=>by
  obtain ⟨h1,h2,h3⟩:=B3 h;simp only [Ja] at hn;obtain ⟨c0,c1,c2⟩:=ana h2;have w:wrap .i64 ((i:Int)+1)=((i+1:Nat):Int):=by rw [Al (by omega) (by omega)];omega
  have nt:Int.toNat (i:Int)=i:=Gy _;have c2':(Fb ans).getD (i*3+1+1) .top=.sc (.int .u64 a.key.root):=c2;have vq:=VY (fu:=fu) (d:=d) hfu hc.wf hc.s1 hc.s2 a.key;simp only [Ce.cells,Ky.cells] at vq;have ih:=RJ hfu (a0_0:=a0_0) (a0_1:=a0_1) (a0_2:=a0_2) (a0_3:=a0_3) (a0_4:=a0_4) (a0_5:=a0_5) (a0_6:=a0_6) (a0_7:=a0_7) (a0_8:=a0_8) (a0_9:=a0_9) (a0_10:=a0_10) (a0_11n:=a0_11n) (a0_12n:=a0_12n) (a1n:=a1n) (a0_11:=a0_11) (a0_12:=a0_12) (a1:=a1) hc hl rs (i+1) nn h3 (by omega) (by omega)
  rw [I4];cases e1:eqS a.name c.iss
  ·have er:Ld c i (a::rs)=Ld c (i+1) rs:=by rw [Ld,A5 (by simp [e1])]
   rw [er,←ih]
   try unfold Aa
   repeat first
    |((with_reducible first|apply Aq|apply Ak|apply Ar|apply Ao|apply Aw|apply Bc|apply Bg|apply Aj);· first|with_reducible rfl|(simp (disch:=omega) only [nt,J7,c0,c1,c2',e1,w]<;>with_reducible rfl))
    |((with_reducible first|apply At|apply As);· first|with_reducible rfl|omega|(simp (disch:=omega) only [gT,nt,J7,c0,c1,c2',e1,w]<;>omega))
    |(with_reducible apply Ap;· first|with_reducible rfl|(simp (disch:=omega) only [gF,nt,J7,c0,c1,c2',e1,w]<;>omega))
   try simp (disch:=omega) only [nt,J7,c0,c1,c2',e1,w]
   all_goals rfl
  ·by_cases e2:Ns c a.key=0
   ·have e2':(Ns c a.key==0)=true:=by simp [e2]
    have er:Ld c i (a::rs)=(i:Int):=by rw [Ld,Bv ⟨e1,e2⟩]
    rw [er]
    try unfold Aa
    repeat first
     |((with_reducible first|apply Aq|apply Ak|apply Ar|apply Ao|apply Aw|apply Bc|apply Bg|apply Aj);· first|with_reducible rfl|(simp (disch:=omega) only [nt,J7,c0,c1,c2',e1,w,vq,e2']<;>with_reducible rfl))
     |((with_reducible first|apply At|apply As);· first|with_reducible rfl|omega|(simp (disch:=omega) only [gT,nt,J7,c0,c1,c2',e1,w,vq,e2']<;>omega))
     |(with_reducible apply Ap;· first|with_reducible rfl|(simp (disch:=omega) only [gF,nt,J7,c0,c1,c2',e1,w,vq,e2']<;>omega))
    try simp (disch:=omega) only [nt,J7,c0,c1,c2',e1,w,vq,e2']
    all_goals rfl
   ·have e2':(Ns c a.key==0)=false:=by simp [e2]
    have er:Ld c i (a::rs)=Ld c (i+1) rs:=by rw [Ld,A5 (by simp [e2])]
    rw [er,←ih]
    try unfold Aa
    repeat first
     |((with_reducible first|apply Aq|apply Ak|apply Ar|apply Ao|apply Aw|apply Bc|apply Bg|apply Aj);· first|with_reducible rfl|(simp (disch:=omega) only [nt,J7,c0,c1,c2',e1,w,vq,e2']<;>with_reducible rfl))
     |((with_reducible first|apply At|apply As);· first|with_reducible rfl|omega|(simp (disch:=omega) only [gT,nt,J7,c0,c1,c2',e1,w,vq,e2']<;>omega))
     |(with_reducible apply Ap;· first|with_reducible rfl|(simp (disch:=omega) only [gF,nt,J7,c0,c1,c2',e1,w,vq,e2']<;>omega))
    try simp (disch:=omega) only [nt,J7,c0,c1,c2',e1,w,vq,e2']
    all_goals rfl
theorem Aks (hfu:1000<=fu){c:Ce}(hc:c.in_){ans:List An}(hl:ans.length<=900):Ae C0 Tryz.prog fu (d+9) Lt [.agg c.cells,.lst false 3 ans.length (Fb ans)]=some ⟨[.sc (.int .i64 (Ld c 0 ans))],[]⟩:=
 (Vm fu (d+8) c.subj c.iss c.serial c.key.h c.key.root c.fr c.un c.auth c.path c.model c.sig.leaf c.sig.chains.length (Af .u64 c.sig.chains) c.sig.path.length (Af .u64 c.sig.path) ans.length (Fb ans)).trans (RJ hfu hc (by omega) ans 0 fu rfl (by omega) (by omega))
theorem RU {call:Ah}{a0n a1n a2n m0:Nat}{a0 a1 a2:List PV}{a3 i:Int}{cs:List Ce}{ans:List An}{c:Ce}{now:Int}{vs:List Rv}(hl:vs.length<=1000000){T:Option A0}
  (hT:∀nn,Cy fu call a0n a0 a1n a1 a2n a2 a3 m0 (nn+1) cs.length (B5 cs) ans.length (Fb ans) vs.length (Em vs) now i (vs.length:Int) c.subj c.iss c.serial c.key.h c.key.root c.fr c.un c.auth c.path c.model c.sig.leaf c.sig.chains.length (Af .u64 c.sig.chains) c.sig.path.length (Af .u64 c.sig.path)=T):∀(r:List Rv)(j nn:Nat),vs.drop j=r->r.length<nn->j<=vs.length ->
  Cy fu call a0n a0 a1n a1 a2n a2 a3 m0 nn cs.length (B5 cs) ans.length (Fb ans) vs.length (Em vs) now i (j:Int) c.subj c.iss c.serial c.key.h c.key.root c.fr c.un c.auth c.path c.model c.sig.leaf c.sig.chains.length (Af .u64 c.sig.chains) c.sig.path.length (Af .u64 c.sig.path) =
   if I6 c now r=0 then T else some ⟨[.sc (.int .i64 0),.sc (.int .i64 39)],[]⟩
 |_,_,0,_,h,_=>by omega
 |[],j,nn+1,h,hn,hj=>by
  have:=drop_nil h;obtain rfl:j=vs.length:=by omega
  rw [hT nn];rfl
 |r::rs,j,nn+1,h,hn,hj=>by
  obtain ⟨h1,h2,h3⟩:=B3 h;simp only [Ja] at hn;obtain ⟨c0,c1,c2⟩:=rva h2;have w:wrap .i64 ((j:Int)+1)=((j+1:Nat):Int):=by rw [Al (by omega) (by omega)];omega
  have nt:Int.toNat (j:Int)=j:=Gy _;have ih:=RU hl hT rs (j+1) nn h3 (by omega) (by omega)
  have er:I6 c now (r::rs)=if Kk c now r=true then 39 else I6 c now rs:=by
   unfold I6;rw [List.any_cons];cases Kk c now r<;>rfl
  rw [Hj];cases e1:eqS r.iss c.iss
  ·have eh:Kk c now r=false:=by unfold Kk;rw [e1];rfl
   have er':I6 c now (r::rs)=I6 c now rs:=by rw [er,eh];rfl
   rw [er',←ih]
   try unfold Aa
   repeat first
    |((with_reducible first|apply Aq|apply Ak|apply Ar|apply Ao|apply Aw|apply Bc|apply Bg|apply Aj);· first|with_reducible rfl|(simp (disch:=omega) only [nt,J7,c0,c1,c2,e1,w]<;>with_reducible rfl))
    |((with_reducible first|apply At|apply As);· first|with_reducible rfl|omega|(simp (disch:=omega) only [gT,nt,J7,c0,c1,c2,e1,w]<;>omega))
    |(with_reducible apply Ap;· first|with_reducible rfl|(simp (disch:=omega) only [gF,nt,J7,c0,c1,c2,e1,w]<;>omega))
   try simp (disch:=omega) only [nt,J7,c0,c1,c2,e1,w]
   all_goals rfl
  ·cases e2:(r.ser==c.serial)
   ·have eh:Kk c now r=false:=by unfold Kk;rw [e1,e2];rfl
    have er':I6 c now (r::rs)=I6 c now rs:=by rw [er,eh];rfl
    rw [er',←ih]
    try unfold Aa
    repeat first
     |((with_reducible first|apply Aq|apply Ak|apply Ar|apply Ao|apply Aw|apply Bc|apply Bg|apply Aj);· first|with_reducible rfl|(simp (disch:=omega) only [nt,J7,c0,c1,c2,e1,e2,w]<;>with_reducible rfl))
     |((with_reducible first|apply At|apply As);· first|with_reducible rfl|omega|(simp (disch:=omega) only [gT,nt,J7,c0,c1,c2,e1,e2,w]<;>omega))
     |(with_reducible apply Ap;· first|with_reducible rfl|(simp (disch:=omega) only [gF,nt,J7,c0,c1,c2,e1,e2,w]<;>omega))
    try simp (disch:=omega) only [nt,J7,c0,c1,c2,e1,e2,w]
    all_goals rfl
   ·by_cases e3:r.at_<=now
    ·have eh:Kk c now r=true:=by unfold Kk;rw [e1,e2];simp [e3]
     have er':I6 c now (r::rs)=39:=by rw [er,eh];rfl
     have n39:¬((39:Int)=0):=by omega
     rw [er',A5 n39]
     try unfold Aa
     repeat first
      |((with_reducible first|apply Aq|apply Ak|apply Ar|apply Ao|apply Aw|apply Bc|apply Bg|apply Aj);· first|with_reducible rfl|(simp (disch:=omega) only [nt,J7,c0,c1,c2,e1,e2,w]<;>with_reducible rfl))
      |((with_reducible first|apply At|apply As);· first|with_reducible rfl|omega|(simp (disch:=omega) only [gT,nt,J7,c0,c1,c2,e1,e2,w]<;>omega))
      |(with_reducible apply Ap;· first|with_reducible rfl|(simp (disch:=omega) only [gF,nt,J7,c0,c1,c2,e1,e2,w]<;>omega))
     try simp (disch:=omega) only [nt,J7,c0,c1,c2,e1,e2,w]
     all_goals rfl
    ·have eh:Kk c now r=false:=by unfold Kk;rw [e1,e2];simp [e3]
     have er':I6 c now (r::rs)=I6 c now rs:=by rw [er,eh];rfl
     rw [er',←ih]
     try unfold Aa
     repeat first
      |((with_reducible first|apply Aq|apply Ak|apply Ar|apply Ao|apply Aw|apply Bc|apply Bg|apply Aj);· first|with_reducible rfl|(simp (disch:=omega) only [nt,J7,c0,c1,c2,e1,e2,w]<;>with_reducible rfl))
      |((with_reducible first|apply At|apply As);· first|with_reducible rfl|omega|(simp (disch:=omega) only [gT,nt,J7,c0,c1,c2,e1,e2,w]<;>omega))
      |(with_reducible apply Ap;· first|with_reducible rfl|(simp (disch:=omega) only [gF,nt,J7,c0,c1,c2,e1,e2,w]<;>omega))
     try simp (disch:=omega) only [nt,J7,c0,c1,c2,e1,e2,w]
     all_goals rfl
theorem WH (hfu:1000<=fu){a0n a1n a2n:Nat}{a0 a1 a2:List PV}{a3:Int}{cs:List Ce}{c:Ce}{i:Nat}(hg:cs[i]?=some c) (hci:c.in_)(h3:cs.length<=3){ans:List An}{vs:List Rv}(hv:vs.length<=900){now:Int}{m:Nat}{T:Option A0}
  (hT:∀nn,Cy fu (Ae C0 Tryz.prog fu (d+9)) a0n a0 a1n a1 a2n a2 a3 m (nn+1) cs.length (B5 cs) ans.length (Fb ans) vs.length (Em vs) now (i:Int) (vs.length:Int) c.subj c.iss c.serial c.key.h c.key.root c.fr c.un c.auth c.path c.model c.sig.leaf c.sig.chains.length (Af .u64 c.sig.chains) c.sig.path.length (Af .u64 c.sig.path)=T):
  D1 fu (Ae C0 Tryz.prog fu (d+9)) a0n a0 a1n a1 a2n a2 a3 (m+1) cs.length (B5 cs) ans.length (Fb ans) vs.length (Em vs) now (i:Int) =
   if F6 c i vs now=0 then T else some ⟨[.sc (.int .i64 0),.sc (.int .i64 (F6 c i vs now))],[]⟩:=by
 obtain ⟨c0,c1,c2,c3,c4,c5,c6,c7,c8,c9,c10,c11,c12⟩:=cer hg;have hi:=SO hg;have nt:Int.toNat (i:Int)=i:=Gy _;have bq:=ND (fu:=fu) (d:=d+4) hfu hci.wf hci.s1 hci.s2;simp only [Ce.cells] at bq;unfold Gq at bq;have wi:=Pe (fu:=fu) (d:=d+8) now c.fr c.un;have w:wrap .i64 ((i:Int)-1)=(i:Int)-1:=Al (by omega) (by omega)
 have rl:=RU (fu:=fu) (c:=c) (by omega) hT vs 0 fu rfl (by omega) (by omega)
 have J:∀nn,0<nn->Gg fu (Ae C0 Tryz.prog fu (d+9)) a0n a0 a1n a1 a2n a2 a3 m nn cs.length (B5 cs) ans.length (Fb ans) vs.length (Em vs) now (i:Int) c.subj c.iss c.serial c.key.h c.key.root c.fr c.un c.auth c.path c.model c.sig.leaf c.sig.chains.length (Af .u64 c.sig.chains) c.sig.path.length (Af .u64 c.sig.path)=if I6 c now vs=0 then T else some ⟨[.sc (.int .i64 0),.sc (.int .i64 39)],[]⟩:=by
  intro nn hnn;rw [Ur (hnn:=hnn)];exact rl
 have J:=J fu (by omega)
 rw [Hk];by_cases h0:A4 c=0
 rotate_left
 ·have hne:(A4 c != 0)=true:=by simp [h0]
  have el:F6 c i vs now=A4 c:=by unfold F6;rw [Bv h0]
  rw [A5 h0] at bq;rw [el,A5 h0]
  try unfold Aa
  repeat first
   |((with_reducible first|apply Aq|apply Ak|apply Ar|apply Ao|apply Aw|apply Bc|apply Bg|apply Aj);· first|with_reducible rfl|(simp (disch:=omega) only [nt,c0,c1,c2,c3,c4,c5,c6,c7,c8,c9,c10,c11,c12,bq,hne]<;>with_reducible rfl))
   |((with_reducible first|apply At|apply As);· first|with_reducible rfl|omega|(simp (disch:=omega) only [gT,nt,c0,c1,c2,c3,c4,c5,c6,c7,c8,c9,c10,c11,c12,bq,hne]<;>omega))
   |(with_reducible apply Ap;· first|with_reducible rfl|(simp (disch:=omega) only [gF,nt,c0,c1,c2,c3,c4,c5,c6,c7,c8,c9,c10,c11,c12,bq,hne]<;>omega))
  try simp (disch:=omega) only [nt,c0,c1,c2,c3,c4,c5,c6,c7,c8,c9,c10,c11,c12,bq,hne]
  all_goals rfl
 rw [Bv h0] at bq;have e00:((0:Int) != 0)=false:=rfl;have n38:¬((38:Int)=0):=by omega
 have L0:F6 c i vs now=if now<c.fr then 38 else if now>c.un then 38 else if (i:Int)>0 then (if c.auth=false then 38 else if c.path<(i:Int)-1 then 38 else I6 c now vs) else I6 c now vs:=by unfold F6;rw [A5 (by simp [h0])]
 by_cases h1:now<c.fr
 ·have el:F6 c i vs now=38:=by rw [L0,Bv h1]
  have:(decide (c.fr<=now)&&decide (now<=c.un))=false:=by simp;omega
  rw [this] at wi;rw [el,A5 n38]
  try unfold Aa
  repeat first
   |((with_reducible first|apply Aq|apply Ak|apply Ar|apply Ao|apply Aw|apply Bc|apply Bg|apply Aj);· first|with_reducible rfl|(simp (disch:=omega) only [nt,c0,c1,c2,c3,c4,c5,c6,c7,c8,c9,c10,c11,c12,bq,e00,wi,Cn]<;>with_reducible rfl))
   |((with_reducible first|apply At|apply As);· first|with_reducible rfl|omega|(simp (disch:=omega) only [gT,nt,c0,c1,c2,c3,c4,c5,c6,c7,c8,c9,c10,c11,c12,bq,e00,wi,Cn]<;>omega))
   |(with_reducible apply Ap;· first|with_reducible rfl|(simp (disch:=omega) only [gF,nt,c0,c1,c2,c3,c4,c5,c6,c7,c8,c9,c10,c11,c12,bq,e00,wi,Cn]<;>omega))
  try simp (disch:=omega) only [nt,c0,c1,c2,c3,c4,c5,c6,c7,c8,c9,c10,c11,c12,bq,e00,wi,Cn]
  all_goals rfl
 by_cases h2:now>c.un
 ·have el:F6 c i vs now=38:=by rw [L0,A5 h1,Bv h2]
  have:(decide (c.fr<=now)&&decide (now<=c.un))=false:=by simp;omega
  rw [this] at wi;rw [el,A5 n38]
  try unfold Aa
  repeat first
   |((with_reducible first|apply Aq|apply Ak|apply Ar|apply Ao|apply Aw|apply Bc|apply Bg|apply Aj);· first|with_reducible rfl|(simp (disch:=omega) only [nt,c0,c1,c2,c3,c4,c5,c6,c7,c8,c9,c10,c11,c12,bq,e00,wi,Cn]<;>with_reducible rfl))
   |((with_reducible first|apply At|apply As);· first|with_reducible rfl|omega|(simp (disch:=omega) only [gT,nt,c0,c1,c2,c3,c4,c5,c6,c7,c8,c9,c10,c11,c12,bq,e00,wi,Cn]<;>omega))
   |(with_reducible apply Ap;· first|with_reducible rfl|(simp (disch:=omega) only [gF,nt,c0,c1,c2,c3,c4,c5,c6,c7,c8,c9,c10,c11,c12,bq,e00,wi,Cn]<;>omega))
  try simp (disch:=omega) only [nt,c0,c1,c2,c3,c4,c5,c6,c7,c8,c9,c10,c11,c12,bq,e00,wi,Cn]
  all_goals rfl
 have q:(decide (c.fr<=now)&&decide (now<=c.un))=true:=by simp;omega
 rw [q] at wi;by_cases h4:(i:Int)>0
 ·cases ha:c.auth
  ·have el:F6 c i vs now=38:=by rw [L0,A5 h1,A5 h2,Bv h4,Bv ha]
   rw [el,A5 n38];rw [ha] at c7 bq
   try unfold Aa
   repeat first
    |((with_reducible first|apply Aq|apply Ak|apply Ar|apply Ao|apply Aw|apply Bc|apply Bg|apply Aj);· first|with_reducible rfl|(simp (disch:=omega) only [nt,c0,c1,c2,c3,c4,c5,c6,c7,c8,c9,c10,c11,c12,bq,e00,wi,Ck,Cn]<;>with_reducible rfl))
    |((with_reducible first|apply At|apply As);· first|with_reducible rfl|omega|(simp (disch:=omega) only [gT,nt,c0,c1,c2,c3,c4,c5,c6,c7,c8,c9,c10,c11,c12,bq,e00,wi,Ck,Cn]<;>omega))
    |(with_reducible apply Ap;· first|with_reducible rfl|(simp (disch:=omega) only [gF,nt,c0,c1,c2,c3,c4,c5,c6,c7,c8,c9,c10,c11,c12,bq,e00,wi,Ck,Cn]<;>omega))
   try simp (disch:=omega) only [nt,c0,c1,c2,c3,c4,c5,c6,c7,c8,c9,c10,c11,c12,bq,e00,wi,Ck,Cn]
   all_goals rfl
  ·rw [ha] at c7 bq J;by_cases h5:c.path<(i:Int)-1
   ·have el:F6 c i vs now=38:=by rw [L0,A5 h1,A5 h2,Bv h4,A5 (by simp [ha]),Bv h5]
    rw [el,A5 n38]
    try unfold Aa
    repeat first
     |((with_reducible first|apply Aq|apply Ak|apply Ar|apply Ao|apply Aw|apply Bc|apply Bg|apply Aj);· first|with_reducible rfl|(simp (disch:=omega) only [nt,c0,c1,c2,c3,c4,c5,c6,c7,c8,c9,c10,c11,c12,bq,e00,wi,w,Ck,Cn]<;>with_reducible rfl))
     |((with_reducible first|apply At|apply As);· first|with_reducible rfl|omega|(simp (disch:=omega) only [gT,nt,c0,c1,c2,c3,c4,c5,c6,c7,c8,c9,c10,c11,c12,bq,e00,wi,w,Ck,Cn]<;>omega))
     |(with_reducible apply Ap;· first|with_reducible rfl|(simp (disch:=omega) only [gF,nt,c0,c1,c2,c3,c4,c5,c6,c7,c8,c9,c10,c11,c12,bq,e00,wi,w,Ck,Cn]<;>omega))
    try simp (disch:=omega) only [nt,c0,c1,c2,c3,c4,c5,c6,c7,c8,c9,c10,c11,c12,bq,e00,wi,w,Ck,Cn]
    all_goals rfl
   ·have el:F6 c i vs now=I6 c now vs:=by rw [L0,A5 h1,A5 h2,Bv h4,A5 (by simp [ha]),A5 h5]
    have e39:(if I6 c now vs=0 then T else some ⟨[.sc (.int .i64 0),.sc (.int .i64 (I6 c now vs))],[]⟩)=(if I6 c now vs=0 then T else some (A0.mk [.sc (.int .i64 0),.sc (.int .i64 39)] [])):=by
     unfold I6;split<;>rfl
    rw [el,e39,←J]
    try unfold Aa
    repeat first
     |((with_reducible first|apply Aq|apply Ak|apply Ar|apply Ao|apply Aw|apply Bc|apply Bg|apply Aj);· first|with_reducible rfl|(simp (disch:=omega) only [nt,c0,c1,c2,c3,c4,c5,c6,c7,c8,c9,c10,c11,c12,bq,e00,wi,w,Ck,Cn]<;>with_reducible rfl))
     |((with_reducible first|apply At|apply As);· first|with_reducible rfl|omega|(simp (disch:=omega) only [gT,nt,c0,c1,c2,c3,c4,c5,c6,c7,c8,c9,c10,c11,c12,bq,e00,wi,w,Ck,Cn]<;>omega))
     |(with_reducible apply Ap;· first|with_reducible rfl|(simp (disch:=omega) only [gF,nt,c0,c1,c2,c3,c4,c5,c6,c7,c8,c9,c10,c11,c12,bq,e00,wi,w,Ck,Cn]<;>omega))
    try simp (disch:=omega) only [nt,c0,c1,c2,c3,c4,c5,c6,c7,c8,c9,c10,c11,c12,bq,e00,wi,w,Ck,Cn]
    all_goals rfl
 ·have el:F6 c i vs now=I6 c now vs:=by rw [L0,A5 h1,A5 h2,A5 h4]
  have e39:(if I6 c now vs=0 then T else some ⟨[.sc (.int .i64 0),.sc (.int .i64 (I6 c now vs))],[]⟩)=(if I6 c now vs=0 then T else some (A0.mk [.sc (.int .i64 0),.sc (.int .i64 39)] [])):=by
   unfold I6;split<;>rfl
  rw [el,e39,←J]
  try unfold Aa
  repeat first
   |((with_reducible first|apply Aq|apply Ak|apply Ar|apply Ao|apply Aw|apply Bc|apply Bg|apply Aj);· first|with_reducible rfl|(simp (disch:=omega) only [nt,c0,c1,c2,c3,c4,c5,c6,c7,c8,c9,c10,c11,c12,bq,e00,wi,w,Ck,Cn]<;>with_reducible rfl))
   |((with_reducible first|apply At|apply As);· first|with_reducible rfl|omega|(simp (disch:=omega) only [gT,nt,c0,c1,c2,c3,c4,c5,c6,c7,c8,c9,c10,c11,c12,bq,e00,wi,w,Ck,Cn]<;>omega))
   |(with_reducible apply Ap;· first|with_reducible rfl|(simp (disch:=omega) only [gF,nt,c0,c1,c2,c3,c4,c5,c6,c7,c8,c9,c10,c11,c12,bq,e00,wi,w,Ck,Cn]<;>omega))
  try simp (disch:=omega) only [nt,c0,c1,c2,c3,c4,c5,c6,c7,c8,c9,c10,c11,c12,bq,e00,wi,w,Ck,Cn]
  all_goals rfl
theorem NH (hfu:1000<=fu){a0n a1n a2n:Nat}{a0 a1 a2:List PV}{a3:Int}{cs:List Ce}(hc:∀c∈cs,c.in_)(h3:cs.length<=3){ans:List An}(hl:ans.length<=900){vs:List Rv}(hv:vs.length<=900){now:Int}:∀(r:List Ce)(i nn:Nat),r≠[]->cs.drop i=r->r.length+1<nn->i<=cs.length ->
  D1 fu (Ae C0 Tryz.prog fu (d+10)) a0n a0 a1n a1 a2n a2 a3 nn cs.length (B5 cs) ans.length (Fb ans) vs.length (Em vs) now (i:Int) =
   some ⟨[.sc (.int .i64 (Sm ans vs now i r).1),.sc (.int .i64 (Sm ans vs now i r).2)],[]⟩
 |_,_,0,_,_,h,_=>by omega
 |[],i,nn+1,hne,_,_,_=>absurd rfl hne
 |[c],i,nn+1,hne,h,hn,hi=>by
  obtain ⟨h1,h2,h3'⟩:=B3 h;have hlast:=drop_nil h3';have hci:=hc c (List.mem_of_getElem? h2);simp only [Ja,AV] at hn;obtain ⟨m,rfl⟩:∃m,nn=m+1:=⟨nn-1,by omega⟩
  obtain ⟨c0,c1,c2,c3,c4,c5,c6,c7,c8,c9,c10,c11,c12⟩:=cer h2;have nt:Int.toNat (i:Int)=i:=Gy _;have w1:wrap .i64 ((i:Int)+1)=((i+1:Nat):Int):=by rw [Al (by omega) (by omega)];omega
  have w2:wrap .i64 ((cs.length:Int)-1)=(i:Int):=by rw [Al (by omega) (by omega)];omega
  have is_:=Aks (fu:=fu) (d:=d+1) hfu hci (ans:=ans) hl;simp only [Ce.cells] at is_
  have st:=WH (fu:=fu) (d:=d+1) hfu (a0n:=a0n) (a1n:=a1n) (a2n:=a2n) (a0:=a0) (a1:=a1) (a2:=a2) (a3:=a3) h2 hci h3 (ans:=ans) (vs:=vs) hv (now:=now) (m:=m+1) (T:=some ⟨[.sc (.int .i64 (XX c ans).1),.sc (.int .i64 (XX c ans).2)],[]⟩) (by
   intro nn;unfold XX;rw [Hj];by_cases hz:Ld c 0 ans<0
   ·rw [Bv hz]
    try unfold Aa
    repeat first
     |((with_reducible first|apply Aq|apply Ak|apply Ar|apply Ao|apply Aw|apply Bc|apply Bg|apply Aj);· first|with_reducible rfl|(simp (disch:=omega) only [w1]<;>with_reducible rfl))
     |((with_reducible first|apply At|apply As);· first|with_reducible rfl|omega|(simp (disch:=omega) only [gT,w1]<;>omega))
     |(with_reducible apply Ap;· first|with_reducible rfl|(simp (disch:=omega) only [gF,w1]<;>omega))
    try simp (disch:=omega) only [w1]
    rw [Hk]
    try unfold Aa
    repeat first
     |((with_reducible first|apply Aq|apply Ak|apply Ar|apply Ao|apply Aw|apply Bc|apply Bg|apply Aj);· first|with_reducible rfl|(simp (disch:=omega) only [w2,nt,c0,c1,c2,c3,c4,c5,c6,c7,c8,c9,c10,c11,c12,is_]<;>with_reducible rfl))
     |((with_reducible first|apply At|apply As);· first|with_reducible rfl|omega|(simp (disch:=omega) only [gT,w2,nt,c0,c1,c2,c3,c4,c5,c6,c7,c8,c9,c10,c11,c12,is_]<;>omega))
     |(with_reducible apply Ap;· first|with_reducible rfl|(simp (disch:=omega) only [gF,w2,nt,c0,c1,c2,c3,c4,c5,c6,c7,c8,c9,c10,c11,c12,is_]<;>omega))
    try simp (disch:=omega) only [w2,nt,c0,c1,c2,c3,c4,c5,c6,c7,c8,c9,c10,c11,c12,is_]
    all_goals rfl
   ·rw [A5 hz]
    try unfold Aa
    repeat first
     |((with_reducible first|apply Aq|apply Ak|apply Ar|apply Ao|apply Aw|apply Bc|apply Bg|apply Aj);· first|with_reducible rfl|(simp (disch:=omega) only [w1]<;>with_reducible rfl))
     |((with_reducible first|apply At|apply As);· first|with_reducible rfl|omega|(simp (disch:=omega) only [gT,w1]<;>omega))
     |(with_reducible apply Ap;· first|with_reducible rfl|(simp (disch:=omega) only [gF,w1]<;>omega))
    try simp (disch:=omega) only [w1]
    rw [Hk]
    try unfold Aa
    repeat first
     |((with_reducible first|apply Aq|apply Ak|apply Ar|apply Ao|apply Aw|apply Bc|apply Bg|apply Aj);· first|with_reducible rfl|(simp (disch:=omega) only [w2,nt,c0,c1,c2,c3,c4,c5,c6,c7,c8,c9,c10,c11,c12,is_]<;>with_reducible rfl))
     |((with_reducible first|apply At|apply As);· first|with_reducible rfl|omega|(simp (disch:=omega) only [gT,w2,nt,c0,c1,c2,c3,c4,c5,c6,c7,c8,c9,c10,c11,c12,is_]<;>omega))
     |(with_reducible apply Ap;· first|with_reducible rfl|(simp (disch:=omega) only [gF,w2,nt,c0,c1,c2,c3,c4,c5,c6,c7,c8,c9,c10,c11,c12,is_]<;>omega))
    try simp (disch:=omega) only [w2,nt,c0,c1,c2,c3,c4,c5,c6,c7,c8,c9,c10,c11,c12,is_]
    all_goals rfl)
  rw [st];unfold Sm;by_cases hz:F6 c i vs now=0
  ·have hz':¬(F6 c i vs now≠0):=by simp [hz]
   rw [Bv hz,A5 hz']
  ·rw [A5 hz,Bv hz]
 |c::e::r,i,nn+1,hne,h,hn,hi=>by
  obtain ⟨h1,h2,h3'⟩:=B3 h;obtain ⟨k1,k2,k3⟩:=B3 h3';simp only [Ja] at hn;have hci:=hc c (List.mem_of_getElem? h2);obtain ⟨q0,q1,q2,q3,q4,_⟩:=cer k2;have nt1:Int.toNat ((i+1:Nat):Int)=i+1:=Gy _;have w1:wrap .i64 ((i:Int)+1)=((i+1:Nat):Int):=by rw [Al (by omega) (by omega)];omega
  have q3':(B5 cs).getD ((i+1)*13+3) .top=.sc (.int .i64 e.key.h):=q3;have q4':(B5 cs).getD ((i+1)*13+3+1) .top=.sc (.int .u64 e.key.root):=q4;have vq:=VY (fu:=fu) (d:=d+2) hfu hci.wf hci.s1 hci.s2 e.key;simp only [Ce.cells,Ky.cells] at vq;have ih:=NH hfu (a0n:=a0n) (a1n:=a1n) (a2n:=a2n) (a0:=a0) (a1:=a1) (a2:=a2) (a3:=a3) hc h3 hl hv (now:=now) (e::r) (i+1) nn (by simp) h3' (by simp only [Ja];omega) (by omega)
  have st:=WH (fu:=fu) (d:=d+1) hfu (a0n:=a0n) (a1n:=a1n) (a2n:=a2n) (a0:=a0) (a1:=a1) (a2:=a2) (a3:=a3) h2 hci h3 (ans:=ans) (vs:=vs) hv (now:=now) (m:=nn) (T:=some ⟨[.sc (.int .i64 (if eqS c.iss e.subj=false then ((0:Int),(38:Int)) else if Ns c e.key≠0 then (0,Ns c e.key) else Sm ans vs now (i+1) (e::r)).1),.sc (.int .i64 (if eqS c.iss e.subj=false then ((0:Int),(38:Int)) else if Ns c e.key≠0 then (0,Ns c e.key) else Sm ans vs now (i+1) (e::r)).2)],[]⟩) (by
   intro nn';rw [Hj];cases es:eqS c.iss e.subj
   ·simp only [if_true]
    try unfold Aa
    repeat first
     |((with_reducible first|apply Aq|apply Ak|apply Ar|apply Ao|apply Aw|apply Bc|apply Bg|apply Aj);· first|with_reducible rfl|(simp (disch:=omega) only [w1,nt1,J7,q0,es,Cn]<;>with_reducible rfl))
     |((with_reducible first|apply At|apply As);· first|with_reducible rfl|omega|(simp (disch:=omega) only [gT,w1,nt1,J7,q0,es,Cn]<;>omega))
     |(with_reducible apply Ap;· first|with_reducible rfl|(simp (disch:=omega) only [gF,w1,nt1,J7,q0,es,Cn]<;>omega))
    try simp (disch:=omega) only [w1,nt1,J7,q0,es,Cn]
    all_goals rfl
   ·simp only [Bool.true_eq_false,if_false];by_cases hv':Ns c e.key=0
    ·have v0:(Ns c e.key != 0)=false:=by simp [hv']
     rw [A5 (by simp [hv']),←ih]
     try unfold Aa
     repeat first
      |((with_reducible first|apply Aq|apply Ak|apply Ar|apply Ao|apply Aw|apply Bc|apply Bg|apply Aj);· first|with_reducible rfl|(simp (disch:=omega) only [w1,nt1,J7,q0,es,q3',q4',vq,v0,Ck]<;>with_reducible rfl))
      |((with_reducible first|apply At|apply As);· first|with_reducible rfl|omega|(simp (disch:=omega) only [gT,w1,nt1,J7,q0,es,q3',q4',vq,v0,Ck]<;>omega))
      |(with_reducible apply Ap;· first|with_reducible rfl|(simp (disch:=omega) only [gF,w1,nt1,J7,q0,es,q3',q4',vq,v0,Ck]<;>omega))
     try simp (disch:=omega) only [w1,nt1,J7,q0,es,q3',q4',vq,v0,Ck]
     all_goals rfl
    ·have v0:(Ns c e.key != 0)=true:=by simp [hv']
     rw [Bv hv']
     try unfold Aa
     repeat first
      |((with_reducible first|apply Aq|apply Ak|apply Ar|apply Ao|apply Aw|apply Bc|apply Bg|apply Aj);· first|with_reducible rfl|(simp (disch:=omega) only [w1,nt1,J7,q0,es,q3',q4',vq,v0,Ck]<;>with_reducible rfl))
      |((with_reducible first|apply At|apply As);· first|with_reducible rfl|omega|(simp (disch:=omega) only [gT,w1,nt1,J7,q0,es,q3',q4',vq,v0,Ck]<;>omega))
      |(with_reducible apply Ap;· first|with_reducible rfl|(simp (disch:=omega) only [gF,w1,nt1,J7,q0,es,q3',q4',vq,v0,Ck]<;>omega))
     try simp (disch:=omega) only [w1,nt1,J7,q0,es,q3',q4',vq,v0,Ck]
     all_goals rfl)
  rw [st]
  conv=>rhs;unfold Sm
  by_cases hz:F6 c i vs now=0
  ·have hz':¬(F6 c i vs now≠0):=by simp [hz]
   rw [Bv hz,A5 hz']
  ·rw [A5 hz,Bv hz]
theorem ZD (hfu:1000<=fu){cs:List Ce}(hc:∀c∈cs,c.in_){ans:List An}(hl:ans.length<=900){vs:List Rv}(hv:vs.length<=900)(now:Int):
  Ae C0 Tryz.prog fu (d+11) On [.lst false 13 cs.length (B5 cs),.lst false 3 ans.length (Fb ans),.lst false 3 vs.length (Em vs),.sc (.int .i64 now)]=some ⟨[.sc (.int .i64 (HK cs ans vs now).1),.sc (.int .i64 (HK cs ans vs now).2)],[]⟩:=by
 rw [Xz];have n1:=Pe (fu:=fu) (d:=d+9) now 0 1099511627776;have n2:=Pe (fu:=fu) (d:=d+9) cs.length 1 3;unfold HK;by_cases h1:now<0
 ·have:(decide ((0:Int)<=now)&&decide (now<=1099511627776))=false:=by simp;omega
  rw [this] at n1;rw [Bv h1]
  try unfold Aa
  repeat first
   |((with_reducible first|apply Aq|apply Ak|apply Ar|apply Ao|apply Aw|apply Bc|apply Bg|apply Aj);· first|with_reducible rfl|(simp (disch:=omega) only [n1,Cn]<;>with_reducible rfl))
   |((with_reducible first|apply At|apply As);· first|with_reducible rfl|omega|(simp (disch:=omega) only [gT,n1,Cn]<;>omega))
   |(with_reducible apply Ap;· first|with_reducible rfl|(simp (disch:=omega) only [gF,n1,Cn]<;>omega))
  try simp (disch:=omega) only [n1,Cn]
  all_goals rfl
 rw [A5 h1];by_cases h2:now>1099511627776
 ·have:(decide ((0:Int)<=now)&&decide (now<=1099511627776))=false:=by simp;omega
  rw [this] at n1;rw [Bv h2]
  try unfold Aa
  repeat first
   |((with_reducible first|apply Aq|apply Ak|apply Ar|apply Ao|apply Aw|apply Bc|apply Bg|apply Aj);· first|with_reducible rfl|(simp (disch:=omega) only [n1,Cn]<;>with_reducible rfl))
   |((with_reducible first|apply At|apply As);· first|with_reducible rfl|omega|(simp (disch:=omega) only [gT,n1,Cn]<;>omega))
   |(with_reducible apply Ap;· first|with_reducible rfl|(simp (disch:=omega) only [gF,n1,Cn]<;>omega))
  try simp (disch:=omega) only [n1,Cn]
  all_goals rfl
 have q1:(decide ((0:Int)<=now)&&decide (now<=1099511627776))=true:=by simp;omega
 rw [q1] at n1;rw [A5 h2];by_cases h3:cs.length<1
 ·have:(decide ((1:Int)<=cs.length)&&decide ((cs.length:Int)<=3))=false:=by simp;omega
  rw [this] at n2;rw [Bv h3]
  try unfold Aa
  repeat first
   |((with_reducible first|apply Aq|apply Ak|apply Ar|apply Ao|apply Aw|apply Bc|apply Bg|apply Aj);· first|with_reducible rfl|(simp (disch:=omega) only [n1,n2,Ck,Cn]<;>with_reducible rfl))
   |((with_reducible first|apply At|apply As);· first|with_reducible rfl|omega|(simp (disch:=omega) only [gT,n1,n2,Ck,Cn]<;>omega))
   |(with_reducible apply Ap;· first|with_reducible rfl|(simp (disch:=omega) only [gF,n1,n2,Ck,Cn]<;>omega))
  try simp (disch:=omega) only [n1,n2,Ck,Cn]
  all_goals rfl
 rw [A5 h3];by_cases h4:cs.length>3
 ·have:(decide ((1:Int)<=cs.length)&&decide ((cs.length:Int)<=3))=false:=by simp;omega
  rw [this] at n2;rw [Bv h4]
  try unfold Aa
  repeat first
   |((with_reducible first|apply Aq|apply Ak|apply Ar|apply Ao|apply Aw|apply Bc|apply Bg|apply Aj);· first|with_reducible rfl|(simp (disch:=omega) only [n1,n2,Ck,Cn]<;>with_reducible rfl))
   |((with_reducible first|apply At|apply As);· first|with_reducible rfl|omega|(simp (disch:=omega) only [gT,n1,n2,Ck,Cn]<;>omega))
   |(with_reducible apply Ap;· first|with_reducible rfl|(simp (disch:=omega) only [gF,n1,n2,Ck,Cn]<;>omega))
  try simp (disch:=omega) only [n1,n2,Ck,Cn]
  all_goals rfl
 rw [A5 h4];have q2:(decide ((1:Int)<=cs.length)&&decide ((cs.length:Int)<=3))=true:=by simp;omega
 rw [q2] at n2;have lp:=NH (fu:=fu) (d:=d) hfu (a0n:=cs.length) (a1n:=ans.length) (a2n:=vs.length) (a0:=B5 cs) (a1:=Fb ans) (a2:=Em vs) (a3:=now) hc (by omega) hl hv (now:=now) cs 0 fu (by intro h;subst h;simp at h3) rfl (by omega) (by omega)
 rw [←lp]
 try unfold Aa
 repeat first
  |((with_reducible first|apply Aq|apply Ak|apply Ar|apply Ao|apply Aw|apply Bc|apply Bg|apply Aj);· first|with_reducible rfl|(simp (disch:=omega) only [n1,n2,Ck,Cn]<;>with_reducible rfl))
  |((with_reducible first|apply At|apply As);· first|with_reducible rfl|omega|(simp (disch:=omega) only [gT,n1,n2,Ck,Cn]<;>omega))
  |(with_reducible apply Ap;· first|with_reducible rfl|(simp (disch:=omega) only [gF,n1,n2,Ck,Cn]<;>omega))
 try simp (disch:=omega) only [n1,n2,Ck,Cn]
 all_goals rfl
end
end
section
open Go.IntKind (wrap)
set_option maxRecDepth 100000
abbrev Ri:FuncId:=11
theorem BX (fu d a0n:Nat)(a0:List PV):Ae C0 Tryz.prog fu (d+1) Ri [.lst false 1 a0n a0]=(fun (call:Ah)=>some (A0.mk [.pbox [.lst false 1 a0n a0,.sc (.int .i64 0)]] [])) (Ae C0 Tryz.prog fu d):=by kernel_rfl
abbrev Q0:FuncId:=16
theorem DV (fu d:Nat)(a0 a1:Int):Ae C0 Tryz.prog fu (d+1) Q0 [.sc (.int .i64 a0),.sc (.int .i64 a1)]=(fun (call:Ah)=>Aa (wrap .u64 a0) fun x1=>Aa (wrap .u64 a1) fun x2=>Au (decide (x2≠0))<|Aa (Int.tmod x1 x2) fun x3=>Aa (wrap .i64 x3) fun x4=>some (A0.mk [.sc (.int .i64 x4)] [])) (Ae C0 Tryz.prog fu d):=by kernel_rfl
abbrev J1:FuncId:=14
theorem Js (fu d a0_0n:Nat)(a0_0:List PV)(a0_1 a1:Int):Ae C0 Tryz.prog fu (d+1) J1 [.pbox [.lst false 1 a0_0n a0_0,.sc (.int .i64 a0_1)],.sc (.int .i64 a1)]=(fun (call:Ah)=>A9 (decide (a0_1>=(↑a0_0n:Int))) (some (A0.mk [.sc (.int .i64 0)] [[.lst false 1 a0_0n a0_0,.sc (.int .i64 a0_1)]])) (Aa (wrap .i64 (a0_1+1)) fun x1=>Aa (wrap .i64 (x1-1)) fun x2=>Au (decide (0<=x2)&&decide (x2<(↑a0_0n:Int)))<|Ad .i64 (List.getD a0_0 (Int.toNat x2*1) .top) fun x3=>Ag (call 16 [.sc (.int .i64 x3),.sc (.int .i64 a1)]) fun x4 x5=>Ac x5<|Ab x4 fun x6 x7=>Ad .i64 x6 fun x8=>Ac x7<|some (A0.mk [.sc (.int .i64 x8)] [[.lst false 1 a0_0n a0_0,.sc (.int .i64 x1)]]))) (Ae C0 Tryz.prog fu d):=by kernel_rfl
end
end Go.Proofs.YtdjihiphpgkfmaaGreatDoor.Pv
