/-
  The proof of CertificatePaths, part 5.
-/
import Derived.Test.YtdjihiphpgkfmaaGreatDoorPD
import Derived.Test.YtdjihiphpgkfmaaGreatDoorRows
set_option linter.unusedSimpArgs false
set_option linter.unusedVariables false
namespace Go.Proofs.YtdjihiphpgkfmaaGreatDoor.Pv
section
open Go.IntKind (wrap)
structure Ce where
 subj:ByteArray
 iss:ByteArray
 serial:Int
 key:Ky
 fr:Int
 un:Int
 auth:Bool
 path:Int
 model:Int
 sig:Sg
def Ce.cells (c:Ce):List PV:=[.sc (.string c.subj),.sc (.string c.iss),.sc (.int .u64 c.serial),.sc (.int .i64 c.key.h),.sc (.int .u64 c.key.root),.sc (.int .i64 c.fr),.sc (.int .i64 c.un),.sc (.bool c.auth),.sc (.int .i64 c.path),.sc (.int .u64 c.model),.sc (.int .i64 c.sig.leaf),.lst false 1 c.sig.chains.length (Af .u64 c.sig.chains),.lst false 1 c.sig.path.length (Af .u64 c.sig.path)]
abbrev XX (s:ByteArray):Bool:=Lib.validD s.data.toList
abbrev Gl:ByteArray:=⟨#[]⟩
def A4 (c:Ce):Int:=
 if c.subj.size<1∨32<c.subj.size then 9 else if c.iss.size<1∨32<c.iss.size then 9 else if XX c.subj=false then 6 else if XX c.iss=false then 6 else
 if Dh c.key.h=true then 9 else if c.fr<0 then 9 else if c.un<c.fr then 9 else if c.un>1099511627776 then 9 else if c.path<0∨2<c.path then 9 else if c.path≠0∧c.auth=false then 4 else 0
def Bb (c:Ce):List It:=[⟨5,9,Gl⟩,⟨4,0,c.subj⟩,⟨4,0,c.iss⟩,⟨1,c.serial,Gl⟩,⟨3,0,Cd (Jn c.key)⟩,⟨1,c.fr,Gl⟩,⟨1,c.un,Gl⟩,⟨7,(if c.auth=true then 1 else 0),Gl⟩,⟨1,c.path,Gl⟩,⟨1,c.model,Gl⟩]
structure Ce.wf (c:Ce):Prop where
 ser:0<=c.serial
 mod:0<=c.model
def Gv (c:Ce):List PV:=if A4 c=0 then [.own 1 (Bf (Bb c)).length (Af .u8 (Bf (Bb c))),.sc (.int .i64 0)] else [.own 1 0 [],.sc (.int .i64 (A4 c))]
theorem Z5 {c:Ce}(hw:c.wf)(h:A4 c=0):∀x∈Bb c,x.ok∧x.dat:=by
 unfold A4 at h;have kl:(Cd (Jn c.key)).size=9:=by rw [Ge];rfl
 have ns:Gl.size=0:=rfl;have hs:=hw.ser;have hm:=hw.mod
 repeat' (split at h;· cases h)
 intro x hx;simp only [Bb,List.mem_cons,List.not_mem_nil,or_false] at hx;rcases hx with rfl|rfl|rfl|rfl|rfl|rfl|rfl|rfl|rfl|rfl
 ·exact ⟨⟨by simp,by simp,by simp,by simp [ns]⟩,.inr (.inr rfl)⟩
 ·exact ⟨⟨by simp,by simp,by simp,by simp only;omega⟩,.inr (.inl rfl)⟩
 ·exact ⟨⟨by simp,by simp,by simp,by simp only;omega⟩,.inr (.inl rfl)⟩
 ·exact ⟨⟨by simp,by simp,hs,by simp [ns]⟩,.inr (.inr rfl)⟩
 ·exact ⟨⟨by simp,by simp,by simp,by simp only [kl];omega⟩,.inl rfl⟩
 ·exact ⟨⟨by simp,by simp,by simp only;omega,by simp [ns]⟩,.inr (.inr rfl)⟩
 ·exact ⟨⟨by simp,by simp,by simp only;omega,by simp [ns]⟩,.inr (.inr rfl)⟩
 ·exact ⟨⟨by simp,by simp,by simp only;split<;>omega,by simp [ns]⟩,.inr (.inr rfl)⟩
 ·exact ⟨⟨by simp,by simp,by simp only;omega,by simp [ns]⟩,.inr (.inr rfl)⟩
 ·exact ⟨⟨by simp,by simp,hm,by simp [ns]⟩,.inr (.inr rfl)⟩
section
variable {fu d:Nat}
theorem P3 (s:ByteArray)(h:s.size<=9223372036854775807):Ae C0 Tryz.prog fu (d+1) 56 [.sc (.string s)]=some ⟨[.sc (.bool (XX s))],[]⟩:=by
 show JY [.sc (.string s)]=_;unfold JY;simp [h]
theorem Pe (n lo hi:Int):Ae C0 Tryz.prog fu (d+1) Ly [.sc (.int .i64 n),.sc (.int .i64 lo),.sc (.int .i64 hi)]=some ⟨[.sc (.bool (decide (lo<=n)&&decide (n<=hi)))],[]⟩:=by
 rw [Vj];by_cases h:lo<=n
 ·simp (disch:=omega) only [Bz,h,decide_true,Bool.true_and]
 ·simp (disch:=omega) only [Bz,h,decide_false,Bool.false_and]
theorem Ady (n:Int)(h0:0<=n)(h1:n<=1000):Ae C0 Tryz.prog fu (d+1) M3 [.sc (.int .i64 n)]=some ⟨[.agg [.sc (.int .i64 5),.sc (.int .u64 n),.sc (.string Gl)]],[]⟩:=by
 rw [Wx];have w:wrap .u64 n=n:=Cq (by omega) (by omega)
 simp only [Bz,w]
theorem YH (s:ByteArray):Ae C0 Tryz.prog fu (d+1) Oq [.sc (.string s)]=some ⟨[.agg [.sc (.int .i64 4),.sc (.int .u64 0),.sc (.string s)]],[]⟩:=by
 rw [Yq]
theorem Aae (n:Int):Ae C0 Tryz.prog fu (d+1) Lx [.sc (.int .u64 n)]=some ⟨[.agg [.sc (.int .i64 1),.sc (.int .u64 n),.sc (.string Gl)]],[]⟩:=by
 rw [Vo]
theorem Aja (l:List Int):Ae C0 Tryz.prog fu (d+1) Oi [.lst false 1 l.length (Af .u8 l)]=some ⟨[.agg [.sc (.int .i64 3),.sc (.int .u64 0),.sc (.string (Cd l))]],[]⟩:=by
 rw [Yp];have L:=Am .u8 l;have bo:=Hf l;simp (disch:=omega) only [Bz,L,bo];rfl
theorem ZD (b:Bool):Ae C0 Tryz.prog fu (d+1) Kq [.sc (.bool b)]=some ⟨[.agg [.sc (.int .i64 7),.sc (.int .u64 (if b=true then 1 else 0)),.sc (.string Gl)]],[]⟩:=by
 rw [Up];cases b<;>rfl
theorem NP (hfu:1000<=fu){c:Ce}(hw:c.wf)(hs1:c.subj.size<=9223372036854775807)(hs2:c.iss.size<=9223372036854775807):Ae C0 Tryz.prog fu (d+5) Og [.agg c.cells]=some ⟨Gv c,[]⟩:=by
 refine (Yf fu (d+4) c.subj c.iss c.serial c.key.h c.key.root c.fr c.un c.auth c.path c.model c.sig.leaf c.sig.chains.length (Af .u64 c.sig.chains) c.sig.path.length (Af .u64 c.sig.path)).trans ?_;have n1:=Pe (fu:=fu) (d:=d+3) c.subj.size 1 32;have n2:=Pe (fu:=fu) (d:=d+3) c.iss.size 1 32;have n3:=Pe (fu:=fu) (d:=d+3) c.path 0 2;have v1:=P3 (fu:=fu) (d:=d+3) c.subj hs1;have v2:=P3 (fu:=fu) (d:=d+3) c.iss hs2;have ek:=ZW (fu:=fu) (d:=d+2) hfu c.key;have e90:((9:Int) != 0)=true:=rfl;have e00:((0:Int) != 0)=false:=rfl;simp only [Ky.cells] at ek;unfold Gv;by_cases e1:c.subj.size<1∨32<c.subj.size
 ·have hb:A4 c=9:=by unfold A4;rw [Bu e1]
  have:(decide ((1:Int)<=c.subj.size)&&decide ((c.subj.size:Int)<=32))=false:=by simp;omega
  rw [this] at n1;rw [hb,A5 (by omega)]
  try unfold Aa
  repeat first
   |((with_reducible first|apply As|apply Ak|apply At|apply Ao|apply Aw|apply Bc|apply Bv|apply Dn|apply Aj);· first|with_reducible rfl|(simp (disch:=omega) only [n1,Int.reduceEq,Ck,Cn]<;>with_reducible rfl))
   |((with_reducible first|apply Ap|apply Ar);· first|with_reducible rfl|omega|(simp (disch:=omega) only [gT,n1,Int.reduceEq,Ck,Cn]<;>omega))
   |(with_reducible apply Aq;· first|with_reducible rfl|(simp (disch:=omega) only [gF,n1,Int.reduceEq,Ck,Cn]<;>omega))
  try simp (disch:=omega) only [n1,Int.reduceEq,Ck,Cn]
  all_goals rfl
 have q1:(decide ((1:Int)<=c.subj.size)&&decide ((c.subj.size:Int)<=32))=true:=by simp;omega
 rw [q1] at n1;by_cases e2:c.iss.size<1∨32<c.iss.size
 ·have hb:A4 c=9:=by unfold A4;rw [A5 e1,Bu e2]
  have:(decide ((1:Int)<=c.iss.size)&&decide ((c.iss.size:Int)<=32))=false:=by simp;omega
  rw [this] at n2;rw [hb,A5 (by omega)]
  try unfold Aa
  repeat first
   |((with_reducible first|apply As|apply Ak|apply At|apply Ao|apply Aw|apply Bc|apply Bv|apply Dn|apply Aj);· first|with_reducible rfl|(simp (disch:=omega) only [n1,n2,Int.reduceEq,Ck,Cn]<;>with_reducible rfl))
   |((with_reducible first|apply Ap|apply Ar);· first|with_reducible rfl|omega|(simp (disch:=omega) only [gT,n1,n2,Int.reduceEq,Ck,Cn]<;>omega))
   |(with_reducible apply Aq;· first|with_reducible rfl|(simp (disch:=omega) only [gF,n1,n2,Int.reduceEq,Ck,Cn]<;>omega))
  try simp (disch:=omega) only [n1,n2,Int.reduceEq,Ck,Cn]
  all_goals rfl
 have q2:(decide ((1:Int)<=c.iss.size)&&decide ((c.iss.size:Int)<=32))=true:=by simp;omega
 rw [q2] at n2;cases e3:XX c.subj
 ·have hb:A4 c=6:=by unfold A4;rw [A5 e1,A5 e2,Bu e3]
  rw [e3] at v1;rw [hb,A5 (by omega)]
  try unfold Aa
  repeat first
   |((with_reducible first|apply As|apply Ak|apply At|apply Ao|apply Aw|apply Bc|apply Bv|apply Dn|apply Aj);· first|with_reducible rfl|(simp (disch:=omega) only [n1,n2,v1,Int.reduceEq,Ck,Cn]<;>with_reducible rfl))
   |((with_reducible first|apply Ap|apply Ar);· first|with_reducible rfl|omega|(simp (disch:=omega) only [gT,n1,n2,v1,Int.reduceEq,Ck,Cn]<;>omega))
   |(with_reducible apply Aq;· first|with_reducible rfl|(simp (disch:=omega) only [gF,n1,n2,v1,Int.reduceEq,Ck,Cn]<;>omega))
  try simp (disch:=omega) only [n1,n2,v1,Int.reduceEq,Ck,Cn]
  all_goals rfl
 rw [e3] at v1;cases e4:XX c.iss
 ·have hb:A4 c=6:=by unfold A4;rw [A5 e1,A5 e2,A5 (by simp [e3]),Bu e4]
  rw [e4] at v2;rw [hb,A5 (by omega)]
  try unfold Aa
  repeat first
   |((with_reducible first|apply As|apply Ak|apply At|apply Ao|apply Aw|apply Bc|apply Bv|apply Dn|apply Aj);· first|with_reducible rfl|(simp (disch:=omega) only [n1,n2,v1,v2,Int.reduceEq,Ck,Cn]<;>with_reducible rfl))
   |((with_reducible first|apply Ap|apply Ar);· first|with_reducible rfl|omega|(simp (disch:=omega) only [gT,n1,n2,v1,v2,Int.reduceEq,Ck,Cn]<;>omega))
   |(with_reducible apply Aq;· first|with_reducible rfl|(simp (disch:=omega) only [gF,n1,n2,v1,v2,Int.reduceEq,Ck,Cn]<;>omega))
  try simp (disch:=omega) only [n1,n2,v1,v2,Int.reduceEq,Ck,Cn]
  all_goals rfl
 rw [e4] at v2;cases e5:Dh c.key.h
 rotate_left
 ·have hb:A4 c=9:=by unfold A4;rw [A5 e1,A5 e2,A5 (by simp [e3]),A5 (by simp [e4]),Bu e5]
  rw [e5,Bu rfl] at ek;rw [hb,A5 (by omega)]
  try unfold Aa
  repeat first
   |((with_reducible first|apply As|apply Ak|apply At|apply Ao|apply Aw|apply Bc|apply Bv|apply Dn|apply Aj);· first|with_reducible rfl|(simp (disch:=omega) only [n1,n2,v1,v2,ek,e90,e00,Int.reduceEq,Ck,Cn]<;>with_reducible rfl))
   |((with_reducible first|apply Ap|apply Ar);· first|with_reducible rfl|omega|(simp (disch:=omega) only [gT,n1,n2,v1,v2,ek,e90,e00,Int.reduceEq,Ck,Cn]<;>omega))
   |(with_reducible apply Aq;· first|with_reducible rfl|(simp (disch:=omega) only [gF,n1,n2,v1,v2,ek,e90,e00,Int.reduceEq,Ck,Cn]<;>omega))
  try simp (disch:=omega) only [n1,n2,v1,v2,ek,e90,e00,Int.reduceEq,Ck,Cn]
  all_goals rfl
 rw [e5,A5 (by simp)] at ek
 have B0:A4 c=if c.fr<0 then 9 else if c.un<c.fr then 9 else if c.un>1099511627776 then 9 else if c.path<0∨2<c.path then 9 else if c.path≠0∧c.auth=false then 4 else 0:=by
  unfold A4;rw [A5 e1,A5 e2,A5 (by simp [e3]),A5 (by simp [e4]),A5 (by simp [e5])]
 by_cases e6:c.fr<0
 ·have hb:A4 c=9:=by rw [B0,Bu e6]
  rw [hb,A5 (by omega)]
  try unfold Aa
  repeat first
   |((with_reducible first|apply As|apply Ak|apply At|apply Ao|apply Aw|apply Bc|apply Bv|apply Dn|apply Aj);· first|with_reducible rfl|(simp (disch:=omega) only [n1,n2,v1,v2,ek,e90,e00,Int.reduceEq,Ck,Cn]<;>with_reducible rfl))
   |((with_reducible first|apply Ap|apply Ar);· first|with_reducible rfl|omega|(simp (disch:=omega) only [gT,n1,n2,v1,v2,ek,e90,e00,Int.reduceEq,Ck,Cn]<;>omega))
   |(with_reducible apply Aq;· first|with_reducible rfl|(simp (disch:=omega) only [gF,n1,n2,v1,v2,ek,e90,e00,Int.reduceEq,Ck,Cn]<;>omega))
  try simp (disch:=omega) only [n1,n2,v1,v2,ek,e90,e00,Int.reduceEq,Ck,Cn]
  all_goals rfl
 by_cases e7:c.un<c.fr
 ·have hb:A4 c=9:=by rw [B0,A5 e6,Bu e7]
  rw [hb,A5 (by omega)]
  try unfold Aa
  repeat first
   |((with_reducible first|apply As|apply Ak|apply At|apply Ao|apply Aw|apply Bc|apply Bv|apply Dn|apply Aj);· first|with_reducible rfl|(simp (disch:=omega) only [n1,n2,v1,v2,ek,e90,e00,Int.reduceEq,Ck,Cn]<;>with_reducible rfl))
   |((with_reducible first|apply Ap|apply Ar);· first|with_reducible rfl|omega|(simp (disch:=omega) only [gT,n1,n2,v1,v2,ek,e90,e00,Int.reduceEq,Ck,Cn]<;>omega))
   |(with_reducible apply Aq;· first|with_reducible rfl|(simp (disch:=omega) only [gF,n1,n2,v1,v2,ek,e90,e00,Int.reduceEq,Ck,Cn]<;>omega))
  try simp (disch:=omega) only [n1,n2,v1,v2,ek,e90,e00,Int.reduceEq,Ck,Cn]
  all_goals rfl
 by_cases e8:c.un>1099511627776
 ·have hb:A4 c=9:=by rw [B0,A5 e6,A5 e7,Bu e8]
  rw [hb,A5 (by omega)]
  try unfold Aa
  repeat first
   |((with_reducible first|apply As|apply Ak|apply At|apply Ao|apply Aw|apply Bc|apply Bv|apply Dn|apply Aj);· first|with_reducible rfl|(simp (disch:=omega) only [n1,n2,v1,v2,ek,e90,e00,Int.reduceEq,Ck,Cn]<;>with_reducible rfl))
   |((with_reducible first|apply Ap|apply Ar);· first|with_reducible rfl|omega|(simp (disch:=omega) only [gT,n1,n2,v1,v2,ek,e90,e00,Int.reduceEq,Ck,Cn]<;>omega))
   |(with_reducible apply Aq;· first|with_reducible rfl|(simp (disch:=omega) only [gF,n1,n2,v1,v2,ek,e90,e00,Int.reduceEq,Ck,Cn]<;>omega))
  try simp (disch:=omega) only [n1,n2,v1,v2,ek,e90,e00,Int.reduceEq,Ck,Cn]
  all_goals rfl
 by_cases e9:c.path<0∨2<c.path
 ·have hb:A4 c=9:=by rw [B0,A5 e6,A5 e7,A5 e8,Bu e9]
  have:(decide ((0:Int)<=c.path)&&decide (c.path<=2))=false:=by simp;omega
  rw [this] at n3;rw [hb,A5 (by omega)]
  try unfold Aa
  repeat first
   |((with_reducible first|apply As|apply Ak|apply At|apply Ao|apply Aw|apply Bc|apply Bv|apply Dn|apply Aj);· first|with_reducible rfl|(simp (disch:=omega) only [n1,n2,v1,v2,ek,e90,e00,n3,Int.reduceEq,Ck,Cn]<;>with_reducible rfl))
   |((with_reducible first|apply Ap|apply Ar);· first|with_reducible rfl|omega|(simp (disch:=omega) only [gT,n1,n2,v1,v2,ek,e90,e00,n3,Int.reduceEq,Ck,Cn]<;>omega))
   |(with_reducible apply Aq;· first|with_reducible rfl|(simp (disch:=omega) only [gF,n1,n2,v1,v2,ek,e90,e00,n3,Int.reduceEq,Ck,Cn]<;>omega))
  try simp (disch:=omega) only [n1,n2,v1,v2,ek,e90,e00,n3,Int.reduceEq,Ck,Cn]
  all_goals rfl
 have q9:(decide ((0:Int)<=c.path)&&decide (c.path<=2))=true:=by simp;omega
 rw [q9] at n3;by_cases e10:c.path≠0∧c.auth=false
 ·have hb:A4 c=4:=by rw [B0,A5 e6,A5 e7,A5 e8,A5 e9,Bu e10]
  have ea:=e10.2;have ep:(c.path != 0)=true:=by simp [e10.1]
  rw [hb,A5 (by omega)]
  try unfold Aa
  repeat first
   |((with_reducible first|apply As|apply Ak|apply At|apply Ao|apply Aw|apply Bc|apply Bv|apply Dn|apply Aj);· first|with_reducible rfl|(simp (disch:=omega) only [n1,n2,v1,v2,ek,e90,e00,n3,ep,ea,Int.reduceEq,Ck,Cn]<;>with_reducible rfl))
   |((with_reducible first|apply Ap|apply Ar);· first|with_reducible rfl|omega|(simp (disch:=omega) only [gT,n1,n2,v1,v2,ek,e90,e00,n3,ep,ea,Int.reduceEq,Ck,Cn]<;>omega))
   |(with_reducible apply Aq;· first|with_reducible rfl|(simp (disch:=omega) only [gF,n1,n2,v1,v2,ek,e90,e00,n3,ep,ea,Int.reduceEq,Ck,Cn]<;>omega))
  try simp (disch:=omega) only [n1,n2,v1,v2,ek,e90,e00,n3,ep,ea,Int.reduceEq,Ck,Cn]
  all_goals rfl
 have hb:A4 c=0:=by rw [B0,A5 e6,A5 e7,A5 e8,A5 e9,A5 e10]
 rw [hb,Bu rfl];have a0:=Ady (fu:=fu) (d:=d+3) 9 (by omega) (by omega)
 have t1:=YH (fu:=fu) (d:=d+3) c.subj;have t2:=YH (fu:=fu) (d:=d+3) c.iss;have nu:=fun n=>Aae (fu:=fu) (d:=d+3) n
 have da:=Aja (fu:=fu) (d:=d+3) (Jn c.key);have k9:(Jn c.key).length=9:=rfl;rw [k9] at da;have bo:=ZD (fu:=fu) (d:=d+3) c.auth;have wf:wrap .u64 c.fr=c.fr:=Cq (by omega) (by omega)
 have wu:wrap .u64 c.un=c.un:=Cq (by omega) (by omega)
 have wp:wrap .u64 c.path=c.path:=Cq (by omega) (by omega)
 have bi:=Aeq (fu:=fu) (d:=d) (Z5 hw hb) (by simp [Bb]) hfu
 have L9:=Am .u8 (Jn c.key);rw [k9] at L9;have tk9:List.take 9 (Af .u8 (Jn c.key))=Af .u8 (Jn c.key):=Tp (by omega)
 have LB:=Am .u8 (Bf (Bb c));have tB:=J7 .u8 (Bf (Bb c));generalize Bf (Bb c)=W at bi LB tB ⊢;simp only [Bb,Ci,List.flatMap_cons,List.flatMap_nil,It.cells,List.cons_append,Zzq,List.append_nil,Jd,Zw,Br,Nat.reduceAdd] at bi;have w0:wrap .u64 (0:Int)=0:=rfl;by_cases ep:c.path=0
 ·rw [ep] at bi n3
  try unfold Aa
  repeat first
   |((with_reducible first|apply As|apply Ak|apply At|apply Ao|apply Aw|apply Bc|apply Bv|apply Dn|apply Aj);· first|with_reducible rfl|(simp (disch:=omega) only [n1,n2,v1,v2,ek,e90,e00,n3,ep,w0,a0,t1,t2,nu,B8,Br,E6,L9,tk9,da,wf,wu,bo,bi,LB,tB,Int.reduceEq,Ck,Cn]<;>with_reducible rfl))
   |((with_reducible first|apply Ap|apply Ar);· first|with_reducible rfl|omega|(simp (disch:=omega) only [gT,n1,n2,v1,v2,ek,e90,e00,n3,ep,w0,a0,t1,t2,nu,B8,Br,E6,L9,tk9,da,wf,wu,bo,bi,LB,tB,Int.reduceEq,Ck,Cn]<;>omega))
   |(with_reducible apply Aq;· first|with_reducible rfl|(simp (disch:=omega) only [gF,n1,n2,v1,v2,ek,e90,e00,n3,ep,w0,a0,t1,t2,nu,B8,Br,E6,L9,tk9,da,wf,wu,bo,bi,LB,tB,Int.reduceEq,Ck,Cn]<;>omega))
  try simp (disch:=omega) only [n1,n2,v1,v2,ek,e90,e00,n3,ep,w0,a0,t1,t2,nu,B8,Br,E6,L9,tk9,da,wf,wu,bo,bi,LB,tB,Int.reduceEq,Ck,Cn]
  all_goals rfl
 ·have ea:c.auth=true:=by
   cases h:c.auth
   ·exact absurd ⟨ep,h⟩ e10
   ·rfl
  rw [ea,Bu rfl] at bo bi;have ep:(c.path != 0)=true:=by simp [ep]
  try unfold Aa
  repeat first
   |((with_reducible first|apply As|apply Ak|apply At|apply Ao|apply Aw|apply Bc|apply Bv|apply Dn|apply Aj);· first|with_reducible rfl|(simp (disch:=omega) only [n1,n2,v1,v2,ek,e90,e00,n3,ep,ea,a0,t1,t2,nu,B8,Br,E6,L9,tk9,da,wf,wu,wp,bo,bi,LB,tB,Int.reduceEq,Ck,Cn]<;>with_reducible rfl))
   |((with_reducible first|apply Ap|apply Ar);· first|with_reducible rfl|omega|(simp (disch:=omega) only [gT,n1,n2,v1,v2,ek,e90,e00,n3,ep,ea,a0,t1,t2,nu,B8,Br,E6,L9,tk9,da,wf,wu,wp,bo,bi,LB,tB,Int.reduceEq,Ck,Cn]<;>omega))
   |(with_reducible apply Aq;· first|with_reducible rfl|(simp (disch:=omega) only [gF,n1,n2,v1,v2,ek,e90,e00,n3,ep,ea,a0,t1,t2,nu,B8,Br,E6,L9,tk9,da,wf,wu,wp,bo,bi,LB,tB,Int.reduceEq,Ck,Cn]<;>omega))
  try simp (disch:=omega) only [n1,n2,v1,v2,ek,e90,e00,n3,ep,ea,a0,t1,t2,nu,B8,Br,E6,L9,tk9,da,wf,wu,wp,bo,bi,LB,tB,Int.reduceEq,Ck,Cn]
  all_goals rfl
end
end
section
open Go.IntKind (wrap)
def LY (s:Sg):Int:=if Dh s.path.length=true then 9 else if Ip s.leaf s.path.length=true then 9 else if s.chains.length≠18 then 4 else 0
def Fe (c:Ce):Int:=if A4 c=0 then LY c.sig else A4 c
def H4 (c:Ce):List Int:=Bf (Bb c)++FG c.sig
def SM (c:Ce):List PV:=if Fe c=0 then [.own 1 (H4 c).length (Af .u8 (H4 c)),.sc (.int .i64 0)] else [.own 1 0 [],.sc (.int .i64 (Fe c))]
def Kg (c:Ce):Int:=Nb 14 (Bf (Bb c))
def Np (c:Ce)(k:Ky):Int:=if A4 c=0 then OK k (Kg c) c.sig else A4 c
def ZJ:Ce:=⟨Gl,Gl,0,⟨0,0⟩,0,0,false,0,0,⟨0,[],[]⟩⟩
def Vb (c:Ce)(seed h leaf:Int):Ce × Int:=
 if A4 c=0 then (match BO seed h leaf (Kg c) with|some s=>({ c with sig:=s },0)|none=>(ZJ,9)) else (ZJ,A4 c)
theorem Ju {c:Ce}(h:A4 c=0):(Bf (Bb c)).length<=200:=by
 have k9:(Cd (Jn c.key)).size=9:=by rw [Ge];rfl
 have ns:Gl.size=0:=rfl;unfold A4 at h
 have hs:c.subj.size<=32∧c.iss.size<=32:=by
  split at h
  ·cases h
  ·split at h
   ·cases h
   ·omega
 have e:Bf (Bb c)=Bw ⟨5,9,Gl⟩++(Bw ⟨4,0,c.subj⟩++(Bw ⟨4,0,c.iss⟩++(Bw ⟨1,c.serial,Gl⟩++(Bw ⟨3,0,Cd (Jn c.key)⟩++(Bw ⟨1,c.fr,Gl⟩++(Bw ⟨1,c.un,Gl⟩++(Bw ⟨7,(if c.auth=true then 1 else 0),Gl⟩++(Bw ⟨1,c.path,Gl⟩++(Bw ⟨1,c.model,Gl⟩++[]))))))))):=rfl
 rw [e];simp only [Kh,Zw];have i1:=G5 ⟨5,9,Gl⟩;have i2:=G5 ⟨4,0,c.subj⟩;have i3:=G5 ⟨4,0,c.iss⟩;have i4:=G5 ⟨1,c.serial,Gl⟩;have i5:=G5 ⟨3,0,Cd (Jn c.key)⟩;have i6:=G5 ⟨1,c.fr,Gl⟩;have i7:=G5 ⟨1,c.un,Gl⟩;have i8:=G5 ⟨7,(if c.auth=true then 1 else 0),Gl⟩
 have i9:=G5 ⟨1,c.path,Gl⟩;have i0:=G5 ⟨1,c.model,Gl⟩;simp only [ns,k9] at i1 i2 i3 i4 i5 i6 i7 i8 i9 i0;omega
theorem Xg {c:Ce}(hw:c.wf)(h:A4 c=0):Kw (Bf (Bb c)):=by
 intro y hy;obtain ⟨x,hx,hy⟩:=List.mem_flatMap.1 hy;have:=(Z5 hw h x hx).1;exact Ack this.k1 this.k8 this.n0 y hy
theorem EU {seed h leaf m:Int}{s:Sg}(e:BO seed h leaf m=some s):s.chains.length=18∧s.path.length<=4:=by
 unfold BO at e;split at e
 ·cases e
 ·rename_i hh;split at e
  ·cases e
  ·cases e;have:=H2 (by simpa using hh)
   simp [I3];omega
section
variable {fu d:Nat} {c:Ce}
theorem XJ (hfu:1000<=fu)(hw:c.wf)(hs1:c.subj.size<=9223372036854775807)(hs2:c.iss.size<=9223372036854775807)(k:Ky):Ae C0 Tryz.prog fu (d+8) Lu [.agg c.cells,.agg k.cells]=some ⟨[.sc (.int .i64 (Np c k))],[]⟩:=by
 refine (Vf fu (d+7) c.subj c.iss c.serial c.key.h c.key.root c.fr c.un c.auth c.path c.model c.sig.leaf c.sig.chains.length (Af .u64 c.sig.chains) c.sig.path.length (Af .u64 c.sig.path) k.h k.root).trans ?_;have bq:=NP (fu:=fu) (d:=d+2) hfu hw hs1 hs2;simp only [Ce.cells] at bq;unfold Gv at bq;unfold Np;by_cases h0:A4 c=0
 ·have lb:=Ju h0;rw [Bu h0] at bq;rw [Bu h0];have e00:((0:Int) != 0)=false:=rfl;have hh:=KT (xs:=Kr) (fu:=fu) (d:=d+3) (Xg hw h0) (by omega) (by omega) (by omega) 14
  have vr:=ZS (fu:=fu) (d:=d) hfu k (Kg c) c.sig;simp only [Ky.cells,Sg.cells] at vr;have eW:Nb 14 (Bf (Bb c))=Kg c:=rfl;rw [eW] at hh;have L1:=Am .u8 (Bf (Bb c));have t1:=J7 .u8 (Bf (Bb c));generalize (Bf (Bb c)).length=n1 at *
  generalize Af .u8 (Bf (Bb c))=c1 at *
  try unfold Aa
  repeat first
   |((with_reducible first|apply As|apply Ak|apply At|apply Bc|apply Bv|apply Aj);· first|with_reducible rfl|(simp (disch:=omega) only [bq,e00,B8,Br,E6,L1,t1,hh,vr]<;>with_reducible rfl))
   |((with_reducible first|apply Ap|apply Ar);· first|with_reducible rfl|omega|(simp (disch:=omega) only [gT,bq,e00,B8,Br,E6,L1,t1,hh,vr]<;>omega))
   |(with_reducible apply Aq;· first|with_reducible rfl|(simp (disch:=omega) only [gF,bq,e00,B8,Br,E6,L1,t1,hh,vr]<;>omega))
  try simp (disch:=omega) only [bq,e00,B8,Br,E6,L1,t1,hh,vr]
  all_goals rfl
 ·have hne:(A4 c != 0)=true:=by simp [h0]
  rw [A5 h0] at bq;rw [A5 h0]
  try unfold Aa
  repeat first
   |((with_reducible first|apply As|apply Ak|apply At|apply Bc|apply Bv|apply Aj);· first|with_reducible rfl|(simp (disch:=omega) only [bq,hne]<;>with_reducible rfl))
   |((with_reducible first|apply Ap|apply Ar);· first|with_reducible rfl|omega|(simp (disch:=omega) only [gT,bq,hne]<;>omega))
   |(with_reducible apply Aq;· first|with_reducible rfl|(simp (disch:=omega) only [gF,bq,hne]<;>omega))
  try simp (disch:=omega) only [bq,hne]
  all_goals rfl
theorem Aey (hfu:1000<=fu)(hw:c.wf)(hs1:c.subj.size<=9223372036854775807)(hs2:c.iss.size<=9223372036854775807)(seed h leaf:Int):Ae C0 Tryz.prog fu (d+13) Oj [.agg c.cells,.sc (.int .u64 seed),.sc (.int .i64 h),.sc (.int .i64 leaf)]=some ⟨[.agg (Vb c seed h leaf).1.cells,.sc (.int .i64 (Vb c seed h leaf).2)],[]⟩:=by
 refine (Xy fu (d+12) c.subj c.iss c.serial c.key.h c.key.root c.fr c.un c.auth c.path c.model c.sig.leaf c.sig.chains.length (Af .u64 c.sig.chains) c.sig.path.length (Af .u64 c.sig.path) seed h leaf).trans ?_;have bq:=NP (fu:=fu) (d:=d+7) hfu hw hs1 hs2;simp only [Ce.cells] at bq;unfold Gv at bq;unfold Vb;by_cases h0:A4 c=0
 ·have lb:=Ju h0;rw [Bu h0] at bq;rw [Bu h0];have e00:((0:Int) != 0)=false:=rfl;have e90:((9:Int) != 0)=true:=rfl;have hh:=KT (xs:=Kr) (fu:=fu) (d:=d+8) (Xg hw h0) (by omega) (by omega) (by omega) 14
  have sg:=Ag7 (fu:=fu) (d:=d) hfu seed h leaf (Kg c);have eW:Nb 14 (Bf (Bb c))=Kg c:=rfl;rw [eW] at hh;have L1:=Am .u8 (Bf (Bb c));have t1:=J7 .u8 (Bf (Bb c));generalize (Bf (Bb c)).length=n1 at *
  generalize Af .u8 (Bf (Bb c))=c1 at *
  cases hs:BO seed h leaf (Kg c) with
  |none=>
   rw [hs] at sg;simp only [UF,Sg.owned,Zw] at sg
   try unfold Aa
   repeat first
    |((with_reducible first|apply As|apply Ak|apply At|apply Bc|apply Bv|apply Aj);· first|with_reducible rfl|(simp (disch:=omega) only [bq,e00,e90,B8,Br,E6,L1,t1,hh,sg]<;>with_reducible rfl))
    |((with_reducible first|apply Ap|apply Ar);· first|with_reducible rfl|omega|(simp (disch:=omega) only [gT,bq,e00,e90,B8,Br,E6,L1,t1,hh,sg]<;>omega))
    |(with_reducible apply Aq;· first|with_reducible rfl|(simp (disch:=omega) only [gF,bq,e00,e90,B8,Br,E6,L1,t1,hh,sg]<;>omega))
   try simp (disch:=omega) only [bq,e00,e90,B8,Br,E6,L1,t1,hh,sg]
   all_goals rfl
  |some s=>
   rw [hs] at sg;simp only [UF,Sg.owned] at sg;have hl:=EU hs;have La:=Am .u64 s.chains;have Lb:=Am .u64 s.path;have ta:=J7 .u64 s.chains;have tb:=J7 .u64 s.path
   try unfold Aa
   repeat first
    |((with_reducible first|apply As|apply Ak|apply At|apply Bc|apply Bv|apply Aj);· first|with_reducible rfl|(simp (disch:=omega) only [bq,e00,B8,Br,E6,L1,t1,hh,sg,La,Lb,ta,tb]<;>with_reducible rfl))
    |((with_reducible first|apply Ap|apply Ar);· first|with_reducible rfl|omega|(simp (disch:=omega) only [gT,bq,e00,B8,Br,E6,L1,t1,hh,sg,La,Lb,ta,tb]<;>omega))
    |(with_reducible apply Aq;· first|with_reducible rfl|(simp (disch:=omega) only [gF,bq,e00,B8,Br,E6,L1,t1,hh,sg,La,Lb,ta,tb]<;>omega))
   try simp (disch:=omega) only [bq,e00,B8,Br,E6,L1,t1,hh,sg,La,Lb,ta,tb]
   all_goals rfl
 ·have hne:(A4 c != 0)=true:=by simp [h0]
  rw [A5 h0] at bq;rw [A5 h0]
  try unfold Aa
  repeat first
   |((with_reducible first|apply As|apply Ak|apply At|apply Bc|apply Bv|apply Aj);· first|with_reducible rfl|(simp (disch:=omega) only [bq,hne]<;>with_reducible rfl))
   |((with_reducible first|apply Ap|apply Ar);· first|with_reducible rfl|omega|(simp (disch:=omega) only [gT,bq,hne]<;>omega))
   |(with_reducible apply Aq;· first|with_reducible rfl|(simp (disch:=omega) only [gF,bq,hne]<;>omega))
  try simp (disch:=omega) only [bq,hne]
  all_goals rfl
end
end
section
open Go.IntKind (wrap)
structure G7 where
 p:Bool
 left:Int
 last:List Int
def G7.cells (f:G7):List PV:=[.sc (.bool f.p),.sc (.int .i64 f.left),.lst false 1 f.last.length (Af .u8 f.last)]
def Ey (l:List G7):List PV:=l.flatMap G7.cells
theorem G7.cells_len (f:G7):f.cells.length=3:=rfl
theorem C5 (l:List G7):(Ey l).length=l.length*3:=AZ G7.cells_len l
theorem Di (l:List G7):List.take (l.length*3) (Ey l)=Ey l:=Tp (by rw [C5];omega)
def Rx (l:List G7):Bool:=match l.getLast? with|some f=>f.p&&(Int.tmod f.left 2==0)|none=>false
def Jj (l:List G7)(cnt k:Int):Int:=
 if cnt>=512 then 8 else if k<1 then 3 else if k>8 then 3 else if Rx l=true∧k≠1∧k≠2∧k≠4 then 3 else if (l.length:Int)>8 then 5 else 0
abbrev K0 (l:List G7)(cnt:Int):List PV:=[.own 3 l.length (Ey l),.sc (.int .i64 cnt)]
section
variable {fu d:Nat}
theorem TB (l:List G7)(cnt:Int):Ae C0 Tryz.prog fu (d+1) Tf [.pbox (K0 l cnt)]=some ⟨[.sc (.bool (decide (cnt>0)&&((l.length:Int)==0)))],[K0 l cnt]⟩:=by
 rw [FH];have L:=C5 l;have t:=Di l;by_cases h:cnt>0
 ·simp (disch:=omega) only [Bz,h,decide_true,Bool.true_and,L,t]
 ·simp (disch:=omega) only [Bz,h,decide_false,Bool.false_and,L,t]
theorem KP {l:List G7}(hl:l.length<=1000000)(cnt:Int):Ae C0 Tryz.prog fu (d+1) Rr [.pbox (K0 l cnt)]=some ⟨[.sc (.bool (Rx l))],[K0 l cnt]⟩:=by
 rw [BW];have L:=C5 l;have t:=Di l;unfold Rx;rcases List.eq_nil_or_concat l with rfl|⟨l',f,rfl⟩
 ·have e0:¬(((([]:List G7).length:Nat):Int)>0):=by simp
  simp (disch:=first|assumption|omega) only [Bz,L,t]
  first|done|rfl
 ·have hn:(l'.concat f).length=l'.length+1:=by simp
  have hx:(l'.concat f)[l'.length]?=some f:=by simp
  have gl:(l'.concat f).getLast?=some f:=by simp
  have w:wrap .i64 (((l'.concat f).length:Int)-1)=(l'.length:Int):=by rw [Al (by omega) (by omega)];omega
  have g0:(Ey (l'.concat f)).getD (l'.length*3) .top=.sc (.bool f.p):=Ei G7.cells_len hx (j:=0) (by omega)
  have g1:(Ey (l'.concat f)).getD (l'.length*3+1) .top=.sc (.int .i64 f.left):=Ei G7.cells_len hx (j:=1) (by omega)
  rw [gl];cases hp:f.p
  ·rw [hp] at g0;simp (disch:=omega) only [Bz,w,Gu,Br,J6,g0,L,t,hp,Bool.false_and]
  ·rw [hp] at g0;simp (disch:=omega) only [Bz,w,Gu,Br,J6,g0,g1,L,t,hp,Bool.true_and]
theorem VM {l:List G7}(hl:l.length<=1000000)(cnt k:Int):Ae C0 Tryz.prog fu (d+2) Ra [.pbox (K0 l cnt),.sc (.int .i64 k)]=some ⟨[.sc (.int .i64 (Jj l cnt k))],[K0 l cnt]⟩:=by
 refine (CI fu (d+1) l.length (Ey l) cnt k).trans ?_;have L:=C5 l;have t:=Di l;have ak:=KP (fu:=fu) (d:=d) hl cnt;unfold K0 at ak;unfold Jj;by_cases c1:cnt>=512
 ·rw [Bu c1];simp (disch:=omega) only [Bz,L,t]
 rw [A5 c1];by_cases c2:k<1
 ·rw [Bu c2];simp (disch:=omega) only [Bz,L,t]
 rw [A5 c2];by_cases c3:k>8
 ·rw [Bu c3];simp (disch:=omega) only [Bz,L,t]
 rw [A5 c3];cases ha:Rx l
 ·rw [ha] at ak;rw [A5 (by simp)]
  by_cases c5:(l.length:Int)>8
  ·rw [Bu c5];simp (disch:=omega) only [Bz,L,t,ak]
  ·rw [A5 c5];simp (disch:=omega) only [Bz,L,t,ak]
 ·rw [ha] at ak;by_cases c4:k≠1∧k≠2∧k≠4
  ·rw [Bu ⟨rfl,c4⟩];simp (disch:=omega) only [Bz,L,t,ak,D5];rw [A5 c4.1,A5 c4.2.1,A5 c4.2.2]
  ·rw [A5 (fun h=>c4 h.2)]
   have hk:k=1∨k=2∨k=4:=by omega
   by_cases c5:(l.length:Int)>8
   ·rw [Bu c5];rcases hk with rfl|rfl|rfl<;>simp (disch:=omega) only [Bz,L,t,ak,D5,Int.reduceEq,if_true,if_false]
   ·rw [A5 c5];rcases hk with rfl|rfl|rfl<;>simp (disch:=omega) only [Bz,L,t,ak,D5,Int.reduceEq,if_true,if_false]
end
end
section
open Go.IntKind (wrap)
theorem Mx (l:List G7):l=[]∨∃l' f,l=l'++[f]:=by
 rcases List.eq_nil_or_concat l with h|⟨a,b,h⟩
 ·exact .inl h
 ·exact .inr ⟨a,b,by simpa using h⟩
def FN (l:List G7):List G7:=(l.reverse.dropWhile fun f=>f.left==0).reverse
theorem QJ {l:List G7}{f:G7}(h:f.left=0):FN (l++[f])=FN l:=by
 unfold FN;rw [List.reverse_append,List.reverse_singleton,List.singleton_append,List.dropWhile_cons_of_pos (by simp [h])]
theorem JS {l:List G7}{f:G7}(h:f.left≠0):FN (l++[f])=l++[f]:=by
 unfold FN;rw [List.reverse_append,List.reverse_singleton,List.singleton_append,List.dropWhile_cons_of_neg (by simp [h])]
 simp
def MY (l:List G7):List G7:=match l.getLast? with|some f=>l.dropLast++[⟨f.p,wrap .i64 (f.left-1),f.last⟩]|none=>[]
def RT (l:List G7)(x:It):List G7:=
 if x.k=5∧x.n>0 then l++[⟨false,wrap .i64 x.n,[]⟩] else if x.k=6∧x.n>0 then l++[⟨true,wrap .i64 (2*wrap .i64 x.n),[]⟩] else l
def F1 (l:List G7)(x:It):List G7:=FN (RT (MY l) x)
theorem V9 (l:List G7)(f:G7):MY (l++[f])=l++[⟨f.p,wrap .i64 (f.left-1),f.last⟩]:=by
 unfold MY;simp
theorem NC (l:List G7):(MY l).length=l.length:=by
 rcases Mx l with rfl|⟨l',f,rfl⟩
 ·rfl
 ·rw [V9];simp
theorem Sl (a b:List G7):Ey (a++b)=Ey a++Ey b:=by
 unfold Ey;rw [List.flatMap_append]
theorem Sk (f:G7):Ey [f]=f.cells:=by
 unfold Ey;simp
section
variable {fu d:Nat}
theorem RV {call:Ah}{a0_0n:Nat}{a0_0:List PV}{a0_1 a1_0 a1_1:Int}{a1_2:ByteArray}{c:Int}:∀(n:Nat)(l:List G7)(r:List PV)(nn:Nat),l.length=n->n<nn->n<=1000000 ->
  A8 fu call a0_0n a0_0 a0_1 a1_0 a1_1 a1_2 nn (l.length:Int) l.length c (Ey l++r)=some ⟨[],[K0 (FN l) c]⟩:=by
 intro n
 induction n with
 |zero=>
  intro l r nn hl hn _;obtain rfl:l=[]:=List.eq_nil_of_length_eq_zero hl;obtain ⟨m,rfl⟩:∃m,nn=m+1:=⟨nn-1,by omega⟩
  have e0:¬(((([]:List G7).length:Nat):Int)>0):=by simp
  have e1:([]:List G7).length*3<=(Ey []++r).length:=by simp
  rw [Oo];simp (disch:=first|assumption|omega) only [Bz];rfl
 |succ n ih=>
  intro l r nn hl hn hm;obtain ⟨m,rfl⟩:∃m,nn=m+1:=⟨nn-1,by omega⟩
  rcases Mx l with rfl|⟨l',f,rfl⟩
  ·simp at hl
  have hn':(l'++[f]).length=l'.length+1:=by simp
  have hx:(l'++[f])[l'.length]?=some f:=by simp
  have w:wrap .i64 (((l'++[f]).length:Int)-1)=(l'.length:Int):=by rw [Al (by omega) (by omega)];omega
  have L:=C5 (l'++[f]);have L2:(Ey (l'++[f])++r).length=(l'++[f]).length*3+r.length:=by rw [Kh,L]
  have t:List.take ((l'++[f]).length*3) (Ey (l'++[f])++r)=Ey (l'++[f]):=by rw [←L,List.take_left'];rfl
  have g1:(Ey (l'++[f])++r).getD (l'.length*3+1) .top=.sc (.int .i64 f.left):=by
   have:=Ei (f:=G7.cells) G7.cells_len hx (j:=1) (by omega)
   rw [List.getD_eq_getElem?_getD,List.getElem?_append_left (by rw [L];omega),←List.getD_eq_getElem?_getD]
   exact this
  rw [Oo];by_cases hz:f.left=0
  ·have e:Ey (l'++[f])++r=Ey l'++(f.cells++r):=by rw [Sl,Sk,ZK]
   have q:=ih l' (f.cells++r) m (by omega) (by omega) (by omega)
   rw [←e] at q;rw [QJ hz];have hb:(f.left==(0:Int))=true:=by simp [hz]
   simp (disch:=omega) only [Bz,w,Gu,Br,Nat.sub_zero,g1,hb,q]
  ·rw [JS hz];have hb:(f.left==(0:Int))=false:=by simp [hz]
   simp (disch:=omega) only [Bz,w,Gu,Br,g1,hb,L2,t]
theorem Acc {l:List G7}{x:It}{cnt:Int}(hl:l.length<=100000)(hf:l.length+1<fu)(h0:0<=cnt)(h1:cnt<=1000000):
  Ae C0 Tryz.prog fu (d+1) S9 [.pbox (K0 l cnt),.agg x.cells]=some ⟨[],[K0 (F1 l x) (cnt+1)]⟩:=by
 obtain ⟨k,v,s⟩:=x;refine (FM fu d l.length (Ey l) cnt k v s).trans ?_;have w1:wrap .i64 (cnt+1)=cnt+1:=Al (by omega) (by omega)
 unfold F1 RT;have DL:=NC l;generalize hD:MY l=l1 at DL ⊢;have L1:(Ey l1).length=l.length*3:=by rw [C5,DL]
 have t1:List.take (l.length*3) (Ey l1)=Ey l1:=Tp (by omega)
 have p5:∀b u,Ey l1++[.sc (.bool b),.sc (.int .i64 u),.lst false 1 0 []]=Ey (l1++[⟨b,u,[]⟩]):=by
  intro b u;rw [Sl,Sk];rfl
 have lp0:∀call,A8 fu call l.length (Ey l) cnt k v s fu (l.length:Int) l.length (cnt+1) (Ey l1)=some ⟨[],[K0 (FN l1) (cnt+1)]⟩:=by
  intro call;have:=RV (fu:=fu) (call:=call) (a0_0n:=l.length) (a0_0:=Ey l) (a0_1:=cnt) (a1_0:=k) (a1_1:=v) (a1_2:=s) (c:=cnt+1) _ l1 [] fu rfl (by omega) (by omega)
  rw [List.append_nil,DL] at this;exact this
 have lp1:∀call f,A8 fu call l.length (Ey l) cnt k v s fu ((l.length+1:Nat):Int) (l.length+1) (cnt+1) (Ey (l1++[f]))=some ⟨[],[K0 (FN (l1++[f])) (cnt+1)]⟩:=by
  intro call f;have ll:(l1++[f]).length=l.length+1:=by simp [DL]
  have:=RV (fu:=fu) (call:=call) (a0_0n:=l.length) (a0_0:=Ey l) (a0_1:=cnt) (a1_0:=k) (a1_1:=v) (a1_2:=s) (c:=cnt+1) _ (l1++[f]) [] fu rfl (by omega) (by omega)
  rw [List.append_nil,ll] at this;exact this
 rcases Mx l with rfl|⟨l',f,rfl⟩
 ·have e0:¬(((([]:List G7).length:Nat):Int)>0):=by simp
  obtain rfl:l1=[]:=by rw [←hD];rfl
  by_cases k5:k=5
  ·subst k5;by_cases hv:v>0
   ·rw [Bu ⟨rfl,hv⟩];simp (disch:=first|assumption|omega) only [Bz,w1,L1,t1,p5,lp1,Int.reduceBEq]
   ·rw [A5 (fun h=>hv h.2),A5 (fun h=>hv h.2)]
    simp (disch:=first|assumption|omega) only [Bz,w1,L1,t1,p5,lp0,Int.reduceBEq]
  ·have b5:(k==(5:Int))=false:=by simp [k5]
   rw [A5 (fun h=>k5 h.1)]
   by_cases k6:k=6
   ·subst k6;by_cases hv:v>0
    ·rw [Bu ⟨rfl,hv⟩];simp (disch:=first|assumption|omega) only [Bz,w1,L1,t1,p5,lp1,Int.reduceBEq]
    ·rw [A5 (fun h=>hv h.2)]
     simp (disch:=first|assumption|omega) only [Bz,w1,L1,t1,p5,lp0,Int.reduceBEq]
   ·have b6:(k==(6:Int))=false:=by simp [k6]
    rw [A5 (fun h=>k6 h.1)]
    simp (disch:=first|assumption|omega) only [Bz,w1,L1,t1,p5,lp0,b5,b6]
 ·have hn':(l'++[f]).length=l'.length+1:=by simp
  have hx:(l'++[f])[l'.length]?=some f:=by simp
  have w:wrap .i64 (((l'++[f]).length:Int)-1)=(l'.length:Int):=by rw [Al (by omega) (by omega)];omega
  have L:=C5 (l'++[f]);have g1:(Ey (l'++[f])).getD (l'.length*3+1) .top=.sc (.int .i64 f.left):=Ei G7.cells_len hx (j:=1) (by omega)
  have sp:Bd (Ey (l'++[f])) [.sc (.int .i64 (wrap .i64 (f.left-1)))] (l'.length*3+1)=Ey l1:=by
   rw [Fd (by omega),←hD,V9,Sl,Sl,Sk,Sk]
   have:=C5 l';rw [List.set_append_right _ _ (by omega)]
   have:l'.length*3+1-(Ey l').length=1:=by omega
   rw [this];rfl
  by_cases k5:k=5
  ·subst k5;by_cases hv:v>0
   ·rw [Bu ⟨rfl,hv⟩];simp (disch:=first|assumption|omega) only [Bz,w,w1,Gu,Br,g1,sp,L1,t1,p5,lp1,Int.reduceBEq]
   ·rw [A5 (fun h=>hv h.2),A5 (fun h=>hv h.2)]
    simp (disch:=first|assumption|omega) only [Bz,w,w1,Gu,Br,g1,sp,L1,t1,p5,lp0,Int.reduceBEq]
  ·have b5:(k==(5:Int))=false:=by simp [k5]
   rw [A5 (fun h=>k5 h.1)]
   by_cases k6:k=6
   ·subst k6;by_cases hv:v>0
    ·rw [Bu ⟨rfl,hv⟩];simp (disch:=first|assumption|omega) only [Bz,w,w1,Gu,Br,g1,sp,L1,t1,p5,lp1,Int.reduceBEq]
    ·rw [A5 (fun h=>hv h.2)]
     simp (disch:=first|assumption|omega) only [Bz,w,w1,Gu,Br,g1,sp,L1,t1,p5,lp0,Int.reduceBEq]
   ·have b6:(k==(6:Int))=false:=by simp [k6]
    rw [A5 (fun h=>k6 h.1)]
    simp (disch:=first|assumption|omega) only [Bz,w,w1,Gu,Br,g1,sp,L1,t1,p5,lp0,b5,b6]
end
end
section
open Go.IntKind (wrap)
def UC (s:ByteArray):Bool:=Array.toList (ByteArray.data s)==Array.toList (ByteArray.data (ByteArray.mk #[]))
def Gw (x:It):Bool:=
 if x.k=3 then x.n==0 else if x.k=4 then x.n==0 else if x.k=8 then (x.n==0)&&UC x.s else if x.k=7 then decide (x.n<=1)&&UC x.s else UC x.s
section
variable {fu d:Nat}
theorem Ae9 (x:It):Ae C0 Tryz.prog fu (d+1) Yv [.agg x.cells]=some ⟨[.sc (.bool (Gw x))],[]⟩:=by
 obtain ⟨k,n,s⟩:=x;refine (OI fu d k n s).trans ?_;unfold Gw;show _=some (⟨[.sc (.bool (if k=3 then n==0 else if k=4 then n==0 else if k=8 then (n==0)&&UC s else if k=7 then decide (n<=1)&&UC s else UC s))],[]⟩:A0)
 by_cases h3:k=3
 ·subst h3;simp only [Bz,Int.reduceBEq,if_true]
 by_cases h4:k=4
 ·subst h4;simp only [Bz,Int.reduceBEq,Int.reduceEq,if_true,if_false]
 have b3:(k==(3:Int))=false:=by simp [h3]
 have b4:(k==(4:Int))=false:=by simp [h4]
 by_cases h8:k=8
 ·subst h8;cases hn:n==0<;>simp only [Bz,Int.reduceBEq,Int.reduceEq,if_true,if_false,hn,Bool.true_and,Bool.false_and]<;>rfl
 have b8:(k==(8:Int))=false:=by simp [h8]
 by_cases h7:k=7
 ·subst h7;cases hn:decide (n<=1)<;>simp only [Bz,Int.reduceBEq,Int.reduceEq,if_true,if_false,hn,Bool.true_and,Bool.false_and]<;>rfl
 have b7:(k==(7:Int))=false:=by simp [h7]
 simp only [Bz,b3,b4,b8,b7,A5 h3,A5 h4,A5 h8,A5 h7];rfl
theorem HQ {l:List G7}{x:It}{cnt:Int}(hl:l.length<=1000)(hf:l.length+1<fu)(h0:0<=cnt)(h1:cnt<=1000000)(ha:Rx l=false)
  (hs:x.s.size<=100000)(hv:x.k=4->Lib.validD x.s.data.toList=true):
  Ae C0 Tryz.prog fu (d+2) Jk [.pbox (K0 l cnt),.agg x.cells]=some ⟨[.sc (.int .i64 0)],[K0 (F1 l x) (cnt+1)]⟩:=by
 have st:=Acc (fu:=fu) (d:=d) (l:=l) (x:=x) (cnt:=cnt) (by omega) hf h0 h1
 have ak:=KP (fu:=fu) (d:=d) (l:=l) (by omega) cnt
 have L:=C5 l;have t:=Di l;have L2:=C5 (F1 l x);have t2:=Di (F1 l x);rw [ha] at ak;generalize hE:F1 l x=E at *
 obtain ⟨k,n,s⟩:=x;have va:=P3 (fu:=fu) (d:=d) s (Nat.le_trans hs (by omega))
 unfold XX at va;refine (Jf fu (d+1) l.length (Ey l) cnt k n s).trans ?_;unfold K0 It.cells at st;unfold K0 at ak;by_cases k4:k=4
 ·subst k4;rw [hv rfl] at va;simp (disch:=omega) only [Bz,Int.reduceBEq,va,Ck,L,t,ak,st,L2,t2]
 ·have b4:(k==(4:Int))=false:=by simp [k4]
  simp (disch:=omega) only [Bz,b4,L,t,ak,st,L2,t2]
theorem Ahi {l:List G7}{x:It}{cnt:Int}(hl:l.length<=1000)(hf:l.length+1<fu)(h0:0<=cnt)(h1:cnt<=1000000)(ha:Rx l=false)
  (hs:x.s.size<=1024)(hv:x.k=4->Lib.validD x.s.data.toList=true)(hd:(decide (cnt>0)&&((l.length:Int)==0))=false) (hm:Jj l cnt x.k=0)(hsh:Gw x=true)(hn:x.n<=512∨(x.k≠5∧x.k≠6)):
  Ae C0 Tryz.prog fu (d+3) Oh [.pbox (K0 l cnt),.agg x.cells]=some ⟨[.sc (.int .i64 0)],[K0 (F1 l x) (cnt+1)]⟩:=by
 have ac:=HQ (fu:=fu) (d:=d) (l:=l) (x:=x) (cnt:=cnt) hl hf h0 h1 ha (by omega) hv
 have dn:=TB (fu:=fu) (d:=d+1) l cnt;have ad:=VM (fu:=fu) (d:=d) (l:=l) (by omega) cnt x.k
 have sh:=Ae9 (fu:=fu) (d:=d+1) x;rw [hd] at dn;rw [hm] at ad;rw [hsh] at sh;have L:=C5 l;have t:=Di l;have L2:=C5 (F1 l x);have t2:=Di (F1 l x);generalize hE:F1 l x=E at *
 obtain ⟨k,n,s⟩:=x;have hs':¬((s.size:Int)>1024):=by have:s.size<=1024:=hs;omega
 refine (Yr fu (d+2) l.length (Ey l) cnt k n s).trans ?_;unfold K0 It.cells at ac;unfold K0 at dn ad;unfold It.cells at sh;by_cases k5:k=5
 ·subst k5;have hn':¬(n>512):=hn.elim (fun h=>Int.not_lt.2 h) (fun h=>absurd rfl h.1)
  simp (disch:=first|assumption|omega) only [Bz,Int.reduceBEq,dn,ad,sh,ac,Ck,L,t,L2,t2,bne_self_eq_false]
 have b5:(k==(5:Int))=false:=by simp [k5]
 by_cases k6:k=6
 ·subst k6;have hn':¬(n>512):=hn.elim (fun h=>Int.not_lt.2 h) (fun h=>absurd rfl h.2)
  simp (disch:=first|assumption|omega) only [Bz,Int.reduceBEq,dn,ad,sh,ac,Ck,L,t,L2,t2,bne_self_eq_false]
 have b6:(k==(6:Int))=false:=by simp [k6]
 simp (disch:=first|assumption|omega) only [Bz,b5,b6,dn,ad,sh,ac,Ck,L,t,L2,t2,bne_self_eq_false]
end
end
section
open Go.IntKind (wrap)
theorem Tc (l:List It):(Ci l).length=l.length*3:=AZ It.cells_len l
structure Am2 (l:List G7) (cnt:Int) (x:It):Prop where
 hl:l.length<=100
 h0:0<=cnt
 h1:cnt<=1000
 ha:Rx l=false
 hs:x.s.size<=1024
 hv:x.k=4->Lib.validD x.s.data.toList=true
 hd:(decide (cnt>0)&&((l.length:Int)==0))=false
 hm:Jj l cnt x.k=0
 hsh:Gw x=true
 hn:x.n<=512∨(x.k≠5∧x.k≠6)
def Qc:List G7->Int->List It->Prop
 |l,cnt,[]=>l=[]∧cnt>0
 |l,cnt,x::r=>Am2 l cnt x∧Qc (F1 l x) (cnt+1) r
section
variable {fu d:Nat}
theorem NZ (hfu:200<=fu){l:List It}(hl:l.length<=100000){a0n:Nat}{a0:List PV}:∀(r:List It)(i:Nat)(fs:List G7)(cnt:Int)(nn:Nat),l.drop i=r->i+r.length=l.length->r.length<nn->Qc fs cnt r ->
  Im fu (Ae C0 Tryz.prog fu (d+3)) a0n a0 nn l.length (Ci l) (l.length:Int) (i:Int) fs.length cnt (Ey fs)=some ⟨[.sc (.int .i64 0)],[]⟩:=by
 intro r
 induction r with
 |nil=>
  intro i fs cnt nn hd hi hn hg;obtain ⟨rfl,hc⟩:=hg;obtain ⟨m,rfl⟩:∃m,nn=m+1:=⟨nn-1,by omega⟩
  rw [Zw,J6] at hi;rw [Pi];have dn:=TB (fu:=fu) (d:=d+2) [] cnt;have e:(decide (cnt>0)&&(((([]:List G7).length:Nat):Int)==0))=true:=by simp [hc]
  rw [e] at dn;unfold K0 at dn;have L:=C5 [];have t:=Di [];have c:¬((i:Int)<(l.length:Int)):=by omega
  simp (disch:=first|assumption|omega) only [Bz,L,t,dn,Ck]
 |cons x r ih=>
  intro i fs cnt nn hd hi hn hg;obtain ⟨g,hg⟩:=hg;obtain ⟨m,rfl⟩:∃m,nn=m+1:=⟨nn-1,by omega⟩
  rw [Jd] at hi hn
  have hx:l[i]?=some x:=by
   have:=congrArg (fun q=>q[0]?) hd
   simpa using this
  have hd':l.drop (i+1)=r:=by
   have:=congrArg (List.drop 1) hd;rw [List.drop_drop] at this
   simpa using this
  have q:=ih (i+1) (F1 fs x) (cnt+1) m hd' (by omega) (by omega) hg
  have ck:=Ahi (fu:=fu) (d:=d) (l:=fs) (x:=x) (cnt:=cnt) (by have:=g.hl;omega) (by have:=g.hl;omega) g.h0 (by have:=g.h1;omega) g.ha g.hs g.hv g.hd g.hm g.hsh g.hn
  generalize F1 fs x=E at *
  have g0:(Ci l).getD (i*3) .top=.sc (.int .i64 x.k):=Ei It.cells_len hx (j:=0) (by omega)
  have g1:(Ci l).getD (i*3+1) .top=.sc (.int .u64 x.n):=Ei It.cells_len hx (j:=1) (by omega)
  have g2:(Ci l).getD (i*3+1+1) .top=.sc (.string x.s):=Ei It.cells_len hx (j:=2) (by omega)
  have L:=C5 fs;have t:=Di fs;have w:wrap .i64 ((i:Int)+1)=((i+1:Nat):Int):=by rw [Al (by omega) (by omega)];omega
  rw [Pi];unfold K0 It.cells at ck;simp (disch:=first|assumption|omega) only [Bz,Gu,g0,g1,g2,L,t,ck,bne_self_eq_false,w,q]
theorem Rw (hfu:200<=fu){l:List It}(hl:l.length<=100000)(hf:l.length<fu)(hg:Qc [] 0 l):Ae C0 Tryz.prog fu (d+4) Ux [.lst false 3 l.length (Ci l)]=some ⟨[.sc (.int .i64 0)],[]⟩:=by
 rw [HV];exact NZ hfu hl l 0 [] 0 fu rfl (by omega) hf hg
end
end
section
open Go.IntKind (wrap)
section
variable {fu d:Nat}
theorem VJ (hfu:1000<=fu){l:List It}(hl:l.length<=100000){a0n:Nat}{a0:List PV}:∀(r:List It)(i:Nat)(o:List Int)(nn:Nat),l.drop i=r->i+r.length=l.length->r.length<nn->(∀x∈r,x.ok)->(o++Bf r).length<=300000 ->
  Ke fu (Ae C0 Tryz.prog fu (d+2)) a0n a0 nn o.length l.length (Ci l) (l.length:Int) (i:Int) (Af .u8 o)=some ⟨[.own 1 (o++Bf r).length (Af .u8 (o++Bf r)),.sc (.int .i64 0)],[]⟩:=by
 intro r
 induction r with
 |nil=>
  intro i o nn hd hi hn hg hb;obtain ⟨m,rfl⟩:∃m,nn=m+1:=⟨nn-1,by omega⟩
  rw [Zw,J6] at hi;have e:o++Bf []=o:=by simp [Bf]
  rw [e,Sm];have L:(Af .u8 o).length=o.length:=Am _ _;have t:List.take o.length (Af .u8 o)=Af .u8 o:=Tp (by omega)
  have c:¬((i:Int)<(l.length:Int)):=by omega
  simp (disch:=first|assumption|omega) only [Bz,B8,L,t]
 |cons x r ih=>
  intro i o nn hd hi hn hg hb;obtain ⟨m,rfl⟩:∃m,nn=m+1:=⟨nn-1,by omega⟩
  rw [Jd] at hi hn
  have hx:l[i]?=some x:=by
   have:=congrArg (fun q=>q[0]?) hd
   simpa using this
  have hd':l.drop (i+1)=r:=by
   have:=congrArg (List.drop 1) hd;rw [List.drop_drop] at this
   simpa using this
  have e:o++Bf (x::r)=(o++Bw x)++Bf r:=by simp [Bf]
  rw [e] at hb ⊢
  have ho:o.length<=300000:=by
   rw [Kh,Kh] at hb;omega
  have q:=ih (i+1) (o++Bw x) m hd' (by omega) (by omega) (fun y hy=>hg y (List.mem_cons_of_mem _ hy)) hb
  have it:=Acg (fu:=fu) (d:=d) hfu (l:=o) ho (x:=x) (hg x (by simp))
  have g0:(Ci l).getD (i*3) .top=.sc (.int .i64 x.k):=Ei It.cells_len hx (j:=0) (by omega)
  have g1:(Ci l).getD (i*3+1) .top=.sc (.int .u64 x.n):=Ei It.cells_len hx (j:=1) (by omega)
  have g2:(Ci l).getD (i*3+1+1) .top=.sc (.string x.s):=Ei It.cells_len hx (j:=2) (by omega)
  have L:(Af .u8 o).length=o.length:=Am _ _;have t:List.take o.length (Af .u8 o)=Af .u8 o:=Tp (by omega)
  have w:wrap .i64 ((i:Int)+1)=((i+1:Nat):Int):=by rw [Al (by omega) (by omega)];omega
  rw [Sm];unfold It.cells at it;simp (disch:=first|assumption|omega) only [Bz,Gu,B8,g0,g1,g2,L,t,it,w,q]
theorem YC (hfu:1000<=fu){l:List It}(hl:l.length<=100000)(hf:l.length<fu)(hg:Qc [] 0 l) (hk:∀x∈l,x.ok)(hb:(Bf l).length<=300000):
  Ae C0 Tryz.prog fu (d+5) Rs [.lst false 3 l.length (Ci l)]=some ⟨[.own 1 (Bf l).length (Af .u8 (Bf l)),.sc (.int .i64 0)],[]⟩:=by
 rw [OR];have v:=Rw (fu:=fu) (d:=d) (by omega) hl hf hg
 have q:=VJ (fu:=fu) (d:=d+2) hfu hl (a0n:=l.length) (a0:=Ci l) l 0 [] fu rfl (by omega) hf hk (by simpa using hb)
 rw [Zzq] at q;simp only [Bz,v,bne_self_eq_false];exact q
end
end
section
open Go.IntKind (wrap)
section
variable {fu d:Nat}
theorem SQ (hfu:200<=fu){l:List It}(hl:l.length<=100000)(hf:l.length<fu)(hg:Qc [] 0 l):
  Ae C0 Tryz.prog fu (d+5) Wh [.own 3 l.length (Ci l)]=some ⟨[.own 3 l.length (Ci l),.sc (.int .i64 0)],[]⟩:=by
 rw [KY];have v:=Rw (fu:=fu) (d:=d) hfu hl hf hg;have L:=Tc l;have t:List.take (l.length*3) (Ci l)=Ci l:=Tp (by omega)
 simp (disch:=omega) only [Bz,L,t,E6,v,bne_self_eq_false]
end
end
section
open Go.IntKind (wrap)
structure VQ (x:It):Prop where
 kd:x.k=1∨x.k=2∨x.k=3∨x.k=4∨x.k=7∨x.k=8
 hs:x.s.size<=1024
 hv:x.k=4->Lib.validD x.s.data.toList=true
 hsh:Gw x=true
 n0:0<=x.n
theorem VQ.ok {x:It}(h:VQ x):x.ok:=by
 have:=h.kd;have:=h.hs;exact ⟨by omega,by omega,h.n0,by omega⟩
theorem VQ.push {x:It}(h:VQ x)(l:List G7):RT l x=l:=by
 unfold RT;have:=h.kd;rw [A5 (by omega),A5 (by omega)]
theorem Adz {x:It}(h:VQ x):Qc [] 0 [x]:=by
 have hk:=h.kd;refine ⟨⟨by simp,by omega,by omega,rfl,h.hs,h.hv,rfl,?_,h.hsh,.inr (by omega)⟩,?_,?_⟩
 ·unfold Jj;rw [A5 (by omega),A5 (by omega),A5 (by omega),A5 (by intro q;exact absurd q.1 (by decide)),A5 (by simp)]
 ·unfold F1;rw [h.push];rfl
 ·omega
theorem KU:∀(r:List It)(cnt:Int),r≠[]->(∀x∈r,VQ x)->0<cnt->cnt+r.length<=500->Qc [⟨false,r.length,[]⟩] cnt r
 |[],_,h,_,_,_=>absurd rfl h
 |x::r,cnt,_,hf,hc,hl=>by
  have h:=hf x (by simp)
  have hk:=h.kd;simp only [Jd] at hl;refine ⟨⟨by simp,by omega,by omega,rfl,h.hs,h.hv,by simp,?_,h.hsh,.inr (by omega)⟩,?_⟩
  ·unfold Jj;rw [A5 (by omega),A5 (by omega),A5 (by omega),A5 (by intro q;exact absurd q.1 (by simp [Rx])),A5 (by simp)]
  ·have w:wrap .i64 (((x::r).length:Int)-1)=(r.length:Int):=by
    rw [Al (by simp only [Jd];omega) (by simp only [Jd];omega)]
    simp only [Jd];omega
   have e:F1 [⟨false,((x::r).length:Nat),[]⟩] x=FN [⟨false,(r.length:Nat),[]⟩]:=by
    unfold F1;rw [h.push];have:=V9 [] ⟨false,((x::r).length:Nat),[]⟩;rw [Zzq,Zzq] at this;rw [this];simp only [w]
   rw [e];by_cases hr:r=[]
   ·subst hr;have:=QJ (l:=[]) (f:=⟨false,(([]:List It).length:Nat),[]⟩) rfl;rw [Zzq] at this;rw [this];exact ⟨rfl,by omega⟩
   ·have:=JS (l:=[]) (f:=⟨false,(r.length:Nat),[]⟩) (by simp only;have:=List.length_pos_iff.2 hr;omega)
    rw [Zzq] at this;rw [this];exact KU r (cnt+1) hr (fun y hy=>hf y (List.mem_cons_of_mem _ hy)) (by omega) (by omega)
theorem Agb {r:List It}(hr:r≠[]) (hl:r.length<=400)(hf:∀x∈r,VQ x):Qc [] 0 (⟨5,r.length,⟨#[]⟩⟩::r):=by
 have hp:=List.length_pos_iff.2 hr;refine ⟨⟨by simp,by omega,by omega,rfl,Nat.zero_le _,(by intro h;cases h),rfl,?_,(by rfl),.inl (by simp only;omega)⟩,?_⟩
 ·unfold Jj;rw [A5 (by omega),A5 (by simp),A5 (by simp),A5 (by intro q;exact absurd q.1 (by decide)),A5 (by simp)]
 ·have w:wrap .i64 (r.length:Int)=(r.length:Int):=Al (by omega) (by omega)
  have e:F1 [] ⟨5,(r.length:Nat),⟨#[]⟩⟩=FN [⟨false,(r.length:Nat),[]⟩]:=by
   unfold F1 RT;rw [Bu ⟨rfl,by simp only;omega⟩]
   simp only [w];rfl
  have:=JS (l:=[]) (f:=⟨false,(r.length:Nat),[]⟩) (by simp only;omega)
  rw [Zzq] at this;rw [e,this];exact KU r _ hr hf (by omega) (by omega)
end
section
open Go.IntKind (wrap)
def Amw (v:List It):List PV:=[.lst false 3 v.length (Ci v)]
theorem Ae7 (v:List It):(Amw v).length=1:=rfl
def Aft (l:List (List It)):List PV:=l.flatMap Amw
theorem atv {l:List (List It)} {i:Nat}{v:List It}(h:l[i]?=some v):(Aft l).getD (i*1) .top=.lst false 3 v.length (Ci v):=by
 exact Ei Ae7 h (j:=0) (by omega)
section
variable {fu d:Nat}
theorem HK (hfu:1000<=fu){a0n:Nat}{a0:List PV}{vs:List (List It)} (hl:vs.length<=100000):∀(r:List (List It)) (i nn:Nat),vs.drop i=r->r.length<nn->(∀v∈r,Qc [] 0 v∧v.length<1000)->i<=vs.length ->
  Kb fu (Ae C0 Tryz.prog fu (d+4)) a0n a0 nn vs.length (Aft vs) (vs.length:Int) (i:Int)=some ⟨[.sc (.int .i64 0)],[]⟩
 |_,_,0,_,h,_,_=>by omega
 |[],i,nn+1,h,hn,hg,hi=>by
  have:=drop_nil h;rw [R6,Dj _ _ _ (by omega)]
 |v::r,i,nn+1,h,hn,hg,hi=>by
  obtain ⟨h1,h2,h3⟩:=B3 h;simp only [Jd] at hn;have w:wrap .i64 ((i:Int)+1)=((i+1:Nat):Int):=by rw [Al (by omega) (by omega)];omega
  have ih:=HK hfu (a0n:=a0n) (a0:=a0) hl r (i+1) nn h3 (by omega) (fun v hv=>hg v (List.mem_cons_of_mem _ hv)) (by omega)
  obtain ⟨g,gl⟩:=hg v (by simp)
  have vg:=Rw (fu:=fu) (d:=d) (by omega) (by omega) (by omega) g
  have g0:=atv h2;rw [R6];simp (disch:=omega) only [Bz,Gu,g0,vg,bne_self_eq_false,w,ih]
theorem VS (hfu:1000<=fu){vs:List (List It)} (hl:vs.length<1000)(hg:∀v∈vs,Qc [] 0 v∧v.length<1000):
  Ae C0 Tryz.prog fu (d+5) Y5 [.lst false 1 vs.length (Aft vs)]=some ⟨[.sc (.int .i64 0)],[]⟩:=by
 rw [NS];exact HK hfu (by omega) vs 0 fu rfl (by omega) hg (by omega)
theorem XN (a b:List It):Ci (a++b)=Ci a++Ci b:=by
 unfold Ci;rw [List.flatMap_append]
theorem JP (hfu:1000<=fu){a0n:Nat}{a0:List PV}{vs:List (List It)} (hl:vs.length<=100000):∀(r:List (List It)) (i nn:Nat)(o:List It),vs.drop i=r->r.length<nn->Qc [] 0 (o++r.flatten)->(o++r.flatten).length<=500->i<=vs.length ->
  Mr fu (Ae C0 Tryz.prog fu (d+5)) a0n a0 nn o.length vs.length (Aft vs) (vs.length:Int) (i:Int) (Ci o)=some ⟨[.own 3 (o++r.flatten).length (Ci (o++r.flatten)),.sc (.int .i64 0)],[]⟩
 |_,_,0,_,_,h,_,_,_=>by omega
 |[],i,nn+1,o,h,hn,hg,hb,hi=>by
  have:=drop_nil h;have e:o++([]:List (List It)).flatten=o:=by simp
  rw [e] at hg hb ⊢;have L:=Tc o;have t:List.take (o.length*3) (Ci o)=Ci o:=Tp (by omega)
  have ck:=SQ (fu:=fu) (d:=d) (by omega) (by omega) (by omega) hg
  rw [U8,Dj _ _ _ (by omega)]
  simp (disch:=omega) only [Bz,L,t,ck]
 |v::r,i,nn+1,o,h,hn,hg,hb,hi=>by
  obtain ⟨h1,h2,h3⟩:=B3 h;simp only [Jd] at hn;have w:wrap .i64 ((i:Int)+1)=((i+1:Nat):Int):=by rw [Al (by omega) (by omega)];omega
  have e:o++(v::r).flatten=(o++v)++r.flatten:=by simp
  rw [e] at hg hb ⊢
  have hb':o.length+v.length<=500:=by
   rw [Kh,Kh] at hb;omega
  have ih:=JP hfu (a0n:=a0n) (a0:=a0) hl r (i+1) nn (o++v) h3 (by omega) hg hb (by omega)
  have g0:=atv h2;have L:=Tc o;have Lv:=Tc v;have t:List.take (o.length*3) (Ci o)=Ci o:=Tp (by omega)
  rw [Kh,XN] at ih;rw [U8];simp (disch:=omega) only [Bz,Gu,g0,L,Lv,t,w,ih]
theorem Aaj (hfu:1000<=fu){vs:List (List It)} (hg:∀v∈vs,Qc [] 0 v∧v.length<1000) (hl:vs.length<=400)(ha:Qc [] 0 (⟨5,vs.length,⟨#[]⟩⟩::vs.flatten)) (hb:vs.flatten.length<=400):
  Ae C0 Tryz.prog fu (d+6) Ua [.lst false 1 vs.length (Aft vs)]=some ⟨[.own 3 (vs.flatten.length+1) (Ci (⟨5,vs.length,⟨#[]⟩⟩::vs.flatten)),.sc (.int .i64 0)],[]⟩:=by
 rw [TI];have f:=VS (fu:=fu) (d:=d) hfu (by omega) hg
 have w:wrap .u64 (vs.length:Int)=vs.length:=Cq (by omega) (by omega)
 have q:=JP (fu:=fu) (d:=d) hfu (a0n:=vs.length) (a0:=Aft vs) (by omega) vs 0 fu [⟨5,vs.length,⟨#[]⟩⟩] rfl (by omega) ha (by rw [Kh,List.length_singleton];omega) (by omega)
 simp only [Bz,f,bne_self_eq_false,w];exact q
end
end
section
open Go.IntKind (wrap)
def At0 (a b:List Int):Int:=Lib.compareBytes (a.map fun n=>n.toNat.toUInt8) (b.map fun n=>n.toNat.toUInt8)
def Se (a b:List Int):Bool:=if a.length=b.length then decide (At0 a b<0) else decide (a.length<b.length)
def Je (l:List G7)(key:List Int):List G7:=match l.getLast? with|some f=>l.dropLast++[⟨f.p,f.left,key⟩]|none=>l
theorem M9 (l:List G7)(f:G7)(key:List Int):Je (l++[f]) key=l++[⟨f.p,f.left,key⟩]:=by
 unfold Je;simp
def IP (l:List G7):List Int:=match l.getLast? with|some f=>f.last|none=>[]
theorem UP (l:List G7)(f:G7):IP (l++[f])=f.last:=by
 unfold IP;simp
def D4 (l:List G7)(x:It):Int × List G7:=
 if x.k=4∧XX x.s=false then (6,l)
 else if Rx l=true then (if IP l≠[]∧Se (IP l) (Bw x)=false then (7,l) else (0,F1 (Je l (Bw x)) x))
 else (0,F1 l x)
theorem Agj (x:It):1<=(Bw x).length:=by
 unfold Bw;have h2:=Hn 2 x.s.size;have h3:=Hn 3 x.s.size;have h4:=Hn (x.k-1) x.n
 repeat' split
 all_goals try simp only [Kh,Jd,Zw]
 all_goals omega
section
variable {fu d:Nat}
theorem Abk (a b:List Int):Ae C0 Tryz.prog fu (d+1) 133 [.lst false 1 a.length (Af .u8 a),.lst false 1 b.length (Af .u8 b)]=some ⟨[.sc (.int .i64 (At0 a b))],[]⟩:=by
 have h:Ae C0 Tryz.prog fu (d+1) 133 [.lst false 1 a.length (Af .u8 a),.lst false 1 b.length (Af .u8 b)]=Vt [.lst false 1 a.length (Af .u8 a),.lst false 1 b.length (Af .u8 b)]:=by kernel_rfl
 rw [h];unfold Vt;simp only [Am,Nat.beq_refl,Bool.and_self,cond_true,Hf];rfl
theorem ZP (a b:List Int):Ae C0 Tryz.prog fu (d+2) Wv [.lst false 1 a.length (Af .u8 a),.lst false 1 b.length (Af .u8 b)]=some ⟨[.sc (.bool (Se a b))],[]⟩:=by
 refine (MT fu (d+1) _ _ _ _).trans ?_;have c:=Abk (fu:=fu) (d:=d) a b;unfold Se;by_cases h:a.length=b.length
 ·have b0:((a.length:Int) != (b.length:Int))=false:=by simp [h]
  rw [Bu h];simp only [Bz,b0,c]
 ·have b0:((a.length:Int) != (b.length:Int))=true:=by simp;omega
  rw [A5 h];simp only [Bz,b0];simp
theorem PU {l:List G7}{x:It}{cnt:Int}(hfu:1000<=fu)(hl:l.length<=900)(h0:0<=cnt)(h1:cnt<=1000000)(hx:x.ok)(hs:x.s.size<=100000):
  Ae C0 Tryz.prog fu (d+3) Jk [.pbox (K0 l cnt),.agg x.cells]=some ⟨[.sc (.int .i64 (D4 l x).1)],[K0 (D4 l x).2 (if (D4 l x).1=0 then cnt+1 else cnt)]⟩:=by
 cases ha:Rx l with
 |false=>
  cases hv:(x.k==4) && !XX x.s with
  |false=>
   have e:D4 l x=(0,F1 l x):=by
    unfold D4;rw [A5,A5 (by simp [ha])]
    intro hh;simp [hh.1,hh.2] at hv
   have:=HQ (fu:=fu) (d:=d+1) (l:=l) (x:=x) (cnt:=cnt) (by omega) (by omega) h0 h1 ha hs (by
    intro hk;simp [hk] at hv;exact hv)
   rw [e,this];rfl
  |true=>
   simp at hv
   have e:D4 l x=(6,l):=by
    unfold D4;rw [Bu hv]
   rw [e];obtain ⟨k,n,s⟩:=x;have va:=P3 (fu:=fu) (d:=d+1) s (Nat.le_trans hs (by omega))
   simp only at hv;obtain ⟨rfl,hv⟩:=hv;rw [hv] at va;have L:=C5 l;have t:=Di l;refine (Jf fu (d+2) l.length (Ey l) cnt 4 n s).trans ?_;simp (disch:=omega) only [Bz,Int.reduceBEq,va,L,t];rfl
 |true=>
  rcases Mx l with rfl|⟨l',f,rfl⟩
  ·exact absurd ha (by decide)
  have it:=Acg (fu:=fu) (d:=d) hfu (l:=[]) (by simp) hx
  rw [Zzq] at it;have hp:=Agj x;have sm:=ZP (fu:=fu) (d:=d) f.last (Bw x);have ak:=KP (fu:=fu) (d:=d+1) (l:=l'++[f]) (by omega) cnt
  rw [ha] at ak;have st:=Acc (fu:=fu) (d:=d+1) (l:=Je (l'++[f]) (Bw x)) (x:=x) (cnt:=cnt) (by rw [M9];simp at hl ⊢;omega) (by rw [M9];simp at hl ⊢;omega) h0 h1
  have E:D4 (l'++[f]) x=(if x.k=4∧XX x.s=false then (6,l'++[f]) else if f.last≠[]∧Se f.last (Bw x)=false then (7,l'++[f]) else (0,F1 (Je (l'++[f]) (Bw x)) x)):=by
   unfold D4;rw [ha,UP];simp only [if_true]
  have hn':(l'++[f]).length=l'.length+1:=by simp
  have hx':(l'++[f])[l'.length]?=some f:=by simp
  have w:wrap .i64 (((l'++[f]).length:Int)-1)=(l'.length:Int):=by rw [Al (by omega) (by omega)];omega
  have L:=C5 (l'++[f]);have t:=Di (l'++[f]);have g2:(Ey (l'++[f])).getD (l'.length*3+2) .top=.lst false 1 f.last.length (Af .u8 f.last):=Ei G7.cells_len hx' (j:=2) (by omega)
  have sp:Bd (Ey (l'++[f])) [.lst false 1 (Bw x).length (Af .u8 (Bw x))] (l'.length*3+2)=Ey (Je (l'++[f]) (Bw x)):=by
   rw [Fd (by omega),M9,Sl,Sl,Sk,Sk]
   have:=C5 l';rw [List.set_append_right _ _ (by omega)]
   have:l'.length*3+2-(Ey l').length=2:=by omega
   rw [this];rfl
  have LK:=C5 (Je (l'++[f]) (Bw x));have tK:=Di (Je (l'++[f]) (Bw x));have nK:(Je (l'++[f]) (Bw x)).length=(l'++[f]).length:=by rw [M9];simp
  rw [nK] at LK tK;have L2:=C5 (F1 (Je (l'++[f]) (Bw x)) x);have t2:=Di (F1 (Je (l'++[f]) (Bw x)) x);have Lk:=Am .u8 (Bw x);have tk:=J7 .u8 (Bw x);unfold K0 at st ak ⊢;rw [nK] at st;rw [E];generalize F1 (Je (l'++[f]) (Bw x)) x=S at *
  generalize Ey (Je (l'++[f]) (Bw x))=K at *
  have hsm:f.last.length=0->Se f.last (Bw x)=true:=by
   intro hz;unfold Se;rw [A5 (by omega)]
   simp;omega
  have hnil:f.last≠[]↔0<f.last.length:=by rw [List.length_pos_iff]
  generalize hKe:Bw x=key at *
  obtain ⟨k,n,s⟩:=x;have va:=P3 (fu:=fu) (d:=d+1) s (Nat.le_trans hs (by omega))
  unfold XX at va ⊢;unfold It.cells at st it ⊢;simp only at st it hs ⊢;refine (Jf fu (d+2) (l'++[f]).length (Ey (l'++[f])) cnt k n s).trans ?_;simp only [Zw] at it;have it0:Af .u8 []=[]:=rfl;rw [it0] at it
  try unfold Aa
  repeat' first
   |((with_reducible first|apply As|apply Ak|apply At|apply Ao|apply Bc|apply Bg|apply Aj);· first|with_reducible rfl|(simp (disch:=first|with_reducible assumption|omega) only [va,L,t,ak,w,Gu,Br,J6,it,g2,B8,E6,Lk,tk,sm,sp,LK,tK,st,L2,t2]<;>with_reducible rfl))
   |((with_reducible first|apply Ap|apply Ar);· first|with_reducible rfl|with_reducible assumption|omega|(simp (disch:=first|with_reducible assumption|omega) only [gT,va,L,t,ak,w,Gu,Br,J6,it,g2,B8,E6,Lk,tk,sm,sp,LK,tK,st,L2,t2]<;>omega))
   |(with_reducible apply Aq;· first|with_reducible rfl|with_reducible assumption|(simp (disch:=first|with_reducible assumption|omega) only [gF,va,L,t,ak,w,Gu,Br,J6,it,g2,B8,E6,Lk,tk,sm,sp,LK,tK,st,L2,t2]<;>omega))
   |(with_reducible refine Ajx ?_ ?_<;>intro hb<;>try simp only [decide_eq_true_eq,decide_eq_false_iff_not,beq_iff_eq,beq_eq_false_iff_ne,bne_iff_ne,bne_eq_false_iff_eq,ne_eq,Bool.not_eq_true',Bool.not_eq_false',Bool.not_eq_true,Bool.not_eq_false] at hb)
   |(with_reducible refine UD ?_ ?_)
  all_goals try simp (disch:=first|with_reducible assumption|omega) only [va,L,t,ak,w,Gu,Br,J6,it,g2,B8,E6,Lk,tk,sm,sp,LK,tK,st,L2,t2]
  all_goals clear st it ak va sm L t g2 sp LK tK L2 t2 Lk tk it0 E ha hKe
  all_goals repeat' split
  all_goals first
   |rfl
   |(exfalso;simp_all;done)
   |(exfalso;simp_all;omega)
end
end
section
open Go.IntKind (wrap)
set_option maxRecDepth 100000
abbrev Qb:FuncId:=113
noncomputable def Gq (fu:Nat)(call:Ah)(a0_0n:Nat)(a0_0:List PV)(a0_1:Int)(Fn:Nat)(a0_2:List PV)(a0_3:Int)(nn:Nat)(y0 y1 y2:Int)(y3:Nat)(y4:List PV)(y5 y6:Int)(y7:Nat)(y8:Int)(y9:Nat)(y10:List PV)(Gk:Int)(Hx:List PV):Option A0:=Co CB Tryz.prog fu call 113 Tryz.f113 (Bm Tryz.f113) [.pbox [.own 3 a0_0n a0_0,.sc (.int .i64 a0_1),.lst false 1 Fn a0_2,.sc (.int .i64 a0_3)]] [.r,.r,.r,.r,.r,.r,.r,.r,.r,.r,.r,.l,.r,.l] nn ⟨lk [(0,(.ptr 240000 0)),(2,(.sc (.int .i64 y0))),(3,(.sc (.int .u64 y1))),(8,(.sc (.int .i64 y2))),(94,(.lst false 1 y3 y4)),(95,(.sc (.int .i64 y5))),(96,(.sc (.int .i64 y6)))],B7 [(240000,(.st [(.view 240120 3 0 y7),(.sc (.int .i64 y8)),(.lst false 1 y9 y10),(.sc (.int .i64 Gk))])),(240120,(.ar false Hx))]⟩
theorem Lh (fu:Nat)(call:Ah)(a0_0n:Nat)(a0_0:List PV)(a0_1:Int)(Fn:Nat)(a0_2:List PV)(a0_3:Int)(nn:Nat)(y0 y1 y2:Int)(y3:Nat)(y4:List PV)(y5 y6:Int)(y7:Nat)(y8:Int)(y9:Nat)(y10:List PV)(Gk:Int)(Hx:List PV):Gq fu call a0_0n a0_0 a0_1 Fn a0_2 a0_3 (nn+1) y0 y1 y2 y3 y4 y5 y6 y7 y8 y9 y10 Gk Hx=(A9 (decide (y6<y5)) (Au (decide (0<=y6)&&decide (y6<(↑y3:Int)))<|Ad .u8 (List.getD y4 (Int.toNat y6*1) .top) fun E1=>Aa (Hc .u64 y1 8) fun Fg=>Aa (wrap .u64 E1) fun Fp=>Aa (RD .u64 Fg Fp) fun Ho=>Aa (wrap .i64 (y6+1)) fun Hb=>Gq fu call a0_0n a0_0 a0_1 Fn a0_2 a0_3 (nn) (y0) Ho (y2) (y3) (y4) (y5) Hb (y7) (y8) (y9) (y10) (Gk) (Hx)) (Aa (wrap .i64 (Gk+y2)) fun Hr=>Ag (call 127 [.sc (.int .u64 y1)]) fun Dz Dq=>Ac Dq<|Ab Dz fun F5 H3=>Ad .i64 F5 fun E2=>Ac H3<|A9 (decide (E2<y2)) (Au (decide (y7*3<=Hx.length))<|some (A0.mk [.sc (.int .i64 0),.sc (.int .u64 0),.sc (.int .i64 2)] [[.own 3 y7 (List.take (y7*3) Hx),.sc (.int .i64 y8),.lst false 1 y9 y10,.sc (.int .i64 Hr)]])) (Au (decide (y7*3<=Hx.length))<|some (A0.mk [.sc (.int .i64 y0),.sc (.int .u64 y1),.sc (.int .i64 0)] [[.own 3 y7 (List.take (y7*3) Hx),.sc (.int .i64 y8),.lst false 1 y9 y10,.sc (.int .i64 Hr)]])))):=by kernel_rfl
theorem AE (fu d a0_0n:Nat)(a0_0:List PV)(a0_1:Int)(Fn:Nat)(a0_2:List PV)(a0_3:Int):Ae C0 Tryz.prog fu (d+1) Qb [.pbox [.own 3 a0_0n a0_0,.sc (.int .i64 a0_1),.lst false 1 Fn a0_2,.sc (.int .i64 a0_3)]]=(fun (call:Ah)=>A9 (decide (a0_3>=(↑Fn:Int))) (Au (decide (a0_0n*3<=a0_0.length))<|some (A0.mk [.sc (.int .i64 0),.sc (.int .u64 0),.sc (.int .i64 1)] [[.own 3 a0_0n (List.take (a0_0n*3) a0_0),.sc (.int .i64 a0_1),.lst false 1 Fn a0_2,.sc (.int .i64 a0_3)]])) (Au (decide (0<=a0_3)&&decide (a0_3<(↑Fn:Int)))<|Ad .u8 (List.getD a0_2 (Int.toNat a0_3*1) .top) fun x1=>Aa (wrap .i64 (a0_3+1)) fun x2=>A9 (x1==244) (Aa (wrap .u8 (x1-244)) fun x3=>Aa (wrap .u64 x3) fun x4=>Au (decide (a0_0n*3<=a0_0.length))<|some (A0.mk [.sc (.int .i64 7),.sc (.int .u64 x4),.sc (.int .i64 0)] [[.own 3 a0_0n (List.take (a0_0n*3) a0_0),.sc (.int .i64 a0_1),.lst false 1 Fn a0_2,.sc (.int .i64 x2)]])) (A9 (x1==245) (Aa (wrap .u8 (x1-244)) fun x5=>Aa (wrap .u64 x5) fun x6=>Au (decide (a0_0n*3<=a0_0.length))<|some (A0.mk [.sc (.int .i64 7),.sc (.int .u64 x6),.sc (.int .i64 0)] [[.own 3 a0_0n (List.take (a0_0n*3) a0_0),.sc (.int .i64 a0_1),.lst false 1 Fn a0_2,.sc (.int .i64 x2)]])) (A9 (x1==246) (Au (decide (a0_0n*3<=a0_0.length))<|some (A0.mk [.sc (.int .i64 8),.sc (.int .u64 0),.sc (.int .i64 0)] [[.own 3 a0_0n (List.take (a0_0n*3) a0_0),.sc (.int .i64 a0_1),.lst false 1 Fn a0_2,.sc (.int .i64 x2)]])) (Aa (D8 .u8 x1 5) fun x7=>Aa (Qu .u8 x1 31) fun x8=>A9 (decide (x7>5)) (Au (decide (a0_0n*3<=a0_0.length))<|some (A0.mk [.sc (.int .i64 0),.sc (.int .u64 0),.sc (.int .i64 2)] [[.own 3 a0_0n (List.take (a0_0n*3) a0_0),.sc (.int .i64 a0_1),.lst false 1 Fn a0_2,.sc (.int .i64 x2)]])) (A9 (decide (x8>27)) (Au (decide (a0_0n*3<=a0_0.length))<|some (A0.mk [.sc (.int .i64 0),.sc (.int .u64 0),.sc (.int .i64 2)] [[.own 3 a0_0n (List.take (a0_0n*3) a0_0),.sc (.int .i64 a0_1),.lst false 1 Fn a0_2,.sc (.int .i64 x2)]])) (Aa (wrap .i64 x7) fun x9=>Aa (wrap .i64 (1+x9)) fun Cl=>A9 (decide (x8<24)) (Aa (wrap .u64 x8) fun Cw=>Au (decide (a0_0n*3<=a0_0.length))<|some (A0.mk [.sc (.int .i64 Cl),.sc (.int .u64 Cw),.sc (.int .i64 0)] [[.own 3 a0_0n (List.take (a0_0n*3) a0_0),.sc (.int .i64 a0_1),.lst false 1 Fn a0_2,.sc (.int .i64 x2)]])) (Aa (wrap .u8 (x8-24)) fun Dl=>Au (decide (0<=Dl))<|Aa (Hc .i64 1 Dl) fun Ds=>Aa (wrap .i64 ((↑Fn:Int)-x2)) fun Dk=>A9 (decide (Dk<Ds)) (Au (decide (a0_0n*3<=a0_0.length))<|some (A0.mk [.sc (.int .i64 0),.sc (.int .u64 0),.sc (.int .i64 1)] [[.own 3 a0_0n (List.take (a0_0n*3) a0_0),.sc (.int .i64 a0_1),.lst false 1 Fn a0_2,.sc (.int .i64 x2)]])) (Aa (wrap .i64 (x2+Ds)) fun D9=>Au (decide (0<=x2))<|Au (decide (0<=D9))<|Au (decide (Int.toNat x2<=Int.toNat D9)&&decide (Int.toNat D9<=Fn))<|Aa (Int.toNat D9-Int.toNat x2) fun Ea=>Aa (List.take (Ea*1) (List.drop (Int.toNat x2*1) a0_2)) fun En=>Gq fu call a0_0n a0_0 a0_1 Fn a0_2 a0_3 (fu) Cl 0 Ds Ea En ((↑Ea:Int)) 0 (a0_0n) (a0_1) (Fn) (a0_2) x2 (a0_0)))))))))) (Ae C0 Tryz.prog fu d):=by kernel_rfl
abbrev Pu:FuncId:=91
theorem Z1 (fu d a0_0n:Nat)(a0_0:List PV)(a0_1:Int)(Fn:Nat)(a0_2:List PV)(a0_3:Int):Ae C0 Tryz.prog fu (d+1) Pu [.pbox [.own 3 a0_0n a0_0,.sc (.int .i64 a0_1),.lst false 1 Fn a0_2,.sc (.int .i64 a0_3)]]=(fun (call:Ah)=>Au (decide (a0_0n*3<=a0_0.length))<|Ag (call 113 [.pbox [.own 3 a0_0n (List.take (a0_0n*3) a0_0),.sc (.int .i64 a0_1),.lst false 1 Fn a0_2,.sc (.int .i64 a0_3)]]) fun x1 x2=>Ab x1 fun x3 x4=>Ad .i64 x3 fun x5=>Ab x4 fun x6 x7=>Ad .u64 x6 fun x8=>Ab x7 fun x9 Cl=>Ad .i64 x9 fun Cw=>Ac Cl<|Ab x2 fun Dl Ds=>Ab Dl fun Dk D9=>Es 3 Dk fun Ea En=>Ab D9 fun E1 Fg=>Ad .i64 E1 fun Fp=>Ab Fg fun Ho Hb=>Fk 1 Ho fun Hr Dz Dq=>Ab Hb fun F5 H3=>Ad .i64 F5 fun E2=>Ac H3<|Ac Ds<|A9 (Cw != 0) (Au (decide (Ea*3<=En.length))<|some (A0.mk [.agg [.sc (.int .i64 0),.sc (.int .u64 0),.sc (.string (ByteArray.mk #[]))],.sc (.int .i64 Cw)] [[.own 3 Ea (List.take (Ea*3) En),.sc (.int .i64 Fp),.lst false 1 Dz Dq,.sc (.int .i64 E2)]])) (Au (decide (Ea*3<=En.length))<|Ag (call 114 [.pbox [.own 3 Ea (List.take (Ea*3) En),.sc (.int .i64 Fp)],.sc (.int .i64 x5)]) fun Jg L6=>Ab Jg fun J3 Mp=>Ad .i64 J3 fun Mg=>Ac Mp<|Ab L6 fun Nm Pt=>Ab Nm fun P7 R4=>Es 3 P7 fun Hi J8=>Ab R4 fun Uy Y8=>Ad .i64 Uy fun Ph=>Ac Y8<|Ac Pt<|A9 (Mg != 0) (Au (decide (Hi*3<=J8.length))<|some (A0.mk [.agg [.sc (.int .i64 0),.sc (.int .u64 0),.sc (.string (ByteArray.mk #[]))],.sc (.int .i64 Mg)] [[.own 3 Hi (List.take (Hi*3) J8),.sc (.int .i64 Ph),.lst false 1 Dz Dq,.sc (.int .i64 E2)]])) (A9 (x5==5) (A9 (decide (x8>512)) (Au (decide (Hi*3<=J8.length))<|some (A0.mk [.agg [.sc (.int .i64 0),.sc (.int .u64 0),.sc (.string (ByteArray.mk #[]))],.sc (.int .i64 8)] [[.own 3 Hi (List.take (Hi*3) J8),.sc (.int .i64 Ph),.lst false 1 Dz Dq,.sc (.int .i64 E2)]])) (Au (decide (Hi*3<=J8.length))<|Ag (call 115 [.pbox [.own 3 Hi (List.take (Hi*3) J8),.sc (.int .i64 Ph)],.agg [.sc (.int .i64 x5),.sc (.int .u64 x8),.sc (.string (ByteArray.mk #[]))]]) fun Nw Uo=>Ab Nw fun Sb To=>Ad .i64 Sb fun Xt=>Ac To<|Ab Uo fun Yh Sd=>Ab Yh fun We Yk=>Es 3 We fun Xe O3=>Ab Yk fun Yl DK=>Ad .i64 Yl fun BC=>Ac DK<|Ac Sd<|A9 (Xt != 0) (Au (decide (Xe*3<=O3.length))<|some (A0.mk [.agg [.sc (.int .i64 0),.sc (.int .u64 0),.sc (.string (ByteArray.mk #[]))],.sc (.int .i64 Xt)] [[.own 3 Xe (List.take (Xe*3) O3),.sc (.int .i64 BC),.lst false 1 Dz Dq,.sc (.int .i64 E2)]])) (Au (decide (Xe*3<=O3.length))<|some (A0.mk [.agg [.sc (.int .i64 x5),.sc (.int .u64 x8),.sc (.string (ByteArray.mk #[]))],.sc (.int .i64 0)] [[.own 3 Xe (List.take (Xe*3) O3),.sc (.int .i64 BC),.lst false 1 Dz Dq,.sc (.int .i64 E2)]])))) (A9 (x5==6) (A9 (decide (x8>512)) (Au (decide (Hi*3<=J8.length))<|some (A0.mk [.agg [.sc (.int .i64 0),.sc (.int .u64 0),.sc (.string (ByteArray.mk #[]))],.sc (.int .i64 8)] [[.own 3 Hi (List.take (Hi*3) J8),.sc (.int .i64 Ph),.lst false 1 Dz Dq,.sc (.int .i64 E2)]])) (Au (decide (Hi*3<=J8.length))<|Ag (call 115 [.pbox [.own 3 Hi (List.take (Hi*3) J8),.sc (.int .i64 Ph)],.agg [.sc (.int .i64 x5),.sc (.int .u64 x8),.sc (.string (ByteArray.mk #[]))]]) fun Y3 U7=>Ab Y3 fun X7 BA=>Ad .i64 X7 fun Zd=>Ac BA<|Ab U7 fun Y6 BB=>Ab Y6 fun Y1 Za=>Es 3 Y1 fun Xv Xj=>Ab Za fun EB Zs=>Ad .i64 EB fun Y2=>Ac Zs<|Ac BB<|A9 (Zd != 0) (Au (decide (Xv*3<=Xj.length))<|some (A0.mk [.agg [.sc (.int .i64 0),.sc (.int .u64 0),.sc (.string (ByteArray.mk #[]))],.sc (.int .i64 Zd)] [[.own 3 Xv (List.take (Xv*3) Xj),.sc (.int .i64 Y2),.lst false 1 Dz Dq,.sc (.int .i64 E2)]])) (Au (decide (Xv*3<=Xj.length))<|some (A0.mk [.agg [.sc (.int .i64 x5),.sc (.int .u64 x8),.sc (.string (ByteArray.mk #[]))],.sc (.int .i64 0)] [[.own 3 Xv (List.take (Xv*3) Xj),.sc (.int .i64 Y2),.lst false 1 Dz Dq,.sc (.int .i64 E2)]])))) (A9 (x5==3) (A9 (decide (x8>1024)) (Au (decide (Hi*3<=J8.length))<|some (A0.mk [.agg [.sc (.int .i64 0),.sc (.int .u64 0),.sc (.string (ByteArray.mk #[]))],.sc (.int .i64 8)] [[.own 3 Hi (List.take (Hi*3) J8),.sc (.int .i64 Ph),.lst false 1 Dz Dq,.sc (.int .i64 E2)]])) (Aa (wrap .i64 ((↑Dz:Int)-E2)) fun Zf=>Aa (wrap .i64 x8) fun Zz=>A9 (decide (Zf<Zz)) (Au (decide (Hi*3<=J8.length))<|some (A0.mk [.agg [.sc (.int .i64 0),.sc (.int .u64 0),.sc (.string (ByteArray.mk #[]))],.sc (.int .i64 1)] [[.own 3 Hi (List.take (Hi*3) J8),.sc (.int .i64 Ph),.lst false 1 Dz Dq,.sc (.int .i64 E2)]])) (Aa (wrap .i64 x8) fun EG=>Aa (wrap .i64 (E2+EG)) fun Zk=>Au (decide (0<=E2))<|Au (decide (0<=Zk))<|Au (decide (Int.toNat E2<=Int.toNat Zk)&&decide (Int.toNat Zk<=Dz))<|Aa (Int.toNat Zk-Int.toNat E2) fun Y4=>Aa (List.take (Y4*1) (List.drop (Int.toNat E2*1) Dq)) fun GZ=>Au (decide (GZ.length=Y4))<|E5 (bytesOf GZ) fun BE=>Aa (wrap .i64 x8) fun FP=>Aa (wrap .i64 (E2+FP)) fun IU=>Au (decide (Hi*3<=J8.length))<|Ag (call 115 [.pbox [.own 3 Hi (List.take (Hi*3) J8),.sc (.int .i64 Ph)],.agg [.sc (.int .i64 x5),.sc (.int .u64 0),.sc (.string (ByteArray.mk (List.toArray BE)))]]) fun IW UI=>Ab IW fun NQ RU=>Ad .i64 NQ fun OL=>Ac RU<|Ab UI fun ZG WJ=>Ab ZG fun UX TX=>Es 3 UX fun EI RG=>Ab TX fun SE YA=>Ad .i64 SE fun VI=>Ac YA<|Ac WJ<|A9 (OL != 0) (Au (decide (EI*3<=RG.length))<|some (A0.mk [.agg [.sc (.int .i64 0),.sc (.int .u64 0),.sc (.string (ByteArray.mk #[]))],.sc (.int .i64 OL)] [[.own 3 EI (List.take (EI*3) RG),.sc (.int .i64 VI),.lst false 1 Dz Dq,.sc (.int .i64 IU)]])) (Au (decide (EI*3<=RG.length))<|some (A0.mk [.agg [.sc (.int .i64 x5),.sc (.int .u64 0),.sc (.string (ByteArray.mk (List.toArray BE)))],.sc (.int .i64 0)] [[.own 3 EI (List.take (EI*3) RG),.sc (.int .i64 VI),.lst false 1 Dz Dq,.sc (.int .i64 IU)]]))))) (A9 (x5==4) (A9 (decide (x8>1024)) (Au (decide (Hi*3<=J8.length))<|some (A0.mk [.agg [.sc (.int .i64 0),.sc (.int .u64 0),.sc (.string (ByteArray.mk #[]))],.sc (.int .i64 8)] [[.own 3 Hi (List.take (Hi*3) J8),.sc (.int .i64 Ph),.lst false 1 Dz Dq,.sc (.int .i64 E2)]])) (Aa (wrap .i64 ((↑Dz:Int)-E2)) fun x94=>Aa (wrap .i64 x8) fun x95=>A9 (decide (x94<x95)) (Au (decide (Hi*3<=J8.length))<|some (A0.mk [.agg [.sc (.int .i64 0),.sc (.int .u64 0),.sc (.string (ByteArray.mk #[]))],.sc (.int .i64 1)] [[.own 3 Hi (List.take (Hi*3) J8),.sc (.int .i64 Ph),.lst false 1 Dz Dq,.sc (.int .i64 E2)]])) (Aa (wrap .i64 x8) fun x96=>Aa (wrap .i64 (E2+x96)) fun UZ=>Au (decide (0<=E2))<|Au (decide (0<=UZ))<|Au (decide (Int.toNat E2<=Int.toNat UZ)&&decide (Int.toNat UZ<=Dz))<|Aa (Int.toNat UZ-Int.toNat E2) fun ZM=>Aa (List.take (ZM*1) (List.drop (Int.toNat E2*1) Dq)) fun ZN=>Au (decide (ZN.length=ZM))<|E5 (bytesOf ZN) fun Ys=>Aa (wrap .i64 x8) fun Xb=>Aa (wrap .i64 (E2+Xb)) fun H5=>Au (decide (Hi*3<=J8.length))<|Ag (call 115 [.pbox [.own 3 Hi (List.take (Hi*3) J8),.sc (.int .i64 Ph)],.agg [.sc (.int .i64 x5),.sc (.int .u64 0),.sc (.string (ByteArray.mk (List.toArray Ys)))]]) fun D7 Z6=>Ab D7 fun Tl R7=>Ad .i64 Tl fun Kx=>Ac R7<|Ab Z6 fun Zu AM=>Ab Zu fun Z4 Zr=>Es 3 Z4 fun Iy Kl=>Ab Zr fun AW Zh=>Ad .i64 AW fun AP=>Ac Zh<|Ac AM<|A9 (Kx != 0) (Au (decide (Iy*3<=Kl.length))<|some (A0.mk [.agg [.sc (.int .i64 0),.sc (.int .u64 0),.sc (.string (ByteArray.mk #[]))],.sc (.int .i64 Kx)] [[.own 3 Iy (List.take (Iy*3) Kl),.sc (.int .i64 AP),.lst false 1 Dz Dq,.sc (.int .i64 H5)]])) (Au (decide (Iy*3<=Kl.length))<|some (A0.mk [.agg [.sc (.int .i64 x5),.sc (.int .u64 0),.sc (.string (ByteArray.mk (List.toArray Ys)))],.sc (.int .i64 0)] [[.own 3 Iy (List.take (Iy*3) Kl),.sc (.int .i64 AP),.lst false 1 Dz Dq,.sc (.int .i64 H5)]]))))) (Au (decide (Hi*3<=J8.length))<|Ag (call 115 [.pbox [.own 3 Hi (List.take (Hi*3) J8),.sc (.int .i64 Ph)],.agg [.sc (.int .i64 x5),.sc (.int .u64 x8),.sc (.string (ByteArray.mk #[]))]]) fun FS Ub=>Ab FS fun Vw Yi=>Ad .i64 Vw fun X9=>Ac Yi<|Ab Ub fun Zo BI=>Ab Zo fun Tg R3=>Es 3 Tg fun Qt Tu=>Ab R3 fun Vl CF=>Ad .i64 Vl fun Zi=>Ac CF<|Ac BI<|A9 (X9 != 0) (Au (decide (Qt*3<=Tu.length))<|some (A0.mk [.agg [.sc (.int .i64 0),.sc (.int .u64 0),.sc (.string (ByteArray.mk #[]))],.sc (.int .i64 X9)] [[.own 3 Qt (List.take (Qt*3) Tu),.sc (.int .i64 Zi),.lst false 1 Dz Dq,.sc (.int .i64 E2)]])) (Au (decide (Qt*3<=Tu.length))<|some (A0.mk [.agg [.sc (.int .i64 x5),.sc (.int .u64 x8),.sc (.string (ByteArray.mk #[]))],.sc (.int .i64 0)] [[.own 3 Qt (List.take (Qt*3) Tu),.sc (.int .i64 Zi),.lst false 1 Dz Dq,.sc (.int .i64 E2)]]))))))))) (Ae C0 Tryz.prog fu d):=by kernel_rfl
abbrev Zg:FuncId:=51
noncomputable def Kk (fu:Nat)(call:Ah)(a0n:Nat)(a0:List PV)(nn y0:Nat)(y1:List PV)(y2:Nat)(y3:Int)(y4:Nat)(y5:List PV)(y6:Int)(y7:List PV):Option A0:=Co CB Tryz.prog fu call 51 Tryz.f51 (Bm Tryz.f51) [.lst false 1 a0n a0] [.r,.r,.l,.l] nn ⟨lk [(2,(.view 2 3 0 y0)),(5,(.ptr 5 0))],B7 [(2,(.ar false y1)),(5,(.st [(.view 32 3 0 y2),(.sc (.int .i64 y3)),(.lst false 1 y4 y5),(.sc (.int .i64 y6))])),(32,(.ar false y7))]⟩
theorem EX (fu:Nat)(call:Ah)(a0n:Nat)(a0:List PV)(nn y0:Nat)(y1:List PV)(y2:Nat)(y3:Int)(y4:Nat)(y5:List PV)(y6:Int)(y7:List PV):Kk fu call a0n a0 (nn+1) y0 y1 y2 y3 y4 y5 y6 y7=(Au (decide (y2*3<=y7.length))<|Ag (call 90 [.pbox [.own 3 y2 (List.take (y2*3) y7),.sc (.int .i64 y3)]]) fun x1 x2=>Ab x1 fun x3 x4=>Bj x3 fun x5=>Ac x4<|Ab x2 fun x6 x7=>Ab x6 fun x8 x9=>Es 3 x8 fun Cl Cw=>Ab x9 fun Dl Ds=>Ad .i64 Dl fun Dk=>Ac Ds<|Ac x7<|A9 (!x5) (Au (decide (Cl*3<=Cw.length))<|Ag (call 91 [.pbox [.own 3 Cl (List.take (Cl*3) Cw),.sc (.int .i64 Dk),.lst false 1 y4 y5,.sc (.int .i64 y6)]]) fun D9 Ea=>Ab D9 fun En E1=>C4 En fun Fg=>Ab Fg fun Fp Ho=>Ad .i64 Fp fun Hb=>Ab Ho fun Hr Dz=>Ad .u64 Hr fun Dq=>Ab Dz fun F5 H3=>Cj F5 fun E2=>Ac H3<|Ab E1 fun Jg L6=>Ad .i64 Jg fun J3=>Ac L6<|Ab Ea fun Mp Mg=>Ab Mp fun Nm Pt=>Es 3 Nm fun P7 R4=>Ab Pt fun Hi J8=>Ad .i64 Hi fun Uy=>Ab J8 fun Y8 Ph=>Fk 1 Y8 fun Nw Uo Sb=>Ab Ph fun To Xt=>Ad .i64 To fun Yh=>Ac Xt<|Ac Mg<|A9 (J3 != 0) (some (A0.mk [.own 3 0 [],.sc (.int .i64 0),.sc (.int .i64 J3)] [])) (Au (decide (y0*3<=y1.length)&&true&&decide ((y0+1)*32<=1099511627776)&&decide (y0+1<=1099511627776))<|Aa (y0+1) fun Sd=>Aa (List.take (y0*3) y1++[.sc (.int .i64 Hb),.sc (.int .u64 Dq),.sc (.string E2)]) fun We=>Kk fu call a0n a0 (nn) Sd We P7 Uy Uo Sb Yh R4)) (Au (decide (y0*3<=y1.length))<|some (A0.mk [.own 3 y0 (List.take (y0*3) y1),.sc (.int .i64 y6),.sc (.int .i64 0)] []))):=by kernel_rfl
theorem NY (fu d a0n:Nat)(a0:List PV):Ae C0 Tryz.prog fu (d+1) Zg [.lst false 1 a0n a0]=(fun (call:Ah)=>Kk fu call a0n a0 (fu) 0 ([]) 0 0 (a0n) (a0) 0 ([])) (Ae C0 Tryz.prog fu d):=by kernel_rfl
end
section
open Go.IntKind (wrap)
structure Hd where
 k:Int
 n:Int
 e:Int
 at_:Nat
def Qa (n:Int):Int:=if n<24 then 0 else if n<256 then 1 else if n<65536 then 2 else if n<4294967296 then 4 else 8
def szE (low:Int):Nat:=if low=24 then 1 else if low=25 then 2 else if low=26 then 4 else 8
def Ve (b:List Int)(at_:Nat)(x:Int):Hd:=
 if x=244 then ⟨7,0,0,at_+1⟩ else if x=245 then ⟨7,1,0,at_+1⟩ else if x=246 then ⟨8,0,0,at_+1⟩
 else if x / 32>5 then ⟨0,0,2,at_+1⟩ else if x % 32>27 then ⟨0,0,2,at_+1⟩
 else if x % 32<24 then ⟨1+x / 32,x % 32,0,at_+1⟩
 else if b.length-(at_+1)<szE (x % 32) then ⟨0,0,1,at_+1⟩
 else if Qa (NJ ((b.drop (at_+1)).take (szE (x % 32))))<szE (x % 32) then ⟨0,0,2,at_+1+szE (x % 32)⟩
 else ⟨1+x / 32,NJ ((b.drop (at_+1)).take (szE (x % 32))),0,at_+1+szE (x % 32)⟩
def Gi (b:List Int)(at_:Nat):Hd:=match b[at_]? with|none=>⟨0,0,1,at_⟩|some x=>Ve b at_ x
theorem A1f {x:Int}(h:0<=x):D8 .u8 x 5=x / 32:=by
 unfold D8;show x.fdiv (2 ^ (min (5:Int).toNat IntKind.u8.bits))=_;have h2:(2:Int) ^ (min (5:Int).toNat IntKind.u8.bits)=32:=by decide
 rw [h2,Int.fdiv_eq_ediv_of_nonneg _ (by omega)]
theorem Atq {x:Int}(h0:0<=x)(h1:x<=255):Qu .u8 x 31=x % 32:=by
 obtain ⟨n,rfl⟩:=Int.eq_ofNat_of_zero_le h0;have hn:n<256:=by omega
 have e1:(BitVec.ofInt 8 (n:Int)).toNat=n:=by
  rw [BitVec.toNat_ofInt];omega
 have e2:(BitVec.ofInt 8 (31:Int)).toNat=2 ^ 5-1:=by decide
 unfold Qu;show wrap .u8 ((BitVec.ofInt 8 (n:Int) &&& BitVec.ofInt 8 (31:Int)).toNat:Int)=_;rw [BitVec.toNat_and,e1,e2,Nat.and_two_pow_sub_one_eq_mod,F2 (by omega) (by omega)]
 omega
abbrev Agi (l:List G7)(cnt:Int)(b:List Int)(at_:Nat):List PV:=[.own 3 l.length (Ey l),.sc (.int .i64 cnt),.lst false 1 b.length (Af .u8 b),.sc (.int .i64 at_)]
section
variable {fu d:Nat}
theorem Aho (n:Int):Ae C0 Tryz.prog fu (d+1) CZ [.sc (.int .u64 n)]=some ⟨[.sc (.int .i64 (Qa n))],[]⟩:=by
 rw [TT];unfold Qa
 try unfold Aa
 repeat' first
  |((with_reducible first|apply As|apply Ak|apply At|apply Aj);· first|with_reducible rfl|(simp (disch:=first|with_reducible assumption|omega) only [Bu,A5]<;>with_reducible rfl))
  |((with_reducible first|apply Ap|apply Ar);· first|with_reducible rfl|with_reducible assumption|omega|(simp (disch:=first|with_reducible assumption|omega) only [gT,Bu,A5]<;>omega))
  |(with_reducible apply Aq;· first|with_reducible rfl|with_reducible assumption|(simp (disch:=first|with_reducible assumption|omega) only [gF,Bu,A5]<;>omega))
  |(with_reducible refine Ajx ?_ ?_<;>intro hb<;>try simp only [decide_eq_true_eq,decide_eq_false_iff_not,beq_iff_eq,beq_eq_false_iff_ne,bne_iff_ne,bne_eq_false_iff_eq,ne_eq,Bool.not_eq_true',Bool.not_eq_false',Bool.not_eq_true,Bool.not_eq_false] at hb)
  |(with_reducible refine UD ?_ ?_)
 all_goals try simp (disch:=first|with_reducible assumption|omega) only [Bu,A5]
theorem MO {a0n a2n:Nat}{a0 a2:List PV}{a1 a3 k cnt:Int}{l:List G7}{b:List Int}{off sz:Nat}{q:List Int}(hq:q.length=sz)(hb:b.length<=1000000)(ho:off+sz<=b.length):∀(r:List Int)(i nn:Nat)(v:Int),q.drop i=r->r.length<nn->i<=sz ->
    Gq fu (Ae C0 Tryz.prog fu (d+1)) a0n a0 a1 a2n a2 a3 nn k v (sz:Int) sz (Af .u8 q) (sz:Int) (i:Int) l.length cnt b.length (Af .u8 b) (off:Int) (Ey l) =
      (if Qa (r.foldl Fo v)<sz then some ⟨[.sc (.int .i64 0),.sc (.int .u64 0),.sc (.int .i64 2)],[Agi l cnt b (off+sz)]⟩
       else some ⟨[.sc (.int .i64 k),.sc (.int .u64 (r.foldl Fo v)),.sc (.int .i64 0)],[Agi l cnt b (off+sz)]⟩)
  |_,_,0,_,_,h,_=>by omega
  |[],i,nn+1,v,hd,hn,hi=>by
    have:=drop_nil hd
    have sh:=Aho (fu:=fu) (d:=d) v
    have L:=C5 l
    have t:=Di l
    have w:wrap .i64 ((off:Int)+(sz:Int))=((off+sz:Nat):Int):=by rw [Al (by omega) (by omega)];omega
    rw [Lh,Dj _ _ _ (by omega),List.foldl_nil]
    by_cases hs:Qa v<sz
    · rw [Bu hs]
      simp (disch:=omega) only [Bz,w,sh,L,t,B8]
    · rw [A5 hs]
      simp (disch:=omega) only [Bz,w,sh,L,t,B8]
  |x::r,i,nn+1,v,hd,hn,hi=>by
    obtain ⟨h1,h2,h3⟩:=B3 hd
    simp only [Jd] at hn
    have g0:=Vg (k:=.u8) h2
    have w:wrap .i64 ((i:Int)+1)=((i+1:Nat):Int):=by rw [Al (by omega) (by omega)];omega
    have ih:=MO (a0n:=a0n) (a2n:=a2n) (a0:=a0) (a2:=a2) (a1:=a1) (a3:=a3) (k:=k) (cnt:=cnt) (l:=l) hq hb ho r (i+1) nn (Fo v x) h3 (by omega) (by omega)
    rw [List.foldl_cons,←ih,Lh]
    simp (disch:=omega) only [Bz,Gu,B8,g0,w]
theorem Akk {l:List G7}{cnt:Int}{b:List Int}{at_:Nat}(hfu:1000<=fu)(hb:Kw b)(hl:b.length<=1000000):
  Ae C0 Tryz.prog fu (d+2) Qb [.pbox (Agi l cnt b at_)]=some ⟨[.sc (.int .i64 (Gi b at_).k),.sc (.int .u64 (Gi b at_).n),.sc (.int .i64 (Gi b at_).e)],[Agi l cnt b (Gi b at_).at_]⟩:=by
 refine (AE fu (d+1) l.length (Ey l) cnt b.length (Af .u8 b) (at_:Int)).trans ?_;have L:=C5 l;have t:=Di l;have Lb:=Am .u8 b;have tb:=J7 .u8 b;unfold Gi;by_cases hlt:at_<b.length
 rotate_left
 ·have hg:b[at_]?=none:=List.getElem?_eq_none (by omega)
  rw [hg];simp (disch:=omega) only [Bz,L,t,Lb,tb,B8]
 have hg:b[at_]?=some b[at_]:=List.getElem?_eq_getElem hlt;have hB:=hb _ (List.getElem_mem hlt);rw [hg];generalize b[at_]=x at hg hB;have g0:=Vg (k:=.u8) hg;have w1:wrap .i64 ((at_:Int)+1)=((at_+1:Nat):Int):=by rw [Al (by omega) (by omega)];omega
 have s5:=A1f hB.1;have a31:=Atq hB.1 hB.2;unfold Ve;simp only;by_cases c1:x=244
 ·subst c1;have q:wrap .u64 (wrap .u8 ((244:Int)-244))=0:=by decide
  simp (disch:=omega) only [Bz,Gu,Br,B8,g0,Int.reduceBEq,w1,L,t,Lb,tb,q]
 rw [A5 c1];have b1:(x==(244:Int))=false:=by simp [c1]
 by_cases c2:x=245
 ·subst c2;have q:wrap .u64 (wrap .u8 ((245:Int)-244))=1:=by decide
  simp (disch:=omega) only [Bz,Gu,Br,B8,g0,Int.reduceBEq,w1,L,t,Lb,tb,q,if_true]
 rw [A5 c2];have b2:(x==(245:Int))=false:=by simp [c2]
 by_cases c3:x=246
 ·subst c3;simp (disch:=omega) only [Bz,Gu,Br,B8,g0,Int.reduceBEq,w1,L,t,Lb,tb,if_true]
 rw [A5 c3];have b3:(x==(246:Int))=false:=by simp [c3]
 by_cases c4:x / 32>5
 ·rw [Bu c4];simp (disch:=omega) only [Bz,Gu,Br,B8,g0,b1,b2,b3,s5,a31,w1,L,t,Lb,tb]
 rw [A5 c4];by_cases c5:x % 32>27
 ·rw [Bu c5];simp (disch:=omega) only [Bz,Gu,Br,B8,g0,b1,b2,b3,s5,a31,w1,L,t,Lb,tb]
 rw [A5 c5];have wk1:wrap .i64 (x / 32)=x / 32:=Al (by omega) (by omega)
 have wk2:wrap .i64 (1+x / 32)=1+x / 32:=Al (by omega) (by omega)
 by_cases c6:x % 32<24
 ·have wn:wrap .u64 (x % 32)=x % 32:=Cq (by omega) (by omega)
  rw [Bu c6];simp (disch:=omega) only [Bz,Gu,Br,B8,g0,b1,b2,b3,s5,a31,w1,wk1,wk2,wn,L,t,Lb,tb]
 rw [A5 c6];have q1:wrap .u8 (x % 32-24)=x % 32-24:=F2 (by omega) (by omega)
 have q2:Hc .i64 1 (x % 32-24)=(szE (x % 32):Int):=by
  have:x % 32=24∨x % 32=25∨x % 32=26∨x % 32=27:=by omega
  rcases this with h|h|h|h<;>rw [h]<;>decide
 have q3:szE (x % 32)<=8:=by
  unfold szE
  repeat' split
  all_goals omega
 generalize szE (x % 32)=sz at q2 q3 ⊢;have q4:wrap .i64 ((b.length:Int)-((at_+1:Nat):Int))=((b.length-(at_+1):Nat):Int):=by rw [Al (by omega) (by omega)];omega
 by_cases c7:b.length-(at_+1)<sz
 ·rw [Bu c7];simp (disch:=omega) only [Bz,Gu,Br,B8,g0,b1,b2,b3,s5,a31,w1,wk1,wk2,q1,q2,q4,L,t,Lb,tb]
 rw [A5 c7];have q5:wrap .i64 (((at_+1:Nat):Int)+(sz:Int))=((at_+1+sz:Nat):Int):=by rw [Al (by omega) (by omega)];omega
 have q6:at_+1+sz-(at_+1)=sz:=by omega
 have lp:=MO (fu:=fu) (d:=d) (a0n:=l.length) (a2n:=b.length) (a0:=Ey l) (a2:=Af .u8 b) (a1:=cnt) (a3:=(at_:Int)) (k:=1+x / 32) (cnt:=cnt) (l:=l) (b:=b) (off:=at_+1) (sz:=sz) (q:=(b.drop (at_+1)).take sz) (by rw [List.length_take,List.length_drop];omega) hl (by omega) _ 0 fu 0 rfl (by rw [E6,List.length_take];omega) (by omega)
 rw [E6] at lp;have lp':=lp;unfold NJ;by_cases c8:Qa (((b.drop (at_+1)).take sz).foldl Fo 0)<sz
 ·rw [Bu c8] at lp' ⊢;simp (disch:=omega) only [Bz,Gu,Br,B8,g0,b1,b2,b3,s5,a31,w1,wk1,wk2,q1,q2,q4,q5,q6,Il,Pf,L,t,Lb,tb];exact lp'
 ·rw [A5 c8] at lp' ⊢;simp (disch:=omega) only [Bz,Gu,Br,B8,g0,b1,b2,b3,s5,a31,w1,wk1,wk2,q1,q2,q4,q5,q6,Il,Pf,L,t,Lb,tb];exact lp'
end
end
section
open Go.IntKind (wrap)
structure Rd where
 x:It
 e:Int
 l:List G7
 cnt:Int
 at_:Nat
def it0:It:=⟨0,0,⟨#[]⟩⟩
def Vc (l:List G7)(cnt:Int)(x:It)(at_:Nat):Rd:=if (D4 l x).1=0 then ⟨x,0,(D4 l x).2,cnt+1,at_⟩ else ⟨it0,(D4 l x).1,(D4 l x).2,cnt,at_⟩
def UR (l:List G7)(cnt:Int)(b:List Int)(h:Hd):Rd:=
 if h.e≠0 then ⟨it0,h.e,l,cnt,h.at_⟩
 else if Jj l cnt h.k≠0 then ⟨it0,Jj l cnt h.k,l,cnt,h.at_⟩
 else if h.k=5∨h.k=6 then (if h.n>512 then ⟨it0,8,l,cnt,h.at_⟩ else Vc l cnt ⟨h.k,h.n,⟨#[]⟩⟩ h.at_)
 else if h.k=3∨h.k=4 then (if h.n>1024 then ⟨it0,8,l,cnt,h.at_⟩ else if b.length-h.at_<h.n.toNat then ⟨it0,1,l,cnt,h.at_⟩
  else Vc l cnt ⟨h.k,0,Cd ((b.drop h.at_).take h.n.toNat)⟩ (h.at_+h.n.toNat))
 else Vc l cnt ⟨h.k,h.n,⟨#[]⟩⟩ h.at_
def Fq (l:List G7)(cnt:Int)(b:List Int)(at_:Nat):Rd:=UR l cnt b (Gi b at_)
theorem GW (a b:Int):0<=Fo a b∧Fo a b<=18446744073709551615:=G6 _
theorem V6:∀(l:List Int)(v:Int),0<=v->v<=18446744073709551615->0<=l.foldl Fo v∧l.foldl Fo v<=18446744073709551615
 |[],v,h0,h1=>⟨h0,h1⟩
 |x::l,v,h0,h1=>V6 l _ (GW v x).1 (GW v x).2
theorem PR {b:List Int}{at_:Nat}(hb:Kw b)(ha:at_<=b.length):(Gi b at_).at_<=b.length∧((Gi b at_).e=0->1<=(Gi b at_).k∧(Gi b at_).k<=8∧0<=(Gi b at_).n∧(Gi b at_).n<=18446744073709551615∧at_<(Gi b at_).at_):=by
 unfold Gi;by_cases hlt:at_<b.length
 rotate_left
 ·have hg:b[at_]?=none:=List.getElem?_eq_none (by omega)
  rw [hg];exact ⟨ha,fun h=>by simp at h⟩
 have hg:b[at_]?=some b[at_]:=List.getElem?_eq_getElem hlt;have hB:=hb _ (List.getElem_mem hlt);rw [hg];generalize b[at_]=x at hB;have hd:=V6 ((b.drop (at_+1)).take (szE (x % 32))) 0 (by omega) (by omega)
 show (Ve b at_ x).at_<=b.length∧_;simp only [Ve];unfold NJ
 repeat' split
 all_goals refine ⟨by simp only;omega,fun h=>?_⟩
 all_goals first
  |(simp at h;done)
  |(simp only;omega)
section
variable {fu d:Nat}
theorem Ajp {l:List G7}{cnt:Int}{b:List Int}{at_:Nat}(hfu:1000<=fu)(hb:Kw b)(hl:b.length<=1000000)(ha:at_<=b.length)(hf:l.length<=900)(h0:0<=cnt)(h1:cnt<=1000000):
  Ae C0 Tryz.prog fu (d+4) Pu [.pbox (Agi l cnt b at_)]=some ⟨[.agg (Fq l cnt b at_).x.cells,.sc (.int .i64 (Fq l cnt b at_).e)],[Agi (Fq l cnt b at_).l (Fq l cnt b at_).cnt b (Fq l cnt b at_).at_]⟩:=by
 refine (Z1 fu (d+3) l.length (Ey l) cnt b.length (Af .u8 b) (at_:Int)).trans ?_;have hd:=Akk (fu:=fu) (d:=d+1) (l:=l) (cnt:=cnt) (at_:=at_) hfu hb hl;have hk:=PR hb ha;unfold Fq;generalize Gi b at_=h at hd hk ⊢;obtain ⟨k,n,e,a⟩:=h;obtain ⟨ka,hk⟩:=hk;simp only at hd ka hk;have L:=C5 l;have t:=Di l;have ad:=VM (fu:=fu) (d:=d+1) (l:=l) (by omega) cnt k
 unfold K0 at ad;unfold UR;by_cases he:e=0
 rotate_left
 ·simp only [ne_eq,he,not_false_eq_true,if_true];have he':(e != 0)=true:=by simp [he]
  try unfold Aa
  repeat first
   |((with_reducible first|apply As|apply Ak|apply At|apply Bc|apply Bg|apply Dn|apply Aj);· first|with_reducible rfl|(simp (disch:=omega) only [hd,he',L,t]<;>with_reducible rfl))
   |((with_reducible first|apply Ap|apply Ar);· first|with_reducible rfl|omega|(simp (disch:=omega) only [gT,hd,he',L,t]<;>omega))
   |(with_reducible apply Aq;· first|with_reducible rfl|(simp (disch:=omega) only [gF,hd,he',L,t]<;>omega))
  try simp (disch:=omega) only [hd,he',L,t]
  all_goals rfl
 subst he;obtain ⟨k1,k8,n0,n1,_⟩:=hk rfl;obtain ⟨m,rfl⟩:=Int.eq_ofNat_of_zero_le n0;have e00:((0:Int) != 0)=false:=rfl;simp only [ne_eq,not_true_eq_false,if_false];by_cases hm:Jj l cnt k=0
 rotate_left
 ·simp only [hm,not_false_eq_true,if_true];have he':(Jj l cnt k != 0)=true:=by simp [hm]
  try unfold Aa
  repeat first
   |((with_reducible first|apply As|apply Ak|apply At|apply Bc|apply Bg|apply Dn|apply Aj);· first|with_reducible rfl|(simp (disch:=omega) only [hd,e00,ad,he',L,t]<;>with_reducible rfl))
   |((with_reducible first|apply Ap|apply Ar);· first|with_reducible rfl|omega|(simp (disch:=omega) only [gT,hd,e00,ad,he',L,t]<;>omega))
   |(with_reducible apply Aq;· first|with_reducible rfl|(simp (disch:=omega) only [gF,hd,e00,ad,he',L,t]<;>omega))
  try simp (disch:=omega) only [hd,e00,ad,he',L,t]
  all_goals rfl
 rw [hm] at ad ⊢;simp only [not_true_eq_false,if_false,Gu];have ac1:=PU (fu:=fu) (d:=d) (l:=l) (x:=⟨k,m,⟨#[]⟩⟩) (cnt:=cnt) hfu (by omega) h0 h1 ⟨k1,k8,n0,Nat.zero_le _⟩ (Nat.zero_le _)
 have LA:=C5 (D4 l ⟨k,m,⟨#[]⟩⟩).2;have tA:=Di (D4 l ⟨k,m,⟨#[]⟩⟩).2;have B:=fun (hn:m<=1024)=>PU (fu:=fu) (d:=d) (l:=l) (x:=⟨k,0,Cd ((b.drop a).take m)⟩) (cnt:=cnt) hfu (by omega) h0 h1 ⟨k1,k8,by simp,by rw [Ge,List.length_take];omega⟩ (by rw [Ge,List.length_take];omega)
 have LB:=C5 (D4 l ⟨k,0,Cd ((b.drop a).take m)⟩).2;have tB:=Di (D4 l ⟨k,0,Cd ((b.drop a).take m)⟩).2;unfold Vc;generalize D4 l ⟨k,m,⟨#[]⟩⟩=A at *
 obtain ⟨A1,A2⟩:=A;have eB:ByteArray.mk (List.toArray (((b.drop a).take m).map fun n=>n.toNat.toUInt8))=Cd ((b.drop a).take m):=rfl
 have bo:=Hf ((b.drop a).take m);have tk:List.take m (List.drop a (Af .u8 b))=Af .u8 ((b.drop a).take m):=by rw [Il,Pf]
 have lq:(Af .u8 ((b.drop a).take m)).length=min m (b.length-a):=by rw [Am,List.length_take,List.length_drop]
 have Lb:=Am .u8 b;generalize Cd ((b.drop a).take m)=S at *
 generalize D4 l ⟨k,0,S⟩=B' at *
 obtain ⟨B1,B2⟩:=B';generalize (b.drop a).take m=q at *
 unfold K0 It.cells at ac1 B;simp only at ac1 B LA tA LB tB;have w1:wrap .i64 ((b.length:Int)-(a:Int))=((b.length-a:Nat):Int):=by rw [Al (by omega) (by omega)];omega
 have w2:m<=1024->wrap .i64 (m:Int)=m:=fun h=>Al (by omega) (by omega)
 have w3:m<=1024->wrap .i64 ((a:Int)+(m:Int))=((a+m:Nat):Int):=fun h=>by rw [Al (by omega) (by omega)];omega
 have w4:a+m-a=m:=by omega
 try unfold Aa
 repeat' first
  |((with_reducible first|apply As|apply Ak|apply At|apply Bc|apply Bg|apply Dn|apply Aj);· first|with_reducible rfl|(simp (disch:=first|with_reducible assumption|omega) only [hd,e00,ad,L,t,ac1,LA,tA,B,LB,tB,w1,w2,w3,w4,tk,bo,lq,eB,Gu,B8,Br]<;>with_reducible rfl))
  |((with_reducible first|apply Ap|apply Ar);· first|with_reducible rfl|with_reducible assumption|omega|(simp (disch:=first|with_reducible assumption|omega) only [gT,hd,e00,ad,L,t,ac1,LA,tA,B,LB,tB,w1,w2,w3,w4,tk,bo,lq,eB,Gu,B8,Br]<;>omega))
  |(with_reducible apply Aq;· first|with_reducible rfl|with_reducible assumption|(simp (disch:=first|with_reducible assumption|omega) only [gF,hd,e00,ad,L,t,ac1,LA,tA,B,LB,tB,w1,w2,w3,w4,tk,bo,lq,eB,Gu,B8,Br]<;>omega))
  |(with_reducible refine Ajx ?_ ?_<;>intro hb<;>try simp only [decide_eq_true_eq,decide_eq_false_iff_not,beq_iff_eq,beq_eq_false_iff_ne,bne_iff_ne,bne_eq_false_iff_eq,ne_eq,Bool.not_eq_true',Bool.not_eq_false',Bool.not_eq_true,Bool.not_eq_false] at hb)
  |(with_reducible refine UD ?_ ?_)
 all_goals try simp (disch:=first|with_reducible assumption|omega) only [hd,e00,ad,L,t,ac1,LA,tA,B,LB,tB,w1,w2,w3,w4,tk,bo,lq,eB,Gu,B8,Br,Bu,A5]
 all_goals rfl
end
end
section
open Go.IntKind (wrap)
def PP (l:List G7)(cnt:Int):Bool:=decide (cnt>0)&&((l.length:Int)==0)
def Jv:Nat->List G7->Int->List Int->Nat->List It->List It × Nat × Int
 |0,_,_,_,_,_=>([],0,2)
 |m+1,l,cnt,b,at_,its=>if PP l cnt=true then (its,at_,0) else
  if (Fq l cnt b at_).e≠0 then ([],0,(Fq l cnt b at_).e) else Jv m (Fq l cnt b at_).l (Fq l cnt b at_).cnt b (Fq l cnt b at_).at_ (its++[(Fq l cnt b at_).x])
def Aa0 (r:List It × Nat × Int):List PV:=[.own 3 r.1.length (Ci r.1),.sc (.int .i64 r.2.1),.sc (.int .i64 r.2.2)]
theorem Ahy (l:List G7):(FN l).length<=l.length:=by
 unfold FN;rw [List.length_reverse];have:=(List.dropWhile_sublist (l:=l.reverse) fun f=>f.left==0).length_le
 rw [List.length_reverse] at this;exact this
theorem PD (l:List G7)(x:It):(F1 l x).length<=l.length+1:=by
 unfold F1;refine Nat.le_trans (Ahy _) ?_;have:=NC l;unfold RT
 repeat' split
 all_goals simp
 all_goals omega
theorem Abv (l:List G7)(k:List Int):(Je l k).length=l.length:=by
 rcases Mx l with rfl|⟨l',f,rfl⟩
 ·rfl
 ·rw [M9];simp
theorem ZC (l:List G7)(x:It):(D4 l x).2.length<=l.length+1:=by
 unfold D4;have h1:=PD l x;have h2:=PD (Je l (Bw x)) x;rw [Abv] at h2
 repeat' split
 all_goals simp only
 all_goals omega
structure OkX (x:It):Prop where
 k1:1<=x.k
 k8:x.k<=8
 n0:0<=x.n
 n1:x.n<=18446744073709551615
 s1:x.s.size<=1024
theorem Aib {l:List G7}{cnt k:Int}(h:Jj l cnt k=0):cnt<512∧l.length<=8:=by
 unfold Jj at h
 repeat' split at h
 all_goals first
  |(cases h;done)
  |omega
theorem KW {l:List G7}{cnt:Int}{x:It}{at_:Nat}(hx:OkX x)(h:(Vc l cnt x at_).e=0):(Vc l cnt x at_).cnt=cnt+1∧(Vc l cnt x at_).l.length<=l.length+1∧(Vc l cnt x at_).at_=at_∧OkX (Vc l cnt x at_).x:=by
 have:=ZC l x;unfold Vc at h ⊢;by_cases hz:(D4 l x).1=0
 ·rw [Bu hz];exact ⟨rfl,this,rfl,hx⟩
 ·rw [A5 hz] at h;exact absurd h hz
theorem RK {l:List G7}{cnt:Int}{b:List Int}{at_:Nat}(hb:Kw b)(ha:at_<=b.length)(h:(Fq l cnt b at_).e=0):
  cnt<512∧(Fq l cnt b at_).cnt=cnt+1∧(Fq l cnt b at_).l.length<=9∧at_<(Fq l cnt b at_).at_∧(Fq l cnt b at_).at_<=b.length∧OkX (Fq l cnt b at_).x:=by
 have hk:=PR hb ha;unfold Fq at h ⊢;generalize Gi b at_=q at h hk ⊢;obtain ⟨k,n,e,a⟩:=q;obtain ⟨ka,hk⟩:=hk;unfold UR at h ⊢;simp only at h hk ka ⊢;by_cases he:e=0
 rotate_left
 ·rw [Bu he] at h;exact absurd h he
 subst he;obtain ⟨k1,k8,n0,n1,hlt⟩:=hk rfl;rw [A5 (by simp)] at h ⊢
 by_cases hm:Jj l cnt k=0
 rotate_left
 ·rw [Bu hm] at h;exact absurd h hm
 obtain ⟨c1,c2⟩:=Aib hm;rw [A5 (by simp [hm])] at h ⊢
 have z:(ByteArray.mk #[]).size<=1024:=Nat.zero_le _;by_cases h56:k=5∨k=6
 ·rw [Bu h56] at h ⊢;by_cases hn:n>512
  ·rw [Bu hn] at h;exact absurd h (by simp)
  ·rw [A5 hn] at h ⊢;obtain ⟨p1,p2,p3,p4⟩:=KW ⟨k1,k8,n0,n1,z⟩ h;exact ⟨c1,p1,by omega,by omega,by omega,p4⟩
 ·rw [A5 h56] at h ⊢;by_cases h34:k=3∨k=4
  ·rw [Bu h34] at h ⊢;by_cases hn:n>1024
   ·rw [Bu hn] at h;exact absurd h (by simp)
   ·rw [A5 hn] at h ⊢;by_cases hr:b.length-a<n.toNat
    ·rw [Bu hr] at h;exact absurd h (by simp)
    ·rw [A5 hr] at h ⊢;obtain ⟨p1,p2,p3,p4⟩:=KW ⟨k1,k8,by simp,by simp,by rw [Ge,List.length_take];omega⟩ h
     exact ⟨c1,p1,by omega,by omega,by omega,p4⟩
  ·rw [A5 h34] at h ⊢;obtain ⟨p1,p2,p3,p4⟩:=KW ⟨k1,k8,n0,n1,z⟩ h;exact ⟨c1,p1,by omega,by omega,by omega,p4⟩
theorem DM {b:List Int}(hb:Kw b):∀(m:Nat)(l:List G7)(cnt:Int)(at_:Nat)(its:List It),at_<=b.length->(∀x∈its,OkX x)->(Jv m l cnt b at_ its).2.1<=b.length∧∀x∈(Jv m l cnt b at_ its).1,OkX x
 |0,l,cnt,at_,its,h,hi=>⟨by simp [Jv],by intro x hx;simp [Jv] at hx⟩
 |m+1,l,cnt,at_,its,h,hi=>by
  unfold Jv;by_cases hd:PP l cnt=true
  ·rw [Bu hd];exact ⟨h,hi⟩
  ·rw [A5 hd];by_cases he:(Fq l cnt b at_).e=0
   ·rw [A5 (by simp [he])]
    obtain ⟨_,_,_,_,p,q⟩:=RK hb h he;refine DM hb m _ _ _ _ p ?_;intro x hx;rcases List.mem_append.1 hx with hx|hx
    ·exact hi x hx
    ·simp at hx;subst hx;exact q
   ·rw [Bu he];exact ⟨by simp,by intro x hx;simp at hx⟩
section
variable {fu d:Nat}
theorem WD (hfu:1000<=fu){a0n:Nat}{a0:List PV}{b:List Int}(hb:Kw b)(hl:b.length<=1000000):∀(nn:Nat)(l:List G7)(cnt:Int)(at_:Nat)(its:List It),0<=cnt->cnt<=512->512-cnt<nn->l.length<=9->at_<=b.length->its.length=cnt.toNat ->
  Kk fu (Ae C0 Tryz.prog fu (d+4)) a0n a0 nn its.length (Ci its) l.length cnt b.length (Af .u8 b) (at_:Int) (Ey l)=some ⟨Aa0 (Jv nn l cnt b at_ its),[]⟩
 |0,_,_,_,_,_,_,h,_,_,_=>by omega
 |nn+1,l,cnt,at_,its,h0,h1,hn,hf,ha,hi=>by
  have dn:=TB (fu:=fu) (d:=d+3) l cnt;have ri:=Ajp (fu:=fu) (d:=d) (l:=l) (cnt:=cnt) (b:=b) (at_:=at_) hfu hb hl ha (by omega) h0 (by omega)
  have ok:=RK (l:=l) (cnt:=cnt) hb ha;have L:=C5 l;have t:=Di l;have LT:=Tc its;have tT:List.take (its.length*3) (Ci its)=Ci its:=Tp (by omega)
  have ih:=WD hfu (a0n:=a0n) (a0:=a0) hb hl nn;rw [EX];unfold Jv;unfold K0 at dn;change _=some (A0.mk [.sc (.bool (PP l cnt))] _) at dn;generalize Fq l cnt b at_=r at ri ok ⊢;obtain ⟨x,e,l2,cnt2,at2⟩:=r;simp only at ri ok ⊢;cases hd:PP l cnt
  ·rw [hd] at dn;rw [A5 (by simp)]
   by_cases he:e=0
   ·subst he;obtain ⟨p1,rfl,p3,p4,p5,p6⟩:=ok rfl;have q:=ih l2 (cnt+1) at2 (its++[x]) (by omega) (by omega) (by omega) p3 p5 (by simp;omega)
    rw [A5 (by simp),←q,XN,Kh]
    have e1:Ci [x]=x.cells:=by simp [Ci]
    rw [e1];obtain ⟨xk,xn,xs⟩:=x;unfold It.cells at ri ⊢;have e00:((0:Int) != 0)=false:=rfl
    try unfold Aa
    repeat first
     |((with_reducible first|apply As|apply Ak|apply At|apply Ao|apply Aw|apply Bc|apply Bg|apply Bv|apply Aj);· first|with_reducible rfl|(simp (disch:=omega) only [dn,ri,e00,L,t,LT,tT]<;>with_reducible rfl))
     |((with_reducible first|apply Ap|apply Ar);· first|with_reducible rfl|omega|(simp (disch:=omega) only [gT,dn,ri,e00,L,t,LT,tT]<;>omega))
     |(with_reducible apply Aq;· first|with_reducible rfl|(simp (disch:=omega) only [gF,dn,ri,e00,L,t,LT,tT]<;>omega))
    try simp (disch:=omega) only [dn,ri,e00,L,t,LT,tT]
    all_goals rfl
   ·have he':(e != 0)=true:=by simp [he]
    rw [Bu he];obtain ⟨xk,xn,xs⟩:=x;unfold It.cells at ri
    try unfold Aa
    repeat first
     |((with_reducible first|apply As|apply Ak|apply At|apply Ao|apply Aw|apply Bc|apply Bg|apply Bv|apply Aj);· first|with_reducible rfl|(simp (disch:=omega) only [dn,ri,he',L,t,LT,tT]<;>with_reducible rfl))
     |((with_reducible first|apply Ap|apply Ar);· first|with_reducible rfl|omega|(simp (disch:=omega) only [gT,dn,ri,he',L,t,LT,tT]<;>omega))
     |(with_reducible apply Aq;· first|with_reducible rfl|(simp (disch:=omega) only [gF,dn,ri,he',L,t,LT,tT]<;>omega))
    try simp (disch:=omega) only [dn,ri,he',L,t,LT,tT]
    all_goals rfl
  ·rw [hd] at dn;rw [Bu rfl]
   try unfold Aa
   repeat first
    |((with_reducible first|apply As|apply Ak|apply At|apply Ao|apply Aw|apply Bc|apply Bg|apply Bv|apply Aj);· first|with_reducible rfl|(simp (disch:=omega) only [dn,L,t,LT,tT]<;>with_reducible rfl))
    |((with_reducible first|apply Ap|apply Ar);· first|with_reducible rfl|omega|(simp (disch:=omega) only [gT,dn,L,t,LT,tT]<;>omega))
    |(with_reducible apply Aq;· first|with_reducible rfl|(simp (disch:=omega) only [gF,dn,L,t,LT,tT]<;>omega))
   try simp (disch:=omega) only [dn,L,t,LT,tT]
   all_goals rfl
theorem Afk (hfu:1000<=fu){b:List Int}(hb:Kw b)(hl:b.length<=1000000):
  Ae C0 Tryz.prog fu (d+5) Zg [.lst false 1 b.length (Af .u8 b)]=some ⟨Aa0 (Jv fu [] 0 b 0 []),[]⟩:=by
 rw [NY];exact WD hfu hb hl fu [] 0 0 [] (by omega) (by omega) (by omega) (by simp) (by omega) (by simp)
end
end
section
open Go.IntKind (wrap)
theorem Aks {n:Int}(h0:0<=n):(n<256->NJ (tb n 1)=n)∧(n<65536->NJ (tb n 2)=n)∧(n<4294967296->NJ (tb n 4)=n)∧(n<=18446744073709551615->NJ (tb n 8)=n):=by
 have st:∀(k:Nat) (D:Int),n<=18446744073709551615->k<8->(2:Int) ^ (56-8*k)=D->0<D->Fo (n / D / 256) (Da n k)=n / D:=by
  intro k D h1 hk hD hp;rw [PF k hk,hD];exact Ani (Int.ediv_nonneg h0 (Int.le_of_lt hp)) (Int.le_trans (Int.ediv_le_self _ h0) h1)
 refine ⟨fun h=>?_,fun h=>?_,fun h=>?_,fun h=>PK h0 h⟩
 ·have s7:=st 7 1 (by omega) (by omega) (by decide) (by omega)
  rw [show n / 1 / 256=0 by omega,show n / 1=n by omega] at s7
  exact s7
 ·have s6:=st 6 256 (by omega) (by omega) (by decide) (by omega)
  have s7:=st 7 1 (by omega) (by omega) (by decide) (by omega)
  rw [show n / 256 / 256=0 by omega] at s6
  rw [show n / 1 / 256=n / 256 by omega,show n / 1=n by omega] at s7
  show Fo (Fo 0 (Da n 6)) (Da n 7)=n;rw [s6,s7]
 ·have s4:=st 4 16777216 (by omega) (by omega) (by decide) (by omega)
  have s5:=st 5 65536 (by omega) (by omega) (by decide) (by omega)
  have s6:=st 6 256 (by omega) (by omega) (by decide) (by omega)
  have s7:=st 7 1 (by omega) (by omega) (by decide) (by omega)
  rw [show n / 16777216 / 256=0 by omega] at s4
  rw [show n / 65536 / 256=n / 16777216 by omega] at s5
  rw [show n / 256 / 256=n / 65536 by omega] at s6
  rw [show n / 1 / 256=n / 256 by omega,show n / 1=n by omega] at s7
  show Fo (Fo (Fo (Fo 0 (Da n 4)) (Da n 5)) (Da n 6)) (Da n 7)=n;rw [s4,s5,s6,s7]
theorem Xs {b:List Int}{at_:Nat}{mj n low:Int}{k:Nat}{rest:List Int}(m0:0<=mj)(m5:mj<=5)(l0:24<=low)(l1:low<=27)(hk:szE low=k)(h:b.drop (at_+1)=tb n k++rest) (hd:NJ (tb n k)=n) (hs:¬(Qa n<(k:Int))):
  Ve b at_ (32*mj+low)=⟨1+mj,n,0,at_+1+k⟩:=by
 have e1:(32*mj+low) / 32=mj:=by omega
 have e2:(32*mj+low) % 32=low:=by omega
 have e3:(b.drop (at_+1)).take k=tb n k:=by rw [h,List.take_left' (Zm n k)]
 have e4:k<=b.length-(at_+1):=by
  have:=congrArg List.length h;rw [List.length_drop,Kh,Zm] at this;omega
 unfold Ve;rw [e1,e2,hk,e3,hd,A5 (by omega),A5 (by omega),A5 (by omega),A5 (by omega),A5 (by omega),A5 (by omega),A5 (by omega),A5 hs]
theorem AO {b:List Int}{at_:Nat}{mj n:Int}{rest:List Int}(h:b.drop at_=C3 mj n++rest)(m0:0<=mj)(m5:mj<=5)(n0:0<=n)(n1:n<=18446744073709551615):
  Gi b at_=⟨1+mj,n,0,at_+(C3 mj n).length⟩:=by
 obtain ⟨d1,d2,d4,d8⟩:=Aks n0;unfold Gi;unfold C3 at h ⊢;by_cases c1:n<24
 ·rw [Bu c1] at h ⊢;obtain ⟨_,g,_⟩:=B3 h;rw [g];show Ve b at_ (32*mj+n)=_;unfold Ve;have e1:(32*mj+n) / 32=mj:=by omega
  have e2:(32*mj+n) % 32=n:=by omega
  rw [e1,e2,A5 (by omega),A5 (by omega),A5 (by omega),A5 (by omega),A5 (by omega),Bu c1]
  rfl
 rw [A5 c1] at h ⊢;by_cases c2:n<256
 ·rw [Bu c2] at h ⊢;obtain ⟨_,g,g2⟩:=B3 h;rw [g];have:=Xs (at_:=at_) m0 m5 (low:=24) (by omega) (by omega) (k:=1) (by decide) g2 (d1 c2) (by unfold Qa;rw [A5 c1,Bu c2];omega)
  show Ve b at_ (32*mj+24)=_;rw [this,Jd,Zm]
 rw [A5 c2] at h ⊢;by_cases c3:n<65536
 ·rw [Bu c3] at h ⊢;obtain ⟨_,g,g2⟩:=B3 h;rw [g];have:=Xs (at_:=at_) m0 m5 (low:=25) (by omega) (by omega) (k:=2) (by decide) g2 (d2 c3) (by unfold Qa;rw [A5 c1,A5 c2,Bu c3];omega)
  show Ve b at_ (32*mj+25)=_;rw [this,Jd,Zm]
 rw [A5 c3] at h ⊢;by_cases c4:n<4294967296
 ·rw [Bu c4] at h ⊢;obtain ⟨_,g,g2⟩:=B3 h;rw [g];have:=Xs (at_:=at_) m0 m5 (low:=26) (by omega) (by omega) (k:=4) (by decide) g2 (d4 c4) (by unfold Qa;rw [A5 c1,A5 c2,A5 c3,Bu c4];omega)
  show Ve b at_ (32*mj+26)=_;rw [this,Jd,Zm]
 ·rw [A5 c4] at h ⊢;obtain ⟨_,g,g2⟩:=B3 h;rw [g];have:=Xs (at_:=at_) m0 m5 (low:=27) (by omega) (by omega) (k:=8) (by decide) g2 (d8 n1) (by unfold Qa;rw [A5 c1,A5 c2,A5 c3,A5 c4];omega)
  show Ve b at_ (32*mj+27)=_;rw [this,Jd,Zm]
theorem SL {s:ByteArray}(h:UC s=true):s=⟨#[]⟩:=by
 unfold UC at h;have:=eq_of_beq h;apply ByteArray.ext;exact Array.toList_inj.1 this
def nOf (x:It):Int:=if x.k=3∨x.k=4 then (x.s.size:Int) else x.n
theorem Aaq {x:It}{b:List Int}{at_:Nat}{rest:List Int}(hsh:Gw x=true)(k1:1<=x.k)(k8:x.k<=8)(n0:0<=x.n)(n1:x.n<=18446744073709551615)(hs:x.s.size<=1024)(h:b.drop at_=Bw x++rest):
  Gi b at_=⟨x.k,nOf x,0,at_+((Bw x).length-x.s.size)⟩∧(x.k=3∨x.k=4->x.n=0∧b.drop (at_+((Bw x).length-x.s.size))=I1 x.s++rest)∧(¬(x.k=3∨x.k=4)->x.s=⟨#[]⟩)∧x.s.size<=(Bw x).length:=by
 obtain ⟨k,n,s⟩:=x;have z:(ByteArray.mk #[]).size=0:=rfl;simp only at k1 k8 n0 n1 hs ⊢;unfold Gw at hsh;simp only at hsh;have L:=Qi s;have E7:k=7->Bw ⟨k,n,s⟩=[wrap .u8 (244+wrap .u8 n)]:=fun e=>by unfold Bw;rw [Bu e]
 have E8:k=8->Bw ⟨k,n,s⟩=[246]:=fun e=>by subst e;rfl
 have E3:k=3->Bw ⟨k,n,s⟩=C3 2 s.size++I1 s:=fun e=>by subst e;rfl
 have E4:k=4->Bw ⟨k,n,s⟩=C3 3 s.size++I1 s:=fun e=>by subst e;rfl
 have E0:k≠7->k≠8->k≠3->k≠4->Bw ⟨k,n,s⟩=C3 (k-1) n:=fun a b c d=>by unfold Bw;rw [A5 a,A5 b,A5 c,A5 d]
 have N34:k=3∨k=4->nOf ⟨k,n,s⟩=s.size:=fun e=>by unfold nOf;rw [Bu e]
 have N0:¬(k=3∨k=4)->nOf ⟨k,n,s⟩=n:=fun e=>by unfold nOf;rw [A5 e]
 by_cases c7:k=7
 ·subst c7;simp at hsh;obtain ⟨hn,hs⟩:=hsh;obtain rfl:=SL hs;rw [E7 rfl] at h ⊢;rw [N0 (by omega)]
  obtain ⟨_,g,_⟩:=B3 h;refine ⟨?_,fun h=>by omega,fun _=>rfl,Nat.zero_le _⟩
  have:n=0∨n=1:=by omega
  unfold Gi;rw [g];rcases this with rfl|rfl
  ·rfl
  ·rfl
 by_cases c8:k=8
 ·subst c8;simp at hsh;obtain ⟨rfl,hs⟩:=hsh;obtain rfl:=SL hs;rw [E8 rfl] at h ⊢;rw [N0 (by omega)]
  obtain ⟨_,g,_⟩:=B3 h;refine ⟨?_,fun h=>by omega,fun _=>rfl,Nat.zero_le _⟩
  unfold Gi;rw [g];rfl
 by_cases c3:k=3
 ·subst c3;simp at hsh;subst hsh;rw [E3 rfl] at h ⊢;rw [N34 (by omega)]
  rw [ZK] at h;have q:=AO h (by omega) (by omega) (by omega) (by omega)
  have e:(C3 2 (s.size:Int)++I1 s).length-s.size=(C3 2 (s.size:Int)).length:=by rw [Kh,L];omega
  rw [e];refine ⟨q,fun _=>⟨rfl,?_⟩,fun h=>by omega,by rw [Kh,L];omega⟩
  rw [←List.drop_drop,h,List.drop_left' rfl]
 by_cases c4:k=4
 ·subst c4;simp at hsh;subst hsh;rw [E4 rfl] at h ⊢;rw [N34 (by omega)]
  rw [ZK] at h;have q:=AO h (by omega) (by omega) (by omega) (by omega)
  have e:(C3 3 (s.size:Int)++I1 s).length-s.size=(C3 3 (s.size:Int)).length:=by rw [Kh,L];omega
  rw [e];refine ⟨q,fun _=>⟨rfl,?_⟩,fun h=>by omega,by rw [Kh,L];omega⟩
  rw [←List.drop_drop,h,List.drop_left' rfl]
 rw [A5 c3,A5 c4,A5 c8,A5 c7] at hsh;obtain rfl:=SL hsh;rw [E0 c7 c8 c3 c4] at h ⊢;rw [N0 (by omega)]
 have q:=AO h (by omega) (by omega) n0 n1
 refine ⟨?_,fun h=>by omega,fun _=>rfl,by rw [z];omega⟩
 rw [q,z,Nat.sub_zero]
 congr 1
 omega
theorem Abt {l:List G7}{cnt:Int}{x:It}{b:List Int}{at_:Nat}{rest:List Int}(g:Am2 l cnt x)(n0:0<=x.n)(n1:x.n<=18446744073709551615)(h:b.drop at_=Bw x++rest):
  Fq l cnt b at_=⟨x,0,F1 l x,cnt+1,at_+(Bw x).length⟩:=by
 have k18:1<=x.k∧x.k<=8:=by
  have hm:=g.hm;unfold Jj at hm
  repeat' split at hm
  all_goals first
   |(cases hm;done)
   |omega
 obtain ⟨q1,q2,q3,q4⟩:=Aaq g.hsh k18.1 k18.2 n0 n1 g.hs h
 have ac:∀a:Nat,Vc l cnt x a=⟨x,0,F1 l x,cnt+1,a⟩:=by
  intro a
  have:D4 l x=(0,F1 l x):=by
   unfold D4;rw [A5,A5 (by simp [g.ha])]
   intro hh;have:=g.hv hh.1;exact absurd hh.2 (by simp [XX,this])
  unfold Vc;rw [this];rfl
 have ln:b.length-(at_+((Bw x).length-x.s.size))>=x.s.size:=by
  have:=congrArg List.length h;rw [List.length_drop,Kh] at this;omega
 unfold Fq;rw [q1];unfold UR;simp only;rw [A5 (by simp),g.hm,A5 (by simp)]
 have hs:=g.hs;have hn:=g.hn;obtain ⟨k,n,s⟩:=x;simp only at *
 by_cases c34:k=3∨k=4
 ·obtain ⟨rfl,q2⟩:=q2 c34;have N:nOf ⟨k,0,s⟩=s.size:=by unfold nOf;rw [Bu c34]
  rw [N,A5 (by omega),Bu c34,A5 (by omega),Gu,A5 (by omega),q2,List.take_left' (Qi s),BF,ac]
  congr 1
  omega
 ·obtain rfl:=q3 c34;have z:(ByteArray.mk #[]).size=0:=rfl;have N:nOf ⟨k,n,⟨#[]⟩⟩=n:=by unfold nOf;rw [A5 c34]
  rw [N,A5 c34,z,Nat.sub_zero];by_cases c56:k=5∨k=6
  ·rw [Bu c56,A5 (by omega),ac]
  ·rw [A5 c56,ac]
theorem PC {b:List Int}{rest:List Int}:∀(its:List It)(l:List G7)(cnt:Int)(at_ m:Nat)(acc:List It),Qc l cnt its->(∀x∈its,0<=x.n∧x.n<=18446744073709551615)->b.drop at_=Bf its++rest->its.length<m ->
  Jv m l cnt b at_ acc=(acc++its,at_+(Bf its).length,0)
 |[],l,cnt,at_,m,acc,hg,hn,h,hm=>by
  obtain ⟨rfl,hc⟩:=hg;obtain ⟨m,rfl⟩:∃k,m=k+1:=⟨m-1,by omega⟩
  unfold Jv;rw [Bu (by simp [PP,hc])]
  simp [Bf]
 |x::its,l,cnt,at_,m,acc,hg,hn,h,hm=>by
  obtain ⟨g,hg⟩:=hg;obtain ⟨m,rfl⟩:∃k,m=k+1:=⟨m-1,by simp at hm;omega⟩
  have e:Bf (x::its)=Bw x++Bf its:=by simp [Bf]
  rw [e,ZK] at h;have r:=Abt g (hn x (by simp)).1 (hn x (by simp)).2 h
  have h':b.drop (at_+(Bw x).length)=Bf its++rest:=by rw [←List.drop_drop,h,List.drop_left' rfl]
  have ih:=PC its (F1 l x) (cnt+1) (at_+(Bw x).length) m (acc++[x]) hg (fun y hy=>hn y (List.mem_cons_of_mem _ hy)) h' (by simp at hm;omega)
  unfold Jv;have hd:PP l cnt=false:=g.hd;rw [A5 (by simp [hd]),r]
  simp only;rw [A5 (by simp),ih,e]
  simp;omega
end
section
open Go.IntKind (wrap)
abbrev isU (x:Int):Prop:=0<=x∧x<=18446744073709551615
abbrev isW (l:List Int):Prop:=∀x∈l,isU x
theorem WM (l:List Int)(i:Nat):isU (R1 l i):=V6 _ 0 (by omega) (by omega)
theorem YT (l:List Int):isW (Fv l):=by
 intro x hx;obtain ⟨k,_,rfl⟩:=List.mem_map.1 hx;exact WM l k
theorem Ug:∀{ws:List Int}{i:Nat}{w:Int},isW ws->ws[i]?=some w->R1 (A6 ws) i=w
 |[],i,w,_,h=>by simp at h
 |a::ws,0,w,hw,h=>by
  simp at h;subst h;have e:A6 (a::ws)=D3 a++A6 ws:=rfl;unfold R1;rw [Nat.mul_zero,E6,e,List.take_left' (E9 a)];have:=hw a (by simp)
  exact PK this.1 this.2
 |a::ws,i+1,w,hw,h=>by
  simp at h;have ih:=Ug (ws:=ws) (fun x hx=>hw x (List.mem_cons_of_mem _ hx)) h
  have e:A6 (a::ws)=D3 a++A6 ws:=rfl;unfold R1 at ih ⊢;rw [show 8*(i+1)=(D3 a).length+8*i by rw [E9];omega,e,←List.drop_drop,List.drop_left' rfl]
  exact ih
theorem CU {ws:List Int}(hw:isW ws):Fv (A6 ws)=ws:=by
 have hl:(A6 ws).length / 8=ws.length:=by rw [Dm];omega
 apply List.ext_getElem?;intro i;unfold Fv;rw [hl];by_cases h:i<ws.length
 ·rw [List.getElem?_map,List.getElem?_range h,List.getElem?_eq_getElem h];simp only [Option.map_some];rw [Ug hw (List.getElem?_eq_getElem h)]
 ·rw [List.getElem?_eq_none (by simp;omega),List.getElem?_eq_none (by omega)]
theorem Ad9 {k:Ky}(hh:Dh k.h=false)(hr:isU k.root):NB (Jn k)=some k:=by
 obtain ⟨h,r⟩:=k;have hb:=H2 hh;simp only at hb hr hh;have w:wrap .u8 h=h:=F2 (by omega) (by omega)
 have w1:A6 [r]=D3 r:=by simp [A6]
 have:=Ug (ws:=[r]) (i:=0) (w:=r) (by intro x hx;simp at hx;subst hx;exact hr) rfl
 rw [w1] at this;unfold NB Jn;simp only [w,List.getD_cons_zero,List.drop_succ_cons,E6,this,Jd,E9,hh,and_self,if_true]
theorem Asp {k:Ky}:Kw (Jn k):=by
 intro x hx;rcases List.mem_cons.1 hx with rfl|hx
 ·have:∀v:Int,0<=wrap .u8 v∧wrap .u8 v<=255:=by
   intro v;simp only [wrap,IntKind.signed,IntKind.bits];simp;omega
  exact this _
 ·exact Adm _ x hx
theorem UA {l:List Int}{k:Ky}(h:NB l=some k):Dh k.h=false∧isU k.root:=by
 unfold NB at h;split at h
 ·rename_i hh;cases h;exact ⟨hh.2,WM _ _⟩
 ·cases h
structure Sg.ok (s:Sg):Prop where
 ch:isW s.chains
 pa:isW s.path
theorem Atr (s:Sg):Kw (FG s):=by
 have w8:∀v:Int,0<=wrap .u8 v∧wrap .u8 v<=255:=by
  intro v;simp only [wrap,IntKind.signed,IntKind.bits];simp;omega
 intro x hx;unfold FG at hx;rcases List.mem_cons.1 hx with rfl|hx
 ·exact w8 _
 rcases List.mem_cons.1 hx with rfl|hx
 ·exact w8 _
 rcases List.mem_append.1 hx with hx|hx
 ·exact Td _ x hx
 ·exact Td _ x hx
theorem Aln {s:Sg}(hs:s.ok)(h1:Dh s.path.length=false)(h2:Ip s.leaf s.path.length=false)(h3:s.chains.length=18):sgD (FG s)=some s:=by
 obtain ⟨leaf,ch,pa⟩:=s;obtain ⟨hc,hp⟩:=hs;simp only at h1 h2 h3 hc hp;have hb:=H2 h1;have ho:=Aax hb.1 hb.2 h2;have h16:=Aqt hb.1 hb.2;have w1:wrap .u8 leaf=leaf:=F2 (by omega) (by omega)
 have w2:wrap .u8 (pa.length:Int)=pa.length:=F2 (by omega) (by omega)
 have lc:(A6 ch).length=144:=by rw [Dm];omega
 have lp:(A6 pa).length=8*pa.length:=Dm pa
 have len:(FG ⟨leaf,ch,pa⟩).length=2+144+8*pa.length:=by
  unfold FG;simp only [Jd,Kh,lc,lp];omega
 have g0:(FG ⟨leaf,ch,pa⟩).getD 0 0=leaf:=w1;have g1:(FG ⟨leaf,ch,pa⟩).getD 1 0=pa.length:=w2;have d2:(FG ⟨leaf,ch,pa⟩).drop 2=A6 ch++A6 pa:=rfl
 have d146:(FG ⟨leaf,ch,pa⟩).drop 146=A6 pa:=by
  rw [show 146=2+144 from rfl,←List.drop_drop,d2,List.drop_left' lc]
 unfold sgD;rw [Bu ⟨by omega,by rw [g1];exact h1,by rw [g0,g1];exact h2,by rw [g1,len];omega⟩,g0,d2,d146,List.take_left' lc,CU hc,CU hp]
theorem Abo {l:List Int}{s:Sg}(h:sgD l=some s):s.ok∧s.path.length<=4∧s.chains.length=18:=by
 unfold sgD at h;split at h
 ·rename_i hh;cases h;have hb:=H2 hh.2.1;refine ⟨⟨YT _,YT _⟩,?_,?_⟩
  ·simp only [Qh,List.length_drop];omega
  ·simp only [Qh,List.length_take,List.length_drop];omega
 ·cases h
end
section
open Go.IntKind (wrap)
set_option maxRecDepth 100000
abbrev Qo:FuncId:=35
noncomputable def Fj (fu:Nat)(call:Ah)(a0_0 a0_1:ByteArray)(a0_2 a0_3:Int)(a0_4 a0_5 a0_6:Int)(a0_7:Bool)(a0_8 a0_9 a0_10:Int)(a0_11n:Nat)(a0_11:List PV)(a0_12n:Nat)(a0_12:List PV)(nn:Nat)(y0 y1:ByteArray)(y2:Int)(y3 y4:ByteArray)(y5 y6:Int)(y7 y8 y9:Int)(y10:Bool)(Gk Hx Ja:Int)(Kp:Nat)(Lq:List PV)(Ob:Nat)(Ol:List PV):Option A0:=Co CB Tryz.prog fu call 35 Tryz.f35 (Bm Tryz.f35) [.agg [.sc (.string a0_0),.sc (.string a0_1),.sc (.int .u64 a0_2),.sc (.int .i64 a0_3),.sc (.int .u64 a0_4),.sc (.int .i64 a0_5),.sc (.int .i64 a0_6),.sc (.bool a0_7),.sc (.int .i64 a0_8),.sc (.int .u64 a0_9),.sc (.int .i64 a0_10),.lst false 1 a0_11n a0_11,.lst false 1 a0_12n a0_12]] [.r,.l,.r,.l] nn ⟨lk [(1,(.ptr 1 0)),(13,(.agg [(.sc (.string y0)),(.sc (.string y1))])),(14,(.sc (.int .i64 y2)))],B7 [(1,(.st [(.sc (.string y3)),(.sc (.string y4)),(.sc (.int .u64 y5)),(.sc (.int .i64 y6)),(.sc (.int .u64 y7)),(.sc (.int .i64 y8)),(.sc (.int .i64 y9)),(.sc (.bool y10)),(.sc (.int .i64 Gk)),(.sc (.int .u64 Hx)),(.sc (.int .i64 Ja)),(.lst false 1 Kp Lq),(.lst false 1 Ob Ol)]))]⟩
theorem Ek (fu:Nat)(call:Ah)(a0_0 a0_1:ByteArray)(a0_2 a0_3:Int)(a0_4 a0_5 a0_6:Int)(a0_7:Bool)(a0_8 a0_9 a0_10:Int)(a0_11n:Nat)(a0_11:List PV)(a0_12n:Nat)(a0_12:List PV)(nn:Nat)(y0 y1:ByteArray)(y2:Int)(y3 y4:ByteArray)(y5 y6:Int)(y7 y8 y9:Int)(y10:Bool)(Gk Hx Ja:Int)(Kp:Nat)(Lq:List PV)(Ob:Nat)(Ol:List PV):Fj fu call a0_0 a0_1 a0_2 a0_3 a0_4 a0_5 a0_6 a0_7 a0_8 a0_9 a0_10 a0_11n a0_11 a0_12n a0_12 (nn+1) y0 y1 y2 y3 y4 y5 y6 y7 y8 y9 y10 Gk Hx Ja Kp Lq Ob Ol=(A9 (decide (y2<2)) (Au (decide (0<=y2)&&decide (y2<2)&&true)<|Cj (List.getD [.sc (.string y0),.sc (.string y1)] (Int.toNat y2*1) .top) fun x1=>A9 (decide ((↑(ByteArray.size x1):Int)<1)) (some (A0.mk [.own 1 0 [],.sc (.int .i64 9)] [])) (A9 (decide ((↑(ByteArray.size x1):Int)>32)) (some (A0.mk [.own 1 0 [],.sc (.int .i64 9)] [])) (Aa (wrap .i64 (y2+1)) fun x2=>Fj fu call a0_0 a0_1 a0_2 a0_3 a0_4 a0_5 a0_6 a0_7 a0_8 a0_9 a0_10 a0_11n a0_11 a0_12n a0_12 (nn) (y0) (y1) x2 (y3) (y4) (y5) (y6) (y7) (y8) (y9) (y10) (Gk) (Hx) (Ja) (Kp) (Lq) (Ob) (Ol)))) (Ag (call 56 [.sc (.string y3)]) fun x3 x4=>Ac x4<|Ab x3 fun x5 x6=>Bj x5 fun x7=>Ac x6<|A9 (!x7) (some (A0.mk [.own 1 0 [],.sc (.int .i64 6)] [])) (Ag (call 56 [.sc (.string y4)]) fun x8 x9=>Ac x9<|Ab x8 fun Cl Cw=>Bj Cl fun Dl=>Ac Cw<|A9 (!Dl) (some (A0.mk [.own 1 0 [],.sc (.int .i64 6)] [])) (Ag (call 66 [.agg [.sc (.int .i64 y6),.sc (.int .u64 y7)]]) fun Ds Dk=>Ac Dk<|Ab Ds fun D9 Ea=>Es 1 D9 fun En E1=>Ab Ea fun Fg Fp=>Ad .i64 Fg fun Ho=>Ac Fp<|A9 (Ho != 0) (some (A0.mk [.own 1 0 [],.sc (.int .i64 Ho)] [])) (A9 (decide (y8<0)) (some (A0.mk [.own 1 0 [],.sc (.int .i64 9)] [])) (A9 (decide (y8>y9)) (some (A0.mk [.own 1 0 [],.sc (.int .i64 9)] [])) (A9 (decide (y9>1099511627776)) (some (A0.mk [.own 1 0 [],.sc (.int .i64 9)] [])) (A9 (decide (Gk<0)) (some (A0.mk [.own 1 0 [],.sc (.int .i64 9)] [])) (A9 (decide (Gk>2)) (some (A0.mk [.own 1 0 [],.sc (.int .i64 9)] [])) (A9 (Gk != 0) (A9 (!y10) (some (A0.mk [.own 1 0 [],.sc (.int .i64 4)] [])) (Ag (call 68 [.sc (.string y3)]) fun Hb Hr=>Ac Hr<|Ab Hb fun Dz Dq=>Es 3 Dz fun F5 H3=>Ac Dq<|Ag (call 68 [.sc (.string y4)]) fun E2 Jg=>Ac Jg<|Ab E2 fun L6 J3=>Es 3 L6 fun Mp Mg=>Ac J3<|Ag (call 69 [.sc (.int .u64 y5)]) fun Nm Pt=>Ac Pt<|Ab Nm fun P7 R4=>Es 3 P7 fun Hi J8=>Ac R4<|Au (decide (0+En*1<=E1.length))<|Ag (call 70 [.lst false 1 En (List.take (En*1) (List.drop 0 E1))]) fun Uy Y8=>Ac Y8<|Ab Uy fun Ph Nw=>Es 3 Ph fun Uo Sb=>Ac Nw<|Aa (wrap .u64 y8) fun To=>Ag (call 69 [.sc (.int .u64 To)]) fun Xt Yh=>Ac Yh<|Ab Xt fun Sd We=>Es 3 Sd fun Yk Xe=>Ac We<|Aa (wrap .u64 y9) fun O3=>Ag (call 69 [.sc (.int .u64 O3)]) fun Yl DK=>Ac DK<|Ab Yl fun BC Y3=>Es 3 BC fun U7 X7=>Ac Y3<|Ag (call 71 [.sc (.bool y10)]) fun BA Zd=>Ac Zd<|Ab BA fun Y6 BB=>Es 3 Y6 fun Y1 Za=>Ac BB<|Aa (wrap .u64 Gk) fun Xv=>Ag (call 69 [.sc (.int .u64 Xv)]) fun Xj EB=>Ac EB<|Ab Xj fun Zs Y2=>Es 3 Zs fun Zf Zz=>Ac Y2<|Ag (call 69 [.sc (.int .u64 Hx)]) fun EG Zk=>Ac Zk<|Ab EG fun Y4 GZ=>Es 3 Y4 fun BE FP=>Ac GZ<|Au (decide (0+F5*3<=H3.length))<|Au (decide (0+Mp*3<=Mg.length))<|Au (decide (0+Hi*3<=J8.length))<|Au (decide (0+Uo*3<=Sb.length))<|Au (decide (0+Yk*3<=Xe.length))<|Au (decide (0+U7*3<=X7.length))<|Au (decide (0+Y1*3<=Za.length))<|Au (decide (0+Zf*3<=Zz.length))<|Au (decide (0+BE*3<=FP.length))<|Ag (call 67 [.lst false 1 9 [.lst false 3 F5 (List.take (F5*3) (List.drop 0 H3)),.lst false 3 Mp (List.take (Mp*3) (List.drop 0 Mg)),.lst false 3 Hi (List.take (Hi*3) (List.drop 0 J8)),.lst false 3 Uo (List.take (Uo*3) (List.drop 0 Sb)),.lst false 3 Yk (List.take (Yk*3) (List.drop 0 Xe)),.lst false 3 U7 (List.take (U7*3) (List.drop 0 X7)),.lst false 3 Y1 (List.take (Y1*3) (List.drop 0 Za)),.lst false 3 Zf (List.take (Zf*3) (List.drop 0 Zz)),.lst false 3 BE (List.take (BE*3) (List.drop 0 FP))]]) fun IU IW=>Ac IW<|Ab IU fun UI NQ=>Es 3 UI fun RU OL=>Ab NQ fun ZG WJ=>Ad .i64 ZG fun UX=>Ac WJ<|A9 (UX != 0) (some (A0.mk [.own 1 0 [],.sc (.int .i64 UX)] [])) (Au (decide (0+RU*3<=OL.length))<|Ag (call 72 [.lst false 3 RU (List.take (RU*3) (List.drop 0 OL))]) fun TX EI=>Ac EI<|Ab TX fun RG SE=>Es 1 RG fun YA VI=>Ab SE fun x94 x95=>Ad .i64 x94 fun x96=>Ac x95<|Au (decide (YA*1<=VI.length))<|some (A0.mk [.own 1 YA (List.take (YA*1) VI),.sc (.int .i64 x96)] [])))) (Ag (call 68 [.sc (.string y3)]) fun UZ ZM=>Ac ZM<|Ab UZ fun ZN Ys=>Es 3 ZN fun Xb H5=>Ac Ys<|Ag (call 68 [.sc (.string y4)]) fun D7 Z6=>Ac Z6<|Ab D7 fun Tl R7=>Es 3 Tl fun Kx Zu=>Ac R7<|Ag (call 69 [.sc (.int .u64 y5)]) fun AM Z4=>Ac Z4<|Ab AM fun Zr Iy=>Es 3 Zr fun Kl AW=>Ac Iy<|Au (decide (0+En*1<=E1.length))<|Ag (call 70 [.lst false 1 En (List.take (En*1) (List.drop 0 E1))]) fun Zh AP=>Ac AP<|Ab Zh fun FS Ub=>Es 3 FS fun Vw Yi=>Ac Ub<|Aa (wrap .u64 y8) fun X9=>Ag (call 69 [.sc (.int .u64 X9)]) fun Zo BI=>Ac BI<|Ab Zo fun Tg R3=>Es 3 Tg fun Qt Tu=>Ac R3<|Aa (wrap .u64 y9) fun Vl=>Ag (call 69 [.sc (.int .u64 Vl)]) fun CF Zi=>Ac Zi<|Ab CF fun JN EO=>Es 3 JN fun Zp IF=>Ac EO<|Ag (call 71 [.sc (.bool y10)]) fun JL LF=>Ac LF<|Ab JL fun NX LD=>Es 3 NX fun FB IC=>Ac LD<|Aa (wrap .u64 Gk) fun JQ=>Ag (call 69 [.sc (.int .u64 JQ)]) fun MS LX=>Ac LX<|Ab MS fun FR IG=>Es 3 FR fun IA HU=>Ac IG<|Ag (call 69 [.sc (.int .u64 Hx)]) fun NG SG=>Ac SG<|Ab NG fun XK UG=>Es 3 XK fun EQ OW=>Ac UG<|Au (decide (0+Xb*3<=H5.length))<|Au (decide (0+Kx*3<=Zu.length))<|Au (decide (0+Kl*3<=AW.length))<|Au (decide (0+Vw*3<=Yi.length))<|Au (decide (0+Qt*3<=Tu.length))<|Au (decide (0+Zp*3<=IF.length))<|Au (decide (0+FB*3<=IC.length))<|Au (decide (0+IA*3<=HU.length))<|Au (decide (0+EQ*3<=OW.length))<|Ag (call 67 [.lst false 1 9 [.lst false 3 Xb (List.take (Xb*3) (List.drop 0 H5)),.lst false 3 Kx (List.take (Kx*3) (List.drop 0 Zu)),.lst false 3 Kl (List.take (Kl*3) (List.drop 0 AW)),.lst false 3 Vw (List.take (Vw*3) (List.drop 0 Yi)),.lst false 3 Qt (List.take (Qt*3) (List.drop 0 Tu)),.lst false 3 Zp (List.take (Zp*3) (List.drop 0 IF)),.lst false 3 FB (List.take (FB*3) (List.drop 0 IC)),.lst false 3 IA (List.take (IA*3) (List.drop 0 HU)),.lst false 3 EQ (List.take (EQ*3) (List.drop 0 OW))]]) fun SF Aad=>Ac Aad<|Ab SF fun Aa7 YG=>Es 3 Aa7 fun RY ZF=>Ab YG fun Aai Aa4=>Ad .i64 Aai fun WR=>Ac Aa4<|A9 (WR != 0) (some (A0.mk [.own 1 0 [],.sc (.int .i64 WR)] [])) (Au (decide (0+RY*3<=ZF.length))<|Ag (call 72 [.lst false 3 RY (List.take (RY*3) (List.drop 0 ZF))]) fun Aa3 TP=>Ac TP<|Ab Aa3 fun Aak Aaw=>Es 1 Aak fun SA YK=>Ab Aaw fun Abn Aaz=>Ad .i64 Abn fun Aar=>Ac Aaz<|Au (decide (SA*1<=YK.length))<|some (A0.mk [.own 1 SA (List.take (SA*1) YK),.sc (.int .i64 Aar)] []))))))))))))):=by kernel_rfl
theorem Zy (fu d:Nat)(a0_0 a0_1:ByteArray)(a0_2 a0_3:Int)(a0_4 a0_5 a0_6:Int)(a0_7:Bool)(a0_8 a0_9 a0_10:Int)(a0_11n:Nat)(a0_11:List PV)(a0_12n:Nat)(a0_12:List PV):Ae C0 Tryz.prog fu (d+1) Qo [.agg [.sc (.string a0_0),.sc (.string a0_1),.sc (.int .u64 a0_2),.sc (.int .i64 a0_3),.sc (.int .u64 a0_4),.sc (.int .i64 a0_5),.sc (.int .i64 a0_6),.sc (.bool a0_7),.sc (.int .i64 a0_8),.sc (.int .u64 a0_9),.sc (.int .i64 a0_10),.lst false 1 a0_11n a0_11,.lst false 1 a0_12n a0_12]]=(fun (call:Ah)=>Fj fu call a0_0 a0_1 a0_2 a0_3 a0_4 a0_5 a0_6 a0_7 a0_8 a0_9 a0_10 a0_11n a0_11 a0_12n a0_12 (fu) (a0_0) (a0_1) 0 (a0_0) (a0_1) (a0_2) (a0_3) (a0_4) (a0_5) (a0_6) (a0_7) (a0_8) (a0_9) (a0_10) (a0_11n) (a0_11) (a0_12n) (a0_12)) (Ae C0 Tryz.prog fu d):=by kernel_rfl
abbrev Qe:FuncId:=36
theorem Z3 (fu d:Nat)(a0_0 a0_1:ByteArray)(a0_2 a0_3:Int)(a0_4 a0_5 a0_6:Int)(a0_7:Bool)(a0_8 a0_9 a0_10:Int)(a0_11n:Nat)(a0_11:List PV)(a0_12n:Nat)(a0_12:List PV):Ae C0 Tryz.prog fu (d+1) Qe [.agg [.sc (.string a0_0),.sc (.string a0_1),.sc (.int .u64 a0_2),.sc (.int .i64 a0_3),.sc (.int .u64 a0_4),.sc (.int .i64 a0_5),.sc (.int .i64 a0_6),.sc (.bool a0_7),.sc (.int .i64 a0_8),.sc (.int .u64 a0_9),.sc (.int .i64 a0_10),.lst false 1 a0_11n a0_11,.lst false 1 a0_12n a0_12]]=(fun (call:Ah)=>Ag (call 35 [.agg [.sc (.string a0_0),.sc (.string a0_1),.sc (.int .u64 a0_2),.sc (.int .i64 a0_3),.sc (.int .u64 a0_4),.sc (.int .i64 a0_5),.sc (.int .i64 a0_6),.sc (.bool a0_7),.sc (.int .i64 a0_8),.sc (.int .u64 a0_9),.sc (.int .i64 a0_10),.lst false 1 a0_11n a0_11,.lst false 1 a0_12n a0_12]]) fun x1 x2=>Ac x2<|Ab x1 fun x3 x4=>Es 1 x3 fun x5 x6=>Ab x4 fun x7 x8=>Ad .i64 x7 fun x9=>Ac x8<|A9 (x9 != 0) (some (A0.mk [.sc (.int .u64 0),.sc (.int .i64 x9)] [])) (Au (decide (0+x5*1<=x6.length))<|Ag (call 73 [.sc (.int .i64 14),.lst false 1 x5 (List.take (x5*1) (List.drop 0 x6))]) fun Cl Cw=>Ac Cw<|Ab Cl fun Dl Ds=>Ad .u64 Dl fun Dk=>Ac Ds<|some (A0.mk [.sc (.int .u64 Dk),.sc (.int .i64 0)] []))) (Ae C0 Tryz.prog fu d):=by kernel_rfl
abbrev M4:FuncId:=20
theorem Vu (fu d:Nat)(a0_0 a0_1:ByteArray)(a0_2 a0_3:Int)(a0_4 a0_5 a0_6:Int)(a0_7:Bool)(a0_8 a0_9 a0_10:Int)(a0_11n:Nat)(a0_11:List PV)(a0_12n:Nat)(a0_12:List PV)(a1_0 a1_1:Int):Ae C0 Tryz.prog fu (d+1) M4 [.agg [.sc (.string a0_0),.sc (.string a0_1),.sc (.int .u64 a0_2),.sc (.int .i64 a0_3),.sc (.int .u64 a0_4),.sc (.int .i64 a0_5),.sc (.int .i64 a0_6),.sc (.bool a0_7),.sc (.int .i64 a0_8),.sc (.int .u64 a0_9),.sc (.int .i64 a0_10),.lst false 1 a0_11n a0_11,.lst false 1 a0_12n a0_12],.agg [.sc (.int .i64 a1_0),.sc (.int .u64 a1_1)]]=(fun (call:Ah)=>Ag (call 36 [.agg [.sc (.string a0_0),.sc (.string a0_1),.sc (.int .u64 a0_2),.sc (.int .i64 a0_3),.sc (.int .u64 a0_4),.sc (.int .i64 a0_5),.sc (.int .i64 a0_6),.sc (.bool a0_7),.sc (.int .i64 a0_8),.sc (.int .u64 a0_9),.sc (.int .i64 a0_10),.lst false 1 a0_11n a0_11,.lst false 1 a0_12n a0_12]]) fun x1 x2=>Ac x2<|Ab x1 fun x3 x4=>Ad .u64 x3 fun x5=>Ab x4 fun x6 x7=>Ad .i64 x6 fun x8=>Ac x7<|A9 (x8 != 0) (some (A0.mk [.sc (.int .i64 x8)] [])) (Ag (call 41 [.agg [.sc (.int .i64 a1_0),.sc (.int .u64 a1_1)],.sc (.int .u64 x5),.agg [.sc (.int .i64 a0_10),.lst false 1 a0_11n a0_11,.lst false 1 a0_12n a0_12]]) fun x9 Cl=>Ac Cl<|Ab x9 fun Cw Dl=>Ad .i64 Cw fun Ds=>Ac Dl<|some (A0.mk [.sc (.int .i64 Ds)] []))) (Ae C0 Tryz.prog fu d):=by kernel_rfl
abbrev M1:FuncId:=30
theorem Wl (fu d:Nat)(a0_0 a0_1:ByteArray)(a0_2 a0_3:Int)(a0_4 a0_5 a0_6:Int)(a0_7:Bool)(a0_8 a0_9 a0_10:Int)(a0_11n:Nat)(a0_11:List PV)(a0_12n:Nat)(a0_12:List PV):Ae C0 Tryz.prog fu (d+1) M1 [.agg [.sc (.string a0_0),.sc (.string a0_1),.sc (.int .u64 a0_2),.sc (.int .i64 a0_3),.sc (.int .u64 a0_4),.sc (.int .i64 a0_5),.sc (.int .i64 a0_6),.sc (.bool a0_7),.sc (.int .i64 a0_8),.sc (.int .u64 a0_9),.sc (.int .i64 a0_10),.lst false 1 a0_11n a0_11,.lst false 1 a0_12n a0_12]]=(fun (call:Ah)=>Ag (call 35 [.agg [.sc (.string a0_0),.sc (.string a0_1),.sc (.int .u64 a0_2),.sc (.int .i64 a0_3),.sc (.int .u64 a0_4),.sc (.int .i64 a0_5),.sc (.int .i64 a0_6),.sc (.bool a0_7),.sc (.int .i64 a0_8),.sc (.int .u64 a0_9),.sc (.int .i64 a0_10),.lst false 1 a0_11n a0_11,.lst false 1 a0_12n a0_12]]) fun x1 x2=>Ac x2<|Ab x1 fun x3 x4=>Es 1 x3 fun x5 x6=>Ab x4 fun x7 x8=>Ad .i64 x7 fun x9=>Ac x8<|A9 (x9 != 0) (some (A0.mk [.own 1 0 [],.sc (.int .i64 x9)] [])) (Ag (call 50 [.agg [.sc (.int .i64 a0_10),.lst false 1 a0_11n a0_11,.lst false 1 a0_12n a0_12]]) fun Cl Cw=>Ac Cw<|Ab Cl fun Dl Ds=>Es 1 Dl fun Dk D9=>Ab Ds fun Ea En=>Ad .i64 Ea fun E1=>Ac En<|A9 (E1 != 0) (some (A0.mk [.own 1 0 [],.sc (.int .i64 E1)] [])) (Au (decide (0+Dk*1<=D9.length))<|Au (decide (x5*1<=x6.length)&&decide (List.length (List.take (Dk*1) (List.drop 0 D9))=Dk*1)&&decide ((x5+Dk)*1<=1099511627776)&&decide (x5+Dk<=1099511627776))<|Aa (x5+Dk) fun Fg=>Aa (List.take (x5*1) x6++List.take (Dk*1) (List.drop 0 D9)) fun Fp=>Au (decide (Fg*1<=Fp.length))<|some (A0.mk [.own 1 Fg (List.take (Fg*1) Fp),.sc (.int .i64 0)] [])))) (Ae C0 Tryz.prog fu d):=by kernel_rfl
abbrev My:FuncId:=52
noncomputable def Hu (fu:Nat)(call:Ah)(a0n:Nat)(a0:List PV)(nn y0:Nat)(y1:List PV):Option A0:=Co CB Tryz.prog fu call 52 Tryz.f52 (Bm Tryz.f52) [.lst false 3 a0n a0] [] nn ⟨lk [(0,(.lst false 3 y0 y1))],B7 []⟩
noncomputable def Ll (fu:Nat)(call:Ah)(a0n:Nat)(a0:List PV)(nn y0:Nat)(y1 y2:List PV):Option A0:=Co CB Tryz.prog fu call 52 Tryz.f52 (Bm Tryz.f52) [.lst false 3 a0n a0] [.r] nn ⟨lk [(0,(.lst false 3 y0 y1)),(3,(.ptr 3 0))],B7 [(3,(.ar false y2))]⟩
noncomputable def F4 (fu:Nat)(call:Ah)(a0n:Nat)(a0:List PV)(nn y0:Nat)(y1:List PV)(y2 y3:Int)(y4:List PV):Option A0:=Co CB Tryz.prog fu call 52 Tryz.f52 (Bm Tryz.f52) [.lst false 3 a0n a0] [.r,.r,.r,.l,.r,.l] nn ⟨lk [(3,(.ptr 3 0)),(10,(.lst false 3 y0 y1)),(11,(.sc (.int .i64 y2))),(12,(.sc (.int .i64 y3)))],B7 [(3,(.ar false y4))]⟩
theorem Sj (fu:Nat)(call:Ah)(a0n:Nat)(a0:List PV)(nn:Nat)(hnn:0<nn)(y0:Nat)(y1:List PV):Hu fu call a0n a0 nn y0 y1=(Ll fu call a0n a0 (fu) (y0) (y1) ([.sc (.int .i64 5),.sc (.int .i64 4),.sc (.int .i64 4),.sc (.int .i64 1),.sc (.int .i64 3),.sc (.int .i64 1),.sc (.int .i64 1),.sc (.int .i64 7),.sc (.int .i64 1),.sc (.int .i64 1)])):=by cases nn with|zero=>exact absurd hnn (Nat.lt_irrefl 0)|succ nn=>kernel_rfl
theorem Tk (fu:Nat)(call:Ah)(a0n:Nat)(a0:List PV)(nn:Nat)(hnn:0<nn)(y0:Nat)(y1 y2:List PV):Ll fu call a0n a0 nn y0 y1 y2=(A9 ((↑y0:Int) != 10) (some (A0.mk [.sc (.bool false)] [])) (F4 fu call a0n a0 (fu) (y0) (y1) ((↑y0:Int)) 0 (y2))):=by cases nn with|zero=>exact absurd hnn (Nat.lt_irrefl 0)|succ nn=>kernel_rfl
theorem Jq (fu:Nat)(call:Ah)(a0n:Nat)(a0:List PV)(nn y0:Nat)(y1:List PV)(y2 y3:Int)(y4:List PV):F4 fu call a0n a0 (nn+1) y0 y1 y2 y3 y4=(A9 (decide (y3<y2)) (Au (decide (0<=y3)&&decide (y3<(↑y0:Int)))<|Ad .i64 (List.getD y1 (Int.toNat y3*3) .top) fun x1=>Ad .u64 (List.getD y1 (Int.toNat y3*3+1) .top) fun x2=>Cj (List.getD y1 (Int.toNat y3*3+1+1) .top) fun x3=>Au (decide (0<=y3)&&decide (y3<10))<|Ad .i64 (List.getD y4 (0+Int.toNat y3*1) .top) fun x4=>A9 (x1 != x4) (some (A0.mk [.sc (.bool false)] [])) (Aa (wrap .i64 (y3+1)) fun x5=>F4 fu call a0n a0 (nn) (y0) (y1) (y2) x5 (y4))) (some (A0.mk [.sc (.bool true)] []))):=by kernel_rfl
theorem Wq (fu d a0n:Nat)(a0:List PV):Ae C0 Tryz.prog fu (d+1) My [.lst false 3 a0n a0]=(fun (call:Ah)=>Hu fu call a0n a0 (fu) (a0n) (a0)) (Ae C0 Tryz.prog fu d):=by kernel_rfl
abbrev Ih:FuncId:=31
theorem Wp (fu d a0n:Nat)(a0:List PV):Ae C0 Tryz.prog fu (d+1) Ih [.lst false 1 a0n a0]=(fun (call:Ah)=>A9 (decide ((↑a0n:Int)>512)) (some (A0.mk [.agg [.sc (.string (ByteArray.mk #[])),.sc (.string (ByteArray.mk #[])),.sc (.int .u64 0),.sc (.int .i64 0),.sc (.int .u64 0),.sc (.int .i64 0),.sc (.int .i64 0),.sc (.bool false),.sc (.int .i64 0),.sc (.int .u64 0),.sc (.int .i64 0),.lst false 1 0 [],.lst false 1 0 []],.sc (.int .i64 8)] [])) (Ag (call 51 [.lst false 1 a0n a0]) fun x1 x2=>Ac x2<|Ab x1 fun x3 x4=>Es 3 x3 fun x5 x6=>Ab x4 fun x7 x8=>Ad .i64 x7 fun x9=>Ab x8 fun Cl Cw=>Ad .i64 Cl fun Dl=>Ac Cw<|A9 (Dl != 0) (some (A0.mk [.agg [.sc (.string (ByteArray.mk #[])),.sc (.string (ByteArray.mk #[])),.sc (.int .u64 0),.sc (.int .i64 0),.sc (.int .u64 0),.sc (.int .i64 0),.sc (.int .i64 0),.sc (.bool false),.sc (.int .i64 0),.sc (.int .u64 0),.sc (.int .i64 0),.lst false 1 0 [],.lst false 1 0 []],.sc (.int .i64 2)] [])) (Au (decide (0+x5*3<=x6.length))<|Ag (call 52 [.lst false 3 x5 (List.take (x5*3) (List.drop 0 x6))]) fun Ds Dk=>Ac Dk<|Ab Ds fun D9 Ea=>Bj D9 fun En=>Ac Ea<|A9 (!En) (some (A0.mk [.agg [.sc (.string (ByteArray.mk #[])),.sc (.string (ByteArray.mk #[])),.sc (.int .u64 0),.sc (.int .i64 0),.sc (.int .u64 0),.sc (.int .i64 0),.sc (.int .i64 0),.sc (.bool false),.sc (.int .i64 0),.sc (.int .u64 0),.sc (.int .i64 0),.lst false 1 0 [],.lst false 1 0 []],.sc (.int .i64 2)] [])) (Au (decide (4<(↑x5:Int)))<|Cj (List.getD x6 14 .top) fun E1=>Au (decide (ByteArray.size E1<=1099511627776))<|Au (decide (0+ByteArray.size E1*1<=List.length (Dv E1)))<|Ag (call 53 [.lst false 1 (ByteArray.size E1) (List.take (ByteArray.size E1*1) (List.drop 0 (Dv E1)))]) fun Fg Fp=>Ac Fp<|Ab Fg fun Ho Hb=>C4 Ho fun Hr=>Ab Hr fun Dz Dq=>Ad .i64 Dz fun F5=>Ab Dq fun H3 E2=>Ad .u64 H3 fun Jg=>Ac E2<|Ab Hb fun L6 J3=>Ad .i64 L6 fun Mp=>Ac J3<|A9 (Mp != 0) (some (A0.mk [.agg [.sc (.string (ByteArray.mk #[])),.sc (.string (ByteArray.mk #[])),.sc (.int .u64 0),.sc (.int .i64 0),.sc (.int .u64 0),.sc (.int .i64 0),.sc (.int .i64 0),.sc (.bool false),.sc (.int .i64 0),.sc (.int .u64 0),.sc (.int .i64 0),.lst false 1 0 [],.lst false 1 0 []],.sc (.int .i64 2)] [])) (Au (decide (0<=x9))<|Au (decide (Int.toNat x9<=a0n)&&decide (a0n<=a0n))<|Aa (a0n-Int.toNat x9) fun Mg=>Aa (List.take (Mg*1) (List.drop (Int.toNat x9*1) a0)) fun Nm=>Ag (call 54 [.lst false 1 Mg Nm]) fun Pt P7=>Ac P7<|Ab Pt fun R4 Hi=>C4 R4 fun J8=>Ab J8 fun Uy Y8=>Ad .i64 Uy fun Ph=>Ab Y8 fun Nw Uo=>Es 1 Nw fun Sb To=>Ab Uo fun Xt Yh=>Es 1 Xt fun Sd We=>Ac Yh<|Ab Hi fun Yk Xe=>Ad .i64 Yk fun O3=>Ac Xe<|A9 (O3 != 0) (some (A0.mk [.agg [.sc (.string (ByteArray.mk #[])),.sc (.string (ByteArray.mk #[])),.sc (.int .u64 0),.sc (.int .i64 0),.sc (.int .u64 0),.sc (.int .i64 0),.sc (.int .i64 0),.sc (.bool false),.sc (.int .i64 0),.sc (.int .u64 0),.sc (.int .i64 0),.lst false 1 0 [],.lst false 1 0 []],.sc (.int .i64 2)] [])) (Au (decide (1<(↑x5:Int)))<|Cj (List.getD x6 5 .top) fun Yl=>Au (decide (2<(↑x5:Int)))<|Cj (List.getD x6 8 .top) fun DK=>Au (decide (3<(↑x5:Int)))<|Ad .u64 (List.getD x6 10 .top) fun BC=>Au (decide (5<(↑x5:Int)))<|Ad .u64 (List.getD x6 16 .top) fun Y3=>Aa (wrap .i64 Y3) fun U7=>Au (decide (6<(↑x5:Int)))<|Ad .u64 (List.getD x6 19 .top) fun X7=>Aa (wrap .i64 X7) fun BA=>Au (decide (7<(↑x5:Int)))<|Ad .u64 (List.getD x6 22 .top) fun Zd=>Au (decide (8<(↑x5:Int)))<|Ad .u64 (List.getD x6 25 .top) fun Y6=>Aa (wrap .i64 Y6) fun BB=>Au (decide (9<(↑x5:Int)))<|Ad .u64 (List.getD x6 28 .top) fun Y1=>Au (decide (0+Sb*1<=To.length))<|Au (decide (0+Sd*1<=We.length))<|Ag (call 30 [.agg [.sc (.string Yl),.sc (.string DK),.sc (.int .u64 BC),.sc (.int .i64 F5),.sc (.int .u64 Jg),.sc (.int .i64 U7),.sc (.int .i64 BA),.sc (.bool (Zd==1)),.sc (.int .i64 BB),.sc (.int .u64 Y1),.sc (.int .i64 Ph),.lst false 1 Sb (List.take (Sb*1) (List.drop 0 To)),.lst false 1 Sd (List.take (Sd*1) (List.drop 0 We))]]) fun Za Xv=>Ac Xv<|Ab Za fun Xj EB=>Es 1 Xj fun Zs Y2=>Ab EB fun Zf Zz=>Ad .i64 Zf fun EG=>Ac Zz<|A9 (EG != 0) (some (A0.mk [.agg [.sc (.string (ByteArray.mk #[])),.sc (.string (ByteArray.mk #[])),.sc (.int .u64 0),.sc (.int .i64 0),.sc (.int .u64 0),.sc (.int .i64 0),.sc (.int .i64 0),.sc (.bool false),.sc (.int .i64 0),.sc (.int .u64 0),.sc (.int .i64 0),.lst false 1 0 [],.lst false 1 0 []],.sc (.int .i64 2)] [])) (Au (decide (0+Zs*1<=Y2.length))<|Ag (call 55 [.lst false 1 Zs (List.take (Zs*1) (List.drop 0 Y2)),.lst false 1 a0n a0]) fun Zk Y4=>Ac Y4<|Ab Zk fun GZ BE=>Bj GZ fun FP=>Ac BE<|A9 (!FP) (some (A0.mk [.agg [.sc (.string (ByteArray.mk #[])),.sc (.string (ByteArray.mk #[])),.sc (.int .u64 0),.sc (.int .i64 0),.sc (.int .u64 0),.sc (.int .i64 0),.sc (.int .i64 0),.sc (.bool false),.sc (.int .i64 0),.sc (.int .u64 0),.sc (.int .i64 0),.lst false 1 0 [],.lst false 1 0 []],.sc (.int .i64 2)] [])) (Au (decide (0+Sb*1<=To.length))<|Au (decide (0+Sd*1<=We.length))<|some (A0.mk [.agg [.sc (.string Yl),.sc (.string DK),.sc (.int .u64 BC),.sc (.int .i64 F5),.sc (.int .u64 Jg),.sc (.int .i64 U7),.sc (.int .i64 BA),.sc (.bool (Zd==1)),.sc (.int .i64 BB),.sc (.int .u64 Y1),.sc (.int .i64 Ph),.lst false 1 Sb (List.take (Sb*1) (List.drop 0 To)),.lst false 1 Sd (List.take (Sd*1) (List.drop 0 We))],.sc (.int .i64 0)] []))))))))) (Ae C0 Tryz.prog fu d):=by kernel_rfl
abbrev Jp:FuncId:=47
noncomputable def Cp (fu:Nat)(call:Ah)(a0_0 a0_1:ByteArray)(a0_2 a0_3:Int)(a0_4 a0_5 a0_6:Int)(a0_7:Bool)(a0_8 a0_9 a0_10:Int)(a0_11n:Nat)(a0_11:List PV)(a0_12n:Nat)(a0_12:List PV)(a1:Int)(a2n:Nat)(a2:List PV)(a3:Int)(nn:Nat)(y0:Int)(y1:Nat)(y2:List PV)(y3 y4:Int)(y5 y6:ByteArray)(y7 y8:Int)(y9 y10 Gk:Int)(Hx:Bool)(Ja Kp Lq:Int)(Ob:Nat)(Ol:List PV)(Va:Nat)(Zt:List PV):Option A0:=Co CB Tryz.prog fu call 47 Tryz.f47 (Bm Tryz.f47) [.agg [.sc (.string a0_0),.sc (.string a0_1),.sc (.int .u64 a0_2),.sc (.int .i64 a0_3),.sc (.int .u64 a0_4),.sc (.int .i64 a0_5),.sc (.int .i64 a0_6),.sc (.bool a0_7),.sc (.int .i64 a0_8),.sc (.int .u64 a0_9),.sc (.int .i64 a0_10),.lst false 1 a0_11n a0_11,.lst false 1 a0_12n a0_12],.sc (.int .i64 a1),.lst false 3 a2n a2,.sc (.int .i64 a3)] [.r,.r,.r,.r,.l,.r,.l] nn ⟨lk [(3,(.sc (.int .i64 y0))),(4,(.ptr 4 0)),(45,(.lst false 3 y1 y2)),(46,(.sc (.int .i64 y3))),(47,(.sc (.int .i64 y4)))],B7 [(4,(.st [(.sc (.string y5)),(.sc (.string y6)),(.sc (.int .u64 y7)),(.sc (.int .i64 y8)),(.sc (.int .u64 y9)),(.sc (.int .i64 y10)),(.sc (.int .i64 Gk)),(.sc (.bool Hx)),(.sc (.int .i64 Ja)),(.sc (.int .u64 Kp)),(.sc (.int .i64 Lq)),(.lst false 1 Ob Ol),(.lst false 1 Va Zt)]))]⟩
theorem H6 (fu:Nat)(call:Ah)(a0_0 a0_1:ByteArray)(a0_2 a0_3:Int)(a0_4 a0_5 a0_6:Int)(a0_7:Bool)(a0_8 a0_9 a0_10:Int)(a0_11n:Nat)(a0_11:List PV)(a0_12n:Nat)(a0_12:List PV)(a1:Int)(a2n:Nat)(a2:List PV)(a3:Int)(nn:Nat)(y0:Int)(y1:Nat)(y2:List PV)(y3 y4:Int)(y5 y6:ByteArray)(y7 y8:Int)(y9 y10 Gk:Int)(Hx:Bool)(Ja Kp Lq:Int)(Ob:Nat)(Ol:List PV)(Va:Nat)(Zt:List PV):Cp fu call a0_0 a0_1 a0_2 a0_3 a0_4 a0_5 a0_6 a0_7 a0_8 a0_9 a0_10 a0_11n a0_11 a0_12n a0_12 a1 a2n a2 a3 (nn+1) y0 y1 y2 y3 y4 y5 y6 y7 y8 y9 y10 Gk Hx Ja Kp Lq Ob Ol Va Zt=(A9 (decide (y4<y3)) (Au (decide (0<=y4)&&decide (y4<(↑y1:Int)))<|Cj (List.getD y2 (Int.toNat y4*3) .top) fun Cw=>Ad .u64 (List.getD y2 (Int.toNat y4*3+1) .top) fun Dl=>Ad .i64 (List.getD y2 (Int.toNat y4*3+1+1) .top) fun Ds=>A9 (Array.toList (ByteArray.data Cw)==Array.toList (ByteArray.data y6)) (A9 (Dl==y7) (A9 (decide (Ds<=y0)) (some (A0.mk [.sc (.int .i64 39)] [])) (Aa (wrap .i64 (y4+1)) fun Dk=>Cp fu call a0_0 a0_1 a0_2 a0_3 a0_4 a0_5 a0_6 a0_7 a0_8 a0_9 a0_10 a0_11n a0_11 a0_12n a0_12 a1 a2n a2 a3 (nn) (y0) (y1) (y2) (y3) Dk (y5) (y6) (y7) (y8) (y9) (y10) (Gk) (Hx) (Ja) (Kp) (Lq) (Ob) (Ol) (Va) (Zt))) (Aa (wrap .i64 (y4+1)) fun D9=>Cp fu call a0_0 a0_1 a0_2 a0_3 a0_4 a0_5 a0_6 a0_7 a0_8 a0_9 a0_10 a0_11n a0_11 a0_12n a0_12 a1 a2n a2 a3 (nn) (y0) (y1) (y2) (y3) D9 (y5) (y6) (y7) (y8) (y9) (y10) (Gk) (Hx) (Ja) (Kp) (Lq) (Ob) (Ol) (Va) (Zt))) (Aa (wrap .i64 (y4+1)) fun Ea=>Cp fu call a0_0 a0_1 a0_2 a0_3 a0_4 a0_5 a0_6 a0_7 a0_8 a0_9 a0_10 a0_11n a0_11 a0_12n a0_12 a1 a2n a2 a3 (nn) (y0) (y1) (y2) (y3) Ea (y5) (y6) (y7) (y8) (y9) (y10) (Gk) (Hx) (Ja) (Kp) (Lq) (Ob) (Ol) (Va) (Zt))) (some (A0.mk [.sc (.int .i64 0)] []))):=by kernel_rfl
theorem S3 (fu d:Nat)(a0_0 a0_1:ByteArray)(a0_2 a0_3:Int)(a0_4 a0_5 a0_6:Int)(a0_7:Bool)(a0_8 a0_9 a0_10:Int)(a0_11n:Nat)(a0_11:List PV)(a0_12n:Nat)(a0_12:List PV)(a1:Int)(a2n:Nat)(a2:List PV)(a3:Int):Ae C0 Tryz.prog fu (d+1) Jp [.agg [.sc (.string a0_0),.sc (.string a0_1),.sc (.int .u64 a0_2),.sc (.int .i64 a0_3),.sc (.int .u64 a0_4),.sc (.int .i64 a0_5),.sc (.int .i64 a0_6),.sc (.bool a0_7),.sc (.int .i64 a0_8),.sc (.int .u64 a0_9),.sc (.int .i64 a0_10),.lst false 1 a0_11n a0_11,.lst false 1 a0_12n a0_12],.sc (.int .i64 a1),.lst false 3 a2n a2,.sc (.int .i64 a3)]=(fun (call:Ah)=>Ag (call 35 [.agg [.sc (.string a0_0),.sc (.string a0_1),.sc (.int .u64 a0_2),.sc (.int .i64 a0_3),.sc (.int .u64 a0_4),.sc (.int .i64 a0_5),.sc (.int .i64 a0_6),.sc (.bool a0_7),.sc (.int .i64 a0_8),.sc (.int .u64 a0_9),.sc (.int .i64 a0_10),.lst false 1 a0_11n a0_11,.lst false 1 a0_12n a0_12]]) fun x1 x2=>Ac x2<|Ab x1 fun x3 x4=>Es 1 x3 fun x5 x6=>Ab x4 fun x7 x8=>Ad .i64 x7 fun x9=>Ac x8<|A9 (x9 != 0) (some (A0.mk [.sc (.int .i64 x9)] [])) (A9 (decide (a3<a0_5)) (some (A0.mk [.sc (.int .i64 38)] [])) (A9 (decide (a3>a0_6)) (some (A0.mk [.sc (.int .i64 38)] [])) (A9 (decide (a1>0)) (A9 (!a0_7) (some (A0.mk [.sc (.int .i64 38)] [])) (Aa (wrap .i64 (a1-1)) fun Cl=>A9 (decide (a0_8<Cl)) (some (A0.mk [.sc (.int .i64 38)] [])) (Cp fu call a0_0 a0_1 a0_2 a0_3 a0_4 a0_5 a0_6 a0_7 a0_8 a0_9 a0_10 a0_11n a0_11 a0_12n a0_12 a1 a2n a2 a3 (fu) (a3) (a2n) (a2) ((↑a2n:Int)) 0 (a0_0) (a0_1) (a0_2) (a0_3) (a0_4) (a0_5) (a0_6) (a0_7) (a0_8) (a0_9) (a0_10) (a0_11n) (a0_11) (a0_12n) (a0_12)))) (Cp fu call a0_0 a0_1 a0_2 a0_3 a0_4 a0_5 a0_6 a0_7 a0_8 a0_9 a0_10 a0_11n a0_11 a0_12n a0_12 a1 a2n a2 a3 (fu) (a3) (a2n) (a2) ((↑a2n:Int)) 0 (a0_0) (a0_1) (a0_2) (a0_3) (a0_4) (a0_5) (a0_6) (a0_7) (a0_8) (a0_9) (a0_10) (a0_11n) (a0_11) (a0_12n) (a0_12)))))) (Ae C0 Tryz.prog fu d):=by kernel_rfl
abbrev Pj:FuncId:=27
noncomputable def Gp (fu:Nat)(call:Ah)(a0n:Nat)(a0:List PV)(a1n:Nat)(a1:List PV)(a2n:Nat)(a2:List PV)(a3:Int)(nn y0:Nat)(y1:List PV)(y2:Nat)(y3:List PV)(y4:Nat)(y5:List PV)(y6:Int)(y7:Nat)(y8:List PV)(y9 y10:Int):Option A0:=Co CB Tryz.prog fu call 27 Tryz.f27 (Bm Tryz.f27) [.lst false 13 a0n a0,.lst false 3 a1n a1,.lst false 3 a2n a2,.sc (.int .i64 a3)] [.r,.r,.r,.l,.r,.l] nn ⟨lk [(0,(.lst false 13 y0 y1)),(1,(.lst false 3 y2 y3)),(2,(.lst false 3 y4 y5)),(3,(.sc (.int .i64 y6))),(31,(.lst false 13 y7 y8)),(32,(.sc (.int .i64 y9))),(33,(.sc (.int .i64 y10)))],B7 []⟩
noncomputable def Ec (fu:Nat)(call:Ah)(a0n:Nat)(a0:List PV)(a1n:Nat)(a1:List PV)(a2n:Nat)(a2:List PV)(a3:Int)(nn y0:Nat)(y1:List PV)(y2 y3:Int)(y4 y5:ByteArray)(y6 y7:Int)(y8 y9 y10:Int)(Gk:Bool)(Hx Ja Kp:Int)(Lq:Nat)(Ob:List PV)(Ol:Nat)(Va:List PV):Option A0:=Co CB Tryz.prog fu call 27 Tryz.f27 (Bm Tryz.f27) [.lst false 13 a0n a0,.lst false 3 a1n a1,.lst false 3 a2n a2,.sc (.int .i64 a3)] [.r,.r,.r,.r,.r,.l,.r,.l] nn ⟨lk [(14,(.ptr 14 0)),(78,(.lst false 3 y0 y1)),(79,(.sc (.int .i64 y2))),(80,(.sc (.int .i64 y3)))],B7 [(14,(.st [(.sc (.string y4)),(.sc (.string y5)),(.sc (.int .u64 y6)),(.sc (.int .i64 y7)),(.sc (.int .u64 y8)),(.sc (.int .i64 y9)),(.sc (.int .i64 y10)),(.sc (.bool Gk)),(.sc (.int .i64 Hx)),(.sc (.int .u64 Ja)),(.sc (.int .i64 Kp)),(.lst false 1 Lq Ob),(.lst false 1 Ol Va)]))]⟩
theorem Lt (fu:Nat)(call:Ah)(a0n:Nat)(a0:List PV)(a1n:Nat)(a1:List PV)(a2n:Nat)(a2:List PV)(a3:Int)(nn y0:Nat)(y1:List PV)(y2:Nat)(y3:List PV)(y4:Nat)(y5:List PV)(y6:Int)(y7:Nat)(y8:List PV)(y9 y10:Int):Gp fu call a0n a0 a1n a1 a2n a2 a3 (nn+1) y0 y1 y2 y3 y4 y5 y6 y7 y8 y9 y10=(A9 (decide (y10<y9)) (Au (decide (0<=y10)&&decide (y10<(↑y7:Int)))<|Cj (List.getD y8 (Int.toNat y10*13) .top) fun x1=>Cj (List.getD y8 (Int.toNat y10*13+1) .top) fun x2=>Ad .u64 (List.getD y8 (Int.toNat y10*13+1+1) .top) fun x3=>Ad .i64 (List.getD y8 (Int.toNat y10*13+1+1+1) .top) fun x4=>Ad .u64 (List.getD y8 (Int.toNat y10*13+1+1+1+1) .top) fun x5=>Ad .i64 (List.getD y8 (Int.toNat y10*13+1+1+1+1+1) .top) fun x6=>Ad .i64 (List.getD y8 (Int.toNat y10*13+1+1+1+1+1+1) .top) fun x7=>Bj (List.getD y8 (Int.toNat y10*13+1+1+1+1+1+1+1) .top) fun x8=>Ad .i64 (List.getD y8 (Int.toNat y10*13+1+1+1+1+1+1+1+1) .top) fun x9=>Ad .u64 (List.getD y8 (Int.toNat y10*13+1+1+1+1+1+1+1+1+1) .top) fun Cl=>Ad .i64 (List.getD y8 (Int.toNat y10*13+1+1+1+1+1+1+1+1+1+1) .top) fun Cw=>Fk 1 (List.getD y8 (Int.toNat y10*13+1+1+1+1+1+1+1+1+1+1+1) .top) fun Dl Ds Dk=>Fk 1 (List.getD y8 (Int.toNat y10*13+1+1+1+1+1+1+1+1+1+1+1+1) .top) fun D9 Ea En=>Ag (call 47 [.agg [.sc (.string x1),.sc (.string x2),.sc (.int .u64 x3),.sc (.int .i64 x4),.sc (.int .u64 x5),.sc (.int .i64 x6),.sc (.int .i64 x7),.sc (.bool x8),.sc (.int .i64 x9),.sc (.int .u64 Cl),.sc (.int .i64 Cw),.lst false 1 Ds Dk,.lst false 1 Ea En],.sc (.int .i64 y10),.lst false 3 y4 y5,.sc (.int .i64 y6)]) fun E1 Fg=>Ac Fg<|Ab E1 fun Fp Ho=>Ad .i64 Fp fun Hb=>Ac Ho<|A9 (Hb != 0) (some (A0.mk [.sc (.int .i64 0),.sc (.int .i64 Hb)] [])) (Aa (wrap .i64 ((↑y0:Int)-1)) fun Hr=>A9 (y10==Hr) (Aa (wrap .i64 ((↑y0:Int)-1)) fun Dz=>Au (decide (0<=Dz)&&decide (Dz<(↑y0:Int)))<|Cj (List.getD y1 (Int.toNat Dz*13) .top) fun Dq=>Cj (List.getD y1 (Int.toNat Dz*13+1) .top) fun F5=>Ad .u64 (List.getD y1 (Int.toNat Dz*13+1+1) .top) fun H3=>Ad .i64 (List.getD y1 (Int.toNat Dz*13+1+1+1) .top) fun E2=>Ad .u64 (List.getD y1 (Int.toNat Dz*13+1+1+1+1) .top) fun Jg=>Ad .i64 (List.getD y1 (Int.toNat Dz*13+1+1+1+1+1) .top) fun L6=>Ad .i64 (List.getD y1 (Int.toNat Dz*13+1+1+1+1+1+1) .top) fun J3=>Bj (List.getD y1 (Int.toNat Dz*13+1+1+1+1+1+1+1) .top) fun Mp=>Ad .i64 (List.getD y1 (Int.toNat Dz*13+1+1+1+1+1+1+1+1) .top) fun Mg=>Ad .u64 (List.getD y1 (Int.toNat Dz*13+1+1+1+1+1+1+1+1+1) .top) fun Nm=>Ad .i64 (List.getD y1 (Int.toNat Dz*13+1+1+1+1+1+1+1+1+1+1) .top) fun Pt=>Fk 1 (List.getD y1 (Int.toNat Dz*13+1+1+1+1+1+1+1+1+1+1+1) .top) fun P7 R4 Hi=>Fk 1 (List.getD y1 (Int.toNat Dz*13+1+1+1+1+1+1+1+1+1+1+1+1) .top) fun J8 Uy Y8=>Ec fu call a0n a0 a1n a1 a2n a2 a3 (fu) (y2) (y3) ((↑y2:Int)) 0 Dq F5 H3 E2 Jg L6 J3 Mp Mg Nm Pt R4 Hi Uy Y8) (Aa (wrap .i64 (y10+1)) fun Ph=>Au (decide (0<=Ph)&&decide (Ph<(↑y0:Int)))<|Cj (List.getD y1 (Int.toNat Ph*13+0) .top) fun Nw=>A9 (!Array.toList (ByteArray.data x2)==Array.toList (ByteArray.data Nw)) (some (A0.mk [.sc (.int .i64 0),.sc (.int .i64 38)] [])) (Aa (wrap .i64 (y10+1)) fun Uo=>Au (decide (0<=Uo)&&decide (Uo<(↑y0:Int)))<|Ad .i64 (List.getD y1 (Int.toNat Uo*13+3) .top) fun Sb=>Ad .u64 (List.getD y1 (Int.toNat Uo*13+3+1) .top) fun To=>Ag (call 20 [.agg [.sc (.string x1),.sc (.string x2),.sc (.int .u64 x3),.sc (.int .i64 x4),.sc (.int .u64 x5),.sc (.int .i64 x6),.sc (.int .i64 x7),.sc (.bool x8),.sc (.int .i64 x9),.sc (.int .u64 Cl),.sc (.int .i64 Cw),.lst false 1 Ds Dk,.lst false 1 Ea En],.agg [.sc (.int .i64 Sb),.sc (.int .u64 To)]]) fun Xt Yh=>Ac Yh<|Ab Xt fun Sd We=>Ad .i64 Sd fun Yk=>Ac We<|A9 (Yk != 0) (some (A0.mk [.sc (.int .i64 0),.sc (.int .i64 Yk)] [])) (Aa (wrap .i64 (y10+1)) fun Xe=>Gp fu call a0n a0 a1n a1 a2n a2 a3 (nn) (y0) (y1) (y2) (y3) (y4) (y5) (y6) (y7) (y8) (y9) Xe))))) (Aa (wrap .i64 ((↑y0:Int)-1)) fun O3=>Au (decide (0<=O3)&&decide (O3<(↑y0:Int)))<|Cj (List.getD y1 (Int.toNat O3*13) .top) fun Yl=>Cj (List.getD y1 (Int.toNat O3*13+1) .top) fun DK=>Ad .u64 (List.getD y1 (Int.toNat O3*13+1+1) .top) fun BC=>Ad .i64 (List.getD y1 (Int.toNat O3*13+1+1+1) .top) fun Y3=>Ad .u64 (List.getD y1 (Int.toNat O3*13+1+1+1+1) .top) fun U7=>Ad .i64 (List.getD y1 (Int.toNat O3*13+1+1+1+1+1) .top) fun X7=>Ad .i64 (List.getD y1 (Int.toNat O3*13+1+1+1+1+1+1) .top) fun BA=>Bj (List.getD y1 (Int.toNat O3*13+1+1+1+1+1+1+1) .top) fun Zd=>Ad .i64 (List.getD y1 (Int.toNat O3*13+1+1+1+1+1+1+1+1) .top) fun Y6=>Ad .u64 (List.getD y1 (Int.toNat O3*13+1+1+1+1+1+1+1+1+1) .top) fun BB=>Ad .i64 (List.getD y1 (Int.toNat O3*13+1+1+1+1+1+1+1+1+1+1) .top) fun Y1=>Fk 1 (List.getD y1 (Int.toNat O3*13+1+1+1+1+1+1+1+1+1+1+1) .top) fun Za Xv Xj=>Fk 1 (List.getD y1 (Int.toNat O3*13+1+1+1+1+1+1+1+1+1+1+1+1) .top) fun EB Zs Y2=>Ec fu call a0n a0 a1n a1 a2n a2 a3 (fu) (y2) (y3) ((↑y2:Int)) 0 Yl DK BC Y3 U7 X7 BA Zd Y6 BB Y1 Xv Xj Zs Y2)):=by kernel_rfl
theorem Lw (fu:Nat)(call:Ah)(a0n:Nat)(a0:List PV)(a1n:Nat)(a1:List PV)(a2n:Nat)(a2:List PV)(a3:Int)(nn y0:Nat)(y1:List PV)(y2 y3:Int)(y4 y5:ByteArray)(y6 y7:Int)(y8 y9 y10:Int)(Gk:Bool)(Hx Ja Kp:Int)(Lq:Nat)(Ob:List PV)(Ol:Nat)(Va:List PV):Ec fu call a0n a0 a1n a1 a2n a2 a3 (nn+1) y0 y1 y2 y3 y4 y5 y6 y7 y8 y9 y10 Gk Hx Ja Kp Lq Ob Ol Va=(A9 (decide (y3<y2)) (Au (decide (0<=y3)&&decide (y3<(↑y0:Int)))<|Cj (List.getD y1 (Int.toNat y3*3) .top) fun Zf=>Ad .i64 (List.getD y1 (Int.toNat y3*3+1) .top) fun Zz=>Ad .u64 (List.getD y1 (Int.toNat y3*3+1+1) .top) fun EG=>A9 (Array.toList (ByteArray.data Zf)==Array.toList (ByteArray.data y5)) (Ag (call 20 [.agg [.sc (.string y4),.sc (.string y5),.sc (.int .u64 y6),.sc (.int .i64 y7),.sc (.int .u64 y8),.sc (.int .i64 y9),.sc (.int .i64 y10),.sc (.bool Gk),.sc (.int .i64 Hx),.sc (.int .u64 Ja),.sc (.int .i64 Kp),.lst false 1 Lq Ob,.lst false 1 Ol Va],.agg [.sc (.int .i64 Zz),.sc (.int .u64 EG)]]) fun Zk Y4=>Ac Y4<|Ab Zk fun GZ BE=>Ad .i64 GZ fun FP=>Ac BE<|A9 (FP==0) (some (A0.mk [.sc (.int .i64 y3),.sc (.int .i64 0)] [])) (Aa (wrap .i64 (y3+1)) fun IU=>Ec fu call a0n a0 a1n a1 a2n a2 a3 (nn) (y0) (y1) (y2) IU (y4) (y5) (y6) (y7) (y8) (y9) (y10) (Gk) (Hx) (Ja) (Kp) (Lq) (Ob) (Ol) (Va))) (Aa (wrap .i64 (y3+1)) fun IW=>Ec fu call a0n a0 a1n a1 a2n a2 a3 (nn) (y0) (y1) (y2) IW (y4) (y5) (y6) (y7) (y8) (y9) (y10) (Gk) (Hx) (Ja) (Kp) (Lq) (Ob) (Ol) (Va))) (some (A0.mk [.sc (.int .i64 0),.sc (.int .i64 38)] []))):=by kernel_rfl
theorem Z8 (fu d a0n:Nat)(a0:List PV)(a1n:Nat)(a1:List PV)(a2n:Nat)(a2:List PV)(a3:Int):Ae C0 Tryz.prog fu (d+1) Pj [.lst false 13 a0n a0,.lst false 3 a1n a1,.lst false 3 a2n a2,.sc (.int .i64 a3)]=(fun (call:Ah)=>A9 (decide (a3<0)) (some (A0.mk [.sc (.int .i64 0),.sc (.int .i64 9)] [])) (A9 (decide (a3>1099511627776)) (some (A0.mk [.sc (.int .i64 0),.sc (.int .i64 9)] [])) (A9 (decide ((↑a0n:Int)<1)) (some (A0.mk [.sc (.int .i64 0),.sc (.int .i64 38)] [])) (A9 (decide ((↑a0n:Int)>3)) (some (A0.mk [.sc (.int .i64 0),.sc (.int .i64 38)] [])) (Gp fu call a0n a0 a1n a1 a2n a2 a3 (fu) (a0n) (a0) (a1n) (a1) (a2n) (a2) (a3) (a0n) (a0) ((↑a0n:Int)) 0))))) (Ae C0 Tryz.prog fu d):=by kernel_rfl
abbrev Yz:FuncId:=55
theorem OQ (fu d a0n:Nat)(a0:List PV)(a1n:Nat)(a1:List PV):Ae C0 Tryz.prog fu (d+1) Yz [.lst false 1 a0n a0,.lst false 1 a1n a1]=(fun (call:Ah)=>Au (decide (a0.length=a0n))<|E5 (bytesOf a0) fun x1=>Au (decide (a1.length=a1n))<|E5 (bytesOf a1) fun x2=>some (A0.mk [.sc (.bool (Array.toList (ByteArray.data (ByteArray.mk (List.toArray x1)))==Array.toList (ByteArray.data (ByteArray.mk (List.toArray x2)))))] [])) (Ae C0 Tryz.prog fu d):=by kernel_rfl
end
section
open Go.IntKind (wrap)
theorem VO {c:Ce}{e:Int}(h:A4 c=e)(he:e≠0):Gv c=[.own 1 0 [],.sc (.int .i64 e)]:=by
 unfold Gv;rw [h,A5 he]
theorem Et {c:Ce}{e:Int}(h:A4 c=e)(he:e≠0):some (A0.mk [.own 1 0 [],.sc (.int .i64 e)] [])=some (A0.mk (Gv c) []):=by
 rw [VO h he]
def Wb (c:Ce):List It:=[⟨4,0,c.subj⟩,⟨4,0,c.iss⟩,⟨1,c.serial,Gl⟩,⟨3,0,Cd (Jn c.key)⟩,⟨1,c.fr,Gl⟩,⟨1,c.un,Gl⟩,⟨7,(if c.auth=true then 1 else 0),Gl⟩,⟨1,c.path,Gl⟩,⟨1,c.model,Gl⟩]
theorem GS {c:Ce}(hw:c.wf)(h:A4 c=0):∀x∈Wb c,VQ x:=by
 unfold A4 at h;have kl:(Cd (Jn c.key)).size=9:=by rw [Ge];rfl
 have ns:Gl.size=0:=rfl;have hs:=hw.ser;have hm:=hw.mod;have es:UC Gl=true:=rfl;by_cases e1:c.subj.size<1∨32<c.subj.size
 ·rw [Bu e1] at h;cases h
 rw [A5 e1] at h;by_cases e2:c.iss.size<1∨32<c.iss.size
 ·rw [Bu e2] at h;cases h
 rw [A5 e2] at h;by_cases e3:XX c.subj=false
 ·rw [Bu e3] at h;cases h
 rw [A5 e3] at h;by_cases e4:XX c.iss=false
 ·rw [Bu e4] at h;cases h
 rw [A5 e4] at h
 repeat' (split at h;· cases h)
 rw [Bool.not_eq_false] at e3 e4;intro x hx;simp only [Wb,List.mem_cons,List.not_mem_nil,or_false] at hx;rcases hx with rfl|rfl|rfl|rfl|rfl|rfl|rfl|rfl|rfl
 ·exact ⟨by simp,by simp only;omega,fun _=>e3,by simp [Gw],by simp⟩
 ·exact ⟨by simp,by simp only;omega,fun _=>e4,by simp [Gw],by simp⟩
 ·exact ⟨by simp,by simp only [ns];omega,fun h=>by simp at h,by simp [Gw,es],hs⟩
 ·exact ⟨by simp,by simp only [kl];omega,fun h=>by simp at h,by simp [Gw],by simp⟩
 ·exact ⟨by simp,by simp only [ns];omega,fun h=>by simp at h,by simp [Gw,es],by simp only;omega⟩
 ·exact ⟨by simp,by simp only [ns];omega,fun h=>by simp at h,by simp [Gw,es],by simp only;omega⟩
 ·exact ⟨by simp,by simp only [ns];omega,fun h=>by simp at h,by simp [Gw,es];split<;>omega,by simp only;split<;>omega⟩
 ·exact ⟨by simp,by simp only [ns];omega,fun h=>by simp at h,by simp [Gw,es],by simp only;omega⟩
 ·exact ⟨by simp,by simp only [ns];omega,fun h=>by simp at h,by simp [Gw,es],hm⟩
theorem Z7 {c:Ce}(hw:c.wf)(h:A4 c=0):Qc [] 0 (Bb c):=Agb (r:=Wb c) (by simp [Wb]) (by simp [Wb]) (GS hw h)
section
variable {fu d:Nat}
theorem WP (s:ByteArray):Ae C0 Tryz.prog fu (d+1) HE [.sc (.string s)]=some ⟨[.own 3 1 (Ci [⟨4,0,s⟩])],[]⟩:=by rw [VE];rfl
theorem Wg (n:Int):Ae C0 Tryz.prog fu (d+1) HF [.sc (.int .u64 n)]=some ⟨[.own 3 1 (Ci [⟨1,n,Gl⟩])],[]⟩:=by rw [XL];rfl
theorem Agt (b:Bool):Ae C0 Tryz.prog fu (d+1) HL [.sc (.bool b)]=some ⟨[.own 3 1 (Ci [⟨7,(if b=true then 1 else 0),Gl⟩])],[]⟩:=by rw [VT];cases b<;>rfl
theorem Ae0 (l:List Int):Ae C0 Tryz.prog fu (d+1) CM [.lst false 1 l.length (Af .u8 l)]=some ⟨[.own 3 1 (Ci [⟨3,0,Cd l⟩])],[]⟩:=by
 rw [SW];have L:=Am .u8 l;have bo:=Hf l;simp (disch:=omega) only [Bz,L,bo];rfl
theorem ZV (hfu:1000<=fu){c:Ce}(hw:c.wf)(hs1:c.subj.size<=9223372036854775807)(hs2:c.iss.size<=9223372036854775807)(e1:¬(c.subj.size<1∨32<c.subj.size)) (e2:¬(c.iss.size<1∨32<c.iss.size)) (nn:Nat):
  Fj fu (Ae C0 Tryz.prog fu (d+6)) c.subj c.iss c.serial c.key.h c.key.root c.fr c.un c.auth c.path c.model c.sig.leaf c.sig.chains.length (Af .u64 c.sig.chains) c.sig.path.length (Af .u64 c.sig.path) (nn+1) c.subj c.iss 2 c.subj c.iss c.serial c.key.h c.key.root c.fr c.un c.auth c.path c.model c.sig.leaf c.sig.chains.length (Af .u64 c.sig.chains) c.sig.path.length (Af .u64 c.sig.path)=some ⟨Gv c,[]⟩:=by
 have v1:=P3 (fu:=fu) (d:=d+5) c.subj hs1;have v2:=P3 (fu:=fu) (d:=d+5) c.iss hs2;have ek:=Ad1 (xs:=Kr) (fu:=fu) (d:=d+4) hfu c.key;simp only [Ky.cells] at ek;have e90:((9:Int) != 0)=true:=rfl;have e00:((0:Int) != 0)=false:=rfl;rw [Ek,Dj _ _ _ (by omega)]
 cases e3:XX c.subj
 ·have hb:A4 c=6:=by unfold A4;rw [A5 e1,A5 e2,Bu e3]
  rw [e3] at v1;rw [←Et hb (by omega)]
  try unfold Aa
  repeat first
   |((with_reducible first|apply As|apply Ak|apply At|apply Ao|apply Aw|apply Bc|apply Dn|apply Aj);· first|with_reducible rfl|(simp (disch:=omega) only [v1,Ck,Cn]<;>with_reducible rfl))
   |((with_reducible first|apply Ap|apply Ar);· first|with_reducible rfl|omega|(simp (disch:=omega) only [gT,v1,Ck,Cn]<;>omega))
   |(with_reducible apply Aq;· first|with_reducible rfl|(simp (disch:=omega) only [gF,v1,Ck,Cn]<;>omega))
  try simp (disch:=omega) only [v1,Ck,Cn]
 rw [e3] at v1;cases e4:XX c.iss
 ·have hb:A4 c=6:=by unfold A4;rw [A5 e1,A5 e2,A5 (by simp [e3]),Bu e4]
  rw [e4] at v2;rw [←Et hb (by omega)]
  try unfold Aa
  repeat first
   |((with_reducible first|apply As|apply Ak|apply At|apply Ao|apply Aw|apply Bc|apply Dn|apply Aj);· first|with_reducible rfl|(simp (disch:=omega) only [v1,v2,Ck,Cn]<;>with_reducible rfl))
   |((with_reducible first|apply Ap|apply Ar);· first|with_reducible rfl|omega|(simp (disch:=omega) only [gT,v1,v2,Ck,Cn]<;>omega))
   |(with_reducible apply Aq;· first|with_reducible rfl|(simp (disch:=omega) only [gF,v1,v2,Ck,Cn]<;>omega))
  try simp (disch:=omega) only [v1,v2,Ck,Cn]
 rw [e4] at v2;cases e5:Dh c.key.h
 rotate_left
 ·have hb:A4 c=9:=by unfold A4;rw [A5 e1,A5 e2,A5 (by simp [e3]),A5 (by simp [e4]),Bu e5]
  rw [e5,Bu rfl] at ek;rw [←Et hb (by omega)]
  try unfold Aa
  repeat first
   |((with_reducible first|apply As|apply Ak|apply At|apply Ao|apply Aw|apply Bc|apply Dn|apply Aj);· first|with_reducible rfl|(simp (disch:=omega) only [v1,v2,ek,e90,Ck,Cn]<;>with_reducible rfl))
   |((with_reducible first|apply Ap|apply Ar);· first|with_reducible rfl|omega|(simp (disch:=omega) only [gT,v1,v2,ek,e90,Ck,Cn]<;>omega))
   |(with_reducible apply Aq;· first|with_reducible rfl|(simp (disch:=omega) only [gF,v1,v2,ek,e90,Ck,Cn]<;>omega))
  try simp (disch:=omega) only [v1,v2,ek,e90,Ck,Cn]
 rw [e5,A5 (by simp)] at ek
 have B0:A4 c=if c.fr<0 then 9 else if c.un<c.fr then 9 else if c.un>1099511627776 then 9 else if c.path<0∨2<c.path then 9 else if c.path≠0∧c.auth=false then 4 else 0:=by
  unfold A4;rw [A5 e1,A5 e2,A5 (by simp [e3]),A5 (by simp [e4]),A5 (by simp [e5])]
 by_cases e6:c.fr<0
 ·have hb:A4 c=9:=by rw [B0,Bu e6]
  rw [←Et hb (by omega)]
  try unfold Aa
  repeat first
   |((with_reducible first|apply As|apply Ak|apply At|apply Ao|apply Aw|apply Bc|apply Dn|apply Aj);· first|with_reducible rfl|(simp (disch:=omega) only [v1,v2,ek,e00,Ck,Cn]<;>with_reducible rfl))
   |((with_reducible first|apply Ap|apply Ar);· first|with_reducible rfl|omega|(simp (disch:=omega) only [gT,v1,v2,ek,e00,Ck,Cn]<;>omega))
   |(with_reducible apply Aq;· first|with_reducible rfl|(simp (disch:=omega) only [gF,v1,v2,ek,e00,Ck,Cn]<;>omega))
  try simp (disch:=omega) only [v1,v2,ek,e00,Ck,Cn]
 by_cases e7:c.un<c.fr
 ·have hb:A4 c=9:=by rw [B0,A5 e6,Bu e7]
  rw [←Et hb (by omega)]
  try unfold Aa
  repeat first
   |((with_reducible first|apply As|apply Ak|apply At|apply Ao|apply Aw|apply Bc|apply Dn|apply Aj);· first|with_reducible rfl|(simp (disch:=omega) only [v1,v2,ek,e00,Ck,Cn]<;>with_reducible rfl))
   |((with_reducible first|apply Ap|apply Ar);· first|with_reducible rfl|omega|(simp (disch:=omega) only [gT,v1,v2,ek,e00,Ck,Cn]<;>omega))
   |(with_reducible apply Aq;· first|with_reducible rfl|(simp (disch:=omega) only [gF,v1,v2,ek,e00,Ck,Cn]<;>omega))
  try simp (disch:=omega) only [v1,v2,ek,e00,Ck,Cn]
 by_cases e8:c.un>1099511627776
 ·have hb:A4 c=9:=by rw [B0,A5 e6,A5 e7,Bu e8]
  rw [←Et hb (by omega)]
  try unfold Aa
  repeat first
   |((with_reducible first|apply As|apply Ak|apply At|apply Ao|apply Aw|apply Bc|apply Dn|apply Aj);· first|with_reducible rfl|(simp (disch:=omega) only [v1,v2,ek,e00,Ck,Cn]<;>with_reducible rfl))
   |((with_reducible first|apply Ap|apply Ar);· first|with_reducible rfl|omega|(simp (disch:=omega) only [gT,v1,v2,ek,e00,Ck,Cn]<;>omega))
   |(with_reducible apply Aq;· first|with_reducible rfl|(simp (disch:=omega) only [gF,v1,v2,ek,e00,Ck,Cn]<;>omega))
  try simp (disch:=omega) only [v1,v2,ek,e00,Ck,Cn]
 by_cases e9:c.path<0∨2<c.path
 ·have hb:A4 c=9:=by rw [B0,A5 e6,A5 e7,A5 e8,Bu e9]
  rw [←Et hb (by omega)]
  by_cases e9':c.path<0
  ·skip
   try unfold Aa
   repeat first
    |((with_reducible first|apply As|apply Ak|apply At|apply Ao|apply Aw|apply Bc|apply Dn|apply Aj);· first|with_reducible rfl|(simp (disch:=omega) only [v1,v2,ek,e00,Ck,Cn]<;>with_reducible rfl))
    |((with_reducible first|apply Ap|apply Ar);· first|with_reducible rfl|omega|(simp (disch:=omega) only [gT,v1,v2,ek,e00,Ck,Cn]<;>omega))
    |(with_reducible apply Aq;· first|with_reducible rfl|(simp (disch:=omega) only [gF,v1,v2,ek,e00,Ck,Cn]<;>omega))
   try simp (disch:=omega) only [v1,v2,ek,e00,Ck,Cn]
  ·skip
   try unfold Aa
   repeat first
    |((with_reducible first|apply As|apply Ak|apply At|apply Ao|apply Aw|apply Bc|apply Dn|apply Aj);· first|with_reducible rfl|(simp (disch:=omega) only [v1,v2,ek,e00,Ck,Cn]<;>with_reducible rfl))
    |((with_reducible first|apply Ap|apply Ar);· first|with_reducible rfl|omega|(simp (disch:=omega) only [gT,v1,v2,ek,e00,Ck,Cn]<;>omega))
    |(with_reducible apply Aq;· first|with_reducible rfl|(simp (disch:=omega) only [gF,v1,v2,ek,e00,Ck,Cn]<;>omega))
   try simp (disch:=omega) only [v1,v2,ek,e00,Ck,Cn]
 by_cases e10:c.path≠0∧c.auth=false
 ·have hb:A4 c=4:=by rw [B0,A5 e6,A5 e7,A5 e8,A5 e9,Bu e10]
  have ea:=e10.2;have ep:(c.path != 0)=true:=by simp [e10.1]
  rw [←Et hb (by omega)]
  try unfold Aa
  repeat first
   |((with_reducible first|apply As|apply Ak|apply At|apply Ao|apply Aw|apply Bc|apply Dn|apply Aj);· first|with_reducible rfl|(simp (disch:=omega) only [v1,v2,ek,e00,ep,ea,Ck,Cn]<;>with_reducible rfl))
   |((with_reducible first|apply Ap|apply Ar);· first|with_reducible rfl|omega|(simp (disch:=omega) only [gT,v1,v2,ek,e00,ep,ea,Ck,Cn]<;>omega))
   |(with_reducible apply Aq;· first|with_reducible rfl|(simp (disch:=omega) only [gF,v1,v2,ek,e00,ep,ea,Ck,Cn]<;>omega))
  try simp (disch:=omega) only [v1,v2,ek,e00,ep,ea,Ck,Cn]
 have hz:A4 c=0:=by rw [B0,A5 e6,A5 e7,A5 e8,A5 e9,A5 e10]
 have hfl:=GS hw hz
 have ar:=Aaj (fu:=fu) (d:=d) hfu (vs:=(Wb c).map fun x=>[x]) (by
  intro v hv;obtain ⟨x,hx,rfl⟩:=List.mem_map.1 hv;exact ⟨Adz (hfl x hx),by simp⟩) (by simp [Wb]) (Z7 hw hz) (by simp [Wb])
 have en:=YC (fu:=fu) (d:=d+1) hfu (l:=Bb c) (by simp [Bb]) (by simp [Bb];omega) (Z7 hw hz) (fun x hx=>(Z5 hw hz x hx).1) (Nat.le_trans (Ju hz) (by omega))
 have ar':Ae C0 Tryz.prog fu (d+6) Ua [.lst false 1 9 [.lst false 3 1 (Ci [⟨4,0,c.subj⟩]),.lst false 3 1 (Ci [⟨4,0,c.iss⟩]),.lst false 3 1 (Ci [⟨1,c.serial,Gl⟩]),.lst false 3 1 (Ci [⟨3,0,Cd (Jn c.key)⟩]),.lst false 3 1 (Ci [⟨1,c.fr,Gl⟩]),.lst false 3 1 (Ci [⟨1,c.un,Gl⟩]),.lst false 3 1 (Ci [⟨7,(if c.auth=true then 1 else 0),Gl⟩]),.lst false 3 1 (Ci [⟨1,c.path,Gl⟩]),.lst false 3 1 (Ci [⟨1,c.model,Gl⟩])]]=some ⟨[.own 3 10 (Ci (Bb c)),.sc (.int .i64 0)],[]⟩:=ar
 have en':Ae C0 Tryz.prog fu (d+1+5) Rs [.lst false 3 10 (Ci (Bb c))]=some ⟨[.own 1 (Bf (Bb c)).length (Af .u8 (Bf (Bb c))),.sc (.int .i64 0)],[]⟩:=en;clear ar en hfl;have t1:=WP (fu:=fu) (d:=d+5) c.subj;have t2:=WP (fu:=fu) (d:=d+5) c.iss;have u1:=Wg (fu:=fu) (d:=d+5) c.serial;have u2:=Wg (fu:=fu) (d:=d+5) c.fr;have u3:=Wg (fu:=fu) (d:=d+5) c.un;have u4:=Wg (fu:=fu) (d:=d+5) c.path;have u5:=Wg (fu:=fu) (d:=d+5) c.model;have bo:=Agt (fu:=fu) (d:=d+5) c.auth;have by_:=Ae0 (fu:=fu) (d:=d+5) (Jn c.key);have k9:(Jn c.key).length=9:=rfl;rw [k9] at by_;have L9:=Am .u8 (Jn c.key);rw [k9] at L9;have tk9:List.take 9 (Af .u8 (Jn c.key))=Af .u8 (Jn c.key):=Tp (by omega)
 have wf:wrap .u64 c.fr=c.fr:=Cq (by omega) (by omega)
 have wu:wrap .u64 c.un=c.un:=Cq (by omega) (by omega)
 have wp:wrap .u64 c.path=c.path:=Cq (by omega) (by omega)
 have R:Gv c=[.own 1 (Bf (Bb c)).length (Af .u8 (Bf (Bb c))),.sc (.int .i64 0)]:=by unfold Gv;rw [hz,Bu rfl]
 have LB:=Am .u8 (Bf (Bb c));have tB:=J7 .u8 (Bf (Bb c));rw [R];generalize Bf (Bb c)=W at en' LB tB ⊢;have LI:(Ci (Bb c)).length=30:=rfl;have tI:List.take 30 (Ci (Bb c))=Ci (Bb c):=rfl;generalize Ci (Bb c)=I at ar' en' LI tI;have K:∀x:It,List.take 3 (Ci [x])=Ci [x]:=fun _=>rfl
 have N:∀x:It,(Ci [x]).length=3:=fun _=>rfl
 have K1:=K ⟨4,0,c.subj⟩;have K2:=K ⟨4,0,c.iss⟩;have K3:=K ⟨1,c.serial,Gl⟩;have K4:=K ⟨3,0,Cd (Jn c.key)⟩;have K5:=K ⟨1,c.fr,Gl⟩;have K6:=K ⟨1,c.un,Gl⟩;have K7:=K ⟨7,(if c.auth=true then 1 else 0),Gl⟩
 have K8:=K ⟨1,c.path,Gl⟩;have K9:=K ⟨1,c.model,Gl⟩;have N1:=N ⟨4,0,c.subj⟩;have N2:=N ⟨4,0,c.iss⟩;have N3:=N ⟨1,c.serial,Gl⟩;have N4:=N ⟨3,0,Cd (Jn c.key)⟩;have N5:=N ⟨1,c.fr,Gl⟩;have N6:=N ⟨1,c.un,Gl⟩;have N7:=N ⟨7,(if c.auth=true then 1 else 0),Gl⟩
 have N8:=N ⟨1,c.path,Gl⟩;have N9:=N ⟨1,c.model,Gl⟩;generalize Ci [⟨4,0,c.subj⟩]=T1 at *
 generalize Ci [⟨4,0,c.iss⟩]=T2 at *
 generalize Ci [⟨1,c.serial,Gl⟩]=T3 at *
 generalize Ci [⟨3,0,Cd (Jn c.key)⟩]=T4 at *
 generalize Ci [⟨1,c.fr,Gl⟩]=T5 at *
 generalize Ci [⟨1,c.un,Gl⟩]=T6 at *
 generalize Ci [⟨7,(if c.auth=true then 1 else 0),Gl⟩]=T7 at *
 generalize Ci [⟨1,c.path,Gl⟩]=T8 at *
 generalize Ci [⟨1,c.model,Gl⟩]=T9 at *
 generalize Af .u8 (Jn c.key)=KB at *
 by_cases ep:c.path=0
 ·have ep':(c.path != 0)=false:=by simp [ep]
  try unfold Aa
  repeat first
   |((with_reducible first|apply As|apply Ak|apply At|apply Ao|apply Aw|apply Bc|apply Dn|apply Aj);· first|with_reducible rfl|(simp (disch:=omega) only [v1,v2,ek,e00,ep',t1,t2,u1,u2,u3,u4,u5,bo,by_,wf,wu,wp,L9,tk9,K1,K2,K3,K4,K5,K6,K7,K8,K9,N1,N2,N3,N4,N5,N6,N7,N8,N9,Br,Nat.one_mul,B8,Nat.reduceMul,E6,ar',LI,tI,en',LB,tB,Ck,Cn]<;>with_reducible rfl))
   |((with_reducible first|apply Ap|apply Ar);· first|with_reducible rfl|omega|(simp (disch:=omega) only [gT,v1,v2,ek,e00,ep',t1,t2,u1,u2,u3,u4,u5,bo,by_,wf,wu,wp,L9,tk9,K1,K2,K3,K4,K5,K6,K7,K8,K9,N1,N2,N3,N4,N5,N6,N7,N8,N9,Br,Nat.one_mul,B8,Nat.reduceMul,E6,ar',LI,tI,en',LB,tB,Ck,Cn]<;>omega))
   |(with_reducible apply Aq;· first|with_reducible rfl|(simp (disch:=omega) only [gF,v1,v2,ek,e00,ep',t1,t2,u1,u2,u3,u4,u5,bo,by_,wf,wu,wp,L9,tk9,K1,K2,K3,K4,K5,K6,K7,K8,K9,N1,N2,N3,N4,N5,N6,N7,N8,N9,Br,Nat.one_mul,B8,Nat.reduceMul,E6,ar',LI,tI,en',LB,tB,Ck,Cn]<;>omega))
  try simp (disch:=omega) only [v1,v2,ek,e00,ep',t1,t2,u1,u2,u3,u4,u5,bo,by_,wf,wu,wp,L9,tk9,K1,K2,K3,K4,K5,K6,K7,K8,K9,N1,N2,N3,N4,N5,N6,N7,N8,N9,Br,Nat.one_mul,B8,Nat.reduceMul,E6,ar',LI,tI,en',LB,tB,Ck,Cn]
 ·have ea:c.auth=true:=by
   cases h:c.auth
   ·exact absurd ⟨ep,h⟩ e10
   ·rfl
  have ep':(c.path != 0)=true:=by simp [ep]
  rw [ea] at bo
  try unfold Aa
  repeat first
   |((with_reducible first|apply As|apply Ak|apply At|apply Ao|apply Aw|apply Bc|apply Dn|apply Aj);· first|with_reducible rfl|(simp (disch:=omega) only [v1,v2,ek,e00,ep',ea,t1,t2,u1,u2,u3,u4,u5,bo,by_,wf,wu,wp,L9,tk9,K1,K2,K3,K4,K5,K6,K7,K8,K9,N1,N2,N3,N4,N5,N6,N7,N8,N9,Br,Nat.one_mul,B8,Nat.reduceMul,E6,ar',LI,tI,en',LB,tB,Ck,Cn]<;>with_reducible rfl))
   |((with_reducible first|apply Ap|apply Ar);· first|with_reducible rfl|omega|(simp (disch:=omega) only [gT,v1,v2,ek,e00,ep',ea,t1,t2,u1,u2,u3,u4,u5,bo,by_,wf,wu,wp,L9,tk9,K1,K2,K3,K4,K5,K6,K7,K8,K9,N1,N2,N3,N4,N5,N6,N7,N8,N9,Br,Nat.one_mul,B8,Nat.reduceMul,E6,ar',LI,tI,en',LB,tB,Ck,Cn]<;>omega))
   |(with_reducible apply Aq;· first|with_reducible rfl|(simp (disch:=omega) only [gF,v1,v2,ek,e00,ep',ea,t1,t2,u1,u2,u3,u4,u5,bo,by_,wf,wu,wp,L9,tk9,K1,K2,K3,K4,K5,K6,K7,K8,K9,N1,N2,N3,N4,N5,N6,N7,N8,N9,Br,Nat.one_mul,B8,Nat.reduceMul,E6,ar',LI,tI,en',LB,tB,Ck,Cn]<;>omega))
  try simp (disch:=omega) only [v1,v2,ek,e00,ep',ea,t1,t2,u1,u2,u3,u4,u5,bo,by_,wf,wu,wp,L9,tk9,K1,K2,K3,K4,K5,K6,K7,K8,K9,N1,N2,N3,N4,N5,N6,N7,N8,N9,Br,Nat.one_mul,B8,Nat.reduceMul,E6,ar',LI,tI,en',LB,tB,Ck,Cn]
theorem Aa1 (hfu:1000<=fu){c:Ce}(hw:c.wf)(hs1:c.subj.size<=9223372036854775807)(hs2:c.iss.size<=9223372036854775807)(nn:Nat)(hn:3<=nn):
  Fj fu (Ae C0 Tryz.prog fu (d+6)) c.subj c.iss c.serial c.key.h c.key.root c.fr c.un c.auth c.path c.model c.sig.leaf c.sig.chains.length (Af .u64 c.sig.chains) c.sig.path.length (Af .u64 c.sig.path) nn c.subj c.iss 0 c.subj c.iss c.serial c.key.h c.key.root c.fr c.un c.auth c.path c.model c.sig.leaf c.sig.chains.length (Af .u64 c.sig.chains) c.sig.path.length (Af .u64 c.sig.path)=some ⟨Gv c,[]⟩:=by
 obtain ⟨m,rfl⟩:∃m,nn=m+1+1+1:=⟨nn-3,by omega⟩
 have g0:List.getD [PV.sc (Value.string c.subj),PV.sc (Value.string c.iss)] (Int.toNat (0:Int)*1) PV.top=.sc (.string c.subj):=rfl;have g1:List.getD [PV.sc (Value.string c.subj),PV.sc (Value.string c.iss)] (Int.toNat (1:Int)*1) PV.top=.sc (.string c.iss):=rfl;have i1:wrap .i64 ((0:Int)+1)=1:=rfl;have i2:wrap .i64 ((1:Int)+1)=2:=rfl;by_cases e1:c.subj.size<1∨32<c.subj.size
 ·have hb:A4 c=9:=by unfold A4;rw [Bu e1]
  rw [←Et hb (by omega),Ek]
  by_cases e1':c.subj.size<1
  ·skip
   try unfold Aa
   repeat first
    |((with_reducible first|apply As|apply Ak|apply At|apply Ao|apply Aw|apply Bc|apply Dn|apply Aj);· first|with_reducible rfl|(simp (disch:=omega) only [g0]<;>with_reducible rfl))
    |((with_reducible first|apply Ap|apply Ar);· first|with_reducible rfl|omega|(simp (disch:=omega) only [gT,g0]<;>omega))
    |(with_reducible apply Aq;· first|with_reducible rfl|(simp (disch:=omega) only [gF,g0]<;>omega))
   try simp (disch:=omega) only [g0]
  ·skip
   try unfold Aa
   repeat first
    |((with_reducible first|apply As|apply Ak|apply At|apply Ao|apply Aw|apply Bc|apply Dn|apply Aj);· first|with_reducible rfl|(simp (disch:=omega) only [g0]<;>with_reducible rfl))
    |((with_reducible first|apply Ap|apply Ar);· first|with_reducible rfl|omega|(simp (disch:=omega) only [gT,g0]<;>omega))
    |(with_reducible apply Aq;· first|with_reducible rfl|(simp (disch:=omega) only [gF,g0]<;>omega))
   try simp (disch:=omega) only [g0]
 rw [Ek];by_cases e2:c.iss.size<1∨32<c.iss.size
 ·have hb:A4 c=9:=by unfold A4;rw [A5 e1,Bu e2]
  rw [←Et hb (by omega)]
  try unfold Aa
  repeat first
   |((with_reducible first|apply As|apply Ak|apply At|apply Ao|apply Aw|apply Bc|apply Dn|apply Aj);· first|with_reducible rfl|(simp (disch:=omega) only [g0,i1]<;>with_reducible rfl))
   |((with_reducible first|apply Ap|apply Ar);· first|with_reducible rfl|omega|(simp (disch:=omega) only [gT,g0,i1]<;>omega))
   |(with_reducible apply Aq;· first|with_reducible rfl|(simp (disch:=omega) only [gF,g0,i1]<;>omega))
  try simp (disch:=omega) only [g0,i1]
  rw [Ek];by_cases e2':c.iss.size<1
  ·skip
   try unfold Aa
   repeat first
    |((with_reducible first|apply As|apply Ak|apply At|apply Ao|apply Aw|apply Bc|apply Dn|apply Aj);· first|with_reducible rfl|(simp (disch:=omega) only [g1]<;>with_reducible rfl))
    |((with_reducible first|apply Ap|apply Ar);· first|with_reducible rfl|omega|(simp (disch:=omega) only [gT,g1]<;>omega))
    |(with_reducible apply Aq;· first|with_reducible rfl|(simp (disch:=omega) only [gF,g1]<;>omega))
   try simp (disch:=omega) only [g1]
  ·skip
   try unfold Aa
   repeat first
    |((with_reducible first|apply As|apply Ak|apply At|apply Ao|apply Aw|apply Bc|apply Dn|apply Aj);· first|with_reducible rfl|(simp (disch:=omega) only [g1]<;>with_reducible rfl))
    |((with_reducible first|apply Ap|apply Ar);· first|with_reducible rfl|omega|(simp (disch:=omega) only [gT,g1]<;>omega))
    |(with_reducible apply Aq;· first|with_reducible rfl|(simp (disch:=omega) only [gF,g1]<;>omega))
   try simp (disch:=omega) only [g1]
 try unfold Aa
 repeat first
  |((with_reducible first|apply As|apply Ak|apply At|apply Ao|apply Aw|apply Bc|apply Dn|apply Aj);· first|with_reducible rfl|(simp (disch:=omega) only [g0,i1]<;>with_reducible rfl))
  |((with_reducible first|apply Ap|apply Ar);· first|with_reducible rfl|omega|(simp (disch:=omega) only [gT,g0,i1]<;>omega))
  |(with_reducible apply Aq;· first|with_reducible rfl|(simp (disch:=omega) only [gF,g0,i1]<;>omega))
 try simp (disch:=omega) only [g0,i1]
 rw [Ek]
 try unfold Aa
 repeat first
  |((with_reducible first|apply As|apply Ak|apply At|apply Ao|apply Aw|apply Bc|apply Dn|apply Aj);· first|with_reducible rfl|(simp (disch:=omega) only [g1,i2]<;>with_reducible rfl))
  |((with_reducible first|apply Ap|apply Ar);· first|with_reducible rfl|omega|(simp (disch:=omega) only [gT,g1,i2]<;>omega))
  |(with_reducible apply Aq;· first|with_reducible rfl|(simp (disch:=omega) only [gF,g1,i2]<;>omega))
 try simp (disch:=omega) only [g1,i2]
 exact ZV hfu hw hs1 hs2 e1 e2 m
theorem KJ (hfu:1000<=fu){c:Ce}(hw:c.wf)(hs1:c.subj.size<=9223372036854775807)(hs2:c.iss.size<=9223372036854775807):Ae C0 Tryz.prog fu (d+7) Qo [.agg c.cells]=some ⟨Gv c,[]⟩:=
 (Zy fu (d+6) c.subj c.iss c.serial c.key.h c.key.root c.fr c.un c.auth c.path c.model c.sig.leaf c.sig.chains.length (Af .u64 c.sig.chains) c.sig.path.length (Af .u64 c.sig.path)).trans (Aa1 hfu hw hs1 hs2 fu (by omega))
end
end
section
open Go.IntKind (wrap)
def IX (c:Ce):List PV:=if A4 c=0 then [.sc (.int .u64 (Kg c)),.sc (.int .i64 0)] else [.sc (.int .u64 0),.sc (.int .i64 (A4 c))]
section
variable {fu d:Nat} {c:Ce}
theorem YR (hfu:1000<=fu)(hw:c.wf)(hs1:c.subj.size<=9223372036854775807)(hs2:c.iss.size<=9223372036854775807):Ae C0 Tryz.prog fu (d+8) Qe [.agg c.cells]=some ⟨IX c,[]⟩:=by
 refine (Z3 fu (d+7) c.subj c.iss c.serial c.key.h c.key.root c.fr c.un c.auth c.path c.model c.sig.leaf c.sig.chains.length (Af .u64 c.sig.chains) c.sig.path.length (Af .u64 c.sig.path)).trans ?_;have bq:=KJ (fu:=fu) (d:=d) hfu hw hs1 hs2;simp only [Ce.cells] at bq;unfold Gv at bq;unfold IX;by_cases h0:A4 c=0
 ·have lb:=Ju h0;rw [Bu h0] at bq;rw [Bu h0];have e00:((0:Int) != 0)=false:=rfl;have hh:=Ade (xs:=Kr) (fu:=fu) (d:=d+2) (Xg hw h0) (by omega) (by omega) (by omega) 14
  have eW:Nb 14 (Bf (Bb c))=Kg c:=rfl;rw [eW] at hh;have L1:=Am .u8 (Bf (Bb c));have t1:=J7 .u8 (Bf (Bb c));generalize (Bf (Bb c)).length=n1 at *
  generalize Af .u8 (Bf (Bb c))=c1 at *
  try unfold Aa
  repeat first
   |((with_reducible first|apply As|apply Ak|apply At|apply Bc|apply Aj);· first|with_reducible rfl|(simp (disch:=omega) only [bq,e00,B8,Br,E6,L1,t1,hh]<;>with_reducible rfl))
   |((with_reducible first|apply Ap|apply Ar);· first|with_reducible rfl|omega|(simp (disch:=omega) only [gT,bq,e00,B8,Br,E6,L1,t1,hh]<;>omega))
   |(with_reducible apply Aq;· first|with_reducible rfl|(simp (disch:=omega) only [gF,bq,e00,B8,Br,E6,L1,t1,hh]<;>omega))
  try simp (disch:=omega) only [bq,e00,B8,Br,E6,L1,t1,hh]
  all_goals rfl
 ·have hne:(A4 c != 0)=true:=by simp [h0]
  rw [A5 h0] at bq;rw [A5 h0]
  try unfold Aa
  repeat first
   |((with_reducible first|apply As|apply Ak|apply At|apply Bc|apply Aj);· first|with_reducible rfl|(simp (disch:=omega) only [bq,hne]<;>with_reducible rfl))
   |((with_reducible first|apply Ap|apply Ar);· first|with_reducible rfl|omega|(simp (disch:=omega) only [gT,bq,hne]<;>omega))
   |(with_reducible apply Aq;· first|with_reducible rfl|(simp (disch:=omega) only [gF,bq,hne]<;>omega))
  try simp (disch:=omega) only [bq,hne]
  all_goals rfl
theorem WK (hfu:1000<=fu)(hw:c.wf)(hs1:c.subj.size<=9223372036854775807)(hs2:c.iss.size<=9223372036854775807)(k:Ky):Ae C0 Tryz.prog fu (d+9) M4 [.agg c.cells,.agg k.cells]=some ⟨[.sc (.int .i64 (Np c k))],[]⟩:=by
 refine (Vu fu (d+8) c.subj c.iss c.serial c.key.h c.key.root c.fr c.un c.auth c.path c.model c.sig.leaf c.sig.chains.length (Af .u64 c.sig.chains) c.sig.path.length (Af .u64 c.sig.path) k.h k.root).trans ?_;have bq:=YR (fu:=fu) (d:=d) hfu hw hs1 hs2;simp only [Ce.cells] at bq;unfold IX at bq;unfold Np;by_cases h0:A4 c=0
 ·rw [Bu h0] at bq;rw [Bu h0];have e00:((0:Int) != 0)=false:=rfl;have vr:=Afh (xs:=Kr) (fu:=fu) (d:=d) hfu k (Kg c) c.sig;simp only [Ky.cells,Sg.cells] at vr
  try unfold Aa
  repeat first
   |((with_reducible first|apply As|apply Ak|apply At|apply Bc|apply Aj);· first|with_reducible rfl|(simp (disch:=omega) only [bq,e00,vr]<;>with_reducible rfl))
   |((with_reducible first|apply Ap|apply Ar);· first|with_reducible rfl|omega|(simp (disch:=omega) only [gT,bq,e00,vr]<;>omega))
   |(with_reducible apply Aq;· first|with_reducible rfl|(simp (disch:=omega) only [gF,bq,e00,vr]<;>omega))
  try simp (disch:=omega) only [bq,e00,vr]
  all_goals rfl
 ·have hne:(A4 c != 0)=true:=by simp [h0]
  rw [A5 h0] at bq;rw [A5 h0]
  try unfold Aa
  repeat first
   |((with_reducible first|apply As|apply Ak|apply At|apply Bc|apply Aj);· first|with_reducible rfl|(simp (disch:=omega) only [bq,hne]<;>with_reducible rfl))
   |((with_reducible first|apply Ap|apply Ar);· first|with_reducible rfl|omega|(simp (disch:=omega) only [gT,bq,hne]<;>omega))
   |(with_reducible apply Aq;· first|with_reducible rfl|(simp (disch:=omega) only [gF,bq,hne]<;>omega))
  try simp (disch:=omega) only [bq,hne]
  all_goals rfl
theorem Acv (hfu:1000<=fu)(hw:c.wf)(hs1:c.subj.size<=9223372036854775807)(hs2:c.iss.size<=9223372036854775807)(hp:c.sig.path.length<=1000000000)(hf:c.sig.path.length<fu):Ae C0 Tryz.prog fu (d+8) M1 [.agg c.cells]=some ⟨SM c,[]⟩:=by
 refine (Wl fu (d+7) c.subj c.iss c.serial c.key.h c.key.root c.fr c.un c.auth c.path c.model c.sig.leaf c.sig.chains.length (Af .u64 c.sig.chains) c.sig.path.length (Af .u64 c.sig.path)).trans ?_;have bq:=KJ (fu:=fu) (d:=d) hfu hw hs1 hs2;simp only [Ce.cells] at bq;have es:=Aer (xs:=Kr) (fu:=fu) (d:=d+5) hfu c.sig hp hf;simp only [Sg.cells] at es;unfold Gv at bq;unfold SM Fe;by_cases h0:A4 c=0
 ·have lb:=Ju h0;rw [Bu h0] at bq;rw [Bu h0];have L1:=Am .u8 (Bf (Bb c));have t1:=J7 .u8 (Bf (Bb c));have e00:((0:Int) != 0)=false:=rfl;have e90:((9:Int) != 0)=true:=rfl;have e40:((4:Int) != 0)=true:=rfl;unfold LY;by_cases g1:Dh c.sig.path.length=true
  ·rw [Bu g1] at es;rw [Bu g1,A5 (by omega)]
   try unfold Aa
   repeat first
    |((with_reducible first|apply As|apply Ak|apply At|apply Bc|apply Aj);· first|with_reducible rfl|(simp (disch:=omega) only [bq,es,e00,e90]<;>with_reducible rfl))
    |((with_reducible first|apply Ap|apply Ar);· first|with_reducible rfl|omega|(simp (disch:=omega) only [gT,bq,es,e00,e90]<;>omega))
    |(with_reducible apply Aq;· first|with_reducible rfl|(simp (disch:=omega) only [gF,bq,es,e00,e90]<;>omega))
   try simp (disch:=omega) only [bq,es,e00,e90]
   all_goals rfl
  rw [A5 g1] at es;rw [A5 g1];by_cases g2:Ip c.sig.leaf c.sig.path.length=true
  ·rw [Bu g2] at es;rw [Bu g2,A5 (by omega)]
   try unfold Aa
   repeat first
    |((with_reducible first|apply As|apply Ak|apply At|apply Bc|apply Aj);· first|with_reducible rfl|(simp (disch:=omega) only [bq,es,e00,e90]<;>with_reducible rfl))
    |((with_reducible first|apply Ap|apply Ar);· first|with_reducible rfl|omega|(simp (disch:=omega) only [gT,bq,es,e00,e90]<;>omega))
    |(with_reducible apply Aq;· first|with_reducible rfl|(simp (disch:=omega) only [gF,bq,es,e00,e90]<;>omega))
   try simp (disch:=omega) only [bq,es,e00,e90]
   all_goals rfl
  rw [A5 g2] at es;rw [A5 g2];by_cases g3:c.sig.chains.length≠18
  ·rw [Bu g3] at es;rw [Bu g3,A5 (by omega)]
   try unfold Aa
   repeat first
    |((with_reducible first|apply As|apply Ak|apply At|apply Bc|apply Aj);· first|with_reducible rfl|(simp (disch:=omega) only [bq,es,e00,e40]<;>with_reducible rfl))
    |((with_reducible first|apply Ap|apply Ar);· first|with_reducible rfl|omega|(simp (disch:=omega) only [gT,bq,es,e00,e40]<;>omega))
    |(with_reducible apply Aq;· first|with_reducible rfl|(simp (disch:=omega) only [gF,bq,es,e00,e40]<;>omega))
   try simp (disch:=omega) only [bq,es,e00,e40]
   all_goals rfl
  rw [A5 g3] at es;rw [A5 g3,Bu rfl];have hb4:=H2 (h:=c.sig.path.length) (by simpa using g1)
  have ls:(FG c.sig).length=2+8*c.sig.chains.length+8*c.sig.path.length:=by
   unfold FG;simp only [Jd,Kh,Dm];omega
  have L2:=Am .u8 (FG c.sig);have t2:=J7 .u8 (FG c.sig)
  have ea:Af .u8 (Bf (Bb c))++Af .u8 (FG c.sig)=Af .u8 (H4 c):=by
   unfold H4;rw [Af,Af,Af,List.flatMap_append]
  have le:(H4 c).length=(Bf (Bb c)).length+(FG c.sig).length:=by unfold H4;rw [Kh]
  have L3:=Am .u8 (H4 c);have t3:List.take ((Bf (Bb c)).length+(FG c.sig).length) (Af .u8 (H4 c))=Af .u8 (H4 c):=Tp (by omega)
  rw [le] at L3 ⊢;generalize (Bf (Bb c)).length=n1 at *
  generalize (FG c.sig).length=n2 at *
  generalize Af .u8 (Bf (Bb c))=c1 at *
  generalize Af .u8 (FG c.sig)=c2 at *
  try unfold Aa
  repeat first
   |((with_reducible first|apply As|apply Ak|apply At|apply Bc|apply Aj);· first|with_reducible rfl|(simp (disch:=omega) only [bq,es,e00,B8,Br,E6,L1,t1,L2,t2,ea,L3,t3]<;>with_reducible rfl))
   |((with_reducible first|apply Ap|apply Ar);· first|with_reducible rfl|omega|(simp (disch:=omega) only [gT,bq,es,e00,B8,Br,E6,L1,t1,L2,t2,ea,L3,t3]<;>omega))
   |(with_reducible apply Aq;· first|with_reducible rfl|(simp (disch:=omega) only [gF,bq,es,e00,B8,Br,E6,L1,t1,L2,t2,ea,L3,t3]<;>omega))
  try simp (disch:=omega) only [bq,es,e00,B8,Br,E6,L1,t1,L2,t2,ea,L3,t3]
  all_goals rfl
 ·have hne:(A4 c != 0)=true:=by simp [h0]
  rw [A5 h0] at bq;rw [A5 h0,A5 h0]
  try unfold Aa
  repeat first
   |((with_reducible first|apply As|apply Ak|apply At|apply Bc|apply Aj);· first|with_reducible rfl|(simp (disch:=omega) only [bq,hne]<;>with_reducible rfl))
   |((with_reducible first|apply Ap|apply Ar);· first|with_reducible rfl|omega|(simp (disch:=omega) only [gT,bq,hne]<;>omega))
   |(with_reducible apply Aq;· first|with_reducible rfl|(simp (disch:=omega) only [gF,bq,hne]<;>omega))
  try simp (disch:=omega) only [bq,hne]
  all_goals rfl
end
end
section
open Go.IntKind (wrap)
theorem aci {its:List It}{i:Nat}{x:It}(h:its[i]?=some x):(Ci its).getD (i*3) .top=.sc (.int .i64 x.k)∧(Ci its).getD (i*3+1) .top=.sc (.int .u64 x.n)∧(Ci its).getD (i*3+2) .top=.sc (.string x.s):=
 ⟨Ei It.cells_len h (j:=0) (by omega),Ei It.cells_len h (j:=1) (by omega),Ei It.cells_len h (j:=2) (by omega)⟩
def Ns:List Int:=[5,4,4,1,3,1,1,7,1,1]
def Uw (its:List It):Bool:=its.map (·.k)==Ns
section
variable {fu d:Nat}
theorem GV {call:Ah}{a0n:Nat}{a0:List PV}{its:List It}(h10:its.length=10):∀(r:List It)(rk:List Int)(i nn:Nat),its.drop i=r->Ns.drop i=rk->r.length<nn->i<=10 ->
  F4 fu call a0n a0 nn its.length (Ci its) (its.length:Int) (i:Int) (Af .i64 Ns)=some ⟨[.sc (.bool (r.map (·.k)==rk))],[]⟩
 |_,_,_,0,_,_,h,_=>by omega
 |[],rk,i,nn+1,h,hk,hn,hi=>by
  have:=drop_nil h;obtain rfl:i=10:=by omega
  subst hk;rw [Jq,Dj _ _ _ (by omega)]
  rfl
 |x::r,rk,i,nn+1,h,hk,hn,hi=>by
  obtain ⟨h1,h2,h3⟩:=B3 h;simp only [Jd] at hn;obtain ⟨k,hk1⟩:∃k,Ns[i]?=some k:=⟨_,List.getElem?_eq_getElem (by show i<10;omega)⟩
  have hk2:rk=k::Ns.drop (i+1):=by
   rw [←hk,List.drop_eq_getElem_cons (by show i<10;omega)]
   congr 1
   rw [List.getElem?_eq_getElem (by show i<10;omega)] at hk1
   injection hk1
  subst hk2;have w:wrap .i64 ((i:Int)+1)=((i+1:Nat):Int):=by rw [Al (by omega) (by omega)];omega
  obtain ⟨c0,c1,c2⟩:=aci h2;have ck:=Vg (k:=.i64) hk1;have ih:=GV (call:=call) (a0n:=a0n) (a0:=a0) h10 r _ (i+1) nn h3 rfl (by omega) (by omega)
  rw [Jq,Zzw];by_cases e:x.k=k
  ·have b0:(x.k != k)=false:=by simp [e]
   have e1:(x.k::List.map (·.k) r==k::Ns.drop (i+1))=(List.map (·.k) r==Ns.drop (i+1)):=by simp [e]
   rw [e1,←ih];simp (disch:=omega) only [Bz,Gu,B8,Br,c0,c1,c2,ck,b0,w]
  ·have b0:(x.k != k)=true:=by simp [e]
   have e1:(x.k::List.map (·.k) r==k::Ns.drop (i+1))=false:=by simp [e]
   rw [e1];simp (disch:=omega) only [Bz,Gu,B8,Br,c0,c1,c2,ck,b0,w]
theorem Ad2 (hfu:1000<=fu)(its:List It):Ae C0 Tryz.prog fu (d+1) My [.lst false 3 its.length (Ci its)]=some ⟨[.sc (.bool (Uw its))],[]⟩:=by
 rw [Wq];show Hu _ _ _ _ _ _ _=_;rw [Sj (hnn:=by omega),Tk (hnn:=by omega)]
 by_cases h:its.length=10
 ·have b0:((its.length:Int) != 10)=false:=by simp;omega
  rw [b0,Abx];exact GV (call:=Ae C0 Tryz.prog fu d) h its Ns 0 fu rfl rfl (by omega) (by omega)
 ·have b0:((its.length:Int) != 10)=true:=by simp;omega
  have e:Uw its=false:=by
   unfold Uw;cases q:(its.map (·.k)==Ns)
   ·rfl
   ·have:=congrArg List.length (eq_of_beq q);simp [Ns] at this;omega
  rw [b0,ZU,e]
theorem Abp {a b:List Int}(ha:Kw a)(hb:Kw b)(h:(a.map fun n=>n.toNat.toUInt8)=(b.map fun n=>n.toNat.toUInt8)):a=b:=by
 have e:Cd a=Cd b:=by unfold Cd;rw [h]
 rw [←O4 ha,←O4 hb,e]
theorem Aw6 {a b:List Int}(ha:Kw a)(hb:Kw b):(Array.toList (ByteArray.data (ByteArray.mk (List.toArray (a.map fun n=>n.toNat.toUInt8))))==Array.toList (ByteArray.data (ByteArray.mk (List.toArray (b.map fun n=>n.toNat.toUInt8)))))=decide (a=b):=by
 by_cases h:a=b
 ·subst h;simp
 ·have:(List.map (fun n=>n.toNat.toUInt8) a)≠(List.map (fun n=>n.toNat.toUInt8) b):=fun e=>h (Abp ha hb e)
  simp only [h,decide_false]
  simpa using this
theorem OG {a b:List Int}(ha:Kw a)(hb:Kw b):Ae C0 Tryz.prog fu (d+1) Yz [.lst false 1 a.length (Af .u8 a),.lst false 1 b.length (Af .u8 b)]=some ⟨[.sc (.bool (decide (a=b)))],[]⟩:=by
 rw [OQ];have La:=Am .u8 a;have Lb:=Am .u8 b;have ba:=Hf a;have bb:=Hf b;have q:=Aw6 ha hb;simp (disch:=omega) only [Bz,La,Lb,ba,bb,q]
end
structure Ce.ok (c:Ce):Prop where
 ser:isU c.serial
 mod:isU c.model
 root:isU c.key.root
 sg:c.sig.ok
theorem Ce.ok.wf {c:Ce}(h:c.ok):c.wf:=⟨h.ser.1,h.mod.1⟩
def Od (x1 x2 x3 x5 x6 x7 x8 x9:It)(k:Ky)(s:Sg):Ce:=⟨x1.s,x2.s,x3.n,k,wrap .i64 x5.n,wrap .i64 x6.n,x7.n==1,wrap .i64 x8.n,x9.n,s⟩
def RB (b:List Int):Option Ce:=
 if (Jv 1000 [] 0 b 0 []).2.2≠0 then none else
 match (Jv 1000 [] 0 b 0 []).1 with
 |[_,x1,x2,x3,x4,x5,x6,x7,x8,x9]=>(match NB (I1 x4.s),sgD (b.drop (Jv 1000 [] 0 b 0 []).2.1) with|some k,some s=>some (Od x1 x2 x3 x5 x6 x7 x8 x9 k s)|_,_=>none)
 |_=>none
def SH (b:List Int):Ce × Int:=
 if b.length>512 then (ZJ,8) else match RB b with|some c=>if Fe c=0∧H4 c=b∧c.serial<=18446744073709551615∧c.model<=18446744073709551615 then (c,0) else (ZJ,2)|none=>(ZJ,2)
theorem S7 {c:Ce}(h:Fe c=0):A4 c=0∧Dh c.key.h=false∧Dh c.sig.path.length=false∧Ip c.sig.leaf c.sig.path.length=false∧c.sig.chains.length=18∧0<=c.fr∧c.fr<=c.un∧c.un<=1099511627776∧0<=c.path∧c.path<=2:=by
 unfold Fe at h;by_cases h0:A4 c=0
 rotate_left
 ·rw [A5 h0] at h;exact absurd h h0
 rw [Bu h0] at h;unfold LY at h;have hb:=h0;unfold A4 at hb
 repeat' (split at h;· cases h)
 repeat' (split at hb;· cases hb)
 refine ⟨h0,by simp_all,by simp_all,by simp_all,by omega,by omega,by omega,by omega,by omega,by omega⟩
theorem XO {c:Ce}(hc:c.ok)(h:Fe c=0){m:Nat}(hm:10<m):Jv m [] 0 (H4 c) 0 []=(Bb c,(Bf (Bb c)).length,0):=by
 obtain ⟨h0,h1,h2,h3,h4,h5,h6,h7,h8,h9⟩:=S7 h
 have r:=PC (b:=H4 c) (rest:=FG c.sig) (Bb c) [] 0 0 m [] (Z7 hc.wf h0) (by
  intro x hx;have u1:=hc.ser;have u2:=hc.mod;simp only [Bb,List.mem_cons,List.not_mem_nil,or_false] at hx;rcases hx with rfl|rfl|rfl|rfl|rfl|rfl|rfl|rfl|rfl|rfl
  all_goals simp only
  all_goals try split
  all_goals omega) rfl (by simpa [Bb] using hm)
 simpa using r
theorem KH {c:Ce}(h:Fe c=0):Od ⟨4,0,c.subj⟩ ⟨4,0,c.iss⟩ ⟨1,c.serial,Gl⟩ ⟨1,c.fr,Gl⟩ ⟨1,c.un,Gl⟩ ⟨7,(if c.auth=true then 1 else 0),Gl⟩ ⟨1,c.path,Gl⟩ ⟨1,c.model,Gl⟩ c.key c.sig=c:=by
 obtain ⟨h0,h1,h2,h3,h4,h5,h6,h7,h8,h9⟩:=S7 h;obtain ⟨subj,iss,serial,key,fr,un,auth,path,model,sig⟩:=c;simp only at *
 unfold Od;simp only;rw [Al (by omega) (by omega),Al (by omega) (by omega),Al (by omega) (by omega)]
 cases auth<;>rfl
theorem MA {c:Ce}(h:Fe c=0):(H4 c).length<=400:=by
 obtain ⟨h0,h1,h2,h3,h4,h5,h6,h7,h8,h9⟩:=S7 h;have:=Ju h0;have hb:=H2 h2;unfold H4 FG;simp only [Kh,Jd,Dm];omega
theorem Ah8 {c:Ce}(hw:c.wf)(h:Fe c=0):Kw (H4 c):=by
 intro x hx;rcases List.mem_append.1 hx with hx|hx
 ·exact Xg hw (S7 h).1 x hx
 ·exact Atr _ x hx
theorem Ag8 {c:Ce}(hc:c.ok)(h:Fe c=0):NB (I1 (Cd (Jn c.key)))=some c.key:=by
 rw [O4 Asp];exact Ad9 (S7 h).2.1 hc.root
theorem Ana {c:Ce}(hc:c.ok)(h:Fe c=0):sgD ((H4 c).drop (Bf (Bb c)).length)=some c.sig:=by
 obtain ⟨h0,h1,h2,h3,h4,h5,h6,h7,h8,h9⟩:=S7 h;unfold H4;rw [List.drop_left' rfl];exact Aln hc.sg h2 h3 h4
theorem WO {c:Ce}(hc:c.ok)(h:Fe c=0):SH (H4 c)=(c,0):=by
 have r:=XO hc h (m:=1000) (by omega)
 have k:=Ag8 hc h;have s:=Ana hc h;have cs:=KH h;have l:=MA h;have u1:=hc.ser;have u2:=hc.mod
 have:RB (H4 c)=some c:=by
  unfold RB;rw [r];simp only [Bb];simp only [Bb] at s;rw [A5 (by simp),k,s]
  simp only [cs]
 unfold SH;rw [A5 (by omega),this]
 simp only;rw [Bu ⟨h,by trivial,u1.2,u2.2⟩]
theorem JW {x1 x2 x3 x5 x6 x7 x8 x9:It}{k:Ky}{s:Sg}(h3:OkX x3)(h9:OkX x9)(hk:isU k.root)(hs:s.ok):(Od x1 x2 x3 x5 x6 x7 x8 x9 k s).ok:=⟨⟨h3.n0,h3.n1⟩,⟨h9.n0,h9.n1⟩,hk,hs⟩
theorem Akb {b:List Int}(hb:Kw b){c:Ce}(h:RB b=some c):c.ok:=by
 have ok:=(DM hb 1000 [] 0 0 [] (by omega) (by simp)).2
 unfold RB at h;split at h
 ·cases h
 ·split at h
  ·rename_i e;rw [e] at ok;split at h
   ·rename_i hk hs;cases h;exact JW (ok _ (by simp)) (ok _ (by simp)) (UA hk).2 (Abo hs).1
   ·cases h
  ·cases h
theorem Aes {b:List Int}(hB:Kw b)(hl:b.length<=512)(hn:∀c:Ce,c.ok->Fe c=0->H4 c≠b):SH b=(ZJ,2):=by
 unfold SH;rw [A5 (by omega)]
 cases h:RB b with
 |none=>rfl
 |some c=>
  simp only;rw [A5];intro ⟨h1,h2,_⟩;exact hn c (Akb hB h) h1 h2
end
section
open Go.IntKind (wrap)
def Aex (b:List Int)(used:Nat):List It->Ce × Int
 |[_,x1,x2,x3,x4,x5,x6,x7,x8,x9]=>(match NB (I1 x4.s),sgD (b.drop used) with
  |some k,some s=>if Fe (Od x1 x2 x3 x5 x6 x7 x8 x9 k s)=0∧H4 (Od x1 x2 x3 x5 x6 x7 x8 x9 k s)=b then (Od x1 x2 x3 x5 x6 x7 x8 x9 k s,0) else (ZJ,2)
  |_,_=>(ZJ,2))
 |_=>(ZJ,2)
def HN (b:List Int)(r:List It × Nat × Int):Ce × Int:=
 if b.length>512 then (ZJ,8) else if r.2.2≠0 then (ZJ,2) else if Uw r.1=false then (ZJ,2) else Aex b r.2.1 r.1
theorem VL {its:List It}(h:Uw its=true):its.length=10:=by
 have:=congrArg List.length (eq_of_beq h)
 simpa [Ns] using this
theorem Agv {its:List It}(h:its.length=10):∃x0 x1 x2 x3 x4 x5 x6 x7 x8 x9,its=[x0,x1,x2,x3,x4,x5,x6,x7,x8,x9]:=by
 match its,h with
 |[x0,x1,x2,x3,x4,x5,x6,x7,x8,x9],_=>exact ⟨x0,x1,x2,x3,x4,x5,x6,x7,x8,x9,rfl⟩
theorem Aif {c:Ce}(hc:c.ok)(h:Fe c=0):Aex (H4 c) (Bf (Bb c)).length (Bb c)=(c,0):=by
 have k:=Ag8 hc h;have s:=Ana hc h;have cs:=KH h
 have e:Aex (H4 c) (Bf (Bb c)).length (Bb c)=(match NB (I1 (Cd (Jn c.key))),sgD ((H4 c).drop (Bf (Bb c)).length) with
  |some k,some s=>if Fe (Od ⟨4,0,c.subj⟩ ⟨4,0,c.iss⟩ ⟨1,c.serial,Gl⟩ ⟨1,c.fr,Gl⟩ ⟨1,c.un,Gl⟩ ⟨7,(if c.auth=true then 1 else 0),Gl⟩ ⟨1,c.path,Gl⟩ ⟨1,c.model,Gl⟩ k s)=0∧H4 (Od ⟨4,0,c.subj⟩ ⟨4,0,c.iss⟩ ⟨1,c.serial,Gl⟩ ⟨1,c.fr,Gl⟩ ⟨1,c.un,Gl⟩ ⟨7,(if c.auth=true then 1 else 0),Gl⟩ ⟨1,c.path,Gl⟩ ⟨1,c.model,Gl⟩ k s)=H4 c then (Od ⟨4,0,c.subj⟩ ⟨4,0,c.iss⟩ ⟨1,c.serial,Gl⟩ ⟨1,c.fr,Gl⟩ ⟨1,c.un,Gl⟩ ⟨7,(if c.auth=true then 1 else 0),Gl⟩ ⟨1,c.path,Gl⟩ ⟨1,c.model,Gl⟩ k s,0) else (ZJ,2)
  |_,_=>(ZJ,2)):=rfl
 rw [e,k,s];simp only [cs];rw [Bu ⟨h,by trivial⟩]
theorem Afv {b:List Int}{used:Nat}{its:List It}(hx:∀x∈its,OkX x)(hn:∀c:Ce,c.ok->Fe c=0->H4 c≠b):Aex b used its=(ZJ,2):=by
 unfold Aex;split
 ·split
  ·rename_i hk hs;rw [A5];intro ⟨h1,h2⟩;exact hn _ (JW (hx _ (by simp)) (hx _ (by simp)) (UA hk).2 (Abo hs).1) h1 h2
  ·rfl
 ·rfl
theorem Af1 (c:Ce):Uw (Bb c)=true:=rfl
theorem Ahc {b:List Int}(hb:Kw b){r:List It × Nat × Int}(hx:∀x∈r.1,OkX x)(hc:∀c:Ce,c.ok->Fe c=0->H4 c=b->r=(Bb c,(Bf (Bb c)).length,0)):HN b r=SH b:=by
 by_cases h5:b.length>512
 ·unfold HN SH;rw [Bu h5,Bu h5]
 by_cases hex:∃c:Ce,c.ok∧Fe c=0∧H4 c=b
 ·obtain ⟨c,c1,c2,c3⟩:=hex;have e:=hc c c1 c2 c3;subst c3;rw [WO c1 c2,e];unfold HN;rw [A5 h5,A5 (by simp),A5 (by simp [Af1])]
  exact Aif c1 c2
 ·have hn:∀c:Ce,c.ok->Fe c=0->H4 c≠b:=fun c h1 h2 h3=>hex ⟨c,h1,h2,h3⟩
  rw [Aes hb (by omega) hn]
  unfold HN;rw [A5 h5,Afv hx hn];split
  ·rfl
  ·split<;>rfl
section
variable {fu d:Nat}
theorem Af6 (hfu:1000<=fu){b:List Int}(hb:Kw b)(hl:b.length<=1000000):
  Ae C0 Tryz.prog fu (d+9) Ih [.lst false 1 b.length (Af .u8 b)]=some ⟨[.agg (HN b (Jv fu [] 0 b 0 [])).1.cells,.sc (.int .i64 (HN b (Jv fu [] 0 b 0 [])).2)],[]⟩:=by
 refine (Wp fu (d+8) b.length (Af .u8 b)).trans ?_;have dec:=Afk (fu:=fu) (d:=d+3) hfu hb hl;obtain ⟨hat,hox⟩:=DM hb fu [] 0 0 [] (by omega) (by simp)
 generalize Jv fu [] 0 b 0 []=r at dec hat hox ⊢;obtain ⟨its,used,e⟩:=r;simp only at hat hox;unfold Aa0 at dec;simp only at dec;unfold HN;simp only;by_cases h5:b.length>512
 ·rw [Bu h5]
  try unfold Aa
  repeat first
   |((with_reducible first|apply As|apply Ak|apply At|apply Ao|apply Aw|apply Bc|apply Bv|apply Aj);· first|with_reducible rfl|(simp (disch:=omega) only [B8]<;>with_reducible rfl))
   |((with_reducible first|apply Ap|apply Ar);· first|with_reducible rfl|omega|(simp (disch:=omega) only [gT,B8]<;>omega))
   |(with_reducible apply Aq;· first|with_reducible rfl|(simp (disch:=omega) only [gF,B8]<;>omega))
  try simp (disch:=omega) only [B8]
  all_goals rfl
 rw [A5 h5];by_cases he:e=0
 rotate_left
 ·rw [Bu he];have he':(e != 0)=true:=by simp [he]
  try unfold Aa
  repeat first
   |((with_reducible first|apply As|apply Ak|apply At|apply Ao|apply Aw|apply Bc|apply Bv|apply Aj);· first|with_reducible rfl|(simp (disch:=omega) only [dec,he']<;>with_reducible rfl))
   |((with_reducible first|apply Ap|apply Ar);· first|with_reducible rfl|omega|(simp (disch:=omega) only [gT,dec,he']<;>omega))
   |(with_reducible apply Aq;· first|with_reducible rfl|(simp (disch:=omega) only [gF,dec,he']<;>omega))
  try simp (disch:=omega) only [dec,he']
  all_goals rfl
 rw [A5 (by simp [he])]
 subst he;have e00:((0:Int) != 0)=false:=rfl;have e20:((2:Int) != 0)=true:=rfl;have ib:=Ad2 (fu:=fu) (d:=d+7) hfu its;have LT:=Tc its;have tT:List.take (its.length*3) (Ci its)=Ci its:=Tp (by omega)
 cases hib:Uw its
 ·rw [hib] at ib;rw [Bu rfl]
  try unfold Aa
  repeat first
   |((with_reducible first|apply As|apply Ak|apply At|apply Ao|apply Aw|apply Bc|apply Bv|apply Aj);· first|with_reducible rfl|(simp (disch:=omega) only [dec,e00,E6,Br,LT,tT,ib,Ck,Cn]<;>with_reducible rfl))
   |((with_reducible first|apply Ap|apply Ar);· first|with_reducible rfl|omega|(simp (disch:=omega) only [gT,dec,e00,E6,Br,LT,tT,ib,Ck,Cn]<;>omega))
   |(with_reducible apply Aq;· first|with_reducible rfl|(simp (disch:=omega) only [gF,dec,e00,E6,Br,LT,tT,ib,Ck,Cn]<;>omega))
  try simp (disch:=omega) only [dec,e00,E6,Br,LT,tT,ib,Ck,Cn]
  all_goals rfl
 rw [hib] at ib;rw [A5 (by simp)]
 have h10:=VL hib;obtain ⟨x0,x1,x2,x3,x4,x5,x6,x7,x8,x9,rfl⟩:=Agv h10;clear hib;have o1:=hox x1 (by simp)
 have o2:=hox x2 (by simp)
 have o3:=hox x3 (by simp)
 have o4:=hox x4 (by simp)
 have o9:=hox x9 (by simp)
 clear hox;have g14:List.getD (Ci [x0,x1,x2,x3,x4,x5,x6,x7,x8,x9]) 14 .top=.sc (.string x4.s):=rfl;have g5:List.getD (Ci [x0,x1,x2,x3,x4,x5,x6,x7,x8,x9]) 5 .top=.sc (.string x1.s):=rfl;have g8:List.getD (Ci [x0,x1,x2,x3,x4,x5,x6,x7,x8,x9]) 8 .top=.sc (.string x2.s):=rfl;have g10:List.getD (Ci [x0,x1,x2,x3,x4,x5,x6,x7,x8,x9]) 10 .top=.sc (.int .u64 x3.n):=rfl;have g16:List.getD (Ci [x0,x1,x2,x3,x4,x5,x6,x7,x8,x9]) 16 .top=.sc (.int .u64 x5.n):=rfl;have g19:List.getD (Ci [x0,x1,x2,x3,x4,x5,x6,x7,x8,x9]) 19 .top=.sc (.int .u64 x6.n):=rfl;have g22:List.getD (Ci [x0,x1,x2,x3,x4,x5,x6,x7,x8,x9]) 22 .top=.sc (.int .u64 x7.n):=rfl;have g25:List.getD (Ci [x0,x1,x2,x3,x4,x5,x6,x7,x8,x9]) 25 .top=.sc (.int .u64 x8.n):=rfl;have g28:List.getD (Ci [x0,x1,x2,x3,x4,x5,x6,x7,x8,x9]) 28 .top=.sc (.int .u64 x9.n):=rfl;have ln:[x0,x1,x2,x3,x4,x5,x6,x7,x8,x9].length=10:=rfl
 rw [ln] at dec ib LT tT;generalize Ci [x0,x1,x2,x3,x4,x5,x6,x7,x8,x9]=T at *
 clear h10;have hs4:=o4.s1;have L4:(Dv x4.s).length=x4.s.size:=by rw [Mu,Am,Qi]
 have t4:List.take x4.s.size (Dv x4.s)=Af .u8 (I1 x4.s):=by rw [Mu,Tp (by rw [Am,Qi];omega)]
 have dk:=Af0 (xs:=Kr) (fu:=fu) (d:=d+6) hfu (Ab6 x4.s);rw [Qi] at dk;unfold Aex;simp only;cases hk:NB (I1 x4.s) with
 |none=>
  rw [hk] at dk;simp only [Aa2,Ky.cells] at dk
  try unfold Aa
  repeat first
   |((with_reducible first|apply As|apply Ak|apply At|apply Ao|apply Aw|apply Bc|apply Bv|apply Aj);· first|with_reducible rfl|(simp (disch:=omega) only [dec,e00,e20,E6,Br,B8,Nat.reduceMul,LT,tT,ib,g14,L4,t4,dk,Ck,Cn]<;>with_reducible rfl))
   |((with_reducible first|apply Ap|apply Ar);· first|with_reducible rfl|omega|(simp (disch:=omega) only [gT,dec,e00,e20,E6,Br,B8,Nat.reduceMul,LT,tT,ib,g14,L4,t4,dk,Ck,Cn]<;>omega))
   |(with_reducible apply Aq;· first|with_reducible rfl|(simp (disch:=omega) only [gF,dec,e00,e20,E6,Br,B8,Nat.reduceMul,LT,tT,ib,g14,L4,t4,dk,Ck,Cn]<;>omega))
  try simp (disch:=omega) only [dec,e00,e20,E6,Br,B8,Nat.reduceMul,LT,tT,ib,g14,L4,t4,dk,Ck,Cn]
  all_goals rfl
 |some k=>
  rw [hk] at dk;simp only [Aa2,Ky.cells] at dk;obtain ⟨k1,k2⟩:=UA hk;have ds:=Af4 (xs:=Kr) (fu:=fu) (d:=d+6) hfu (l:=b.drop used) (fun x hx=>hb x (List.mem_of_mem_drop hx))
  rw [List.length_drop] at ds;have tb:List.take (b.length-used) (List.drop used (Af .u8 b))=Af .u8 (b.drop used):=by rw [Il,Tp (by rw [Am,List.length_drop];omega)]
  have nu:Int.toNat (used:Int)=used:=Gu used;cases hs:sgD (b.drop used) with
  |none=>
   rw [hs] at ds;simp only [Ads,Sg.owned] at ds
   try unfold Aa
   repeat first
    |((with_reducible first|apply As|apply Ak|apply At|apply Ao|apply Aw|apply Bc|apply Bv|apply Aj);· first|with_reducible rfl|(simp (disch:=omega) only [dec,e00,e20,E6,Br,B8,Nat.reduceMul,LT,tT,ib,g14,L4,t4,dk,nu,tb,ds,Ck,Cn]<;>with_reducible rfl))
    |((with_reducible first|apply Ap|apply Ar);· first|with_reducible rfl|omega|(simp (disch:=omega) only [gT,dec,e00,e20,E6,Br,B8,Nat.reduceMul,LT,tT,ib,g14,L4,t4,dk,nu,tb,ds,Ck,Cn]<;>omega))
    |(with_reducible apply Aq;· first|with_reducible rfl|(simp (disch:=omega) only [gF,dec,e00,e20,E6,Br,B8,Nat.reduceMul,LT,tT,ib,g14,L4,t4,dk,nu,tb,ds,Ck,Cn]<;>omega))
   try simp (disch:=omega) only [dec,e00,e20,E6,Br,B8,Nat.reduceMul,LT,tT,ib,g14,L4,t4,dk,nu,tb,ds,Ck,Cn]
   all_goals rfl
  |some s=>
   rw [hs] at ds;simp only [Ads,Sg.owned] at ds;obtain ⟨s1,s2,s3⟩:=Abo hs;have cok:(Od x1 x2 x3 x5 x6 x7 x8 x9 k s).ok:=JW o3 o9 k2 s1;have en:=Acv (fu:=fu) (d:=d) (c:=Od x1 x2 x3 x5 x6 x7 x8 x9 k s) hfu cok.wf (Nat.le_trans o1.s1 (by omega)) (Nat.le_trans o2.s1 (by omega)) (Nat.le_trans s2 (by omega)) (Nat.lt_of_le_of_lt s2 (by omega))
   have ec:(Od x1 x2 x3 x5 x6 x7 x8 x9 k s).cells=[.sc (.string x1.s),.sc (.string x2.s),.sc (.int .u64 x3.n),.sc (.int .i64 k.h),.sc (.int .u64 k.root),.sc (.int .i64 (wrap .i64 x5.n)),.sc (.int .i64 (wrap .i64 x6.n)),.sc (.bool (x7.n==1)),.sc (.int .i64 (wrap .i64 x8.n)),.sc (.int .u64 x9.n),.sc (.int .i64 s.leaf),.lst false 1 s.chains.length (Af .u64 s.chains),.lst false 1 s.path.length (Af .u64 s.path)]:=rfl;have eB:=fun h=>Ah8 (c:=Od x1 x2 x3 x5 x6 x7 x8 x9 k s) cok.wf h
   have eL:=fun h=>MA (c:=Od x1 x2 x3 x5 x6 x7 x8 x9 k s) h
   have Lc:=Am .u64 s.chains;have Lp:=Am .u64 s.path;have tc:=J7 .u64 s.chains;have tp:=J7 .u64 s.path;simp only;generalize Od x1 x2 x3 x5 x6 x7 x8 x9 k s=c at *
   rw [ec] at en;unfold SM at en;by_cases hz:Fe c=0
   rotate_left
   ·have hz':(Fe c != 0)=true:=by simp [hz]
    rw [A5 hz] at en;rw [A5 (fun h=>hz h.1)]
    try unfold Aa
    repeat first
     |((with_reducible first|apply As|apply Ak|apply At|apply Ao|apply Aw|apply Bc|apply Bv|apply Aj);· first|with_reducible rfl|(simp (disch:=omega) only [dec,e00,e20,E6,Br,B8,Nat.reduceMul,LT,tT,ib,g14,L4,t4,dk,nu,tb,ds,g5,g8,g10,g16,g19,g22,g25,g28,Lc,Lp,tc,tp,en,hz',Ck,Cn]<;>with_reducible rfl))
     |((with_reducible first|apply Ap|apply Ar);· first|with_reducible rfl|omega|(simp (disch:=omega) only [gT,dec,e00,e20,E6,Br,B8,Nat.reduceMul,LT,tT,ib,g14,L4,t4,dk,nu,tb,ds,g5,g8,g10,g16,g19,g22,g25,g28,Lc,Lp,tc,tp,en,hz',Ck,Cn]<;>omega))
     |(with_reducible apply Aq;· first|with_reducible rfl|(simp (disch:=omega) only [gF,dec,e00,e20,E6,Br,B8,Nat.reduceMul,LT,tT,ib,g14,L4,t4,dk,nu,tb,ds,g5,g8,g10,g16,g19,g22,g25,g28,Lc,Lp,tc,tp,en,hz',Ck,Cn]<;>omega))
    try simp (disch:=omega) only [dec,e00,e20,E6,Br,B8,Nat.reduceMul,LT,tT,ib,g14,L4,t4,dk,nu,tb,ds,g5,g8,g10,g16,g19,g22,g25,g28,Lc,Lp,tc,tp,en,hz',Ck,Cn]
    all_goals rfl
   rw [Bu hz] at en;have be:=OG (fu:=fu) (d:=d+7) (eB hz) hb;have LE:=Am .u8 (H4 c);have tE:=J7 .u8 (H4 c);by_cases hq:H4 c=b
   ·rw [Bu ⟨hz,hq⟩];simp only [hq,decide_true] at be en LE tE;simp only [ec]
    try unfold Aa
    repeat first
     |((with_reducible first|apply As|apply Ak|apply At|apply Ao|apply Aw|apply Bc|apply Bv|apply Aj);· first|with_reducible rfl|(simp (disch:=omega) only [dec,e00,e20,E6,Br,B8,Nat.reduceMul,LT,tT,ib,g14,L4,t4,dk,nu,tb,ds,g5,g8,g10,g16,g19,g22,g25,g28,Lc,Lp,tc,tp,en,LE,tE,be,Ck,Cn]<;>with_reducible rfl))
     |((with_reducible first|apply Ap|apply Ar);· first|with_reducible rfl|omega|(simp (disch:=omega) only [gT,dec,e00,e20,E6,Br,B8,Nat.reduceMul,LT,tT,ib,g14,L4,t4,dk,nu,tb,ds,g5,g8,g10,g16,g19,g22,g25,g28,Lc,Lp,tc,tp,en,LE,tE,be,Ck,Cn]<;>omega))
     |(with_reducible apply Aq;· first|with_reducible rfl|(simp (disch:=omega) only [gF,dec,e00,e20,E6,Br,B8,Nat.reduceMul,LT,tT,ib,g14,L4,t4,dk,nu,tb,ds,g5,g8,g10,g16,g19,g22,g25,g28,Lc,Lp,tc,tp,en,LE,tE,be,Ck,Cn]<;>omega))
    try simp (disch:=omega) only [dec,e00,e20,E6,Br,B8,Nat.reduceMul,LT,tT,ib,g14,L4,t4,dk,nu,tb,ds,g5,g8,g10,g16,g19,g22,g25,g28,Lc,Lp,tc,tp,en,LE,tE,be,Ck,Cn]
    all_goals rfl
   ·rw [A5 (fun h=>hq h.2)]
    simp only [hq,decide_false] at be
    try unfold Aa
    repeat first
     |((with_reducible first|apply As|apply Ak|apply At|apply Ao|apply Aw|apply Bc|apply Bv|apply Aj);· first|with_reducible rfl|(simp (disch:=omega) only [dec,e00,e20,E6,Br,B8,Nat.reduceMul,LT,tT,ib,g14,L4,t4,dk,nu,tb,ds,g5,g8,g10,g16,g19,g22,g25,g28,Lc,Lp,tc,tp,en,LE,tE,be,Ck,Cn]<;>with_reducible rfl))
     |((with_reducible first|apply Ap|apply Ar);· first|with_reducible rfl|omega|(simp (disch:=omega) only [gT,dec,e00,e20,E6,Br,B8,Nat.reduceMul,LT,tT,ib,g14,L4,t4,dk,nu,tb,ds,g5,g8,g10,g16,g19,g22,g25,g28,Lc,Lp,tc,tp,en,LE,tE,be,Ck,Cn]<;>omega))
     |(with_reducible apply Aq;· first|with_reducible rfl|(simp (disch:=omega) only [gF,dec,e00,e20,E6,Br,B8,Nat.reduceMul,LT,tT,ib,g14,L4,t4,dk,nu,tb,ds,g5,g8,g10,g16,g19,g22,g25,g28,Lc,Lp,tc,tp,en,LE,tE,be,Ck,Cn]<;>omega))
    try simp (disch:=omega) only [dec,e00,e20,E6,Br,B8,Nat.reduceMul,LT,tT,ib,g14,L4,t4,dk,nu,tb,ds,g5,g8,g10,g16,g19,g22,g25,g28,Lc,Lp,tc,tp,en,LE,tE,be,Ck,Cn]
    all_goals rfl
theorem Amq (hfu:1000<=fu){b:List Int}(hb:Kw b)(hl:b.length<=1000000):
  Ae C0 Tryz.prog fu (d+9) Ih [.lst false 1 b.length (Af .u8 b)]=some ⟨[.agg (SH b).1.cells,.sc (.int .i64 (SH b).2)],[]⟩:=by
 have e:HN b (Jv fu [] 0 b 0 [])=SH b:=Ahc hb (DM hb fu [] 0 0 [] (by omega) (by simp)).2 (fun c c1 c2 c3=>by subst c3;exact XO c1 c2 (by omega))
 rw [←e];exact Af6 hfu hb hl
end
end
section
open Go.IntKind (wrap)
structure An where
 name:ByteArray
 key:Ky
structure Rv where
 iss:ByteArray
 ser:Int
 at_:Int
def An.cells (a:An):List PV:=[.sc (.string a.name),.sc (.int .i64 a.key.h),.sc (.int .u64 a.key.root)]
def Rv.cells (r:Rv):List PV:=[.sc (.string r.iss),.sc (.int .u64 r.ser),.sc (.int .i64 r.at_)]
def Fa (l:List An):List PV:=l.flatMap An.cells
def Em (l:List Rv):List PV:=l.flatMap Rv.cells
def B6 (l:List Ce):List PV:=l.flatMap Ce.cells
theorem An.cells_len (a:An):a.cells.length=3:=rfl
theorem Rv.cells_len (r:Rv):r.cells.length=3:=rfl
theorem Ce.cells_len (c:Ce):c.cells.length=13:=rfl
theorem Mm (l:List Ce):(B6 l).length=l.length*13:=AZ Ce.cells_len l
abbrev eqS (a b:ByteArray):Bool:=Array.toList (ByteArray.data a)==Array.toList (ByteArray.data b)
def Kf (c:Ce)(now:Int)(r:Rv):Bool:=eqS r.iss c.iss&&(r.ser==c.serial&&decide (r.at_<=now))
def I8 (c:Ce)(now:Int)(l:List Rv):Int:=if l.any (Kf c now)=true then 39 else 0
def F6 (c:Ce)(i:Int)(l:List Rv)(now:Int):Int:=
 if A4 c≠0 then A4 c else if now<c.fr then 38 else if now>c.un then 38 else if i>0 then (if c.auth=false then 38 else if c.path<i-1 then 38 else I8 c now l) else I8 c now l
def Le (c:Ce):Nat->List An->Int
 |_,[]=> -1
 |i,a::r=>if eqS a.name c.iss=true∧Np c a.key=0 then (i:Int) else Le c (i+1) r
def YE (c:Ce)(l:List An):Int × Int:=if Le c 0 l<0 then (0,38) else (Le c 0 l,0)
def S4 (ans:List An)(vs:List Rv)(now:Int):Nat->List Ce->Int × Int
 |_,[]=>(0,0)
 |i,[c]=>if F6 c i vs now≠0 then (0,F6 c i vs now) else YE c ans
 |i,c::c2::r=>if F6 c i vs now≠0 then (0,F6 c i vs now) else if eqS c.iss c2.subj=false then (0,38) else if Np c c2.key≠0 then (0,Np c c2.key) else S4 ans vs now (i+1) (c2::r)
def HD (cs:List Ce)(ans:List An)(vs:List Rv)(now:Int):Int × Int:=
 if now<0 then (0,9) else if now>1099511627776 then (0,9) else if cs.length<1 then (0,38) else if cs.length>3 then (0,38) else S4 ans vs now 0 cs
structure Ce.in_ (c:Ce):Prop where
 wf:c.wf
 s1:c.subj.size<=9223372036854775807
 s2:c.iss.size<=9223372036854775807
theorem cer {l:List Ce}{i:Nat}{c:Ce}(h:l[i]?=some c):
  (B6 l).getD (i*13) .top=.sc (.string c.subj)∧(B6 l).getD (i*13+1) .top=.sc (.string c.iss)∧(B6 l).getD (i*13+1+1) .top=.sc (.int .u64 c.serial) ∧
  (B6 l).getD (i*13+1+1+1) .top=.sc (.int .i64 c.key.h)∧(B6 l).getD (i*13+1+1+1+1) .top=.sc (.int .u64 c.key.root)∧(B6 l).getD (i*13+1+1+1+1+1) .top=.sc (.int .i64 c.fr) ∧
  (B6 l).getD (i*13+1+1+1+1+1+1) .top=.sc (.int .i64 c.un)∧(B6 l).getD (i*13+1+1+1+1+1+1+1) .top=.sc (.bool c.auth)∧(B6 l).getD (i*13+1+1+1+1+1+1+1+1) .top=.sc (.int .i64 c.path) ∧
  (B6 l).getD (i*13+1+1+1+1+1+1+1+1+1) .top=.sc (.int .u64 c.model)∧(B6 l).getD (i*13+1+1+1+1+1+1+1+1+1+1) .top=.sc (.int .i64 c.sig.leaf) ∧
  (B6 l).getD (i*13+1+1+1+1+1+1+1+1+1+1+1) .top=.lst false 1 c.sig.chains.length (Af .u64 c.sig.chains)∧(B6 l).getD (i*13+1+1+1+1+1+1+1+1+1+1+1+1) .top=.lst false 1 c.sig.path.length (Af .u64 c.sig.path):=
 ⟨Ei Ce.cells_len h (j:=0) (by omega),Ei Ce.cells_len h (j:=1) (by omega),Ei Ce.cells_len h (j:=2) (by omega),Ei Ce.cells_len h (j:=3) (by omega),Ei Ce.cells_len h (j:=4) (by omega),Ei Ce.cells_len h (j:=5) (by omega),Ei Ce.cells_len h (j:=6) (by omega),Ei Ce.cells_len h (j:=7) (by omega),Ei Ce.cells_len h (j:=8) (by omega),Ei Ce.cells_len h (j:=9) (by omega),Ei Ce.cells_len h (j:=10) (by omega),Ei Ce.cells_len h (j:=11) (by omega),Ei Ce.cells_len h (j:=12) (by omega)⟩
theorem rva {l:List Rv}{i:Nat}{r:Rv}(h:l[i]?=some r):(Em l).getD (i*3) .top=.sc (.string r.iss)∧(Em l).getD (i*3+1) .top=.sc (.int .u64 r.ser)∧(Em l).getD (i*3+2) .top=.sc (.int .i64 r.at_):=
 ⟨Ei Rv.cells_len h (j:=0) (by omega),Ei Rv.cells_len h (j:=1) (by omega),Ei Rv.cells_len h (j:=2) (by omega)⟩
theorem ana {l:List An}{i:Nat}{a:An}(h:l[i]?=some a):(Fa l).getD (i*3) .top=.sc (.string a.name)∧(Fa l).getD (i*3+1) .top=.sc (.int .i64 a.key.h)∧(Fa l).getD (i*3+2) .top=.sc (.int .u64 a.key.root):=
 ⟨Ei An.cells_len h (j:=0) (by omega),Ei An.cells_len h (j:=1) (by omega),Ei An.cells_len h (j:=2) (by omega)⟩
section
variable {fu d:Nat}
theorem QU {call:Ah}{a0_0 a0_1:ByteArray}{a0_2 a0_3 a0_4 a0_5 a0_6 a0_8 a0_9 a0_10 a1 a3:Int}{a0_7:Bool}{a0_11n a0_12n a2n:Nat}{a0_11 a0_12 a2:List PV}{c:Ce}{now:Int}{vs:List Rv}(hl:vs.length<=1000000):∀(r:List Rv)(i nn:Nat),vs.drop i=r->r.length<nn->i<=vs.length ->
  Cp fu call a0_0 a0_1 a0_2 a0_3 a0_4 a0_5 a0_6 a0_7 a0_8 a0_9 a0_10 a0_11n a0_11 a0_12n a0_12 a1 a2n a2 a3 nn now vs.length (Em vs) (vs.length:Int) (i:Int) c.subj c.iss c.serial c.key.h c.key.root c.fr c.un c.auth c.path c.model c.sig.leaf c.sig.chains.length (Af .u64 c.sig.chains) c.sig.path.length (Af .u64 c.sig.path) =
   some ⟨[.sc (.int .i64 (I8 c now r))],[]⟩
 |_,_,0,_,h,_=>by omega
 |[],i,nn+1,h,hn,hi=>by
  have:=drop_nil h;rw [H6,Dj _ _ _ (by omega)]
  rfl
 |r::rs,i,nn+1,h,hn,hi=>by
  obtain ⟨h1,h2,h3⟩:=B3 h;simp only [Jd] at hn;obtain ⟨c0,c1,c2⟩:=rva h2;have w:wrap .i64 ((i:Int)+1)=((i+1:Nat):Int):=by rw [Al (by omega) (by omega)];omega
  have nt:Int.toNat (i:Int)=i:=Gu _;have c2':(Em vs).getD (i*3+1+1) .top=.sc (.int .i64 r.at_):=c2;have ih:=QU (call:=call) (a0_0:=a0_0) (a0_1:=a0_1) (a0_2:=a0_2) (a0_3:=a0_3) (a0_4:=a0_4) (a0_5:=a0_5) (a0_6:=a0_6) (a0_7:=a0_7) (a0_8:=a0_8) (a0_9:=a0_9) (a0_10:=a0_10) (a1:=a1) (a3:=a3) (a0_11n:=a0_11n) (a0_12n:=a0_12n) (a2n:=a2n) (a0_11:=a0_11) (a0_12:=a0_12) (a2:=a2) (c:=c) (now:=now) hl rs (i+1) nn h3 (by omega) (by omega)
  have er:I8 c now (r::rs)=if Kf c now r=true then 39 else I8 c now rs:=by
   unfold I8;rw [List.any_cons];cases Kf c now r<;>rfl
  rw [er,H6];unfold Kf;cases e1:eqS r.iss c.iss
  ·rw [Bool.false_and,A5 (by simp),←ih]
   try unfold Aa
   repeat first
    |((with_reducible first|apply As|apply Ak|apply At|apply Ao|apply Aw|apply Bc|apply Bg|apply Aj);· first|with_reducible rfl|(simp (disch:=omega) only [nt,c0,c1,c2',e1,w]<;>with_reducible rfl))
    |((with_reducible first|apply Ap|apply Ar);· first|with_reducible rfl|omega|(simp (disch:=omega) only [gT,nt,c0,c1,c2',e1,w]<;>omega))
    |(with_reducible apply Aq;· first|with_reducible rfl|(simp (disch:=omega) only [gF,nt,c0,c1,c2',e1,w]<;>omega))
   try simp (disch:=omega) only [nt,c0,c1,c2',e1,w]
   all_goals rfl
  ·cases e2:(r.ser==c.serial)
   ·rw [Bool.true_and,Bool.false_and,A5 (by simp),←ih]
    try unfold Aa
    repeat first
     |((with_reducible first|apply As|apply Ak|apply At|apply Ao|apply Aw|apply Bc|apply Bg|apply Aj);· first|with_reducible rfl|(simp (disch:=omega) only [nt,c0,c1,c2',e1,e2,w]<;>with_reducible rfl))
     |((with_reducible first|apply Ap|apply Ar);· first|with_reducible rfl|omega|(simp (disch:=omega) only [gT,nt,c0,c1,c2',e1,e2,w]<;>omega))
     |(with_reducible apply Aq;· first|with_reducible rfl|(simp (disch:=omega) only [gF,nt,c0,c1,c2',e1,e2,w]<;>omega))
    try simp (disch:=omega) only [nt,c0,c1,c2',e1,e2,w]
    all_goals rfl
   ·by_cases e3:r.at_<=now
    ·rw [Bu (by simp [e3])]
     try unfold Aa
     repeat first
      |((with_reducible first|apply As|apply Ak|apply At|apply Ao|apply Aw|apply Bc|apply Bg|apply Aj);· first|with_reducible rfl|(simp (disch:=omega) only [nt,c0,c1,c2',e1,e2,w]<;>with_reducible rfl))
      |((with_reducible first|apply Ap|apply Ar);· first|with_reducible rfl|omega|(simp (disch:=omega) only [gT,nt,c0,c1,c2',e1,e2,w]<;>omega))
      |(with_reducible apply Aq;· first|with_reducible rfl|(simp (disch:=omega) only [gF,nt,c0,c1,c2',e1,e2,w]<;>omega))
     try simp (disch:=omega) only [nt,c0,c1,c2',e1,e2,w]
     all_goals rfl
    ·rw [A5 (by simp [e3]),←ih]
     try unfold Aa
     repeat first
      |((with_reducible first|apply As|apply Ak|apply At|apply Ao|apply Aw|apply Bc|apply Bg|apply Aj);· first|with_reducible rfl|(simp (disch:=omega) only [nt,c0,c1,c2',e1,e2,w]<;>with_reducible rfl))
      |((with_reducible first|apply Ap|apply Ar);· first|with_reducible rfl|omega|(simp (disch:=omega) only [gT,nt,c0,c1,c2',e1,e2,w]<;>omega))
      |(with_reducible apply Aq;· first|with_reducible rfl|(simp (disch:=omega) only [gF,nt,c0,c1,c2',e1,e2,w]<;>omega))
     try simp (disch:=omega) only [nt,c0,c1,c2',e1,e2,w]
     all_goals rfl
theorem Adb (hfu:1000<=fu){c:Ce}(hc:c.in_){vs:List Rv}(hl:vs.length<=900){i:Int}(hi:0<=i)(hi':i<=1000)(now:Int):
  Ae C0 Tryz.prog fu (d+8) Jp [.agg c.cells,.sc (.int .i64 i),.lst false 3 vs.length (Em vs),.sc (.int .i64 now)]=some ⟨[.sc (.int .i64 (F6 c i vs now))],[]⟩:=by
 refine (S3 fu (d+7) c.subj c.iss c.serial c.key.h c.key.root c.fr c.un c.auth c.path c.model c.sig.leaf c.sig.chains.length (Af .u64 c.sig.chains) c.sig.path.length (Af .u64 c.sig.path) i vs.length (Em vs) now).trans ?_;have bq:=KJ (fu:=fu) (d:=d) hfu hc.wf hc.s1 hc.s2;simp only [Ce.cells] at bq;unfold Gv at bq;have lp:=QU (fu:=fu) (call:=Ae C0 Tryz.prog fu (d+7)) (a0_0:=c.subj) (a0_1:=c.iss) (a0_2:=c.serial) (a0_3:=c.key.h) (a0_4:=c.key.root) (a0_5:=c.fr) (a0_6:=c.un) (a0_7:=c.auth) (a0_8:=c.path) (a0_9:=c.model) (a0_10:=c.sig.leaf) (a1:=i) (a3:=now) (a0_11n:=c.sig.chains.length) (a0_12n:=c.sig.path.length) (a2n:=vs.length) (a0_11:=Af .u64 c.sig.chains) (a0_12:=Af .u64 c.sig.path) (a2:=Em vs) (c:=c) (now:=now) (vs:=vs) (by omega) vs 0 fu rfl (by omega) (by omega)
 unfold F6;by_cases h0:A4 c=0
 rotate_left
 ·have hne:(A4 c != 0)=true:=by simp [h0]
  rw [A5 h0] at bq;rw [Bu h0]
  try unfold Aa
  repeat first
   |((with_reducible first|apply As|apply Ak|apply At|apply Ao|apply Aw|apply Bc|apply Bg|apply Aj);· first|with_reducible rfl|(simp (disch:=omega) only [bq,hne]<;>with_reducible rfl))
   |((with_reducible first|apply Ap|apply Ar);· first|with_reducible rfl|omega|(simp (disch:=omega) only [gT,bq,hne]<;>omega))
   |(with_reducible apply Aq;· first|with_reducible rfl|(simp (disch:=omega) only [gF,bq,hne]<;>omega))
  try simp (disch:=omega) only [bq,hne]
  all_goals rfl
 rw [Bu h0] at bq;rw [A5 (by simp [h0])]
 have e00:((0:Int) != 0)=false:=rfl;have w:wrap .i64 (i-1)=i-1:=Al (by omega) (by omega)
 by_cases h1:now<c.fr
 ·rw [Bu h1]
  try unfold Aa
  repeat first
   |((with_reducible first|apply As|apply Ak|apply At|apply Ao|apply Aw|apply Bc|apply Bg|apply Aj);· first|with_reducible rfl|(simp (disch:=omega) only [bq,e00]<;>with_reducible rfl))
   |((with_reducible first|apply Ap|apply Ar);· first|with_reducible rfl|omega|(simp (disch:=omega) only [gT,bq,e00]<;>omega))
   |(with_reducible apply Aq;· first|with_reducible rfl|(simp (disch:=omega) only [gF,bq,e00]<;>omega))
  try simp (disch:=omega) only [bq,e00]
  all_goals rfl
 rw [A5 h1];by_cases h2:now>c.un
 ·rw [Bu h2]
  try unfold Aa
  repeat first
   |((with_reducible first|apply As|apply Ak|apply At|apply Ao|apply Aw|apply Bc|apply Bg|apply Aj);· first|with_reducible rfl|(simp (disch:=omega) only [bq,e00]<;>with_reducible rfl))
   |((with_reducible first|apply Ap|apply Ar);· first|with_reducible rfl|omega|(simp (disch:=omega) only [gT,bq,e00]<;>omega))
   |(with_reducible apply Aq;· first|with_reducible rfl|(simp (disch:=omega) only [gF,bq,e00]<;>omega))
  try simp (disch:=omega) only [bq,e00]
  all_goals rfl
 rw [A5 h2];by_cases h3:i>0
 ·rw [Bu h3];cases h4:c.auth
  ·rw [Bu rfl];rw [h4] at bq
   try unfold Aa
   repeat first
    |((with_reducible first|apply As|apply Ak|apply At|apply Ao|apply Aw|apply Bc|apply Bg|apply Aj);· first|with_reducible rfl|(simp (disch:=omega) only [bq,e00,Cn]<;>with_reducible rfl))
    |((with_reducible first|apply Ap|apply Ar);· first|with_reducible rfl|omega|(simp (disch:=omega) only [gT,bq,e00,Cn]<;>omega))
    |(with_reducible apply Aq;· first|with_reducible rfl|(simp (disch:=omega) only [gF,bq,e00,Cn]<;>omega))
   try simp (disch:=omega) only [bq,e00,Cn]
   all_goals rfl
  ·rw [A5 (by simp)]
   rw [h4] at lp bq;by_cases h5:c.path<i-1
   ·rw [Bu h5]
    try unfold Aa
    repeat first
     |((with_reducible first|apply As|apply Ak|apply At|apply Ao|apply Aw|apply Bc|apply Bg|apply Aj);· first|with_reducible rfl|(simp (disch:=omega) only [bq,e00,h4,w,Ck]<;>with_reducible rfl))
     |((with_reducible first|apply Ap|apply Ar);· first|with_reducible rfl|omega|(simp (disch:=omega) only [gT,bq,e00,h4,w,Ck]<;>omega))
     |(with_reducible apply Aq;· first|with_reducible rfl|(simp (disch:=omega) only [gF,bq,e00,h4,w,Ck]<;>omega))
    try simp (disch:=omega) only [bq,e00,h4,w,Ck]
    all_goals rfl
   ·rw [A5 h5,←lp]
    try unfold Aa
    repeat first
     |((with_reducible first|apply As|apply Ak|apply At|apply Ao|apply Aw|apply Bc|apply Bg|apply Aj);· first|with_reducible rfl|(simp (disch:=omega) only [bq,e00,h4,w,Ck]<;>with_reducible rfl))
     |((with_reducible first|apply Ap|apply Ar);· first|with_reducible rfl|omega|(simp (disch:=omega) only [gT,bq,e00,h4,w,Ck]<;>omega))
     |(with_reducible apply Aq;· first|with_reducible rfl|(simp (disch:=omega) only [gF,bq,e00,h4,w,Ck]<;>omega))
    try simp (disch:=omega) only [bq,e00,h4,w,Ck]
    all_goals rfl
 ·rw [A5 h3,←lp]
  try unfold Aa
  repeat first
   |((with_reducible first|apply As|apply Ak|apply At|apply Ao|apply Aw|apply Bc|apply Bg|apply Aj);· first|with_reducible rfl|(simp (disch:=omega) only [bq,e00]<;>with_reducible rfl))
   |((with_reducible first|apply Ap|apply Ar);· first|with_reducible rfl|omega|(simp (disch:=omega) only [gT,bq,e00]<;>omega))
   |(with_reducible apply Aq;· first|with_reducible rfl|(simp (disch:=omega) only [gF,bq,e00]<;>omega))
  try simp (disch:=omega) only [bq,e00]
  all_goals rfl
theorem DS (hfu:1000<=fu){a0n a1n a2n:Nat}{a0 a1 a2:List PV}{a3:Int}{c:Ce}(hc:c.in_){ans:List An}(hl:ans.length<=1000000):∀(r:List An)(i nn:Nat),ans.drop i=r->r.length<nn->i<=ans.length ->
  Ec fu (Ae C0 Tryz.prog fu (d+9)) a0n a0 a1n a1 a2n a2 a3 nn ans.length (Fa ans) (ans.length:Int) (i:Int) c.subj c.iss c.serial c.key.h c.key.root c.fr c.un c.auth c.path c.model c.sig.leaf c.sig.chains.length (Af .u64 c.sig.chains) c.sig.path.length (Af .u64 c.sig.path) =
   some ⟨(if Le c i r<0 then [.sc (.int .i64 0),.sc (.int .i64 38)] else [.sc (.int .i64 (Le c i r)),.sc (.int .i64 0)]),[]⟩
 |_,_,0,_,h,_=>by omega
 |[],i,nn+1,h,hn,hi=>by
  have:=drop_nil h;rw [Lw,Dj _ _ _ (by omega)]
  rfl
 |a::rs,i,nn+1,h,hn,hi=>by
  obtain ⟨h1,h2,h3⟩:=B3 h;simp only [Jd] at hn;obtain ⟨c0,c1,c2⟩:=ana h2;have w:wrap .i64 ((i:Int)+1)=((i+1:Nat):Int):=by rw [Al (by omega) (by omega)];omega
  have nt:Int.toNat (i:Int)=i:=Gu _;have c2':(Fa ans).getD (i*3+1+1) .top=.sc (.int .u64 a.key.root):=c2;have vq:=WK (fu:=fu) (d:=d) hfu hc.wf hc.s1 hc.s2 a.key;simp only [Ce.cells,Ky.cells] at vq;have ih:=DS hfu (a0n:=a0n) (a1n:=a1n) (a2n:=a2n) (a0:=a0) (a1:=a1) (a2:=a2) (a3:=a3) hc hl rs (i+1) nn h3 (by omega) (by omega)
  rw [Lw];cases e1:eqS a.name c.iss
  ·have er:Le c i (a::rs)=Le c (i+1) rs:=by rw [Le,A5 (by simp [e1])]
   rw [er,←ih]
   try unfold Aa
   repeat first
    |((with_reducible first|apply As|apply Ak|apply At|apply Ao|apply Aw|apply Bc|apply Bg|apply Aj);· first|with_reducible rfl|(simp (disch:=omega) only [nt,c0,c1,c2',e1,w]<;>with_reducible rfl))
    |((with_reducible first|apply Ap|apply Ar);· first|with_reducible rfl|omega|(simp (disch:=omega) only [gT,nt,c0,c1,c2',e1,w]<;>omega))
    |(with_reducible apply Aq;· first|with_reducible rfl|(simp (disch:=omega) only [gF,nt,c0,c1,c2',e1,w]<;>omega))
   try simp (disch:=omega) only [nt,c0,c1,c2',e1,w]
   all_goals rfl
  ·by_cases e2:Np c a.key=0
   ·have e2':(Np c a.key==0)=true:=by simp [e2]
    have er:Le c i (a::rs)=(i:Int):=by rw [Le,Bu ⟨e1,e2⟩]
    rw [er,A5 (by omega)]
    try unfold Aa
    repeat first
     |((with_reducible first|apply As|apply Ak|apply At|apply Ao|apply Aw|apply Bc|apply Bg|apply Aj);· first|with_reducible rfl|(simp (disch:=omega) only [nt,c0,c1,c2',e1,w,vq,e2']<;>with_reducible rfl))
     |((with_reducible first|apply Ap|apply Ar);· first|with_reducible rfl|omega|(simp (disch:=omega) only [gT,nt,c0,c1,c2',e1,w,vq,e2']<;>omega))
     |(with_reducible apply Aq;· first|with_reducible rfl|(simp (disch:=omega) only [gF,nt,c0,c1,c2',e1,w,vq,e2']<;>omega))
    try simp (disch:=omega) only [nt,c0,c1,c2',e1,w,vq,e2']
    all_goals rfl
   ·have e2':(Np c a.key==0)=false:=by simp [e2]
    have er:Le c i (a::rs)=Le c (i+1) rs:=by rw [Le,A5 (by simp [e2])]
    rw [er,←ih]
    try unfold Aa
    repeat first
     |((with_reducible first|apply As|apply Ak|apply At|apply Ao|apply Aw|apply Bc|apply Bg|apply Aj);· first|with_reducible rfl|(simp (disch:=omega) only [nt,c0,c1,c2',e1,w,vq,e2']<;>with_reducible rfl))
     |((with_reducible first|apply Ap|apply Ar);· first|with_reducible rfl|omega|(simp (disch:=omega) only [gT,nt,c0,c1,c2',e1,w,vq,e2']<;>omega))
     |(with_reducible apply Aq;· first|with_reducible rfl|(simp (disch:=omega) only [gF,nt,c0,c1,c2',e1,w,vq,e2']<;>omega))
    try simp (disch:=omega) only [nt,c0,c1,c2',e1,w,vq,e2']
    all_goals rfl
theorem PZ (hfu:1000<=fu){a0n a1n a2n:Nat}{a0 a1 a2:List PV}{a3:Int}{cs:List Ce}(hc:∀c∈cs,c.in_)(h3:cs.length<=3){ans:List An}(hl:ans.length<=900){vs:List Rv}(hv:vs.length<=900){now:Int}:∀(r:List Ce)(i nn:Nat),r≠[]->cs.drop i=r->r.length<nn->i<=cs.length ->
  Gp fu (Ae C0 Tryz.prog fu (d+9)) a0n a0 a1n a1 a2n a2 a3 nn cs.length (B6 cs) ans.length (Fa ans) vs.length (Em vs) now cs.length (B6 cs) (cs.length:Int) (i:Int) =
   some ⟨[.sc (.int .i64 (S4 ans vs now i r).1),.sc (.int .i64 (S4 ans vs now i r).2)],[]⟩
 |_,_,0,_,_,h,_=>by omega
 |[],i,nn+1,hne,_,_,_=>absurd rfl hne
 |[c],i,nn+1,hne,h,hn,hi=>by
  obtain ⟨h1,h2,h3'⟩:=B3 h;have hlast:=drop_nil h3';have hci:=hc c (List.mem_of_getElem? h2);obtain ⟨c0,c1,c2,c3,c4,c5,c6,c7,c8,c9,c10,c11,c12⟩:=cer h2;have nt:Int.toNat (i:Int)=i:=Gu _;have lk:=Adb (fu:=fu) (d:=d+1) hfu hci hv (i:=(i:Int)) (by omega) (by omega) now
  simp only [Ce.cells] at lk;have w:wrap .i64 ((cs.length:Int)-1)=(i:Int):=by rw [Al (by omega) (by omega)];omega
  have eb:((i:Int)==(i:Int))=true:=by simp
  rw [Lt];unfold S4;by_cases hz:F6 c i vs now=0
  ·have pa:=DS (fu:=fu) (d:=d) hfu (a0n:=a0n) (a1n:=a1n) (a2n:=a2n) (a0:=a0) (a1:=a1) (a2:=a2) (a3:=a3) hci (ans:=ans) (by omega) ans 0 fu rfl (by omega) (by omega)
   have e0:(F6 c i vs now != 0)=false:=by simp [hz]
   have ea:(some ⟨(if Le c 0 ans<0 then [.sc (.int .i64 0),.sc (.int .i64 38)] else [.sc (.int .i64 (Le c 0 ans)),.sc (.int .i64 0)]),[]⟩:Option A0)=some ⟨[.sc (.int .i64 (YE c ans).1),.sc (.int .i64 (YE c ans).2)],[]⟩:=by
    unfold YE;split<;>rfl
   rw [ea] at pa;rw [A5 (by simp [hz]),←pa]
   try unfold Aa
   repeat first
    |((with_reducible first|apply As|apply Ak|apply At|apply Ao|apply Aw|apply Bc|apply Bg|apply Aj);· first|with_reducible rfl|(simp (disch:=omega) only [nt,c0,c1,c2,c3,c4,c5,c6,c7,c8,c9,c10,c11,c12,lk,e0,w,eb]<;>with_reducible rfl))
    |((with_reducible first|apply Ap|apply Ar);· first|with_reducible rfl|omega|(simp (disch:=omega) only [gT,nt,c0,c1,c2,c3,c4,c5,c6,c7,c8,c9,c10,c11,c12,lk,e0,w,eb]<;>omega))
    |(with_reducible apply Aq;· first|with_reducible rfl|(simp (disch:=omega) only [gF,nt,c0,c1,c2,c3,c4,c5,c6,c7,c8,c9,c10,c11,c12,lk,e0,w,eb]<;>omega))
   try simp (disch:=omega) only [nt,c0,c1,c2,c3,c4,c5,c6,c7,c8,c9,c10,c11,c12,lk,e0,w,eb]
   all_goals rfl
  ·have e0:(F6 c i vs now != 0)=true:=by simp [hz]
   rw [Bu hz]
   try unfold Aa
   repeat first
    |((with_reducible first|apply As|apply Ak|apply At|apply Ao|apply Aw|apply Bc|apply Bg|apply Aj);· first|with_reducible rfl|(simp (disch:=omega) only [nt,c0,c1,c2,c3,c4,c5,c6,c7,c8,c9,c10,c11,c12,lk,e0]<;>with_reducible rfl))
    |((with_reducible first|apply Ap|apply Ar);· first|with_reducible rfl|omega|(simp (disch:=omega) only [gT,nt,c0,c1,c2,c3,c4,c5,c6,c7,c8,c9,c10,c11,c12,lk,e0]<;>omega))
    |(with_reducible apply Aq;· first|with_reducible rfl|(simp (disch:=omega) only [gF,nt,c0,c1,c2,c3,c4,c5,c6,c7,c8,c9,c10,c11,c12,lk,e0]<;>omega))
   try simp (disch:=omega) only [nt,c0,c1,c2,c3,c4,c5,c6,c7,c8,c9,c10,c11,c12,lk,e0]
   all_goals rfl
 |c::e::r,i,nn+1,hne,h,hn,hi=>by
  obtain ⟨h1,h2,h3'⟩:=B3 h;obtain ⟨k1,k2,k3⟩:=B3 h3';simp only [Jd] at hn;have hci:=hc c (List.mem_of_getElem? h2);obtain ⟨c0,c1,c2,c3,c4,c5,c6,c7,c8,c9,c10,c11,c12⟩:=cer h2;obtain ⟨q0,q1,q2,q3,q4,_⟩:=cer k2;have nt:Int.toNat (i:Int)=i:=Gu _;have nt1:Int.toNat ((i+1:Nat):Int)=i+1:=Gu _;have lk:=Adb (fu:=fu) (d:=d+1) hfu hci hv (i:=(i:Int)) (by omega) (by omega) now
  simp only [Ce.cells] at lk;have w:wrap .i64 ((cs.length:Int)-1)=(cs.length:Int)-1:=Al (by omega) (by omega)
  have w1:wrap .i64 ((i:Int)+1)=((i+1:Nat):Int):=by rw [Al (by omega) (by omega)];omega
  have eb:((i:Int)==(cs.length:Int)-1)=false:=by simp;omega
  have q3':(B6 cs).getD ((i+1)*13+3) .top=.sc (.int .i64 e.key.h):=q3;have q4':(B6 cs).getD ((i+1)*13+3+1) .top=.sc (.int .u64 e.key.root):=q4;have vq:=WK (fu:=fu) (d:=d) hfu hci.wf hci.s1 hci.s2 e.key;simp only [Ce.cells,Ky.cells] at vq;rw [Lt];unfold S4;by_cases hz:F6 c i vs now=0
  rotate_left
  ·have e0:(F6 c i vs now != 0)=true:=by simp [hz]
   rw [Bu hz]
   try unfold Aa
   repeat first
    |((with_reducible first|apply As|apply Ak|apply At|apply Ao|apply Aw|apply Bc|apply Bg|apply Aj);· first|with_reducible rfl|(simp (disch:=omega) only [nt,c0,c1,c2,c3,c4,c5,c6,c7,c8,c9,c10,c11,c12,lk,e0]<;>with_reducible rfl))
    |((with_reducible first|apply Ap|apply Ar);· first|with_reducible rfl|omega|(simp (disch:=omega) only [gT,nt,c0,c1,c2,c3,c4,c5,c6,c7,c8,c9,c10,c11,c12,lk,e0]<;>omega))
    |(with_reducible apply Aq;· first|with_reducible rfl|(simp (disch:=omega) only [gF,nt,c0,c1,c2,c3,c4,c5,c6,c7,c8,c9,c10,c11,c12,lk,e0]<;>omega))
   try simp (disch:=omega) only [nt,c0,c1,c2,c3,c4,c5,c6,c7,c8,c9,c10,c11,c12,lk,e0]
   all_goals rfl
  have e0:(F6 c i vs now != 0)=false:=by simp [hz]
  rw [A5 (by simp [hz])]
  cases es:eqS c.iss e.subj
  ·rw [Bu rfl]
   try unfold Aa
   repeat first
    |((with_reducible first|apply As|apply Ak|apply At|apply Ao|apply Aw|apply Bc|apply Bg|apply Aj);· first|with_reducible rfl|(simp (disch:=omega) only [nt,nt1,J6,c0,c1,c2,c3,c4,c5,c6,c7,c8,c9,c10,c11,c12,lk,e0,w,eb,w1,q0,es,Cn]<;>with_reducible rfl))
    |((with_reducible first|apply Ap|apply Ar);· first|with_reducible rfl|omega|(simp (disch:=omega) only [gT,nt,nt1,J6,c0,c1,c2,c3,c4,c5,c6,c7,c8,c9,c10,c11,c12,lk,e0,w,eb,w1,q0,es,Cn]<;>omega))
    |(with_reducible apply Aq;· first|with_reducible rfl|(simp (disch:=omega) only [gF,nt,nt1,J6,c0,c1,c2,c3,c4,c5,c6,c7,c8,c9,c10,c11,c12,lk,e0,w,eb,w1,q0,es,Cn]<;>omega))
   try simp (disch:=omega) only [nt,nt1,J6,c0,c1,c2,c3,c4,c5,c6,c7,c8,c9,c10,c11,c12,lk,e0,w,eb,w1,q0,es,Cn]
   all_goals rfl
  rw [A5 (by simp)]
  by_cases hv':Np c e.key=0
  ·have v0:(Np c e.key != 0)=false:=by simp [hv']
   have ih:=PZ hfu (a0n:=a0n) (a1n:=a1n) (a2n:=a2n) (a0:=a0) (a1:=a1) (a2:=a2) (a3:=a3) hc h3 hl hv (now:=now) (e::r) (i+1) nn (by simp) h3' (by simp only [Jd];omega) (by omega)
   rw [A5 (by simp [hv']),←ih]
   try unfold Aa
   repeat first
    |((with_reducible first|apply As|apply Ak|apply At|apply Ao|apply Aw|apply Bc|apply Bg|apply Aj);· first|with_reducible rfl|(simp (disch:=omega) only [nt,nt1,J6,c0,c1,c2,c3,c4,c5,c6,c7,c8,c9,c10,c11,c12,lk,e0,w,eb,w1,q0,es,q3',q4',vq,v0,Ck]<;>with_reducible rfl))
    |((with_reducible first|apply Ap|apply Ar);· first|with_reducible rfl|omega|(simp (disch:=omega) only [gT,nt,nt1,J6,c0,c1,c2,c3,c4,c5,c6,c7,c8,c9,c10,c11,c12,lk,e0,w,eb,w1,q0,es,q3',q4',vq,v0,Ck]<;>omega))
    |(with_reducible apply Aq;· first|with_reducible rfl|(simp (disch:=omega) only [gF,nt,nt1,J6,c0,c1,c2,c3,c4,c5,c6,c7,c8,c9,c10,c11,c12,lk,e0,w,eb,w1,q0,es,q3',q4',vq,v0,Ck]<;>omega))
   try simp (disch:=omega) only [nt,nt1,J6,c0,c1,c2,c3,c4,c5,c6,c7,c8,c9,c10,c11,c12,lk,e0,w,eb,w1,q0,es,q3',q4',vq,v0,Ck]
   all_goals rfl
  ·have v0:(Np c e.key != 0)=true:=by simp [hv']
   rw [Bu hv']
   try unfold Aa
   repeat first
    |((with_reducible first|apply As|apply Ak|apply At|apply Ao|apply Aw|apply Bc|apply Bg|apply Aj);· first|with_reducible rfl|(simp (disch:=omega) only [nt,nt1,J6,c0,c1,c2,c3,c4,c5,c6,c7,c8,c9,c10,c11,c12,lk,e0,w,eb,w1,q0,es,q3',q4',vq,v0,Ck]<;>with_reducible rfl))
    |((with_reducible first|apply Ap|apply Ar);· first|with_reducible rfl|omega|(simp (disch:=omega) only [gT,nt,nt1,J6,c0,c1,c2,c3,c4,c5,c6,c7,c8,c9,c10,c11,c12,lk,e0,w,eb,w1,q0,es,q3',q4',vq,v0,Ck]<;>omega))
    |(with_reducible apply Aq;· first|with_reducible rfl|(simp (disch:=omega) only [gF,nt,nt1,J6,c0,c1,c2,c3,c4,c5,c6,c7,c8,c9,c10,c11,c12,lk,e0,w,eb,w1,q0,es,q3',q4',vq,v0,Ck]<;>omega))
   try simp (disch:=omega) only [nt,nt1,J6,c0,c1,c2,c3,c4,c5,c6,c7,c8,c9,c10,c11,c12,lk,e0,w,eb,w1,q0,es,q3',q4',vq,v0,Ck]
   all_goals rfl
theorem CQ (hfu:1000<=fu){cs:List Ce}(hc:∀c∈cs,c.in_){ans:List An}(hl:ans.length<=900){vs:List Rv}(hv:vs.length<=900)(now:Int):
  Ae C0 Tryz.prog fu (d+10) Pj [.lst false 13 cs.length (B6 cs),.lst false 3 ans.length (Fa ans),.lst false 3 vs.length (Em vs),.sc (.int .i64 now)]=some ⟨[.sc (.int .i64 (HD cs ans vs now).1),.sc (.int .i64 (HD cs ans vs now).2)],[]⟩:=by
 rw [Z8];unfold HD;by_cases h1:now<0
 ·rw [Bu h1]
  try unfold Aa
  repeat first
   |((with_reducible first|apply As|apply Ak|apply At|apply Ao|apply Aw|apply Bc|apply Bg|apply Aj);· first|with_reducible rfl|(simp (disch:=omega) only [B8]<;>with_reducible rfl))
   |((with_reducible first|apply Ap|apply Ar);· first|with_reducible rfl|omega|(simp (disch:=omega) only [gT,B8]<;>omega))
   |(with_reducible apply Aq;· first|with_reducible rfl|(simp (disch:=omega) only [gF,B8]<;>omega))
  try simp (disch:=omega) only [B8]
  all_goals rfl
 rw [A5 h1];by_cases h2:now>1099511627776
 ·rw [Bu h2]
  try unfold Aa
  repeat first
   |((with_reducible first|apply As|apply Ak|apply At|apply Ao|apply Aw|apply Bc|apply Bg|apply Aj);· first|with_reducible rfl|(simp (disch:=omega) only [B8]<;>with_reducible rfl))
   |((with_reducible first|apply Ap|apply Ar);· first|with_reducible rfl|omega|(simp (disch:=omega) only [gT,B8]<;>omega))
   |(with_reducible apply Aq;· first|with_reducible rfl|(simp (disch:=omega) only [gF,B8]<;>omega))
  try simp (disch:=omega) only [B8]
  all_goals rfl
 rw [A5 h2];by_cases h3:cs.length<1
 ·rw [Bu h3]
  try unfold Aa
  repeat first
   |((with_reducible first|apply As|apply Ak|apply At|apply Ao|apply Aw|apply Bc|apply Bg|apply Aj);· first|with_reducible rfl|(simp (disch:=omega) only [B8]<;>with_reducible rfl))
   |((with_reducible first|apply Ap|apply Ar);· first|with_reducible rfl|omega|(simp (disch:=omega) only [gT,B8]<;>omega))
   |(with_reducible apply Aq;· first|with_reducible rfl|(simp (disch:=omega) only [gF,B8]<;>omega))
  try simp (disch:=omega) only [B8]
  all_goals rfl
 rw [A5 h3];by_cases h4:cs.length>3
 ·rw [Bu h4]
  try unfold Aa
  repeat first
   |((with_reducible first|apply As|apply Ak|apply At|apply Ao|apply Aw|apply Bc|apply Bg|apply Aj);· first|with_reducible rfl|(simp (disch:=omega) only [B8]<;>with_reducible rfl))
   |((with_reducible first|apply Ap|apply Ar);· first|with_reducible rfl|omega|(simp (disch:=omega) only [gT,B8]<;>omega))
   |(with_reducible apply Aq;· first|with_reducible rfl|(simp (disch:=omega) only [gF,B8]<;>omega))
  try simp (disch:=omega) only [B8]
  all_goals rfl
 rw [A5 h4];have lp:=PZ (fu:=fu) (d:=d) hfu (a0n:=cs.length) (a1n:=ans.length) (a2n:=vs.length) (a0:=B6 cs) (a1:=Fa ans) (a2:=Em vs) (a3:=now) hc (by omega) hl hv (now:=now) cs 0 fu (by intro h;subst h;simp at h3) rfl (by omega) (by omega)
 rw [←lp]
 try unfold Aa
 repeat first
  |((with_reducible first|apply As|apply Ak|apply At|apply Ao|apply Aw|apply Bc|apply Bg|apply Aj);· first|with_reducible rfl|(simp (disch:=omega) only [B8]<;>with_reducible rfl))
  |((with_reducible first|apply Ap|apply Ar);· first|with_reducible rfl|omega|(simp (disch:=omega) only [gT,B8]<;>omega))
  |(with_reducible apply Aq;· first|with_reducible rfl|(simp (disch:=omega) only [gF,B8]<;>omega))
 try simp (disch:=omega) only [B8]
 all_goals rfl
end
end
section
open Go.IntKind (wrap)
section
variable {fu d:Nat}
theorem PB (hfu:1000<=fu){a0_0 a0_1:ByteArray}{a0_2 a0_3 a0_4 a0_5 a0_6 a0_8 a0_9 a0_10:Int}{a0_7:Bool}{a0_11n a0_12n a1n:Nat}{a0_11 a0_12 a1:List PV}{c:Ce}(hc:c.in_){ans:List An}(hl:ans.length<=1000000):∀(r:List An)(i nn:Nat),ans.drop i=r->r.length<nn->i<=ans.length ->
  Eb fu (Ae C0 Tryz.prog fu (d+8)) a0_0 a0_1 a0_2 a0_3 a0_4 a0_5 a0_6 a0_7 a0_8 a0_9 a0_10 a0_11n a0_11 a0_12n a0_12 a1n a1 nn ans.length (Fa ans) (i:Int) c.subj c.iss c.serial c.key.h c.key.root c.fr c.un c.auth c.path c.model c.sig.leaf c.sig.chains.length (Af .u64 c.sig.chains) c.sig.path.length (Af .u64 c.sig.path) =
   some ⟨[.sc (.int .i64 (Le c i r))],[]⟩
 |_,_,0,_,h,_=>by omega
 |[],i,nn+1,h,hn,hi=>by
  have:=drop_nil h;rw [I5,Dj _ _ _ (by omega)]
  rfl
 |a::rs,i,nn+1,h,hn,hi=>by
  obtain ⟨h1,h2,h3⟩:=B3 h;simp only [Jd] at hn;obtain ⟨c0,c1,c2⟩:=ana h2;have w:wrap .i64 ((i:Int)+1)=((i+1:Nat):Int):=by rw [Al (by omega) (by omega)];omega
  have nt:Int.toNat (i:Int)=i:=Gu _;have c2':(Fa ans).getD (i*3+1+1) .top=.sc (.int .u64 a.key.root):=c2;have vq:=XJ (fu:=fu) (d:=d) hfu hc.wf hc.s1 hc.s2 a.key;simp only [Ce.cells,Ky.cells] at vq;have ih:=PB hfu (a0_0:=a0_0) (a0_1:=a0_1) (a0_2:=a0_2) (a0_3:=a0_3) (a0_4:=a0_4) (a0_5:=a0_5) (a0_6:=a0_6) (a0_7:=a0_7) (a0_8:=a0_8) (a0_9:=a0_9) (a0_10:=a0_10) (a0_11n:=a0_11n) (a0_12n:=a0_12n) (a1n:=a1n) (a0_11:=a0_11) (a0_12:=a0_12) (a1:=a1) hc hl rs (i+1) nn h3 (by omega) (by omega)
  rw [I5];cases e1:eqS a.name c.iss
  ·have er:Le c i (a::rs)=Le c (i+1) rs:=by rw [Le,A5 (by simp [e1])]
   rw [er,←ih]
   try unfold Aa
   repeat first
    |((with_reducible first|apply As|apply Ak|apply At|apply Ao|apply Aw|apply Bc|apply Bg|apply Aj);· first|with_reducible rfl|(simp (disch:=omega) only [nt,J6,c0,c1,c2',e1,w]<;>with_reducible rfl))
    |((with_reducible first|apply Ap|apply Ar);· first|with_reducible rfl|omega|(simp (disch:=omega) only [gT,nt,J6,c0,c1,c2',e1,w]<;>omega))
    |(with_reducible apply Aq;· first|with_reducible rfl|(simp (disch:=omega) only [gF,nt,J6,c0,c1,c2',e1,w]<;>omega))
   try simp (disch:=omega) only [nt,J6,c0,c1,c2',e1,w]
   all_goals rfl
  ·by_cases e2:Np c a.key=0
   ·have e2':(Np c a.key==0)=true:=by simp [e2]
    have er:Le c i (a::rs)=(i:Int):=by rw [Le,Bu ⟨e1,e2⟩]
    rw [er]
    try unfold Aa
    repeat first
     |((with_reducible first|apply As|apply Ak|apply At|apply Ao|apply Aw|apply Bc|apply Bg|apply Aj);· first|with_reducible rfl|(simp (disch:=omega) only [nt,J6,c0,c1,c2',e1,w,vq,e2']<;>with_reducible rfl))
     |((with_reducible first|apply Ap|apply Ar);· first|with_reducible rfl|omega|(simp (disch:=omega) only [gT,nt,J6,c0,c1,c2',e1,w,vq,e2']<;>omega))
     |(with_reducible apply Aq;· first|with_reducible rfl|(simp (disch:=omega) only [gF,nt,J6,c0,c1,c2',e1,w,vq,e2']<;>omega))
    try simp (disch:=omega) only [nt,J6,c0,c1,c2',e1,w,vq,e2']
    all_goals rfl
   ·have e2':(Np c a.key==0)=false:=by simp [e2]
    have er:Le c i (a::rs)=Le c (i+1) rs:=by rw [Le,A5 (by simp [e2])]
    rw [er,←ih]
    try unfold Aa
    repeat first
     |((with_reducible first|apply As|apply Ak|apply At|apply Ao|apply Aw|apply Bc|apply Bg|apply Aj);· first|with_reducible rfl|(simp (disch:=omega) only [nt,J6,c0,c1,c2',e1,w,vq,e2']<;>with_reducible rfl))
     |((with_reducible first|apply Ap|apply Ar);· first|with_reducible rfl|omega|(simp (disch:=omega) only [gT,nt,J6,c0,c1,c2',e1,w,vq,e2']<;>omega))
     |(with_reducible apply Aq;· first|with_reducible rfl|(simp (disch:=omega) only [gF,nt,J6,c0,c1,c2',e1,w,vq,e2']<;>omega))
    try simp (disch:=omega) only [nt,J6,c0,c1,c2',e1,w,vq,e2']
    all_goals rfl
theorem Alt (hfu:1000<=fu){c:Ce}(hc:c.in_){ans:List An}(hl:ans.length<=900):Ae C0 Tryz.prog fu (d+9) Lj [.agg c.cells,.lst false 3 ans.length (Fa ans)]=some ⟨[.sc (.int .i64 (Le c 0 ans))],[]⟩:=
 (Vp fu (d+8) c.subj c.iss c.serial c.key.h c.key.root c.fr c.un c.auth c.path c.model c.sig.leaf c.sig.chains.length (Af .u64 c.sig.chains) c.sig.path.length (Af .u64 c.sig.path) ans.length (Fa ans)).trans (PB hfu hc (by omega) ans 0 fu rfl (by omega) (by omega))
theorem RL {call:Ah}{a0n a1n a2n m0:Nat}{a0 a1 a2:List PV}{a3 i:Int}{cs:List Ce}{ans:List An}{c:Ce}{now:Int}{vs:List Rv}(hl:vs.length<=1000000){T:Option A0}
  (hT:∀nn,Cy fu call a0n a0 a1n a1 a2n a2 a3 m0 (nn+1) cs.length (B6 cs) ans.length (Fa ans) vs.length (Em vs) now i (vs.length:Int) c.subj c.iss c.serial c.key.h c.key.root c.fr c.un c.auth c.path c.model c.sig.leaf c.sig.chains.length (Af .u64 c.sig.chains) c.sig.path.length (Af .u64 c.sig.path)=T):∀(r:List Rv)(j nn:Nat),vs.drop j=r->r.length<nn->j<=vs.length ->
  Cy fu call a0n a0 a1n a1 a2n a2 a3 m0 nn cs.length (B6 cs) ans.length (Fa ans) vs.length (Em vs) now i (j:Int) c.subj c.iss c.serial c.key.h c.key.root c.fr c.un c.auth c.path c.model c.sig.leaf c.sig.chains.length (Af .u64 c.sig.chains) c.sig.path.length (Af .u64 c.sig.path) =
   if I8 c now r=0 then T else some ⟨[.sc (.int .i64 0),.sc (.int .i64 39)],[]⟩
 |_,_,0,_,h,_=>by omega
 |[],j,nn+1,h,hn,hj=>by
  have:=drop_nil h;obtain rfl:j=vs.length:=by omega
  rw [hT nn];rfl
 |r::rs,j,nn+1,h,hn,hj=>by
  obtain ⟨h1,h2,h3⟩:=B3 h;simp only [Jd] at hn;obtain ⟨c0,c1,c2⟩:=rva h2;have w:wrap .i64 ((j:Int)+1)=((j+1:Nat):Int):=by rw [Al (by omega) (by omega)];omega
  have nt:Int.toNat (j:Int)=j:=Gu _;have ih:=RL hl hT rs (j+1) nn h3 (by omega) (by omega)
  have er:I8 c now (r::rs)=if Kf c now r=true then 39 else I8 c now rs:=by
   unfold I8;rw [List.any_cons];cases Kf c now r<;>rfl
  rw [Hh];cases e1:eqS r.iss c.iss
  ·have eh:Kf c now r=false:=by unfold Kf;rw [e1];rfl
   have er':I8 c now (r::rs)=I8 c now rs:=by rw [er,eh];rfl
   rw [er',←ih]
   try unfold Aa
   repeat first
    |((with_reducible first|apply As|apply Ak|apply At|apply Ao|apply Aw|apply Bc|apply Bg|apply Aj);· first|with_reducible rfl|(simp (disch:=omega) only [nt,J6,c0,c1,c2,e1,w]<;>with_reducible rfl))
    |((with_reducible first|apply Ap|apply Ar);· first|with_reducible rfl|omega|(simp (disch:=omega) only [gT,nt,J6,c0,c1,c2,e1,w]<;>omega))
    |(with_reducible apply Aq;· first|with_reducible rfl|(simp (disch:=omega) only [gF,nt,J6,c0,c1,c2,e1,w]<;>omega))
   try simp (disch:=omega) only [nt,J6,c0,c1,c2,e1,w]
   all_goals rfl
  ·cases e2:(r.ser==c.serial)
   ·have eh:Kf c now r=false:=by unfold Kf;rw [e1,e2];rfl
    have er':I8 c now (r::rs)=I8 c now rs:=by rw [er,eh];rfl
    rw [er',←ih]
    try unfold Aa
    repeat first
     |((with_reducible first|apply As|apply Ak|apply At|apply Ao|apply Aw|apply Bc|apply Bg|apply Aj);· first|with_reducible rfl|(simp (disch:=omega) only [nt,J6,c0,c1,c2,e1,e2,w]<;>with_reducible rfl))
     |((with_reducible first|apply Ap|apply Ar);· first|with_reducible rfl|omega|(simp (disch:=omega) only [gT,nt,J6,c0,c1,c2,e1,e2,w]<;>omega))
     |(with_reducible apply Aq;· first|with_reducible rfl|(simp (disch:=omega) only [gF,nt,J6,c0,c1,c2,e1,e2,w]<;>omega))
    try simp (disch:=omega) only [nt,J6,c0,c1,c2,e1,e2,w]
    all_goals rfl
   ·by_cases e3:r.at_<=now
    ·have eh:Kf c now r=true:=by unfold Kf;rw [e1,e2];simp [e3]
     have er':I8 c now (r::rs)=39:=by rw [er,eh];rfl
     have n39:¬((39:Int)=0):=by omega
     rw [er',A5 n39]
     try unfold Aa
     repeat first
      |((with_reducible first|apply As|apply Ak|apply At|apply Ao|apply Aw|apply Bc|apply Bg|apply Aj);· first|with_reducible rfl|(simp (disch:=omega) only [nt,J6,c0,c1,c2,e1,e2,w]<;>with_reducible rfl))
      |((with_reducible first|apply Ap|apply Ar);· first|with_reducible rfl|omega|(simp (disch:=omega) only [gT,nt,J6,c0,c1,c2,e1,e2,w]<;>omega))
      |(with_reducible apply Aq;· first|with_reducible rfl|(simp (disch:=omega) only [gF,nt,J6,c0,c1,c2,e1,e2,w]<;>omega))
     try simp (disch:=omega) only [nt,J6,c0,c1,c2,e1,e2,w]
     all_goals rfl
    ·have eh:Kf c now r=false:=by unfold Kf;rw [e1,e2];simp [e3]
     have er':I8 c now (r::rs)=I8 c now rs:=by rw [er,eh];rfl
     rw [er',←ih]
     try unfold Aa
     repeat first
      |((with_reducible first|apply As|apply Ak|apply At|apply Ao|apply Aw|apply Bc|apply Bg|apply Aj);· first|with_reducible rfl|(simp (disch:=omega) only [nt,J6,c0,c1,c2,e1,e2,w]<;>with_reducible rfl))
      |((with_reducible first|apply Ap|apply Ar);· first|with_reducible rfl|omega|(simp (disch:=omega) only [gT,nt,J6,c0,c1,c2,e1,e2,w]<;>omega))
      |(with_reducible apply Aq;· first|with_reducible rfl|(simp (disch:=omega) only [gF,nt,J6,c0,c1,c2,e1,e2,w]<;>omega))
     try simp (disch:=omega) only [nt,J6,c0,c1,c2,e1,e2,w]
     all_goals rfl
theorem WQ (hfu:1000<=fu){a0n a1n a2n:Nat}{a0 a1 a2:List PV}{a3:Int}{cs:List Ce}{c:Ce}{i:Nat}(hg:cs[i]?=some c) (hci:c.in_)(h3:cs.length<=3){ans:List An}{vs:List Rv}(hv:vs.length<=900){now:Int}{m:Nat}{T:Option A0}
  (hT:∀nn,Cy fu (Ae C0 Tryz.prog fu (d+9)) a0n a0 a1n a1 a2n a2 a3 m (nn+1) cs.length (B6 cs) ans.length (Fa ans) vs.length (Em vs) now (i:Int) (vs.length:Int) c.subj c.iss c.serial c.key.h c.key.root c.fr c.un c.auth c.path c.model c.sig.leaf c.sig.chains.length (Af .u64 c.sig.chains) c.sig.path.length (Af .u64 c.sig.path)=T):
  D0 fu (Ae C0 Tryz.prog fu (d+9)) a0n a0 a1n a1 a2n a2 a3 (m+1) cs.length (B6 cs) ans.length (Fa ans) vs.length (Em vs) now (i:Int) =
   if F6 c i vs now=0 then T else some ⟨[.sc (.int .i64 0),.sc (.int .i64 (F6 c i vs now))],[]⟩:=by
 obtain ⟨c0,c1,c2,c3,c4,c5,c6,c7,c8,c9,c10,c11,c12⟩:=cer hg;have hi:=SC hg;have nt:Int.toNat (i:Int)=i:=Gu _;have bq:=NP (fu:=fu) (d:=d+4) hfu hci.wf hci.s1 hci.s2;simp only [Ce.cells] at bq;unfold Gv at bq;have wi:=Pe (fu:=fu) (d:=d+8) now c.fr c.un;have w:wrap .i64 ((i:Int)-1)=(i:Int)-1:=Al (by omega) (by omega)
 have rl:=RL (fu:=fu) (c:=c) (by omega) hT vs 0 fu rfl (by omega) (by omega)
 have J:∀nn,0<nn->Gg fu (Ae C0 Tryz.prog fu (d+9)) a0n a0 a1n a1 a2n a2 a3 m nn cs.length (B6 cs) ans.length (Fa ans) vs.length (Em vs) now (i:Int) c.subj c.iss c.serial c.key.h c.key.root c.fr c.un c.auth c.path c.model c.sig.leaf c.sig.chains.length (Af .u64 c.sig.chains) c.sig.path.length (Af .u64 c.sig.path)=if I8 c now vs=0 then T else some ⟨[.sc (.int .i64 0),.sc (.int .i64 39)],[]⟩:=by
  intro nn hnn;rw [Ts (hnn:=hnn)];exact rl
 have J:=J fu (by omega)
 rw [Hk];by_cases h0:A4 c=0
 rotate_left
 ·have hne:(A4 c != 0)=true:=by simp [h0]
  have el:F6 c i vs now=A4 c:=by unfold F6;rw [Bu h0]
  rw [A5 h0] at bq;rw [el,A5 h0]
  try unfold Aa
  repeat first
   |((with_reducible first|apply As|apply Ak|apply At|apply Ao|apply Aw|apply Bc|apply Bg|apply Aj);· first|with_reducible rfl|(simp (disch:=omega) only [nt,c0,c1,c2,c3,c4,c5,c6,c7,c8,c9,c10,c11,c12,bq,hne]<;>with_reducible rfl))
   |((with_reducible first|apply Ap|apply Ar);· first|with_reducible rfl|omega|(simp (disch:=omega) only [gT,nt,c0,c1,c2,c3,c4,c5,c6,c7,c8,c9,c10,c11,c12,bq,hne]<;>omega))
   |(with_reducible apply Aq;· first|with_reducible rfl|(simp (disch:=omega) only [gF,nt,c0,c1,c2,c3,c4,c5,c6,c7,c8,c9,c10,c11,c12,bq,hne]<;>omega))
  try simp (disch:=omega) only [nt,c0,c1,c2,c3,c4,c5,c6,c7,c8,c9,c10,c11,c12,bq,hne]
  all_goals rfl
 rw [Bu h0] at bq;have e00:((0:Int) != 0)=false:=rfl;have n38:¬((38:Int)=0):=by omega
 have L0:F6 c i vs now=if now<c.fr then 38 else if now>c.un then 38 else if (i:Int)>0 then (if c.auth=false then 38 else if c.path<(i:Int)-1 then 38 else I8 c now vs) else I8 c now vs:=by unfold F6;rw [A5 (by simp [h0])]
 by_cases h1:now<c.fr
 ·have el:F6 c i vs now=38:=by rw [L0,Bu h1]
  have:(decide (c.fr<=now)&&decide (now<=c.un))=false:=by simp;omega
  rw [this] at wi;rw [el,A5 n38]
  try unfold Aa
  repeat first
   |((with_reducible first|apply As|apply Ak|apply At|apply Ao|apply Aw|apply Bc|apply Bg|apply Aj);· first|with_reducible rfl|(simp (disch:=omega) only [nt,c0,c1,c2,c3,c4,c5,c6,c7,c8,c9,c10,c11,c12,bq,e00,wi,Cn]<;>with_reducible rfl))
   |((with_reducible first|apply Ap|apply Ar);· first|with_reducible rfl|omega|(simp (disch:=omega) only [gT,nt,c0,c1,c2,c3,c4,c5,c6,c7,c8,c9,c10,c11,c12,bq,e00,wi,Cn]<;>omega))
   |(with_reducible apply Aq;· first|with_reducible rfl|(simp (disch:=omega) only [gF,nt,c0,c1,c2,c3,c4,c5,c6,c7,c8,c9,c10,c11,c12,bq,e00,wi,Cn]<;>omega))
  try simp (disch:=omega) only [nt,c0,c1,c2,c3,c4,c5,c6,c7,c8,c9,c10,c11,c12,bq,e00,wi,Cn]
  all_goals rfl
 by_cases h2:now>c.un
 ·have el:F6 c i vs now=38:=by rw [L0,A5 h1,Bu h2]
  have:(decide (c.fr<=now)&&decide (now<=c.un))=false:=by simp;omega
  rw [this] at wi;rw [el,A5 n38]
  try unfold Aa
  repeat first
   |((with_reducible first|apply As|apply Ak|apply At|apply Ao|apply Aw|apply Bc|apply Bg|apply Aj);· first|with_reducible rfl|(simp (disch:=omega) only [nt,c0,c1,c2,c3,c4,c5,c6,c7,c8,c9,c10,c11,c12,bq,e00,wi,Cn]<;>with_reducible rfl))
   |((with_reducible first|apply Ap|apply Ar);· first|with_reducible rfl|omega|(simp (disch:=omega) only [gT,nt,c0,c1,c2,c3,c4,c5,c6,c7,c8,c9,c10,c11,c12,bq,e00,wi,Cn]<;>omega))
   |(with_reducible apply Aq;· first|with_reducible rfl|(simp (disch:=omega) only [gF,nt,c0,c1,c2,c3,c4,c5,c6,c7,c8,c9,c10,c11,c12,bq,e00,wi,Cn]<;>omega))
  try simp (disch:=omega) only [nt,c0,c1,c2,c3,c4,c5,c6,c7,c8,c9,c10,c11,c12,bq,e00,wi,Cn]
  all_goals rfl
 have q:(decide (c.fr<=now)&&decide (now<=c.un))=true:=by simp;omega
 rw [q] at wi;by_cases h4:(i:Int)>0
 ·cases ha:c.auth
  ·have el:F6 c i vs now=38:=by rw [L0,A5 h1,A5 h2,Bu h4,Bu ha]
   rw [el,A5 n38];rw [ha] at c7 bq
   try unfold Aa
   repeat first
    |((with_reducible first|apply As|apply Ak|apply At|apply Ao|apply Aw|apply Bc|apply Bg|apply Aj);· first|with_reducible rfl|(simp (disch:=omega) only [nt,c0,c1,c2,c3,c4,c5,c6,c7,c8,c9,c10,c11,c12,bq,e00,wi,Ck,Cn]<;>with_reducible rfl))
    |((with_reducible first|apply Ap|apply Ar);· first|with_reducible rfl|omega|(simp (disch:=omega) only [gT,nt,c0,c1,c2,c3,c4,c5,c6,c7,c8,c9,c10,c11,c12,bq,e00,wi,Ck,Cn]<;>omega))
    |(with_reducible apply Aq;· first|with_reducible rfl|(simp (disch:=omega) only [gF,nt,c0,c1,c2,c3,c4,c5,c6,c7,c8,c9,c10,c11,c12,bq,e00,wi,Ck,Cn]<;>omega))
   try simp (disch:=omega) only [nt,c0,c1,c2,c3,c4,c5,c6,c7,c8,c9,c10,c11,c12,bq,e00,wi,Ck,Cn]
   all_goals rfl
  ·rw [ha] at c7 bq J;by_cases h5:c.path<(i:Int)-1
   ·have el:F6 c i vs now=38:=by rw [L0,A5 h1,A5 h2,Bu h4,A5 (by simp [ha]),Bu h5]
    rw [el,A5 n38]
    try unfold Aa
    repeat first
     |((with_reducible first|apply As|apply Ak|apply At|apply Ao|apply Aw|apply Bc|apply Bg|apply Aj);· first|with_reducible rfl|(simp (disch:=omega) only [nt,c0,c1,c2,c3,c4,c5,c6,c7,c8,c9,c10,c11,c12,bq,e00,wi,w,Ck,Cn]<;>with_reducible rfl))
     |((with_reducible first|apply Ap|apply Ar);· first|with_reducible rfl|omega|(simp (disch:=omega) only [gT,nt,c0,c1,c2,c3,c4,c5,c6,c7,c8,c9,c10,c11,c12,bq,e00,wi,w,Ck,Cn]<;>omega))
     |(with_reducible apply Aq;· first|with_reducible rfl|(simp (disch:=omega) only [gF,nt,c0,c1,c2,c3,c4,c5,c6,c7,c8,c9,c10,c11,c12,bq,e00,wi,w,Ck,Cn]<;>omega))
    try simp (disch:=omega) only [nt,c0,c1,c2,c3,c4,c5,c6,c7,c8,c9,c10,c11,c12,bq,e00,wi,w,Ck,Cn]
    all_goals rfl
   ·have el:F6 c i vs now=I8 c now vs:=by rw [L0,A5 h1,A5 h2,Bu h4,A5 (by simp [ha]),A5 h5]
    have e39:(if I8 c now vs=0 then T else some ⟨[.sc (.int .i64 0),.sc (.int .i64 (I8 c now vs))],[]⟩)=(if I8 c now vs=0 then T else some (A0.mk [.sc (.int .i64 0),.sc (.int .i64 39)] [])):=by
     unfold I8;split<;>rfl
    rw [el,e39,←J]
    try unfold Aa
    repeat first
     |((with_reducible first|apply As|apply Ak|apply At|apply Ao|apply Aw|apply Bc|apply Bg|apply Aj);· first|with_reducible rfl|(simp (disch:=omega) only [nt,c0,c1,c2,c3,c4,c5,c6,c7,c8,c9,c10,c11,c12,bq,e00,wi,w,Ck,Cn]<;>with_reducible rfl))
     |((with_reducible first|apply Ap|apply Ar);· first|with_reducible rfl|omega|(simp (disch:=omega) only [gT,nt,c0,c1,c2,c3,c4,c5,c6,c7,c8,c9,c10,c11,c12,bq,e00,wi,w,Ck,Cn]<;>omega))
     |(with_reducible apply Aq;· first|with_reducible rfl|(simp (disch:=omega) only [gF,nt,c0,c1,c2,c3,c4,c5,c6,c7,c8,c9,c10,c11,c12,bq,e00,wi,w,Ck,Cn]<;>omega))
    try simp (disch:=omega) only [nt,c0,c1,c2,c3,c4,c5,c6,c7,c8,c9,c10,c11,c12,bq,e00,wi,w,Ck,Cn]
    all_goals rfl
 ·have el:F6 c i vs now=I8 c now vs:=by rw [L0,A5 h1,A5 h2,A5 h4]
  have e39:(if I8 c now vs=0 then T else some ⟨[.sc (.int .i64 0),.sc (.int .i64 (I8 c now vs))],[]⟩)=(if I8 c now vs=0 then T else some (A0.mk [.sc (.int .i64 0),.sc (.int .i64 39)] [])):=by
   unfold I8;split<;>rfl
  rw [el,e39,←J]
  try unfold Aa
  repeat first
   |((with_reducible first|apply As|apply Ak|apply At|apply Ao|apply Aw|apply Bc|apply Bg|apply Aj);· first|with_reducible rfl|(simp (disch:=omega) only [nt,c0,c1,c2,c3,c4,c5,c6,c7,c8,c9,c10,c11,c12,bq,e00,wi,w,Ck,Cn]<;>with_reducible rfl))
   |((with_reducible first|apply Ap|apply Ar);· first|with_reducible rfl|omega|(simp (disch:=omega) only [gT,nt,c0,c1,c2,c3,c4,c5,c6,c7,c8,c9,c10,c11,c12,bq,e00,wi,w,Ck,Cn]<;>omega))
   |(with_reducible apply Aq;· first|with_reducible rfl|(simp (disch:=omega) only [gF,nt,c0,c1,c2,c3,c4,c5,c6,c7,c8,c9,c10,c11,c12,bq,e00,wi,w,Ck,Cn]<;>omega))
  try simp (disch:=omega) only [nt,c0,c1,c2,c3,c4,c5,c6,c7,c8,c9,c10,c11,c12,bq,e00,wi,w,Ck,Cn]
  all_goals rfl
theorem MD (hfu:1000<=fu){a0n a1n a2n:Nat}{a0 a1 a2:List PV}{a3:Int}{cs:List Ce}(hc:∀c∈cs,c.in_)(h3:cs.length<=3){ans:List An}(hl:ans.length<=900){vs:List Rv}(hv:vs.length<=900){now:Int}:∀(r:List Ce)(i nn:Nat),r≠[]->cs.drop i=r->r.length+1<nn->i<=cs.length ->
  D0 fu (Ae C0 Tryz.prog fu (d+10)) a0n a0 a1n a1 a2n a2 a3 nn cs.length (B6 cs) ans.length (Fa ans) vs.length (Em vs) now (i:Int) =
   some ⟨[.sc (.int .i64 (S4 ans vs now i r).1),.sc (.int .i64 (S4 ans vs now i r).2)],[]⟩
 |_,_,0,_,_,h,_=>by omega
 |[],i,nn+1,hne,_,_,_=>absurd rfl hne
 |[c],i,nn+1,hne,h,hn,hi=>by
  obtain ⟨h1,h2,h3'⟩:=B3 h;have hlast:=drop_nil h3';have hci:=hc c (List.mem_of_getElem? h2);simp only [Jd,Zw] at hn;obtain ⟨m,rfl⟩:∃m,nn=m+1:=⟨nn-1,by omega⟩
  obtain ⟨c0,c1,c2,c3,c4,c5,c6,c7,c8,c9,c10,c11,c12⟩:=cer h2;have nt:Int.toNat (i:Int)=i:=Gu _;have w1:wrap .i64 ((i:Int)+1)=((i+1:Nat):Int):=by rw [Al (by omega) (by omega)];omega
  have w2:wrap .i64 ((cs.length:Int)-1)=(i:Int):=by rw [Al (by omega) (by omega)];omega
  have is_:=Alt (fu:=fu) (d:=d+1) hfu hci (ans:=ans) hl;simp only [Ce.cells] at is_
  have st:=WQ (fu:=fu) (d:=d+1) hfu (a0n:=a0n) (a1n:=a1n) (a2n:=a2n) (a0:=a0) (a1:=a1) (a2:=a2) (a3:=a3) h2 hci h3 (ans:=ans) (vs:=vs) hv (now:=now) (m:=m+1) (T:=some ⟨[.sc (.int .i64 (YE c ans).1),.sc (.int .i64 (YE c ans).2)],[]⟩) (by
   intro nn;unfold YE;rw [Hh];by_cases hz:Le c 0 ans<0
   ·rw [Bu hz]
    try unfold Aa
    repeat first
     |((with_reducible first|apply As|apply Ak|apply At|apply Ao|apply Aw|apply Bc|apply Bg|apply Aj);· first|with_reducible rfl|(simp (disch:=omega) only [w1]<;>with_reducible rfl))
     |((with_reducible first|apply Ap|apply Ar);· first|with_reducible rfl|omega|(simp (disch:=omega) only [gT,w1]<;>omega))
     |(with_reducible apply Aq;· first|with_reducible rfl|(simp (disch:=omega) only [gF,w1]<;>omega))
    try simp (disch:=omega) only [w1]
    rw [Hk]
    try unfold Aa
    repeat first
     |((with_reducible first|apply As|apply Ak|apply At|apply Ao|apply Aw|apply Bc|apply Bg|apply Aj);· first|with_reducible rfl|(simp (disch:=omega) only [w2,nt,c0,c1,c2,c3,c4,c5,c6,c7,c8,c9,c10,c11,c12,is_]<;>with_reducible rfl))
     |((with_reducible first|apply Ap|apply Ar);· first|with_reducible rfl|omega|(simp (disch:=omega) only [gT,w2,nt,c0,c1,c2,c3,c4,c5,c6,c7,c8,c9,c10,c11,c12,is_]<;>omega))
     |(with_reducible apply Aq;· first|with_reducible rfl|(simp (disch:=omega) only [gF,w2,nt,c0,c1,c2,c3,c4,c5,c6,c7,c8,c9,c10,c11,c12,is_]<;>omega))
    try simp (disch:=omega) only [w2,nt,c0,c1,c2,c3,c4,c5,c6,c7,c8,c9,c10,c11,c12,is_]
    all_goals rfl
   ·rw [A5 hz]
    try unfold Aa
    repeat first
     |((with_reducible first|apply As|apply Ak|apply At|apply Ao|apply Aw|apply Bc|apply Bg|apply Aj);· first|with_reducible rfl|(simp (disch:=omega) only [w1]<;>with_reducible rfl))
     |((with_reducible first|apply Ap|apply Ar);· first|with_reducible rfl|omega|(simp (disch:=omega) only [gT,w1]<;>omega))
     |(with_reducible apply Aq;· first|with_reducible rfl|(simp (disch:=omega) only [gF,w1]<;>omega))
    try simp (disch:=omega) only [w1]
    rw [Hk]
    try unfold Aa
    repeat first
     |((with_reducible first|apply As|apply Ak|apply At|apply Ao|apply Aw|apply Bc|apply Bg|apply Aj);· first|with_reducible rfl|(simp (disch:=omega) only [w2,nt,c0,c1,c2,c3,c4,c5,c6,c7,c8,c9,c10,c11,c12,is_]<;>with_reducible rfl))
     |((with_reducible first|apply Ap|apply Ar);· first|with_reducible rfl|omega|(simp (disch:=omega) only [gT,w2,nt,c0,c1,c2,c3,c4,c5,c6,c7,c8,c9,c10,c11,c12,is_]<;>omega))
     |(with_reducible apply Aq;· first|with_reducible rfl|(simp (disch:=omega) only [gF,w2,nt,c0,c1,c2,c3,c4,c5,c6,c7,c8,c9,c10,c11,c12,is_]<;>omega))
    try simp (disch:=omega) only [w2,nt,c0,c1,c2,c3,c4,c5,c6,c7,c8,c9,c10,c11,c12,is_]
    all_goals rfl)
  rw [st];unfold S4;by_cases hz:F6 c i vs now=0
  ·have hz':¬(F6 c i vs now≠0):=by simp [hz]
   rw [Bu hz,A5 hz']
  ·rw [A5 hz,Bu hz]
 |c::e::r,i,nn+1,hne,h,hn,hi=>by
  obtain ⟨h1,h2,h3'⟩:=B3 h;obtain ⟨k1,k2,k3⟩:=B3 h3';simp only [Jd] at hn;have hci:=hc c (List.mem_of_getElem? h2);obtain ⟨q0,q1,q2,q3,q4,_⟩:=cer k2;have nt1:Int.toNat ((i+1:Nat):Int)=i+1:=Gu _;have w1:wrap .i64 ((i:Int)+1)=((i+1:Nat):Int):=by rw [Al (by omega) (by omega)];omega
  have q3':(B6 cs).getD ((i+1)*13+3) .top=.sc (.int .i64 e.key.h):=q3;have q4':(B6 cs).getD ((i+1)*13+3+1) .top=.sc (.int .u64 e.key.root):=q4;have vq:=XJ (fu:=fu) (d:=d+2) hfu hci.wf hci.s1 hci.s2 e.key;simp only [Ce.cells,Ky.cells] at vq;have ih:=MD hfu (a0n:=a0n) (a1n:=a1n) (a2n:=a2n) (a0:=a0) (a1:=a1) (a2:=a2) (a3:=a3) hc h3 hl hv (now:=now) (e::r) (i+1) nn (by simp) h3' (by simp only [Jd];omega) (by omega)
  have st:=WQ (fu:=fu) (d:=d+1) hfu (a0n:=a0n) (a1n:=a1n) (a2n:=a2n) (a0:=a0) (a1:=a1) (a2:=a2) (a3:=a3) h2 hci h3 (ans:=ans) (vs:=vs) hv (now:=now) (m:=nn) (T:=some ⟨[.sc (.int .i64 (if eqS c.iss e.subj=false then ((0:Int),(38:Int)) else if Np c e.key≠0 then (0,Np c e.key) else S4 ans vs now (i+1) (e::r)).1),.sc (.int .i64 (if eqS c.iss e.subj=false then ((0:Int),(38:Int)) else if Np c e.key≠0 then (0,Np c e.key) else S4 ans vs now (i+1) (e::r)).2)],[]⟩) (by
   intro nn';rw [Hh];cases es:eqS c.iss e.subj
   ·simp only [if_true]
    try unfold Aa
    repeat first
     |((with_reducible first|apply As|apply Ak|apply At|apply Ao|apply Aw|apply Bc|apply Bg|apply Aj);· first|with_reducible rfl|(simp (disch:=omega) only [w1,nt1,J6,q0,es,Cn]<;>with_reducible rfl))
     |((with_reducible first|apply Ap|apply Ar);· first|with_reducible rfl|omega|(simp (disch:=omega) only [gT,w1,nt1,J6,q0,es,Cn]<;>omega))
     |(with_reducible apply Aq;· first|with_reducible rfl|(simp (disch:=omega) only [gF,w1,nt1,J6,q0,es,Cn]<;>omega))
    try simp (disch:=omega) only [w1,nt1,J6,q0,es,Cn]
    all_goals rfl
   ·simp only [Bool.true_eq_false,if_false];by_cases hv':Np c e.key=0
    ·have v0:(Np c e.key != 0)=false:=by simp [hv']
     rw [A5 (by simp [hv']),←ih]
     try unfold Aa
     repeat first
      |((with_reducible first|apply As|apply Ak|apply At|apply Ao|apply Aw|apply Bc|apply Bg|apply Aj);· first|with_reducible rfl|(simp (disch:=omega) only [w1,nt1,J6,q0,es,q3',q4',vq,v0,Ck]<;>with_reducible rfl))
      |((with_reducible first|apply Ap|apply Ar);· first|with_reducible rfl|omega|(simp (disch:=omega) only [gT,w1,nt1,J6,q0,es,q3',q4',vq,v0,Ck]<;>omega))
      |(with_reducible apply Aq;· first|with_reducible rfl|(simp (disch:=omega) only [gF,w1,nt1,J6,q0,es,q3',q4',vq,v0,Ck]<;>omega))
     try simp (disch:=omega) only [w1,nt1,J6,q0,es,q3',q4',vq,v0,Ck]
     all_goals rfl
    ·have v0:(Np c e.key != 0)=true:=by simp [hv']
     rw [Bu hv']
     try unfold Aa
     repeat first
      |((with_reducible first|apply As|apply Ak|apply At|apply Ao|apply Aw|apply Bc|apply Bg|apply Aj);· first|with_reducible rfl|(simp (disch:=omega) only [w1,nt1,J6,q0,es,q3',q4',vq,v0,Ck]<;>with_reducible rfl))
      |((with_reducible first|apply Ap|apply Ar);· first|with_reducible rfl|omega|(simp (disch:=omega) only [gT,w1,nt1,J6,q0,es,q3',q4',vq,v0,Ck]<;>omega))
      |(with_reducible apply Aq;· first|with_reducible rfl|(simp (disch:=omega) only [gF,w1,nt1,J6,q0,es,q3',q4',vq,v0,Ck]<;>omega))
     try simp (disch:=omega) only [w1,nt1,J6,q0,es,q3',q4',vq,v0,Ck]
     all_goals rfl)
  rw [st]
  conv=>rhs;unfold S4
  by_cases hz:F6 c i vs now=0
  ·have hz':¬(F6 c i vs now≠0):=by simp [hz]
   rw [Bu hz,A5 hz']
  ·rw [A5 hz,Bu hz]
theorem XP (hfu:1000<=fu){cs:List Ce}(hc:∀c∈cs,c.in_){ans:List An}(hl:ans.length<=900){vs:List Rv}(hv:vs.length<=900)(now:Int):
  Ae C0 Tryz.prog fu (d+11) Oa [.lst false 13 cs.length (B6 cs),.lst false 3 ans.length (Fa ans),.lst false 3 vs.length (Em vs),.sc (.int .i64 now)]=some ⟨[.sc (.int .i64 (HD cs ans vs now).1),.sc (.int .i64 (HD cs ans vs now).2)],[]⟩:=by
 rw [Yd];have n1:=Pe (fu:=fu) (d:=d+9) now 0 1099511627776;have n2:=Pe (fu:=fu) (d:=d+9) cs.length 1 3;unfold HD;by_cases h1:now<0
 ·have:(decide ((0:Int)<=now)&&decide (now<=1099511627776))=false:=by simp;omega
  rw [this] at n1;rw [Bu h1]
  try unfold Aa
  repeat first
   |((with_reducible first|apply As|apply Ak|apply At|apply Ao|apply Aw|apply Bc|apply Bg|apply Aj);· first|with_reducible rfl|(simp (disch:=omega) only [n1,Cn]<;>with_reducible rfl))
   |((with_reducible first|apply Ap|apply Ar);· first|with_reducible rfl|omega|(simp (disch:=omega) only [gT,n1,Cn]<;>omega))
   |(with_reducible apply Aq;· first|with_reducible rfl|(simp (disch:=omega) only [gF,n1,Cn]<;>omega))
  try simp (disch:=omega) only [n1,Cn]
  all_goals rfl
 rw [A5 h1];by_cases h2:now>1099511627776
 ·have:(decide ((0:Int)<=now)&&decide (now<=1099511627776))=false:=by simp;omega
  rw [this] at n1;rw [Bu h2]
  try unfold Aa
  repeat first
   |((with_reducible first|apply As|apply Ak|apply At|apply Ao|apply Aw|apply Bc|apply Bg|apply Aj);· first|with_reducible rfl|(simp (disch:=omega) only [n1,Cn]<;>with_reducible rfl))
   |((with_reducible first|apply Ap|apply Ar);· first|with_reducible rfl|omega|(simp (disch:=omega) only [gT,n1,Cn]<;>omega))
   |(with_reducible apply Aq;· first|with_reducible rfl|(simp (disch:=omega) only [gF,n1,Cn]<;>omega))
  try simp (disch:=omega) only [n1,Cn]
  all_goals rfl
 have q1:(decide ((0:Int)<=now)&&decide (now<=1099511627776))=true:=by simp;omega
 rw [q1] at n1;rw [A5 h2];by_cases h3:cs.length<1
 ·have:(decide ((1:Int)<=cs.length)&&decide ((cs.length:Int)<=3))=false:=by simp;omega
  rw [this] at n2;rw [Bu h3]
  try unfold Aa
  repeat first
   |((with_reducible first|apply As|apply Ak|apply At|apply Ao|apply Aw|apply Bc|apply Bg|apply Aj);· first|with_reducible rfl|(simp (disch:=omega) only [n1,n2,Ck,Cn]<;>with_reducible rfl))
   |((with_reducible first|apply Ap|apply Ar);· first|with_reducible rfl|omega|(simp (disch:=omega) only [gT,n1,n2,Ck,Cn]<;>omega))
   |(with_reducible apply Aq;· first|with_reducible rfl|(simp (disch:=omega) only [gF,n1,n2,Ck,Cn]<;>omega))
  try simp (disch:=omega) only [n1,n2,Ck,Cn]
  all_goals rfl
 rw [A5 h3];by_cases h4:cs.length>3
 ·have:(decide ((1:Int)<=cs.length)&&decide ((cs.length:Int)<=3))=false:=by simp;omega
  rw [this] at n2;rw [Bu h4]
  try unfold Aa
  repeat first
   |((with_reducible first|apply As|apply Ak|apply At|apply Ao|apply Aw|apply Bc|apply Bg|apply Aj);· first|with_reducible rfl|(simp (disch:=omega) only [n1,n2,Ck,Cn]<;>with_reducible rfl))
   |((with_reducible first|apply Ap|apply Ar);· first|with_reducible rfl|omega|(simp (disch:=omega) only [gT,n1,n2,Ck,Cn]<;>omega))
   |(with_reducible apply Aq;· first|with_reducible rfl|(simp (disch:=omega) only [gF,n1,n2,Ck,Cn]<;>omega))
  try simp (disch:=omega) only [n1,n2,Ck,Cn]
  all_goals rfl
 rw [A5 h4];have q2:(decide ((1:Int)<=cs.length)&&decide ((cs.length:Int)<=3))=true:=by simp;omega
 rw [q2] at n2;have lp:=MD (fu:=fu) (d:=d) hfu (a0n:=cs.length) (a1n:=ans.length) (a2n:=vs.length) (a0:=B6 cs) (a1:=Fa ans) (a2:=Em vs) (a3:=now) hc (by omega) hl hv (now:=now) cs 0 fu (by intro h;subst h;simp at h3) rfl (by omega) (by omega)
 rw [←lp]
 try unfold Aa
 repeat first
  |((with_reducible first|apply As|apply Ak|apply At|apply Ao|apply Aw|apply Bc|apply Bg|apply Aj);· first|with_reducible rfl|(simp (disch:=omega) only [n1,n2,Ck,Cn]<;>with_reducible rfl))
  |((with_reducible first|apply Ap|apply Ar);· first|with_reducible rfl|omega|(simp (disch:=omega) only [gT,n1,n2,Ck,Cn]<;>omega))
  |(with_reducible apply Aq;· first|with_reducible rfl|(simp (disch:=omega) only [gF,n1,n2,Ck,Cn]<;>omega))
 try simp (disch:=omega) only [n1,n2,Ck,Cn]
 all_goals rfl
end
end
section
open Go.IntKind (wrap)
set_option maxRecDepth 100000
abbrev Rp:FuncId:=11
theorem DJ (fu d a0n:Nat)(a0:List PV):Ae C0 Tryz.prog fu (d+1) Rp [.lst false 1 a0n a0]=(fun (call:Ah)=>some (A0.mk [.pbox [.lst false 1 a0n a0,.sc (.int .i64 0)]] [])) (Ae C0 Tryz.prog fu d):=by kernel_rfl
abbrev Rk:FuncId:=16
theorem CJ (fu d:Nat)(a0 a1:Int):Ae C0 Tryz.prog fu (d+1) Rk [.sc (.int .i64 a0),.sc (.int .i64 a1)]=(fun (call:Ah)=>Aa (wrap .u64 a0) fun x1=>Aa (wrap .u64 a1) fun x2=>Au (decide (x2≠0))<|Aa (Int.tmod x1 x2) fun x3=>Aa (wrap .i64 x3) fun x4=>some (A0.mk [.sc (.int .i64 x4)] [])) (Ae C0 Tryz.prog fu d):=by kernel_rfl
abbrev Jz:FuncId:=14
theorem Jw (fu d a0_0n:Nat)(a0_0:List PV)(a0_1 a1:Int):Ae C0 Tryz.prog fu (d+1) Jz [.pbox [.lst false 1 a0_0n a0_0,.sc (.int .i64 a0_1)],.sc (.int .i64 a1)]=(fun (call:Ah)=>A9 (decide (a0_1>=(↑a0_0n:Int))) (some (A0.mk [.sc (.int .i64 0)] [[.lst false 1 a0_0n a0_0,.sc (.int .i64 a0_1)]])) (Aa (wrap .i64 (a0_1+1)) fun x1=>Aa (wrap .i64 (x1-1)) fun x2=>Au (decide (0<=x2)&&decide (x2<(↑a0_0n:Int)))<|Ad .i64 (List.getD a0_0 (Int.toNat x2*1) .top) fun x3=>Ag (call 16 [.sc (.int .i64 x3),.sc (.int .i64 a1)]) fun x4 x5=>Ac x5<|Ab x4 fun x6 x7=>Ad .i64 x6 fun x8=>Ac x7<|some (A0.mk [.sc (.int .i64 x8)] [[.lst false 1 a0_0n a0_0,.sc (.int .i64 x1)]]))) (Ae C0 Tryz.prog fu d):=by kernel_rfl
end
end Go.Proofs.YtdjihiphpgkfmaaGreatDoor.Pv
