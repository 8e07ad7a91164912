/-
  The proof of AttestationSelf, part 5 (texts Ce2 Cb3 Cb4 Cb5 Cb6 Cb7 Cb8 Cb9 CbA CbB GnH CbC CbD CbE CbF Ke6 GnG Ce3 Ce4 Ce5 Ce6 Cp1 GnM).
-/
import Derived.Test.YtgfgmbpmghgbkaaGreatDoorSD
import Derived.Test.YtgfgmbpmghgbkaaGreatDoorRows
set_option linter.unusedSimpArgs false
set_option linter.unusedVariables false
namespace Go.Proofs.YtgfgmbpmghgbkaaGreatDoor.Pv
section
def Abk (s:Sg):Int:=if Cl s.path.length=true then 9 else if E6 s.leaf s.path.length=true then 9 else if s.chains.length≠18 then 4 else 0
def Ee (c:Ce):Int:=if Bd c=0 then Abk c.sig else Bd c
def Fo (c:Ce):List Int:=Bk (Bf c)++Ix c.sig
def Abv (c:Ce):List PV:=if Ee c=0 then [.own 1 (Fo c).length (Ag .u8 (Fo c)),.sc (.int .i64 0)] else [.own 1 0 [],.sc (.int .i64 (Ee c))]
def Rc (c:Ce):Int:=D3 14 (Bk (Bf c))
def Zj (c:Ce)(k:Ky):Int:=if Bd c=0 then Is k (Rc c) c.sig else Bd c
def ce0:Ce:=⟨E2,E2,0,⟨0,0⟩,0,0,false,0,0,⟨0,[],[]⟩⟩
def App (c:Ce)(seed h leaf:Int):Ce × Int:=
 if Bd c=0 then (match Air seed h leaf (Rc c) with|some s=>({ c with sig:=s },0)|none=>(ce0,9)) else (ce0,Bd c)
theorem Jf {c:Ce}(h:Bd c=0):(Bk (Bf c)).length≤200:=by
 have k9:(Ca (F4 c.key)).size=9:=by rw [F2];rfl
 have ns:E2.size=0:=rfl
 unfold Bd at h
 have hs:c.subj.size≤32∧c.iss.size≤32:=by
  split at h
  ·cases h
  ·split at h
   ·cases h
   ·omega
 have e:Bk (Bf c)=Bu ⟨5,9,E2⟩++(Bu ⟨4,0,c.subj⟩++(Bu ⟨4,0,c.iss⟩++(Bu ⟨1,c.serial,E2⟩++(Bu ⟨3,0,Ca (F4 c.key)⟩++(Bu ⟨1,c.fr,E2⟩++(Bu ⟨1,c.un,E2⟩++(Bu ⟨7,(if c.auth=true then 1 else 0),E2⟩++(Bu ⟨1,c.path,E2⟩++(Bu ⟨1,c.model,E2⟩++[]))))))))):=rfl
 rw [e]
 simp only [List.length_append,List.length_nil]
 have i1:=Gh ⟨5,9,E2⟩
 have i2:=Gh ⟨4,0,c.subj⟩
 have i3:=Gh ⟨4,0,c.iss⟩
 have i4:=Gh ⟨1,c.serial,E2⟩
 have i5:=Gh ⟨3,0,Ca (F4 c.key)⟩
 have i6:=Gh ⟨1,c.fr,E2⟩
 have i7:=Gh ⟨1,c.un,E2⟩
 have i8:=Gh ⟨7,(if c.auth=true then 1 else 0),E2⟩
 have i9:=Gh ⟨1,c.path,E2⟩
 have i0:=Gh ⟨1,c.model,E2⟩
 simp only [ns,k9] at i1 i2 i3 i4 i5 i6 i7 i8 i9 i0
 omega
theorem Abn {c:Ce}(hw:c.wf)(h:Bd c=0):Ha (Bk (Bf c)):=by
 intro y hy
 obtain ⟨x,hx,hy⟩:=List.mem_flatMap.1 hy
 have:=(Yh hw h x hx).1
 exact Ask this.k1 this.k8 this.n0 y hy
theorem Au1 {seed h leaf m:Int}{s:Sg}(e:Air seed h leaf m=some s):s.chains.length=18∧s.path.length≤4:=by
 unfold Air at e
 split at e
 ·cases e
 ·rename_i hh
  split at e
  ·cases e
  ·cases e
   have:=Fj (by simpa using hh)
   simp [Xl]
   omega
section
variable {fu d:Nat} {c:Ce}
theorem Azr (hfu:1000≤fu)(hw:c.wf)(hs1:c.subj.size≤9223372036854775807)(hs2:c.iss.size≤9223372036854775807)(hp:c.sig.path.length≤1000000000):Ae C0 Tryz.prog fu (d+6) Ko [.agg c.cells]=some ⟨Abv c,[]⟩:=by
 refine (Ul fu (d+5) c.subj c.iss c.serial c.key.h c.key.root c.fr c.un c.auth c.path c.model c.sig.leaf c.sig.chains.length (Ag .u64 c.sig.chains) c.sig.path.length (Ag .u64 c.sig.path)).trans ?_
 have bq:=Am3 (fu:=fu) (d:=d) hfu hw hs1 hs2
 simp only [Ce.cells] at bq
 have es:=Ti (fu:=fu) (d:=d+3) hfu c.sig hp
 simp only [Sg.cells] at es
 unfold G2 at bq
 unfold Abv Ee
 by_cases h0:Bd c=0
 ·have lb:=Jf h0
  rw [if_pos h0] at bq
  rw [if_pos h0]
  have L1:=Aj .u8 (Bk (Bf c))
  have t1:=Gw .u8 (Bk (Bf c))
  have e00:((0:Int) != 0)=false:=rfl
  have e90:((9:Int) != 0)=true:=rfl
  have e40:((4:Int) != 0)=true:=rfl
  unfold Abk
  by_cases g1:Cl c.sig.path.length=true
  ·rw [if_pos g1] at es
   rw [if_pos g1,if_neg (by omega)]
   try unfold Aa
   repeat first
    |((with_reducible first|apply At|apply Ap|apply Ax|apply Ao|apply Az|apply Aw|apply Bb|apply Bc|apply A0|apply Al|apply Au|apply Am);· first|with_reducible rfl|(simp (disch:=omega) only [bq,es,e00,e90]<;>with_reducible rfl))
    |((with_reducible first|apply A4|apply A3);· first|with_reducible rfl|omega|(simp (disch:=omega) only [gT,bq,es,e00,e90]<;>omega))
    |(with_reducible apply Ay;· first|with_reducible rfl|(simp (disch:=omega) only [gF,bq,es,e00,e90]<;>omega))
   try simp (disch:=omega) only [bq,es,e00,e90]
   all_goals rfl
  rw [if_neg g1] at es
  rw [if_neg g1]
  by_cases g2:E6 c.sig.leaf c.sig.path.length=true
  ·rw [if_pos g2] at es
   rw [if_pos g2,if_neg (by omega)]
   try unfold Aa
   repeat first
    |((with_reducible first|apply At|apply Ap|apply Ax|apply Ao|apply Az|apply Aw|apply Bb|apply Bc|apply A0|apply Al|apply Au|apply Am);· first|with_reducible rfl|(simp (disch:=omega) only [bq,es,e00,e90]<;>with_reducible rfl))
    |((with_reducible first|apply A4|apply A3);· first|with_reducible rfl|omega|(simp (disch:=omega) only [gT,bq,es,e00,e90]<;>omega))
    |(with_reducible apply Ay;· first|with_reducible rfl|(simp (disch:=omega) only [gF,bq,es,e00,e90]<;>omega))
   try simp (disch:=omega) only [bq,es,e00,e90]
   all_goals rfl
  rw [if_neg g2] at es
  rw [if_neg g2]
  by_cases g3:c.sig.chains.length≠18
  ·rw [if_pos g3] at es
   rw [if_pos g3,if_neg (by omega)]
   try unfold Aa
   repeat first
    |((with_reducible first|apply At|apply Ap|apply Ax|apply Ao|apply Az|apply Aw|apply Bb|apply Bc|apply A0|apply Al|apply Au|apply Am);· first|with_reducible rfl|(simp (disch:=omega) only [bq,es,e00,e40]<;>with_reducible rfl))
    |((with_reducible first|apply A4|apply A3);· first|with_reducible rfl|omega|(simp (disch:=omega) only [gT,bq,es,e00,e40]<;>omega))
    |(with_reducible apply Ay;· first|with_reducible rfl|(simp (disch:=omega) only [gF,bq,es,e00,e40]<;>omega))
   try simp (disch:=omega) only [bq,es,e00,e40]
   all_goals rfl
  rw [if_neg g3] at es
  rw [if_neg g3,if_pos rfl]
  have hb4:=Fj (h:=c.sig.path.length) (by simpa using g1)
  have ls:(Ix c.sig).length=2+8*c.sig.chains.length+8*c.sig.path.length:=by
   unfold Ix
   simp only [List.length_cons,List.length_append,Cm]
   omega
  have L2:=Aj .u8 (Ix c.sig)
  have t2:=Gw .u8 (Ix c.sig)
  have ea:Ag .u8 (Bk (Bf c))++Ag .u8 (Ix c.sig)=Ag .u8 (Fo c):=by
   unfold Fo
   rw [Ag,Ag,Ag,List.flatMap_append]
  have le:(Fo c).length=(Bk (Bf c)).length+(Ix c.sig).length:=by unfold Fo;rw [List.length_append]
  have L3:=Aj .u8 (Fo c)
  have t3:List.take ((Bk (Bf c)).length+(Ix c.sig).length) (Ag .u8 (Fo c))=Ag .u8 (Fo c):=List.take_of_length_le (by omega)
  rw [le] at L3 ⊢
  generalize (Bk (Bf c)).length=n1 at *
  generalize (Ix c.sig).length=n2 at *
  generalize Ag .u8 (Bk (Bf c))=c1 at *
  generalize Ag .u8 (Ix c.sig)=c2 at *
  try unfold Aa
  repeat first
   |((with_reducible first|apply At|apply Ap|apply Ax|apply Ao|apply Az|apply Aw|apply Bb|apply Bc|apply A0|apply Al|apply Au|apply Am);· first|with_reducible rfl|(simp (disch:=omega) only [bq,es,e00,Nat.mul_one,Nat.zero_add,List.drop_zero,L1,t1,L2,t2,ea,L3,t3]<;>with_reducible rfl))
   |((with_reducible first|apply A4|apply A3);· first|with_reducible rfl|omega|(simp (disch:=omega) only [gT,bq,es,e00,Nat.mul_one,Nat.zero_add,List.drop_zero,L1,t1,L2,t2,ea,L3,t3]<;>omega))
   |(with_reducible apply Ay;· first|with_reducible rfl|(simp (disch:=omega) only [gF,bq,es,e00,Nat.mul_one,Nat.zero_add,List.drop_zero,L1,t1,L2,t2,ea,L3,t3]<;>omega))
  try simp (disch:=omega) only [bq,es,e00,Nat.mul_one,Nat.zero_add,List.drop_zero,L1,t1,L2,t2,ea,L3,t3]
  all_goals rfl
 ·have hne:(Bd c != 0)=true:=by simp [h0]
  rw [if_neg h0] at bq
  rw [if_neg h0,if_neg h0]
  try unfold Aa
  repeat first
   |((with_reducible first|apply At|apply Ap|apply Ax|apply Ao|apply Az|apply Aw|apply Bb|apply Bc|apply A0|apply Al|apply Au|apply Am);· first|with_reducible rfl|(simp (disch:=omega) only [bq,hne]<;>with_reducible rfl))
   |((with_reducible first|apply A4|apply A3);· first|with_reducible rfl|omega|(simp (disch:=omega) only [gT,bq,hne]<;>omega))
   |(with_reducible apply Ay;· first|with_reducible rfl|(simp (disch:=omega) only [gF,bq,hne]<;>omega))
  try simp (disch:=omega) only [bq,hne]
  all_goals rfl
theorem Aty (hfu:1000≤fu)(hw:c.wf)(hs1:c.subj.size≤9223372036854775807)(hs2:c.iss.size≤9223372036854775807)(seed h leaf:Int):Ae C0 Tryz.prog fu (d+13) M6 [.agg c.cells,.sc (.int .u64 seed),.sc (.int .i64 h),.sc (.int .i64 leaf)]=some ⟨[.agg (App c seed h leaf).1.cells,.sc (.int .i64 (App c seed h leaf).2)],[]⟩:=by
 refine (Xu fu (d+12) c.subj c.iss c.serial c.key.h c.key.root c.fr c.un c.auth c.path c.model c.sig.leaf c.sig.chains.length (Ag .u64 c.sig.chains) c.sig.path.length (Ag .u64 c.sig.path) seed h leaf).trans ?_
 have bq:=Am3 (fu:=fu) (d:=d+7) hfu hw hs1 hs2
 simp only [Ce.cells] at bq
 unfold G2 at bq
 unfold App
 by_cases h0:Bd c=0
 ·have lb:=Jf h0
  rw [if_pos h0] at bq
  rw [if_pos h0]
  have e00:((0:Int) != 0)=false:=rfl
  have e90:((9:Int) != 0)=true:=rfl
  have hh:=Vw (fu:=fu) (d:=d+8) (Abn hw h0) (by omega) (by omega) (by omega) 14
  have sg:=Abb (fu:=fu) (d:=d) hfu seed h leaf (Rc c)
  have eW:D3 14 (Bk (Bf c))=Rc c:=rfl
  rw [eW] at hh
  have L1:=Aj .u8 (Bk (Bf c))
  have t1:=Gw .u8 (Bk (Bf c))
  generalize (Bk (Bf c)).length=n1 at *
  generalize Ag .u8 (Bk (Bf c))=c1 at *
  cases hs:Air seed h leaf (Rc c) with
  |none=>
   rw [hs] at sg
   simp only [Wt,Sg.owned,List.length_nil] at sg
   try unfold Aa
   repeat first
    |((with_reducible first|apply At|apply Ap|apply Ax|apply Ao|apply Az|apply Aw|apply Bb|apply Bc|apply A0|apply Al|apply Au|apply Am);· first|with_reducible rfl|(simp (disch:=omega) only [bq,e00,e90,Nat.mul_one,Nat.zero_add,List.drop_zero,L1,t1,hh,sg]<;>with_reducible rfl))
    |((with_reducible first|apply A4|apply A3);· first|with_reducible rfl|omega|(simp (disch:=omega) only [gT,bq,e00,e90,Nat.mul_one,Nat.zero_add,List.drop_zero,L1,t1,hh,sg]<;>omega))
    |(with_reducible apply Ay;· first|with_reducible rfl|(simp (disch:=omega) only [gF,bq,e00,e90,Nat.mul_one,Nat.zero_add,List.drop_zero,L1,t1,hh,sg]<;>omega))
   try simp (disch:=omega) only [bq,e00,e90,Nat.mul_one,Nat.zero_add,List.drop_zero,L1,t1,hh,sg]
   all_goals rfl
  |some s=>
   rw [hs] at sg
   simp only [Wt,Sg.owned] at sg
   have hl:=Au1 hs
   have La:=Aj .u64 s.chains
   have Lb:=Aj .u64 s.path
   have ta:=Gw .u64 s.chains
   have tb:=Gw .u64 s.path
   try unfold Aa
   repeat first
    |((with_reducible first|apply At|apply Ap|apply Ax|apply Ao|apply Az|apply Aw|apply Bb|apply Bc|apply A0|apply Al|apply Au|apply Am);· first|with_reducible rfl|(simp (disch:=omega) only [bq,e00,Nat.mul_one,Nat.zero_add,List.drop_zero,L1,t1,hh,sg,La,Lb,ta,tb]<;>with_reducible rfl))
    |((with_reducible first|apply A4|apply A3);· first|with_reducible rfl|omega|(simp (disch:=omega) only [gT,bq,e00,Nat.mul_one,Nat.zero_add,List.drop_zero,L1,t1,hh,sg,La,Lb,ta,tb]<;>omega))
    |(with_reducible apply Ay;· first|with_reducible rfl|(simp (disch:=omega) only [gF,bq,e00,Nat.mul_one,Nat.zero_add,List.drop_zero,L1,t1,hh,sg,La,Lb,ta,tb]<;>omega))
   try simp (disch:=omega) only [bq,e00,Nat.mul_one,Nat.zero_add,List.drop_zero,L1,t1,hh,sg,La,Lb,ta,tb]
   all_goals rfl
 ·have hne:(Bd c != 0)=true:=by simp [h0]
  rw [if_neg h0] at bq
  rw [if_neg h0]
  try unfold Aa
  repeat first
   |((with_reducible first|apply At|apply Ap|apply Ax|apply Ao|apply Az|apply Aw|apply Bb|apply Bc|apply A0|apply Al|apply Au|apply Am);· first|with_reducible rfl|(simp (disch:=omega) only [bq,hne]<;>with_reducible rfl))
   |((with_reducible first|apply A4|apply A3);· first|with_reducible rfl|omega|(simp (disch:=omega) only [gT,bq,hne]<;>omega))
   |(with_reducible apply Ay;· first|with_reducible rfl|(simp (disch:=omega) only [gF,bq,hne]<;>omega))
  try simp (disch:=omega) only [bq,hne]
  all_goals rfl
end
end
section
structure Gj where
 p:Bool
 left:Int
 last:List Int
def Gj.cells (f:Gj):List PV:=[.sc (.bool f.p),.sc (.int .i64 f.left),.lst false 1 f.last.length (Ag .u8 f.last)]
def El (l:List Gj):List PV:=l.flatMap Gj.cells
theorem Gj.cells_len (f:Gj):f.cells.length=3:=rfl
theorem Cw (l:List Gj):(El l).length=l.length*3:=Ags Gj.cells_len l
theorem Dj (l:List Gj):List.take (l.length*3) (El l)=El l:=List.take_of_length_le (by rw [Cw];omega)
def Qq (l:List Gj):Bool:=match l.getLast? with|some f=>f.p&&(Int.tmod f.left 2==0)|none=>false
def I3 (l:List Gj)(cnt k:Int):Int:=
 if cnt≥512 then 8 else if k<1 then 3 else if k>8 then 3 else if Qq l=true∧k≠1∧k≠2∧k≠4 then 3 else if (l.length:Int)>8 then 5 else 0
abbrev Kb (l:List Gj)(cnt:Int):List PV:=[.own 3 l.length (El l),.sc (.int .i64 cnt)]
section
variable {fu d:Nat}
theorem Amq (l:List Gj)(cnt:Int):Ae C0 Tryz.prog fu (d+1) R9 [.pbox (Kb l cnt)]=some ⟨[.sc (.bool (decide (cnt>0)&&((l.length:Int)==0)))],[Kb l cnt]⟩:=by
 rw [Acy]
 have L:=Cw l
 have t:=Dj l
 by_cases h:cnt>0
 ·simp (disch:=omega) only [Bx,h,decide_true,Bool.true_and,L,t]
 ·simp (disch:=omega) only [Bx,h,decide_false,Bool.false_and,L,t]
theorem Ag9 {l:List Gj}(hl:l.length≤1000000)(cnt:Int):Ae C0 Tryz.prog fu (d+1) Qk [.pbox (Kb l cnt)]=some ⟨[.sc (.bool (Qq l))],[Kb l cnt]⟩:=by
 rw [Zu]
 have L:=Cw l
 have t:=Dj l
 unfold Qq
 rcases List.eq_nil_or_concat l with rfl|⟨l',f,rfl⟩
 ·have e0:¬(((([]:List Gj).length:Nat):Int)>0):=by simp
  simp (disch:=first|assumption|omega) only [Bx,L,t]
  first|done|rfl
 ·have hn:(l'.concat f).length=l'.length+1:=by simp
  have hx:(l'.concat f)[l'.length]?=some f:=by simp
  have gl:(l'.concat f).getLast?=some f:=by simp
  have w:IntKind.wrap .i64 (((l'.concat f).length:Int)-1)=(l'.length:Int):=by rw [Aq (by omega) (by omega)];omega
  have g0:(El (l'.concat f)).getD (l'.length*3) .top=.sc (.bool f.p):=D4 Gj.cells_len hx (j:=0) (by omega)
  have g1:(El (l'.concat f)).getD (l'.length*3+1) .top=.sc (.int .i64 f.left):=D4 Gj.cells_len hx (j:=1) (by omega)
  rw [gl]
  cases hp:f.p
  ·rw [hp] at g0
   simp (disch:=omega) only [Bx,w,Int.toNat_natCast,Nat.zero_add,Nat.add_zero,g0,L,t,hp,Bool.false_and]
  ·rw [hp] at g0
   simp (disch:=omega) only [Bx,w,Int.toNat_natCast,Nat.zero_add,Nat.add_zero,g0,g1,L,t,hp,Bool.true_and]
theorem Anp {l:List Gj}(hl:l.length≤1000000)(cnt k:Int):Ae C0 Tryz.prog fu (d+2) P1 [.pbox (Kb l cnt),.sc (.int .i64 k)]=some ⟨[.sc (.int .i64 (I3 l cnt k))],[Kb l cnt]⟩:=by
 refine (Aac fu (d+1) l.length (El l) cnt k).trans ?_
 have L:=Cw l
 have t:=Dj l
 have ak:=Ag9 (fu:=fu) (d:=d) hl cnt
 unfold Kb at ak
 unfold I3
 by_cases c1:cnt≥512
 ·rw [if_pos c1]
  simp (disch:=omega) only [Bx,L,t]
 rw [if_neg c1]
 by_cases c2:k<1
 ·rw [if_pos c2]
  simp (disch:=omega) only [Bx,L,t]
 rw [if_neg c2]
 by_cases c3:k>8
 ·rw [if_pos c3]
  simp (disch:=omega) only [Bx,L,t]
 rw [if_neg c3]
 cases ha:Qq l
 ·rw [ha] at ak
  rw [if_neg (by simp)]
  by_cases c5:(l.length:Int)>8
  ·rw [if_pos c5]
   simp (disch:=omega) only [Bx,L,t,ak]
  ·rw [if_neg c5]
   simp (disch:=omega) only [Bx,L,t,ak]
 ·rw [ha] at ak
  by_cases c4:k≠1∧k≠2∧k≠4
  ·rw [if_pos ⟨rfl,c4⟩]
   simp (disch:=omega) only [Bx,L,t,ak,C4]
   rw [if_neg c4.1,if_neg c4.2.1,if_neg c4.2.2]
  ·rw [if_neg (fun h=>c4 h.2)]
   have hk:k=1∨k=2∨k=4:=by omega
   by_cases c5:(l.length:Int)>8
   ·rw [if_pos c5]
    rcases hk with rfl|rfl|rfl<;>simp (disch:=omega) only [Bx,L,t,ak,C4,Int.reduceEq,if_true,if_false]
   ·rw [if_neg c5]
    rcases hk with rfl|rfl|rfl<;>simp (disch:=omega) only [Bx,L,t,ak,C4,Int.reduceEq,if_true,if_false]
end
end
section
theorem Ly (l:List Gj):l=[]∨∃l' f,l=l'++[f]:=by
 rcases List.eq_nil_or_concat l with h|⟨a,b,h⟩
 ·exact .inl h
 ·exact .inr ⟨a,b,by simpa using h⟩
def Acd (l:List Gj):List Gj:=(l.reverse.dropWhile fun f=>f.left==0).reverse
theorem Ajg {l:List Gj}{f:Gj}(h:f.left=0):Acd (l++[f])=Acd l:=by
 unfold Acd
 rw [List.reverse_append,List.reverse_singleton,List.singleton_append,List.dropWhile_cons_of_pos (by simp [h])]
theorem Af0 {l:List Gj}{f:Gj}(h:f.left≠0):Acd (l++[f])=l++[f]:=by
 unfold Acd
 rw [List.reverse_append,List.reverse_singleton,List.singleton_append,List.dropWhile_cons_of_neg (by simp [h])]
 simp
def Ahg (l:List Gj):List Gj:=match l.getLast? with|some f=>l.dropLast++[⟨f.p,IntKind.wrap .i64 (f.left-1),f.last⟩]|none=>[]
def Ai6 (l:List Gj)(x:It):List Gj:=
 if x.k=5∧x.n>0 then l++[⟨false,IntKind.wrap .i64 x.n,[]⟩] else if x.k=6∧x.n>0 then l++[⟨true,IntKind.wrap .i64 (2*IntKind.wrap .i64 x.n),[]⟩] else l
def Fh (l:List Gj)(x:It):List Gj:=Acd (Ai6 (Ahg l) x)
theorem We (l:List Gj)(f:Gj):Ahg (l++[f])=l++[⟨f.p,IntKind.wrap .i64 (f.left-1),f.last⟩]:=by
 unfold Ahg
 simp
theorem Af8 (l:List Gj):(Ahg l).length=l.length:=by
 rcases Ly l with rfl|⟨l',f,rfl⟩
 ·rfl
 ·rw [We];simp
theorem R7 (a b:List Gj):El (a++b)=El a++El b:=by
 unfold El
 rw [List.flatMap_append]
theorem R8 (f:Gj):El [f]=f.cells:=by
 unfold El
 simp
section
variable {fu d:Nat}
theorem Aji {call:Ak}{a0_0n:Nat}{a0_0:List PV}{a0_1 a1_0 a1_1:Int}{a1_2:ByteArray}{c:Int}:∀(n:Nat)(l:List Gj)(r:List PV)(nn:Nat),l.length=n→n<nn→n≤1000000 →
  Bg fu call a0_0n a0_0 a0_1 a1_0 a1_1 a1_2 nn (l.length:Int) l.length c (El l++r)=some ⟨[],[Kb (Acd l) c]⟩:=by
 intro n
 induction n with
 |zero=>
  intro l r nn hl hn _
  obtain rfl:l=[]:=List.eq_nil_of_length_eq_zero hl
  obtain ⟨m,rfl⟩:∃m,nn=m+1:=⟨nn-1,by omega⟩
  have e0:¬(((([]:List Gj).length:Nat):Int)>0):=by simp
  have e1:([]:List Gj).length*3≤(El []++r).length:=by simp
  rw [M8]
  simp (disch:=first|assumption|omega) only [Bx]
  rfl
 |succ n ih=>
  intro l r nn hl hn hm
  obtain ⟨m,rfl⟩:∃m,nn=m+1:=⟨nn-1,by omega⟩
  rcases Ly l with rfl|⟨l',f,rfl⟩
  ·simp at hl
  have hn':(l'++[f]).length=l'.length+1:=by simp
  have hx:(l'++[f])[l'.length]?=some f:=by simp
  have w:IntKind.wrap .i64 (((l'++[f]).length:Int)-1)=(l'.length:Int):=by rw [Aq (by omega) (by omega)];omega
  have L:=Cw (l'++[f])
  have L2:(El (l'++[f])++r).length=(l'++[f]).length*3+r.length:=by rw [List.length_append,L]
  have t:List.take ((l'++[f]).length*3) (El (l'++[f])++r)=El (l'++[f]):=by rw [←L,List.take_left'];rfl
  have g1:(El (l'++[f])++r).getD (l'.length*3+1) .top=.sc (.int .i64 f.left):=by
   have:=D4 (f:=Gj.cells) Gj.cells_len hx (j:=1) (by omega)
   rw [List.getD_eq_getElem?_getD,List.getElem?_append_left (by rw [L];omega),←List.getD_eq_getElem?_getD]
   exact this
  rw [M8]
  by_cases hz:f.left=0
  ·have e:El (l'++[f])++r=El l'++(f.cells++r):=by rw [R7,R8,List.append_assoc]
   have q:=ih l' (f.cells++r) m (by omega) (by omega) (by omega)
   rw [←e] at q
   rw [Ajg hz]
   have hb:(f.left==(0:Int))=true:=by simp [hz]
   simp (disch:=omega) only [Bx,w,Int.toNat_natCast,Nat.zero_add,Nat.sub_zero,g1,hb,q]
  ·rw [Af0 hz]
   have hb:(f.left==(0:Int))=false:=by simp [hz]
   simp (disch:=omega) only [Bx,w,Int.toNat_natCast,Nat.zero_add,g1,hb,L2,t]
theorem Asr {l:List Gj}{x:It}{cnt:Int}(hl:l.length≤100000)(hf:l.length+1<fu)(h0:0≤cnt)(h1:cnt≤1000000):
  Ae C0 Tryz.prog fu (d+1) Q3 [.pbox (Kb l cnt),.agg x.cells]=some ⟨[],[Kb (Fh l x) (cnt+1)]⟩:=by
 obtain ⟨k,v,s⟩:=x
 refine (Aca fu d l.length (El l) cnt k v s).trans ?_
 have w1:IntKind.wrap .i64 (cnt+1)=cnt+1:=Aq (by omega) (by omega)
 unfold Fh Ai6
 have DL:=Af8 l
 generalize hD:Ahg l=l1 at DL ⊢
 have L1:(El l1).length=l.length*3:=by rw [Cw,DL]
 have t1:List.take (l.length*3) (El l1)=El l1:=List.take_of_length_le (by omega)
 have p5:∀b u,El l1++[.sc (.bool b),.sc (.int .i64 u),.lst false 1 0 []]=El (l1++[⟨b,u,[]⟩]):=by
  intro b u
  rw [R7,R8]
  rfl
 have lp0:∀call,Bg fu call l.length (El l) cnt k v s fu (l.length:Int) l.length (cnt+1) (El l1)=some ⟨[],[Kb (Acd l1) (cnt+1)]⟩:=by
  intro call
  have:=Aji (fu:=fu) (call:=call) (a0_0n:=l.length) (a0_0:=El l) (a0_1:=cnt) (a1_0:=k) (a1_1:=v) (a1_2:=s) (c:=cnt+1) _ l1 [] fu rfl (by omega) (by omega)
  rw [List.append_nil,DL] at this
  exact this
 have lp1:∀call f,Bg fu call l.length (El l) cnt k v s fu ((l.length+1:Nat):Int) (l.length+1) (cnt+1) (El (l1++[f]))=some ⟨[],[Kb (Acd (l1++[f])) (cnt+1)]⟩:=by
  intro call f
  have ll:(l1++[f]).length=l.length+1:=by simp [DL]
  have:=Aji (fu:=fu) (call:=call) (a0_0n:=l.length) (a0_0:=El l) (a0_1:=cnt) (a1_0:=k) (a1_1:=v) (a1_2:=s) (c:=cnt+1) _ (l1++[f]) [] fu rfl (by omega) (by omega)
  rw [List.append_nil,ll] at this
  exact this
 rcases Ly l with rfl|⟨l',f,rfl⟩
 ·have e0:¬(((([]:List Gj).length:Nat):Int)>0):=by simp
  obtain rfl:l1=[]:=by rw [←hD];rfl
  by_cases k5:k=5
  ·subst k5
   by_cases hv:v>0
   ·rw [if_pos ⟨rfl,hv⟩]
    simp (disch:=first|assumption|omega) only [Bx,w1,L1,t1,p5,lp1,Int.reduceBEq]
   ·rw [if_neg (fun h=>hv h.2),if_neg (fun h=>hv h.2)]
    simp (disch:=first|assumption|omega) only [Bx,w1,L1,t1,p5,lp0,Int.reduceBEq]
  ·have b5:(k==(5:Int))=false:=by simp [k5]
   rw [if_neg (fun h=>k5 h.1)]
   by_cases k6:k=6
   ·subst k6
    by_cases hv:v>0
    ·rw [if_pos ⟨rfl,hv⟩]
     simp (disch:=first|assumption|omega) only [Bx,w1,L1,t1,p5,lp1,Int.reduceBEq]
    ·rw [if_neg (fun h=>hv h.2)]
     simp (disch:=first|assumption|omega) only [Bx,w1,L1,t1,p5,lp0,Int.reduceBEq]
   ·have b6:(k==(6:Int))=false:=by simp [k6]
    rw [if_neg (fun h=>k6 h.1)]
    simp (disch:=first|assumption|omega) only [Bx,w1,L1,t1,p5,lp0,b5,b6]
 ·have hn':(l'++[f]).length=l'.length+1:=by simp
  have hx:(l'++[f])[l'.length]?=some f:=by simp
  have w:IntKind.wrap .i64 (((l'++[f]).length:Int)-1)=(l'.length:Int):=by rw [Aq (by omega) (by omega)];omega
  have L:=Cw (l'++[f])
  have g1:(El (l'++[f])).getD (l'.length*3+1) .top=.sc (.int .i64 f.left):=D4 Gj.cells_len hx (j:=1) (by omega)
  have sp:Bn (El (l'++[f])) [.sc (.int .i64 (IntKind.wrap .i64 (f.left-1)))] (l'.length*3+1)=El l1:=by
   rw [Iy (by omega),←hD,We,R7,R7,R8,R8]
   have:=Cw l'
   rw [List.set_append_right _ _ (by omega)]
   have:l'.length*3+1-(El l').length=1:=by omega
   rw [this]
   rfl
  by_cases k5:k=5
  ·subst k5
   by_cases hv:v>0
   ·rw [if_pos ⟨rfl,hv⟩]
    simp (disch:=first|assumption|omega) only [Bx,w,w1,Int.toNat_natCast,Nat.zero_add,g1,sp,L1,t1,p5,lp1,Int.reduceBEq]
   ·rw [if_neg (fun h=>hv h.2),if_neg (fun h=>hv h.2)]
    simp (disch:=first|assumption|omega) only [Bx,w,w1,Int.toNat_natCast,Nat.zero_add,g1,sp,L1,t1,p5,lp0,Int.reduceBEq]
  ·have b5:(k==(5:Int))=false:=by simp [k5]
   rw [if_neg (fun h=>k5 h.1)]
   by_cases k6:k=6
   ·subst k6
    by_cases hv:v>0
    ·rw [if_pos ⟨rfl,hv⟩]
     simp (disch:=first|assumption|omega) only [Bx,w,w1,Int.toNat_natCast,Nat.zero_add,g1,sp,L1,t1,p5,lp1,Int.reduceBEq]
    ·rw [if_neg (fun h=>hv h.2)]
     simp (disch:=first|assumption|omega) only [Bx,w,w1,Int.toNat_natCast,Nat.zero_add,g1,sp,L1,t1,p5,lp0,Int.reduceBEq]
   ·have b6:(k==(6:Int))=false:=by simp [k6]
    rw [if_neg (fun h=>k6 h.1)]
    simp (disch:=first|assumption|omega) only [Bx,w,w1,Int.toNat_natCast,Nat.zero_add,g1,sp,L1,t1,p5,lp0,b5,b6]
end
end
section
def Al4 (s:ByteArray):Bool:=Array.toList (ByteArray.data s)==Array.toList (ByteArray.data (ByteArray.mk #[]))
def Ge (x:It):Bool:=
 if x.k=3 then x.n==0 else if x.k=4 then x.n==0 else if x.k=8 then (x.n==0)&&Al4 x.s else if x.k=7 then decide (x.n≤1)&&Al4 x.s else Al4 x.s
section
variable {fu d:Nat}
theorem Ava (x:It):Ae C0 Tryz.prog fu (d+1) X3 [.agg x.cells]=some ⟨[.sc (.bool (Ge x))],[]⟩:=by
 obtain ⟨k,n,s⟩:=x
 refine (Aix fu d k n s).trans ?_
 unfold Ge
 show _=some (⟨[.sc (.bool (if k=3 then n==0 else if k=4 then n==0 else if k=8 then (n==0)&&Al4 s else if k=7 then decide (n≤1)&&Al4 s else Al4 s))],[]⟩:A8)
 by_cases h3:k=3
 ·subst h3
  simp only [Bx,Int.reduceBEq,if_true]
 by_cases h4:k=4
 ·subst h4
  simp only [Bx,Int.reduceBEq,Int.reduceEq,if_true,if_false]
 have b3:(k==(3:Int))=false:=by simp [h3]
 have b4:(k==(4:Int))=false:=by simp [h4]
 by_cases h8:k=8
 ·subst h8
  cases hn:n==0<;>simp only [Bx,Int.reduceBEq,Int.reduceEq,if_true,if_false,hn,Bool.true_and,Bool.false_and]<;>rfl
 have b8:(k==(8:Int))=false:=by simp [h8]
 by_cases h7:k=7
 ·subst h7
  cases hn:decide (n≤1)<;>simp only [Bx,Int.reduceBEq,Int.reduceEq,if_true,if_false,hn,Bool.true_and,Bool.false_and]<;>rfl
 have b7:(k==(7:Int))=false:=by simp [h7]
 simp only [Bx,b3,b4,b8,b7,if_neg h3,if_neg h4,if_neg h8,if_neg h7]
 rfl
theorem Ada {l:List Gj}{x:It}{cnt:Int}(hl:l.length≤1000)(hf:l.length+1<fu)(h0:0≤cnt)(h1:cnt≤1000000)(ha:Qq l=false)
  (hs:x.s.size≤100000)(hv:x.k=4→Lib.validD x.s.data.toList=true):
  Ae C0 Tryz.prog fu (d+2) I4 [.pbox (Kb l cnt),.agg x.cells]=some ⟨[.sc (.int .i64 0)],[Kb (Fh l x) (cnt+1)]⟩:=by
 have st:=Asr (fu:=fu) (d:=d) (l:=l) (x:=x) (cnt:=cnt) (by omega) hf h0 h1
 have ak:=Ag9 (fu:=fu) (d:=d) (l:=l) (by omega) cnt
 have L:=Cw l
 have t:=Dj l
 have L2:=Cw (Fh l x)
 have t2:=Dj (Fh l x)
 rw [ha] at ak
 generalize hE:Fh l x=E at *
 obtain ⟨k,n,s⟩:=x
 have va:=Og (fu:=fu) (d:=d) s (Nat.le_trans hs (by omega))
 unfold okS at va
 refine (I6 fu (d+1) l.length (El l) cnt k n s).trans ?_
 unfold Kb It.cells at st
 unfold Kb at ak
 by_cases k4:k=4
 ·subst k4
  rw [hv rfl] at va
  simp (disch:=omega) only [Bx,Int.reduceBEq,va,Bool.not_true,L,t,ak,st,L2,t2]
 ·have b4:(k==(4:Int))=false:=by simp [k4]
  simp (disch:=omega) only [Bx,b4,L,t,ak,st,L2,t2]
theorem Awh {l:List Gj}{x:It}{cnt:Int}(hl:l.length≤1000)(hf:l.length+1<fu)(h0:0≤cnt)(h1:cnt≤1000000)(ha:Qq l=false)
  (hs:x.s.size≤1024)(hv:x.k=4→Lib.validD x.s.data.toList=true)(hd:(decide (cnt>0)&&((l.length:Int)==0))=false) (hm:I3 l cnt x.k=0)(hsh:Ge x=true)(hn:x.n≤512∨(x.k≠5∧x.k≠6)):
  Ae C0 Tryz.prog fu (d+3) M4 [.pbox (Kb l cnt),.agg x.cells]=some ⟨[.sc (.int .i64 0)],[Kb (Fh l x) (cnt+1)]⟩:=by
 have ac:=Ada (fu:=fu) (d:=d) (l:=l) (x:=x) (cnt:=cnt) hl hf h0 h1 ha (by omega) hv
 have dn:=Amq (fu:=fu) (d:=d+1) l cnt
 have ad:=Anp (fu:=fu) (d:=d) (l:=l) (by omega) cnt x.k
 have sh:=Ava (fu:=fu) (d:=d+1) x
 rw [hd] at dn
 rw [hm] at ad
 rw [hsh] at sh
 have L:=Cw l
 have t:=Dj l
 have L2:=Cw (Fh l x)
 have t2:=Dj (Fh l x)
 generalize hE:Fh l x=E at *
 obtain ⟨k,n,s⟩:=x
 have hs':¬((s.size:Int)>1024):=by have:s.size≤1024:=hs;omega
 refine (Xd fu (d+2) l.length (El l) cnt k n s).trans ?_
 unfold Kb It.cells at ac
 unfold Kb at dn ad
 unfold It.cells at sh
 by_cases k5:k=5
 ·subst k5
  have hn':¬(n>512):=hn.elim (fun h=>Int.not_lt.2 h) (fun h=>absurd rfl h.1)
  simp (disch:=first|assumption|omega) only [Bx,Int.reduceBEq,dn,ad,sh,ac,Bool.not_true,L,t,L2,t2,bne_self_eq_false]
 have b5:(k==(5:Int))=false:=by simp [k5]
 by_cases k6:k=6
 ·subst k6
  have hn':¬(n>512):=hn.elim (fun h=>Int.not_lt.2 h) (fun h=>absurd rfl h.2)
  simp (disch:=first|assumption|omega) only [Bx,Int.reduceBEq,dn,ad,sh,ac,Bool.not_true,L,t,L2,t2,bne_self_eq_false]
 have b6:(k==(6:Int))=false:=by simp [k6]
 simp (disch:=first|assumption|omega) only [Bx,b5,b6,dn,ad,sh,ac,Bool.not_true,L,t,L2,t2,bne_self_eq_false]
end
end
section
theorem Rw (l:List It):(Cd l).length=l.length*3:=Ags It.cells_len l
structure A1b (l:List Gj) (cnt:Int) (x:It):Prop where
 hl:l.length≤100
 h0:0≤cnt
 h1:cnt≤1000
 ha:Qq l=false
 hs:x.s.size≤1024
 hv:x.k=4→Lib.validD x.s.data.toList=true
 hd:(decide (cnt>0)&&((l.length:Int)==0))=false
 hm:I3 l cnt x.k=0
 hsh:Ge x=true
 hn:x.n≤512∨(x.k≠5∧x.k≠6)
def O7:List Gj→Int→List It→Prop
 |l,cnt,[]=>l=[]∧cnt>0
 |l,cnt,x::r=>A1b l cnt x∧O7 (Fh l x) (cnt+1) r
section
variable {fu d:Nat}
theorem Aib (hfu:200≤fu){l:List It}(hl:l.length≤100000){a0n:Nat}{a0:List PV}:∀(r:List It)(i:Nat)(fs:List Gj)(cnt:Int)(nn:Nat),l.drop i=r→i+r.length=l.length→r.length<nn→O7 fs cnt r →
  Hz fu (Ae C0 Tryz.prog fu (d+3)) a0n a0 nn l.length (Cd l) (l.length:Int) (i:Int) fs.length cnt (El fs)=some ⟨[.sc (.int .i64 0)],[]⟩:=by
 intro r
 induction r with
 |nil=>
  intro i fs cnt nn hd hi hn hg
  obtain ⟨rfl,hc⟩:=hg
  obtain ⟨m,rfl⟩:∃m,nn=m+1:=⟨nn-1,by omega⟩
  rw [List.length_nil,Nat.add_zero] at hi
  rw [Ov]
  have dn:=Amq (fu:=fu) (d:=d+2) [] cnt
  have e:(decide (cnt>0)&&(((([]:List Gj).length:Nat):Int)==0))=true:=by simp [hc]
  rw [e] at dn
  unfold Kb at dn
  have L:=Cw []
  have t:=Dj []
  have c:¬((i:Int)<(l.length:Int)):=by omega
  simp (disch:=first|assumption|omega) only [Bx,L,t,dn,Bool.not_true]
 |cons x r ih=>
  intro i fs cnt nn hd hi hn hg
  obtain ⟨g,hg⟩:=hg
  obtain ⟨m,rfl⟩:∃m,nn=m+1:=⟨nn-1,by omega⟩
  rw [List.length_cons] at hi hn
  have hx:l[i]?=some x:=by
   have:=congrArg (fun q=>q[0]?) hd
   simpa using this
  have hd':l.drop (i+1)=r:=by
   have:=congrArg (List.drop 1) hd
   rw [List.drop_drop] at this
   simpa using this
  have q:=ih (i+1) (Fh fs x) (cnt+1) m hd' (by omega) (by omega) hg
  have ck:=Awh (fu:=fu) (d:=d) (l:=fs) (x:=x) (cnt:=cnt) (by have:=g.hl;omega) (by have:=g.hl;omega) g.h0 (by have:=g.h1;omega) g.ha g.hs g.hv g.hd g.hm g.hsh g.hn
  generalize Fh fs x=E at *
  have g0:(Cd l).getD (i*3) .top=.sc (.int .i64 x.k):=D4 It.cells_len hx (j:=0) (by omega)
  have g1:(Cd l).getD (i*3+1) .top=.sc (.int .u64 x.n):=D4 It.cells_len hx (j:=1) (by omega)
  have g2:(Cd l).getD (i*3+1+1) .top=.sc (.string x.s):=D4 It.cells_len hx (j:=2) (by omega)
  have L:=Cw fs
  have t:=Dj fs
  have w:IntKind.wrap .i64 ((i:Int)+1)=((i+1:Nat):Int):=by rw [Aq (by omega) (by omega)];omega
  rw [Ov]
  unfold Kb It.cells at ck
  simp (disch:=first|assumption|omega) only [Bx,Int.toNat_natCast,g0,g1,g2,L,t,ck,bne_self_eq_false,w,q]
theorem Q0 (hfu:200≤fu){l:List It}(hl:l.length≤100000)(hf:l.length<fu)(hg:O7 [] 0 l):Ae C0 Tryz.prog fu (d+4) Ts [.lst false 3 l.length (Cd l)]=some ⟨[.sc (.int .i64 0)],[]⟩:=by
 rw [Ad4]
 exact Aib hfu hl l 0 [] 0 fu rfl (by omega) hf hg
end
end
section
section
variable {fu d:Nat}
theorem Apg (hfu:1000≤fu){l:List It}(hl:l.length≤100000){a0n:Nat}{a0:List PV}:∀(r:List It)(i:Nat)(o:List Int)(nn:Nat),l.drop i=r→i+r.length=l.length→r.length<nn→(∀x∈r,x.ok)→(o++Bk r).length≤300000 →
  J3 fu (Ae C0 Tryz.prog fu (d+2)) a0n a0 nn o.length l.length (Cd l) (l.length:Int) (i:Int) (Ag .u8 o)=some ⟨[.own 1 (o++Bk r).length (Ag .u8 (o++Bk r)),.sc (.int .i64 0)],[]⟩:=by
 intro r
 induction r with
 |nil=>
  intro i o nn hd hi hn hg hb
  obtain ⟨m,rfl⟩:∃m,nn=m+1:=⟨nn-1,by omega⟩
  rw [List.length_nil,Nat.add_zero] at hi
  have e:o++Bk []=o:=by simp [Bk]
  rw [e,Rz]
  have L:(Ag .u8 o).length=o.length:=Aj _ _
  have t:List.take o.length (Ag .u8 o)=Ag .u8 o:=List.take_of_length_le (by omega)
  have c:¬((i:Int)<(l.length:Int)):=by omega
  simp (disch:=first|assumption|omega) only [Bx,Nat.mul_one,L,t]
 |cons x r ih=>
  intro i o nn hd hi hn hg hb
  obtain ⟨m,rfl⟩:∃m,nn=m+1:=⟨nn-1,by omega⟩
  rw [List.length_cons] at hi hn
  have hx:l[i]?=some x:=by
   have:=congrArg (fun q=>q[0]?) hd
   simpa using this
  have hd':l.drop (i+1)=r:=by
   have:=congrArg (List.drop 1) hd
   rw [List.drop_drop] at this
   simpa using this
  have e:o++Bk (x::r)=(o++Bu x)++Bk r:=by simp [Bk]
  rw [e] at hb ⊢
  have ho:o.length≤300000:=by
   rw [List.length_append,List.length_append] at hb
   omega
  have q:=ih (i+1) (o++Bu x) m hd' (by omega) (by omega) (fun y hy=>hg y (List.mem_cons_of_mem _ hy)) hb
  have it:=Asn (fu:=fu) (d:=d) hfu (l:=o) ho (x:=x) (hg x (by simp))
  have g0:(Cd l).getD (i*3) .top=.sc (.int .i64 x.k):=D4 It.cells_len hx (j:=0) (by omega)
  have g1:(Cd l).getD (i*3+1) .top=.sc (.int .u64 x.n):=D4 It.cells_len hx (j:=1) (by omega)
  have g2:(Cd l).getD (i*3+1+1) .top=.sc (.string x.s):=D4 It.cells_len hx (j:=2) (by omega)
  have L:(Ag .u8 o).length=o.length:=Aj _ _
  have t:List.take o.length (Ag .u8 o)=Ag .u8 o:=List.take_of_length_le (by omega)
  have w:IntKind.wrap .i64 ((i:Int)+1)=((i+1:Nat):Int):=by rw [Aq (by omega) (by omega)];omega
  rw [Rz]
  unfold It.cells at it
  simp (disch:=first|assumption|omega) only [Bx,Int.toNat_natCast,Nat.mul_one,g0,g1,g2,L,t,it,w,q]
theorem Ao4 (hfu:1000≤fu){l:List It}(hl:l.length≤100000)(hf:l.length<fu)(hg:O7 [] 0 l) (hk:∀x∈l,x.ok)(hb:(Bk l).length≤300000):
  Ae C0 Tryz.prog fu (d+5) Qr [.lst false 3 l.length (Cd l)]=some ⟨[.own 1 (Bk l).length (Ag .u8 (Bk l)),.sc (.int .i64 0)],[]⟩:=by
 rw [Ah4]
 have v:=Q0 (fu:=fu) (d:=d) (by omega) hl hf hg
 have q:=Apg (fu:=fu) (d:=d+2) hfu hl (a0n:=l.length) (a0:=Cd l) l 0 [] fu rfl (by omega) hf hk (by simpa using hb)
 rw [List.nil_append] at q
 simp only [Bx,v,bne_self_eq_false]
 exact q
end
end
section
section
variable {fu d:Nat}
theorem Alq (hfu:200≤fu){l:List It}(hl:l.length≤100000)(hf:l.length<fu)(hg:O7 [] 0 l):
  Ae C0 Tryz.prog fu (d+5) V5 [.own 3 l.length (Cd l)]=some ⟨[.own 3 l.length (Cd l),.sc (.int .i64 0)],[]⟩:=by
 rw [Ahe]
 have v:=Q0 (fu:=fu) (d:=d) hfu hl hf hg
 have L:=Rw l
 have t:List.take (l.length*3) (Cd l)=Cd l:=List.take_of_length_le (by omega)
 simp (disch:=omega) only [Bx,L,t,List.drop_zero,v,bne_self_eq_false]
end
end
section
structure An1 (x:It):Prop where
 kd:x.k=1∨x.k=2∨x.k=3∨x.k=4∨x.k=7∨x.k=8
 hs:x.s.size≤1024
 hv:x.k=4→Lib.validD x.s.data.toList=true
 hsh:Ge x=true
 n0:0≤x.n
theorem An1.ok {x:It}(h:An1 x):x.ok:=by
 have:=h.kd
 have:=h.hs
 exact ⟨by omega,by omega,h.n0,by omega⟩
theorem An1.push {x:It}(h:An1 x)(l:List Gj):Ai6 l x=l:=by
 unfold Ai6
 have:=h.kd
 rw [if_neg (by omega),if_neg (by omega)]
theorem Avd {x:It}(h:An1 x):O7 [] 0 [x]:=by
 have hk:=h.kd
 refine ⟨⟨by simp,by omega,by omega,rfl,h.hs,h.hv,rfl,?_,h.hsh,.inr (by omega)⟩,?_,?_⟩
 ·unfold I3
  rw [if_neg (by omega),if_neg (by omega),if_neg (by omega),if_neg (by intro q;exact absurd q.1 (by decide)),if_neg (by simp)]
 ·unfold Fh
  rw [h.push]
  rfl
 ·omega
theorem Ago:∀(r:List It)(cnt:Int),r≠[]→(∀x∈r,An1 x)→0<cnt→cnt+r.length≤500→O7 [⟨false,r.length,[]⟩] cnt r
 |[],_,h,_,_,_=>absurd rfl h
 |x::r,cnt,_,hf,hc,hl=>by
  have h:=hf x (by simp)
  have hk:=h.kd
  simp only [List.length_cons] at hl
  refine ⟨⟨by simp,by omega,by omega,rfl,h.hs,h.hv,by simp,?_,h.hsh,.inr (by omega)⟩,?_⟩
  ·unfold I3
   rw [if_neg (by omega),if_neg (by omega),if_neg (by omega),if_neg (by intro q;exact absurd q.1 (by simp [Qq])),if_neg (by simp)]
  ·have w:IntKind.wrap .i64 (((x::r).length:Int)-1)=(r.length:Int):=by
    rw [Aq (by simp only [List.length_cons];omega) (by simp only [List.length_cons];omega)]
    simp only [List.length_cons]
    omega
   have e:Fh [⟨false,((x::r).length:Nat),[]⟩] x=Acd [⟨false,(r.length:Nat),[]⟩]:=by
    unfold Fh
    rw [h.push]
    have:=We [] ⟨false,((x::r).length:Nat),[]⟩
    rw [List.nil_append,List.nil_append] at this
    rw [this]
    simp only [w]
   rw [e]
   by_cases hr:r=[]
   ·subst hr
    have:=Ajg (l:=[]) (f:=⟨false,(([]:List It).length:Nat),[]⟩) rfl
    rw [List.nil_append] at this
    rw [this]
    exact ⟨rfl,by omega⟩
   ·have:=Af0 (l:=[]) (f:=⟨false,(r.length:Nat),[]⟩) (by simp only;have:=List.length_pos_iff.2 hr;omega)
    rw [List.nil_append] at this
    rw [this]
    exact Ago r (cnt+1) hr (fun y hy=>hf y (List.mem_cons_of_mem _ hy)) (by omega) (by omega)
theorem Avh {r:List It}(hr:r≠[]) (hl:r.length≤400)(hf:∀x∈r,An1 x):O7 [] 0 (⟨5,r.length,⟨#[]⟩⟩::r):=by
 have hp:=List.length_pos_iff.2 hr
 refine ⟨⟨by simp,by omega,by omega,rfl,Nat.zero_le _,(by intro h;cases h),rfl,?_,(by rfl),.inl (by simp only;omega)⟩,?_⟩
 ·unfold I3
  rw [if_neg (by omega),if_neg (by simp),if_neg (by simp),if_neg (by intro q;exact absurd q.1 (by decide)),if_neg (by simp)]
 ·have w:IntKind.wrap .i64 (r.length:Int)=(r.length:Int):=Aq (by omega) (by omega)
  have e:Fh [] ⟨5,(r.length:Nat),⟨#[]⟩⟩=Acd [⟨false,(r.length:Nat),[]⟩]:=by
   unfold Fh Ai6
   rw [if_pos ⟨rfl,by simp only;omega⟩]
   simp only [w]
   rfl
  have:=Af0 (l:=[]) (f:=⟨false,(r.length:Nat),[]⟩) (by simp only;omega)
  rw [List.nil_append] at this
  rw [e,this]
  exact Ago r _ hr hf (by omega) (by omega)
end
section
def A1d (v:List It):List PV:=[.lst false 3 v.length (Cd v)]
theorem Atr (v:List It):(A1d v).length=1:=rfl
def Au4 (l:List (List It)):List PV:=l.flatMap A1d
theorem atv {l:List (List It)} {i:Nat}{v:List It}(h:l[i]?=some v):(Au4 l).getD (i*1) .top=.lst false 3 v.length (Cd v):=by
 exact D4 Atr h (j:=0) (by omega)
section
variable {fu d:Nat}
theorem Ade (hfu:1000≤fu){a0n:Nat}{a0:List PV}{vs:List (List It)} (hl:vs.length≤100000):∀(r:List (List It)) (i nn:Nat),vs.drop i=r→r.length<nn→(∀v∈r,O7 [] 0 v∧v.length<1000)→i≤vs.length →
  Jy fu (Ae C0 Tryz.prog fu (d+4)) a0n a0 nn vs.length (Au4 vs) (vs.length:Int) (i:Int)=some ⟨[.sc (.int .i64 0)],[]⟩
 |_,_,0,_,h,_,_=>by omega
 |[],i,nn+1,h,hn,hg,hi=>by
  have:=drop_nil h
  rw [Q5,Dl _ _ _ (by omega)]
 |v::r,i,nn+1,h,hn,hg,hi=>by
  obtain ⟨h1,h2,h3⟩:=Cf h
  simp only [List.length_cons] at hn
  have w:IntKind.wrap .i64 ((i:Int)+1)=((i+1:Nat):Int):=by rw [Aq (by omega) (by omega)];omega
  have ih:=Ade hfu (a0n:=a0n) (a0:=a0) hl r (i+1) nn h3 (by omega) (fun v hv=>hg v (List.mem_cons_of_mem _ hv)) (by omega)
  obtain ⟨g,gl⟩:=hg v (by simp)
  have vg:=Q0 (fu:=fu) (d:=d) (by omega) (by omega) (by omega) g
  have g0:=atv h2
  rw [Q5]
  simp (disch:=omega) only [Bx,Int.toNat_natCast,g0,vg,bne_self_eq_false,w,ih]
theorem An7 (hfu:1000≤fu){vs:List (List It)} (hl:vs.length<1000)(hg:∀v∈vs,O7 [] 0 v∧v.length<1000):
  Ae C0 Tryz.prog fu (d+5) X7 [.lst false 1 vs.length (Au4 vs)]=some ⟨[.sc (.int .i64 0)],[]⟩:=by
 rw [Ain]
 exact Ade hfu (by omega) vs 0 fu rfl (by omega) hg (by omega)
theorem Anz (a b:List It):Cd (a++b)=Cd a++Cd b:=by
 unfold Cd
 rw [List.flatMap_append]
theorem Afr (hfu:1000≤fu){a0n:Nat}{a0:List PV}{vs:List (List It)} (hl:vs.length≤100000):∀(r:List (List It)) (i nn:Nat)(o:List It),vs.drop i=r→r.length<nn→O7 [] 0 (o++r.flatten)→(o++r.flatten).length≤500→i≤vs.length →
  Ls fu (Ae C0 Tryz.prog fu (d+5)) a0n a0 nn o.length vs.length (Au4 vs) (vs.length:Int) (i:Int) (Cd o)=some ⟨[.own 3 (o++r.flatten).length (Cd (o++r.flatten)),.sc (.int .i64 0)],[]⟩
 |_,_,0,_,_,h,_,_,_=>by omega
 |[],i,nn+1,o,h,hn,hg,hb,hi=>by
  have:=drop_nil h
  have e:o++([]:List (List It)).flatten=o:=by simp
  rw [e] at hg hb ⊢
  have L:=Rw o
  have t:List.take (o.length*3) (Cd o)=Cd o:=List.take_of_length_le (by omega)
  have ck:=Alq (fu:=fu) (d:=d) (by omega) (by omega) (by omega) hg
  rw [Tq,Dl _ _ _ (by omega)]
  simp (disch:=omega) only [Bx,L,t,ck]
 |v::r,i,nn+1,o,h,hn,hg,hb,hi=>by
  obtain ⟨h1,h2,h3⟩:=Cf h
  simp only [List.length_cons] at hn
  have w:IntKind.wrap .i64 ((i:Int)+1)=((i+1:Nat):Int):=by rw [Aq (by omega) (by omega)];omega
  have e:o++(v::r).flatten=(o++v)++r.flatten:=by simp
  rw [e] at hg hb ⊢
  have hb':o.length+v.length≤500:=by
   rw [List.length_append,List.length_append] at hb
   omega
  have ih:=Afr hfu (a0n:=a0n) (a0:=a0) hl r (i+1) nn (o++v) h3 (by omega) hg hb (by omega)
  have g0:=atv h2
  have L:=Rw o
  have Lv:=Rw v
  have t:List.take (o.length*3) (Cd o)=Cd o:=List.take_of_length_le (by omega)
  rw [List.length_append,Anz] at ih
  rw [Tq]
  simp (disch:=omega) only [Bx,Int.toNat_natCast,g0,L,Lv,t,w,ih]
theorem Aqs (hfu:1000≤fu){vs:List (List It)} (hg:∀v∈vs,O7 [] 0 v∧v.length<1000) (hl:vs.length≤400)(ha:O7 [] 0 (⟨5,vs.length,⟨#[]⟩⟩::vs.flatten)) (hb:vs.flatten.length≤400):
  Ae C0 Tryz.prog fu (d+6) Sv [.lst false 1 vs.length (Au4 vs)]=some ⟨[.own 3 (vs.flatten.length+1) (Cd (⟨5,vs.length,⟨#[]⟩⟩::vs.flatten)),.sc (.int .i64 0)],[]⟩:=by
 rw [Ald]
 have f:=An7 (fu:=fu) (d:=d) hfu (by omega) hg
 have w:IntKind.wrap .u64 (vs.length:Int)=vs.length:=Bq (by omega) (by omega)
 have q:=Afr (fu:=fu) (d:=d) hfu (a0n:=vs.length) (a0:=Au4 vs) (by omega) vs 0 fu [⟨5,vs.length,⟨#[]⟩⟩] rfl (by omega) ha (by rw [List.length_append,List.length_singleton];omega) (by omega)
 simp only [Bx,f,bne_self_eq_false,w]
 exact q
end
end
section
def A3o (a b:List Int):Int:=Lib.compareBytes (a.map fun n=>n.toNat.toUInt8) (b.map fun n=>n.toNat.toUInt8)
def Ry (a b:List Int):Bool:=if a.length=b.length then decide (A3o a b<0) else decide (a.length<b.length)
def I2 (l:List Gj)(key:List Int):List Gj:=match l.getLast? with|some f=>l.dropLast++[⟨f.p,f.left,key⟩]|none=>l
theorem Mg (l:List Gj)(f:Gj)(key:List Int):I2 (l++[f]) key=l++[⟨f.p,f.left,key⟩]:=by
 unfold I2
 simp
def Aep (l:List Gj):List Int:=match l.getLast? with|some f=>f.last|none=>[]
theorem Ame (l:List Gj)(f:Gj):Aep (l++[f])=f.last:=by
 unfold Aep
 simp
def Dy (l:List Gj)(x:It):Int × List Gj:=
 if x.k=4∧okS x.s=false then (6,l)
 else if Qq l=true then (if Aep l≠[]∧Ry (Aep l) (Bu x)=false then (7,l) else (0,Fh (I2 l (Bu x)) x))
 else (0,Fh l x)
theorem Avu (x:It):1≤(Bu x).length:=by
 unfold Bu
 have h2:=Hb 2 x.s.size
 have h3:=Hb 3 x.s.size
 have h4:=Hb (x.k-1) x.n
 repeat' split
 all_goals try simp only [List.length_append,List.length_cons,List.length_nil]
 all_goals omega
section
variable {fu d:Nat}
theorem Ap5 (a b:List Int):Ae C0 Tryz.prog fu (d+1) 143 [.lst false 1 a.length (Ag .u8 a),.lst false 1 b.length (Ag .u8 b)]=some ⟨[.sc (.int .i64 (A3o a b))],[]⟩:=by
 have h:Ae C0 Tryz.prog fu (d+1) 143 [.lst false 1 a.length (Ag .u8 a),.lst false 1 b.length (Ag .u8 b)]=Vy [.lst false 1 a.length (Ag .u8 a),.lst false 1 b.length (Ag .u8 b)]:=by kernel_rfl
 rw [h]
 unfold Vy
 simp only [Aj,Nat.beq_refl,Bool.and_self,cond_true,Gz]
 rfl
theorem Aq3 (a b:List Int):Ae C0 Tryz.prog fu (d+2) Wk [.lst false 1 a.length (Ag .u8 a),.lst false 1 b.length (Ag .u8 b)]=some ⟨[.sc (.bool (Ry a b))],[]⟩:=by
 refine (Agb fu (d+1) _ _ _ _).trans ?_
 have c:=Ap5 (fu:=fu) (d:=d) a b
 unfold Ry
 by_cases h:a.length=b.length
 ·have b0:((a.length:Int) != (b.length:Int))=false:=by simp [h]
  rw [if_pos h]
  simp only [Bx,b0,c]
 ·have b0:((a.length:Int) != (b.length:Int))=true:=by simp;omega
  rw [if_neg h]
  simp only [Bx,b0]
  simp
theorem Aj7 {l:List Gj}{x:It}{cnt:Int}(hfu:1000≤fu)(hl:l.length≤900)(h0:0≤cnt)(h1:cnt≤1000000)(hx:x.ok)(hs:x.s.size≤100000):
  Ae C0 Tryz.prog fu (d+3) I4 [.pbox (Kb l cnt),.agg x.cells]=some ⟨[.sc (.int .i64 (Dy l x).1)],[Kb (Dy l x).2 (if (Dy l x).1=0 then cnt+1 else cnt)]⟩:=by
 cases ha:Qq l with
 |false=>
  cases hv:(x.k==4) && !okS x.s with
  |false=>
   have e:Dy l x=(0,Fh l x):=by
    unfold Dy
    rw [if_neg,if_neg (by simp [ha])]
    intro hh
    simp [hh.1,hh.2] at hv
   have:=Ada (fu:=fu) (d:=d+1) (l:=l) (x:=x) (cnt:=cnt) (by omega) (by omega) h0 h1 ha hs (by
    intro hk
    simp [hk] at hv
    exact hv)
   rw [e,this]
   rfl
  |true=>
   simp at hv
   have e:Dy l x=(6,l):=by
    unfold Dy
    rw [if_pos hv]
   rw [e]
   obtain ⟨k,n,s⟩:=x
   have va:=Og (fu:=fu) (d:=d+1) s (Nat.le_trans hs (by omega))
   simp only at hv
   obtain ⟨rfl,hv⟩:=hv
   rw [hv] at va
   have L:=Cw l
   have t:=Dj l
   refine (I6 fu (d+2) l.length (El l) cnt 4 n s).trans ?_
   simp (disch:=omega) only [Bx,Int.reduceBEq,va,L,t]
   rfl
 |true=>
  rcases Ly l with rfl|⟨l',f,rfl⟩
  ·exact absurd ha (by decide)
  have it:=Asn (fu:=fu) (d:=d) hfu (l:=[]) (by simp) hx
  rw [List.nil_append] at it
  have hp:=Avu x
  have sm:=Aq3 (fu:=fu) (d:=d) f.last (Bu x)
  have ak:=Ag9 (fu:=fu) (d:=d+1) (l:=l'++[f]) (by omega) cnt
  rw [ha] at ak
  have st:=Asr (fu:=fu) (d:=d+1) (l:=I2 (l'++[f]) (Bu x)) (x:=x) (cnt:=cnt) (by rw [Mg];simp at hl ⊢;omega) (by rw [Mg];simp at hl ⊢;omega) h0 h1
  have E:Dy (l'++[f]) x=(if x.k=4∧okS x.s=false then (6,l'++[f]) else if f.last≠[]∧Ry f.last (Bu x)=false then (7,l'++[f]) else (0,Fh (I2 (l'++[f]) (Bu x)) x)):=by
   unfold Dy
   rw [ha,Ame]
   simp only [if_true]
  have hn':(l'++[f]).length=l'.length+1:=by simp
  have hx':(l'++[f])[l'.length]?=some f:=by simp
  have w:IntKind.wrap .i64 (((l'++[f]).length:Int)-1)=(l'.length:Int):=by rw [Aq (by omega) (by omega)];omega
  have L:=Cw (l'++[f])
  have t:=Dj (l'++[f])
  have g2:(El (l'++[f])).getD (l'.length*3+2) .top=.lst false 1 f.last.length (Ag .u8 f.last):=D4 Gj.cells_len hx' (j:=2) (by omega)
  have sp:Bn (El (l'++[f])) [.lst false 1 (Bu x).length (Ag .u8 (Bu x))] (l'.length*3+2)=El (I2 (l'++[f]) (Bu x)):=by
   rw [Iy (by omega),Mg,R7,R7,R8,R8]
   have:=Cw l'
   rw [List.set_append_right _ _ (by omega)]
   have:l'.length*3+2-(El l').length=2:=by omega
   rw [this]
   rfl
  have LK:=Cw (I2 (l'++[f]) (Bu x))
  have tK:=Dj (I2 (l'++[f]) (Bu x))
  have nK:(I2 (l'++[f]) (Bu x)).length=(l'++[f]).length:=by rw [Mg];simp
  rw [nK] at LK tK
  have L2:=Cw (Fh (I2 (l'++[f]) (Bu x)) x)
  have t2:=Dj (Fh (I2 (l'++[f]) (Bu x)) x)
  have Lk:=Aj .u8 (Bu x)
  have tk:=Gw .u8 (Bu x)
  unfold Kb at st ak ⊢
  rw [nK] at st
  rw [E]
  generalize Fh (I2 (l'++[f]) (Bu x)) x=S at *
  generalize El (I2 (l'++[f]) (Bu x))=K at *
  have hsm:f.last.length=0→Ry f.last (Bu x)=true:=by
   intro hz
   unfold Ry
   rw [if_neg (by omega)]
   simp
   omega
  have hnil:f.last≠[]↔0<f.last.length:=by rw [List.length_pos_iff]
  generalize hKe:Bu x=key at *
  obtain ⟨k,n,s⟩:=x
  have va:=Og (fu:=fu) (d:=d+1) s (Nat.le_trans hs (by omega))
  unfold okS at va ⊢
  unfold It.cells at st it ⊢
  simp only at st it hs ⊢
  refine (I6 fu (d+2) (l'++[f]).length (El (l'++[f])) cnt k n s).trans ?_
  simp only [List.length_nil] at it
  have it0:Ag .u8 []=[]:=rfl
  rw [it0] at it
  try unfold Aa
  repeat' first
   |((with_reducible first|apply At|apply Ap|apply Ax|apply Ao|apply Az|apply Aw|apply Bb|apply Bc|apply A0|apply Al|apply Au|apply Am);· first|with_reducible rfl|(simp (disch:=first|with_reducible assumption|omega) only [va,L,t,ak,w,Int.toNat_natCast,Nat.zero_add,Nat.add_zero,it,g2,Nat.mul_one,List.drop_zero,Lk,tk,sm,sp,LK,tK,st,L2,t2]<;>with_reducible rfl))
   |((with_reducible first|apply A4|apply A3);· first|with_reducible rfl|with_reducible assumption|omega|(simp (disch:=first|with_reducible assumption|omega) only [gT,va,L,t,ak,w,Int.toNat_natCast,Nat.zero_add,Nat.add_zero,it,g2,Nat.mul_one,List.drop_zero,Lk,tk,sm,sp,LK,tK,st,L2,t2]<;>omega))
   |(with_reducible apply Ay;· first|with_reducible rfl|with_reducible assumption|(simp (disch:=first|with_reducible assumption|omega) only [gF,va,L,t,ak,w,Int.toNat_natCast,Nat.zero_add,Nat.add_zero,it,g2,Nat.mul_one,List.drop_zero,Lk,tk,sm,sp,LK,tK,st,L2,t2]<;>omega))
   |(with_reducible refine Aws ?_ ?_<;>intro hb<;>try simp only [decide_eq_true_eq,decide_eq_false_iff_not,beq_iff_eq,beq_eq_false_iff_ne,bne_iff_ne,bne_eq_false_iff_eq,ne_eq,Bool.not_eq_true',Bool.not_eq_false',Bool.not_eq_true,Bool.not_eq_false] at hb)
   |(with_reducible refine Akx ?_ ?_)
  all_goals try simp (disch:=first|with_reducible assumption|omega) only [va,L,t,ak,w,Int.toNat_natCast,Nat.zero_add,Nat.add_zero,it,g2,Nat.mul_one,List.drop_zero,Lk,tk,sm,sp,LK,tK,st,L2,t2]
  all_goals clear st it ak va sm L t g2 sp LK tK L2 t2 Lk tk it0 E ha hKe
  all_goals repeat' split
  all_goals first
   |rfl
   |(exfalso;simp_all;done)
   |(exfalso;simp_all;omega)
end
end
section
set_option maxRecDepth 100000
abbrev O8:FuncId:=120
noncomputable def Gc (fu:Nat)(call:Ak)(a0_0n:Nat)(a0_0:List PV)(a0_1:Int)(a0_2n:Nat)(a0_2:List PV)(a0_3:Int)(nn:Nat)(y0 y1 y2:Int)(y3:Nat)(y4:List PV)(y5 y6:Int)(y7:Nat)(y8:Int)(y9:Nat)(Fu:List PV)(Ka:Int)(Ot:List PV):Option A8:=C5 C0 Tryz.prog fu call 120 Tryz.f120 (B7 Tryz.f120) [.pbox [.own 3 a0_0n a0_0,.sc (.int .i64 a0_1),.lst false 1 a0_2n a0_2,.sc (.int .i64 a0_3)]] [.r,.r,.r,.r,.r,.r,.r,.r,.r,.r,.r,.l,.r,.l] nn ⟨lk [(0,(.ptr 240000 0)),(2,(.sc (.int .i64 y0))),(3,(.sc (.int .u64 y1))),(8,(.sc (.int .i64 y2))),(94,(.lst false 1 y3 y4)),(95,(.sc (.int .i64 y5))),(96,(.sc (.int .i64 y6)))],Gv [(240000,(.st [(.view 240120 3 0 y7),(.sc (.int .i64 y8)),(.lst false 1 y9 Fu),(.sc (.int .i64 Ka))])),(240120,(.ar false Ot))]⟩
theorem Kw (fu:Nat)(call:Ak)(a0_0n:Nat)(a0_0:List PV)(a0_1:Int)(a0_2n:Nat)(a0_2:List PV)(a0_3:Int)(nn:Nat)(y0 y1 y2:Int)(y3:Nat)(y4:List PV)(y5 y6:Int)(y7:Nat)(y8:Int)(y9:Nat)(Fu:List PV)(Ka:Int)(Ot:List PV):Gc fu call a0_0n a0_0 a0_1 a0_2n a0_2 a0_3 (nn+1) y0 y1 y2 y3 y4 y5 y6 y7 y8 y9 Fu Ka Ot=(Be (decide (y6<y5)) (Ar (decide (0≤y6)&&decide (y6<(↑y3:Int)))<|Af .u8 (List.getD y4 (Int.toNat y6*1) .top) fun D2=>Aa (Ew .u64 y1 8) fun D0=>Aa (IntKind.wrap .u64 D2) fun D6=>Aa (Xf .u64 D0 D6) fun F1=>Aa (IntKind.wrap .i64 (y6+1)) fun Ey=>Gc fu call a0_0n a0_0 a0_1 a0_2n a0_2 a0_3 (nn) (y0) F1 (y2) (y3) (y4) (y5) Ey (y7) (y8) (y9) (Fu) (Ka) (Ot)) (Aa (IntKind.wrap .i64 (Ka+y2)) fun Fs=>Ah (call 133 [.sc (.int .u64 y1)]) fun De C9=>Ac C9<|Ab De fun Eu F6=>Af .i64 Eu fun Ef=>Ac F6<|Be (decide (Ef<y2)) (Ar (decide (y7*3≤List.length Ot))<|some (A8.mk [.sc (.int .i64 0),.sc (.int .u64 0),.sc (.int .i64 2)] [[.own 3 y7 (List.take (y7*3) Ot),.sc (.int .i64 y8),.lst false 1 y9 Fu,.sc (.int .i64 Fs)]])) (Ar (decide (y7*3≤List.length Ot))<|some (A8.mk [.sc (.int .i64 y0),.sc (.int .u64 y1),.sc (.int .i64 0)] [[.own 3 y7 (List.take (y7*3) Ot),.sc (.int .i64 y8),.lst false 1 y9 Fu,.sc (.int .i64 Fs)]])))):=by kernel_rfl
theorem Ys (fu d a0_0n:Nat)(a0_0:List PV)(a0_1:Int)(a0_2n:Nat)(a0_2:List PV)(a0_3:Int):Ae C0 Tryz.prog fu (d+1) O8 [.pbox [.own 3 a0_0n a0_0,.sc (.int .i64 a0_1),.lst false 1 a0_2n a0_2,.sc (.int .i64 a0_3)]]=(fun (call:Ak)=>Be (decide (a0_3≥(↑a0_2n:Int))) (Ar (decide (a0_0n*3≤List.length a0_0))<|some (A8.mk [.sc (.int .i64 0),.sc (.int .u64 0),.sc (.int .i64 1)] [[.own 3 a0_0n (List.take (a0_0n*3) a0_0),.sc (.int .i64 a0_1),.lst false 1 a0_2n a0_2,.sc (.int .i64 a0_3)]])) (Ar (decide (0≤a0_3)&&decide (a0_3<(↑a0_2n:Int)))<|Af .u8 (List.getD a0_2 (Int.toNat a0_3*1) .top) fun x1=>Aa (IntKind.wrap .i64 (a0_3+1)) fun x2=>Be (x1==244) (Aa (IntKind.wrap .u8 (x1-244)) fun x3=>Aa (IntKind.wrap .u64 x3) fun x4=>Ar (decide (a0_0n*3≤List.length a0_0))<|some (A8.mk [.sc (.int .i64 7),.sc (.int .u64 x4),.sc (.int .i64 0)] [[.own 3 a0_0n (List.take (a0_0n*3) a0_0),.sc (.int .i64 a0_1),.lst false 1 a0_2n a0_2,.sc (.int .i64 x2)]])) (Be (x1==245) (Aa (IntKind.wrap .u8 (x1-244)) fun x5=>Aa (IntKind.wrap .u64 x5) fun x6=>Ar (decide (a0_0n*3≤List.length a0_0))<|some (A8.mk [.sc (.int .i64 7),.sc (.int .u64 x6),.sc (.int .i64 0)] [[.own 3 a0_0n (List.take (a0_0n*3) a0_0),.sc (.int .i64 a0_1),.lst false 1 a0_2n a0_2,.sc (.int .i64 x2)]])) (Be (x1==246) (Ar (decide (a0_0n*3≤List.length a0_0))<|some (A8.mk [.sc (.int .i64 8),.sc (.int .u64 0),.sc (.int .i64 0)] [[.own 3 a0_0n (List.take (a0_0n*3) a0_0),.sc (.int .i64 a0_1),.lst false 1 a0_2n a0_2,.sc (.int .i64 x2)]])) (Aa (Dx .u8 x1 5) fun x7=>Aa (Dz .u8 x1 31) fun x8=>Be (decide (x7>5)) (Ar (decide (a0_0n*3≤List.length a0_0))<|some (A8.mk [.sc (.int .i64 0),.sc (.int .u64 0),.sc (.int .i64 2)] [[.own 3 a0_0n (List.take (a0_0n*3) a0_0),.sc (.int .i64 a0_1),.lst false 1 a0_2n a0_2,.sc (.int .i64 x2)]])) (Be (decide (x8>27)) (Ar (decide (a0_0n*3≤List.length a0_0))<|some (A8.mk [.sc (.int .i64 0),.sc (.int .u64 0),.sc (.int .i64 2)] [[.own 3 a0_0n (List.take (a0_0n*3) a0_0),.sc (.int .i64 a0_1),.lst false 1 a0_2n a0_2,.sc (.int .i64 x2)]])) (Aa (IntKind.wrap .i64 x7) fun x9=>Aa (IntKind.wrap .i64 (1+x9)) fun B5=>Be (decide (x8<24)) (Aa (IntKind.wrap .u64 x8) fun B9=>Ar (decide (a0_0n*3≤List.length a0_0))<|some (A8.mk [.sc (.int .i64 B5),.sc (.int .u64 B9),.sc (.int .i64 0)] [[.own 3 a0_0n (List.take (a0_0n*3) a0_0),.sc (.int .i64 a0_1),.lst false 1 a0_2n a0_2,.sc (.int .i64 x2)]])) (Aa (IntKind.wrap .u8 (x8-24)) fun Cy=>Ar (decide (0≤Cy))<|Aa (Ew .i64 1 Cy) fun C7=>Aa (IntKind.wrap .i64 ((↑a0_2n:Int)-x2)) fun Cr=>Be (decide (Cr<C7)) (Ar (decide (a0_0n*3≤List.length a0_0))<|some (A8.mk [.sc (.int .i64 0),.sc (.int .u64 0),.sc (.int .i64 1)] [[.own 3 a0_0n (List.take (a0_0n*3) a0_0),.sc (.int .i64 a0_1),.lst false 1 a0_2n a0_2,.sc (.int .i64 x2)]])) (Aa (IntKind.wrap .i64 (x2+C7)) fun C3=>Ar (decide (0≤x2))<|Ar (decide (0≤C3))<|Ar (decide (Int.toNat x2≤Int.toNat C3)&&decide (Int.toNat C3≤a0_2n))<|Aa (Int.toNat C3-Int.toNat x2) fun Df=>Aa (List.take (Df*1) (List.drop (Int.toNat x2*1) a0_2)) fun Ds=>Gc fu call a0_0n a0_0 a0_1 a0_2n a0_2 a0_3 (fu) B5 0 C7 Df Ds ((↑Df:Int)) 0 (a0_0n) (a0_1) (a0_2n) (a0_2) x2 (a0_0)))))))))) (Ae C0 Tryz.prog fu d):=by kernel_rfl
abbrev O2:FuncId:=110
theorem Zi (fu d a0_0n:Nat)(a0_0:List PV)(a0_1:Int)(a0_2n:Nat)(a0_2:List PV)(a0_3:Int):Ae C0 Tryz.prog fu (d+1) O2 [.pbox [.own 3 a0_0n a0_0,.sc (.int .i64 a0_1),.lst false 1 a0_2n a0_2,.sc (.int .i64 a0_3)]]=(fun (call:Ak)=>Ar (decide (a0_0n*3≤List.length a0_0))<|Ah (call 120 [.pbox [.own 3 a0_0n (List.take (a0_0n*3) a0_0),.sc (.int .i64 a0_1),.lst false 1 a0_2n a0_2,.sc (.int .i64 a0_3)]]) fun x1 x2=>Ab x1 fun x3 x4=>Af .i64 x3 fun x5=>Ab x4 fun x6 x7=>Af .u64 x6 fun x8=>Ab x7 fun x9 B5=>Af .i64 x9 fun B9=>Ac B5<|Ab x2 fun Cy C7=>Ab Cy fun Cr C3=>C8 3 Cr fun Df Ds=>Ab C3 fun D2 D0=>Af .i64 D2 fun D6=>Ab D0 fun F1 Ey=>Jn 1 F1 fun Fs De C9=>Ab Ey fun Eu F6=>Af .i64 Eu fun Ef=>Ac F6<|Ac C7<|Be (B9 != 0) (Ar (decide (Df*3≤List.length Ds))<|some (A8.mk [.agg [.sc (.int .i64 0),.sc (.int .u64 0),.sc (.string (ByteArray.mk #[]))],.sc (.int .i64 B9)] [[.own 3 Df (List.take (Df*3) Ds),.sc (.int .i64 D6),.lst false 1 De C9,.sc (.int .i64 Ef)]])) (Ar (decide (Df*3≤List.length Ds))<|Ah (call 121 [.pbox [.own 3 Df (List.take (Df*3) Ds),.sc (.int .i64 D6)],.sc (.int .i64 x5)]) fun Hn Hg=>Ab Hn fun G3 Ie=>Af .i64 G3 fun Hy=>Ac Ie<|Ab Hg fun Ir G4=>Ab Ir fun Jr Nb=>C8 3 Jr fun Fq Ih=>Ab Nb fun Q8 Sk=>Af .i64 Q8 fun Mj=>Ac Sk<|Ac G4<|Be (Hy != 0) (Ar (decide (Fq*3≤List.length Ih))<|some (A8.mk [.agg [.sc (.int .i64 0),.sc (.int .u64 0),.sc (.string (ByteArray.mk #[]))],.sc (.int .i64 Hy)] [[.own 3 Fq (List.take (Fq*3) Ih),.sc (.int .i64 Mj),.lst false 1 De C9,.sc (.int .i64 Ef)]])) (Be (x5==5) (Be (decide (x8>512)) (Ar (decide (Fq*3≤List.length Ih))<|some (A8.mk [.agg [.sc (.int .i64 0),.sc (.int .u64 0),.sc (.string (ByteArray.mk #[]))],.sc (.int .i64 8)] [[.own 3 Fq (List.take (Fq*3) Ih),.sc (.int .i64 Mj),.lst false 1 De C9,.sc (.int .i64 Ef)]])) (Ar (decide (Fq*3≤List.length Ih))<|Ah (call 122 [.pbox [.own 3 Fq (List.take (Fq*3) Ih),.sc (.int .i64 Mj)],.agg [.sc (.int .i64 x5),.sc (.int .u64 x8),.sc (.string (ByteArray.mk #[]))]]) fun Po Of=>Ab Po fun Oy Q2=>Af .i64 Oy fun Ra=>Ac Q2<|Ab Of fun Rj Qc=>Ab Rj fun Si Tg=>C8 3 Si fun Sh Lr=>Ab Tg fun Ui R0=>Af .i64 Ui fun Um=>Ac R0<|Ac Qc<|Be (Ra != 0) (Ar (decide (Sh*3≤List.length Lr))<|some (A8.mk [.agg [.sc (.int .i64 0),.sc (.int .u64 0),.sc (.string (ByteArray.mk #[]))],.sc (.int .i64 Ra)] [[.own 3 Sh (List.take (Sh*3) Lr),.sc (.int .i64 Um),.lst false 1 De C9,.sc (.int .i64 Ef)]])) (Ar (decide (Sh*3≤List.length Lr))<|some (A8.mk [.agg [.sc (.int .i64 x5),.sc (.int .u64 x8),.sc (.string (ByteArray.mk #[]))],.sc (.int .i64 0)] [[.own 3 Sh (List.take (Sh*3) Lr),.sc (.int .i64 Um),.lst false 1 De C9,.sc (.int .i64 Ef)]])))) (Be (x5==6) (Be (decide (x8>512)) (Ar (decide (Fq*3≤List.length Ih))<|some (A8.mk [.agg [.sc (.int .i64 0),.sc (.int .u64 0),.sc (.string (ByteArray.mk #[]))],.sc (.int .i64 8)] [[.own 3 Fq (List.take (Fq*3) Ih),.sc (.int .i64 Mj),.lst false 1 De C9,.sc (.int .i64 Ef)]])) (Ar (decide (Fq*3≤List.length Ih))<|Ah (call 122 [.pbox [.own 3 Fq (List.take (Fq*3) Ih),.sc (.int .i64 Mj)],.agg [.sc (.int .i64 x5),.sc (.int .u64 x8),.sc (.string (ByteArray.mk #[]))]]) fun Sf S9=>Ab Sf fun Tx Uu=>Af .i64 Tx fun Ux=>Ac Uu<|Ab S9 fun X6 Xc=>Ab X6 fun Us Ut=>C8 3 Us fun Tp Tf=>Ab Ut fun Y4 Vb=>Af .i64 Y4 fun V7=>Ac Vb<|Ac Xc<|Be (Ux != 0) (Ar (decide (Tp*3≤List.length Tf))<|some (A8.mk [.agg [.sc (.int .i64 0),.sc (.int .u64 0),.sc (.string (ByteArray.mk #[]))],.sc (.int .i64 Ux)] [[.own 3 Tp (List.take (Tp*3) Tf),.sc (.int .i64 V7),.lst false 1 De C9,.sc (.int .i64 Ef)]])) (Ar (decide (Tp*3≤List.length Tf))<|some (A8.mk [.agg [.sc (.int .i64 x5),.sc (.int .u64 x8),.sc (.string (ByteArray.mk #[]))],.sc (.int .i64 0)] [[.own 3 Tp (List.take (Tp*3) Tf),.sc (.int .i64 V7),.lst false 1 De C9,.sc (.int .i64 Ef)]])))) (Be (x5==3) (Be (decide (x8>1024)) (Ar (decide (Fq*3≤List.length Ih))<|some (A8.mk [.agg [.sc (.int .i64 0),.sc (.int .u64 0),.sc (.string (ByteArray.mk #[]))],.sc (.int .i64 8)] [[.own 3 Fq (List.take (Fq*3) Ih),.sc (.int .i64 Mj),.lst false 1 De C9,.sc (.int .i64 Ef)]])) (Aa (IntKind.wrap .i64 ((↑De:Int)-Ef)) fun Vi=>Aa (IntKind.wrap .i64 x8) fun Xe=>Be (decide (Vi<Xe)) (Ar (decide (Fq*3≤List.length Ih))<|some (A8.mk [.agg [.sc (.int .i64 0),.sc (.int .u64 0),.sc (.string (ByteArray.mk #[]))],.sc (.int .i64 1)] [[.own 3 Fq (List.take (Fq*3) Ih),.sc (.int .i64 Mj),.lst false 1 De C9,.sc (.int .i64 Ef)]])) (Aa (IntKind.wrap .i64 x8) fun Zc=>Aa (IntKind.wrap .i64 (Ef+Zc)) fun Uw=>Ar (decide (0≤Ef))<|Ar (decide (0≤Uw))<|Ar (decide (Int.toNat Ef≤Int.toNat Uw)&&decide (Int.toNat Uw≤De))<|Aa (Int.toNat Uw-Int.toNat Ef) fun Xb=>Aa (List.take (Xb*1) (List.drop (Int.toNat Ef*1) C9)) fun x76=>Ar (decide (List.length x76=Xb))<|Ep (bytesOf x76) fun Xw=>Aa (IntKind.wrap .i64 x8) fun Zf=>Aa (IntKind.wrap .i64 (Ef+Zf)) fun x79=>Ar (decide (Fq*3≤List.length Ih))<|Ah (call 122 [.pbox [.own 3 Fq (List.take (Fq*3) Ih),.sc (.int .i64 Mj)],.agg [.sc (.int .i64 x5),.sc (.int .u64 0),.sc (.string (ByteArray.mk (List.toArray Xw)))]]) fun x80 x81=>Ab x80 fun x82 x83=>Af .i64 x82 fun x84=>Ac x83<|Ab x81 fun x85 x86=>Ab x85 fun x87 x88=>C8 3 x87 fun Uk x90=>Ab x88 fun x91 x92=>Af .i64 x91 fun x93=>Ac x92<|Ac x86<|Be (x84 != 0) (Ar (decide (Uk*3≤List.length x90))<|some (A8.mk [.agg [.sc (.int .i64 0),.sc (.int .u64 0),.sc (.string (ByteArray.mk #[]))],.sc (.int .i64 x84)] [[.own 3 Uk (List.take (Uk*3) x90),.sc (.int .i64 x93),.lst false 1 De C9,.sc (.int .i64 x79)]])) (Ar (decide (Uk*3≤List.length x90))<|some (A8.mk [.agg [.sc (.int .i64 x5),.sc (.int .u64 0),.sc (.string (ByteArray.mk (List.toArray Xw)))],.sc (.int .i64 0)] [[.own 3 Uk (List.take (Uk*3) x90),.sc (.int .i64 x93),.lst false 1 De C9,.sc (.int .i64 x79)]]))))) (Be (x5==4) (Be (decide (x8>1024)) (Ar (decide (Fq*3≤List.length Ih))<|some (A8.mk [.agg [.sc (.int .i64 0),.sc (.int .u64 0),.sc (.string (ByteArray.mk #[]))],.sc (.int .i64 8)] [[.own 3 Fq (List.take (Fq*3) Ih),.sc (.int .i64 Mj),.lst false 1 De C9,.sc (.int .i64 Ef)]])) (Aa (IntKind.wrap .i64 ((↑De:Int)-Ef)) fun x94=>Aa (IntKind.wrap .i64 x8) fun x95=>Be (decide (x94<x95)) (Ar (decide (Fq*3≤List.length Ih))<|some (A8.mk [.agg [.sc (.int .i64 0),.sc (.int .u64 0),.sc (.string (ByteArray.mk #[]))],.sc (.int .i64 1)] [[.own 3 Fq (List.take (Fq*3) Ih),.sc (.int .i64 Mj),.lst false 1 De C9,.sc (.int .i64 Ef)]])) (Aa (IntKind.wrap .i64 x8) fun x96=>Aa (IntKind.wrap .i64 (Ef+x96)) fun x97=>Ar (decide (0≤Ef))<|Ar (decide (0≤x97))<|Ar (decide (Int.toNat Ef≤Int.toNat x97)&&decide (Int.toNat x97≤De))<|Aa (Int.toNat x97-Int.toNat Ef) fun x98=>Aa (List.take (x98*1) (List.drop (Int.toNat Ef*1) C9)) fun x99=>Ar (decide (List.length x99=x98))<|Ep (bytesOf x99) fun Xa=>Aa (IntKind.wrap .i64 x8) fun Th=>Aa (IntKind.wrap .i64 (Ef+Th)) fun Hf=>Ar (decide (Fq*3≤List.length Ih))<|Ah (call 122 [.pbox [.own 3 Fq (List.take (Fq*3) Ih),.sc (.int .i64 Mj)],.agg [.sc (.int .i64 x5),.sc (.int .u64 0),.sc (.string (ByteArray.mk (List.toArray Xa)))]]) fun Kd Y3=>Ab Kd fun Sn Qs=>Af .i64 Sn fun Mk=>Ac Qs<|Ab Y3 fun Aab Ab0=>Ab Aab fun Yg Zx=>C8 3 Yg fun Io Lh=>Ab Zx fun Afj Agy=>Af .i64 Afj fun Px=>Ac Agy<|Ac Ab0<|Be (Mk != 0) (Ar (decide (Io*3≤List.length Lh))<|some (A8.mk [.agg [.sc (.int .i64 0),.sc (.int .u64 0),.sc (.string (ByteArray.mk #[]))],.sc (.int .i64 Mk)] [[.own 3 Io (List.take (Io*3) Lh),.sc (.int .i64 Px),.lst false 1 De C9,.sc (.int .i64 Hf)]])) (Ar (decide (Io*3≤List.length Lh))<|some (A8.mk [.agg [.sc (.int .i64 x5),.sc (.int .u64 0),.sc (.string (ByteArray.mk (List.toArray Xa)))],.sc (.int .i64 0)] [[.own 3 Io (List.take (Io*3) Lh),.sc (.int .i64 Px),.lst false 1 De C9,.sc (.int .i64 Hf)]]))))) (Ar (decide (Fq*3≤List.length Ih))<|Ah (call 122 [.pbox [.own 3 Fq (List.take (Fq*3) Ih),.sc (.int .i64 Mj)],.agg [.sc (.int .i64 x5),.sc (.int .u64 x8),.sc (.string (ByteArray.mk #[]))]]) fun Vp Ae3=>Ab Vp fun Abw Afb=>Af .i64 Abw fun Aef=>Ac Afb<|Ab Ae3 fun Agt Aha=>Ab Agt fun Ae8 Aed=>C8 3 Ae8 fun Up Yy=>Ab Aed fun Afc Ag7=>Af .i64 Afc fun Aby=>Ac Ag7<|Ac Aha<|Be (Aef != 0) (Ar (decide (Up*3≤List.length Yy))<|some (A8.mk [.agg [.sc (.int .i64 0),.sc (.int .u64 0),.sc (.string (ByteArray.mk #[]))],.sc (.int .i64 Aef)] [[.own 3 Up (List.take (Up*3) Yy),.sc (.int .i64 Aby),.lst false 1 De C9,.sc (.int .i64 Ef)]])) (Ar (decide (Up*3≤List.length Yy))<|some (A8.mk [.agg [.sc (.int .i64 x5),.sc (.int .u64 x8),.sc (.string (ByteArray.mk #[]))],.sc (.int .i64 0)] [[.own 3 Up (List.take (Up*3) Yy),.sc (.int .i64 Aby),.lst false 1 De C9,.sc (.int .i64 Ef)]]))))))))) (Ae C0 Tryz.prog fu d):=by kernel_rfl
abbrev X4:FuncId:=86
noncomputable def J6 (fu:Nat)(call:Ak)(a0n:Nat)(a0:List PV)(nn y0:Nat)(y1:List PV)(y2:Nat)(y3:Int)(y4:Nat)(y5:List PV)(y6:Int)(y7:List PV):Option A8:=C5 C0 Tryz.prog fu call 86 Tryz.f86 (B7 Tryz.f86) [.lst false 1 a0n a0] [.r,.r,.l,.l] nn ⟨lk [(2,(.view 2 3 0 y0)),(5,(.ptr 5 0))],Gv [(2,(.ar false y1)),(5,(.st [(.view 32 3 0 y2),(.sc (.int .i64 y3)),(.lst false 1 y4 y5),(.sc (.int .i64 y6))])),(32,(.ar false y7))]⟩
theorem Ab3 (fu:Nat)(call:Ak)(a0n:Nat)(a0:List PV)(nn y0:Nat)(y1:List PV)(y2:Nat)(y3:Int)(y4:Nat)(y5:List PV)(y6:Int)(y7:List PV):J6 fu call a0n a0 (nn+1) y0 y1 y2 y3 y4 y5 y6 y7=(Ar (decide (y2*3≤List.length y7))<|Ah (call 109 [.pbox [.own 3 y2 (List.take (y2*3) y7),.sc (.int .i64 y3)]]) fun x1 x2=>Ab x1 fun x3 x4=>Bz x3 fun x5=>Ac x4<|Ab x2 fun x6 x7=>Ab x6 fun x8 x9=>C8 3 x8 fun B5 B9=>Ab x9 fun Cy C7=>Af .i64 Cy fun Cr=>Ac C7<|Ac x7<|Be (!x5) (Ar (decide (B5*3≤List.length B9))<|Ah (call 110 [.pbox [.own 3 B5 (List.take (B5*3) B9),.sc (.int .i64 Cr),.lst false 1 y4 y5,.sc (.int .i64 y6)]]) fun C3 Df=>Ab C3 fun Ds D2=>Co Ds fun D0=>Ab D0 fun D6 F1=>Af .i64 D6 fun Ey=>Ab F1 fun Fs De=>Af .u64 Fs fun C9=>Ab De fun Eu F6=>Cu Eu fun Ef=>Ac F6<|Ab D2 fun Hn Hg=>Af .i64 Hn fun G3=>Ac Hg<|Ab Df fun Ie Hy=>Ab Ie fun Ir G4=>C8 3 Ir fun Jr Nb=>Ab G4 fun Fq Ih=>Af .i64 Fq fun Q8=>Ab Ih fun Sk Mj=>Jn 1 Sk fun Po Of Oy=>Ab Mj fun Q2 Ra=>Af .i64 Q2 fun Rj=>Ac Ra<|Ac Hy<|Be (G3 != 0) (some (A8.mk [.own 3 0 [],.sc (.int .i64 0),.sc (.int .i64 G3)] [])) (Ar (decide (y0*3≤List.length y1)&&true&&decide ((y0+1)*32≤1099511627776)&&decide (y0+1≤1099511627776))<|Aa (y0+1) fun Qc=>Aa (List.take (y0*3) y1++[.sc (.int .i64 Ey),.sc (.int .u64 C9),.sc (.string Ef)]) fun Si=>J6 fu call a0n a0 (nn) Qc Si Jr Q8 Of Oy Rj Nb)) (Ar (decide (y0*3≤List.length y1))<|some (A8.mk [.own 3 y0 (List.take (y0*3) y1),.sc (.int .i64 y6),.sc (.int .i64 0)] []))):=by kernel_rfl
theorem Aij (fu d a0n:Nat)(a0:List PV):Ae C0 Tryz.prog fu (d+1) X4 [.lst false 1 a0n a0]=(fun (call:Ak)=>J6 fu call a0n a0 (fu) 0 ([]) 0 0 (a0n) (a0) 0 ([])) (Ae C0 Tryz.prog fu d):=by kernel_rfl
end
section
structure Hd where
 k:Int
 n:Int
 e:Int
 at_:Nat
def O6 (n:Int):Int:=if n<24 then 0 else if n<256 then 1 else if n<65536 then 2 else if n<4294967296 then 4 else 8
def szE (low:Int):Nat:=if low=24 then 1 else if low=25 then 2 else if low=26 then 4 else 8
def Tm (b:List Int)(at_:Nat)(x:Int):Hd:=
 if x=244 then ⟨7,0,0,at_+1⟩ else if x=245 then ⟨7,1,0,at_+1⟩ else if x=246 then ⟨8,0,0,at_+1⟩
 else if x / 32>5 then ⟨0,0,2,at_+1⟩ else if x % 32>27 then ⟨0,0,2,at_+1⟩
 else if x % 32<24 then ⟨1+x / 32,x % 32,0,at_+1⟩
 else if b.length-(at_+1)<szE (x % 32) then ⟨0,0,1,at_+1⟩
 else if O6 (Abl ((b.drop (at_+1)).take (szE (x % 32))))<szE (x % 32) then ⟨0,0,2,at_+1+szE (x % 32)⟩
 else ⟨1+x / 32,Abl ((b.drop (at_+1)).take (szE (x % 32))),0,at_+1+szE (x % 32)⟩
def F5 (b:List Int)(at_:Nat):Hd:=match b[at_]? with|none=>⟨0,0,1,at_⟩|some x=>Tm b at_ x
theorem A4f {x:Int}(h:0≤x):Dx .u8 x 5=x / 32:=by
 unfold Dx
 show x.fdiv (2 ^ (min (5:Int).toNat IntKind.u8.bits))=_
 have h2:(2:Int) ^ (min (5:Int).toNat IntKind.u8.bits)=32:=by decide
 rw [h2,Int.fdiv_eq_ediv_of_nonneg _ (by omega)]
theorem A3p {x:Int}(h0:0≤x)(h1:x≤255):Dz .u8 x 31=x % 32:=by
 obtain ⟨n,rfl⟩:=Int.eq_ofNat_of_zero_le h0
 have hn:n<256:=by omega
 have e1:(BitVec.ofInt 8 (n:Int)).toNat=n:=by
  rw [BitVec.toNat_ofInt]
  omega
 have e2:(BitVec.ofInt 8 (31:Int)).toNat=2 ^ 5-1:=by decide
 unfold Dz
 show IntKind.wrap .u8 ((BitVec.ofInt 8 (n:Int) &&& BitVec.ofInt 8 (31:Int)).toNat:Int)=_
 rw [BitVec.toNat_and,e1,e2,Nat.and_two_pow_sub_one_eq_mod,Fk (by omega) (by omega)]
 omega
abbrev Auf (l:List Gj)(cnt:Int)(b:List Int)(at_:Nat):List PV:=[.own 3 l.length (El l),.sc (.int .i64 cnt),.lst false 1 b.length (Ag .u8 b),.sc (.int .i64 at_)]
section
variable {fu d:Nat}
theorem Axm (n:Int):Ae C0 Tryz.prog fu (d+1) Z3 [.sc (.int .u64 n)]=some ⟨[.sc (.int .i64 (O6 n))],[]⟩:=by
 rw [Als]
 unfold O6
 try unfold Aa
 repeat' first
  |((with_reducible first|apply At|apply Ap|apply Ax|apply Ao|apply Az|apply Aw|apply Bb|apply Bc|apply A0|apply Al|apply Au|apply Am);· first|with_reducible rfl|(simp (disch:=first|with_reducible assumption|omega) only [if_pos,if_neg]<;>with_reducible rfl))
  |((with_reducible first|apply A4|apply A3);· first|with_reducible rfl|with_reducible assumption|omega|(simp (disch:=first|with_reducible assumption|omega) only [gT,if_pos,if_neg]<;>omega))
  |(with_reducible apply Ay;· first|with_reducible rfl|with_reducible assumption|(simp (disch:=first|with_reducible assumption|omega) only [gF,if_pos,if_neg]<;>omega))
  |(with_reducible refine Aws ?_ ?_<;>intro hb<;>try simp only [decide_eq_true_eq,decide_eq_false_iff_not,beq_iff_eq,beq_eq_false_iff_ne,bne_iff_ne,bne_eq_false_iff_eq,ne_eq,Bool.not_eq_true',Bool.not_eq_false',Bool.not_eq_true,Bool.not_eq_false] at hb)
  |(with_reducible refine Akx ?_ ?_)
 all_goals try simp (disch:=first|with_reducible assumption|omega) only [if_pos,if_neg]
theorem Afl {a0n a2n:Nat}{a0 a2:List PV}{a1 a3 k cnt:Int}{l:List Gj}{b:List Int}{off sz:Nat}{q:List Int}(hq:q.length=sz)(hb:b.length≤1000000)(ho:off+sz≤b.length):∀(r:List Int)(i nn:Nat)(v:Int),q.drop i=r→r.length<nn→i≤sz →
    Gc fu (Ae C0 Tryz.prog fu (d+1)) a0n a0 a1 a2n a2 a3 nn k v (sz:Int) sz (Ag .u8 q) (sz:Int) (i:Int) l.length cnt b.length (Ag .u8 b) (off:Int) (El l) =
      (if O6 (r.foldl Es v)<sz then some ⟨[.sc (.int .i64 0),.sc (.int .u64 0),.sc (.int .i64 2)],[Auf l cnt b (off+sz)]⟩
       else some ⟨[.sc (.int .i64 k),.sc (.int .u64 (r.foldl Es v)),.sc (.int .i64 0)],[Auf l cnt b (off+sz)]⟩)
  |_,_,0,_,_,h,_=>by omega
  |[],i,nn+1,v,hd,hn,hi=>by
    have:=drop_nil hd
    have sh:=Axm (fu:=fu) (d:=d) v
    have L:=Cw l
    have t:=Dj l
    have w:IntKind.wrap .i64 ((off:Int)+(sz:Int))=((off+sz:Nat):Int):=by rw [Aq (by omega) (by omega)];omega
    rw [Kw,Dl _ _ _ (by omega),List.foldl_nil]
    by_cases hs:O6 v<sz
    · rw [if_pos hs]
      simp (disch:=omega) only [Bx,w,sh,L,t,Nat.mul_one]
    · rw [if_neg hs]
      simp (disch:=omega) only [Bx,w,sh,L,t,Nat.mul_one]
  |x::r,i,nn+1,v,hd,hn,hi=>by
    obtain ⟨h1,h2,h3⟩:=Cf hd
    simp only [List.length_cons] at hn
    have g0:=Ur (k:=.u8) h2
    have w:IntKind.wrap .i64 ((i:Int)+1)=((i+1:Nat):Int):=by rw [Aq (by omega) (by omega)];omega
    have ih:=Afl (a0n:=a0n) (a2n:=a2n) (a0:=a0) (a2:=a2) (a1:=a1) (a3:=a3) (k:=k) (cnt:=cnt) (l:=l) hq hb ho r (i+1) nn (Es v x) h3 (by omega) (by omega)
    rw [List.foldl_cons,←ih,Kw]
    simp (disch:=omega) only [Bx,Int.toNat_natCast,Nat.mul_one,g0,w]
theorem Ayn {l:List Gj}{cnt:Int}{b:List Int}{at_:Nat}(hfu:1000≤fu)(hb:Ha b)(hl:b.length≤1000000):
  Ae C0 Tryz.prog fu (d+2) O8 [.pbox (Auf l cnt b at_)]=some ⟨[.sc (.int .i64 (F5 b at_).k),.sc (.int .u64 (F5 b at_).n),.sc (.int .i64 (F5 b at_).e)],[Auf l cnt b (F5 b at_).at_]⟩:=by
 refine (Ys fu (d+1) l.length (El l) cnt b.length (Ag .u8 b) (at_:Int)).trans ?_
 have L:=Cw l
 have t:=Dj l
 have Lb:=Aj .u8 b
 have tb:=Gw .u8 b
 unfold F5
 by_cases hlt:at_<b.length
 rotate_left
 ·have hg:b[at_]?=none:=List.getElem?_eq_none (by omega)
  rw [hg]
  simp (disch:=omega) only [Bx,L,t,Lb,tb,Nat.mul_one]
 have hg:b[at_]?=some b[at_]:=List.getElem?_eq_getElem hlt
 have hB:=hb _ (List.getElem_mem hlt)
 rw [hg]
 generalize b[at_]=x at hg hB
 have g0:=Ur (k:=.u8) hg
 have w1:IntKind.wrap .i64 ((at_:Int)+1)=((at_+1:Nat):Int):=by rw [Aq (by omega) (by omega)];omega
 have s5:=A4f hB.1
 have a31:=A3p hB.1 hB.2
 unfold Tm
 simp only
 by_cases c1:x=244
 ·subst c1
  have q:IntKind.wrap .u64 (IntKind.wrap .u8 ((244:Int)-244))=0:=by decide
  simp (disch:=omega) only [Bx,Int.toNat_natCast,Nat.zero_add,Nat.mul_one,g0,Int.reduceBEq,w1,L,t,Lb,tb,q]
 rw [if_neg c1]
 have b1:(x==(244:Int))=false:=by simp [c1]
 by_cases c2:x=245
 ·subst c2
  have q:IntKind.wrap .u64 (IntKind.wrap .u8 ((245:Int)-244))=1:=by decide
  simp (disch:=omega) only [Bx,Int.toNat_natCast,Nat.zero_add,Nat.mul_one,g0,Int.reduceBEq,w1,L,t,Lb,tb,q,if_true]
 rw [if_neg c2]
 have b2:(x==(245:Int))=false:=by simp [c2]
 by_cases c3:x=246
 ·subst c3
  simp (disch:=omega) only [Bx,Int.toNat_natCast,Nat.zero_add,Nat.mul_one,g0,Int.reduceBEq,w1,L,t,Lb,tb,if_true]
 rw [if_neg c3]
 have b3:(x==(246:Int))=false:=by simp [c3]
 by_cases c4:x / 32>5
 ·rw [if_pos c4]
  simp (disch:=omega) only [Bx,Int.toNat_natCast,Nat.zero_add,Nat.mul_one,g0,b1,b2,b3,s5,a31,w1,L,t,Lb,tb]
 rw [if_neg c4]
 by_cases c5:x % 32>27
 ·rw [if_pos c5]
  simp (disch:=omega) only [Bx,Int.toNat_natCast,Nat.zero_add,Nat.mul_one,g0,b1,b2,b3,s5,a31,w1,L,t,Lb,tb]
 rw [if_neg c5]
 have wk1:IntKind.wrap .i64 (x / 32)=x / 32:=Aq (by omega) (by omega)
 have wk2:IntKind.wrap .i64 (1+x / 32)=1+x / 32:=Aq (by omega) (by omega)
 by_cases c6:x % 32<24
 ·have wn:IntKind.wrap .u64 (x % 32)=x % 32:=Bq (by omega) (by omega)
  rw [if_pos c6]
  simp (disch:=omega) only [Bx,Int.toNat_natCast,Nat.zero_add,Nat.mul_one,g0,b1,b2,b3,s5,a31,w1,wk1,wk2,wn,L,t,Lb,tb]
 rw [if_neg c6]
 have q1:IntKind.wrap .u8 (x % 32-24)=x % 32-24:=Fk (by omega) (by omega)
 have q2:Ew .i64 1 (x % 32-24)=(szE (x % 32):Int):=by
  have:x % 32=24∨x % 32=25∨x % 32=26∨x % 32=27:=by omega
  rcases this with h|h|h|h<;>rw [h]<;>decide
 have q3:szE (x % 32)≤8:=by
  unfold szE
  repeat' split
  all_goals omega
 generalize szE (x % 32)=sz at q2 q3 ⊢
 have q4:IntKind.wrap .i64 ((b.length:Int)-((at_+1:Nat):Int))=((b.length-(at_+1):Nat):Int):=by rw [Aq (by omega) (by omega)];omega
 by_cases c7:b.length-(at_+1)<sz
 ·rw [if_pos c7]
  simp (disch:=omega) only [Bx,Int.toNat_natCast,Nat.zero_add,Nat.mul_one,g0,b1,b2,b3,s5,a31,w1,wk1,wk2,q1,q2,q4,L,t,Lb,tb]
 rw [if_neg c7]
 have q5:IntKind.wrap .i64 (((at_+1:Nat):Int)+(sz:Int))=((at_+1+sz:Nat):Int):=by rw [Aq (by omega) (by omega)];omega
 have q6:at_+1+sz-(at_+1)=sz:=by omega
 have lp:=Afl (fu:=fu) (d:=d) (a0n:=l.length) (a2n:=b.length) (a0:=El l) (a2:=Ag .u8 b) (a1:=cnt) (a3:=(at_:Int)) (k:=1+x / 32) (cnt:=cnt) (l:=l) (b:=b) (off:=at_+1) (sz:=sz) (q:=(b.drop (at_+1)).take sz) (by rw [List.length_take,List.length_drop];omega) hl (by omega) _ 0 fu 0 rfl (by rw [List.drop_zero,List.length_take];omega) (by omega)
 rw [List.drop_zero] at lp
 have lp':=lp
 unfold Abl
 by_cases c8:O6 (((b.drop (at_+1)).take sz).foldl Es 0)<sz
 ·rw [if_pos c8] at lp' ⊢
  simp (disch:=omega) only [Bx,Int.toNat_natCast,Nat.zero_add,Nat.mul_one,g0,b1,b2,b3,s5,a31,w1,wk1,wk2,q1,q2,q4,q5,q6,Fb,Dp,L,t,Lb,tb]
  exact lp'
 ·rw [if_neg c8] at lp' ⊢
  simp (disch:=omega) only [Bx,Int.toNat_natCast,Nat.zero_add,Nat.mul_one,g0,b1,b2,b3,s5,a31,w1,wk1,wk2,q1,q2,q4,q5,q6,Fb,Dp,L,t,Lb,tb]
  exact lp'
end
end
section
structure Rd where
 x:It
 e:Int
 l:List Gj
 cnt:Int
 at_:Nat
def it0:It:=⟨0,0,⟨#[]⟩⟩
def Tn (l:List Gj)(cnt:Int)(x:It)(at_:Nat):Rd:=if (Dy l x).1=0 then ⟨x,0,(Dy l x).2,cnt+1,at_⟩ else ⟨it0,(Dy l x).1,(Dy l x).2,cnt,at_⟩
def Akv (l:List Gj)(cnt:Int)(b:List Int)(h:Hd):Rd:=
 if h.e≠0 then ⟨it0,h.e,l,cnt,h.at_⟩
 else if I3 l cnt h.k≠0 then ⟨it0,I3 l cnt h.k,l,cnt,h.at_⟩
 else if h.k=5∨h.k=6 then (if h.n>512 then ⟨it0,8,l,cnt,h.at_⟩ else Tn l cnt ⟨h.k,h.n,⟨#[]⟩⟩ h.at_)
 else if h.k=3∨h.k=4 then (if h.n>1024 then ⟨it0,8,l,cnt,h.at_⟩ else if b.length-h.at_<h.n.toNat then ⟨it0,1,l,cnt,h.at_⟩
  else Tn l cnt ⟨h.k,0,Ca ((b.drop h.at_).take h.n.toNat)⟩ (h.at_+h.n.toNat))
 else Tn l cnt ⟨h.k,h.n,⟨#[]⟩⟩ h.at_
def Ff (l:List Gj)(cnt:Int)(b:List Int)(at_:Nat):Rd:=Akv l cnt b (F5 b at_)
theorem Adi (a b:Int):0≤Es a b∧Es a b≤18446744073709551615:=Ju _
theorem Ve:∀(l:List Int)(v:Int),0≤v→v≤18446744073709551615→0≤l.foldl Es v∧l.foldl Es v≤18446744073709551615
 |[],v,h0,h1=>⟨h0,h1⟩
 |x::l,v,h0,h1=>Ve l _ (Adi v x).1 (Adi v x).2
theorem Ajy {b:List Int}{at_:Nat}(hb:Ha b)(ha:at_≤b.length):(F5 b at_).at_≤b.length∧((F5 b at_).e=0→1≤(F5 b at_).k∧(F5 b at_).k≤8∧0≤(F5 b at_).n∧(F5 b at_).n≤18446744073709551615∧at_<(F5 b at_).at_):=by
 unfold F5
 by_cases hlt:at_<b.length
 rotate_left
 ·have hg:b[at_]?=none:=List.getElem?_eq_none (by omega)
  rw [hg]
  exact ⟨ha,fun h=>by simp at h⟩
 have hg:b[at_]?=some b[at_]:=List.getElem?_eq_getElem hlt
 have hB:=hb _ (List.getElem_mem hlt)
 rw [hg]
 generalize b[at_]=x at hB
 have hd:=Ve ((b.drop (at_+1)).take (szE (x % 32))) 0 (by omega) (by omega)
 show (Tm b at_ x).at_≤b.length∧_
 simp only [Tm]
 unfold Abl
 repeat' split
 all_goals refine ⟨by simp only;omega,fun h=>?_⟩
 all_goals first
  |(simp at h;done)
  |(simp only;omega)
section
variable {fu d:Nat}
theorem Axu {l:List Gj}{cnt:Int}{b:List Int}{at_:Nat}(hfu:1000≤fu)(hb:Ha b)(hl:b.length≤1000000)(ha:at_≤b.length)(hf:l.length≤900)(h0:0≤cnt)(h1:cnt≤1000000):
  Ae C0 Tryz.prog fu (d+4) O2 [.pbox (Auf l cnt b at_)]=some ⟨[.agg (Ff l cnt b at_).x.cells,.sc (.int .i64 (Ff l cnt b at_).e)],[Auf (Ff l cnt b at_).l (Ff l cnt b at_).cnt b (Ff l cnt b at_).at_]⟩:=by
 refine (Zi fu (d+3) l.length (El l) cnt b.length (Ag .u8 b) (at_:Int)).trans ?_
 have hd:=Ayn (fu:=fu) (d:=d+1) (l:=l) (cnt:=cnt) (at_:=at_) hfu hb hl
 have hk:=Ajy hb ha
 unfold Ff
 generalize F5 b at_=h at hd hk ⊢
 obtain ⟨k,n,e,a⟩:=h
 obtain ⟨ka,hk⟩:=hk
 simp only at hd ka hk
 have L:=Cw l
 have t:=Dj l
 have ad:=Anp (fu:=fu) (d:=d+1) (l:=l) (by omega) cnt k
 unfold Kb at ad
 unfold Akv
 by_cases he:e=0
 rotate_left
 ·simp only [ne_eq,he,not_false_eq_true,if_true]
  have he':(e != 0)=true:=by simp [he]
  try unfold Aa
  repeat first
   |((with_reducible first|apply At|apply Ap|apply Ax|apply Ao|apply Az|apply Aw|apply Bb|apply Bc|apply A0|apply Al|apply Au|apply Am);· first|with_reducible rfl|(simp (disch:=omega) only [hd,he',L,t]<;>with_reducible rfl))
   |((with_reducible first|apply A4|apply A3);· first|with_reducible rfl|omega|(simp (disch:=omega) only [gT,hd,he',L,t]<;>omega))
   |(with_reducible apply Ay;· first|with_reducible rfl|(simp (disch:=omega) only [gF,hd,he',L,t]<;>omega))
  try simp (disch:=omega) only [hd,he',L,t]
  all_goals rfl
 subst he
 obtain ⟨k1,k8,n0,n1,_⟩:=hk rfl
 obtain ⟨m,rfl⟩:=Int.eq_ofNat_of_zero_le n0
 have e00:((0:Int) != 0)=false:=rfl
 simp only [ne_eq,not_true_eq_false,if_false]
 by_cases hm:I3 l cnt k=0
 rotate_left
 ·simp only [hm,not_false_eq_true,if_true]
  have he':(I3 l cnt k != 0)=true:=by simp [hm]
  try unfold Aa
  repeat first
   |((with_reducible first|apply At|apply Ap|apply Ax|apply Ao|apply Az|apply Aw|apply Bb|apply Bc|apply A0|apply Al|apply Au|apply Am);· first|with_reducible rfl|(simp (disch:=omega) only [hd,e00,ad,he',L,t]<;>with_reducible rfl))
   |((with_reducible first|apply A4|apply A3);· first|with_reducible rfl|omega|(simp (disch:=omega) only [gT,hd,e00,ad,he',L,t]<;>omega))
   |(with_reducible apply Ay;· first|with_reducible rfl|(simp (disch:=omega) only [gF,hd,e00,ad,he',L,t]<;>omega))
  try simp (disch:=omega) only [hd,e00,ad,he',L,t]
  all_goals rfl
 rw [hm] at ad ⊢
 simp only [not_true_eq_false,if_false,Int.toNat_natCast]
 have ac1:=Aj7 (fu:=fu) (d:=d) (l:=l) (x:=⟨k,m,⟨#[]⟩⟩) (cnt:=cnt) hfu (by omega) h0 h1 ⟨k1,k8,n0,Nat.zero_le _⟩ (Nat.zero_le _)
 have LA:=Cw (Dy l ⟨k,m,⟨#[]⟩⟩).2
 have tA:=Dj (Dy l ⟨k,m,⟨#[]⟩⟩).2
 have B:=fun (hn:m≤1024)=>Aj7 (fu:=fu) (d:=d) (l:=l) (x:=⟨k,0,Ca ((b.drop a).take m)⟩) (cnt:=cnt) hfu (by omega) h0 h1 ⟨k1,k8,by simp,by rw [F2,List.length_take];omega⟩ (by rw [F2,List.length_take];omega)
 have LB:=Cw (Dy l ⟨k,0,Ca ((b.drop a).take m)⟩).2
 have tB:=Dj (Dy l ⟨k,0,Ca ((b.drop a).take m)⟩).2
 unfold Tn
 generalize Dy l ⟨k,m,⟨#[]⟩⟩=A at *
 obtain ⟨A1,A2⟩:=A
 have eB:ByteArray.mk (List.toArray (((b.drop a).take m).map fun n=>n.toNat.toUInt8))=Ca ((b.drop a).take m):=rfl
 have bo:=Gz ((b.drop a).take m)
 have tk:List.take m (List.drop a (Ag .u8 b))=Ag .u8 ((b.drop a).take m):=by rw [Fb,Dp]
 have lq:(Ag .u8 ((b.drop a).take m)).length=min m (b.length-a):=by rw [Aj,List.length_take,List.length_drop]
 have Lb:=Aj .u8 b
 generalize Ca ((b.drop a).take m)=S at *
 generalize Dy l ⟨k,0,S⟩=B' at *
 obtain ⟨B1,B2⟩:=B'
 generalize (b.drop a).take m=q at *
 unfold Kb It.cells at ac1 B
 simp only at ac1 B LA tA LB tB
 have w1:IntKind.wrap .i64 ((b.length:Int)-(a:Int))=((b.length-a:Nat):Int):=by rw [Aq (by omega) (by omega)];omega
 have w2:m≤1024→IntKind.wrap .i64 (m:Int)=m:=fun h=>Aq (by omega) (by omega)
 have w3:m≤1024→IntKind.wrap .i64 ((a:Int)+(m:Int))=((a+m:Nat):Int):=fun h=>by rw [Aq (by omega) (by omega)];omega
 have w4:a+m-a=m:=by omega
 try unfold Aa
 repeat' first
  |((with_reducible first|apply At|apply Ap|apply Ax|apply Ao|apply Az|apply Aw|apply Bb|apply Bc|apply A0|apply Al|apply Au|apply Am);· first|with_reducible rfl|(simp (disch:=first|with_reducible assumption|omega) only [hd,e00,ad,L,t,ac1,LA,tA,B,LB,tB,w1,w2,w3,w4,tk,bo,lq,eB,Int.toNat_natCast,Nat.mul_one,Nat.zero_add]<;>with_reducible rfl))
  |((with_reducible first|apply A4|apply A3);· first|with_reducible rfl|with_reducible assumption|omega|(simp (disch:=first|with_reducible assumption|omega) only [gT,hd,e00,ad,L,t,ac1,LA,tA,B,LB,tB,w1,w2,w3,w4,tk,bo,lq,eB,Int.toNat_natCast,Nat.mul_one,Nat.zero_add]<;>omega))
  |(with_reducible apply Ay;· first|with_reducible rfl|with_reducible assumption|(simp (disch:=first|with_reducible assumption|omega) only [gF,hd,e00,ad,L,t,ac1,LA,tA,B,LB,tB,w1,w2,w3,w4,tk,bo,lq,eB,Int.toNat_natCast,Nat.mul_one,Nat.zero_add]<;>omega))
  |(with_reducible refine Aws ?_ ?_<;>intro hb<;>try simp only [decide_eq_true_eq,decide_eq_false_iff_not,beq_iff_eq,beq_eq_false_iff_ne,bne_iff_ne,bne_eq_false_iff_eq,ne_eq,Bool.not_eq_true',Bool.not_eq_false',Bool.not_eq_true,Bool.not_eq_false] at hb)
  |(with_reducible refine Akx ?_ ?_)
 all_goals try simp (disch:=first|with_reducible assumption|omega) only [hd,e00,ad,L,t,ac1,LA,tA,B,LB,tB,w1,w2,w3,w4,tk,bo,lq,eB,Int.toNat_natCast,Nat.mul_one,Nat.zero_add,if_pos,if_neg]
 all_goals rfl
end
end
section
def Ai2 (l:List Gj)(cnt:Int):Bool:=decide (cnt>0)&&((l.length:Int)==0)
def Jg:Nat→List Gj→Int→List Int→Nat→List It→List It × Nat × Int
 |0,_,_,_,_,_=>([],0,2)
 |m+1,l,cnt,b,at_,its=>if Ai2 l cnt=true then (its,at_,0) else
  if (Ff l cnt b at_).e≠0 then ([],0,(Ff l cnt b at_).e) else Jg m (Ff l cnt b at_).l (Ff l cnt b at_).cnt b (Ff l cnt b at_).at_ (its++[(Ff l cnt b at_).x])
def Aq7 (r:List It × Nat × Int):List PV:=[.own 3 r.1.length (Cd r.1),.sc (.int .i64 r.2.1),.sc (.int .i64 r.2.2)]
theorem Aw2 (l:List Gj):(Acd l).length≤l.length:=by
 unfold Acd
 rw [List.length_reverse]
 have:=(List.dropWhile_sublist (l:=l.reverse) fun f=>f.left==0).length_le
 rw [List.length_reverse] at this
 exact this
theorem Akj (l:List Gj)(x:It):(Fh l x).length≤l.length+1:=by
 unfold Fh
 refine Nat.le_trans (Aw2 _) ?_
 have:=Af8 l
 unfold Ai6
 repeat' split
 all_goals simp
 all_goals omega
theorem Ar5 (l:List Gj)(k:List Int):(I2 l k).length=l.length:=by
 rcases Ly l with rfl|⟨l',f,rfl⟩
 ·rfl
 ·rw [Mg];simp
theorem Apd (l:List Gj)(x:It):(Dy l x).2.length≤l.length+1:=by
 unfold Dy
 have h1:=Akj l x
 have h2:=Akj (I2 l (Bu x)) x
 rw [Ar5] at h2
 repeat' split
 all_goals simp only
 all_goals omega
structure OkX (x:It):Prop where
 k1:1≤x.k
 k8:x.k≤8
 n0:0≤x.n
 n1:x.n≤18446744073709551615
 s1:x.s.size≤1024
theorem Awr {l:List Gj}{cnt k:Int}(h:I3 l cnt k=0):cnt<512∧l.length≤8:=by
 unfold I3 at h
 repeat' split at h
 all_goals first
  |(cases h;done)
  |omega
theorem Agl {l:List Gj}{cnt:Int}{x:It}{at_:Nat}(hx:OkX x)(h:(Tn l cnt x at_).e=0):(Tn l cnt x at_).cnt=cnt+1∧(Tn l cnt x at_).l.length≤l.length+1∧(Tn l cnt x at_).at_=at_∧OkX (Tn l cnt x at_).x:=by
 have:=Apd l x
 unfold Tn at h ⊢
 by_cases hz:(Dy l x).1=0
 ·rw [if_pos hz]
  exact ⟨rfl,this,rfl,hx⟩
 ·rw [if_neg hz] at h
  exact absurd h hz
theorem Ai8 {l:List Gj}{cnt:Int}{b:List Int}{at_:Nat}(hb:Ha b)(ha:at_≤b.length)(h:(Ff l cnt b at_).e=0):
  cnt<512∧(Ff l cnt b at_).cnt=cnt+1∧(Ff l cnt b at_).l.length≤9∧at_<(Ff l cnt b at_).at_∧(Ff l cnt b at_).at_≤b.length∧OkX (Ff l cnt b at_).x:=by
 have hk:=Ajy hb ha
 unfold Ff at h ⊢
 generalize F5 b at_=q at h hk ⊢
 obtain ⟨k,n,e,a⟩:=q
 obtain ⟨ka,hk⟩:=hk
 unfold Akv at h ⊢
 simp only at h hk ka ⊢
 by_cases he:e=0
 rotate_left
 ·rw [if_pos he] at h
  exact absurd h he
 subst he
 obtain ⟨k1,k8,n0,n1,hlt⟩:=hk rfl
 rw [if_neg (by simp)] at h ⊢
 by_cases hm:I3 l cnt k=0
 rotate_left
 ·rw [if_pos hm] at h
  exact absurd h hm
 obtain ⟨c1,c2⟩:=Awr hm
 rw [if_neg (by simp [hm])] at h ⊢
 have z:(ByteArray.mk #[]).size≤1024:=Nat.zero_le _
 by_cases h56:k=5∨k=6
 ·rw [if_pos h56] at h ⊢
  by_cases hn:n>512
  ·rw [if_pos hn] at h
   exact absurd h (by simp)
  ·rw [if_neg hn] at h ⊢
   obtain ⟨p1,p2,p3,p4⟩:=Agl ⟨k1,k8,n0,n1,z⟩ h
   exact ⟨c1,p1,by omega,by omega,by omega,p4⟩
 ·rw [if_neg h56] at h ⊢
  by_cases h34:k=3∨k=4
  ·rw [if_pos h34] at h ⊢
   by_cases hn:n>1024
   ·rw [if_pos hn] at h
    exact absurd h (by simp)
   ·rw [if_neg hn] at h ⊢
    by_cases hr:b.length-a<n.toNat
    ·rw [if_pos hr] at h
     exact absurd h (by simp)
    ·rw [if_neg hr] at h ⊢
     obtain ⟨p1,p2,p3,p4⟩:=Agl ⟨k1,k8,by simp,by simp,by rw [F2,List.length_take];omega⟩ h
     exact ⟨c1,p1,by omega,by omega,by omega,p4⟩
  ·rw [if_neg h34] at h ⊢
   obtain ⟨p1,p2,p3,p4⟩:=Agl ⟨k1,k8,n0,n1,z⟩ h
   exact ⟨c1,p1,by omega,by omega,by omega,p4⟩
theorem Aa2 {b:List Int}(hb:Ha b):∀(m:Nat)(l:List Gj)(cnt:Int)(at_:Nat)(its:List It),at_≤b.length→(∀x∈its,OkX x)→(Jg m l cnt b at_ its).2.1≤b.length∧∀x∈(Jg m l cnt b at_ its).1,OkX x
 |0,l,cnt,at_,its,h,hi=>⟨by simp [Jg],by intro x hx;simp [Jg] at hx⟩
 |m+1,l,cnt,at_,its,h,hi=>by
  unfold Jg
  by_cases hd:Ai2 l cnt=true
  ·rw [if_pos hd]
   exact ⟨h,hi⟩
  ·rw [if_neg hd]
   by_cases he:(Ff l cnt b at_).e=0
   ·rw [if_neg (by simp [he])]
    obtain ⟨_,_,_,_,p,q⟩:=Ai8 hb h he
    refine Aa2 hb m _ _ _ _ p ?_
    intro x hx
    rcases List.mem_append.1 hx with hx|hx
    ·exact hi x hx
    ·simp at hx
     subst hx
     exact q
   ·rw [if_pos he]
    exact ⟨by simp,by intro x hx;simp at hx⟩
section
variable {fu d:Nat}
theorem Ao9 (hfu:1000≤fu){a0n:Nat}{a0:List PV}{b:List Int}(hb:Ha b)(hl:b.length≤1000000):∀(nn:Nat)(l:List Gj)(cnt:Int)(at_:Nat)(its:List It),0≤cnt→cnt≤512→512-cnt<nn→l.length≤9→at_≤b.length→its.length=cnt.toNat →
  J6 fu (Ae C0 Tryz.prog fu (d+4)) a0n a0 nn its.length (Cd its) l.length cnt b.length (Ag .u8 b) (at_:Int) (El l)=some ⟨Aq7 (Jg nn l cnt b at_ its),[]⟩
 |0,_,_,_,_,_,_,h,_,_,_=>by omega
 |nn+1,l,cnt,at_,its,h0,h1,hn,hf,ha,hi=>by
  have dn:=Amq (fu:=fu) (d:=d+3) l cnt
  have ri:=Axu (fu:=fu) (d:=d) (l:=l) (cnt:=cnt) (b:=b) (at_:=at_) hfu hb hl ha (by omega) h0 (by omega)
  have ok:=Ai8 (l:=l) (cnt:=cnt) hb ha
  have L:=Cw l
  have t:=Dj l
  have LT:=Rw its
  have tT:List.take (its.length*3) (Cd its)=Cd its:=List.take_of_length_le (by omega)
  have ih:=Ao9 hfu (a0n:=a0n) (a0:=a0) hb hl nn
  rw [Ab3]
  unfold Jg
  unfold Kb at dn
  change _=some (A8.mk [.sc (.bool (Ai2 l cnt))] _) at dn
  generalize Ff l cnt b at_=r at ri ok ⊢
  obtain ⟨x,e,l2,cnt2,at2⟩:=r
  simp only at ri ok ⊢
  cases hd:Ai2 l cnt
  ·rw [hd] at dn
   rw [if_neg (by simp)]
   by_cases he:e=0
   ·subst he
    obtain ⟨p1,rfl,p3,p4,p5,p6⟩:=ok rfl
    have q:=ih l2 (cnt+1) at2 (its++[x]) (by omega) (by omega) (by omega) p3 p5 (by simp;omega)
    rw [if_neg (by simp),←q,Anz,List.length_append]
    have e1:Cd [x]=x.cells:=by simp [Cd]
    rw [e1]
    obtain ⟨xk,xn,xs⟩:=x
    unfold It.cells at ri ⊢
    have e00:((0:Int) != 0)=false:=rfl
    try unfold Aa
    repeat first
     |((with_reducible first|apply At|apply Ap|apply Ax|apply Ao|apply Az|apply Aw|apply Bb|apply Bc|apply A0|apply Al|apply Au|apply Am);· first|with_reducible rfl|(simp (disch:=omega) only [dn,ri,e00,L,t,LT,tT]<;>with_reducible rfl))
     |((with_reducible first|apply A4|apply A3);· first|with_reducible rfl|omega|(simp (disch:=omega) only [gT,dn,ri,e00,L,t,LT,tT]<;>omega))
     |(with_reducible apply Ay;· first|with_reducible rfl|(simp (disch:=omega) only [gF,dn,ri,e00,L,t,LT,tT]<;>omega))
    try simp (disch:=omega) only [dn,ri,e00,L,t,LT,tT]
    all_goals rfl
   ·have he':(e != 0)=true:=by simp [he]
    rw [if_pos he]
    obtain ⟨xk,xn,xs⟩:=x
    unfold It.cells at ri
    try unfold Aa
    repeat first
     |((with_reducible first|apply At|apply Ap|apply Ax|apply Ao|apply Az|apply Aw|apply Bb|apply Bc|apply A0|apply Al|apply Au|apply Am);· first|with_reducible rfl|(simp (disch:=omega) only [dn,ri,he',L,t,LT,tT]<;>with_reducible rfl))
     |((with_reducible first|apply A4|apply A3);· first|with_reducible rfl|omega|(simp (disch:=omega) only [gT,dn,ri,he',L,t,LT,tT]<;>omega))
     |(with_reducible apply Ay;· first|with_reducible rfl|(simp (disch:=omega) only [gF,dn,ri,he',L,t,LT,tT]<;>omega))
    try simp (disch:=omega) only [dn,ri,he',L,t,LT,tT]
    all_goals rfl
  ·rw [hd] at dn
   rw [if_pos rfl]
   try unfold Aa
   repeat first
    |((with_reducible first|apply At|apply Ap|apply Ax|apply Ao|apply Az|apply Aw|apply Bb|apply Bc|apply A0|apply Al|apply Au|apply Am);· first|with_reducible rfl|(simp (disch:=omega) only [dn,L,t,LT,tT]<;>with_reducible rfl))
    |((with_reducible first|apply A4|apply A3);· first|with_reducible rfl|omega|(simp (disch:=omega) only [gT,dn,L,t,LT,tT]<;>omega))
    |(with_reducible apply Ay;· first|with_reducible rfl|(simp (disch:=omega) only [gF,dn,L,t,LT,tT]<;>omega))
   try simp (disch:=omega) only [dn,L,t,LT,tT]
   all_goals rfl
theorem Ave (hfu:1000≤fu){b:List Int}(hb:Ha b)(hl:b.length≤1000000):
  Ae C0 Tryz.prog fu (d+5) X4 [.lst false 1 b.length (Ag .u8 b)]=some ⟨Aq7 (Jg fu [] 0 b 0 []),[]⟩:=by
 rw [Aij]
 exact Ao9 hfu hb hl fu [] 0 0 [] (by omega) (by omega) (by omega) (by simp) (by omega) (by simp)
end
end
section
theorem A0n {n:Int}(h0:0≤n):(n<256→Abl (tb n 1)=n)∧(n<65536→Abl (tb n 2)=n)∧(n<4294967296→Abl (tb n 4)=n)∧(n≤18446744073709551615→Abl (tb n 8)=n):=by
 have st:∀(k:Nat) (D:Int),n≤18446744073709551615→k<8→(2:Int) ^ (56-8*k)=D→0<D→Es (n / D / 256) (C2 n k)=n / D:=by
  intro k D h1 hk hD hp
  rw [Aj0 k hk,hD]
  exact A1c (Int.ediv_nonneg h0 (Int.le_of_lt hp)) (Int.le_trans (Int.ediv_le_self _ h0) h1)
 refine ⟨fun h=>?_,fun h=>?_,fun h=>?_,fun h=>Wr h0 h⟩
 ·have s7:=st 7 1 (by omega) (by omega) (by decide) (by omega)
  rw [show n / 1 / 256=0 by omega,show n / 1=n by omega] at s7
  exact s7
 ·have s6:=st 6 256 (by omega) (by omega) (by decide) (by omega)
  have s7:=st 7 1 (by omega) (by omega) (by decide) (by omega)
  rw [show n / 256 / 256=0 by omega] at s6
  rw [show n / 1 / 256=n / 256 by omega,show n / 1=n by omega] at s7
  show Es (Es 0 (C2 n 6)) (C2 n 7)=n
  rw [s6,s7]
 ·have s4:=st 4 16777216 (by omega) (by omega) (by decide) (by omega)
  have s5:=st 5 65536 (by omega) (by omega) (by decide) (by omega)
  have s6:=st 6 256 (by omega) (by omega) (by decide) (by omega)
  have s7:=st 7 1 (by omega) (by omega) (by decide) (by omega)
  rw [show n / 16777216 / 256=0 by omega] at s4
  rw [show n / 65536 / 256=n / 16777216 by omega] at s5
  rw [show n / 256 / 256=n / 65536 by omega] at s6
  rw [show n / 1 / 256=n / 256 by omega,show n / 1=n by omega] at s7
  show Es (Es (Es (Es 0 (C2 n 4)) (C2 n 5)) (C2 n 6)) (C2 n 7)=n
  rw [s4,s5,s6,s7]
theorem W3 {b:List Int}{at_:Nat}{mj n low:Int}{k:Nat}{rest:List Int}(m0:0≤mj)(m5:mj≤5)(l0:24≤low)(l1:low≤27)(hk:szE low=k)(h:b.drop (at_+1)=tb n k++rest) (hd:Abl (tb n k)=n) (hs:¬(O6 n<(k:Int))):
  Tm b at_ (32*mj+low)=⟨1+mj,n,0,at_+1+k⟩:=by
 have e1:(32*mj+low) / 32=mj:=by omega
 have e2:(32*mj+low) % 32=low:=by omega
 have e3:(b.drop (at_+1)).take k=tb n k:=by rw [h,List.take_left' (Yp n k)]
 have e4:k≤b.length-(at_+1):=by
  have:=congrArg List.length h
  rw [List.length_drop,List.length_append,Yp] at this
  omega
 unfold Tm
 rw [e1,e2,hk,e3,hd,if_neg (by omega),if_neg (by omega),if_neg (by omega),if_neg (by omega),if_neg (by omega),if_neg (by omega),if_neg (by omega),if_neg hs]
theorem Yn {b:List Int}{at_:Nat}{mj n:Int}{rest:List Int}(h:b.drop at_=Cv mj n++rest)(m0:0≤mj)(m5:mj≤5)(n0:0≤n)(n1:n≤18446744073709551615):
  F5 b at_=⟨1+mj,n,0,at_+(Cv mj n).length⟩:=by
 obtain ⟨d1,d2,d4,d8⟩:=A0n n0
 unfold F5
 unfold Cv at h ⊢
 by_cases c1:n<24
 ·rw [if_pos c1] at h ⊢
  obtain ⟨_,g,_⟩:=Cf h
  rw [g]
  show Tm b at_ (32*mj+n)=_
  unfold Tm
  have e1:(32*mj+n) / 32=mj:=by omega
  have e2:(32*mj+n) % 32=n:=by omega
  rw [e1,e2,if_neg (by omega),if_neg (by omega),if_neg (by omega),if_neg (by omega),if_neg (by omega),if_pos c1]
  rfl
 rw [if_neg c1] at h ⊢
 by_cases c2:n<256
 ·rw [if_pos c2] at h ⊢
  obtain ⟨_,g,g2⟩:=Cf h
  rw [g]
  have:=W3 (at_:=at_) m0 m5 (low:=24) (by omega) (by omega) (k:=1) (by decide) g2 (d1 c2) (by unfold O6;rw [if_neg c1,if_pos c2];omega)
  show Tm b at_ (32*mj+24)=_
  rw [this,List.length_cons,Yp]
 rw [if_neg c2] at h ⊢
 by_cases c3:n<65536
 ·rw [if_pos c3] at h ⊢
  obtain ⟨_,g,g2⟩:=Cf h
  rw [g]
  have:=W3 (at_:=at_) m0 m5 (low:=25) (by omega) (by omega) (k:=2) (by decide) g2 (d2 c3) (by unfold O6;rw [if_neg c1,if_neg c2,if_pos c3];omega)
  show Tm b at_ (32*mj+25)=_
  rw [this,List.length_cons,Yp]
 rw [if_neg c3] at h ⊢
 by_cases c4:n<4294967296
 ·rw [if_pos c4] at h ⊢
  obtain ⟨_,g,g2⟩:=Cf h
  rw [g]
  have:=W3 (at_:=at_) m0 m5 (low:=26) (by omega) (by omega) (k:=4) (by decide) g2 (d4 c4) (by unfold O6;rw [if_neg c1,if_neg c2,if_neg c3,if_pos c4];omega)
  show Tm b at_ (32*mj+26)=_
  rw [this,List.length_cons,Yp]
 ·rw [if_neg c4] at h ⊢
  obtain ⟨_,g,g2⟩:=Cf h
  rw [g]
  have:=W3 (at_:=at_) m0 m5 (low:=27) (by omega) (by omega) (k:=8) (by decide) g2 (d8 n1) (by unfold O6;rw [if_neg c1,if_neg c2,if_neg c3,if_neg c4];omega)
  show Tm b at_ (32*mj+27)=_
  rw [this,List.length_cons,Yp]
theorem Amr {s:ByteArray}(h:Al4 s=true):s=⟨#[]⟩:=by
 unfold Al4 at h
 have:=eq_of_beq h
 apply ByteArray.ext
 exact Array.toList_inj.1 this
def nOf (x:It):Int:=if x.k=3∨x.k=4 then (x.s.size:Int) else x.n
theorem Arr {x:It}{b:List Int}{at_:Nat}{rest:List Int}(hsh:Ge x=true)(k1:1≤x.k)(k8:x.k≤8)(n0:0≤x.n)(n1:x.n≤18446744073709551615)(hs:x.s.size≤1024)(h:b.drop at_=Bu x++rest):
  F5 b at_=⟨x.k,nOf x,0,at_+((Bu x).length-x.s.size)⟩∧(x.k=3∨x.k=4→x.n=0∧b.drop (at_+((Bu x).length-x.s.size))=D1 x.s++rest)∧(¬(x.k=3∨x.k=4)→x.s=⟨#[]⟩)∧x.s.size≤(Bu x).length:=by
 obtain ⟨k,n,s⟩:=x
 have z:(ByteArray.mk #[]).size=0:=rfl
 simp only at k1 k8 n0 n1 hs ⊢
 unfold Ge at hsh
 simp only at hsh
 have L:=En s
 have E7:k=7→Bu ⟨k,n,s⟩=[IntKind.wrap .u8 (244+IntKind.wrap .u8 n)]:=fun e=>by unfold Bu;rw [if_pos e]
 have E8:k=8→Bu ⟨k,n,s⟩=[246]:=fun e=>by subst e;rfl
 have E3:k=3→Bu ⟨k,n,s⟩=Cv 2 s.size++D1 s:=fun e=>by subst e;rfl
 have E4:k=4→Bu ⟨k,n,s⟩=Cv 3 s.size++D1 s:=fun e=>by subst e;rfl
 have E0:k≠7→k≠8→k≠3→k≠4→Bu ⟨k,n,s⟩=Cv (k-1) n:=fun a b c d=>by unfold Bu;rw [if_neg a,if_neg b,if_neg c,if_neg d]
 have N34:k=3∨k=4→nOf ⟨k,n,s⟩=s.size:=fun e=>by unfold nOf;rw [if_pos e]
 have N0:¬(k=3∨k=4)→nOf ⟨k,n,s⟩=n:=fun e=>by unfold nOf;rw [if_neg e]
 by_cases c7:k=7
 ·subst c7
  simp at hsh
  obtain ⟨hn,hs⟩:=hsh
  obtain rfl:=Amr hs
  rw [E7 rfl] at h ⊢
  rw [N0 (by omega)]
  obtain ⟨_,g,_⟩:=Cf h
  refine ⟨?_,fun h=>by omega,fun _=>rfl,Nat.zero_le _⟩
  have:n=0∨n=1:=by omega
  unfold F5
  rw [g]
  rcases this with rfl|rfl
  ·rfl
  ·rfl
 by_cases c8:k=8
 ·subst c8
  simp at hsh
  obtain ⟨rfl,hs⟩:=hsh
  obtain rfl:=Amr hs
  rw [E8 rfl] at h ⊢
  rw [N0 (by omega)]
  obtain ⟨_,g,_⟩:=Cf h
  refine ⟨?_,fun h=>by omega,fun _=>rfl,Nat.zero_le _⟩
  unfold F5
  rw [g]
  rfl
 by_cases c3:k=3
 ·subst c3
  simp at hsh
  subst hsh
  rw [E3 rfl] at h ⊢
  rw [N34 (by omega)]
  rw [List.append_assoc] at h
  have q:=Yn h (by omega) (by omega) (by omega) (by omega)
  have e:(Cv 2 (s.size:Int)++D1 s).length-s.size=(Cv 2 (s.size:Int)).length:=by rw [List.length_append,L];omega
  rw [e]
  refine ⟨q,fun _=>⟨rfl,?_⟩,fun h=>by omega,by rw [List.length_append,L];omega⟩
  rw [←List.drop_drop,h,List.drop_left' rfl]
 by_cases c4:k=4
 ·subst c4
  simp at hsh
  subst hsh
  rw [E4 rfl] at h ⊢
  rw [N34 (by omega)]
  rw [List.append_assoc] at h
  have q:=Yn h (by omega) (by omega) (by omega) (by omega)
  have e:(Cv 3 (s.size:Int)++D1 s).length-s.size=(Cv 3 (s.size:Int)).length:=by rw [List.length_append,L];omega
  rw [e]
  refine ⟨q,fun _=>⟨rfl,?_⟩,fun h=>by omega,by rw [List.length_append,L];omega⟩
  rw [←List.drop_drop,h,List.drop_left' rfl]
 rw [if_neg c3,if_neg c4,if_neg c8,if_neg c7] at hsh
 obtain rfl:=Amr hsh
 rw [E0 c7 c8 c3 c4] at h ⊢
 rw [N0 (by omega)]
 have q:=Yn h (by omega) (by omega) n0 n1
 refine ⟨?_,fun h=>by omega,fun _=>rfl,by rw [z];omega⟩
 rw [q,z,Nat.sub_zero]
 congr 1
 omega
theorem Arx {l:List Gj}{cnt:Int}{x:It}{b:List Int}{at_:Nat}{rest:List Int}(g:A1b l cnt x)(n0:0≤x.n)(n1:x.n≤18446744073709551615)(h:b.drop at_=Bu x++rest):
  Ff l cnt b at_=⟨x,0,Fh l x,cnt+1,at_+(Bu x).length⟩:=by
 have k18:1≤x.k∧x.k≤8:=by
  have hm:=g.hm
  unfold I3 at hm
  repeat' split at hm
  all_goals first
   |(cases hm;done)
   |omega
 obtain ⟨q1,q2,q3,q4⟩:=Arr g.hsh k18.1 k18.2 n0 n1 g.hs h
 have ac:∀a:Nat,Tn l cnt x a=⟨x,0,Fh l x,cnt+1,a⟩:=by
  intro a
  have:Dy l x=(0,Fh l x):=by
   unfold Dy
   rw [if_neg,if_neg (by simp [g.ha])]
   intro hh
   have:=g.hv hh.1
   exact absurd hh.2 (by simp [okS,this])
  unfold Tn
  rw [this]
  rfl
 have ln:b.length-(at_+((Bu x).length-x.s.size))≥x.s.size:=by
  have:=congrArg List.length h
  rw [List.length_drop,List.length_append] at this
  omega
 unfold Ff
 rw [q1]
 unfold Akv
 simp only
 rw [if_neg (by simp),g.hm,if_neg (by simp)]
 have hs:=g.hs
 have hn:=g.hn
 obtain ⟨k,n,s⟩:=x
 simp only at *
 by_cases c34:k=3∨k=4
 ·obtain ⟨rfl,q2⟩:=q2 c34
  have N:nOf ⟨k,0,s⟩=s.size:=by unfold nOf;rw [if_pos c34]
  rw [N,if_neg (by omega),if_pos c34,if_neg (by omega),Int.toNat_natCast,if_neg (by omega),q2,List.take_left' (En s),Aae,ac]
  congr 1
  omega
 ·obtain rfl:=q3 c34
  have z:(ByteArray.mk #[]).size=0:=rfl
  have N:nOf ⟨k,n,⟨#[]⟩⟩=n:=by unfold nOf;rw [if_neg c34]
  rw [N,if_neg c34,z,Nat.sub_zero]
  by_cases c56:k=5∨k=6
  ·rw [if_pos c56,if_neg (by omega),ac]
  ·rw [if_neg c56,ac]
theorem Ajd {b:List Int}{rest:List Int}:∀(its:List It)(l:List Gj)(cnt:Int)(at_ m:Nat)(acc:List It),O7 l cnt its→(∀x∈its,0≤x.n∧x.n≤18446744073709551615)→b.drop at_=Bk its++rest→its.length<m →
  Jg m l cnt b at_ acc=(acc++its,at_+(Bk its).length,0)
 |[],l,cnt,at_,m,acc,hg,hn,h,hm=>by
  obtain ⟨rfl,hc⟩:=hg
  obtain ⟨m,rfl⟩:∃k,m=k+1:=⟨m-1,by omega⟩
  unfold Jg
  rw [if_pos (by simp [Ai2,hc])]
  simp [Bk]
 |x::its,l,cnt,at_,m,acc,hg,hn,h,hm=>by
  obtain ⟨g,hg⟩:=hg
  obtain ⟨m,rfl⟩:∃k,m=k+1:=⟨m-1,by simp at hm;omega⟩
  have e:Bk (x::its)=Bu x++Bk its:=by simp [Bk]
  rw [e,List.append_assoc] at h
  have r:=Arx g (hn x (by simp)).1 (hn x (by simp)).2 h
  have h':b.drop (at_+(Bu x).length)=Bk its++rest:=by rw [←List.drop_drop,h,List.drop_left' rfl]
  have ih:=Ajd its (Fh l x) (cnt+1) (at_+(Bu x).length) m (acc++[x]) hg (fun y hy=>hn y (List.mem_cons_of_mem _ hy)) h' (by simp at hm;omega)
  unfold Jg
  have hd:Ai2 l cnt=false:=g.hd
  rw [if_neg (by simp [hd]),r]
  simp only
  rw [if_neg (by simp),ih,e]
  simp
  omega
end
section
abbrev isU (x:Int):Prop:=0≤x∧x≤18446744073709551615
abbrev isW (l:List Int):Prop:=∀x∈l,isU x
theorem Aoz (l:List Int)(i:Nat):isU (Ms l i):=Ve _ 0 (by omega) (by omega)
theorem Ana (l:List Int):isW (Fg l):=by
 intro x hx
 obtain ⟨k,_,rfl⟩:=List.mem_map.1 hx
 exact Aoz l k
theorem Sm:∀{ws:List Int}{i:Nat}{w:Int},isW ws→ws[i]?=some w→Ms (A5 ws) i=w
 |[],i,w,_,h=>by simp at h
 |a::ws,0,w,hw,h=>by
  simp at h
  subst h
  have e:A5 (a::ws)=Bp a++A5 ws:=rfl
  unfold Ms
  rw [Nat.mul_zero,List.drop_zero,e,List.take_left' (Cc a)]
  have:=hw a (by simp)
  exact Wr this.1 this.2
 |a::ws,i+1,w,hw,h=>by
  simp at h
  have ih:=Sm (ws:=ws) (fun x hx=>hw x (List.mem_cons_of_mem _ hx)) h
  have e:A5 (a::ws)=Bp a++A5 ws:=rfl
  unfold Ms at ih ⊢
  rw [show 8*(i+1)=(Bp a).length+8*i by rw [Cc];omega,e,←List.drop_drop,List.drop_left' rfl]
  exact ih
theorem Aaz {ws:List Int}(hw:isW ws):Fg (A5 ws)=ws:=by
 have hl:(A5 ws).length / 8=ws.length:=by rw [Cm];omega
 apply List.ext_getElem?
 intro i
 unfold Fg
 rw [hl]
 by_cases h:i<ws.length
 ·rw [List.getElem?_map,List.getElem?_range h,List.getElem?_eq_getElem h]
  simp only [Option.map_some]
  rw [Sm hw (List.getElem?_eq_getElem h)]
 ·rw [List.getElem?_eq_none (by simp;omega),List.getElem?_eq_none (by omega)]
theorem Ajm {k:Ky}(hh:Cl k.h=false)(hr:isU k.root):Acf (F4 k)=some k:=by
 obtain ⟨h,r⟩:=k
 have hb:=Fj hh
 simp only at hb hr hh
 have w:IntKind.wrap .u8 h=h:=Fk (by omega) (by omega)
 have w1:A5 [r]=Bp r:=by simp [A5]
 have:=Sm (ws:=[r]) (i:=0) (w:=r) (by intro x hx;simp at hx;subst hx;exact hr) rfl
 rw [w1] at this
 unfold Acf F4
 simp only [w,List.getD_cons_zero,List.drop_succ_cons,List.drop_zero,this,List.length_cons,Cc,hh,and_self,if_true]
theorem Aqb {k:Ky}:Ha (F4 k):=by
 intro x hx
 rcases List.mem_cons.1 hx with rfl|hx
 ·have:∀v:Int,0≤IntKind.wrap .u8 v∧IntKind.wrap .u8 v≤255:=by
   intro v
   simp only [IntKind.wrap,IntKind.signed,IntKind.bits]
   simp
   omega
  exact this _
 ·exact Wo _ x hx
theorem Akt {l:List Int}{k:Ky}(h:Acf l=some k):Cl k.h=false∧isU k.root:=by
 unfold Acf at h
 split at h
 ·rename_i hh
  cases h
  exact ⟨hh.2,Aoz _ _⟩
 ·cases h
structure Sg.ok (s:Sg):Prop where
 ch:isW s.chains
 pa:isW s.path
theorem A1n (s:Sg):Ha (Ix s):=by
 have w8:∀v:Int,0≤IntKind.wrap .u8 v∧IntKind.wrap .u8 v≤255:=by
  intro v
  simp only [IntKind.wrap,IntKind.signed,IntKind.bits]
  simp
  omega
 intro x hx
 unfold Ix at hx
 rcases List.mem_cons.1 hx with rfl|hx
 ·exact w8 _
 rcases List.mem_cons.1 hx with rfl|hx
 ·exact w8 _
 rcases List.mem_append.1 hx with hx|hx
 ·exact Rk _ x hx
 ·exact Rk _ x hx
theorem Ato {s:Sg}(hs:s.ok)(h1:Cl s.path.length=false)(h2:E6 s.leaf s.path.length=false)(h3:s.chains.length=18):sgD (Ix s)=some s:=by
 obtain ⟨leaf,ch,pa⟩:=s
 obtain ⟨hc,hp⟩:=hs
 simp only at h1 h2 h3 hc hp
 have hb:=Fj h1
 have ho:=Ar6 hb.1 hb.2 h2
 have h16:=A2q hb.1 hb.2
 have w1:IntKind.wrap .u8 leaf=leaf:=Fk (by omega) (by omega)
 have w2:IntKind.wrap .u8 (pa.length:Int)=pa.length:=Fk (by omega) (by omega)
 have lc:(A5 ch).length=144:=by rw [Cm];omega
 have lp:(A5 pa).length=8*pa.length:=Cm pa
 have len:(Ix ⟨leaf,ch,pa⟩).length=2+144+8*pa.length:=by
  unfold Ix
  simp only [List.length_cons,List.length_append,lc,lp]
  omega
 have g0:(Ix ⟨leaf,ch,pa⟩).getD 0 0=leaf:=w1
 have g1:(Ix ⟨leaf,ch,pa⟩).getD 1 0=pa.length:=w2
 have d2:(Ix ⟨leaf,ch,pa⟩).drop 2=A5 ch++A5 pa:=rfl
 have d146:(Ix ⟨leaf,ch,pa⟩).drop 146=A5 pa:=by
  rw [show 146=2+144 from rfl,←List.drop_drop,d2,List.drop_left' lc]
 unfold sgD
 rw [if_pos ⟨by omega,by rw [g1];exact h1,by rw [g0,g1];exact h2,by rw [g1,len];omega⟩,g0,d2,d146,List.take_left' lc,Aaz hc,Aaz hp]
theorem Aqd {l:List Int}{s:Sg}(h:sgD l=some s):s.ok∧s.path.length≤4∧s.chains.length=18:=by
 unfold sgD at h
 split at h
 ·rename_i hh
  cases h
  have hb:=Fj hh.2.1
  refine ⟨⟨Ana _,Ana _⟩,?_,?_⟩
  ·simp only [Ox,List.length_drop]
   omega
  ·simp only [Ox,List.length_take,List.length_drop]
   omega
 ·cases h
end
section
set_option maxRecDepth 100000
abbrev On:FuncId:=111
noncomputable def Ez (fu:Nat)(call:Ak)(a0_0 a0_1:ByteArray)(a0_2 a0_3:Int)(a0_4 a0_5 a0_6:Int)(a0_7:Bool)(a0_8 a0_9 a0_10:Int)(a0_11n:Nat)(a0_11:List PV)(a0_12n:Nat)(a0_12:List PV)(nn:Nat)(y0 y1:ByteArray)(y2:Int)(y3 y4:ByteArray)(y5 y6:Int)(y7 y8 y9:Int)(Fu:Bool)(Ka Ot Uq:Int)(y14:Nat)(Zm:List PV)(Zl:Nat)(y17:List PV):Option A8:=C5 C0 Tryz.prog fu call 111 Tryz.f111 (B7 Tryz.f111) [.agg [.sc (.string a0_0),.sc (.string a0_1),.sc (.int .u64 a0_2),.sc (.int .i64 a0_3),.sc (.int .u64 a0_4),.sc (.int .i64 a0_5),.sc (.int .i64 a0_6),.sc (.bool a0_7),.sc (.int .i64 a0_8),.sc (.int .u64 a0_9),.sc (.int .i64 a0_10),.lst false 1 a0_11n a0_11,.lst false 1 a0_12n a0_12]] [.r,.l,.r,.l] nn ⟨lk [(1,(.ptr 1 0)),(13,(.agg [(.sc (.string y0)),(.sc (.string y1))])),(14,(.sc (.int .i64 y2)))],Gv [(1,(.st [(.sc (.string y3)),(.sc (.string y4)),(.sc (.int .u64 y5)),(.sc (.int .i64 y6)),(.sc (.int .u64 y7)),(.sc (.int .i64 y8)),(.sc (.int .i64 y9)),(.sc (.bool Fu)),(.sc (.int .i64 Ka)),(.sc (.int .u64 Ot)),(.sc (.int .i64 Uq)),(.lst false 1 y14 Zm),(.lst false 1 Zl y17)]))]⟩
theorem Ec (fu:Nat)(call:Ak)(a0_0 a0_1:ByteArray)(a0_2 a0_3:Int)(a0_4 a0_5 a0_6:Int)(a0_7:Bool)(a0_8 a0_9 a0_10:Int)(a0_11n:Nat)(a0_11:List PV)(a0_12n:Nat)(a0_12:List PV)(nn:Nat)(y0 y1:ByteArray)(y2:Int)(y3 y4:ByteArray)(y5 y6:Int)(y7 y8 y9:Int)(Fu:Bool)(Ka Ot Uq:Int)(y14:Nat)(Zm:List PV)(Zl:Nat)(y17:List PV):Ez fu call a0_0 a0_1 a0_2 a0_3 a0_4 a0_5 a0_6 a0_7 a0_8 a0_9 a0_10 a0_11n a0_11 a0_12n a0_12 (nn+1) y0 y1 y2 y3 y4 y5 y6 y7 y8 y9 Fu Ka Ot Uq y14 Zm Zl y17=(Be (decide (y2<2)) (Ar (decide (0≤y2)&&decide (y2<2)&&true)<|Cu (List.getD [.sc (.string y0),.sc (.string y1)] (Int.toNat y2*1) .top) fun x1=>Be (decide ((↑(ByteArray.size x1):Int)<1)) (some (A8.mk [.own 1 0 [],.sc (.int .i64 9)] [])) (Be (decide ((↑(ByteArray.size x1):Int)>32)) (some (A8.mk [.own 1 0 [],.sc (.int .i64 9)] [])) (Aa (IntKind.wrap .i64 (y2+1)) fun x2=>Ez fu call a0_0 a0_1 a0_2 a0_3 a0_4 a0_5 a0_6 a0_7 a0_8 a0_9 a0_10 a0_11n a0_11 a0_12n a0_12 (nn) (y0) (y1) x2 (y3) (y4) (y5) (y6) (y7) (y8) (y9) (Fu) (Ka) (Ot) (Uq) (y14) (Zm) (Zl) (y17)))) (Ah (call 67 [.sc (.string y3)]) fun x3 x4=>Ac x4<|Ab x3 fun x5 x6=>Bz x5 fun x7=>Ac x6<|Be (!x7) (some (A8.mk [.own 1 0 [],.sc (.int .i64 6)] [])) (Ah (call 67 [.sc (.string y4)]) fun x8 x9=>Ac x9<|Ab x8 fun B5 B9=>Bz B5 fun Cy=>Ac B9<|Be (!Cy) (some (A8.mk [.own 1 0 [],.sc (.int .i64 6)] [])) (Ah (call 123 [.agg [.sc (.int .i64 y6),.sc (.int .u64 y7)]]) fun C7 Cr=>Ac Cr<|Ab C7 fun C3 Df=>C8 1 C3 fun Ds D2=>Ab Df fun D0 D6=>Af .i64 D0 fun F1=>Ac D6<|Be (F1 != 0) (some (A8.mk [.own 1 0 [],.sc (.int .i64 F1)] [])) (Be (decide (y8<0)) (some (A8.mk [.own 1 0 [],.sc (.int .i64 9)] [])) (Be (decide (y8>y9)) (some (A8.mk [.own 1 0 [],.sc (.int .i64 9)] [])) (Be (decide (y9>1099511627776)) (some (A8.mk [.own 1 0 [],.sc (.int .i64 9)] [])) (Be (decide (Ka<0)) (some (A8.mk [.own 1 0 [],.sc (.int .i64 9)] [])) (Be (decide (Ka>2)) (some (A8.mk [.own 1 0 [],.sc (.int .i64 9)] [])) (Be (Ka != 0) (Be (!Fu) (some (A8.mk [.own 1 0 [],.sc (.int .i64 4)] [])) (Ah (call 125 [.sc (.string y3)]) fun Ey Fs=>Ac Fs<|Ab Ey fun De C9=>C8 3 De fun Eu F6=>Ac C9<|Ah (call 125 [.sc (.string y4)]) fun Ef Hn=>Ac Hn<|Ab Ef fun Hg G3=>C8 3 Hg fun Ie Hy=>Ac G3<|Ah (call 126 [.sc (.int .u64 y5)]) fun Ir G4=>Ac G4<|Ab Ir fun Jr Nb=>C8 3 Jr fun Fq Ih=>Ac Nb<|Ar (decide (0+Ds*1≤List.length D2))<|Ah (call 127 [.lst false 1 Ds (List.take (Ds*1) (List.drop 0 D2))]) fun Q8 Sk=>Ac Sk<|Ab Q8 fun Mj Po=>C8 3 Mj fun Of Oy=>Ac Po<|Aa (IntKind.wrap .u64 y8) fun Q2=>Ah (call 126 [.sc (.int .u64 Q2)]) fun Ra Rj=>Ac Rj<|Ab Ra fun Qc Si=>C8 3 Qc fun Tg Sh=>Ac Si<|Aa (IntKind.wrap .u64 y9) fun Lr=>Ah (call 126 [.sc (.int .u64 Lr)]) fun Ui R0=>Ac R0<|Ab Ui fun Um Sf=>C8 3 Um fun S9 Tx=>Ac Sf<|Ah (call 128 [.sc (.bool Fu)]) fun Uu Ux=>Ac Ux<|Ab Uu fun X6 Xc=>C8 3 X6 fun Us Ut=>Ac Xc<|Aa (IntKind.wrap .u64 Ka) fun Tp=>Ah (call 126 [.sc (.int .u64 Tp)]) fun Tf Y4=>Ac Y4<|Ab Tf fun Vb V7=>C8 3 Vb fun Vi Xe=>Ac V7<|Ah (call 126 [.sc (.int .u64 Ot)]) fun Zc Uw=>Ac Uw<|Ab Zc fun Xb x76=>C8 3 Xb fun Xw Zf=>Ac x76<|Ar (decide (0+Eu*3≤List.length F6))<|Ar (decide (0+Ie*3≤List.length Hy))<|Ar (decide (0+Fq*3≤List.length Ih))<|Ar (decide (0+Of*3≤List.length Oy))<|Ar (decide (0+Tg*3≤List.length Sh))<|Ar (decide (0+S9*3≤List.length Tx))<|Ar (decide (0+Us*3≤List.length Ut))<|Ar (decide (0+Vi*3≤List.length Xe))<|Ar (decide (0+Xw*3≤List.length Zf))<|Ah (call 124 [.lst false 1 9 [.lst false 3 Eu (List.take (Eu*3) (List.drop 0 F6)),.lst false 3 Ie (List.take (Ie*3) (List.drop 0 Hy)),.lst false 3 Fq (List.take (Fq*3) (List.drop 0 Ih)),.lst false 3 Of (List.take (Of*3) (List.drop 0 Oy)),.lst false 3 Tg (List.take (Tg*3) (List.drop 0 Sh)),.lst false 3 S9 (List.take (S9*3) (List.drop 0 Tx)),.lst false 3 Us (List.take (Us*3) (List.drop 0 Ut)),.lst false 3 Vi (List.take (Vi*3) (List.drop 0 Xe)),.lst false 3 Xw (List.take (Xw*3) (List.drop 0 Zf))]]) fun x79 x80=>Ac x80<|Ab x79 fun x81 x82=>C8 3 x81 fun x83 x84=>Ab x82 fun x85 x86=>Af .i64 x85 fun x87=>Ac x86<|Be (x87 != 0) (some (A8.mk [.own 1 0 [],.sc (.int .i64 x87)] [])) (Ar (decide (0+x83*3≤List.length x84))<|Ah (call 129 [.lst false 3 x83 (List.take (x83*3) (List.drop 0 x84))]) fun x88 Uk=>Ac Uk<|Ab x88 fun x90 x91=>C8 1 x90 fun x92 x93=>Ab x91 fun x94 x95=>Af .i64 x94 fun x96=>Ac x95<|Ar (decide (x92*1≤List.length x93))<|some (A8.mk [.own 1 x92 (List.take (x92*1) x93),.sc (.int .i64 x96)] [])))) (Ah (call 125 [.sc (.string y3)]) fun x97 x98=>Ac x98<|Ab x97 fun x99 Xa=>C8 3 x99 fun Th Hf=>Ac Xa<|Ah (call 125 [.sc (.string y4)]) fun Kd Y3=>Ac Y3<|Ab Kd fun Sn Qs=>C8 3 Sn fun Mk Aab=>Ac Qs<|Ah (call 126 [.sc (.int .u64 y5)]) fun Ab0 Yg=>Ac Yg<|Ab Ab0 fun Zx Io=>C8 3 Zx fun Lh Afj=>Ac Io<|Ar (decide (0+Ds*1≤List.length D2))<|Ah (call 127 [.lst false 1 Ds (List.take (Ds*1) (List.drop 0 D2))]) fun Agy Px=>Ac Px<|Ab Agy fun Vp Ae3=>C8 3 Vp fun Abw Afb=>Ac Ae3<|Aa (IntKind.wrap .u64 y8) fun Aef=>Ah (call 126 [.sc (.int .u64 Aef)]) fun Agt Aha=>Ac Aha<|Ab Agt fun Ae8 Aed=>C8 3 Ae8 fun Up Yy=>Ac Aed<|Aa (IntKind.wrap .u64 y9) fun Afc=>Ah (call 126 [.sc (.int .u64 Afc)]) fun Ag7 Aby=>Ac Aby<|Ab Ag7 fun Amn Agj=>C8 3 Amn fun Aec Ail=>Ac Agj<|Ah (call 128 [.sc (.bool Fu)]) fun All Aku=>Ac Aku<|Ab All fun Aow Al1=>C8 3 Aow fun Ahp Aiw=>Ac Al1<|Aa (IntKind.wrap .u64 Ka) fun Agv=>Ah (call 126 [.sc (.int .u64 Agv)]) fun Aid Amw=>Ac Amw<|Ab Aid fun Ag6 Aeh=>C8 3 Ag6 fun Ad3 Aiu=>Ac Aeh<|Ah (call 126 [.sc (.int .u64 Ot)]) fun Ak5 Auv=>Ac Auv<|Ab Ak5 fun Aqu Ap6=>C8 3 Aqu fun Aht Alk=>Ac Ap6<|Ar (decide (0+Th*3≤List.length Hf))<|Ar (decide (0+Mk*3≤List.length Aab))<|Ar (decide (0+Lh*3≤List.length Afj))<|Ar (decide (0+Abw*3≤List.length Afb))<|Ar (decide (0+Up*3≤List.length Yy))<|Ar (decide (0+Aec*3≤List.length Ail))<|Ar (decide (0+Ahp*3≤List.length Aiw))<|Ar (decide (0+Ad3*3≤List.length Aiu))<|Ar (decide (0+Aht*3≤List.length Alk))<|Ah (call 124 [.lst false 1 9 [.lst false 3 Th (List.take (Th*3) (List.drop 0 Hf)),.lst false 3 Mk (List.take (Mk*3) (List.drop 0 Aab)),.lst false 3 Lh (List.take (Lh*3) (List.drop 0 Afj)),.lst false 3 Abw (List.take (Abw*3) (List.drop 0 Afb)),.lst false 3 Up (List.take (Up*3) (List.drop 0 Yy)),.lst false 3 Aec (List.take (Aec*3) (List.drop 0 Ail)),.lst false 3 Ahp (List.take (Ahp*3) (List.drop 0 Aiw)),.lst false 3 Ad3 (List.take (Ad3*3) (List.drop 0 Aiu)),.lst false 3 Aht (List.take (Aht*3) (List.drop 0 Alk))]]) fun Ale Ao5=>Ac Ao5<|Ab Ale fun Aq4 Aom=>C8 3 Aq4 fun Aoh An8=>Ab Aom fun Aqz Aqv=>Af .i64 Aqz fun Aoq=>Ac Aqv<|Be (Aoq != 0) (some (A8.mk [.own 1 0 [],.sc (.int .i64 Aoq)] [])) (Ar (decide (0+Aoh*3≤List.length An8))<|Ah (call 129 [.lst false 3 Aoh (List.take (Aoh*3) (List.drop 0 An8))]) fun Arv Aky=>Ac Aky<|Ab Arv fun Am6 Arb=>C8 1 Am6 fun Ala Aoi=>Ab Arb fun Ams Aod=>Af .i64 Ams fun Aqy=>Ac Aod<|Ar (decide (Ala*1≤List.length Aoi))<|some (A8.mk [.own 1 Ala (List.take (Ala*1) Aoi),.sc (.int .i64 Aqy)] []))))))))))))):=by kernel_rfl
theorem Yz (fu d:Nat)(a0_0 a0_1:ByteArray)(a0_2 a0_3:Int)(a0_4 a0_5 a0_6:Int)(a0_7:Bool)(a0_8 a0_9 a0_10:Int)(a0_11n:Nat)(a0_11:List PV)(a0_12n:Nat)(a0_12:List PV):Ae C0 Tryz.prog fu (d+1) On [.agg [.sc (.string a0_0),.sc (.string a0_1),.sc (.int .u64 a0_2),.sc (.int .i64 a0_3),.sc (.int .u64 a0_4),.sc (.int .i64 a0_5),.sc (.int .i64 a0_6),.sc (.bool a0_7),.sc (.int .i64 a0_8),.sc (.int .u64 a0_9),.sc (.int .i64 a0_10),.lst false 1 a0_11n a0_11,.lst false 1 a0_12n a0_12]]=(fun (call:Ak)=>Ez fu call a0_0 a0_1 a0_2 a0_3 a0_4 a0_5 a0_6 a0_7 a0_8 a0_9 a0_10 a0_11n a0_11 a0_12n a0_12 (fu) (a0_0) (a0_1) 0 (a0_0) (a0_1) (a0_2) (a0_3) (a0_4) (a0_5) (a0_6) (a0_7) (a0_8) (a0_9) (a0_10) (a0_11n) (a0_11) (a0_12n) (a0_12)) (Ae C0 Tryz.prog fu d):=by kernel_rfl
abbrev Ou:FuncId:=113
theorem Y6 (fu d:Nat)(a0_0 a0_1:ByteArray)(a0_2 a0_3:Int)(a0_4 a0_5 a0_6:Int)(a0_7:Bool)(a0_8 a0_9 a0_10:Int)(a0_11n:Nat)(a0_11:List PV)(a0_12n:Nat)(a0_12:List PV):Ae C0 Tryz.prog fu (d+1) Ou [.agg [.sc (.string a0_0),.sc (.string a0_1),.sc (.int .u64 a0_2),.sc (.int .i64 a0_3),.sc (.int .u64 a0_4),.sc (.int .i64 a0_5),.sc (.int .i64 a0_6),.sc (.bool a0_7),.sc (.int .i64 a0_8),.sc (.int .u64 a0_9),.sc (.int .i64 a0_10),.lst false 1 a0_11n a0_11,.lst false 1 a0_12n a0_12]]=(fun (call:Ak)=>Ah (call 111 [.agg [.sc (.string a0_0),.sc (.string a0_1),.sc (.int .u64 a0_2),.sc (.int .i64 a0_3),.sc (.int .u64 a0_4),.sc (.int .i64 a0_5),.sc (.int .i64 a0_6),.sc (.bool a0_7),.sc (.int .i64 a0_8),.sc (.int .u64 a0_9),.sc (.int .i64 a0_10),.lst false 1 a0_11n a0_11,.lst false 1 a0_12n a0_12]]) fun x1 x2=>Ac x2<|Ab x1 fun x3 x4=>C8 1 x3 fun x5 x6=>Ab x4 fun x7 x8=>Af .i64 x7 fun x9=>Ac x8<|Be (x9 != 0) (some (A8.mk [.sc (.int .u64 0),.sc (.int .i64 x9)] [])) (Ar (decide (0+x5*1≤List.length x6))<|Ah (call 107 [.sc (.int .i64 14),.lst false 1 x5 (List.take (x5*1) (List.drop 0 x6))]) fun B5 B9=>Ac B9<|Ab B5 fun Cy C7=>Af .u64 Cy fun Cr=>Ac C7<|some (A8.mk [.sc (.int .u64 Cr),.sc (.int .i64 0)] []))) (Ae C0 Tryz.prog fu d):=by kernel_rfl
abbrev Mf:FuncId:=92
theorem V6 (fu d:Nat)(a0_0 a0_1:ByteArray)(a0_2 a0_3:Int)(a0_4 a0_5 a0_6:Int)(a0_7:Bool)(a0_8 a0_9 a0_10:Int)(a0_11n:Nat)(a0_11:List PV)(a0_12n:Nat)(a0_12:List PV)(a1_0 a1_1:Int):Ae C0 Tryz.prog fu (d+1) Mf [.agg [.sc (.string a0_0),.sc (.string a0_1),.sc (.int .u64 a0_2),.sc (.int .i64 a0_3),.sc (.int .u64 a0_4),.sc (.int .i64 a0_5),.sc (.int .i64 a0_6),.sc (.bool a0_7),.sc (.int .i64 a0_8),.sc (.int .u64 a0_9),.sc (.int .i64 a0_10),.lst false 1 a0_11n a0_11,.lst false 1 a0_12n a0_12],.agg [.sc (.int .i64 a1_0),.sc (.int .u64 a1_1)]]=(fun (call:Ak)=>Ah (call 113 [.agg [.sc (.string a0_0),.sc (.string a0_1),.sc (.int .u64 a0_2),.sc (.int .i64 a0_3),.sc (.int .u64 a0_4),.sc (.int .i64 a0_5),.sc (.int .i64 a0_6),.sc (.bool a0_7),.sc (.int .i64 a0_8),.sc (.int .u64 a0_9),.sc (.int .i64 a0_10),.lst false 1 a0_11n a0_11,.lst false 1 a0_12n a0_12]]) fun x1 x2=>Ac x2<|Ab x1 fun x3 x4=>Af .u64 x3 fun x5=>Ab x4 fun x6 x7=>Af .i64 x6 fun x8=>Ac x7<|Be (x8 != 0) (some (A8.mk [.sc (.int .i64 x8)] [])) (Ah (call 56 [.agg [.sc (.int .i64 a1_0),.sc (.int .u64 a1_1)],.sc (.int .u64 x5),.agg [.sc (.int .i64 a0_10),.lst false 1 a0_11n a0_11,.lst false 1 a0_12n a0_12]]) fun x9 B5=>Ac B5<|Ab x9 fun B9 Cy=>Af .i64 B9 fun C7=>Ac Cy<|some (A8.mk [.sc (.int .i64 C7)] []))) (Ae C0 Tryz.prog fu d):=by kernel_rfl
abbrev Lu:FuncId:=89
theorem Uz (fu d:Nat)(a0_0 a0_1:ByteArray)(a0_2 a0_3:Int)(a0_4 a0_5 a0_6:Int)(a0_7:Bool)(a0_8 a0_9 a0_10:Int)(a0_11n:Nat)(a0_11:List PV)(a0_12n:Nat)(a0_12:List PV):Ae C0 Tryz.prog fu (d+1) Lu [.agg [.sc (.string a0_0),.sc (.string a0_1),.sc (.int .u64 a0_2),.sc (.int .i64 a0_3),.sc (.int .u64 a0_4),.sc (.int .i64 a0_5),.sc (.int .i64 a0_6),.sc (.bool a0_7),.sc (.int .i64 a0_8),.sc (.int .u64 a0_9),.sc (.int .i64 a0_10),.lst false 1 a0_11n a0_11,.lst false 1 a0_12n a0_12]]=(fun (call:Ak)=>Ah (call 111 [.agg [.sc (.string a0_0),.sc (.string a0_1),.sc (.int .u64 a0_2),.sc (.int .i64 a0_3),.sc (.int .u64 a0_4),.sc (.int .i64 a0_5),.sc (.int .i64 a0_6),.sc (.bool a0_7),.sc (.int .i64 a0_8),.sc (.int .u64 a0_9),.sc (.int .i64 a0_10),.lst false 1 a0_11n a0_11,.lst false 1 a0_12n a0_12]]) fun x1 x2=>Ac x2<|Ab x1 fun x3 x4=>C8 1 x3 fun x5 x6=>Ab x4 fun x7 x8=>Af .i64 x7 fun x9=>Ac x8<|Be (x9 != 0) (some (A8.mk [.own 1 0 [],.sc (.int .i64 x9)] [])) (Ah (call 112 [.agg [.sc (.int .i64 a0_10),.lst false 1 a0_11n a0_11,.lst false 1 a0_12n a0_12]]) fun B5 B9=>Ac B9<|Ab B5 fun Cy C7=>C8 1 Cy fun Cr C3=>Ab C7 fun Df Ds=>Af .i64 Df fun D2=>Ac Ds<|Be (D2 != 0) (some (A8.mk [.own 1 0 [],.sc (.int .i64 D2)] [])) (Ar (decide (0+Cr*1≤List.length C3))<|Ar (decide (x5*1≤List.length x6)&&decide (List.length (List.take (Cr*1) (List.drop 0 C3))=Cr*1)&&decide ((x5+Cr)*1≤1099511627776)&&decide (x5+Cr≤1099511627776))<|Aa (x5+Cr) fun D0=>Aa (List.take (x5*1) x6++List.take (Cr*1) (List.drop 0 C3)) fun D6=>Ar (decide (D0*1≤List.length D6))<|some (A8.mk [.own 1 D0 (List.take (D0*1) D6),.sc (.int .i64 0)] [])))) (Ae C0 Tryz.prog fu d):=by kernel_rfl
abbrev Me:FuncId:=87
noncomputable def Hc (fu:Nat)(call:Ak)(a0n:Nat)(a0:List PV)(nn y0:Nat)(y1:List PV):Option A8:=C5 C0 Tryz.prog fu call 87 Tryz.f87 (B7 Tryz.f87) [.lst false 3 a0n a0] [] nn ⟨lk [(0,(.lst false 3 y0 y1))],Gv []⟩
noncomputable def Kt (fu:Nat)(call:Ak)(a0n:Nat)(a0:List PV)(nn y0:Nat)(y1 y2:List PV):Option A8:=C5 C0 Tryz.prog fu call 87 Tryz.f87 (B7 Tryz.f87) [.lst false 3 a0n a0] [.r] nn ⟨lk [(0,(.lst false 3 y0 y1)),(3,(.ptr 3 0))],Gv [(3,(.ar false y2))]⟩
noncomputable def Fn (fu:Nat)(call:Ak)(a0n:Nat)(a0:List PV)(nn y0:Nat)(y1:List PV)(y2 y3:Int)(y4:List PV):Option A8:=C5 C0 Tryz.prog fu call 87 Tryz.f87 (B7 Tryz.f87) [.lst false 3 a0n a0] [.r,.r,.r,.l,.r,.l] nn ⟨lk [(3,(.ptr 3 0)),(10,(.lst false 3 y0 y1)),(11,(.sc (.int .i64 y2))),(12,(.sc (.int .i64 y3)))],Gv [(3,(.ar false y4))]⟩
theorem Ri (fu:Nat)(call:Ak)(a0n:Nat)(a0:List PV)(nn:Nat)(hnn:0<nn)(y0:Nat)(y1:List PV):Hc fu call a0n a0 nn y0 y1=(Kt fu call a0n a0 (fu) (y0) (y1) ([.sc (.int .i64 5),.sc (.int .i64 4),.sc (.int .i64 4),.sc (.int .i64 1),.sc (.int .i64 3),.sc (.int .i64 1),.sc (.int .i64 1),.sc (.int .i64 7),.sc (.int .i64 1),.sc (.int .i64 1)])):=by cases nn with|zero=>exact absurd hnn (Nat.lt_irrefl 0)|succ nn=>kernel_rfl
theorem Rx (fu:Nat)(call:Ak)(a0n:Nat)(a0:List PV)(nn:Nat)(hnn:0<nn)(y0:Nat)(y1 y2:List PV):Kt fu call a0n a0 nn y0 y1 y2=(Be ((↑y0:Int) != 10) (some (A8.mk [.sc (.bool false)] [])) (Fn fu call a0n a0 (fu) (y0) (y1) ((↑y0:Int)) 0 (y2))):=by cases nn with|zero=>exact absurd hnn (Nat.lt_irrefl 0)|succ nn=>kernel_rfl
theorem Jh (fu:Nat)(call:Ak)(a0n:Nat)(a0:List PV)(nn y0:Nat)(y1:List PV)(y2 y3:Int)(y4:List PV):Fn fu call a0n a0 (nn+1) y0 y1 y2 y3 y4=(Be (decide (y3<y2)) (Ar (decide (0≤y3)&&decide (y3<(↑y0:Int)))<|Af .i64 (List.getD y1 (Int.toNat y3*3) .top) fun x1=>Af .u64 (List.getD y1 (Int.toNat y3*3+1) .top) fun x2=>Cu (List.getD y1 (Int.toNat y3*3+1+1) .top) fun x3=>Ar (decide (0≤y3)&&decide (y3<10))<|Af .i64 (List.getD y4 (0+Int.toNat y3*1) .top) fun x4=>Be (x1 != x4) (some (A8.mk [.sc (.bool false)] [])) (Aa (IntKind.wrap .i64 (y3+1)) fun x5=>Fn fu call a0n a0 (nn) (y0) (y1) (y2) x5 (y4))) (some (A8.mk [.sc (.bool true)] []))):=by kernel_rfl
theorem Vt (fu d a0n:Nat)(a0:List PV):Ae C0 Tryz.prog fu (d+1) Me [.lst false 3 a0n a0]=(fun (call:Ak)=>Hc fu call a0n a0 (fu) (a0n) (a0)) (Ae C0 Tryz.prog fu d):=by kernel_rfl
abbrev Hv:FuncId:=57
theorem Vx (fu d a0n:Nat)(a0:List PV):Ae C0 Tryz.prog fu (d+1) Hv [.lst false 1 a0n a0]=(fun (call:Ak)=>Be (decide ((↑a0n:Int)>512)) (some (A8.mk [.agg [.sc (.string (ByteArray.mk #[])),.sc (.string (ByteArray.mk #[])),.sc (.int .u64 0),.sc (.int .i64 0),.sc (.int .u64 0),.sc (.int .i64 0),.sc (.int .i64 0),.sc (.bool false),.sc (.int .i64 0),.sc (.int .u64 0),.sc (.int .i64 0),.lst false 1 0 [],.lst false 1 0 []],.sc (.int .i64 8)] [])) (Ah (call 86 [.lst false 1 a0n a0]) fun x1 x2=>Ac x2<|Ab x1 fun x3 x4=>C8 3 x3 fun x5 x6=>Ab x4 fun x7 x8=>Af .i64 x7 fun x9=>Ab x8 fun B5 B9=>Af .i64 B5 fun Cy=>Ac B9<|Be (Cy != 0) (some (A8.mk [.agg [.sc (.string (ByteArray.mk #[])),.sc (.string (ByteArray.mk #[])),.sc (.int .u64 0),.sc (.int .i64 0),.sc (.int .u64 0),.sc (.int .i64 0),.sc (.int .i64 0),.sc (.bool false),.sc (.int .i64 0),.sc (.int .u64 0),.sc (.int .i64 0),.lst false 1 0 [],.lst false 1 0 []],.sc (.int .i64 2)] [])) (Ar (decide (0+x5*3≤List.length x6))<|Ah (call 87 [.lst false 3 x5 (List.take (x5*3) (List.drop 0 x6))]) fun C7 Cr=>Ac Cr<|Ab C7 fun C3 Df=>Bz C3 fun Ds=>Ac Df<|Be (!Ds) (some (A8.mk [.agg [.sc (.string (ByteArray.mk #[])),.sc (.string (ByteArray.mk #[])),.sc (.int .u64 0),.sc (.int .i64 0),.sc (.int .u64 0),.sc (.int .i64 0),.sc (.int .i64 0),.sc (.bool false),.sc (.int .i64 0),.sc (.int .u64 0),.sc (.int .i64 0),.lst false 1 0 [],.lst false 1 0 []],.sc (.int .i64 2)] [])) (Ar (decide (4<(↑x5:Int)))<|Cu (List.getD x6 14 .top) fun D2=>Ar (decide (ByteArray.size D2≤1099511627776))<|Ar (decide (0+ByteArray.size D2*1≤List.length (Cg D2)))<|Ah (call 88 [.lst false 1 (ByteArray.size D2) (List.take (ByteArray.size D2*1) (List.drop 0 (Cg D2)))]) fun D0 D6=>Ac D6<|Ab D0 fun F1 Ey=>Co F1 fun Fs=>Ab Fs fun De C9=>Af .i64 De fun Eu=>Ab C9 fun F6 Ef=>Af .u64 F6 fun Hn=>Ac Ef<|Ab Ey fun Hg G3=>Af .i64 Hg fun Ie=>Ac G3<|Be (Ie != 0) (some (A8.mk [.agg [.sc (.string (ByteArray.mk #[])),.sc (.string (ByteArray.mk #[])),.sc (.int .u64 0),.sc (.int .i64 0),.sc (.int .u64 0),.sc (.int .i64 0),.sc (.int .i64 0),.sc (.bool false),.sc (.int .i64 0),.sc (.int .u64 0),.sc (.int .i64 0),.lst false 1 0 [],.lst false 1 0 []],.sc (.int .i64 2)] [])) (Ar (decide (0≤x9))<|Ar (decide (Int.toNat x9≤a0n)&&decide (a0n≤a0n))<|Aa (a0n-Int.toNat x9) fun Hy=>Aa (List.take (Hy*1) (List.drop (Int.toNat x9*1) a0)) fun Ir=>Ah (call 55 [.lst false 1 Hy Ir]) fun G4 Jr=>Ac Jr<|Ab G4 fun Nb Fq=>Co Nb fun Ih=>Ab Ih fun Q8 Sk=>Af .i64 Q8 fun Mj=>Ab Sk fun Po Of=>C8 1 Po fun Oy Q2=>Ab Of fun Ra Rj=>C8 1 Ra fun Qc Si=>Ac Rj<|Ab Fq fun Tg Sh=>Af .i64 Tg fun Lr=>Ac Sh<|Be (Lr != 0) (some (A8.mk [.agg [.sc (.string (ByteArray.mk #[])),.sc (.string (ByteArray.mk #[])),.sc (.int .u64 0),.sc (.int .i64 0),.sc (.int .u64 0),.sc (.int .i64 0),.sc (.int .i64 0),.sc (.bool false),.sc (.int .i64 0),.sc (.int .u64 0),.sc (.int .i64 0),.lst false 1 0 [],.lst false 1 0 []],.sc (.int .i64 2)] [])) (Ar (decide (1<(↑x5:Int)))<|Cu (List.getD x6 5 .top) fun Ui=>Ar (decide (2<(↑x5:Int)))<|Cu (List.getD x6 8 .top) fun R0=>Ar (decide (3<(↑x5:Int)))<|Af .u64 (List.getD x6 10 .top) fun Um=>Ar (decide (5<(↑x5:Int)))<|Af .u64 (List.getD x6 16 .top) fun Sf=>Aa (IntKind.wrap .i64 Sf) fun S9=>Ar (decide (6<(↑x5:Int)))<|Af .u64 (List.getD x6 19 .top) fun Tx=>Aa (IntKind.wrap .i64 Tx) fun Uu=>Ar (decide (7<(↑x5:Int)))<|Af .u64 (List.getD x6 22 .top) fun Ux=>Ar (decide (8<(↑x5:Int)))<|Af .u64 (List.getD x6 25 .top) fun X6=>Aa (IntKind.wrap .i64 X6) fun Xc=>Ar (decide (9<(↑x5:Int)))<|Af .u64 (List.getD x6 28 .top) fun Us=>Ar (decide (0+Oy*1≤List.length Q2))<|Ar (decide (0+Qc*1≤List.length Si))<|Ah (call 89 [.agg [.sc (.string Ui),.sc (.string R0),.sc (.int .u64 Um),.sc (.int .i64 Eu),.sc (.int .u64 Hn),.sc (.int .i64 S9),.sc (.int .i64 Uu),.sc (.bool (Ux==1)),.sc (.int .i64 Xc),.sc (.int .u64 Us),.sc (.int .i64 Mj),.lst false 1 Oy (List.take (Oy*1) (List.drop 0 Q2)),.lst false 1 Qc (List.take (Qc*1) (List.drop 0 Si))]]) fun Ut Tp=>Ac Tp<|Ab Ut fun Tf Y4=>C8 1 Tf fun Vb V7=>Ab Y4 fun Vi Xe=>Af .i64 Vi fun Zc=>Ac Xe<|Be (Zc != 0) (some (A8.mk [.agg [.sc (.string (ByteArray.mk #[])),.sc (.string (ByteArray.mk #[])),.sc (.int .u64 0),.sc (.int .i64 0),.sc (.int .u64 0),.sc (.int .i64 0),.sc (.int .i64 0),.sc (.bool false),.sc (.int .i64 0),.sc (.int .u64 0),.sc (.int .i64 0),.lst false 1 0 [],.lst false 1 0 []],.sc (.int .i64 2)] [])) (Ar (decide (0+Vb*1≤List.length V7))<|Ah (call 90 [.lst false 1 Vb (List.take (Vb*1) (List.drop 0 V7)),.lst false 1 a0n a0]) fun Uw Xb=>Ac Xb<|Ab Uw fun x76 Xw=>Bz x76 fun Zf=>Ac Xw<|Be (!Zf) (some (A8.mk [.agg [.sc (.string (ByteArray.mk #[])),.sc (.string (ByteArray.mk #[])),.sc (.int .u64 0),.sc (.int .i64 0),.sc (.int .u64 0),.sc (.int .i64 0),.sc (.int .i64 0),.sc (.bool false),.sc (.int .i64 0),.sc (.int .u64 0),.sc (.int .i64 0),.lst false 1 0 [],.lst false 1 0 []],.sc (.int .i64 2)] [])) (Ar (decide (0+Oy*1≤List.length Q2))<|Ar (decide (0+Qc*1≤List.length Si))<|some (A8.mk [.agg [.sc (.string Ui),.sc (.string R0),.sc (.int .u64 Um),.sc (.int .i64 Eu),.sc (.int .u64 Hn),.sc (.int .i64 S9),.sc (.int .i64 Uu),.sc (.bool (Ux==1)),.sc (.int .i64 Xc),.sc (.int .u64 Us),.sc (.int .i64 Mj),.lst false 1 Oy (List.take (Oy*1) (List.drop 0 Q2)),.lst false 1 Qc (List.take (Qc*1) (List.drop 0 Si))],.sc (.int .i64 0)] []))))))))) (Ae C0 Tryz.prog fu d):=by kernel_rfl
abbrev Jl:FuncId:=91
noncomputable def Ck (fu:Nat)(call:Ak)(a0_0 a0_1:ByteArray)(a0_2 a0_3:Int)(a0_4 a0_5 a0_6:Int)(a0_7:Bool)(a0_8 a0_9 a0_10:Int)(a0_11n:Nat)(a0_11:List PV)(a0_12n:Nat)(a0_12:List PV)(a1:Int)(a2n:Nat)(a2:List PV)(a3:Int)(nn:Nat)(y0:Int)(y1:Nat)(y2:List PV)(y3 y4:Int)(y5 y6:ByteArray)(y7 y8:Int)(y9 Fu Ka:Int)(Ot:Bool)(Uq y14 Zm:Int)(Zl:Nat)(y17:List PV)(y18:Nat)(y19:List PV):Option A8:=C5 C0 Tryz.prog fu call 91 Tryz.f91 (B7 Tryz.f91) [.agg [.sc (.string a0_0),.sc (.string a0_1),.sc (.int .u64 a0_2),.sc (.int .i64 a0_3),.sc (.int .u64 a0_4),.sc (.int .i64 a0_5),.sc (.int .i64 a0_6),.sc (.bool a0_7),.sc (.int .i64 a0_8),.sc (.int .u64 a0_9),.sc (.int .i64 a0_10),.lst false 1 a0_11n a0_11,.lst false 1 a0_12n a0_12],.sc (.int .i64 a1),.lst false 3 a2n a2,.sc (.int .i64 a3)] [.r,.r,.r,.r,.l,.r,.l] nn ⟨lk [(3,(.sc (.int .i64 y0))),(4,(.ptr 4 0)),(45,(.lst false 3 y1 y2)),(46,(.sc (.int .i64 y3))),(47,(.sc (.int .i64 y4)))],Gv [(4,(.st [(.sc (.string y5)),(.sc (.string y6)),(.sc (.int .u64 y7)),(.sc (.int .i64 y8)),(.sc (.int .u64 y9)),(.sc (.int .i64 Fu)),(.sc (.int .i64 Ka)),(.sc (.bool Ot)),(.sc (.int .i64 Uq)),(.sc (.int .u64 y14)),(.sc (.int .i64 Zm)),(.lst false 1 Zl y17),(.lst false 1 y18 y19)]))]⟩
theorem Hw (fu:Nat)(call:Ak)(a0_0 a0_1:ByteArray)(a0_2 a0_3:Int)(a0_4 a0_5 a0_6:Int)(a0_7:Bool)(a0_8 a0_9 a0_10:Int)(a0_11n:Nat)(a0_11:List PV)(a0_12n:Nat)(a0_12:List PV)(a1:Int)(a2n:Nat)(a2:List PV)(a3:Int)(nn:Nat)(y0:Int)(y1:Nat)(y2:List PV)(y3 y4:Int)(y5 y6:ByteArray)(y7 y8:Int)(y9 Fu Ka:Int)(Ot:Bool)(Uq y14 Zm:Int)(Zl:Nat)(y17:List PV)(y18:Nat)(y19:List PV):Ck fu call a0_0 a0_1 a0_2 a0_3 a0_4 a0_5 a0_6 a0_7 a0_8 a0_9 a0_10 a0_11n a0_11 a0_12n a0_12 a1 a2n a2 a3 (nn+1) y0 y1 y2 y3 y4 y5 y6 y7 y8 y9 Fu Ka Ot Uq y14 Zm Zl y17 y18 y19=(Be (decide (y4<y3)) (Ar (decide (0≤y4)&&decide (y4<(↑y1:Int)))<|Cu (List.getD y2 (Int.toNat y4*3) .top) fun B9=>Af .u64 (List.getD y2 (Int.toNat y4*3+1) .top) fun Cy=>Af .i64 (List.getD y2 (Int.toNat y4*3+1+1) .top) fun C7=>Be (Array.toList (ByteArray.data B9)==Array.toList (ByteArray.data y6)) (Be (Cy==y7) (Be (decide (C7≤y0)) (some (A8.mk [.sc (.int .i64 39)] [])) (Aa (IntKind.wrap .i64 (y4+1)) fun Cr=>Ck fu call a0_0 a0_1 a0_2 a0_3 a0_4 a0_5 a0_6 a0_7 a0_8 a0_9 a0_10 a0_11n a0_11 a0_12n a0_12 a1 a2n a2 a3 (nn) (y0) (y1) (y2) (y3) Cr (y5) (y6) (y7) (y8) (y9) (Fu) (Ka) (Ot) (Uq) (y14) (Zm) (Zl) (y17) (y18) (y19))) (Aa (IntKind.wrap .i64 (y4+1)) fun C3=>Ck fu call a0_0 a0_1 a0_2 a0_3 a0_4 a0_5 a0_6 a0_7 a0_8 a0_9 a0_10 a0_11n a0_11 a0_12n a0_12 a1 a2n a2 a3 (nn) (y0) (y1) (y2) (y3) C3 (y5) (y6) (y7) (y8) (y9) (Fu) (Ka) (Ot) (Uq) (y14) (Zm) (Zl) (y17) (y18) (y19))) (Aa (IntKind.wrap .i64 (y4+1)) fun Df=>Ck fu call a0_0 a0_1 a0_2 a0_3 a0_4 a0_5 a0_6 a0_7 a0_8 a0_9 a0_10 a0_11n a0_11 a0_12n a0_12 a1 a2n a2 a3 (nn) (y0) (y1) (y2) (y3) Df (y5) (y6) (y7) (y8) (y9) (Fu) (Ka) (Ot) (Uq) (y14) (Zm) (Zl) (y17) (y18) (y19))) (some (A8.mk [.sc (.int .i64 0)] []))):=by kernel_rfl
theorem Q7 (fu d:Nat)(a0_0 a0_1:ByteArray)(a0_2 a0_3:Int)(a0_4 a0_5 a0_6:Int)(a0_7:Bool)(a0_8 a0_9 a0_10:Int)(a0_11n:Nat)(a0_11:List PV)(a0_12n:Nat)(a0_12:List PV)(a1:Int)(a2n:Nat)(a2:List PV)(a3:Int):Ae C0 Tryz.prog fu (d+1) Jl [.agg [.sc (.string a0_0),.sc (.string a0_1),.sc (.int .u64 a0_2),.sc (.int .i64 a0_3),.sc (.int .u64 a0_4),.sc (.int .i64 a0_5),.sc (.int .i64 a0_6),.sc (.bool a0_7),.sc (.int .i64 a0_8),.sc (.int .u64 a0_9),.sc (.int .i64 a0_10),.lst false 1 a0_11n a0_11,.lst false 1 a0_12n a0_12],.sc (.int .i64 a1),.lst false 3 a2n a2,.sc (.int .i64 a3)]=(fun (call:Ak)=>Ah (call 111 [.agg [.sc (.string a0_0),.sc (.string a0_1),.sc (.int .u64 a0_2),.sc (.int .i64 a0_3),.sc (.int .u64 a0_4),.sc (.int .i64 a0_5),.sc (.int .i64 a0_6),.sc (.bool a0_7),.sc (.int .i64 a0_8),.sc (.int .u64 a0_9),.sc (.int .i64 a0_10),.lst false 1 a0_11n a0_11,.lst false 1 a0_12n a0_12]]) fun x1 x2=>Ac x2<|Ab x1 fun x3 x4=>C8 1 x3 fun x5 x6=>Ab x4 fun x7 x8=>Af .i64 x7 fun x9=>Ac x8<|Be (x9 != 0) (some (A8.mk [.sc (.int .i64 x9)] [])) (Be (decide (a3<a0_5)) (some (A8.mk [.sc (.int .i64 38)] [])) (Be (decide (a3>a0_6)) (some (A8.mk [.sc (.int .i64 38)] [])) (Be (decide (a1>0)) (Be (!a0_7) (some (A8.mk [.sc (.int .i64 38)] [])) (Aa (IntKind.wrap .i64 (a1-1)) fun B5=>Be (decide (a0_8<B5)) (some (A8.mk [.sc (.int .i64 38)] [])) (Ck fu call a0_0 a0_1 a0_2 a0_3 a0_4 a0_5 a0_6 a0_7 a0_8 a0_9 a0_10 a0_11n a0_11 a0_12n a0_12 a1 a2n a2 a3 (fu) (a3) (a2n) (a2) ((↑a2n:Int)) 0 (a0_0) (a0_1) (a0_2) (a0_3) (a0_4) (a0_5) (a0_6) (a0_7) (a0_8) (a0_9) (a0_10) (a0_11n) (a0_11) (a0_12n) (a0_12)))) (Ck fu call a0_0 a0_1 a0_2 a0_3 a0_4 a0_5 a0_6 a0_7 a0_8 a0_9 a0_10 a0_11n a0_11 a0_12n a0_12 a1 a2n a2 a3 (fu) (a3) (a2n) (a2) ((↑a2n:Int)) 0 (a0_0) (a0_1) (a0_2) (a0_3) (a0_4) (a0_5) (a0_6) (a0_7) (a0_8) (a0_9) (a0_10) (a0_11n) (a0_11) (a0_12n) (a0_12)))))) (Ae C0 Tryz.prog fu d):=by kernel_rfl
abbrev Oi:FuncId:=58
noncomputable def Ga (fu:Nat)(call:Ak)(a0n:Nat)(a0:List PV)(a1n:Nat)(a1:List PV)(a2n:Nat)(a2:List PV)(a3:Int)(nn y0:Nat)(y1:List PV)(y2:Nat)(y3:List PV)(y4:Nat)(y5:List PV)(y6:Int)(y7:Nat)(y8:List PV)(y9 Fu:Int):Option A8:=C5 C0 Tryz.prog fu call 58 Tryz.f58 (B7 Tryz.f58) [.lst false 13 a0n a0,.lst false 3 a1n a1,.lst false 3 a2n a2,.sc (.int .i64 a3)] [.r,.r,.r,.l,.r,.l] nn ⟨lk [(0,(.lst false 13 y0 y1)),(1,(.lst false 3 y2 y3)),(2,(.lst false 3 y4 y5)),(3,(.sc (.int .i64 y6))),(31,(.lst false 13 y7 y8)),(32,(.sc (.int .i64 y9))),(33,(.sc (.int .i64 Fu)))],Gv []⟩
noncomputable def D5 (fu:Nat)(call:Ak)(a0n:Nat)(a0:List PV)(a1n:Nat)(a1:List PV)(a2n:Nat)(a2:List PV)(a3:Int)(nn y0:Nat)(y1:List PV)(y2 y3:Int)(y4 y5:ByteArray)(y6 y7:Int)(y8 y9 Fu:Int)(Ka:Bool)(Ot Uq y14:Int)(Zm:Nat)(Zl:List PV)(y17:Nat)(y18:List PV):Option A8:=C5 C0 Tryz.prog fu call 58 Tryz.f58 (B7 Tryz.f58) [.lst false 13 a0n a0,.lst false 3 a1n a1,.lst false 3 a2n a2,.sc (.int .i64 a3)] [.r,.r,.r,.r,.r,.l,.r,.l] nn ⟨lk [(14,(.ptr 14 0)),(78,(.lst false 3 y0 y1)),(79,(.sc (.int .i64 y2))),(80,(.sc (.int .i64 y3)))],Gv [(14,(.st [(.sc (.string y4)),(.sc (.string y5)),(.sc (.int .u64 y6)),(.sc (.int .i64 y7)),(.sc (.int .u64 y8)),(.sc (.int .i64 y9)),(.sc (.int .i64 Fu)),(.sc (.bool Ka)),(.sc (.int .i64 Ot)),(.sc (.int .u64 Uq)),(.sc (.int .i64 y14)),(.lst false 1 Zm Zl),(.lst false 1 y17 y18)]))]⟩
theorem Kf (fu:Nat)(call:Ak)(a0n:Nat)(a0:List PV)(a1n:Nat)(a1:List PV)(a2n:Nat)(a2:List PV)(a3:Int)(nn y0:Nat)(y1:List PV)(y2:Nat)(y3:List PV)(y4:Nat)(y5:List PV)(y6:Int)(y7:Nat)(y8:List PV)(y9 Fu:Int):Ga fu call a0n a0 a1n a1 a2n a2 a3 (nn+1) y0 y1 y2 y3 y4 y5 y6 y7 y8 y9 Fu=(Be (decide (Fu<y9)) (Ar (decide (0≤Fu)&&decide (Fu<(↑y7:Int)))<|Cu (List.getD y8 (Int.toNat Fu*13) .top) fun x1=>Cu (List.getD y8 (Int.toNat Fu*13+1) .top) fun x2=>Af .u64 (List.getD y8 (Int.toNat Fu*13+1+1) .top) fun x3=>Af .i64 (List.getD y8 (Int.toNat Fu*13+1+1+1) .top) fun x4=>Af .u64 (List.getD y8 (Int.toNat Fu*13+1+1+1+1) .top) fun x5=>Af .i64 (List.getD y8 (Int.toNat Fu*13+1+1+1+1+1) .top) fun x6=>Af .i64 (List.getD y8 (Int.toNat Fu*13+1+1+1+1+1+1) .top) fun x7=>Bz (List.getD y8 (Int.toNat Fu*13+1+1+1+1+1+1+1) .top) fun x8=>Af .i64 (List.getD y8 (Int.toNat Fu*13+1+1+1+1+1+1+1+1) .top) fun x9=>Af .u64 (List.getD y8 (Int.toNat Fu*13+1+1+1+1+1+1+1+1+1) .top) fun B5=>Af .i64 (List.getD y8 (Int.toNat Fu*13+1+1+1+1+1+1+1+1+1+1) .top) fun B9=>Jn 1 (List.getD y8 (Int.toNat Fu*13+1+1+1+1+1+1+1+1+1+1+1) .top) fun Cy C7 Cr=>Jn 1 (List.getD y8 (Int.toNat Fu*13+1+1+1+1+1+1+1+1+1+1+1+1) .top) fun C3 Df Ds=>Ah (call 91 [.agg [.sc (.string x1),.sc (.string x2),.sc (.int .u64 x3),.sc (.int .i64 x4),.sc (.int .u64 x5),.sc (.int .i64 x6),.sc (.int .i64 x7),.sc (.bool x8),.sc (.int .i64 x9),.sc (.int .u64 B5),.sc (.int .i64 B9),.lst false 1 C7 Cr,.lst false 1 Df Ds],.sc (.int .i64 Fu),.lst false 3 y4 y5,.sc (.int .i64 y6)]) fun D2 D0=>Ac D0<|Ab D2 fun D6 F1=>Af .i64 D6 fun Ey=>Ac F1<|Be (Ey != 0) (some (A8.mk [.sc (.int .i64 0),.sc (.int .i64 Ey)] [])) (Aa (IntKind.wrap .i64 ((↑y0:Int)-1)) fun Fs=>Be (Fu==Fs) (Aa (IntKind.wrap .i64 ((↑y0:Int)-1)) fun De=>Ar (decide (0≤De)&&decide (De<(↑y0:Int)))<|Cu (List.getD y1 (Int.toNat De*13) .top) fun C9=>Cu (List.getD y1 (Int.toNat De*13+1) .top) fun Eu=>Af .u64 (List.getD y1 (Int.toNat De*13+1+1) .top) fun F6=>Af .i64 (List.getD y1 (Int.toNat De*13+1+1+1) .top) fun Ef=>Af .u64 (List.getD y1 (Int.toNat De*13+1+1+1+1) .top) fun Hn=>Af .i64 (List.getD y1 (Int.toNat De*13+1+1+1+1+1) .top) fun Hg=>Af .i64 (List.getD y1 (Int.toNat De*13+1+1+1+1+1+1) .top) fun G3=>Bz (List.getD y1 (Int.toNat De*13+1+1+1+1+1+1+1) .top) fun Ie=>Af .i64 (List.getD y1 (Int.toNat De*13+1+1+1+1+1+1+1+1) .top) fun Hy=>Af .u64 (List.getD y1 (Int.toNat De*13+1+1+1+1+1+1+1+1+1) .top) fun Ir=>Af .i64 (List.getD y1 (Int.toNat De*13+1+1+1+1+1+1+1+1+1+1) .top) fun G4=>Jn 1 (List.getD y1 (Int.toNat De*13+1+1+1+1+1+1+1+1+1+1+1) .top) fun Jr Nb Fq=>Jn 1 (List.getD y1 (Int.toNat De*13+1+1+1+1+1+1+1+1+1+1+1+1) .top) fun Ih Q8 Sk=>D5 fu call a0n a0 a1n a1 a2n a2 a3 (fu) (y2) (y3) ((↑y2:Int)) 0 C9 Eu F6 Ef Hn Hg G3 Ie Hy Ir G4 Nb Fq Q8 Sk) (Aa (IntKind.wrap .i64 (Fu+1)) fun Mj=>Ar (decide (0≤Mj)&&decide (Mj<(↑y0:Int)))<|Cu (List.getD y1 (Int.toNat Mj*13+0) .top) fun Po=>Be (!Array.toList (ByteArray.data x2)==Array.toList (ByteArray.data Po)) (some (A8.mk [.sc (.int .i64 0),.sc (.int .i64 38)] [])) (Aa (IntKind.wrap .i64 (Fu+1)) fun Of=>Ar (decide (0≤Of)&&decide (Of<(↑y0:Int)))<|Af .i64 (List.getD y1 (Int.toNat Of*13+3) .top) fun Oy=>Af .u64 (List.getD y1 (Int.toNat Of*13+3+1) .top) fun Q2=>Ah (call 92 [.agg [.sc (.string x1),.sc (.string x2),.sc (.int .u64 x3),.sc (.int .i64 x4),.sc (.int .u64 x5),.sc (.int .i64 x6),.sc (.int .i64 x7),.sc (.bool x8),.sc (.int .i64 x9),.sc (.int .u64 B5),.sc (.int .i64 B9),.lst false 1 C7 Cr,.lst false 1 Df Ds],.agg [.sc (.int .i64 Oy),.sc (.int .u64 Q2)]]) fun Ra Rj=>Ac Rj<|Ab Ra fun Qc Si=>Af .i64 Qc fun Tg=>Ac Si<|Be (Tg != 0) (some (A8.mk [.sc (.int .i64 0),.sc (.int .i64 Tg)] [])) (Aa (IntKind.wrap .i64 (Fu+1)) fun Sh=>Ga fu call a0n a0 a1n a1 a2n a2 a3 (nn) (y0) (y1) (y2) (y3) (y4) (y5) (y6) (y7) (y8) (y9) Sh))))) (Aa (IntKind.wrap .i64 ((↑y0:Int)-1)) fun Lr=>Ar (decide (0≤Lr)&&decide (Lr<(↑y0:Int)))<|Cu (List.getD y1 (Int.toNat Lr*13) .top) fun Ui=>Cu (List.getD y1 (Int.toNat Lr*13+1) .top) fun R0=>Af .u64 (List.getD y1 (Int.toNat Lr*13+1+1) .top) fun Um=>Af .i64 (List.getD y1 (Int.toNat Lr*13+1+1+1) .top) fun Sf=>Af .u64 (List.getD y1 (Int.toNat Lr*13+1+1+1+1) .top) fun S9=>Af .i64 (List.getD y1 (Int.toNat Lr*13+1+1+1+1+1) .top) fun Tx=>Af .i64 (List.getD y1 (Int.toNat Lr*13+1+1+1+1+1+1) .top) fun Uu=>Bz (List.getD y1 (Int.toNat Lr*13+1+1+1+1+1+1+1) .top) fun Ux=>Af .i64 (List.getD y1 (Int.toNat Lr*13+1+1+1+1+1+1+1+1) .top) fun X6=>Af .u64 (List.getD y1 (Int.toNat Lr*13+1+1+1+1+1+1+1+1+1) .top) fun Xc=>Af .i64 (List.getD y1 (Int.toNat Lr*13+1+1+1+1+1+1+1+1+1+1) .top) fun Us=>Jn 1 (List.getD y1 (Int.toNat Lr*13+1+1+1+1+1+1+1+1+1+1+1) .top) fun Ut Tp Tf=>Jn 1 (List.getD y1 (Int.toNat Lr*13+1+1+1+1+1+1+1+1+1+1+1+1) .top) fun Y4 Vb V7=>D5 fu call a0n a0 a1n a1 a2n a2 a3 (fu) (y2) (y3) ((↑y2:Int)) 0 Ui R0 Um Sf S9 Tx Uu Ux X6 Xc Us Tp Tf Vb V7)):=by kernel_rfl
theorem Kk (fu:Nat)(call:Ak)(a0n:Nat)(a0:List PV)(a1n:Nat)(a1:List PV)(a2n:Nat)(a2:List PV)(a3:Int)(nn y0:Nat)(y1:List PV)(y2 y3:Int)(y4 y5:ByteArray)(y6 y7:Int)(y8 y9 Fu:Int)(Ka:Bool)(Ot Uq y14:Int)(Zm:Nat)(Zl:List PV)(y17:Nat)(y18:List PV):D5 fu call a0n a0 a1n a1 a2n a2 a3 (nn+1) y0 y1 y2 y3 y4 y5 y6 y7 y8 y9 Fu Ka Ot Uq y14 Zm Zl y17 y18=(Be (decide (y3<y2)) (Ar (decide (0≤y3)&&decide (y3<(↑y0:Int)))<|Cu (List.getD y1 (Int.toNat y3*3) .top) fun Vi=>Af .i64 (List.getD y1 (Int.toNat y3*3+1) .top) fun Xe=>Af .u64 (List.getD y1 (Int.toNat y3*3+1+1) .top) fun Zc=>Be (Array.toList (ByteArray.data Vi)==Array.toList (ByteArray.data y5)) (Ah (call 92 [.agg [.sc (.string y4),.sc (.string y5),.sc (.int .u64 y6),.sc (.int .i64 y7),.sc (.int .u64 y8),.sc (.int .i64 y9),.sc (.int .i64 Fu),.sc (.bool Ka),.sc (.int .i64 Ot),.sc (.int .u64 Uq),.sc (.int .i64 y14),.lst false 1 Zm Zl,.lst false 1 y17 y18],.agg [.sc (.int .i64 Xe),.sc (.int .u64 Zc)]]) fun Uw Xb=>Ac Xb<|Ab Uw fun x76 Xw=>Af .i64 x76 fun Zf=>Ac Xw<|Be (Zf==0) (some (A8.mk [.sc (.int .i64 y3),.sc (.int .i64 0)] [])) (Aa (IntKind.wrap .i64 (y3+1)) fun x79=>D5 fu call a0n a0 a1n a1 a2n a2 a3 (nn) (y0) (y1) (y2) x79 (y4) (y5) (y6) (y7) (y8) (y9) (Fu) (Ka) (Ot) (Uq) (y14) (Zm) (Zl) (y17) (y18))) (Aa (IntKind.wrap .i64 (y3+1)) fun x80=>D5 fu call a0n a0 a1n a1 a2n a2 a3 (nn) (y0) (y1) (y2) x80 (y4) (y5) (y6) (y7) (y8) (y9) (Fu) (Ka) (Ot) (Uq) (y14) (Zm) (Zl) (y17) (y18))) (some (A8.mk [.sc (.int .i64 0),.sc (.int .i64 38)] []))):=by kernel_rfl
theorem Zk (fu d a0n:Nat)(a0:List PV)(a1n:Nat)(a1:List PV)(a2n:Nat)(a2:List PV)(a3:Int):Ae C0 Tryz.prog fu (d+1) Oi [.lst false 13 a0n a0,.lst false 3 a1n a1,.lst false 3 a2n a2,.sc (.int .i64 a3)]=(fun (call:Ak)=>Be (decide (a3<0)) (some (A8.mk [.sc (.int .i64 0),.sc (.int .i64 9)] [])) (Be (decide (a3>1099511627776)) (some (A8.mk [.sc (.int .i64 0),.sc (.int .i64 9)] [])) (Be (decide ((↑a0n:Int)<1)) (some (A8.mk [.sc (.int .i64 0),.sc (.int .i64 38)] [])) (Be (decide ((↑a0n:Int)>3)) (some (A8.mk [.sc (.int .i64 0),.sc (.int .i64 38)] [])) (Ga fu call a0n a0 a1n a1 a2n a2 a3 (fu) (a0n) (a0) (a1n) (a1) (a2n) (a2) (a3) (a0n) (a0) ((↑a0n:Int)) 0))))) (Ae C0 Tryz.prog fu d):=by kernel_rfl
abbrev Ya:FuncId:=90
theorem Aic (fu d a0n:Nat)(a0:List PV)(a1n:Nat)(a1:List PV):Ae C0 Tryz.prog fu (d+1) Ya [.lst false 1 a0n a0,.lst false 1 a1n a1]=(fun (call:Ak)=>Ar (decide (List.length a0=a0n))<|Ep (bytesOf a0) fun x1=>Ar (decide (List.length a1=a1n))<|Ep (bytesOf a1) fun x2=>some (A8.mk [.sc (.bool (Array.toList (ByteArray.data (ByteArray.mk (List.toArray x1)))==Array.toList (ByteArray.data (ByteArray.mk (List.toArray x2)))))] [])) (Ae C0 Tryz.prog fu d):=by kernel_rfl
end
section
theorem Aoc {c:Ce}{e:Int}(h:Bd c=e)(he:e≠0):G2 c=[.own 1 0 [],.sc (.int .i64 e)]:=by
 unfold G2
 rw [h,if_neg he]
theorem Ei {c:Ce}{e:Int}(h:Bd c=e)(he:e≠0):some (A8.mk [.own 1 0 [],.sc (.int .i64 e)] [])=some (A8.mk (G2 c) []):=by
 rw [Aoc h he]
def V0 (c:Ce):List It:=[⟨4,0,c.subj⟩,⟨4,0,c.iss⟩,⟨1,c.serial,E2⟩,⟨3,0,Ca (F4 c.key)⟩,⟨1,c.fr,E2⟩,⟨1,c.un,E2⟩,⟨7,(if c.auth=true then 1 else 0),E2⟩,⟨1,c.path,E2⟩,⟨1,c.model,E2⟩]
theorem Adq {c:Ce}(hw:c.wf)(h:Bd c=0):∀x∈V0 c,An1 x:=by
 unfold Bd at h
 have kl:(Ca (F4 c.key)).size=9:=by rw [F2];rfl
 have ns:E2.size=0:=rfl
 have hs:=hw.ser
 have hm:=hw.mod
 have es:Al4 E2=true:=rfl
 by_cases e1:c.subj.size<1∨32<c.subj.size
 ·rw [if_pos e1] at h;cases h
 rw [if_neg e1] at h
 by_cases e2:c.iss.size<1∨32<c.iss.size
 ·rw [if_pos e2] at h;cases h
 rw [if_neg e2] at h
 by_cases e3:okS c.subj=false
 ·rw [if_pos e3] at h;cases h
 rw [if_neg e3] at h
 by_cases e4:okS c.iss=false
 ·rw [if_pos e4] at h;cases h
 rw [if_neg e4] at h
 repeat' (split at h;· cases h)
 rw [Bool.not_eq_false] at e3 e4
 intro x hx
 simp only [V0,List.mem_cons,List.not_mem_nil,or_false] at hx
 rcases hx with rfl|rfl|rfl|rfl|rfl|rfl|rfl|rfl|rfl
 ·exact ⟨by simp,by simp only;omega,fun _=>e3,by simp [Ge],by simp⟩
 ·exact ⟨by simp,by simp only;omega,fun _=>e4,by simp [Ge],by simp⟩
 ·exact ⟨by simp,by simp only [ns];omega,fun h=>by simp at h,by simp [Ge,es],hs⟩
 ·exact ⟨by simp,by simp only [kl];omega,fun h=>by simp at h,by simp [Ge],by simp⟩
 ·exact ⟨by simp,by simp only [ns];omega,fun h=>by simp at h,by simp [Ge,es],by simp only;omega⟩
 ·exact ⟨by simp,by simp only [ns];omega,fun h=>by simp at h,by simp [Ge,es],by simp only;omega⟩
 ·exact ⟨by simp,by simp only [ns];omega,fun h=>by simp at h,by simp [Ge,es];split<;>omega,by simp only;split<;>omega⟩
 ·exact ⟨by simp,by simp only [ns];omega,fun h=>by simp at h,by simp [Ge,es],by simp only;omega⟩
 ·exact ⟨by simp,by simp only [ns];omega,fun h=>by simp at h,by simp [Ge,es],hm⟩
theorem Yt {c:Ce}(hw:c.wf)(h:Bd c=0):O7 [] 0 (Bf c):=Avh (r:=V0 c) (by simp [V0]) (by simp [V0]) (Adq hw h)
section
variable {fu d:Nat}
theorem Ant (s:ByteArray):Ae C0 Tryz.prog fu (d+1) Ac5 [.sc (.string s)]=some ⟨[.own 3 1 (Cd [⟨4,0,s⟩])],[]⟩:=by rw [Aot];rfl
theorem Vz (n:Int):Ae C0 Tryz.prog fu (d+1) Adu [.sc (.int .u64 n)]=some ⟨[.own 3 1 (Cd [⟨1,n,E2⟩])],[]⟩:=by rw [Aol];rfl
theorem Awz (b:Bool):Ae C0 Tryz.prog fu (d+1) Ady [.sc (.bool b)]=some ⟨[.own 3 1 (Cd [⟨7,(if b=true then 1 else 0),E2⟩])],[]⟩:=by rw [Ank];cases b<;>rfl
theorem Au6 (l:List Int):Ae C0 Tryz.prog fu (d+1) Aaa [.lst false 1 l.length (Ag .u8 l)]=some ⟨[.own 3 1 (Cd [⟨3,0,Ca l⟩])],[]⟩:=by
 rw [Alu]
 have L:=Aj .u8 l
 have bo:=Gz l
 simp (disch:=omega) only [Bx,L,bo]
 rfl
theorem Ari (hfu:1000≤fu){c:Ce}(hw:c.wf)(hs1:c.subj.size≤9223372036854775807)(hs2:c.iss.size≤9223372036854775807)(e1:¬(c.subj.size<1∨32<c.subj.size)) (e2:¬(c.iss.size<1∨32<c.iss.size)) (nn:Nat):
  Ez fu (Ae C0 Tryz.prog fu (d+6)) c.subj c.iss c.serial c.key.h c.key.root c.fr c.un c.auth c.path c.model c.sig.leaf c.sig.chains.length (Ag .u64 c.sig.chains) c.sig.path.length (Ag .u64 c.sig.path) (nn+1) c.subj c.iss 2 c.subj c.iss c.serial c.key.h c.key.root c.fr c.un c.auth c.path c.model c.sig.leaf c.sig.chains.length (Ag .u64 c.sig.chains) c.sig.path.length (Ag .u64 c.sig.path)=some ⟨G2 c,[]⟩:=by
 have v1:=Og (fu:=fu) (d:=d+5) c.subj hs1
 have v2:=Og (fu:=fu) (d:=d+5) c.iss hs2
 have ek:=Av6 (fu:=fu) (d:=d+4) hfu c.key
 simp only [Ky.cells] at ek
 have e90:((9:Int) != 0)=true:=rfl
 have e00:((0:Int) != 0)=false:=rfl
 rw [Ec,Dl _ _ _ (by omega)]
 cases e3:okS c.subj
 ·have hb:Bd c=6:=by unfold Bd;rw [if_neg e1,if_neg e2,if_pos e3]
  rw [e3] at v1
  rw [←Ei hb (by omega)]
  try unfold Aa
  repeat first
   |((with_reducible first|apply At|apply Ap|apply Ax|apply Ao|apply Az|apply Aw|apply Bb|apply Bc|apply A0|apply Al|apply Au|apply Am);· first|with_reducible rfl|(simp (disch:=omega) only [v1,Bool.not_true,Bool.not_false]<;>with_reducible rfl))
   |((with_reducible first|apply A4|apply A3);· first|with_reducible rfl|omega|(simp (disch:=omega) only [gT,v1,Bool.not_true,Bool.not_false]<;>omega))
   |(with_reducible apply Ay;· first|with_reducible rfl|(simp (disch:=omega) only [gF,v1,Bool.not_true,Bool.not_false]<;>omega))
  try simp (disch:=omega) only [v1,Bool.not_true,Bool.not_false]
 rw [e3] at v1
 cases e4:okS c.iss
 ·have hb:Bd c=6:=by unfold Bd;rw [if_neg e1,if_neg e2,if_neg (by simp [e3]),if_pos e4]
  rw [e4] at v2
  rw [←Ei hb (by omega)]
  try unfold Aa
  repeat first
   |((with_reducible first|apply At|apply Ap|apply Ax|apply Ao|apply Az|apply Aw|apply Bb|apply Bc|apply A0|apply Al|apply Au|apply Am);· first|with_reducible rfl|(simp (disch:=omega) only [v1,v2,Bool.not_true,Bool.not_false]<;>with_reducible rfl))
   |((with_reducible first|apply A4|apply A3);· first|with_reducible rfl|omega|(simp (disch:=omega) only [gT,v1,v2,Bool.not_true,Bool.not_false]<;>omega))
   |(with_reducible apply Ay;· first|with_reducible rfl|(simp (disch:=omega) only [gF,v1,v2,Bool.not_true,Bool.not_false]<;>omega))
  try simp (disch:=omega) only [v1,v2,Bool.not_true,Bool.not_false]
 rw [e4] at v2
 cases e5:Cl c.key.h
 rotate_left
 ·have hb:Bd c=9:=by unfold Bd;rw [if_neg e1,if_neg e2,if_neg (by simp [e3]),if_neg (by simp [e4]),if_pos e5]
  rw [e5,if_pos rfl] at ek
  rw [←Ei hb (by omega)]
  try unfold Aa
  repeat first
   |((with_reducible first|apply At|apply Ap|apply Ax|apply Ao|apply Az|apply Aw|apply Bb|apply Bc|apply A0|apply Al|apply Au|apply Am);· first|with_reducible rfl|(simp (disch:=omega) only [v1,v2,ek,e90,Bool.not_true,Bool.not_false]<;>with_reducible rfl))
   |((with_reducible first|apply A4|apply A3);· first|with_reducible rfl|omega|(simp (disch:=omega) only [gT,v1,v2,ek,e90,Bool.not_true,Bool.not_false]<;>omega))
   |(with_reducible apply Ay;· first|with_reducible rfl|(simp (disch:=omega) only [gF,v1,v2,ek,e90,Bool.not_true,Bool.not_false]<;>omega))
  try simp (disch:=omega) only [v1,v2,ek,e90,Bool.not_true,Bool.not_false]
 rw [e5,if_neg (by simp)] at ek
 have B0:Bd c=if c.fr<0 then 9 else if c.un<c.fr then 9 else if c.un>1099511627776 then 9 else if c.path<0∨2<c.path then 9 else if c.path≠0∧c.auth=false then 4 else 0:=by
  unfold Bd
  rw [if_neg e1,if_neg e2,if_neg (by simp [e3]),if_neg (by simp [e4]),if_neg (by simp [e5])]
 by_cases e6:c.fr<0
 ·have hb:Bd c=9:=by rw [B0,if_pos e6]
  rw [←Ei hb (by omega)]
  try unfold Aa
  repeat first
   |((with_reducible first|apply At|apply Ap|apply Ax|apply Ao|apply Az|apply Aw|apply Bb|apply Bc|apply A0|apply Al|apply Au|apply Am);· first|with_reducible rfl|(simp (disch:=omega) only [v1,v2,ek,e00,Bool.not_true,Bool.not_false]<;>with_reducible rfl))
   |((with_reducible first|apply A4|apply A3);· first|with_reducible rfl|omega|(simp (disch:=omega) only [gT,v1,v2,ek,e00,Bool.not_true,Bool.not_false]<;>omega))
   |(with_reducible apply Ay;· first|with_reducible rfl|(simp (disch:=omega) only [gF,v1,v2,ek,e00,Bool.not_true,Bool.not_false]<;>omega))
  try simp (disch:=omega) only [v1,v2,ek,e00,Bool.not_true,Bool.not_false]
 by_cases e7:c.un<c.fr
 ·have hb:Bd c=9:=by rw [B0,if_neg e6,if_pos e7]
  rw [←Ei hb (by omega)]
  try unfold Aa
  repeat first
   |((with_reducible first|apply At|apply Ap|apply Ax|apply Ao|apply Az|apply Aw|apply Bb|apply Bc|apply A0|apply Al|apply Au|apply Am);· first|with_reducible rfl|(simp (disch:=omega) only [v1,v2,ek,e00,Bool.not_true,Bool.not_false]<;>with_reducible rfl))
   |((with_reducible first|apply A4|apply A3);· first|with_reducible rfl|omega|(simp (disch:=omega) only [gT,v1,v2,ek,e00,Bool.not_true,Bool.not_false]<;>omega))
   |(with_reducible apply Ay;· first|with_reducible rfl|(simp (disch:=omega) only [gF,v1,v2,ek,e00,Bool.not_true,Bool.not_false]<;>omega))
  try simp (disch:=omega) only [v1,v2,ek,e00,Bool.not_true,Bool.not_false]
 by_cases e8:c.un>1099511627776
 ·have hb:Bd c=9:=by rw [B0,if_neg e6,if_neg e7,if_pos e8]
  rw [←Ei hb (by omega)]
  try unfold Aa
  repeat first
   |((with_reducible first|apply At|apply Ap|apply Ax|apply Ao|apply Az|apply Aw|apply Bb|apply Bc|apply A0|apply Al|apply Au|apply Am);· first|with_reducible rfl|(simp (disch:=omega) only [v1,v2,ek,e00,Bool.not_true,Bool.not_false]<;>with_reducible rfl))
   |((with_reducible first|apply A4|apply A3);· first|with_reducible rfl|omega|(simp (disch:=omega) only [gT,v1,v2,ek,e00,Bool.not_true,Bool.not_false]<;>omega))
   |(with_reducible apply Ay;· first|with_reducible rfl|(simp (disch:=omega) only [gF,v1,v2,ek,e00,Bool.not_true,Bool.not_false]<;>omega))
  try simp (disch:=omega) only [v1,v2,ek,e00,Bool.not_true,Bool.not_false]
 by_cases e9:c.path<0∨2<c.path
 ·have hb:Bd c=9:=by rw [B0,if_neg e6,if_neg e7,if_neg e8,if_pos e9]
  rw [←Ei hb (by omega)]
  by_cases e9':c.path<0
  ·skip
   try unfold Aa
   repeat first
    |((with_reducible first|apply At|apply Ap|apply Ax|apply Ao|apply Az|apply Aw|apply Bb|apply Bc|apply A0|apply Al|apply Au|apply Am);· first|with_reducible rfl|(simp (disch:=omega) only [v1,v2,ek,e00,Bool.not_true,Bool.not_false]<;>with_reducible rfl))
    |((with_reducible first|apply A4|apply A3);· first|with_reducible rfl|omega|(simp (disch:=omega) only [gT,v1,v2,ek,e00,Bool.not_true,Bool.not_false]<;>omega))
    |(with_reducible apply Ay;· first|with_reducible rfl|(simp (disch:=omega) only [gF,v1,v2,ek,e00,Bool.not_true,Bool.not_false]<;>omega))
   try simp (disch:=omega) only [v1,v2,ek,e00,Bool.not_true,Bool.not_false]
  ·skip
   try unfold Aa
   repeat first
    |((with_reducible first|apply At|apply Ap|apply Ax|apply Ao|apply Az|apply Aw|apply Bb|apply Bc|apply A0|apply Al|apply Au|apply Am);· first|with_reducible rfl|(simp (disch:=omega) only [v1,v2,ek,e00,Bool.not_true,Bool.not_false]<;>with_reducible rfl))
    |((with_reducible first|apply A4|apply A3);· first|with_reducible rfl|omega|(simp (disch:=omega) only [gT,v1,v2,ek,e00,Bool.not_true,Bool.not_false]<;>omega))
    |(with_reducible apply Ay;· first|with_reducible rfl|(simp (disch:=omega) only [gF,v1,v2,ek,e00,Bool.not_true,Bool.not_false]<;>omega))
   try simp (disch:=omega) only [v1,v2,ek,e00,Bool.not_true,Bool.not_false]
 by_cases e10:c.path≠0∧c.auth=false
 ·have hb:Bd c=4:=by rw [B0,if_neg e6,if_neg e7,if_neg e8,if_neg e9,if_pos e10]
  have ea:=e10.2
  have ep:(c.path != 0)=true:=by simp [e10.1]
  rw [←Ei hb (by omega)]
  try unfold Aa
  repeat first
   |((with_reducible first|apply At|apply Ap|apply Ax|apply Ao|apply Az|apply Aw|apply Bb|apply Bc|apply A0|apply Al|apply Au|apply Am);· first|with_reducible rfl|(simp (disch:=omega) only [v1,v2,ek,e00,ep,ea,Bool.not_true,Bool.not_false]<;>with_reducible rfl))
   |((with_reducible first|apply A4|apply A3);· first|with_reducible rfl|omega|(simp (disch:=omega) only [gT,v1,v2,ek,e00,ep,ea,Bool.not_true,Bool.not_false]<;>omega))
   |(with_reducible apply Ay;· first|with_reducible rfl|(simp (disch:=omega) only [gF,v1,v2,ek,e00,ep,ea,Bool.not_true,Bool.not_false]<;>omega))
  try simp (disch:=omega) only [v1,v2,ek,e00,ep,ea,Bool.not_true,Bool.not_false]
 have hz:Bd c=0:=by rw [B0,if_neg e6,if_neg e7,if_neg e8,if_neg e9,if_neg e10]
 have hfl:=Adq hw hz
 have ar:=Aqs (fu:=fu) (d:=d) hfu (vs:=(V0 c).map fun x=>[x]) (by
  intro v hv
  obtain ⟨x,hx,rfl⟩:=List.mem_map.1 hv
  exact ⟨Avd (hfl x hx),by simp⟩) (by simp [V0]) (Yt hw hz) (by simp [V0])
 have en:=Ao4 (fu:=fu) (d:=d+1) hfu (l:=Bf c) (by simp [Bf]) (by simp [Bf];omega) (Yt hw hz) (fun x hx=>(Yh hw hz x hx).1) (Nat.le_trans (Jf hz) (by omega))
 have ar':Ae C0 Tryz.prog fu (d+6) Sv [.lst false 1 9 [.lst false 3 1 (Cd [⟨4,0,c.subj⟩]),.lst false 3 1 (Cd [⟨4,0,c.iss⟩]),.lst false 3 1 (Cd [⟨1,c.serial,E2⟩]),.lst false 3 1 (Cd [⟨3,0,Ca (F4 c.key)⟩]),.lst false 3 1 (Cd [⟨1,c.fr,E2⟩]),.lst false 3 1 (Cd [⟨1,c.un,E2⟩]),.lst false 3 1 (Cd [⟨7,(if c.auth=true then 1 else 0),E2⟩]),.lst false 3 1 (Cd [⟨1,c.path,E2⟩]),.lst false 3 1 (Cd [⟨1,c.model,E2⟩])]]=some ⟨[.own 3 10 (Cd (Bf c)),.sc (.int .i64 0)],[]⟩:=ar
 have en':Ae C0 Tryz.prog fu (d+1+5) Qr [.lst false 3 10 (Cd (Bf c))]=some ⟨[.own 1 (Bk (Bf c)).length (Ag .u8 (Bk (Bf c))),.sc (.int .i64 0)],[]⟩:=en
 clear ar en hfl
 have t1:=Ant (fu:=fu) (d:=d+5) c.subj
 have t2:=Ant (fu:=fu) (d:=d+5) c.iss
 have u1:=Vz (fu:=fu) (d:=d+5) c.serial
 have u2:=Vz (fu:=fu) (d:=d+5) c.fr
 have u3:=Vz (fu:=fu) (d:=d+5) c.un
 have u4:=Vz (fu:=fu) (d:=d+5) c.path
 have u5:=Vz (fu:=fu) (d:=d+5) c.model
 have bo:=Awz (fu:=fu) (d:=d+5) c.auth
 have by_:=Au6 (fu:=fu) (d:=d+5) (F4 c.key)
 have k9:(F4 c.key).length=9:=rfl
 rw [k9] at by_
 have L9:=Aj .u8 (F4 c.key)
 rw [k9] at L9
 have tk9:List.take 9 (Ag .u8 (F4 c.key))=Ag .u8 (F4 c.key):=List.take_of_length_le (by omega)
 have wf:IntKind.wrap .u64 c.fr=c.fr:=Bq (by omega) (by omega)
 have wu:IntKind.wrap .u64 c.un=c.un:=Bq (by omega) (by omega)
 have wp:IntKind.wrap .u64 c.path=c.path:=Bq (by omega) (by omega)
 have R:G2 c=[.own 1 (Bk (Bf c)).length (Ag .u8 (Bk (Bf c))),.sc (.int .i64 0)]:=by unfold G2;rw [hz,if_pos rfl]
 have LB:=Aj .u8 (Bk (Bf c))
 have tB:=Gw .u8 (Bk (Bf c))
 rw [R]
 generalize Bk (Bf c)=W at en' LB tB ⊢
 have LI:(Cd (Bf c)).length=30:=rfl
 have tI:List.take 30 (Cd (Bf c))=Cd (Bf c):=rfl
 generalize Cd (Bf c)=I at ar' en' LI tI
 have K:∀x:It,List.take 3 (Cd [x])=Cd [x]:=fun _=>rfl
 have N:∀x:It,(Cd [x]).length=3:=fun _=>rfl
 have K1:=K ⟨4,0,c.subj⟩
 have K2:=K ⟨4,0,c.iss⟩
 have K3:=K ⟨1,c.serial,E2⟩
 have K4:=K ⟨3,0,Ca (F4 c.key)⟩
 have K5:=K ⟨1,c.fr,E2⟩
 have K6:=K ⟨1,c.un,E2⟩
 have K7:=K ⟨7,(if c.auth=true then 1 else 0),E2⟩
 have K8:=K ⟨1,c.path,E2⟩
 have K9:=K ⟨1,c.model,E2⟩
 have N1:=N ⟨4,0,c.subj⟩
 have N2:=N ⟨4,0,c.iss⟩
 have N3:=N ⟨1,c.serial,E2⟩
 have N4:=N ⟨3,0,Ca (F4 c.key)⟩
 have N5:=N ⟨1,c.fr,E2⟩
 have N6:=N ⟨1,c.un,E2⟩
 have N7:=N ⟨7,(if c.auth=true then 1 else 0),E2⟩
 have N8:=N ⟨1,c.path,E2⟩
 have N9:=N ⟨1,c.model,E2⟩
 generalize Cd [⟨4,0,c.subj⟩]=T1 at *
 generalize Cd [⟨4,0,c.iss⟩]=T2 at *
 generalize Cd [⟨1,c.serial,E2⟩]=T3 at *
 generalize Cd [⟨3,0,Ca (F4 c.key)⟩]=T4 at *
 generalize Cd [⟨1,c.fr,E2⟩]=T5 at *
 generalize Cd [⟨1,c.un,E2⟩]=T6 at *
 generalize Cd [⟨7,(if c.auth=true then 1 else 0),E2⟩]=T7 at *
 generalize Cd [⟨1,c.path,E2⟩]=T8 at *
 generalize Cd [⟨1,c.model,E2⟩]=T9 at *
 generalize Ag .u8 (F4 c.key)=KB at *
 by_cases ep:c.path=0
 ·have ep':(c.path != 0)=false:=by simp [ep]
  try unfold Aa
  repeat first
   |((with_reducible first|apply At|apply Ap|apply Ax|apply Ao|apply Az|apply Aw|apply Bb|apply Bc|apply A0|apply Al|apply Au|apply Am);· first|with_reducible rfl|(simp (disch:=omega) only [v1,v2,ek,e00,ep',t1,t2,u1,u2,u3,u4,u5,bo,by_,wf,wu,wp,L9,tk9,K1,K2,K3,K4,K5,K6,K7,K8,K9,N1,N2,N3,N4,N5,N6,N7,N8,N9,Nat.zero_add,Nat.one_mul,Nat.mul_one,Nat.reduceMul,List.drop_zero,ar',LI,tI,en',LB,tB,Bool.not_true,Bool.not_false]<;>with_reducible rfl))
   |((with_reducible first|apply A4|apply A3);· first|with_reducible rfl|omega|(simp (disch:=omega) only [gT,v1,v2,ek,e00,ep',t1,t2,u1,u2,u3,u4,u5,bo,by_,wf,wu,wp,L9,tk9,K1,K2,K3,K4,K5,K6,K7,K8,K9,N1,N2,N3,N4,N5,N6,N7,N8,N9,Nat.zero_add,Nat.one_mul,Nat.mul_one,Nat.reduceMul,List.drop_zero,ar',LI,tI,en',LB,tB,Bool.not_true,Bool.not_false]<;>omega))
   |(with_reducible apply Ay;· first|with_reducible rfl|(simp (disch:=omega) only [gF,v1,v2,ek,e00,ep',t1,t2,u1,u2,u3,u4,u5,bo,by_,wf,wu,wp,L9,tk9,K1,K2,K3,K4,K5,K6,K7,K8,K9,N1,N2,N3,N4,N5,N6,N7,N8,N9,Nat.zero_add,Nat.one_mul,Nat.mul_one,Nat.reduceMul,List.drop_zero,ar',LI,tI,en',LB,tB,Bool.not_true,Bool.not_false]<;>omega))
  try simp (disch:=omega) only [v1,v2,ek,e00,ep',t1,t2,u1,u2,u3,u4,u5,bo,by_,wf,wu,wp,L9,tk9,K1,K2,K3,K4,K5,K6,K7,K8,K9,N1,N2,N3,N4,N5,N6,N7,N8,N9,Nat.zero_add,Nat.one_mul,Nat.mul_one,Nat.reduceMul,List.drop_zero,ar',LI,tI,en',LB,tB,Bool.not_true,Bool.not_false]
 ·have ea:c.auth=true:=by
   cases h:c.auth
   ·exact absurd ⟨ep,h⟩ e10
   ·rfl
  have ep':(c.path != 0)=true:=by simp [ep]
  rw [ea] at bo
  try unfold Aa
  repeat first
   |((with_reducible first|apply At|apply Ap|apply Ax|apply Ao|apply Az|apply Aw|apply Bb|apply Bc|apply A0|apply Al|apply Au|apply Am);· first|with_reducible rfl|(simp (disch:=omega) only [v1,v2,ek,e00,ep',ea,t1,t2,u1,u2,u3,u4,u5,bo,by_,wf,wu,wp,L9,tk9,K1,K2,K3,K4,K5,K6,K7,K8,K9,N1,N2,N3,N4,N5,N6,N7,N8,N9,Nat.zero_add,Nat.one_mul,Nat.mul_one,Nat.reduceMul,List.drop_zero,ar',LI,tI,en',LB,tB,Bool.not_true,Bool.not_false]<;>with_reducible rfl))
   |((with_reducible first|apply A4|apply A3);· first|with_reducible rfl|omega|(simp (disch:=omega) only [gT,v1,v2,ek,e00,ep',ea,t1,t2,u1,u2,u3,u4,u5,bo,by_,wf,wu,wp,L9,tk9,K1,K2,K3,K4,K5,K6,K7,K8,K9,N1,N2,N3,N4,N5,N6,N7,N8,N9,Nat.zero_add,Nat.one_mul,Nat.mul_one,Nat.reduceMul,List.drop_zero,ar',LI,tI,en',LB,tB,Bool.not_true,Bool.not_false]<;>omega))
   |(with_reducible apply Ay;· first|with_reducible rfl|(simp (disch:=omega) only [gF,v1,v2,ek,e00,ep',ea,t1,t2,u1,u2,u3,u4,u5,bo,by_,wf,wu,wp,L9,tk9,K1,K2,K3,K4,K5,K6,K7,K8,K9,N1,N2,N3,N4,N5,N6,N7,N8,N9,Nat.zero_add,Nat.one_mul,Nat.mul_one,Nat.reduceMul,List.drop_zero,ar',LI,tI,en',LB,tB,Bool.not_true,Bool.not_false]<;>omega))
  try simp (disch:=omega) only [v1,v2,ek,e00,ep',ea,t1,t2,u1,u2,u3,u4,u5,bo,by_,wf,wu,wp,L9,tk9,K1,K2,K3,K4,K5,K6,K7,K8,K9,N1,N2,N3,N4,N5,N6,N7,N8,N9,Nat.zero_add,Nat.one_mul,Nat.mul_one,Nat.reduceMul,List.drop_zero,ar',LI,tI,en',LB,tB,Bool.not_true,Bool.not_false]
theorem Aqi (hfu:1000≤fu){c:Ce}(hw:c.wf)(hs1:c.subj.size≤9223372036854775807)(hs2:c.iss.size≤9223372036854775807)(nn:Nat)(hn:3≤nn):
  Ez fu (Ae C0 Tryz.prog fu (d+6)) c.subj c.iss c.serial c.key.h c.key.root c.fr c.un c.auth c.path c.model c.sig.leaf c.sig.chains.length (Ag .u64 c.sig.chains) c.sig.path.length (Ag .u64 c.sig.path) nn c.subj c.iss 0 c.subj c.iss c.serial c.key.h c.key.root c.fr c.un c.auth c.path c.model c.sig.leaf c.sig.chains.length (Ag .u64 c.sig.chains) c.sig.path.length (Ag .u64 c.sig.path)=some ⟨G2 c,[]⟩:=by
 obtain ⟨m,rfl⟩:∃m,nn=m+1+1+1:=⟨nn-3,by omega⟩
 have g0:List.getD [PV.sc (Value.string c.subj),PV.sc (Value.string c.iss)] (Int.toNat (0:Int)*1) PV.top=.sc (.string c.subj):=rfl
 have g1:List.getD [PV.sc (Value.string c.subj),PV.sc (Value.string c.iss)] (Int.toNat (1:Int)*1) PV.top=.sc (.string c.iss):=rfl
 have i1:IntKind.wrap .i64 ((0:Int)+1)=1:=rfl
 have i2:IntKind.wrap .i64 ((1:Int)+1)=2:=rfl
 by_cases e1:c.subj.size<1∨32<c.subj.size
 ·have hb:Bd c=9:=by unfold Bd;rw [if_pos e1]
  rw [←Ei hb (by omega),Ec]
  by_cases e1':c.subj.size<1
  ·skip
   try unfold Aa
   repeat first
    |((with_reducible first|apply At|apply Ap|apply Ax|apply Ao|apply Az|apply Aw|apply Bb|apply Bc|apply A0|apply Al|apply Au|apply Am);· first|with_reducible rfl|(simp (disch:=omega) only [g0]<;>with_reducible rfl))
    |((with_reducible first|apply A4|apply A3);· first|with_reducible rfl|omega|(simp (disch:=omega) only [gT,g0]<;>omega))
    |(with_reducible apply Ay;· first|with_reducible rfl|(simp (disch:=omega) only [gF,g0]<;>omega))
   try simp (disch:=omega) only [g0]
  ·skip
   try unfold Aa
   repeat first
    |((with_reducible first|apply At|apply Ap|apply Ax|apply Ao|apply Az|apply Aw|apply Bb|apply Bc|apply A0|apply Al|apply Au|apply Am);· first|with_reducible rfl|(simp (disch:=omega) only [g0]<;>with_reducible rfl))
    |((with_reducible first|apply A4|apply A3);· first|with_reducible rfl|omega|(simp (disch:=omega) only [gT,g0]<;>omega))
    |(with_reducible apply Ay;· first|with_reducible rfl|(simp (disch:=omega) only [gF,g0]<;>omega))
   try simp (disch:=omega) only [g0]
 rw [Ec]
 by_cases e2:c.iss.size<1∨32<c.iss.size
 ·have hb:Bd c=9:=by unfold Bd;rw [if_neg e1,if_pos e2]
  rw [←Ei hb (by omega)]
  try unfold Aa
  repeat first
   |((with_reducible first|apply At|apply Ap|apply Ax|apply Ao|apply Az|apply Aw|apply Bb|apply Bc|apply A0|apply Al|apply Au|apply Am);· first|with_reducible rfl|(simp (disch:=omega) only [g0,i1]<;>with_reducible rfl))
   |((with_reducible first|apply A4|apply A3);· first|with_reducible rfl|omega|(simp (disch:=omega) only [gT,g0,i1]<;>omega))
   |(with_reducible apply Ay;· first|with_reducible rfl|(simp (disch:=omega) only [gF,g0,i1]<;>omega))
  try simp (disch:=omega) only [g0,i1]
  rw [Ec]
  by_cases e2':c.iss.size<1
  ·skip
   try unfold Aa
   repeat first
    |((with_reducible first|apply At|apply Ap|apply Ax|apply Ao|apply Az|apply Aw|apply Bb|apply Bc|apply A0|apply Al|apply Au|apply Am);· first|with_reducible rfl|(simp (disch:=omega) only [g1]<;>with_reducible rfl))
    |((with_reducible first|apply A4|apply A3);· first|with_reducible rfl|omega|(simp (disch:=omega) only [gT,g1]<;>omega))
    |(with_reducible apply Ay;· first|with_reducible rfl|(simp (disch:=omega) only [gF,g1]<;>omega))
   try simp (disch:=omega) only [g1]
  ·skip
   try unfold Aa
   repeat first
    |((with_reducible first|apply At|apply Ap|apply Ax|apply Ao|apply Az|apply Aw|apply Bb|apply Bc|apply A0|apply Al|apply Au|apply Am);· first|with_reducible rfl|(simp (disch:=omega) only [g1]<;>with_reducible rfl))
    |((with_reducible first|apply A4|apply A3);· first|with_reducible rfl|omega|(simp (disch:=omega) only [gT,g1]<;>omega))
    |(with_reducible apply Ay;· first|with_reducible rfl|(simp (disch:=omega) only [gF,g1]<;>omega))
   try simp (disch:=omega) only [g1]
 try unfold Aa
 repeat first
  |((with_reducible first|apply At|apply Ap|apply Ax|apply Ao|apply Az|apply Aw|apply Bb|apply Bc|apply A0|apply Al|apply Au|apply Am);· first|with_reducible rfl|(simp (disch:=omega) only [g0,i1]<;>with_reducible rfl))
  |((with_reducible first|apply A4|apply A3);· first|with_reducible rfl|omega|(simp (disch:=omega) only [gT,g0,i1]<;>omega))
  |(with_reducible apply Ay;· first|with_reducible rfl|(simp (disch:=omega) only [gF,g0,i1]<;>omega))
 try simp (disch:=omega) only [g0,i1]
 rw [Ec]
 try unfold Aa
 repeat first
  |((with_reducible first|apply At|apply Ap|apply Ax|apply Ao|apply Az|apply Aw|apply Bb|apply Bc|apply A0|apply Al|apply Au|apply Am);· first|with_reducible rfl|(simp (disch:=omega) only [g1,i2]<;>with_reducible rfl))
  |((with_reducible first|apply A4|apply A3);· first|with_reducible rfl|omega|(simp (disch:=omega) only [gT,g1,i2]<;>omega))
  |(with_reducible apply Ay;· first|with_reducible rfl|(simp (disch:=omega) only [gF,g1,i2]<;>omega))
 try simp (disch:=omega) only [g1,i2]
 exact Ari hfu hw hs1 hs2 e1 e2 m
theorem Ahm (hfu:1000≤fu){c:Ce}(hw:c.wf)(hs1:c.subj.size≤9223372036854775807)(hs2:c.iss.size≤9223372036854775807):Ae C0 Tryz.prog fu (d+7) On [.agg c.cells]=some ⟨G2 c,[]⟩:=
 (Yz fu (d+6) c.subj c.iss c.serial c.key.h c.key.root c.fr c.un c.auth c.path c.model c.sig.leaf c.sig.chains.length (Ag .u64 c.sig.chains) c.sig.path.length (Ag .u64 c.sig.path)).trans (Aqi hfu hw hs1 hs2 fu (by omega))
end
end
section
def Ami (c:Ce):List PV:=if Bd c=0 then [.sc (.int .u64 (Rc c)),.sc (.int .i64 0)] else [.sc (.int .u64 0),.sc (.int .i64 (Bd c))]
section
variable {fu d:Nat} {c:Ce}
theorem Azf (hfu:1000≤fu)(hw:c.wf)(hs1:c.subj.size≤9223372036854775807)(hs2:c.iss.size≤9223372036854775807):Ae C0 Tryz.prog fu (d+8) Ou [.agg c.cells]=some ⟨Ami c,[]⟩:=by
 refine (Y6 fu (d+7) c.subj c.iss c.serial c.key.h c.key.root c.fr c.un c.auth c.path c.model c.sig.leaf c.sig.chains.length (Ag .u64 c.sig.chains) c.sig.path.length (Ag .u64 c.sig.path)).trans ?_
 have bq:=Ahm (fu:=fu) (d:=d) hfu hw hs1 hs2
 simp only [Ce.cells] at bq
 unfold G2 at bq
 unfold Ami
 by_cases h0:Bd c=0
 ·have lb:=Jf h0
  rw [if_pos h0] at bq
  rw [if_pos h0]
  have e00:((0:Int) != 0)=false:=rfl
  have hh:=As9 (fu:=fu) (d:=d+2) (Abn hw h0) (by omega) (by omega) (by omega) 14
  have eW:D3 14 (Bk (Bf c))=Rc c:=rfl
  rw [eW] at hh
  have L1:=Aj .u8 (Bk (Bf c))
  have t1:=Gw .u8 (Bk (Bf c))
  generalize (Bk (Bf c)).length=n1 at *
  generalize Ag .u8 (Bk (Bf c))=c1 at *
  try unfold Aa
  repeat first
   |((with_reducible first|apply At|apply Ap|apply Ax|apply Ao|apply Az|apply Aw|apply Bb|apply Bc|apply A0|apply Al|apply Au|apply Am);· first|with_reducible rfl|(simp (disch:=omega) only [bq,e00,Nat.mul_one,Nat.zero_add,List.drop_zero,L1,t1,hh]<;>with_reducible rfl))
   |((with_reducible first|apply A4|apply A3);· first|with_reducible rfl|omega|(simp (disch:=omega) only [gT,bq,e00,Nat.mul_one,Nat.zero_add,List.drop_zero,L1,t1,hh]<;>omega))
   |(with_reducible apply Ay;· first|with_reducible rfl|(simp (disch:=omega) only [gF,bq,e00,Nat.mul_one,Nat.zero_add,List.drop_zero,L1,t1,hh]<;>omega))
  try simp (disch:=omega) only [bq,e00,Nat.mul_one,Nat.zero_add,List.drop_zero,L1,t1,hh]
  all_goals rfl
 ·have hne:(Bd c != 0)=true:=by simp [h0]
  rw [if_neg h0] at bq
  rw [if_neg h0]
  try unfold Aa
  repeat first
   |((with_reducible first|apply At|apply Ap|apply Ax|apply Ao|apply Az|apply Aw|apply Bb|apply Bc|apply A0|apply Al|apply Au|apply Am);· first|with_reducible rfl|(simp (disch:=omega) only [bq,hne]<;>with_reducible rfl))
   |((with_reducible first|apply A4|apply A3);· first|with_reducible rfl|omega|(simp (disch:=omega) only [gT,bq,hne]<;>omega))
   |(with_reducible apply Ay;· first|with_reducible rfl|(simp (disch:=omega) only [gF,bq,hne]<;>omega))
  try simp (disch:=omega) only [bq,hne]
  all_goals rfl
theorem Aos (hfu:1000≤fu)(hw:c.wf)(hs1:c.subj.size≤9223372036854775807)(hs2:c.iss.size≤9223372036854775807)(k:Ky):Ae C0 Tryz.prog fu (d+9) Mf [.agg c.cells,.agg k.cells]=some ⟨[.sc (.int .i64 (Zj c k))],[]⟩:=by
 refine (V6 fu (d+8) c.subj c.iss c.serial c.key.h c.key.root c.fr c.un c.auth c.path c.model c.sig.leaf c.sig.chains.length (Ag .u64 c.sig.chains) c.sig.path.length (Ag .u64 c.sig.path) k.h k.root).trans ?_
 have bq:=Azf (fu:=fu) (d:=d) hfu hw hs1 hs2
 simp only [Ce.cells] at bq
 unfold Ami at bq
 unfold Zj
 by_cases h0:Bd c=0
 ·rw [if_pos h0] at bq
  rw [if_pos h0]
  have e00:((0:Int) != 0)=false:=rfl
  have vr:=Aco (fu:=fu) (d:=d) hfu k (Rc c) c.sig
  simp only [Ky.cells,Sg.cells] at vr
  try unfold Aa
  repeat first
   |((with_reducible first|apply At|apply Ap|apply Ax|apply Ao|apply Az|apply Aw|apply Bb|apply Bc|apply A0|apply Al|apply Au|apply Am);· first|with_reducible rfl|(simp (disch:=omega) only [bq,e00,vr]<;>with_reducible rfl))
   |((with_reducible first|apply A4|apply A3);· first|with_reducible rfl|omega|(simp (disch:=omega) only [gT,bq,e00,vr]<;>omega))
   |(with_reducible apply Ay;· first|with_reducible rfl|(simp (disch:=omega) only [gF,bq,e00,vr]<;>omega))
  try simp (disch:=omega) only [bq,e00,vr]
  all_goals rfl
 ·have hne:(Bd c != 0)=true:=by simp [h0]
  rw [if_neg h0] at bq
  rw [if_neg h0]
  try unfold Aa
  repeat first
   |((with_reducible first|apply At|apply Ap|apply Ax|apply Ao|apply Az|apply Aw|apply Bb|apply Bc|apply A0|apply Al|apply Au|apply Am);· first|with_reducible rfl|(simp (disch:=omega) only [bq,hne]<;>with_reducible rfl))
   |((with_reducible first|apply A4|apply A3);· first|with_reducible rfl|omega|(simp (disch:=omega) only [gT,bq,hne]<;>omega))
   |(with_reducible apply Ay;· first|with_reducible rfl|(simp (disch:=omega) only [gF,bq,hne]<;>omega))
  try simp (disch:=omega) only [bq,hne]
  all_goals rfl
theorem Azq (hfu:1000≤fu)(hw:c.wf)(hs1:c.subj.size≤9223372036854775807)(hs2:c.iss.size≤9223372036854775807)(hp:c.sig.path.length≤1000000000)(hf:c.sig.path.length<fu):Ae C0 Tryz.prog fu (d+8) Lu [.agg c.cells]=some ⟨Abv c,[]⟩:=by
 refine (Uz fu (d+7) c.subj c.iss c.serial c.key.h c.key.root c.fr c.un c.auth c.path c.model c.sig.leaf c.sig.chains.length (Ag .u64 c.sig.chains) c.sig.path.length (Ag .u64 c.sig.path)).trans ?_
 have bq:=Ahm (fu:=fu) (d:=d) hfu hw hs1 hs2
 simp only [Ce.cells] at bq
 have es:=Av1 (fu:=fu) (d:=d+5) hfu c.sig hp hf
 simp only [Sg.cells] at es
 unfold G2 at bq
 unfold Abv Ee
 by_cases h0:Bd c=0
 ·have lb:=Jf h0
  rw [if_pos h0] at bq
  rw [if_pos h0]
  have L1:=Aj .u8 (Bk (Bf c))
  have t1:=Gw .u8 (Bk (Bf c))
  have e00:((0:Int) != 0)=false:=rfl
  have e90:((9:Int) != 0)=true:=rfl
  have e40:((4:Int) != 0)=true:=rfl
  unfold Abk
  by_cases g1:Cl c.sig.path.length=true
  ·rw [if_pos g1] at es
   rw [if_pos g1,if_neg (by omega)]
   try unfold Aa
   repeat first
    |((with_reducible first|apply At|apply Ap|apply Ax|apply Ao|apply Az|apply Aw|apply Bb|apply Bc|apply A0|apply Al|apply Au|apply Am);· first|with_reducible rfl|(simp (disch:=omega) only [bq,es,e00,e90]<;>with_reducible rfl))
    |((with_reducible first|apply A4|apply A3);· first|with_reducible rfl|omega|(simp (disch:=omega) only [gT,bq,es,e00,e90]<;>omega))
    |(with_reducible apply Ay;· first|with_reducible rfl|(simp (disch:=omega) only [gF,bq,es,e00,e90]<;>omega))
   try simp (disch:=omega) only [bq,es,e00,e90]
   all_goals rfl
  rw [if_neg g1] at es
  rw [if_neg g1]
  by_cases g2:E6 c.sig.leaf c.sig.path.length=true
  ·rw [if_pos g2] at es
   rw [if_pos g2,if_neg (by omega)]
   try unfold Aa
   repeat first
    |((with_reducible first|apply At|apply Ap|apply Ax|apply Ao|apply Az|apply Aw|apply Bb|apply Bc|apply A0|apply Al|apply Au|apply Am);· first|with_reducible rfl|(simp (disch:=omega) only [bq,es,e00,e90]<;>with_reducible rfl))
    |((with_reducible first|apply A4|apply A3);· first|with_reducible rfl|omega|(simp (disch:=omega) only [gT,bq,es,e00,e90]<;>omega))
    |(with_reducible apply Ay;· first|with_reducible rfl|(simp (disch:=omega) only [gF,bq,es,e00,e90]<;>omega))
   try simp (disch:=omega) only [bq,es,e00,e90]
   all_goals rfl
  rw [if_neg g2] at es
  rw [if_neg g2]
  by_cases g3:c.sig.chains.length≠18
  ·rw [if_pos g3] at es
   rw [if_pos g3,if_neg (by omega)]
   try unfold Aa
   repeat first
    |((with_reducible first|apply At|apply Ap|apply Ax|apply Ao|apply Az|apply Aw|apply Bb|apply Bc|apply A0|apply Al|apply Au|apply Am);· first|with_reducible rfl|(simp (disch:=omega) only [bq,es,e00,e40]<;>with_reducible rfl))
    |((with_reducible first|apply A4|apply A3);· first|with_reducible rfl|omega|(simp (disch:=omega) only [gT,bq,es,e00,e40]<;>omega))
    |(with_reducible apply Ay;· first|with_reducible rfl|(simp (disch:=omega) only [gF,bq,es,e00,e40]<;>omega))
   try simp (disch:=omega) only [bq,es,e00,e40]
   all_goals rfl
  rw [if_neg g3] at es
  rw [if_neg g3,if_pos rfl]
  have hb4:=Fj (h:=c.sig.path.length) (by simpa using g1)
  have ls:(Ix c.sig).length=2+8*c.sig.chains.length+8*c.sig.path.length:=by
   unfold Ix
   simp only [List.length_cons,List.length_append,Cm]
   omega
  have L2:=Aj .u8 (Ix c.sig)
  have t2:=Gw .u8 (Ix c.sig)
  have ea:Ag .u8 (Bk (Bf c))++Ag .u8 (Ix c.sig)=Ag .u8 (Fo c):=by
   unfold Fo
   rw [Ag,Ag,Ag,List.flatMap_append]
  have le:(Fo c).length=(Bk (Bf c)).length+(Ix c.sig).length:=by unfold Fo;rw [List.length_append]
  have L3:=Aj .u8 (Fo c)
  have t3:List.take ((Bk (Bf c)).length+(Ix c.sig).length) (Ag .u8 (Fo c))=Ag .u8 (Fo c):=List.take_of_length_le (by omega)
  rw [le] at L3 ⊢
  generalize (Bk (Bf c)).length=n1 at *
  generalize (Ix c.sig).length=n2 at *
  generalize Ag .u8 (Bk (Bf c))=c1 at *
  generalize Ag .u8 (Ix c.sig)=c2 at *
  try unfold Aa
  repeat first
   |((with_reducible first|apply At|apply Ap|apply Ax|apply Ao|apply Az|apply Aw|apply Bb|apply Bc|apply A0|apply Al|apply Au|apply Am);· first|with_reducible rfl|(simp (disch:=omega) only [bq,es,e00,Nat.mul_one,Nat.zero_add,List.drop_zero,L1,t1,L2,t2,ea,L3,t3]<;>with_reducible rfl))
   |((with_reducible first|apply A4|apply A3);· first|with_reducible rfl|omega|(simp (disch:=omega) only [gT,bq,es,e00,Nat.mul_one,Nat.zero_add,List.drop_zero,L1,t1,L2,t2,ea,L3,t3]<;>omega))
   |(with_reducible apply Ay;· first|with_reducible rfl|(simp (disch:=omega) only [gF,bq,es,e00,Nat.mul_one,Nat.zero_add,List.drop_zero,L1,t1,L2,t2,ea,L3,t3]<;>omega))
  try simp (disch:=omega) only [bq,es,e00,Nat.mul_one,Nat.zero_add,List.drop_zero,L1,t1,L2,t2,ea,L3,t3]
  all_goals rfl
 ·have hne:(Bd c != 0)=true:=by simp [h0]
  rw [if_neg h0] at bq
  rw [if_neg h0,if_neg h0]
  try unfold Aa
  repeat first
   |((with_reducible first|apply At|apply Ap|apply Ax|apply Ao|apply Az|apply Aw|apply Bb|apply Bc|apply A0|apply Al|apply Au|apply Am);· first|with_reducible rfl|(simp (disch:=omega) only [bq,hne]<;>with_reducible rfl))
   |((with_reducible first|apply A4|apply A3);· first|with_reducible rfl|omega|(simp (disch:=omega) only [gT,bq,hne]<;>omega))
   |(with_reducible apply Ay;· first|with_reducible rfl|(simp (disch:=omega) only [gF,bq,hne]<;>omega))
  try simp (disch:=omega) only [bq,hne]
  all_goals rfl
end
end
section
theorem aci {its:List It}{i:Nat}{x:It}(h:its[i]?=some x):(Cd its).getD (i*3) .top=.sc (.int .i64 x.k)∧(Cd its).getD (i*3+1) .top=.sc (.int .u64 x.n)∧(Cd its).getD (i*3+2) .top=.sc (.string x.s):=
 ⟨D4 It.cells_len h (j:=0) (by omega),D4 It.cells_len h (j:=1) (by omega),D4 It.cells_len h (j:=2) (by omega)⟩
def Mq:List Int:=[5,4,4,1,3,1,1,7,1,1]
def Sx (its:List It):Bool:=its.map (·.k)==Mq
section
variable {fu d:Nat}
theorem Adt {call:Ak}{a0n:Nat}{a0:List PV}{its:List It}(h10:its.length=10):∀(r:List It)(rk:List Int)(i nn:Nat),its.drop i=r→Mq.drop i=rk→r.length<nn→i≤10 →
  Fn fu call a0n a0 nn its.length (Cd its) (its.length:Int) (i:Int) (Ag .i64 Mq)=some ⟨[.sc (.bool (r.map (·.k)==rk))],[]⟩
 |_,_,_,0,_,_,h,_=>by omega
 |[],rk,i,nn+1,h,hk,hn,hi=>by
  have:=drop_nil h
  obtain rfl:i=10:=by omega
  subst hk
  rw [Jh,Dl _ _ _ (by omega)]
  rfl
 |x::r,rk,i,nn+1,h,hk,hn,hi=>by
  obtain ⟨h1,h2,h3⟩:=Cf h
  simp only [List.length_cons] at hn
  obtain ⟨k,hk1⟩:∃k,Mq[i]?=some k:=⟨_,List.getElem?_eq_getElem (by show i<10;omega)⟩
  have hk2:rk=k::Mq.drop (i+1):=by
   rw [←hk,List.drop_eq_getElem_cons (by show i<10;omega)]
   congr 1
   rw [List.getElem?_eq_getElem (by show i<10;omega)] at hk1
   injection hk1
  subst hk2
  have w:IntKind.wrap .i64 ((i:Int)+1)=((i+1:Nat):Int):=by rw [Aq (by omega) (by omega)];omega
  obtain ⟨c0,c1,c2⟩:=aci h2
  have ck:=Ur (k:=.i64) hk1
  have ih:=Adt (call:=call) (a0n:=a0n) (a0:=a0) h10 r _ (i+1) nn h3 rfl (by omega) (by omega)
  rw [Jh,List.map_cons]
  by_cases e:x.k=k
  ·have b0:(x.k != k)=false:=by simp [e]
   have e1:(x.k::List.map (·.k) r==k::Mq.drop (i+1))=(List.map (·.k) r==Mq.drop (i+1)):=by simp [e]
   rw [e1,←ih]
   simp (disch:=omega) only [Bx,Int.toNat_natCast,Nat.mul_one,Nat.zero_add,c0,c1,c2,ck,b0,w]
  ·have b0:(x.k != k)=true:=by simp [e]
   have e1:(x.k::List.map (·.k) r==k::Mq.drop (i+1))=false:=by simp [e]
   rw [e1]
   simp (disch:=omega) only [Bx,Int.toNat_natCast,Nat.mul_one,Nat.zero_add,c0,c1,c2,ck,b0,w]
theorem Aut (hfu:1000≤fu)(its:List It):Ae C0 Tryz.prog fu (d+1) Me [.lst false 3 its.length (Cd its)]=some ⟨[.sc (.bool (Sx its))],[]⟩:=by
 rw [Vt]
 show Hc _ _ _ _ _ _ _=_
 rw [Ri (hnn:=by omega),Rx (hnn:=by omega)]
 by_cases h:its.length=10
 ·have b0:((its.length:Int) != 10)=false:=by simp;omega
  rw [b0,Aqm]
  exact Adt (call:=Ae C0 Tryz.prog fu d) h its Mq 0 fu rfl rfl (by omega) (by omega)
 ·have b0:((its.length:Int) != 10)=true:=by simp;omega
  have e:Sx its=false:=by
   unfold Sx
   cases q:(its.map (·.k)==Mq)
   ·rfl
   ·have:=congrArg List.length (eq_of_beq q)
    simp [Mq] at this
    omega
  rw [b0,Ar7,e]
theorem Aqh {a b:List Int}(ha:Ha a)(hb:Ha b)(h:(a.map fun n=>n.toNat.toUInt8)=(b.map fun n=>n.toNat.toUInt8)):a=b:=by
 have e:Ca a=Ca b:=by unfold Ca;rw [h]
 rw [←Nt ha,←Nt hb,e]
theorem A4v {a b:List Int}(ha:Ha a)(hb:Ha b):(Array.toList (ByteArray.data (ByteArray.mk (List.toArray (a.map fun n=>n.toNat.toUInt8))))==Array.toList (ByteArray.data (ByteArray.mk (List.toArray (b.map fun n=>n.toNat.toUInt8)))))=decide (a=b):=by
 by_cases h:a=b
 ·subst h
  simp
 ·have:(List.map (fun n=>n.toNat.toUInt8) a)≠(List.map (fun n=>n.toNat.toUInt8) b):=fun e=>h (Aqh ha hb e)
  simp only [h,decide_false]
  simpa using this
theorem Aio {a b:List Int}(ha:Ha a)(hb:Ha b):Ae C0 Tryz.prog fu (d+1) Ya [.lst false 1 a.length (Ag .u8 a),.lst false 1 b.length (Ag .u8 b)]=some ⟨[.sc (.bool (decide (a=b)))],[]⟩:=by
 rw [Aic]
 have La:=Aj .u8 a
 have Lb:=Aj .u8 b
 have ba:=Gz a
 have bb:=Gz b
 have q:=A4v ha hb
 simp (disch:=omega) only [Bx,La,Lb,ba,bb,q]
end
structure Ce.ok (c:Ce):Prop where
 ser:isU c.serial
 mod:isU c.model
 root:isU c.key.root
 sg:c.sig.ok
theorem Ce.ok.wf {c:Ce}(h:c.ok):c.wf:=⟨h.ser.1,h.mod.1⟩
def Ng (x1 x2 x3 x5 x6 x7 x8 x9:It)(k:Ky)(s:Sg):Ce:=⟨x1.s,x2.s,x3.n,k,IntKind.wrap .i64 x5.n,IntKind.wrap .i64 x6.n,x7.n==1,IntKind.wrap .i64 x8.n,x9.n,s⟩
def Akc (b:List Int):Option Ce:=
 if (Jg 1000 [] 0 b 0 []).2.2≠0 then none else
 match (Jg 1000 [] 0 b 0 []).1 with
 |[_,x1,x2,x3,x4,x5,x6,x7,x8,x9]=>(match Acf (D1 x4.s),sgD (b.drop (Jg 1000 [] 0 b 0 []).2.1) with|some k,some s=>some (Ng x1 x2 x3 x5 x6 x7 x8 x9 k s)|_,_=>none)
 |_=>none
def Oa (b:List Int):Ce × Int:=
 if b.length>512 then (ce0,8) else match Akc b with|some c=>if Ee c=0∧Fo c=b∧c.serial≤18446744073709551615∧c.model≤18446744073709551615 then (c,0) else (ce0,2)|none=>(ce0,2)
theorem Om {c:Ce}(h:Ee c=0):Bd c=0∧Cl c.key.h=false∧Cl c.sig.path.length=false∧E6 c.sig.leaf c.sig.path.length=false∧c.sig.chains.length=18∧0≤c.fr∧c.fr≤c.un∧c.un≤1099511627776∧0≤c.path∧c.path≤2:=by
 unfold Ee at h
 by_cases h0:Bd c=0
 rotate_left
 ·rw [if_neg h0] at h
  exact absurd h h0
 rw [if_pos h0] at h
 unfold Abk at h
 have hb:=h0
 unfold Bd at hb
 repeat' (split at h;· cases h)
 repeat' (split at hb;· cases hb)
 refine ⟨h0,by simp_all,by simp_all,by simp_all,by omega,by omega,by omega,by omega,by omega,by omega⟩
theorem An9 {c:Ce}(hc:c.ok)(h:Ee c=0){m:Nat}(hm:10<m):Jg m [] 0 (Fo c) 0 []=(Bf c,(Bk (Bf c)).length,0):=by
 obtain ⟨h0,h1,h2,h3,h4,h5,h6,h7,h8,h9⟩:=Om h
 have r:=Ajd (b:=Fo c) (rest:=Ix c.sig) (Bf c) [] 0 0 m [] (Yt hc.wf h0) (by
  intro x hx
  have u1:=hc.ser
  have u2:=hc.mod
  simp only [Bf,List.mem_cons,List.not_mem_nil,or_false] at hx
  rcases hx with rfl|rfl|rfl|rfl|rfl|rfl|rfl|rfl|rfl|rfl
  all_goals simp only
  all_goals try split
  all_goals omega) rfl (by simpa [Bf] using hm)
 simpa using r
theorem Aft {c:Ce}(h:Ee c=0):Ng ⟨4,0,c.subj⟩ ⟨4,0,c.iss⟩ ⟨1,c.serial,E2⟩ ⟨1,c.fr,E2⟩ ⟨1,c.un,E2⟩ ⟨7,(if c.auth=true then 1 else 0),E2⟩ ⟨1,c.path,E2⟩ ⟨1,c.model,E2⟩ c.key c.sig=c:=by
 obtain ⟨h0,h1,h2,h3,h4,h5,h6,h7,h8,h9⟩:=Om h
 obtain ⟨subj,iss,serial,key,fr,un,auth,path,model,sig⟩:=c
 simp only at *
 unfold Ng
 simp only
 rw [Aq (by omega) (by omega),Aq (by omega) (by omega),Aq (by omega) (by omega)]
 cases auth<;>rfl
theorem Agg {c:Ce}(h:Ee c=0):(Fo c).length≤400:=by
 obtain ⟨h0,h1,h2,h3,h4,h5,h6,h7,h8,h9⟩:=Om h
 have:=Jf h0
 have hb:=Fj h2
 unfold Fo Ix
 simp only [List.length_append,List.length_cons,Cm]
 omega
theorem Ay8 {c:Ce}(hw:c.wf)(h:Ee c=0):Ha (Fo c):=by
 intro x hx
 rcases List.mem_append.1 hx with hx|hx
 ·exact Abn hw (Om h).1 x hx
 ·exact A1n _ x hx
theorem Ayg {c:Ce}(hc:c.ok)(h:Ee c=0):Acf (D1 (Ca (F4 c.key)))=some c.key:=by
 rw [Nt Aqb]
 exact Ajm (Om h).2.1 hc.root
theorem A1e {c:Ce}(hc:c.ok)(h:Ee c=0):sgD ((Fo c).drop (Bk (Bf c)).length)=some c.sig:=by
 obtain ⟨h0,h1,h2,h3,h4,h5,h6,h7,h8,h9⟩:=Om h
 unfold Fo
 rw [List.drop_left' rfl]
 exact Ato hc.sg h2 h3 h4
theorem Ao6 {c:Ce}(hc:c.ok)(h:Ee c=0):Oa (Fo c)=(c,0):=by
 have r:=An9 hc h (m:=1000) (by omega)
 have k:=Ayg hc h
 have s:=A1e hc h
 have cs:=Aft h
 have l:=Agg h
 have u1:=hc.ser
 have u2:=hc.mod
 have:Akc (Fo c)=some c:=by
  unfold Akc
  rw [r]
  simp only [Bf]
  simp only [Bf] at s
  rw [if_neg (by simp),k,s]
  simp only [cs]
 unfold Oa
 rw [if_neg (by omega),this]
 simp only
 rw [if_pos ⟨h,by trivial,u1.2,u2.2⟩]
theorem Agu {x1 x2 x3 x5 x6 x7 x8 x9:It}{k:Ky}{s:Sg}(h3:OkX x3)(h9:OkX x9)(hk:isU k.root)(hs:s.ok):(Ng x1 x2 x3 x5 x6 x7 x8 x9 k s).ok:=⟨⟨h3.n0,h3.n1⟩,⟨h9.n0,h9.n1⟩,hk,hs⟩
theorem Anr {b:List Int}(hb:Ha b){c:Ce}(h:Akc b=some c):c.ok:=by
 have ok:=(Aa2 hb 1000 [] 0 0 [] (by omega) (by simp)).2
 unfold Akc at h
 split at h
 ·cases h
 ·split at h
  ·rename_i e
   rw [e] at ok
   split at h
   ·rename_i hk hs
    cases h
    exact Agu (ok _ (by simp)) (ok _ (by simp)) (Akt hk).2 (Aqd hs).1
   ·cases h
  ·cases h
theorem Auw {b:List Int}(hB:Ha b)(hl:b.length≤512)(hn:∀c:Ce,c.ok→Ee c=0→Fo c≠b):Oa b=(ce0,2):=by
 unfold Oa
 rw [if_neg (by omega)]
 cases h:Akc b with
 |none=>rfl
 |some c=>
  simp only
  rw [if_neg]
  intro ⟨h1,h2,_⟩
  exact hn c (Anr hB h) h1 h2
theorem A02 {b:List Int}(hB:Ha b):(Oa b).1.ok∧((Oa b).2=0→Ee (Oa b).1=0∧Fo (Oa b).1=b):=by
 have z:ce0.ok:=⟨⟨by decide,by decide⟩,⟨by decide,by decide⟩,⟨by decide,by decide⟩,⟨(by intro x hx;cases hx),(by intro x hx;cases hx)⟩⟩
 unfold Oa
 split
 ·exact ⟨z,fun h=>by simp at h⟩
 ·split
  ·rename_i c hc
   split
   ·rename_i h
    exact ⟨Anr hB hc,fun _=>⟨h.1,h.2.1⟩⟩
   ·exact ⟨z,fun h=>by simp at h⟩
  ·exact ⟨z,fun h=>by simp at h⟩
end
section
def Avi (b:List Int)(used:Nat):List It→Ce × Int
 |[_,x1,x2,x3,x4,x5,x6,x7,x8,x9]=>(match Acf (D1 x4.s),sgD (b.drop used) with
  |some k,some s=>if Ee (Ng x1 x2 x3 x5 x6 x7 x8 x9 k s)=0∧Fo (Ng x1 x2 x3 x5 x6 x7 x8 x9 k s)=b then (Ng x1 x2 x3 x5 x6 x7 x8 x9 k s,0) else (ce0,2)
  |_,_=>(ce0,2))
 |_=>(ce0,2)
def Ac8 (b:List Int)(r:List It × Nat × Int):Ce × Int:=
 if b.length>512 then (ce0,8) else if r.2.2≠0 then (ce0,2) else if Sx r.1=false then (ce0,2) else Avi b r.2.1 r.1
theorem Anj {its:List It}(h:Sx its=true):its.length=10:=by
 have:=congrArg List.length (eq_of_beq h)
 simpa [Mq] using this
theorem Awu {its:List It}(h:its.length=10):∃x0 x1 x2 x3 x4 x5 x6 x7 x8 x9,its=[x0,x1,x2,x3,x4,x5,x6,x7,x8,x9]:=by
 match its,h with
 |[x0,x1,x2,x3,x4,x5,x6,x7,x8,x9],_=>exact ⟨x0,x1,x2,x3,x4,x5,x6,x7,x8,x9,rfl⟩
theorem Aw9 {c:Ce}(hc:c.ok)(h:Ee c=0):Avi (Fo c) (Bk (Bf c)).length (Bf c)=(c,0):=by
 have k:=Ayg hc h
 have s:=A1e hc h
 have cs:=Aft h
 have e:Avi (Fo c) (Bk (Bf c)).length (Bf c)=(match Acf (D1 (Ca (F4 c.key))),sgD ((Fo c).drop (Bk (Bf c)).length) with
  |some k,some s=>if Ee (Ng ⟨4,0,c.subj⟩ ⟨4,0,c.iss⟩ ⟨1,c.serial,E2⟩ ⟨1,c.fr,E2⟩ ⟨1,c.un,E2⟩ ⟨7,(if c.auth=true then 1 else 0),E2⟩ ⟨1,c.path,E2⟩ ⟨1,c.model,E2⟩ k s)=0∧Fo (Ng ⟨4,0,c.subj⟩ ⟨4,0,c.iss⟩ ⟨1,c.serial,E2⟩ ⟨1,c.fr,E2⟩ ⟨1,c.un,E2⟩ ⟨7,(if c.auth=true then 1 else 0),E2⟩ ⟨1,c.path,E2⟩ ⟨1,c.model,E2⟩ k s)=Fo c then (Ng ⟨4,0,c.subj⟩ ⟨4,0,c.iss⟩ ⟨1,c.serial,E2⟩ ⟨1,c.fr,E2⟩ ⟨1,c.un,E2⟩ ⟨7,(if c.auth=true then 1 else 0),E2⟩ ⟨1,c.path,E2⟩ ⟨1,c.model,E2⟩ k s,0) else (ce0,2)
  |_,_=>(ce0,2)):=rfl
 rw [e,k,s]
 simp only [cs]
 rw [if_pos ⟨h,by trivial⟩]
theorem Auz {b:List Int}{used:Nat}{its:List It}(hx:∀x∈its,OkX x)(hn:∀c:Ce,c.ok→Ee c=0→Fo c≠b):Avi b used its=(ce0,2):=by
 unfold Avi
 split
 ·split
  ·rename_i hk hs
   rw [if_neg]
   intro ⟨h1,h2⟩
   exact hn _ (Agu (hx _ (by simp)) (hx _ (by simp)) (Akt hk).2 (Aqd hs).1) h1 h2
  ·rfl
 ·rfl
theorem Auu (c:Ce):Sx (Bf c)=true:=rfl
theorem Awp {b:List Int}(hb:Ha b){r:List It × Nat × Int}(hx:∀x∈r.1,OkX x)(hc:∀c:Ce,c.ok→Ee c=0→Fo c=b→r=(Bf c,(Bk (Bf c)).length,0)):Ac8 b r=Oa b:=by
 by_cases h5:b.length>512
 ·unfold Ac8 Oa
  rw [if_pos h5,if_pos h5]
 by_cases hex:∃c:Ce,c.ok∧Ee c=0∧Fo c=b
 ·obtain ⟨c,c1,c2,c3⟩:=hex
  have e:=hc c c1 c2 c3
  subst c3
  rw [Ao6 c1 c2,e]
  unfold Ac8
  rw [if_neg h5,if_neg (by simp),if_neg (by simp [Auu])]
  exact Aw9 c1 c2
 ·have hn:∀c:Ce,c.ok→Ee c=0→Fo c≠b:=fun c h1 h2 h3=>hex ⟨c,h1,h2,h3⟩
  rw [Auw hb (by omega) hn]
  unfold Ac8
  rw [if_neg h5,Auz hx hn]
  split
  ·rfl
  ·split<;>rfl
section
variable {fu d:Nat}
theorem Avx (hfu:1000≤fu){b:List Int}(hb:Ha b)(hl:b.length≤1000000):
  Ae C0 Tryz.prog fu (d+9) Hv [.lst false 1 b.length (Ag .u8 b)]=some ⟨[.agg (Ac8 b (Jg fu [] 0 b 0 [])).1.cells,.sc (.int .i64 (Ac8 b (Jg fu [] 0 b 0 [])).2)],[]⟩:=by
 refine (Vx fu (d+8) b.length (Ag .u8 b)).trans ?_
 have dec:=Ave (fu:=fu) (d:=d+3) hfu hb hl
 obtain ⟨hat,hox⟩:=Aa2 hb fu [] 0 0 [] (by omega) (by simp)
 generalize Jg fu [] 0 b 0 []=r at dec hat hox ⊢
 obtain ⟨its,used,e⟩:=r
 simp only at hat hox
 unfold Aq7 at dec
 simp only at dec
 unfold Ac8
 simp only
 by_cases h5:b.length>512
 ·rw [if_pos h5]
  try unfold Aa
  repeat first
   |((with_reducible first|apply At|apply Ap|apply Ax|apply Ao|apply Az|apply Aw|apply Bb|apply Bc|apply A0|apply Al|apply Au|apply Am);· first|with_reducible rfl|(simp (disch:=omega) only [Nat.mul_one]<;>with_reducible rfl))
   |((with_reducible first|apply A4|apply A3);· first|with_reducible rfl|omega|(simp (disch:=omega) only [gT,Nat.mul_one]<;>omega))
   |(with_reducible apply Ay;· first|with_reducible rfl|(simp (disch:=omega) only [gF,Nat.mul_one]<;>omega))
  try simp (disch:=omega) only [Nat.mul_one]
  all_goals rfl
 rw [if_neg h5]
 by_cases he:e=0
 rotate_left
 ·rw [if_pos he]
  have he':(e != 0)=true:=by simp [he]
  try unfold Aa
  repeat first
   |((with_reducible first|apply At|apply Ap|apply Ax|apply Ao|apply Az|apply Aw|apply Bb|apply Bc|apply A0|apply Al|apply Au|apply Am);· first|with_reducible rfl|(simp (disch:=omega) only [dec,he']<;>with_reducible rfl))
   |((with_reducible first|apply A4|apply A3);· first|with_reducible rfl|omega|(simp (disch:=omega) only [gT,dec,he']<;>omega))
   |(with_reducible apply Ay;· first|with_reducible rfl|(simp (disch:=omega) only [gF,dec,he']<;>omega))
  try simp (disch:=omega) only [dec,he']
  all_goals rfl
 rw [if_neg (by simp [he])]
 subst he
 have e00:((0:Int) != 0)=false:=rfl
 have e20:((2:Int) != 0)=true:=rfl
 have ib:=Aut (fu:=fu) (d:=d+7) hfu its
 have LT:=Rw its
 have tT:List.take (its.length*3) (Cd its)=Cd its:=List.take_of_length_le (by omega)
 cases hib:Sx its
 ·rw [hib] at ib
  rw [if_pos rfl]
  try unfold Aa
  repeat first
   |((with_reducible first|apply At|apply Ap|apply Ax|apply Ao|apply Az|apply Aw|apply Bb|apply Bc|apply A0|apply Al|apply Au|apply Am);· first|with_reducible rfl|(simp (disch:=omega) only [dec,e00,List.drop_zero,Nat.zero_add,LT,tT,ib,Bool.not_true,Bool.not_false]<;>with_reducible rfl))
   |((with_reducible first|apply A4|apply A3);· first|with_reducible rfl|omega|(simp (disch:=omega) only [gT,dec,e00,List.drop_zero,Nat.zero_add,LT,tT,ib,Bool.not_true,Bool.not_false]<;>omega))
   |(with_reducible apply Ay;· first|with_reducible rfl|(simp (disch:=omega) only [gF,dec,e00,List.drop_zero,Nat.zero_add,LT,tT,ib,Bool.not_true,Bool.not_false]<;>omega))
  try simp (disch:=omega) only [dec,e00,List.drop_zero,Nat.zero_add,LT,tT,ib,Bool.not_true,Bool.not_false]
  all_goals rfl
 rw [hib] at ib
 rw [if_neg (by simp)]
 have h10:=Anj hib
 obtain ⟨x0,x1,x2,x3,x4,x5,x6,x7,x8,x9,rfl⟩:=Awu h10
 clear hib
 have o1:=hox x1 (by simp)
 have o2:=hox x2 (by simp)
 have o3:=hox x3 (by simp)
 have o4:=hox x4 (by simp)
 have o9:=hox x9 (by simp)
 clear hox
 have g14:List.getD (Cd [x0,x1,x2,x3,x4,x5,x6,x7,x8,x9]) 14 .top=.sc (.string x4.s):=rfl
 have g5:List.getD (Cd [x0,x1,x2,x3,x4,x5,x6,x7,x8,x9]) 5 .top=.sc (.string x1.s):=rfl
 have g8:List.getD (Cd [x0,x1,x2,x3,x4,x5,x6,x7,x8,x9]) 8 .top=.sc (.string x2.s):=rfl
 have g10:List.getD (Cd [x0,x1,x2,x3,x4,x5,x6,x7,x8,x9]) 10 .top=.sc (.int .u64 x3.n):=rfl
 have g16:List.getD (Cd [x0,x1,x2,x3,x4,x5,x6,x7,x8,x9]) 16 .top=.sc (.int .u64 x5.n):=rfl
 have g19:List.getD (Cd [x0,x1,x2,x3,x4,x5,x6,x7,x8,x9]) 19 .top=.sc (.int .u64 x6.n):=rfl
 have g22:List.getD (Cd [x0,x1,x2,x3,x4,x5,x6,x7,x8,x9]) 22 .top=.sc (.int .u64 x7.n):=rfl
 have g25:List.getD (Cd [x0,x1,x2,x3,x4,x5,x6,x7,x8,x9]) 25 .top=.sc (.int .u64 x8.n):=rfl
 have g28:List.getD (Cd [x0,x1,x2,x3,x4,x5,x6,x7,x8,x9]) 28 .top=.sc (.int .u64 x9.n):=rfl
 have ln:[x0,x1,x2,x3,x4,x5,x6,x7,x8,x9].length=10:=rfl
 rw [ln] at dec ib LT tT
 generalize Cd [x0,x1,x2,x3,x4,x5,x6,x7,x8,x9]=T at *
 clear h10
 have hs4:=o4.s1
 have L4:(Cg x4.s).length=x4.s.size:=by rw [Fw,Aj,En]
 have t4:List.take x4.s.size (Cg x4.s)=Ag .u8 (D1 x4.s):=by rw [Fw,List.take_of_length_le (by rw [Aj,En];omega)]
 have dk:=At5 (fu:=fu) (d:=d+6) hfu (Agi x4.s)
 rw [En] at dk
 unfold Avi
 simp only
 cases hk:Acf (D1 x4.s) with
 |none=>
  rw [hk] at dk
  simp only [Ahk,Ky.cells] at dk
  try unfold Aa
  repeat first
   |((with_reducible first|apply At|apply Ap|apply Ax|apply Ao|apply Az|apply Aw|apply Bb|apply Bc|apply A0|apply Al|apply Au|apply Am);· first|with_reducible rfl|(simp (disch:=omega) only [dec,e00,e20,List.drop_zero,Nat.zero_add,Nat.mul_one,Nat.reduceMul,LT,tT,ib,g14,L4,t4,dk,Bool.not_true,Bool.not_false]<;>with_reducible rfl))
   |((with_reducible first|apply A4|apply A3);· first|with_reducible rfl|omega|(simp (disch:=omega) only [gT,dec,e00,e20,List.drop_zero,Nat.zero_add,Nat.mul_one,Nat.reduceMul,LT,tT,ib,g14,L4,t4,dk,Bool.not_true,Bool.not_false]<;>omega))
   |(with_reducible apply Ay;· first|with_reducible rfl|(simp (disch:=omega) only [gF,dec,e00,e20,List.drop_zero,Nat.zero_add,Nat.mul_one,Nat.reduceMul,LT,tT,ib,g14,L4,t4,dk,Bool.not_true,Bool.not_false]<;>omega))
  try simp (disch:=omega) only [dec,e00,e20,List.drop_zero,Nat.zero_add,Nat.mul_one,Nat.reduceMul,LT,tT,ib,g14,L4,t4,dk,Bool.not_true,Bool.not_false]
  all_goals rfl
 |some k=>
  rw [hk] at dk
  simp only [Ahk,Ky.cells] at dk
  obtain ⟨k1,k2⟩:=Akt hk
  have ds:=Acl (fu:=fu) (d:=d+6) hfu (l:=b.drop used) (fun x hx=>hb x (List.mem_of_mem_drop hx))
  rw [List.length_drop] at ds
  have tb:List.take (b.length-used) (List.drop used (Ag .u8 b))=Ag .u8 (b.drop used):=by rw [Fb,List.take_of_length_le (by rw [Aj,List.length_drop];omega)]
  have nu:Int.toNat (used:Int)=used:=Int.toNat_natCast used
  cases hs:sgD (b.drop used) with
  |none=>
   rw [hs] at ds
   simp only [Ads,Sg.owned] at ds
   try unfold Aa
   repeat first
    |((with_reducible first|apply At|apply Ap|apply Ax|apply Ao|apply Az|apply Aw|apply Bb|apply Bc|apply A0|apply Al|apply Au|apply Am);· first|with_reducible rfl|(simp (disch:=omega) only [dec,e00,e20,List.drop_zero,Nat.zero_add,Nat.mul_one,Nat.reduceMul,LT,tT,ib,g14,L4,t4,dk,nu,tb,ds,Bool.not_true,Bool.not_false]<;>with_reducible rfl))
    |((with_reducible first|apply A4|apply A3);· first|with_reducible rfl|omega|(simp (disch:=omega) only [gT,dec,e00,e20,List.drop_zero,Nat.zero_add,Nat.mul_one,Nat.reduceMul,LT,tT,ib,g14,L4,t4,dk,nu,tb,ds,Bool.not_true,Bool.not_false]<;>omega))
    |(with_reducible apply Ay;· first|with_reducible rfl|(simp (disch:=omega) only [gF,dec,e00,e20,List.drop_zero,Nat.zero_add,Nat.mul_one,Nat.reduceMul,LT,tT,ib,g14,L4,t4,dk,nu,tb,ds,Bool.not_true,Bool.not_false]<;>omega))
   try simp (disch:=omega) only [dec,e00,e20,List.drop_zero,Nat.zero_add,Nat.mul_one,Nat.reduceMul,LT,tT,ib,g14,L4,t4,dk,nu,tb,ds,Bool.not_true,Bool.not_false]
   all_goals rfl
  |some s=>
   rw [hs] at ds
   simp only [Ads,Sg.owned] at ds
   obtain ⟨s1,s2,s3⟩:=Aqd hs
   have cok:(Ng x1 x2 x3 x5 x6 x7 x8 x9 k s).ok:=Agu o3 o9 k2 s1
   have en:=Azq (fu:=fu) (d:=d) (c:=Ng x1 x2 x3 x5 x6 x7 x8 x9 k s) hfu cok.wf (Nat.le_trans o1.s1 (by omega)) (Nat.le_trans o2.s1 (by omega)) (Nat.le_trans s2 (by omega)) (Nat.lt_of_le_of_lt s2 (by omega))
   have ec:(Ng x1 x2 x3 x5 x6 x7 x8 x9 k s).cells=[.sc (.string x1.s),.sc (.string x2.s),.sc (.int .u64 x3.n),.sc (.int .i64 k.h),.sc (.int .u64 k.root),.sc (.int .i64 (IntKind.wrap .i64 x5.n)),.sc (.int .i64 (IntKind.wrap .i64 x6.n)),.sc (.bool (x7.n==1)),.sc (.int .i64 (IntKind.wrap .i64 x8.n)),.sc (.int .u64 x9.n),.sc (.int .i64 s.leaf),.lst false 1 s.chains.length (Ag .u64 s.chains),.lst false 1 s.path.length (Ag .u64 s.path)]:=rfl
   have eB:=fun h=>Ay8 (c:=Ng x1 x2 x3 x5 x6 x7 x8 x9 k s) cok.wf h
   have eL:=fun h=>Agg (c:=Ng x1 x2 x3 x5 x6 x7 x8 x9 k s) h
   have Lc:=Aj .u64 s.chains
   have Lp:=Aj .u64 s.path
   have tc:=Gw .u64 s.chains
   have tp:=Gw .u64 s.path
   simp only
   generalize Ng x1 x2 x3 x5 x6 x7 x8 x9 k s=c at *
   rw [ec] at en
   unfold Abv at en
   by_cases hz:Ee c=0
   rotate_left
   ·have hz':(Ee c != 0)=true:=by simp [hz]
    rw [if_neg hz] at en
    rw [if_neg (fun h=>hz h.1)]
    try unfold Aa
    repeat first
     |((with_reducible first|apply At|apply Ap|apply Ax|apply Ao|apply Az|apply Aw|apply Bb|apply Bc|apply A0|apply Al|apply Au|apply Am);· first|with_reducible rfl|(simp (disch:=omega) only [dec,e00,e20,List.drop_zero,Nat.zero_add,Nat.mul_one,Nat.reduceMul,LT,tT,ib,g14,L4,t4,dk,nu,tb,ds,g5,g8,g10,g16,g19,g22,g25,g28,Lc,Lp,tc,tp,en,hz',Bool.not_true,Bool.not_false]<;>with_reducible rfl))
     |((with_reducible first|apply A4|apply A3);· first|with_reducible rfl|omega|(simp (disch:=omega) only [gT,dec,e00,e20,List.drop_zero,Nat.zero_add,Nat.mul_one,Nat.reduceMul,LT,tT,ib,g14,L4,t4,dk,nu,tb,ds,g5,g8,g10,g16,g19,g22,g25,g28,Lc,Lp,tc,tp,en,hz',Bool.not_true,Bool.not_false]<;>omega))
     |(with_reducible apply Ay;· first|with_reducible rfl|(simp (disch:=omega) only [gF,dec,e00,e20,List.drop_zero,Nat.zero_add,Nat.mul_one,Nat.reduceMul,LT,tT,ib,g14,L4,t4,dk,nu,tb,ds,g5,g8,g10,g16,g19,g22,g25,g28,Lc,Lp,tc,tp,en,hz',Bool.not_true,Bool.not_false]<;>omega))
    try simp (disch:=omega) only [dec,e00,e20,List.drop_zero,Nat.zero_add,Nat.mul_one,Nat.reduceMul,LT,tT,ib,g14,L4,t4,dk,nu,tb,ds,g5,g8,g10,g16,g19,g22,g25,g28,Lc,Lp,tc,tp,en,hz',Bool.not_true,Bool.not_false]
    all_goals rfl
   rw [if_pos hz] at en
   have be:=Aio (fu:=fu) (d:=d+7) (eB hz) hb
   have LE:=Aj .u8 (Fo c)
   have tE:=Gw .u8 (Fo c)
   by_cases hq:Fo c=b
   ·rw [if_pos ⟨hz,hq⟩]
    simp only [hq,decide_true] at be en LE tE
    simp only [ec]
    try unfold Aa
    repeat first
     |((with_reducible first|apply At|apply Ap|apply Ax|apply Ao|apply Az|apply Aw|apply Bb|apply Bc|apply A0|apply Al|apply Au|apply Am);· first|with_reducible rfl|(simp (disch:=omega) only [dec,e00,e20,List.drop_zero,Nat.zero_add,Nat.mul_one,Nat.reduceMul,LT,tT,ib,g14,L4,t4,dk,nu,tb,ds,g5,g8,g10,g16,g19,g22,g25,g28,Lc,Lp,tc,tp,en,LE,tE,be,Bool.not_true,Bool.not_false]<;>with_reducible rfl))
     |((with_reducible first|apply A4|apply A3);· first|with_reducible rfl|omega|(simp (disch:=omega) only [gT,dec,e00,e20,List.drop_zero,Nat.zero_add,Nat.mul_one,Nat.reduceMul,LT,tT,ib,g14,L4,t4,dk,nu,tb,ds,g5,g8,g10,g16,g19,g22,g25,g28,Lc,Lp,tc,tp,en,LE,tE,be,Bool.not_true,Bool.not_false]<;>omega))
     |(with_reducible apply Ay;· first|with_reducible rfl|(simp (disch:=omega) only [gF,dec,e00,e20,List.drop_zero,Nat.zero_add,Nat.mul_one,Nat.reduceMul,LT,tT,ib,g14,L4,t4,dk,nu,tb,ds,g5,g8,g10,g16,g19,g22,g25,g28,Lc,Lp,tc,tp,en,LE,tE,be,Bool.not_true,Bool.not_false]<;>omega))
    try simp (disch:=omega) only [dec,e00,e20,List.drop_zero,Nat.zero_add,Nat.mul_one,Nat.reduceMul,LT,tT,ib,g14,L4,t4,dk,nu,tb,ds,g5,g8,g10,g16,g19,g22,g25,g28,Lc,Lp,tc,tp,en,LE,tE,be,Bool.not_true,Bool.not_false]
    all_goals rfl
   ·rw [if_neg (fun h=>hq h.2)]
    simp only [hq,decide_false] at be
    try unfold Aa
    repeat first
     |((with_reducible first|apply At|apply Ap|apply Ax|apply Ao|apply Az|apply Aw|apply Bb|apply Bc|apply A0|apply Al|apply Au|apply Am);· first|with_reducible rfl|(simp (disch:=omega) only [dec,e00,e20,List.drop_zero,Nat.zero_add,Nat.mul_one,Nat.reduceMul,LT,tT,ib,g14,L4,t4,dk,nu,tb,ds,g5,g8,g10,g16,g19,g22,g25,g28,Lc,Lp,tc,tp,en,LE,tE,be,Bool.not_true,Bool.not_false]<;>with_reducible rfl))
     |((with_reducible first|apply A4|apply A3);· first|with_reducible rfl|omega|(simp (disch:=omega) only [gT,dec,e00,e20,List.drop_zero,Nat.zero_add,Nat.mul_one,Nat.reduceMul,LT,tT,ib,g14,L4,t4,dk,nu,tb,ds,g5,g8,g10,g16,g19,g22,g25,g28,Lc,Lp,tc,tp,en,LE,tE,be,Bool.not_true,Bool.not_false]<;>omega))
     |(with_reducible apply Ay;· first|with_reducible rfl|(simp (disch:=omega) only [gF,dec,e00,e20,List.drop_zero,Nat.zero_add,Nat.mul_one,Nat.reduceMul,LT,tT,ib,g14,L4,t4,dk,nu,tb,ds,g5,g8,g10,g16,g19,g22,g25,g28,Lc,Lp,tc,tp,en,LE,tE,be,Bool.not_true,Bool.not_false]<;>omega))
    try simp (disch:=omega) only [dec,e00,e20,List.drop_zero,Nat.zero_add,Nat.mul_one,Nat.reduceMul,LT,tT,ib,g14,L4,t4,dk,nu,tb,ds,g5,g8,g10,g16,g19,g22,g25,g28,Lc,Lp,tc,tp,en,LE,tE,be,Bool.not_true,Bool.not_false]
    all_goals rfl
theorem A0g (hfu:1000≤fu){b:List Int}(hb:Ha b)(hl:b.length≤1000000):
  Ae C0 Tryz.prog fu (d+9) Hv [.lst false 1 b.length (Ag .u8 b)]=some ⟨[.agg (Oa b).1.cells,.sc (.int .i64 (Oa b).2)],[]⟩:=by
 have e:Ac8 b (Jg fu [] 0 b 0 [])=Oa b:=Awp hb (Aa2 hb fu [] 0 0 [] (by omega) (by simp)).2 (fun c c1 c2 c3=>by subst c3;exact An9 c1 c2 (by omega))
 rw [←e]
 exact Avx hfu hb hl
end
end
section
structure An where
 name:ByteArray
 key:Ky
structure Rv where
 iss:ByteArray
 ser:Int
 at_:Int
def An.cells (a:An):List PV:=[.sc (.string a.name),.sc (.int .i64 a.key.h),.sc (.int .u64 a.key.root)]
def Rv.cells (r:Rv):List PV:=[.sc (.string r.iss),.sc (.int .u64 r.ser),.sc (.int .i64 r.at_)]
def Il (l:List An):List PV:=l.flatMap An.cells
def Jq (l:List Rv):List PV:=l.flatMap Rv.cells
def Di (l:List Ce):List PV:=l.flatMap Ce.cells
theorem An.cells_len (a:An):a.cells.length=3:=rfl
theorem Rv.cells_len (r:Rv):r.cells.length=3:=rfl
theorem Ce.cells_len (c:Ce):c.cells.length=13:=rfl
theorem Aka (l:List Ce):(Di l).length=l.length*13:=Ags Ce.cells_len l
abbrev eqS (a b:ByteArray):Bool:=Array.toList (ByteArray.data a)==Array.toList (ByteArray.data b)
def Al9 (c:Ce)(now:Int)(r:Rv):Bool:=eqS r.iss c.iss&&(r.ser==c.serial&&decide (r.at_≤now))
def Ak3 (c:Ce)(now:Int)(l:List Rv):Int:=if l.any (Al9 c now)=true then 39 else 0
def Pd (c:Ce)(i:Int)(l:List Rv)(now:Int):Int:=
 if Bd c≠0 then Bd c else if now<c.fr then 38 else if now>c.un then 38 else if i>0 then (if c.auth=false then 38 else if c.path<i-1 then 38 else Ak3 c now l) else Ak3 c now l
def Tz (c:Ce):Nat→List An→Int
 |_,[]=> -1
 |i,a::r=>if eqS a.name c.iss=true∧Zj c a.key=0 then (i:Int) else Tz c (i+1) r
def Au8 (c:Ce)(l:List An):Int × Int:=if Tz c 0 l<0 then (0,38) else (Tz c 0 l,0)
def Ahr (ans:List An)(vs:List Rv)(now:Int):Nat→List Ce→Int × Int
 |_,[]=>(0,0)
 |i,[c]=>if Pd c i vs now≠0 then (0,Pd c i vs now) else Au8 c ans
 |i,c::c2::r=>if Pd c i vs now≠0 then (0,Pd c i vs now) else if eqS c.iss c2.subj=false then (0,38) else if Zj c c2.key≠0 then (0,Zj c c2.key) else Ahr ans vs now (i+1) (c2::r)
def Q6 (cs:List Ce)(ans:List An)(vs:List Rv)(now:Int):Int × Int:=
 if now<0 then (0,9) else if now>1099511627776 then (0,9) else if cs.length<1 then (0,38) else if cs.length>3 then (0,38) else Ahr ans vs now 0 cs
structure Ce.in_ (c:Ce):Prop where
 wf:c.wf
 s1:c.subj.size≤9223372036854775807
 s2:c.iss.size≤9223372036854775807
theorem cer {l:List Ce}{i:Nat}{c:Ce}(h:l[i]?=some c):
  (Di l).getD (i*13) .top=.sc (.string c.subj)∧(Di l).getD (i*13+1) .top=.sc (.string c.iss)∧(Di l).getD (i*13+1+1) .top=.sc (.int .u64 c.serial) ∧
  (Di l).getD (i*13+1+1+1) .top=.sc (.int .i64 c.key.h)∧(Di l).getD (i*13+1+1+1+1) .top=.sc (.int .u64 c.key.root)∧(Di l).getD (i*13+1+1+1+1+1) .top=.sc (.int .i64 c.fr) ∧
  (Di l).getD (i*13+1+1+1+1+1+1) .top=.sc (.int .i64 c.un)∧(Di l).getD (i*13+1+1+1+1+1+1+1) .top=.sc (.bool c.auth)∧(Di l).getD (i*13+1+1+1+1+1+1+1+1) .top=.sc (.int .i64 c.path) ∧
  (Di l).getD (i*13+1+1+1+1+1+1+1+1+1) .top=.sc (.int .u64 c.model)∧(Di l).getD (i*13+1+1+1+1+1+1+1+1+1+1) .top=.sc (.int .i64 c.sig.leaf) ∧
  (Di l).getD (i*13+1+1+1+1+1+1+1+1+1+1+1) .top=.lst false 1 c.sig.chains.length (Ag .u64 c.sig.chains)∧(Di l).getD (i*13+1+1+1+1+1+1+1+1+1+1+1+1) .top=.lst false 1 c.sig.path.length (Ag .u64 c.sig.path):=
 ⟨D4 Ce.cells_len h (j:=0) (by omega),D4 Ce.cells_len h (j:=1) (by omega),D4 Ce.cells_len h (j:=2) (by omega),D4 Ce.cells_len h (j:=3) (by omega),D4 Ce.cells_len h (j:=4) (by omega),D4 Ce.cells_len h (j:=5) (by omega),D4 Ce.cells_len h (j:=6) (by omega),D4 Ce.cells_len h (j:=7) (by omega),D4 Ce.cells_len h (j:=8) (by omega),D4 Ce.cells_len h (j:=9) (by omega),D4 Ce.cells_len h (j:=10) (by omega),D4 Ce.cells_len h (j:=11) (by omega),D4 Ce.cells_len h (j:=12) (by omega)⟩
theorem rva {l:List Rv}{i:Nat}{r:Rv}(h:l[i]?=some r):(Jq l).getD (i*3) .top=.sc (.string r.iss)∧(Jq l).getD (i*3+1) .top=.sc (.int .u64 r.ser)∧(Jq l).getD (i*3+2) .top=.sc (.int .i64 r.at_):=
 ⟨D4 Rv.cells_len h (j:=0) (by omega),D4 Rv.cells_len h (j:=1) (by omega),D4 Rv.cells_len h (j:=2) (by omega)⟩
theorem ana {l:List An}{i:Nat}{a:An}(h:l[i]?=some a):(Il l).getD (i*3) .top=.sc (.string a.name)∧(Il l).getD (i*3+1) .top=.sc (.int .i64 a.key.h)∧(Il l).getD (i*3+2) .top=.sc (.int .u64 a.key.root):=
 ⟨D4 An.cells_len h (j:=0) (by omega),D4 An.cells_len h (j:=1) (by omega),D4 An.cells_len h (j:=2) (by omega)⟩
section
variable {fu d:Nat}
theorem Aja {call:Ak}{a0_0 a0_1:ByteArray}{a0_2 a0_3 a0_4 a0_5 a0_6 a0_8 a0_9 a0_10 a1 a3:Int}{a0_7:Bool}{a0_11n a0_12n a2n:Nat}{a0_11 a0_12 a2:List PV}{c:Ce}{now:Int}{vs:List Rv}(hl:vs.length≤1000000):∀(r:List Rv)(i nn:Nat),vs.drop i=r→r.length<nn→i≤vs.length →
  Ck fu call a0_0 a0_1 a0_2 a0_3 a0_4 a0_5 a0_6 a0_7 a0_8 a0_9 a0_10 a0_11n a0_11 a0_12n a0_12 a1 a2n a2 a3 nn now vs.length (Jq vs) (vs.length:Int) (i:Int) c.subj c.iss c.serial c.key.h c.key.root c.fr c.un c.auth c.path c.model c.sig.leaf c.sig.chains.length (Ag .u64 c.sig.chains) c.sig.path.length (Ag .u64 c.sig.path) =
   some ⟨[.sc (.int .i64 (Ak3 c now r))],[]⟩
 |_,_,0,_,h,_=>by omega
 |[],i,nn+1,h,hn,hi=>by
  have:=drop_nil h
  rw [Hw,Dl _ _ _ (by omega)]
  rfl
 |r::rs,i,nn+1,h,hn,hi=>by
  obtain ⟨h1,h2,h3⟩:=Cf h
  simp only [List.length_cons] at hn
  obtain ⟨c0,c1,c2⟩:=rva h2
  have w:IntKind.wrap .i64 ((i:Int)+1)=((i+1:Nat):Int):=by rw [Aq (by omega) (by omega)];omega
  have nt:Int.toNat (i:Int)=i:=Int.toNat_natCast _
  have c2':(Jq vs).getD (i*3+1+1) .top=.sc (.int .i64 r.at_):=c2
  have ih:=Aja (call:=call) (a0_0:=a0_0) (a0_1:=a0_1) (a0_2:=a0_2) (a0_3:=a0_3) (a0_4:=a0_4) (a0_5:=a0_5) (a0_6:=a0_6) (a0_7:=a0_7) (a0_8:=a0_8) (a0_9:=a0_9) (a0_10:=a0_10) (a1:=a1) (a3:=a3) (a0_11n:=a0_11n) (a0_12n:=a0_12n) (a2n:=a2n) (a0_11:=a0_11) (a0_12:=a0_12) (a2:=a2) (c:=c) (now:=now) hl rs (i+1) nn h3 (by omega) (by omega)
  have er:Ak3 c now (r::rs)=if Al9 c now r=true then 39 else Ak3 c now rs:=by
   unfold Ak3
   rw [List.any_cons]
   cases Al9 c now r<;>rfl
  rw [er,Hw]
  unfold Al9
  cases e1:eqS r.iss c.iss
  ·rw [Bool.false_and,if_neg (by simp),←ih]
   try unfold Aa
   repeat first
    |((with_reducible first|apply At|apply Ap|apply Ax|apply Ao|apply Az|apply Aw|apply Bb|apply Bc|apply A0|apply Al|apply Au|apply Am);· first|with_reducible rfl|(simp (disch:=omega) only [nt,c0,c1,c2',e1,w]<;>with_reducible rfl))
    |((with_reducible first|apply A4|apply A3);· first|with_reducible rfl|omega|(simp (disch:=omega) only [gT,nt,c0,c1,c2',e1,w]<;>omega))
    |(with_reducible apply Ay;· first|with_reducible rfl|(simp (disch:=omega) only [gF,nt,c0,c1,c2',e1,w]<;>omega))
   try simp (disch:=omega) only [nt,c0,c1,c2',e1,w]
   all_goals rfl
  ·cases e2:(r.ser==c.serial)
   ·rw [Bool.true_and,Bool.false_and,if_neg (by simp),←ih]
    try unfold Aa
    repeat first
     |((with_reducible first|apply At|apply Ap|apply Ax|apply Ao|apply Az|apply Aw|apply Bb|apply Bc|apply A0|apply Al|apply Au|apply Am);· first|with_reducible rfl|(simp (disch:=omega) only [nt,c0,c1,c2',e1,e2,w]<;>with_reducible rfl))
     |((with_reducible first|apply A4|apply A3);· first|with_reducible rfl|omega|(simp (disch:=omega) only [gT,nt,c0,c1,c2',e1,e2,w]<;>omega))
     |(with_reducible apply Ay;· first|with_reducible rfl|(simp (disch:=omega) only [gF,nt,c0,c1,c2',e1,e2,w]<;>omega))
    try simp (disch:=omega) only [nt,c0,c1,c2',e1,e2,w]
    all_goals rfl
   ·by_cases e3:r.at_≤now
    ·rw [if_pos (by simp [e3])]
     try unfold Aa
     repeat first
      |((with_reducible first|apply At|apply Ap|apply Ax|apply Ao|apply Az|apply Aw|apply Bb|apply Bc|apply A0|apply Al|apply Au|apply Am);· first|with_reducible rfl|(simp (disch:=omega) only [nt,c0,c1,c2',e1,e2,w]<;>with_reducible rfl))
      |((with_reducible first|apply A4|apply A3);· first|with_reducible rfl|omega|(simp (disch:=omega) only [gT,nt,c0,c1,c2',e1,e2,w]<;>omega))
      |(with_reducible apply Ay;· first|with_reducible rfl|(simp (disch:=omega) only [gF,nt,c0,c1,c2',e1,e2,w]<;>omega))
     try simp (disch:=omega) only [nt,c0,c1,c2',e1,e2,w]
     all_goals rfl
    ·rw [if_neg (by simp [e3]),←ih]
     try unfold Aa
     repeat first
      |((with_reducible first|apply At|apply Ap|apply Ax|apply Ao|apply Az|apply Aw|apply Bb|apply Bc|apply A0|apply Al|apply Au|apply Am);· first|with_reducible rfl|(simp (disch:=omega) only [nt,c0,c1,c2',e1,e2,w]<;>with_reducible rfl))
      |((with_reducible first|apply A4|apply A3);· first|with_reducible rfl|omega|(simp (disch:=omega) only [gT,nt,c0,c1,c2',e1,e2,w]<;>omega))
      |(with_reducible apply Ay;· first|with_reducible rfl|(simp (disch:=omega) only [gF,nt,c0,c1,c2',e1,e2,w]<;>omega))
     try simp (disch:=omega) only [nt,c0,c1,c2',e1,e2,w]
     all_goals rfl
theorem Aso (hfu:1000≤fu){c:Ce}(hc:c.in_){vs:List Rv}(hl:vs.length≤900){i:Int}(hi:0≤i)(hi':i≤1000)(now:Int):
  Ae C0 Tryz.prog fu (d+8) Jl [.agg c.cells,.sc (.int .i64 i),.lst false 3 vs.length (Jq vs),.sc (.int .i64 now)]=some ⟨[.sc (.int .i64 (Pd c i vs now))],[]⟩:=by
 refine (Q7 fu (d+7) c.subj c.iss c.serial c.key.h c.key.root c.fr c.un c.auth c.path c.model c.sig.leaf c.sig.chains.length (Ag .u64 c.sig.chains) c.sig.path.length (Ag .u64 c.sig.path) i vs.length (Jq vs) now).trans ?_
 have bq:=Ahm (fu:=fu) (d:=d) hfu hc.wf hc.s1 hc.s2
 simp only [Ce.cells] at bq
 unfold G2 at bq
 have lp:=Aja (fu:=fu) (call:=Ae C0 Tryz.prog fu (d+7)) (a0_0:=c.subj) (a0_1:=c.iss) (a0_2:=c.serial) (a0_3:=c.key.h) (a0_4:=c.key.root) (a0_5:=c.fr) (a0_6:=c.un) (a0_7:=c.auth) (a0_8:=c.path) (a0_9:=c.model) (a0_10:=c.sig.leaf) (a1:=i) (a3:=now) (a0_11n:=c.sig.chains.length) (a0_12n:=c.sig.path.length) (a2n:=vs.length) (a0_11:=Ag .u64 c.sig.chains) (a0_12:=Ag .u64 c.sig.path) (a2:=Jq vs) (c:=c) (now:=now) (vs:=vs) (by omega) vs 0 fu rfl (by omega) (by omega)
 unfold Pd
 by_cases h0:Bd c=0
 rotate_left
 ·have hne:(Bd c != 0)=true:=by simp [h0]
  rw [if_neg h0] at bq
  rw [if_pos h0]
  try unfold Aa
  repeat first
   |((with_reducible first|apply At|apply Ap|apply Ax|apply Ao|apply Az|apply Aw|apply Bb|apply Bc|apply A0|apply Al|apply Au|apply Am);· first|with_reducible rfl|(simp (disch:=omega) only [bq,hne]<;>with_reducible rfl))
   |((with_reducible first|apply A4|apply A3);· first|with_reducible rfl|omega|(simp (disch:=omega) only [gT,bq,hne]<;>omega))
   |(with_reducible apply Ay;· first|with_reducible rfl|(simp (disch:=omega) only [gF,bq,hne]<;>omega))
  try simp (disch:=omega) only [bq,hne]
  all_goals rfl
 rw [if_pos h0] at bq
 rw [if_neg (by simp [h0])]
 have e00:((0:Int) != 0)=false:=rfl
 have w:IntKind.wrap .i64 (i-1)=i-1:=Aq (by omega) (by omega)
 by_cases h1:now<c.fr
 ·rw [if_pos h1]
  try unfold Aa
  repeat first
   |((with_reducible first|apply At|apply Ap|apply Ax|apply Ao|apply Az|apply Aw|apply Bb|apply Bc|apply A0|apply Al|apply Au|apply Am);· first|with_reducible rfl|(simp (disch:=omega) only [bq,e00]<;>with_reducible rfl))
   |((with_reducible first|apply A4|apply A3);· first|with_reducible rfl|omega|(simp (disch:=omega) only [gT,bq,e00]<;>omega))
   |(with_reducible apply Ay;· first|with_reducible rfl|(simp (disch:=omega) only [gF,bq,e00]<;>omega))
  try simp (disch:=omega) only [bq,e00]
  all_goals rfl
 rw [if_neg h1]
 by_cases h2:now>c.un
 ·rw [if_pos h2]
  try unfold Aa
  repeat first
   |((with_reducible first|apply At|apply Ap|apply Ax|apply Ao|apply Az|apply Aw|apply Bb|apply Bc|apply A0|apply Al|apply Au|apply Am);· first|with_reducible rfl|(simp (disch:=omega) only [bq,e00]<;>with_reducible rfl))
   |((with_reducible first|apply A4|apply A3);· first|with_reducible rfl|omega|(simp (disch:=omega) only [gT,bq,e00]<;>omega))
   |(with_reducible apply Ay;· first|with_reducible rfl|(simp (disch:=omega) only [gF,bq,e00]<;>omega))
  try simp (disch:=omega) only [bq,e00]
  all_goals rfl
 rw [if_neg h2]
 by_cases h3:i>0
 ·rw [if_pos h3]
  cases h4:c.auth
  ·rw [if_pos rfl]
   rw [h4] at bq
   try unfold Aa
   repeat first
    |((with_reducible first|apply At|apply Ap|apply Ax|apply Ao|apply Az|apply Aw|apply Bb|apply Bc|apply A0|apply Al|apply Au|apply Am);· first|with_reducible rfl|(simp (disch:=omega) only [bq,e00,Bool.not_false]<;>with_reducible rfl))
    |((with_reducible first|apply A4|apply A3);· first|with_reducible rfl|omega|(simp (disch:=omega) only [gT,bq,e00,Bool.not_false]<;>omega))
    |(with_reducible apply Ay;· first|with_reducible rfl|(simp (disch:=omega) only [gF,bq,e00,Bool.not_false]<;>omega))
   try simp (disch:=omega) only [bq,e00,Bool.not_false]
   all_goals rfl
  ·rw [if_neg (by simp)]
   rw [h4] at lp bq
   by_cases h5:c.path<i-1
   ·rw [if_pos h5]
    try unfold Aa
    repeat first
     |((with_reducible first|apply At|apply Ap|apply Ax|apply Ao|apply Az|apply Aw|apply Bb|apply Bc|apply A0|apply Al|apply Au|apply Am);· first|with_reducible rfl|(simp (disch:=omega) only [bq,e00,h4,w,Bool.not_true]<;>with_reducible rfl))
     |((with_reducible first|apply A4|apply A3);· first|with_reducible rfl|omega|(simp (disch:=omega) only [gT,bq,e00,h4,w,Bool.not_true]<;>omega))
     |(with_reducible apply Ay;· first|with_reducible rfl|(simp (disch:=omega) only [gF,bq,e00,h4,w,Bool.not_true]<;>omega))
    try simp (disch:=omega) only [bq,e00,h4,w,Bool.not_true]
    all_goals rfl
   ·rw [if_neg h5,←lp]
    try unfold Aa
    repeat first
     |((with_reducible first|apply At|apply Ap|apply Ax|apply Ao|apply Az|apply Aw|apply Bb|apply Bc|apply A0|apply Al|apply Au|apply Am);· first|with_reducible rfl|(simp (disch:=omega) only [bq,e00,h4,w,Bool.not_true]<;>with_reducible rfl))
     |((with_reducible first|apply A4|apply A3);· first|with_reducible rfl|omega|(simp (disch:=omega) only [gT,bq,e00,h4,w,Bool.not_true]<;>omega))
     |(with_reducible apply Ay;· first|with_reducible rfl|(simp (disch:=omega) only [gF,bq,e00,h4,w,Bool.not_true]<;>omega))
    try simp (disch:=omega) only [bq,e00,h4,w,Bool.not_true]
    all_goals rfl
 ·rw [if_neg h3,←lp]
  try unfold Aa
  repeat first
   |((with_reducible first|apply At|apply Ap|apply Ax|apply Ao|apply Az|apply Aw|apply Bb|apply Bc|apply A0|apply Al|apply Au|apply Am);· first|with_reducible rfl|(simp (disch:=omega) only [bq,e00]<;>with_reducible rfl))
   |((with_reducible first|apply A4|apply A3);· first|with_reducible rfl|omega|(simp (disch:=omega) only [gT,bq,e00]<;>omega))
   |(with_reducible apply Ay;· first|with_reducible rfl|(simp (disch:=omega) only [gF,bq,e00]<;>omega))
  try simp (disch:=omega) only [bq,e00]
  all_goals rfl
theorem Aaj (hfu:1000≤fu){a0n a1n a2n:Nat}{a0 a1 a2:List PV}{a3:Int}{c:Ce}(hc:c.in_){ans:List An}(hl:ans.length≤1000000):∀(r:List An)(i nn:Nat),ans.drop i=r→r.length<nn→i≤ans.length →
  D5 fu (Ae C0 Tryz.prog fu (d+9)) a0n a0 a1n a1 a2n a2 a3 nn ans.length (Il ans) (ans.length:Int) (i:Int) c.subj c.iss c.serial c.key.h c.key.root c.fr c.un c.auth c.path c.model c.sig.leaf c.sig.chains.length (Ag .u64 c.sig.chains) c.sig.path.length (Ag .u64 c.sig.path) =
   some ⟨(if Tz c i r<0 then [.sc (.int .i64 0),.sc (.int .i64 38)] else [.sc (.int .i64 (Tz c i r)),.sc (.int .i64 0)]),[]⟩
 |_,_,0,_,h,_=>by omega
 |[],i,nn+1,h,hn,hi=>by
  have:=drop_nil h
  rw [Kk,Dl _ _ _ (by omega)]
  rfl
 |a::rs,i,nn+1,h,hn,hi=>by
  obtain ⟨h1,h2,h3⟩:=Cf h
  simp only [List.length_cons] at hn
  obtain ⟨c0,c1,c2⟩:=ana h2
  have w:IntKind.wrap .i64 ((i:Int)+1)=((i+1:Nat):Int):=by rw [Aq (by omega) (by omega)];omega
  have nt:Int.toNat (i:Int)=i:=Int.toNat_natCast _
  have c2':(Il ans).getD (i*3+1+1) .top=.sc (.int .u64 a.key.root):=c2
  have vq:=Aos (fu:=fu) (d:=d) hfu hc.wf hc.s1 hc.s2 a.key
  simp only [Ce.cells,Ky.cells] at vq
  have ih:=Aaj hfu (a0n:=a0n) (a1n:=a1n) (a2n:=a2n) (a0:=a0) (a1:=a1) (a2:=a2) (a3:=a3) hc hl rs (i+1) nn h3 (by omega) (by omega)
  rw [Kk]
  cases e1:eqS a.name c.iss
  ·have er:Tz c i (a::rs)=Tz c (i+1) rs:=by rw [Tz,if_neg (by simp [e1])]
   rw [er,←ih]
   try unfold Aa
   repeat first
    |((with_reducible first|apply At|apply Ap|apply Ax|apply Ao|apply Az|apply Aw|apply Bb|apply Bc|apply A0|apply Al|apply Au|apply Am);· first|with_reducible rfl|(simp (disch:=omega) only [nt,c0,c1,c2',e1,w]<;>with_reducible rfl))
    |((with_reducible first|apply A4|apply A3);· first|with_reducible rfl|omega|(simp (disch:=omega) only [gT,nt,c0,c1,c2',e1,w]<;>omega))
    |(with_reducible apply Ay;· first|with_reducible rfl|(simp (disch:=omega) only [gF,nt,c0,c1,c2',e1,w]<;>omega))
   try simp (disch:=omega) only [nt,c0,c1,c2',e1,w]
   all_goals rfl
  ·by_cases e2:Zj c a.key=0
   ·have e2':(Zj c a.key==0)=true:=by simp [e2]
    have er:Tz c i (a::rs)=(i:Int):=by rw [Tz,if_pos ⟨e1,e2⟩]
    rw [er,if_neg (by omega)]
    try unfold Aa
    repeat first
     |((with_reducible first|apply At|apply Ap|apply Ax|apply Ao|apply Az|apply Aw|apply Bb|apply Bc|apply A0|apply Al|apply Au|apply Am);· first|with_reducible rfl|(simp (disch:=omega) only [nt,c0,c1,c2',e1,w,vq,e2']<;>with_reducible rfl))
     |((with_reducible first|apply A4|apply A3);· first|with_reducible rfl|omega|(simp (disch:=omega) only [gT,nt,c0,c1,c2',e1,w,vq,e2']<;>omega))
     |(with_reducible apply Ay;· first|with_reducible rfl|(simp (disch:=omega) only [gF,nt,c0,c1,c2',e1,w,vq,e2']<;>omega))
    try simp (disch:=omega) only [nt,c0,c1,c2',e1,w,vq,e2']
    all_goals rfl
   ·have e2':(Zj c a.key==0)=false:=by simp [e2]
    have er:Tz c i (a::rs)=Tz c (i+1) rs:=by rw [Tz,if_neg (by simp [e2])]
    rw [er,←ih]
    try unfold Aa
    repeat first
     |((with_reducible first|apply At|apply Ap|apply Ax|apply Ao|apply Az|apply Aw|apply Bb|apply Bc|apply A0|apply Al|apply Au|apply Am);· first|with_reducible rfl|(simp (disch:=omega) only [nt,c0,c1,c2',e1,w,vq,e2']<;>with_reducible rfl))
     |((with_reducible first|apply A4|apply A3);· first|with_reducible rfl|omega|(simp (disch:=omega) only [gT,nt,c0,c1,c2',e1,w,vq,e2']<;>omega))
     |(with_reducible apply Ay;· first|with_reducible rfl|(simp (disch:=omega) only [gF,nt,c0,c1,c2',e1,w,vq,e2']<;>omega))
    try simp (disch:=omega) only [nt,c0,c1,c2',e1,w,vq,e2']
    all_goals rfl
theorem Aj9 (hfu:1000≤fu){a0n a1n a2n:Nat}{a0 a1 a2:List PV}{a3:Int}{cs:List Ce}(hc:∀c∈cs,c.in_)(h3:cs.length≤3){ans:List An}(hl:ans.length≤900){vs:List Rv}(hv:vs.length≤900){now:Int}:∀(r:List Ce)(i nn:Nat),r≠[]→cs.drop i=r→r.length<nn→i≤cs.length →
  Ga fu (Ae C0 Tryz.prog fu (d+9)) a0n a0 a1n a1 a2n a2 a3 nn cs.length (Di cs) ans.length (Il ans) vs.length (Jq vs) now cs.length (Di cs) (cs.length:Int) (i:Int) =
   some ⟨[.sc (.int .i64 (Ahr ans vs now i r).1),.sc (.int .i64 (Ahr ans vs now i r).2)],[]⟩
 |_,_,0,_,_,h,_=>by omega
 |[],i,nn+1,hne,_,_,_=>absurd rfl hne
 |[c],i,nn+1,hne,h,hn,hi=>by
  obtain ⟨h1,h2,h3'⟩:=Cf h
  have hlast:=drop_nil h3'
  have hci:=hc c (List.mem_of_getElem? h2)
  obtain ⟨c0,c1,c2,c3,c4,c5,c6,c7,c8,c9,c10,c11,c12⟩:=cer h2
  have nt:Int.toNat (i:Int)=i:=Int.toNat_natCast _
  have lk:=Aso (fu:=fu) (d:=d+1) hfu hci hv (i:=(i:Int)) (by omega) (by omega) now
  simp only [Ce.cells] at lk
  have w:IntKind.wrap .i64 ((cs.length:Int)-1)=(i:Int):=by rw [Aq (by omega) (by omega)];omega
  have eb:((i:Int)==(i:Int))=true:=by simp
  rw [Kf]
  unfold Ahr
  by_cases hz:Pd c i vs now=0
  ·have pa:=Aaj (fu:=fu) (d:=d) hfu (a0n:=a0n) (a1n:=a1n) (a2n:=a2n) (a0:=a0) (a1:=a1) (a2:=a2) (a3:=a3) hci (ans:=ans) (by omega) ans 0 fu rfl (by omega) (by omega)
   have e0:(Pd c i vs now != 0)=false:=by simp [hz]
   have ea:(some ⟨(if Tz c 0 ans<0 then [.sc (.int .i64 0),.sc (.int .i64 38)] else [.sc (.int .i64 (Tz c 0 ans)),.sc (.int .i64 0)]),[]⟩:Option A8)=some ⟨[.sc (.int .i64 (Au8 c ans).1),.sc (.int .i64 (Au8 c ans).2)],[]⟩:=by
    unfold Au8
    split<;>rfl
   rw [ea] at pa
   rw [if_neg (by simp [hz]),←pa]
   try unfold Aa
   repeat first
    |((with_reducible first|apply At|apply Ap|apply Ax|apply Ao|apply Az|apply Aw|apply Bb|apply Bc|apply A0|apply Al|apply Au|apply Am);· first|with_reducible rfl|(simp (disch:=omega) only [nt,c0,c1,c2,c3,c4,c5,c6,c7,c8,c9,c10,c11,c12,lk,e0,w,eb]<;>with_reducible rfl))
    |((with_reducible first|apply A4|apply A3);· first|with_reducible rfl|omega|(simp (disch:=omega) only [gT,nt,c0,c1,c2,c3,c4,c5,c6,c7,c8,c9,c10,c11,c12,lk,e0,w,eb]<;>omega))
    |(with_reducible apply Ay;· first|with_reducible rfl|(simp (disch:=omega) only [gF,nt,c0,c1,c2,c3,c4,c5,c6,c7,c8,c9,c10,c11,c12,lk,e0,w,eb]<;>omega))
   try simp (disch:=omega) only [nt,c0,c1,c2,c3,c4,c5,c6,c7,c8,c9,c10,c11,c12,lk,e0,w,eb]
   all_goals rfl
  ·have e0:(Pd c i vs now != 0)=true:=by simp [hz]
   rw [if_pos hz]
   try unfold Aa
   repeat first
    |((with_reducible first|apply At|apply Ap|apply Ax|apply Ao|apply Az|apply Aw|apply Bb|apply Bc|apply A0|apply Al|apply Au|apply Am);· first|with_reducible rfl|(simp (disch:=omega) only [nt,c0,c1,c2,c3,c4,c5,c6,c7,c8,c9,c10,c11,c12,lk,e0]<;>with_reducible rfl))
    |((with_reducible first|apply A4|apply A3);· first|with_reducible rfl|omega|(simp (disch:=omega) only [gT,nt,c0,c1,c2,c3,c4,c5,c6,c7,c8,c9,c10,c11,c12,lk,e0]<;>omega))
    |(with_reducible apply Ay;· first|with_reducible rfl|(simp (disch:=omega) only [gF,nt,c0,c1,c2,c3,c4,c5,c6,c7,c8,c9,c10,c11,c12,lk,e0]<;>omega))
   try simp (disch:=omega) only [nt,c0,c1,c2,c3,c4,c5,c6,c7,c8,c9,c10,c11,c12,lk,e0]
   all_goals rfl
 |c::e::r,i,nn+1,hne,h,hn,hi=>by
  obtain ⟨h1,h2,h3'⟩:=Cf h
  obtain ⟨k1,k2,k3⟩:=Cf h3'
  simp only [List.length_cons] at hn
  have hci:=hc c (List.mem_of_getElem? h2)
  obtain ⟨c0,c1,c2,c3,c4,c5,c6,c7,c8,c9,c10,c11,c12⟩:=cer h2
  obtain ⟨q0,q1,q2,q3,q4,_⟩:=cer k2
  have nt:Int.toNat (i:Int)=i:=Int.toNat_natCast _
  have nt1:Int.toNat ((i+1:Nat):Int)=i+1:=Int.toNat_natCast _
  have lk:=Aso (fu:=fu) (d:=d+1) hfu hci hv (i:=(i:Int)) (by omega) (by omega) now
  simp only [Ce.cells] at lk
  have w:IntKind.wrap .i64 ((cs.length:Int)-1)=(cs.length:Int)-1:=Aq (by omega) (by omega)
  have w1:IntKind.wrap .i64 ((i:Int)+1)=((i+1:Nat):Int):=by rw [Aq (by omega) (by omega)];omega
  have eb:((i:Int)==(cs.length:Int)-1)=false:=by simp;omega
  have q3':(Di cs).getD ((i+1)*13+3) .top=.sc (.int .i64 e.key.h):=q3
  have q4':(Di cs).getD ((i+1)*13+3+1) .top=.sc (.int .u64 e.key.root):=q4
  have vq:=Aos (fu:=fu) (d:=d) hfu hci.wf hci.s1 hci.s2 e.key
  simp only [Ce.cells,Ky.cells] at vq
  rw [Kf]
  unfold Ahr
  by_cases hz:Pd c i vs now=0
  rotate_left
  ·have e0:(Pd c i vs now != 0)=true:=by simp [hz]
   rw [if_pos hz]
   try unfold Aa
   repeat first
    |((with_reducible first|apply At|apply Ap|apply Ax|apply Ao|apply Az|apply Aw|apply Bb|apply Bc|apply A0|apply Al|apply Au|apply Am);· first|with_reducible rfl|(simp (disch:=omega) only [nt,c0,c1,c2,c3,c4,c5,c6,c7,c8,c9,c10,c11,c12,lk,e0]<;>with_reducible rfl))
    |((with_reducible first|apply A4|apply A3);· first|with_reducible rfl|omega|(simp (disch:=omega) only [gT,nt,c0,c1,c2,c3,c4,c5,c6,c7,c8,c9,c10,c11,c12,lk,e0]<;>omega))
    |(with_reducible apply Ay;· first|with_reducible rfl|(simp (disch:=omega) only [gF,nt,c0,c1,c2,c3,c4,c5,c6,c7,c8,c9,c10,c11,c12,lk,e0]<;>omega))
   try simp (disch:=omega) only [nt,c0,c1,c2,c3,c4,c5,c6,c7,c8,c9,c10,c11,c12,lk,e0]
   all_goals rfl
  have e0:(Pd c i vs now != 0)=false:=by simp [hz]
  rw [if_neg (by simp [hz])]
  cases es:eqS c.iss e.subj
  ·rw [if_pos rfl]
   try unfold Aa
   repeat first
    |((with_reducible first|apply At|apply Ap|apply Ax|apply Ao|apply Az|apply Aw|apply Bb|apply Bc|apply A0|apply Al|apply Au|apply Am);· first|with_reducible rfl|(simp (disch:=omega) only [nt,nt1,Nat.add_zero,c0,c1,c2,c3,c4,c5,c6,c7,c8,c9,c10,c11,c12,lk,e0,w,eb,w1,q0,es,Bool.not_false]<;>with_reducible rfl))
    |((with_reducible first|apply A4|apply A3);· first|with_reducible rfl|omega|(simp (disch:=omega) only [gT,nt,nt1,Nat.add_zero,c0,c1,c2,c3,c4,c5,c6,c7,c8,c9,c10,c11,c12,lk,e0,w,eb,w1,q0,es,Bool.not_false]<;>omega))
    |(with_reducible apply Ay;· first|with_reducible rfl|(simp (disch:=omega) only [gF,nt,nt1,Nat.add_zero,c0,c1,c2,c3,c4,c5,c6,c7,c8,c9,c10,c11,c12,lk,e0,w,eb,w1,q0,es,Bool.not_false]<;>omega))
   try simp (disch:=omega) only [nt,nt1,Nat.add_zero,c0,c1,c2,c3,c4,c5,c6,c7,c8,c9,c10,c11,c12,lk,e0,w,eb,w1,q0,es,Bool.not_false]
   all_goals rfl
  rw [if_neg (by simp)]
  by_cases hv':Zj c e.key=0
  ·have v0:(Zj c e.key != 0)=false:=by simp [hv']
   have ih:=Aj9 hfu (a0n:=a0n) (a1n:=a1n) (a2n:=a2n) (a0:=a0) (a1:=a1) (a2:=a2) (a3:=a3) hc h3 hl hv (now:=now) (e::r) (i+1) nn (by simp) h3' (by simp only [List.length_cons];omega) (by omega)
   rw [if_neg (by simp [hv']),←ih]
   try unfold Aa
   repeat first
    |((with_reducible first|apply At|apply Ap|apply Ax|apply Ao|apply Az|apply Aw|apply Bb|apply Bc|apply A0|apply Al|apply Au|apply Am);· first|with_reducible rfl|(simp (disch:=omega) only [nt,nt1,Nat.add_zero,c0,c1,c2,c3,c4,c5,c6,c7,c8,c9,c10,c11,c12,lk,e0,w,eb,w1,q0,es,q3',q4',vq,v0,Bool.not_true]<;>with_reducible rfl))
    |((with_reducible first|apply A4|apply A3);· first|with_reducible rfl|omega|(simp (disch:=omega) only [gT,nt,nt1,Nat.add_zero,c0,c1,c2,c3,c4,c5,c6,c7,c8,c9,c10,c11,c12,lk,e0,w,eb,w1,q0,es,q3',q4',vq,v0,Bool.not_true]<;>omega))
    |(with_reducible apply Ay;· first|with_reducible rfl|(simp (disch:=omega) only [gF,nt,nt1,Nat.add_zero,c0,c1,c2,c3,c4,c5,c6,c7,c8,c9,c10,c11,c12,lk,e0,w,eb,w1,q0,es,q3',q4',vq,v0,Bool.not_true]<;>omega))
   try simp (disch:=omega) only [nt,nt1,Nat.add_zero,c0,c1,c2,c3,c4,c5,c6,c7,c8,c9,c10,c11,c12,lk,e0,w,eb,w1,q0,es,q3',q4',vq,v0,Bool.not_true]
   all_goals rfl
  ·have v0:(Zj c e.key != 0)=true:=by simp [hv']
   rw [if_pos hv']
   try unfold Aa
   repeat first
    |((with_reducible first|apply At|apply Ap|apply Ax|apply Ao|apply Az|apply Aw|apply Bb|apply Bc|apply A0|apply Al|apply Au|apply Am);· first|with_reducible rfl|(simp (disch:=omega) only [nt,nt1,Nat.add_zero,c0,c1,c2,c3,c4,c5,c6,c7,c8,c9,c10,c11,c12,lk,e0,w,eb,w1,q0,es,q3',q4',vq,v0,Bool.not_true]<;>with_reducible rfl))
    |((with_reducible first|apply A4|apply A3);· first|with_reducible rfl|omega|(simp (disch:=omega) only [gT,nt,nt1,Nat.add_zero,c0,c1,c2,c3,c4,c5,c6,c7,c8,c9,c10,c11,c12,lk,e0,w,eb,w1,q0,es,q3',q4',vq,v0,Bool.not_true]<;>omega))
    |(with_reducible apply Ay;· first|with_reducible rfl|(simp (disch:=omega) only [gF,nt,nt1,Nat.add_zero,c0,c1,c2,c3,c4,c5,c6,c7,c8,c9,c10,c11,c12,lk,e0,w,eb,w1,q0,es,q3',q4',vq,v0,Bool.not_true]<;>omega))
   try simp (disch:=omega) only [nt,nt1,Nat.add_zero,c0,c1,c2,c3,c4,c5,c6,c7,c8,c9,c10,c11,c12,lk,e0,w,eb,w1,q0,es,q3',q4',vq,v0,Bool.not_true]
   all_goals rfl
theorem Axd (hfu:1000≤fu){cs:List Ce}(hc:∀c∈cs,c.in_){ans:List An}(hl:ans.length≤900){vs:List Rv}(hv:vs.length≤900)(now:Int):
  Ae C0 Tryz.prog fu (d+10) Oi [.lst false 13 cs.length (Di cs),.lst false 3 ans.length (Il ans),.lst false 3 vs.length (Jq vs),.sc (.int .i64 now)]=some ⟨[.sc (.int .i64 (Q6 cs ans vs now).1),.sc (.int .i64 (Q6 cs ans vs now).2)],[]⟩:=by
 rw [Zk]
 unfold Q6
 by_cases h1:now<0
 ·rw [if_pos h1]
  try unfold Aa
  repeat first
   |((with_reducible first|apply At|apply Ap|apply Ax|apply Ao|apply Az|apply Aw|apply Bb|apply Bc|apply A0|apply Al|apply Au|apply Am);· first|with_reducible rfl|(simp (disch:=omega) only [Nat.mul_one]<;>with_reducible rfl))
   |((with_reducible first|apply A4|apply A3);· first|with_reducible rfl|omega|(simp (disch:=omega) only [gT,Nat.mul_one]<;>omega))
   |(with_reducible apply Ay;· first|with_reducible rfl|(simp (disch:=omega) only [gF,Nat.mul_one]<;>omega))
  try simp (disch:=omega) only [Nat.mul_one]
  all_goals rfl
 rw [if_neg h1]
 by_cases h2:now>1099511627776
 ·rw [if_pos h2]
  try unfold Aa
  repeat first
   |((with_reducible first|apply At|apply Ap|apply Ax|apply Ao|apply Az|apply Aw|apply Bb|apply Bc|apply A0|apply Al|apply Au|apply Am);· first|with_reducible rfl|(simp (disch:=omega) only [Nat.mul_one]<;>with_reducible rfl))
   |((with_reducible first|apply A4|apply A3);· first|with_reducible rfl|omega|(simp (disch:=omega) only [gT,Nat.mul_one]<;>omega))
   |(with_reducible apply Ay;· first|with_reducible rfl|(simp (disch:=omega) only [gF,Nat.mul_one]<;>omega))
  try simp (disch:=omega) only [Nat.mul_one]
  all_goals rfl
 rw [if_neg h2]
 by_cases h3:cs.length<1
 ·rw [if_pos h3]
  try unfold Aa
  repeat first
   |((with_reducible first|apply At|apply Ap|apply Ax|apply Ao|apply Az|apply Aw|apply Bb|apply Bc|apply A0|apply Al|apply Au|apply Am);· first|with_reducible rfl|(simp (disch:=omega) only [Nat.mul_one]<;>with_reducible rfl))
   |((with_reducible first|apply A4|apply A3);· first|with_reducible rfl|omega|(simp (disch:=omega) only [gT,Nat.mul_one]<;>omega))
   |(with_reducible apply Ay;· first|with_reducible rfl|(simp (disch:=omega) only [gF,Nat.mul_one]<;>omega))
  try simp (disch:=omega) only [Nat.mul_one]
  all_goals rfl
 rw [if_neg h3]
 by_cases h4:cs.length>3
 ·rw [if_pos h4]
  try unfold Aa
  repeat first
   |((with_reducible first|apply At|apply Ap|apply Ax|apply Ao|apply Az|apply Aw|apply Bb|apply Bc|apply A0|apply Al|apply Au|apply Am);· first|with_reducible rfl|(simp (disch:=omega) only [Nat.mul_one]<;>with_reducible rfl))
   |((with_reducible first|apply A4|apply A3);· first|with_reducible rfl|omega|(simp (disch:=omega) only [gT,Nat.mul_one]<;>omega))
   |(with_reducible apply Ay;· first|with_reducible rfl|(simp (disch:=omega) only [gF,Nat.mul_one]<;>omega))
  try simp (disch:=omega) only [Nat.mul_one]
  all_goals rfl
 rw [if_neg h4]
 have lp:=Aj9 (fu:=fu) (d:=d) hfu (a0n:=cs.length) (a1n:=ans.length) (a2n:=vs.length) (a0:=Di cs) (a1:=Il ans) (a2:=Jq vs) (a3:=now) hc (by omega) hl hv (now:=now) cs 0 fu (by intro h;subst h;simp at h3) rfl (by omega) (by omega)
 rw [←lp]
 try unfold Aa
 repeat first
  |((with_reducible first|apply At|apply Ap|apply Ax|apply Ao|apply Az|apply Aw|apply Bb|apply Bc|apply A0|apply Al|apply Au|apply Am);· first|with_reducible rfl|(simp (disch:=omega) only [Nat.mul_one]<;>with_reducible rfl))
  |((with_reducible first|apply A4|apply A3);· first|with_reducible rfl|omega|(simp (disch:=omega) only [gT,Nat.mul_one]<;>omega))
  |(with_reducible apply Ay;· first|with_reducible rfl|(simp (disch:=omega) only [gF,Nat.mul_one]<;>omega))
 try simp (disch:=omega) only [Nat.mul_one]
 all_goals rfl
end
end
section
set_option maxRecDepth 100000
abbrev Ij:FuncId:=30
theorem Qv (fu d:Nat)(a0_0:Int)(a0_1:ByteArray)(a0_2n:Nat)(a0_2:List PV)(a0_3n:Nat)(a0_3:List PV)(a0_4n:Nat)(a0_4:List PV)(a0_5:Int)(a0_6n:Nat)(a0_6:List PV)(a0_7:ByteArray)(a1_0 a1_1:Int)(a1_2 a1_3 a1_4:Int)(a1_5n:Nat)(a1_5:List PV)(a1_6 a1_7 a2:Int):Ae C0 Tryz.prog fu (d+1) Ij [.agg [.sc (.int .i64 a0_0),.sc (.string a0_1),.lst false 1 a0_2n a0_2,.lst false 1 a0_3n a0_3,.lst false 1 a0_4n a0_4,.sc (.int .i64 a0_5),.lst false 1 a0_6n a0_6,.sc (.string a0_7)],.agg [.sc (.int .u64 a1_0),.sc (.int .i64 a1_1),.sc (.int .i64 a1_2),.sc (.int .i64 a1_3),.sc (.int .u64 a1_4),.lst false 1 a1_5n a1_5,.sc (.int .i64 a1_6),.sc (.int .u64 a1_7)],.sc (.int .u64 a2)]=(fun (call:Ak)=>Be (decide ((↑a0_4n:Int)>0)) (some (A8.mk [.agg [.sc (.int .i64 0),.sc (.int .i64 0),.sc (.int .i64 0)],.sc (.int .i64 4)] [])) (Ah (call 55 [.lst false 1 a0_3n a0_3]) fun x1 x2=>Ac x2<|Ab x1 fun x3 x4=>Co x3 fun x5=>Ab x5 fun x6 x7=>Af .i64 x6 fun x8=>Ab x7 fun x9 B5=>C8 1 x9 fun B9 Cy=>Ab B5 fun C7 Cr=>C8 1 C7 fun C3 Df=>Ac Cr<|Ab x4 fun Ds D2=>Af .i64 Ds fun D0=>Ac D2<|Be (D0 != 0) (some (A8.mk [.agg [.sc (.int .i64 0),.sc (.int .i64 0),.sc (.int .i64 0)],.sc (.int .i64 D0)] [])) (Ar (decide (0+B9*1≤List.length Cy))<|Ar (decide (0+C3*1≤List.length Df))<|Ah (call 56 [.agg [.sc (.int .i64 a1_6),.sc (.int .u64 a1_7)],.sc (.int .u64 a2),.agg [.sc (.int .i64 x8),.lst false 1 B9 (List.take (B9*1) (List.drop 0 Cy)),.lst false 1 C3 (List.take (C3*1) (List.drop 0 Df))]]) fun D6 F1=>Ac F1<|Ab D6 fun Ey Fs=>Af .i64 Ey fun De=>Ac Fs<|Be (De != 0) (some (A8.mk [.agg [.sc (.int .i64 0),.sc (.int .i64 0),.sc (.int .i64 0)],.sc (.int .i64 De)] [])) (some (A8.mk [.agg [.sc (.int .i64 1),.sc (.int .i64 (-1)),.sc (.int .i64 x8)],.sc (.int .i64 0)] []))))) (Ae C0 Tryz.prog fu d):=by kernel_rfl
abbrev Ib:FuncId:=31
noncomputable def Dc (fu:Nat)(call:Ak)(a0_0:Int)(a0_1:ByteArray)(a0_2n:Nat)(a0_2:List PV)(a0_3n:Nat)(a0_3:List PV)(a0_4n:Nat)(a0_4:List PV)(a0_5:Int)(a0_6n:Nat)(a0_6:List PV)(a0_7:ByteArray)(a1_0 a1_1:Int)(a1_2 a1_3 a1_4:Int)(a1_5n:Nat)(a1_5:List PV)(a1_6 a1_7 a2:Int)(a3n:Nat)(a3:List PV)(a4n:Nat)(a4:List PV)(a5:Int)(nn:Nat)(y0:Int)(y1:Nat)(y2:List PV)(y3:Nat)(y4:List PV)(y5:Int)(y6 y7:Nat)(y8:List PV)(y9 Fu Ka:Int)(Ot:ByteArray)(Uq:Nat)(y14:List PV)(Zm:Nat)(Zl:List PV)(y17:Nat)(y18:List PV)(y19:Int)(y20:Nat)(y21:List PV)(y22:ByteArray)(y23 y24:Int)(y25 y26 y27:Int)(y28:Nat)(y29:List PV)(y30 y31:Int)(y32 y33 y34:Int)(y35:List PV):Option A8:=C5 C0 Tryz.prog fu call 31 Tryz.f31 (B7 Tryz.f31) [.agg [.sc (.int .i64 a0_0),.sc (.string a0_1),.lst false 1 a0_2n a0_2,.lst false 1 a0_3n a0_3,.lst false 1 a0_4n a0_4,.sc (.int .i64 a0_5),.lst false 1 a0_6n a0_6,.sc (.string a0_7)],.agg [.sc (.int .u64 a1_0),.sc (.int .i64 a1_1),.sc (.int .i64 a1_2),.sc (.int .i64 a1_3),.sc (.int .u64 a1_4),.lst false 1 a1_5n a1_5,.sc (.int .i64 a1_6),.sc (.int .u64 a1_7)],.sc (.int .u64 a2),.lst false 3 a3n a3,.lst false 3 a4n a4,.sc (.int .i64 a5)] [.r,.r,.r,.l,.r,.l] nn ⟨lk [(2,(.sc (.int .u64 y0))),(3,(.lst false 3 y1 y2)),(4,(.lst false 3 y3 y4)),(5,(.sc (.int .i64 y5))),(6,(.ptr 6 0)),(7,(.ptr 7 0)),(12,(.ptr 12 0)),(14,(.view 14 13 0 y6)),(36,(.lst false 1 y7 y8)),(37,(.sc (.int .i64 y9))),(38,(.sc (.int .i64 Fu)))],Gv [(6,(.st [(.sc (.int .i64 Ka)),(.sc (.string Ot)),(.lst false 1 Uq y14),(.lst false 1 Zm Zl),(.lst false 1 y17 y18),(.sc (.int .i64 y19)),(.lst false 1 y20 y21),(.sc (.string y22))])),(7,(.st [(.sc (.int .u64 y23)),(.sc (.int .i64 y24)),(.sc (.int .i64 y25)),(.sc (.int .i64 y26)),(.sc (.int .u64 y27)),(.lst false 1 y28 y29),(.sc (.int .i64 y30)),(.sc (.int .u64 y31))])),(12,(.st [(.sc (.int .i64 y32)),(.sc (.int .i64 y33)),(.sc (.int .i64 y34))])),(14,(.ar false y35))]⟩
theorem G7 (fu:Nat)(call:Ak)(a0_0:Int)(a0_1:ByteArray)(a0_2n:Nat)(a0_2:List PV)(a0_3n:Nat)(a0_3:List PV)(a0_4n:Nat)(a0_4:List PV)(a0_5:Int)(a0_6n:Nat)(a0_6:List PV)(a0_7:ByteArray)(a1_0 a1_1:Int)(a1_2 a1_3 a1_4:Int)(a1_5n:Nat)(a1_5:List PV)(a1_6 a1_7 a2:Int)(a3n:Nat)(a3:List PV)(a4n:Nat)(a4:List PV)(a5:Int)(nn:Nat)(y0:Int)(y1:Nat)(y2:List PV)(y3:Nat)(y4:List PV)(y5:Int)(y6 y7:Nat)(y8:List PV)(y9 Fu Ka:Int)(Ot:ByteArray)(Uq:Nat)(y14:List PV)(Zm:Nat)(Zl:List PV)(y17:Nat)(y18:List PV)(y19:Int)(y20:Nat)(y21:List PV)(y22:ByteArray)(y23 y24:Int)(y25 y26 y27:Int)(y28:Nat)(y29:List PV)(y30 y31:Int)(y32 y33 y34:Int)(y35:List PV):Dc fu call a0_0 a0_1 a0_2n a0_2 a0_3n a0_3 a0_4n a0_4 a0_5 a0_6n a0_6 a0_7 a1_0 a1_1 a1_2 a1_3 a1_4 a1_5n a1_5 a1_6 a1_7 a2 a3n a3 a4n a4 a5 (nn+1) y0 y1 y2 y3 y4 y5 y6 y7 y8 y9 Fu Ka Ot Uq y14 Zm Zl y17 y18 y19 y20 y21 y22 y23 y24 y25 y26 y27 y28 y29 y30 y31 y32 y33 y34 y35=(Be (decide (Fu<y9)) (Ar (decide (0≤Fu)&&decide (Fu<(↑y7:Int)))<|Jn 1 (List.getD y8 (Int.toNat Fu*1) .top) fun x1 x2 x3=>Ah (call 57 [.lst false 1 x2 x3]) fun x4 x5=>Ac x5<|Ab x4 fun x6 x7=>Co x6 fun x8=>Ab x8 fun x9 B5=>Cu x9 fun B9=>Ab B5 fun Cy C7=>Cu Cy fun Cr=>Ab C7 fun C3 Df=>Af .u64 C3 fun Ds=>Ab Df fun D2 D0=>Af .i64 D2 fun D6=>Ab D0 fun F1 Ey=>Af .u64 F1 fun Fs=>Ab Ey fun De C9=>Af .i64 De fun Eu=>Ab C9 fun F6 Ef=>Af .i64 F6 fun Hn=>Ab Ef fun Hg G3=>Bz Hg fun Ie=>Ab G3 fun Hy Ir=>Af .i64 Hy fun G4=>Ab Ir fun Jr Nb=>Af .u64 Jr fun Fq=>Ab Nb fun Ih Q8=>Af .i64 Ih fun Sk=>Ab Q8 fun Mj Po=>Jn 1 Mj fun Of Oy Q2=>Ab Po fun Ra Rj=>Jn 1 Ra fun Qc Si Tg=>Ac Rj<|Ab x7 fun Sh Lr=>Af .i64 Sh fun Ui=>Ac Lr<|Be (Ui != 0) (some (A8.mk [.agg [.sc (.int .i64 0),.sc (.int .i64 0),.sc (.int .i64 0)],.sc (.int .i64 Ui)] [])) (Ar (decide (y6*13≤List.length y35)&&true&&decide ((y6+1)*152≤1099511627776)&&decide (y6+1≤1099511627776))<|Aa (y6+1) fun R0=>Aa (List.take (y6*13) y35++[.sc (.string B9),.sc (.string Cr),.sc (.int .u64 Ds),.sc (.int .i64 D6),.sc (.int .u64 Fs),.sc (.int .i64 Eu),.sc (.int .i64 Hn),.sc (.bool Ie),.sc (.int .i64 G4),.sc (.int .u64 Fq),.sc (.int .i64 Sk),.lst false 1 Oy Q2,.lst false 1 Si Tg]) fun Um=>Aa (IntKind.wrap .i64 (Fu+1)) fun Sf=>Dc fu call a0_0 a0_1 a0_2n a0_2 a0_3n a0_3 a0_4n a0_4 a0_5 a0_6n a0_6 a0_7 a1_0 a1_1 a1_2 a1_3 a1_4 a1_5n a1_5 a1_6 a1_7 a2 a3n a3 a4n a4 a5 (nn) (y0) (y1) (y2) (y3) (y4) (y5) R0 (y7) (y8) (y9) Sf (Ka) (Ot) (Uq) (y14) (Zm) (Zl) (y17) (y18) (y19) (y20) (y21) (y22) (y23) (y24) (y25) (y26) (y27) (y28) (y29) (y30) (y31) (y32) (y33) (y34) Um)) (Ar (decide (0<(↑y6:Int)))<|Cu (List.getD y35 0 .top) fun S9=>Cu (List.getD y35 1 .top) fun Tx=>Af .u64 (List.getD y35 2 .top) fun Uu=>Af .i64 (List.getD y35 3 .top) fun Ux=>Af .u64 (List.getD y35 4 .top) fun X6=>Af .i64 (List.getD y35 5 .top) fun Xc=>Af .i64 (List.getD y35 6 .top) fun Us=>Bz (List.getD y35 7 .top) fun Ut=>Af .i64 (List.getD y35 8 .top) fun Tp=>Af .u64 (List.getD y35 9 .top) fun Tf=>Af .i64 (List.getD y35 10 .top) fun Y4=>Jn 1 (List.getD y35 11 .top) fun Vb V7 Vi=>Jn 1 (List.getD y35 12 .top) fun Xe Zc Uw=>Be Ut (some (A8.mk [.agg [.sc (.int .i64 0),.sc (.int .i64 0),.sc (.int .i64 0)],.sc (.int .i64 38)] [])) (Be (Tf==0) (some (A8.mk [.agg [.sc (.int .i64 0),.sc (.int .i64 0),.sc (.int .i64 0)],.sc (.int .i64 38)] [])) (Be (Tf != y27) (some (A8.mk [.agg [.sc (.int .i64 0),.sc (.int .i64 0),.sc (.int .i64 0)],.sc (.int .i64 38)] [])) (Ah (call 55 [.lst false 1 Zm Zl]) fun Xb x76=>Ac x76<|Ab Xb fun Xw Zf=>Co Xw fun x79=>Ab x79 fun x80 x81=>Af .i64 x80 fun x82=>Ab x81 fun x83 x84=>C8 1 x83 fun x85 x86=>Ab x84 fun x87 x88=>C8 1 x87 fun Uk x90=>Ac x88<|Ab Zf fun x91 x92=>Af .i64 x91 fun x93=>Ac x92<|Be (x93 != 0) (some (A8.mk [.agg [.sc (.int .i64 0),.sc (.int .i64 0),.sc (.int .i64 0)],.sc (.int .i64 x93)] [])) (Ar (decide (0+x85*1≤List.length x86))<|Ar (decide (0+Uk*1≤List.length x90))<|Ah (call 56 [.agg [.sc (.int .i64 Ux),.sc (.int .u64 X6)],.sc (.int .u64 y0),.agg [.sc (.int .i64 x82),.lst false 1 x85 (List.take (x85*1) (List.drop 0 x86)),.lst false 1 Uk (List.take (Uk*1) (List.drop 0 x90))]]) fun x94 x95=>Ac x95<|Ab x94 fun x96 x97=>Af .i64 x96 fun x98=>Ac x97<|Be (x98 != 0) (some (A8.mk [.agg [.sc (.int .i64 0),.sc (.int .i64 0),.sc (.int .i64 0)],.sc (.int .i64 x98)] [])) (Ar (decide (0+y6*13≤List.length y35))<|Ah (call 58 [.lst false 13 y6 (List.take (y6*13) (List.drop 0 y35)),.lst false 3 y1 y2,.lst false 3 y3 y4,.sc (.int .i64 y5)]) fun x99 Xa=>Ac Xa<|Ab x99 fun Th Hf=>Af .i64 Th fun Kd=>Ab Hf fun Y3 Sn=>Af .i64 Y3 fun Qs=>Ac Sn<|Be (Qs != 0) (some (A8.mk [.agg [.sc (.int .i64 0),.sc (.int .i64 0),.sc (.int .i64 0)],.sc (.int .i64 Qs)] [])) (some (A8.mk [.agg [.sc (.int .i64 2),.sc (.int .i64 Kd),.sc (.int .i64 (-1))],.sc (.int .i64 0)] []))))))))):=by kernel_rfl
theorem Pq (fu d:Nat)(a0_0:Int)(a0_1:ByteArray)(a0_2n:Nat)(a0_2:List PV)(a0_3n:Nat)(a0_3:List PV)(a0_4n:Nat)(a0_4:List PV)(a0_5:Int)(a0_6n:Nat)(a0_6:List PV)(a0_7:ByteArray)(a1_0 a1_1:Int)(a1_2 a1_3 a1_4:Int)(a1_5n:Nat)(a1_5:List PV)(a1_6 a1_7 a2:Int)(a3n:Nat)(a3:List PV)(a4n:Nat)(a4:List PV)(a5:Int):Ae C0 Tryz.prog fu (d+1) Ib [.agg [.sc (.int .i64 a0_0),.sc (.string a0_1),.lst false 1 a0_2n a0_2,.lst false 1 a0_3n a0_3,.lst false 1 a0_4n a0_4,.sc (.int .i64 a0_5),.lst false 1 a0_6n a0_6,.sc (.string a0_7)],.agg [.sc (.int .u64 a1_0),.sc (.int .i64 a1_1),.sc (.int .i64 a1_2),.sc (.int .i64 a1_3),.sc (.int .u64 a1_4),.lst false 1 a1_5n a1_5,.sc (.int .i64 a1_6),.sc (.int .u64 a1_7)],.sc (.int .u64 a2),.lst false 3 a3n a3,.lst false 3 a4n a4,.sc (.int .i64 a5)]=(fun (call:Ak)=>Be (decide ((↑a0_4n:Int)<1)) (some (A8.mk [.agg [.sc (.int .i64 0),.sc (.int .i64 0),.sc (.int .i64 0)],.sc (.int .i64 38)] [])) (Be (decide ((↑a0_4n:Int)>3)) (some (A8.mk [.agg [.sc (.int .i64 0),.sc (.int .i64 0),.sc (.int .i64 0)],.sc (.int .i64 38)] [])) (Dc fu call a0_0 a0_1 a0_2n a0_2 a0_3n a0_3 a0_4n a0_4 a0_5 a0_6n a0_6 a0_7 a1_0 a1_1 a1_2 a1_3 a1_4 a1_5n a1_5 a1_6 a1_7 a2 a3n a3 a4n a4 a5 (fu) (a2) (a3n) (a3) (a4n) (a4) (a5) 0 (a0_4n) (a0_4) ((↑a0_4n:Int)) 0 (a0_0) (a0_1) (a0_2n) (a0_2) (a0_3n) (a0_3) (a0_4n) (a0_4) (a0_5) (a0_6n) (a0_6) (a0_7) (a1_0) (a1_1) (a1_2) (a1_3) (a1_4) (a1_5n) (a1_5) (a1_6) (a1_7) 0 0 0 ([])))) (Ae C0 Tryz.prog fu d):=by kernel_rfl
abbrev L6:FuncId:=14
theorem Vf (fu d:Nat)(a0_0:Int)(a0_1:ByteArray)(a0_2n:Nat)(a0_2:List PV)(a0_3n:Nat)(a0_3:List PV)(a0_4n:Nat)(a0_4:List PV)(a0_5:Int)(a0_6n:Nat)(a0_6:List PV)(a0_7:ByteArray)(a1_0 a1_1:Int)(a1_2 a1_3 a1_4:Int)(a1_5n:Nat)(a1_5:List PV)(a1_6 a1_7 a2:Int)(a3n:Nat)(a3:List PV)(a4n:Nat)(a4:List PV)(a5:Int):Ae C0 Tryz.prog fu (d+1) L6 [.agg [.sc (.int .i64 a0_0),.sc (.string a0_1),.lst false 1 a0_2n a0_2,.lst false 1 a0_3n a0_3,.lst false 1 a0_4n a0_4,.sc (.int .i64 a0_5),.lst false 1 a0_6n a0_6,.sc (.string a0_7)],.agg [.sc (.int .u64 a1_0),.sc (.int .i64 a1_1),.sc (.int .i64 a1_2),.sc (.int .i64 a1_3),.sc (.int .u64 a1_4),.lst false 1 a1_5n a1_5,.sc (.int .i64 a1_6),.sc (.int .u64 a1_7)],.sc (.int .u64 a2),.lst false 3 a3n a3,.lst false 3 a4n a4,.sc (.int .i64 a5)]=(fun (call:Ak)=>Aa (Dz .i64 a1_1 64) fun x1=>Be (x1==0) (some (A8.mk [.agg [.sc (.int .i64 0),.sc (.int .i64 0),.sc (.int .i64 0)],.sc (.int .i64 4)] [])) (Be (a0_5==0) (Be (decide ((↑a0_3n:Int)>0)) (some (A8.mk [.agg [.sc (.int .i64 0),.sc (.int .i64 0),.sc (.int .i64 0)],.sc (.int .i64 4)] [])) (Be (decide ((↑a0_4n:Int)>0)) (some (A8.mk [.agg [.sc (.int .i64 0),.sc (.int .i64 0),.sc (.int .i64 0)],.sc (.int .i64 4)] [])) (some (A8.mk [.agg [.sc (.int .i64 0),.sc (.int .i64 (-1)),.sc (.int .i64 (-1))],.sc (.int .i64 0)] [])))) (Be (a0_5==1) (Ah (call 30 [.agg [.sc (.int .i64 a0_0),.sc (.string a0_1),.lst false 1 a0_2n a0_2,.lst false 1 a0_3n a0_3,.lst false 1 a0_4n a0_4,.sc (.int .i64 a0_5),.lst false 1 a0_6n a0_6,.sc (.string a0_7)],.agg [.sc (.int .u64 a1_0),.sc (.int .i64 a1_1),.sc (.int .i64 a1_2),.sc (.int .i64 a1_3),.sc (.int .u64 a1_4),.lst false 1 a1_5n a1_5,.sc (.int .i64 a1_6),.sc (.int .u64 a1_7)],.sc (.int .u64 a2)]) fun x2 x3=>Ac x3<|Ab x2 fun x4 x5=>Co x4 fun x6=>Ab x6 fun x7 x8=>Af .i64 x7 fun x9=>Ab x8 fun B5 B9=>Af .i64 B5 fun Cy=>Ab B9 fun C7 Cr=>Af .i64 C7 fun C3=>Ac Cr<|Ab x5 fun Df Ds=>Af .i64 Df fun D2=>Ac Ds<|some (A8.mk [.agg [.sc (.int .i64 x9),.sc (.int .i64 Cy),.sc (.int .i64 C3)],.sc (.int .i64 D2)] [])) (Be (a0_5==2) (Ah (call 31 [.agg [.sc (.int .i64 a0_0),.sc (.string a0_1),.lst false 1 a0_2n a0_2,.lst false 1 a0_3n a0_3,.lst false 1 a0_4n a0_4,.sc (.int .i64 a0_5),.lst false 1 a0_6n a0_6,.sc (.string a0_7)],.agg [.sc (.int .u64 a1_0),.sc (.int .i64 a1_1),.sc (.int .i64 a1_2),.sc (.int .i64 a1_3),.sc (.int .u64 a1_4),.lst false 1 a1_5n a1_5,.sc (.int .i64 a1_6),.sc (.int .u64 a1_7)],.sc (.int .u64 a2),.lst false 3 a3n a3,.lst false 3 a4n a4,.sc (.int .i64 a5)]) fun D0 D6=>Ac D6<|Ab D0 fun F1 Ey=>Co F1 fun Fs=>Ab Fs fun De C9=>Af .i64 De fun Eu=>Ab C9 fun F6 Ef=>Af .i64 F6 fun Hn=>Ab Ef fun Hg G3=>Af .i64 Hg fun Ie=>Ac G3<|Ab Ey fun Hy Ir=>Af .i64 Hy fun G4=>Ac Ir<|some (A8.mk [.agg [.sc (.int .i64 Eu),.sc (.int .i64 Hn),.sc (.int .i64 Ie)],.sc (.int .i64 G4)] [])) (some (A8.mk [.agg [.sc (.int .i64 0),.sc (.int .i64 0),.sc (.int .i64 0)],.sc (.int .i64 3)] [])))))) (Ae C0 Tryz.prog fu d):=by kernel_rfl
abbrev J0:FuncId:=20
theorem Ss (fu d:Nat):Ae C0 Tryz.prog fu (d+1) J0 []=(fun (call:Ak)=>Ah (call 16 [.sc (.int .u64 9),.sc (.int .i64 1)]) fun x1 x2=>Ac x2<|Ab x1 fun x3 x4=>Co x3 fun x5=>Ab x5 fun x6 x7=>Af .i64 x6 fun x8=>Ab x7 fun x9 B5=>Af .u64 x9 fun B9=>Ac B5<|Ac x4<|Ah (call 16 [.sc (.int .u64 32),.sc (.int .i64 1)]) fun Cy C7=>Ac C7<|Ab Cy fun Cr C3=>Co Cr fun Df=>Ab Df fun Ds D2=>Af .i64 Ds fun D0=>Ab D2 fun D6 F1=>Af .u64 D6 fun Ey=>Ac F1<|Ac C3<|some (A8.mk [.own 3 2 [.sc (.string (ByteArray.mk #[(114:UInt8),(111:UInt8),(111:UInt8),(116:UInt8)])),.sc (.int .i64 x8),.sc (.int .u64 B9),.sc (.string (ByteArray.mk #[(114:UInt8),(111:UInt8),(111:UInt8),(116:UInt8)])),.sc (.int .i64 D0),.sc (.int .u64 Ey)]] [])) (Ae C0 Tryz.prog fu d):=by kernel_rfl
end
end Go.Proofs.YtgfgmbpmghgbkaaGreatDoor.Pv
