/-
  The proof of AttestationSelf, part 6 (texts At1 GnD Dk1 GnN Mk1 Mk2 GnO Mk3 Mk4 Mk5 Mk6 Mk7 La1 GnPs La2 Ex1 Ex2).
-/
import Derived.Test.YtgfgmbpmghgbkaaGreatDoorSE
import Derived.Test.YtgfgmbpmghgbkaaGreatDoorRows
import Derived.Lib.BytesEntry
import Derived.Lib.Bytealg
import Derived.Lib.Walk
import Derived.WalkKit
import Derived.WalkMore
import Derived.Shelf.Unicode.ValidAny
import Derived.Lib.LaidU8T
set_option linter.unusedSimpArgs false
set_option linter.unusedVariables false
namespace Go.Proofs.YtgfgmbpmghgbkaaGreatDoor.Pv
section
structure Rp where
 kind:Int
 cd:ByteArray
 ad:List Int
 sg:List Int
 certs:List (List Int)
 fmt:Int
 id_:List Int
 user:ByteArray
structure Ad where
 rp:Int
 flags:Int
 cnt:Int
 rng:Int
 model:Int
 id_:List Int
 key:Ky
abbrev Tk (l:List Int):PV:=.lst false 1 l.length (Ag .u8 l)
def A1u (l:List Int):List PV:=[Tk l]
theorem Atv (l:List Int):(A1u l).length=1:=rfl
def Ad2 (l:List (List Int)):List PV:=l.flatMap A1u
theorem atb {l:List (List Int)} {i:Nat}{b:List Int}(h:l[i]?=some b):(Ad2 l).getD (i*1) .top=Tk b:=D4 Atv h (j:=0) (by omega)
def Rp.cells (r:Rp):List PV:=[.sc (.int .i64 r.kind),.sc (.string r.cd),Tk r.ad,Tk r.sg,.lst false 1 r.certs.length (Ad2 r.certs),.sc (.int .i64 r.fmt),Tk r.id_,.sc (.string r.user)]
def Ad.cells (a:Ad):List PV:=[.sc (.int .u64 a.rp),.sc (.int .i64 a.flags),.sc (.int .i64 a.cnt),.sc (.int .i64 a.rng),.sc (.int .u64 a.model),Tk a.id_,.sc (.int .i64 a.key.h),.sc (.int .u64 a.key.root)]
structure Av where
 f:Int
 anchor:Int
 leaf:Int
 e:Int
def Av.vals (v:Av):List PV:=[.agg [.sc (.int .i64 v.f),.sc (.int .i64 v.anchor),.sc (.int .i64 v.leaf)],.sc (.int .i64 v.e)]
abbrev avE (e:Int):Av:=⟨0,0,0,e⟩
def Aju (r:Rp)(a:Ad)(w:Int):Av:=
 if r.certs.length>0 then avE 4 else match sgD r.sg with
 |none=>avE 2
 |some s=>if Is a.key w s≠0 then avE (Is a.key w s) else ⟨1,-1,s.leaf,0⟩
def Dk:List (List Int)→List Ce × Int
 |[]=>([],0)
 |b::r=>if (Oa b).2≠0 then ([],(Oa b).2) else if (Dk r).2≠0 then ([],(Dk r).2) else ((Oa b).1::(Dk r).1,0)
def Z6 (sg:List Int)(model w:Int)(ans:List An)(vs:List Rv)(now:Int):List Ce→Av
 |[]=>avE 0
 |c::cs=>if c.auth=true then avE 38 else if c.model=0 then avE 38 else if c.model≠model then avE 38 else match sgD sg with
  |none=>avE 2
  |some s=>if Is c.key w s≠0 then avE (Is c.key w s) else if (Q6 (c::cs) ans vs now).2≠0 then avE (Q6 (c::cs) ans vs now).2 else ⟨2,(Q6 (c::cs) ans vs now).1,-1,0⟩
def Al3 (r:Rp)(a:Ad)(w:Int)(ans:List An)(vs:List Rv)(now:Int):Av:=
 if r.certs.length<1 then avE 38 else if r.certs.length>3 then avE 38 else if (Dk r.certs).2≠0 then avE (Dk r.certs).2 else Z6 r.sg a.model w ans vs now (Dk r.certs).1
def Y7 (r:Rp)(a:Ad)(w:Int)(ans:List An)(vs:List Rv)(now:Int):Av:=
 if Dz .i64 a.flags 64=0 then avE 4 else if r.fmt=0 then (if r.sg.length>0 then avE 4 else if r.certs.length>0 then avE 4 else ⟨0,-1,-1,0⟩) else if r.fmt=1 then Aju r a w else if r.fmt=2 then Al3 r a w ans vs now else avE 3
theorem Aqx {c:Ce}(h:Bd c=0):c.subj.size≤32∧c.iss.size≤32:=by
 unfold Bd at h
 split at h
 ·cases h
 ·split at h
  ·cases h
  ·omega
theorem Azo {b:List Int}(hb:Ha b)(h:(Oa b).2=0):(Oa b).1.in_:=by
 obtain ⟨h1,h2⟩:=A02 hb
 obtain ⟨e1,e2⟩:=h2 h
 obtain ⟨n1,n2⟩:=Aqx (Om e1).1
 exact ⟨h1.wf,by omega,by omega⟩
theorem Aux (a b:List Ce):Di (a++b)=Di a++Di b:=by
 unfold Di
 rw [List.flatMap_append]
structure Rp.ok (r:Rp):Prop where
 sg:Ha r.sg
 sgl:r.sg.length≤1000000
 certs:∀b∈r.certs,Ha b∧b.length≤1000000
section
variable {fu d:Nat}
theorem Azt (hfu:1000≤fu){r:Rp}(hr:r.ok)(a:Ad)(w:Int):Ae C0 Tryz.prog fu (d+9) Ij [.agg r.cells,.agg a.cells,.sc (.int .u64 w)]=some ⟨(Aju r a w).vals,[]⟩:=by
 refine (Qv fu (d+8) r.kind r.cd r.ad.length (Ag .u8 r.ad) r.sg.length (Ag .u8 r.sg) r.certs.length (Ad2 r.certs) r.fmt r.id_.length (Ag .u8 r.id_) r.user a.rp a.flags a.cnt a.rng a.model a.id_.length (Ag .u8 a.id_) a.key.h a.key.root w).trans ?_
 have ds:=Acl (fu:=fu) (d:=d+6) hfu hr.sg
 unfold Aju
 by_cases h1:r.certs.length>0
 ·rw [if_pos h1]
  try unfold Aa
  repeat first
   |((with_reducible first|apply At|apply Ap|apply Ax|apply Ao|apply Az|apply Aw|apply Bb|apply Bc|apply A0|apply Al|apply Au|apply Am);· first|with_reducible rfl|(simp (disch:=omega) only [Nat.mul_one]<;>with_reducible rfl))
   |((with_reducible first|apply A4|apply A3);· first|with_reducible rfl|omega|(simp (disch:=omega) only [gT,Nat.mul_one]<;>omega))
   |(with_reducible apply Ay;· first|with_reducible rfl|(simp (disch:=omega) only [gF,Nat.mul_one]<;>omega))
  try simp (disch:=omega) only [Nat.mul_one]
  all_goals rfl
 rw [if_neg h1]
 cases hs:sgD r.sg with
 |none=>
  rw [hs] at ds
  simp only [Ads,Sg.owned] at ds
  have e20:((2:Int) != 0)=true:=rfl
  try unfold Aa
  repeat first
   |((with_reducible first|apply At|apply Ap|apply Ax|apply Ao|apply Az|apply Aw|apply Bb|apply Bc|apply A0|apply Al|apply Au|apply Am);· first|with_reducible rfl|(simp (disch:=omega) only [ds,e20]<;>with_reducible rfl))
   |((with_reducible first|apply A4|apply A3);· first|with_reducible rfl|omega|(simp (disch:=omega) only [gT,ds,e20]<;>omega))
   |(with_reducible apply Ay;· first|with_reducible rfl|(simp (disch:=omega) only [gF,ds,e20]<;>omega))
  try simp (disch:=omega) only [ds,e20]
  all_goals rfl
 |some s=>
  rw [hs] at ds
  simp only [Ads,Sg.owned] at ds
  have e00:((0:Int) != 0)=false:=rfl
  have vr:=Aco (fu:=fu) (d:=d) hfu a.key w s
  simp only [Ky.cells,Sg.cells] at vr
  have Lc:=Aj .u64 s.chains
  have Lp:=Aj .u64 s.path
  have tc:=Gw .u64 s.chains
  have tp:=Gw .u64 s.path
  simp only
  by_cases hv:Is a.key w s=0
  ·have v0:(Is a.key w s != 0)=false:=by simp [hv]
   rw [if_neg (by simp [hv])]
   try unfold Aa
   repeat first
    |((with_reducible first|apply At|apply Ap|apply Ax|apply Ao|apply Az|apply Aw|apply Bb|apply Bc|apply A0|apply Al|apply Au|apply Am);· first|with_reducible rfl|(simp (disch:=omega) only [ds,e00,List.drop_zero,Nat.zero_add,Nat.mul_one,Lc,Lp,tc,tp,vr,v0]<;>with_reducible rfl))
    |((with_reducible first|apply A4|apply A3);· first|with_reducible rfl|omega|(simp (disch:=omega) only [gT,ds,e00,List.drop_zero,Nat.zero_add,Nat.mul_one,Lc,Lp,tc,tp,vr,v0]<;>omega))
    |(with_reducible apply Ay;· first|with_reducible rfl|(simp (disch:=omega) only [gF,ds,e00,List.drop_zero,Nat.zero_add,Nat.mul_one,Lc,Lp,tc,tp,vr,v0]<;>omega))
   try simp (disch:=omega) only [ds,e00,List.drop_zero,Nat.zero_add,Nat.mul_one,Lc,Lp,tc,tp,vr,v0]
   all_goals rfl
  ·have v0:(Is a.key w s != 0)=true:=by simp [hv]
   rw [if_pos hv]
   try unfold Aa
   repeat first
    |((with_reducible first|apply At|apply Ap|apply Ax|apply Ao|apply Az|apply Aw|apply Bb|apply Bc|apply A0|apply Al|apply Au|apply Am);· first|with_reducible rfl|(simp (disch:=omega) only [ds,e00,List.drop_zero,Nat.zero_add,Nat.mul_one,Lc,Lp,tc,tp,vr,v0]<;>with_reducible rfl))
    |((with_reducible first|apply A4|apply A3);· first|with_reducible rfl|omega|(simp (disch:=omega) only [gT,ds,e00,List.drop_zero,Nat.zero_add,Nat.mul_one,Lc,Lp,tc,tp,vr,v0]<;>omega))
    |(with_reducible apply Ay;· first|with_reducible rfl|(simp (disch:=omega) only [gF,ds,e00,List.drop_zero,Nat.zero_add,Nat.mul_one,Lc,Lp,tc,tp,vr,v0]<;>omega))
   try simp (disch:=omega) only [ds,e00,List.drop_zero,Nat.zero_add,Nat.mul_one,Lc,Lp,tc,tp,vr,v0]
   all_goals rfl
theorem Avp (hfu:1000≤fu){a0_0:Int}{a0_1:ByteArray}{a0_2n:Nat}{a0_2:List PV}{a0_3n:Nat}{a0_3:List PV}{a0_4n:Nat}{a0_4:List PV}{a0_5:Int}{a0_6n:Nat}{a0_6:List PV}{a0_7:ByteArray}{a1_0 a1_1 a1_2 a1_3 a1_4:Int}{a1_5n:Nat}{a1_5:List PV}{a1_6 a1_7 a2:Int}{a3n:Nat}{a3:List PV}{a4n:Nat}{a4:List PV}{a5:Int}
  {r:Rp} (hr:r.ok) (a:Ad) (w:Int) {ans:List An} (hl:ans.length≤900) {vs:List Rv} (hv:vs.length≤900) (now:Int) {cs:List Ce} (hc:∀c∈cs,c.in_) (hne:cs≠[]) (hcl:cs.length≤1000) (nn:Nat):
  Dc fu (Ae C0 Tryz.prog fu (d+10)) a0_0 a0_1 a0_2n a0_2 a0_3n a0_3 a0_4n a0_4 a0_5 a0_6n a0_6 a0_7 a1_0 a1_1 a1_2 a1_3 a1_4 a1_5n a1_5 a1_6 a1_7 a2 a3n a3 a4n a4 a5 (nn+1) w ans.length (Il ans) vs.length (Jq vs) now cs.length r.certs.length (Ad2 r.certs) (r.certs.length:Int) (r.certs.length:Int) r.kind r.cd r.ad.length (Ag .u8 r.ad) r.sg.length (Ag .u8 r.sg) r.certs.length (Ad2 r.certs) r.fmt r.id_.length (Ag .u8 r.id_) r.user a.rp a.flags a.cnt a.rng a.model a.id_.length (Ag .u8 a.id_) a.key.h a.key.root 0 0 0 (Di cs) =
   some ⟨(Z6 r.sg a.model w ans vs now cs).vals,[]⟩:=by
 obtain ⟨c,ct,rfl⟩:∃c ct,cs=c::ct:=by
  cases cs with
  |nil=>exact absurd rfl hne
  |cons c ct=>exact ⟨c,ct,rfl⟩
 have ds:=Acl (fu:=fu) (d:=d+8) hfu hr.sg
 have L:=Aka (c::ct)
 have t:List.take ((c::ct).length*13) (Di (c::ct))=Di (c::ct):=List.take_of_length_le (by omega)
 have pe:=Axd (fu:=fu) (d:=d) hfu hc hl hv now
 have g0:(Di (c::ct)).getD 0 .top=.sc (.string c.subj):=rfl
 have g1:(Di (c::ct)).getD 1 .top=.sc (.string c.iss):=rfl
 have g2:(Di (c::ct)).getD 2 .top=.sc (.int .u64 c.serial):=rfl
 have g3:(Di (c::ct)).getD 3 .top=.sc (.int .i64 c.key.h):=rfl
 have g4:(Di (c::ct)).getD 4 .top=.sc (.int .u64 c.key.root):=rfl
 have g5:(Di (c::ct)).getD 5 .top=.sc (.int .i64 c.fr):=rfl
 have g6:(Di (c::ct)).getD 6 .top=.sc (.int .i64 c.un):=rfl
 have g7:(Di (c::ct)).getD 7 .top=.sc (.bool c.auth):=rfl
 have g8:(Di (c::ct)).getD 8 .top=.sc (.int .i64 c.path):=rfl
 have g9:(Di (c::ct)).getD 9 .top=.sc (.int .u64 c.model):=rfl
 have g10:(Di (c::ct)).getD 10 .top=.sc (.int .i64 c.sig.leaf):=rfl
 have g11:(Di (c::ct)).getD 11 .top=.lst false 1 c.sig.chains.length (Ag .u64 c.sig.chains):=rfl
 have g12:(Di (c::ct)).getD 12 .top=.lst false 1 c.sig.path.length (Ag .u64 c.sig.path):=rfl
 have hp:(((c::ct).length:Nat):Int)>0:=by simp only [List.length_cons];omega
 rw [Z6]
 generalize Di (c::ct)=E at *
 generalize Q6 (c::ct) ans vs now=pr at *
 generalize (c::ct).length=n at *
 rw [G7,Dl _ _ _ (by omega)]
 cases ha:c.auth
 rotate_left
 ·rw [if_pos rfl]
  rw [ha] at g7
  try unfold Aa
  repeat first
   |((with_reducible first|apply At|apply Ap|apply Ax|apply Ao|apply Az|apply Aw|apply Bb|apply Bc|apply A0|apply Al|apply Au|apply Am);· first|with_reducible rfl|(simp (disch:=omega) only [g0,g1,g2,g3,g4,g5,g6,g7,g8,g9,g10,g11,g12]<;>with_reducible rfl))
   |((with_reducible first|apply A4|apply A3);· first|with_reducible rfl|omega|(simp (disch:=omega) only [gT,g0,g1,g2,g3,g4,g5,g6,g7,g8,g9,g10,g11,g12]<;>omega))
   |(with_reducible apply Ay;· first|with_reducible rfl|(simp (disch:=omega) only [gF,g0,g1,g2,g3,g4,g5,g6,g7,g8,g9,g10,g11,g12]<;>omega))
  try simp (disch:=omega) only [g0,g1,g2,g3,g4,g5,g6,g7,g8,g9,g10,g11,g12]
  all_goals rfl
 rw [ha] at g7
 rw [if_neg (by simp)]
 by_cases hm:c.model=0
 ·have m0:(c.model==0)=true:=by simp [hm]
  rw [if_pos hm]
  try unfold Aa
  repeat first
   |((with_reducible first|apply At|apply Ap|apply Ax|apply Ao|apply Az|apply Aw|apply Bb|apply Bc|apply A0|apply Al|apply Au|apply Am);· first|with_reducible rfl|(simp (disch:=omega) only [g0,g1,g2,g3,g4,g5,g6,g7,g8,g9,g10,g11,g12,m0]<;>with_reducible rfl))
   |((with_reducible first|apply A4|apply A3);· first|with_reducible rfl|omega|(simp (disch:=omega) only [gT,g0,g1,g2,g3,g4,g5,g6,g7,g8,g9,g10,g11,g12,m0]<;>omega))
   |(with_reducible apply Ay;· first|with_reducible rfl|(simp (disch:=omega) only [gF,g0,g1,g2,g3,g4,g5,g6,g7,g8,g9,g10,g11,g12,m0]<;>omega))
  try simp (disch:=omega) only [g0,g1,g2,g3,g4,g5,g6,g7,g8,g9,g10,g11,g12,m0]
  all_goals rfl
 have m0:(c.model==0)=false:=by simp [hm]
 rw [if_neg hm]
 by_cases hq:c.model=a.model
 rotate_left
 ·have m1:(c.model != a.model)=true:=by simp [hq]
  rw [if_pos hq]
  try unfold Aa
  repeat first
   |((with_reducible first|apply At|apply Ap|apply Ax|apply Ao|apply Az|apply Aw|apply Bb|apply Bc|apply A0|apply Al|apply Au|apply Am);· first|with_reducible rfl|(simp (disch:=omega) only [g0,g1,g2,g3,g4,g5,g6,g7,g8,g9,g10,g11,g12,m0,m1]<;>with_reducible rfl))
   |((with_reducible first|apply A4|apply A3);· first|with_reducible rfl|omega|(simp (disch:=omega) only [gT,g0,g1,g2,g3,g4,g5,g6,g7,g8,g9,g10,g11,g12,m0,m1]<;>omega))
   |(with_reducible apply Ay;· first|with_reducible rfl|(simp (disch:=omega) only [gF,g0,g1,g2,g3,g4,g5,g6,g7,g8,g9,g10,g11,g12,m0,m1]<;>omega))
  try simp (disch:=omega) only [g0,g1,g2,g3,g4,g5,g6,g7,g8,g9,g10,g11,g12,m0,m1]
  all_goals rfl
 have m1:(c.model != a.model)=false:=by simp [hq]
 rw [if_neg (by simp [hq])]
 cases hs:sgD r.sg with
 |none=>
  rw [hs] at ds
  simp only [Ads,Sg.owned] at ds
  have e20:((2:Int) != 0)=true:=rfl
  try unfold Aa
  repeat first
   |((with_reducible first|apply At|apply Ap|apply Ax|apply Ao|apply Az|apply Aw|apply Bb|apply Bc|apply A0|apply Al|apply Au|apply Am);· first|with_reducible rfl|(simp (disch:=omega) only [g0,g1,g2,g3,g4,g5,g6,g7,g8,g9,g10,g11,g12,m0,m1,ds,e20]<;>with_reducible rfl))
   |((with_reducible first|apply A4|apply A3);· first|with_reducible rfl|omega|(simp (disch:=omega) only [gT,g0,g1,g2,g3,g4,g5,g6,g7,g8,g9,g10,g11,g12,m0,m1,ds,e20]<;>omega))
   |(with_reducible apply Ay;· first|with_reducible rfl|(simp (disch:=omega) only [gF,g0,g1,g2,g3,g4,g5,g6,g7,g8,g9,g10,g11,g12,m0,m1,ds,e20]<;>omega))
  try simp (disch:=omega) only [g0,g1,g2,g3,g4,g5,g6,g7,g8,g9,g10,g11,g12,m0,m1,ds,e20]
  all_goals rfl
 |some s=>
  rw [hs] at ds
  simp only [Ads,Sg.owned] at ds
  have e00:((0:Int) != 0)=false:=rfl
  have vr:=Aco (fu:=fu) (d:=d+2) hfu c.key w s
  simp only [Ky.cells,Sg.cells] at vr
  have Lc:=Aj .u64 s.chains
  have Lp:=Aj .u64 s.path
  have tc:=Gw .u64 s.chains
  have tp:=Gw .u64 s.path
  simp only
  by_cases hvv:Is c.key w s=0
  rotate_left
  ·have v0:(Is c.key w s != 0)=true:=by simp [hvv]
   rw [if_pos hvv]
   try unfold Aa
   repeat first
    |((with_reducible first|apply At|apply Ap|apply Ax|apply Ao|apply Az|apply Aw|apply Bb|apply Bc|apply A0|apply Al|apply Au|apply Am);· first|with_reducible rfl|(simp (disch:=omega) only [g0,g1,g2,g3,g4,g5,g6,g7,g8,g9,g10,g11,g12,m0,m1,ds,e00,List.drop_zero,Nat.zero_add,Nat.mul_one,Lc,Lp,tc,tp,vr,v0]<;>with_reducible rfl))
    |((with_reducible first|apply A4|apply A3);· first|with_reducible rfl|omega|(simp (disch:=omega) only [gT,g0,g1,g2,g3,g4,g5,g6,g7,g8,g9,g10,g11,g12,m0,m1,ds,e00,List.drop_zero,Nat.zero_add,Nat.mul_one,Lc,Lp,tc,tp,vr,v0]<;>omega))
    |(with_reducible apply Ay;· first|with_reducible rfl|(simp (disch:=omega) only [gF,g0,g1,g2,g3,g4,g5,g6,g7,g8,g9,g10,g11,g12,m0,m1,ds,e00,List.drop_zero,Nat.zero_add,Nat.mul_one,Lc,Lp,tc,tp,vr,v0]<;>omega))
   try simp (disch:=omega) only [g0,g1,g2,g3,g4,g5,g6,g7,g8,g9,g10,g11,g12,m0,m1,ds,e00,List.drop_zero,Nat.zero_add,Nat.mul_one,Lc,Lp,tc,tp,vr,v0]
   all_goals rfl
  have v0:(Is c.key w s != 0)=false:=by simp [hvv]
  rw [if_neg (by simp [hvv])]
  by_cases hpp:pr.2=0
  ·have p0:(pr.2 != 0)=false:=by simp [hpp]
   rw [if_neg (by simp [hpp])]
   try unfold Aa
   repeat first
    |((with_reducible first|apply At|apply Ap|apply Ax|apply Ao|apply Az|apply Aw|apply Bb|apply Bc|apply A0|apply Al|apply Au|apply Am);· first|with_reducible rfl|(simp (disch:=omega) only [g0,g1,g2,g3,g4,g5,g6,g7,g8,g9,g10,g11,g12,m0,m1,ds,e00,List.drop_zero,Nat.zero_add,Nat.mul_one,Lc,Lp,tc,tp,vr,v0,L,t,pe,p0]<;>with_reducible rfl))
    |((with_reducible first|apply A4|apply A3);· first|with_reducible rfl|omega|(simp (disch:=omega) only [gT,g0,g1,g2,g3,g4,g5,g6,g7,g8,g9,g10,g11,g12,m0,m1,ds,e00,List.drop_zero,Nat.zero_add,Nat.mul_one,Lc,Lp,tc,tp,vr,v0,L,t,pe,p0]<;>omega))
    |(with_reducible apply Ay;· first|with_reducible rfl|(simp (disch:=omega) only [gF,g0,g1,g2,g3,g4,g5,g6,g7,g8,g9,g10,g11,g12,m0,m1,ds,e00,List.drop_zero,Nat.zero_add,Nat.mul_one,Lc,Lp,tc,tp,vr,v0,L,t,pe,p0]<;>omega))
   try simp (disch:=omega) only [g0,g1,g2,g3,g4,g5,g6,g7,g8,g9,g10,g11,g12,m0,m1,ds,e00,List.drop_zero,Nat.zero_add,Nat.mul_one,Lc,Lp,tc,tp,vr,v0,L,t,pe,p0]
   all_goals rfl
  ·have p0:(pr.2 != 0)=true:=by simp [hpp]
   rw [if_pos hpp]
   try unfold Aa
   repeat first
    |((with_reducible first|apply At|apply Ap|apply Ax|apply Ao|apply Az|apply Aw|apply Bb|apply Bc|apply A0|apply Al|apply Au|apply Am);· first|with_reducible rfl|(simp (disch:=omega) only [g0,g1,g2,g3,g4,g5,g6,g7,g8,g9,g10,g11,g12,m0,m1,ds,e00,List.drop_zero,Nat.zero_add,Nat.mul_one,Lc,Lp,tc,tp,vr,v0,L,t,pe,p0]<;>with_reducible rfl))
    |((with_reducible first|apply A4|apply A3);· first|with_reducible rfl|omega|(simp (disch:=omega) only [gT,g0,g1,g2,g3,g4,g5,g6,g7,g8,g9,g10,g11,g12,m0,m1,ds,e00,List.drop_zero,Nat.zero_add,Nat.mul_one,Lc,Lp,tc,tp,vr,v0,L,t,pe,p0]<;>omega))
    |(with_reducible apply Ay;· first|with_reducible rfl|(simp (disch:=omega) only [gF,g0,g1,g2,g3,g4,g5,g6,g7,g8,g9,g10,g11,g12,m0,m1,ds,e00,List.drop_zero,Nat.zero_add,Nat.mul_one,Lc,Lp,tc,tp,vr,v0,L,t,pe,p0]<;>omega))
   try simp (disch:=omega) only [g0,g1,g2,g3,g4,g5,g6,g7,g8,g9,g10,g11,g12,m0,m1,ds,e00,List.drop_zero,Nat.zero_add,Nat.mul_one,Lc,Lp,tc,tp,vr,v0,L,t,pe,p0]
   all_goals rfl
theorem Agw (hfu:1000≤fu){a0_0:Int}{a0_1:ByteArray}{a0_2n:Nat}{a0_2:List PV}{a0_3n:Nat}{a0_3:List PV}{a0_4n:Nat}{a0_4:List PV}{a0_5:Int}{a0_6n:Nat}{a0_6:List PV}{a0_7:ByteArray}{a1_0 a1_1 a1_2 a1_3 a1_4:Int}{a1_5n:Nat}{a1_5:List PV}{a1_6 a1_7 a2:Int}{a3n:Nat}{a3:List PV}{a4n:Nat}{a4:List PV}{a5:Int}
  {r:Rp} (hr:r.ok) (h3:r.certs.length≤3) (a:Ad) (w:Int) {ans:List An} (hl:ans.length≤900) {vs:List Rv} (hv:vs.length≤900) (now:Int):∀(q:List (List Int)) (i nn:Nat) (cs:List Ce),r.certs.drop i=q→q.length<nn→i≤r.certs.length→(∀c∈cs,c.in_)→cs.length=i→(q=[]→cs≠[]) →
  Dc fu (Ae C0 Tryz.prog fu (d+10)) a0_0 a0_1 a0_2n a0_2 a0_3n a0_3 a0_4n a0_4 a0_5 a0_6n a0_6 a0_7 a1_0 a1_1 a1_2 a1_3 a1_4 a1_5n a1_5 a1_6 a1_7 a2 a3n a3 a4n a4 a5 nn w ans.length (Il ans) vs.length (Jq vs) now cs.length r.certs.length (Ad2 r.certs) (r.certs.length:Int) (i:Int) r.kind r.cd r.ad.length (Ag .u8 r.ad) r.sg.length (Ag .u8 r.sg) r.certs.length (Ad2 r.certs) r.fmt r.id_.length (Ag .u8 r.id_) r.user a.rp a.flags a.cnt a.rng a.model a.id_.length (Ag .u8 a.id_) a.key.h a.key.root 0 0 0 (Di cs) =
   some ⟨(if (Dk q).2≠0 then avE (Dk q).2 else Z6 r.sg a.model w ans vs now (cs++(Dk q).1)).vals,[]⟩
 |_,_,0,_,_,h,_,_,_,_=>by omega
 |[],i,nn+1,cs,h,hn,hi,hc,hcl,hne=>by
  have:=drop_nil h
  obtain rfl:i=r.certs.length:=by omega
  have e:(if (Dk []).2≠0 then avE (Dk []).2 else Z6 r.sg a.model w ans vs now (cs++(Dk []).1))=Z6 r.sg a.model w ans vs now cs:=by
   rw [Dk,if_neg (by simp)]
   simp
  rw [e]
  exact Avp hfu hr a w hl hv now hc (hne rfl) (by omega) nn
 |b::q,i,nn+1,cs,h,hn,hi,hc,hcl,hne=>by
  obtain ⟨h1,h2,h3'⟩:=Cf h
  simp only [List.length_cons] at hn
  obtain ⟨hb,hbl⟩:=hr.certs b (List.mem_of_getElem? h2)
  have de:=A0g (fu:=fu) (d:=d+1) hfu hb hbl
  have din:=Azo hb
  have nt:Int.toNat (i:Int)=i:=Int.toNat_natCast _
  have g0:=atb h2
  have w1:IntKind.wrap .i64 ((i:Int)+1)=((i+1:Nat):Int):=by rw [Aq (by omega) (by omega)];omega
  have L:=Aka cs
  have t:List.take (cs.length*13) (Di cs)=Di cs:=List.take_of_length_le (by omega)
  have ed:Dk (b::q)=if (Oa b).2≠0 then ([],(Oa b).2) else if (Dk q).2≠0 then ([],(Dk q).2) else ((Oa b).1::(Dk q).1,0):=rfl
  rw [ed,G7]
  generalize Oa b=D at de din ⊢
  obtain ⟨c,e⟩:=D
  simp only at de din ⊢
  by_cases he:e=0
  rotate_left
  ·have e0:(e != 0)=true:=by simp [he]
   rw [if_pos he]
   simp only [ne_eq,he,not_false_eq_true,if_true]
   simp only [Ce.cells] at de
   try unfold Aa
   repeat first
    |((with_reducible first|apply At|apply Ap|apply Ax|apply Ao|apply Az|apply Aw|apply Bb|apply Bc|apply A0|apply Al|apply Au|apply Am);· first|with_reducible rfl|(simp (disch:=omega) only [nt,g0,de,e0]<;>with_reducible rfl))
    |((with_reducible first|apply A4|apply A3);· first|with_reducible rfl|omega|(simp (disch:=omega) only [gT,nt,g0,de,e0]<;>omega))
    |(with_reducible apply Ay;· first|with_reducible rfl|(simp (disch:=omega) only [gF,nt,g0,de,e0]<;>omega))
   try simp (disch:=omega) only [nt,g0,de,e0]
   all_goals rfl
  subst he
  have e00:((0:Int) != 0)=false:=rfl
  have hci:=din rfl
  have n00:¬((0:Int)≠0):=by simp
  rw [if_neg n00]
  have ih:=Agw hfu (a0_0:=a0_0) (a0_1:=a0_1) (a0_2n:=a0_2n) (a0_2:=a0_2) (a0_3n:=a0_3n) (a0_3:=a0_3) (a0_4n:=a0_4n) (a0_4:=a0_4) (a0_5:=a0_5) (a0_6n:=a0_6n) (a0_6:=a0_6) (a0_7:=a0_7) (a1_0:=a1_0) (a1_1:=a1_1) (a1_2:=a1_2) (a1_3:=a1_3) (a1_4:=a1_4) (a1_5n:=a1_5n) (a1_5:=a1_5) (a1_6:=a1_6) (a1_7:=a1_7) (a2:=a2) (a3n:=a3n) (a3:=a3) (a4n:=a4n) (a4:=a4) (a5:=a5) hr h3 a w hl hv now q (i+1) nn (cs++[c]) h3' (by omega) (by omega) (by
   intro x hx
   rcases List.mem_append.1 hx with hx|hx
   ·exact hc x hx
   ·simp at hx
    subst hx
    exact hci) (by
   simp only [List.length_append,List.length_cons,List.length_nil]
   omega) (by intro _;simp)
  have ee:(if (if (Dk q).2≠0 then (([]:List Ce),(Dk q).2) else (c::(Dk q).1,0)).2≠0 then avE (if (Dk q).2≠0 then (([]:List Ce),(Dk q).2) else (c::(Dk q).1,0)).2 else Z6 r.sg a.model w ans vs now (cs++(if (Dk q).2≠0 then (([]:List Ce),(Dk q).2) else (c::(Dk q).1,0)).1))=(if (Dk q).2≠0 then avE (Dk q).2 else Z6 r.sg a.model w ans vs now (cs++[c]++(Dk q).1)):=by
   by_cases hd:(Dk q).2=0
   ·have hd':¬((Dk q).2≠0):=by simp [hd]
    rw [if_neg hd',if_neg hd']
    simp
   ·rw [if_pos hd,if_pos hd,if_pos hd]
  rw [ee,←ih,Aux,List.length_append]
  have e1:Di [c]=c.cells:=by simp [Di]
  rw [e1]
  simp only [Ce.cells] at de ⊢
  have lr:[c].length=1:=rfl
  rw [lr]
  try unfold Aa
  repeat first
   |((with_reducible first|apply At|apply Ap|apply Ax|apply Ao|apply Az|apply Aw|apply Bb|apply Bc|apply A0|apply Al|apply Au|apply Am);· first|with_reducible rfl|(simp (disch:=omega) only [nt,g0,de,e00,w1,L,t]<;>with_reducible rfl))
   |((with_reducible first|apply A4|apply A3);· first|with_reducible rfl|omega|(simp (disch:=omega) only [gT,nt,g0,de,e00,w1,L,t]<;>omega))
   |(with_reducible apply Ay;· first|with_reducible rfl|(simp (disch:=omega) only [gF,nt,g0,de,e00,w1,L,t]<;>omega))
  try simp (disch:=omega) only [nt,g0,de,e00,w1,L,t]
  all_goals rfl
theorem Avl (hfu:1000≤fu){r:Rp}(hr:r.ok)(a:Ad)(w:Int){ans:List An}(hl:ans.length≤900){vs:List Rv}(hv:vs.length≤900)(now:Int):
  Ae C0 Tryz.prog fu (d+11) Ib [.agg r.cells,.agg a.cells,.sc (.int .u64 w),.lst false 3 ans.length (Il ans),.lst false 3 vs.length (Jq vs),.sc (.int .i64 now)]=some ⟨(Al3 r a w ans vs now).vals,[]⟩:=by
 refine (Pq fu (d+10) r.kind r.cd r.ad.length (Ag .u8 r.ad) r.sg.length (Ag .u8 r.sg) r.certs.length (Ad2 r.certs) r.fmt r.id_.length (Ag .u8 r.id_) r.user a.rp a.flags a.cnt a.rng a.model a.id_.length (Ag .u8 a.id_) a.key.h a.key.root w ans.length (Il ans) vs.length (Jq vs) now).trans ?_
 unfold Al3
 by_cases h1:r.certs.length<1
 ·rw [if_pos h1]
  try unfold Aa
  repeat first
   |((with_reducible first|apply At|apply Ap|apply Ax|apply Ao|apply Az|apply Aw|apply Bb|apply Bc|apply A0|apply Al|apply Au|apply Am);· first|with_reducible rfl|(simp (disch:=omega) only [Nat.mul_one]<;>with_reducible rfl))
   |((with_reducible first|apply A4|apply A3);· first|with_reducible rfl|omega|(simp (disch:=omega) only [gT,Nat.mul_one]<;>omega))
   |(with_reducible apply Ay;· first|with_reducible rfl|(simp (disch:=omega) only [gF,Nat.mul_one]<;>omega))
  try simp (disch:=omega) only [Nat.mul_one]
  all_goals rfl
 rw [if_neg h1]
 by_cases h2:r.certs.length>3
 ·rw [if_pos h2]
  try unfold Aa
  repeat first
   |((with_reducible first|apply At|apply Ap|apply Ax|apply Ao|apply Az|apply Aw|apply Bb|apply Bc|apply A0|apply Al|apply Au|apply Am);· first|with_reducible rfl|(simp (disch:=omega) only [Nat.mul_one]<;>with_reducible rfl))
   |((with_reducible first|apply A4|apply A3);· first|with_reducible rfl|omega|(simp (disch:=omega) only [gT,Nat.mul_one]<;>omega))
   |(with_reducible apply Ay;· first|with_reducible rfl|(simp (disch:=omega) only [gF,Nat.mul_one]<;>omega))
  try simp (disch:=omega) only [Nat.mul_one]
  all_goals rfl
 rw [if_neg h2]
 have bl:=Agw (fu:=fu) (d:=d) (a0_0:=r.kind) (a0_1:=r.cd) (a0_2n:=r.ad.length) (a0_2:=Ag .u8 r.ad) (a0_3n:=r.sg.length) (a0_3:=Ag .u8 r.sg) (a0_4n:=r.certs.length) (a0_4:=Ad2 r.certs) (a0_5:=r.fmt) (a0_6n:=r.id_.length) (a0_6:=Ag .u8 r.id_) (a0_7:=r.user) (a1_0:=a.rp) (a1_1:=a.flags) (a1_2:=a.cnt) (a1_3:=a.rng) (a1_4:=a.model) (a1_5n:=a.id_.length) (a1_5:=Ag .u8 a.id_) (a1_6:=a.key.h) (a1_7:=a.key.root) (a2:=w) (a3n:=ans.length) (a3:=Il ans) (a4n:=vs.length) (a4:=Jq vs) (a5:=now) hfu hr (by omega) a w hl hv now r.certs 0 fu [] rfl (by omega) (by omega) (by simp) (by simp) (by intro h;rw [h] at h1;simp at h1)
 rw [List.nil_append] at bl
 rw [←bl]
 try unfold Aa
 repeat first
  |((with_reducible first|apply At|apply Ap|apply Ax|apply Ao|apply Az|apply Aw|apply Bb|apply Bc|apply A0|apply Al|apply Au|apply Am);· first|with_reducible rfl|(simp (disch:=omega) only [Nat.mul_one]<;>with_reducible rfl))
  |((with_reducible first|apply A4|apply A3);· first|with_reducible rfl|omega|(simp (disch:=omega) only [gT,Nat.mul_one]<;>omega))
  |(with_reducible apply Ay;· first|with_reducible rfl|(simp (disch:=omega) only [gF,Nat.mul_one]<;>omega))
 try simp (disch:=omega) only [Nat.mul_one]
 all_goals rfl
theorem Ak6 (hfu:1000≤fu){r:Rp}(hr:r.ok)(a:Ad)(w:Int){ans:List An}(hl:ans.length≤900){vs:List Rv}(hv:vs.length≤900)(now:Int):
  Ae C0 Tryz.prog fu (d+12) L6 [.agg r.cells,.agg a.cells,.sc (.int .u64 w),.lst false 3 ans.length (Il ans),.lst false 3 vs.length (Jq vs),.sc (.int .i64 now)]=some ⟨(Y7 r a w ans vs now).vals,[]⟩:=by
 refine (Vf fu (d+11) r.kind r.cd r.ad.length (Ag .u8 r.ad) r.sg.length (Ag .u8 r.sg) r.certs.length (Ad2 r.certs) r.fmt r.id_.length (Ag .u8 r.id_) r.user a.rp a.flags a.cnt a.rng a.model a.id_.length (Ag .u8 a.id_) a.key.h a.key.root w ans.length (Il ans) vs.length (Jq vs) now).trans ?_
 have sf:=Azt (fu:=fu) (d:=d+2) hfu hr a w
 have bt:=Avl (fu:=fu) (d:=d) hfu hr a w hl hv now
 simp only [Rp.cells,Ad.cells,Av.vals] at sf bt
 unfold Y7
 by_cases h0:Dz .i64 a.flags 64=0
 ·have f0:(Dz .i64 a.flags 64==0)=true:=by simp [h0]
  rw [if_pos h0]
  try unfold Aa
  repeat first
   |((with_reducible first|apply At|apply Ap|apply Ax|apply Ao|apply Az|apply Aw|apply Bb|apply Bc|apply A0|apply Al|apply Au|apply Am);· first|with_reducible rfl|(simp (disch:=omega) only [f0]<;>with_reducible rfl))
   |((with_reducible first|apply A4|apply A3);· first|with_reducible rfl|omega|(simp (disch:=omega) only [gT,f0]<;>omega))
   |(with_reducible apply Ay;· first|with_reducible rfl|(simp (disch:=omega) only [gF,f0]<;>omega))
  try simp (disch:=omega) only [f0]
  all_goals rfl
 have f0:(Dz .i64 a.flags 64==0)=false:=by simp only [beq_eq_false_iff_ne,ne_eq];exact h0
 rw [if_neg h0]
 generalize Dz .i64 a.flags 64=fl at *
 by_cases h1:r.fmt=0
 ·have b1:(r.fmt==0)=true:=by simp [h1]
  rw [if_pos h1]
  by_cases h2:r.sg.length>0
  ·rw [if_pos h2]
   try unfold Aa
   repeat first
    |((with_reducible first|apply At|apply Ap|apply Ax|apply Ao|apply Az|apply Aw|apply Bb|apply Bc|apply A0|apply Al|apply Au|apply Am);· first|with_reducible rfl|(simp (disch:=omega) only [f0,b1]<;>with_reducible rfl))
    |((with_reducible first|apply A4|apply A3);· first|with_reducible rfl|omega|(simp (disch:=omega) only [gT,f0,b1]<;>omega))
    |(with_reducible apply Ay;· first|with_reducible rfl|(simp (disch:=omega) only [gF,f0,b1]<;>omega))
   try simp (disch:=omega) only [f0,b1]
   all_goals rfl
  rw [if_neg h2]
  by_cases h3:r.certs.length>0
  ·rw [if_pos h3]
   try unfold Aa
   repeat first
    |((with_reducible first|apply At|apply Ap|apply Ax|apply Ao|apply Az|apply Aw|apply Bb|apply Bc|apply A0|apply Al|apply Au|apply Am);· first|with_reducible rfl|(simp (disch:=omega) only [f0,b1]<;>with_reducible rfl))
    |((with_reducible first|apply A4|apply A3);· first|with_reducible rfl|omega|(simp (disch:=omega) only [gT,f0,b1]<;>omega))
    |(with_reducible apply Ay;· first|with_reducible rfl|(simp (disch:=omega) only [gF,f0,b1]<;>omega))
   try simp (disch:=omega) only [f0,b1]
   all_goals rfl
  rw [if_neg h3]
  try unfold Aa
  repeat first
   |((with_reducible first|apply At|apply Ap|apply Ax|apply Ao|apply Az|apply Aw|apply Bb|apply Bc|apply A0|apply Al|apply Au|apply Am);· first|with_reducible rfl|(simp (disch:=omega) only [f0,b1]<;>with_reducible rfl))
   |((with_reducible first|apply A4|apply A3);· first|with_reducible rfl|omega|(simp (disch:=omega) only [gT,f0,b1]<;>omega))
   |(with_reducible apply Ay;· first|with_reducible rfl|(simp (disch:=omega) only [gF,f0,b1]<;>omega))
  try simp (disch:=omega) only [f0,b1]
  all_goals rfl
 have b1:(r.fmt==0)=false:=by simp [h1]
 rw [if_neg h1]
 by_cases h2:r.fmt=1
 ·have b2:(r.fmt==1)=true:=by simp [h2]
  rw [if_pos h2]
  try unfold Aa
  repeat first
   |((with_reducible first|apply At|apply Ap|apply Ax|apply Ao|apply Az|apply Aw|apply Bb|apply Bc|apply A0|apply Al|apply Au|apply Am);· first|with_reducible rfl|(simp (disch:=omega) only [f0,b1,b2,sf]<;>with_reducible rfl))
   |((with_reducible first|apply A4|apply A3);· first|with_reducible rfl|omega|(simp (disch:=omega) only [gT,f0,b1,b2,sf]<;>omega))
   |(with_reducible apply Ay;· first|with_reducible rfl|(simp (disch:=omega) only [gF,f0,b1,b2,sf]<;>omega))
  try simp (disch:=omega) only [f0,b1,b2,sf]
  all_goals rfl
 have b2:(r.fmt==1)=false:=by simp [h2]
 rw [if_neg h2]
 by_cases h3:r.fmt=2
 ·have b3:(r.fmt==2)=true:=by simp [h3]
  rw [if_pos h3]
  try unfold Aa
  repeat first
   |((with_reducible first|apply At|apply Ap|apply Ax|apply Ao|apply Az|apply Aw|apply Bb|apply Bc|apply A0|apply Al|apply Au|apply Am);· first|with_reducible rfl|(simp (disch:=omega) only [f0,b1,b2,b3,bt]<;>with_reducible rfl))
   |((with_reducible first|apply A4|apply A3);· first|with_reducible rfl|omega|(simp (disch:=omega) only [gT,f0,b1,b2,b3,bt]<;>omega))
   |(with_reducible apply Ay;· first|with_reducible rfl|(simp (disch:=omega) only [gF,f0,b1,b2,b3,bt]<;>omega))
  try simp (disch:=omega) only [f0,b1,b2,b3,bt]
  all_goals rfl
 have b3:(r.fmt==2)=false:=by simp [h3]
 rw [if_neg h3]
 try unfold Aa
 repeat first
  |((with_reducible first|apply At|apply Ap|apply Ax|apply Ao|apply Az|apply Aw|apply Bb|apply Bc|apply A0|apply Al|apply Au|apply Am);· first|with_reducible rfl|(simp (disch:=omega) only [f0,b1,b2,b3]<;>with_reducible rfl))
  |((with_reducible first|apply A4|apply A3);· first|with_reducible rfl|omega|(simp (disch:=omega) only [gT,f0,b1,b2,b3]<;>omega))
  |(with_reducible apply Ay;· first|with_reducible rfl|(simp (disch:=omega) only [gF,f0,b1,b2,b3]<;>omega))
 try simp (disch:=omega) only [f0,b1,b2,b3]
 all_goals rfl
end
end
section
set_option maxRecDepth 100000
abbrev Qi:FuncId:=11
theorem Z0 (fu d:Nat)(a0 a1:Int):Ae C0 Tryz.prog fu (d+1) Qi [.sc (.int .i64 a0),.sc (.int .i64 a1)]=(fun (call:Ak)=>Aa (IntKind.wrap .u64 a0) fun x1=>Aa (IntKind.wrap .u64 a1) fun x2=>Ar (decide (x2≠0))<|Aa (Int.tmod x1 x2) fun x3=>Aa (IntKind.wrap .i64 x3) fun x4=>some (A8.mk [.sc (.int .i64 x4)] [])) (Ae C0 Tryz.prog fu d):=by kernel_rfl
end
section
theorem A13 (v n:Int)(hn:0<n)(hm:n≤9223372036854775807):∃r,0≤r∧r<n∧∀{fu d:Nat},Ae C0 Tryz.prog fu (d+1) Qi [.sc (.int .i64 v),.sc (.int .i64 n)]=some ⟨[.sc (.int .i64 r)],[]⟩:=by
 have h1:=Ju v
 have h2:IntKind.wrap .u64 n=n:=Bq (by omega) (by omega)
 have h3:0≤Int.tmod (IntKind.wrap .u64 v) n:=Int.tmod_nonneg _ h1.1
 have h4:Int.tmod (IntKind.wrap .u64 v) n<n:=Int.tmod_lt_of_pos _ hn
 refine ⟨_,h3,h4,fun {fu d}=>?_⟩
 rw [Z0]
 simp only [Gn,h2]
 rw [Al8 _ _ (by omega),Aq (by omega) (by omega)]
end
section
set_option maxRecDepth 100000
abbrev Qm:FuncId:=16
theorem Aa8 (fu d:Nat)(a0 a1:Int):Ae C0 Tryz.prog fu (d+1) Qm [.sc (.int .u64 a0),.sc (.int .i64 a1)]=(fun (call:Ak)=>Ah (call 34 [.sc (.int .u64 a0),.sc (.int .i64 a1)]) fun x1 x2=>Ac x2<|Ab x1 fun x3 x4=>Co x3 fun x5=>Ab x5 fun x6 x7=>Af .i64 x6 fun x8=>Ab x7 fun x9 B5=>Af .u64 x9 fun B9=>Ac B5<|Ab x4 fun Cy C7=>Af .i64 Cy fun Cr=>Ac C7<|some (A8.mk [.agg [.sc (.int .i64 x8),.sc (.int .u64 B9)]] [])) (Ae C0 Tryz.prog fu d):=by kernel_rfl
abbrev Gb:FuncId:=25
theorem W8 (fu d:Nat)(a0 a1:Int):Ae C0 Tryz.prog fu (d+1) Gb [.sc (.int .i64 a0),.sc (.int .i64 a1)]=(fun (call:Ak)=>Aa (IntKind.wrap .u64 a0) fun x1=>Aa (IntKind.wrap .u64 (x1+1)) fun x2=>Aa (if 1024<a1 then 1024 else a1) fun x3=>Aa (if x3<0 then 0 else x3) fun x4=>Ah (call 52 [.sc (.int .u64 x2),.sc (.int .u64 7),.sc (.int .i64 x4)]) fun x5 x6=>Ac x6<|Ab x5 fun x7 x8=>C8 1 x7 fun x9 B5=>Ac x8<|Ar (decide (x9*1≤List.length B5))<|some (A8.mk [.own 1 x9 (List.take (x9*1) B5)] [])) (Ae C0 Tryz.prog fu d):=by kernel_rfl
abbrev Ik:FuncId:=23
theorem Qz (fu d:Nat)(a0 a1:Int)(a2:Bool):Ae C0 Tryz.prog fu (d+1) Ik [.sc (.int .i64 a0),.sc (.int .i64 a1),.sc (.bool a2)]=(fun (call:Ak)=>Aa (IntKind.wrap .u64 a0) fun x1=>Aa (IntKind.wrap .u64 (1000+x1)) fun x2=>Aa (IntKind.wrap .i64 (500+a0)) fun x3=>Ah (call 25 [.sc (.int .i64 x3),.sc (.int .i64 176)]) fun x4 x5=>Ac x5<|Ab x4 fun x6 x7=>C8 1 x6 fun x8 x9=>Ac x7<|Ar (decide (x8*1≤List.length x9))<|some (A8.mk [.agg [.sc (.int .u64 x2),.sc (.int .i64 a1),.own 1 x8 (List.take (x8*1) x9),.sc (.bool a2)]] [])) (Ae C0 Tryz.prog fu d):=by kernel_rfl
abbrev Ii:FuncId:=49
theorem Qy (fu d:Nat)(a0_0 a0_1:Int)(a0_2n:Nat)(a0_2:List PV)(a0_3 a1:Bool):Ae C0 Tryz.prog fu (d+1) Ii [.agg [.sc (.int .u64 a0_0),.sc (.int .i64 a0_1),.lst false 1 a0_2n a0_2,.sc (.bool a0_3)],.sc (.bool a1)]=(fun (call:Ak)=>Be (a1) (Be (a0_3) (some (A8.mk [.sc (.int .i64 13)] [])) (some (A8.mk [.sc (.int .i64 5)] []))) (Be (a0_3) (some (A8.mk [.sc (.int .i64 9)] [])) (some (A8.mk [.sc (.int .i64 1)] [])))) (Ae C0 Tryz.prog fu d):=by kernel_rfl
abbrev Nl:FuncId:=51
theorem Xh (fu d:Nat):Ae C0 Tryz.prog fu (d+1) Nl []=(fun (call:Ak)=>Ah (call 16 [.sc (.int .u64 33),.sc (.int .i64 4)]) fun x1 x2=>Ac x2<|Ab x1 fun x3 x4=>Co x3 fun x5=>Ab x5 fun x6 x7=>Af .i64 x6 fun x8=>Ab x7 fun x9 B5=>Af .u64 x9 fun B9=>Ac B5<|Ac x4<|Ah (call 78 [.agg [.sc (.string (ByteArray.mk #[(98:UInt8),(97:UInt8),(116:UInt8),(99:UInt8),(104:UInt8)])),.sc (.string (ByteArray.mk #[(114:UInt8),(111:UInt8),(111:UInt8),(116:UInt8)])),.sc (.int .u64 1),.sc (.int .i64 x8),.sc (.int .u64 B9),.sc (.int .i64 0),.sc (.int .i64 900),.sc (.bool false),.sc (.int .i64 0),.sc (.int .u64 3),.sc (.int .i64 0),.lst false 1 0 [],.lst false 1 0 []],.sc (.int .u64 32),.sc (.int .i64 1),.sc (.int .i64 0)]) fun Cy C7=>Ac C7<|Ab Cy fun Cr C3=>Co Cr fun Df=>Ab Df fun Ds D2=>Cu Ds fun D0=>Ab D2 fun D6 F1=>Cu D6 fun Ey=>Ab F1 fun Fs De=>Af .u64 Fs fun C9=>Ab De fun Eu F6=>Af .i64 Eu fun Ef=>Ab F6 fun Hn Hg=>Af .u64 Hn fun G3=>Ab Hg fun Ie Hy=>Af .i64 Ie fun Ir=>Ab Hy fun G4 Jr=>Af .i64 G4 fun Nb=>Ab Jr fun Fq Ih=>Bz Fq fun Q8=>Ab Ih fun Sk Mj=>Af .i64 Sk fun Po=>Ab Mj fun Of Oy=>Af .u64 Of fun Q2=>Ab Oy fun Ra Rj=>Af .i64 Ra fun Qc=>Ab Rj fun Si Tg=>Jn 1 Si fun Sh Lr Ui=>Ab Tg fun R0 Um=>Jn 1 R0 fun Sf S9 Tx=>Ac Um<|Ab C3 fun Uu Ux=>Af .i64 Uu fun X6=>Ac Ux<|Ah (call 44 [.agg [.sc (.string D0),.sc (.string Ey),.sc (.int .u64 C9),.sc (.int .i64 Ef),.sc (.int .u64 G3),.sc (.int .i64 Ir),.sc (.int .i64 Nb),.sc (.bool Q8),.sc (.int .i64 Po),.sc (.int .u64 Q2),.sc (.int .i64 Qc),.lst false 1 Lr Ui,.lst false 1 S9 Tx]]) fun Xc Us=>Ac Us<|Ab Xc fun Ut Tp=>C8 1 Ut fun Tf Y4=>Ab Tp fun Vb V7=>Af .i64 Vb fun Vi=>Ac V7<|Ar (decide (0+Tf*1≤List.length Y4))<|some (A8.mk [.own 1 1 [.lst false 1 Tf (List.take (Tf*1) (List.drop 0 Y4))]] [])) (Ae C0 Tryz.prog fu d):=by kernel_rfl
abbrev Ks:FuncId:=80
theorem Ub (fu d:Nat)(a0 a1 a2:Int):Ae C0 Tryz.prog fu (d+1) Ks [.sc (.int .i64 a0),.sc (.int .i64 a1),.sc (.int .i64 a2)]=(fun (call:Ak)=>Be (decide (a0≥a1)) (some (A8.mk [.sc (.bool (decide (a0≤a2)))] [])) (some (A8.mk [.sc (.bool false)] []))) (Ae C0 Tryz.prog fu d):=by kernel_rfl
abbrev Kq:FuncId:=48
theorem Uj (fu d:Nat)(a0:ByteArray):Ae C0 Tryz.prog fu (d+1) Kq [.sc (.string a0)]=(fun (call:Ak)=>Ar (decide (ByteArray.size a0≤1099511627776))<|Ar (decide (0+ByteArray.size a0*1≤List.length (Cg a0)))<|Ah (call 46 [.sc (.int .i64 9),.lst false 1 (ByteArray.size a0) (List.take (ByteArray.size a0*1) (List.drop 0 (Cg a0)))]) fun x1 x2=>Ac x2<|Ab x1 fun x3 x4=>Af .u64 x3 fun x5=>Ac x4<|some (A8.mk [.sc (.int .u64 x5)] [])) (Ae C0 Tryz.prog fu d):=by kernel_rfl
abbrev Hi:FuncId:=54
theorem Nr (fu d:Nat)(a0_0 a0_1:Int)(a0_2 a0_3 a0_4:Int)(Tw:Nat)(a0_5:List PV)(a0_6 a0_7:Int):Ae C0 Tryz.prog fu (d+1) Hi [.agg [.sc (.int .u64 a0_0),.sc (.int .i64 a0_1),.sc (.int .i64 a0_2),.sc (.int .i64 a0_3),.sc (.int .u64 a0_4),.lst false 1 Tw a0_5,.sc (.int .i64 a0_6),.sc (.int .u64 a0_7)]]=(fun (call:Ak)=>Aa (Amp .i64 a0_1 93) fun x1=>Be (x1 != 0) (some (A8.mk [.sc (.int .i64 9)] [])) (Ah (call 80 [.sc (.int .i64 a0_2),.sc (.int .i64 0),.sc (.int .i64 16)]) fun x2 x3=>Ac x3<|Ab x2 fun x4 x5=>Bz x4 fun x6=>Ac x5<|Be (!x6) (some (A8.mk [.sc (.int .i64 9)] [])) (Ah (call 80 [.sc (.int .i64 a0_3),.sc (.int .i64 0),.sc (.int .i64 15)]) fun x7 x8=>Ac x8<|Ab x7 fun x9 B5=>Bz x9 fun B9=>Ac B5<|Be (!B9) (some (A8.mk [.sc (.int .i64 9)] [])) (Aa (Dz .i64 a0_1 16) fun Cy=>Be (Cy != 0) (Aa (Dz .i64 a0_1 8) fun C7=>Be (C7==0) (some (A8.mk [.sc (.int .i64 18)] [])) (Aa (Dz .i64 a0_1 64) fun Cr=>Be (Cr==0) (Be (a0_4 != 0) (some (A8.mk [.sc (.int .i64 4)] [])) (Be (decide ((↑Tw:Int)>0)) (some (A8.mk [.sc (.int .i64 4)] [])) (Be (!(a0_6==0&&(a0_7==0&&true))) (some (A8.mk [.sc (.int .i64 4)] [])) (some (A8.mk [.sc (.int .i64 0)] []))))) (Be ((↑Tw:Int) != 176) (some (A8.mk [.sc (.int .i64 4)] [])) (Ah (call 68 [.agg [.sc (.int .i64 a0_6),.sc (.int .u64 a0_7)]]) fun C3 Df=>Ac Df<|Ab C3 fun Ds D2=>C8 1 Ds fun D0 D6=>Ab D2 fun F1 Ey=>Af .i64 F1 fun Fs=>Ac Ey<|some (A8.mk [.sc (.int .i64 Fs)] []))))) (Aa (Dz .i64 a0_1 64) fun De=>Be (De==0) (Be (a0_4 != 0) (some (A8.mk [.sc (.int .i64 4)] [])) (Be (decide ((↑Tw:Int)>0)) (some (A8.mk [.sc (.int .i64 4)] [])) (Be (!(a0_6==0&&(a0_7==0&&true))) (some (A8.mk [.sc (.int .i64 4)] [])) (some (A8.mk [.sc (.int .i64 0)] []))))) (Be ((↑Tw:Int) != 176) (some (A8.mk [.sc (.int .i64 4)] [])) (Ah (call 68 [.agg [.sc (.int .i64 a0_6),.sc (.int .u64 a0_7)]]) fun C9 Eu=>Ac Eu<|Ab C9 fun F6 Ef=>C8 1 F6 fun Hn Hg=>Ab Ef fun G3 Ie=>Af .i64 G3 fun Hy=>Ac Ie<|some (A8.mk [.sc (.int .i64 Hy)] [])))))))) (Ae C0 Tryz.prog fu d):=by kernel_rfl
abbrev H8:FuncId:=50
theorem Pp (fu d:Nat)(a0_0 a0_1:Int)(a0_2 a0_3 a0_4:Int)(Tw:Nat)(a0_5:List PV)(a0_6 a0_7:Int):Ae C0 Tryz.prog fu (d+1) H8 [.agg [.sc (.int .u64 a0_0),.sc (.int .i64 a0_1),.sc (.int .i64 a0_2),.sc (.int .i64 a0_3),.sc (.int .u64 a0_4),.lst false 1 Tw a0_5,.sc (.int .i64 a0_6),.sc (.int .u64 a0_7)]]=(fun (call:Ak)=>Ah (call 54 [.agg [.sc (.int .u64 a0_0),.sc (.int .i64 a0_1),.sc (.int .i64 a0_2),.sc (.int .i64 a0_3),.sc (.int .u64 a0_4),.lst false 1 Tw a0_5,.sc (.int .i64 a0_6),.sc (.int .u64 a0_7)]]) fun x1 x2=>Ac x2<|Ab x1 fun x3 x4=>Af .i64 x3 fun x5=>Ac x4<|Be (x5 != 0) (some (A8.mk [.own 1 0 [],.sc (.int .i64 x5)] [])) (Ah (call 38 [.lst false 1 1 [.sc (.int .u64 a0_0)]]) fun x6 x7=>Ac x7<|Ab x6 fun x8 x9=>C8 1 x8 fun B5 B9=>Ac x9<|Aa (IntKind.wrap .u8 a0_1) fun Cy=>Aa (IntKind.wrap .u8 a0_2) fun C7=>Aa (IntKind.wrap .u8 a0_3) fun Cr=>Ar (decide (B5*1≤List.length B9)&&true&&decide ((B5+3)*1≤1099511627776)&&decide (B5+3≤1099511627776))<|Aa (B5+3) fun C3=>Aa (List.take (B5*1) B9++[.sc (.int .u8 Cy),.sc (.int .u8 C7),.sc (.int .u8 Cr)]) fun Df=>Aa (Dz .i64 a0_1 64) fun Ds=>Be (Ds != 0) (Ah (call 68 [.agg [.sc (.int .i64 a0_6),.sc (.int .u64 a0_7)]]) fun D2 D0=>Ac D0<|Ab D2 fun D6 F1=>C8 1 D6 fun Ey Fs=>Ab F1 fun De C9=>Af .i64 De fun Eu=>Ac C9<|Ah (call 38 [.lst false 1 1 [.sc (.int .u64 a0_4)]]) fun F6 Ef=>Ac Ef<|Ab F6 fun Hn Hg=>C8 1 Hn fun G3 Ie=>Ac Hg<|Ar (decide (0+G3*1≤List.length Ie))<|Ar (decide (C3*1≤List.length Df)&&decide (List.length (List.take (G3*1) (List.drop 0 Ie))=G3*1)&&decide ((C3+G3)*1≤1099511627776)&&decide (C3+G3≤1099511627776))<|Aa (C3+G3) fun Hy=>Aa (List.take (C3*1) Df++List.take (G3*1) (List.drop 0 Ie)) fun Ir=>Ar (decide (Hy*1≤List.length Ir)&&decide (List.length a0_5=Tw*1)&&decide ((Hy+Tw)*1≤1099511627776)&&decide (Hy+Tw≤1099511627776))<|Aa (Hy+Tw) fun G4=>Aa (List.take (Hy*1) Ir++a0_5) fun Jr=>Ar (decide (0+Ey*1≤List.length Fs))<|Ar (decide (G4*1≤List.length Jr)&&decide (List.length (List.take (Ey*1) (List.drop 0 Fs))=Ey*1)&&decide ((G4+Ey)*1≤1099511627776)&&decide (G4+Ey≤1099511627776))<|Aa (G4+Ey) fun Nb=>Aa (List.take (G4*1) Jr++List.take (Ey*1) (List.drop 0 Fs)) fun Fq=>Ar (decide (Nb*1≤List.length Fq))<|some (A8.mk [.own 1 Nb (List.take (Nb*1) Fq),.sc (.int .i64 0)] [])) (Ar (decide (C3*1≤List.length Df))<|some (A8.mk [.own 1 C3 (List.take (C3*1) Df),.sc (.int .i64 0)] [])))) (Ae C0 Tryz.prog fu d):=by kernel_rfl
abbrev H5:FuncId:=26
theorem Pt (fu d a0n:Nat)(a0:List PV):Ae C0 Tryz.prog fu (d+1) H5 [.lst false 1 a0n a0]=(fun (call:Ak)=>Be ((↑a0n:Int) != 11) (Be ((↑a0n:Int) != 204) (some (A8.mk [.agg [.sc (.int .u64 0),.sc (.int .i64 0),.sc (.int .i64 0),.sc (.int .i64 0),.sc (.int .u64 0),.lst false 1 0 [],.sc (.int .i64 0),.sc (.int .u64 0)],.sc (.int .i64 2)] [])) (Ar (decide (8≤a0n))<|Aa (List.take 8 (List.drop 0 a0)) fun x1=>Ah (call 53 [.lst false 1 8 x1]) fun x2 x3=>Ac x3<|Ab x2 fun x4 x5=>Af .u64 x4 fun x6=>Ac x5<|Ar (decide (8<(↑a0n:Int)))<|Af .u8 (List.getD a0 8 .top) fun x7=>Aa (IntKind.wrap .i64 x7) fun x8=>Ar (decide (9<(↑a0n:Int)))<|Af .u8 (List.getD a0 9 .top) fun x9=>Aa (IntKind.wrap .i64 x9) fun B5=>Ar (decide (10<(↑a0n:Int)))<|Af .u8 (List.getD a0 10 .top) fun B9=>Aa (IntKind.wrap .i64 B9) fun Cy=>Be (decide ((↑a0n:Int)>11)) (Ar (decide (195≤a0n)&&decide (a0n≤a0n))<|Aa (a0n-195) fun C7=>Aa (List.take (C7*1) (List.drop 195 a0)) fun Cr=>Ah (call 43 [.lst false 1 C7 Cr]) fun C3 Df=>Ac Df<|Ab C3 fun Ds D2=>Co Ds fun D0=>Ab D0 fun D6 F1=>Af .i64 D6 fun Ey=>Ab F1 fun Fs De=>Af .u64 Fs fun C9=>Ac De<|Ab D2 fun Eu F6=>Af .i64 Eu fun Ef=>Ac F6<|Be (Ef != 0) (some (A8.mk [.agg [.sc (.int .u64 0),.sc (.int .i64 0),.sc (.int .i64 0),.sc (.int .i64 0),.sc (.int .u64 0),.lst false 1 0 [],.sc (.int .i64 0),.sc (.int .u64 0)],.sc (.int .i64 2)] [])) (Ar (decide (19≤a0n))<|Aa (List.take 8 (List.drop 11 a0)) fun Hn=>Ah (call 53 [.lst false 1 8 Hn]) fun Hg G3=>Ac G3<|Ab Hg fun Ie Hy=>Af .u64 Ie fun Ir=>Ac Hy<|Ar (decide (195≤a0n))<|Aa (List.take 176 (List.drop 19 a0)) fun G4=>Ar (decide (List.length G4=176)&&true&&true)<|Ar (decide (176≤List.length G4))<|Ah (call 54 [.agg [.sc (.int .u64 x6),.sc (.int .i64 x8),.sc (.int .i64 B5),.sc (.int .i64 Cy),.sc (.int .u64 Ir),.lst false 1 176 (List.take 176 (List.drop 0 G4)),.sc (.int .i64 Ey),.sc (.int .u64 C9)]]) fun Jr Nb=>Ac Nb<|Ab Jr fun Fq Ih=>Af .i64 Fq fun Q8=>Ac Ih<|Be (Q8 != 0) (some (A8.mk [.agg [.sc (.int .u64 0),.sc (.int .i64 0),.sc (.int .i64 0),.sc (.int .i64 0),.sc (.int .u64 0),.lst false 1 0 [],.sc (.int .i64 0),.sc (.int .u64 0)],.sc (.int .i64 2)] [])) (Aa (Dz .i64 x8 64) fun Sk=>Be (!decide ((↑a0n:Int)>11)==(Sk != 0)) (some (A8.mk [.agg [.sc (.int .u64 0),.sc (.int .i64 0),.sc (.int .i64 0),.sc (.int .i64 0),.sc (.int .u64 0),.lst false 1 0 [],.sc (.int .i64 0),.sc (.int .u64 0)],.sc (.int .i64 2)] [])) (Ar (decide (176≤List.length G4))<|some (A8.mk [.agg [.sc (.int .u64 x6),.sc (.int .i64 x8),.sc (.int .i64 B5),.sc (.int .i64 Cy),.sc (.int .u64 Ir),.lst false 1 176 (List.take 176 (List.drop 0 G4)),.sc (.int .i64 Ey),.sc (.int .u64 C9)],.sc (.int .i64 0)] []))))) (Ah (call 54 [.agg [.sc (.int .u64 x6),.sc (.int .i64 x8),.sc (.int .i64 B5),.sc (.int .i64 Cy),.sc (.int .u64 0),.lst false 1 0 [],.sc (.int .i64 0),.sc (.int .u64 0)]]) fun Mj Po=>Ac Po<|Ab Mj fun Of Oy=>Af .i64 Of fun Q2=>Ac Oy<|Be (Q2 != 0) (some (A8.mk [.agg [.sc (.int .u64 0),.sc (.int .i64 0),.sc (.int .i64 0),.sc (.int .i64 0),.sc (.int .u64 0),.lst false 1 0 [],.sc (.int .i64 0),.sc (.int .u64 0)],.sc (.int .i64 2)] [])) (Aa (Dz .i64 x8 64) fun Ra=>Be (!decide ((↑a0n:Int)>11)==(Ra != 0)) (some (A8.mk [.agg [.sc (.int .u64 0),.sc (.int .i64 0),.sc (.int .i64 0),.sc (.int .i64 0),.sc (.int .u64 0),.lst false 1 0 [],.sc (.int .i64 0),.sc (.int .u64 0)],.sc (.int .i64 2)] [])) (some (A8.mk [.agg [.sc (.int .u64 x6),.sc (.int .i64 x8),.sc (.int .i64 B5),.sc (.int .i64 Cy),.sc (.int .u64 0),.lst false 1 0 [],.sc (.int .i64 0),.sc (.int .u64 0)],.sc (.int .i64 0)] [])))))) (Ar (decide (8≤a0n))<|Aa (List.take 8 (List.drop 0 a0)) fun Rj=>Ah (call 53 [.lst false 1 8 Rj]) fun Qc Si=>Ac Si<|Ab Qc fun Tg Sh=>Af .u64 Tg fun Lr=>Ac Sh<|Ar (decide (8<(↑a0n:Int)))<|Af .u8 (List.getD a0 8 .top) fun Ui=>Aa (IntKind.wrap .i64 Ui) fun R0=>Ar (decide (9<(↑a0n:Int)))<|Af .u8 (List.getD a0 9 .top) fun Um=>Aa (IntKind.wrap .i64 Um) fun Sf=>Ar (decide (10<(↑a0n:Int)))<|Af .u8 (List.getD a0 10 .top) fun S9=>Aa (IntKind.wrap .i64 S9) fun Tx=>Be (decide ((↑a0n:Int)>11)) (Ar (decide (195≤a0n)&&decide (a0n≤a0n))<|Aa (a0n-195) fun Uu=>Aa (List.take (Uu*1) (List.drop 195 a0)) fun Ux=>Ah (call 43 [.lst false 1 Uu Ux]) fun X6 Xc=>Ac Xc<|Ab X6 fun Us Ut=>Co Us fun Tp=>Ab Tp fun Tf Y4=>Af .i64 Tf fun Vb=>Ab Y4 fun V7 Vi=>Af .u64 V7 fun Xe=>Ac Vi<|Ab Ut fun Zc Uw=>Af .i64 Zc fun Xb=>Ac Uw<|Be (Xb != 0) (some (A8.mk [.agg [.sc (.int .u64 0),.sc (.int .i64 0),.sc (.int .i64 0),.sc (.int .i64 0),.sc (.int .u64 0),.lst false 1 0 [],.sc (.int .i64 0),.sc (.int .u64 0)],.sc (.int .i64 2)] [])) (Ar (decide (19≤a0n))<|Aa (List.take 8 (List.drop 11 a0)) fun x76=>Ah (call 53 [.lst false 1 8 x76]) fun Xw Zf=>Ac Zf<|Ab Xw fun x79 x80=>Af .u64 x79 fun x81=>Ac x80<|Ar (decide (195≤a0n))<|Aa (List.take 176 (List.drop 19 a0)) fun x82=>Ar (decide (List.length x82=176)&&true&&true)<|Ar (decide (176≤List.length x82))<|Ah (call 54 [.agg [.sc (.int .u64 Lr),.sc (.int .i64 R0),.sc (.int .i64 Sf),.sc (.int .i64 Tx),.sc (.int .u64 x81),.lst false 1 176 (List.take 176 (List.drop 0 x82)),.sc (.int .i64 Vb),.sc (.int .u64 Xe)]]) fun x83 x84=>Ac x84<|Ab x83 fun x85 x86=>Af .i64 x85 fun x87=>Ac x86<|Be (x87 != 0) (some (A8.mk [.agg [.sc (.int .u64 0),.sc (.int .i64 0),.sc (.int .i64 0),.sc (.int .i64 0),.sc (.int .u64 0),.lst false 1 0 [],.sc (.int .i64 0),.sc (.int .u64 0)],.sc (.int .i64 2)] [])) (Aa (Dz .i64 R0 64) fun x88=>Be (!decide ((↑a0n:Int)>11)==(x88 != 0)) (some (A8.mk [.agg [.sc (.int .u64 0),.sc (.int .i64 0),.sc (.int .i64 0),.sc (.int .i64 0),.sc (.int .u64 0),.lst false 1 0 [],.sc (.int .i64 0),.sc (.int .u64 0)],.sc (.int .i64 2)] [])) (Ar (decide (176≤List.length x82))<|some (A8.mk [.agg [.sc (.int .u64 Lr),.sc (.int .i64 R0),.sc (.int .i64 Sf),.sc (.int .i64 Tx),.sc (.int .u64 x81),.lst false 1 176 (List.take 176 (List.drop 0 x82)),.sc (.int .i64 Vb),.sc (.int .u64 Xe)],.sc (.int .i64 0)] []))))) (Ah (call 54 [.agg [.sc (.int .u64 Lr),.sc (.int .i64 R0),.sc (.int .i64 Sf),.sc (.int .i64 Tx),.sc (.int .u64 0),.lst false 1 0 [],.sc (.int .i64 0),.sc (.int .u64 0)]]) fun Uk x90=>Ac x90<|Ab Uk fun x91 x92=>Af .i64 x91 fun x93=>Ac x92<|Be (x93 != 0) (some (A8.mk [.agg [.sc (.int .u64 0),.sc (.int .i64 0),.sc (.int .i64 0),.sc (.int .i64 0),.sc (.int .u64 0),.lst false 1 0 [],.sc (.int .i64 0),.sc (.int .u64 0)],.sc (.int .i64 2)] [])) (Aa (Dz .i64 R0 64) fun x94=>Be (!decide ((↑a0n:Int)>11)==(x94 != 0)) (some (A8.mk [.agg [.sc (.int .u64 0),.sc (.int .i64 0),.sc (.int .i64 0),.sc (.int .i64 0),.sc (.int .u64 0),.lst false 1 0 [],.sc (.int .i64 0),.sc (.int .u64 0)],.sc (.int .i64 2)] [])) (some (A8.mk [.agg [.sc (.int .u64 Lr),.sc (.int .i64 R0),.sc (.int .i64 Sf),.sc (.int .i64 Tx),.sc (.int .u64 0),.lst false 1 0 [],.sc (.int .i64 0),.sc (.int .u64 0)],.sc (.int .i64 0)] [])))))) (Ae C0 Tryz.prog fu d):=by kernel_rfl
abbrev J1:FuncId:=27
theorem Te (fu d a0n:Nat)(a0:List PV)(a1:Int):Ae C0 Tryz.prog fu (d+1) J1 [.lst false 1 a0n a0,.sc (.int .u64 a1)]=(fun (call:Ak)=>Ar (decide (List.length a0=a0n*1)&&decide (a0n*1≤1099511627776)&&decide (a0n≤1099511627776))<|Ah (call 38 [.lst false 1 1 [.sc (.int .u64 a1)]]) fun x1 x2=>Ac x2<|Ab x1 fun x3 x4=>C8 1 x3 fun x5 x6=>Ac x4<|Ar (decide (0+x5*1≤List.length x6))<|Ar (decide (a0n*1≤List.length a0)&&decide (List.length (List.take (x5*1) (List.drop 0 x6))=x5*1)&&decide ((a0n+x5)*1≤1099511627776)&&decide (a0n+x5≤1099511627776))<|Aa (a0n+x5) fun x7=>Aa (List.take (a0n*1) a0++List.take (x5*1) (List.drop 0 x6)) fun x8=>Ar (decide (0+x7*1≤List.length x8))<|Ah (call 46 [.sc (.int .i64 13),.lst false 1 x7 (List.take (x7*1) (List.drop 0 x8))]) fun x9 B5=>Ac B5<|Ab x9 fun B9 Cy=>Af .u64 B9 fun C7=>Ac Cy<|some (A8.mk [.sc (.int .u64 C7)] [])) (Ae C0 Tryz.prog fu d):=by kernel_rfl
abbrev Jp:FuncId:=28
theorem Ro (fu d:Nat)(a0:ByteArray):Ae C0 Tryz.prog fu (d+1) Jp [.sc (.string a0)]=(fun (call:Ak)=>Ar (decide (ByteArray.size a0≤1099511627776))<|Ar (decide (0+ByteArray.size a0*1≤List.length (Cg a0)))<|Ah (call 46 [.sc (.int .i64 11),.lst false 1 (ByteArray.size a0) (List.take (ByteArray.size a0*1) (List.drop 0 (Cg a0)))]) fun x1 x2=>Ac x2<|Ab x1 fun x3 x4=>Af .u64 x3 fun x5=>Ac x4<|some (A8.mk [.sc (.int .u64 x5)] [])) (Ae C0 Tryz.prog fu d):=by kernel_rfl
abbrev Kp:FuncId:=75
theorem Ua (fu d:Nat)(a0:Int):Ae C0 Tryz.prog fu (d+1) Kp [.sc (.int .i64 a0)]=(fun (call:Ak)=>Be (a0==1) (some (A8.mk [.sc (.string (ByteArray.mk #[(112:UInt8),(97:UInt8),(115:UInt8),(115:UInt8),(107:UInt8),(101:UInt8),(121:UInt8),(46:UInt8),(99:UInt8),(114:UInt8),(101:UInt8),(97:UInt8),(116:UInt8),(101:UInt8)]))] [])) (Be (a0==2) (some (A8.mk [.sc (.string (ByteArray.mk #[(112:UInt8),(97:UInt8),(115:UInt8),(115:UInt8),(107:UInt8),(101:UInt8),(121:UInt8),(46:UInt8),(103:UInt8),(101:UInt8),(116:UInt8)]))] [])) (some (A8.mk [.sc (.string (ByteArray.mk #[]))] [])))) (Ae C0 Tryz.prog fu d):=by kernel_rfl
abbrev H4:FuncId:=77
noncomputable def Cn (fu:Nat)(call:Ak)(a0n:Nat)(a0:List PV)(nn y0:Nat)(y1:List PV)(y2:ByteArray)(y3:Int):Option A8:=C5 C0 Tryz.prog fu call 77 Tryz.f77 (B7 Tryz.f77) [.lst false 1 a0n a0] [.r,.r,.l,.r,.l] nn ⟨lk [(0,(.lst false 1 y0 y1)),(3,(.sc (.string y2))),(4,(.sc (.int .i64 y3)))],Gv []⟩
noncomputable def Bv (fu:Nat)(call:Ak)(a0n:Nat)(a0:List PV)(m0 nn y0:Nat)(y1:List PV)(y2:ByteArray)(y3 y4 y5:Int):Option A8:=C5 C0 Tryz.prog fu call 77 Tryz.f77 (B7 Tryz.f77) [.lst false 1 a0n a0] [.r,.r,.l,.r,.l,.i m0,.r,.l,.l,.r,.r,.r,.r,.l] nn ⟨lk [(0,(.lst false 1 y0 y1)),(3,(.sc (.string y2))),(4,(.sc (.int .i64 y3))),(5,(.sc (.int .u64 y4))),(6,(.sc (.int .i64 y5)))],Gv []⟩
theorem Ex (fu:Nat)(call:Ak)(a0n:Nat)(a0:List PV)(nn y0:Nat)(y1:List PV)(y2:ByteArray)(y3:Int):Cn fu call a0n a0 (nn+1) y0 y1 y2 y3=(Be (decide (y3<(↑y0:Int))) (Ar (decide (0≤y3)&&decide (y3<(↑y0:Int)))<|Af .u8 (List.getD y1 (Int.toNat y3*1) .top) fun x1=>Aa (IntKind.wrap .u64 x1) fun x2=>Aa (Ew .u64 x2 16) fun x3=>Aa (IntKind.wrap .i64 (y3+1)) fun x4=>Be (decide (x4<(↑y0:Int))) (Aa (IntKind.wrap .i64 (y3+1)) fun x5=>Ar (decide (0≤x5)&&decide (x5<(↑y0:Int)))<|Af .u8 (List.getD y1 (Int.toNat x5*1) .top) fun x6=>Aa (IntKind.wrap .u64 x6) fun x7=>Aa (Ew .u64 x7 8) fun x8=>Aa (Xf .u64 x3 x8) fun x9=>Aa (IntKind.wrap .i64 (y3+2)) fun B5=>Be (decide (B5<(↑y0:Int))) (Aa (IntKind.wrap .i64 (y3+2)) fun B9=>Ar (decide (0≤B9)&&decide (B9<(↑y0:Int)))<|Af .u8 (List.getD y1 (Int.toNat B9*1) .top) fun Cy=>Aa (IntKind.wrap .u64 Cy) fun C7=>Aa (Xf .u64 x9 C7) fun Cr=>Bv fu call a0n a0 nn (fu) (y0) (y1) (y2) (y3) Cr 0) (Bv fu call a0n a0 nn (fu) (y0) (y1) (y2) (y3) x9 0)) (Aa (IntKind.wrap .i64 (y3+2)) fun C3=>Be (decide (C3<(↑y0:Int))) (Aa (IntKind.wrap .i64 (y3+2)) fun Df=>Ar (decide (0≤Df)&&decide (Df<(↑y0:Int)))<|Af .u8 (List.getD y1 (Int.toNat Df*1) .top) fun Ds=>Aa (IntKind.wrap .u64 Ds) fun D2=>Aa (Xf .u64 x3 D2) fun D0=>Bv fu call a0n a0 nn (fu) (y0) (y1) (y2) (y3) D0 0) (Bv fu call a0n a0 nn (fu) (y0) (y1) (y2) (y3) x3 0))) (some (A8.mk [.sc (.string y2)] []))):=by kernel_rfl
theorem Ev (fu:Nat)(call:Ak)(a0n:Nat)(a0:List PV)(m0 nn y0:Nat)(y1:List PV)(y2:ByteArray)(y3 y4 y5:Int):Bv fu call a0n a0 m0 (nn+1) y0 y1 y2 y3 y4 y5=(Be (decide (y5<4)) (Aa (IntKind.wrap .i64 ((↑y0:Int)-y3)) fun D6=>Be (decide (y5≤D6)) (Aa (IntKind.wrap .u64 y5) fun F1=>Aa (IntKind.wrap .u64 (6*F1)) fun Ey=>Aa (IntKind.wrap .u64 (18-Ey)) fun Fs=>Ar (decide (0≤Fs))<|Aa (Dx .u64 y4 Fs) fun De=>Aa (Dz .u64 De 63) fun C9=>Aa (IntKind.wrap .u64 (C9+1)) fun Eu=>Ar (decide (0≤C9))<|Ar (decide (0≤Eu))<|Ar (decide (Int.toNat C9≤Int.toNat Eu)&&decide (Int.toNat Eu≤64))<|Aa (ByteArray.extract (ByteArray.mk #[(65:UInt8),(66:UInt8),(67:UInt8),(68:UInt8),(69:UInt8),(70:UInt8),(71:UInt8),(72:UInt8),(73:UInt8),(74:UInt8),(75:UInt8),(76:UInt8),(77:UInt8),(78:UInt8),(79:UInt8),(80:UInt8),(81:UInt8),(82:UInt8),(83:UInt8),(84:UInt8),(85:UInt8),(86:UInt8),(87:UInt8),(88:UInt8),(89:UInt8),(90:UInt8),(97:UInt8),(98:UInt8),(99:UInt8),(100:UInt8),(101:UInt8),(102:UInt8),(103:UInt8),(104:UInt8),(105:UInt8),(106:UInt8),(107:UInt8),(108:UInt8),(109:UInt8),(110:UInt8),(111:UInt8),(112:UInt8),(113:UInt8),(114:UInt8),(115:UInt8),(116:UInt8),(117:UInt8),(118:UInt8),(119:UInt8),(120:UInt8),(121:UInt8),(122:UInt8),(48:UInt8),(49:UInt8),(50:UInt8),(51:UInt8),(52:UInt8),(53:UInt8),(54:UInt8),(55:UInt8),(56:UInt8),(57:UInt8),(45:UInt8),(95:UInt8)]) (Int.toNat C9) (Int.toNat Eu)) fun F6=>Ar (decide (ByteArray.size y2+ByteArray.size F6≤9223372036854775807))<|Aa (y2++F6) fun Ef=>Aa (IntKind.wrap .i64 (y5+1)) fun Hn=>Bv fu call a0n a0 m0 (nn) (y0) (y1) Ef (y3) (y4) Hn) (Aa (IntKind.wrap .i64 (y3+3)) fun Hg=>Cn fu call a0n a0 (m0) (y0) (y1) (y2) Hg)) (Aa (IntKind.wrap .i64 (y3+3)) fun G3=>Cn fu call a0n a0 (m0) (y0) (y1) (y2) G3)):=by kernel_rfl
theorem Pw (fu d a0n:Nat)(a0:List PV):Ae C0 Tryz.prog fu (d+1) H4 [.lst false 1 a0n a0]=(fun (call:Ak)=>Cn fu call a0n a0 (fu) (a0n) (a0) (ByteArray.mk #[]) 0) (Ae C0 Tryz.prog fu d):=by kernel_rfl
abbrev H3:FuncId:=47
theorem Pu (fu d:Nat)(a0_0:Int)(Tt:Nat)(a0_1:List PV)(a0_2:ByteArray)(a0_3:Bool)(a0_4:ByteArray):Ae C0 Tryz.prog fu (d+1) H3 [.agg [.sc (.int .i64 a0_0),.lst false 1 Tt a0_1,.sc (.string a0_2),.sc (.bool a0_3),.sc (.string a0_4)]]=(fun (call:Ak)=>Ah (call 75 [.sc (.int .i64 a0_0)]) fun x1 x2=>Ac x2<|Ab x1 fun x3 x4=>Cu x3 fun x5=>Ac x4<|Be (Array.toList (ByteArray.data x5)==Array.toList (ByteArray.data (ByteArray.mk #[]))) (some (A8.mk [.sc (.string (ByteArray.mk #[])),.sc (.int .i64 3)] [])) (Be (decide ((↑Tt:Int)<1)) (some (A8.mk [.sc (.string (ByteArray.mk #[])),.sc (.int .i64 9)] [])) (Be (decide ((↑Tt:Int)>64)) (some (A8.mk [.sc (.string (ByteArray.mk #[])),.sc (.int .i64 9)] [])) (Ah (call 76 [.sc (.string a0_2)]) fun x6 x7=>Ac x7<|Ab x6 fun x8 x9=>Co x8 fun B5=>Ab B5 fun B9 Cy=>Bz B9 fun C7=>Ab Cy fun Cr C3=>Cu Cr fun Df=>Ab C3 fun Ds D2=>Af .i64 Ds fun D0=>Ac D2<|Ab x9 fun D6 F1=>Af .i64 D6 fun Ey=>Ac F1<|Be (Ey != 0) (some (A8.mk [.sc (.string (ByteArray.mk #[])),.sc (.int .i64 Ey)] [])) (Ah (call 75 [.sc (.int .i64 a0_0)]) fun Fs De=>Ac De<|Ab Fs fun C9 Eu=>Cu C9 fun F6=>Ac Eu<|Ar (decide (9+ByteArray.size F6≤9223372036854775807))<|Aa (ByteArray.mk #[(123:UInt8),(34:UInt8),(116:UInt8),(121:UInt8),(112:UInt8),(101:UInt8),(34:UInt8),(58:UInt8),(34:UInt8)]++F6) fun Ef=>Ar (decide (ByteArray.size Ef+15≤9223372036854775807))<|Aa (Ef++ByteArray.mk #[(34:UInt8),(44:UInt8),(34:UInt8),(99:UInt8),(104:UInt8),(97:UInt8),(108:UInt8),(108:UInt8),(101:UInt8),(110:UInt8),(103:UInt8),(101:UInt8),(34:UInt8),(58:UInt8),(34:UInt8)]) fun Hn=>Ah (call 77 [.lst false 1 Tt a0_1]) fun Hg G3=>Ac G3<|Ab Hg fun Ie Hy=>Cu Ie fun Ir=>Ac Hy<|Ar (decide (ByteArray.size Hn+ByteArray.size Ir≤9223372036854775807))<|Aa (Hn++Ir) fun G4=>Ar (decide (ByteArray.size G4+12≤9223372036854775807))<|Aa (G4++ByteArray.mk #[(34:UInt8),(44:UInt8),(34:UInt8),(111:UInt8),(114:UInt8),(105:UInt8),(103:UInt8),(105:UInt8),(110:UInt8),(34:UInt8),(58:UInt8),(34:UInt8)]) fun Jr=>Ar (decide (ByteArray.size Jr+ByteArray.size a0_2≤9223372036854775807))<|Aa (Jr++a0_2) fun Nb=>Ar (decide (ByteArray.size Nb+16≤9223372036854775807))<|Aa (Nb++ByteArray.mk #[(34:UInt8),(44:UInt8),(34:UInt8),(99:UInt8),(114:UInt8),(111:UInt8),(115:UInt8),(115:UInt8),(79:UInt8),(114:UInt8),(105:UInt8),(103:UInt8),(105:UInt8),(110:UInt8),(34:UInt8),(58:UInt8)]) fun Fq=>Be (!a0_3) (Be (!Array.toList (ByteArray.data a0_4)==Array.toList (ByteArray.data (ByteArray.mk #[]))) (some (A8.mk [.sc (.string (ByteArray.mk #[])),.sc (.int .i64 4)] [])) (Ar (decide (ByteArray.size Fq+6≤9223372036854775807))<|Aa (Fq++ByteArray.mk #[(102:UInt8),(97:UInt8),(108:UInt8),(115:UInt8),(101:UInt8),(125:UInt8)]) fun Ih=>some (A8.mk [.sc (.string Ih),.sc (.int .i64 0)] []))) (Ah (call 76 [.sc (.string a0_4)]) fun Q8 Sk=>Ac Sk<|Ab Q8 fun Mj Po=>Co Mj fun Of=>Ab Of fun Oy Q2=>Bz Oy fun Ra=>Ab Q2 fun Rj Qc=>Cu Rj fun Si=>Ab Qc fun Tg Sh=>Af .i64 Tg fun Lr=>Ac Sh<|Ab Po fun Ui R0=>Af .i64 Ui fun Um=>Ac R0<|Be (Um != 0) (some (A8.mk [.sc (.string (ByteArray.mk #[])),.sc (.int .i64 Um)] [])) (Ar (decide (ByteArray.size Fq+18≤9223372036854775807))<|Aa (Fq++ByteArray.mk #[(116:UInt8),(114:UInt8),(117:UInt8),(101:UInt8),(44:UInt8),(34:UInt8),(116:UInt8),(111:UInt8),(112:UInt8),(79:UInt8),(114:UInt8),(105:UInt8),(103:UInt8),(105:UInt8),(110:UInt8),(34:UInt8),(58:UInt8),(34:UInt8)]) fun Sf=>Ar (decide (ByteArray.size Sf+ByteArray.size a0_4≤9223372036854775807))<|Aa (Sf++a0_4) fun S9=>Ar (decide (ByteArray.size S9+2≤9223372036854775807))<|Aa (S9++ByteArray.mk #[(34:UInt8),(125:UInt8)]) fun Tx=>some (A8.mk [.sc (.string Tx),.sc (.int .i64 0)] [])))))))) (Ae C0 Tryz.prog fu d):=by kernel_rfl
abbrev Oh:FuncId:=76
end
section
theorem Wq {a b:List Int}(ha:Ha a)(hb:Ha b):Ha (a++b):=by
 intro x hx
 rcases List.mem_append.1 hx with hx|hx
 ·exact ha x hx
 ·exact hb x hx
section
variable {fu d:Nat}
theorem An2 (hfu:1000≤fu){a0 a1 a2:Int}{key nonce:Int}{n:Nat}(hn:n≤1024):∀(k nn:Nat)(i:Int)(l:List Int),n≤l.length+8*k→k<nn→Ha l→l.length≤2000 →
  0≤i→i+k≤100000→∃r,Ha r∧r.length=n∧Fl fu (Ae C0 Tryz.prog fu (d+4)) a0 a1 a2 nn key nonce (n:Int) l.length i (Ag .u8 l)=some ⟨[.own 1 n (Ag .u8 r)],[]⟩:=by
 intro k
 induction k with
 |zero=>
  intro nn i l h1 h2 hb hl i0 i1
  obtain ⟨m,rfl⟩:∃m,nn=m+1:=⟨nn-1,by omega⟩
  refine ⟨l.take n,hb.take n,by rw [List.length_take];omega,?_⟩
  have L:=Aj .u8 l
  have nt:Int.toNat (n:Int)=n:=Int.toNat_natCast _
  rw [Gk]
  try unfold Aa
  repeat first
   |((with_reducible first|apply At|apply Ap|apply Ax|apply Ao|apply Az|apply Aw|apply Bb|apply Bc|apply A0|apply Al|apply Au|apply Am);· first|with_reducible rfl|(simp (disch:=omega) only [L,nt,Nat.sub_zero,Nat.mul_one,Dp]<;>with_reducible rfl))
   |((with_reducible first|apply A4|apply A3);· first|with_reducible rfl|omega|(simp (disch:=omega) only [gT,L,nt,Nat.sub_zero,Nat.mul_one,Dp]<;>omega))
   |(with_reducible apply Ay;· first|with_reducible rfl|(simp (disch:=omega) only [gF,L,nt,Nat.sub_zero,Nat.mul_one,Dp]<;>omega))
  try simp (disch:=omega) only [L,nt,Nat.sub_zero,Nat.mul_one,Dp]
 |succ k ih=>
  intro nn i l h1 h2 hb hl i0 i1
  obtain ⟨m,rfl⟩:∃m,nn=m+1:=⟨nn-1,by omega⟩
  have L:=Aj .u8 l
  have nt:Int.toNat (n:Int)=n:=Int.toNat_natCast _
  by_cases hlt:l.length<n
  rotate_left
  ·refine ⟨l.take n,hb.take n,by rw [List.length_take];omega,?_⟩
   rw [Gk]
   try unfold Aa
   repeat first
    |((with_reducible first|apply At|apply Ap|apply Ax|apply Ao|apply Az|apply Aw|apply Bb|apply Bc|apply A0|apply Al|apply Au|apply Am);· first|with_reducible rfl|(simp (disch:=omega) only [L,nt,Nat.sub_zero,Nat.mul_one,Dp]<;>with_reducible rfl))
    |((with_reducible first|apply A4|apply A3);· first|with_reducible rfl|omega|(simp (disch:=omega) only [gT,L,nt,Nat.sub_zero,Nat.mul_one,Dp]<;>omega))
    |(with_reducible apply Ay;· first|with_reducible rfl|(simp (disch:=omega) only [gF,L,nt,Nat.sub_zero,Nat.mul_one,Dp]<;>omega))
   try simp (disch:=omega) only [L,nt,Nat.sub_zero,Nat.mul_one,Dp]
  have w1:IntKind.wrap .u64 i=i:=Bq (by omega) (by omega)
  have w2:IntKind.wrap .i64 (i+1)=i+1:=Aq (by omega) (by omega)
  have wd:Ae C0 Tryz.prog fu (d+4) Dm [.lst false 1 2 [.sc (.int .u64 nonce),.sc (.int .u64 i)]]=some ⟨[.own 1 (A5 [nonce,i]).length (Ag .u8 (A5 [nonce,i]))],[]⟩:=Jo (ws:=[nonce,i]) (by simp) (by omega) (by simp;omega)
  have mc:=Ath (fu:=fu) (d:=d) (l:=A5 [nonce,i]) (Rk _) (by rw [Cm];simp) (by omega) (by rw [Cm];simp;omega) key 5
  have L2:=Aj .u8 (A5 [nonce,i])
  have t2:=Gw .u8 (A5 [nonce,i])
  generalize A0c key 5 (A5 [nonce,i])=q at mc
  have ow:=Aro (fu:=fu) (d:=d+3) hfu q
  have Lq:(Ag .u8 (Bp q)).length=8:=by rw [Aj,Cc]
  have tq:List.take 8 (Ag .u8 (Bp q))=Ag .u8 (Bp q):=List.take_of_length_le (by omega)
  have tl:=Gw .u8 l
  have ea:Ag .u8 l++Ag .u8 (Bp q)=Ag .u8 (l++Bp q):=by rw [Ag,Ag,Ag,List.flatMap_append]
  obtain ⟨r,r1,r2,r3⟩:=ih m (i+1) (l++Bp q) (by rw [List.length_append,Cc];omega) (by omega) (Wq hb (Wo q)) (by rw [List.length_append,Cc];omega) (by omega) (by omega)
  refine ⟨r,r1,r2,?_⟩
  rw [List.length_append,Cc] at r3
  rw [←r3,Gk]
  generalize A5 [nonce,i]=W at *
  generalize W.length=wn at *
  try unfold Aa
  repeat first
   |((with_reducible first|apply At|apply Ap|apply Ax|apply Ao|apply Az|apply Aw|apply Bb|apply Bc|apply A0|apply Al|apply Au|apply Am);· first|with_reducible rfl|(simp (disch:=omega) only [w1,w2,wd,List.drop_zero,Nat.zero_add,Nat.mul_one,L,L2,t2,mc,ow,Lq,tq,tl,ea]<;>with_reducible rfl))
   |((with_reducible first|apply A4|apply A3);· first|with_reducible rfl|omega|(simp (disch:=omega) only [gT,w1,w2,wd,List.drop_zero,Nat.zero_add,Nat.mul_one,L,L2,t2,mc,ow,Lq,tq,tl,ea]<;>omega))
   |(with_reducible apply Ay;· first|with_reducible rfl|(simp (disch:=omega) only [gF,w1,w2,wd,List.drop_zero,Nat.zero_add,Nat.mul_one,L,L2,t2,mc,ow,Lq,tq,tl,ea]<;>omega))
  try simp (disch:=omega) only [w1,w2,wd,List.drop_zero,Nat.zero_add,Nat.mul_one,L,L2,t2,mc,ow,Lq,tq,tl,ea]
  all_goals rfl
theorem Am7 (hfu:1000≤fu)(seed:Int){n:Nat}(hn:n≤1024):∃r,Ha r∧r.length=n∧Ae C0 Tryz.prog fu (d+6) Gb [.sc (.int .i64 seed),.sc (.int .i64 n)]=some ⟨[.own 1 n (Ag .u8 r)],[]⟩:=by
 obtain ⟨r,r1,r2,r3⟩:=An2 (fu:=fu) (d:=d) hfu (a0:=IntKind.wrap .u64 (IntKind.wrap .u64 seed+1)) (a1:=7) (a2:=n) (key:=IntKind.wrap .u64 (IntKind.wrap .u64 seed+1)) (nonce:=7) hn 128 fu 0 [] (by omega) (by omega) (by intro x hx;cases hx) (by simp) (by omega) (by omega)
 refine ⟨r,r1,r2,?_⟩
 have e:Ae C0 Tryz.prog fu (d+5) Ma [.sc (.int .u64 (IntKind.wrap .u64 (IntKind.wrap .u64 seed+1))),.sc (.int .u64 7),.sc (.int .i64 n)]=some ⟨[.own 1 n (Ag .u8 r)],[]⟩:=by
  rw [U6]
  have f1:(if (n:Int)<0 then (0:Int) else (n:Int))=n:=if_neg (by omega)
  have f2:(if (1024:Int)<(n:Int) then (1024:Int) else (n:Int))=n:=if_neg (by omega)
  simp only [Gn,f1,f2]
  exact r3
 have f1:(if (n:Int)<0 then (0:Int) else (n:Int))=n:=if_neg (by omega)
 have f2:(if (1024:Int)<(n:Int) then (1024:Int) else (n:Int))=n:=if_neg (by omega)
 have L:=Aj .u8 r
 have t:List.take n (Ag .u8 r)=Ag .u8 r:=by rw [←r2];exact Gw .u8 r
 rw [W8]
 simp (disch:=omega) only [Bx,f1,f2,e,Nat.mul_one,L,t]
theorem Afu (hfu:1000≤fu)(seed h:Int):Ae C0 Tryz.prog fu (d+13) Qm [.sc (.int .u64 seed),.sc (.int .i64 h)]=some ⟨[.agg (Dg seed h).cells],[]⟩:=by
 rw [Aa8]
 have p:=Arc (fu:=fu) (d:=d) hfu seed h
 simp only [Ky.cells] at p ⊢
 simp only [Bx,p]
theorem Azs (hfu:1000≤fu){n:Int}(h0:0≤n)(h1:n≤10000)(h:Int)(sh:Bool):∃id_,Ha id_∧id_.length=176∧Ae C0 Tryz.prog fu (d+7) Ik [.sc (.int .i64 n),.sc (.int .i64 h),.sc (.bool sh)]=some ⟨[.agg [.sc (.int .u64 (1000+n)),.sc (.int .i64 h),.own 1 176 (Ag .u8 id_),.sc (.bool sh)]],[]⟩:=by
 have w1:IntKind.wrap .u64 n=n:=Bq (by omega) (by omega)
 have w2:IntKind.wrap .u64 (1000+n)=1000+n:=Bq (by omega) (by omega)
 have w3:IntKind.wrap .i64 (500+n)=500+n:=Aq (by omega) (by omega)
 obtain ⟨r,r1,r2,r3⟩:=Am7 (fu:=fu) (d:=d) hfu (500+n) (n:=176) (by omega)
 refine ⟨r,r1,r2,?_⟩
 have L:=Aj .u8 r
 have t:List.take 176 (Ag .u8 r)=Ag .u8 r:=by rw [←r2];exact Gw .u8 r
 have r3':Ae C0 Tryz.prog fu (d+6) Gb [.sc (.int .i64 (500+n)),.sc (.int .i64 176)]=some ⟨[.own 1 176 (Ag .u8 r)],[]⟩:=r3
 rw [Qz]
 simp (disch:=omega) only [Bx,w1,w2,w3,r3',Nat.mul_one,L,t]
def Ack (sh vf:Bool):Int:=if vf=true then (if sh=true then 13 else 5) else if sh=true then 9 else 1
theorem Ayj (seed h:Int)(id_:List Int)(sh vf:Bool):Ae C0 Tryz.prog fu (d+1) Ii [.agg [.sc (.int .u64 seed),.sc (.int .i64 h),.lst false 1 id_.length (Ag .u8 id_),.sc (.bool sh)],.sc (.bool vf)]=some ⟨[.sc (.int .i64 (Ack sh vf))],[]⟩:=by
 rw [Qy]
 cases vf<;>cases sh<;>rfl
theorem Auh {s:ByteArray}(hs:s.size≤900)(hfu:1000≤fu):Ae C0 Tryz.prog fu (d+5) Kq [.sc (.string s)]=some ⟨[.sc (.int .u64 (D3 9 (D1 s)))],[]⟩:=by
 rw [Uj]
 have hh:=Vw (fu:=fu) (d:=d) (l:=D1 s) (Agi s) (by rw [En];omega) (by omega) (by rw [En];omega) 9
 have L:(Cg s).length=s.size:=by rw [Fw,Aj,En]
 have t:List.take s.size (Cg s)=Ag .u8 (D1 s):=by rw [Fw,List.take_of_length_le (by rw [Aj,En];omega)]
 rw [En] at hh
 simp (disch:=omega) only [Bx,L,t,List.drop_zero,Nat.mul_one,hh]
theorem Adj {s:ByteArray}(hs:s.size≤900)(hfu:1000≤fu):Ae C0 Tryz.prog fu (d+5) Jp [.sc (.string s)]=some ⟨[.sc (.int .u64 (D3 11 (D1 s)))],[]⟩:=by
 rw [Ro]
 have hh:=Vw (fu:=fu) (d:=d) (l:=D1 s) (Agi s) (by rw [En];omega) (by omega) (by rw [En];omega) 11
 have L:(Cg s).length=s.size:=by rw [Fw,Aj,En]
 have t:List.take s.size (Cg s)=Ag .u8 (D1 s):=by rw [Fw,List.take_of_length_le (by rw [Aj,En];omega)]
 rw [En] at hh
 simp (disch:=omega) only [Bx,L,t,List.drop_zero,Nat.mul_one,hh]
def Tl (b:List Int)(c:Int):Int:=D3 13 (b++Bp c)
theorem Ahs {b:List Int}(hb:Ha b)(hl:b.length≤900)(hfu:1000≤fu)(c:Int):Ae C0 Tryz.prog fu (d+5) J1 [.lst false 1 b.length (Ag .u8 b),.sc (.int .u64 c)]=some ⟨[.sc (.int .u64 (Tl b c))],[]⟩:=by
 rw [Te]
 unfold Tl
 have ow:=Aro (fu:=fu) (d:=d+3) hfu c
 have Lq:(Ag .u8 (Bp c)).length=8:=by rw [Aj,Cc]
 have tq:List.take 8 (Ag .u8 (Bp c))=Ag .u8 (Bp c):=List.take_of_length_le (by omega)
 have L:=Aj .u8 b
 have t:=Gw .u8 b
 have ea:Ag .u8 b++Ag .u8 (Bp c)=Ag .u8 (b++Bp c):=by rw [Ag,Ag,Ag,List.flatMap_append]
 have hl2:(b++Bp c).length=b.length+8:=by rw [List.length_append,Cc]
 have hh:=Vw (fu:=fu) (d:=d) (l:=b++Bp c) (Wq hb (Wo c)) (by omega) (by omega) (by omega) 13
 have L2:=Aj .u8 (b++Bp c)
 have t2:List.take (b.length+8) (Ag .u8 (b++Bp c))=Ag .u8 (b++Bp c):=List.take_of_length_le (by omega)
 rw [hl2] at hh
 simp (disch:=omega) only [Bx,ow,List.drop_zero,Nat.zero_add,Nat.mul_one,Lq,tq,L,t,ea,L2,t2,hh]
end
end
section
structure Ad.good (a:Ad):Prop where
 rp:isU a.rp
 flags:a.flags=77∨a.flags=69∨a.flags=73∨a.flags=65
 cnt:a.cnt=0∨a.cnt=1
 rng:a.rng=0
 model:isU a.model
 idB:Ha a.id_
 idl:a.id_.length=176
 key:Cl a.key.h=false
 root:isU a.key.root
def Uv (a:Ad):List Int:=Bp a.rp++([a.flags,a.cnt,a.rng]++(Bp a.model++(a.id_++F4 a.key)))
theorem Af5 (k:Ky):(F4 k).length=9:=rfl
theorem Asv {a:Ad}(h:a.good):(Uv a).length=204:=by
 unfold Uv
 simp only [List.length_append,Cc,List.length_cons,List.length_nil,h.idl,Af5]
theorem A1s {a:Ad}(h:a.good):Ha (Uv a):=by
 have hf:=h.flags
 have hc:=h.cnt
 have hr:=h.rng
 refine Wq (Wo _) (Wq ?_ (Wq (Wo _) (Wq h.idB Aqb)))
 intro x hx
 simp only [List.mem_cons,List.not_mem_nil,or_false] at hx
 rcases hx with rfl|rfl|rfl<;>omega
section
variable {fu d:Nat}
theorem Adm (n lo hi:Int):Ae C0 Tryz.prog fu (d+1) Ks [.sc (.int .i64 n),.sc (.int .i64 lo),.sc (.int .i64 hi)]=some ⟨[.sc (.bool (decide (lo≤n)&&decide (n≤hi)))],[]⟩:=by
 rw [Ub]
 by_cases h:lo≤n
 ·simp (disch:=omega) only [Bx,h,decide_true,Bool.true_and]
 ·simp (disch:=omega) only [Bx,h,decide_false,Bool.false_and]
theorem Ahv (hfu:1000≤fu){a:Ad}(h:a.good):Ae C0 Tryz.prog fu (d+3) Hi [.agg a.cells]=some ⟨[.sc (.int .i64 0)],[]⟩:=by
 refine (Nr fu (d+2) a.rp a.flags a.cnt a.rng a.model a.id_.length (Ag .u8 a.id_) a.key.h a.key.root).trans ?_
 have w1:=Adm (fu:=fu) (d:=d+1) a.cnt 0 16
 have w2:=Adm (fu:=fu) (d:=d+1) a.rng 0 15
 have q1:(decide ((0:Int)≤a.cnt)&&decide (a.cnt≤16))=true:=by
  rcases h.cnt with e|e<;>rw [e]<;>rfl
 have q2:(decide ((0:Int)≤a.rng)&&decide (a.rng≤15))=true:=by rw [h.rng];rfl
 rw [q1] at w1
 rw [q2] at w2
 have ek:=Yi (fu:=fu) (d:=d) hfu a.key
 rw [h.key,if_neg (by simp)] at ek
 simp only [Ky.cells] at ek
 have f1:(Amp .i64 a.flags 93 != 0)=false:=by rcases h.flags with e|e|e|e<;>rw [e]<;>decide
 have f2:(Dz .i64 a.flags 16 != 0)=false:=by rcases h.flags with e|e|e|e<;>rw [e]<;>decide
 have f3:(Dz .i64 a.flags 64==0)=false:=by rcases h.flags with e|e|e|e<;>rw [e]<;>decide
 have l:((a.id_.length:Int) != 176)=false:=by rw [h.idl];rfl
 try unfold Aa
 repeat first
  |((with_reducible first|apply At|apply Ap|apply Ax|apply Ao|apply Az|apply Aw|apply Bb|apply Bc|apply A0|apply Al|apply Au|apply Am);· first|with_reducible rfl|(simp (disch:=omega) only [f1,f2,f3,w1,w2,l,ek,Bool.not_true]<;>with_reducible rfl))
  |((with_reducible first|apply A4|apply A3);· first|with_reducible rfl|omega|(simp (disch:=omega) only [gT,f1,f2,f3,w1,w2,l,ek,Bool.not_true]<;>omega))
  |(with_reducible apply Ay;· first|with_reducible rfl|(simp (disch:=omega) only [gF,f1,f2,f3,w1,w2,l,ek,Bool.not_true]<;>omega))
 try simp (disch:=omega) only [f1,f2,f3,w1,w2,l,ek,Bool.not_true]
 all_goals rfl
theorem Aqo (hfu:1000≤fu){a:Ad}(h:a.good):Ae C0 Tryz.prog fu (d+4) H8 [.agg a.cells]=some ⟨[.own 1 204 (Ag .u8 (Uv a)),.sc (.int .i64 0)],[]⟩:=by
 refine (Pp fu (d+3) a.rp a.flags a.cnt a.rng a.model a.id_.length (Ag .u8 a.id_) a.key.h a.key.root).trans ?_
 have vd:=Ahv (fu:=fu) (d:=d) hfu h
 simp only [Ad.cells,Tk] at vd
 have e00:((0:Int) != 0)=false:=rfl
 have ek:=Yi (fu:=fu) (d:=d+1) hfu a.key
 rw [h.key,if_neg (by simp)] at ek
 simp only [Ky.cells] at ek
 have o1:=Aro (fu:=fu) (d:=d+2) hfu a.rp
 have o2:=Aro (fu:=fu) (d:=d+2) hfu a.model
 have f3:(Dz .i64 a.flags 64 != 0)=true:=by rcases h.flags with e|e|e|e<;>rw [e]<;>decide
 have u1:IntKind.wrap .u8 a.flags=a.flags:=by rcases h.flags with e|e|e|e<;>rw [e]<;>decide
 have u2:IntKind.wrap .u8 a.cnt=a.cnt:=by rcases h.cnt with e|e<;>rw [e]<;>decide
 have u3:IntKind.wrap .u8 a.rng=a.rng:=by rw [h.rng];decide
 have l1:(Ag .u8 (Bp a.rp)).length=8:=by rw [Aj,Cc]
 have l2:(Ag .u8 (Bp a.model)).length=8:=by rw [Aj,Cc]
 have l3:(Ag .u8 a.id_).length=176:=by rw [Aj,h.idl]
 have l4:(Ag .u8 (F4 a.key)).length=9:=by rw [Aj,Af5]
 have t1:List.take 8 (Ag .u8 (Bp a.rp))=Ag .u8 (Bp a.rp):=List.take_of_length_le (by omega)
 have t2:List.take 8 (Ag .u8 (Bp a.model))=Ag .u8 (Bp a.model):=List.take_of_length_le (by omega)
 have t4:List.take 9 (Ag .u8 (F4 a.key))=Ag .u8 (F4 a.key):=List.take_of_length_le (by omega)
 have E:Ag .u8 (Uv a)=Ag .u8 (Bp a.rp)++[.sc (.int .u8 a.flags),.sc (.int .u8 a.cnt),.sc (.int .u8 a.rng)]++Ag .u8 (Bp a.model)++Ag .u8 a.id_++Ag .u8 (F4 a.key):=by
  unfold Uv
  simp [Ag,List.flatMap_append]
 have il:=h.idl
 rw [il] at vd ⊢
 rw [E]
 generalize Ag .u8 (Bp a.rp)=c1 at *
 generalize Ag .u8 (Bp a.model)=c2 at *
 generalize Ag .u8 a.id_=c3 at *
 generalize Ag .u8 (F4 a.key)=c4 at *
 have T1:List.take 11 (c1++[PV.sc (.int .u8 a.flags),.sc (.int .u8 a.cnt),.sc (.int .u8 a.rng)])=c1++[PV.sc (.int .u8 a.flags),.sc (.int .u8 a.cnt),.sc (.int .u8 a.rng)]:=List.take_of_length_le (by simp;omega)
 have T2:List.take 19 (c1++[PV.sc (.int .u8 a.flags),.sc (.int .u8 a.cnt),.sc (.int .u8 a.rng)]++c2)=c1++[PV.sc (.int .u8 a.flags),.sc (.int .u8 a.cnt),.sc (.int .u8 a.rng)]++c2:=List.take_of_length_le (by simp;omega)
 have T3:List.take 195 (c1++[PV.sc (.int .u8 a.flags),.sc (.int .u8 a.cnt),.sc (.int .u8 a.rng)]++c2++c3)=c1++[PV.sc (.int .u8 a.flags),.sc (.int .u8 a.cnt),.sc (.int .u8 a.rng)]++c2++c3:=List.take_of_length_le (by simp;omega)
 have T4:List.take 204 (c1++[PV.sc (.int .u8 a.flags),.sc (.int .u8 a.cnt),.sc (.int .u8 a.rng)]++c2++c3++c4)=c1++[PV.sc (.int .u8 a.flags),.sc (.int .u8 a.cnt),.sc (.int .u8 a.rng)]++c2++c3++c4:=List.take_of_length_le (by simp;omega)
 have L1:(c1++[PV.sc (.int .u8 a.flags),.sc (.int .u8 a.cnt),.sc (.int .u8 a.rng)]).length=11:=by simp;omega
 have L2:(c1++[PV.sc (.int .u8 a.flags),.sc (.int .u8 a.cnt),.sc (.int .u8 a.rng)]++c2).length=19:=by simp;omega
 have L3:(c1++[PV.sc (.int .u8 a.flags),.sc (.int .u8 a.cnt),.sc (.int .u8 a.rng)]++c2++c3).length=195:=by simp;omega
 have L4:(c1++[PV.sc (.int .u8 a.flags),.sc (.int .u8 a.cnt),.sc (.int .u8 a.rng)]++c2++c3++c4).length=204:=by simp;omega
 try unfold Aa
 repeat first
  |((with_reducible first|apply At|apply Ap|apply Ax|apply Ao|apply Az|apply Aw|apply Bb|apply Bc|apply A0|apply Al|apply Au|apply Am);· first|with_reducible rfl|(simp (disch:=omega) only [vd,e00,o1,u1,u2,u3,l1,t1,Nat.mul_one,Nat.reduceAdd,Nat.reduceMul,f3,ek,o2,Nat.zero_add,List.drop_zero,l2,t2,L1,T1,L2,T2,l3,L3,T3,l4,t4,L4,T4]<;>with_reducible rfl))
  |((with_reducible first|apply A4|apply A3);· first|with_reducible rfl|omega|(simp (disch:=omega) only [gT,vd,e00,o1,u1,u2,u3,l1,t1,Nat.mul_one,Nat.reduceAdd,Nat.reduceMul,f3,ek,o2,Nat.zero_add,List.drop_zero,l2,t2,L1,T1,L2,T2,l3,L3,T3,l4,t4,L4,T4]<;>omega))
  |(with_reducible apply Ay;· first|with_reducible rfl|(simp (disch:=omega) only [gF,vd,e00,o1,u1,u2,u3,l1,t1,Nat.mul_one,Nat.reduceAdd,Nat.reduceMul,f3,ek,o2,Nat.zero_add,List.drop_zero,l2,t2,L1,T1,L2,T2,l3,L3,T3,l4,t4,L4,T4]<;>omega))
 try simp (disch:=omega) only [vd,e00,o1,u1,u2,u3,l1,t1,Nat.mul_one,Nat.reduceAdd,Nat.reduceMul,f3,ek,o2,Nat.zero_add,List.drop_zero,l2,t2,L1,T1,L2,T2,l3,L3,T3,l4,t4,L4,T4]
 all_goals rfl
theorem Ar2 (hfu:1000≤fu){a:Ad}(h:a.good):Ae C0 Tryz.prog fu (d+4) H5 [.lst false 1 204 (Ag .u8 (Uv a))]=some ⟨[.agg a.cells,.sc (.int .i64 0)],[]⟩:=by
 rw [Pt]
 have vd:=Ahv (fu:=fu) (d:=d) hfu h
 simp only [Ad.cells,Tk] at vd ⊢
 have e00:((0:Int) != 0)=false:=rfl
 have n1:(((204:Nat):Int) != 11)=true:=rfl
 have n2:(((204:Nat):Int) != 204)=false:=rfl
 have d1:List.take 8 (Ag .u8 (Uv a))=Ag .u8 (Bp a.rp):=by
  rw [Dp]
  congr 1
 have w1:=Aho (fu:=fu) (d:=d+2) hfu (l:=Bp a.rp) (Cc _)
 rw [Wr h.rp.1 h.rp.2] at w1
 have d2:List.take 8 (List.drop 11 (Ag .u8 (Uv a)))=Ag .u8 (Bp a.model):=by
  rw [Fb,Dp]
  congr 1
 have w2:=Aho (fu:=fu) (d:=d+2) hfu (l:=Bp a.model) (Cc _)
 rw [Wr h.model.1 h.model.2] at w2
 have g8:(Ag .u8 (Uv a)).getD 8 .top=.sc (.int .u8 a.flags):=rfl
 have g9:(Ag .u8 (Uv a)).getD 9 .top=.sc (.int .u8 a.cnt):=rfl
 have g10:(Ag .u8 (Uv a)).getD 10 .top=.sc (.int .u8 a.rng):=rfl
 have u1:IntKind.wrap .i64 a.flags=a.flags:=by rcases h.flags with e|e|e|e<;>rw [e]<;>decide
 have u2:IntKind.wrap .i64 a.cnt=a.cnt:=by rcases h.cnt with e|e<;>rw [e]<;>decide
 have u3:IntKind.wrap .i64 a.rng=a.rng:=by rw [h.rng];decide
 have D19:(Uv a).drop 19=a.id_++F4 a.key:=rfl
 have D195:(Uv a).drop 195=F4 a.key:=by
  rw [show 195=19+a.id_.length by rw [h.idl],←List.drop_drop,D19,List.drop_left' rfl]
 have d3:List.take 9 (List.drop 195 (Ag .u8 (Uv a)))=Ag .u8 (F4 a.key):=by
  rw [Fb,Dp,D195]
  congr 1
 have dk:=Aqf (fu:=fu) (d:=d+1) hfu (l:=F4 a.key) Aqb
 rw [Ajm h.key h.root] at dk
 simp only [Ahk,Ky.cells,Af5] at dk
 have d4:List.take 176 (List.drop 19 (Ag .u8 (Uv a)))=Ag .u8 a.id_:=by
  rw [Fb,Dp,D19,List.take_left' h.idl]
 have t4:List.take 176 (Ag .u8 a.id_)=Ag .u8 a.id_:=List.take_of_length_le (by rw [Aj,h.idl];omega)
 have l4:(Ag .u8 a.id_).length=176:=by rw [Aj,h.idl]
 have f3:(Dz .i64 a.flags 64 != 0)=true:=by rcases h.flags with e|e|e|e<;>rw [e]<;>decide
 have c1:decide (((204:Nat):Int)>11)=true:=rfl
 have c2:(true==true)=true:=rfl
 have s9:204-195=9:=rfl
 have il:=h.idl
 rw [il] at vd ⊢
 generalize Ag .u8 (Uv a)=E at *
 generalize Ag .u8 (Bp a.rp)=e1 at *
 generalize Ag .u8 (Bp a.model)=e2 at *
 generalize Ag .u8 (F4 a.key)=e3 at *
 generalize Ag .u8 a.id_=e4 at *
 try unfold Aa
 repeat first
  |((with_reducible first|apply At|apply Ap|apply Ax|apply Ao|apply Az|apply Aw|apply Bb|apply Bc|apply A0|apply Al|apply Au|apply Am);· first|with_reducible rfl|(simp (disch:=omega) only [n1,n2,List.drop_zero,d1,w1,g8,g9,g10,u1,u2,u3,c1,s9,Nat.mul_one,d3,dk,e00,d2,w2,d4,l4,t4,vd,f3,c2,Bool.not_true]<;>with_reducible rfl))
  |((with_reducible first|apply A4|apply A3);· first|with_reducible rfl|omega|(simp (disch:=omega) only [gT,n1,n2,List.drop_zero,d1,w1,g8,g9,g10,u1,u2,u3,c1,s9,Nat.mul_one,d3,dk,e00,d2,w2,d4,l4,t4,vd,f3,c2,Bool.not_true]<;>omega))
  |(with_reducible apply Ay;· first|with_reducible rfl|(simp (disch:=omega) only [gF,n1,n2,List.drop_zero,d1,w1,g8,g9,g10,u1,u2,u3,c1,s9,Nat.mul_one,d3,dk,e00,d2,w2,d4,l4,t4,vd,f3,c2,Bool.not_true]<;>omega))
 try simp (disch:=omega) only [n1,n2,List.drop_zero,d1,w1,g8,g9,g10,u1,u2,u3,c1,s9,Nat.mul_one,d3,dk,e00,d2,w2,d4,l4,t4,vd,f3,c2,Bool.not_true]
 all_goals rfl
end
end
section
set_option maxRecDepth 100000
abbrev Hj:FuncId:=24
theorem Nv (fu d:Nat)(a0_0 a0_1:Int)(a0_2n:Nat)(a0_2:List PV)(a0_3:Bool)(a1 a2:ByteArray)(a3n:Nat)(a3:List PV)(a4:Int)(a5:Bool)(a6:Int):Ae C0 Tryz.prog fu (d+1) Hj [.agg [.sc (.int .u64 a0_0),.sc (.int .i64 a0_1),.lst false 1 a0_2n a0_2,.sc (.bool a0_3)],.sc (.string a1),.sc (.string a2),.lst false 1 a3n a3,.sc (.int .i64 a4),.sc (.bool a5),.sc (.int .i64 a6)]=(fun (call:Ak)=>Ah (call 47 [.agg [.sc (.int .i64 1),.lst false 1 a3n a3,.sc (.string a2),.sc (.bool false),.sc (.string (ByteArray.mk #[]))]]) fun x1 x2=>Ac x2<|Ab x1 fun x3 x4=>Cu x3 fun x5=>Ab x4 fun x6 x7=>Af .i64 x6 fun x8=>Ac x7<|Ah (call 48 [.sc (.string a1)]) fun x9 B5=>Ac B5<|Ab x9 fun B9 Cy=>Af .u64 B9 fun C7=>Ac Cy<|Ah (call 49 [.agg [.sc (.int .u64 a0_0),.sc (.int .i64 a0_1),.lst false 1 a0_2n a0_2,.sc (.bool a0_3)],.sc (.bool a5)]) fun Cr C3=>Ac C3<|Ab Cr fun Df Ds=>Af .i64 Df fun D2=>Ac Ds<|Aa (Xf .i64 D2 64) fun D0=>Ah (call 16 [.sc (.int .u64 a0_0),.sc (.int .i64 a0_1)]) fun D6 F1=>Ac F1<|Ab D6 fun Ey Fs=>Co Ey fun De=>Ab De fun C9 Eu=>Af .i64 C9 fun F6=>Ab Eu fun Ef Hn=>Af .u64 Ef fun Hg=>Ac Hn<|Ac Fs<|Be (a4==1) (Ah (call 50 [.agg [.sc (.int .u64 C7),.sc (.int .i64 D0),.sc (.int .i64 1),.sc (.int .i64 0),.sc (.int .u64 3),.lst false 1 a0_2n a0_2,.sc (.int .i64 F6),.sc (.int .u64 Hg)]]) fun G3 Ie=>Ac Ie<|Ab G3 fun Hy Ir=>C8 1 Hy fun G4 Jr=>Ab Ir fun Nb Fq=>Af .i64 Nb fun Ih=>Ac Fq<|Ah (call 28 [.sc (.string x5)]) fun Q8 Sk=>Ac Sk<|Ab Q8 fun Mj Po=>Af .u64 Mj fun Of=>Ac Po<|Ar (decide (0+G4*1≤List.length Jr))<|Ah (call 27 [.lst false 1 G4 (List.take (G4*1) (List.drop 0 Jr)),.sc (.int .u64 Of)]) fun Oy Q2=>Ac Q2<|Ab Oy fun Ra Rj=>Af .u64 Ra fun Qc=>Ac Rj<|Be (a4==1) (Ah (call 17 [.sc (.int .u64 a0_0),.sc (.int .i64 a0_1),.sc (.int .i64 0),.sc (.int .u64 Qc)]) fun Si Tg=>Ac Tg<|Ab Si fun Sh Lr=>Co Sh fun Ui=>Ab Ui fun R0 Um=>Af .i64 R0 fun Sf=>Ab Um fun S9 Tx=>C8 1 S9 fun Uu Ux=>Ab Tx fun X6 Xc=>C8 1 X6 fun Us Ut=>Ac Xc<|Ab Lr fun Tp Tf=>Af .i64 Tp fun Y4=>Ac Tf<|Ar (decide (0+Uu*1≤List.length Ux))<|Ar (decide (0+Us*1≤List.length Ut))<|Ah (call 18 [.agg [.sc (.int .i64 Sf),.lst false 1 Uu (List.take (Uu*1) (List.drop 0 Ux)),.lst false 1 Us (List.take (Us*1) (List.drop 0 Ut))]]) fun Vb V7=>Ac V7<|Ab Vb fun Vi Xe=>C8 1 Vi fun Zc Uw=>Ab Xe fun Xb x76=>Af .i64 Xb fun Xw=>Ac x76<|Ar (decide (0+G4*1≤List.length Jr))<|Ar (decide (0+Zc*1≤List.length Uw))<|some (A8.mk [.agg [.sc (.int .i64 1),.sc (.string x5),.lst false 1 G4 (List.take (G4*1) (List.drop 0 Jr)),.lst false 1 Zc (List.take (Zc*1) (List.drop 0 Uw)),.lst false 1 0 [],.sc (.int .i64 a4),.lst false 1 a0_2n a0_2,.sc (.string (ByteArray.mk #[]))]] [])) (Be (a4==2) (Ah (call 17 [.sc (.int .u64 33),.sc (.int .i64 4),.sc (.int .i64 a6),.sc (.int .u64 Qc)]) fun Zf x79=>Ac x79<|Ab Zf fun x80 x81=>Co x80 fun x82=>Ab x82 fun x83 x84=>Af .i64 x83 fun x85=>Ab x84 fun x86 x87=>C8 1 x86 fun x88 Uk=>Ab x87 fun x90 x91=>C8 1 x90 fun x92 x93=>Ac x91<|Ab x81 fun x94 x95=>Af .i64 x94 fun x96=>Ac x95<|Ar (decide (0+x88*1≤List.length Uk))<|Ar (decide (0+x92*1≤List.length x93))<|Ah (call 18 [.agg [.sc (.int .i64 x85),.lst false 1 x88 (List.take (x88*1) (List.drop 0 Uk)),.lst false 1 x92 (List.take (x92*1) (List.drop 0 x93))]]) fun x97 x98=>Ac x98<|Ab x97 fun x99 Xa=>C8 1 x99 fun Th Hf=>Ab Xa fun Kd Y3=>Af .i64 Kd fun Sn=>Ac Y3<|Ah (call 51 []) fun Qs Mk=>Ac Mk<|Ab Qs fun Aab Ab0=>C8 1 Aab fun Yg Zx=>Ac Ab0<|Ar (decide (0+G4*1≤List.length Jr))<|Ar (decide (0+Th*1≤List.length Hf))<|Ar (decide (0+Yg*1≤List.length Zx))<|some (A8.mk [.agg [.sc (.int .i64 1),.sc (.string x5),.lst false 1 G4 (List.take (G4*1) (List.drop 0 Jr)),.lst false 1 Th (List.take (Th*1) (List.drop 0 Hf)),.lst false 1 Yg (List.take (Yg*1) (List.drop 0 Zx)),.sc (.int .i64 a4),.lst false 1 a0_2n a0_2,.sc (.string (ByteArray.mk #[]))]] [])) (Ar (decide (0+G4*1≤List.length Jr))<|some (A8.mk [.agg [.sc (.int .i64 1),.sc (.string x5),.lst false 1 G4 (List.take (G4*1) (List.drop 0 Jr)),.lst false 1 0 [],.lst false 1 0 [],.sc (.int .i64 a4),.lst false 1 a0_2n a0_2,.sc (.string (ByteArray.mk #[]))]] [])))) (Ah (call 50 [.agg [.sc (.int .u64 C7),.sc (.int .i64 D0),.sc (.int .i64 0),.sc (.int .i64 0),.sc (.int .u64 3),.lst false 1 a0_2n a0_2,.sc (.int .i64 F6),.sc (.int .u64 Hg)]]) fun Io Lh=>Ac Lh<|Ab Io fun Afj Agy=>C8 1 Afj fun Px Vp=>Ab Agy fun Ae3 Abw=>Af .i64 Ae3 fun Afb=>Ac Abw<|Ah (call 28 [.sc (.string x5)]) fun Aef Agt=>Ac Agt<|Ab Aef fun Aha Ae8=>Af .u64 Aha fun Aed=>Ac Ae8<|Ar (decide (0+Px*1≤List.length Vp))<|Ah (call 27 [.lst false 1 Px (List.take (Px*1) (List.drop 0 Vp)),.sc (.int .u64 Aed)]) fun Up Yy=>Ac Yy<|Ab Up fun Afc Ag7=>Af .u64 Afc fun Aby=>Ac Ag7<|Be (a4==1) (Ah (call 17 [.sc (.int .u64 a0_0),.sc (.int .i64 a0_1),.sc (.int .i64 0),.sc (.int .u64 Aby)]) fun Amn Agj=>Ac Agj<|Ab Amn fun Aec Ail=>Co Aec fun All=>Ab All fun Aku Aow=>Af .i64 Aku fun Al1=>Ab Aow fun Ahp Aiw=>C8 1 Ahp fun Agv Aid=>Ab Aiw fun Amw Ag6=>C8 1 Amw fun Aeh Ad3=>Ac Ag6<|Ab Ail fun Aiu Ak5=>Af .i64 Aiu fun Auv=>Ac Ak5<|Ar (decide (0+Agv*1≤List.length Aid))<|Ar (decide (0+Aeh*1≤List.length Ad3))<|Ah (call 18 [.agg [.sc (.int .i64 Al1),.lst false 1 Agv (List.take (Agv*1) (List.drop 0 Aid)),.lst false 1 Aeh (List.take (Aeh*1) (List.drop 0 Ad3))]]) fun Aqu Ap6=>Ac Ap6<|Ab Aqu fun Aht Alk=>C8 1 Aht fun Ale Ao5=>Ab Alk fun Aq4 Aom=>Af .i64 Aq4 fun Aoh=>Ac Aom<|Ar (decide (0+Px*1≤List.length Vp))<|Ar (decide (0+Ale*1≤List.length Ao5))<|some (A8.mk [.agg [.sc (.int .i64 1),.sc (.string x5),.lst false 1 Px (List.take (Px*1) (List.drop 0 Vp)),.lst false 1 Ale (List.take (Ale*1) (List.drop 0 Ao5)),.lst false 1 0 [],.sc (.int .i64 a4),.lst false 1 a0_2n a0_2,.sc (.string (ByteArray.mk #[]))]] [])) (Be (a4==2) (Ah (call 17 [.sc (.int .u64 33),.sc (.int .i64 4),.sc (.int .i64 a6),.sc (.int .u64 Aby)]) fun An8 Aqz=>Ac Aqz<|Ab An8 fun Aqv Aoq=>Co Aqv fun Arv=>Ab Arv fun Aky Am6=>Af .i64 Aky fun Arb=>Ab Am6 fun Ala Aoi=>C8 1 Ala fun Ams Aod=>Ab Aoi fun Aqy Azb=>C8 1 Aqy fun Aqn At1=>Ac Azb<|Ab Aoq fun Aqj Av8=>Af .i64 Aqj fun A0i=>Ac Av8<|Ar (decide (0+Ams*1≤List.length Aod))<|Ar (decide (0+Aqn*1≤List.length At1))<|Ah (call 18 [.agg [.sc (.int .i64 Arb),.lst false 1 Ams (List.take (Ams*1) (List.drop 0 Aod)),.lst false 1 Aqn (List.take (Aqn*1) (List.drop 0 At1))]]) fun Ay3 Awx=>Ac Awx<|Ab Ay3 fun A15 A2c=>C8 1 A15 fun Arq Aw8=>Ab A2c fun A2e A2x=>Af .i64 A2e fun A3v=>Ac A2x<|Ah (call 51 []) fun A2u A2h=>Ac A2h<|Ab A2u fun A2m A2b=>C8 1 A2m fun Aym A0w=>Ac A2b<|Ar (decide (0+Px*1≤List.length Vp))<|Ar (decide (0+Arq*1≤List.length Aw8))<|Ar (decide (0+Aym*1≤List.length A0w))<|some (A8.mk [.agg [.sc (.int .i64 1),.sc (.string x5),.lst false 1 Px (List.take (Px*1) (List.drop 0 Vp)),.lst false 1 Arq (List.take (Arq*1) (List.drop 0 Aw8)),.lst false 1 Aym (List.take (Aym*1) (List.drop 0 A0w)),.sc (.int .i64 a4),.lst false 1 a0_2n a0_2,.sc (.string (ByteArray.mk #[]))]] [])) (Ar (decide (0+Px*1≤List.length Vp))<|some (A8.mk [.agg [.sc (.int .i64 1),.sc (.string x5),.lst false 1 Px (List.take (Px*1) (List.drop 0 Vp)),.lst false 1 0 [],.lst false 1 0 [],.sc (.int .i64 a4),.lst false 1 a0_2n a0_2,.sc (.string (ByteArray.mk #[]))]] []))))) (Ae C0 Tryz.prog fu d):=by kernel_rfl
abbrev M9:FuncId:=8
theorem Xr (fu d:Nat)(a0 a1:Int)(a2 a3:Int):Ae C0 Tryz.prog fu (d+1) M9 [.sc (.int .i64 a0),.sc (.int .i64 a1),.sc (.int .i64 a2),.sc (.int .i64 a3)]=(fun (call:Ak)=>Ah (call 11 [.sc (.int .i64 a0),.sc (.int .i64 50)]) fun x1 x2=>Ac x2<|Ab x1 fun x3 x4=>Af .i64 x3 fun x5=>Ac x4<|Aa (Dz .i64 a0 64) fun x6=>Ah (call 23 [.sc (.int .i64 x5),.sc (.int .i64 a1),.sc (.bool (x6==64))]) fun x7 x8=>Ac x8<|Ab x7 fun x9 B5=>Co x9 fun B9=>Ab B9 fun Cy C7=>Af .u64 Cy fun Cr=>Ab C7 fun C3 Df=>Af .i64 C3 fun Ds=>Ab Df fun D2 D0=>C8 1 D2 fun D6 F1=>Ab D0 fun Ey Fs=>Bz Ey fun De=>Ac Fs<|Ac B5<|Aa (Dz .i64 a0 7) fun C9=>Ah (call 25 [.sc (.int .i64 C9),.sc (.int .i64 16)]) fun Eu F6=>Ac F6<|Ab Eu fun Ef Hn=>C8 1 Ef fun Hg G3=>Ac Hn<|Aa (Dz .i64 a0 128) fun Ie=>Ar (decide (0+D6*1≤List.length F1))<|Ar (decide (0+Hg*1≤List.length G3))<|Ah (call 24 [.agg [.sc (.int .u64 Cr),.sc (.int .i64 Ds),.lst false 1 D6 (List.take (D6*1) (List.drop 0 F1)),.sc (.bool De)],.sc (.string (ByteArray.mk #[(101:UInt8),(120:UInt8),(97:UInt8),(109:UInt8),(112:UInt8),(108:UInt8),(101:UInt8),(46:UInt8),(99:UInt8),(111:UInt8),(109:UInt8)])),.sc (.string (ByteArray.mk #[(104:UInt8),(116:UInt8),(116:UInt8),(112:UInt8),(115:UInt8),(58:UInt8),(47:UInt8),(47:UInt8),(101:UInt8),(120:UInt8),(97:UInt8),(109:UInt8),(112:UInt8),(108:UInt8),(101:UInt8),(46:UInt8),(99:UInt8),(111:UInt8),(109:UInt8)])),.lst false 1 Hg (List.take (Hg*1) (List.drop 0 G3)),.sc (.int .i64 a2),.sc (.bool (Ie==128)),.sc (.int .i64 a3)]) fun Hy Ir=>Ac Ir<|Ab Hy fun G4 Jr=>Co G4 fun Nb=>Ab Nb fun Fq Ih=>Af .i64 Fq fun Q8=>Ab Ih fun Sk Mj=>Cu Sk fun Po=>Ab Mj fun Of Oy=>Jn 1 Of fun Q2 Ra Rj=>Ab Oy fun Qc Si=>Jn 1 Qc fun Tg Sh Lr=>Ab Si fun Ui R0=>Jn 1 Ui fun Um Sf S9=>Ab R0 fun Tx Uu=>Af .i64 Tx fun Ux=>Ab Uu fun X6 Xc=>Jn 1 X6 fun Us Ut Tp=>Ab Xc fun Tf Y4=>Cu Tf fun Vb=>Ac Y4<|Ac Jr<|Ah (call 26 [.lst false 1 Ra Rj]) fun V7 Vi=>Ac Vi<|Ab V7 fun Xe Zc=>Co Xe fun Uw=>Ab Uw fun Xb x76=>Af .u64 Xb fun Xw=>Ab x76 fun Zf x79=>Af .i64 Zf fun x80=>Ab x79 fun x81 x82=>Af .i64 x81 fun x83=>Ab x82 fun x84 x85=>Af .i64 x84 fun x86=>Ab x85 fun x87 x88=>Af .u64 x87 fun Uk=>Ab x88 fun x90 x91=>Jn 1 x90 fun x92 x93 x94=>Ab x91 fun x95 x96=>Af .i64 x95 fun x97=>Ab x96 fun x98 x99=>Af .u64 x98 fun Xa=>Ac x99<|Ab Zc fun Th Hf=>Af .i64 Th fun Kd=>Ac Hf<|Ah (call 28 [.sc (.string Po)]) fun Y3 Sn=>Ac Sn<|Ab Y3 fun Qs Mk=>Af .u64 Qs fun Aab=>Ac Mk<|Ah (call 27 [.lst false 1 Ra Rj,.sc (.int .u64 Aab)]) fun Ab0 Yg=>Ac Yg<|Ab Ab0 fun Zx Io=>Af .u64 Zx fun Lh=>Ac Io<|some (A8.mk [.agg [.sc (.int .i64 Q8),.sc (.string Po),.lst false 1 Ra Rj,.lst false 1 Sh Lr,.lst false 1 Sf S9,.sc (.int .i64 Ux),.lst false 1 Ut Tp,.sc (.string Vb)],.agg [.sc (.int .u64 Xw),.sc (.int .i64 x80),.sc (.int .i64 x83),.sc (.int .i64 x86),.sc (.int .u64 Uk),.lst false 1 x93 x94,.sc (.int .i64 x97),.sc (.int .u64 Xa)],.sc (.int .u64 Lh)] [])) (Ae C0 Tryz.prog fu d):=by kernel_rfl
abbrev Mb:FuncId:=13
noncomputable def B3 (fu:Nat)(call:Ak)(nn:Nat)(y0:Int):Option A8:=C5 C0 Tryz.prog fu call 13 Tryz.f13 (B7 Tryz.f13) [] [.r,.l,.r,.l] nn ⟨lk [(1,(.sc (.int .i64 y0)))],Gv []⟩
theorem Jm (fu:Nat)(call:Ak)(nn:Nat)(y0:Int):B3 fu call (nn+1) y0=(Be (decide (y0≤2)) (Ah (call 8 [.sc (.int .i64 1),.sc (.int .i64 1),.sc (.int .i64 y0),.sc (.int .i64 0)]) fun x1 x2=>Ac x2<|Ab x1 fun x3 x4=>Co x3 fun x5=>Ab x5 fun x6 x7=>Af .i64 x6 fun x8=>Ab x7 fun x9 B5=>Cu x9 fun B9=>Ab B5 fun Cy C7=>Jn 1 Cy fun Cr C3 Df=>Ab C7 fun Ds D2=>Jn 1 Ds fun D0 D6 F1=>Ab D2 fun Ey Fs=>Jn 1 Ey fun De C9 Eu=>Ab Fs fun F6 Ef=>Af .i64 F6 fun Hn=>Ab Ef fun Hg G3=>Jn 1 Hg fun Ie Hy Ir=>Ab G3 fun G4 Jr=>Cu G4 fun Nb=>Ac Jr<|Ab x4 fun Fq Ih=>Co Fq fun Q8=>Ab Q8 fun Sk Mj=>Af .u64 Sk fun Po=>Ab Mj fun Of Oy=>Af .i64 Of fun Q2=>Ab Oy fun Ra Rj=>Af .i64 Ra fun Qc=>Ab Rj fun Si Tg=>Af .i64 Si fun Sh=>Ab Tg fun Lr Ui=>Af .u64 Lr fun R0=>Ab Ui fun Um Sf=>Jn 1 Um fun S9 Tx Uu=>Ab Sf fun Ux X6=>Af .i64 Ux fun Xc=>Ab X6 fun Us Ut=>Af .u64 Us fun Tp=>Ac Ut<|Ab Ih fun Tf Y4=>Af .u64 Tf fun Vb=>Ac Y4<|Ah (call 20 []) fun V7 Vi=>Ac Vi<|Ab V7 fun Xe Zc=>C8 3 Xe fun Uw Xb=>Ac Zc<|Ar (decide (0+Uw*3≤List.length Xb))<|Ah (call 14 [.agg [.sc (.int .i64 x8),.sc (.string B9),.lst false 1 C3 Df,.lst false 1 D6 F1,.lst false 1 C9 Eu,.sc (.int .i64 Hn),.lst false 1 Hy Ir,.sc (.string Nb)],.agg [.sc (.int .u64 Po),.sc (.int .i64 Q2),.sc (.int .i64 Qc),.sc (.int .i64 Sh),.sc (.int .u64 R0),.lst false 1 Tx Uu,.sc (.int .i64 Xc),.sc (.int .u64 Tp)],.sc (.int .u64 Vb),.lst false 3 Uw (List.take (Uw*3) (List.drop 0 Xb)),.lst false 3 0 [],.sc (.int .i64 5)]) fun x76 Xw=>Ac Xw<|Ab x76 fun Zf x79=>Co Zf fun x80=>Ab x80 fun x81 x82=>Af .i64 x81 fun x83=>Ab x82 fun x84 x85=>Af .i64 x84 fun x86=>Ab x85 fun x87 x88=>Af .i64 x87 fun Uk=>Ac x88<|Ab x79 fun x90 x91=>Af .i64 x90 fun x92=>Ac x91<|Be (y0==2) (Be (y0==1) (Be (x92 != 0) (some (A8.mk [.sc (.bool false)] [])) (Be (!(x83==y0&&(x86==1&&(Uk==0&&true)))) (some (A8.mk [.sc (.bool false)] [])) (Aa (IntKind.wrap .i64 (y0+1)) fun x93=>B3 fu call (nn) x93))) (Be (x92 != 0) (some (A8.mk [.sc (.bool false)] [])) (Be (!(x83==y0&&(x86==1&&(Uk==(-1)&&true)))) (some (A8.mk [.sc (.bool false)] [])) (Aa (IntKind.wrap .i64 (y0+1)) fun x94=>B3 fu call (nn) x94)))) (Be (y0==1) (Be (x92 != 0) (some (A8.mk [.sc (.bool false)] [])) (Be (!(x83==y0&&(x86==(-1)&&(Uk==0&&true)))) (some (A8.mk [.sc (.bool false)] [])) (Aa (IntKind.wrap .i64 (y0+1)) fun x95=>B3 fu call (nn) x95))) (Be (x92 != 0) (some (A8.mk [.sc (.bool false)] [])) (Be (!(x83==y0&&(x86==(-1)&&(Uk==(-1)&&true)))) (some (A8.mk [.sc (.bool false)] [])) (Aa (IntKind.wrap .i64 (y0+1)) fun x96=>B3 fu call (nn) x96))))) (some (A8.mk [.sc (.bool true)] []))):=by kernel_rfl
theorem Wc (fu d:Nat):Ae C0 Tryz.prog fu (d+1) Mb []=(fun (call:Ak)=>B3 fu call (fu) 0) (Ae C0 Tryz.prog fu d):=by kernel_rfl
end
section
set_option maxRecDepth 1000000
theorem Aet (dom:Int)(l:List Int):isU (D3 dom l):=Ju _
theorem A2a (key dom:Int)(l:List Int):isU (A0c key dom l):=Ju _
theorem Ayp (leaf chain:Int):∀(k:Nat)(p:Int){x:Int},isU x→isU (Sd leaf chain k p x)
 |0,_,_,h=>h
 |k+1,p,x,h=>Ayp leaf chain k (p+1) (Aet _ _)
theorem A2v (seed leaf m:Int):isW (Xl seed leaf m):=by
 intro x hx
 obtain ⟨k,_,rfl⟩:=List.mem_map.1 hx
 exact Ayp _ _ _ _ (A2a _ _ _)
theorem Asp (seed:Int):∀(l:Nat)(i:Int),isU (Ip seed l i)
 |0,i=>Aet _ _
 |l+1,i=>Aet _ _
theorem Ako (seed h:Int):isU (Dg seed h).root:=by
 unfold Dg
 split
 ·exact ⟨by simp,by simp⟩
 ·exact Asp _ _ _
theorem Akf (seed h:Int):Cl (Dg seed h).h=false:=by
 unfold Dg
 cases hh:Cl h
 ·rw [if_neg (by simp)]
  exact hh
 ·rw [if_pos rfl]
  rfl
theorem Aex {seed h leaf m:Int}(hh:Cl h=false)(ho:E6 leaf h=false):∃s,Air seed h leaf m=some s∧s.ok∧s.leaf=leaf∧s.chains.length=18∧(s.path.length:Int)=h∧Is (Dg seed h) m s=0:=by
 have hb:=Fj hh
 refine ⟨⟨leaf,Xl seed leaf m,(List.range h.toNat).map fun k=>Ip seed k (Uc leaf k)⟩,?_,⟨A2v _ _ _,?_⟩,rfl,by simp [Xl],?_,Axi hh ho⟩
 ·unfold Air
  rw [if_neg (by simp [hh]),if_neg (by simp [ho])]
 ·intro x hx
  obtain ⟨k,_,rfl⟩:=List.mem_map.1 hx
  exact Asp _ _ _
 ·simp only [List.length_map,List.length_range]
  omega
theorem A00 {s:Sg}:(Ix s).length=2+8*s.chains.length+8*s.path.length:=by
 unfold Ix
 simp only [List.length_cons,List.length_append,Cm]
 omega
section
variable {fu d:Nat}
theorem A0k {call:Ak}{a0n m0:Nat}{a0:List PV}{b:List Int}{i:Nat}(hi:i<b.length)(hl:b.length≤1000){n:Int}{S B:Nat}(hB:B≤100000)(hL:∀y:ByteArray,y.size≤B→∃s:ByteArray,s.size≤S∧Cn fu call a0n a0 m0 b.length (Ag .u8 b) y ((i+3:Nat):Int)=some ⟨[.sc (.string s)],[]⟩):
  ∀(k nn:Nat) (j:Nat) (y:ByteArray),j+k=4→k<nn→y.size+k≤B→∃s:ByteArray,s.size≤S∧Bv fu call a0n a0 m0 nn b.length (Ag .u8 b) y (i:Int) n (j:Int)=some ⟨[.sc (.string s)],[]⟩:=by
 have w3:IntKind.wrap .i64 ((i:Int)+3)=((i+3:Nat):Int):=by rw [Aq (by omega) (by omega)];omega
 intro k
 induction k with
 |zero=>
  intro nn j y hj hn hy
  obtain ⟨m,rfl⟩:∃m,nn=m+1:=⟨nn-1,by omega⟩
  obtain ⟨s,s1,s2⟩:=hL y (by omega)
  refine ⟨s,s1,?_⟩
  rw [←s2,Ev]
  try unfold Aa
  repeat first
   |((with_reducible first|apply At|apply Ap|apply Ax|apply Ao|apply Az|apply Aw|apply Bb|apply Bc|apply A0|apply Al|apply Au|apply Am);· first|with_reducible rfl|(simp (disch:=omega) only [w3]<;>with_reducible rfl))
   |((with_reducible first|apply A4|apply A3);· first|with_reducible rfl|omega|(simp (disch:=omega) only [gT,w3]<;>omega))
   |(with_reducible apply Ay;· first|with_reducible rfl|(simp (disch:=omega) only [gF,w3]<;>omega))
  try simp (disch:=omega) only [w3]
  all_goals rfl
 |succ k ih=>
  intro nn j y hj hn hy
  obtain ⟨m,rfl⟩:∃m,nn=m+1:=⟨nn-1,by omega⟩
  have w4:IntKind.wrap .i64 ((b.length:Int)-(i:Int))=(b.length:Int)-i:=Aq (by omega) (by omega)
  by_cases hjj:(j:Int)≤(b.length:Int)-i
  rotate_left
  ·obtain ⟨s,s1,s2⟩:=hL y (by omega)
   refine ⟨s,s1,?_⟩
   rw [←s2,Ev]
   try unfold Aa
   repeat first
    |((with_reducible first|apply At|apply Ap|apply Ax|apply Ao|apply Az|apply Aw|apply Bb|apply Bc|apply A0|apply Al|apply Au|apply Am);· first|with_reducible rfl|(simp (disch:=omega) only [w3,w4]<;>with_reducible rfl))
    |((with_reducible first|apply A4|apply A3);· first|with_reducible rfl|omega|(simp (disch:=omega) only [gT,w3,w4]<;>omega))
    |(with_reducible apply Ay;· first|with_reducible rfl|(simp (disch:=omega) only [gF,w3,w4]<;>omega))
   try simp (disch:=omega) only [w3,w4]
   all_goals rfl
  have u1:IntKind.wrap .u64 (j:Int)=j:=Bq (by omega) (by omega)
  have u2:IntKind.wrap .u64 (6*(j:Int))=6*j:=Bq (by omega) (by omega)
  have u3:IntKind.wrap .u64 (18-6*(j:Int))=18-6*j:=Bq (by omega) (by omega)
  have ib:=Ay4 (a:=Dx .u64 n (18-6*(j:Int))) (m:=63) (by omega) (by omega)
  obtain ⟨v,hv⟩:∃v,Dz .u64 (Dx .u64 n (18-6*(j:Int))) 63=v:=⟨_,rfl⟩
  rw [hv] at ib
  have u4:IntKind.wrap .u64 (v+1)=v+1:=Bq (by omega) (by omega)
  have w1:IntKind.wrap .i64 ((j:Int)+1)=((j+1:Nat):Int):=by rw [Aq (by omega) (by omega)];omega
  have ez:∀A:ByteArray,(A.extract v.toNat (v+1).toNat).size≤1:=by
   intro A
   rw [ByteArray.size_extract]
   omega
  obtain ⟨q,hq⟩:∃q:List UInt8,q=[(65:UInt8),(66:UInt8),(67:UInt8),(68:UInt8),(69:UInt8),(70:UInt8),(71:UInt8),(72:UInt8),(73:UInt8),(74:UInt8),(75:UInt8),(76:UInt8),(77:UInt8),(78:UInt8),(79:UInt8),(80:UInt8),(81:UInt8),(82:UInt8),(83:UInt8),(84:UInt8),(85:UInt8),(86:UInt8),(87:UInt8),(88:UInt8),(89:UInt8),(90:UInt8),(97:UInt8),(98:UInt8),(99:UInt8),(100:UInt8),(101:UInt8),(102:UInt8),(103:UInt8),(104:UInt8),(105:UInt8),(106:UInt8),(107:UInt8),(108:UInt8),(109:UInt8),(110:UInt8),(111:UInt8),(112:UInt8),(113:UInt8),(114:UInt8),(115:UInt8),(116:UInt8),(117:UInt8),(118:UInt8),(119:UInt8),(120:UInt8),(121:UInt8),(122:UInt8),(48:UInt8),(49:UInt8),(50:UInt8),(51:UInt8),(52:UInt8),(53:UInt8),(54:UInt8),(55:UInt8),(56:UInt8),(57:UInt8),(45:UInt8),(95:UInt8)]:=⟨_,rfl⟩
  have ez1:=ez (ByteArray.mk q.toArray)
  obtain ⟨s,s1,s2⟩:=ih m (j+1) (y++(ByteArray.mk q.toArray).extract v.toNat (v+1).toNat) (by omega) (by omega) (by rw [ByteArray.size_append];omega)
  refine ⟨s,s1,?_⟩
  rw [←s2,Ev,←hq]
  try unfold Aa
  repeat first
   |((with_reducible first|apply At|apply Ap|apply Ax|apply Ao|apply Az|apply Aw|apply Bb|apply Bc|apply A0|apply Al|apply Au|apply Am);· first|with_reducible rfl|(simp (disch:=omega) only [w4,u1,u2,u3,hv,u4,w1]<;>with_reducible rfl))
   |((with_reducible first|apply A4|apply A3);· first|with_reducible rfl|omega|(simp (disch:=omega) only [gT,w4,u1,u2,u3,hv,u4,w1]<;>omega))
   |(with_reducible apply Ay;· first|with_reducible rfl|(simp (disch:=omega) only [gF,w4,u1,u2,u3,hv,u4,w1]<;>omega))
  try simp (disch:=omega) only [w4,u1,u2,u3,hv,u4,w1]
  all_goals rfl
theorem Aue {call:Ak}{a0n:Nat}{a0:List PV}{b:List Int}(hfu:1000≤fu)(hl:b.length≤300):∀(k nn i:Nat)(y:ByteArray),b.length≤i+3*k→k<nn→i≤b.length+3→y.size+4*k≤10000→∃s:ByteArray,s.size≤y.size+4*k∧Cn fu call a0n a0 nn b.length (Ag .u8 b) y (i:Int)=some ⟨[.sc (.string s)],[]⟩:=by
 intro k
 induction k with
 |zero=>
  intro nn i y h1 h2 h3 h4
  obtain ⟨m,rfl⟩:∃m,nn=m+1:=⟨nn-1,by omega⟩
  refine ⟨y,by omega,?_⟩
  rw [Ex,Dl _ _ _ (by omega)]
 |succ k ih=>
  intro nn i y h1 h2 h3 h4
  obtain ⟨m,rfl⟩:∃m,nn=m+1:=⟨nn-1,by omega⟩
  by_cases hi:i<b.length
  rotate_left
  ·refine ⟨y,by omega,?_⟩
   rw [Ex,Dl _ _ _ (by omega)]
  obtain ⟨x,hx⟩:∃x,b[i]?=some x:=⟨_,List.getElem?_eq_getElem hi⟩
  have g0:=Ur (k:=.u8) hx
  have nt:Int.toNat (i:Int)=i:=Int.toNat_natCast _
  have nt1:Int.toNat ((i+1:Nat):Int)=i+1:=Int.toNat_natCast _
  have nt2:Int.toNat ((i+2:Nat):Int)=i+2:=Int.toNat_natCast _
  have w1:IntKind.wrap .i64 ((i:Int)+1)=((i+1:Nat):Int):=by rw [Aq (by omega) (by omega)];omega
  have w2:IntKind.wrap .i64 ((i:Int)+2)=((i+2:Nat):Int):=by rw [Aq (by omega) (by omega)];omega
  have inn:∀n:Int,∃s:ByteArray,s.size≤y.size+4*(k+1)∧Bv fu call a0n a0 m fu b.length (Ag .u8 b) y (i:Int) n 0=some ⟨[.sc (.string s)],[]⟩:=by
   intro n
   refine A0k (S:=y.size+4*(k+1)) (B:=y.size+4) (m0:=m) hi (by omega) (by omega) (fun z hz=>?_) 4 fu 0 y (by omega) (by omega) (by omega)
   obtain ⟨s,s1,s2⟩:=ih m (i+3) z (by omega) (by omega) (by omega) (by omega)
   exact ⟨s,by omega,s2⟩
  rw [Ex]
  by_cases h1':i+1<b.length
  ·obtain ⟨x1,hx1⟩:∃x,b[i+1]?=some x:=⟨_,List.getElem?_eq_getElem h1'⟩
   have g1:=Ur (k:=.u8) hx1
   by_cases h2':i+2<b.length
   ·obtain ⟨x2,hx2⟩:∃x,b[i+2]?=some x:=⟨_,List.getElem?_eq_getElem h2'⟩
    have g2:=Ur (k:=.u8) hx2
    obtain ⟨s,s1,s2⟩:=inn (Xf .u64 (Xf .u64 (Ew .u64 (IntKind.wrap .u64 x) 16) (Ew .u64 (IntKind.wrap .u64 x1) 8)) (IntKind.wrap .u64 x2))
    refine ⟨s,s1,?_⟩
    rw [←s2]
    try unfold Aa
    repeat first
     |((with_reducible first|apply At|apply Ap|apply Ax|apply Ao|apply Az|apply Aw|apply Bb|apply Bc|apply A0|apply Al|apply Au|apply Am);· first|with_reducible rfl|(simp (disch:=omega) only [nt,nt1,nt2,w1,w2,Nat.mul_one,g0,g1,g2]<;>with_reducible rfl))
     |((with_reducible first|apply A4|apply A3);· first|with_reducible rfl|omega|(simp (disch:=omega) only [gT,nt,nt1,nt2,w1,w2,Nat.mul_one,g0,g1,g2]<;>omega))
     |(with_reducible apply Ay;· first|with_reducible rfl|(simp (disch:=omega) only [gF,nt,nt1,nt2,w1,w2,Nat.mul_one,g0,g1,g2]<;>omega))
    try simp (disch:=omega) only [nt,nt1,nt2,w1,w2,Nat.mul_one,g0,g1,g2]
    all_goals rfl
   ·obtain ⟨s,s1,s2⟩:=inn (Xf .u64 (Ew .u64 (IntKind.wrap .u64 x) 16) (Ew .u64 (IntKind.wrap .u64 x1) 8))
    refine ⟨s,s1,?_⟩
    rw [←s2]
    try unfold Aa
    repeat first
     |((with_reducible first|apply At|apply Ap|apply Ax|apply Ao|apply Az|apply Aw|apply Bb|apply Bc|apply A0|apply Al|apply Au|apply Am);· first|with_reducible rfl|(simp (disch:=omega) only [nt,nt1,nt2,w1,w2,Nat.mul_one,g0,g1]<;>with_reducible rfl))
     |((with_reducible first|apply A4|apply A3);· first|with_reducible rfl|omega|(simp (disch:=omega) only [gT,nt,nt1,nt2,w1,w2,Nat.mul_one,g0,g1]<;>omega))
     |(with_reducible apply Ay;· first|with_reducible rfl|(simp (disch:=omega) only [gF,nt,nt1,nt2,w1,w2,Nat.mul_one,g0,g1]<;>omega))
    try simp (disch:=omega) only [nt,nt1,nt2,w1,w2,Nat.mul_one,g0,g1]
    all_goals rfl
  ·obtain ⟨s,s1,s2⟩:=inn (Ew .u64 (IntKind.wrap .u64 x) 16)
   refine ⟨s,s1,?_⟩
   rw [←s2]
   try unfold Aa
   repeat first
    |((with_reducible first|apply At|apply Ap|apply Ax|apply Ao|apply Az|apply Aw|apply Bb|apply Bc|apply A0|apply Al|apply Au|apply Am);· first|with_reducible rfl|(simp (disch:=omega) only [nt,nt1,nt2,w1,w2,Nat.mul_one,g0]<;>with_reducible rfl))
    |((with_reducible first|apply A4|apply A3);· first|with_reducible rfl|omega|(simp (disch:=omega) only [gT,nt,nt1,nt2,w1,w2,Nat.mul_one,g0]<;>omega))
    |(with_reducible apply Ay;· first|with_reducible rfl|(simp (disch:=omega) only [gF,nt,nt1,nt2,w1,w2,Nat.mul_one,g0]<;>omega))
   try simp (disch:=omega) only [nt,nt1,nt2,w1,w2,Nat.mul_one,g0]
   all_goals rfl
theorem A0t (hfu:1000≤fu){b:List Int}(hl:b.length≤64):∃s:ByteArray,s.size≤400∧Ae C0 Tryz.prog fu (d+1) H4 [.lst false 1 b.length (Ag .u8 b)]=some ⟨[.sc (.string s)],[]⟩:=by
 obtain ⟨s,s1,s2⟩:=Aue (fu:=fu) (call:=Ae C0 Tryz.prog fu d) (a0n:=b.length) (a0:=Ag .u8 b) (b:=b) hfu (by omega) 100 fu 0 ⟨#[]⟩ (by omega) (by omega) (by omega) (by decide)
 refine ⟨s,?_,?_⟩
 ·have:(ByteArray.mk #[]).size=0:=rfl
  omega
 ·rw [Pw]
  exact s2
end
end
section
set_option maxRecDepth 1000000
abbrev Axk:ByteArray:=⟨#[(104:UInt8),(116:UInt8),(116:UInt8),(112:UInt8),(115:UInt8),(58:UInt8),(47:UInt8),(47:UInt8),(101:UInt8),(120:UInt8),(97:UInt8),(109:UInt8),(112:UInt8),(108:UInt8),(101:UInt8),(46:UInt8),(99:UInt8),(111:UInt8),(109:UInt8)]⟩
abbrev Akn:ByteArray:=⟨#[(101:UInt8),(120:UInt8),(97:UInt8),(109:UInt8),(112:UInt8),(108:UInt8),(101:UInt8),(46:UInt8),(99:UInt8),(111:UInt8),(109:UInt8)]⟩
theorem Aw0 (l:List UInt8):(ByteArray.mk (List.toArray l)).size=l.length:=by exact id rfl
section
variable {d:Nat}
theorem Atq:Ae C0 Tryz.prog 2000 (d+5) Oh [.sc (.string Axk)]=some ⟨[.agg [.sc (.bool true),.sc (.string Akn),.sc (.int .i64 443)],.sc (.int .i64 0)],[]⟩:=by kernel_rfl
theorem Atz {b:List Int}(h1:1≤b.length)(h2:b.length≤64):∃t:ByteArray,t.size≤600∧Ae C0 Tryz.prog 2000 (d+6) H3 [.agg [.sc (.int .i64 1),.lst false 1 b.length (Ag .u8 b),.sc (.string Axk),.sc (.bool false),.sc (.string E2)]]=some ⟨[.sc (.string t),.sc (.int .i64 0)],[]⟩:=by
 obtain ⟨s,s1,s2⟩:=A0t (fu:=2000) (d:=d+4) (by omega) (b:=b) h2
 have po:=Atq (d:=d)
 have ty:Ae C0 Tryz.prog 2000 (d+5) Kp [.sc (.int .i64 1)]=some ⟨[.sc (.string ⟨#[(112:UInt8),(97:UInt8),(115:UInt8),(115:UInt8),(107:UInt8),(101:UInt8),(121:UInt8),(46:UInt8),(99:UInt8),(114:UInt8),(101:UInt8),(97:UInt8),(116:UInt8),(101:UInt8)]⟩)],[]⟩:=by
  rw [Ua]
  rfl
 have e00:((0:Int) != 0)=false:=rfl
 have ze:(Array.toList (ByteArray.data (ByteArray.mk #[]))==Array.toList (ByteArray.data (ByteArray.mk #[])))=true:=rfl
 have zt:(Array.toList (ByteArray.data (ByteArray.mk #[(112:UInt8),(97:UInt8),(115:UInt8),(115:UInt8),(107:UInt8),(101:UInt8),(121:UInt8),(46:UInt8),(99:UInt8),(114:UInt8),(101:UInt8),(97:UInt8),(116:UInt8),(101:UInt8)]))==Array.toList (ByteArray.data (ByteArray.mk #[])))=false:=rfl
 apply Exists.intro
 apply And.intro
 rotate_left
 ·refine (Pu 2000 (d+5) 1 b.length (Ag .u8 b) Axk false E2).trans ?_
  try unfold Aa
  repeat first
   |((with_reducible first|apply At|apply Ap|apply Ax|apply Ao|apply Az|apply Aw|apply Bb|apply Bc|apply A0|apply Al|apply Au|apply Am);· first|with_reducible rfl|(simp (disch:=omega) only [ty,zt,po,e00,s2,ByteArray.size_append,Aw0,List.length_cons,List.length_nil,Nat.reduceAdd,ze,Bool.not_true,Bool.not_false]<;>with_reducible rfl))
   |((with_reducible first|apply A4|apply A3);· first|with_reducible rfl|omega|(simp (disch:=omega) only [gT,ty,zt,po,e00,s2,ByteArray.size_append,Aw0,List.length_cons,List.length_nil,Nat.reduceAdd,ze,Bool.not_true,Bool.not_false]<;>omega))
   |(with_reducible apply Ay;· first|with_reducible rfl|(simp (disch:=omega) only [gF,ty,zt,po,e00,s2,ByteArray.size_append,Aw0,List.length_cons,List.length_nil,Nat.reduceAdd,ze,Bool.not_true,Bool.not_false]<;>omega))
  try simp (disch:=omega) only [ty,zt,po,e00,s2,ByteArray.size_append,Aw0,List.length_cons,List.length_nil,Nat.reduceAdd,ze,Bool.not_true,Bool.not_false]
  all_goals rfl
 ·simp only [ByteArray.size_append,Aw0,List.length_cons,List.length_nil,Nat.reduceAdd]
  omega
end
end
section
set_option maxRecDepth 1000000
abbrev A2g:ByteArray:=⟨#[(98:UInt8),(97:UInt8),(116:UInt8),(99:UInt8),(104:UInt8)]⟩
abbrev Agp:ByteArray:=⟨#[(114:UInt8),(111:UInt8),(111:UInt8),(116:UInt8)]⟩
def Kj:Ce:=⟨A2g,Agp,1,Dg 33 4,0,900,false,0,3,⟨0,[],[]⟩⟩
theorem Afd:Bd Kj=0:=by
 unfold Bd
 have h1:Kj.subj.size=5:=rfl
 have h2:Kj.iss.size=4:=rfl
 have h3:okS Kj.subj=true:=by decide
 have h4:okS Kj.iss=true:=by decide
 have h5:Cl Kj.key.h=false:=Akf 33 4
 have h6:Kj.fr=0:=rfl
 have h7:Kj.un=900:=rfl
 have h8:Kj.path=0:=rfl
 rw [h1,h2,h3,h4,h5,h6,h7,h8]
 simp
theorem Atm:∃s,Air 32 1 0 (Rc Kj)=some s∧s.ok∧s.leaf=0∧s.chains.length=18∧(s.path.length:Int)=1∧Is (Dg 32 1) (Rc Kj) s=0:=Aex (by decide) (by decide)
noncomputable def Ais:Sg:=Classical.choose Atm
theorem W2:Air 32 1 0 (Rc Kj)=some Ais∧Ais.ok∧Ais.leaf=0∧Ais.chains.length=18∧(Ais.path.length:Int)=1∧Is (Dg 32 1) (Rc Kj) Ais=0:=Classical.choose_spec Atm
noncomputable def cB:Ce:={ Kj with sig:=Ais }
theorem Azh:cB.ok:=⟨by decide,by decide,Ako 33 4,W2.2.1⟩
theorem Amc:Bd cB=0:=Afd
theorem Al7:Ee cB=0:=by
 obtain ⟨_,_,h3,h4,h5,_⟩:=W2
 unfold Ee
 rw [Amc,if_pos rfl]
 show Abk Ais=0
 unfold Abk
 rw [h5,h3,if_neg (by decide),if_neg (by decide),if_neg (by omega)]
noncomputable def Qx:List Int:=Fo cB
theorem Axh:Ha Qx:=Ay8 Azh.wf Al7
theorem Aqq:Qx.length≤400:=Agg Al7
theorem Apt:Oa Qx=(cB,0):=Ao6 Azh Al7
section
variable {fu d:Nat}
theorem Ay1 (hfu:1000≤fu):Ae C0 Tryz.prog fu (d+14) Nl []=some ⟨[.own 1 1 [Tk Qx]],[]⟩:=by
 rw [Xh]
 have k:=Afu (fu:=fu) (d:=d) hfu 33 4
 have sg:=Aty (fu:=fu) (d:=d) (c:=Kj) hfu ⟨by decide,by decide⟩ (by decide) (by decide) 32 1 0
 have es:App Kj 32 1 0=(cB,0):=by
  unfold App
  rw [if_pos Afd,W2.1]
  rfl
 rw [es] at sg
 have en:=Azr (fu:=fu) (d:=d+7) (c:=cB) hfu Azh.wf (by show A2g.size≤_;decide) (by show Agp.size≤_;decide) (by have:=W2.2.2.2.2.1;show Ais.path.length≤_;omega)
 unfold Abv at en
 rw [Al7,if_pos rfl] at en
 have L:=Aj .u8 (Fo cB)
 have t:=Gw .u8 (Fo cB)
 show _=some (A8.mk [.own 1 1 [Tk (Fo cB)]] [])
 have c0:Kj.cells=[.sc (.string A2g),.sc (.string Agp),.sc (.int .u64 1),.sc (.int .i64 (Dg 33 4).h),.sc (.int .u64 (Dg 33 4).root),.sc (.int .i64 0),.sc (.int .i64 900),.sc (.bool false),.sc (.int .i64 0),.sc (.int .u64 3),.sc (.int .i64 0),.lst false 1 0 [],.lst false 1 0 []]:=rfl
 rw [c0] at sg
 simp only [Ce.cells,Ky.cells] at k sg en
 generalize Fo cB=E at *
 generalize cB=C at *
 generalize Dg 33 4=K at *
 try unfold Aa
 repeat first
  |((with_reducible first|apply At|apply Ap|apply Ax|apply Ao|apply Az|apply Aw|apply Bb|apply Bc|apply A0|apply Al|apply Au|apply Am);· first|with_reducible rfl|(simp (disch:=omega) only [k,sg,en,List.drop_zero,Nat.zero_add,Nat.mul_one,L,t]<;>with_reducible rfl))
  |((with_reducible first|apply A4|apply A3);· first|with_reducible rfl|omega|(simp (disch:=omega) only [gT,k,sg,en,List.drop_zero,Nat.zero_add,Nat.mul_one,L,t]<;>omega))
  |(with_reducible apply Ay;· first|with_reducible rfl|(simp (disch:=omega) only [gF,k,sg,en,List.drop_zero,Nat.zero_add,Nat.mul_one,L,t]<;>omega))
 try simp (disch:=omega) only [k,sg,en,List.drop_zero,Nat.zero_add,Nat.mul_one,L,t]
 all_goals rfl
structure Atp (sd hh fm lf:Int) (r:Rp) (a:Ad):Prop where
 ok:r.ok
 good:a.good
 ad:r.ad=Uv a
 cd:r.cd.size≤600
 fmt:r.fmt=fm
 key:a.key=Dg sd hh
 model:a.model=3
 sgl:r.sg.length≤300
 cl:r.certs.length≤1
 cb:∀b∈r.certs,b.length≤400
 kind:r.kind=1
 idB:Ha r.id_
 idl:r.id_.length=176
 user:r.user=E2
 f0:fm=0→r.sg=[]∧r.certs=[]
 f1:fm=1→r.certs=[]∧∃s,r.sg=Ix s∧sgD r.sg=some s∧s.leaf=0∧Is (Dg sd hh) (Tl r.ad (D3 11 (D1 r.cd))) s=0
 f2:fm=2→r.certs=[Qx]∧∃s,r.sg=Ix s∧sgD r.sg=some s∧s.leaf=lf∧Is (Dg 33 4) (Tl r.ad (D3 11 (D1 r.cd))) s=0
theorem Ae5 {s:Sg}(hs:s.ok)(h1:Cl s.path.length=false)(h2:E6 s.leaf s.path.length=false)(h3:s.chains.length=18):Ha (Ix s)∧(Ix s).length≤300∧sgD (Ix s)=some s:=by
 have hb:=Fj h1
 refine ⟨A1n s,?_,Ato hs h1 h2 h3⟩
 rw [A00]
 omega
theorem A2s {seed h:Int}(hh:Cl h=false)(ho:E6 0 h=false){id_ ch:List Int}(hib:Ha id_)(hil:id_.length=176)(hcl:ch.length=16)(sh vf:Bool){fmt leaf:Int}(hf:fmt=0∨fmt=1∨fmt=2)(l0:0≤leaf)(l1:leaf≤15):
  ∃r a,Atp seed h fmt leaf r a∧Ae C0 Tryz.prog 2000 (d+15) Hj [.agg [.sc (.int .u64 seed),.sc (.int .i64 h),Tk id_,.sc (.bool sh)],.sc (.string Akn),.sc (.string Axk),.lst false 1 16 (Ag .u8 ch),.sc (.int .i64 fmt),.sc (.bool vf),.sc (.int .i64 leaf)]=some ⟨[.agg r.cells],[]⟩:=by
 obtain ⟨t,t1,t2⟩:=Atz (d:=d+8) (b:=ch) (by omega) (by omega)
 rw [hcl] at t2
 have rp:=Auh (fu:=2000) (d:=d+9) (s:=Akn) (by decide) (by omega)
 have hd:=Adj (fu:=2000) (d:=d+9) (s:=t) (by omega) (by omega)
 have fl:=Ayj (fu:=2000) (d:=d+13) seed h id_ sh vf
 have ky:=Afu (fu:=2000) (d:=d+1) (by omega) seed h
 rw [hil] at fl
 have fe:Xf .i64 (Ack sh vf) 64=77∨Xf .i64 (Ack sh vf) 64=69∨Xf .i64 (Ack sh vf) 64=73∨Xf .i64 (Ack sh vf) 64=65:=by
  cases sh<;>cases vf
  ·exact .inr (.inr (.inr (by decide)))
  ·exact .inr (.inl (by decide))
  ·exact .inr (.inr (.inl (by decide)))
  ·exact .inl (by decide)
 obtain ⟨F,hF⟩:∃F,Xf .i64 (Ack sh vf) 64=F:=⟨_,rfl⟩
 rw [hF] at fe
 obtain ⟨P,hP⟩:∃P,D3 9 (D1 Akn)=P:=⟨_,rfl⟩
 have hPU:=Aet 9 (D1 Akn)
 rw [hP] at rp hPU
 have hKr:=Ako seed h
 have hKh:=Akf seed h
 have good:∀cnt:Int,cnt=0∨cnt=1→(Ad.mk P F cnt 0 3 id_ (Dg seed h)).good:=fun cnt hc=>⟨hPU,fe,hc,rfl,(⟨by decide,by decide⟩:isU 3),hib,hil,hKh,hKr⟩
 have enc:=fun (cnt:Int) (hc:cnt=0∨cnt=1)=>Aqo (fu:=2000) (d:=d+10) (by omega) (good cnt hc)
 have LA:=fun (cnt:Int) (hc:cnt=0∨cnt=1)=>Asv (good cnt hc)
 have BA:=fun (cnt:Int) (hc:cnt=0∨cnt=1)=>A1s (good cnt hc)
 have msg:=fun (cnt:Int) (hc:cnt=0∨cnt=1)=>Ahs (fu:=2000) (d:=d+9) (BA cnt hc) (by rw [LA cnt hc];omega) (by omega) (D3 11 (D1 t))
 simp only [Ad.cells,Tk,Ky.cells] at enc ky fl
 simp only [hil] at enc
 have s9:(9:Int)=9:=rfl
 have oA:=fun (fm:Int) (cnt:Int) (hc:cnt=0∨cnt=1)=>(Nv 2000 (d+14) seed h id_.length (Ag .u8 id_) sh Akn Axk 16 (Ag .u8 ch) fm vf leaf)
 simp only [hil] at oA
 rcases hf with rfl|rfl|rfl
 ·refine ⟨⟨1,t,Uv ⟨P,F,0,0,3,id_,Dg seed h⟩,[],[],0,id_,E2⟩,⟨P,F,0,0,3,id_,Dg seed h⟩,⟨⟨(by intro x hx;cases hx),(by simp),(by intro b hb;cases hb)⟩,good 0 (.inl rfl),rfl,(by simp only;omega),rfl,rfl,rfl,(by simp),(by simp),(by intro b hb;cases hb),rfl,hib,hil,rfl,(fun _=>⟨rfl,rfl⟩),(fun hx=>by omega),(fun hx=>by omega)⟩,?_⟩
  have en:=enc 0 (.inl rfl)
  have ms:=msg 0 (.inl rfl)
  rw [LA 0 (.inl rfl)] at ms
  have L:=Aj .u8 (Uv ⟨P,F,0,0,3,id_,Dg seed h⟩)
  have tk:=Gw .u8 (Uv ⟨P,F,0,0,3,id_,Dg seed h⟩)
  rw [LA 0 (.inl rfl)] at L tk
  simp only [Rp.cells,Tk,LA 0 (.inl rfl),hil]
  refine (oA 0 0 (.inl rfl)).trans ?_
  generalize Uv ⟨P,F,0,0,3,id_,Dg seed h⟩=A at *
  generalize Dg seed h=K at *
  try unfold Aa
  repeat first
   |((with_reducible first|apply At|apply Ap|apply Ax|apply Ao|apply Az|apply Aw|apply Bb|apply Bc|apply A0|apply Al|apply Au|apply Am);· first|with_reducible rfl|(simp (disch:=omega) only [t2,rp,fl,hF,ky,Int.reduceBEq,en,hd,List.drop_zero,Nat.zero_add,Nat.mul_one,Nat.reduceMul,L,tk,ms]<;>with_reducible rfl))
   |((with_reducible first|apply A4|apply A3);· first|with_reducible rfl|omega|(simp (disch:=omega) only [gT,t2,rp,fl,hF,ky,Int.reduceBEq,en,hd,List.drop_zero,Nat.zero_add,Nat.mul_one,Nat.reduceMul,L,tk,ms]<;>omega))
   |(with_reducible apply Ay;· first|with_reducible rfl|(simp (disch:=omega) only [gF,t2,rp,fl,hF,ky,Int.reduceBEq,en,hd,List.drop_zero,Nat.zero_add,Nat.mul_one,Nat.reduceMul,L,tk,ms]<;>omega))
  try simp (disch:=omega) only [t2,rp,fl,hF,ky,Int.reduceBEq,en,hd,List.drop_zero,Nat.zero_add,Nat.mul_one,Nat.reduceMul,L,tk,ms]
  all_goals rfl
 ·obtain ⟨s,s1,s2,s3,s4,s5,s6⟩:=Aex (seed:=seed) (h:=h) (leaf:=0) (m:=Tl (Uv ⟨P,F,1,0,3,id_,Dg seed h⟩) (D3 11 (D1 t))) hh ho
  have p1:Cl s.path.length=false:=by rw [s5];exact hh
  have p2:E6 s.leaf s.path.length=false:=by rw [s5,s3];exact ho
  obtain ⟨g1,g2,g3⟩:=Ae5 s2 p1 p2 s4
  refine ⟨⟨1,t,Uv ⟨P,F,1,0,3,id_,Dg seed h⟩,Ix s,[],1,id_,E2⟩,⟨P,F,1,0,3,id_,Dg seed h⟩,⟨⟨g1,(by simp only;omega),(by intro b hb;cases hb)⟩,good 1 (.inr rfl),rfl,(by simp only;omega),rfl,rfl,rfl,g2,(by simp),(by intro b hb;cases hb),rfl,hib,hil,rfl,(fun hx=>by omega),(fun _=>⟨rfl,s,rfl,g3,s3,s6⟩),(fun hx=>by omega)⟩,?_⟩
  have en:=enc 1 (.inr rfl)
  have ms:=msg 1 (.inr rfl)
  rw [LA 1 (.inr rfl)] at ms
  have L:=Aj .u8 (Uv ⟨P,F,1,0,3,id_,Dg seed h⟩)
  have tk:=Gw .u8 (Uv ⟨P,F,1,0,3,id_,Dg seed h⟩)
  rw [LA 1 (.inr rfl)] at L tk
  have sg:=Abb (fu:=2000) (d:=d+2) (by omega) seed h 0 (Tl (Uv ⟨P,F,1,0,3,id_,Dg seed h⟩) (D3 11 (D1 t)))
  rw [s1] at sg
  simp only [Wt,Sg.owned] at sg
  have es:=Ti (fu:=2000) (d:=d+12) (by omega) s (by have:=Fj p1;omega)
  rw [p1,p2,s4,if_neg (by simp),if_neg (by simp),if_neg (by simp)] at es
  simp only [Sg.cells,s4] at es sg
  have L1:=Aj .u64 s.chains
  have L2:=Aj .u64 s.path
  have t1':=Gw .u64 s.chains
  have t2':=Gw .u64 s.path
  rw [s4] at L1 t1'
  have L3:=Aj .u8 (Ix s)
  have t3:=Gw .u8 (Ix s)
  simp only [Rp.cells,Tk,LA 1 (.inr rfl),hil]
  refine (oA 1 1 (.inr rfl)).trans ?_
  clear g1 g2 g3 s6 s1
  generalize Tl (Uv ⟨P,F,1,0,3,id_,Dg seed h⟩) (D3 11 (D1 t))=M at *
  generalize Uv ⟨P,F,1,0,3,id_,Dg seed h⟩=A at *
  generalize Dg seed h=K at *
  generalize Ix s=G at *
  try unfold Aa
  repeat first
   |((with_reducible first|apply At|apply Ap|apply Ax|apply Ao|apply Az|apply Aw|apply Bb|apply Bc|apply A0|apply Al|apply Au|apply Am);· first|with_reducible rfl|(simp (disch:=omega) only [t2,rp,fl,hF,ky,Int.reduceBEq,en,hd,List.drop_zero,Nat.zero_add,Nat.mul_one,Nat.reduceMul,L,tk,ms,sg,L1,L2,t1',t2',es,L3,t3]<;>with_reducible rfl))
   |((with_reducible first|apply A4|apply A3);· first|with_reducible rfl|omega|(simp (disch:=omega) only [gT,t2,rp,fl,hF,ky,Int.reduceBEq,en,hd,List.drop_zero,Nat.zero_add,Nat.mul_one,Nat.reduceMul,L,tk,ms,sg,L1,L2,t1',t2',es,L3,t3]<;>omega))
   |(with_reducible apply Ay;· first|with_reducible rfl|(simp (disch:=omega) only [gF,t2,rp,fl,hF,ky,Int.reduceBEq,en,hd,List.drop_zero,Nat.zero_add,Nat.mul_one,Nat.reduceMul,L,tk,ms,sg,L1,L2,t1',t2',es,L3,t3]<;>omega))
  try simp (disch:=omega) only [t2,rp,fl,hF,ky,Int.reduceBEq,en,hd,List.drop_zero,Nat.zero_add,Nat.mul_one,Nat.reduceMul,L,tk,ms,sg,L1,L2,t1',t2',es,L3,t3]
  all_goals rfl
 ·have ho4:E6 leaf 4=false:=by
   unfold E6
   have:Ew .i64 1 4=16:=by decide
   rw [this]
   simp
   omega
  obtain ⟨s,s1,s2,s3,s4,s5,s6⟩:=Aex (seed:=33) (h:=4) (leaf:=leaf) (m:=Tl (Uv ⟨P,F,0,0,3,id_,Dg seed h⟩) (D3 11 (D1 t))) (by decide) ho4
  have p1:Cl s.path.length=false:=by rw [s5];decide
  have p2:E6 s.leaf s.path.length=false:=by rw [s5,s3];exact ho4
  obtain ⟨g1,g2,g3⟩:=Ae5 s2 p1 p2 s4
  have clen:=Aqq
  refine ⟨⟨1,t,Uv ⟨P,F,0,0,3,id_,Dg seed h⟩,Ix s,[Qx],2,id_,E2⟩,⟨P,F,0,0,3,id_,Dg seed h⟩,⟨⟨g1,(by simp only;omega),(by intro b hb;simp at hb;subst hb;exact ⟨Axh,by omega⟩)⟩,good 0 (.inl rfl),rfl,(by simp only;omega),rfl,rfl,rfl,g2,(by simp),(by intro b hb;simp at hb;subst hb;exact clen),rfl,hib,hil,rfl,(fun hx=>by omega),(fun hx=>by omega),(fun _=>⟨rfl,s,rfl,g3,s3,s6⟩)⟩,?_⟩
  have en:=enc 0 (.inl rfl)
  have ms:=msg 0 (.inl rfl)
  rw [LA 0 (.inl rfl)] at ms
  have L:=Aj .u8 (Uv ⟨P,F,0,0,3,id_,Dg seed h⟩)
  have tk:=Gw .u8 (Uv ⟨P,F,0,0,3,id_,Dg seed h⟩)
  rw [LA 0 (.inl rfl)] at L tk
  have sg:=Abb (fu:=2000) (d:=d+2) (by omega) 33 4 leaf (Tl (Uv ⟨P,F,0,0,3,id_,Dg seed h⟩) (D3 11 (D1 t)))
  rw [s1] at sg
  simp only [Wt,Sg.owned] at sg
  have es:=Ti (fu:=2000) (d:=d+12) (by omega) s (by have:=Fj p1;omega)
  rw [p1,p2,s4,if_neg (by simp),if_neg (by simp),if_neg (by simp)] at es
  simp only [Sg.cells,s4] at es sg
  have L1:=Aj .u64 s.chains
  have L2:=Aj .u64 s.path
  have t1':=Gw .u64 s.chains
  have t2':=Gw .u64 s.path
  rw [s4] at L1 t1'
  have L3:=Aj .u8 (Ix s)
  have t3:=Gw .u8 (Ix s)
  have ch':=Ay1 (fu:=2000) (d:=d) (by omega)
  have eb:Ad2 [Qx]=[Tk Qx]:=rfl
  simp only [Rp.cells,LA 0 (.inl rfl),hil,eb]
  simp only [Tk,LA 0 (.inl rfl),hil]
  refine (oA 2 0 (.inl rfl)).trans ?_
  clear g1 g2 g3 s6 s1
  generalize Tl (Uv ⟨P,F,0,0,3,id_,Dg seed h⟩) (D3 11 (D1 t))=M at *
  generalize Uv ⟨P,F,0,0,3,id_,Dg seed h⟩=A at *
  generalize Dg seed h=K at *
  generalize Ix s=G at *
  generalize Qx=CB at *
  have tc:List.take 1 [PV.lst false 1 CB.length (Ag .u8 CB)]=[PV.lst false 1 CB.length (Ag .u8 CB)]:=rfl
  have lc:[PV.lst false 1 CB.length (Ag .u8 CB)].length=1:=rfl
  try unfold Aa
  repeat first
   |((with_reducible first|apply At|apply Ap|apply Ax|apply Ao|apply Az|apply Aw|apply Bb|apply Bc|apply A0|apply Al|apply Au|apply Am);· first|with_reducible rfl|(simp (disch:=omega) only [t2,rp,fl,hF,ky,Int.reduceBEq,en,hd,List.drop_zero,Nat.zero_add,Nat.mul_one,Nat.reduceMul,L,tk,ms,sg,L1,L2,t1',t2',es,L3,t3,ch',lc,tc]<;>with_reducible rfl))
   |((with_reducible first|apply A4|apply A3);· first|with_reducible rfl|omega|(simp (disch:=omega) only [gT,t2,rp,fl,hF,ky,Int.reduceBEq,en,hd,List.drop_zero,Nat.zero_add,Nat.mul_one,Nat.reduceMul,L,tk,ms,sg,L1,L2,t1',t2',es,L3,t3,ch',lc,tc]<;>omega))
   |(with_reducible apply Ay;· first|with_reducible rfl|(simp (disch:=omega) only [gF,t2,rp,fl,hF,ky,Int.reduceBEq,en,hd,List.drop_zero,Nat.zero_add,Nat.mul_one,Nat.reduceMul,L,tk,ms,sg,L1,L2,t1',t2',es,L3,t3,ch',lc,tc]<;>omega))
  try simp (disch:=omega) only [t2,rp,fl,hF,ky,Int.reduceBEq,en,hd,List.drop_zero,Nat.zero_add,Nat.mul_one,Nat.reduceMul,L,tk,ms,sg,L1,L2,t1',t2',es,L3,t3,ch',lc,tc]
  all_goals rfl
end
end
section
set_option maxRecDepth 1000000
theorem A2z:Mv 9 0=13207923356878440101:=by kernel_rfl
theorem A11:Mv 9 1=15907844771915319014:=by kernel_rfl
theorem A0s:Mv 32 0=10501167752601797684:=by kernel_rfl
theorem A06:Mv 32 1=17170201293266426176:=by kernel_rfl
theorem A0m:(Dg 9 1).root≠(Dg 32 1).root:=by
 have h:Cl 1=false:=by decide
 have e:∀s:Int,(Dg s 1).root=Lo 1 (Mv s 0) (Mv s 1):=by
  intro s
  unfold Dg
  rw [if_neg (by simp [h])]
  rfl
 rw [e,e,A2z,A11,A0s,A06]
 exact of_decide_eq_true (by kernel_rfl)
end
section
set_option maxRecDepth 1000000
theorem Ax5 {k:Ky}{m:Int}{s:Sg}(h:Is k m s=0):Tb s.leaf 0 (Aia s.leaf m s.chains) s.path=k.root:=by
 unfold Is at h
 repeat' (split at h;· cases h)
 unfold okE at h
 split at h
 ·assumption
 ·cases h
theorem Aw3 {k k':Ky}{m:Int}{s:Sg}(h:Is k m s=0)(h':Is k' m s=0):k.root=k'.root:=by rw [←Ax5 h,←Ax5 h']
noncomputable def G5:List An:=[⟨Agp,Dg 9 1⟩,⟨Agp,Dg 32 1⟩]
theorem Asm (k:Ky):Zj cB k=Is k (Rc Kj) Ais:=by
 unfold Zj
 rw [Amc,if_pos rfl]
 rfl
theorem Avr:Zj cB (Dg 32 1)=0:=by rw [Asm];exact W2.2.2.2.2.2
theorem Aze:Zj cB (Dg 9 1)≠0:=by
 intro h
 rw [Asm] at h
 exact A0m (Aw3 h W2.2.2.2.2.2)
theorem Amu:Tz cB 0 G5=1:=by
 unfold G5
 rw [Tz,if_neg (fun h=>Aze h.2),Tz,if_pos ⟨by decide,Avr⟩]
 rfl
theorem Ax1 (vs:List Rv)(now:Int):Pd cB 0 vs now=if now<0 then 38 else if now>900 then 38 else Ak3 cB now vs:=by
 unfold Pd
 rw [Amc]
 rfl
theorem Azk (ans:List An)(now:Int)(h0:0≤now)(h1:now≤1099511627776):Q6 [cB] ans [] now=if now≤900 then Au8 cB ans else (0,38):=by
 unfold Q6
 rw [if_neg (by omega),if_neg (by omega),if_neg (by simp),if_neg (by simp)]
 unfold Ahr
 have lk:Pd cB ((0:Nat):Int) [] now=if now<0 then 38 else if now>900 then 38 else Ak3 cB now []:=Ax1 [] now
 have n0:¬(now<0):=by omega
 rw [lk,if_neg n0]
 by_cases h:now≤900
 ·have h9:¬(now>900):=by omega
  have r0:Ak3 cB now []=0:=rfl
  rw [if_neg h9,if_pos h,r0,if_neg (by simp)]
 ·have h9:now>900:=by omega
  rw [if_pos h9,if_neg h,if_pos (by simp)]
theorem A2j {sd hh lf:Int}{r:Rp}{a:Ad}(h:Atp sd hh 2 lf r a)(hf:Dz .i64 a.flags 64≠0)(ans:List An)(now:Int):Y7 r a (Tl r.ad (D3 11 (D1 r.cd))) ans [] now=if (Q6 [cB] ans [] now).2≠0 then avE (Q6 [cB] ans [] now).2 else ⟨2,(Q6 [cB] ans [] now).1,-1,0⟩:=by
 obtain ⟨hc,s,s1,s2,s3,s4⟩:=h.f2 rfl
 unfold Y7
 rw [if_neg hf,h.fmt,if_neg (by omega),if_neg (by omega),if_pos rfl]
 unfold Al3
 rw [hc]
 have ed:Dk [Qx]=([cB],0):=by
  rw [Dk,Apt,if_neg (by simp),Dk,if_neg (by simp)]
 rw [ed,if_neg (by simp),if_neg (by simp),if_neg (by simp)]
 simp only
 rw [Z6,if_neg (by show ¬(false=true);simp),if_neg (by show ¬((3:Int)=0);omega),if_neg (by rw [h.model];show ¬((3:Int)≠3);simp),s2]
 simp only
 have e:Is cB.key (Tl r.ad (D3 11 (D1 r.cd))) s=0:=s4
 rw [e,if_neg (by simp)]
theorem Abq {a:Ad}(h:a.good):Dz .i64 a.flags 64≠0:=by rcases h.flags with e|e|e|e<;>rw [e]<;>decide
theorem A18 {sd hh lf:Int}{r:Rp}{a:Ad}(h:Atp sd hh 1 lf r a)(ans:List An)(vs:List Rv)(now:Int):Y7 r a (Tl r.ad (D3 11 (D1 r.cd))) ans vs now=⟨1,-1,0,0⟩:=by
 obtain ⟨hc,s,s1,s2,s3,s4⟩:=h.f1 rfl
 unfold Y7
 rw [if_neg (Abq h.good),h.fmt,if_neg (by omega),if_pos rfl]
 unfold Aju
 rw [hc,if_neg (by simp),s2]
 simp only
 rw [h.key,s4,if_neg (by simp),s3]
theorem A2f {sd hh lf:Int}{r:Rp}{a:Ad}(h:Atp sd hh 0 lf r a)(w:Int)(ans:List An)(vs:List Rv)(now:Int):Y7 r a w ans vs now=⟨0,-1,-1,0⟩:=by
 obtain ⟨h1,h2⟩:=h.f0 rfl
 unfold Y7
 rw [if_neg (Abq h.good),h.fmt,if_pos rfl,h1,h2,if_neg (by simp),if_neg (by simp)]
theorem A0o {sd hh lf:Int}{r:Rp}{a:Ad}(h:Atp sd hh 2 lf r a):Y7 r a (Tl r.ad (D3 11 (D1 r.cd))) G5 [] 5=⟨2,1,-1,0⟩:=by
 have e:Q6 [cB] G5 [] 5=(1,0):=by
  rw [Azk _ _ (by omega) (by omega),if_pos (by omega)]
  unfold Au8
  rw [Amu]
  rfl
 rw [A2j h (Abq h.good),e,if_neg (by simp)]
section
variable {d:Nat}
theorem Arg:Ae C0 Tryz.prog 2000 (d+14) J0 []=some ⟨[.own 3 2 (Il G5)],[]⟩:=by
 rw [Ss]
 have k1:=Afu (fu:=2000) (d:=d) (by omega) 9 1
 have k2:=Afu (fu:=2000) (d:=d) (by omega) 32 1
 show _=some (A8.mk [.own 3 2 [.sc (.string Agp),.sc (.int .i64 (Dg 9 1).h),.sc (.int .u64 (Dg 9 1).root),.sc (.string Agp),.sc (.int .i64 (Dg 32 1).h),.sc (.int .u64 (Dg 32 1).root)]] [])
 simp only [Ky.cells] at k1 k2
 generalize Dg 9 1=K1 at *
 generalize Dg 32 1=K2 at *
 try unfold Aa
 repeat first
  |((with_reducible first|apply At|apply Ap|apply Ax|apply Ao|apply Az|apply Aw|apply Bb|apply Bc|apply A0|apply Al|apply Au|apply Am);· first|with_reducible rfl|(simp (disch:=omega) only [k1,k2]<;>with_reducible rfl))
  |((with_reducible first|apply A4|apply A3);· first|with_reducible rfl|omega|(simp (disch:=omega) only [gT,k1,k2]<;>omega))
  |(with_reducible apply Ay;· first|with_reducible rfl|(simp (disch:=omega) only [gF,k1,k2]<;>omega))
 try simp (disch:=omega) only [k1,k2]
 all_goals rfl
theorem Ano:(Il G5).length=6:=rfl
theorem Amb:List.take 6 (Il G5)=Il G5:=rfl
theorem Az9 (n:Int){h:Int}(hh:Cl h=false)(ho:E6 0 h=false){fmt leaf:Int}(hf:fmt=0∨fmt=1∨fmt=2)(l0:0≤leaf)(l1:leaf≤15):
  ∃sd r a,Atp sd h fmt leaf r a∧Ae C0 Tryz.prog 2000 (d+16) M9 [.sc (.int .i64 n),.sc (.int .i64 h),.sc (.int .i64 fmt),.sc (.int .i64 leaf)]=some ⟨[.agg r.cells,.agg a.cells,.sc (.int .u64 (Tl r.ad (D3 11 (D1 r.cd))))],[]⟩:=by
 obtain ⟨m,m0,m1,m2⟩:=A13 n 50 (by omega) (by omega)
 obtain ⟨id_,i1,i2,i3⟩:=Azs (fu:=2000) (d:=d+8) (by omega) (n:=m) m0 (by omega) h (Dz .i64 n 64==64)
 obtain ⟨ch,c1,c2,c3⟩:=Am7 (fu:=2000) (d:=d+9) (by omega) (Dz .i64 n 7) (n:=16) (by omega)
 obtain ⟨r,a,M,R⟩:=A2s (d:=d) (seed:=1000+m) hh ho i1 i2 c2 (Dz .i64 n 64==64) (Dz .i64 n 128==128) hf l0 l1
 refine ⟨1000+m,r,a,M,?_⟩
 have dd:=Ar2 (fu:=2000) (d:=d+11) (by omega) M.good
 rw [←M.ad] at dd
 have al:r.ad.length=204:=by rw [M.ad,Asv M.good]
 have hd:=Adj (fu:=2000) (d:=d+10) (s:=r.cd) (by have:=M.cd;omega) (by omega)
 have ms:=Ahs (fu:=2000) (d:=d+10) (b:=r.ad) (by rw [M.ad];exact A1s M.good) (by omega) (by omega) (D3 11 (D1 r.cd))
 rw [al] at ms
 have c3':Ae C0 Tryz.prog 2000 (d+15) Gb [.sc (.int .i64 (Dz .i64 n 7)),.sc (.int .i64 16)]=some ⟨[.own 1 16 (Ag .u8 ch)],[]⟩:=c3
 have L1:=Aj .u8 id_
 have t1:=Gw .u8 id_
 have L2:=Aj .u8 ch
 have t2:=Gw .u8 ch
 rw [i2] at L1 t1
 rw [c2] at L2 t2
 simp only [Rp.cells,Ad.cells,Tk,i2,al] at R dd ⊢
 rw [Xr]
 generalize Tl r.ad (D3 11 (D1 r.cd))=W at *
 try unfold Aa
 repeat first
  |((with_reducible first|apply At|apply Ap|apply Ax|apply Ao|apply Az|apply Aw|apply Bb|apply Bc|apply A0|apply Al|apply Au|apply Am);· first|with_reducible rfl|(simp (disch:=omega) only [m2,i3,c3',List.drop_zero,Nat.zero_add,Nat.mul_one,L1,t1,L2,t2,R,dd,hd,ms]<;>with_reducible rfl))
  |((with_reducible first|apply A4|apply A3);· first|with_reducible rfl|omega|(simp (disch:=omega) only [gT,m2,i3,c3',List.drop_zero,Nat.zero_add,Nat.mul_one,L1,t1,L2,t2,R,dd,hd,ms]<;>omega))
  |(with_reducible apply Ay;· first|with_reducible rfl|(simp (disch:=omega) only [gF,m2,i3,c3',List.drop_zero,Nat.zero_add,Nat.mul_one,L1,t1,L2,t2,R,dd,hd,ms]<;>omega))
 try simp (disch:=omega) only [m2,i3,c3',List.drop_zero,Nat.zero_add,Nat.mul_one,L1,t1,L2,t2,R,dd,hd,ms]
 all_goals rfl
theorem Agq {call:Ak}{nn:Nat}{f:Int}(h:f>2):B3 2000 call (nn+1) f=some ⟨[.sc (.bool true)],[]⟩:=by
 rw [Jm,Dl _ _ _ (by omega)]
theorem Ax2:Ae C0 Tryz.prog 2000 (d+17) Mb []=some ⟨[.sc (.bool true)],[]⟩:=by
 rw [Wc]
 have an:=Arg (d:=d+2)
 have l2:G5.length=2:=rfl
 have L:=Ano
 have t:=Amb
 have w0:IntKind.wrap .i64 ((0:Int)+1)=1:=by decide
 have w1:IntKind.wrap .i64 ((1:Int)+1)=2:=by decide
 have w2:IntKind.wrap .i64 ((2:Int)+1)=3:=by decide
 have st:∀(f:Int) (nn:Nat),f=0∨f=1∨f=2→B3 2000 (Ae C0 Tryz.prog 2000 (d+16)) (nn+1) f=B3 2000 (Ae C0 Tryz.prog 2000 (d+16)) nn (f+1):=by
  intro f nn hf
  obtain ⟨sd,r,a,M,R⟩:=Az9 (d:=d) 1 (h:=1) (by decide) (by decide) (leaf:=0) hf (by omega) (by omega)
  have p:=Ak6 (fu:=2000) (d:=d+4) (by omega) M.ok a (Tl r.ad (D3 11 (D1 r.cd))) (ans:=G5) (by rw [l2];omega) (vs:=[]) (by simp) 5
  have ez:Jq []=[]:=rfl
  rw [l2] at p
  simp only [Rp.cells,Ad.cells,Tk,Av.vals,ez,List.length_nil] at p R
  have av:∃x y:Int,Y7 r a (Tl r.ad (D3 11 (D1 r.cd))) G5 [] 5=⟨f,x,y,0⟩∧x=(if f=2 then 1 else -1)∧y=(if f=1 then 0 else -1):=by
   rcases hf with rfl|rfl|rfl
   ·exact ⟨_,_,A2f M _ _ _ _,rfl,rfl⟩
   ·exact ⟨_,_,A18 M _ _ _,rfl,rfl⟩
   ·exact ⟨_,_,A0o M,rfl,rfl⟩
  obtain ⟨x,y,e1,e2,e3⟩:=av
  rw [e1] at p
  simp only at p
  subst e2 e3
  clear e1 M
  generalize Tl r.ad (D3 11 (D1 r.cd))=W at *
  generalize Il G5=E at *
  rw [Jm]
  rcases hf with rfl|rfl|rfl
  all_goals
   try unfold Aa
   repeat first
    |((with_reducible first|apply At|apply Ap|apply Ax|apply Ao|apply Az|apply Aw|apply Bb|apply Bc|apply A0|apply Al|apply Au|apply Am);· first|with_reducible rfl|(simp (disch:=omega) only [R,an,List.drop_zero,Nat.zero_add,Nat.reduceMul,L,t,p,Int.reduceBEq,w0,w1,w2,bne_self_eq_false,beq_self_eq_true,Bool.true_and,Bool.and_true,Bool.not_true,Int.reduceEq,if_true,if_false]<;>with_reducible rfl))
    |((with_reducible first|apply A4|apply A3);· first|with_reducible rfl|omega|(simp (disch:=omega) only [gT,R,an,List.drop_zero,Nat.zero_add,Nat.reduceMul,L,t,p,Int.reduceBEq,w0,w1,w2,bne_self_eq_false,beq_self_eq_true,Bool.true_and,Bool.and_true,Bool.not_true,Int.reduceEq,if_true,if_false]<;>omega))
    |(with_reducible apply Ay;· first|with_reducible rfl|(simp (disch:=omega) only [gF,R,an,List.drop_zero,Nat.zero_add,Nat.reduceMul,L,t,p,Int.reduceBEq,w0,w1,w2,bne_self_eq_false,beq_self_eq_true,Bool.true_and,Bool.and_true,Bool.not_true,Int.reduceEq,if_true,if_false]<;>omega))
   try simp (disch:=omega) only [R,an,List.drop_zero,Nat.zero_add,Nat.reduceMul,L,t,p,Int.reduceBEq,w0,w1,w2,bne_self_eq_false,beq_self_eq_true,Bool.true_and,Bool.and_true,Bool.not_true,Int.reduceEq,if_true,if_false]
  all_goals rfl
 show B3 2000 (Ae C0 Tryz.prog 2000 (d+16)) (1996+1+1+1+1) 0=_
 rw [st 0 _ (.inl rfl),st (0+1) _ (.inr (.inl rfl)),st (0+1+1) _ (.inr (.inr rfl))]
 exact Agq (by omega)
end
end
section
set_option maxRecDepth 1000000
theorem Rp.cells_len (r:Rp):r.cells.length=8:=rfl
end
section
set_option maxRecDepth 100000
abbrev Gi:FuncId:=5
theorem Ld (fu d:Nat)(a0 a1:Int)(a2 a3 a4:Int):Ae C0 Tryz.prog fu (d+1) Gi [.sc (.int .u8 a0),.sc (.int .u8 a1),.sc (.int .u8 a2),.sc (.int .u64 a3),.sc (.int .u64 a4)]=(fun (call:Ak)=>Aa (Int.tmod a1 4) fun x1=>Aa (IntKind.wrap .i64 x1) fun x2=>Aa (IntKind.wrap .u64 a0) fun x3=>Ah (call 16 [.sc (.int .u64 x3),.sc (.int .i64 x2)]) fun x4 x5=>Ac x5<|Ab x4 fun x6 x7=>Co x6 fun x8=>Ab x8 fun x9 B5=>Af .i64 x9 fun B9=>Ab B5 fun Cy C7=>Af .u64 Cy fun Cr=>Ac C7<|Ac x7<|Aa (IntKind.wrap .i64 a2) fun C3=>Aa (IntKind.wrap .u64 x2) fun Df=>Ar (decide (0≤Df))<|Aa (Ew .i64 1 Df) fun Ds=>Aa (IntKind.wrap .i64 (Ds-1)) fun D2=>Aa (Dz .i64 C3 D2) fun D0=>Ah (call 17 [.sc (.int .u64 x3),.sc (.int .i64 x2),.sc (.int .i64 D0),.sc (.int .u64 a4)]) fun D6 F1=>Ac F1<|Ab D6 fun Ey Fs=>Co Ey fun De=>Ab De fun C9 Eu=>Af .i64 C9 fun F6=>Ab Eu fun Ef Hn=>C8 1 Ef fun Hg G3=>Ab Hn fun Ie Hy=>C8 1 Ie fun Ir G4=>Ac Hy<|Ab Fs fun Jr Nb=>Af .i64 Jr fun Fq=>Ac Nb<|Ar (decide (0+Hg*1≤List.length G3))<|Ar (decide (0+Ir*1≤List.length G4))<|Ah (call 18 [.agg [.sc (.int .i64 F6),.lst false 1 Hg (List.take (Hg*1) (List.drop 0 G3)),.lst false 1 Ir (List.take (Ir*1) (List.drop 0 G4))]]) fun Ih Q8=>Ac Q8<|Ab Ih fun Sk Mj=>C8 1 Sk fun Po Of=>Ab Mj fun Oy Q2=>Af .i64 Oy fun Ra=>Ac Q2<|Be (Fq != 0) (some (A8.mk [.sc (.bool false)] [])) (Be (Ra != 0) (some (A8.mk [.sc (.bool false)] [])) (Ar (decide (0+Po*1≤List.length Of))<|Ah (call 14 [.agg [.sc (.int .i64 1),.sc (.string (ByteArray.mk #[])),.lst false 1 0 [],.lst false 1 Po (List.take (Po*1) (List.drop 0 Of)),.lst false 1 0 [],.sc (.int .i64 1),.lst false 1 0 [],.sc (.string (ByteArray.mk #[]))],.agg [.sc (.int .u64 0),.sc (.int .i64 64),.sc (.int .i64 0),.sc (.int .i64 0),.sc (.int .u64 0),.lst false 1 0 [],.sc (.int .i64 B9),.sc (.int .u64 Cr)],.sc (.int .u64 a4),.lst false 3 0 [],.lst false 3 0 [],.sc (.int .i64 0)]) fun Rj Qc=>Ac Qc<|Ab Rj fun Si Tg=>Co Si fun Sh=>Ab Sh fun Lr Ui=>Af .i64 Lr fun R0=>Ab Ui fun Um Sf=>Af .i64 Um fun S9=>Ab Sf fun Tx Uu=>Af .i64 Tx fun Ux=>Ac Uu<|Ab Tg fun X6 Xc=>Af .i64 X6 fun Us=>Ac Xc<|Aa (Dv .u64 a4 1) fun Ut=>Ar (decide (0+Po*1≤List.length Of))<|Ah (call 14 [.agg [.sc (.int .i64 1),.sc (.string (ByteArray.mk #[])),.lst false 1 0 [],.lst false 1 Po (List.take (Po*1) (List.drop 0 Of)),.lst false 1 0 [],.sc (.int .i64 1),.lst false 1 0 [],.sc (.string (ByteArray.mk #[]))],.agg [.sc (.int .u64 0),.sc (.int .i64 64),.sc (.int .i64 0),.sc (.int .i64 0),.sc (.int .u64 0),.lst false 1 0 [],.sc (.int .i64 B9),.sc (.int .u64 Cr)],.sc (.int .u64 Ut),.lst false 3 0 [],.lst false 3 0 [],.sc (.int .i64 0)]) fun Tp Tf=>Ac Tf<|Ab Tp fun Y4 Vb=>Co Y4 fun V7=>Ab V7 fun Vi Xe=>Af .i64 Vi fun Zc=>Ab Xe fun Uw Xb=>Af .i64 Uw fun x76=>Ab Xb fun Xw Zf=>Af .i64 Xw fun x79=>Ac Zf<|Ab Vb fun x80 x81=>Af .i64 x80 fun x82=>Ac x81<|Aa (Dv .u64 a4 1) fun x83=>Ar (decide (0+Hg*1≤List.length G3))<|Ar (decide (0+Ir*1≤List.length G4))<|Ah (call 19 [.agg [.sc (.int .i64 B9),.sc (.int .u64 Cr)],.sc (.int .u64 x83),.agg [.sc (.int .i64 F6),.lst false 1 Hg (List.take (Hg*1) (List.drop 0 G3)),.lst false 1 Ir (List.take (Ir*1) (List.drop 0 G4))]]) fun x84 x85=>Ac x85<|Ab x84 fun x86 x87=>Af .i64 x86 fun x88=>Ac x87<|Be (Us==0) (Be (Ux==D0) (Be (S9==(-1)) (Be (R0==1) (Be (x82==x88) (Ah (call 13 []) fun Uk x90=>Ac x90<|Ab Uk fun x91 x92=>Bz x91 fun x93=>Ac x92<|some (A8.mk [.sc (.bool x93)] [])) (some (A8.mk [.sc (.bool false)] []))) (some (A8.mk [.sc (.bool false)] []))) (some (A8.mk [.sc (.bool false)] []))) (some (A8.mk [.sc (.bool false)] []))) (some (A8.mk [.sc (.bool false)] []))))) (Ae C0 Tryz.prog fu d):=by kernel_rfl
end
section
set_option maxRecDepth 1000000
theorem attestationSelf_plain (qs:List PV)(h:Bo (WTv Tryz.prog) [5,5,5,23,23] qs):∃fu d,Ae C0 Tryz.prog fu d Gi qs=some ⟨[.sc (.bool true)],[]⟩:=by
 obtain ⟨q0,_,rfl,h0,g⟩:=h.cons_inv
 obtain ⟨q1,_,rfl,h1,g⟩:=g.cons_inv
 obtain ⟨q2,_,rfl,h2,g⟩:=g.cons_inv
 obtain ⟨q3,_,rfl,h3,g⟩:=g.cons_inv
 obtain ⟨q4,_,rfl,h4,g⟩:=g.cons_inv
 obtain rfl:=g.nil_inv
 clear h g
 obtain ⟨n,rfl,wn⟩:=Aax (k:=.u8) (by kernel_rfl) (by kernel_rfl) h0
 obtain ⟨ht,rfl,wh⟩:=Aax (k:=.u8) (by kernel_rfl) (by kernel_rfl) h1
 obtain ⟨lf,rfl,wl⟩:=Aax (k:=.u8) (by kernel_rfl) (by kernel_rfl) h2
 obtain ⟨ot,rfl,_⟩:=Aax (k:=.u64) (by kernel_rfl) (by kernel_rfl) h3
 obtain ⟨w,rfl,_⟩:=Aax (k:=.u64) (by kernel_rfl) (by kernel_rfl) h4
 clear h0 h1 h2 h3 h4
 have wn:=Ayt wn
 have wh:=Ayt wh
 have wl:=Ayt wl
 refine ⟨2000,19,?_⟩
 obtain ⟨hh,eh⟩:∃hh,Int.tmod ht 4=hh:=⟨_,rfl⟩
 have h0:0≤hh:=by rw [←eh];exact Int.tmod_nonneg _ wh.1
 have h3:hh<4:=by rw [←eh];exact Int.tmod_lt_of_pos _ (by omega)
 have w1:IntKind.wrap .i64 hh=hh:=Aq (by omega) (by omega)
 have w2:IntKind.wrap .u64 n=n:=Bq (by omega) (by omega)
 have w3:IntKind.wrap .i64 lf=lf:=Aq (by omega) (by omega)
 have w4:IntKind.wrap .u64 hh=hh:=Bq (by omega) (by omega)
 obtain ⟨M,eM,M0,M1,M2⟩:∃M,Ew .i64 1 hh=M∧1≤M∧M≤8∧E6 (M-1) hh=false:=by
  have:hh=0∨hh=1∨hh=2∨hh=3:=by omega
  rcases this with rfl|rfl|rfl|rfl<;>exact ⟨_,rfl,by decide,by decide,by decide⟩
 have w5:IntKind.wrap .i64 (M-1)=M-1:=Aq (by omega) (by omega)
 obtain ⟨L,eL⟩:∃L,Dz .i64 lf (M-1)=L:=⟨_,rfl⟩
 have Lb:=Anq (a:=lf) (m:=M-1) (by omega) (by omega)
 rw [eL] at Lb
 have hH:Cl hh=false:=by
  unfold Cl
  simp
  omega
 have hO:E6 L hh=false:=by
  unfold E6 at M2 ⊢
  rw [eM] at M2 ⊢
  simp
  omega
 obtain ⟨s,s1,s2,s3,s4,s5,s6⟩:=Aex (seed:=n) (h:=hh) (leaf:=L) (m:=w) hH hO
 have p1:Cl s.path.length=false:=by rw [s5];exact hH
 have p2:E6 s.leaf s.path.length=false:=by rw [s5,s3];exact hO
 obtain ⟨g1,g2,g3⟩:=Ae5 s2 p1 p2 s4
 have ky:=Afu (fu:=2000) (d:=5) (by omega) n hh
 have sg:=Abb (fu:=2000) (d:=6) (by omega) n hh L w
 rw [s1] at sg
 simp only [Wt,Sg.owned] at sg
 have es:=Ti (fu:=2000) (d:=16) (by omega) s (by omega)
 rw [p1,p2,s4,if_neg (by simp),if_neg (by simp),if_neg (by simp)] at es
 obtain ⟨w',ew⟩:∃w',Dv .u64 w 1=w':=⟨_,rfl⟩
 have vr:=Ap2 (fu:=2000) (d:=11) (by omega) (Dg n hh) w' s
 have ez:Ad2 []=[]:=rfl
 have er:Jq []=[]:=rfl
 have ea:Il []=[]:=rfl
 have ok:(Rp.mk 1 E2 [] (Ix s) [] 1 [] E2).ok:=⟨g1,by simp only;omega,by intro b hb;cases hb⟩
 have a1:=Ak6 (fu:=2000) (d:=6) (by omega) ok ⟨0,64,0,0,0,[],Dg n hh⟩ w (ans:=[]) (by simp) (vs:=[]) (by simp) 0
 have a2:=Ak6 (fu:=2000) (d:=6) (by omega) ok ⟨0,64,0,0,0,[],Dg n hh⟩ w' (ans:=[]) (by simp) (vs:=[]) (by simp) 0
 have e1:Y7 (Rp.mk 1 E2 [] (Ix s) [] 1 [] E2) ⟨0,64,0,0,0,[],Dg n hh⟩ w [] [] 0=⟨1,-1,L,0⟩:=by
  unfold Y7
  rw [if_neg (by show ¬(Dz .i64 64 64=0);decide),if_neg (by simp),if_pos rfl]
  unfold Aju
  rw [if_neg (by simp)]
  simp only
  rw [g3]
  simp only
  rw [s6,if_neg (by simp),s3]
 have e2:(Y7 (Rp.mk 1 E2 [] (Ix s) [] 1 [] E2) ⟨0,64,0,0,0,[],Dg n hh⟩ w' [] [] 0).e=Is (Dg n hh) w' s:=by
  unfold Y7
  rw [if_neg (by show ¬(Dz .i64 64 64=0);decide),if_neg (by simp),if_pos rfl]
  unfold Aju
  rw [if_neg (by simp)]
  simp only
  rw [g3]
  simp only
  by_cases hz:Is (Dg n hh) w' s=0
  ·rw [if_neg (by simp [hz])]
   simp only
   rw [hz]
  ·rw [if_pos hz]
 rw [e1] at a1
 generalize Y7 (Rp.mk 1 E2 [] (Ix s) [] 1 [] E2) ⟨0,64,0,0,0,[],Dg n hh⟩ w' [] [] 0=v at a2 e2
 have aw:=Ax2 (d:=1)
 have L1:=Aj .u64 s.chains
 have L2:=Aj .u64 s.path
 have t1:=Gw .u64 s.chains
 have t2:=Gw .u64 s.path
 have L3:=Aj .u8 (Ix s)
 have t3:=Gw .u8 (Ix s)
 simp only [Rp.cells,Ad.cells,Tk,Av.vals,ez,er,ea,List.length_nil] at a1 a2
 simp only [Ky.cells,Sg.cells] at ky es vr
 have n0:Ag .u8 []=[]:=rfl
 rw [n0] at a1 a2
 have e00:((0:Int) != 0)=false:=rfl
 have q0:((0:Int)==0)=true:=rfl
 have qm:((-1:Int) == -1)=true:=rfl
 have q1:((1:Int)==1)=true:=rfl
 have qL:(s.leaf==L)=true:=by rw [s3];simp
 have qL':(L==L)=true:=by simp
 have qv:(v.e==Is (Dg n hh) w' s)=true:=by rw [e2];simp
 rw [Ld]
 clear g1 g2 g3 s6 e1 s1 ok e2
 generalize Is (Dg n hh) w' s=V at *
 generalize Dg n hh=K at *
 generalize Ix s=G at *
 try unfold Aa
 repeat first
  |((with_reducible first|apply At|apply Ap|apply Ax|apply Ao|apply Az|apply Aw|apply Bb|apply Bc|apply A0|apply Al|apply Au|apply Am);· first|with_reducible rfl|(simp (disch:=omega) only [eh,w1,w2,w3,w4,w5,eM,eL,ky,sg,List.drop_zero,Nat.zero_add,Nat.mul_one,L1,L2,t1,t2,es,e00,L3,t3,a1,ew,a2,vr,q0,qL,qL',qm,q1,qv,aw]<;>with_reducible rfl))
  |((with_reducible first|apply A4|apply A3);· first|with_reducible rfl|omega|(simp (disch:=omega) only [gT,eh,w1,w2,w3,w4,w5,eM,eL,ky,sg,List.drop_zero,Nat.zero_add,Nat.mul_one,L1,L2,t1,t2,es,e00,L3,t3,a1,ew,a2,vr,q0,qL,qL',qm,q1,qv,aw]<;>omega))
  |(with_reducible apply Ay;· first|with_reducible rfl|(simp (disch:=omega) only [gF,eh,w1,w2,w3,w4,w5,eM,eL,ky,sg,List.drop_zero,Nat.zero_add,Nat.mul_one,L1,L2,t1,t2,es,e00,L3,t3,a1,ew,a2,vr,q0,qL,qL',qm,q1,qv,aw]<;>omega))
 try simp (disch:=omega) only [eh,w1,w2,w3,w4,w5,eM,eL,ky,sg,List.drop_zero,Nat.zero_add,Nat.mul_one,L1,L2,t1,t2,es,e00,L3,t3,a1,ew,a2,vr,q0,qL,qL',qm,q1,qv,aw]
 all_goals rfl
end
section
open Go.RowKit
theorem Aj2 {w w':World}{Y:Nat→Prop}{bt:Bt2}{args:List PV}{v:Value}(hb:Below w.heap.size w w')(ho:Abf w' (Arh bt (fun _=>none) Y) (fun _=>none) bt (Qu [.sc v]) 0 args []):
  Out w w' Y bt args (fun _=>none) ⟨[.sc v],[]⟩ [v] where
 os:=hb.os
 tape:=hb.tape
 output:=hb.output
 ext:=⟨hb.size,fun b h _=>hb.block b h,fun b h=>by unfold bsz;rw [hb.block b h];exact Nat.le_refl _⟩
 rng:=fun b j h _=>⟨by unfold World.cell?;simp only [hb.block b h],by unfold World.frozen?;simp only [hb.block b h]⟩
 vals:=⟨Bj.sc v,trivial⟩
 outs:=ho
 fresh:=fun j b o h=>by cases h
 inj:=fun j j' b o o' h=>by cases h
theorem Ad0 {P:Program}{w:World}{A:Nat→Prop}{bt:Bt}{z:Bool}{n:Nat}{c:List PV}{u:Value}{l:List UInt8}(h:An0 w A bt (.lst z 1 n c) u) (hl:bytesOf c=some l)(hn:c.length=n):
  (Extern.Bytes.bytesOf u).run P w=.ok ⟨l.toArray⟩ w:=by
 obtain ⟨ns,rfl,rfl⟩:=Vo hl
 have ht:Bj w A (.lst z 1 n (ns.map fun n=>.sc (.int .u8 n))) u:=h.2
 generalize hc:(ns.map fun n=>PV.sc (.int .u8 n))=c at ht
 cases ht with
 |lnil=>
  have:ns=[]:=by simpa using hc
  subst this
  rfl
 |lemp=>
  have:ns=[]:=by simpa using hc
  subst this
  rfl
 |lst _ _ _ a cap f hs hb hA hn' hcell h1 hr=>
  subst hc
  rw [List.length_map] at hn
  subst hn
  show (Extern.Bytes.loadBytes a ns.length .empty).run P w=_
  rw [Lib.run_loadBytesX w ns a .empty fun j x hj=>?_]
  ·simp [Lib.bytesOf,Nat.toUInt8]
  ·have e:(ns.map fun n=>PV.sc (.int .u8 n))[j]?=some (.sc (.int .u8 x)):=by rw [List.getElem?_map,hj];rfl
   rw [hcell j _ e,(hr j _ e).val]
set_option maxRecDepth 1000000 in
theorem Ak4 (u1 u2:Value)(a b:List UInt8)(w:World)(h1:(Extern.Bytes.bytesOf u1).run Tryz.prog w=.ok ⟨a.toArray⟩ w) (h2:(Extern.Bytes.bytesOf u2).run Tryz.prog w=.ok ⟨b.toArray⟩ w):
  Calls Tryz.prog 143 #[u1,u2] w fun e w'=>e=.returned (.int .i64 (Lib.compareBytes a b))∧w'=w:=by
 have hr:(Extern.BytealgCompare.compare #[u1,u2]).run Tryz.prog w=.ok (.int .i64 (Lib.compareBytes a b)) w:=by
  change Sem.run Tryz.prog (do pure (goInt (Extern.BytealgCompare.cmp (←Extern.Bytes.bytesOf u1) (←Extern.Bytes.bytesOf u2)))) w=_
  simp only [Sem.run_bind,Sem.run_pure,Result.andThen,h1,h2]
  rw [Lib.cmp_eq]
  rfl
 go_enter Tryz.func143,Tryz.ntmps143
 go_wp2
 rw [run_callFunc_extern Tryz.func145 (by kernel_rfl) (by kernel_rfl) (by kernel_rfl) (e:=Extern.BytealgCompare.compare) (by kernel_rfl),hr]
 simp only [Result.andThen]
 rw [Oper.upon_value]
 go_wp2
 go_ret
 exact ⟨rfl,rfl⟩
theorem Ah6 (G:Glo)(args:List PV)(res:A8)(h:Vy args=some res):Gr G Tryz.prog 143 args res:=by
 refine ⟨⟨_,Tryz.func143,by kernel_rfl⟩,fun w Y bt us hi _ _=>?_⟩
 unfold Vy at h
 split at h
 rotate_left
 ·cases h
 rename_i z n c z' m c'
 cases hq:(Nat.beq c.length n&&Nat.beq c'.length m)
 ·rw [hq] at h;cases h
 rw [hq] at h
 simp only [Bool.and_eq_true] at hq
 have hn:=Nat.eq_of_beq_eq_true hq.1
 have hm:=Nat.eq_of_beq_eq_true hq.2
 simp only [cond_true] at h
 split at h
 rotate_left
 ·cases h
 rename_i a b ha hb
 cases h
 have ps:=hi.args
 match us,ps with
 |[u1,u2],ps=>
  refine (Ak4 u1 u2 a b w (Ad0 ps.1 ha hn) (Ad0 ps.2.1 hb hm)).mono ?_
  rintro e w' ⟨rfl,rfl⟩
  exact ⟨[.int .i64 (Lib.compareBytes a b)],fun _=>none,rfl,Aj2 (Below.refl _ _) rfl⟩
 |[],ps=>exact ps.elim
 |[_],ps=>exact ps.2.elim
 |_::_::_::_,ps=>exact ps.2.2.elim
end
section
set_option maxRecDepth 1000000
open Go.Shelf Go.RowKit Go.Lib
def A3e:Go.Shelf.Ren:=⟨fun|196=>67|259=>98|n=>n,fun|0=>0|3=>3|4=>4|5=>5|9=>9|12=>12|46=>54|53=>23|119=>155|138=>157|139=>158|n=>n,fun|3=>0|4=>1|n=>n⟩
theorem laysVS:Lays.n196 Tryz.prog A3e:={
 mixed:=by kernel_rfl
 f196:=Tryz.func67.trans (congrArg some (by kernel_rfl))
 f259:=Tryz.func98.trans (congrArg some (by kernel_rfl))
 t0:=Tryz.underlying0
 a0:=Tryz.isAgg0
 z0:=Tryz.sizeOf0
 v0:=Tryz.zeroValue0
 t3:=Tryz.underlying3
 a3:=Tryz.isAgg3
 z3:=Tryz.sizeOf3
 v3:=Tryz.zeroValue3
 t4:=Tryz.underlying4
 a4:=Tryz.isAgg4
 z4:=Tryz.sizeOf4
 v4:=Tryz.zeroValue4
 t5:=Tryz.underlying5
 a5:=Tryz.isAgg5
 z5:=Tryz.sizeOf5
 v5:=Tryz.zeroValue5
 t9:=Tryz.underlying9
 a9:=Tryz.isAgg9
 z9:=Tryz.sizeOf9
 v9:=Tryz.zeroValue9
 t12:=Tryz.underlying12
 a12:=Tryz.isAgg12
 z12:=Tryz.sizeOf12
 v12:=Tryz.zeroValue12
 t46:=Tryz.underlying54
 a46:=Tryz.isAgg54
 z46:=Tryz.sizeOf54
 v46:=Tryz.zeroValue54
 t53:=Tryz.underlying23
 a53:=Tryz.isAgg23
 z53:=Tryz.sizeOf23
 v53:=Tryz.zeroValue23
 t119:=Tryz.underlying155
 a119:=Tryz.isAgg155
 z119:=Tryz.sizeOf155
 t138:=Tryz.underlying157
 a138:=Tryz.isAgg157
 z138:=Tryz.sizeOf157
 v138:=Tryz.zeroValue157
 t139:=Tryz.underlying158
 a139:=Tryz.isAgg158
 z139:=Tryz.sizeOf158
 v139:=Tryz.zeroValue158
 g3:=by kernel_rfl
 g4:=by kernel_rfl }
def gU:Glo:=⟨fun b=>b=0∨b=1,fun w=>0<w.heap.size∧1<w.heap.size∧Lib.Utf8Tabs 0 1 w,fun w w' h ⟨s1,s2,h1,h2⟩=>by
 have e1:=h _ (.inl rfl) s1
 have e2:=h _ (.inr rfl) s2
 have hs:∀b,b<w.heap.size→w'.heap[b]?=w.heap[b]?→b<w'.heap.size:=by
  intro b hb he
  rw [Array.getElem?_eq_getElem hb] at he
  rcases Nat.lt_or_ge b w'.heap.size with q|q
  ·exact q
  ·rw [Array.getElem?_eq_none q] at he;cases he
 refine ⟨hs _ s1 e1,hs _ s2 e2,fun c hc=>?_,fun i hi=>?_⟩
 ·have:=h1 c hc
  unfold World.cell? at this ⊢
  simp only [e1] at this ⊢
  exact this
 ·obtain ⟨a,b⟩:=h2 i hi
  unfold World.cell? at a b ⊢
  simp only [e2] at a b ⊢
  exact ⟨a,b⟩⟩
theorem Api (args:List PV)(res:A8)(h:Afq args=some res):Gr gU Tryz.prog 67 args res:=by
 refine ⟨⟨_,Tryz.func67,by kernel_rfl⟩,fun w Y bt us hi hok _=>?_⟩
 unfold Afq at h
 split at h
 rotate_left
 ·cases h
 rename_i s
 cases hq:decide (s.size≤9223372036854775807)
 ·rw [hq] at h;cases h
 rw [hq] at h
 cases h
 have hs:=of_decide_eq_true hq
 have ps:=hi.args
 match us,ps with
 |[u],ps=>
  have hu:u=.string s:=by
   have:Bj w _ (.sc (.string s)) u:=ps.1.2
   exact this.val
  subst hu
  refine (Any.utf8_ValidString laysVS s w hs hok.2.2).mono ?_
  rintro e w' ⟨rfl,hb⟩
  exact ⟨[.bool (Lib.validD s.data.toList)],fun _=>none,rfl,Aj2 hb rfl⟩
 |[],ps=>exact ps.elim
 |_::_::_,ps=>exact ps.2.elim
theorem extU:Ayd gU Tryz.prog C0:=by
 intro f g args res hx hg
 have hx':Axg f=some g:=hx
 unfold Axg at hx'
 cases h1:Nat.beq f 67
 rotate_left
 ·rw [h1,cond_true] at hx'
  cases hx'
  rw [Nat.eq_of_beq_eq_true h1]
  exact Api args res hg
 rw [h1,cond_false] at hx'
 cases h2:Nat.beq f 143
 rotate_left
 ·rw [h2,cond_true] at hx'
  cases hx'
  rw [Nat.eq_of_beq_eq_true h2]
  exact Ah6 gU args res hg
 rw [h2,cond_false] at hx'
 cases h3:Nat.beq f 1000000
 ·rw [h3,cond_false] at hx';cases hx'
 ·rw [h3,cond_true] at hx'
  cases hx'
  cases hg
end
end Go.Proofs.YtgfgmbpmghgbkaaGreatDoor.Pv
