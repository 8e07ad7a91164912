/-
  The proof of CertificateSigns, part 5.
-/
import Derived.Test.YtdjihiphpgkfmaaGreatDoorGD
import Derived.Test.YtdjihiphpgkfmaaGreatDoorRows
set_option linter.unusedSimpArgs false
set_option linter.unusedVariables false
namespace Go.Proofs.YtdjihiphpgkfmaaGreatDoor.Pv
section
open Go.IntKind (wrap)
def LY (s:Sg):Int:=if C2 s.path.length=true then 9 else if Hu s.leaf s.path.length=true then 9 else if s.chains.length≠18 then 4 else 0
def Er (c:Ce):Int:=if A3 c=0 then LY c.sig else A3 c
def Hb (c:Ce):List Int:=Be (A8 c)++DN c.sig
def RW (c:Ce):List PV:=if Er c=0 then [.own 1 (Hb c).length (Af .u8 (Hb c)),.sc (.int .i64 0)] else [.own 1 0 [],.sc (.int .i64 (Er c))]
def Ja (c:Ce):Int:=Ml 14 (Be (A8 c))
def Uc (c:Ce)(k:Ky):Int:=if A3 c=0 then NL k (Ja c) c.sig else A3 c
def OU:Ce:=⟨F0,F0,0,⟨0,0⟩,0,0,false,0,0,⟨0,[],[]⟩⟩
def Lz (c:Ce)(seed h leaf:Int):Ce × Int:=
 if A3 c=0 then (match X8 seed h leaf (Ja c) with|some s=>({ c with sig:=s },0)|none=>(OU,9)) else (OU,A3 c)
theorem Iw {c:Ce}(h:A3 c=0):(Be (A8 c)).length<=200:=by
 have k9:(B7 (Io c.key)).size=9:=by rw [Fq];rfl
 have ns:F0.size=0:=rfl;unfold A3 at h
 have hs:c.subj.size<=32∧c.iss.size<=32:=by
  split at h
  ·cases h
  ·split at h
   ·cases h
   ·omega
 have e:Be (A8 c)=Bp ⟨5,9,F0⟩++(Bp ⟨4,0,c.subj⟩++(Bp ⟨4,0,c.iss⟩++(Bp ⟨1,c.serial,F0⟩++(Bp ⟨3,0,B7 (Io c.key)⟩++(Bp ⟨1,c.fr,F0⟩++(Bp ⟨1,c.un,F0⟩++(Bp ⟨7,(if c.auth=true then 1 else 0),F0⟩++(Bp ⟨1,c.path,F0⟩++(Bp ⟨1,c.model,F0⟩++[]))))))))):=rfl
 rw [e];simp only [Lf,Z3];have i1:=Gh ⟨5,9,F0⟩;have i2:=Gh ⟨4,0,c.subj⟩;have i3:=Gh ⟨4,0,c.iss⟩;have i4:=Gh ⟨1,c.serial,F0⟩;have i5:=Gh ⟨3,0,B7 (Io c.key)⟩;have i6:=Gh ⟨1,c.fr,F0⟩;have i7:=Gh ⟨1,c.un,F0⟩;have i8:=Gh ⟨7,(if c.auth=true then 1 else 0),F0⟩
 have i9:=Gh ⟨1,c.path,F0⟩;have i0:=Gh ⟨1,c.model,F0⟩;simp only [ns,k9] at i1 i2 i3 i4 i5 i6 i7 i8 i9 i0;omega
theorem V7 {c:Ce}(hw:c.wf)(h:A3 c=0):J2 (Be (A8 c)):=by
 intro y hy;obtain ⟨x,hx,hy⟩:=List.mem_flatMap.1 hy;have:=(Ya hw h x hx).1;exact Ab4 this.k1 this.k8 this.n0 y hy
theorem DR {seed h leaf m:Int}{s:Sg}(e:X8 seed h leaf m=some s):s.chains.length=18∧s.path.length<=4:=by
 unfold X8 at e;split at e
 ·cases e
 ·rename_i hh;split at e
  ·cases e
  ·cases e;have:=G7 (by simpa using hh)
   simp [Ie];omega
section
variable {fu d:Nat} {c:Ce}
theorem JE (hfu:1000<=fu)(hw:c.wf)(hs1:c.subj.size<=9223372036854775807)(hs2:c.iss.size<=9223372036854775807)(k:Ky):Ae C0 Tryz.prog fu (d+8) Kk [.agg c.cells,.agg k.cells]=some ⟨[.sc (.int .i64 (Uc c k))],[]⟩:=by
 refine (Tw fu (d+7) c.subj c.iss c.serial c.key.h c.key.root c.fr c.un c.auth c.path c.model c.sig.leaf c.sig.chains.length (Af .u64 c.sig.chains) c.sig.path.length (Af .u64 c.sig.path) k.h k.root).trans ?_;have bq:=XS (fu:=fu) (d:=d+2) hfu hw hs1 hs2;simp only [Ce.cells] at bq;unfold Gr at bq;unfold Uc;by_cases h0:A3 c=0
 ·have lb:=Iw h0;rw [B4 h0] at bq;rw [B4 h0];have e00:((0:Int) != 0)=false:=rfl;have hh:=LR (xs:=Jw) (fu:=fu) (d:=d+3) (V7 hw h0) (by omega) (by omega) (by omega) 14
  have vr:=Aa9 (fu:=fu) (d:=d) hfu k (Ja c) c.sig;simp only [Ky.cells,Sg.cells] at vr;have eW:Ml 14 (Be (A8 c))=Ja c:=rfl;rw [eW] at hh;have L1:=Aj .u8 (Be (A8 c));have t1:=Jf .u8 (Be (A8 c));generalize (Be (A8 c)).length=n1 at *
  generalize Af .u8 (Be (A8 c))=c1 at *
  try unfold Aa
  repeat first
   |((with_reducible first|apply Ay|apply Am|apply Az|apply Bi|apply B9|apply Ao);· first|with_reducible rfl|(simp (disch:=omega) only [bq,e00,Cc,C3,Es,L1,t1,hh,vr]<;>with_reducible rfl))
   |((with_reducible first|apply Ax|apply Av);· first|with_reducible rfl|omega|(simp (disch:=omega) only [gT,bq,e00,Cc,C3,Es,L1,t1,hh,vr]<;>omega))
   |(with_reducible apply Aw;· first|with_reducible rfl|(simp (disch:=omega) only [gF,bq,e00,Cc,C3,Es,L1,t1,hh,vr]<;>omega))
  try simp (disch:=omega) only [bq,e00,Cc,C3,Es,L1,t1,hh,vr]
  all_goals rfl
 ·have hne:(A3 c != 0)=true:=by simp [h0]
  rw [A6 h0] at bq;rw [A6 h0]
  try unfold Aa
  repeat first
   |((with_reducible first|apply Ay|apply Am|apply Az|apply Bi|apply B9|apply Ao);· first|with_reducible rfl|(simp (disch:=omega) only [bq,hne]<;>with_reducible rfl))
   |((with_reducible first|apply Ax|apply Av);· first|with_reducible rfl|omega|(simp (disch:=omega) only [gT,bq,hne]<;>omega))
   |(with_reducible apply Aw;· first|with_reducible rfl|(simp (disch:=omega) only [gF,bq,hne]<;>omega))
  try simp (disch:=omega) only [bq,hne]
  all_goals rfl
theorem Afr (hfu:1000<=fu)(hw:c.wf)(hs1:c.subj.size<=9223372036854775807)(hs2:c.iss.size<=9223372036854775807)(seed h leaf:Int):Ae C0 Tryz.prog fu (d+13) Nk [.agg c.cells,.sc (.int .u64 seed),.sc (.int .i64 h),.sc (.int .i64 leaf)]=some ⟨[.agg (Lz c seed h leaf).1.cells,.sc (.int .i64 (Lz c seed h leaf).2)],[]⟩:=by
 refine (Wt fu (d+12) c.subj c.iss c.serial c.key.h c.key.root c.fr c.un c.auth c.path c.model c.sig.leaf c.sig.chains.length (Af .u64 c.sig.chains) c.sig.path.length (Af .u64 c.sig.path) seed h leaf).trans ?_;have bq:=XS (fu:=fu) (d:=d+7) hfu hw hs1 hs2;simp only [Ce.cells] at bq;unfold Gr at bq;unfold Lz;by_cases h0:A3 c=0
 ·have lb:=Iw h0;rw [B4 h0] at bq;rw [B4 h0];have e00:((0:Int) != 0)=false:=rfl;have e90:((9:Int) != 0)=true:=rfl;have hh:=LR (xs:=Jw) (fu:=fu) (d:=d+8) (V7 hw h0) (by omega) (by omega) (by omega) 14
  have sg:=Ahj (fu:=fu) (d:=d) hfu seed h leaf (Ja c);have eW:Ml 14 (Be (A8 c))=Ja c:=rfl;rw [eW] at hh;have L1:=Aj .u8 (Be (A8 c));have t1:=Jf .u8 (Be (A8 c));generalize (Be (A8 c)).length=n1 at *
  generalize Af .u8 (Be (A8 c))=c1 at *
  cases hs:X8 seed h leaf (Ja c) with
  |none=>
   rw [hs] at sg;simp only [SW,Sg.owned,Z3] at sg
   try unfold Aa
   repeat first
    |((with_reducible first|apply Ay|apply Am|apply Az|apply Bi|apply B9|apply Ao);· first|with_reducible rfl|(simp (disch:=omega) only [bq,e00,e90,Cc,C3,Es,L1,t1,hh,sg]<;>with_reducible rfl))
    |((with_reducible first|apply Ax|apply Av);· first|with_reducible rfl|omega|(simp (disch:=omega) only [gT,bq,e00,e90,Cc,C3,Es,L1,t1,hh,sg]<;>omega))
    |(with_reducible apply Aw;· first|with_reducible rfl|(simp (disch:=omega) only [gF,bq,e00,e90,Cc,C3,Es,L1,t1,hh,sg]<;>omega))
   try simp (disch:=omega) only [bq,e00,e90,Cc,C3,Es,L1,t1,hh,sg]
   all_goals rfl
  |some s=>
   rw [hs] at sg;simp only [SW,Sg.owned] at sg;have hl:=DR hs;have La:=Aj .u64 s.chains;have Lb:=Aj .u64 s.path;have ta:=Jf .u64 s.chains;have tb:=Jf .u64 s.path
   try unfold Aa
   repeat first
    |((with_reducible first|apply Ay|apply Am|apply Az|apply Bi|apply B9|apply Ao);· first|with_reducible rfl|(simp (disch:=omega) only [bq,e00,Cc,C3,Es,L1,t1,hh,sg,La,Lb,ta,tb]<;>with_reducible rfl))
    |((with_reducible first|apply Ax|apply Av);· first|with_reducible rfl|omega|(simp (disch:=omega) only [gT,bq,e00,Cc,C3,Es,L1,t1,hh,sg,La,Lb,ta,tb]<;>omega))
    |(with_reducible apply Aw;· first|with_reducible rfl|(simp (disch:=omega) only [gF,bq,e00,Cc,C3,Es,L1,t1,hh,sg,La,Lb,ta,tb]<;>omega))
   try simp (disch:=omega) only [bq,e00,Cc,C3,Es,L1,t1,hh,sg,La,Lb,ta,tb]
   all_goals rfl
 ·have hne:(A3 c != 0)=true:=by simp [h0]
  rw [A6 h0] at bq;rw [A6 h0]
  try unfold Aa
  repeat first
   |((with_reducible first|apply Ay|apply Am|apply Az|apply Bi|apply B9|apply Ao);· first|with_reducible rfl|(simp (disch:=omega) only [bq,hne]<;>with_reducible rfl))
   |((with_reducible first|apply Ax|apply Av);· first|with_reducible rfl|omega|(simp (disch:=omega) only [gT,bq,hne]<;>omega))
   |(with_reducible apply Aw;· first|with_reducible rfl|(simp (disch:=omega) only [gF,bq,hne]<;>omega))
  try simp (disch:=omega) only [bq,hne]
  all_goals rfl
end
end
section
open Go.IntKind (wrap)
structure Gf where
 p:Bool
 left:Int
 last:List Int
def Gf.cells (f:Gf):List PV:=[.sc (.bool f.p),.sc (.int .i64 f.left),.lst false 1 f.last.length (Af .u8 f.last)]
def Ej (l:List Gf):List PV:=l.flatMap Gf.cells
theorem Gf.cells_len (f:Gf):f.cells.length=3:=rfl
theorem Ct (l:List Gf):(Ej l).length=l.length*3:=RG Gf.cells_len l
theorem C7 (l:List Gf):List.take (l.length*3) (Ej l)=Ej l:=Uf (by rw [Ct];omega)
def Qw (l:List Gf):Bool:=match l.getLast? with|some f=>f.p&&(Int.tmod f.left 2==0)|none=>false
def Ij (l:List Gf)(cnt k:Int):Int:=
 if cnt>=512 then 8 else if k<1 then 3 else if k>8 then 3 else if Qw l=true∧k≠1∧k≠2∧k≠4 then 3 else if (l.length:Int)>8 then 5 else 0
abbrev J8 (l:List Gf)(cnt:Int):List PV:=[.own 3 l.length (Ej l),.sc (.int .i64 cnt)]
section
variable {fu d:Nat}
theorem SS (l:List Gf)(cnt:Int):Ae C0 Tryz.prog fu (d+1) Ru [.pbox (J8 l cnt)]=some ⟨[.sc (.bool (decide (cnt>0)&&((l.length:Int)==0)))],[J8 l cnt]⟩:=by
 rw [DX];have L:=Ct l;have t:=C7 l;by_cases h:cnt>0
 ·simp (disch:=omega) only [Br,h,decide_true,Bool.true_and,L,t]
 ·simp (disch:=omega) only [Br,h,decide_false,Bool.false_and,L,t]
theorem KJ {l:List Gf}(hl:l.length<=1000000)(cnt:Int):Ae C0 Tryz.prog fu (d+1) Qa [.pbox (J8 l cnt)]=some ⟨[.sc (.bool (Qw l))],[J8 l cnt]⟩:=by
 rw [BP];have L:=Ct l;have t:=C7 l;unfold Qw;rcases List.eq_nil_or_concat l with rfl|⟨l',f,rfl⟩
 ·have e0:¬(((([]:List Gf).length:Nat):Int)>0):=by simp
  simp (disch:=first|assumption|omega) only [Br,L,t]
  first|done|rfl
 ·have hn:(l'.concat f).length=l'.length+1:=by simp
  have hx:(l'.concat f)[l'.length]?=some f:=by simp
  have gl:(l'.concat f).getLast?=some f:=by simp
  have w:wrap .i64 (((l'.concat f).length:Int)-1)=(l'.length:Int):=by rw [Ak (by omega) (by omega)];omega
  have g0:(Ej (l'.concat f)).getD (l'.length*3) .top=.sc (.bool f.p):=D3 Gf.cells_len hx (j:=0) (by omega)
  have g1:(Ej (l'.concat f)).getD (l'.length*3+1) .top=.sc (.int .i64 f.left):=D3 Gf.cells_len hx (j:=1) (by omega)
  rw [gl];cases hp:f.p
  ·rw [hp] at g0;simp (disch:=omega) only [Br,w,H2,C3,PB,g0,L,t,hp,Bool.false_and]
  ·rw [hp] at g0;simp (disch:=omega) only [Br,w,H2,C3,PB,g0,g1,L,t,hp,Bool.true_and]
theorem VI {l:List Gf}(hl:l.length<=1000000)(cnt k:Int):Ae C0 Tryz.prog fu (d+2) Ql [.pbox (J8 l cnt),.sc (.int .i64 k)]=some ⟨[.sc (.int .i64 (Ij l cnt k))],[J8 l cnt]⟩:=by
 refine (BW fu (d+1) l.length (Ej l) cnt k).trans ?_;have L:=Ct l;have t:=C7 l;have ak:=KJ (fu:=fu) (d:=d) hl cnt;unfold J8 at ak;unfold Ij;by_cases c1:cnt>=512
 ·rw [B4 c1];simp (disch:=omega) only [Br,L,t]
 rw [A6 c1];by_cases c2:k<1
 ·rw [B4 c2];simp (disch:=omega) only [Br,L,t]
 rw [A6 c2];by_cases c3:k>8
 ·rw [B4 c3];simp (disch:=omega) only [Br,L,t]
 rw [A6 c3];cases ha:Qw l
 ·rw [ha] at ak;rw [A6 (by simp)]
  by_cases c5:(l.length:Int)>8
  ·rw [B4 c5];simp (disch:=omega) only [Br,L,t,ak]
  ·rw [A6 c5];simp (disch:=omega) only [Br,L,t,ak]
 ·rw [ha] at ak;by_cases c4:k≠1∧k≠2∧k≠4
  ·rw [B4 ⟨rfl,c4⟩];simp (disch:=omega) only [Br,L,t,ak,Ds];rw [A6 c4.1,A6 c4.2.1,A6 c4.2.2]
  ·rw [A6 (fun h=>c4 h.2)]
   have hk:k=1∨k=2∨k=4:=by omega
   by_cases c5:(l.length:Int)>8
   ·rw [B4 c5];rcases hk with rfl|rfl|rfl<;>simp (disch:=omega) only [Br,L,t,ak,Ds,Int.reduceEq,if_true,if_false]
   ·rw [A6 c5];rcases hk with rfl|rfl|rfl<;>simp (disch:=omega) only [Br,L,t,ak,Ds,Int.reduceEq,if_true,if_false]
end
end
section
open Go.IntKind (wrap)
theorem Mh (l:List Gf):l=[]∨∃l' f,l=l'++[f]:=by
 rcases List.eq_nil_or_concat l with h|⟨a,b,h⟩
 ·exact .inl h
 ·exact .inr ⟨a,b,by simpa using h⟩
def EA (l:List Gf):List Gf:=(l.reverse.dropWhile fun f=>f.left==0).reverse
theorem RA {l:List Gf}{f:Gf}(h:f.left=0):EA (l++[f])=EA l:=by
 unfold EA;rw [List.reverse_append,List.reverse_singleton,List.singleton_append,List.dropWhile_cons_of_pos (by simp [h])]
theorem KI {l:List Gf}{f:Gf}(h:f.left≠0):EA (l++[f])=l++[f]:=by
 unfold EA;rw [List.reverse_append,List.reverse_singleton,List.singleton_append,List.dropWhile_cons_of_neg (by simp [h])]
 simp
def JF (l:List Gf):List Gf:=match l.getLast? with|some f=>l.dropLast++[⟨f.p,wrap .i64 (f.left-1),f.last⟩]|none=>[]
def OZ (l:List Gf)(x:It):List Gf:=
 if x.k=5∧x.n>0 then l++[⟨false,wrap .i64 x.n,[]⟩] else if x.k=6∧x.n>0 then l++[⟨true,wrap .i64 (2*wrap .i64 x.n),[]⟩] else l
def Fg (l:List Gf)(x:It):List Gf:=EA (OZ (JF l) x)
theorem Vo (l:List Gf)(f:Gf):JF (l++[f])=l++[⟨f.p,wrap .i64 (f.left-1),f.last⟩]:=by
 unfold JF;simp
theorem LZ (l:List Gf):(JF l).length=l.length:=by
 rcases Mh l with rfl|⟨l',f,rfl⟩
 ·rfl
 ·rw [Vo];simp
theorem Ri (a b:List Gf):Ej (a++b)=Ej a++Ej b:=by
 unfold Ej;rw [List.flatMap_append]
theorem Rp (f:Gf):Ej [f]=f.cells:=by
 unfold Ej;simp
section
variable {fu d:Nat}
theorem QR {call:Ai}{a0_0n:Nat}{a0_0:List PV}{a0_1 a1_0 a1_1:Int}{a1_2:ByteArray}{c:Int}:∀(n:Nat)(l:List Gf)(r:List PV)(nn:Nat),l.length=n->n<nn->n<=1000000 ->
  A7 fu call a0_0n a0_0 a0_1 a1_0 a1_1 a1_2 nn (l.length:Int) l.length c (Ej l++r)=some ⟨[],[J8 (EA l) c]⟩:=by
 intro n
 induction n with
 |zero=>
  intro l r nn hl hn _;obtain rfl:l=[]:=List.eq_nil_of_length_eq_zero hl;obtain ⟨m,rfl⟩:∃m,nn=m+1:=⟨nn-1,by omega⟩
  have e0:¬(((([]:List Gf).length:Nat):Int)>0):=by simp
  have e1:([]:List Gf).length*3<=(Ej []++r).length:=by simp
  rw [M6];simp (disch:=first|assumption|omega) only [Br];rfl
 |succ n ih=>
  intro l r nn hl hn hm;obtain ⟨m,rfl⟩:∃m,nn=m+1:=⟨nn-1,by omega⟩
  rcases Mh l with rfl|⟨l',f,rfl⟩
  ·simp at hl
  have hn':(l'++[f]).length=l'.length+1:=by simp
  have hx:(l'++[f])[l'.length]?=some f:=by simp
  have w:wrap .i64 (((l'++[f]).length:Int)-1)=(l'.length:Int):=by rw [Ak (by omega) (by omega)];omega
  have L:=Ct (l'++[f]);have L2:(Ej (l'++[f])++r).length=(l'++[f]).length*3+r.length:=by rw [Lf,L]
  have t:List.take ((l'++[f]).length*3) (Ej (l'++[f])++r)=Ej (l'++[f]):=by rw [←L,List.take_left'];rfl
  have g1:(Ej (l'++[f])++r).getD (l'.length*3+1) .top=.sc (.int .i64 f.left):=by
   have:=D3 (f:=Gf.cells) Gf.cells_len hx (j:=1) (by omega)
   rw [List.getD_eq_getElem?_getD,List.getElem?_append_left (by rw [L];omega),←List.getD_eq_getElem?_getD]
   exact this
  rw [M6];by_cases hz:f.left=0
  ·have e:Ej (l'++[f])++r=Ej l'++(f.cells++r):=by rw [Ri,Rp,Zzv]
   have q:=ih l' (f.cells++r) m (by omega) (by omega) (by omega)
   rw [←e] at q;rw [RA hz];have hb:(f.left==(0:Int))=true:=by simp [hz]
   simp (disch:=omega) only [Br,w,H2,C3,Nat.sub_zero,g1,hb,q]
  ·rw [KI hz];have hb:(f.left==(0:Int))=false:=by simp [hz]
   simp (disch:=omega) only [Br,w,H2,C3,g1,hb,L2,t]
theorem Aco {l:List Gf}{x:It}{cnt:Int}(hl:l.length<=100000)(hf:l.length+1<fu)(h0:0<=cnt)(h1:cnt<=1000000):
  Ae C0 Tryz.prog fu (d+1) Q5 [.pbox (J8 l cnt),.agg x.cells]=some ⟨[],[J8 (Fg l x) (cnt+1)]⟩:=by
 obtain ⟨k,v,s⟩:=x;refine (ET fu d l.length (Ej l) cnt k v s).trans ?_;have w1:wrap .i64 (cnt+1)=cnt+1:=Ak (by omega) (by omega)
 unfold Fg OZ;have DL:=LZ l;generalize hD:JF l=l1 at DL ⊢;have L1:(Ej l1).length=l.length*3:=by rw [Ct,DL]
 have t1:List.take (l.length*3) (Ej l1)=Ej l1:=Uf (by omega)
 have p5:∀b u,Ej l1++[.sc (.bool b),.sc (.int .i64 u),.lst false 1 0 []]=Ej (l1++[⟨b,u,[]⟩]):=by
  intro b u;rw [Ri,Rp];rfl
 have lp0:∀call,A7 fu call l.length (Ej l) cnt k v s fu (l.length:Int) l.length (cnt+1) (Ej l1)=some ⟨[],[J8 (EA l1) (cnt+1)]⟩:=by
  intro call;have:=QR (fu:=fu) (call:=call) (a0_0n:=l.length) (a0_0:=Ej l) (a0_1:=cnt) (a1_0:=k) (a1_1:=v) (a1_2:=s) (c:=cnt+1) _ l1 [] fu rfl (by omega) (by omega)
  rw [List.append_nil,DL] at this;exact this
 have lp1:∀call f,A7 fu call l.length (Ej l) cnt k v s fu ((l.length+1:Nat):Int) (l.length+1) (cnt+1) (Ej (l1++[f]))=some ⟨[],[J8 (EA (l1++[f])) (cnt+1)]⟩:=by
  intro call f;have ll:(l1++[f]).length=l.length+1:=by simp [DL]
  have:=QR (fu:=fu) (call:=call) (a0_0n:=l.length) (a0_0:=Ej l) (a0_1:=cnt) (a1_0:=k) (a1_1:=v) (a1_2:=s) (c:=cnt+1) _ (l1++[f]) [] fu rfl (by omega) (by omega)
  rw [List.append_nil,ll] at this;exact this
 rcases Mh l with rfl|⟨l',f,rfl⟩
 ·have e0:¬(((([]:List Gf).length:Nat):Int)>0):=by simp
  obtain rfl:l1=[]:=by rw [←hD];rfl
  by_cases k5:k=5
  ·subst k5;by_cases hv:v>0
   ·rw [B4 ⟨rfl,hv⟩];simp (disch:=first|assumption|omega) only [Br,w1,L1,t1,p5,lp1,Int.reduceBEq]
   ·rw [A6 (fun h=>hv h.2),A6 (fun h=>hv h.2)]
    simp (disch:=first|assumption|omega) only [Br,w1,L1,t1,p5,lp0,Int.reduceBEq]
  ·have b5:(k==(5:Int))=false:=by simp [k5]
   rw [A6 (fun h=>k5 h.1)]
   by_cases k6:k=6
   ·subst k6;by_cases hv:v>0
    ·rw [B4 ⟨rfl,hv⟩];simp (disch:=first|assumption|omega) only [Br,w1,L1,t1,p5,lp1,Int.reduceBEq]
    ·rw [A6 (fun h=>hv h.2)]
     simp (disch:=first|assumption|omega) only [Br,w1,L1,t1,p5,lp0,Int.reduceBEq]
   ·have b6:(k==(6:Int))=false:=by simp [k6]
    rw [A6 (fun h=>k6 h.1)]
    simp (disch:=first|assumption|omega) only [Br,w1,L1,t1,p5,lp0,b5,b6]
 ·have hn':(l'++[f]).length=l'.length+1:=by simp
  have hx:(l'++[f])[l'.length]?=some f:=by simp
  have w:wrap .i64 (((l'++[f]).length:Int)-1)=(l'.length:Int):=by rw [Ak (by omega) (by omega)];omega
  have L:=Ct (l'++[f]);have g1:(Ej (l'++[f])).getD (l'.length*3+1) .top=.sc (.int .i64 f.left):=D3 Gf.cells_len hx (j:=1) (by omega)
  have sp:Bf (Ej (l'++[f])) [.sc (.int .i64 (wrap .i64 (f.left-1)))] (l'.length*3+1)=Ej l1:=by
   rw [Fa (by omega),←hD,Vo,Ri,Ri,Rp,Rp]
   have:=Ct l';rw [List.set_append_right _ _ (by omega)]
   have:l'.length*3+1-(Ej l').length=1:=by omega
   rw [this];rfl
  by_cases k5:k=5
  ·subst k5;by_cases hv:v>0
   ·rw [B4 ⟨rfl,hv⟩];simp (disch:=first|assumption|omega) only [Br,w,w1,H2,C3,g1,sp,L1,t1,p5,lp1,Int.reduceBEq]
   ·rw [A6 (fun h=>hv h.2),A6 (fun h=>hv h.2)]
    simp (disch:=first|assumption|omega) only [Br,w,w1,H2,C3,g1,sp,L1,t1,p5,lp0,Int.reduceBEq]
  ·have b5:(k==(5:Int))=false:=by simp [k5]
   rw [A6 (fun h=>k5 h.1)]
   by_cases k6:k=6
   ·subst k6;by_cases hv:v>0
    ·rw [B4 ⟨rfl,hv⟩];simp (disch:=first|assumption|omega) only [Br,w,w1,H2,C3,g1,sp,L1,t1,p5,lp1,Int.reduceBEq]
    ·rw [A6 (fun h=>hv h.2)]
     simp (disch:=first|assumption|omega) only [Br,w,w1,H2,C3,g1,sp,L1,t1,p5,lp0,Int.reduceBEq]
   ·have b6:(k==(6:Int))=false:=by simp [k6]
    rw [A6 (fun h=>k6 h.1)]
    simp (disch:=first|assumption|omega) only [Br,w,w1,H2,C3,g1,sp,L1,t1,p5,lp0,b5,b6]
end
end
section
open Go.IntKind (wrap)
def SM (s:ByteArray):Bool:=Array.toList (ByteArray.data s)==Array.toList (ByteArray.data (ByteArray.mk #[]))
def F3 (x:It):Bool:=
 if x.k=3 then x.n==0 else if x.k=4 then x.n==0 else if x.k=8 then (x.n==0)&&SM x.s else if x.k=7 then decide (x.n<=1)&&SM x.s else SM x.s
section
variable {fu d:Nat}
theorem Ad8 (x:It):Ae C0 Tryz.prog fu (d+1) Xo [.agg x.cells]=some ⟨[.sc (.bool (F3 x))],[]⟩:=by
 obtain ⟨k,n,s⟩:=x;refine (NJ fu d k n s).trans ?_;unfold F3;show _=some (⟨[.sc (.bool (if k=3 then n==0 else if k=4 then n==0 else if k=8 then (n==0)&&SM s else if k=7 then decide (n<=1)&&SM s else SM s))],[]⟩:At)
 by_cases h3:k=3
 ·subst h3;simp only [Br,Int.reduceBEq,if_true]
 by_cases h4:k=4
 ·subst h4;simp only [Br,Int.reduceBEq,Int.reduceEq,if_true,if_false]
 have b3:(k==(3:Int))=false:=by simp [h3]
 have b4:(k==(4:Int))=false:=by simp [h4]
 by_cases h8:k=8
 ·subst h8;cases hn:n==0<;>simp only [Br,Int.reduceBEq,Int.reduceEq,if_true,if_false,hn,Bool.true_and,Bool.false_and]<;>rfl
 have b8:(k==(8:Int))=false:=by simp [h8]
 by_cases h7:k=7
 ·subst h7;cases hn:decide (n<=1)<;>simp only [Br,Int.reduceBEq,Int.reduceEq,if_true,if_false,hn,Bool.true_and,Bool.false_and]<;>rfl
 have b7:(k==(7:Int))=false:=by simp [h7]
 simp only [Br,b3,b4,b8,b7,A6 h3,A6 h4,A6 h8,A6 h7];rfl
theorem GD {l:List Gf}{x:It}{cnt:Int}(hl:l.length<=1000)(hf:l.length+1<fu)(h0:0<=cnt)(h1:cnt<=1000000)(ha:Qw l=false)
  (hs:x.s.size<=100000)(hv:x.k=4->Lib.validD x.s.data.toList=true):
  Ae C0 Tryz.prog fu (d+2) Iq [.pbox (J8 l cnt),.agg x.cells]=some ⟨[.sc (.int .i64 0)],[J8 (Fg l x) (cnt+1)]⟩:=by
 have st:=Aco (fu:=fu) (d:=d) (l:=l) (x:=x) (cnt:=cnt) (by omega) hf h0 h1
 have ak:=KJ (fu:=fu) (d:=d) (l:=l) (by omega) cnt
 have L:=Ct l;have t:=C7 l;have L2:=Ct (Fg l x);have t2:=C7 (Fg l x);rw [ha] at ak;generalize hE:Fg l x=E at *
 obtain ⟨k,n,s⟩:=x;have va:=Og (fu:=fu) (d:=d) s (Nat.le_trans hs (by omega))
 unfold XE at va;refine (Ir fu (d+1) l.length (Ej l) cnt k n s).trans ?_;unfold J8 It.cells at st;unfold J8 at ak;by_cases k4:k=4
 ·subst k4;rw [hv rfl] at va;simp (disch:=omega) only [Br,Int.reduceBEq,va,C6,L,t,ak,st,L2,t2]
 ·have b4:(k==(4:Int))=false:=by simp [k4]
  simp (disch:=omega) only [Br,b4,L,t,ak,st,L2,t2]
theorem Ahr {l:List Gf}{x:It}{cnt:Int}(hl:l.length<=1000)(hf:l.length+1<fu)(h0:0<=cnt)(h1:cnt<=1000000)(ha:Qw l=false)
  (hs:x.s.size<=1024)(hv:x.k=4->Lib.validD x.s.data.toList=true)(hd:(decide (cnt>0)&&((l.length:Int)==0))=false) (hm:Ij l cnt x.k=0)(hsh:F3 x=true)(hn:x.n<=512∨(x.k≠5∧x.k≠6)):
  Ae C0 Tryz.prog fu (d+3) M1 [.pbox (J8 l cnt),.agg x.cells]=some ⟨[.sc (.int .i64 0)],[J8 (Fg l x) (cnt+1)]⟩:=by
 have ac:=GD (fu:=fu) (d:=d) (l:=l) (x:=x) (cnt:=cnt) hl hf h0 h1 ha (by omega) hv
 have dn:=SS (fu:=fu) (d:=d+1) l cnt;have ad:=VI (fu:=fu) (d:=d) (l:=l) (by omega) cnt x.k
 have sh:=Ad8 (fu:=fu) (d:=d+1) x;rw [hd] at dn;rw [hm] at ad;rw [hsh] at sh;have L:=Ct l;have t:=C7 l;have L2:=Ct (Fg l x);have t2:=C7 (Fg l x);generalize hE:Fg l x=E at *
 obtain ⟨k,n,s⟩:=x;have hs':¬((s.size:Int)>1024):=by have:s.size<=1024:=hs;omega
 refine (Wy fu (d+2) l.length (Ej l) cnt k n s).trans ?_;unfold J8 It.cells at ac;unfold J8 at dn ad;unfold It.cells at sh;by_cases k5:k=5
 ·subst k5;have hn':¬(n>512):=hn.elim (fun h=>Int.not_lt.2 h) (fun h=>absurd rfl h.1)
  simp (disch:=first|assumption|omega) only [Br,Int.reduceBEq,dn,ad,sh,ac,C6,L,t,L2,t2,bne_self_eq_false]
 have b5:(k==(5:Int))=false:=by simp [k5]
 by_cases k6:k=6
 ·subst k6;have hn':¬(n>512):=hn.elim (fun h=>Int.not_lt.2 h) (fun h=>absurd rfl h.2)
  simp (disch:=first|assumption|omega) only [Br,Int.reduceBEq,dn,ad,sh,ac,C6,L,t,L2,t2,bne_self_eq_false]
 have b6:(k==(6:Int))=false:=by simp [k6]
 simp (disch:=first|assumption|omega) only [Br,b5,b6,dn,ad,sh,ac,C6,L,t,L2,t2,bne_self_eq_false]
end
end
section
open Go.IntKind (wrap)
theorem R1 (l:List It):(Cd l).length=l.length*3:=RG It.cells_len l
structure Aml (l:List Gf) (cnt:Int) (x:It):Prop where
 hl:l.length<=100
 h0:0<=cnt
 h1:cnt<=1000
 ha:Qw l=false
 hs:x.s.size<=1024
 hv:x.k=4->Lib.validD x.s.data.toList=true
 hd:(decide (cnt>0)&&((l.length:Int)==0))=false
 hm:Ij l cnt x.k=0
 hsh:F3 x=true
 hn:x.n<=512∨(x.k≠5∧x.k≠6)
def Om:List Gf->Int->List It->Prop
 |l,cnt,[]=>l=[]∧cnt>0
 |l,cnt,x::r=>Aml l cnt x∧Om (Fg l x) (cnt+1) r
section
variable {fu d:Nat}
theorem MW (hfu:200<=fu){l:List It}(hl:l.length<=100000){a0n:Nat}{a0:List PV}:∀(r:List It)(i:Nat)(fs:List Gf)(cnt:Int)(nn:Nat),l.drop i=r->i+r.length=l.length->r.length<nn->Om fs cnt r ->
  Hw fu (Ae C0 Tryz.prog fu (d+3)) a0n a0 nn l.length (Cd l) (l.length:Int) (i:Int) fs.length cnt (Ej fs)=some ⟨[.sc (.int .i64 0)],[]⟩:=by
 intro r
 induction r with
 |nil=>
  intro i fs cnt nn hd hi hn hg;obtain ⟨rfl,hc⟩:=hg;obtain ⟨m,rfl⟩:∃m,nn=m+1:=⟨nn-1,by omega⟩
  rw [Z3,PB] at hi;rw [O4];have dn:=SS (fu:=fu) (d:=d+2) [] cnt;have e:(decide (cnt>0)&&(((([]:List Gf).length:Nat):Int)==0))=true:=by simp [hc]
  rw [e] at dn;unfold J8 at dn;have L:=Ct [];have t:=C7 [];have c:¬((i:Int)<(l.length:Int)):=by omega
  simp (disch:=first|assumption|omega) only [Br,L,t,dn,C6]
 |cons x r ih=>
  intro i fs cnt nn hd hi hn hg;obtain ⟨g,hg⟩:=hg;obtain ⟨m,rfl⟩:∃m,nn=m+1:=⟨nn-1,by omega⟩
  rw [J4] at hi hn
  have hx:l[i]?=some x:=by
   have:=congrArg (fun q=>q[0]?) hd
   simpa using this
  have hd':l.drop (i+1)=r:=by
   have:=congrArg (List.drop 1) hd;rw [List.drop_drop] at this
   simpa using this
  have q:=ih (i+1) (Fg fs x) (cnt+1) m hd' (by omega) (by omega) hg
  have ck:=Ahr (fu:=fu) (d:=d) (l:=fs) (x:=x) (cnt:=cnt) (by have:=g.hl;omega) (by have:=g.hl;omega) g.h0 (by have:=g.h1;omega) g.ha g.hs g.hv g.hd g.hm g.hsh g.hn
  generalize Fg fs x=E at *
  have g0:(Cd l).getD (i*3) .top=.sc (.int .i64 x.k):=D3 It.cells_len hx (j:=0) (by omega)
  have g1:(Cd l).getD (i*3+1) .top=.sc (.int .u64 x.n):=D3 It.cells_len hx (j:=1) (by omega)
  have g2:(Cd l).getD (i*3+1+1) .top=.sc (.string x.s):=D3 It.cells_len hx (j:=2) (by omega)
  have L:=Ct fs;have t:=C7 fs;have w:wrap .i64 ((i:Int)+1)=((i+1:Nat):Int):=by rw [Ak (by omega) (by omega)];omega
  rw [O4];unfold J8 It.cells at ck;simp (disch:=first|assumption|omega) only [Br,H2,g0,g1,g2,L,t,ck,bne_self_eq_false,w,q]
theorem Qy (hfu:200<=fu){l:List It}(hl:l.length<=100000)(hf:l.length<fu)(hg:Om [] 0 l):Ae C0 Tryz.prog fu (d+4) To [.lst false 3 l.length (Cd l)]=some ⟨[.sc (.int .i64 0)],[]⟩:=by
 rw [GT];exact MW hfu hl l 0 [] 0 fu rfl (by omega) hf hg
end
end
section
open Go.IntKind (wrap)
section
variable {fu d:Nat}
theorem XH (hfu:1000<=fu){l:List It}(hl:l.length<=100000){a0n:Nat}{a0:List PV}:∀(r:List It)(i:Nat)(o:List Int)(nn:Nat),l.drop i=r->i+r.length=l.length->r.length<nn->(∀x∈r,x.ok)->(o++Be r).length<=300000 ->
  Jk fu (Ae C0 Tryz.prog fu (d+2)) a0n a0 nn o.length l.length (Cd l) (l.length:Int) (i:Int) (Af .u8 o)=some ⟨[.own 1 (o++Be r).length (Af .u8 (o++Be r)),.sc (.int .i64 0)],[]⟩:=by
 intro r
 induction r with
 |nil=>
  intro i o nn hd hi hn hg hb;obtain ⟨m,rfl⟩:∃m,nn=m+1:=⟨nn-1,by omega⟩
  rw [Z3,PB] at hi;have e:o++Be []=o:=by simp [Be]
  rw [e,Rg];have L:(Af .u8 o).length=o.length:=Aj _ _;have t:List.take o.length (Af .u8 o)=Af .u8 o:=Uf (by omega)
  have c:¬((i:Int)<(l.length:Int)):=by omega
  simp (disch:=first|assumption|omega) only [Br,Cc,L,t]
 |cons x r ih=>
  intro i o nn hd hi hn hg hb;obtain ⟨m,rfl⟩:∃m,nn=m+1:=⟨nn-1,by omega⟩
  rw [J4] at hi hn
  have hx:l[i]?=some x:=by
   have:=congrArg (fun q=>q[0]?) hd
   simpa using this
  have hd':l.drop (i+1)=r:=by
   have:=congrArg (List.drop 1) hd;rw [List.drop_drop] at this
   simpa using this
  have e:o++Be (x::r)=(o++Bp x)++Be r:=by simp [Be]
  rw [e] at hb ⊢
  have ho:o.length<=300000:=by
   rw [Lf,Lf] at hb;omega
  have q:=ih (i+1) (o++Bp x) m hd' (by omega) (by omega) (fun y hy=>hg y (List.mem_cons_of_mem _ hy)) hb
  have it:=Acc (fu:=fu) (d:=d) hfu (l:=o) ho (x:=x) (hg x (by simp))
  have g0:(Cd l).getD (i*3) .top=.sc (.int .i64 x.k):=D3 It.cells_len hx (j:=0) (by omega)
  have g1:(Cd l).getD (i*3+1) .top=.sc (.int .u64 x.n):=D3 It.cells_len hx (j:=1) (by omega)
  have g2:(Cd l).getD (i*3+1+1) .top=.sc (.string x.s):=D3 It.cells_len hx (j:=2) (by omega)
  have L:(Af .u8 o).length=o.length:=Aj _ _;have t:List.take o.length (Af .u8 o)=Af .u8 o:=Uf (by omega)
  have w:wrap .i64 ((i:Int)+1)=((i+1:Nat):Int):=by rw [Ak (by omega) (by omega)];omega
  rw [Rg];unfold It.cells at it;simp (disch:=first|assumption|omega) only [Br,H2,Cc,g0,g1,g2,L,t,it,w,q]
theorem WY (hfu:1000<=fu){l:List It}(hl:l.length<=100000)(hf:l.length<fu)(hg:Om [] 0 l) (hk:∀x∈l,x.ok)(hb:(Be l).length<=300000):
  Ae C0 Tryz.prog fu (d+5) Qr [.lst false 3 l.length (Cd l)]=some ⟨[.own 1 (Be l).length (Af .u8 (Be l)),.sc (.int .i64 0)],[]⟩:=by
 rw [NQ];have v:=Qy (fu:=fu) (d:=d) (by omega) hl hf hg
 have q:=XH (fu:=fu) (d:=d+2) hfu hl (a0n:=l.length) (a0:=Cd l) l 0 [] fu rfl (by omega) hf hk (by simpa using hb)
 rw [Zzq] at q;simp only [Br,v,bne_self_eq_false];exact q
end
end
section
open Go.IntKind (wrap)
section
variable {fu d:Nat}
theorem RD (hfu:200<=fu){l:List It}(hl:l.length<=100000)(hf:l.length<fu)(hg:Om [] 0 l):
  Ae C0 Tryz.prog fu (d+5) Vl [.own 3 l.length (Cd l)]=some ⟨[.own 3 l.length (Cd l),.sc (.int .i64 0)],[]⟩:=by
 rw [LJ];have v:=Qy (fu:=fu) (d:=d) hfu hl hf hg;have L:=R1 l;have t:List.take (l.length*3) (Cd l)=Cd l:=Uf (by omega)
 simp (disch:=omega) only [Br,L,t,Es,v,bne_self_eq_false]
end
end
section
open Go.IntKind (wrap)
structure XF (x:It):Prop where
 kd:x.k=1∨x.k=2∨x.k=3∨x.k=4∨x.k=7∨x.k=8
 hs:x.s.size<=1024
 hv:x.k=4->Lib.validD x.s.data.toList=true
 hsh:F3 x=true
 n0:0<=x.n
theorem XF.ok {x:It}(h:XF x):x.ok:=by
 have:=h.kd;have:=h.hs;exact ⟨by omega,by omega,h.n0,by omega⟩
theorem XF.push {x:It}(h:XF x)(l:List Gf):OZ l x=l:=by
 unfold OZ;have:=h.kd;rw [A6 (by omega),A6 (by omega)]
theorem Ad3 {x:It}(h:XF x):Om [] 0 [x]:=by
 have hk:=h.kd;refine ⟨⟨by simp,by omega,by omega,rfl,h.hs,h.hv,rfl,?_,h.hsh,.inr (by omega)⟩,?_,?_⟩
 ·unfold Ij;rw [A6 (by omega),A6 (by omega),A6 (by omega),A6 (by intro q;exact absurd q.1 (by decide)),A6 (by simp)]
 ·unfold Fg;rw [h.push];rfl
 ·omega
theorem JA:∀(r:List It)(cnt:Int),r≠[]->(∀x∈r,XF x)->0<cnt->cnt+r.length<=500->Om [⟨false,r.length,[]⟩] cnt r
 |[],_,h,_,_,_=>absurd rfl h
 |x::r,cnt,_,hf,hc,hl=>by
  have h:=hf x (by simp)
  have hk:=h.kd;simp only [J4] at hl;refine ⟨⟨by simp,by omega,by omega,rfl,h.hs,h.hv,by simp,?_,h.hsh,.inr (by omega)⟩,?_⟩
  ·unfold Ij;rw [A6 (by omega),A6 (by omega),A6 (by omega),A6 (by intro q;exact absurd q.1 (by simp [Qw])),A6 (by simp)]
  ·have w:wrap .i64 (((x::r).length:Int)-1)=(r.length:Int):=by
    rw [Ak (by simp only [J4];omega) (by simp only [J4];omega)]
    simp only [J4];omega
   have e:Fg [⟨false,((x::r).length:Nat),[]⟩] x=EA [⟨false,(r.length:Nat),[]⟩]:=by
    unfold Fg;rw [h.push];have:=Vo [] ⟨false,((x::r).length:Nat),[]⟩;rw [Zzq,Zzq] at this;rw [this];simp only [w]
   rw [e];by_cases hr:r=[]
   ·subst hr;have:=RA (l:=[]) (f:=⟨false,(([]:List It).length:Nat),[]⟩) rfl;rw [Zzq] at this;rw [this];exact ⟨rfl,by omega⟩
   ·have:=KI (l:=[]) (f:=⟨false,(r.length:Nat),[]⟩) (by simp only;have:=List.length_pos_iff.2 hr;omega)
    rw [Zzq] at this;rw [this];exact JA r (cnt+1) hr (fun y hy=>hf y (List.mem_cons_of_mem _ hy)) (by omega) (by omega)
theorem Adv {r:List It}(hr:r≠[]) (hl:r.length<=400)(hf:∀x∈r,XF x):Om [] 0 (⟨5,r.length,⟨#[]⟩⟩::r):=by
 have hp:=List.length_pos_iff.2 hr;refine ⟨⟨by simp,by omega,by omega,rfl,Nat.zero_le _,(by intro h;cases h),rfl,?_,(by rfl),.inl (by simp only;omega)⟩,?_⟩
 ·unfold Ij;rw [A6 (by omega),A6 (by simp),A6 (by simp),A6 (by intro q;exact absurd q.1 (by decide)),A6 (by simp)]
 ·have w:wrap .i64 (r.length:Int)=(r.length:Int):=Ak (by omega) (by omega)
  have e:Fg [] ⟨5,(r.length:Nat),⟨#[]⟩⟩=EA [⟨false,(r.length:Nat),[]⟩]:=by
   unfold Fg OZ;rw [B4 ⟨rfl,by simp only;omega⟩]
   simp only [w];rfl
  have:=KI (l:=[]) (f:=⟨false,(r.length:Nat),[]⟩) (by simp only;omega)
  rw [Zzq] at this;rw [e,this];exact JA r _ hr hf (by omega) (by omega)
end
section
open Go.IntKind (wrap)
def Ama (v:List It):List PV:=[.lst false 3 v.length (Cd v)]
theorem Ad1 (v:List It):(Ama v).length=1:=rfl
def Adu (l:List (List It)):List PV:=l.flatMap Ama
theorem atv {l:List (List It)} {i:Nat}{v:List It}(h:l[i]?=some v):(Adu l).getD (i*1) .top=.lst false 3 v.length (Cd v):=by
 exact D3 Ad1 h (j:=0) (by omega)
section
variable {fu d:Nat}
theorem GK (hfu:1000<=fu){a0n:Nat}{a0:List PV}{vs:List (List It)} (hl:vs.length<=100000):∀(r:List (List It)) (i nn:Nat),vs.drop i=r->r.length<nn->(∀v∈r,Om [] 0 v∧v.length<1000)->i<=vs.length ->
  Jr fu (Ae C0 Tryz.prog fu (d+4)) a0n a0 nn vs.length (Adu vs) (vs.length:Int) (i:Int)=some ⟨[.sc (.int .i64 0)],[]⟩
 |_,_,0,_,h,_,_=>by omega
 |[],i,nn+1,h,hn,hg,hi=>by
  have:=drop_nil h;rw [R8,Da _ _ _ (by omega)]
 |v::r,i,nn+1,h,hn,hg,hi=>by
  obtain ⟨h1,h2,h3⟩:=Ck h;simp only [J4] at hn;have w:wrap .i64 ((i:Int)+1)=((i+1:Nat):Int):=by rw [Ak (by omega) (by omega)];omega
  have ih:=GK hfu (a0n:=a0n) (a0:=a0) hl r (i+1) nn h3 (by omega) (fun v hv=>hg v (List.mem_cons_of_mem _ hv)) (by omega)
  obtain ⟨g,gl⟩:=hg v (by simp)
  have vg:=Qy (fu:=fu) (d:=d) (by omega) (by omega) (by omega) g
  have g0:=atv h2;rw [R8];simp (disch:=omega) only [Br,H2,g0,vg,bne_self_eq_false,w,ih]
theorem UN (hfu:1000<=fu){vs:List (List It)} (hl:vs.length<1000)(hg:∀v∈vs,Om [] 0 v∧v.length<1000):
  Ae C0 Tryz.prog fu (d+5) Xp [.lst false 1 vs.length (Adu vs)]=some ⟨[.sc (.int .i64 0)],[]⟩:=by
 rw [NY];exact GK hfu (by omega) vs 0 fu rfl (by omega) hg (by omega)
theorem VM (a b:List It):Cd (a++b)=Cd a++Cd b:=by
 unfold Cd;rw [List.flatMap_append]
theorem JB (hfu:1000<=fu){a0n:Nat}{a0:List PV}{vs:List (List It)} (hl:vs.length<=100000):∀(r:List (List It)) (i nn:Nat)(o:List It),vs.drop i=r->r.length<nn->Om [] 0 (o++r.flatten)->(o++r.flatten).length<=500->i<=vs.length ->
  Ll fu (Ae C0 Tryz.prog fu (d+5)) a0n a0 nn o.length vs.length (Adu vs) (vs.length:Int) (i:Int) (Cd o)=some ⟨[.own 3 (o++r.flatten).length (Cd (o++r.flatten)),.sc (.int .i64 0)],[]⟩
 |_,_,0,_,_,h,_,_,_=>by omega
 |[],i,nn+1,o,h,hn,hg,hb,hi=>by
  have:=drop_nil h;have e:o++([]:List (List It)).flatten=o:=by simp
  rw [e] at hg hb ⊢;have L:=R1 o;have t:List.take (o.length*3) (Cd o)=Cd o:=Uf (by omega)
  have ck:=RD (fu:=fu) (d:=d) (by omega) (by omega) (by omega) hg
  rw [Tf,Da _ _ _ (by omega)]
  simp (disch:=omega) only [Br,L,t,ck]
 |v::r,i,nn+1,o,h,hn,hg,hb,hi=>by
  obtain ⟨h1,h2,h3⟩:=Ck h;simp only [J4] at hn;have w:wrap .i64 ((i:Int)+1)=((i+1:Nat):Int):=by rw [Ak (by omega) (by omega)];omega
  have e:o++(v::r).flatten=(o++v)++r.flatten:=by simp
  rw [e] at hg hb ⊢
  have hb':o.length+v.length<=500:=by
   rw [Lf,Lf] at hb;omega
  have ih:=JB hfu (a0n:=a0n) (a0:=a0) hl r (i+1) nn (o++v) h3 (by omega) hg hb (by omega)
  have g0:=atv h2;have L:=R1 o;have Lv:=R1 v;have t:List.take (o.length*3) (Cd o)=Cd o:=Uf (by omega)
  rw [Lf,VM] at ih;rw [Tf];simp (disch:=omega) only [Br,H2,g0,L,Lv,t,w,ih]
theorem ZN (hfu:1000<=fu){vs:List (List It)} (hg:∀v∈vs,Om [] 0 v∧v.length<1000) (hl:vs.length<=400)(ha:Om [] 0 (⟨5,vs.length,⟨#[]⟩⟩::vs.flatten)) (hb:vs.flatten.length<=400):
  Ae C0 Tryz.prog fu (d+6) S7 [.lst false 1 vs.length (Adu vs)]=some ⟨[.own 3 (vs.flatten.length+1) (Cd (⟨5,vs.length,⟨#[]⟩⟩::vs.flatten)),.sc (.int .i64 0)],[]⟩:=by
 rw [SC];have f:=UN (fu:=fu) (d:=d) hfu (by omega) hg
 have w:wrap .u64 (vs.length:Int)=vs.length:=Ci (by omega) (by omega)
 have q:=JB (fu:=fu) (d:=d) hfu (a0n:=vs.length) (a0:=Adu vs) (by omega) vs 0 fu [⟨5,vs.length,⟨#[]⟩⟩] rfl (by omega) ha (by rw [Lf,List.length_singleton];omega) (by omega)
 simp only [Br,f,bne_self_eq_false,w];exact q
end
end
section
open Go.IntKind (wrap)
def Aqy (a b:List Int):Int:=Lib.compareBytes (a.map fun n=>n.toNat.toUInt8) (b.map fun n=>n.toNat.toUInt8)
def Rl (a b:List Int):Bool:=if a.length=b.length then decide (Aqy a b<0) else decide (a.length<b.length)
def Ip (l:List Gf)(key:List Int):List Gf:=match l.getLast? with|some f=>l.dropLast++[⟨f.p,f.left,key⟩]|none=>l
theorem Mn (l:List Gf)(f:Gf)(key:List Int):Ip (l++[f]) key=l++[⟨f.p,f.left,key⟩]:=by
 unfold Ip;simp
def HR (l:List Gf):List Int:=match l.getLast? with|some f=>f.last|none=>[]
theorem RJ (l:List Gf)(f:Gf):HR (l++[f])=f.last:=by
 unfold HR;simp
def Dt (l:List Gf)(x:It):Int × List Gf:=
 if x.k=4∧XE x.s=false then (6,l)
 else if Qw l=true then (if HR l≠[]∧Rl (HR l) (Bp x)=false then (7,l) else (0,Fg (Ip l (Bp x)) x))
 else (0,Fg l x)
theorem Aee (x:It):1<=(Bp x).length:=by
 unfold Bp;have h2:=Gy 2 x.s.size;have h3:=Gy 3 x.s.size;have h4:=Gy (x.k-1) x.n
 repeat' split
 all_goals try simp only [Lf,J4,Z3]
 all_goals omega
section
variable {fu d:Nat}
theorem ZG (a b:List Int):Ae C0 Tryz.prog fu (d+1) 133 [.lst false 1 a.length (Af .u8 a),.lst false 1 b.length (Af .u8 b)]=some ⟨[.sc (.int .i64 (Aqy a b))],[]⟩:=by
 have h:Ae C0 Tryz.prog fu (d+1) 133 [.lst false 1 a.length (Af .u8 a),.lst false 1 b.length (Af .u8 b)]=Vj [.lst false 1 a.length (Af .u8 a),.lst false 1 b.length (Af .u8 b)]:=by kernel_rfl
 rw [h];unfold Vj;simp only [Aj,Nat.beq_refl,Bool.and_self,cond_true,Gp];rfl
theorem ZQ (a b:List Int):Ae C0 Tryz.prog fu (d+2) Us [.lst false 1 a.length (Af .u8 a),.lst false 1 b.length (Af .u8 b)]=some ⟨[.sc (.bool (Rl a b))],[]⟩:=by
 refine (KS fu (d+1) _ _ _ _).trans ?_;have c:=ZG (fu:=fu) (d:=d) a b;unfold Rl;by_cases h:a.length=b.length
 ·have b0:((a.length:Int) != (b.length:Int))=false:=by simp [h]
  rw [B4 h];simp only [Br,b0,c]
 ·have b0:((a.length:Int) != (b.length:Int))=true:=by simp;omega
  rw [A6 h];simp only [Br,b0];simp
theorem OY {l:List Gf}{x:It}{cnt:Int}(hfu:1000<=fu)(hl:l.length<=900)(h0:0<=cnt)(h1:cnt<=1000000)(hx:x.ok)(hs:x.s.size<=100000):
  Ae C0 Tryz.prog fu (d+3) Iq [.pbox (J8 l cnt),.agg x.cells]=some ⟨[.sc (.int .i64 (Dt l x).1)],[J8 (Dt l x).2 (if (Dt l x).1=0 then cnt+1 else cnt)]⟩:=by
 cases ha:Qw l with
 |false=>
  cases hv:(x.k==4) && !XE x.s with
  |false=>
   have e:Dt l x=(0,Fg l x):=by
    unfold Dt;rw [A6,A6 (by simp [ha])]
    intro hh;simp [hh.1,hh.2] at hv
   have:=GD (fu:=fu) (d:=d+1) (l:=l) (x:=x) (cnt:=cnt) (by omega) (by omega) h0 h1 ha hs (by
    intro hk;simp [hk] at hv;exact hv)
   rw [e,this];rfl
  |true=>
   simp at hv
   have e:Dt l x=(6,l):=by
    unfold Dt;rw [B4 hv]
   rw [e];obtain ⟨k,n,s⟩:=x;have va:=Og (fu:=fu) (d:=d+1) s (Nat.le_trans hs (by omega))
   simp only at hv;obtain ⟨rfl,hv⟩:=hv;rw [hv] at va;have L:=Ct l;have t:=C7 l;refine (Ir fu (d+2) l.length (Ej l) cnt 4 n s).trans ?_;simp (disch:=omega) only [Br,Int.reduceBEq,va,L,t];rfl
 |true=>
  rcases Mh l with rfl|⟨l',f,rfl⟩
  ·exact absurd ha (by decide)
  have it:=Acc (fu:=fu) (d:=d) hfu (l:=[]) (by simp) hx
  rw [Zzq] at it;have hp:=Aee x;have sm:=ZQ (fu:=fu) (d:=d) f.last (Bp x);have ak:=KJ (fu:=fu) (d:=d+1) (l:=l'++[f]) (by omega) cnt
  rw [ha] at ak;have st:=Aco (fu:=fu) (d:=d+1) (l:=Ip (l'++[f]) (Bp x)) (x:=x) (cnt:=cnt) (by rw [Mn];simp at hl ⊢;omega) (by rw [Mn];simp at hl ⊢;omega) h0 h1
  have E:Dt (l'++[f]) x=(if x.k=4∧XE x.s=false then (6,l'++[f]) else if f.last≠[]∧Rl f.last (Bp x)=false then (7,l'++[f]) else (0,Fg (Ip (l'++[f]) (Bp x)) x)):=by
   unfold Dt;rw [ha,RJ];simp only [if_true]
  have hn':(l'++[f]).length=l'.length+1:=by simp
  have hx':(l'++[f])[l'.length]?=some f:=by simp
  have w:wrap .i64 (((l'++[f]).length:Int)-1)=(l'.length:Int):=by rw [Ak (by omega) (by omega)];omega
  have L:=Ct (l'++[f]);have t:=C7 (l'++[f]);have g2:(Ej (l'++[f])).getD (l'.length*3+2) .top=.lst false 1 f.last.length (Af .u8 f.last):=D3 Gf.cells_len hx' (j:=2) (by omega)
  have sp:Bf (Ej (l'++[f])) [.lst false 1 (Bp x).length (Af .u8 (Bp x))] (l'.length*3+2)=Ej (Ip (l'++[f]) (Bp x)):=by
   rw [Fa (by omega),Mn,Ri,Ri,Rp,Rp]
   have:=Ct l';rw [List.set_append_right _ _ (by omega)]
   have:l'.length*3+2-(Ej l').length=2:=by omega
   rw [this];rfl
  have LK:=Ct (Ip (l'++[f]) (Bp x));have tK:=C7 (Ip (l'++[f]) (Bp x));have nK:(Ip (l'++[f]) (Bp x)).length=(l'++[f]).length:=by rw [Mn];simp
  rw [nK] at LK tK;have L2:=Ct (Fg (Ip (l'++[f]) (Bp x)) x);have t2:=C7 (Fg (Ip (l'++[f]) (Bp x)) x);have Lk:=Aj .u8 (Bp x);have tk:=Jf .u8 (Bp x);unfold J8 at st ak ⊢;rw [nK] at st;rw [E];generalize Fg (Ip (l'++[f]) (Bp x)) x=S at *
  generalize Ej (Ip (l'++[f]) (Bp x))=K at *
  have hsm:f.last.length=0->Rl f.last (Bp x)=true:=by
   intro hz;unfold Rl;rw [A6 (by omega)]
   simp;omega
  have hnil:f.last≠[]↔0<f.last.length:=by rw [List.length_pos_iff]
  generalize hKe:Bp x=key at *
  obtain ⟨k,n,s⟩:=x;have va:=Og (fu:=fu) (d:=d+1) s (Nat.le_trans hs (by omega))
  unfold XE at va ⊢;unfold It.cells at st it ⊢;simp only at st it hs ⊢;refine (Ir fu (d+2) (l'++[f]).length (Ej (l'++[f])) cnt k n s).trans ?_;simp only [Z3] at it;have it0:Af .u8 []=[]:=rfl;rw [it0] at it
  try unfold Aa
  repeat' first
   |((with_reducible first|apply Ay|apply Am|apply Az|apply A5|apply Bi|apply Cu|apply Ao);· first|with_reducible rfl|(simp (disch:=first|with_reducible assumption|omega) only [va,L,t,ak,w,H2,C3,PB,it,g2,Cc,Es,Lk,tk,sm,sp,LK,tK,st,L2,t2]<;>with_reducible rfl))
   |((with_reducible first|apply Ax|apply Av);· first|with_reducible rfl|with_reducible assumption|omega|(simp (disch:=first|with_reducible assumption|omega) only [gT,va,L,t,ak,w,H2,C3,PB,it,g2,Cc,Es,Lk,tk,sm,sp,LK,tK,st,L2,t2]<;>omega))
   |(with_reducible apply Aw;· first|with_reducible rfl|with_reducible assumption|(simp (disch:=first|with_reducible assumption|omega) only [gF,va,L,t,ak,w,H2,C3,PB,it,g2,Cc,Es,Lk,tk,sm,sp,LK,tK,st,L2,t2]<;>omega))
   |(with_reducible refine Ai5 ?_ ?_<;>intro hb<;>try simp only [decide_eq_true_eq,decide_eq_false_iff_not,beq_iff_eq,beq_eq_false_iff_ne,bne_iff_ne,bne_eq_false_iff_eq,ne_eq,Bool.not_eq_true',Bool.not_eq_false',Bool.not_eq_true,Bool.not_eq_false] at hb)
   |(with_reducible refine RN ?_ ?_)
  all_goals try simp (disch:=first|with_reducible assumption|omega) only [va,L,t,ak,w,H2,C3,PB,it,g2,Cc,Es,Lk,tk,sm,sp,LK,tK,st,L2,t2]
  all_goals clear st it ak va sm L t g2 sp LK tK L2 t2 Lk tk it0 E ha hKe
  all_goals repeat' split
  all_goals first
   |rfl
   |(exfalso;simp_all;done)
   |(exfalso;simp_all;omega)
end
end
section
open Go.IntKind (wrap)
set_option maxRecDepth 100000
abbrev O5:FuncId:=113
noncomputable def F6 (fu:Nat)(call:Ai)(a0_0n:Nat)(a0_0:List PV)(a0_1:Int)(E1:Nat)(a0_2:List PV)(a0_3:Int)(nn:Nat)(y0 y1 y2:Int)(y3:Nat)(y4:List PV)(y5 y6:Int)(y7:Nat)(y8:Int)(y9:Nat)(y10:List PV)(Jz:Int)(Nz:List PV):Option At:=C1 CB Tryz.prog fu call 113 Tryz.f113 (Bw Tryz.f113) [.pbox [.own 3 a0_0n a0_0,.sc (.int .i64 a0_1),.lst false 1 E1 a0_2,.sc (.int .i64 a0_3)]] [.r,.r,.r,.r,.r,.r,.r,.r,.r,.r,.r,.l,.r,.l] nn ⟨lk [(0,(.ptr 240000 0)),(2,(.sc (.int .i64 y0))),(3,(.sc (.int .u64 y1))),(8,(.sc (.int .i64 y2))),(94,(.lst false 1 y3 y4)),(95,(.sc (.int .i64 y5))),(96,(.sc (.int .i64 y6)))],B3 [(240000,(.st [(.view 240120 3 0 y7),(.sc (.int .i64 y8)),(.lst false 1 y9 y10),(.sc (.int .i64 Jz))])),(240120,(.ar false Nz))]⟩
theorem Kb (fu:Nat)(call:Ai)(a0_0n:Nat)(a0_0:List PV)(a0_1:Int)(E1:Nat)(a0_2:List PV)(a0_3:Int)(nn:Nat)(y0 y1 y2:Int)(y3:Nat)(y4:List PV)(y5 y6:Int)(y7:Nat)(y8:Int)(y9:Nat)(y10:List PV)(Jz:Int)(Nz:List PV):F6 fu call a0_0n a0_0 a0_1 E1 a0_2 a0_3 (nn+1) y0 y1 y2 y3 y4 y5 y6 y7 y8 y9 y10 Jz Nz=(Bb (decide (y6<y5)) (Ap (decide (0<=y6)&&decide (y6<(↑y3:Int)))<|Ad .u8 (List.getD y4 (Int.toNat y6*1) .top) fun E5=>Aa (Gl .u64 y1 8) fun E2=>Aa (wrap .u64 E5) fun Fl=>Aa (QK .u64 E2 Fl) fun He=>Aa (wrap .i64 (y6+1)) fun Gn=>F6 fu call a0_0n a0_0 a0_1 E1 a0_2 a0_3 (nn) (y0) He (y2) (y3) (y4) (y5) Gn (y7) (y8) (y9) (y10) (Jz) (Nz)) (Aa (wrap .i64 (Jz+y2)) fun Hf=>Ag (call 127 [.sc (.int .u64 y1)]) fun Dv Df=>Ac Df<|Ab Dv fun Fw Hs=>Ad .i64 Fw fun Ev=>Ac Hs<|Bb (decide (Ev<y2)) (Ap (decide (y7*3<=Nz.length))<|some (At.mk [.sc (.int .i64 0),.sc (.int .u64 0),.sc (.int .i64 2)] [[.own 3 y7 (List.take (y7*3) Nz),.sc (.int .i64 y8),.lst false 1 y9 y10,.sc (.int .i64 Hf)]])) (Ap (decide (y7*3<=Nz.length))<|some (At.mk [.sc (.int .i64 y0),.sc (.int .u64 y1),.sc (.int .i64 0)] [[.own 3 y7 (List.take (y7*3) Nz),.sc (.int .i64 y8),.lst false 1 y9 y10,.sc (.int .i64 Hf)]])))):=by kernel_rfl
theorem Yb (fu d a0_0n:Nat)(a0_0:List PV)(a0_1:Int)(E1:Nat)(a0_2:List PV)(a0_3:Int):Ae C0 Tryz.prog fu (d+1) O5 [.pbox [.own 3 a0_0n a0_0,.sc (.int .i64 a0_1),.lst false 1 E1 a0_2,.sc (.int .i64 a0_3)]]=(fun (call:Ai)=>Bb (decide (a0_3>=(↑E1:Int))) (Ap (decide (a0_0n*3<=a0_0.length))<|some (At.mk [.sc (.int .i64 0),.sc (.int .u64 0),.sc (.int .i64 1)] [[.own 3 a0_0n (List.take (a0_0n*3) a0_0),.sc (.int .i64 a0_1),.lst false 1 E1 a0_2,.sc (.int .i64 a0_3)]])) (Ap (decide (0<=a0_3)&&decide (a0_3<(↑E1:Int)))<|Ad .u8 (List.getD a0_2 (Int.toNat a0_3*1) .top) fun x1=>Aa (wrap .i64 (a0_3+1)) fun x2=>Bb (x1==244) (Aa (wrap .u8 (x1-244)) fun x3=>Aa (wrap .u64 x3) fun x4=>Ap (decide (a0_0n*3<=a0_0.length))<|some (At.mk [.sc (.int .i64 7),.sc (.int .u64 x4),.sc (.int .i64 0)] [[.own 3 a0_0n (List.take (a0_0n*3) a0_0),.sc (.int .i64 a0_1),.lst false 1 E1 a0_2,.sc (.int .i64 x2)]])) (Bb (x1==245) (Aa (wrap .u8 (x1-244)) fun x5=>Aa (wrap .u64 x5) fun x6=>Ap (decide (a0_0n*3<=a0_0.length))<|some (At.mk [.sc (.int .i64 7),.sc (.int .u64 x6),.sc (.int .i64 0)] [[.own 3 a0_0n (List.take (a0_0n*3) a0_0),.sc (.int .i64 a0_1),.lst false 1 E1 a0_2,.sc (.int .i64 x2)]])) (Bb (x1==246) (Ap (decide (a0_0n*3<=a0_0.length))<|some (At.mk [.sc (.int .i64 8),.sc (.int .u64 0),.sc (.int .i64 0)] [[.own 3 a0_0n (List.take (a0_0n*3) a0_0),.sc (.int .i64 a0_1),.lst false 1 E1 a0_2,.sc (.int .i64 x2)]])) (Aa (Dw .u8 x1 5) fun x7=>Aa (Ps .u8 x1 31) fun x8=>Bb (decide (x7>5)) (Ap (decide (a0_0n*3<=a0_0.length))<|some (At.mk [.sc (.int .i64 0),.sc (.int .u64 0),.sc (.int .i64 2)] [[.own 3 a0_0n (List.take (a0_0n*3) a0_0),.sc (.int .i64 a0_1),.lst false 1 E1 a0_2,.sc (.int .i64 x2)]])) (Bb (decide (x8>27)) (Ap (decide (a0_0n*3<=a0_0.length))<|some (At.mk [.sc (.int .i64 0),.sc (.int .u64 0),.sc (.int .i64 2)] [[.own 3 a0_0n (List.take (a0_0n*3) a0_0),.sc (.int .i64 a0_1),.lst false 1 E1 a0_2,.sc (.int .i64 x2)]])) (Aa (wrap .i64 x7) fun x9=>Aa (wrap .i64 (1+x9)) fun Ch=>Bb (decide (x8<24)) (Aa (wrap .u64 x8) fun Cm=>Ap (decide (a0_0n*3<=a0_0.length))<|some (At.mk [.sc (.int .i64 Ch),.sc (.int .u64 Cm),.sc (.int .i64 0)] [[.own 3 a0_0n (List.take (a0_0n*3) a0_0),.sc (.int .i64 a0_1),.lst false 1 E1 a0_2,.sc (.int .i64 x2)]])) (Aa (wrap .u8 (x8-24)) fun Dg=>Ap (decide (0<=Dg))<|Aa (Gl .i64 1 Dg) fun Do=>Aa (wrap .i64 ((↑E1:Int)-x2)) fun Dd=>Bb (decide (Dd<Do)) (Ap (decide (a0_0n*3<=a0_0.length))<|some (At.mk [.sc (.int .i64 0),.sc (.int .u64 0),.sc (.int .i64 1)] [[.own 3 a0_0n (List.take (a0_0n*3) a0_0),.sc (.int .i64 a0_1),.lst false 1 E1 a0_2,.sc (.int .i64 x2)]])) (Aa (wrap .i64 (x2+Do)) fun Dx=>Ap (decide (0<=x2))<|Ap (decide (0<=Dx))<|Ap (decide (Int.toNat x2<=Int.toNat Dx)&&decide (Int.toNat Dx<=E1))<|Aa (Int.toNat Dx-Int.toNat x2) fun D5=>Aa (List.take (D5*1) (List.drop (Int.toNat x2*1) a0_2)) fun Em=>F6 fu call a0_0n a0_0 a0_1 E1 a0_2 a0_3 (fu) Ch 0 Do D5 Em ((↑D5:Int)) 0 (a0_0n) (a0_1) (E1) (a0_2) x2 (a0_0)))))))))) (Ae C0 Tryz.prog fu d):=by kernel_rfl
abbrev O3:FuncId:=91
theorem Yr (fu d a0_0n:Nat)(a0_0:List PV)(a0_1:Int)(E1:Nat)(a0_2:List PV)(a0_3:Int):Ae C0 Tryz.prog fu (d+1) O3 [.pbox [.own 3 a0_0n a0_0,.sc (.int .i64 a0_1),.lst false 1 E1 a0_2,.sc (.int .i64 a0_3)]]=(fun (call:Ai)=>Ap (decide (a0_0n*3<=a0_0.length))<|Ag (call 113 [.pbox [.own 3 a0_0n (List.take (a0_0n*3) a0_0),.sc (.int .i64 a0_1),.lst false 1 E1 a0_2,.sc (.int .i64 a0_3)]]) fun x1 x2=>Ab x1 fun x3 x4=>Ad .i64 x3 fun x5=>Ab x4 fun x6 x7=>Ad .u64 x6 fun x8=>Ab x7 fun x9 Ch=>Ad .i64 x9 fun Cm=>Ac Ch<|Ab x2 fun Dg Do=>Ab Dg fun Dd Dx=>Ea 3 Dd fun D5 Em=>Ab Dx fun E5 E2=>Ad .i64 E5 fun Fl=>Ab E2 fun He Gn=>Ha 1 He fun Hf Dv Df=>Ab Gn fun Fw Hs=>Ad .i64 Fw fun Ev=>Ac Hs<|Ac Do<|Bb (Cm != 0) (Ap (decide (D5*3<=Em.length))<|some (At.mk [.agg [.sc (.int .i64 0),.sc (.int .u64 0),.sc (.string (ByteArray.mk #[]))],.sc (.int .i64 Cm)] [[.own 3 D5 (List.take (D5*3) Em),.sc (.int .i64 Fl),.lst false 1 Dv Df,.sc (.int .i64 Ev)]])) (Ap (decide (D5*3<=Em.length))<|Ag (call 114 [.pbox [.own 3 D5 (List.take (D5*3) Em),.sc (.int .i64 Fl)],.sc (.int .i64 x5)]) fun Jd Lq=>Ab Jd fun J1 Mk=>Ad .i64 J1 fun Lm=>Ac Mk<|Ab Lq fun Mt Pu=>Ab Mt fun Rh Sa=>Ea 3 Rh fun Gv Id=>Ab Sa fun Tv Yk=>Ad .i64 Tv fun Lo=>Ac Yk<|Ac Pu<|Bb (Lm != 0) (Ap (decide (Gv*3<=Id.length))<|some (At.mk [.agg [.sc (.int .i64 0),.sc (.int .u64 0),.sc (.string (ByteArray.mk #[]))],.sc (.int .i64 Lm)] [[.own 3 Gv (List.take (Gv*3) Id),.sc (.int .i64 Lo),.lst false 1 Dv Df,.sc (.int .i64 Ev)]])) (Bb (x5==5) (Bb (decide (x8>512)) (Ap (decide (Gv*3<=Id.length))<|some (At.mk [.agg [.sc (.int .i64 0),.sc (.int .u64 0),.sc (.string (ByteArray.mk #[]))],.sc (.int .i64 8)] [[.own 3 Gv (List.take (Gv*3) Id),.sc (.int .i64 Lo),.lst false 1 Dv Df,.sc (.int .i64 Ev)]])) (Ap (decide (Gv*3<=Id.length))<|Ag (call 115 [.pbox [.own 3 Gv (List.take (Gv*3) Id),.sc (.int .i64 Lo)],.agg [.sc (.int .i64 x5),.sc (.int .u64 x8),.sc (.string (ByteArray.mk #[]))]]) fun Ui Tt=>Ab Ui fun Tr Sr=>Ad .i64 Tr fun X6=>Ac Sr<|Ab Tt fun Zh Sh=>Ab Zh fun Wh Xt=>Ea 3 Wh fun Xl Ov=>Ab Xt fun Yq CU=>Ad .i64 Yq fun AX=>Ac CU<|Ac Sh<|Bb (X6 != 0) (Ap (decide (Xl*3<=Ov.length))<|some (At.mk [.agg [.sc (.int .i64 0),.sc (.int .u64 0),.sc (.string (ByteArray.mk #[]))],.sc (.int .i64 X6)] [[.own 3 Xl (List.take (Xl*3) Ov),.sc (.int .i64 AX),.lst false 1 Dv Df,.sc (.int .i64 Ev)]])) (Ap (decide (Xl*3<=Ov.length))<|some (At.mk [.agg [.sc (.int .i64 x5),.sc (.int .u64 x8),.sc (.string (ByteArray.mk #[]))],.sc (.int .i64 0)] [[.own 3 Xl (List.take (Xl*3) Ov),.sc (.int .i64 AX),.lst false 1 Dv Df,.sc (.int .i64 Ev)]])))) (Bb (x5==6) (Bb (decide (x8>512)) (Ap (decide (Gv*3<=Id.length))<|some (At.mk [.agg [.sc (.int .i64 0),.sc (.int .u64 0),.sc (.string (ByteArray.mk #[]))],.sc (.int .i64 8)] [[.own 3 Gv (List.take (Gv*3) Id),.sc (.int .i64 Lo),.lst false 1 Dv Df,.sc (.int .i64 Ev)]])) (Ap (decide (Gv*3<=Id.length))<|Ag (call 115 [.pbox [.own 3 Gv (List.take (Gv*3) Id),.sc (.int .i64 Lo)],.agg [.sc (.int .i64 x5),.sc (.int .u64 x8),.sc (.string (ByteArray.mk #[]))]]) fun CY Ud=>Ab CY fun Y2 CQ=>Ad .i64 Y2 fun X1=>Ac CQ<|Ab Ud fun Ue CR=>Ab Ue fun Vk Xv=>Ea 3 Vk fun W8 V9=>Ab Xv fun Xy Xr=>Ad .i64 Xy fun Zy=>Ac Xr<|Ac CR<|Bb (X1 != 0) (Ap (decide (W8*3<=V9.length))<|some (At.mk [.agg [.sc (.int .i64 0),.sc (.int .u64 0),.sc (.string (ByteArray.mk #[]))],.sc (.int .i64 X1)] [[.own 3 W8 (List.take (W8*3) V9),.sc (.int .i64 Zy),.lst false 1 Dv Df,.sc (.int .i64 Ev)]])) (Ap (decide (W8*3<=V9.length))<|some (At.mk [.agg [.sc (.int .i64 x5),.sc (.int .u64 x8),.sc (.string (ByteArray.mk #[]))],.sc (.int .i64 0)] [[.own 3 W8 (List.take (W8*3) V9),.sc (.int .i64 Zy),.lst false 1 Dv Df,.sc (.int .i64 Ev)]])))) (Bb (x5==3) (Bb (decide (x8>1024)) (Ap (decide (Gv*3<=Id.length))<|some (At.mk [.agg [.sc (.int .i64 0),.sc (.int .u64 0),.sc (.string (ByteArray.mk #[]))],.sc (.int .i64 8)] [[.own 3 Gv (List.take (Gv*3) Id),.sc (.int .i64 Lo),.lst false 1 Dv Df,.sc (.int .i64 Ev)]])) (Aa (wrap .i64 ((↑Dv:Int)-Ev)) fun Zr=>Aa (wrap .i64 x8) fun CV=>Bb (decide (Zr<CV)) (Ap (decide (Gv*3<=Id.length))<|some (At.mk [.agg [.sc (.int .i64 0),.sc (.int .u64 0),.sc (.string (ByteArray.mk #[]))],.sc (.int .i64 1)] [[.own 3 Gv (List.take (Gv*3) Id),.sc (.int .i64 Lo),.lst false 1 Dv Df,.sc (.int .i64 Ev)]])) (Aa (wrap .i64 x8) fun HD=>Aa (wrap .i64 (Ev+HD)) fun EL=>Ap (decide (0<=Ev))<|Ap (decide (0<=EL))<|Ap (decide (Int.toNat Ev<=Int.toNat EL)&&decide (Int.toNat EL<=Dv))<|Aa (Int.toNat EL-Int.toNat Ev) fun GB=>Aa (List.take (GB*1) (List.drop (Int.toNat Ev*1) Df)) fun HQ=>Ap (decide (HQ.length=GB))<|Ek (bytesOf HQ) fun CP=>Aa (wrap .i64 x8) fun V8=>Aa (wrap .i64 (Ev+V8)) fun MQ=>Ap (decide (Gv*3<=Id.length))<|Ag (call 115 [.pbox [.own 3 Gv (List.take (Gv*3) Id),.sc (.int .i64 Lo)],.agg [.sc (.int .i64 x5),.sc (.int .u64 0),.sc (.string (ByteArray.mk (List.toArray CP)))]]) fun MR YE=>Ab MR fun VT SL=>Ad .i64 VT fun TK=>Ac SL<|Ab YE fun WH WI=>Ab WH fun UD UC=>Ea 3 UD fun HC QJ=>Ab UC fun WN WS=>Ad .i64 WN fun VU=>Ac WS<|Ac WI<|Bb (TK != 0) (Ap (decide (HC*3<=QJ.length))<|some (At.mk [.agg [.sc (.int .i64 0),.sc (.int .u64 0),.sc (.string (ByteArray.mk #[]))],.sc (.int .i64 TK)] [[.own 3 HC (List.take (HC*3) QJ),.sc (.int .i64 VU),.lst false 1 Dv Df,.sc (.int .i64 MQ)]])) (Ap (decide (HC*3<=QJ.length))<|some (At.mk [.agg [.sc (.int .i64 x5),.sc (.int .u64 0),.sc (.string (ByteArray.mk (List.toArray CP)))],.sc (.int .i64 0)] [[.own 3 HC (List.take (HC*3) QJ),.sc (.int .i64 VU),.lst false 1 Dv Df,.sc (.int .i64 MQ)]]))))) (Bb (x5==4) (Bb (decide (x8>1024)) (Ap (decide (Gv*3<=Id.length))<|some (At.mk [.agg [.sc (.int .i64 0),.sc (.int .u64 0),.sc (.string (ByteArray.mk #[]))],.sc (.int .i64 8)] [[.own 3 Gv (List.take (Gv*3) Id),.sc (.int .i64 Lo),.lst false 1 Dv Df,.sc (.int .i64 Ev)]])) (Aa (wrap .i64 ((↑Dv:Int)-Ev)) fun HY=>Aa (wrap .i64 x8) fun x95=>Bb (decide (HY<x95)) (Ap (decide (Gv*3<=Id.length))<|some (At.mk [.agg [.sc (.int .i64 0),.sc (.int .u64 0),.sc (.string (ByteArray.mk #[]))],.sc (.int .i64 1)] [[.own 3 Gv (List.take (Gv*3) Id),.sc (.int .i64 Lo),.lst false 1 Dv Df,.sc (.int .i64 Ev)]])) (Aa (wrap .i64 x8) fun UH=>Aa (wrap .i64 (Ev+UH)) fun UE=>Ap (decide (0<=Ev))<|Ap (decide (0<=UE))<|Ap (decide (Int.toNat Ev<=Int.toNat UE)&&decide (Int.toNat UE<=Dv))<|Aa (Int.toNat UE-Int.toNat Ev) fun YP=>Aa (List.take (YP*1) (List.drop (Int.toNat Ev*1) Df)) fun CZ=>Ap (decide (CZ.length=YP))<|Ek (bytesOf CZ) fun Wr=>Aa (wrap .i64 x8) fun Wv=>Aa (wrap .i64 (Ev+Wv)) fun Hc=>Ap (decide (Gv*3<=Id.length))<|Ag (call 115 [.pbox [.own 3 Gv (List.take (Gv*3) Id),.sc (.int .i64 Lo)],.agg [.sc (.int .i64 x5),.sc (.int .u64 0),.sc (.string (ByteArray.mk (List.toArray Wr)))]]) fun Jj AE=>Ab Jj fun Q4 R7=>Ad .i64 Q4 fun Je=>Ac R7<|Ab AE fun Xk Y6=>Ab Xk fun Y1 Y0=>Ea 3 Y1 fun H4 Ji=>Ab Y0 fun Y8 Zb=>Ad .i64 Y8 fun Yf=>Ac Zb<|Ac Y6<|Bb (Je != 0) (Ap (decide (H4*3<=Ji.length))<|some (At.mk [.agg [.sc (.int .i64 0),.sc (.int .u64 0),.sc (.string (ByteArray.mk #[]))],.sc (.int .i64 Je)] [[.own 3 H4 (List.take (H4*3) Ji),.sc (.int .i64 Yf),.lst false 1 Dv Df,.sc (.int .i64 Hc)]])) (Ap (decide (H4*3<=Ji.length))<|some (At.mk [.agg [.sc (.int .i64 x5),.sc (.int .u64 0),.sc (.string (ByteArray.mk (List.toArray Wr)))],.sc (.int .i64 0)] [[.own 3 H4 (List.take (H4*3) Ji),.sc (.int .i64 Yf),.lst false 1 Dv Df,.sc (.int .i64 Hc)]]))))) (Ap (decide (Gv*3<=Id.length))<|Ag (call 115 [.pbox [.own 3 Gv (List.take (Gv*3) Id),.sc (.int .i64 Lo)],.agg [.sc (.int .i64 x5),.sc (.int .u64 x8),.sc (.string (ByteArray.mk #[]))]]) fun EH Zk=>Ab EH fun W0 Xd=>Ad .i64 W0 fun Wo=>Ac Xd<|Ab Zk fun Za Vb=>Ab Za fun Yl Ox=>Ea 3 Yl fun Px Ss=>Ab Ox fun AP Zs=>Ad .i64 AP fun Ku=>Ac Zs<|Ac Vb<|Bb (Wo != 0) (Ap (decide (Px*3<=Ss.length))<|some (At.mk [.agg [.sc (.int .i64 0),.sc (.int .u64 0),.sc (.string (ByteArray.mk #[]))],.sc (.int .i64 Wo)] [[.own 3 Px (List.take (Px*3) Ss),.sc (.int .i64 Ku),.lst false 1 Dv Df,.sc (.int .i64 Ev)]])) (Ap (decide (Px*3<=Ss.length))<|some (At.mk [.agg [.sc (.int .i64 x5),.sc (.int .u64 x8),.sc (.string (ByteArray.mk #[]))],.sc (.int .i64 0)] [[.own 3 Px (List.take (Px*3) Ss),.sc (.int .i64 Ku),.lst false 1 Dv Df,.sc (.int .i64 Ev)]]))))))))) (Ae C0 Tryz.prog fu d):=by kernel_rfl
abbrev X4:FuncId:=51
noncomputable def Jm (fu:Nat)(call:Ai)(a0n:Nat)(a0:List PV)(nn y0:Nat)(y1:List PV)(y2:Nat)(y3:Int)(y4:Nat)(y5:List PV)(y6:Int)(y7:List PV):Option At:=C1 CB Tryz.prog fu call 51 Tryz.f51 (Bw Tryz.f51) [.lst false 1 a0n a0] [.r,.r,.l,.l] nn ⟨lk [(2,(.view 2 3 0 y0)),(5,(.ptr 5 0))],B3 [(2,(.ar false y1)),(5,(.st [(.view 32 3 0 y2),(.sc (.int .i64 y3)),(.lst false 1 y4 y5),(.sc (.int .i64 y6))])),(32,(.ar false y7))]⟩
theorem DS (fu:Nat)(call:Ai)(a0n:Nat)(a0:List PV)(nn y0:Nat)(y1:List PV)(y2:Nat)(y3:Int)(y4:Nat)(y5:List PV)(y6:Int)(y7:List PV):Jm fu call a0n a0 (nn+1) y0 y1 y2 y3 y4 y5 y6 y7=(Ap (decide (y2*3<=y7.length))<|Ag (call 90 [.pbox [.own 3 y2 (List.take (y2*3) y7),.sc (.int .i64 y3)]]) fun x1 x2=>Ab x1 fun x3 x4=>Bm x3 fun x5=>Ac x4<|Ab x2 fun x6 x7=>Ab x6 fun x8 x9=>Ea 3 x8 fun Ch Cm=>Ab x9 fun Dg Do=>Ad .i64 Dg fun Dd=>Ac Do<|Ac x7<|Bb (!x5) (Ap (decide (Ch*3<=Cm.length))<|Ag (call 91 [.pbox [.own 3 Ch (List.take (Ch*3) Cm),.sc (.int .i64 Dd),.lst false 1 y4 y5,.sc (.int .i64 y6)]]) fun Dx D5=>Ab Dx fun Em E5=>Dh Em fun E2=>Ab E2 fun Fl He=>Ad .i64 Fl fun Gn=>Ab He fun Hf Dv=>Ad .u64 Hf fun Df=>Ab Dv fun Fw Hs=>Cw Fw fun Ev=>Ac Hs<|Ab E5 fun Jd Lq=>Ad .i64 Jd fun J1=>Ac Lq<|Ab D5 fun Mk Lm=>Ab Mk fun Mt Pu=>Ea 3 Mt fun Rh Sa=>Ab Pu fun Gv Id=>Ad .i64 Gv fun Tv=>Ab Id fun Yk Lo=>Ha 1 Yk fun Ui Tt Tr=>Ab Lo fun Sr X6=>Ad .i64 Sr fun Zh=>Ac X6<|Ac Lm<|Bb (J1 != 0) (some (At.mk [.own 3 0 [],.sc (.int .i64 0),.sc (.int .i64 J1)] [])) (Ap (decide (y0*3<=y1.length)&&true&&decide ((y0+1)*32<=1099511627776)&&decide (y0+1<=1099511627776))<|Aa (y0+1) fun Sh=>Aa (List.take (y0*3) y1++[.sc (.int .i64 Gn),.sc (.int .u64 Df),.sc (.string Ev)]) fun Wh=>Jm fu call a0n a0 (nn) Sh Wh Rh Tv Tt Tr Zh Sa)) (Ap (decide (y0*3<=y1.length))<|some (At.mk [.own 3 y0 (List.take (y0*3) y1),.sc (.int .i64 y6),.sc (.int .i64 0)] []))):=by kernel_rfl
theorem MX (fu d a0n:Nat)(a0:List PV):Ae C0 Tryz.prog fu (d+1) X4 [.lst false 1 a0n a0]=(fun (call:Ai)=>Jm fu call a0n a0 (fu) 0 ([]) 0 0 (a0n) (a0) 0 ([])) (Ae C0 Tryz.prog fu d):=by kernel_rfl
end
section
open Go.IntKind (wrap)
structure Hd where
 k:Int
 n:Int
 e:Int
 at_:Nat
def Oj (n:Int):Int:=if n<24 then 0 else if n<256 then 1 else if n<65536 then 2 else if n<4294967296 then 4 else 8
def szE (low:Int):Nat:=if low=24 then 1 else if low=25 then 2 else if low=26 then 4 else 8
def Tk (b:List Int)(at_:Nat)(x:Int):Hd:=
 if x=244 then ⟨7,0,0,at_+1⟩ else if x=245 then ⟨7,1,0,at_+1⟩ else if x=246 then ⟨8,0,0,at_+1⟩
 else if x / 32>5 then ⟨0,0,2,at_+1⟩ else if x % 32>27 then ⟨0,0,2,at_+1⟩
 else if x % 32<24 then ⟨1+x / 32,x % 32,0,at_+1⟩
 else if b.length-(at_+1)<szE (x % 32) then ⟨0,0,1,at_+1⟩
 else if Oj (MG ((b.drop (at_+1)).take (szE (x % 32))))<szE (x % 32) then ⟨0,0,2,at_+1+szE (x % 32)⟩
 else ⟨1+x / 32,MG ((b.drop (at_+1)).take (szE (x % 32))),0,at_+1+szE (x % 32)⟩
def Fx (b:List Int)(at_:Nat):Hd:=match b[at_]? with|none=>⟨0,0,1,at_⟩|some x=>Tk b at_ x
theorem Asa {x:Int}(h:0<=x):Dw .u8 x 5=x / 32:=by
 unfold Dw;show x.fdiv (2 ^ (min (5:Int).toNat IntKind.u8.bits))=_;have h2:(2:Int) ^ (min (5:Int).toNat IntKind.u8.bits)=32:=by decide
 rw [h2,Int.fdiv_eq_ediv_of_nonneg _ (by omega)]
theorem Aq8 {x:Int}(h0:0<=x)(h1:x<=255):Ps .u8 x 31=x % 32:=by
 obtain ⟨n,rfl⟩:=Int.eq_ofNat_of_zero_le h0;have hn:n<256:=by omega
 have e1:(BitVec.ofInt 8 (n:Int)).toNat=n:=by
  rw [BitVec.toNat_ofInt];omega
 have e2:(BitVec.ofInt 8 (31:Int)).toNat=2 ^ 5-1:=by decide
 unfold Ps;show wrap .u8 ((BitVec.ofInt 8 (n:Int) &&& BitVec.ofInt 8 (31:Int)).toNat:Int)=_;rw [BitVec.toNat_and,e1,e2,Nat.and_two_pow_sub_one_eq_mod,Fj (by omega) (by omega)]
 omega
abbrev Afk (l:List Gf)(cnt:Int)(b:List Int)(at_:Nat):List PV:=[.own 3 l.length (Ej l),.sc (.int .i64 cnt),.lst false 1 b.length (Af .u8 b),.sc (.int .i64 at_)]
section
variable {fu d:Nat}
theorem Ah0 (n:Int):Ae C0 Tryz.prog fu (d+1) CE [.sc (.int .u64 n)]=some ⟨[.sc (.int .i64 (Oj n))],[]⟩:=by
 rw [UA];unfold Oj
 try unfold Aa
 repeat' first
  |((with_reducible first|apply Ay|apply Am|apply Az|apply Ao);· first|with_reducible rfl|(simp (disch:=first|with_reducible assumption|omega) only [B4,A6]<;>with_reducible rfl))
  |((with_reducible first|apply Ax|apply Av);· first|with_reducible rfl|with_reducible assumption|omega|(simp (disch:=first|with_reducible assumption|omega) only [gT,B4,A6]<;>omega))
  |(with_reducible apply Aw;· first|with_reducible rfl|with_reducible assumption|(simp (disch:=first|with_reducible assumption|omega) only [gF,B4,A6]<;>omega))
  |(with_reducible refine Ai5 ?_ ?_<;>intro hb<;>try simp only [decide_eq_true_eq,decide_eq_false_iff_not,beq_iff_eq,beq_eq_false_iff_ne,bne_iff_ne,bne_eq_false_iff_eq,ne_eq,Bool.not_eq_true',Bool.not_eq_false',Bool.not_eq_true,Bool.not_eq_false] at hb)
  |(with_reducible refine RN ?_ ?_)
 all_goals try simp (disch:=first|with_reducible assumption|omega) only [B4,A6]
theorem JV {a0n a2n:Nat}{a0 a2:List PV}{a1 a3 k cnt:Int}{l:List Gf}{b:List Int}{off sz:Nat}{q:List Int}(hq:q.length=sz)(hb:b.length<=1000000)(ho:off+sz<=b.length):∀(r:List Int)(i nn:Nat)(v:Int),q.drop i=r->r.length<nn->i<=sz ->
    F6 fu (Ae C0 Tryz.prog fu (d+1)) a0n a0 a1 a2n a2 a3 nn k v (sz:Int) sz (Af .u8 q) (sz:Int) (i:Int) l.length cnt b.length (Af .u8 b) (off:Int) (Ej l) =
      (if Oj (r.foldl Ez v)<sz then some ⟨[.sc (.int .i64 0),.sc (.int .u64 0),.sc (.int .i64 2)],[Afk l cnt b (off+sz)]⟩
       else some ⟨[.sc (.int .i64 k),.sc (.int .u64 (r.foldl Ez v)),.sc (.int .i64 0)],[Afk l cnt b (off+sz)]⟩)
  |_,_,0,_,_,h,_=>by omega
  |[],i,nn+1,v,hd,hn,hi=>by
    have:=drop_nil hd
    have sh:=Ah0 (fu:=fu) (d:=d) v
    have L:=Ct l
    have t:=C7 l
    have w:wrap .i64 ((off:Int)+(sz:Int))=((off+sz:Nat):Int):=by rw [Ak (by omega) (by omega)];omega
    rw [Kb,Da _ _ _ (by omega),List.foldl_nil]
    by_cases hs:Oj v<sz
    · rw [B4 hs]
      simp (disch:=omega) only [Br,w,sh,L,t,Cc]
    · rw [A6 hs]
      simp (disch:=omega) only [Br,w,sh,L,t,Cc]
  |x::r,i,nn+1,v,hd,hn,hi=>by
    obtain ⟨h1,h2,h3⟩:=Ck hd
    simp only [J4] at hn
    have g0:=Uh (k:=.u8) h2
    have w:wrap .i64 ((i:Int)+1)=((i+1:Nat):Int):=by rw [Ak (by omega) (by omega)];omega
    have ih:=JV (a0n:=a0n) (a2n:=a2n) (a0:=a0) (a2:=a2) (a1:=a1) (a3:=a3) (k:=k) (cnt:=cnt) (l:=l) hq hb ho r (i+1) nn (Ez v x) h3 (by omega) (by omega)
    rw [List.foldl_cons,←ih,Kb]
    simp (disch:=omega) only [Br,H2,Cc,g0,w]
theorem Aha {l:List Gf}{cnt:Int}{b:List Int}{at_:Nat}(hfu:1000<=fu)(hb:J2 b)(hl:b.length<=1000000):
  Ae C0 Tryz.prog fu (d+2) O5 [.pbox (Afk l cnt b at_)]=some ⟨[.sc (.int .i64 (Fx b at_).k),.sc (.int .u64 (Fx b at_).n),.sc (.int .i64 (Fx b at_).e)],[Afk l cnt b (Fx b at_).at_]⟩:=by
 refine (Yb fu (d+1) l.length (Ej l) cnt b.length (Af .u8 b) (at_:Int)).trans ?_;have L:=Ct l;have t:=C7 l;have Lb:=Aj .u8 b;have tb:=Jf .u8 b;unfold Fx;by_cases hlt:at_<b.length
 rotate_left
 ·have hg:b[at_]?=none:=List.getElem?_eq_none (by omega)
  rw [hg];simp (disch:=omega) only [Br,L,t,Lb,tb,Cc]
 have hg:b[at_]?=some b[at_]:=List.getElem?_eq_getElem hlt;have hB:=hb _ (List.getElem_mem hlt);rw [hg];generalize b[at_]=x at hg hB;have g0:=Uh (k:=.u8) hg;have w1:wrap .i64 ((at_:Int)+1)=((at_+1:Nat):Int):=by rw [Ak (by omega) (by omega)];omega
 have s5:=Asa hB.1;have a31:=Aq8 hB.1 hB.2;unfold Tk;simp only;by_cases c1:x=244
 ·subst c1;have q:wrap .u64 (wrap .u8 ((244:Int)-244))=0:=by decide
  simp (disch:=omega) only [Br,H2,C3,Cc,g0,Int.reduceBEq,w1,L,t,Lb,tb,q]
 rw [A6 c1];have b1:(x==(244:Int))=false:=by simp [c1]
 by_cases c2:x=245
 ·subst c2;have q:wrap .u64 (wrap .u8 ((245:Int)-244))=1:=by decide
  simp (disch:=omega) only [Br,H2,C3,Cc,g0,Int.reduceBEq,w1,L,t,Lb,tb,q,if_true]
 rw [A6 c2];have b2:(x==(245:Int))=false:=by simp [c2]
 by_cases c3:x=246
 ·subst c3;simp (disch:=omega) only [Br,H2,C3,Cc,g0,Int.reduceBEq,w1,L,t,Lb,tb,if_true]
 rw [A6 c3];have b3:(x==(246:Int))=false:=by simp [c3]
 by_cases c4:x / 32>5
 ·rw [B4 c4];simp (disch:=omega) only [Br,H2,C3,Cc,g0,b1,b2,b3,s5,a31,w1,L,t,Lb,tb]
 rw [A6 c4];by_cases c5:x % 32>27
 ·rw [B4 c5];simp (disch:=omega) only [Br,H2,C3,Cc,g0,b1,b2,b3,s5,a31,w1,L,t,Lb,tb]
 rw [A6 c5];have wk1:wrap .i64 (x / 32)=x / 32:=Ak (by omega) (by omega)
 have wk2:wrap .i64 (1+x / 32)=1+x / 32:=Ak (by omega) (by omega)
 by_cases c6:x % 32<24
 ·have wn:wrap .u64 (x % 32)=x % 32:=Ci (by omega) (by omega)
  rw [B4 c6];simp (disch:=omega) only [Br,H2,C3,Cc,g0,b1,b2,b3,s5,a31,w1,wk1,wk2,wn,L,t,Lb,tb]
 rw [A6 c6];have q1:wrap .u8 (x % 32-24)=x % 32-24:=Fj (by omega) (by omega)
 have q2:Gl .i64 1 (x % 32-24)=(szE (x % 32):Int):=by
  have:x % 32=24∨x % 32=25∨x % 32=26∨x % 32=27:=by omega
  rcases this with h|h|h|h<;>rw [h]<;>decide
 have q3:szE (x % 32)<=8:=by
  unfold szE
  repeat' split
  all_goals omega
 generalize szE (x % 32)=sz at q2 q3 ⊢;have q4:wrap .i64 ((b.length:Int)-((at_+1:Nat):Int))=((b.length-(at_+1):Nat):Int):=by rw [Ak (by omega) (by omega)];omega
 by_cases c7:b.length-(at_+1)<sz
 ·rw [B4 c7];simp (disch:=omega) only [Br,H2,C3,Cc,g0,b1,b2,b3,s5,a31,w1,wk1,wk2,q1,q2,q4,L,t,Lb,tb]
 rw [A6 c7];have q5:wrap .i64 (((at_+1:Nat):Int)+(sz:Int))=((at_+1+sz:Nat):Int):=by rw [Ak (by omega) (by omega)];omega
 have q6:at_+1+sz-(at_+1)=sz:=by omega
 have lp:=JV (fu:=fu) (d:=d) (a0n:=l.length) (a2n:=b.length) (a0:=Ej l) (a2:=Af .u8 b) (a1:=cnt) (a3:=(at_:Int)) (k:=1+x / 32) (cnt:=cnt) (l:=l) (b:=b) (off:=at_+1) (sz:=sz) (q:=(b.drop (at_+1)).take sz) (by rw [List.length_take,List.length_drop];omega) hl (by omega) _ 0 fu 0 rfl (by rw [Es,List.length_take];omega) (by omega)
 rw [Es] at lp;have lp':=lp;unfold MG;by_cases c8:Oj (((b.drop (at_+1)).take sz).foldl Ez 0)<sz
 ·rw [B4 c8] at lp' ⊢;simp (disch:=omega) only [Br,H2,C3,Cc,g0,b1,b2,b3,s5,a31,w1,wk1,wk2,q1,q2,q4,q5,q6,Hx,Ob,L,t,Lb,tb];exact lp'
 ·rw [A6 c8] at lp' ⊢;simp (disch:=omega) only [Br,H2,C3,Cc,g0,b1,b2,b3,s5,a31,w1,wk1,wk2,q1,q2,q4,q5,q6,Hx,Ob,L,t,Lb,tb];exact lp'
end
end
section
open Go.IntKind (wrap)
structure Rd where
 x:It
 e:Int
 l:List Gf
 cnt:Int
 at_:Nat
def it0:It:=⟨0,0,⟨#[]⟩⟩
def Tg (l:List Gf)(cnt:Int)(x:It)(at_:Nat):Rd:=if (Dt l x).1=0 then ⟨x,0,(Dt l x).2,cnt+1,at_⟩ else ⟨it0,(Dt l x).1,(Dt l x).2,cnt,at_⟩
def SQ (l:List Gf)(cnt:Int)(b:List Int)(h:Hd):Rd:=
 if h.e≠0 then ⟨it0,h.e,l,cnt,h.at_⟩
 else if Ij l cnt h.k≠0 then ⟨it0,Ij l cnt h.k,l,cnt,h.at_⟩
 else if h.k=5∨h.k=6 then (if h.n>512 then ⟨it0,8,l,cnt,h.at_⟩ else Tg l cnt ⟨h.k,h.n,⟨#[]⟩⟩ h.at_)
 else if h.k=3∨h.k=4 then (if h.n>1024 then ⟨it0,8,l,cnt,h.at_⟩ else if b.length-h.at_<h.n.toNat then ⟨it0,1,l,cnt,h.at_⟩
  else Tg l cnt ⟨h.k,0,B7 ((b.drop h.at_).take h.n.toNat)⟩ (h.at_+h.n.toNat))
 else Tg l cnt ⟨h.k,h.n,⟨#[]⟩⟩ h.at_
def Ff (l:List Gf)(cnt:Int)(b:List Int)(at_:Nat):Rd:=SQ l cnt b (Fx b at_)
theorem FR (a b:Int):0<=Ez a b∧Ez a b<=18446744073709551615:=Bc _
theorem Vm:∀(l:List Int)(v:Int),0<=v->v<=18446744073709551615->0<=l.foldl Ez v∧l.foldl Ez v<=18446744073709551615
 |[],v,h0,h1=>⟨h0,h1⟩
 |x::l,v,h0,h1=>Vm l _ (FR v x).1 (FR v x).2
theorem OG {b:List Int}{at_:Nat}(hb:J2 b)(ha:at_<=b.length):(Fx b at_).at_<=b.length∧((Fx b at_).e=0->1<=(Fx b at_).k∧(Fx b at_).k<=8∧0<=(Fx b at_).n∧(Fx b at_).n<=18446744073709551615∧at_<(Fx b at_).at_):=by
 unfold Fx;by_cases hlt:at_<b.length
 rotate_left
 ·have hg:b[at_]?=none:=List.getElem?_eq_none (by omega)
  rw [hg];exact ⟨ha,fun h=>by simp at h⟩
 have hg:b[at_]?=some b[at_]:=List.getElem?_eq_getElem hlt;have hB:=hb _ (List.getElem_mem hlt);rw [hg];generalize b[at_]=x at hB;have hd:=Vm ((b.drop (at_+1)).take (szE (x % 32))) 0 (by omega) (by omega)
 show (Tk b at_ x).at_<=b.length∧_;simp only [Tk];unfold MG
 repeat' split
 all_goals refine ⟨by simp only;omega,fun h=>?_⟩
 all_goals first
  |(simp at h;done)
  |(simp only;omega)
section
variable {fu d:Nat}
theorem Agh {l:List Gf}{cnt:Int}{b:List Int}{at_:Nat}(hfu:1000<=fu)(hb:J2 b)(hl:b.length<=1000000)(ha:at_<=b.length)(hf:l.length<=900)(h0:0<=cnt)(h1:cnt<=1000000):
  Ae C0 Tryz.prog fu (d+4) O3 [.pbox (Afk l cnt b at_)]=some ⟨[.agg (Ff l cnt b at_).x.cells,.sc (.int .i64 (Ff l cnt b at_).e)],[Afk (Ff l cnt b at_).l (Ff l cnt b at_).cnt b (Ff l cnt b at_).at_]⟩:=by
 refine (Yr fu (d+3) l.length (Ej l) cnt b.length (Af .u8 b) (at_:Int)).trans ?_;have hd:=Aha (fu:=fu) (d:=d+1) (l:=l) (cnt:=cnt) (at_:=at_) hfu hb hl;have hk:=OG hb ha;unfold Ff;generalize Fx b at_=h at hd hk ⊢;obtain ⟨k,n,e,a⟩:=h;obtain ⟨ka,hk⟩:=hk;simp only at hd ka hk;have L:=Ct l;have t:=C7 l;have ad:=VI (fu:=fu) (d:=d+1) (l:=l) (by omega) cnt k
 unfold J8 at ad;unfold SQ;by_cases he:e=0
 rotate_left
 ·simp only [ne_eq,he,not_false_eq_true,if_true];have he':(e != 0)=true:=by simp [he]
  try unfold Aa
  repeat first
   |((with_reducible first|apply Ay|apply Am|apply Az|apply Bi|apply Cu|apply C9|apply Ao);· first|with_reducible rfl|(simp (disch:=omega) only [hd,he',L,t]<;>with_reducible rfl))
   |((with_reducible first|apply Ax|apply Av);· first|with_reducible rfl|omega|(simp (disch:=omega) only [gT,hd,he',L,t]<;>omega))
   |(with_reducible apply Aw;· first|with_reducible rfl|(simp (disch:=omega) only [gF,hd,he',L,t]<;>omega))
  try simp (disch:=omega) only [hd,he',L,t]
  all_goals rfl
 subst he;obtain ⟨k1,k8,n0,n1,_⟩:=hk rfl;obtain ⟨m,rfl⟩:=Int.eq_ofNat_of_zero_le n0;have e00:((0:Int) != 0)=false:=rfl;simp only [ne_eq,not_true_eq_false,if_false];by_cases hm:Ij l cnt k=0
 rotate_left
 ·simp only [hm,not_false_eq_true,if_true];have he':(Ij l cnt k != 0)=true:=by simp [hm]
  try unfold Aa
  repeat first
   |((with_reducible first|apply Ay|apply Am|apply Az|apply Bi|apply Cu|apply C9|apply Ao);· first|with_reducible rfl|(simp (disch:=omega) only [hd,e00,ad,he',L,t]<;>with_reducible rfl))
   |((with_reducible first|apply Ax|apply Av);· first|with_reducible rfl|omega|(simp (disch:=omega) only [gT,hd,e00,ad,he',L,t]<;>omega))
   |(with_reducible apply Aw;· first|with_reducible rfl|(simp (disch:=omega) only [gF,hd,e00,ad,he',L,t]<;>omega))
  try simp (disch:=omega) only [hd,e00,ad,he',L,t]
  all_goals rfl
 rw [hm] at ad ⊢;simp only [not_true_eq_false,if_false,H2];have ac1:=OY (fu:=fu) (d:=d) (l:=l) (x:=⟨k,m,⟨#[]⟩⟩) (cnt:=cnt) hfu (by omega) h0 h1 ⟨k1,k8,n0,Nat.zero_le _⟩ (Nat.zero_le _)
 have LA:=Ct (Dt l ⟨k,m,⟨#[]⟩⟩).2;have tA:=C7 (Dt l ⟨k,m,⟨#[]⟩⟩).2;have B:=fun (hn:m<=1024)=>OY (fu:=fu) (d:=d) (l:=l) (x:=⟨k,0,B7 ((b.drop a).take m)⟩) (cnt:=cnt) hfu (by omega) h0 h1 ⟨k1,k8,by simp,by rw [Fq,List.length_take];omega⟩ (by rw [Fq,List.length_take];omega)
 have LB:=Ct (Dt l ⟨k,0,B7 ((b.drop a).take m)⟩).2;have tB:=C7 (Dt l ⟨k,0,B7 ((b.drop a).take m)⟩).2;unfold Tg;generalize Dt l ⟨k,m,⟨#[]⟩⟩=A at *
 obtain ⟨A1,A2⟩:=A;have eB:ByteArray.mk (List.toArray (((b.drop a).take m).map fun n=>n.toNat.toUInt8))=B7 ((b.drop a).take m):=rfl
 have bo:=Gp ((b.drop a).take m);have tk:List.take m (List.drop a (Af .u8 b))=Af .u8 ((b.drop a).take m):=by rw [Hx,Ob]
 have lq:(Af .u8 ((b.drop a).take m)).length=min m (b.length-a):=by rw [Aj,List.length_take,List.length_drop]
 have Lb:=Aj .u8 b;generalize B7 ((b.drop a).take m)=S at *
 generalize Dt l ⟨k,0,S⟩=B' at *
 obtain ⟨B1,B2⟩:=B';generalize (b.drop a).take m=q at *
 unfold J8 It.cells at ac1 B;simp only at ac1 B LA tA LB tB;have w1:wrap .i64 ((b.length:Int)-(a:Int))=((b.length-a:Nat):Int):=by rw [Ak (by omega) (by omega)];omega
 have w2:m<=1024->wrap .i64 (m:Int)=m:=fun h=>Ak (by omega) (by omega)
 have w3:m<=1024->wrap .i64 ((a:Int)+(m:Int))=((a+m:Nat):Int):=fun h=>by rw [Ak (by omega) (by omega)];omega
 have w4:a+m-a=m:=by omega
 try unfold Aa
 repeat' first
  |((with_reducible first|apply Ay|apply Am|apply Az|apply Bi|apply Cu|apply C9|apply Ao);· first|with_reducible rfl|(simp (disch:=first|with_reducible assumption|omega) only [hd,e00,ad,L,t,ac1,LA,tA,B,LB,tB,w1,w2,w3,w4,tk,bo,lq,eB,H2,Cc,C3]<;>with_reducible rfl))
  |((with_reducible first|apply Ax|apply Av);· first|with_reducible rfl|with_reducible assumption|omega|(simp (disch:=first|with_reducible assumption|omega) only [gT,hd,e00,ad,L,t,ac1,LA,tA,B,LB,tB,w1,w2,w3,w4,tk,bo,lq,eB,H2,Cc,C3]<;>omega))
  |(with_reducible apply Aw;· first|with_reducible rfl|with_reducible assumption|(simp (disch:=first|with_reducible assumption|omega) only [gF,hd,e00,ad,L,t,ac1,LA,tA,B,LB,tB,w1,w2,w3,w4,tk,bo,lq,eB,H2,Cc,C3]<;>omega))
  |(with_reducible refine Ai5 ?_ ?_<;>intro hb<;>try simp only [decide_eq_true_eq,decide_eq_false_iff_not,beq_iff_eq,beq_eq_false_iff_ne,bne_iff_ne,bne_eq_false_iff_eq,ne_eq,Bool.not_eq_true',Bool.not_eq_false',Bool.not_eq_true,Bool.not_eq_false] at hb)
  |(with_reducible refine RN ?_ ?_)
 all_goals try simp (disch:=first|with_reducible assumption|omega) only [hd,e00,ad,L,t,ac1,LA,tA,B,LB,tB,w1,w2,w3,w4,tk,bo,lq,eB,H2,Cc,C3,B4,A6]
 all_goals rfl
end
end
section
open Go.IntKind (wrap)
def OQ (l:List Gf)(cnt:Int):Bool:=decide (cnt>0)&&((l.length:Int)==0)
def I1:Nat->List Gf->Int->List Int->Nat->List It->List It × Nat × Int
 |0,_,_,_,_,_=>([],0,2)
 |m+1,l,cnt,b,at_,its=>if OQ l cnt=true then (its,at_,0) else
  if (Ff l cnt b at_).e≠0 then ([],0,(Ff l cnt b at_).e) else I1 m (Ff l cnt b at_).l (Ff l cnt b at_).cnt b (Ff l cnt b at_).at_ (its++[(Ff l cnt b at_).x])
def YY (r:List It × Nat × Int):List PV:=[.own 3 r.1.length (Cd r.1),.sc (.int .i64 r.2.1),.sc (.int .i64 r.2.2)]
theorem Af3 (l:List Gf):(EA l).length<=l.length:=by
 unfold EA;rw [List.length_reverse];have:=(List.dropWhile_sublist (l:=l.reverse) fun f=>f.left==0).length_le
 rw [List.length_reverse] at this;exact this
theorem OL (l:List Gf)(x:It):(Fg l x).length<=l.length+1:=by
 unfold Fg;refine Nat.le_trans (Af3 _) ?_;have:=LZ l;unfold OZ
 repeat' split
 all_goals simp
 all_goals omega
theorem Aac (l:List Gf)(k:List Int):(Ip l k).length=l.length:=by
 rcases Mh l with rfl|⟨l',f,rfl⟩
 ·rfl
 ·rw [Mn];simp
theorem WR (l:List Gf)(x:It):(Dt l x).2.length<=l.length+1:=by
 unfold Dt;have h1:=OL l x;have h2:=OL (Ip l (Bp x)) x;rw [Aac] at h2
 repeat' split
 all_goals simp only
 all_goals omega
structure OkX (x:It):Prop where
 k1:1<=x.k
 k8:x.k<=8
 n0:0<=x.n
 n1:x.n<=18446744073709551615
 s1:x.s.size<=1024
theorem Ahb {l:List Gf}{cnt k:Int}(h:Ij l cnt k=0):cnt<512∧l.length<=8:=by
 unfold Ij at h
 repeat' split at h
 all_goals first
  |(cases h;done)
  |omega
theorem MC {l:List Gf}{cnt:Int}{x:It}{at_:Nat}(hx:OkX x)(h:(Tg l cnt x at_).e=0):(Tg l cnt x at_).cnt=cnt+1∧(Tg l cnt x at_).l.length<=l.length+1∧(Tg l cnt x at_).at_=at_∧OkX (Tg l cnt x at_).x:=by
 have:=WR l x;unfold Tg at h ⊢;by_cases hz:(Dt l x).1=0
 ·rw [B4 hz];exact ⟨rfl,this,rfl,hx⟩
 ·rw [A6 hz] at h;exact absurd h hz
theorem PS {l:List Gf}{cnt:Int}{b:List Int}{at_:Nat}(hb:J2 b)(ha:at_<=b.length)(h:(Ff l cnt b at_).e=0):
  cnt<512∧(Ff l cnt b at_).cnt=cnt+1∧(Ff l cnt b at_).l.length<=9∧at_<(Ff l cnt b at_).at_∧(Ff l cnt b at_).at_<=b.length∧OkX (Ff l cnt b at_).x:=by
 have hk:=OG hb ha;unfold Ff at h ⊢;generalize Fx b at_=q at h hk ⊢;obtain ⟨k,n,e,a⟩:=q;obtain ⟨ka,hk⟩:=hk;unfold SQ at h ⊢;simp only at h hk ka ⊢;by_cases he:e=0
 rotate_left
 ·rw [B4 he] at h;exact absurd h he
 subst he;obtain ⟨k1,k8,n0,n1,hlt⟩:=hk rfl;rw [A6 (by simp)] at h ⊢
 by_cases hm:Ij l cnt k=0
 rotate_left
 ·rw [B4 hm] at h;exact absurd h hm
 obtain ⟨c1,c2⟩:=Ahb hm;rw [A6 (by simp [hm])] at h ⊢
 have z:(ByteArray.mk #[]).size<=1024:=Nat.zero_le _;by_cases h56:k=5∨k=6
 ·rw [B4 h56] at h ⊢;by_cases hn:n>512
  ·rw [B4 hn] at h;exact absurd h (by simp)
  ·rw [A6 hn] at h ⊢;obtain ⟨p1,p2,p3,p4⟩:=MC ⟨k1,k8,n0,n1,z⟩ h;exact ⟨c1,p1,by omega,by omega,by omega,p4⟩
 ·rw [A6 h56] at h ⊢;by_cases h34:k=3∨k=4
  ·rw [B4 h34] at h ⊢;by_cases hn:n>1024
   ·rw [B4 hn] at h;exact absurd h (by simp)
   ·rw [A6 hn] at h ⊢;by_cases hr:b.length-a<n.toNat
    ·rw [B4 hr] at h;exact absurd h (by simp)
    ·rw [A6 hr] at h ⊢;obtain ⟨p1,p2,p3,p4⟩:=MC ⟨k1,k8,by simp,by simp,by rw [Fq,List.length_take];omega⟩ h
     exact ⟨c1,p1,by omega,by omega,by omega,p4⟩
  ·rw [A6 h34] at h ⊢;obtain ⟨p1,p2,p3,p4⟩:=MC ⟨k1,k8,n0,n1,z⟩ h;exact ⟨c1,p1,by omega,by omega,by omega,p4⟩
theorem BJ {b:List Int}(hb:J2 b):∀(m:Nat)(l:List Gf)(cnt:Int)(at_:Nat)(its:List It),at_<=b.length->(∀x∈its,OkX x)->(I1 m l cnt b at_ its).2.1<=b.length∧∀x∈(I1 m l cnt b at_ its).1,OkX x
 |0,l,cnt,at_,its,h,hi=>⟨by simp [I1],by intro x hx;simp [I1] at hx⟩
 |m+1,l,cnt,at_,its,h,hi=>by
  unfold I1;by_cases hd:OQ l cnt=true
  ·rw [B4 hd];exact ⟨h,hi⟩
  ·rw [A6 hd];by_cases he:(Ff l cnt b at_).e=0
   ·rw [A6 (by simp [he])]
    obtain ⟨_,_,_,_,p,q⟩:=PS hb h he;refine BJ hb m _ _ _ _ p ?_;intro x hx;rcases List.mem_append.1 hx with hx|hx
    ·exact hi x hx
    ·simp at hx;subst hx;exact q
   ·rw [B4 he];exact ⟨by simp,by intro x hx;simp at hx⟩
section
variable {fu d:Nat}
theorem UP (hfu:1000<=fu){a0n:Nat}{a0:List PV}{b:List Int}(hb:J2 b)(hl:b.length<=1000000):∀(nn:Nat)(l:List Gf)(cnt:Int)(at_:Nat)(its:List It),0<=cnt->cnt<=512->512-cnt<nn->l.length<=9->at_<=b.length->its.length=cnt.toNat ->
  Jm fu (Ae C0 Tryz.prog fu (d+4)) a0n a0 nn its.length (Cd its) l.length cnt b.length (Af .u8 b) (at_:Int) (Ej l)=some ⟨YY (I1 nn l cnt b at_ its),[]⟩
 |0,_,_,_,_,_,_,h,_,_,_=>by omega
 |nn+1,l,cnt,at_,its,h0,h1,hn,hf,ha,hi=>by
  have dn:=SS (fu:=fu) (d:=d+3) l cnt;have ri:=Agh (fu:=fu) (d:=d) (l:=l) (cnt:=cnt) (b:=b) (at_:=at_) hfu hb hl ha (by omega) h0 (by omega)
  have ok:=PS (l:=l) (cnt:=cnt) hb ha;have L:=Ct l;have t:=C7 l;have LT:=R1 its;have tT:List.take (its.length*3) (Cd its)=Cd its:=Uf (by omega)
  have ih:=UP hfu (a0n:=a0n) (a0:=a0) hb hl nn;rw [DS];unfold I1;unfold J8 at dn;change _=some (At.mk [.sc (.bool (OQ l cnt))] _) at dn;generalize Ff l cnt b at_=r at ri ok ⊢;obtain ⟨x,e,l2,cnt2,at2⟩:=r;simp only at ri ok ⊢;cases hd:OQ l cnt
  ·rw [hd] at dn;rw [A6 (by simp)]
   by_cases he:e=0
   ·subst he;obtain ⟨p1,rfl,p3,p4,p5,p6⟩:=ok rfl;have q:=ih l2 (cnt+1) at2 (its++[x]) (by omega) (by omega) (by omega) p3 p5 (by simp;omega)
    rw [A6 (by simp),←q,VM,Lf]
    have e1:Cd [x]=x.cells:=by simp [Cd]
    rw [e1];obtain ⟨xk,xn,xs⟩:=x;unfold It.cells at ri ⊢;have e00:((0:Int) != 0)=false:=rfl
    try unfold Aa
    repeat first
     |((with_reducible first|apply Ay|apply Am|apply Az|apply A5|apply Ba|apply Bi|apply Cu|apply B9|apply Ao);· first|with_reducible rfl|(simp (disch:=omega) only [dn,ri,e00,L,t,LT,tT]<;>with_reducible rfl))
     |((with_reducible first|apply Ax|apply Av);· first|with_reducible rfl|omega|(simp (disch:=omega) only [gT,dn,ri,e00,L,t,LT,tT]<;>omega))
     |(with_reducible apply Aw;· first|with_reducible rfl|(simp (disch:=omega) only [gF,dn,ri,e00,L,t,LT,tT]<;>omega))
    try simp (disch:=omega) only [dn,ri,e00,L,t,LT,tT]
    all_goals rfl
   ·have he':(e != 0)=true:=by simp [he]
    rw [B4 he];obtain ⟨xk,xn,xs⟩:=x;unfold It.cells at ri
    try unfold Aa
    repeat first
     |((with_reducible first|apply Ay|apply Am|apply Az|apply A5|apply Ba|apply Bi|apply Cu|apply B9|apply Ao);· first|with_reducible rfl|(simp (disch:=omega) only [dn,ri,he',L,t,LT,tT]<;>with_reducible rfl))
     |((with_reducible first|apply Ax|apply Av);· first|with_reducible rfl|omega|(simp (disch:=omega) only [gT,dn,ri,he',L,t,LT,tT]<;>omega))
     |(with_reducible apply Aw;· first|with_reducible rfl|(simp (disch:=omega) only [gF,dn,ri,he',L,t,LT,tT]<;>omega))
    try simp (disch:=omega) only [dn,ri,he',L,t,LT,tT]
    all_goals rfl
  ·rw [hd] at dn;rw [B4 rfl]
   try unfold Aa
   repeat first
    |((with_reducible first|apply Ay|apply Am|apply Az|apply A5|apply Ba|apply Bi|apply Cu|apply B9|apply Ao);· first|with_reducible rfl|(simp (disch:=omega) only [dn,L,t,LT,tT]<;>with_reducible rfl))
    |((with_reducible first|apply Ax|apply Av);· first|with_reducible rfl|omega|(simp (disch:=omega) only [gT,dn,L,t,LT,tT]<;>omega))
    |(with_reducible apply Aw;· first|with_reducible rfl|(simp (disch:=omega) only [gF,dn,L,t,LT,tT]<;>omega))
   try simp (disch:=omega) only [dn,L,t,LT,tT]
   all_goals rfl
theorem Afg (hfu:1000<=fu){b:List Int}(hb:J2 b)(hl:b.length<=1000000):
  Ae C0 Tryz.prog fu (d+5) X4 [.lst false 1 b.length (Af .u8 b)]=some ⟨YY (I1 fu [] 0 b 0 []),[]⟩:=by
 rw [MX];exact UP hfu hb hl fu [] 0 0 [] (by omega) (by omega) (by omega) (by simp) (by omega) (by simp)
end
end
section
open Go.IntKind (wrap)
theorem Akp {n:Int}(h0:0<=n):(n<256->MG (tb n 1)=n)∧(n<65536->MG (tb n 2)=n)∧(n<4294967296->MG (tb n 4)=n)∧(n<=18446744073709551615->MG (tb n 8)=n):=by
 have st:∀(k:Nat) (D:Int),n<=18446744073709551615->k<8->(2:Int) ^ (56-8*k)=D->0<D->Ez (n / D / 256) (Cx n k)=n / D:=by
  intro k D h1 hk hD hp;rw [QY k hk,hD];exact Al6 (Int.ediv_nonneg h0 (Int.le_of_lt hp)) (Int.le_trans (Int.ediv_le_self _ h0) h1)
 refine ⟨fun h=>?_,fun h=>?_,fun h=>?_,fun h=>OI h0 h⟩
 ·have s7:=st 7 1 (by omega) (by omega) (by decide) (by omega)
  rw [show n / 1 / 256=0 by omega,show n / 1=n by omega] at s7
  exact s7
 ·have s6:=st 6 256 (by omega) (by omega) (by decide) (by omega)
  have s7:=st 7 1 (by omega) (by omega) (by decide) (by omega)
  rw [show n / 256 / 256=0 by omega] at s6
  rw [show n / 1 / 256=n / 256 by omega,show n / 1=n by omega] at s7
  show Ez (Ez 0 (Cx n 6)) (Cx n 7)=n;rw [s6,s7]
 ·have s4:=st 4 16777216 (by omega) (by omega) (by decide) (by omega)
  have s5:=st 5 65536 (by omega) (by omega) (by decide) (by omega)
  have s6:=st 6 256 (by omega) (by omega) (by decide) (by omega)
  have s7:=st 7 1 (by omega) (by omega) (by decide) (by omega)
  rw [show n / 16777216 / 256=0 by omega] at s4
  rw [show n / 65536 / 256=n / 16777216 by omega] at s5
  rw [show n / 256 / 256=n / 65536 by omega] at s6
  rw [show n / 1 / 256=n / 256 by omega,show n / 1=n by omega] at s7
  show Ez (Ez (Ez (Ez 0 (Cx n 4)) (Cx n 5)) (Cx n 6)) (Cx n 7)=n;rw [s4,s5,s6,s7]
theorem Wg {b:List Int}{at_:Nat}{mj n low:Int}{k:Nat}{rest:List Int}(m0:0<=mj)(m5:mj<=5)(l0:24<=low)(l1:low<=27)(hk:szE low=k)(h:b.drop (at_+1)=tb n k++rest) (hd:MG (tb n k)=n) (hs:¬(Oj n<(k:Int))):
  Tk b at_ (32*mj+low)=⟨1+mj,n,0,at_+1+k⟩:=by
 have e1:(32*mj+low) / 32=mj:=by omega
 have e2:(32*mj+low) % 32=low:=by omega
 have e3:(b.drop (at_+1)).take k=tb n k:=by rw [h,List.take_left' (Zm n k)]
 have e4:k<=b.length-(at_+1):=by
  have:=congrArg List.length h;rw [List.length_drop,Lf,Zm] at this;omega
 unfold Tk;rw [e1,e2,hk,e3,hd,A6 (by omega),A6 (by omega),A6 (by omega),A6 (by omega),A6 (by omega),A6 (by omega),A6 (by omega),A6 hs]
theorem Zc {b:List Int}{at_:Nat}{mj n:Int}{rest:List Int}(h:b.drop at_=Cq mj n++rest)(m0:0<=mj)(m5:mj<=5)(n0:0<=n)(n1:n<=18446744073709551615):
  Fx b at_=⟨1+mj,n,0,at_+(Cq mj n).length⟩:=by
 obtain ⟨d1,d2,d4,d8⟩:=Akp n0;unfold Fx;unfold Cq at h ⊢;by_cases c1:n<24
 ·rw [B4 c1] at h ⊢;obtain ⟨_,g,_⟩:=Ck h;rw [g];show Tk b at_ (32*mj+n)=_;unfold Tk;have e1:(32*mj+n) / 32=mj:=by omega
  have e2:(32*mj+n) % 32=n:=by omega
  rw [e1,e2,A6 (by omega),A6 (by omega),A6 (by omega),A6 (by omega),A6 (by omega),B4 c1]
  rfl
 rw [A6 c1] at h ⊢;by_cases c2:n<256
 ·rw [B4 c2] at h ⊢;obtain ⟨_,g,g2⟩:=Ck h;rw [g];have:=Wg (at_:=at_) m0 m5 (low:=24) (by omega) (by omega) (k:=1) (by decide) g2 (d1 c2) (by unfold Oj;rw [A6 c1,B4 c2];omega)
  show Tk b at_ (32*mj+24)=_;rw [this,J4,Zm]
 rw [A6 c2] at h ⊢;by_cases c3:n<65536
 ·rw [B4 c3] at h ⊢;obtain ⟨_,g,g2⟩:=Ck h;rw [g];have:=Wg (at_:=at_) m0 m5 (low:=25) (by omega) (by omega) (k:=2) (by decide) g2 (d2 c3) (by unfold Oj;rw [A6 c1,A6 c2,B4 c3];omega)
  show Tk b at_ (32*mj+25)=_;rw [this,J4,Zm]
 rw [A6 c3] at h ⊢;by_cases c4:n<4294967296
 ·rw [B4 c4] at h ⊢;obtain ⟨_,g,g2⟩:=Ck h;rw [g];have:=Wg (at_:=at_) m0 m5 (low:=26) (by omega) (by omega) (k:=4) (by decide) g2 (d4 c4) (by unfold Oj;rw [A6 c1,A6 c2,A6 c3,B4 c4];omega)
  show Tk b at_ (32*mj+26)=_;rw [this,J4,Zm]
 ·rw [A6 c4] at h ⊢;obtain ⟨_,g,g2⟩:=Ck h;rw [g];have:=Wg (at_:=at_) m0 m5 (low:=27) (by omega) (by omega) (k:=8) (by decide) g2 (d8 n1) (by unfold Oj;rw [A6 c1,A6 c2,A6 c3,A6 c4];omega)
  show Tk b at_ (32*mj+27)=_;rw [this,J4,Zm]
theorem RF {s:ByteArray}(h:SM s=true):s=⟨#[]⟩:=by
 unfold SM at h;have:=eq_of_beq h;apply ByteArray.ext;exact Array.toList_inj.1 this
def nOf (x:It):Int:=if x.k=3∨x.k=4 then (x.s.size:Int) else x.n
theorem Aa4 {x:It}{b:List Int}{at_:Nat}{rest:List Int}(hsh:F3 x=true)(k1:1<=x.k)(k8:x.k<=8)(n0:0<=x.n)(n1:x.n<=18446744073709551615)(hs:x.s.size<=1024)(h:b.drop at_=Bp x++rest):
  Fx b at_=⟨x.k,nOf x,0,at_+((Bp x).length-x.s.size)⟩∧(x.k=3∨x.k=4->x.n=0∧b.drop (at_+((Bp x).length-x.s.size))=H7 x.s++rest)∧(¬(x.k=3∨x.k=4)->x.s=⟨#[]⟩)∧x.s.size<=(Bp x).length:=by
 obtain ⟨k,n,s⟩:=x;have z:(ByteArray.mk #[]).size=0:=rfl;simp only at k1 k8 n0 n1 hs ⊢;unfold F3 at hsh;simp only at hsh;have L:=Of s;have E7:k=7->Bp ⟨k,n,s⟩=[wrap .u8 (244+wrap .u8 n)]:=fun e=>by unfold Bp;rw [B4 e]
 have E8:k=8->Bp ⟨k,n,s⟩=[246]:=fun e=>by subst e;rfl
 have E3:k=3->Bp ⟨k,n,s⟩=Cq 2 s.size++H7 s:=fun e=>by subst e;rfl
 have E4:k=4->Bp ⟨k,n,s⟩=Cq 3 s.size++H7 s:=fun e=>by subst e;rfl
 have E0:k≠7->k≠8->k≠3->k≠4->Bp ⟨k,n,s⟩=Cq (k-1) n:=fun a b c d=>by unfold Bp;rw [A6 a,A6 b,A6 c,A6 d]
 have N34:k=3∨k=4->nOf ⟨k,n,s⟩=s.size:=fun e=>by unfold nOf;rw [B4 e]
 have N0:¬(k=3∨k=4)->nOf ⟨k,n,s⟩=n:=fun e=>by unfold nOf;rw [A6 e]
 by_cases c7:k=7
 ·subst c7;simp at hsh;obtain ⟨hn,hs⟩:=hsh;obtain rfl:=RF hs;rw [E7 rfl] at h ⊢;rw [N0 (by omega)]
  obtain ⟨_,g,_⟩:=Ck h;refine ⟨?_,fun h=>by omega,fun _=>rfl,Nat.zero_le _⟩
  have:n=0∨n=1:=by omega
  unfold Fx;rw [g];rcases this with rfl|rfl
  ·rfl
  ·rfl
 by_cases c8:k=8
 ·subst c8;simp at hsh;obtain ⟨rfl,hs⟩:=hsh;obtain rfl:=RF hs;rw [E8 rfl] at h ⊢;rw [N0 (by omega)]
  obtain ⟨_,g,_⟩:=Ck h;refine ⟨?_,fun h=>by omega,fun _=>rfl,Nat.zero_le _⟩
  unfold Fx;rw [g];rfl
 by_cases c3:k=3
 ·subst c3;simp at hsh;subst hsh;rw [E3 rfl] at h ⊢;rw [N34 (by omega)]
  rw [Zzv] at h;have q:=Zc h (by omega) (by omega) (by omega) (by omega)
  have e:(Cq 2 (s.size:Int)++H7 s).length-s.size=(Cq 2 (s.size:Int)).length:=by rw [Lf,L];omega
  rw [e];refine ⟨q,fun _=>⟨rfl,?_⟩,fun h=>by omega,by rw [Lf,L];omega⟩
  rw [←List.drop_drop,h,List.drop_left' rfl]
 by_cases c4:k=4
 ·subst c4;simp at hsh;subst hsh;rw [E4 rfl] at h ⊢;rw [N34 (by omega)]
  rw [Zzv] at h;have q:=Zc h (by omega) (by omega) (by omega) (by omega)
  have e:(Cq 3 (s.size:Int)++H7 s).length-s.size=(Cq 3 (s.size:Int)).length:=by rw [Lf,L];omega
  rw [e];refine ⟨q,fun _=>⟨rfl,?_⟩,fun h=>by omega,by rw [Lf,L];omega⟩
  rw [←List.drop_drop,h,List.drop_left' rfl]
 rw [A6 c3,A6 c4,A6 c8,A6 c7] at hsh;obtain rfl:=RF hsh;rw [E0 c7 c8 c3 c4] at h ⊢;rw [N0 (by omega)]
 have q:=Zc h (by omega) (by omega) n0 n1
 refine ⟨?_,fun h=>by omega,fun _=>rfl,by rw [z];omega⟩
 rw [q,z,Nat.sub_zero]
 congr 1
 omega
theorem ZB {l:List Gf}{cnt:Int}{x:It}{b:List Int}{at_:Nat}{rest:List Int}(g:Aml l cnt x)(n0:0<=x.n)(n1:x.n<=18446744073709551615)(h:b.drop at_=Bp x++rest):
  Ff l cnt b at_=⟨x,0,Fg l x,cnt+1,at_+(Bp x).length⟩:=by
 have k18:1<=x.k∧x.k<=8:=by
  have hm:=g.hm;unfold Ij at hm
  repeat' split at hm
  all_goals first
   |(cases hm;done)
   |omega
 obtain ⟨q1,q2,q3,q4⟩:=Aa4 g.hsh k18.1 k18.2 n0 n1 g.hs h
 have ac:∀a:Nat,Tg l cnt x a=⟨x,0,Fg l x,cnt+1,a⟩:=by
  intro a
  have:Dt l x=(0,Fg l x):=by
   unfold Dt;rw [A6,A6 (by simp [g.ha])]
   intro hh;have:=g.hv hh.1;exact absurd hh.2 (by simp [XE,this])
  unfold Tg;rw [this];rfl
 have ln:b.length-(at_+((Bp x).length-x.s.size))>=x.s.size:=by
  have:=congrArg List.length h;rw [List.length_drop,Lf] at this;omega
 unfold Ff;rw [q1];unfold SQ;simp only;rw [A6 (by simp),g.hm,A6 (by simp)]
 have hs:=g.hs;have hn:=g.hn;obtain ⟨k,n,s⟩:=x;simp only at *
 by_cases c34:k=3∨k=4
 ·obtain ⟨rfl,q2⟩:=q2 c34;have N:nOf ⟨k,0,s⟩=s.size:=by unfold nOf;rw [B4 c34]
  rw [N,A6 (by omega),B4 c34,A6 (by omega),H2,A6 (by omega),q2,List.take_left' (Of s),CO,ac]
  congr 1
  omega
 ·obtain rfl:=q3 c34;have z:(ByteArray.mk #[]).size=0:=rfl;have N:nOf ⟨k,n,⟨#[]⟩⟩=n:=by unfold nOf;rw [A6 c34]
  rw [N,A6 c34,z,Nat.sub_zero];by_cases c56:k=5∨k=6
  ·rw [B4 c56,A6 (by omega),ac]
  ·rw [A6 c56,ac]
theorem OM {b:List Int}{rest:List Int}:∀(its:List It)(l:List Gf)(cnt:Int)(at_ m:Nat)(acc:List It),Om l cnt its->(∀x∈its,0<=x.n∧x.n<=18446744073709551615)->b.drop at_=Be its++rest->its.length<m ->
  I1 m l cnt b at_ acc=(acc++its,at_+(Be its).length,0)
 |[],l,cnt,at_,m,acc,hg,hn,h,hm=>by
  obtain ⟨rfl,hc⟩:=hg;obtain ⟨m,rfl⟩:∃k,m=k+1:=⟨m-1,by omega⟩
  unfold I1;rw [B4 (by simp [OQ,hc])]
  simp [Be]
 |x::its,l,cnt,at_,m,acc,hg,hn,h,hm=>by
  obtain ⟨g,hg⟩:=hg;obtain ⟨m,rfl⟩:∃k,m=k+1:=⟨m-1,by simp at hm;omega⟩
  have e:Be (x::its)=Bp x++Be its:=by simp [Be]
  rw [e,Zzv] at h;have r:=ZB g (hn x (by simp)).1 (hn x (by simp)).2 h
  have h':b.drop (at_+(Bp x).length)=Be its++rest:=by rw [←List.drop_drop,h,List.drop_left' rfl]
  have ih:=OM its (Fg l x) (cnt+1) (at_+(Bp x).length) m (acc++[x]) hg (fun y hy=>hn y (List.mem_cons_of_mem _ hy)) h' (by simp at hm;omega)
  unfold I1;have hd:OQ l cnt=false:=g.hd;rw [A6 (by simp [hd]),r]
  simp only;rw [A6 (by simp),ih,e]
  simp;omega
end
section
open Go.IntKind (wrap)
abbrev isU (x:Int):Prop:=0<=x∧x<=18446744073709551615
abbrev isW (l:List Int):Prop:=∀x∈l,isU x
theorem XV (l:List Int)(i:Nat):isU (Q1 l i):=Vm _ 0 (by omega) (by omega)
theorem YG (l:List Int):isW (Fe l):=by
 intro x hx;obtain ⟨k,_,rfl⟩:=List.mem_map.1 hx;exact XV l k
theorem Sl:∀{ws:List Int}{i:Nat}{w:Int},isW ws->ws[i]?=some w->Q1 (A0 ws) i=w
 |[],i,w,_,h=>by simp at h
 |a::ws,0,w,hw,h=>by
  simp at h;subst h;have e:A0 (a::ws)=Dr a++A0 ws:=rfl;unfold Q1;rw [Nat.mul_zero,Es,e,List.take_left' (El a)];have:=hw a (by simp)
  exact OI this.1 this.2
 |a::ws,i+1,w,hw,h=>by
  simp at h;have ih:=Sl (ws:=ws) (fun x hx=>hw x (List.mem_cons_of_mem _ hx)) h
  have e:A0 (a::ws)=Dr a++A0 ws:=rfl;unfold Q1 at ih ⊢;rw [show 8*(i+1)=(Dr a).length+8*i by rw [El];omega,e,←List.drop_drop,List.drop_left' rfl]
  exact ih
theorem AO {ws:List Int}(hw:isW ws):Fe (A0 ws)=ws:=by
 have hl:(A0 ws).length / 8=ws.length:=by rw [Db];omega
 apply List.ext_getElem?;intro i;unfold Fe;rw [hl];by_cases h:i<ws.length
 ·rw [List.getElem?_map,List.getElem?_range h,List.getElem?_eq_getElem h];simp only [Option.map_some];rw [Sl hw (List.getElem?_eq_getElem h)]
 ·rw [List.getElem?_eq_none (by simp;omega),List.getElem?_eq_none (by omega)]
theorem Ae7 {k:Ky}(hh:C2 k.h=false)(hr:isU k.root):IE (Io k)=some k:=by
 obtain ⟨h,r⟩:=k;have hb:=G7 hh;simp only at hb hr hh;have w:wrap .u8 h=h:=Fj (by omega) (by omega)
 have w1:A0 [r]=Dr r:=by simp [A0]
 have:=Sl (ws:=[r]) (i:=0) (w:=r) (by intro x hx;simp at hx;subst hx;exact hr) rfl
 rw [w1] at this;unfold IE Io;simp only [w,List.getD_cons_zero,List.drop_succ_cons,Es,this,J4,El,hh,and_self,if_true]
theorem Aoe {k:Ky}:J2 (Io k):=by
 intro x hx;rcases List.mem_cons.1 hx with rfl|hx
 ·have:∀v:Int,0<=wrap .u8 v∧wrap .u8 v<=255:=by
   intro v;simp only [wrap,IntKind.signed,IntKind.bits];simp;omega
  exact this _
 ·exact Acj _ x hx
theorem RU {l:List Int}{k:Ky}(h:IE l=some k):C2 k.h=false∧isU k.root:=by
 unfold IE at h;split at h
 ·rename_i hh;cases h;exact ⟨hh.2,XV _ _⟩
 ·cases h
structure Sg.ok (s:Sg):Prop where
 ch:isW s.chains
 pa:isW s.path
theorem Ars (s:Sg):J2 (DN s):=by
 have w8:∀v:Int,0<=wrap .u8 v∧wrap .u8 v<=255:=by
  intro v;simp only [wrap,IntKind.signed,IntKind.bits];simp;omega
 intro x hx;unfold DN at hx;rcases List.mem_cons.1 hx with rfl|hx
 ·exact w8 _
 rcases List.mem_cons.1 hx with rfl|hx
 ·exact w8 _
 rcases List.mem_append.1 hx with hx|hx
 ·exact Q2 _ x hx
 ·exact Q2 _ x hx
theorem Alb {s:Sg}(hs:s.ok)(h1:C2 s.path.length=false)(h2:Hu s.leaf s.path.length=false)(h3:s.chains.length=18):sgD (DN s)=some s:=by
 obtain ⟨leaf,ch,pa⟩:=s;obtain ⟨hc,hp⟩:=hs;simp only at h1 h2 h3 hc hp;have hb:=G7 h1;have ho:=ZO hb.1 hb.2 h2;have h16:=Anp hb.1 hb.2;have w1:wrap .u8 leaf=leaf:=Fj (by omega) (by omega)
 have w2:wrap .u8 (pa.length:Int)=pa.length:=Fj (by omega) (by omega)
 have lc:(A0 ch).length=144:=by rw [Db];omega
 have lp:(A0 pa).length=8*pa.length:=Db pa
 have len:(DN ⟨leaf,ch,pa⟩).length=2+144+8*pa.length:=by
  unfold DN;simp only [J4,Lf,lc,lp];omega
 have g0:(DN ⟨leaf,ch,pa⟩).getD 0 0=leaf:=w1;have g1:(DN ⟨leaf,ch,pa⟩).getD 1 0=pa.length:=w2;have d2:(DN ⟨leaf,ch,pa⟩).drop 2=A0 ch++A0 pa:=rfl
 have d146:(DN ⟨leaf,ch,pa⟩).drop 146=A0 pa:=by
  rw [show 146=2+144 from rfl,←List.drop_drop,d2,List.drop_left' lc]
 unfold sgD;rw [B4 ⟨by omega,by rw [g1];exact h1,by rw [g0,g1];exact h2,by rw [g1,len];omega⟩,g0,d2,d146,List.take_left' lc,AO hc,AO hp]
theorem Aav {l:List Int}{s:Sg}(h:sgD l=some s):s.ok∧s.path.length<=4∧s.chains.length=18:=by
 unfold sgD at h;split at h
 ·rename_i hh;cases h;have hb:=G7 hh.2.1;refine ⟨⟨YG _,YG _⟩,?_,?_⟩
  ·simp only [O0,List.length_drop];omega
  ·simp only [O0,List.length_take,List.length_drop];omega
 ·cases h
end
section
open Go.IntKind (wrap)
set_option maxRecDepth 100000
abbrev Oh:FuncId:=35
noncomputable def Eu (fu:Nat)(call:Ai)(a0_0 a0_1:ByteArray)(a0_2 a0_3:Int)(a0_4 a0_5 a0_6:Int)(a0_7:Bool)(a0_8 a0_9 a0_10:Int)(a0_11n:Nat)(a0_11:List PV)(a0_12n:Nat)(a0_12:List PV)(nn:Nat)(y0 y1:ByteArray)(y2:Int)(y3 y4:ByteArray)(y5 y6:Int)(y7 y8 y9:Int)(y10:Bool)(Jz Nz Tj:Int)(Zt:Nat)(Zu:List PV)(Zw:Nat)(Zv:List PV):Option At:=C1 CB Tryz.prog fu call 35 Tryz.f35 (Bw Tryz.f35) [.agg [.sc (.string a0_0),.sc (.string a0_1),.sc (.int .u64 a0_2),.sc (.int .i64 a0_3),.sc (.int .u64 a0_4),.sc (.int .i64 a0_5),.sc (.int .i64 a0_6),.sc (.bool a0_7),.sc (.int .i64 a0_8),.sc (.int .u64 a0_9),.sc (.int .i64 a0_10),.lst false 1 a0_11n a0_11,.lst false 1 a0_12n a0_12]] [.r,.l,.r,.l] nn ⟨lk [(1,(.ptr 1 0)),(13,(.agg [(.sc (.string y0)),(.sc (.string y1))])),(14,(.sc (.int .i64 y2)))],B3 [(1,(.st [(.sc (.string y3)),(.sc (.string y4)),(.sc (.int .u64 y5)),(.sc (.int .i64 y6)),(.sc (.int .u64 y7)),(.sc (.int .i64 y8)),(.sc (.int .i64 y9)),(.sc (.bool y10)),(.sc (.int .i64 Jz)),(.sc (.int .u64 Nz)),(.sc (.int .i64 Tj)),(.lst false 1 Zt Zu),(.lst false 1 Zw Zv)]))]⟩
theorem D8 (fu:Nat)(call:Ai)(a0_0 a0_1:ByteArray)(a0_2 a0_3:Int)(a0_4 a0_5 a0_6:Int)(a0_7:Bool)(a0_8 a0_9 a0_10:Int)(a0_11n:Nat)(a0_11:List PV)(a0_12n:Nat)(a0_12:List PV)(nn:Nat)(y0 y1:ByteArray)(y2:Int)(y3 y4:ByteArray)(y5 y6:Int)(y7 y8 y9:Int)(y10:Bool)(Jz Nz Tj:Int)(Zt:Nat)(Zu:List PV)(Zw:Nat)(Zv:List PV):Eu fu call a0_0 a0_1 a0_2 a0_3 a0_4 a0_5 a0_6 a0_7 a0_8 a0_9 a0_10 a0_11n a0_11 a0_12n a0_12 (nn+1) y0 y1 y2 y3 y4 y5 y6 y7 y8 y9 y10 Jz Nz Tj Zt Zu Zw Zv=(Bb (decide (y2<2)) (Ap (decide (0<=y2)&&decide (y2<2)&&true)<|Cw (List.getD [.sc (.string y0),.sc (.string y1)] (Int.toNat y2*1) .top) fun x1=>Bb (decide ((↑(ByteArray.size x1):Int)<1)) (some (At.mk [.own 1 0 [],.sc (.int .i64 9)] [])) (Bb (decide ((↑(ByteArray.size x1):Int)>32)) (some (At.mk [.own 1 0 [],.sc (.int .i64 9)] [])) (Aa (wrap .i64 (y2+1)) fun x2=>Eu fu call a0_0 a0_1 a0_2 a0_3 a0_4 a0_5 a0_6 a0_7 a0_8 a0_9 a0_10 a0_11n a0_11 a0_12n a0_12 (nn) (y0) (y1) x2 (y3) (y4) (y5) (y6) (y7) (y8) (y9) (y10) (Jz) (Nz) (Tj) (Zt) (Zu) (Zw) (Zv)))) (Ag (call 56 [.sc (.string y3)]) fun x3 x4=>Ac x4<|Ab x3 fun x5 x6=>Bm x5 fun x7=>Ac x6<|Bb (!x7) (some (At.mk [.own 1 0 [],.sc (.int .i64 6)] [])) (Ag (call 56 [.sc (.string y4)]) fun x8 x9=>Ac x9<|Ab x8 fun Ch Cm=>Bm Ch fun Dg=>Ac Cm<|Bb (!Dg) (some (At.mk [.own 1 0 [],.sc (.int .i64 6)] [])) (Ag (call 66 [.agg [.sc (.int .i64 y6),.sc (.int .u64 y7)]]) fun Do Dd=>Ac Dd<|Ab Do fun Dx D5=>Ea 1 Dx fun Em E5=>Ab D5 fun E2 Fl=>Ad .i64 E2 fun He=>Ac Fl<|Bb (He != 0) (some (At.mk [.own 1 0 [],.sc (.int .i64 He)] [])) (Bb (decide (y8<0)) (some (At.mk [.own 1 0 [],.sc (.int .i64 9)] [])) (Bb (decide (y8>y9)) (some (At.mk [.own 1 0 [],.sc (.int .i64 9)] [])) (Bb (decide (y9>1099511627776)) (some (At.mk [.own 1 0 [],.sc (.int .i64 9)] [])) (Bb (decide (Jz<0)) (some (At.mk [.own 1 0 [],.sc (.int .i64 9)] [])) (Bb (decide (Jz>2)) (some (At.mk [.own 1 0 [],.sc (.int .i64 9)] [])) (Bb (Jz != 0) (Bb (!y10) (some (At.mk [.own 1 0 [],.sc (.int .i64 4)] [])) (Ag (call 68 [.sc (.string y3)]) fun Gn Hf=>Ac Hf<|Ab Gn fun Dv Df=>Ea 3 Dv fun Fw Hs=>Ac Df<|Ag (call 68 [.sc (.string y4)]) fun Ev Jd=>Ac Jd<|Ab Ev fun Lq J1=>Ea 3 Lq fun Mk Lm=>Ac J1<|Ag (call 69 [.sc (.int .u64 y5)]) fun Mt Pu=>Ac Pu<|Ab Mt fun Rh Sa=>Ea 3 Rh fun Gv Id=>Ac Sa<|Ap (decide (0+Em*1<=E5.length))<|Ag (call 70 [.lst false 1 Em (List.take (Em*1) (List.drop 0 E5))]) fun Tv Yk=>Ac Yk<|Ab Tv fun Lo Ui=>Ea 3 Lo fun Tt Tr=>Ac Ui<|Aa (wrap .u64 y8) fun Sr=>Ag (call 69 [.sc (.int .u64 Sr)]) fun X6 Zh=>Ac Zh<|Ab X6 fun Sh Wh=>Ea 3 Sh fun Xt Xl=>Ac Wh<|Aa (wrap .u64 y9) fun Ov=>Ag (call 69 [.sc (.int .u64 Ov)]) fun Yq CU=>Ac CU<|Ab Yq fun AX CY=>Ea 3 AX fun Ud Y2=>Ac CY<|Ag (call 71 [.sc (.bool y10)]) fun CQ X1=>Ac X1<|Ab CQ fun Ue CR=>Ea 3 Ue fun Vk Xv=>Ac CR<|Aa (wrap .u64 Jz) fun W8=>Ag (call 69 [.sc (.int .u64 W8)]) fun V9 Xy=>Ac Xy<|Ab V9 fun Xr Zy=>Ea 3 Xr fun Zr CV=>Ac Zy<|Ag (call 69 [.sc (.int .u64 Nz)]) fun HD EL=>Ac EL<|Ab HD fun GB HQ=>Ea 3 GB fun CP V8=>Ac HQ<|Ap (decide (0+Fw*3<=Hs.length))<|Ap (decide (0+Mk*3<=Lm.length))<|Ap (decide (0+Gv*3<=Id.length))<|Ap (decide (0+Tt*3<=Tr.length))<|Ap (decide (0+Xt*3<=Xl.length))<|Ap (decide (0+Ud*3<=Y2.length))<|Ap (decide (0+Vk*3<=Xv.length))<|Ap (decide (0+Zr*3<=CV.length))<|Ap (decide (0+CP*3<=V8.length))<|Ag (call 67 [.lst false 1 9 [.lst false 3 Fw (List.take (Fw*3) (List.drop 0 Hs)),.lst false 3 Mk (List.take (Mk*3) (List.drop 0 Lm)),.lst false 3 Gv (List.take (Gv*3) (List.drop 0 Id)),.lst false 3 Tt (List.take (Tt*3) (List.drop 0 Tr)),.lst false 3 Xt (List.take (Xt*3) (List.drop 0 Xl)),.lst false 3 Ud (List.take (Ud*3) (List.drop 0 Y2)),.lst false 3 Vk (List.take (Vk*3) (List.drop 0 Xv)),.lst false 3 Zr (List.take (Zr*3) (List.drop 0 CV)),.lst false 3 CP (List.take (CP*3) (List.drop 0 V8))]]) fun MQ MR=>Ac MR<|Ab MQ fun YE VT=>Ea 3 YE fun SL TK=>Ab VT fun WH WI=>Ad .i64 WH fun UD=>Ac WI<|Bb (UD != 0) (some (At.mk [.own 1 0 [],.sc (.int .i64 UD)] [])) (Ap (decide (0+SL*3<=TK.length))<|Ag (call 72 [.lst false 3 SL (List.take (SL*3) (List.drop 0 TK))]) fun UC HC=>Ac HC<|Ab UC fun QJ WN=>Ea 1 QJ fun WS VU=>Ab WN fun HY x95=>Ad .i64 HY fun UH=>Ac x95<|Ap (decide (WS*1<=VU.length))<|some (At.mk [.own 1 WS (List.take (WS*1) VU),.sc (.int .i64 UH)] [])))) (Ag (call 68 [.sc (.string y3)]) fun UE YP=>Ac YP<|Ab UE fun CZ Wr=>Ea 3 CZ fun Wv Hc=>Ac Wr<|Ag (call 68 [.sc (.string y4)]) fun Jj AE=>Ac AE<|Ab Jj fun Q4 R7=>Ea 3 Q4 fun Je Xk=>Ac R7<|Ag (call 69 [.sc (.int .u64 y5)]) fun Y6 Y1=>Ac Y1<|Ab Y6 fun Y0 H4=>Ea 3 Y0 fun Ji Y8=>Ac H4<|Ap (decide (0+Em*1<=E5.length))<|Ag (call 70 [.lst false 1 Em (List.take (Em*1) (List.drop 0 E5))]) fun Zb Yf=>Ac Yf<|Ab Zb fun EH Zk=>Ea 3 EH fun W0 Xd=>Ac Zk<|Aa (wrap .u64 y8) fun Wo=>Ag (call 69 [.sc (.int .u64 Wo)]) fun Za Vb=>Ac Vb<|Ab Za fun Yl Ox=>Ea 3 Yl fun Px Ss=>Ac Ox<|Aa (wrap .u64 y9) fun AP=>Ag (call 69 [.sc (.int .u64 AP)]) fun Zs Ku=>Ac Ku<|Ab Zs fun DF Y4=>Ea 3 DF fun Vu Yu=>Ac Y4<|Ag (call 71 [.sc (.bool y10)]) fun GX EF=>Ac EF<|Ab GX fun GU DB=>Ea 3 GU fun Yg CC=>Ac DB<|Aa (wrap .u64 Jz) fun EM=>Ag (call 69 [.sc (.int .u64 EM)]) fun DT EZ=>Ac EZ<|Ab DT fun Zj BG=>Ea 3 Zj fun BK BO=>Ac BG<|Ag (call 69 [.sc (.int .u64 Nz)]) fun DA KN=>Ac KN<|Ab DA fun NU HF=>Ea 3 NU fun Wz EX=>Ac HF<|Ap (decide (0+Wv*3<=Hc.length))<|Ap (decide (0+Je*3<=Xk.length))<|Ap (decide (0+Ji*3<=Y8.length))<|Ap (decide (0+W0*3<=Xd.length))<|Ap (decide (0+Px*3<=Ss.length))<|Ap (decide (0+Vu*3<=Yu.length))<|Ap (decide (0+Yg*3<=CC.length))<|Ap (decide (0+BK*3<=BO.length))<|Ap (decide (0+Wz*3<=EX.length))<|Ag (call 67 [.lst false 1 9 [.lst false 3 Wv (List.take (Wv*3) (List.drop 0 Hc)),.lst false 3 Je (List.take (Je*3) (List.drop 0 Xk)),.lst false 3 Ji (List.take (Ji*3) (List.drop 0 Y8)),.lst false 3 W0 (List.take (W0*3) (List.drop 0 Xd)),.lst false 3 Px (List.take (Px*3) (List.drop 0 Ss)),.lst false 3 Vu (List.take (Vu*3) (List.drop 0 Yu)),.lst false 3 Yg (List.take (Yg*3) (List.drop 0 CC)),.lst false 3 BK (List.take (BK*3) (List.drop 0 BO)),.lst false 3 Wz (List.take (Wz*3) (List.drop 0 EX))]]) fun IB OB=>Ac OB<|Ab IB fun Ty NE=>Ea 3 Ty fun JP NS=>Ab NE fun TL IJ=>Ad .i64 TL fun NW=>Ac IJ<|Bb (NW != 0) (some (At.mk [.own 1 0 [],.sc (.int .i64 NW)] [])) (Ap (decide (0+JP*3<=NS.length))<|Ag (call 72 [.lst false 3 JP (List.take (JP*3) (List.drop 0 NS))]) fun TQ LM=>Ac LM<|Ab TQ fun NP UT=>Ea 1 NP fun IC NZ=>Ab UT fun SY RI=>Ad .i64 SY fun SG=>Ac RI<|Ap (decide (IC*1<=NZ.length))<|some (At.mk [.own 1 IC (List.take (IC*1) NZ),.sc (.int .i64 SG)] []))))))))))))):=by kernel_rfl
theorem Y7 (fu d:Nat)(a0_0 a0_1:ByteArray)(a0_2 a0_3:Int)(a0_4 a0_5 a0_6:Int)(a0_7:Bool)(a0_8 a0_9 a0_10:Int)(a0_11n:Nat)(a0_11:List PV)(a0_12n:Nat)(a0_12:List PV):Ae C0 Tryz.prog fu (d+1) Oh [.agg [.sc (.string a0_0),.sc (.string a0_1),.sc (.int .u64 a0_2),.sc (.int .i64 a0_3),.sc (.int .u64 a0_4),.sc (.int .i64 a0_5),.sc (.int .i64 a0_6),.sc (.bool a0_7),.sc (.int .i64 a0_8),.sc (.int .u64 a0_9),.sc (.int .i64 a0_10),.lst false 1 a0_11n a0_11,.lst false 1 a0_12n a0_12]]=(fun (call:Ai)=>Eu fu call a0_0 a0_1 a0_2 a0_3 a0_4 a0_5 a0_6 a0_7 a0_8 a0_9 a0_10 a0_11n a0_11 a0_12n a0_12 (fu) (a0_0) (a0_1) 0 (a0_0) (a0_1) (a0_2) (a0_3) (a0_4) (a0_5) (a0_6) (a0_7) (a0_8) (a0_9) (a0_10) (a0_11n) (a0_11) (a0_12n) (a0_12)) (Ae C0 Tryz.prog fu d):=by kernel_rfl
abbrev Pf:FuncId:=36
theorem Yo (fu d:Nat)(a0_0 a0_1:ByteArray)(a0_2 a0_3:Int)(a0_4 a0_5 a0_6:Int)(a0_7:Bool)(a0_8 a0_9 a0_10:Int)(a0_11n:Nat)(a0_11:List PV)(a0_12n:Nat)(a0_12:List PV):Ae C0 Tryz.prog fu (d+1) Pf [.agg [.sc (.string a0_0),.sc (.string a0_1),.sc (.int .u64 a0_2),.sc (.int .i64 a0_3),.sc (.int .u64 a0_4),.sc (.int .i64 a0_5),.sc (.int .i64 a0_6),.sc (.bool a0_7),.sc (.int .i64 a0_8),.sc (.int .u64 a0_9),.sc (.int .i64 a0_10),.lst false 1 a0_11n a0_11,.lst false 1 a0_12n a0_12]]=(fun (call:Ai)=>Ag (call 35 [.agg [.sc (.string a0_0),.sc (.string a0_1),.sc (.int .u64 a0_2),.sc (.int .i64 a0_3),.sc (.int .u64 a0_4),.sc (.int .i64 a0_5),.sc (.int .i64 a0_6),.sc (.bool a0_7),.sc (.int .i64 a0_8),.sc (.int .u64 a0_9),.sc (.int .i64 a0_10),.lst false 1 a0_11n a0_11,.lst false 1 a0_12n a0_12]]) fun x1 x2=>Ac x2<|Ab x1 fun x3 x4=>Ea 1 x3 fun x5 x6=>Ab x4 fun x7 x8=>Ad .i64 x7 fun x9=>Ac x8<|Bb (x9 != 0) (some (At.mk [.sc (.int .u64 0),.sc (.int .i64 x9)] [])) (Ap (decide (0+x5*1<=x6.length))<|Ag (call 73 [.sc (.int .i64 14),.lst false 1 x5 (List.take (x5*1) (List.drop 0 x6))]) fun Ch Cm=>Ac Cm<|Ab Ch fun Dg Do=>Ad .u64 Dg fun Dd=>Ac Do<|some (At.mk [.sc (.int .u64 Dd),.sc (.int .i64 0)] []))) (Ae C0 Tryz.prog fu d):=by kernel_rfl
abbrev Mg:FuncId:=20
theorem Vp (fu d:Nat)(a0_0 a0_1:ByteArray)(a0_2 a0_3:Int)(a0_4 a0_5 a0_6:Int)(a0_7:Bool)(a0_8 a0_9 a0_10:Int)(a0_11n:Nat)(a0_11:List PV)(a0_12n:Nat)(a0_12:List PV)(a1_0 a1_1:Int):Ae C0 Tryz.prog fu (d+1) Mg [.agg [.sc (.string a0_0),.sc (.string a0_1),.sc (.int .u64 a0_2),.sc (.int .i64 a0_3),.sc (.int .u64 a0_4),.sc (.int .i64 a0_5),.sc (.int .i64 a0_6),.sc (.bool a0_7),.sc (.int .i64 a0_8),.sc (.int .u64 a0_9),.sc (.int .i64 a0_10),.lst false 1 a0_11n a0_11,.lst false 1 a0_12n a0_12],.agg [.sc (.int .i64 a1_0),.sc (.int .u64 a1_1)]]=(fun (call:Ai)=>Ag (call 36 [.agg [.sc (.string a0_0),.sc (.string a0_1),.sc (.int .u64 a0_2),.sc (.int .i64 a0_3),.sc (.int .u64 a0_4),.sc (.int .i64 a0_5),.sc (.int .i64 a0_6),.sc (.bool a0_7),.sc (.int .i64 a0_8),.sc (.int .u64 a0_9),.sc (.int .i64 a0_10),.lst false 1 a0_11n a0_11,.lst false 1 a0_12n a0_12]]) fun x1 x2=>Ac x2<|Ab x1 fun x3 x4=>Ad .u64 x3 fun x5=>Ab x4 fun x6 x7=>Ad .i64 x6 fun x8=>Ac x7<|Bb (x8 != 0) (some (At.mk [.sc (.int .i64 x8)] [])) (Ag (call 41 [.agg [.sc (.int .i64 a1_0),.sc (.int .u64 a1_1)],.sc (.int .u64 x5),.agg [.sc (.int .i64 a0_10),.lst false 1 a0_11n a0_11,.lst false 1 a0_12n a0_12]]) fun x9 Ch=>Ac Ch<|Ab x9 fun Cm Dg=>Ad .i64 Cm fun Do=>Ac Dg<|some (At.mk [.sc (.int .i64 Do)] []))) (Ae C0 Tryz.prog fu d):=by kernel_rfl
abbrev Mc:FuncId:=30
theorem Vx (fu d:Nat)(a0_0 a0_1:ByteArray)(a0_2 a0_3:Int)(a0_4 a0_5 a0_6:Int)(a0_7:Bool)(a0_8 a0_9 a0_10:Int)(a0_11n:Nat)(a0_11:List PV)(a0_12n:Nat)(a0_12:List PV):Ae C0 Tryz.prog fu (d+1) Mc [.agg [.sc (.string a0_0),.sc (.string a0_1),.sc (.int .u64 a0_2),.sc (.int .i64 a0_3),.sc (.int .u64 a0_4),.sc (.int .i64 a0_5),.sc (.int .i64 a0_6),.sc (.bool a0_7),.sc (.int .i64 a0_8),.sc (.int .u64 a0_9),.sc (.int .i64 a0_10),.lst false 1 a0_11n a0_11,.lst false 1 a0_12n a0_12]]=(fun (call:Ai)=>Ag (call 35 [.agg [.sc (.string a0_0),.sc (.string a0_1),.sc (.int .u64 a0_2),.sc (.int .i64 a0_3),.sc (.int .u64 a0_4),.sc (.int .i64 a0_5),.sc (.int .i64 a0_6),.sc (.bool a0_7),.sc (.int .i64 a0_8),.sc (.int .u64 a0_9),.sc (.int .i64 a0_10),.lst false 1 a0_11n a0_11,.lst false 1 a0_12n a0_12]]) fun x1 x2=>Ac x2<|Ab x1 fun x3 x4=>Ea 1 x3 fun x5 x6=>Ab x4 fun x7 x8=>Ad .i64 x7 fun x9=>Ac x8<|Bb (x9 != 0) (some (At.mk [.own 1 0 [],.sc (.int .i64 x9)] [])) (Ag (call 50 [.agg [.sc (.int .i64 a0_10),.lst false 1 a0_11n a0_11,.lst false 1 a0_12n a0_12]]) fun Ch Cm=>Ac Cm<|Ab Ch fun Dg Do=>Ea 1 Dg fun Dd Dx=>Ab Do fun D5 Em=>Ad .i64 D5 fun E5=>Ac Em<|Bb (E5 != 0) (some (At.mk [.own 1 0 [],.sc (.int .i64 E5)] [])) (Ap (decide (0+Dd*1<=Dx.length))<|Ap (decide (x5*1<=x6.length)&&decide (List.length (List.take (Dd*1) (List.drop 0 Dx))=Dd*1)&&decide ((x5+Dd)*1<=1099511627776)&&decide (x5+Dd<=1099511627776))<|Aa (x5+Dd) fun E2=>Aa (List.take (x5*1) x6++List.take (Dd*1) (List.drop 0 Dx)) fun Fl=>Ap (decide (E2*1<=Fl.length))<|some (At.mk [.own 1 E2 (List.take (E2*1) Fl),.sc (.int .i64 0)] [])))) (Ae C0 Tryz.prog fu d):=by kernel_rfl
abbrev Ly:FuncId:=52
noncomputable def G3 (fu:Nat)(call:Ai)(a0n:Nat)(a0:List PV)(nn y0:Nat)(y1:List PV):Option At:=C1 CB Tryz.prog fu call 52 Tryz.f52 (Bw Tryz.f52) [.lst false 3 a0n a0] [] nn ⟨lk [(0,(.lst false 3 y0 y1))],B3 []⟩
noncomputable def Ke (fu:Nat)(call:Ai)(a0n:Nat)(a0:List PV)(nn y0:Nat)(y1 y2:List PV):Option At:=C1 CB Tryz.prog fu call 52 Tryz.f52 (Bw Tryz.f52) [.lst false 3 a0n a0] [.r] nn ⟨lk [(0,(.lst false 3 y0 y1)),(3,(.ptr 3 0))],B3 [(3,(.ar false y2))]⟩
noncomputable def Fi (fu:Nat)(call:Ai)(a0n:Nat)(a0:List PV)(nn y0:Nat)(y1:List PV)(y2 y3:Int)(y4:List PV):Option At:=C1 CB Tryz.prog fu call 52 Tryz.f52 (Bw Tryz.f52) [.lst false 3 a0n a0] [.r,.r,.r,.l,.r,.l] nn ⟨lk [(3,(.ptr 3 0)),(10,(.lst false 3 y0 y1)),(11,(.sc (.int .i64 y2))),(12,(.sc (.int .i64 y3)))],B3 [(3,(.ar false y4))]⟩
theorem Sd (fu:Nat)(call:Ai)(a0n:Nat)(a0:List PV)(nn:Nat)(hnn:0<nn)(y0:Nat)(y1:List PV):G3 fu call a0n a0 nn y0 y1=(Ke fu call a0n a0 (fu) (y0) (y1) ([.sc (.int .i64 5),.sc (.int .i64 4),.sc (.int .i64 4),.sc (.int .i64 1),.sc (.int .i64 3),.sc (.int .i64 1),.sc (.int .i64 1),.sc (.int .i64 7),.sc (.int .i64 1),.sc (.int .i64 1)])):=by cases nn with|zero=>exact absurd hnn (Nat.lt_irrefl 0)|succ nn=>kernel_rfl
theorem Rk (fu:Nat)(call:Ai)(a0n:Nat)(a0:List PV)(nn:Nat)(hnn:0<nn)(y0:Nat)(y1 y2:List PV):Ke fu call a0n a0 nn y0 y1 y2=(Bb ((↑y0:Int) != 10) (some (At.mk [.sc (.bool false)] [])) (Fi fu call a0n a0 (fu) (y0) (y1) ((↑y0:Int)) 0 (y2))):=by cases nn with|zero=>exact absurd hnn (Nat.lt_irrefl 0)|succ nn=>kernel_rfl
theorem Iz (fu:Nat)(call:Ai)(a0n:Nat)(a0:List PV)(nn y0:Nat)(y1:List PV)(y2 y3:Int)(y4:List PV):Fi fu call a0n a0 (nn+1) y0 y1 y2 y3 y4=(Bb (decide (y3<y2)) (Ap (decide (0<=y3)&&decide (y3<(↑y0:Int)))<|Ad .i64 (List.getD y1 (Int.toNat y3*3) .top) fun x1=>Ad .u64 (List.getD y1 (Int.toNat y3*3+1) .top) fun x2=>Cw (List.getD y1 (Int.toNat y3*3+1+1) .top) fun x3=>Ap (decide (0<=y3)&&decide (y3<10))<|Ad .i64 (List.getD y4 (0+Int.toNat y3*1) .top) fun x4=>Bb (x1 != x4) (some (At.mk [.sc (.bool false)] [])) (Aa (wrap .i64 (y3+1)) fun x5=>Fi fu call a0n a0 (nn) (y0) (y1) (y2) x5 (y4))) (some (At.mk [.sc (.bool true)] []))):=by kernel_rfl
theorem Vr (fu d a0n:Nat)(a0:List PV):Ae C0 Tryz.prog fu (d+1) Ly [.lst false 3 a0n a0]=(fun (call:Ai)=>G3 fu call a0n a0 (fu) (a0n) (a0)) (Ae C0 Tryz.prog fu d):=by kernel_rfl
abbrev Hh:FuncId:=31
theorem Un (fu d a0n:Nat)(a0:List PV):Ae C0 Tryz.prog fu (d+1) Hh [.lst false 1 a0n a0]=(fun (call:Ai)=>Bb (decide ((↑a0n:Int)>512)) (some (At.mk [.agg [.sc (.string (ByteArray.mk #[])),.sc (.string (ByteArray.mk #[])),.sc (.int .u64 0),.sc (.int .i64 0),.sc (.int .u64 0),.sc (.int .i64 0),.sc (.int .i64 0),.sc (.bool false),.sc (.int .i64 0),.sc (.int .u64 0),.sc (.int .i64 0),.lst false 1 0 [],.lst false 1 0 []],.sc (.int .i64 8)] [])) (Ag (call 51 [.lst false 1 a0n a0]) fun x1 x2=>Ac x2<|Ab x1 fun x3 x4=>Ea 3 x3 fun x5 x6=>Ab x4 fun x7 x8=>Ad .i64 x7 fun x9=>Ab x8 fun Ch Cm=>Ad .i64 Ch fun Dg=>Ac Cm<|Bb (Dg != 0) (some (At.mk [.agg [.sc (.string (ByteArray.mk #[])),.sc (.string (ByteArray.mk #[])),.sc (.int .u64 0),.sc (.int .i64 0),.sc (.int .u64 0),.sc (.int .i64 0),.sc (.int .i64 0),.sc (.bool false),.sc (.int .i64 0),.sc (.int .u64 0),.sc (.int .i64 0),.lst false 1 0 [],.lst false 1 0 []],.sc (.int .i64 2)] [])) (Ap (decide (0+x5*3<=x6.length))<|Ag (call 52 [.lst false 3 x5 (List.take (x5*3) (List.drop 0 x6))]) fun Do Dd=>Ac Dd<|Ab Do fun Dx D5=>Bm Dx fun Em=>Ac D5<|Bb (!Em) (some (At.mk [.agg [.sc (.string (ByteArray.mk #[])),.sc (.string (ByteArray.mk #[])),.sc (.int .u64 0),.sc (.int .i64 0),.sc (.int .u64 0),.sc (.int .i64 0),.sc (.int .i64 0),.sc (.bool false),.sc (.int .i64 0),.sc (.int .u64 0),.sc (.int .i64 0),.lst false 1 0 [],.lst false 1 0 []],.sc (.int .i64 2)] [])) (Ap (decide (4<(↑x5:Int)))<|Cw (List.getD x6 14 .top) fun E5=>Ap (decide (ByteArray.size E5<=1099511627776))<|Ap (decide (0+ByteArray.size E5*1<=List.length (Di E5)))<|Ag (call 53 [.lst false 1 (ByteArray.size E5) (List.take (ByteArray.size E5*1) (List.drop 0 (Di E5)))]) fun E2 Fl=>Ac Fl<|Ab E2 fun He Gn=>Dh He fun Hf=>Ab Hf fun Dv Df=>Ad .i64 Dv fun Fw=>Ab Df fun Hs Ev=>Ad .u64 Hs fun Jd=>Ac Ev<|Ab Gn fun Lq J1=>Ad .i64 Lq fun Mk=>Ac J1<|Bb (Mk != 0) (some (At.mk [.agg [.sc (.string (ByteArray.mk #[])),.sc (.string (ByteArray.mk #[])),.sc (.int .u64 0),.sc (.int .i64 0),.sc (.int .u64 0),.sc (.int .i64 0),.sc (.int .i64 0),.sc (.bool false),.sc (.int .i64 0),.sc (.int .u64 0),.sc (.int .i64 0),.lst false 1 0 [],.lst false 1 0 []],.sc (.int .i64 2)] [])) (Ap (decide (0<=x9))<|Ap (decide (Int.toNat x9<=a0n)&&decide (a0n<=a0n))<|Aa (a0n-Int.toNat x9) fun Lm=>Aa (List.take (Lm*1) (List.drop (Int.toNat x9*1) a0)) fun Mt=>Ag (call 54 [.lst false 1 Lm Mt]) fun Pu Rh=>Ac Rh<|Ab Pu fun Sa Gv=>Dh Sa fun Id=>Ab Id fun Tv Yk=>Ad .i64 Tv fun Lo=>Ab Yk fun Ui Tt=>Ea 1 Ui fun Tr Sr=>Ab Tt fun X6 Zh=>Ea 1 X6 fun Sh Wh=>Ac Zh<|Ab Gv fun Xt Xl=>Ad .i64 Xt fun Ov=>Ac Xl<|Bb (Ov != 0) (some (At.mk [.agg [.sc (.string (ByteArray.mk #[])),.sc (.string (ByteArray.mk #[])),.sc (.int .u64 0),.sc (.int .i64 0),.sc (.int .u64 0),.sc (.int .i64 0),.sc (.int .i64 0),.sc (.bool false),.sc (.int .i64 0),.sc (.int .u64 0),.sc (.int .i64 0),.lst false 1 0 [],.lst false 1 0 []],.sc (.int .i64 2)] [])) (Ap (decide (1<(↑x5:Int)))<|Cw (List.getD x6 5 .top) fun Yq=>Ap (decide (2<(↑x5:Int)))<|Cw (List.getD x6 8 .top) fun CU=>Ap (decide (3<(↑x5:Int)))<|Ad .u64 (List.getD x6 10 .top) fun AX=>Ap (decide (5<(↑x5:Int)))<|Ad .u64 (List.getD x6 16 .top) fun CY=>Aa (wrap .i64 CY) fun Ud=>Ap (decide (6<(↑x5:Int)))<|Ad .u64 (List.getD x6 19 .top) fun Y2=>Aa (wrap .i64 Y2) fun CQ=>Ap (decide (7<(↑x5:Int)))<|Ad .u64 (List.getD x6 22 .top) fun X1=>Ap (decide (8<(↑x5:Int)))<|Ad .u64 (List.getD x6 25 .top) fun Ue=>Aa (wrap .i64 Ue) fun CR=>Ap (decide (9<(↑x5:Int)))<|Ad .u64 (List.getD x6 28 .top) fun Vk=>Ap (decide (0+Tr*1<=Sr.length))<|Ap (decide (0+Sh*1<=Wh.length))<|Ag (call 30 [.agg [.sc (.string Yq),.sc (.string CU),.sc (.int .u64 AX),.sc (.int .i64 Fw),.sc (.int .u64 Jd),.sc (.int .i64 Ud),.sc (.int .i64 CQ),.sc (.bool (X1==1)),.sc (.int .i64 CR),.sc (.int .u64 Vk),.sc (.int .i64 Lo),.lst false 1 Tr (List.take (Tr*1) (List.drop 0 Sr)),.lst false 1 Sh (List.take (Sh*1) (List.drop 0 Wh))]]) fun Xv W8=>Ac W8<|Ab Xv fun V9 Xy=>Ea 1 V9 fun Xr Zy=>Ab Xy fun Zr CV=>Ad .i64 Zr fun HD=>Ac CV<|Bb (HD != 0) (some (At.mk [.agg [.sc (.string (ByteArray.mk #[])),.sc (.string (ByteArray.mk #[])),.sc (.int .u64 0),.sc (.int .i64 0),.sc (.int .u64 0),.sc (.int .i64 0),.sc (.int .i64 0),.sc (.bool false),.sc (.int .i64 0),.sc (.int .u64 0),.sc (.int .i64 0),.lst false 1 0 [],.lst false 1 0 []],.sc (.int .i64 2)] [])) (Ap (decide (0+Xr*1<=Zy.length))<|Ag (call 55 [.lst false 1 Xr (List.take (Xr*1) (List.drop 0 Zy)),.lst false 1 a0n a0]) fun EL GB=>Ac GB<|Ab EL fun HQ CP=>Bm HQ fun V8=>Ac CP<|Bb (!V8) (some (At.mk [.agg [.sc (.string (ByteArray.mk #[])),.sc (.string (ByteArray.mk #[])),.sc (.int .u64 0),.sc (.int .i64 0),.sc (.int .u64 0),.sc (.int .i64 0),.sc (.int .i64 0),.sc (.bool false),.sc (.int .i64 0),.sc (.int .u64 0),.sc (.int .i64 0),.lst false 1 0 [],.lst false 1 0 []],.sc (.int .i64 2)] [])) (Ap (decide (0+Tr*1<=Sr.length))<|Ap (decide (0+Sh*1<=Wh.length))<|some (At.mk [.agg [.sc (.string Yq),.sc (.string CU),.sc (.int .u64 AX),.sc (.int .i64 Fw),.sc (.int .u64 Jd),.sc (.int .i64 Ud),.sc (.int .i64 CQ),.sc (.bool (X1==1)),.sc (.int .i64 CR),.sc (.int .u64 Vk),.sc (.int .i64 Lo),.lst false 1 Tr (List.take (Tr*1) (List.drop 0 Sr)),.lst false 1 Sh (List.take (Sh*1) (List.drop 0 Wh))],.sc (.int .i64 0)] []))))))))) (Ae C0 Tryz.prog fu d):=by kernel_rfl
abbrev I8:FuncId:=47
noncomputable def Cg (fu:Nat)(call:Ai)(a0_0 a0_1:ByteArray)(a0_2 a0_3:Int)(a0_4 a0_5 a0_6:Int)(a0_7:Bool)(a0_8 a0_9 a0_10:Int)(a0_11n:Nat)(a0_11:List PV)(a0_12n:Nat)(a0_12:List PV)(a1:Int)(a2n:Nat)(a2:List PV)(a3:Int)(nn:Nat)(y0:Int)(y1:Nat)(y2:List PV)(y3 y4:Int)(y5 y6:ByteArray)(y7 y8:Int)(y9 y10 Jz:Int)(Nz:Bool)(Tj Zt Zu:Int)(Zw:Nat)(Zv:List PV)(GZ:Nat)(UF:List PV):Option At:=C1 CB Tryz.prog fu call 47 Tryz.f47 (Bw Tryz.f47) [.agg [.sc (.string a0_0),.sc (.string a0_1),.sc (.int .u64 a0_2),.sc (.int .i64 a0_3),.sc (.int .u64 a0_4),.sc (.int .i64 a0_5),.sc (.int .i64 a0_6),.sc (.bool a0_7),.sc (.int .i64 a0_8),.sc (.int .u64 a0_9),.sc (.int .i64 a0_10),.lst false 1 a0_11n a0_11,.lst false 1 a0_12n a0_12],.sc (.int .i64 a1),.lst false 3 a2n a2,.sc (.int .i64 a3)] [.r,.r,.r,.r,.l,.r,.l] nn ⟨lk [(3,(.sc (.int .i64 y0))),(4,(.ptr 4 0)),(45,(.lst false 3 y1 y2)),(46,(.sc (.int .i64 y3))),(47,(.sc (.int .i64 y4)))],B3 [(4,(.st [(.sc (.string y5)),(.sc (.string y6)),(.sc (.int .u64 y7)),(.sc (.int .i64 y8)),(.sc (.int .u64 y9)),(.sc (.int .i64 y10)),(.sc (.int .i64 Jz)),(.sc (.bool Nz)),(.sc (.int .i64 Tj)),(.sc (.int .u64 Zt)),(.sc (.int .i64 Zu)),(.lst false 1 Zw Zv),(.lst false 1 GZ UF)]))]⟩
theorem Hm (fu:Nat)(call:Ai)(a0_0 a0_1:ByteArray)(a0_2 a0_3:Int)(a0_4 a0_5 a0_6:Int)(a0_7:Bool)(a0_8 a0_9 a0_10:Int)(a0_11n:Nat)(a0_11:List PV)(a0_12n:Nat)(a0_12:List PV)(a1:Int)(a2n:Nat)(a2:List PV)(a3:Int)(nn:Nat)(y0:Int)(y1:Nat)(y2:List PV)(y3 y4:Int)(y5 y6:ByteArray)(y7 y8:Int)(y9 y10 Jz:Int)(Nz:Bool)(Tj Zt Zu:Int)(Zw:Nat)(Zv:List PV)(GZ:Nat)(UF:List PV):Cg fu call a0_0 a0_1 a0_2 a0_3 a0_4 a0_5 a0_6 a0_7 a0_8 a0_9 a0_10 a0_11n a0_11 a0_12n a0_12 a1 a2n a2 a3 (nn+1) y0 y1 y2 y3 y4 y5 y6 y7 y8 y9 y10 Jz Nz Tj Zt Zu Zw Zv GZ UF=(Bb (decide (y4<y3)) (Ap (decide (0<=y4)&&decide (y4<(↑y1:Int)))<|Cw (List.getD y2 (Int.toNat y4*3) .top) fun Cm=>Ad .u64 (List.getD y2 (Int.toNat y4*3+1) .top) fun Dg=>Ad .i64 (List.getD y2 (Int.toNat y4*3+1+1) .top) fun Do=>Bb (Array.toList (ByteArray.data Cm)==Array.toList (ByteArray.data y6)) (Bb (Dg==y7) (Bb (decide (Do<=y0)) (some (At.mk [.sc (.int .i64 39)] [])) (Aa (wrap .i64 (y4+1)) fun Dd=>Cg fu call a0_0 a0_1 a0_2 a0_3 a0_4 a0_5 a0_6 a0_7 a0_8 a0_9 a0_10 a0_11n a0_11 a0_12n a0_12 a1 a2n a2 a3 (nn) (y0) (y1) (y2) (y3) Dd (y5) (y6) (y7) (y8) (y9) (y10) (Jz) (Nz) (Tj) (Zt) (Zu) (Zw) (Zv) (GZ) (UF))) (Aa (wrap .i64 (y4+1)) fun Dx=>Cg fu call a0_0 a0_1 a0_2 a0_3 a0_4 a0_5 a0_6 a0_7 a0_8 a0_9 a0_10 a0_11n a0_11 a0_12n a0_12 a1 a2n a2 a3 (nn) (y0) (y1) (y2) (y3) Dx (y5) (y6) (y7) (y8) (y9) (y10) (Jz) (Nz) (Tj) (Zt) (Zu) (Zw) (Zv) (GZ) (UF))) (Aa (wrap .i64 (y4+1)) fun D5=>Cg fu call a0_0 a0_1 a0_2 a0_3 a0_4 a0_5 a0_6 a0_7 a0_8 a0_9 a0_10 a0_11n a0_11 a0_12n a0_12 a1 a2n a2 a3 (nn) (y0) (y1) (y2) (y3) D5 (y5) (y6) (y7) (y8) (y9) (y10) (Jz) (Nz) (Tj) (Zt) (Zu) (Zw) (Zv) (GZ) (UF))) (some (At.mk [.sc (.int .i64 0)] []))):=by kernel_rfl
theorem R6 (fu d:Nat)(a0_0 a0_1:ByteArray)(a0_2 a0_3:Int)(a0_4 a0_5 a0_6:Int)(a0_7:Bool)(a0_8 a0_9 a0_10:Int)(a0_11n:Nat)(a0_11:List PV)(a0_12n:Nat)(a0_12:List PV)(a1:Int)(a2n:Nat)(a2:List PV)(a3:Int):Ae C0 Tryz.prog fu (d+1) I8 [.agg [.sc (.string a0_0),.sc (.string a0_1),.sc (.int .u64 a0_2),.sc (.int .i64 a0_3),.sc (.int .u64 a0_4),.sc (.int .i64 a0_5),.sc (.int .i64 a0_6),.sc (.bool a0_7),.sc (.int .i64 a0_8),.sc (.int .u64 a0_9),.sc (.int .i64 a0_10),.lst false 1 a0_11n a0_11,.lst false 1 a0_12n a0_12],.sc (.int .i64 a1),.lst false 3 a2n a2,.sc (.int .i64 a3)]=(fun (call:Ai)=>Ag (call 35 [.agg [.sc (.string a0_0),.sc (.string a0_1),.sc (.int .u64 a0_2),.sc (.int .i64 a0_3),.sc (.int .u64 a0_4),.sc (.int .i64 a0_5),.sc (.int .i64 a0_6),.sc (.bool a0_7),.sc (.int .i64 a0_8),.sc (.int .u64 a0_9),.sc (.int .i64 a0_10),.lst false 1 a0_11n a0_11,.lst false 1 a0_12n a0_12]]) fun x1 x2=>Ac x2<|Ab x1 fun x3 x4=>Ea 1 x3 fun x5 x6=>Ab x4 fun x7 x8=>Ad .i64 x7 fun x9=>Ac x8<|Bb (x9 != 0) (some (At.mk [.sc (.int .i64 x9)] [])) (Bb (decide (a3<a0_5)) (some (At.mk [.sc (.int .i64 38)] [])) (Bb (decide (a3>a0_6)) (some (At.mk [.sc (.int .i64 38)] [])) (Bb (decide (a1>0)) (Bb (!a0_7) (some (At.mk [.sc (.int .i64 38)] [])) (Aa (wrap .i64 (a1-1)) fun Ch=>Bb (decide (a0_8<Ch)) (some (At.mk [.sc (.int .i64 38)] [])) (Cg fu call a0_0 a0_1 a0_2 a0_3 a0_4 a0_5 a0_6 a0_7 a0_8 a0_9 a0_10 a0_11n a0_11 a0_12n a0_12 a1 a2n a2 a3 (fu) (a3) (a2n) (a2) ((↑a2n:Int)) 0 (a0_0) (a0_1) (a0_2) (a0_3) (a0_4) (a0_5) (a0_6) (a0_7) (a0_8) (a0_9) (a0_10) (a0_11n) (a0_11) (a0_12n) (a0_12)))) (Cg fu call a0_0 a0_1 a0_2 a0_3 a0_4 a0_5 a0_6 a0_7 a0_8 a0_9 a0_10 a0_11n a0_11 a0_12n a0_12 a1 a2n a2 a3 (fu) (a3) (a2n) (a2) ((↑a2n:Int)) 0 (a0_0) (a0_1) (a0_2) (a0_3) (a0_4) (a0_5) (a0_6) (a0_7) (a0_8) (a0_9) (a0_10) (a0_11n) (a0_11) (a0_12n) (a0_12)))))) (Ae C0 Tryz.prog fu d):=by kernel_rfl
abbrev Ph:FuncId:=27
noncomputable def F8 (fu:Nat)(call:Ai)(a0n:Nat)(a0:List PV)(a1n:Nat)(a1:List PV)(a2n:Nat)(a2:List PV)(a3:Int)(nn y0:Nat)(y1:List PV)(y2:Nat)(y3:List PV)(y4:Nat)(y5:List PV)(y6:Int)(y7:Nat)(y8:List PV)(y9 y10:Int):Option At:=C1 CB Tryz.prog fu call 27 Tryz.f27 (Bw Tryz.f27) [.lst false 13 a0n a0,.lst false 3 a1n a1,.lst false 3 a2n a2,.sc (.int .i64 a3)] [.r,.r,.r,.l,.r,.l] nn ⟨lk [(0,(.lst false 13 y0 y1)),(1,(.lst false 3 y2 y3)),(2,(.lst false 3 y4 y5)),(3,(.sc (.int .i64 y6))),(31,(.lst false 13 y7 y8)),(32,(.sc (.int .i64 y9))),(33,(.sc (.int .i64 y10)))],B3 []⟩
noncomputable def Dz (fu:Nat)(call:Ai)(a0n:Nat)(a0:List PV)(a1n:Nat)(a1:List PV)(a2n:Nat)(a2:List PV)(a3:Int)(nn y0:Nat)(y1:List PV)(y2 y3:Int)(y4 y5:ByteArray)(y6 y7:Int)(y8 y9 y10:Int)(Jz:Bool)(Nz Tj Zt:Int)(Zu:Nat)(Zw:List PV)(Zv:Nat)(GZ:List PV):Option At:=C1 CB Tryz.prog fu call 27 Tryz.f27 (Bw Tryz.f27) [.lst false 13 a0n a0,.lst false 3 a1n a1,.lst false 3 a2n a2,.sc (.int .i64 a3)] [.r,.r,.r,.r,.r,.l,.r,.l] nn ⟨lk [(14,(.ptr 14 0)),(78,(.lst false 3 y0 y1)),(79,(.sc (.int .i64 y2))),(80,(.sc (.int .i64 y3)))],B3 [(14,(.st [(.sc (.string y4)),(.sc (.string y5)),(.sc (.int .u64 y6)),(.sc (.int .i64 y7)),(.sc (.int .u64 y8)),(.sc (.int .i64 y9)),(.sc (.int .i64 y10)),(.sc (.bool Jz)),(.sc (.int .i64 Nz)),(.sc (.int .u64 Tj)),(.sc (.int .i64 Zt)),(.lst false 1 Zu Zw),(.lst false 1 Zv GZ)]))]⟩
theorem Ka (fu:Nat)(call:Ai)(a0n:Nat)(a0:List PV)(a1n:Nat)(a1:List PV)(a2n:Nat)(a2:List PV)(a3:Int)(nn y0:Nat)(y1:List PV)(y2:Nat)(y3:List PV)(y4:Nat)(y5:List PV)(y6:Int)(y7:Nat)(y8:List PV)(y9 y10:Int):F8 fu call a0n a0 a1n a1 a2n a2 a3 (nn+1) y0 y1 y2 y3 y4 y5 y6 y7 y8 y9 y10=(Bb (decide (y10<y9)) (Ap (decide (0<=y10)&&decide (y10<(↑y7:Int)))<|Cw (List.getD y8 (Int.toNat y10*13) .top) fun x1=>Cw (List.getD y8 (Int.toNat y10*13+1) .top) fun x2=>Ad .u64 (List.getD y8 (Int.toNat y10*13+1+1) .top) fun x3=>Ad .i64 (List.getD y8 (Int.toNat y10*13+1+1+1) .top) fun x4=>Ad .u64 (List.getD y8 (Int.toNat y10*13+1+1+1+1) .top) fun x5=>Ad .i64 (List.getD y8 (Int.toNat y10*13+1+1+1+1+1) .top) fun x6=>Ad .i64 (List.getD y8 (Int.toNat y10*13+1+1+1+1+1+1) .top) fun x7=>Bm (List.getD y8 (Int.toNat y10*13+1+1+1+1+1+1+1) .top) fun x8=>Ad .i64 (List.getD y8 (Int.toNat y10*13+1+1+1+1+1+1+1+1) .top) fun x9=>Ad .u64 (List.getD y8 (Int.toNat y10*13+1+1+1+1+1+1+1+1+1) .top) fun Ch=>Ad .i64 (List.getD y8 (Int.toNat y10*13+1+1+1+1+1+1+1+1+1+1) .top) fun Cm=>Ha 1 (List.getD y8 (Int.toNat y10*13+1+1+1+1+1+1+1+1+1+1+1) .top) fun Dg Do Dd=>Ha 1 (List.getD y8 (Int.toNat y10*13+1+1+1+1+1+1+1+1+1+1+1+1) .top) fun Dx D5 Em=>Ag (call 47 [.agg [.sc (.string x1),.sc (.string x2),.sc (.int .u64 x3),.sc (.int .i64 x4),.sc (.int .u64 x5),.sc (.int .i64 x6),.sc (.int .i64 x7),.sc (.bool x8),.sc (.int .i64 x9),.sc (.int .u64 Ch),.sc (.int .i64 Cm),.lst false 1 Do Dd,.lst false 1 D5 Em],.sc (.int .i64 y10),.lst false 3 y4 y5,.sc (.int .i64 y6)]) fun E5 E2=>Ac E2<|Ab E5 fun Fl He=>Ad .i64 Fl fun Gn=>Ac He<|Bb (Gn != 0) (some (At.mk [.sc (.int .i64 0),.sc (.int .i64 Gn)] [])) (Aa (wrap .i64 ((↑y0:Int)-1)) fun Hf=>Bb (y10==Hf) (Aa (wrap .i64 ((↑y0:Int)-1)) fun Dv=>Ap (decide (0<=Dv)&&decide (Dv<(↑y0:Int)))<|Cw (List.getD y1 (Int.toNat Dv*13) .top) fun Df=>Cw (List.getD y1 (Int.toNat Dv*13+1) .top) fun Fw=>Ad .u64 (List.getD y1 (Int.toNat Dv*13+1+1) .top) fun Hs=>Ad .i64 (List.getD y1 (Int.toNat Dv*13+1+1+1) .top) fun Ev=>Ad .u64 (List.getD y1 (Int.toNat Dv*13+1+1+1+1) .top) fun Jd=>Ad .i64 (List.getD y1 (Int.toNat Dv*13+1+1+1+1+1) .top) fun Lq=>Ad .i64 (List.getD y1 (Int.toNat Dv*13+1+1+1+1+1+1) .top) fun J1=>Bm (List.getD y1 (Int.toNat Dv*13+1+1+1+1+1+1+1) .top) fun Mk=>Ad .i64 (List.getD y1 (Int.toNat Dv*13+1+1+1+1+1+1+1+1) .top) fun Lm=>Ad .u64 (List.getD y1 (Int.toNat Dv*13+1+1+1+1+1+1+1+1+1) .top) fun Mt=>Ad .i64 (List.getD y1 (Int.toNat Dv*13+1+1+1+1+1+1+1+1+1+1) .top) fun Pu=>Ha 1 (List.getD y1 (Int.toNat Dv*13+1+1+1+1+1+1+1+1+1+1+1) .top) fun Rh Sa Gv=>Ha 1 (List.getD y1 (Int.toNat Dv*13+1+1+1+1+1+1+1+1+1+1+1+1) .top) fun Id Tv Yk=>Dz fu call a0n a0 a1n a1 a2n a2 a3 (fu) (y2) (y3) ((↑y2:Int)) 0 Df Fw Hs Ev Jd Lq J1 Mk Lm Mt Pu Sa Gv Tv Yk) (Aa (wrap .i64 (y10+1)) fun Lo=>Ap (decide (0<=Lo)&&decide (Lo<(↑y0:Int)))<|Cw (List.getD y1 (Int.toNat Lo*13+0) .top) fun Ui=>Bb (!Array.toList (ByteArray.data x2)==Array.toList (ByteArray.data Ui)) (some (At.mk [.sc (.int .i64 0),.sc (.int .i64 38)] [])) (Aa (wrap .i64 (y10+1)) fun Tt=>Ap (decide (0<=Tt)&&decide (Tt<(↑y0:Int)))<|Ad .i64 (List.getD y1 (Int.toNat Tt*13+3) .top) fun Tr=>Ad .u64 (List.getD y1 (Int.toNat Tt*13+3+1) .top) fun Sr=>Ag (call 20 [.agg [.sc (.string x1),.sc (.string x2),.sc (.int .u64 x3),.sc (.int .i64 x4),.sc (.int .u64 x5),.sc (.int .i64 x6),.sc (.int .i64 x7),.sc (.bool x8),.sc (.int .i64 x9),.sc (.int .u64 Ch),.sc (.int .i64 Cm),.lst false 1 Do Dd,.lst false 1 D5 Em],.agg [.sc (.int .i64 Tr),.sc (.int .u64 Sr)]]) fun X6 Zh=>Ac Zh<|Ab X6 fun Sh Wh=>Ad .i64 Sh fun Xt=>Ac Wh<|Bb (Xt != 0) (some (At.mk [.sc (.int .i64 0),.sc (.int .i64 Xt)] [])) (Aa (wrap .i64 (y10+1)) fun Xl=>F8 fu call a0n a0 a1n a1 a2n a2 a3 (nn) (y0) (y1) (y2) (y3) (y4) (y5) (y6) (y7) (y8) (y9) Xl))))) (Aa (wrap .i64 ((↑y0:Int)-1)) fun Ov=>Ap (decide (0<=Ov)&&decide (Ov<(↑y0:Int)))<|Cw (List.getD y1 (Int.toNat Ov*13) .top) fun Yq=>Cw (List.getD y1 (Int.toNat Ov*13+1) .top) fun CU=>Ad .u64 (List.getD y1 (Int.toNat Ov*13+1+1) .top) fun AX=>Ad .i64 (List.getD y1 (Int.toNat Ov*13+1+1+1) .top) fun CY=>Ad .u64 (List.getD y1 (Int.toNat Ov*13+1+1+1+1) .top) fun Ud=>Ad .i64 (List.getD y1 (Int.toNat Ov*13+1+1+1+1+1) .top) fun Y2=>Ad .i64 (List.getD y1 (Int.toNat Ov*13+1+1+1+1+1+1) .top) fun CQ=>Bm (List.getD y1 (Int.toNat Ov*13+1+1+1+1+1+1+1) .top) fun X1=>Ad .i64 (List.getD y1 (Int.toNat Ov*13+1+1+1+1+1+1+1+1) .top) fun Ue=>Ad .u64 (List.getD y1 (Int.toNat Ov*13+1+1+1+1+1+1+1+1+1) .top) fun CR=>Ad .i64 (List.getD y1 (Int.toNat Ov*13+1+1+1+1+1+1+1+1+1+1) .top) fun Vk=>Ha 1 (List.getD y1 (Int.toNat Ov*13+1+1+1+1+1+1+1+1+1+1+1) .top) fun Xv W8 V9=>Ha 1 (List.getD y1 (Int.toNat Ov*13+1+1+1+1+1+1+1+1+1+1+1+1) .top) fun Xy Xr Zy=>Dz fu call a0n a0 a1n a1 a2n a2 a3 (fu) (y2) (y3) ((↑y2:Int)) 0 Yq CU AX CY Ud Y2 CQ X1 Ue CR Vk W8 V9 Xr Zy)):=by kernel_rfl
theorem Kd (fu:Nat)(call:Ai)(a0n:Nat)(a0:List PV)(a1n:Nat)(a1:List PV)(a2n:Nat)(a2:List PV)(a3:Int)(nn y0:Nat)(y1:List PV)(y2 y3:Int)(y4 y5:ByteArray)(y6 y7:Int)(y8 y9 y10:Int)(Jz:Bool)(Nz Tj Zt:Int)(Zu:Nat)(Zw:List PV)(Zv:Nat)(GZ:List PV):Dz fu call a0n a0 a1n a1 a2n a2 a3 (nn+1) y0 y1 y2 y3 y4 y5 y6 y7 y8 y9 y10 Jz Nz Tj Zt Zu Zw Zv GZ=(Bb (decide (y3<y2)) (Ap (decide (0<=y3)&&decide (y3<(↑y0:Int)))<|Cw (List.getD y1 (Int.toNat y3*3) .top) fun Zr=>Ad .i64 (List.getD y1 (Int.toNat y3*3+1) .top) fun CV=>Ad .u64 (List.getD y1 (Int.toNat y3*3+1+1) .top) fun HD=>Bb (Array.toList (ByteArray.data Zr)==Array.toList (ByteArray.data y5)) (Ag (call 20 [.agg [.sc (.string y4),.sc (.string y5),.sc (.int .u64 y6),.sc (.int .i64 y7),.sc (.int .u64 y8),.sc (.int .i64 y9),.sc (.int .i64 y10),.sc (.bool Jz),.sc (.int .i64 Nz),.sc (.int .u64 Tj),.sc (.int .i64 Zt),.lst false 1 Zu Zw,.lst false 1 Zv GZ],.agg [.sc (.int .i64 CV),.sc (.int .u64 HD)]]) fun EL GB=>Ac GB<|Ab EL fun HQ CP=>Ad .i64 HQ fun V8=>Ac CP<|Bb (V8==0) (some (At.mk [.sc (.int .i64 y3),.sc (.int .i64 0)] [])) (Aa (wrap .i64 (y3+1)) fun MQ=>Dz fu call a0n a0 a1n a1 a2n a2 a3 (nn) (y0) (y1) (y2) MQ (y4) (y5) (y6) (y7) (y8) (y9) (y10) (Jz) (Nz) (Tj) (Zt) (Zu) (Zw) (Zv) (GZ))) (Aa (wrap .i64 (y3+1)) fun MR=>Dz fu call a0n a0 a1n a1 a2n a2 a3 (nn) (y0) (y1) (y2) MR (y4) (y5) (y6) (y7) (y8) (y9) (y10) (Jz) (Nz) (Tj) (Zt) (Zu) (Zw) (Zv) (GZ))) (some (At.mk [.sc (.int .i64 0),.sc (.int .i64 38)] []))):=by kernel_rfl
theorem Yw (fu d a0n:Nat)(a0:List PV)(a1n:Nat)(a1:List PV)(a2n:Nat)(a2:List PV)(a3:Int):Ae C0 Tryz.prog fu (d+1) Ph [.lst false 13 a0n a0,.lst false 3 a1n a1,.lst false 3 a2n a2,.sc (.int .i64 a3)]=(fun (call:Ai)=>Bb (decide (a3<0)) (some (At.mk [.sc (.int .i64 0),.sc (.int .i64 9)] [])) (Bb (decide (a3>1099511627776)) (some (At.mk [.sc (.int .i64 0),.sc (.int .i64 9)] [])) (Bb (decide ((↑a0n:Int)<1)) (some (At.mk [.sc (.int .i64 0),.sc (.int .i64 38)] [])) (Bb (decide ((↑a0n:Int)>3)) (some (At.mk [.sc (.int .i64 0),.sc (.int .i64 38)] [])) (F8 fu call a0n a0 a1n a1 a2n a2 a3 (fu) (a0n) (a0) (a1n) (a1) (a2n) (a2) (a3) (a0n) (a0) ((↑a0n:Int)) 0))))) (Ae C0 Tryz.prog fu d):=by kernel_rfl
abbrev Xz:FuncId:=55
theorem NK (fu d a0n:Nat)(a0:List PV)(a1n:Nat)(a1:List PV):Ae C0 Tryz.prog fu (d+1) Xz [.lst false 1 a0n a0,.lst false 1 a1n a1]=(fun (call:Ai)=>Ap (decide (a0.length=a0n))<|Ek (bytesOf a0) fun x1=>Ap (decide (a1.length=a1n))<|Ek (bytesOf a1) fun x2=>some (At.mk [.sc (.bool (Array.toList (ByteArray.data (ByteArray.mk (List.toArray x1)))==Array.toList (ByteArray.data (ByteArray.mk (List.toArray x2)))))] [])) (Ae C0 Tryz.prog fu d):=by kernel_rfl
end
section
open Go.IntKind (wrap)
theorem YM {c:Ce}{e:Int}(h:A3 c=e)(he:e≠0):Gr c=[.own 1 0 [],.sc (.int .i64 e)]:=by
 unfold Gr;rw [h,A6 he]
theorem Ef {c:Ce}{e:Int}(h:A3 c=e)(he:e≠0):some (At.mk [.own 1 0 [],.sc (.int .i64 e)] [])=some (At.mk (Gr c) []):=by
 rw [YM h he]
def Vi (c:Ce):List It:=[⟨4,0,c.subj⟩,⟨4,0,c.iss⟩,⟨1,c.serial,F0⟩,⟨3,0,B7 (Io c.key)⟩,⟨1,c.fr,F0⟩,⟨1,c.un,F0⟩,⟨7,(if c.auth=true then 1 else 0),F0⟩,⟨1,c.path,F0⟩,⟨1,c.model,F0⟩]
theorem GA {c:Ce}(hw:c.wf)(h:A3 c=0):∀x∈Vi c,XF x:=by
 unfold A3 at h;have kl:(B7 (Io c.key)).size=9:=by rw [Fq];rfl
 have ns:F0.size=0:=rfl;have hs:=hw.ser;have hm:=hw.mod;have es:SM F0=true:=rfl;by_cases e1:c.subj.size<1∨32<c.subj.size
 ·rw [B4 e1] at h;cases h
 rw [A6 e1] at h;by_cases e2:c.iss.size<1∨32<c.iss.size
 ·rw [B4 e2] at h;cases h
 rw [A6 e2] at h;by_cases e3:XE c.subj=false
 ·rw [B4 e3] at h;cases h
 rw [A6 e3] at h;by_cases e4:XE c.iss=false
 ·rw [B4 e4] at h;cases h
 rw [A6 e4] at h
 repeat' (split at h;· cases h)
 rw [Bool.not_eq_false] at e3 e4;intro x hx;simp only [Vi,List.mem_cons,List.not_mem_nil,or_false] at hx;rcases hx with rfl|rfl|rfl|rfl|rfl|rfl|rfl|rfl|rfl
 ·exact ⟨by simp,by simp only;omega,fun _=>e3,by simp [F3],by simp⟩
 ·exact ⟨by simp,by simp only;omega,fun _=>e4,by simp [F3],by simp⟩
 ·exact ⟨by simp,by simp only [ns];omega,fun h=>by simp at h,by simp [F3,es],hs⟩
 ·exact ⟨by simp,by simp only [kl];omega,fun h=>by simp at h,by simp [F3],by simp⟩
 ·exact ⟨by simp,by simp only [ns];omega,fun h=>by simp at h,by simp [F3,es],by simp only;omega⟩
 ·exact ⟨by simp,by simp only [ns];omega,fun h=>by simp at h,by simp [F3,es],by simp only;omega⟩
 ·exact ⟨by simp,by simp only [ns];omega,fun h=>by simp at h,by simp [F3,es];split<;>omega,by simp only;split<;>omega⟩
 ·exact ⟨by simp,by simp only [ns];omega,fun h=>by simp at h,by simp [F3,es],by simp only;omega⟩
 ·exact ⟨by simp,by simp only [ns];omega,fun h=>by simp at h,by simp [F3,es],hm⟩
theorem Zp {c:Ce}(hw:c.wf)(h:A3 c=0):Om [] 0 (A8 c):=Adv (r:=Vi c) (by simp [Vi]) (by simp [Vi]) (GA hw h)
section
variable {fu d:Nat}
theorem XM (s:ByteArray):Ae C0 Tryz.prog fu (d+1) GL [.sc (.string s)]=some ⟨[.own 3 1 (Cd [⟨4,0,s⟩])],[]⟩:=by rw [UY];rfl
theorem Vw (n:Int):Ae C0 Tryz.prog fu (d+1) FX [.sc (.int .u64 n)]=some ⟨[.own 3 1 (Cd [⟨1,n,F0⟩])],[]⟩:=by rw [UI];rfl
theorem Aif (b:Bool):Ae C0 Tryz.prog fu (d+1) GG [.sc (.bool b)]=some ⟨[.own 3 1 (Cd [⟨7,(if b=true then 1 else 0),F0⟩])],[]⟩:=by rw [WG];cases b<;>rfl
theorem Ae6 (l:List Int):Ae C0 Tryz.prog fu (d+1) AD [.lst false 1 l.length (Af .u8 l)]=some ⟨[.own 3 1 (Cd [⟨3,0,B7 l⟩])],[]⟩:=by
 rw [RV];have L:=Aj .u8 l;have bo:=Gp l;simp (disch:=omega) only [Br,L,bo];rfl
theorem Aah (hfu:1000<=fu){c:Ce}(hw:c.wf)(hs1:c.subj.size<=9223372036854775807)(hs2:c.iss.size<=9223372036854775807)(e1:¬(c.subj.size<1∨32<c.subj.size)) (e2:¬(c.iss.size<1∨32<c.iss.size)) (nn:Nat):
  Eu fu (Ae C0 Tryz.prog fu (d+6)) c.subj c.iss c.serial c.key.h c.key.root c.fr c.un c.auth c.path c.model c.sig.leaf c.sig.chains.length (Af .u64 c.sig.chains) c.sig.path.length (Af .u64 c.sig.path) (nn+1) c.subj c.iss 2 c.subj c.iss c.serial c.key.h c.key.root c.fr c.un c.auth c.path c.model c.sig.leaf c.sig.chains.length (Af .u64 c.sig.chains) c.sig.path.length (Af .u64 c.sig.path)=some ⟨Gr c,[]⟩:=by
 have v1:=Og (fu:=fu) (d:=d+5) c.subj hs1;have v2:=Og (fu:=fu) (d:=d+5) c.iss hs2;have ek:=Ae9 (xs:=Jw) (fu:=fu) (d:=d+4) hfu c.key;simp only [Ky.cells] at ek;have e90:((9:Int) != 0)=true:=rfl;have e00:((0:Int) != 0)=false:=rfl;rw [D8,Da _ _ _ (by omega)]
 cases e3:XE c.subj
 ·have hb:A3 c=6:=by unfold A3;rw [A6 e1,A6 e2,B4 e3]
  rw [e3] at v1;rw [←Ef hb (by omega)]
  try unfold Aa
  repeat first
   |((with_reducible first|apply Ay|apply Am|apply Az|apply A5|apply Ba|apply Bi|apply C9|apply Ao);· first|with_reducible rfl|(simp (disch:=omega) only [v1,C6,Dn]<;>with_reducible rfl))
   |((with_reducible first|apply Ax|apply Av);· first|with_reducible rfl|omega|(simp (disch:=omega) only [gT,v1,C6,Dn]<;>omega))
   |(with_reducible apply Aw;· first|with_reducible rfl|(simp (disch:=omega) only [gF,v1,C6,Dn]<;>omega))
  try simp (disch:=omega) only [v1,C6,Dn]
 rw [e3] at v1;cases e4:XE c.iss
 ·have hb:A3 c=6:=by unfold A3;rw [A6 e1,A6 e2,A6 (by simp [e3]),B4 e4]
  rw [e4] at v2;rw [←Ef hb (by omega)]
  try unfold Aa
  repeat first
   |((with_reducible first|apply Ay|apply Am|apply Az|apply A5|apply Ba|apply Bi|apply C9|apply Ao);· first|with_reducible rfl|(simp (disch:=omega) only [v1,v2,C6,Dn]<;>with_reducible rfl))
   |((with_reducible first|apply Ax|apply Av);· first|with_reducible rfl|omega|(simp (disch:=omega) only [gT,v1,v2,C6,Dn]<;>omega))
   |(with_reducible apply Aw;· first|with_reducible rfl|(simp (disch:=omega) only [gF,v1,v2,C6,Dn]<;>omega))
  try simp (disch:=omega) only [v1,v2,C6,Dn]
 rw [e4] at v2;cases e5:C2 c.key.h
 rotate_left
 ·have hb:A3 c=9:=by unfold A3;rw [A6 e1,A6 e2,A6 (by simp [e3]),A6 (by simp [e4]),B4 e5]
  rw [e5,B4 rfl] at ek;rw [←Ef hb (by omega)]
  try unfold Aa
  repeat first
   |((with_reducible first|apply Ay|apply Am|apply Az|apply A5|apply Ba|apply Bi|apply C9|apply Ao);· first|with_reducible rfl|(simp (disch:=omega) only [v1,v2,ek,e90,C6,Dn]<;>with_reducible rfl))
   |((with_reducible first|apply Ax|apply Av);· first|with_reducible rfl|omega|(simp (disch:=omega) only [gT,v1,v2,ek,e90,C6,Dn]<;>omega))
   |(with_reducible apply Aw;· first|with_reducible rfl|(simp (disch:=omega) only [gF,v1,v2,ek,e90,C6,Dn]<;>omega))
  try simp (disch:=omega) only [v1,v2,ek,e90,C6,Dn]
 rw [e5,A6 (by simp)] at ek
 have B0:A3 c=if c.fr<0 then 9 else if c.un<c.fr then 9 else if c.un>1099511627776 then 9 else if c.path<0∨2<c.path then 9 else if c.path≠0∧c.auth=false then 4 else 0:=by
  unfold A3;rw [A6 e1,A6 e2,A6 (by simp [e3]),A6 (by simp [e4]),A6 (by simp [e5])]
 by_cases e6:c.fr<0
 ·have hb:A3 c=9:=by rw [B0,B4 e6]
  rw [←Ef hb (by omega)]
  try unfold Aa
  repeat first
   |((with_reducible first|apply Ay|apply Am|apply Az|apply A5|apply Ba|apply Bi|apply C9|apply Ao);· first|with_reducible rfl|(simp (disch:=omega) only [v1,v2,ek,e00,C6,Dn]<;>with_reducible rfl))
   |((with_reducible first|apply Ax|apply Av);· first|with_reducible rfl|omega|(simp (disch:=omega) only [gT,v1,v2,ek,e00,C6,Dn]<;>omega))
   |(with_reducible apply Aw;· first|with_reducible rfl|(simp (disch:=omega) only [gF,v1,v2,ek,e00,C6,Dn]<;>omega))
  try simp (disch:=omega) only [v1,v2,ek,e00,C6,Dn]
 by_cases e7:c.un<c.fr
 ·have hb:A3 c=9:=by rw [B0,A6 e6,B4 e7]
  rw [←Ef hb (by omega)]
  try unfold Aa
  repeat first
   |((with_reducible first|apply Ay|apply Am|apply Az|apply A5|apply Ba|apply Bi|apply C9|apply Ao);· first|with_reducible rfl|(simp (disch:=omega) only [v1,v2,ek,e00,C6,Dn]<;>with_reducible rfl))
   |((with_reducible first|apply Ax|apply Av);· first|with_reducible rfl|omega|(simp (disch:=omega) only [gT,v1,v2,ek,e00,C6,Dn]<;>omega))
   |(with_reducible apply Aw;· first|with_reducible rfl|(simp (disch:=omega) only [gF,v1,v2,ek,e00,C6,Dn]<;>omega))
  try simp (disch:=omega) only [v1,v2,ek,e00,C6,Dn]
 by_cases e8:c.un>1099511627776
 ·have hb:A3 c=9:=by rw [B0,A6 e6,A6 e7,B4 e8]
  rw [←Ef hb (by omega)]
  try unfold Aa
  repeat first
   |((with_reducible first|apply Ay|apply Am|apply Az|apply A5|apply Ba|apply Bi|apply C9|apply Ao);· first|with_reducible rfl|(simp (disch:=omega) only [v1,v2,ek,e00,C6,Dn]<;>with_reducible rfl))
   |((with_reducible first|apply Ax|apply Av);· first|with_reducible rfl|omega|(simp (disch:=omega) only [gT,v1,v2,ek,e00,C6,Dn]<;>omega))
   |(with_reducible apply Aw;· first|with_reducible rfl|(simp (disch:=omega) only [gF,v1,v2,ek,e00,C6,Dn]<;>omega))
  try simp (disch:=omega) only [v1,v2,ek,e00,C6,Dn]
 by_cases e9:c.path<0∨2<c.path
 ·have hb:A3 c=9:=by rw [B0,A6 e6,A6 e7,A6 e8,B4 e9]
  rw [←Ef hb (by omega)]
  by_cases e9':c.path<0
  ·skip
   try unfold Aa
   repeat first
    |((with_reducible first|apply Ay|apply Am|apply Az|apply A5|apply Ba|apply Bi|apply C9|apply Ao);· first|with_reducible rfl|(simp (disch:=omega) only [v1,v2,ek,e00,C6,Dn]<;>with_reducible rfl))
    |((with_reducible first|apply Ax|apply Av);· first|with_reducible rfl|omega|(simp (disch:=omega) only [gT,v1,v2,ek,e00,C6,Dn]<;>omega))
    |(with_reducible apply Aw;· first|with_reducible rfl|(simp (disch:=omega) only [gF,v1,v2,ek,e00,C6,Dn]<;>omega))
   try simp (disch:=omega) only [v1,v2,ek,e00,C6,Dn]
  ·skip
   try unfold Aa
   repeat first
    |((with_reducible first|apply Ay|apply Am|apply Az|apply A5|apply Ba|apply Bi|apply C9|apply Ao);· first|with_reducible rfl|(simp (disch:=omega) only [v1,v2,ek,e00,C6,Dn]<;>with_reducible rfl))
    |((with_reducible first|apply Ax|apply Av);· first|with_reducible rfl|omega|(simp (disch:=omega) only [gT,v1,v2,ek,e00,C6,Dn]<;>omega))
    |(with_reducible apply Aw;· first|with_reducible rfl|(simp (disch:=omega) only [gF,v1,v2,ek,e00,C6,Dn]<;>omega))
   try simp (disch:=omega) only [v1,v2,ek,e00,C6,Dn]
 by_cases e10:c.path≠0∧c.auth=false
 ·have hb:A3 c=4:=by rw [B0,A6 e6,A6 e7,A6 e8,A6 e9,B4 e10]
  have ea:=e10.2;have ep:(c.path != 0)=true:=by simp [e10.1]
  rw [←Ef hb (by omega)]
  try unfold Aa
  repeat first
   |((with_reducible first|apply Ay|apply Am|apply Az|apply A5|apply Ba|apply Bi|apply C9|apply Ao);· first|with_reducible rfl|(simp (disch:=omega) only [v1,v2,ek,e00,ep,ea,C6,Dn]<;>with_reducible rfl))
   |((with_reducible first|apply Ax|apply Av);· first|with_reducible rfl|omega|(simp (disch:=omega) only [gT,v1,v2,ek,e00,ep,ea,C6,Dn]<;>omega))
   |(with_reducible apply Aw;· first|with_reducible rfl|(simp (disch:=omega) only [gF,v1,v2,ek,e00,ep,ea,C6,Dn]<;>omega))
  try simp (disch:=omega) only [v1,v2,ek,e00,ep,ea,C6,Dn]
 have hz:A3 c=0:=by rw [B0,A6 e6,A6 e7,A6 e8,A6 e9,A6 e10]
 have hfl:=GA hw hz
 have ar:=ZN (fu:=fu) (d:=d) hfu (vs:=(Vi c).map fun x=>[x]) (by
  intro v hv;obtain ⟨x,hx,rfl⟩:=List.mem_map.1 hv;exact ⟨Ad3 (hfl x hx),by simp⟩) (by simp [Vi]) (Zp hw hz) (by simp [Vi])
 have en:=WY (fu:=fu) (d:=d+1) hfu (l:=A8 c) (by simp [A8]) (by simp [A8];omega) (Zp hw hz) (fun x hx=>(Ya hw hz x hx).1) (Nat.le_trans (Iw hz) (by omega))
 have ar':Ae C0 Tryz.prog fu (d+6) S7 [.lst false 1 9 [.lst false 3 1 (Cd [⟨4,0,c.subj⟩]),.lst false 3 1 (Cd [⟨4,0,c.iss⟩]),.lst false 3 1 (Cd [⟨1,c.serial,F0⟩]),.lst false 3 1 (Cd [⟨3,0,B7 (Io c.key)⟩]),.lst false 3 1 (Cd [⟨1,c.fr,F0⟩]),.lst false 3 1 (Cd [⟨1,c.un,F0⟩]),.lst false 3 1 (Cd [⟨7,(if c.auth=true then 1 else 0),F0⟩]),.lst false 3 1 (Cd [⟨1,c.path,F0⟩]),.lst false 3 1 (Cd [⟨1,c.model,F0⟩])]]=some ⟨[.own 3 10 (Cd (A8 c)),.sc (.int .i64 0)],[]⟩:=ar
 have en':Ae C0 Tryz.prog fu (d+1+5) Qr [.lst false 3 10 (Cd (A8 c))]=some ⟨[.own 1 (Be (A8 c)).length (Af .u8 (Be (A8 c))),.sc (.int .i64 0)],[]⟩:=en;clear ar en hfl;have t1:=XM (fu:=fu) (d:=d+5) c.subj;have t2:=XM (fu:=fu) (d:=d+5) c.iss;have u1:=Vw (fu:=fu) (d:=d+5) c.serial;have u2:=Vw (fu:=fu) (d:=d+5) c.fr;have u3:=Vw (fu:=fu) (d:=d+5) c.un;have u4:=Vw (fu:=fu) (d:=d+5) c.path;have u5:=Vw (fu:=fu) (d:=d+5) c.model;have bo:=Aif (fu:=fu) (d:=d+5) c.auth;have by_:=Ae6 (fu:=fu) (d:=d+5) (Io c.key);have k9:(Io c.key).length=9:=rfl;rw [k9] at by_;have L9:=Aj .u8 (Io c.key);rw [k9] at L9;have tk9:List.take 9 (Af .u8 (Io c.key))=Af .u8 (Io c.key):=Uf (by omega)
 have wf:wrap .u64 c.fr=c.fr:=Ci (by omega) (by omega)
 have wu:wrap .u64 c.un=c.un:=Ci (by omega) (by omega)
 have wp:wrap .u64 c.path=c.path:=Ci (by omega) (by omega)
 have R:Gr c=[.own 1 (Be (A8 c)).length (Af .u8 (Be (A8 c))),.sc (.int .i64 0)]:=by unfold Gr;rw [hz,B4 rfl]
 have LB:=Aj .u8 (Be (A8 c));have tB:=Jf .u8 (Be (A8 c));rw [R];generalize Be (A8 c)=W at en' LB tB ⊢;have LI:(Cd (A8 c)).length=30:=rfl;have tI:List.take 30 (Cd (A8 c))=Cd (A8 c):=rfl;generalize Cd (A8 c)=I at ar' en' LI tI;have K:∀x:It,List.take 3 (Cd [x])=Cd [x]:=fun _=>rfl
 have N:∀x:It,(Cd [x]).length=3:=fun _=>rfl
 have K1:=K ⟨4,0,c.subj⟩;have K2:=K ⟨4,0,c.iss⟩;have K3:=K ⟨1,c.serial,F0⟩;have K4:=K ⟨3,0,B7 (Io c.key)⟩;have K5:=K ⟨1,c.fr,F0⟩;have K6:=K ⟨1,c.un,F0⟩;have K7:=K ⟨7,(if c.auth=true then 1 else 0),F0⟩
 have K8:=K ⟨1,c.path,F0⟩;have K9:=K ⟨1,c.model,F0⟩;have N1:=N ⟨4,0,c.subj⟩;have N2:=N ⟨4,0,c.iss⟩;have N3:=N ⟨1,c.serial,F0⟩;have N4:=N ⟨3,0,B7 (Io c.key)⟩;have N5:=N ⟨1,c.fr,F0⟩;have N6:=N ⟨1,c.un,F0⟩;have N7:=N ⟨7,(if c.auth=true then 1 else 0),F0⟩
 have N8:=N ⟨1,c.path,F0⟩;have N9:=N ⟨1,c.model,F0⟩;generalize Cd [⟨4,0,c.subj⟩]=T1 at *
 generalize Cd [⟨4,0,c.iss⟩]=T2 at *
 generalize Cd [⟨1,c.serial,F0⟩]=T3 at *
 generalize Cd [⟨3,0,B7 (Io c.key)⟩]=T4 at *
 generalize Cd [⟨1,c.fr,F0⟩]=T5 at *
 generalize Cd [⟨1,c.un,F0⟩]=T6 at *
 generalize Cd [⟨7,(if c.auth=true then 1 else 0),F0⟩]=T7 at *
 generalize Cd [⟨1,c.path,F0⟩]=T8 at *
 generalize Cd [⟨1,c.model,F0⟩]=T9 at *
 generalize Af .u8 (Io c.key)=KB at *
 by_cases ep:c.path=0
 ·have ep':(c.path != 0)=false:=by simp [ep]
  try unfold Aa
  repeat first
   |((with_reducible first|apply Ay|apply Am|apply Az|apply A5|apply Ba|apply Bi|apply C9|apply Ao);· first|with_reducible rfl|(simp (disch:=omega) only [v1,v2,ek,e00,ep',t1,t2,u1,u2,u3,u4,u5,bo,by_,wf,wu,wp,L9,tk9,K1,K2,K3,K4,K5,K6,K7,K8,K9,N1,N2,N3,N4,N5,N6,N7,N8,N9,C3,Nat.one_mul,Cc,Nat.reduceMul,Es,ar',LI,tI,en',LB,tB,C6,Dn]<;>with_reducible rfl))
   |((with_reducible first|apply Ax|apply Av);· first|with_reducible rfl|omega|(simp (disch:=omega) only [gT,v1,v2,ek,e00,ep',t1,t2,u1,u2,u3,u4,u5,bo,by_,wf,wu,wp,L9,tk9,K1,K2,K3,K4,K5,K6,K7,K8,K9,N1,N2,N3,N4,N5,N6,N7,N8,N9,C3,Nat.one_mul,Cc,Nat.reduceMul,Es,ar',LI,tI,en',LB,tB,C6,Dn]<;>omega))
   |(with_reducible apply Aw;· first|with_reducible rfl|(simp (disch:=omega) only [gF,v1,v2,ek,e00,ep',t1,t2,u1,u2,u3,u4,u5,bo,by_,wf,wu,wp,L9,tk9,K1,K2,K3,K4,K5,K6,K7,K8,K9,N1,N2,N3,N4,N5,N6,N7,N8,N9,C3,Nat.one_mul,Cc,Nat.reduceMul,Es,ar',LI,tI,en',LB,tB,C6,Dn]<;>omega))
  try simp (disch:=omega) only [v1,v2,ek,e00,ep',t1,t2,u1,u2,u3,u4,u5,bo,by_,wf,wu,wp,L9,tk9,K1,K2,K3,K4,K5,K6,K7,K8,K9,N1,N2,N3,N4,N5,N6,N7,N8,N9,C3,Nat.one_mul,Cc,Nat.reduceMul,Es,ar',LI,tI,en',LB,tB,C6,Dn]
 ·have ea:c.auth=true:=by
   cases h:c.auth
   ·exact absurd ⟨ep,h⟩ e10
   ·rfl
  have ep':(c.path != 0)=true:=by simp [ep]
  rw [ea] at bo
  try unfold Aa
  repeat first
   |((with_reducible first|apply Ay|apply Am|apply Az|apply A5|apply Ba|apply Bi|apply C9|apply Ao);· first|with_reducible rfl|(simp (disch:=omega) only [v1,v2,ek,e00,ep',ea,t1,t2,u1,u2,u3,u4,u5,bo,by_,wf,wu,wp,L9,tk9,K1,K2,K3,K4,K5,K6,K7,K8,K9,N1,N2,N3,N4,N5,N6,N7,N8,N9,C3,Nat.one_mul,Cc,Nat.reduceMul,Es,ar',LI,tI,en',LB,tB,C6,Dn]<;>with_reducible rfl))
   |((with_reducible first|apply Ax|apply Av);· first|with_reducible rfl|omega|(simp (disch:=omega) only [gT,v1,v2,ek,e00,ep',ea,t1,t2,u1,u2,u3,u4,u5,bo,by_,wf,wu,wp,L9,tk9,K1,K2,K3,K4,K5,K6,K7,K8,K9,N1,N2,N3,N4,N5,N6,N7,N8,N9,C3,Nat.one_mul,Cc,Nat.reduceMul,Es,ar',LI,tI,en',LB,tB,C6,Dn]<;>omega))
   |(with_reducible apply Aw;· first|with_reducible rfl|(simp (disch:=omega) only [gF,v1,v2,ek,e00,ep',ea,t1,t2,u1,u2,u3,u4,u5,bo,by_,wf,wu,wp,L9,tk9,K1,K2,K3,K4,K5,K6,K7,K8,K9,N1,N2,N3,N4,N5,N6,N7,N8,N9,C3,Nat.one_mul,Cc,Nat.reduceMul,Es,ar',LI,tI,en',LB,tB,C6,Dn]<;>omega))
  try simp (disch:=omega) only [v1,v2,ek,e00,ep',ea,t1,t2,u1,u2,u3,u4,u5,bo,by_,wf,wu,wp,L9,tk9,K1,K2,K3,K4,K5,K6,K7,K8,K9,N1,N2,N3,N4,N5,N6,N7,N8,N9,C3,Nat.one_mul,Cc,Nat.reduceMul,Es,ar',LI,tI,en',LB,tB,C6,Dn]
theorem ZJ (hfu:1000<=fu){c:Ce}(hw:c.wf)(hs1:c.subj.size<=9223372036854775807)(hs2:c.iss.size<=9223372036854775807)(nn:Nat)(hn:3<=nn):
  Eu fu (Ae C0 Tryz.prog fu (d+6)) c.subj c.iss c.serial c.key.h c.key.root c.fr c.un c.auth c.path c.model c.sig.leaf c.sig.chains.length (Af .u64 c.sig.chains) c.sig.path.length (Af .u64 c.sig.path) nn c.subj c.iss 0 c.subj c.iss c.serial c.key.h c.key.root c.fr c.un c.auth c.path c.model c.sig.leaf c.sig.chains.length (Af .u64 c.sig.chains) c.sig.path.length (Af .u64 c.sig.path)=some ⟨Gr c,[]⟩:=by
 obtain ⟨m,rfl⟩:∃m,nn=m+1+1+1:=⟨nn-3,by omega⟩
 have g0:List.getD [PV.sc (Value.string c.subj),PV.sc (Value.string c.iss)] (Int.toNat (0:Int)*1) PV.top=.sc (.string c.subj):=rfl;have g1:List.getD [PV.sc (Value.string c.subj),PV.sc (Value.string c.iss)] (Int.toNat (1:Int)*1) PV.top=.sc (.string c.iss):=rfl;have i1:wrap .i64 ((0:Int)+1)=1:=rfl;have i2:wrap .i64 ((1:Int)+1)=2:=rfl;by_cases e1:c.subj.size<1∨32<c.subj.size
 ·have hb:A3 c=9:=by unfold A3;rw [B4 e1]
  rw [←Ef hb (by omega),D8]
  by_cases e1':c.subj.size<1
  ·skip
   try unfold Aa
   repeat first
    |((with_reducible first|apply Ay|apply Am|apply Az|apply A5|apply Ba|apply Bi|apply C9|apply Ao);· first|with_reducible rfl|(simp (disch:=omega) only [g0]<;>with_reducible rfl))
    |((with_reducible first|apply Ax|apply Av);· first|with_reducible rfl|omega|(simp (disch:=omega) only [gT,g0]<;>omega))
    |(with_reducible apply Aw;· first|with_reducible rfl|(simp (disch:=omega) only [gF,g0]<;>omega))
   try simp (disch:=omega) only [g0]
  ·skip
   try unfold Aa
   repeat first
    |((with_reducible first|apply Ay|apply Am|apply Az|apply A5|apply Ba|apply Bi|apply C9|apply Ao);· first|with_reducible rfl|(simp (disch:=omega) only [g0]<;>with_reducible rfl))
    |((with_reducible first|apply Ax|apply Av);· first|with_reducible rfl|omega|(simp (disch:=omega) only [gT,g0]<;>omega))
    |(with_reducible apply Aw;· first|with_reducible rfl|(simp (disch:=omega) only [gF,g0]<;>omega))
   try simp (disch:=omega) only [g0]
 rw [D8];by_cases e2:c.iss.size<1∨32<c.iss.size
 ·have hb:A3 c=9:=by unfold A3;rw [A6 e1,B4 e2]
  rw [←Ef hb (by omega)]
  try unfold Aa
  repeat first
   |((with_reducible first|apply Ay|apply Am|apply Az|apply A5|apply Ba|apply Bi|apply C9|apply Ao);· first|with_reducible rfl|(simp (disch:=omega) only [g0,i1]<;>with_reducible rfl))
   |((with_reducible first|apply Ax|apply Av);· first|with_reducible rfl|omega|(simp (disch:=omega) only [gT,g0,i1]<;>omega))
   |(with_reducible apply Aw;· first|with_reducible rfl|(simp (disch:=omega) only [gF,g0,i1]<;>omega))
  try simp (disch:=omega) only [g0,i1]
  rw [D8];by_cases e2':c.iss.size<1
  ·skip
   try unfold Aa
   repeat first
    |((with_reducible first|apply Ay|apply Am|apply Az|apply A5|apply Ba|apply Bi|apply C9|apply Ao);· first|with_reducible rfl|(simp (disch:=omega) only [g1]<;>with_reducible rfl))
    |((with_reducible first|apply Ax|apply Av);· first|with_reducible rfl|omega|(simp (disch:=omega) only [gT,g1]<;>omega))
    |(with_reducible apply Aw;· first|with_reducible rfl|(simp (disch:=omega) only [gF,g1]<;>omega))
   try simp (disch:=omega) only [g1]
  ·skip
   try unfold Aa
   repeat first
    |((with_reducible first|apply Ay|apply Am|apply Az|apply A5|apply Ba|apply Bi|apply C9|apply Ao);· first|with_reducible rfl|(simp (disch:=omega) only [g1]<;>with_reducible rfl))
    |((with_reducible first|apply Ax|apply Av);· first|with_reducible rfl|omega|(simp (disch:=omega) only [gT,g1]<;>omega))
    |(with_reducible apply Aw;· first|with_reducible rfl|(simp (disch:=omega) only [gF,g1]<;>omega))
   try simp (disch:=omega) only [g1]
 try unfold Aa
 repeat first
  |((with_reducible first|apply Ay|apply Am|apply Az|apply A5|apply Ba|apply Bi|apply C9|apply Ao);· first|with_reducible rfl|(simp (disch:=omega) only [g0,i1]<;>with_reducible rfl))
  |((with_reducible first|apply Ax|apply Av);· first|with_reducible rfl|omega|(simp (disch:=omega) only [gT,g0,i1]<;>omega))
  |(with_reducible apply Aw;· first|with_reducible rfl|(simp (disch:=omega) only [gF,g0,i1]<;>omega))
 try simp (disch:=omega) only [g0,i1]
 rw [D8]
 try unfold Aa
 repeat first
  |((with_reducible first|apply Ay|apply Am|apply Az|apply A5|apply Ba|apply Bi|apply C9|apply Ao);· first|with_reducible rfl|(simp (disch:=omega) only [g1,i2]<;>with_reducible rfl))
  |((with_reducible first|apply Ax|apply Av);· first|with_reducible rfl|omega|(simp (disch:=omega) only [gT,g1,i2]<;>omega))
  |(with_reducible apply Aw;· first|with_reducible rfl|(simp (disch:=omega) only [gF,g1,i2]<;>omega))
 try simp (disch:=omega) only [g1,i2]
 exact Aah hfu hw hs1 hs2 e1 e2 m
theorem LV (hfu:1000<=fu){c:Ce}(hw:c.wf)(hs1:c.subj.size<=9223372036854775807)(hs2:c.iss.size<=9223372036854775807):Ae C0 Tryz.prog fu (d+7) Oh [.agg c.cells]=some ⟨Gr c,[]⟩:=
 (Y7 fu (d+6) c.subj c.iss c.serial c.key.h c.key.root c.fr c.un c.auth c.path c.model c.sig.leaf c.sig.chains.length (Af .u64 c.sig.chains) c.sig.path.length (Af .u64 c.sig.path)).trans (ZJ hfu hw hs1 hs2 fu (by omega))
end
end
section
open Go.IntKind (wrap)
def HX (c:Ce):List PV:=if A3 c=0 then [.sc (.int .u64 (Ja c)),.sc (.int .i64 0)] else [.sc (.int .u64 0),.sc (.int .i64 (A3 c))]
section
variable {fu d:Nat} {c:Ce}
theorem XG (hfu:1000<=fu)(hw:c.wf)(hs1:c.subj.size<=9223372036854775807)(hs2:c.iss.size<=9223372036854775807):Ae C0 Tryz.prog fu (d+8) Pf [.agg c.cells]=some ⟨HX c,[]⟩:=by
 refine (Yo fu (d+7) c.subj c.iss c.serial c.key.h c.key.root c.fr c.un c.auth c.path c.model c.sig.leaf c.sig.chains.length (Af .u64 c.sig.chains) c.sig.path.length (Af .u64 c.sig.path)).trans ?_;have bq:=LV (fu:=fu) (d:=d) hfu hw hs1 hs2;simp only [Ce.cells] at bq;unfold Gr at bq;unfold HX;by_cases h0:A3 c=0
 ·have lb:=Iw h0;rw [B4 h0] at bq;rw [B4 h0];have e00:((0:Int) != 0)=false:=rfl;have hh:=Abz (xs:=Jw) (fu:=fu) (d:=d+2) (V7 hw h0) (by omega) (by omega) (by omega) 14
  have eW:Ml 14 (Be (A8 c))=Ja c:=rfl;rw [eW] at hh;have L1:=Aj .u8 (Be (A8 c));have t1:=Jf .u8 (Be (A8 c));generalize (Be (A8 c)).length=n1 at *
  generalize Af .u8 (Be (A8 c))=c1 at *
  try unfold Aa
  repeat first
   |((with_reducible first|apply Ay|apply Am|apply Az|apply Bi|apply Ao);· first|with_reducible rfl|(simp (disch:=omega) only [bq,e00,Cc,C3,Es,L1,t1,hh]<;>with_reducible rfl))
   |((with_reducible first|apply Ax|apply Av);· first|with_reducible rfl|omega|(simp (disch:=omega) only [gT,bq,e00,Cc,C3,Es,L1,t1,hh]<;>omega))
   |(with_reducible apply Aw;· first|with_reducible rfl|(simp (disch:=omega) only [gF,bq,e00,Cc,C3,Es,L1,t1,hh]<;>omega))
  try simp (disch:=omega) only [bq,e00,Cc,C3,Es,L1,t1,hh]
  all_goals rfl
 ·have hne:(A3 c != 0)=true:=by simp [h0]
  rw [A6 h0] at bq;rw [A6 h0]
  try unfold Aa
  repeat first
   |((with_reducible first|apply Ay|apply Am|apply Az|apply Bi|apply Ao);· first|with_reducible rfl|(simp (disch:=omega) only [bq,hne]<;>with_reducible rfl))
   |((with_reducible first|apply Ax|apply Av);· first|with_reducible rfl|omega|(simp (disch:=omega) only [gT,bq,hne]<;>omega))
   |(with_reducible apply Aw;· first|with_reducible rfl|(simp (disch:=omega) only [gF,bq,hne]<;>omega))
  try simp (disch:=omega) only [bq,hne]
  all_goals rfl
theorem Uu (hfu:1000<=fu)(hw:c.wf)(hs1:c.subj.size<=9223372036854775807)(hs2:c.iss.size<=9223372036854775807)(k:Ky):Ae C0 Tryz.prog fu (d+9) Mg [.agg c.cells,.agg k.cells]=some ⟨[.sc (.int .i64 (Uc c k))],[]⟩:=by
 refine (Vp fu (d+8) c.subj c.iss c.serial c.key.h c.key.root c.fr c.un c.auth c.path c.model c.sig.leaf c.sig.chains.length (Af .u64 c.sig.chains) c.sig.path.length (Af .u64 c.sig.path) k.h k.root).trans ?_;have bq:=XG (fu:=fu) (d:=d) hfu hw hs1 hs2;simp only [Ce.cells] at bq;unfold HX at bq;unfold Uc;by_cases h0:A3 c=0
 ·rw [B4 h0] at bq;rw [B4 h0];have e00:((0:Int) != 0)=false:=rfl;have vr:=Ads (xs:=Jw) (fu:=fu) (d:=d) hfu k (Ja c) c.sig;simp only [Ky.cells,Sg.cells] at vr
  try unfold Aa
  repeat first
   |((with_reducible first|apply Ay|apply Am|apply Az|apply Bi|apply Ao);· first|with_reducible rfl|(simp (disch:=omega) only [bq,e00,vr]<;>with_reducible rfl))
   |((with_reducible first|apply Ax|apply Av);· first|with_reducible rfl|omega|(simp (disch:=omega) only [gT,bq,e00,vr]<;>omega))
   |(with_reducible apply Aw;· first|with_reducible rfl|(simp (disch:=omega) only [gF,bq,e00,vr]<;>omega))
  try simp (disch:=omega) only [bq,e00,vr]
  all_goals rfl
 ·have hne:(A3 c != 0)=true:=by simp [h0]
  rw [A6 h0] at bq;rw [A6 h0]
  try unfold Aa
  repeat first
   |((with_reducible first|apply Ay|apply Am|apply Az|apply Bi|apply Ao);· first|with_reducible rfl|(simp (disch:=omega) only [bq,hne]<;>with_reducible rfl))
   |((with_reducible first|apply Ax|apply Av);· first|with_reducible rfl|omega|(simp (disch:=omega) only [gT,bq,hne]<;>omega))
   |(with_reducible apply Aw;· first|with_reducible rfl|(simp (disch:=omega) only [gF,bq,hne]<;>omega))
  try simp (disch:=omega) only [bq,hne]
  all_goals rfl
theorem Acu (hfu:1000<=fu)(hw:c.wf)(hs1:c.subj.size<=9223372036854775807)(hs2:c.iss.size<=9223372036854775807)(hp:c.sig.path.length<=1000000000)(hf:c.sig.path.length<fu):Ae C0 Tryz.prog fu (d+8) Mc [.agg c.cells]=some ⟨RW c,[]⟩:=by
 refine (Vx fu (d+7) c.subj c.iss c.serial c.key.h c.key.root c.fr c.un c.auth c.path c.model c.sig.leaf c.sig.chains.length (Af .u64 c.sig.chains) c.sig.path.length (Af .u64 c.sig.path)).trans ?_;have bq:=LV (fu:=fu) (d:=d) hfu hw hs1 hs2;simp only [Ce.cells] at bq;have es:=Ad2 (xs:=Jw) (fu:=fu) (d:=d+5) hfu c.sig hp hf;simp only [Sg.cells] at es;unfold Gr at bq;unfold RW Er;by_cases h0:A3 c=0
 ·have lb:=Iw h0;rw [B4 h0] at bq;rw [B4 h0];have L1:=Aj .u8 (Be (A8 c));have t1:=Jf .u8 (Be (A8 c));have e00:((0:Int) != 0)=false:=rfl;have e90:((9:Int) != 0)=true:=rfl;have e40:((4:Int) != 0)=true:=rfl;unfold LY;by_cases g1:C2 c.sig.path.length=true
  ·rw [B4 g1] at es;rw [B4 g1,A6 (by omega)]
   try unfold Aa
   repeat first
    |((with_reducible first|apply Ay|apply Am|apply Az|apply Bi|apply Ao);· first|with_reducible rfl|(simp (disch:=omega) only [bq,es,e00,e90]<;>with_reducible rfl))
    |((with_reducible first|apply Ax|apply Av);· first|with_reducible rfl|omega|(simp (disch:=omega) only [gT,bq,es,e00,e90]<;>omega))
    |(with_reducible apply Aw;· first|with_reducible rfl|(simp (disch:=omega) only [gF,bq,es,e00,e90]<;>omega))
   try simp (disch:=omega) only [bq,es,e00,e90]
   all_goals rfl
  rw [A6 g1] at es;rw [A6 g1];by_cases g2:Hu c.sig.leaf c.sig.path.length=true
  ·rw [B4 g2] at es;rw [B4 g2,A6 (by omega)]
   try unfold Aa
   repeat first
    |((with_reducible first|apply Ay|apply Am|apply Az|apply Bi|apply Ao);· first|with_reducible rfl|(simp (disch:=omega) only [bq,es,e00,e90]<;>with_reducible rfl))
    |((with_reducible first|apply Ax|apply Av);· first|with_reducible rfl|omega|(simp (disch:=omega) only [gT,bq,es,e00,e90]<;>omega))
    |(with_reducible apply Aw;· first|with_reducible rfl|(simp (disch:=omega) only [gF,bq,es,e00,e90]<;>omega))
   try simp (disch:=omega) only [bq,es,e00,e90]
   all_goals rfl
  rw [A6 g2] at es;rw [A6 g2];by_cases g3:c.sig.chains.length≠18
  ·rw [B4 g3] at es;rw [B4 g3,A6 (by omega)]
   try unfold Aa
   repeat first
    |((with_reducible first|apply Ay|apply Am|apply Az|apply Bi|apply Ao);· first|with_reducible rfl|(simp (disch:=omega) only [bq,es,e00,e40]<;>with_reducible rfl))
    |((with_reducible first|apply Ax|apply Av);· first|with_reducible rfl|omega|(simp (disch:=omega) only [gT,bq,es,e00,e40]<;>omega))
    |(with_reducible apply Aw;· first|with_reducible rfl|(simp (disch:=omega) only [gF,bq,es,e00,e40]<;>omega))
   try simp (disch:=omega) only [bq,es,e00,e40]
   all_goals rfl
  rw [A6 g3] at es;rw [A6 g3,B4 rfl];have hb4:=G7 (h:=c.sig.path.length) (by simpa using g1)
  have ls:(DN c.sig).length=2+8*c.sig.chains.length+8*c.sig.path.length:=by
   unfold DN;simp only [J4,Lf,Db];omega
  have L2:=Aj .u8 (DN c.sig);have t2:=Jf .u8 (DN c.sig)
  have ea:Af .u8 (Be (A8 c))++Af .u8 (DN c.sig)=Af .u8 (Hb c):=by
   unfold Hb;rw [Af,Af,Af,List.flatMap_append]
  have le:(Hb c).length=(Be (A8 c)).length+(DN c.sig).length:=by unfold Hb;rw [Lf]
  have L3:=Aj .u8 (Hb c);have t3:List.take ((Be (A8 c)).length+(DN c.sig).length) (Af .u8 (Hb c))=Af .u8 (Hb c):=Uf (by omega)
  rw [le] at L3 ⊢;generalize (Be (A8 c)).length=n1 at *
  generalize (DN c.sig).length=n2 at *
  generalize Af .u8 (Be (A8 c))=c1 at *
  generalize Af .u8 (DN c.sig)=c2 at *
  try unfold Aa
  repeat first
   |((with_reducible first|apply Ay|apply Am|apply Az|apply Bi|apply Ao);· first|with_reducible rfl|(simp (disch:=omega) only [bq,es,e00,Cc,C3,Es,L1,t1,L2,t2,ea,L3,t3]<;>with_reducible rfl))
   |((with_reducible first|apply Ax|apply Av);· first|with_reducible rfl|omega|(simp (disch:=omega) only [gT,bq,es,e00,Cc,C3,Es,L1,t1,L2,t2,ea,L3,t3]<;>omega))
   |(with_reducible apply Aw;· first|with_reducible rfl|(simp (disch:=omega) only [gF,bq,es,e00,Cc,C3,Es,L1,t1,L2,t2,ea,L3,t3]<;>omega))
  try simp (disch:=omega) only [bq,es,e00,Cc,C3,Es,L1,t1,L2,t2,ea,L3,t3]
  all_goals rfl
 ·have hne:(A3 c != 0)=true:=by simp [h0]
  rw [A6 h0] at bq;rw [A6 h0,A6 h0]
  try unfold Aa
  repeat first
   |((with_reducible first|apply Ay|apply Am|apply Az|apply Bi|apply Ao);· first|with_reducible rfl|(simp (disch:=omega) only [bq,hne]<;>with_reducible rfl))
   |((with_reducible first|apply Ax|apply Av);· first|with_reducible rfl|omega|(simp (disch:=omega) only [gT,bq,hne]<;>omega))
   |(with_reducible apply Aw;· first|with_reducible rfl|(simp (disch:=omega) only [gF,bq,hne]<;>omega))
  try simp (disch:=omega) only [bq,hne]
  all_goals rfl
end
end
section
open Go.IntKind (wrap)
theorem aci {its:List It}{i:Nat}{x:It}(h:its[i]?=some x):(Cd its).getD (i*3) .top=.sc (.int .i64 x.k)∧(Cd its).getD (i*3+1) .top=.sc (.int .u64 x.n)∧(Cd its).getD (i*3+2) .top=.sc (.string x.s):=
 ⟨D3 It.cells_len h (j:=0) (by omega),D3 It.cells_len h (j:=1) (by omega),D3 It.cells_len h (j:=2) (by omega)⟩
def Mv:List Int:=[5,4,4,1,3,1,1,7,1,1]
def Sz (its:List It):Bool:=its.map (·.k)==Mv
section
variable {fu d:Nat}
theorem FJ {call:Ai}{a0n:Nat}{a0:List PV}{its:List It}(h10:its.length=10):∀(r:List It)(rk:List Int)(i nn:Nat),its.drop i=r->Mv.drop i=rk->r.length<nn->i<=10 ->
  Fi fu call a0n a0 nn its.length (Cd its) (its.length:Int) (i:Int) (Af .i64 Mv)=some ⟨[.sc (.bool (r.map (·.k)==rk))],[]⟩
 |_,_,_,0,_,_,h,_=>by omega
 |[],rk,i,nn+1,h,hk,hn,hi=>by
  have:=drop_nil h;obtain rfl:i=10:=by omega
  subst hk;rw [Iz,Da _ _ _ (by omega)]
  rfl
 |x::r,rk,i,nn+1,h,hk,hn,hi=>by
  obtain ⟨h1,h2,h3⟩:=Ck h;simp only [J4] at hn;obtain ⟨k,hk1⟩:∃k,Mv[i]?=some k:=⟨_,List.getElem?_eq_getElem (by show i<10;omega)⟩
  have hk2:rk=k::Mv.drop (i+1):=by
   rw [←hk,List.drop_eq_getElem_cons (by show i<10;omega)]
   congr 1
   rw [List.getElem?_eq_getElem (by show i<10;omega)] at hk1
   injection hk1
  subst hk2;have w:wrap .i64 ((i:Int)+1)=((i+1:Nat):Int):=by rw [Ak (by omega) (by omega)];omega
  obtain ⟨c0,c1,c2⟩:=aci h2;have ck:=Uh (k:=.i64) hk1;have ih:=FJ (call:=call) (a0n:=a0n) (a0:=a0) h10 r _ (i+1) nn h3 rfl (by omega) (by omega)
  rw [Iz,Zzw];by_cases e:x.k=k
  ·have b0:(x.k != k)=false:=by simp [e]
   have e1:(x.k::List.map (·.k) r==k::Mv.drop (i+1))=(List.map (·.k) r==Mv.drop (i+1)):=by simp [e]
   rw [e1,←ih];simp (disch:=omega) only [Br,H2,Cc,C3,c0,c1,c2,ck,b0,w]
  ·have b0:(x.k != k)=true:=by simp [e]
   have e1:(x.k::List.map (·.k) r==k::Mv.drop (i+1))=false:=by simp [e]
   rw [e1];simp (disch:=omega) only [Br,H2,Cc,C3,c0,c1,c2,ck,b0,w]
theorem Adn (hfu:1000<=fu)(its:List It):Ae C0 Tryz.prog fu (d+1) Ly [.lst false 3 its.length (Cd its)]=some ⟨[.sc (.bool (Sz its))],[]⟩:=by
 rw [Vr];show G3 _ _ _ _ _ _ _=_;rw [Sd (hnn:=by omega),Rk (hnn:=by omega)]
 by_cases h:its.length=10
 ·have b0:((its.length:Int) != 10)=false:=by simp;omega
  rw [b0,Aap];exact FJ (call:=Ae C0 Tryz.prog fu d) h its Mv 0 fu rfl rfl (by omega) (by omega)
 ·have b0:((its.length:Int) != 10)=true:=by simp;omega
  have e:Sz its=false:=by
   unfold Sz;cases q:(its.map (·.k)==Mv)
   ·rfl
   ·have:=congrArg List.length (eq_of_beq q);simp [Mv] at this;omega
  rw [b0,ZT,e]
theorem Abb {a b:List Int}(ha:J2 a)(hb:J2 b)(h:(a.map fun n=>n.toNat.toUInt8)=(b.map fun n=>n.toNat.toUInt8)):a=b:=by
 have e:B7 a=B7 b:=by unfold B7;rw [h]
 rw [←Np ha,←Np hb,e]
theorem Ar4 {a b:List Int}(ha:J2 a)(hb:J2 b):(Array.toList (ByteArray.data (ByteArray.mk (List.toArray (a.map fun n=>n.toNat.toUInt8))))==Array.toList (ByteArray.data (ByteArray.mk (List.toArray (b.map fun n=>n.toNat.toUInt8)))))=decide (a=b):=by
 by_cases h:a=b
 ·subst h;simp
 ·have:(List.map (fun n=>n.toNat.toUInt8) a)≠(List.map (fun n=>n.toNat.toUInt8) b):=fun e=>h (Abb ha hb e)
  simp only [h,decide_false]
  simpa using this
theorem MV {a b:List Int}(ha:J2 a)(hb:J2 b):Ae C0 Tryz.prog fu (d+1) Xz [.lst false 1 a.length (Af .u8 a),.lst false 1 b.length (Af .u8 b)]=some ⟨[.sc (.bool (decide (a=b)))],[]⟩:=by
 rw [NK];have La:=Aj .u8 a;have Lb:=Aj .u8 b;have ba:=Gp a;have bb:=Gp b;have q:=Ar4 ha hb;simp (disch:=omega) only [Br,La,Lb,ba,bb,q]
end
structure Ce.ok (c:Ce):Prop where
 ser:isU c.serial
 mod:isU c.model
 root:isU c.key.root
 sg:c.sig.ok
theorem Ce.ok.wf {c:Ce}(h:c.ok):c.wf:=⟨h.ser.1,h.mod.1⟩
def M7 (x1 x2 x3 x5 x6 x7 x8 x9:It)(k:Ky)(s:Sg):Ce:=⟨x1.s,x2.s,x3.n,k,wrap .i64 x5.n,wrap .i64 x6.n,x7.n==1,wrap .i64 x8.n,x9.n,s⟩
def PW (b:List Int):Option Ce:=
 if (I1 1000 [] 0 b 0 []).2.2≠0 then none else
 match (I1 1000 [] 0 b 0 []).1 with
 |[_,x1,x2,x3,x4,x5,x6,x7,x8,x9]=>(match IE (H7 x4.s),sgD (b.drop (I1 1000 [] 0 b 0 []).2.1) with|some k,some s=>some (M7 x1 x2 x3 x5 x6 x7 x8 x9 k s)|_,_=>none)
 |_=>none
def TC (b:List Int):Ce × Int:=
 if b.length>512 then (OU,8) else match PW b with|some c=>if Er c=0∧Hb c=b∧c.serial<=18446744073709551615∧c.model<=18446744073709551615 then (c,0) else (OU,2)|none=>(OU,2)
theorem Q9 {c:Ce}(h:Er c=0):A3 c=0∧C2 c.key.h=false∧C2 c.sig.path.length=false∧Hu c.sig.leaf c.sig.path.length=false∧c.sig.chains.length=18∧0<=c.fr∧c.fr<=c.un∧c.un<=1099511627776∧0<=c.path∧c.path<=2:=by
 unfold Er at h;by_cases h0:A3 c=0
 rotate_left
 ·rw [A6 h0] at h;exact absurd h h0
 rw [B4 h0] at h;unfold LY at h;have hb:=h0;unfold A3 at hb
 repeat' (split at h;· cases h)
 repeat' (split at hb;· cases hb)
 refine ⟨h0,by simp_all,by simp_all,by simp_all,by omega,by omega,by omega,by omega,by omega,by omega⟩
theorem XZ {c:Ce}(hc:c.ok)(h:Er c=0){m:Nat}(hm:10<m):I1 m [] 0 (Hb c) 0 []=(A8 c,(Be (A8 c)).length,0):=by
 obtain ⟨h0,h1,h2,h3,h4,h5,h6,h7,h8,h9⟩:=Q9 h
 have r:=OM (b:=Hb c) (rest:=DN c.sig) (A8 c) [] 0 0 m [] (Zp hc.wf h0) (by
  intro x hx;have u1:=hc.ser;have u2:=hc.mod;simp only [A8,List.mem_cons,List.not_mem_nil,or_false] at hx;rcases hx with rfl|rfl|rfl|rfl|rfl|rfl|rfl|rfl|rfl|rfl
  all_goals simp only
  all_goals try split
  all_goals omega) rfl (by simpa [A8] using hm)
 simpa using r
theorem KA {c:Ce}(h:Er c=0):M7 ⟨4,0,c.subj⟩ ⟨4,0,c.iss⟩ ⟨1,c.serial,F0⟩ ⟨1,c.fr,F0⟩ ⟨1,c.un,F0⟩ ⟨7,(if c.auth=true then 1 else 0),F0⟩ ⟨1,c.path,F0⟩ ⟨1,c.model,F0⟩ c.key c.sig=c:=by
 obtain ⟨h0,h1,h2,h3,h4,h5,h6,h7,h8,h9⟩:=Q9 h;obtain ⟨subj,iss,serial,key,fr,un,auth,path,model,sig⟩:=c;simp only at *
 unfold M7;simp only;rw [Ak (by omega) (by omega),Ak (by omega) (by omega),Ak (by omega) (by omega)]
 cases auth<;>rfl
theorem KY {c:Ce}(h:Er c=0):(Hb c).length<=400:=by
 obtain ⟨h0,h1,h2,h3,h4,h5,h6,h7,h8,h9⟩:=Q9 h;have:=Iw h0;have hb:=G7 h2;unfold Hb DN;simp only [Lf,J4,Db];omega
theorem Aig {c:Ce}(hw:c.wf)(h:Er c=0):J2 (Hb c):=by
 intro x hx;rcases List.mem_append.1 hx with hx|hx
 ·exact V7 hw (Q9 h).1 x hx
 ·exact Ars _ x hx
theorem Agn {c:Ce}(hc:c.ok)(h:Er c=0):IE (H7 (B7 (Io c.key)))=some c.key:=by
 rw [Np Aoe];exact Ae7 (Q9 h).2.1 hc.root
theorem Al7 {c:Ce}(hc:c.ok)(h:Er c=0):sgD ((Hb c).drop (Be (A8 c)).length)=some c.sig:=by
 obtain ⟨h0,h1,h2,h3,h4,h5,h6,h7,h8,h9⟩:=Q9 h;unfold Hb;rw [List.drop_left' rfl];exact Alb hc.sg h2 h3 h4
theorem VY {c:Ce}(hc:c.ok)(h:Er c=0):TC (Hb c)=(c,0):=by
 have r:=XZ hc h (m:=1000) (by omega)
 have k:=Agn hc h;have s:=Al7 hc h;have cs:=KA h;have l:=KY h;have u1:=hc.ser;have u2:=hc.mod
 have:PW (Hb c)=some c:=by
  unfold PW;rw [r];simp only [A8];simp only [A8] at s;rw [A6 (by simp),k,s]
  simp only [cs]
 unfold TC;rw [A6 (by omega),this]
 simp only;rw [B4 ⟨h,by trivial,u1.2,u2.2⟩]
theorem JT {x1 x2 x3 x5 x6 x7 x8 x9:It}{k:Ky}{s:Sg}(h3:OkX x3)(h9:OkX x9)(hk:isU k.root)(hs:s.ok):(M7 x1 x2 x3 x5 x6 x7 x8 x9 k s).ok:=⟨⟨h3.n0,h3.n1⟩,⟨h9.n0,h9.n1⟩,hk,hs⟩
theorem Aip {b:List Int}(hb:J2 b){c:Ce}(h:PW b=some c):c.ok:=by
 have ok:=(BJ hb 1000 [] 0 0 [] (by omega) (by simp)).2
 unfold PW at h;split at h
 ·cases h
 ·split at h
  ·rename_i e;rw [e] at ok;split at h
   ·rename_i hk hs;cases h;exact JT (ok _ (by simp)) (ok _ (by simp)) (RU hk).2 (Aav hs).1
   ·cases h
  ·cases h
theorem Ad5 {b:List Int}(hB:J2 b)(hl:b.length<=512)(hn:∀c:Ce,c.ok->Er c=0->Hb c≠b):TC b=(OU,2):=by
 unfold TC;rw [A6 (by omega)]
 cases h:PW b with
 |none=>rfl
 |some c=>
  simp only;rw [A6];intro ⟨h1,h2,_⟩;exact hn c (Aip hB h) h1 h2
end
section
open Go.IntKind (wrap)
def Aeq (b:List Int)(used:Nat):List It->Ce × Int
 |[_,x1,x2,x3,x4,x5,x6,x7,x8,x9]=>(match IE (H7 x4.s),sgD (b.drop used) with
  |some k,some s=>if Er (M7 x1 x2 x3 x5 x6 x7 x8 x9 k s)=0∧Hb (M7 x1 x2 x3 x5 x6 x7 x8 x9 k s)=b then (M7 x1 x2 x3 x5 x6 x7 x8 x9 k s,0) else (OU,2)
  |_,_=>(OU,2))
 |_=>(OU,2)
def FM (b:List Int)(r:List It × Nat × Int):Ce × Int:=
 if b.length>512 then (OU,8) else if r.2.2≠0 then (OU,2) else if Sz r.1=false then (OU,2) else Aeq b r.2.1 r.1
theorem WW {its:List It}(h:Sz its=true):its.length=10:=by
 have:=congrArg List.length (eq_of_beq h)
 simpa [Mv] using this
theorem Af9 {its:List It}(h:its.length=10):∃x0 x1 x2 x3 x4 x5 x6 x7 x8 x9,its=[x0,x1,x2,x3,x4,x5,x6,x7,x8,x9]:=by
 match its,h with
 |[x0,x1,x2,x3,x4,x5,x6,x7,x8,x9],_=>exact ⟨x0,x1,x2,x3,x4,x5,x6,x7,x8,x9,rfl⟩
theorem Aii {c:Ce}(hc:c.ok)(h:Er c=0):Aeq (Hb c) (Be (A8 c)).length (A8 c)=(c,0):=by
 have k:=Agn hc h;have s:=Al7 hc h;have cs:=KA h
 have e:Aeq (Hb c) (Be (A8 c)).length (A8 c)=(match IE (H7 (B7 (Io c.key))),sgD ((Hb c).drop (Be (A8 c)).length) with
  |some k,some s=>if Er (M7 ⟨4,0,c.subj⟩ ⟨4,0,c.iss⟩ ⟨1,c.serial,F0⟩ ⟨1,c.fr,F0⟩ ⟨1,c.un,F0⟩ ⟨7,(if c.auth=true then 1 else 0),F0⟩ ⟨1,c.path,F0⟩ ⟨1,c.model,F0⟩ k s)=0∧Hb (M7 ⟨4,0,c.subj⟩ ⟨4,0,c.iss⟩ ⟨1,c.serial,F0⟩ ⟨1,c.fr,F0⟩ ⟨1,c.un,F0⟩ ⟨7,(if c.auth=true then 1 else 0),F0⟩ ⟨1,c.path,F0⟩ ⟨1,c.model,F0⟩ k s)=Hb c then (M7 ⟨4,0,c.subj⟩ ⟨4,0,c.iss⟩ ⟨1,c.serial,F0⟩ ⟨1,c.fr,F0⟩ ⟨1,c.un,F0⟩ ⟨7,(if c.auth=true then 1 else 0),F0⟩ ⟨1,c.path,F0⟩ ⟨1,c.model,F0⟩ k s,0) else (OU,2)
  |_,_=>(OU,2)):=rfl
 rw [e,k,s];simp only [cs];rw [B4 ⟨h,by trivial⟩]
theorem Aea {b:List Int}{used:Nat}{its:List It}(hx:∀x∈its,OkX x)(hn:∀c:Ce,c.ok->Er c=0->Hb c≠b):Aeq b used its=(OU,2):=by
 unfold Aeq;split
 ·split
  ·rename_i hk hs;rw [A6];intro ⟨h1,h2⟩;exact hn _ (JT (hx _ (by simp)) (hx _ (by simp)) (RU hk).2 (Aav hs).1) h1 h2
  ·rfl
 ·rfl
theorem Ae3 (c:Ce):Sz (A8 c)=true:=rfl
theorem Agb {b:List Int}(hb:J2 b){r:List It × Nat × Int}(hx:∀x∈r.1,OkX x)(hc:∀c:Ce,c.ok->Er c=0->Hb c=b->r=(A8 c,(Be (A8 c)).length,0)):FM b r=TC b:=by
 by_cases h5:b.length>512
 ·unfold FM TC;rw [B4 h5,B4 h5]
 by_cases hex:∃c:Ce,c.ok∧Er c=0∧Hb c=b
 ·obtain ⟨c,c1,c2,c3⟩:=hex;have e:=hc c c1 c2 c3;subst c3;rw [VY c1 c2,e];unfold FM;rw [A6 h5,A6 (by simp),A6 (by simp [Ae3])]
  exact Aii c1 c2
 ·have hn:∀c:Ce,c.ok->Er c=0->Hb c≠b:=fun c h1 h2 h3=>hex ⟨c,h1,h2,h3⟩
  rw [Ad5 hb (by omega) hn]
  unfold FM;rw [A6 h5,Aea hx hn];split
  ·rfl
  ·split<;>rfl
section
variable {fu d:Nat}
theorem Aei (hfu:1000<=fu){b:List Int}(hb:J2 b)(hl:b.length<=1000000):
  Ae C0 Tryz.prog fu (d+9) Hh [.lst false 1 b.length (Af .u8 b)]=some ⟨[.agg (FM b (I1 fu [] 0 b 0 [])).1.cells,.sc (.int .i64 (FM b (I1 fu [] 0 b 0 [])).2)],[]⟩:=by
 refine (Un fu (d+8) b.length (Af .u8 b)).trans ?_;have dec:=Afg (fu:=fu) (d:=d+3) hfu hb hl;obtain ⟨hat,hox⟩:=BJ hb fu [] 0 0 [] (by omega) (by simp)
 generalize I1 fu [] 0 b 0 []=r at dec hat hox ⊢;obtain ⟨its,used,e⟩:=r;simp only at hat hox;unfold YY at dec;simp only at dec;unfold FM;simp only;by_cases h5:b.length>512
 ·rw [B4 h5]
  try unfold Aa
  repeat first
   |((with_reducible first|apply Ay|apply Am|apply Az|apply A5|apply Ba|apply Bi|apply B9|apply Ao);· first|with_reducible rfl|(simp (disch:=omega) only [Cc]<;>with_reducible rfl))
   |((with_reducible first|apply Ax|apply Av);· first|with_reducible rfl|omega|(simp (disch:=omega) only [gT,Cc]<;>omega))
   |(with_reducible apply Aw;· first|with_reducible rfl|(simp (disch:=omega) only [gF,Cc]<;>omega))
  try simp (disch:=omega) only [Cc]
  all_goals rfl
 rw [A6 h5];by_cases he:e=0
 rotate_left
 ·rw [B4 he];have he':(e != 0)=true:=by simp [he]
  try unfold Aa
  repeat first
   |((with_reducible first|apply Ay|apply Am|apply Az|apply A5|apply Ba|apply Bi|apply B9|apply Ao);· first|with_reducible rfl|(simp (disch:=omega) only [dec,he']<;>with_reducible rfl))
   |((with_reducible first|apply Ax|apply Av);· first|with_reducible rfl|omega|(simp (disch:=omega) only [gT,dec,he']<;>omega))
   |(with_reducible apply Aw;· first|with_reducible rfl|(simp (disch:=omega) only [gF,dec,he']<;>omega))
  try simp (disch:=omega) only [dec,he']
  all_goals rfl
 rw [A6 (by simp [he])]
 subst he;have e00:((0:Int) != 0)=false:=rfl;have e20:((2:Int) != 0)=true:=rfl;have ib:=Adn (fu:=fu) (d:=d+7) hfu its;have LT:=R1 its;have tT:List.take (its.length*3) (Cd its)=Cd its:=Uf (by omega)
 cases hib:Sz its
 ·rw [hib] at ib;rw [B4 rfl]
  try unfold Aa
  repeat first
   |((with_reducible first|apply Ay|apply Am|apply Az|apply A5|apply Ba|apply Bi|apply B9|apply Ao);· first|with_reducible rfl|(simp (disch:=omega) only [dec,e00,Es,C3,LT,tT,ib,C6,Dn]<;>with_reducible rfl))
   |((with_reducible first|apply Ax|apply Av);· first|with_reducible rfl|omega|(simp (disch:=omega) only [gT,dec,e00,Es,C3,LT,tT,ib,C6,Dn]<;>omega))
   |(with_reducible apply Aw;· first|with_reducible rfl|(simp (disch:=omega) only [gF,dec,e00,Es,C3,LT,tT,ib,C6,Dn]<;>omega))
  try simp (disch:=omega) only [dec,e00,Es,C3,LT,tT,ib,C6,Dn]
  all_goals rfl
 rw [hib] at ib;rw [A6 (by simp)]
 have h10:=WW hib;obtain ⟨x0,x1,x2,x3,x4,x5,x6,x7,x8,x9,rfl⟩:=Af9 h10;clear hib;have o1:=hox x1 (by simp)
 have o2:=hox x2 (by simp)
 have o3:=hox x3 (by simp)
 have o4:=hox x4 (by simp)
 have o9:=hox x9 (by simp)
 clear hox;have g14:List.getD (Cd [x0,x1,x2,x3,x4,x5,x6,x7,x8,x9]) 14 .top=.sc (.string x4.s):=rfl;have g5:List.getD (Cd [x0,x1,x2,x3,x4,x5,x6,x7,x8,x9]) 5 .top=.sc (.string x1.s):=rfl;have g8:List.getD (Cd [x0,x1,x2,x3,x4,x5,x6,x7,x8,x9]) 8 .top=.sc (.string x2.s):=rfl;have g10:List.getD (Cd [x0,x1,x2,x3,x4,x5,x6,x7,x8,x9]) 10 .top=.sc (.int .u64 x3.n):=rfl;have g16:List.getD (Cd [x0,x1,x2,x3,x4,x5,x6,x7,x8,x9]) 16 .top=.sc (.int .u64 x5.n):=rfl;have g19:List.getD (Cd [x0,x1,x2,x3,x4,x5,x6,x7,x8,x9]) 19 .top=.sc (.int .u64 x6.n):=rfl;have g22:List.getD (Cd [x0,x1,x2,x3,x4,x5,x6,x7,x8,x9]) 22 .top=.sc (.int .u64 x7.n):=rfl;have g25:List.getD (Cd [x0,x1,x2,x3,x4,x5,x6,x7,x8,x9]) 25 .top=.sc (.int .u64 x8.n):=rfl;have g28:List.getD (Cd [x0,x1,x2,x3,x4,x5,x6,x7,x8,x9]) 28 .top=.sc (.int .u64 x9.n):=rfl;have ln:[x0,x1,x2,x3,x4,x5,x6,x7,x8,x9].length=10:=rfl
 rw [ln] at dec ib LT tT;generalize Cd [x0,x1,x2,x3,x4,x5,x6,x7,x8,x9]=T at *
 clear h10;have hs4:=o4.s1;have L4:(Di x4.s).length=x4.s.size:=by rw [Mf,Aj,Of]
 have t4:List.take x4.s.size (Di x4.s)=Af .u8 (H7 x4.s):=by rw [Mf,Uf (by rw [Aj,Of];omega)]
 have dk:=Aeu (xs:=Jw) (fu:=fu) (d:=d+6) hfu (ZU x4.s);rw [Of] at dk;unfold Aeq;simp only;cases hk:IE (H7 x4.s) with
 |none=>
  rw [hk] at dk;simp only [YV,Ky.cells] at dk
  try unfold Aa
  repeat first
   |((with_reducible first|apply Ay|apply Am|apply Az|apply A5|apply Ba|apply Bi|apply B9|apply Ao);· first|with_reducible rfl|(simp (disch:=omega) only [dec,e00,e20,Es,C3,Cc,Nat.reduceMul,LT,tT,ib,g14,L4,t4,dk,C6,Dn]<;>with_reducible rfl))
   |((with_reducible first|apply Ax|apply Av);· first|with_reducible rfl|omega|(simp (disch:=omega) only [gT,dec,e00,e20,Es,C3,Cc,Nat.reduceMul,LT,tT,ib,g14,L4,t4,dk,C6,Dn]<;>omega))
   |(with_reducible apply Aw;· first|with_reducible rfl|(simp (disch:=omega) only [gF,dec,e00,e20,Es,C3,Cc,Nat.reduceMul,LT,tT,ib,g14,L4,t4,dk,C6,Dn]<;>omega))
  try simp (disch:=omega) only [dec,e00,e20,Es,C3,Cc,Nat.reduceMul,LT,tT,ib,g14,L4,t4,dk,C6,Dn]
  all_goals rfl
 |some k=>
  rw [hk] at dk;simp only [YV,Ky.cells] at dk;obtain ⟨k1,k2⟩:=RU hk;have ds:=Adt (xs:=Jw) (fu:=fu) (d:=d+6) hfu (l:=b.drop used) (fun x hx=>hb x (List.mem_of_mem_drop hx))
  rw [List.length_drop] at ds;have tb:List.take (b.length-used) (List.drop used (Af .u8 b))=Af .u8 (b.drop used):=by rw [Hx,Uf (by rw [Aj,List.length_drop];omega)]
  have nu:Int.toNat (used:Int)=used:=H2 used;cases hs:sgD (b.drop used) with
  |none=>
   rw [hs] at ds;simp only [Acb,Sg.owned] at ds
   try unfold Aa
   repeat first
    |((with_reducible first|apply Ay|apply Am|apply Az|apply A5|apply Ba|apply Bi|apply B9|apply Ao);· first|with_reducible rfl|(simp (disch:=omega) only [dec,e00,e20,Es,C3,Cc,Nat.reduceMul,LT,tT,ib,g14,L4,t4,dk,nu,tb,ds,C6,Dn]<;>with_reducible rfl))
    |((with_reducible first|apply Ax|apply Av);· first|with_reducible rfl|omega|(simp (disch:=omega) only [gT,dec,e00,e20,Es,C3,Cc,Nat.reduceMul,LT,tT,ib,g14,L4,t4,dk,nu,tb,ds,C6,Dn]<;>omega))
    |(with_reducible apply Aw;· first|with_reducible rfl|(simp (disch:=omega) only [gF,dec,e00,e20,Es,C3,Cc,Nat.reduceMul,LT,tT,ib,g14,L4,t4,dk,nu,tb,ds,C6,Dn]<;>omega))
   try simp (disch:=omega) only [dec,e00,e20,Es,C3,Cc,Nat.reduceMul,LT,tT,ib,g14,L4,t4,dk,nu,tb,ds,C6,Dn]
   all_goals rfl
  |some s=>
   rw [hs] at ds;simp only [Acb,Sg.owned] at ds;obtain ⟨s1,s2,s3⟩:=Aav hs;have cok:(M7 x1 x2 x3 x5 x6 x7 x8 x9 k s).ok:=JT o3 o9 k2 s1;have en:=Acu (fu:=fu) (d:=d) (c:=M7 x1 x2 x3 x5 x6 x7 x8 x9 k s) hfu cok.wf (Nat.le_trans o1.s1 (by omega)) (Nat.le_trans o2.s1 (by omega)) (Nat.le_trans s2 (by omega)) (Nat.lt_of_le_of_lt s2 (by omega))
   have ec:(M7 x1 x2 x3 x5 x6 x7 x8 x9 k s).cells=[.sc (.string x1.s),.sc (.string x2.s),.sc (.int .u64 x3.n),.sc (.int .i64 k.h),.sc (.int .u64 k.root),.sc (.int .i64 (wrap .i64 x5.n)),.sc (.int .i64 (wrap .i64 x6.n)),.sc (.bool (x7.n==1)),.sc (.int .i64 (wrap .i64 x8.n)),.sc (.int .u64 x9.n),.sc (.int .i64 s.leaf),.lst false 1 s.chains.length (Af .u64 s.chains),.lst false 1 s.path.length (Af .u64 s.path)]:=rfl;have eB:=fun h=>Aig (c:=M7 x1 x2 x3 x5 x6 x7 x8 x9 k s) cok.wf h
   have eL:=fun h=>KY (c:=M7 x1 x2 x3 x5 x6 x7 x8 x9 k s) h
   have Lc:=Aj .u64 s.chains;have Lp:=Aj .u64 s.path;have tc:=Jf .u64 s.chains;have tp:=Jf .u64 s.path;simp only;generalize M7 x1 x2 x3 x5 x6 x7 x8 x9 k s=c at *
   rw [ec] at en;unfold RW at en;by_cases hz:Er c=0
   rotate_left
   ·have hz':(Er c != 0)=true:=by simp [hz]
    rw [A6 hz] at en;rw [A6 (fun h=>hz h.1)]
    try unfold Aa
    repeat first
     |((with_reducible first|apply Ay|apply Am|apply Az|apply A5|apply Ba|apply Bi|apply B9|apply Ao);· first|with_reducible rfl|(simp (disch:=omega) only [dec,e00,e20,Es,C3,Cc,Nat.reduceMul,LT,tT,ib,g14,L4,t4,dk,nu,tb,ds,g5,g8,g10,g16,g19,g22,g25,g28,Lc,Lp,tc,tp,en,hz',C6,Dn]<;>with_reducible rfl))
     |((with_reducible first|apply Ax|apply Av);· first|with_reducible rfl|omega|(simp (disch:=omega) only [gT,dec,e00,e20,Es,C3,Cc,Nat.reduceMul,LT,tT,ib,g14,L4,t4,dk,nu,tb,ds,g5,g8,g10,g16,g19,g22,g25,g28,Lc,Lp,tc,tp,en,hz',C6,Dn]<;>omega))
     |(with_reducible apply Aw;· first|with_reducible rfl|(simp (disch:=omega) only [gF,dec,e00,e20,Es,C3,Cc,Nat.reduceMul,LT,tT,ib,g14,L4,t4,dk,nu,tb,ds,g5,g8,g10,g16,g19,g22,g25,g28,Lc,Lp,tc,tp,en,hz',C6,Dn]<;>omega))
    try simp (disch:=omega) only [dec,e00,e20,Es,C3,Cc,Nat.reduceMul,LT,tT,ib,g14,L4,t4,dk,nu,tb,ds,g5,g8,g10,g16,g19,g22,g25,g28,Lc,Lp,tc,tp,en,hz',C6,Dn]
    all_goals rfl
   rw [B4 hz] at en;have be:=MV (fu:=fu) (d:=d+7) (eB hz) hb;have LE:=Aj .u8 (Hb c);have tE:=Jf .u8 (Hb c);by_cases hq:Hb c=b
   ·rw [B4 ⟨hz,hq⟩];simp only [hq,decide_true] at be en LE tE;simp only [ec]
    try unfold Aa
    repeat first
     |((with_reducible first|apply Ay|apply Am|apply Az|apply A5|apply Ba|apply Bi|apply B9|apply Ao);· first|with_reducible rfl|(simp (disch:=omega) only [dec,e00,e20,Es,C3,Cc,Nat.reduceMul,LT,tT,ib,g14,L4,t4,dk,nu,tb,ds,g5,g8,g10,g16,g19,g22,g25,g28,Lc,Lp,tc,tp,en,LE,tE,be,C6,Dn]<;>with_reducible rfl))
     |((with_reducible first|apply Ax|apply Av);· first|with_reducible rfl|omega|(simp (disch:=omega) only [gT,dec,e00,e20,Es,C3,Cc,Nat.reduceMul,LT,tT,ib,g14,L4,t4,dk,nu,tb,ds,g5,g8,g10,g16,g19,g22,g25,g28,Lc,Lp,tc,tp,en,LE,tE,be,C6,Dn]<;>omega))
     |(with_reducible apply Aw;· first|with_reducible rfl|(simp (disch:=omega) only [gF,dec,e00,e20,Es,C3,Cc,Nat.reduceMul,LT,tT,ib,g14,L4,t4,dk,nu,tb,ds,g5,g8,g10,g16,g19,g22,g25,g28,Lc,Lp,tc,tp,en,LE,tE,be,C6,Dn]<;>omega))
    try simp (disch:=omega) only [dec,e00,e20,Es,C3,Cc,Nat.reduceMul,LT,tT,ib,g14,L4,t4,dk,nu,tb,ds,g5,g8,g10,g16,g19,g22,g25,g28,Lc,Lp,tc,tp,en,LE,tE,be,C6,Dn]
    all_goals rfl
   ·rw [A6 (fun h=>hq h.2)]
    simp only [hq,decide_false] at be
    try unfold Aa
    repeat first
     |((with_reducible first|apply Ay|apply Am|apply Az|apply A5|apply Ba|apply Bi|apply B9|apply Ao);· first|with_reducible rfl|(simp (disch:=omega) only [dec,e00,e20,Es,C3,Cc,Nat.reduceMul,LT,tT,ib,g14,L4,t4,dk,nu,tb,ds,g5,g8,g10,g16,g19,g22,g25,g28,Lc,Lp,tc,tp,en,LE,tE,be,C6,Dn]<;>with_reducible rfl))
     |((with_reducible first|apply Ax|apply Av);· first|with_reducible rfl|omega|(simp (disch:=omega) only [gT,dec,e00,e20,Es,C3,Cc,Nat.reduceMul,LT,tT,ib,g14,L4,t4,dk,nu,tb,ds,g5,g8,g10,g16,g19,g22,g25,g28,Lc,Lp,tc,tp,en,LE,tE,be,C6,Dn]<;>omega))
     |(with_reducible apply Aw;· first|with_reducible rfl|(simp (disch:=omega) only [gF,dec,e00,e20,Es,C3,Cc,Nat.reduceMul,LT,tT,ib,g14,L4,t4,dk,nu,tb,ds,g5,g8,g10,g16,g19,g22,g25,g28,Lc,Lp,tc,tp,en,LE,tE,be,C6,Dn]<;>omega))
    try simp (disch:=omega) only [dec,e00,e20,Es,C3,Cc,Nat.reduceMul,LT,tT,ib,g14,L4,t4,dk,nu,tb,ds,g5,g8,g10,g16,g19,g22,g25,g28,Lc,Lp,tc,tp,en,LE,tE,be,C6,Dn]
    all_goals rfl
theorem Ala (hfu:1000<=fu){b:List Int}(hb:J2 b)(hl:b.length<=1000000):
  Ae C0 Tryz.prog fu (d+9) Hh [.lst false 1 b.length (Af .u8 b)]=some ⟨[.agg (TC b).1.cells,.sc (.int .i64 (TC b).2)],[]⟩:=by
 have e:FM b (I1 fu [] 0 b 0 [])=TC b:=Agb hb (BJ hb fu [] 0 0 [] (by omega) (by simp)).2 (fun c c1 c2 c3=>by subst c3;exact XZ c1 c2 (by omega))
 rw [←e];exact Aei hfu hb hl
end
end
section
open Go.IntKind (wrap)
structure An where
 name:ByteArray
 key:Ky
structure Rv where
 iss:ByteArray
 ser:Int
 at_:Int
def An.cells (a:An):List PV:=[.sc (.string a.name),.sc (.int .i64 a.key.h),.sc (.int .u64 a.key.root)]
def Rv.cells (r:Rv):List PV:=[.sc (.string r.iss),.sc (.int .u64 r.ser),.sc (.int .i64 r.at_)]
def Z4 (l:List An):List PV:=l.flatMap An.cells
def Tq (l:List Rv):List PV:=l.flatMap Rv.cells
def Ic (l:List Ce):List PV:=l.flatMap Ce.cells
theorem An.cells_len (a:An):a.cells.length=3:=rfl
theorem Rv.cells_len (r:Rv):r.cells.length=3:=rfl
theorem Ce.cells_len (c:Ce):c.cells.length=13:=rfl
abbrev eqS (a b:ByteArray):Bool:=Array.toList (ByteArray.data a)==Array.toList (ByteArray.data b)
def TH (c:Ce)(now:Int)(r:Rv):Bool:=eqS r.iss c.iss&&(r.ser==c.serial&&decide (r.at_<=now))
def VO (c:Ce)(now:Int)(l:List Rv):Int:=if l.any (TH c now)=true then 39 else 0
def P6 (c:Ce)(i:Int)(l:List Rv)(now:Int):Int:=
 if A3 c≠0 then A3 c else if now<c.fr then 38 else if now>c.un then 38 else if i>0 then (if c.auth=false then 38 else if c.path<i-1 then 38 else VO c now l) else VO c now l
def Uk (c:Ce):Nat->List An->Int
 |_,[]=> -1
 |i,a::r=>if eqS a.name c.iss=true∧Uc c a.key=0 then (i:Int) else Uk c (i+1) r
def Aix (c:Ce)(l:List An):Int × Int:=if Uk c 0 l<0 then (0,38) else (Uk c 0 l,0)
def LU (ans:List An)(vs:List Rv)(now:Int):Nat->List Ce->Int × Int
 |_,[]=>(0,0)
 |i,[c]=>if P6 c i vs now≠0 then (0,P6 c i vs now) else Aix c ans
 |i,c::c2::r=>if P6 c i vs now≠0 then (0,P6 c i vs now) else if eqS c.iss c2.subj=false then (0,38) else if Uc c c2.key≠0 then (0,Uc c c2.key) else LU ans vs now (i+1) (c2::r)
def YN (cs:List Ce)(ans:List An)(vs:List Rv)(now:Int):Int × Int:=
 if now<0 then (0,9) else if now>1099511627776 then (0,9) else if cs.length<1 then (0,38) else if cs.length>3 then (0,38) else LU ans vs now 0 cs
structure Ce.in_ (c:Ce):Prop where
 wf:c.wf
 s1:c.subj.size<=9223372036854775807
 s2:c.iss.size<=9223372036854775807
theorem cer {l:List Ce}{i:Nat}{c:Ce}(h:l[i]?=some c):
  (Ic l).getD (i*13) .top=.sc (.string c.subj)∧(Ic l).getD (i*13+1) .top=.sc (.string c.iss)∧(Ic l).getD (i*13+1+1) .top=.sc (.int .u64 c.serial) ∧
  (Ic l).getD (i*13+1+1+1) .top=.sc (.int .i64 c.key.h)∧(Ic l).getD (i*13+1+1+1+1) .top=.sc (.int .u64 c.key.root)∧(Ic l).getD (i*13+1+1+1+1+1) .top=.sc (.int .i64 c.fr) ∧
  (Ic l).getD (i*13+1+1+1+1+1+1) .top=.sc (.int .i64 c.un)∧(Ic l).getD (i*13+1+1+1+1+1+1+1) .top=.sc (.bool c.auth)∧(Ic l).getD (i*13+1+1+1+1+1+1+1+1) .top=.sc (.int .i64 c.path) ∧
  (Ic l).getD (i*13+1+1+1+1+1+1+1+1+1) .top=.sc (.int .u64 c.model)∧(Ic l).getD (i*13+1+1+1+1+1+1+1+1+1+1) .top=.sc (.int .i64 c.sig.leaf) ∧
  (Ic l).getD (i*13+1+1+1+1+1+1+1+1+1+1+1) .top=.lst false 1 c.sig.chains.length (Af .u64 c.sig.chains)∧(Ic l).getD (i*13+1+1+1+1+1+1+1+1+1+1+1+1) .top=.lst false 1 c.sig.path.length (Af .u64 c.sig.path):=
 ⟨D3 Ce.cells_len h (j:=0) (by omega),D3 Ce.cells_len h (j:=1) (by omega),D3 Ce.cells_len h (j:=2) (by omega),D3 Ce.cells_len h (j:=3) (by omega),D3 Ce.cells_len h (j:=4) (by omega),D3 Ce.cells_len h (j:=5) (by omega),D3 Ce.cells_len h (j:=6) (by omega),D3 Ce.cells_len h (j:=7) (by omega),D3 Ce.cells_len h (j:=8) (by omega),D3 Ce.cells_len h (j:=9) (by omega),D3 Ce.cells_len h (j:=10) (by omega),D3 Ce.cells_len h (j:=11) (by omega),D3 Ce.cells_len h (j:=12) (by omega)⟩
theorem rva {l:List Rv}{i:Nat}{r:Rv}(h:l[i]?=some r):(Tq l).getD (i*3) .top=.sc (.string r.iss)∧(Tq l).getD (i*3+1) .top=.sc (.int .u64 r.ser)∧(Tq l).getD (i*3+2) .top=.sc (.int .i64 r.at_):=
 ⟨D3 Rv.cells_len h (j:=0) (by omega),D3 Rv.cells_len h (j:=1) (by omega),D3 Rv.cells_len h (j:=2) (by omega)⟩
theorem ana {l:List An}{i:Nat}{a:An}(h:l[i]?=some a):(Z4 l).getD (i*3) .top=.sc (.string a.name)∧(Z4 l).getD (i*3+1) .top=.sc (.int .i64 a.key.h)∧(Z4 l).getD (i*3+2) .top=.sc (.int .u64 a.key.root):=
 ⟨D3 An.cells_len h (j:=0) (by omega),D3 An.cells_len h (j:=1) (by omega),D3 An.cells_len h (j:=2) (by omega)⟩
section
variable {fu d:Nat}
theorem PC {call:Ai}{a0_0 a0_1:ByteArray}{a0_2 a0_3 a0_4 a0_5 a0_6 a0_8 a0_9 a0_10 a1 a3:Int}{a0_7:Bool}{a0_11n a0_12n a2n:Nat}{a0_11 a0_12 a2:List PV}{c:Ce}{now:Int}{vs:List Rv}(hl:vs.length<=1000000):∀(r:List Rv)(i nn:Nat),vs.drop i=r->r.length<nn->i<=vs.length ->
  Cg fu call a0_0 a0_1 a0_2 a0_3 a0_4 a0_5 a0_6 a0_7 a0_8 a0_9 a0_10 a0_11n a0_11 a0_12n a0_12 a1 a2n a2 a3 nn now vs.length (Tq vs) (vs.length:Int) (i:Int) c.subj c.iss c.serial c.key.h c.key.root c.fr c.un c.auth c.path c.model c.sig.leaf c.sig.chains.length (Af .u64 c.sig.chains) c.sig.path.length (Af .u64 c.sig.path) =
   some ⟨[.sc (.int .i64 (VO c now r))],[]⟩
 |_,_,0,_,h,_=>by omega
 |[],i,nn+1,h,hn,hi=>by
  have:=drop_nil h;rw [Hm,Da _ _ _ (by omega)]
  rfl
 |r::rs,i,nn+1,h,hn,hi=>by
  obtain ⟨h1,h2,h3⟩:=Ck h;simp only [J4] at hn;obtain ⟨c0,c1,c2⟩:=rva h2;have w:wrap .i64 ((i:Int)+1)=((i+1:Nat):Int):=by rw [Ak (by omega) (by omega)];omega
  have nt:Int.toNat (i:Int)=i:=H2 _;have c2':(Tq vs).getD (i*3+1+1) .top=.sc (.int .i64 r.at_):=c2;have ih:=PC (call:=call) (a0_0:=a0_0) (a0_1:=a0_1) (a0_2:=a0_2) (a0_3:=a0_3) (a0_4:=a0_4) (a0_5:=a0_5) (a0_6:=a0_6) (a0_7:=a0_7) (a0_8:=a0_8) (a0_9:=a0_9) (a0_10:=a0_10) (a1:=a1) (a3:=a3) (a0_11n:=a0_11n) (a0_12n:=a0_12n) (a2n:=a2n) (a0_11:=a0_11) (a0_12:=a0_12) (a2:=a2) (c:=c) (now:=now) hl rs (i+1) nn h3 (by omega) (by omega)
  have er:VO c now (r::rs)=if TH c now r=true then 39 else VO c now rs:=by
   unfold VO;rw [List.any_cons];cases TH c now r<;>rfl
  rw [er,Hm];unfold TH;cases e1:eqS r.iss c.iss
  ·rw [Bool.false_and,A6 (by simp),←ih]
   try unfold Aa
   repeat first
    |((with_reducible first|apply Ay|apply Am|apply Az|apply A5|apply Ba|apply Bi|apply Cu|apply Ao);· first|with_reducible rfl|(simp (disch:=omega) only [nt,c0,c1,c2',e1,w]<;>with_reducible rfl))
    |((with_reducible first|apply Ax|apply Av);· first|with_reducible rfl|omega|(simp (disch:=omega) only [gT,nt,c0,c1,c2',e1,w]<;>omega))
    |(with_reducible apply Aw;· first|with_reducible rfl|(simp (disch:=omega) only [gF,nt,c0,c1,c2',e1,w]<;>omega))
   try simp (disch:=omega) only [nt,c0,c1,c2',e1,w]
   all_goals rfl
  ·cases e2:(r.ser==c.serial)
   ·rw [Bool.true_and,Bool.false_and,A6 (by simp),←ih]
    try unfold Aa
    repeat first
     |((with_reducible first|apply Ay|apply Am|apply Az|apply A5|apply Ba|apply Bi|apply Cu|apply Ao);· first|with_reducible rfl|(simp (disch:=omega) only [nt,c0,c1,c2',e1,e2,w]<;>with_reducible rfl))
     |((with_reducible first|apply Ax|apply Av);· first|with_reducible rfl|omega|(simp (disch:=omega) only [gT,nt,c0,c1,c2',e1,e2,w]<;>omega))
     |(with_reducible apply Aw;· first|with_reducible rfl|(simp (disch:=omega) only [gF,nt,c0,c1,c2',e1,e2,w]<;>omega))
    try simp (disch:=omega) only [nt,c0,c1,c2',e1,e2,w]
    all_goals rfl
   ·by_cases e3:r.at_<=now
    ·rw [B4 (by simp [e3])]
     try unfold Aa
     repeat first
      |((with_reducible first|apply Ay|apply Am|apply Az|apply A5|apply Ba|apply Bi|apply Cu|apply Ao);· first|with_reducible rfl|(simp (disch:=omega) only [nt,c0,c1,c2',e1,e2,w]<;>with_reducible rfl))
      |((with_reducible first|apply Ax|apply Av);· first|with_reducible rfl|omega|(simp (disch:=omega) only [gT,nt,c0,c1,c2',e1,e2,w]<;>omega))
      |(with_reducible apply Aw;· first|with_reducible rfl|(simp (disch:=omega) only [gF,nt,c0,c1,c2',e1,e2,w]<;>omega))
     try simp (disch:=omega) only [nt,c0,c1,c2',e1,e2,w]
     all_goals rfl
    ·rw [A6 (by simp [e3]),←ih]
     try unfold Aa
     repeat first
      |((with_reducible first|apply Ay|apply Am|apply Az|apply A5|apply Ba|apply Bi|apply Cu|apply Ao);· first|with_reducible rfl|(simp (disch:=omega) only [nt,c0,c1,c2',e1,e2,w]<;>with_reducible rfl))
      |((with_reducible first|apply Ax|apply Av);· first|with_reducible rfl|omega|(simp (disch:=omega) only [gT,nt,c0,c1,c2',e1,e2,w]<;>omega))
      |(with_reducible apply Aw;· first|with_reducible rfl|(simp (disch:=omega) only [gF,nt,c0,c1,c2',e1,e2,w]<;>omega))
     try simp (disch:=omega) only [nt,c0,c1,c2',e1,e2,w]
     all_goals rfl
theorem Acn (hfu:1000<=fu){c:Ce}(hc:c.in_){vs:List Rv}(hl:vs.length<=900){i:Int}(hi:0<=i)(hi':i<=1000)(now:Int):
  Ae C0 Tryz.prog fu (d+8) I8 [.agg c.cells,.sc (.int .i64 i),.lst false 3 vs.length (Tq vs),.sc (.int .i64 now)]=some ⟨[.sc (.int .i64 (P6 c i vs now))],[]⟩:=by
 refine (R6 fu (d+7) c.subj c.iss c.serial c.key.h c.key.root c.fr c.un c.auth c.path c.model c.sig.leaf c.sig.chains.length (Af .u64 c.sig.chains) c.sig.path.length (Af .u64 c.sig.path) i vs.length (Tq vs) now).trans ?_;have bq:=LV (fu:=fu) (d:=d) hfu hc.wf hc.s1 hc.s2;simp only [Ce.cells] at bq;unfold Gr at bq;have lp:=PC (fu:=fu) (call:=Ae C0 Tryz.prog fu (d+7)) (a0_0:=c.subj) (a0_1:=c.iss) (a0_2:=c.serial) (a0_3:=c.key.h) (a0_4:=c.key.root) (a0_5:=c.fr) (a0_6:=c.un) (a0_7:=c.auth) (a0_8:=c.path) (a0_9:=c.model) (a0_10:=c.sig.leaf) (a1:=i) (a3:=now) (a0_11n:=c.sig.chains.length) (a0_12n:=c.sig.path.length) (a2n:=vs.length) (a0_11:=Af .u64 c.sig.chains) (a0_12:=Af .u64 c.sig.path) (a2:=Tq vs) (c:=c) (now:=now) (vs:=vs) (by omega) vs 0 fu rfl (by omega) (by omega)
 unfold P6;by_cases h0:A3 c=0
 rotate_left
 ·have hne:(A3 c != 0)=true:=by simp [h0]
  rw [A6 h0] at bq;rw [B4 h0]
  try unfold Aa
  repeat first
   |((with_reducible first|apply Ay|apply Am|apply Az|apply A5|apply Ba|apply Bi|apply Cu|apply Ao);· first|with_reducible rfl|(simp (disch:=omega) only [bq,hne]<;>with_reducible rfl))
   |((with_reducible first|apply Ax|apply Av);· first|with_reducible rfl|omega|(simp (disch:=omega) only [gT,bq,hne]<;>omega))
   |(with_reducible apply Aw;· first|with_reducible rfl|(simp (disch:=omega) only [gF,bq,hne]<;>omega))
  try simp (disch:=omega) only [bq,hne]
  all_goals rfl
 rw [B4 h0] at bq;rw [A6 (by simp [h0])]
 have e00:((0:Int) != 0)=false:=rfl;have w:wrap .i64 (i-1)=i-1:=Ak (by omega) (by omega)
 by_cases h1:now<c.fr
 ·rw [B4 h1]
  try unfold Aa
  repeat first
   |((with_reducible first|apply Ay|apply Am|apply Az|apply A5|apply Ba|apply Bi|apply Cu|apply Ao);· first|with_reducible rfl|(simp (disch:=omega) only [bq,e00]<;>with_reducible rfl))
   |((with_reducible first|apply Ax|apply Av);· first|with_reducible rfl|omega|(simp (disch:=omega) only [gT,bq,e00]<;>omega))
   |(with_reducible apply Aw;· first|with_reducible rfl|(simp (disch:=omega) only [gF,bq,e00]<;>omega))
  try simp (disch:=omega) only [bq,e00]
  all_goals rfl
 rw [A6 h1];by_cases h2:now>c.un
 ·rw [B4 h2]
  try unfold Aa
  repeat first
   |((with_reducible first|apply Ay|apply Am|apply Az|apply A5|apply Ba|apply Bi|apply Cu|apply Ao);· first|with_reducible rfl|(simp (disch:=omega) only [bq,e00]<;>with_reducible rfl))
   |((with_reducible first|apply Ax|apply Av);· first|with_reducible rfl|omega|(simp (disch:=omega) only [gT,bq,e00]<;>omega))
   |(with_reducible apply Aw;· first|with_reducible rfl|(simp (disch:=omega) only [gF,bq,e00]<;>omega))
  try simp (disch:=omega) only [bq,e00]
  all_goals rfl
 rw [A6 h2];by_cases h3:i>0
 ·rw [B4 h3];cases h4:c.auth
  ·rw [B4 rfl];rw [h4] at bq
   try unfold Aa
   repeat first
    |((with_reducible first|apply Ay|apply Am|apply Az|apply A5|apply Ba|apply Bi|apply Cu|apply Ao);· first|with_reducible rfl|(simp (disch:=omega) only [bq,e00,Dn]<;>with_reducible rfl))
    |((with_reducible first|apply Ax|apply Av);· first|with_reducible rfl|omega|(simp (disch:=omega) only [gT,bq,e00,Dn]<;>omega))
    |(with_reducible apply Aw;· first|with_reducible rfl|(simp (disch:=omega) only [gF,bq,e00,Dn]<;>omega))
   try simp (disch:=omega) only [bq,e00,Dn]
   all_goals rfl
  ·rw [A6 (by simp)]
   rw [h4] at lp bq;by_cases h5:c.path<i-1
   ·rw [B4 h5]
    try unfold Aa
    repeat first
     |((with_reducible first|apply Ay|apply Am|apply Az|apply A5|apply Ba|apply Bi|apply Cu|apply Ao);· first|with_reducible rfl|(simp (disch:=omega) only [bq,e00,h4,w,C6]<;>with_reducible rfl))
     |((with_reducible first|apply Ax|apply Av);· first|with_reducible rfl|omega|(simp (disch:=omega) only [gT,bq,e00,h4,w,C6]<;>omega))
     |(with_reducible apply Aw;· first|with_reducible rfl|(simp (disch:=omega) only [gF,bq,e00,h4,w,C6]<;>omega))
    try simp (disch:=omega) only [bq,e00,h4,w,C6]
    all_goals rfl
   ·rw [A6 h5,←lp]
    try unfold Aa
    repeat first
     |((with_reducible first|apply Ay|apply Am|apply Az|apply A5|apply Ba|apply Bi|apply Cu|apply Ao);· first|with_reducible rfl|(simp (disch:=omega) only [bq,e00,h4,w,C6]<;>with_reducible rfl))
     |((with_reducible first|apply Ax|apply Av);· first|with_reducible rfl|omega|(simp (disch:=omega) only [gT,bq,e00,h4,w,C6]<;>omega))
     |(with_reducible apply Aw;· first|with_reducible rfl|(simp (disch:=omega) only [gF,bq,e00,h4,w,C6]<;>omega))
    try simp (disch:=omega) only [bq,e00,h4,w,C6]
    all_goals rfl
 ·rw [A6 h3,←lp]
  try unfold Aa
  repeat first
   |((with_reducible first|apply Ay|apply Am|apply Az|apply A5|apply Ba|apply Bi|apply Cu|apply Ao);· first|with_reducible rfl|(simp (disch:=omega) only [bq,e00]<;>with_reducible rfl))
   |((with_reducible first|apply Ax|apply Av);· first|with_reducible rfl|omega|(simp (disch:=omega) only [gT,bq,e00]<;>omega))
   |(with_reducible apply Aw;· first|with_reducible rfl|(simp (disch:=omega) only [gF,bq,e00]<;>omega))
  try simp (disch:=omega) only [bq,e00]
  all_goals rfl
theorem AG (hfu:1000<=fu){a0n a1n a2n:Nat}{a0 a1 a2:List PV}{a3:Int}{c:Ce}(hc:c.in_){ans:List An}(hl:ans.length<=1000000):∀(r:List An)(i nn:Nat),ans.drop i=r->r.length<nn->i<=ans.length ->
  Dz fu (Ae C0 Tryz.prog fu (d+9)) a0n a0 a1n a1 a2n a2 a3 nn ans.length (Z4 ans) (ans.length:Int) (i:Int) c.subj c.iss c.serial c.key.h c.key.root c.fr c.un c.auth c.path c.model c.sig.leaf c.sig.chains.length (Af .u64 c.sig.chains) c.sig.path.length (Af .u64 c.sig.path) =
   some ⟨(if Uk c i r<0 then [.sc (.int .i64 0),.sc (.int .i64 38)] else [.sc (.int .i64 (Uk c i r)),.sc (.int .i64 0)]),[]⟩
 |_,_,0,_,h,_=>by omega
 |[],i,nn+1,h,hn,hi=>by
  have:=drop_nil h;rw [Kd,Da _ _ _ (by omega)]
  rfl
 |a::rs,i,nn+1,h,hn,hi=>by
  obtain ⟨h1,h2,h3⟩:=Ck h;simp only [J4] at hn;obtain ⟨c0,c1,c2⟩:=ana h2;have w:wrap .i64 ((i:Int)+1)=((i+1:Nat):Int):=by rw [Ak (by omega) (by omega)];omega
  have nt:Int.toNat (i:Int)=i:=H2 _;have c2':(Z4 ans).getD (i*3+1+1) .top=.sc (.int .u64 a.key.root):=c2;have vq:=Uu (fu:=fu) (d:=d) hfu hc.wf hc.s1 hc.s2 a.key;simp only [Ce.cells,Ky.cells] at vq;have ih:=AG hfu (a0n:=a0n) (a1n:=a1n) (a2n:=a2n) (a0:=a0) (a1:=a1) (a2:=a2) (a3:=a3) hc hl rs (i+1) nn h3 (by omega) (by omega)
  rw [Kd];cases e1:eqS a.name c.iss
  ·have er:Uk c i (a::rs)=Uk c (i+1) rs:=by rw [Uk,A6 (by simp [e1])]
   rw [er,←ih]
   try unfold Aa
   repeat first
    |((with_reducible first|apply Ay|apply Am|apply Az|apply A5|apply Ba|apply Bi|apply Cu|apply Ao);· first|with_reducible rfl|(simp (disch:=omega) only [nt,c0,c1,c2',e1,w]<;>with_reducible rfl))
    |((with_reducible first|apply Ax|apply Av);· first|with_reducible rfl|omega|(simp (disch:=omega) only [gT,nt,c0,c1,c2',e1,w]<;>omega))
    |(with_reducible apply Aw;· first|with_reducible rfl|(simp (disch:=omega) only [gF,nt,c0,c1,c2',e1,w]<;>omega))
   try simp (disch:=omega) only [nt,c0,c1,c2',e1,w]
   all_goals rfl
  ·by_cases e2:Uc c a.key=0
   ·have e2':(Uc c a.key==0)=true:=by simp [e2]
    have er:Uk c i (a::rs)=(i:Int):=by rw [Uk,B4 ⟨e1,e2⟩]
    rw [er,A6 (by omega)]
    try unfold Aa
    repeat first
     |((with_reducible first|apply Ay|apply Am|apply Az|apply A5|apply Ba|apply Bi|apply Cu|apply Ao);· first|with_reducible rfl|(simp (disch:=omega) only [nt,c0,c1,c2',e1,w,vq,e2']<;>with_reducible rfl))
     |((with_reducible first|apply Ax|apply Av);· first|with_reducible rfl|omega|(simp (disch:=omega) only [gT,nt,c0,c1,c2',e1,w,vq,e2']<;>omega))
     |(with_reducible apply Aw;· first|with_reducible rfl|(simp (disch:=omega) only [gF,nt,c0,c1,c2',e1,w,vq,e2']<;>omega))
    try simp (disch:=omega) only [nt,c0,c1,c2',e1,w,vq,e2']
    all_goals rfl
   ·have e2':(Uc c a.key==0)=false:=by simp [e2]
    have er:Uk c i (a::rs)=Uk c (i+1) rs:=by rw [Uk,A6 (by simp [e2])]
    rw [er,←ih]
    try unfold Aa
    repeat first
     |((with_reducible first|apply Ay|apply Am|apply Az|apply A5|apply Ba|apply Bi|apply Cu|apply Ao);· first|with_reducible rfl|(simp (disch:=omega) only [nt,c0,c1,c2',e1,w,vq,e2']<;>with_reducible rfl))
     |((with_reducible first|apply Ax|apply Av);· first|with_reducible rfl|omega|(simp (disch:=omega) only [gT,nt,c0,c1,c2',e1,w,vq,e2']<;>omega))
     |(with_reducible apply Aw;· first|with_reducible rfl|(simp (disch:=omega) only [gF,nt,c0,c1,c2',e1,w,vq,e2']<;>omega))
    try simp (disch:=omega) only [nt,c0,c1,c2',e1,w,vq,e2']
    all_goals rfl
theorem QO (hfu:1000<=fu){a0n a1n a2n:Nat}{a0 a1 a2:List PV}{a3:Int}{cs:List Ce}(hc:∀c∈cs,c.in_)(h3:cs.length<=3){ans:List An}(hl:ans.length<=900){vs:List Rv}(hv:vs.length<=900){now:Int}:∀(r:List Ce)(i nn:Nat),r≠[]->cs.drop i=r->r.length<nn->i<=cs.length ->
  F8 fu (Ae C0 Tryz.prog fu (d+9)) a0n a0 a1n a1 a2n a2 a3 nn cs.length (Ic cs) ans.length (Z4 ans) vs.length (Tq vs) now cs.length (Ic cs) (cs.length:Int) (i:Int) =
   some ⟨[.sc (.int .i64 (LU ans vs now i r).1),.sc (.int .i64 (LU ans vs now i r).2)],[]⟩
 |_,_,0,_,_,h,_=>by omega
 |[],i,nn+1,hne,_,_,_=>absurd rfl hne
 |[c],i,nn+1,hne,h,hn,hi=>by
  obtain ⟨h1,h2,h3'⟩:=Ck h;have hlast:=drop_nil h3';have hci:=hc c (List.mem_of_getElem? h2);obtain ⟨c0,c1,c2,c3,c4,c5,c6,c7,c8,c9,c10,c11,c12⟩:=cer h2;have nt:Int.toNat (i:Int)=i:=H2 _;have lk:=Acn (fu:=fu) (d:=d+1) hfu hci hv (i:=(i:Int)) (by omega) (by omega) now
  simp only [Ce.cells] at lk;have w:wrap .i64 ((cs.length:Int)-1)=(i:Int):=by rw [Ak (by omega) (by omega)];omega
  have eb:((i:Int)==(i:Int))=true:=by simp
  rw [Ka];unfold LU;by_cases hz:P6 c i vs now=0
  ·have pa:=AG (fu:=fu) (d:=d) hfu (a0n:=a0n) (a1n:=a1n) (a2n:=a2n) (a0:=a0) (a1:=a1) (a2:=a2) (a3:=a3) hci (ans:=ans) (by omega) ans 0 fu rfl (by omega) (by omega)
   have e0:(P6 c i vs now != 0)=false:=by simp [hz]
   have ea:(some ⟨(if Uk c 0 ans<0 then [.sc (.int .i64 0),.sc (.int .i64 38)] else [.sc (.int .i64 (Uk c 0 ans)),.sc (.int .i64 0)]),[]⟩:Option At)=some ⟨[.sc (.int .i64 (Aix c ans).1),.sc (.int .i64 (Aix c ans).2)],[]⟩:=by
    unfold Aix;split<;>rfl
   rw [ea] at pa;rw [A6 (by simp [hz]),←pa]
   try unfold Aa
   repeat first
    |((with_reducible first|apply Ay|apply Am|apply Az|apply A5|apply Ba|apply Bi|apply Cu|apply Ao);· first|with_reducible rfl|(simp (disch:=omega) only [nt,c0,c1,c2,c3,c4,c5,c6,c7,c8,c9,c10,c11,c12,lk,e0,w,eb]<;>with_reducible rfl))
    |((with_reducible first|apply Ax|apply Av);· first|with_reducible rfl|omega|(simp (disch:=omega) only [gT,nt,c0,c1,c2,c3,c4,c5,c6,c7,c8,c9,c10,c11,c12,lk,e0,w,eb]<;>omega))
    |(with_reducible apply Aw;· first|with_reducible rfl|(simp (disch:=omega) only [gF,nt,c0,c1,c2,c3,c4,c5,c6,c7,c8,c9,c10,c11,c12,lk,e0,w,eb]<;>omega))
   try simp (disch:=omega) only [nt,c0,c1,c2,c3,c4,c5,c6,c7,c8,c9,c10,c11,c12,lk,e0,w,eb]
   all_goals rfl
  ·have e0:(P6 c i vs now != 0)=true:=by simp [hz]
   rw [B4 hz]
   try unfold Aa
   repeat first
    |((with_reducible first|apply Ay|apply Am|apply Az|apply A5|apply Ba|apply Bi|apply Cu|apply Ao);· first|with_reducible rfl|(simp (disch:=omega) only [nt,c0,c1,c2,c3,c4,c5,c6,c7,c8,c9,c10,c11,c12,lk,e0]<;>with_reducible rfl))
    |((with_reducible first|apply Ax|apply Av);· first|with_reducible rfl|omega|(simp (disch:=omega) only [gT,nt,c0,c1,c2,c3,c4,c5,c6,c7,c8,c9,c10,c11,c12,lk,e0]<;>omega))
    |(with_reducible apply Aw;· first|with_reducible rfl|(simp (disch:=omega) only [gF,nt,c0,c1,c2,c3,c4,c5,c6,c7,c8,c9,c10,c11,c12,lk,e0]<;>omega))
   try simp (disch:=omega) only [nt,c0,c1,c2,c3,c4,c5,c6,c7,c8,c9,c10,c11,c12,lk,e0]
   all_goals rfl
 |c::e::r,i,nn+1,hne,h,hn,hi=>by
  obtain ⟨h1,h2,h3'⟩:=Ck h;obtain ⟨k1,k2,k3⟩:=Ck h3';simp only [J4] at hn;have hci:=hc c (List.mem_of_getElem? h2);obtain ⟨c0,c1,c2,c3,c4,c5,c6,c7,c8,c9,c10,c11,c12⟩:=cer h2;obtain ⟨q0,q1,q2,q3,q4,_⟩:=cer k2;have nt:Int.toNat (i:Int)=i:=H2 _;have nt1:Int.toNat ((i+1:Nat):Int)=i+1:=H2 _;have lk:=Acn (fu:=fu) (d:=d+1) hfu hci hv (i:=(i:Int)) (by omega) (by omega) now
  simp only [Ce.cells] at lk;have w:wrap .i64 ((cs.length:Int)-1)=(cs.length:Int)-1:=Ak (by omega) (by omega)
  have w1:wrap .i64 ((i:Int)+1)=((i+1:Nat):Int):=by rw [Ak (by omega) (by omega)];omega
  have eb:((i:Int)==(cs.length:Int)-1)=false:=by simp;omega
  have q3':(Ic cs).getD ((i+1)*13+3) .top=.sc (.int .i64 e.key.h):=q3;have q4':(Ic cs).getD ((i+1)*13+3+1) .top=.sc (.int .u64 e.key.root):=q4;have vq:=Uu (fu:=fu) (d:=d) hfu hci.wf hci.s1 hci.s2 e.key;simp only [Ce.cells,Ky.cells] at vq;rw [Ka];unfold LU;by_cases hz:P6 c i vs now=0
  rotate_left
  ·have e0:(P6 c i vs now != 0)=true:=by simp [hz]
   rw [B4 hz]
   try unfold Aa
   repeat first
    |((with_reducible first|apply Ay|apply Am|apply Az|apply A5|apply Ba|apply Bi|apply Cu|apply Ao);· first|with_reducible rfl|(simp (disch:=omega) only [nt,c0,c1,c2,c3,c4,c5,c6,c7,c8,c9,c10,c11,c12,lk,e0]<;>with_reducible rfl))
    |((with_reducible first|apply Ax|apply Av);· first|with_reducible rfl|omega|(simp (disch:=omega) only [gT,nt,c0,c1,c2,c3,c4,c5,c6,c7,c8,c9,c10,c11,c12,lk,e0]<;>omega))
    |(with_reducible apply Aw;· first|with_reducible rfl|(simp (disch:=omega) only [gF,nt,c0,c1,c2,c3,c4,c5,c6,c7,c8,c9,c10,c11,c12,lk,e0]<;>omega))
   try simp (disch:=omega) only [nt,c0,c1,c2,c3,c4,c5,c6,c7,c8,c9,c10,c11,c12,lk,e0]
   all_goals rfl
  have e0:(P6 c i vs now != 0)=false:=by simp [hz]
  rw [A6 (by simp [hz])]
  cases es:eqS c.iss e.subj
  ·rw [B4 rfl]
   try unfold Aa
   repeat first
    |((with_reducible first|apply Ay|apply Am|apply Az|apply A5|apply Ba|apply Bi|apply Cu|apply Ao);· first|with_reducible rfl|(simp (disch:=omega) only [nt,nt1,PB,c0,c1,c2,c3,c4,c5,c6,c7,c8,c9,c10,c11,c12,lk,e0,w,eb,w1,q0,es,Dn]<;>with_reducible rfl))
    |((with_reducible first|apply Ax|apply Av);· first|with_reducible rfl|omega|(simp (disch:=omega) only [gT,nt,nt1,PB,c0,c1,c2,c3,c4,c5,c6,c7,c8,c9,c10,c11,c12,lk,e0,w,eb,w1,q0,es,Dn]<;>omega))
    |(with_reducible apply Aw;· first|with_reducible rfl|(simp (disch:=omega) only [gF,nt,nt1,PB,c0,c1,c2,c3,c4,c5,c6,c7,c8,c9,c10,c11,c12,lk,e0,w,eb,w1,q0,es,Dn]<;>omega))
   try simp (disch:=omega) only [nt,nt1,PB,c0,c1,c2,c3,c4,c5,c6,c7,c8,c9,c10,c11,c12,lk,e0,w,eb,w1,q0,es,Dn]
   all_goals rfl
  rw [A6 (by simp)]
  by_cases hv':Uc c e.key=0
  ·have v0:(Uc c e.key != 0)=false:=by simp [hv']
   have ih:=QO hfu (a0n:=a0n) (a1n:=a1n) (a2n:=a2n) (a0:=a0) (a1:=a1) (a2:=a2) (a3:=a3) hc h3 hl hv (now:=now) (e::r) (i+1) nn (by simp) h3' (by simp only [J4];omega) (by omega)
   rw [A6 (by simp [hv']),←ih]
   try unfold Aa
   repeat first
    |((with_reducible first|apply Ay|apply Am|apply Az|apply A5|apply Ba|apply Bi|apply Cu|apply Ao);· first|with_reducible rfl|(simp (disch:=omega) only [nt,nt1,PB,c0,c1,c2,c3,c4,c5,c6,c7,c8,c9,c10,c11,c12,lk,e0,w,eb,w1,q0,es,q3',q4',vq,v0,C6]<;>with_reducible rfl))
    |((with_reducible first|apply Ax|apply Av);· first|with_reducible rfl|omega|(simp (disch:=omega) only [gT,nt,nt1,PB,c0,c1,c2,c3,c4,c5,c6,c7,c8,c9,c10,c11,c12,lk,e0,w,eb,w1,q0,es,q3',q4',vq,v0,C6]<;>omega))
    |(with_reducible apply Aw;· first|with_reducible rfl|(simp (disch:=omega) only [gF,nt,nt1,PB,c0,c1,c2,c3,c4,c5,c6,c7,c8,c9,c10,c11,c12,lk,e0,w,eb,w1,q0,es,q3',q4',vq,v0,C6]<;>omega))
   try simp (disch:=omega) only [nt,nt1,PB,c0,c1,c2,c3,c4,c5,c6,c7,c8,c9,c10,c11,c12,lk,e0,w,eb,w1,q0,es,q3',q4',vq,v0,C6]
   all_goals rfl
  ·have v0:(Uc c e.key != 0)=true:=by simp [hv']
   rw [B4 hv']
   try unfold Aa
   repeat first
    |((with_reducible first|apply Ay|apply Am|apply Az|apply A5|apply Ba|apply Bi|apply Cu|apply Ao);· first|with_reducible rfl|(simp (disch:=omega) only [nt,nt1,PB,c0,c1,c2,c3,c4,c5,c6,c7,c8,c9,c10,c11,c12,lk,e0,w,eb,w1,q0,es,q3',q4',vq,v0,C6]<;>with_reducible rfl))
    |((with_reducible first|apply Ax|apply Av);· first|with_reducible rfl|omega|(simp (disch:=omega) only [gT,nt,nt1,PB,c0,c1,c2,c3,c4,c5,c6,c7,c8,c9,c10,c11,c12,lk,e0,w,eb,w1,q0,es,q3',q4',vq,v0,C6]<;>omega))
    |(with_reducible apply Aw;· first|with_reducible rfl|(simp (disch:=omega) only [gF,nt,nt1,PB,c0,c1,c2,c3,c4,c5,c6,c7,c8,c9,c10,c11,c12,lk,e0,w,eb,w1,q0,es,q3',q4',vq,v0,C6]<;>omega))
   try simp (disch:=omega) only [nt,nt1,PB,c0,c1,c2,c3,c4,c5,c6,c7,c8,c9,c10,c11,c12,lk,e0,w,eb,w1,q0,es,q3',q4',vq,v0,C6]
   all_goals rfl
theorem YA (hfu:1000<=fu){cs:List Ce}(hc:∀c∈cs,c.in_){ans:List An}(hl:ans.length<=900){vs:List Rv}(hv:vs.length<=900)(now:Int):
  Ae C0 Tryz.prog fu (d+10) Ph [.lst false 13 cs.length (Ic cs),.lst false 3 ans.length (Z4 ans),.lst false 3 vs.length (Tq vs),.sc (.int .i64 now)]=some ⟨[.sc (.int .i64 (YN cs ans vs now).1),.sc (.int .i64 (YN cs ans vs now).2)],[]⟩:=by
 rw [Yw];unfold YN;by_cases h1:now<0
 ·rw [B4 h1]
  try unfold Aa
  repeat first
   |((with_reducible first|apply Ay|apply Am|apply Az|apply A5|apply Ba|apply Bi|apply Cu|apply Ao);· first|with_reducible rfl|(simp (disch:=omega) only [Cc]<;>with_reducible rfl))
   |((with_reducible first|apply Ax|apply Av);· first|with_reducible rfl|omega|(simp (disch:=omega) only [gT,Cc]<;>omega))
   |(with_reducible apply Aw;· first|with_reducible rfl|(simp (disch:=omega) only [gF,Cc]<;>omega))
  try simp (disch:=omega) only [Cc]
  all_goals rfl
 rw [A6 h1];by_cases h2:now>1099511627776
 ·rw [B4 h2]
  try unfold Aa
  repeat first
   |((with_reducible first|apply Ay|apply Am|apply Az|apply A5|apply Ba|apply Bi|apply Cu|apply Ao);· first|with_reducible rfl|(simp (disch:=omega) only [Cc]<;>with_reducible rfl))
   |((with_reducible first|apply Ax|apply Av);· first|with_reducible rfl|omega|(simp (disch:=omega) only [gT,Cc]<;>omega))
   |(with_reducible apply Aw;· first|with_reducible rfl|(simp (disch:=omega) only [gF,Cc]<;>omega))
  try simp (disch:=omega) only [Cc]
  all_goals rfl
 rw [A6 h2];by_cases h3:cs.length<1
 ·rw [B4 h3]
  try unfold Aa
  repeat first
   |((with_reducible first|apply Ay|apply Am|apply Az|apply A5|apply Ba|apply Bi|apply Cu|apply Ao);· first|with_reducible rfl|(simp (disch:=omega) only [Cc]<;>with_reducible rfl))
   |((with_reducible first|apply Ax|apply Av);· first|with_reducible rfl|omega|(simp (disch:=omega) only [gT,Cc]<;>omega))
   |(with_reducible apply Aw;· first|with_reducible rfl|(simp (disch:=omega) only [gF,Cc]<;>omega))
  try simp (disch:=omega) only [Cc]
  all_goals rfl
 rw [A6 h3];by_cases h4:cs.length>3
 ·rw [B4 h4]
  try unfold Aa
  repeat first
   |((with_reducible first|apply Ay|apply Am|apply Az|apply A5|apply Ba|apply Bi|apply Cu|apply Ao);· first|with_reducible rfl|(simp (disch:=omega) only [Cc]<;>with_reducible rfl))
   |((with_reducible first|apply Ax|apply Av);· first|with_reducible rfl|omega|(simp (disch:=omega) only [gT,Cc]<;>omega))
   |(with_reducible apply Aw;· first|with_reducible rfl|(simp (disch:=omega) only [gF,Cc]<;>omega))
  try simp (disch:=omega) only [Cc]
  all_goals rfl
 rw [A6 h4];have lp:=QO (fu:=fu) (d:=d) hfu (a0n:=cs.length) (a1n:=ans.length) (a2n:=vs.length) (a0:=Ic cs) (a1:=Z4 ans) (a2:=Tq vs) (a3:=now) hc (by omega) hl hv (now:=now) cs 0 fu (by intro h;subst h;simp at h3) rfl (by omega) (by omega)
 rw [←lp]
 try unfold Aa
 repeat first
  |((with_reducible first|apply Ay|apply Am|apply Az|apply A5|apply Ba|apply Bi|apply Cu|apply Ao);· first|with_reducible rfl|(simp (disch:=omega) only [Cc]<;>with_reducible rfl))
  |((with_reducible first|apply Ax|apply Av);· first|with_reducible rfl|omega|(simp (disch:=omega) only [gT,Cc]<;>omega))
  |(with_reducible apply Aw;· first|with_reducible rfl|(simp (disch:=omega) only [gF,Cc]<;>omega))
 try simp (disch:=omega) only [Cc]
 all_goals rfl
end
end
section
open Go.IntKind (wrap)
set_option maxRecDepth 100000
abbrev Py:FuncId:=11
theorem AN (fu d a0n:Nat)(a0:List PV):Ae C0 Tryz.prog fu (d+1) Py [.lst false 1 a0n a0]=(fun (call:Ai)=>some (At.mk [.pbox [.lst false 1 a0n a0,.sc (.int .i64 0)]] [])) (Ae C0 Tryz.prog fu d):=by kernel_rfl
abbrev Qd:FuncId:=16
theorem Z6 (fu d:Nat)(a0 a1:Int):Ae C0 Tryz.prog fu (d+1) Qd [.sc (.int .i64 a0),.sc (.int .i64 a1)]=(fun (call:Ai)=>Aa (wrap .u64 a0) fun x1=>Aa (wrap .u64 a1) fun x2=>Ap (decide (x2≠0))<|Aa (Int.tmod x1 x2) fun x3=>Aa (wrap .i64 x3) fun x4=>some (At.mk [.sc (.int .i64 x4)] [])) (Ae C0 Tryz.prog fu d):=by kernel_rfl
abbrev I9:FuncId:=14
theorem Jb (fu d a0_0n:Nat)(a0_0:List PV)(a0_1 a1:Int):Ae C0 Tryz.prog fu (d+1) I9 [.pbox [.lst false 1 a0_0n a0_0,.sc (.int .i64 a0_1)],.sc (.int .i64 a1)]=(fun (call:Ai)=>Bb (decide (a0_1>=(↑a0_0n:Int))) (some (At.mk [.sc (.int .i64 0)] [[.lst false 1 a0_0n a0_0,.sc (.int .i64 a0_1)]])) (Aa (wrap .i64 (a0_1+1)) fun x1=>Aa (wrap .i64 (x1-1)) fun x2=>Ap (decide (0<=x2)&&decide (x2<(↑a0_0n:Int)))<|Ad .i64 (List.getD a0_0 (Int.toNat x2*1) .top) fun x3=>Ag (call 16 [.sc (.int .i64 x3),.sc (.int .i64 a1)]) fun x4 x5=>Ac x5<|Ab x4 fun x6 x7=>Ad .i64 x6 fun x8=>Ac x7<|some (At.mk [.sc (.int .i64 x8)] [[.lst false 1 a0_0n a0_0,.sc (.int .i64 x1)]]))) (Ae C0 Tryz.prog fu d):=by kernel_rfl
end
section
open Go.IntKind (wrap)
abbrev dkc (l:List Int)(a:Nat):List PV:=[.lst false 1 l.length (Af .i64 l),.sc (.int .i64 (a:Int))]
theorem Aon {fu d:Nat}{l:List Int}:Ae C0 Tryz.prog fu (d+1) Py [.lst false 1 l.length (Af .i64 l)]=some ⟨[.pbox (dkc l 0)],[]⟩:=by
 rw [AN];rfl
theorem LH (v n:Int)(hn:0<n)(hm:n<=9223372036854775807):∃r,0<=r∧r<n∧∀{fu d:Nat},Ae C0 Tryz.prog fu (d+1) Qd [.sc (.int .i64 v),.sc (.int .i64 n)]=some ⟨[.sc (.int .i64 r)],[]⟩:=by
 have h1:=Bc v;have h2:wrap .u64 n=n:=Ci (by omega) (by omega)
 have h3:0<=Int.tmod (wrap .u64 v) n:=Int.tmod_nonneg _ h1.1;have h4:Int.tmod (wrap .u64 v) n<n:=Int.tmod_lt_of_pos _ hn;refine ⟨_,h3,h4,fun {fu d}=>?_⟩
 rw [Z6];simp only [Gw,h2];rw [TT _ _ (by omega),Ak (by omega) (by omega)]
theorem Gs {l:List Int}(hl:l.length<=maxLen)(a:Nat)(n:Int)(hn:0<n)(hm:n<=9223372036854775807):∃(v:Int)(a':Nat),0<=v∧v<n ∧
  ∀{fu d:Nat},Ae C0 Tryz.prog fu (d+2) I9 [.pbox (dkc l a),.sc (.int .i64 n)]=some ⟨[.sc (.int .i64 v)],[dkc l a']⟩:=by
 simp only [maxLen] at hl;by_cases h:a<l.length
 ·obtain ⟨r,h1,h2,h3⟩:=LH l[a] n hn hm;refine ⟨r,a+1,h1,h2,fun {fu d}=>?_⟩
  rw [Jb]
  have hg:(Af .i64 l).getD (Int.toNat ((a:Int)+1-1)*1) .top=.sc (.int .i64 l[a]):=by
   have:=Uh (k:=.i64) (List.getElem?_eq_getElem h);rw [show Int.toNat ((a:Int)+1-1)*1=a by omega]
   exact this
  simp (disch:=omega) only [Br,Ak,hg,h3];rfl
 ·refine ⟨0,a,by omega,hn,fun {fu d}=>?_⟩
  rw [Jb];simp (disch:=omega) only [Br]
end
section
open Go.IntKind (wrap)
set_option maxRecDepth 100000
abbrev Qc:FuncId:=29
theorem AH (fu d:Nat)(a0 a1:Int):Ae C0 Tryz.prog fu (d+1) Qc [.sc (.int .u64 a0),.sc (.int .i64 a1)]=(fun (call:Ai)=>Ag (call 18 [.sc (.int .u64 a0),.sc (.int .i64 a1)]) fun x1 x2=>Ac x2<|Ab x1 fun x3 x4=>Dh x3 fun x5=>Ab x5 fun x6 x7=>Ad .i64 x6 fun x8=>Ab x7 fun x9 Ch=>Ad .u64 x9 fun Cm=>Ac Ch<|Ab x4 fun Dg Do=>Ad .i64 Dg fun Dd=>Ac Do<|some (At.mk [.agg [.sc (.int .i64 x8),.sc (.int .u64 Cm)]] [])) (Ae C0 Tryz.prog fu d):=by kernel_rfl
end
section
open Go.IntKind (wrap)
set_option maxRecDepth 1000000
section
variable {fu d:Nat}
theorem Aiw (hfu:1000<=fu)(seed h:Int):Ae C0 Tryz.prog fu (d+13) Qc [.sc (.int .u64 seed),.sc (.int .i64 h)]=some ⟨[.agg (J7 seed h).cells],[]⟩:=by
 rw [AH];have p:=Yv (fu:=fu) (d:=d) hfu seed h;simp only [Ky.cells] at p ⊢;simp only [Br,p]
end
theorem RB (dom:Int)(l:List Int):isU (Ml dom l):=Bc _
theorem Aoc (key dom:Int)(l:List Int):isU (Aku key dom l):=Bc _
theorem Aho (leaf chain:Int):∀(k:Nat)(p:Int){x:Int},isU x->isU (Pt leaf chain k p x)
 |0,_,_,h=>h
 |k+1,p,x,h=>Aho leaf chain k (p+1) (RB _ _)
theorem Anv (seed leaf m:Int):isW (Ie seed leaf m):=by
 intro x hx;obtain ⟨k,_,rfl⟩:=List.mem_map.1 hx;exact Aho _ _ _ _ (Aoc _ _ _)
theorem Ab8 (seed:Int):∀(l:Nat)(i:Int),isU (Bv seed l i)
 |0,i=>RB _ _
 |l+1,i=>RB _ _
theorem PZ (seed h:Int):isU (J7 seed h).root:=by
 unfold J7;split
 ·exact ⟨by simp,by simp⟩
 ·exact Ab8 _ _ _
theorem Adr (seed h:Int):C2 (J7 seed h).h=false:=by
 unfold J7;cases hh:C2 h
 ·rw [A6 (by simp)]
  exact hh
 ·rw [B4 rfl];rfl
theorem Alm {seed h leaf m:Int}(hh:C2 h=false)(ho:Hu leaf h=false):∃s,X8 seed h leaf m=some s∧s.ok∧s.leaf=leaf∧s.chains.length=18∧(s.path.length:Int)=h∧NL (J7 seed h) m s=0:=by
 have hb:=G7 hh;refine ⟨⟨leaf,Ie seed leaf m,(List.range h.toNat).map fun k=>Bv seed k (Fb leaf k)⟩,?_,⟨Anv _ _ _,?_⟩,rfl,by simp [Ie],?_,Ajh hh ho⟩
 ·unfold X8;rw [A6 (by simp [hh]),A6 (by simp [ho])]
 ·intro x hx;obtain ⟨k,_,rfl⟩:=List.mem_map.1 hx;exact Ab8 _ _ _
 ·simp only [List.length_map,List.length_range];omega
end
section
open Go.IntKind (wrap)
set_option maxRecDepth 100000
abbrev Pg:FuncId:=17
theorem X9 (fu d:Nat)(a0_0 a0_1:ByteArray)(a0_2 a0_3:Int)(a0_4 a0_5 a0_6:Int)(a0_7:Bool)(a0_8 a0_9 a0_10:Int)(a0_11n:Nat)(a0_11:List PV)(a0_12n:Nat)(a0_12:List PV)(a1 a2 a3:Int):Ae C0 Tryz.prog fu (d+1) Pg [.agg [.sc (.string a0_0),.sc (.string a0_1),.sc (.int .u64 a0_2),.sc (.int .i64 a0_3),.sc (.int .u64 a0_4),.sc (.int .i64 a0_5),.sc (.int .i64 a0_6),.sc (.bool a0_7),.sc (.int .i64 a0_8),.sc (.int .u64 a0_9),.sc (.int .i64 a0_10),.lst false 1 a0_11n a0_11,.lst false 1 a0_12n a0_12],.sc (.int .u64 a1),.sc (.int .i64 a2),.sc (.int .i64 a3)]=(fun (call:Ai)=>Ag (call 36 [.agg [.sc (.string a0_0),.sc (.string a0_1),.sc (.int .u64 a0_2),.sc (.int .i64 a0_3),.sc (.int .u64 a0_4),.sc (.int .i64 a0_5),.sc (.int .i64 a0_6),.sc (.bool a0_7),.sc (.int .i64 a0_8),.sc (.int .u64 a0_9),.sc (.int .i64 a0_10),.lst false 1 a0_11n a0_11,.lst false 1 a0_12n a0_12]]) fun x1 x2=>Ac x2<|Ab x1 fun x3 x4=>Ad .u64 x3 fun x5=>Ab x4 fun x6 x7=>Ad .i64 x6 fun x8=>Ac x7<|Bb (x8 != 0) (some (At.mk [.agg [.sc (.string (ByteArray.mk #[])),.sc (.string (ByteArray.mk #[])),.sc (.int .u64 0),.sc (.int .i64 0),.sc (.int .u64 0),.sc (.int .i64 0),.sc (.int .i64 0),.sc (.bool false),.sc (.int .i64 0),.sc (.int .u64 0),.sc (.int .i64 0),.lst false 1 0 [],.lst false 1 0 []],.sc (.int .i64 x8)] [])) (Ag (call 37 [.sc (.int .u64 a1),.sc (.int .i64 a2),.sc (.int .i64 a3),.sc (.int .u64 x5)]) fun x9 Ch=>Ac Ch<|Ab x9 fun Cm Dg=>Dh Cm fun Do=>Ab Do fun Dd Dx=>Ad .i64 Dd fun D5=>Ab Dx fun Em E5=>Ha 1 Em fun E2 Fl He=>Ab E5 fun Gn Hf=>Ha 1 Gn fun Dv Df Fw=>Ac Hf<|Ab Dg fun Hs Ev=>Ad .i64 Hs fun Jd=>Ac Ev<|Bb (Jd != 0) (some (At.mk [.agg [.sc (.string (ByteArray.mk #[])),.sc (.string (ByteArray.mk #[])),.sc (.int .u64 0),.sc (.int .i64 0),.sc (.int .u64 0),.sc (.int .i64 0),.sc (.int .i64 0),.sc (.bool false),.sc (.int .i64 0),.sc (.int .u64 0),.sc (.int .i64 0),.lst false 1 0 [],.lst false 1 0 []],.sc (.int .i64 Jd)] [])) (some (At.mk [.agg [.sc (.string a0_0),.sc (.string a0_1),.sc (.int .u64 a0_2),.sc (.int .i64 a0_3),.sc (.int .u64 a0_4),.sc (.int .i64 a0_5),.sc (.int .i64 a0_6),.sc (.bool a0_7),.sc (.int .i64 a0_8),.sc (.int .u64 a0_9),.sc (.int .i64 D5),.lst false 1 Fl He,.lst false 1 Df Fw],.sc (.int .i64 0)] [])))) (Ae C0 Tryz.prog fu d):=by kernel_rfl
end
section
open Go.IntKind (wrap)
set_option maxRecDepth 100000
abbrev Gd:FuncId:=12
theorem Kv (fu d a0_0n:Nat)(a0_0:List PV)(a0_1:Int):Ae C0 Tryz.prog fu (d+1) Gd [.pbox [.lst false 1 a0_0n a0_0,.sc (.int .i64 a0_1)]]=(fun (call:Ai)=>Ag (call 14 [.pbox [.lst false 1 a0_0n a0_0,.sc (.int .i64 a0_1)],.sc (.int .i64 5)]) fun x1 x2=>Ab x1 fun x3 x4=>Ad .i64 x3 fun x5=>Ac x4<|Ab x2 fun x6 x7=>Ab x6 fun x8 x9=>Ha 1 x8 fun Ch Cm Dg=>Ab x9 fun Do Dd=>Ad .i64 Do fun Dx=>Ac Dd<|Ac x7<|Aa (wrap .u64 x5) fun D5=>Ag (call 14 [.pbox [.lst false 1 Cm Dg,.sc (.int .i64 Dx)],.sc (.int .i64 3)]) fun Em E5=>Ab Em fun E2 Fl=>Ad .i64 E2 fun He=>Ac Fl<|Ab E5 fun Gn Hf=>Ab Gn fun Dv Df=>Ha 1 Dv fun Fw Hs Ev=>Ab Df fun Jd Lq=>Ad .i64 Jd fun J1=>Ac Lq<|Ac Hf<|Ag (call 18 [.sc (.int .u64 D5),.sc (.int .i64 He)]) fun Mk Lm=>Ac Lm<|Ab Mk fun Mt Pu=>Dh Mt fun Rh=>Ab Rh fun Sa Gv=>Ad .i64 Sa fun Id=>Ab Gv fun Tv Yk=>Ad .u64 Tv fun Lo=>Ac Yk<|Ab Pu fun Ui Tt=>Ad .i64 Ui fun Tr=>Ac Tt<|Ag (call 14 [.pbox [.lst false 1 Hs Ev,.sc (.int .i64 J1)],.sc (.int .i64 9)]) fun Sr X6=>Ab Sr fun Zh Sh=>Ad .i64 Zh fun Wh=>Ac Sh<|Ab X6 fun Xt Xl=>Ab Xt fun Ov Yq=>Ha 1 Ov fun CU AX CY=>Ab Yq fun Ud Y2=>Ad .i64 Ud fun CQ=>Ac Y2<|Ac Xl<|Aa (if 4<Wh then 4 else Wh) fun X1=>Ap (decide (0<=X1)&&decide (X1<5))<|Cw (List.getD [.sc (.string (ByteArray.mk #[108,101,97,102])),.sc (.string (ByteArray.mk #[109,105,100])),.sc (.string (ByteArray.mk #[116,111,112])),.sc (.string (ByteArray.mk #[])),.sc (.string (ByteArray.mk #[255]))] (0+Int.toNat X1*1) .top) fun Ue=>Ag (call 14 [.pbox [.lst false 1 AX CY,.sc (.int .i64 CQ)],.sc (.int .i64 4)]) fun CR Vk=>Ab CR fun Xv W8=>Ad .i64 Xv fun V9=>Ac W8<|Ab Vk fun Xy Xr=>Ab Xy fun Zy Zr=>Ha 1 Zy fun CV HD EL=>Ab Zr fun GB HQ=>Ad .i64 GB fun CP=>Ac HQ<|Ac Xr<|Ap (decide (0<=V9)&&decide (V9<4))<|Cw (List.getD [.sc (.string (ByteArray.mk #[114,111,111,116])),.sc (.string (ByteArray.mk #[109,105,100])),.sc (.string (ByteArray.mk #[116,111,112])),.sc (.string (ByteArray.mk #[111,116,104,101,114]))] (0+Int.toNat V9*1) .top) fun V8=>Ag (call 14 [.pbox [.lst false 1 HD EL,.sc (.int .i64 CP)],.sc (.int .i64 4)]) fun MQ MR=>Ab MQ fun YE VT=>Ad .i64 YE fun SL=>Ac VT<|Ab MR fun TK WH=>Ab TK fun WI UD=>Ha 1 WI fun UC HC QJ=>Ab UD fun WN WS=>Ad .i64 WN fun VU=>Ac WS<|Ac WH<|Aa (wrap .u64 SL) fun HY=>Ag (call 14 [.pbox [.lst false 1 HC QJ,.sc (.int .i64 VU)],.sc (.int .i64 20)]) fun x95 UH=>Ab x95 fun UE YP=>Ad .i64 UE fun CZ=>Ac YP<|Ab UH fun Wr Wv=>Ab Wr fun Hc Jj=>Ha 1 Hc fun AE Q4 R7=>Ab Jj fun Je Xk=>Ad .i64 Je fun Y6=>Ac Xk<|Ac Wv<|Ag (call 14 [.pbox [.lst false 1 Q4 R7,.sc (.int .i64 Y6)],.sc (.int .i64 60)]) fun Y1 Y0=>Ab Y1 fun H4 Ji=>Ad .i64 H4 fun Y8=>Ac Ji<|Ab Y0 fun Zb Yf=>Ab Zb fun EH Zk=>Ha 1 EH fun W0 Xd Wo=>Ab Zk fun Za Vb=>Ad .i64 Za fun Yl=>Ac Vb<|Ac Yf<|Aa (wrap .i64 (20+Y8)) fun Ox=>Ag (call 14 [.pbox [.lst false 1 Xd Wo,.sc (.int .i64 Yl)],.sc (.int .i64 2)]) fun Px Ss=>Ab Px fun AP Zs=>Ad .i64 AP fun Ku=>Ac Zs<|Ab Ss fun DF Y4=>Ab DF fun Vu Yu=>Ha 1 Vu fun GX EF GU=>Ab Yu fun DB Yg=>Ad .i64 DB fun CC=>Ac Yg<|Ac Y4<|Ag (call 14 [.pbox [.lst false 1 EF GU,.sc (.int .i64 CC)],.sc (.int .i64 3)]) fun EM DT=>Ab EM fun EZ Zj=>Ad .i64 EZ fun BG=>Ac Zj<|Ab DT fun BK BO=>Ab BK fun DA KN=>Ha 1 DA fun NU HF Wz=>Ab KN fun EX IB=>Ad .i64 EX fun OB=>Ac IB<|Ac BO<|Aa (wrap .u64 BG) fun Ty=>Bb (Ku==1) (Ag (call 14 [.pbox [.lst false 1 HF Wz,.sc (.int .i64 OB)],.sc (.int .i64 3)]) fun NE JP=>Ab NE fun NS TL=>Ad .i64 NS fun IJ=>Ac TL<|Ab JP fun NW TQ=>Ab NW fun LM NP=>Ha 1 LM fun UT IC NZ=>Ab NP fun SY RI=>Ad .i64 SY fun SG=>Ac RI<|Ac TQ<|Ag (call 14 [.pbox [.lst false 1 IC NZ,.sc (.int .i64 SG)],.sc (.int .i64 14)]) fun Aa1 YT=>Ab Aa1 fun Abk VC=>Ad .i64 Abk fun MO=>Ac VC<|Ab YT fun Aag YW=>Ab Aag fun ZR Ake=>Ha 1 ZR fun Ali LG NA=>Ab Ake fun Ahf Agi=>Ad .i64 Ahf fun TF=>Ac Agi<|Ac YW<|Bb (MO==13) (Aa (wrap .i64 (CZ-1)) fun Agc=>some (At.mk [.agg [.sc (.string Ue),.sc (.string V8),.sc (.int .u64 HY),.sc (.int .i64 Id),.sc (.int .u64 Lo),.sc (.int .i64 CZ),.sc (.int .i64 Agc),.sc (.bool (Ku==1)),.sc (.int .i64 IJ),.sc (.int .u64 Ty),.sc (.int .i64 0),.own 1 0 [],.own 1 0 []]] [[.lst false 1 LG NA,.sc (.int .i64 TF)]])) (Bb (MO==12) (some (At.mk [.agg [.sc (.string Ue),.sc (.string V8),.sc (.int .u64 HY),.sc (.int .i64 Id),.sc (.int .u64 Lo),.sc (.int .i64 CZ),.sc (.int .i64 Ox),.sc (.bool (Ku==1)),.sc (.int .i64 3),.sc (.int .u64 Ty),.sc (.int .i64 0),.own 1 0 [],.own 1 0 []]] [[.lst false 1 LG NA,.sc (.int .i64 TF)]])) (Bb (MO==11) (some (At.mk [.agg [.sc (.string Ue),.sc (.string V8),.sc (.int .u64 HY),.sc (.int .i64 5),.sc (.int .u64 Lo),.sc (.int .i64 CZ),.sc (.int .i64 Ox),.sc (.bool (Ku==1)),.sc (.int .i64 IJ),.sc (.int .u64 Ty),.sc (.int .i64 0),.own 1 0 [],.own 1 0 []]] [[.lst false 1 LG NA,.sc (.int .i64 TF)]])) (Bb (MO==10) (some (At.mk [.agg [.sc (.string Ue),.sc (.string V8),.sc (.int .u64 HY),.sc (.int .i64 Id),.sc (.int .u64 Lo),.sc (.int .i64 CZ),.sc (.int .i64 Ox),.sc (.bool (Ku==1)),.sc (.int .i64 1),.sc (.int .u64 Ty),.sc (.int .i64 0),.own 1 0 [],.own 1 0 []]] [[.lst false 1 LG NA,.sc (.int .i64 TF)]])) (some (At.mk [.agg [.sc (.string Ue),.sc (.string V8),.sc (.int .u64 HY),.sc (.int .i64 Id),.sc (.int .u64 Lo),.sc (.int .i64 CZ),.sc (.int .i64 Ox),.sc (.bool (Ku==1)),.sc (.int .i64 IJ),.sc (.int .u64 Ty),.sc (.int .i64 0),.own 1 0 [],.own 1 0 []]] [[.lst false 1 LG NA,.sc (.int .i64 TF)]])))))) (Ag (call 14 [.pbox [.lst false 1 HF Wz,.sc (.int .i64 OB)],.sc (.int .i64 14)]) fun Ai7 Agj=>Ab Ai7 fun Agk Ajq=>Ad .i64 Agk fun VS=>Ac Ajq<|Ab Agj fun SO Ai2=>Ab SO fun Agv RL=>Ha 1 Agv fun Akk TA GW=>Ab RL fun Ag4 Agx=>Ad .i64 Ag4 fun EU=>Ac Agx<|Ac Ai2<|Bb (VS==13) (Aa (wrap .i64 (CZ-1)) fun Ah5=>some (At.mk [.agg [.sc (.string Ue),.sc (.string V8),.sc (.int .u64 HY),.sc (.int .i64 Id),.sc (.int .u64 Lo),.sc (.int .i64 CZ),.sc (.int .i64 Ah5),.sc (.bool (Ku==1)),.sc (.int .i64 0),.sc (.int .u64 Ty),.sc (.int .i64 0),.own 1 0 [],.own 1 0 []]] [[.lst false 1 TA GW,.sc (.int .i64 EU)]])) (Bb (VS==12) (some (At.mk [.agg [.sc (.string Ue),.sc (.string V8),.sc (.int .u64 HY),.sc (.int .i64 Id),.sc (.int .u64 Lo),.sc (.int .i64 CZ),.sc (.int .i64 Ox),.sc (.bool (Ku==1)),.sc (.int .i64 3),.sc (.int .u64 Ty),.sc (.int .i64 0),.own 1 0 [],.own 1 0 []]] [[.lst false 1 TA GW,.sc (.int .i64 EU)]])) (Bb (VS==11) (some (At.mk [.agg [.sc (.string Ue),.sc (.string V8),.sc (.int .u64 HY),.sc (.int .i64 5),.sc (.int .u64 Lo),.sc (.int .i64 CZ),.sc (.int .i64 Ox),.sc (.bool (Ku==1)),.sc (.int .i64 0),.sc (.int .u64 Ty),.sc (.int .i64 0),.own 1 0 [],.own 1 0 []]] [[.lst false 1 TA GW,.sc (.int .i64 EU)]])) (Bb (VS==10) (some (At.mk [.agg [.sc (.string Ue),.sc (.string V8),.sc (.int .u64 HY),.sc (.int .i64 Id),.sc (.int .u64 Lo),.sc (.int .i64 CZ),.sc (.int .i64 Ox),.sc (.bool (Ku==1)),.sc (.int .i64 1),.sc (.int .u64 Ty),.sc (.int .i64 0),.own 1 0 [],.own 1 0 []]] [[.lst false 1 TA GW,.sc (.int .i64 EU)]])) (some (At.mk [.agg [.sc (.string Ue),.sc (.string V8),.sc (.int .u64 HY),.sc (.int .i64 Id),.sc (.int .u64 Lo),.sc (.int .i64 CZ),.sc (.int .i64 Ox),.sc (.bool (Ku==1)),.sc (.int .i64 0),.sc (.int .u64 Ty),.sc (.int .i64 0),.own 1 0 [],.own 1 0 []]] [[.lst false 1 TA GW,.sc (.int .i64 EU)]]))))))) (Ae C0 Tryz.prog fu d):=by kernel_rfl
abbrev Mq:FuncId:=9
theorem Uq (fu d:Nat)(a0_0 a0_1:ByteArray)(a0_2 a0_3:Int)(a0_4 a0_5 a0_6:Int)(a0_7:Bool)(a0_8 a0_9 a0_10:Int)(a0_11n:Nat)(a0_11:List PV)(a0_12n:Nat)(a0_12:List PV):Ae C0 Tryz.prog fu (d+1) Mq [.agg [.sc (.string a0_0),.sc (.string a0_1),.sc (.int .u64 a0_2),.sc (.int .i64 a0_3),.sc (.int .u64 a0_4),.sc (.int .i64 a0_5),.sc (.int .i64 a0_6),.sc (.bool a0_7),.sc (.int .i64 a0_8),.sc (.int .u64 a0_9),.sc (.int .i64 a0_10),.lst false 1 a0_11n a0_11,.lst false 1 a0_12n a0_12]]=(fun (call:Ai)=>Bb (decide ((↑(ByteArray.size a0_0):Int)<100)) (Bb (decide ((↑(ByteArray.size a0_1):Int)<100)) (Bb (decide ((↑a0_11n:Int)<40)) (some (At.mk [.sc (.bool (decide ((↑a0_12n:Int)<10)))] [])) (some (At.mk [.sc (.bool false)] []))) (some (At.mk [.sc (.bool false)] []))) (some (At.mk [.sc (.bool false)] []))) (Ae C0 Tryz.prog fu d):=by kernel_rfl
abbrev Me:FuncId:=10
theorem Uv (fu d:Nat):Ae C0 Tryz.prog fu (d+1) Me []=(fun (call:Ai)=>Ag (call 29 [.sc (.int .u64 5),.sc (.int .i64 1)]) fun x1 x2=>Ac x2<|Ab x1 fun x3 x4=>Dh x3 fun x5=>Ab x5 fun x6 x7=>Ad .i64 x6 fun x8=>Ab x7 fun x9 Ch=>Ad .u64 x9 fun Cm=>Ac Ch<|Ac x4<|Ag (call 17 [.agg [.sc (.string (ByteArray.mk #[108,101,97,102])),.sc (.string (ByteArray.mk #[114,111,111,116])),.sc (.int .u64 9),.sc (.int .i64 x8),.sc (.int .u64 Cm),.sc (.int .i64 1),.sc (.int .i64 8),.sc (.bool false),.sc (.int .i64 0),.sc (.int .u64 0),.sc (.int .i64 0),.lst false 1 0 [],.lst false 1 0 []],.sc (.int .u64 71),.sc (.int .i64 1),.sc (.int .i64 0)]) fun Dg Do=>Ac Do<|Ab Dg fun Dd Dx=>Dh Dd fun D5=>Ab D5 fun Em E5=>Cw Em fun E2=>Ab E5 fun Fl He=>Cw Fl fun Gn=>Ab He fun Hf Dv=>Ad .u64 Hf fun Df=>Ab Dv fun Fw Hs=>Ad .i64 Fw fun Ev=>Ab Hs fun Jd Lq=>Ad .u64 Jd fun J1=>Ab Lq fun Mk Lm=>Ad .i64 Mk fun Mt=>Ab Lm fun Pu Rh=>Ad .i64 Pu fun Sa=>Ab Rh fun Gv Id=>Bm Gv fun Tv=>Ab Id fun Yk Lo=>Ad .i64 Yk fun Ui=>Ab Lo fun Tt Tr=>Ad .u64 Tt fun Sr=>Ab Tr fun X6 Zh=>Ad .i64 X6 fun Sh=>Ab Zh fun Wh Xt=>Ha 1 Wh fun Xl Ov Yq=>Ab Xt fun CU AX=>Ha 1 CU fun CY Ud Y2=>Ac AX<|Ab Dx fun CQ X1=>Ad .i64 CQ fun Ue=>Ac X1<|Ag (call 30 [.agg [.sc (.string E2),.sc (.string Gn),.sc (.int .u64 Df),.sc (.int .i64 Ev),.sc (.int .u64 J1),.sc (.int .i64 Mt),.sc (.int .i64 Sa),.sc (.bool Tv),.sc (.int .i64 Ui),.sc (.int .u64 Sr),.sc (.int .i64 Sh),.lst false 1 Ov Yq,.lst false 1 Ud Y2]]) fun CR Vk=>Ac Vk<|Ab CR fun Xv W8=>Ea 1 Xv fun V9 Xy=>Ab W8 fun Xr Zy=>Ad .i64 Xr fun Zr=>Ac Zy<|Ap (decide (0+V9*1<=Xy.length))<|Ag (call 31 [.lst false 1 V9 (List.take (V9*1) (List.drop 0 Xy))]) fun CV HD=>Ac HD<|Ab CV fun EL GB=>Dh EL fun HQ=>Ab HQ fun CP V8=>Cw CP fun MQ=>Ab V8 fun MR YE=>Cw MR fun VT=>Ab YE fun SL TK=>Ad .u64 SL fun WH=>Ab TK fun WI UD=>Ad .i64 WI fun UC=>Ab UD fun HC QJ=>Ad .u64 HC fun WN=>Ab QJ fun WS VU=>Ad .i64 WS fun HY=>Ab VU fun x95 UH=>Ad .i64 x95 fun UE=>Ab UH fun YP CZ=>Bm YP fun Wr=>Ab CZ fun Wv Hc=>Ad .i64 Wv fun Jj=>Ab Hc fun AE Q4=>Ad .u64 AE fun R7=>Ab Q4 fun Je Xk=>Ad .i64 Je fun Y6=>Ab Xk fun Y1 Y0=>Ha 1 Y1 fun H4 Ji Y8=>Ab Y0 fun Zb Yf=>Ha 1 Zb fun EH Zk W0=>Ac Yf<|Ab GB fun Xd Wo=>Ad .i64 Xd fun Za=>Ac Wo<|Ag (call 29 [.sc (.int .u64 71),.sc (.int .i64 1)]) fun Vb Yl=>Ac Yl<|Ab Vb fun Ox Px=>Dh Ox fun Ss=>Ab Ss fun AP Zs=>Ad .i64 AP fun Ku=>Ab Zs fun DF Y4=>Ad .u64 DF fun Vu=>Ac Y4<|Ac Px<|Ag (call 27 [.lst false 13 1 [.sc (.string E2),.sc (.string Gn),.sc (.int .u64 Df),.sc (.int .i64 Ev),.sc (.int .u64 J1),.sc (.int .i64 Mt),.sc (.int .i64 Sa),.sc (.bool Tv),.sc (.int .i64 Ui),.sc (.int .u64 Sr),.sc (.int .i64 Sh),.lst false 1 Ov Yq,.lst false 1 Ud Y2],.lst false 3 1 [.sc (.string (ByteArray.mk #[114,111,111,116])),.sc (.int .i64 Ku),.sc (.int .u64 Vu)],.lst false 3 0 [],.sc (.int .i64 8)]) fun Yu GX=>Ac GX<|Ab Yu fun EF GU=>Ad .i64 EF fun DB=>Ab GU fun Yg CC=>Ad .i64 Yg fun EM=>Ac CC<|Ag (call 27 [.lst false 13 1 [.sc (.string E2),.sc (.string Gn),.sc (.int .u64 Df),.sc (.int .i64 Ev),.sc (.int .u64 J1),.sc (.int .i64 Mt),.sc (.int .i64 Sa),.sc (.bool Tv),.sc (.int .i64 Ui),.sc (.int .u64 Sr),.sc (.int .i64 Sh),.lst false 1 Ov Yq,.lst false 1 Ud Y2],.lst false 3 1 [.sc (.string (ByteArray.mk #[114,111,111,116])),.sc (.int .i64 Ku),.sc (.int .u64 Vu)],.lst false 3 0 [],.sc (.int .i64 9)]) fun DT EZ=>Ac EZ<|Ab DT fun Zj BG=>Ad .i64 Zj fun BK=>Ab BG fun BO DA=>Ad .i64 BO fun KN=>Ac DA<|Bb (Ue==0) (Bb (Zr==0) (Bb (Za==0) (Bb (EM==0) (Bb (DB==0) (Bb (KN==38) (Ag (call 19 [.agg [.sc (.string E2),.sc (.string Gn),.sc (.int .u64 Df),.sc (.int .i64 Ev),.sc (.int .u64 J1),.sc (.int .i64 Mt),.sc (.int .i64 Sa),.sc (.bool Tv),.sc (.int .i64 Ui),.sc (.int .u64 Sr),.sc (.int .i64 Sh),.lst false 1 Ov Yq,.lst false 1 Ud Y2],.agg [.sc (.string MQ),.sc (.string VT),.sc (.int .u64 WH),.sc (.int .i64 UC),.sc (.int .u64 WN),.sc (.int .i64 HY),.sc (.int .i64 UE),.sc (.bool Wr),.sc (.int .i64 Jj),.sc (.int .u64 R7),.sc (.int .i64 Y6),.lst false 1 Ji Y8,.lst false 1 Zk W0]]) fun NU HF=>Ac HF<|Ab NU fun Wz EX=>Bm Wz fun IB=>Ac EX<|some (At.mk [.sc (.bool IB)] [])) (some (At.mk [.sc (.bool false)] []))) (some (At.mk [.sc (.bool false)] []))) (some (At.mk [.sc (.bool false)] []))) (some (At.mk [.sc (.bool false)] []))) (some (At.mk [.sc (.bool false)] []))) (some (At.mk [.sc (.bool false)] []))) (Ae C0 Tryz.prog fu d):=by kernel_rfl
end
section
open Go.IntKind (wrap)
set_option maxRecDepth 1000000
section
variable {fu d:Nat} {c:Ce}
theorem Aos (seed h leaf m:Int):Ae C0 Tryz.prog fu (d+1) 37 [.sc (.int .u64 seed),.sc (.int .i64 h),.sc (.int .i64 leaf),.sc (.int .u64 m)] =
  some ⟨[.agg [.sc (.int .i64 (tkL h leaf)),.lst false 1 (tkC seed h leaf m).length (Af .u64 (tkC seed h leaf m)),.lst false 1 (tkP seed h leaf).length (Af .u64 (tkP seed h leaf))],.sc (.int .i64 (tkE h leaf))],[]⟩:=by kernel_rfl
theorem Ao8 (seed h leaf m:Int):(X8 seed h leaf m=none∧tkE h leaf=9)∨(X8 seed h leaf m=some ⟨tkL h leaf,tkC seed h leaf m,tkP seed h leaf⟩∧tkE h leaf=0):=by
 unfold X8 tkE tkL tkC tkP JN;cases C2 h
 ·cases Hu leaf h
  ·exact .inr ⟨rfl,rfl⟩
  ·exact .inl ⟨rfl,rfl⟩
 ·exact .inl ⟨rfl,rfl⟩
theorem XI (hfu:1000<=fu)(hw:c.wf)(hs1:c.subj.size<=9223372036854775807)(hs2:c.iss.size<=9223372036854775807)(seed h leaf:Int):Ae C0 Tryz.prog fu (d+9) Pg [.agg c.cells,.sc (.int .u64 seed),.sc (.int .i64 h),.sc (.int .i64 leaf)]=some ⟨[.agg (Lz c seed h leaf).1.cells,.sc (.int .i64 (Lz c seed h leaf).2)],[]⟩:=by
 refine (X9 fu (d+8) c.subj c.iss c.serial c.key.h c.key.root c.fr c.un c.auth c.path c.model c.sig.leaf c.sig.chains.length (Af .u64 c.sig.chains) c.sig.path.length (Af .u64 c.sig.path) seed h leaf).trans ?_;have wq:=XG (fu:=fu) (d:=d) hfu hw hs1 hs2;simp only [Ce.cells] at wq;unfold HX at wq;unfold Lz;by_cases h0:A3 c=0
 ·rw [B4 h0] at wq;rw [B4 h0];have e00:((0:Int) != 0)=false:=rfl;have e90:((9:Int) != 0)=true:=rfl;have tk:=Aos (fu:=fu) (d:=d+7) seed h leaf (Ja c);have La:=Aj .u64 (tkC seed h leaf (Ja c));have Lb:=Aj .u64 (tkP seed h leaf);have ta:=Jf .u64 (tkC seed h leaf (Ja c));have tb:=Jf .u64 (tkP seed h leaf);rcases Ao8 seed h leaf (Ja c) with ⟨hs,he⟩|⟨hs,he⟩
  ·rw [hs];rw [he] at tk
   try unfold Aa
   repeat first
    |((with_reducible first|apply Ay|apply Am|apply Az|apply Cu|apply B9|apply Ao);· first|with_reducible rfl|(simp (disch:=omega) only [wq,e00,e90,Cc,C3,Es,tk,La,Lb,ta,tb]<;>with_reducible rfl))
    |((with_reducible first|apply Ax|apply Av);· first|with_reducible rfl|omega|(simp (disch:=omega) only [gT,wq,e00,e90,Cc,C3,Es,tk,La,Lb,ta,tb]<;>omega))
    |(with_reducible apply Aw;· first|with_reducible rfl|(simp (disch:=omega) only [gF,wq,e00,e90,Cc,C3,Es,tk,La,Lb,ta,tb]<;>omega))
   try simp (disch:=omega) only [wq,e00,e90,Cc,C3,Es,tk,La,Lb,ta,tb]
   all_goals rfl
  ·rw [hs];rw [he] at tk
   try unfold Aa
   repeat first
    |((with_reducible first|apply Ay|apply Am|apply Az|apply Cu|apply B9|apply Ao);· first|with_reducible rfl|(simp (disch:=omega) only [wq,e00,e90,Cc,C3,Es,tk,La,Lb,ta,tb]<;>with_reducible rfl))
    |((with_reducible first|apply Ax|apply Av);· first|with_reducible rfl|omega|(simp (disch:=omega) only [gT,wq,e00,e90,Cc,C3,Es,tk,La,Lb,ta,tb]<;>omega))
    |(with_reducible apply Aw;· first|with_reducible rfl|(simp (disch:=omega) only [gF,wq,e00,e90,Cc,C3,Es,tk,La,Lb,ta,tb]<;>omega))
   try simp (disch:=omega) only [wq,e00,e90,Cc,C3,Es,tk,La,Lb,ta,tb]
   all_goals rfl
 ·have hne:(A3 c != 0)=true:=by simp [h0]
  rw [A6 h0] at wq;rw [A6 h0]
  try unfold Aa
  repeat first
   |((with_reducible first|apply Ay|apply Am|apply Az|apply Cu|apply B9|apply Ao);· first|with_reducible rfl|(simp (disch:=omega) only [wq,hne]<;>with_reducible rfl))
   |((with_reducible first|apply Ax|apply Av);· first|with_reducible rfl|omega|(simp (disch:=omega) only [gT,wq,hne]<;>omega))
   |(with_reducible apply Aw;· first|with_reducible rfl|(simp (disch:=omega) only [gF,wq,hne]<;>omega))
  try simp (disch:=omega) only [wq,hne]
  all_goals rfl
theorem Ahi:Ae C0 Tryz.prog fu (d+1) Mq [.agg c.cells]=some ⟨[.sc (.bool (decide ((c.subj.size:Int)<100)&&decide ((c.iss.size:Int)<100)&&decide ((c.sig.chains.length:Int)<40)&&decide ((c.sig.path.length:Int)<10)))],[]⟩:=by
 refine (Uq fu d c.subj c.iss c.serial c.key.h c.key.root c.fr c.un c.auth c.path c.model c.sig.leaf c.sig.chains.length (Af .u64 c.sig.chains) c.sig.path.length (Af .u64 c.sig.path)).trans ?_;cases decide ((c.subj.size:Int)<100)<;>cases decide ((c.iss.size:Int)<100)<;>cases decide ((c.sig.chains.length:Int)<40)<;>rfl
end
end
section
open Go.IntKind (wrap)
set_option maxRecDepth 1000000
section
variable {fu d:Nat}
theorem IM {call:Ai}{a0n a1n:Nat}{a0 a1:List PV}{l:List Int}(hl:l.length<=1000):∀(k i nn:Nat),i+k=l.length->k<nn ->
  Ee fu call a0n a0 a1n a1 nn l.length (Af .u64 l) l.length (Af .u64 l) i=some ⟨[.sc (.bool true)],[]⟩
 |_,_,0,_,h=>by omega
 |0,i,nn+1,hi,hn=>by
  have e:i=l.length:=by omega
  subst e;rw [Hq];simp (disch:=omega) only [Br]
 |k+1,i,nn+1,hi,hn=>by
  have ih:=IM (call:=call) (a0n:=a0n) (a1n:=a1n) (a0:=a0) (a1:=a1) hl k (i+1) nn (by omega) (by omega)
  obtain ⟨x,hx⟩:∃x,l[i]?=some x:=⟨_,List.getElem?_eq_getElem (by omega)⟩
  have w:wrap .i64 ((i:Int)+1)=((i+1:Nat):Int):=by rw [Ak (by omega) (by omega)];omega
  have q:(x != x)=false:=bne_self_eq_false x;rw [Hq];simp (disch:=omega) only [Br,H2,Cc,C3,Uh hx,q,w];exact ih
theorem XY (hfu:2000<=fu){l:List Int}(hl:l.length<=1000):Ae C0 Tryz.prog fu (d+1) I5 [.lst false 1 l.length (Af .u64 l),.lst false 1 l.length (Af .u64 l)]=some ⟨[.sc (.bool true)],[]⟩:=by
 refine (Rz fu d l.length (Af .u64 l) l.length (Af .u64 l)).trans ?_;have q:=IM (fu:=fu) (call:=Ae C0 Tryz.prog fu d) (a0n:=l.length) (a1n:=l.length) (a0:=Af .u64 l) (a1:=Af .u64 l) hl l.length 0 fu (by omega) (by omega)
 have b:((l.length:Int) != (l.length:Int))=false:=bne_self_eq_false _;simp only [Br,b];exact q
theorem Ajw (hfu:2000<=fu){s:Sg}(h1:s.chains.length<=1000)(h2:s.path.length<=1000):Ae C0 Tryz.prog fu (d+2) G8 [.agg s.cells,.agg s.cells]=some ⟨[.sc (.bool true)],[]⟩:=by
 refine (Nt fu (d+1) s.leaf s.chains.length (Af .u64 s.chains) s.path.length (Af .u64 s.path) s.leaf s.chains.length (Af .u64 s.chains) s.path.length (Af .u64 s.path)).trans ?_;have w1:=XY (fu:=fu) (d:=d) hfu h1;have w2:=XY (fu:=fu) (d:=d) hfu h2;have q1:(s.leaf==s.leaf)=true:=beq_self_eq_true _
 try unfold Aa
 repeat first
  |((with_reducible first|apply Ay|apply Am|apply Az|apply A5|apply Ba|apply Bi|apply Cu|apply B9|apply Ao);· first|with_reducible rfl|(simp (disch:=omega) only [q1,w1,w2]<;>with_reducible rfl))
  |((with_reducible first|apply Ax|apply Av);· first|with_reducible rfl|omega|(simp (disch:=omega) only [gT,q1,w1,w2]<;>omega))
  |(with_reducible apply Aw;· first|with_reducible rfl|(simp (disch:=omega) only [gF,q1,w1,w2]<;>omega))
 try simp (disch:=omega) only [q1,w1,w2]
 all_goals rfl
theorem UL (hfu:2000<=fu){c:Ce}(h1:c.sig.chains.length<=1000)(h2:c.sig.path.length<=1000):Ae C0 Tryz.prog fu (d+3) Gj [.agg c.cells,.agg c.cells]=some ⟨[.sc (.bool true)],[]⟩:=by
 refine (Kr fu (d+2) c.subj c.iss c.serial c.key.h c.key.root c.fr c.un c.auth c.path c.model c.sig.leaf c.sig.chains.length (Af .u64 c.sig.chains) c.sig.path.length (Af .u64 c.sig.path) c.subj c.iss c.serial c.key.h c.key.root c.fr c.un c.auth c.path c.model c.sig.leaf c.sig.chains.length (Af .u64 c.sig.chains) c.sig.path.length (Af .u64 c.sig.path)).trans ?_;have ws:=Ajw (fu:=fu) (d:=d) hfu h1 h2;simp only [Sg.cells] at ws;have q0:∀l:List UInt8,(l==l)=true:=fun l=>beq_self_eq_true l
 have q1:∀l:Int,(l==l)=true:=fun l=>beq_self_eq_true l
 have q2:∀l:Bool,(l==l)=true:=fun l=>beq_self_eq_true l
 try unfold Aa
 repeat first
  |((with_reducible first|apply Ay|apply Am|apply Az|apply A5|apply Ba|apply Bi|apply Cu|apply B9|apply Ao);· first|with_reducible rfl|(simp (disch:=omega) only [q0,q1,q2,Bool.and_true,ws]<;>with_reducible rfl))
  |((with_reducible first|apply Ax|apply Av);· first|with_reducible rfl|omega|(simp (disch:=omega) only [gT,q0,q1,q2,Bool.and_true,ws]<;>omega))
  |(with_reducible apply Aw;· first|with_reducible rfl|(simp (disch:=omega) only [gF,q0,q1,q2,Bool.and_true,ws]<;>omega))
 try simp (disch:=omega) only [q0,q1,q2,Bool.and_true,ws]
 all_goals rfl
end
abbrev lfS:ByteArray:=⟨#[(108:UInt8),(101:UInt8),(97:UInt8),(102:UInt8)]⟩
abbrev rtS:ByteArray:=⟨#[(114:UInt8),(111:UInt8),(111:UInt8),(116:UInt8)]⟩
def WC:Ce:=⟨lfS,rtS,9,J7 5 1,1,8,false,0,0,⟨0,[],[]⟩⟩
theorem WU:A3 WC=0:=by
 unfold A3;have h1:WC.subj.size=4:=rfl;have h2:WC.iss.size=4:=rfl;have h3:XE WC.subj=true:=by decide
 have h4:XE WC.iss=true:=by decide
 have h5:C2 WC.key.h=false:=Adr 5 1;have h6:WC.fr=1:=rfl;have h7:WC.un=8:=rfl;have h8:WC.path=0:=rfl;rw [h1,h2,h3,h4,h5,h6,h7,h8];simp
theorem Abw:∃s,X8 71 1 0 (Ja WC)=some s∧s.ok∧s.leaf=0∧s.chains.length=18∧(s.path.length:Int)=1∧NL (J7 71 1) (Ja WC) s=0:=Alm (by decide) (by decide)
noncomputable def VQ:Sg:=Classical.choose Abw
theorem CI:X8 71 1 0 (Ja WC)=some VQ∧VQ.ok∧VQ.leaf=0∧VQ.chains.length=18∧(VQ.path.length:Int)=1∧NL (J7 71 1) (Ja WC) VQ=0:=Classical.choose_spec Abw
noncomputable def cA:Ce:={ WC with sig:=VQ }
theorem Ab6:cA.ok:=⟨by decide,by decide,PZ 5 1,CI.2.1⟩
theorem RO:A3 cA=0:=WU
theorem SV:Er cA=0:=by
 obtain ⟨_,_,h3,h4,h5,_⟩:=CI;unfold Er;rw [RO,B4 rfl];show LY VQ=0;unfold LY;rw [h5,h3,A6 (by decide),A6 (by decide),A6 (by omega)]
theorem Ac6:cA.in_:=⟨Ab6.wf,by show lfS.size<=_;decide,by show rtS.size<=_;decide⟩
theorem Alt:Uc cA (J7 71 1)=0:=by
 unfold Uc;rw [RO,B4 rfl];exact CI.2.2.2.2.2
theorem Afu:Lz WC 71 1 0=(cA,0):=by
 unfold Lz;rw [B4 WU,CI.1];rfl
theorem VJ (now:Int)(h0:1<=now)(h1:now<=9):YN [cA] [⟨rtS,J7 71 1⟩] [] now=if now<=8 then (0,0) else (0,38):=by
 unfold YN;rw [A6 (by omega),A6 (by omega),A6 (by simp),A6 (by simp)]
 unfold LU
 have lk:P6 cA ((0:Nat):Int) [] now=if now<1 then 38 else if now>8 then 38 else VO cA now []:=by
  unfold P6;rw [RO];rfl
 have n1:¬(now<1):=by omega
 rw [lk,A6 n1];by_cases h:now<=8
 ·have r0:VO cA now []=0:=rfl;have n8:¬(now>8):=by omega
  rw [A6 n8,B4 h,r0,A6 (by simp)]
  unfold Aix
  have is:Uk cA 0 [⟨rtS,J7 71 1⟩]=0:=by
   rw [Uk,B4 ⟨by decide,Alt⟩]
   rfl
  rw [is];rfl
 ·have n8:now>8:=by omega
  rw [B4 n8,A6 h,B4 (by simp)]
section
variable {d:Nat}
theorem Agg:Ae C0 Tryz.prog 2000 (d+15) Me []=some ⟨[.sc (.bool true)],[]⟩:=by
 rw [Uv];have k5:=Aiw (fu:=2000) (d:=d+1) (by omega) 5 1
 have k71:=Aiw (fu:=2000) (d:=d+1) (by omega) 71 1
 have sg:=XI (fu:=2000) (d:=d+5) (c:=WC) (by omega) ⟨by decide,by decide⟩ (by decide) (by decide) 71 1 0
 rw [Afu] at sg;obtain ⟨_,_,h3,h4,h5,_⟩:=CI;have l1:cA.sig.chains.length=18:=h4;have l2:cA.sig.path.length=1:=by have:(cA.sig.path.length:Int)=1:=h5;omega
 have en:=Acu (fu:=2000) (d:=d+6) (c:=cA) (by omega) Ab6.wf Ac6.s1 Ac6.s2 (by omega) (by omega)
 unfold RW at en;rw [SV,B4 rfl] at en;have el:=KY (c:=cA) SV;have de:=Ala (fu:=2000) (d:=d+5) (by omega) (Aig Ab6.wf SV) (by omega)
 rw [VY Ab6 SV] at de;have p8:=YA (fu:=2000) (d:=d+4) (by omega) (cs:=[cA]) (by intro c hc;rw [List.mem_singleton.1 hc];exact Ac6) (ans:=[⟨rtS,J7 71 1⟩]) (by simp) (vs:=[]) (by simp) 8
 have p9:=YA (fu:=2000) (d:=d+4) (by omega) (cs:=[cA]) (by intro c hc;rw [List.mem_singleton.1 hc];exact Ac6) (ans:=[⟨rtS,J7 71 1⟩]) (by simp) (vs:=[]) (by simp) 9
 rw [VJ 8 (by omega) (by omega),B4 (by omega)] at p8
 rw [VJ 9 (by omega) (by omega),A6 (by omega)] at p9
 have sm:=UL (fu:=2000) (d:=d+11) (c:=cA) (by omega) (by omega) (by omega)
 have L:=Aj .u8 (Hb cA);have t:=Jf .u8 (Hb cA);have c0:WC.cells=[.sc (.string lfS),.sc (.string rtS),.sc (.int .u64 9),.sc (.int .i64 (J7 5 1).h),.sc (.int .u64 (J7 5 1).root),.sc (.int .i64 1),.sc (.int .i64 8),.sc (.bool false),.sc (.int .i64 0),.sc (.int .u64 0),.sc (.int .i64 0),.lst false 1 0 [],.lst false 1 0 []]:=rfl;rw [c0] at sg;have e0:Ic [cA]=cA.cells:=by unfold Ic;simp
 have e1:Z4 [⟨rtS,J7 71 1⟩]=[.sc (.string rtS),.sc (.int .i64 (J7 71 1).h),.sc (.int .u64 (J7 71 1).root)]:=rfl;have e2:Tq []=[]:=rfl;rw [e0,e1,e2] at p8 p9;simp only [Ce.cells,Ky.cells,J4,Z3,C3] at k5 k71 sg en de p8 p9 sm;generalize Hb cA=E at *
 generalize cA=C at *
 generalize J7 5 1=K at *
 generalize J7 71 1=K2 at *
 have b0:((0:Int)==0)=true:=rfl;have b38:((38:Int)==38)=true:=rfl
 try unfold Aa
 repeat first
  |((with_reducible first|apply Ay|apply Am|apply Az|apply A5|apply Ba|apply Bi|apply Cu|apply B9|apply Ao);· first|with_reducible rfl|(simp (disch:=omega) only [k5,k71,sg,en,de,p8,p9,sm,b0,b38,Es,C3,Cc,L,t]<;>with_reducible rfl))
  |((with_reducible first|apply Ax|apply Av);· first|with_reducible rfl|omega|(simp (disch:=omega) only [gT,k5,k71,sg,en,de,p8,p9,sm,b0,b38,Es,C3,Cc,L,t]<;>omega))
  |(with_reducible apply Aw;· first|with_reducible rfl|(simp (disch:=omega) only [gF,k5,k71,sg,en,de,p8,p9,sm,b0,b38,Es,C3,Cc,L,t]<;>omega))
 try simp (disch:=omega) only [k5,k71,sg,en,de,p8,p9,sm,b0,b38,Es,C3,Cc,L,t]
 all_goals rfl
end
end
section
open Go.IntKind (wrap)
theorem Rf {d:Nat}{ps:List PV}(h:WT Tryz.prog d 24 ps):∃(v0:Int)(v1:Int),ps=[(.sc (.int .i64 v0)),(.sc (.int .u64 v1))]∧(Lit.int .i64 v0).wf=true∧(Lit.int .u64 v1).wf=true:=by
 obtain ⟨rs,rfl,h1⟩:=Ah6 (ts:=[3,22]) (by kernel_rfl) h
 obtain ⟨r0,_,rfl,g0,h1⟩:=h1.cons_inv;obtain ⟨r1,_,rfl,g1,h1⟩:=h1.cons_inv;obtain rfl:=h1.nil_inv;obtain ⟨v0,rfl,w0_0⟩:=Qv (k:=.i64) (by kernel_rfl) g0
 obtain ⟨v1,rfl,w1_0⟩:=Qv (k:=.u64) (by kernel_rfl) g1
 exact ⟨v0,v1,rfl,w0_0,w1_0⟩
theorem EJ {d:Nat}{ps:List PV}(h:WT Tryz.prog d 27 ps):∃(v0:Int)(v1:List Int)(v2:List Int),ps=[(.sc (.int .i64 v0)),(.lst false 1 v1.length (Af .u64 v1)),(.lst false 1 v2.length (Af .u64 v2))]∧(Lit.int .i64 v0).wf=true∧v1.length<=maxLen∧(∀n∈v1,(Lit.int .u64 n).wf=true)∧v2.length<=maxLen∧(∀n∈v2,(Lit.int .u64 n).wf=true):=by
 obtain ⟨rs,rfl,h1⟩:=Ah6 (ts:=[3,25,25]) (by kernel_rfl) h
 obtain ⟨r0,_,rfl,g0,h1⟩:=h1.cons_inv;obtain ⟨r1,_,rfl,g1,h1⟩:=h1.cons_inv;obtain ⟨r2,_,rfl,g2,h1⟩:=h1.cons_inv;obtain rfl:=h1.nil_inv;obtain ⟨v0,rfl,w0_0⟩:=Qv (k:=.i64) (by kernel_rfl) g0
 obtain ⟨v1,rfl,w1_0,w1_1⟩:=SH (k:=.u64) (e:=22) (by kernel_rfl) (by kernel_rfl) (by kernel_rfl) g1
 obtain ⟨v2,rfl,w2_0,w2_1⟩:=SH (k:=.u64) (e:=22) (by kernel_rfl) (by kernel_rfl) (by kernel_rfl) g2
 exact ⟨v0,v1,v2,rfl,w0_0,w1_0,w1_1,w2_0,w2_1⟩
theorem Yi {d:Nat}{ps:List PV}(h:WT Tryz.prog d 29 ps):∃(v0:ByteArray)(v1:ByteArray)(v2:Int)(v3v0:Int)(v3v1:Int)(v4:Int)(v5:Int)(v6:Bool)(v7:Int)(v8:Int)(v9v0:Int)(v9v1:List Int)(v9v2:List Int),ps=[(.sc (.string v0)),(.sc (.string v1)),(.sc (.int .u64 v2)),(.sc (.int .i64 v3v0)),(.sc (.int .u64 v3v1)),(.sc (.int .i64 v4)),(.sc (.int .i64 v5)),(.sc (.bool v6)),(.sc (.int .i64 v7)),(.sc (.int .u64 v8)),(.sc (.int .i64 v9v0)),(.lst false 1 v9v1.length (Af .u64 v9v1)),(.lst false 1 v9v2.length (Af .u64 v9v2))]∧v0.size<=maxLen∧v1.size<=maxLen∧(Lit.int .u64 v2).wf=true∧(Lit.int .i64 v3v0).wf=true∧(Lit.int .u64 v3v1).wf=true∧(Lit.int .i64 v4).wf=true∧(Lit.int .i64 v5).wf=true∧(Lit.int .i64 v7).wf=true∧(Lit.int .u64 v8).wf=true∧(Lit.int .i64 v9v0).wf=true∧v9v1.length<=maxLen∧(∀n∈v9v1,(Lit.int .u64 n).wf=true)∧v9v2.length<=maxLen∧(∀n∈v9v2,(Lit.int .u64 n).wf=true):=by
 obtain ⟨rs,rfl,h1⟩:=Ah6 (ts:=[9,9,22,24,3,3,4,3,22,27]) (by kernel_rfl) h
 obtain ⟨r0,_,rfl,g0,h1⟩:=h1.cons_inv;obtain ⟨r1,_,rfl,g1,h1⟩:=h1.cons_inv;obtain ⟨r2,_,rfl,g2,h1⟩:=h1.cons_inv;obtain ⟨r3,_,rfl,g3,h1⟩:=h1.cons_inv;obtain ⟨r4,_,rfl,g4,h1⟩:=h1.cons_inv;obtain ⟨r5,_,rfl,g5,h1⟩:=h1.cons_inv;obtain ⟨r6,_,rfl,g6,h1⟩:=h1.cons_inv;obtain ⟨r7,_,rfl,g7,h1⟩:=h1.cons_inv;obtain ⟨r8,_,rfl,g8,h1⟩:=h1.cons_inv;obtain ⟨r9,_,rfl,g9,h1⟩:=h1.cons_inv;obtain rfl:=h1.nil_inv;obtain ⟨v0,rfl,w0_0⟩:=Agp (by kernel_rfl) g0
 obtain ⟨v1,rfl,w1_0⟩:=Agp (by kernel_rfl) g1
 obtain ⟨v2,rfl,w2_0⟩:=Qv (k:=.u64) (by kernel_rfl) g2
 obtain ⟨v3v0,v3v1,rfl,w3_0,w3_1⟩:=Rf g3;obtain ⟨v4,rfl,w4_0⟩:=Qv (k:=.i64) (by kernel_rfl) g4
 obtain ⟨v5,rfl,w5_0⟩:=Qv (k:=.i64) (by kernel_rfl) g5
 obtain ⟨v6,rfl⟩:=Akh (by kernel_rfl) g6
 obtain ⟨v7,rfl,w7_0⟩:=Qv (k:=.i64) (by kernel_rfl) g7
 obtain ⟨v8,rfl,w8_0⟩:=Qv (k:=.u64) (by kernel_rfl) g8
 obtain ⟨v9v0,v9v1,v9v2,rfl,w9_0,w9_1,w9_2,w9_3,w9_4⟩:=EJ g9;exact ⟨v0,v1,v2,v3v0,v3v1,v4,v5,v6,v7,v8,v9v0,v9v1,v9v2,rfl,w0_0,w1_0,w2_0,w3_0,w3_1,w4_0,w5_0,w7_0,w8_0,w9_0,w9_1,w9_2,w9_3,w9_4⟩
end
end Go.Proofs.YtdjihiphpgkfmaaGreatDoor.Pv
