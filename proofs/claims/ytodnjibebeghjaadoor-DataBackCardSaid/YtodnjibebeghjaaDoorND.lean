/-
  The proof of DataBack, part 4.
-/
import Derived.Test.YtodnjibebeghjaaDoorNC
import Derived.Lib.RuneBytes
import Derived.Lib.SlTrimSet
import Derived.Test.YtodnjibebeghjaaDoorRows
import Derived.Lib.BytesEntry
import Derived.Lib.Bytealg
import Derived.Lib.Walk
import Derived.WalkKit
import Derived.WalkMore
import Derived.Laws.Bits64b
import Derived.Shelf.Strings.BuilderRune
import Derived.Shelf.Strings.SlTrimAscii
import Derived.Shelf.RegionOpenPlain
import Derived.Lib.Overlaps
import Derived.Lib.AppendZerosOnto
import Derived.Lib.SliceRun
import Derived.Laws.Externs
import Derived.Laws.IdiomCopy
import Derived.Laws.NewBlocks
import Derived.Shelf.Unicode.ValidAny
import Derived.Lib.LaidU8T
set_option linter.unusedSimpArgs false
set_option linter.unusedVariables false
namespace Go.Proofs.YtodnjibebeghjaaDoor.Pv
section
open Go.IntKind (wrap)
def F0 (v:Int):Int:=if v<26 then 65+v else if v<52 then 71+v else if v<62 then v-4 else if v<63 then 45 else 95
def Bq (c:Int):Int:=if 65<=c∧c<=90 then c-65 else if 97<=c∧c<=122 then c-71 else if 48<=c∧c<=57 then c+4 else if c=45 then 62 else if c=95 then 63 else 64
theorem Kf {v:Int}(h0:0<=v)(h1:v<64):Bq (F0 v)=v:=by
 unfold Bq F0;split<;>split<;>(try split)<;>(try split)<;>(try split)<;>(try split)<;>(try split)<;>(try split)<;>omega
theorem Mm (c:Int):0<=Bq c∧Bq c<=64:=by
 unfold Bq;split
 ·omega
 split
 ·omega
 split
 ·omega
 split
 ·omega
 split<;>omega
def Es:List Int->List Int
 |[]=>[]
 |[a]=>[F0 (a / 4),F0 (a % 4*16)]
 |[a,b]=>[F0 (a / 4),F0 (a % 4*16+b / 16),F0 (b % 16*4)]
 |a::b::c::r=>F0 (a / 4)::F0 (a % 4*16+b / 16)::F0 (b % 16*4+c / 64)::F0 (c % 64)::Es r
def K5:List Int->Option (List Int)
 |[]=>some []
 |[_]=>none
 |[p,q]=>if Bq p<64∧Bq q<64∧Bq q % 16=0 then some [Bq p*4+Bq q / 16] else none
 |[p,q,r]=>if Bq p<64∧Bq q<64∧Bq r<64∧Bq r % 4=0 then some [Bq p*4+Bq q / 16,Bq q % 16*16+Bq r / 4] else none
 |p::q::r::s::t=>if Bq p<64∧Bq q<64∧Bq r<64∧Bq s<64 then (K5 t).map (fun l=>(Bq p*4+Bq q / 16)::(Bq q % 16*16+Bq r / 4)::(Bq r % 4*64+Bq s)::l) else none
theorem Bm {a:Int}{l:List Int}(h:C8 (a::l)):(0<=a∧a<=255)∧C8 l:=⟨h a (by simp),fun x hx=>h x (by simp[hx])⟩
theorem WL:∀{l:List Int},C8 l->K5 (Es l)=some l
 |[],_=>rfl
 |[a],h=>by
  obtain⟨ha,_⟩:=Bm h;have e1:=Kf (v:=a / 4) (by omega) (by omega)
  have e2:=Kf (v:=a % 4*16) (by omega) (by omega)
  unfold Es K5;rw[e1,e2,Dw (by omega)]
  congr 2
  omega
 |[a,b],h=>by
  obtain⟨ha,h⟩:=Bm h;obtain⟨hb,_⟩:=Bm h;have e1:=Kf (v:=a / 4) (by omega) (by omega)
  have e2:=Kf (v:=a % 4*16+b / 16) (by omega) (by omega)
  have e3:=Kf (v:=b % 16*4) (by omega) (by omega)
  unfold Es K5;rw[e1,e2,e3,Dw (by omega)]
  congr 2
  ·omega
  ·congr 1;omega
 |a::b::c::r,h=>by
  obtain⟨ha,h⟩:=Bm h;obtain⟨hb,h⟩:=Bm h;obtain⟨hc,h⟩:=Bm h;have e1:=Kf (v:=a / 4) (by omega) (by omega)
  have e2:=Kf (v:=a % 4*16+b / 16) (by omega) (by omega)
  have e3:=Kf (v:=b % 16*4+c / 64) (by omega) (by omega)
  have e4:=Kf (v:=c % 64) (by omega) (by omega)
  unfold Es K5;rw[e1,e2,e3,e4,Dw (by omega),WL h]
  simp only[Option.map_some]
  congr 2
  ·omega
  ·congr 1
   ·omega
   ·congr 1;omega
theorem LX:∀l:List Int,(Es l).length=(4*l.length+2) / 3
 |[]=>rfl
 |[_]=>by simp[Es]
 |[_,_]=>by simp[Es]
 |a::b::c::r=>by
  show (Es r).length+1+1+1+1=_;rw[LX r];simp only[LB];omega
end
section
open Go.IntKind (wrap)
def Rr (c:Int):Bool:=c==32||c==9||c==10||c==13
def Bb:List Int->List Int
 |[]=>[]
 |c::r=>if Rr c=true then Bb r else c::r
def UI (c:Int):Option Int:=if 48<=c∧c<=57 then some (c-48) else if 97<=c∧c<=102 then some (c-87) else if 65<=c∧c<=70 then some (c-55) else none
abbrev PR (α:Type):=Option α × List Int
def R3:Nat->Int->List Int->PR Int
 |0,x,l=>(some x,l)
 |_+1,_,[]=>(none,[])
 |n+1,x,c::r=>match UI c with
  |some v=>R3 n (x*16+v) r
  |none=>(none,c::r)
def KU (x:Int):Bool:=decide (56320<=x)&&decide (x<=57343)
def XN (x:Int)(l:List Int):PR Int:=
 match R3 4 0 l with
 |(some y,r)=>if KU y=true then (some (65536+(x-55296)*1024+(y-56320)),r) else (none,r)
 |(none,r)=>(none,r)
def Ags:List Int->Bool
 |92::117::_=>true
 |_=>false
def Ng (l:List Int):PR Int:=
 match R3 4 0 l with
 |(none,r)=>(none,r)
 |(some x,r)=>if KU x=true then (none,r) else if x<55296∨56319<x then (some x,r) else if Ags r=true then XN x (r.drop 2) else (none,r)
def Sm (c:Int):Option Int:=if c=34∨c=92∨c=47 then some c else if c=98 then some 8 else if c=102 then some 12 else if c=110 then some 10 else if c=114 then some 13 else if c=116 then some 9 else none
def Lp:List Int->PR Int
 |[]=>(none,[])
 |c::r=>if c=117 then Ng r else match Sm c with
  |some x=>(some x,r)
  |none=>(none,c::r)
def Hm:Nat->List Int->List Int->PR (List Int)
  |0,_,l=>(none,l)
  |_+1,_,[]=>(none,[])
  |n+1,out,c::r=>if c<32 then (none,c::r) else if c=34 then (some out,r) else if c=92 then
      (match Lp r with
       |(some x,r')=>Hm n (out++Lib.encodeRuneZ x) r'
       |(none,r')=>(none,r'))
    else Hm n (out++[c]) r
def Eo:List Int->PR (List Int)
 |[]=>(none,[])
 |c::r=>if c=34 then Hm (r.length+1) [] r else (none,c::r)
def Uk (l:List Int):Option (List Int × List Int):=match Eo l with|(some s,r)=>some (s,r)|_=>none
def dgS (c:Int):Bool:=decide (48<=c)&&decide (c<=57)
def I6:List Int->List Int
 |[]=>[]
 |c::r=>if dgS c=true then I6 r else c::r
def Cf:List Int->Option (List Int)
 |[]=>none
 |c::r=>if dgS c=true then some (I6 r) else none
def Aeb (c:Int):List Int->List Int
 |[]=>[]
 |d::r=>if d=c then r else d::r
def S0:List Int->Option (List Int)
 |[]=>some []
 |c::r=>if c=101∨c=69 then (match r with
   |43::r'=>Cf r'
   |r=>Cf (Aeb 45 r)) else some (c::r)
def CI:List Int->Option (List Int)
 |[]=>some []
 |c::r=>if c=46 then (Cf r).bind S0 else S0 (c::r)
def Ahh:List Int->Option (List Int)
 |[]=>none
 |c::r=>if c=48 then some r else Cf (c::r)
def Fi (l:List Int):Option (List Int):=(Ahh (Aeb 45 l)).bind CI
abbrev JV:=Int × List Int × Bool
abbrev JR (α:Type):=Except Int α
def JP (V:List Int->JR (JV × List Int)):Nat->List Int->JR (List Int)
 |0,_=>.error 2
 |n+1,l=>match V l with
  |.error e=>.error e
  |.ok (_,r)=>match Bb r with
   |93::r'=>.ok r'
   |44::r'=>JP V n (Bb r')
   |_=>.error 2
def Aa2 (V:List Int->JR (JV × List Int)) (l:List Int):JR (List Int):=
 match Bb l with
 |93::r=>.ok r
 |l'=>JP V (l'.length+1) l'
def Apu (V:List Int->JR (JV × List Int)) (dup:List Int->Bool)(l:List Int):JR ((List Int × JV) × List Int):=
 match Uk l with
 |none=>.error 2
 |some (nm,r)=>if dup nm=true then .error 10 else
  match Bb r with
  |58::r'=>(match V (Bb r') with
   |.error e=>.error e
   |.ok (v,r'')=>.ok ((nm,v),r''))
  |_=>.error 2
def O5 (V:List Int->JR (JV × List Int)) (kp:Bool):Nat->List (List Int × JV)->List Int->JR (List (List Int × JV) × List Int)
 |0,_,_=>.error 2
 |n+1,ms,l=>match Apu V (fun nm=>kp&&ms.any fun m=>m.1==nm) l with
  |.error e=>.error e
  |.ok (m,r)=>match Bb r with
   |125::r'=>.ok (ms++[m],r')
   |44::r'=>O5 V kp n (ms++[m]) (Bb r')
   |_=>.error 2
def Vp (V:List Int->JR (JV × List Int)) (kp:Bool)(l:List Int):JR (List (List Int × JV) × List Int):=
 match Bb l with
 |125::r=>.ok ([],r)
 |l'=>O5 V kp (l'.length+1) [] l'
def Aq (w l:List Int):Option (List Int):=if w.isPrefixOf l=true then some (l.drop w.length) else none
def E1:Nat->List Int->JR (JV × List Int)
 |k,l=>match l with
  |123::r=>(match k with
   |0=>.error 5
   |k+1=>(match Vp (E1 k) false r with
    |.error e=>.error e
    |.ok (_,r')=>.ok ((6,[],false),r')))
  |91::r=>(match k with
   |0=>.error 5
   |k+1=>(match Aa2 (E1 k) r with
    |.error e=>.error e
    |.ok r'=>.ok ((5,[],false),r')))
  |34::r=>(match Uk (34::r) with
   |none=>.error 2
   |some (s,r')=>.ok ((4,s,false),r'))
  |l=>match Aq [116,114,117,101] l with
   |some r=>.ok ((2,[],true),r)
   |none=>match Aq [102,97,108,115,101] l with
    |some r=>.ok ((2,[],false),r)
    |none=>match Aq [110,117,108,108] l with
     |some r=>.ok ((1,[],false),r)
     |none=>match Fi l with
      |some r=>.ok ((3,[],false),r)
      |none=>.error 2
def NR (k:Nat)(l:List Int):JR (List (List Int × JV)):=
 match Bb l with
 |123::r=>(match Vp (E1 k) true r with
  |.error e=>.error e
  |.ok (ms,r')=>if Bb r'=[] then .ok ms else .error 2)
 |_=>.error 2
end
section
open Go.IntKind (wrap)
def EG:List PV->Option (List Int)
 |[]=>some []
 |.sc (.int .u8 n)::r=>bif decide (0<=n)&&decide (n<=255) then (EG r).map (n :: ·) else none
 |_=>none
def Adm (args:List PV):Option Ay:=
 match args with
 |[.lst _ 1 n c]=>bif Nat.beq c.length n&&Nat.ble n 100000000 then (match EG c with|some l=>some ⟨[.sc (.string (Ab (Es l)))],[]⟩|none=>none) else none
 |_=>none
def Adi (args:List PV):Option Ay:=
  match args with
  |[.pbox [.sc (.string t),.sc (.int .i64 p)]]=>bif decide (0<=p)&&decide (p<=t.size)&&Nat.ble t.size 1000000 then
      (match Eo ((E4 t).drop p.toNat) with
       |(some s,r)=>some ⟨[.sc (.string (Ab s)),.sc (.bool true)],[[.sc (.string t),.sc (.int .i64 (t.size-r.length:Int))]]⟩
       |(none,r)=>some ⟨[.sc (.string ⟨#[]⟩),.sc (.bool false)],[[.sc (.string t),.sc (.int .i64 (t.size-r.length:Int))]]⟩) else none
  |_=>none
def Aqe (args:List PV):Option Ay:=
 match args with
 |[.sc (.string s),.sc (.int .u8 c)]=>some ⟨[.sc (.int .i64 (Lib.indexByte s.data.toList c.toNat.toUInt8))],[]⟩
 |_=>none
def Ap2 (args:List PV):Option Ay:=
 match args with
 |[.sc (.string s),.sc (.string p)]=>bif Nat.beq p.size 1 then some ⟨[.sc (.int .i64 (Lib.countByte s.data.toList p[0]!))],[]⟩ else none
 |_=>none
def QR (args:List PV):Option Ay:=
 match args with
 |[.sc (.string s),.sc (.string p)]=>bif Nat.ble p.size 1000&&p.data.toList.all (fun b=>decide (b.toNat<128))&&decide (s.size<=1000000000) then some ⟨[.sc (.string ⟨(Lib.trimS s.data.toList p.data.toList).toArray⟩)],[]⟩ else none
 |_=>none
def Aeu (f:FuncId):Option (List PV->Option Ay):=
 bif Nat.beq f 33 then some TB else
 bif Nat.beq f 40 then some Aqe else
 bif Nat.beq f 99 then some Ap2 else
 bif Nat.beq f 66 then some QR else
 bif Nat.beq f 12 then some Adm else
 bif Nat.beq f 68 then some Adi else
 bif Nat.beq f 1000000 then some (fun _=>none) else none
def NU (p:Option (List PV->Option Ay)) (f:FuncId):Option (List PV->Option Ay):=bif Nat.beq f 19 then p else Aeu f
abbrev CP (p:Option (List PV->Option Ay)):F4:=CX (NU p)
abbrev C0:F4:=CP none
abbrev xs0:=NU none
end
section
open Go.IntKind (wrap)
open Go.RowKit
def DV (p:PV)(u:Value):Prop:=p=.sc u∨∃vs:List Value,p=.agg (vs.map .sc)∧u=.agg ⟨vs⟩
theorem Qv {w:World}{A:Nat->Prop}{own:Bt}:∀{vs us:List Value}{j:Nat},Ed w A own j (vs.map .sc) us->us=vs
 |[],[],_,_=>rfl
 |[],_::_,_,h=>h.elim
 |_::_,[],_,h=>h.elim
 |v::vs,u::us,j,h=>by
  have h1:Au w A (.sc v) u:=h.1;rw[h1.val,Qv h.2]
theorem Qw {w:World}{A:Nat->Prop}{own:Bt}:∀{vs:List Value}{j:Nat},Ed w A own j (vs.map .sc) vs
 |[],_=>trivial
 |v::vs,j=>⟨show Au w A (.sc v) v from .sc v,Qw⟩
theorem DD {w:World}{A:Nat->Prop}{own:Bt}{z:Nat}:∀{vals:List PV}{us us':List Value}{j:Nat},Bc DV vals us->GM w A own z j vals us'->us'=us
 |[],[],[],_,_,_=>rfl
 |[],[],_::_,_,_,h=>h.elim
 |[],_::_,_,_,h,_=>h.elim
 |_::_,[],_,_,h,_=>h.elim
 |_::_,_::_,[],_,_,h=>h.elim
 |p::ps,u::us,u'::us',j,hs,h=>by
  rw[DD hs.2 h.2]
  congr 1
  rcases hs.1 with rfl|⟨vs,rfl,rfl⟩
  ·exact Au.val (show Au w A (.sc u) u' from h.1)
  ·obtain⟨vs',rfl,h2⟩:=h.1;rw[Qv h2]
structure Ee (w w':World) (b o n:Nat):Prop where
 os:w'.os=w.os
 tape:w'.tape=w.tape
 output:w'.output=w.output
 size:w.heap.size<=w'.heap.size
 grow:Gf w w' b
 other:∀k,k<w.heap.size->k≠b->w'.heap[k]?=w.heap[k]?
 cells:∀j,(j<o∨o+n<=j)->w'.cell? ⟨b,j,none⟩=w.cell? ⟨b,j,none⟩
 frz:∀j,(j<o∨o+n<=j)->w'.frozen? ⟨b,j,none⟩=w.frozen? ⟨b,j,none⟩
def bt1 (b o:Nat):V6:=fun i j=>match i,j with|0,0=>some (b,o)|_,_=>none
theorem Af7 {b o k:Nat}(h:ZZ (bt1 b o) k):k=b:=by
 obtain⟨i,j,o',h⟩:=h;unfold bt1 at h;split at h
 ·cases h;rfl
 ·cases h
theorem Vd {w:World}{A:Nat->Prop}{bt:V6}:∀{i:Nat}{ps:List PV}{us:List Value},Bc DV ps us->Jb w A bt i ps us
 |_,[],[],_=>trivial
 |_,[],_::_,h=>h.elim
 |_,_::_,[],h=>h.elim
 |i,p::ps,u::us,h=>by
  refine⟨?_,Vd h.2⟩;rcases h.1 with rfl|⟨vs,rfl,rfl⟩
  ·exact⟨.inl trivial,show Au w A (.sc u) u from .sc u⟩
  ·refine⟨vs,rfl,fun p hp=>?_,Qw⟩
   obtain⟨v,_,rfl⟩:=List.mem_map.1 hp;exact .inl trivial
theorem IW {G:S2}{P:Program}{f:FuncId}{vs vs':List Value}{args vals:List PV}{us rs:List Value}(hs:C4 G P f (.pbox (vs.map .sc)::args) ⟨vals,[vs'.map .sc]⟩) (ha:Bc DV args us)(hr:Bc DV vals rs)
  {w:World} {b o:Nat} (hG:G.ok w) (hGl:∀k,G.bl k->k<w.heap.size∧k≠b) (hb:b<w.heap.size) (hc:∀j v,vs[j]?=some v->w.cell? ⟨b,o+j,none⟩=some v) (hf:∀j,j<vs.length->w.frozen? ⟨b,o+j,none⟩=false):
  Calls P f (.pointer (some ⟨b,o,none⟩)::us).toArray w fun e w'=>e=.returned (Gv rs)∧vs'.length=vs.length∧(∀j v,vs'[j]?=some v->w'.cell? ⟨b,o+j,none⟩=some v)∧(∀j,j<vs.length->w'.frozen? ⟨b,o+j,none⟩=false)∧Ee w w' b o vs.length:=by
 have hi:Ins w (fun _=>False) (bt1 b o) (.pbox (vs.map .sc)::args) (.pointer (some ⟨b,o,none⟩)::us):=by
  refine⟨fun _ h=>h.elim,fun _ h=>h.elim,fun k h=>by rw[Af7 h];exact hb,fun i j i' j' k x x' h h'=>?_,fun i q h=>?_,?_,Vd ha⟩
  ·unfold bt1 at h h';split at h
   ·split at h'
    ·exact⟨rfl,rfl⟩
    ·cases h'
   ·cases h
  ·unfold bt1 at h;split at h
   ·exact⟨_,rfl,rfl⟩
   ·cases h
  ·refine⟨b,o,rfl,rfl,fun p hp=>?_,vs,Qw,hc,fun k hk=>hf k (by simpa using hk)⟩
   obtain⟨v,_,rfl⟩:=List.mem_map.1 hp;exact .inl trivial
 have Dj:∀i,∀q,(bt1 b o) i 0=some q->i=0∧q=(b,o):=by
  intro i q h;unfold bt1 at h;split at h
  ·cases h;exact⟨rfl,rfl⟩
  ·cases h
 refine (hs.2 w _ _ _ hi hG (fun k hk=>⟨(hGl k hk).1,fun hx=>(hGl k hk).2 (Af7 hx)⟩)).mono ?_
 rintro e w' ⟨ws,own,rfl,out⟩
 have hv:=DD hr out.vals;subst hv;have ho:=out.outs;obtain⟨⟨b',o',h1,h2,zs,h3,h4,h5⟩,_⟩:=(show (∃b' o',(bt1 b o) 0 0=some (b',o')∧(vs'.map PV.sc).length=(vs.map PV.sc).length∧Aeh w' (CM (bt1 b o) own (fun _=>False)) own (Jv vals) b' o' (vs'.map .sc))∧_ from ho)
 cases h1;have hz:=Qv h3;subst hz;simp only[List.length_map] at h2 h5
 have hL:∀k j,k<w.heap.size->(k≠b∨j<o∨o+vs.length<=j)->¬BL (bt1 b o) (.pbox (vs.map .sc)::args) k j:=by
  rintro k j hk Ei ⟨i,p,hp,hq⟩
  rcases hq with⟨x,y,hq,_⟩|⟨y,ps,hq,hy,Kp⟩
  ·unfold bt1 at hq;split at hq
   ·rename_i h;cases h
   ·cases hq
  ·obtain⟨rfl,h⟩:=Dj i _ hq;cases h;have:p=.pbox (vs.map .sc):=by simpa using hp.symm
   subst this;rcases Kp with⟨e,B5⟩|e
   ·injection e with e;subst e;rw[List.length_map] at B5;rcases Ei with h|h|h
    ·exact h rfl
    ·omega
    ·omega
   ·cases e
 refine⟨rfl,h2,h4,fun j hj=>h5 j (by omega),out.os,out.tape,out.output,out.ext.size,out.ext.bs b hb,fun k hk Ei=>out.ext.keep k hk fun hx=>Ei (Af7 hx),fun j hj=>(out.rng b j hb (hL b j hb (.inr hj))).1,fun j hj=>(out.rng b j hb (hL b j hb (.inr hj))).2⟩
end
section
open Go.IntKind (wrap)
open Go.RowKit
theorem Nk {w w':World}{Y:Nat->Prop}{bt:V6}{args:List PV}{v:Value}(hb:Below w.heap.size w w')(ho:Sb w' (CM bt (fun _=>none) Y) (fun _=>none) bt (Jv [.sc v]) 0 args []):
  Out w w' Y bt args (fun _=>none) ⟨[.sc v],[]⟩ [v] where
 os:=hb.os
 tape:=hb.tape
 output:=hb.output
 ext:=⟨hb.size,fun b h _=>hb.block b h,fun b h=>Gf.same (hb.block b h)⟩
 rng:=fun b j h _=>⟨by unfold World.cell?;simp only[hb.block b h],by unfold World.frozen?;simp only[hb.block b h]⟩
 vals:=⟨Au.sc v,trivial⟩
 outs:=ho
 fresh:=fun j b o h=>by cases h
 inj:=fun j j' b o o' h=>by cases h
end
section
open Go.Proofs.Tryd (prog)
open Go.IntKind (wrap)
set_option maxRecDepth 1000000
open Go.RowKit
theorem ZL (G:S2)(args:List PV)(res:Ay)(h:Aqe args=some res):C4 G prog 40 args res:=by
 refine⟨⟨_,Tryd.func40,by kernel_rfl⟩,fun w Y bt us hi _ _=>?_⟩
 unfold Aqe at h;split at h
 rotate_left
 ·cases h
 rename_i s c;cases h;have ps:=hi.args
 match us,ps with
 |[u1,u2],ps=>
  obtain⟨⟨_,p1⟩,⟨_,p2⟩,_⟩:=ps;have e1:u1=.string s:=Au.val (show Au w _ (.sc (.string s)) u1 from p1)
  have e2:u2=.int .u8 c:=Au.val (show Au w _ (.sc (.int .u8 c)) u2 from p2)
  subst e1 e2
  have walk:Calls prog 40 #[.string s,.int .u8 c] w fun e w'=>e=.returned (.int .i64 (Lib.indexByte s.data.toList c.toNat.toUInt8))∧w'=w:=by
   go_enter Tryd.func40,Tryd.ntmps40
   go_wp2
   rw[run_callFunc_extern Tryd.func55 (by kernel_rfl) (by kernel_rfl) (by kernel_rfl) (e:=Extern.BytealgIndexByte.indexByte) (by kernel_rfl),Lib.run_indexByteString]
   simp only[Result.andThen];rw[Oper.upon_value]
   go_wp2
   go_ret
   exact⟨rfl,rfl⟩
  refine walk.mono ?_
  rintro e w' ⟨rfl,rfl⟩
  exact⟨[.int .i64 (Lib.indexByte s.data.toList c.toNat.toUInt8)],fun _=>none,rfl,Nk (Below.refl _ _) rfl⟩
 |[],ps=>exact ps.elim
 |[_],ps=>exact ps.2.elim
 |_::_::_::_,ps=>exact ps.2.2.elim
theorem Adp {p:ByteArray}(h:p.size=1):p=⟨#[p[0]!]⟩:=by
 obtain⟨⟨l⟩⟩:=p
 match l,h with
 |[x],_=>rfl
theorem ZC (G:S2)(args:List PV)(res:Ay)(h:Ap2 args=some res):C4 G prog 99 args res:=by
 refine⟨⟨_,Tryd.func99,by kernel_rfl⟩,fun w Y bt us hi _ _=>?_⟩
 unfold Ap2 at h;split at h
 rotate_left
 ·cases h
 rename_i s p;cases hq:Nat.beq p.size 1
 ·rw[hq] at h;cases h
 rw[hq,cond_true] at h;cases h;have hp:=Adp (Nat.eq_of_beq_eq_true hq);generalize (p[0]!)=c at hp ⊢;subst hp;have ps:=hi.args
 match us,ps with
 |[u1,u2],ps=>
  obtain⟨⟨_,p1⟩,⟨_,p2⟩,_⟩:=ps;have e1:u1=.string s:=Au.val (show Au w _ (.sc (.string s)) u1 from p1)
  have e2:u2=.string ⟨#[c]⟩:=Au.val (show Au w _ (.sc (.string ⟨#[c]⟩)) u2 from p2)
  subst e1 e2
  have walk:Calls prog 99 #[.string s,.string ⟨#[c]⟩] w fun e w'=>e=.returned (.int .i64 (Lib.countByte s.data.toList c))∧w'=w:=by
   go_enter Tryd.func99,Tryd.ntmps99
   go_wp2
   rw[run_callFunc_extern Tryd.func110 (by kernel_rfl) (by kernel_rfl) (by kernel_rfl) (e:=Extern.BytealgCount.count) (by kernel_rfl),Lib.run_countString]
   simp only[Result.andThen];rw[Oper.upon_value]
   go_wp2
   go_ret
   exact⟨rfl,rfl⟩
  refine walk.mono ?_
  rintro e w' ⟨rfl,rfl⟩
  exact⟨[.int .i64 (Lib.countByte s.data.toList c)],fun _=>none,rfl,Nk (Below.refl _ _) rfl⟩
 |[],ps=>exact ps.elim
 |[_],ps=>exact ps.2.elim
 |_::_::_::_,ps=>exact ps.2.2.elim
end
section
open Go.IntKind (wrap)
set_option maxRecDepth 100000
theorem Anx (a b:Nat)(ha:a<4294967296)(hb:b<4294967296):bits .or .u32 ((a:Nat):Int) ((b:Nat):Int)=((a ||| b:Nat):Int):=by
 have hx:a ||| b<2 ^ 32:=Nat.or_lt_two_pow (by omega) (by omega)
 have h1:(BitVec.ofInt 32 (a:Int)).toNat=a:=by
  rw[BitVec.ofInt_natCast,BitVec.toNat_ofNat];exact Nat.mod_eq_of_lt (by omega)
 have h2:(BitVec.ofInt 32 (b:Int)).toNat=b:=by
  rw[BitVec.ofInt_natCast,BitVec.toNat_ofNat];exact Nat.mod_eq_of_lt (by omega)
 show IntKind.u32.wrap ((BitVec.ofInt 32 (a:Int) ||| BitVec.ofInt 32 (b:Int)).toNat:Int)=_;rw[BitVec.toNat_or,h1,h2];simp only[wrap,IntKind.bits,IntKind.signed,Zzs,Bool.false_eq_true,if_false];omega
theorem Auk (a b:Nat)(ha:a<4294967296)(hb:b<4294967296):bits .and .u32 ((a:Nat):Int) ((b:Nat):Int)=((a &&& b:Nat):Int):=by
 have hx:a &&& b<2 ^ 32:=Nat.and_lt_two_pow _ (by omega)
 have h1:(BitVec.ofInt 32 (a:Int)).toNat=a:=by
  rw[BitVec.ofInt_natCast,BitVec.toNat_ofNat];exact Nat.mod_eq_of_lt (by omega)
 have h2:(BitVec.ofInt 32 (b:Int)).toNat=b:=by
  rw[BitVec.ofInt_natCast,BitVec.toNat_ofNat];exact Nat.mod_eq_of_lt (by omega)
 show IntKind.u32.wrap ((BitVec.ofInt 32 (a:Int) &&& BitVec.ofInt 32 (b:Int)).toNat:Int)=_;rw[BitVec.toNat_and,h1,h2];simp only[wrap,IntKind.bits,IntKind.signed,Zzs,Bool.false_eq_true,if_false];omega
def Um (a b c:Int):List Int:=[F0 (a / 4),F0 (a % 4*16+b / 16),F0 (b % 16*4+c / 64),F0 (c % 64)]
abbrev Ak8 (a b c:Int):Int:=bits .or .u32 (bits .or .u32 (a % 4294967296*65536 % 4294967296) (b % 4294967296*256 % 4294967296)) (c % 4294967296)
theorem Ae7 {a b c:Int}(h:C8 [a,b,c]):Ak8 a b c=a*65536+b*256+c:=by
 obtain⟨ha,h⟩:=Bm h;obtain⟨hb,h⟩:=Bm h;obtain⟨hc,h⟩:=Bm h;obtain⟨a,rfl⟩:=Int.eq_ofNat_of_zero_le ha.1;obtain⟨b,rfl⟩:=Int.eq_ofNat_of_zero_le hb.1;obtain⟨c,rfl⟩:=Int.eq_ofNat_of_zero_le hc.1;have e1:(a:Int) % 4294967296*65536 % 4294967296=((a*65536:Nat):Int):=by omega
 have e2:(b:Int) % 4294967296*256 % 4294967296=((b*256:Nat):Int):=by omega
 have e3:(c:Int) % 4294967296=(c:Int):=by omega
 show bits .or .u32 (bits .or .u32 _ _) _=_;rw[e1,e2,e3,Anx _ _ (by omega) (by omega)]
 have h1:a*65536 ||| b*256=a*65536+b*256:=by
  have:=Nat.shiftLeft_add_eq_or_of_lt (show b*256<2 ^ 16 by omega) a
  rw[Nat.shiftLeft_eq,show (2:Nat) ^ 16=65536 from rfl] at this
  exact this.symm
 rw[h1,Anx _ _ (by omega) (by omega)]
 have h2:a*65536+b*256 ||| c=a*65536+b*256+c:=by
  have:=Nat.shiftLeft_add_eq_or_of_lt (show c<2 ^ 8 by omega) (a*256+b)
  rw[Nat.shiftLeft_eq] at this;have e:(a*256+b)*2 ^ 8=a*65536+b*256:=by omega
  rw[e] at this;exact this.symm
 rw[h2];omega
theorem A1g {a b c:Int}(h:C8 [a,b,c]) (j:Nat)(hj:j<4):∃q,0<=q∧q<64∧bits .and .u32 (Ak8 a b c / 2 ^ (18-6*j)) 63=q∧(Um a b c)[j]?=some (F0 q):=by
 rw[Ae7 h];obtain⟨ha,h⟩:=Bm h;obtain⟨hb,h⟩:=Bm h;obtain⟨hc,h⟩:=Bm h
 have key:∀x:Int,0<=x->x<4294967296->bits .and .u32 x 63=x % 64:=by
  intro x h0 h1;obtain⟨n,rfl⟩:=Int.eq_ofNat_of_zero_le h0;have:=Auk n 63 (by omega) (by omega)
  rw[show ((63:Nat):Int)=63 from rfl] at this
  show bits BinOp.and IntKind.u32 (n:Int) 63=(n:Int) % 64;rw[this,show (63:Nat)=2 ^ 6-1 by decide,Nat.and_two_pow_sub_one_eq_mod n 6]
  omega
 match j,hj with
 |0,_=>
  refine⟨_,?_,?_,key _ ?_ ?_,?_⟩
  ·show 0<=(a*65536+b*256+c) / 262144 % 64;omega
  ·show (a*65536+b*256+c) / 262144 % 64<64;omega
  ·show 0<=(a*65536+b*256+c) / 262144;omega
  ·show (a*65536+b*256+c) / 262144<_;omega
  ·show some (F0 _)=some (F0 ((a*65536+b*256+c) / 262144 % 64))
   congr 2;omega
 |1,_=>
  refine⟨_,?_,?_,key _ ?_ ?_,?_⟩
  ·show 0<=(a*65536+b*256+c) / 4096 % 64;omega
  ·show (a*65536+b*256+c) / 4096 % 64<64;omega
  ·show 0<=(a*65536+b*256+c) / 4096;omega
  ·show (a*65536+b*256+c) / 4096<_;omega
  ·show some (F0 _)=some (F0 ((a*65536+b*256+c) / 4096 % 64))
   congr 2;omega
 |2,_=>
  refine⟨_,?_,?_,key _ ?_ ?_,?_⟩
  ·show 0<=(a*65536+b*256+c) / 64 % 64;omega
  ·show (a*65536+b*256+c) / 64 % 64<64;omega
  ·show 0<=(a*65536+b*256+c) / 64;omega
  ·show (a*65536+b*256+c) / 64<_;omega
  ·show some (F0 _)=some (F0 ((a*65536+b*256+c) / 64 % 64))
   congr 2;omega
 |3,_=>
  refine⟨_,?_,?_,key _ ?_ ?_,?_⟩
  ·show 0<=(a*65536+b*256+c) / 1 % 64;omega
  ·show (a*65536+b*256+c) / 1 % 64<64;omega
  ·show 0<=(a*65536+b*256+c) / 1;omega
  ·show (a*65536+b*256+c) / 1<_;omega
  ·show some (F0 _)=some (F0 ((a*65536+b*256+c) / 1 % 64))
   congr 2;omega
def FH:ByteArray:=⟨#[65,66,67,68,69,70,71,72,73,74,75,76,77,78,79,80,81,82,83,84,85,86,87,88,89,90,97,98,99,100,101,102,103,104,105,106,107,108,109,110,111,112,113,114,115,116,117,118,119,120,121,122,48,49,50,51,52,53,54,55,56,57,45,95]⟩
theorem ZY:FH.size=64:=rfl
theorem Ade:∀n:Fin 64,((FH[n.val]'n.isLt).toNat:Int)=F0 (n.val:Int):=by decide +kernel
theorem Ah8 {q:Int}(h0:0<=q)(h1:q<64)(h:q.toNat<FH.size):((FH[q.toNat]'(h)).toNat:Int)=F0 q:=by
 have:=Ade ⟨q.toNat,h⟩;refine this.trans (congrArg F0 ?_);show (q.toNat:Int)=q;omega
theorem Aur {q:Int}(h0:0<=q)(h1:q<64):0<=F0 q∧F0 q<=255:=by
 unfold F0;split
 ·omega
 split
 ·omega
 split
 ·omega
 split<;>omega
theorem Aps {a b c:Int}(h:C8 [a,b,c]):C8 (Um a b c):=by
 obtain⟨ha,h⟩:=Bm h;obtain⟨hb,h⟩:=Bm h;obtain⟨hc,h⟩:=Bm h;intro x hx;simp[Um] at hx;rcases hx with rfl|rfl|rfl|rfl<;>apply Aur<;>omega
theorem Ih {a b:List Int}(ha:C8 a)(hb:C8 b):C8 (a++b):=by
 intro x hx;rcases List.mem_append.1 hx with h|h
 ·exact ha x h
 ·exact hb x h
theorem Afs {a:List Int}(ha:C8 a)(k:Nat):C8 (a.take k):=fun x hx=>ha x (List.mem_of_mem_take hx)
theorem Aei {a:List Int}(ha:C8 a)(k:Nat):C8 (a.drop k):=fun x hx=>ha x (List.mem_of_mem_drop hx)
theorem Aav:∀(l:List Int),C8 l->l≠[]->∃a b c,C8 [a,b,c]∧Es l=(Um a b c).take (min l.length 3+1)++Es (l.drop (min l.length 3))∧[a,b,c].take (min l.length 3)=l.take (min l.length 3)∧(l.length<3->c=0)∧(l.length<2->b=0)
 |[],_,h=>absurd rfl h
 |[a],h,_=>by
  have:=Bm h;refine⟨a,0,0,?_,?_,rfl,fun _=>rfl,fun _=>rfl⟩
  ·intro x hx;simp at hx;rcases hx with rfl|rfl<;>omega
  ·simp[Es,Um]
 |[a,b],h,_=>by
  have h1:=Bm h;have h2:=Bm h1.2;refine⟨a,b,0,?_,?_,rfl,fun _=>rfl,fun h=>?_⟩
  ·intro x hx;simp at hx;rcases hx with rfl|rfl|rfl<;>omega
  ·simp[Es,Um]
  ·simp at h
 |a::b::c::r,h,_=>by
  have e:min (a::b::c::r).length 3=3:=by simp
  rw[e];refine⟨a,b,c,?_,?_,rfl,fun h=>?_,fun h=>?_⟩
  ·intro x hx;refine h x ?_;simp at hx ⊢;rcases hx with rfl|rfl|rfl<;>simp
  ·simp[Es,Um]
  ·simp at h;omega
  ·simp at h;omega
end
section
open Go.Proofs.Tryd (prog)
open Go.IntKind (wrap)
set_option maxRecDepth 1000000
open Go.Shelf Go.RowKit Go.Lib
def RI:Go.Shelf.Ren:=⟨fun|119=>117|120=>113|137=>27|151=>103|152=>112|160=>66|167=>24|168=>89|169=>25|197=>102|217=>40|224=>96|225=>95|227=>82|228=>101|231=>80|232=>81|233=>83|234=>84|235=>85|236=>86|240=>38|242=>106|260=>111|266=>55|271=>104|276=>54|278=>116|n=>n,fun|0=>0|3=>3|4=>4|5=>5|9=>9|20=>20|21=>21|37=>22|46=>56|51=>55|70=>51|72=>53|75=>58|80=>60|105=>139|116=>124|117=>125|119=>86|124=>128|127=>73|138=>88|139=>89|164=>97|n=>n,fun|3=>0|4=>1|n=>n⟩
theorem BF:Lays.n167 prog RI:={
 mixed:=by kernel_rfl
 f167:=Tryd.func24.trans (congrArg some (by kernel_rfl))
 f240:=Tryd.func38.trans (congrArg some (by kernel_rfl))
 f276:=Tryd.func54.trans (congrArg some (by kernel_rfl))
 t0:=Tryd.underlying0
 a0:=Tryd.isAgg0
 z0:=Tryd.sizeOf0
 v0:=Tryd.zeroValue0
 t4:=Tryd.underlying4
 a4:=Tryd.isAgg4
 z4:=Tryd.sizeOf4
 v4:=Tryd.zeroValue4
 t5:=Tryd.underlying5
 a5:=Tryd.isAgg5
 z5:=Tryd.sizeOf5
 v5:=Tryd.zeroValue5
 t9:=Tryd.underlying9
 a9:=Tryd.isAgg9
 z9:=Tryd.sizeOf9
 v9:=Tryd.zeroValue9
 t20:=Tryd.underlying20
 a20:=Tryd.isAgg20
 z20:=Tryd.sizeOf20
 v20:=Tryd.zeroValue20
 t37:=Tryd.underlying22
 a37:=Tryd.isAgg22
 z37:=Tryd.sizeOf22
 v37:=Tryd.zeroValue22
 t70:=Tryd.underlying51
 a70:=Tryd.isAgg51
 z70:=Tryd.sizeOf51
 v70:=Tryd.zeroValue51
 t72:=Tryd.underlying53
 a72:=Tryd.isAgg53
 z72:=Tryd.sizeOf53
 v72:=Tryd.zeroValue53
 t75:=Tryd.underlying58
 a75:=Tryd.isAgg58
 z75:=Tryd.sizeOf58
 v75:=Tryd.zeroValue58
 t164:=Tryd.underlying97
 a164:=Tryd.isAgg97
 z164:=Tryd.sizeOf97
 v164:=Tryd.zeroValue97 }
theorem UG:Lays.n168 prog RI:={
 mixed:=by kernel_rfl
 f168:=Tryd.func89.trans (congrArg some (by kernel_rfl))
 f240:=Tryd.func38.trans (congrArg some (by kernel_rfl))
 f242:=Tryd.func106.trans (congrArg some (by kernel_rfl))
 f276:=Tryd.func54.trans (congrArg some (by kernel_rfl))
 f278:=Tryd.func116.trans (congrArg some (by kernel_rfl))
 t0:=Tryd.underlying0
 a0:=Tryd.isAgg0
 z0:=Tryd.sizeOf0
 v0:=Tryd.zeroValue0
 t3:=Tryd.underlying3
 a3:=Tryd.isAgg3
 z3:=Tryd.sizeOf3
 v3:=Tryd.zeroValue3
 t4:=Tryd.underlying4
 a4:=Tryd.isAgg4
 z4:=Tryd.sizeOf4
 v4:=Tryd.zeroValue4
 t5:=Tryd.underlying5
 a5:=Tryd.isAgg5
 z5:=Tryd.sizeOf5
 v5:=Tryd.zeroValue5
 t9:=Tryd.underlying9
 a9:=Tryd.isAgg9
 z9:=Tryd.sizeOf9
 v9:=Tryd.zeroValue9
 t20:=Tryd.underlying20
 a20:=Tryd.isAgg20
 z20:=Tryd.sizeOf20
 v20:=Tryd.zeroValue20
 t21:=Tryd.underlying21
 a21:=Tryd.isAgg21
 z21:=Tryd.sizeOf21
 v21:=Tryd.zeroValue21
 t37:=Tryd.underlying22
 a37:=Tryd.isAgg22
 z37:=Tryd.sizeOf22
 v37:=Tryd.zeroValue22
 t46:=Tryd.underlying56
 a46:=Tryd.isAgg56
 z46:=Tryd.sizeOf56
 v46:=Tryd.zeroValue56
 t51:=Tryd.underlying55
 a51:=Tryd.isAgg55
 z51:=Tryd.sizeOf55
 v51:=Tryd.zeroValue55
 t70:=Tryd.underlying51
 a70:=Tryd.isAgg51
 z70:=Tryd.sizeOf51
 v70:=Tryd.zeroValue51
 t72:=Tryd.underlying53
 a72:=Tryd.isAgg53
 z72:=Tryd.sizeOf53
 v72:=Tryd.zeroValue53
 t75:=Tryd.underlying58
 a75:=Tryd.isAgg58
 z75:=Tryd.sizeOf58
 v75:=Tryd.zeroValue58
 t164:=Tryd.underlying97
 a164:=Tryd.isAgg97
 z164:=Tryd.sizeOf97
 v164:=Tryd.zeroValue97 }
theorem BX:Lays.n169 prog RI:={
 mixed:=by kernel_rfl
 f169:=Tryd.func25.trans (congrArg some (by kernel_rfl))
 t0:=Tryd.underlying0
 a0:=Tryd.isAgg0
 z0:=Tryd.sizeOf0
 v0:=Tryd.zeroValue0
 t3:=Tryd.underlying3
 a3:=Tryd.isAgg3
 z3:=Tryd.sizeOf3
 v3:=Tryd.zeroValue3
 t9:=Tryd.underlying9
 a9:=Tryd.isAgg9
 z9:=Tryd.sizeOf9
 v9:=Tryd.zeroValue9
 t37:=Tryd.underlying22
 a37:=Tryd.isAgg22
 z37:=Tryd.sizeOf22
 v37:=Tryd.zeroValue22
 t70:=Tryd.underlying51
 a70:=Tryd.isAgg51
 z70:=Tryd.sizeOf51
 v70:=Tryd.zeroValue51
 t72:=Tryd.underlying53
 a72:=Tryd.isAgg53
 z72:=Tryd.sizeOf53
 v72:=Tryd.zeroValue53
 t127:=Tryd.underlying73
 a127:=Tryd.isAgg73
 z127:=Tryd.sizeOf73
 v127:=Tryd.zeroValue73 }
theorem UE:Lays.n160 prog RI:={
 mixed:=by kernel_rfl
 f119:=Tryd.func117.trans (congrArg some (by kernel_rfl))
 f120:=Tryd.func113.trans (congrArg some (by kernel_rfl))
 f137:=Tryd.func27.trans (congrArg some (by kernel_rfl))
 f151:=Tryd.func103.trans (congrArg some (by kernel_rfl))
 f152:=Tryd.func112.trans (congrArg some (by kernel_rfl))
 f160:=Tryd.func66.trans (congrArg some (by kernel_rfl))
 f197:=Tryd.func102.trans (congrArg some (by kernel_rfl))
 f217:=Tryd.func40.trans (congrArg some (by kernel_rfl))
 f224:=Tryd.func96.trans (congrArg some (by kernel_rfl))
 f225:=Tryd.func95.trans (congrArg some (by kernel_rfl))
 f227:=Tryd.func82.trans (congrArg some (by kernel_rfl))
 f228:=Tryd.func101.trans (congrArg some (by kernel_rfl))
 f231:=Tryd.func80.trans (congrArg some (by kernel_rfl))
 f232:=Tryd.func81.trans (congrArg some (by kernel_rfl))
 f233:=Tryd.func83.trans (congrArg some (by kernel_rfl))
 f234:=Tryd.func84.trans (congrArg some (by kernel_rfl))
 f235:=Tryd.func85.trans (congrArg some (by kernel_rfl))
 f236:=Tryd.func86.trans (congrArg some (by kernel_rfl))
 f260:=Tryd.func111.trans (congrArg some (by kernel_rfl))
 f266:=Tryd.func55.trans (congrArg some (by kernel_rfl))
 f271:=Tryd.func104.trans (congrArg some (by kernel_rfl))
 t0:=Tryd.underlying0
 a0:=Tryd.isAgg0
 z0:=Tryd.sizeOf0
 v0:=Tryd.zeroValue0
 t3:=Tryd.underlying3
 a3:=Tryd.isAgg3
 z3:=Tryd.sizeOf3
 v3:=Tryd.zeroValue3
 t4:=Tryd.underlying4
 a4:=Tryd.isAgg4
 z4:=Tryd.sizeOf4
 v4:=Tryd.zeroValue4
 t5:=Tryd.underlying5
 a5:=Tryd.isAgg5
 z5:=Tryd.sizeOf5
 v5:=Tryd.zeroValue5
 t9:=Tryd.underlying9
 a9:=Tryd.isAgg9
 z9:=Tryd.sizeOf9
 v9:=Tryd.zeroValue9
 t21:=Tryd.underlying21
 a21:=Tryd.isAgg21
 z21:=Tryd.sizeOf21
 v21:=Tryd.zeroValue21
 t46:=Tryd.underlying56
 a46:=Tryd.isAgg56
 z46:=Tryd.sizeOf56
 v46:=Tryd.zeroValue56
 t105:=Tryd.underlying139
 a105:=Tryd.isAgg139
 z105:=Tryd.sizeOf139
 v105:=Tryd.zeroValue139
 t116:=Tryd.underlying124
 a116:=Tryd.isAgg124
 z116:=Tryd.sizeOf124
 t117:=Tryd.underlying125
 a117:=Tryd.isAgg125
 z117:=Tryd.sizeOf125
 v117:=Tryd.zeroValue125
 t119:=Tryd.underlying86
 a119:=Tryd.isAgg86
 z119:=Tryd.sizeOf86
 t124:=Tryd.underlying128
 a124:=Tryd.isAgg128
 z124:=Tryd.sizeOf128
 v124:=Tryd.zeroValue128
 t138:=Tryd.underlying88
 a138:=Tryd.isAgg88
 z138:=Tryd.sizeOf88
 v138:=Tryd.zeroValue88
 t139:=Tryd.underlying89
 a139:=Tryd.isAgg89
 z139:=Tryd.sizeOf89
 v139:=Tryd.zeroValue89
 g3:=by kernel_rfl
 g4:=by kernel_rfl }
theorem Rg:Builder.Extra prog RI:={
 sizeBuilder:=by kernel_rfl
 liesBuilder:=by kernel_rfl
 t5:=Tryd.underlying5
 a5:=Tryd.isAgg5
 z5:=Tryd.sizeOf5
 v5:=Tryd.zeroValue5
 infoByte:=by kernel_rfl
 cellsByte:=by kernel_rfl
 sizeByte:=by kernel_rfl
 neB5:=by decide }
end
section
open Go.IntKind (wrap)
open Go.RowKit Go.Lib
section
variable {P:Program}
theorem Aab (w:World)(dT sT ty elem:TypeId)(i:TypeInfo)(b o dLen dCap:Nat)(a:Addr)(sLen sCap k:Nat)(cs:List Value)
  (hu:P.underlying dT=some (.slice elem)) (hq:P.info? elem=some i)(hk:k=Nat.min sLen dLen)(hn:cs.length=k*i.size)
  (Uf:∀j v,cs[j]?=some v->w.cell? (a.add j)=some v) (hc:∀j,j<cs.length->(w.cell? ⟨b,o+j,none⟩).isSome=true) (hf:∀j,j<cs.length->w.frozen? ⟨b,o+j,none⟩=false)(h1:∀v∈cs,v.oneCell'=true):
  (Builtin.copy_ #[dT,sT] ty #[.slice (some ⟨b,o,none⟩) dLen dCap,.slice (some a) sLen sCap]).run P w=.ok (goInt k) (w.setCells b o cs):=by
 have hl:=run_loadCells_list (P:=P) w a cs Uf;have Fh:=run_storeCells_cells (P:=P) b o cs 0 w (by simpa using hc) (by simpa using hf) h1
 simp[Builtin.copy_,run_underlying hu,Builtin.lenOf,Builtin.firstCells,sizeOf,typeInfo,hq,←hk,←hn,hl,Fh]
end
end
section
open Go.Proofs.Tryd (prog)
open Go.IntKind (wrap)
set_option maxRecDepth 1000000
open Go.RowKit Go.Lib
abbrev OU (l:List Int):List Value:=l.map (Value.int .u8)
theorem KW (a b:List Int):OU (a++b)=OU a++OU b:=List.map_append
theorem Ai0 (x:Int):OU [x]=[Value.int .u8 x]:=rfl
theorem Xi:∀{l:List Int},C8 l->OU l=Lib.byteCells (l.map fun n=>n.toNat.toUInt8)
 |[],_=>rfl
 |x::l,h=>by
  obtain⟨hx,h⟩:=Bm h;show Value.int .u8 x::OU l=Value.int .u8 ((x.toNat.toUInt8).toNat:Int)::Lib.byteCells (l.map fun n=>n.toNat.toUInt8)
  rw[Xi h]
  congr 2
  have:(x.toNat.toUInt8).toNat=x.toNat:=by
   show x.toNat % 256=x.toNat;omega
  rw[this];omega
def VC (w:World)(l:List Int)(v:Value):Prop:=∃ad cap,v=.slice ad l.length cap∧l.length<=cap∧(l≠[]->∃b o,ad=some ⟨b,o,none⟩∧b<w.heap.size∧∀j x,l[j]?=some x->w.cell? ⟨b,o+j,none⟩=some (.int .u8 x))
theorem GI {T e:TypeId}{B b:Nat}{bs:List Value}{W W':World}(h:Lib.IsBuilderF T e B b bs W)(hb:Below W.heap.size W W'):Lib.IsBuilderF T e B b bs W':=by
 rcases h with h|h
 ·have B5:=h.lt;obtain⟨hB,v,hv,Fj,Ei⟩:=h;exact .inl ⟨hB,v,(hb.block b B5).trans hv,Fj.kept (row:=none) ⟨hb.os,hb.tape,hb.output,hb.size,fun k hk _=>hb.block k hk⟩ (Classical.em _),Ei⟩
 ·have B5:=h.lt;obtain⟨hB,v,hv,Fj,Ei⟩:=h;exact .inr ⟨hB,v,(hb.block b B5).trans hv,Fj.kept (row:=none) ⟨hb.os,hb.tape,hb.output,hb.size,fun k hk _=>hb.block k hk⟩ (Classical.em _),Ei⟩
theorem Ll {B:Nat}{a:World}(b:Nat)(hb:B<=b):∀(vs:List Value)(o:Nat){w:World},Below B a w->Below B a (w.setCells b o vs)
 |[],_,_,h=>h
 |v::r,o,w,h=>Ll b hb r (o+1) (h.setCell (p:=⟨b,o,none⟩) hb v)
theorem UJ (wr:World)(b o cap:Nat)(l:List Int)(Ei:l≠[]) (hb:b<wr.heap.size)(hc:∀j x,l[j]?=some x->wr.cell? ⟨b,o+j,none⟩=some (.int .u8 x)) (a' b' c':Int)(k:Nat)(hk:k=min l.length 3)(ht:[a',b',c'].take k=l.take k) (h3:l.length<3->c'=0)(h2:l.length<2->b'=0):
  ∃W2,(∀ty,(Builtin.copy_ #[22,22] ty #[.slice (some ⟨wr.heap.size,0,none⟩) 3 3,.slice (some ⟨b,o,none⟩) l.length cap]).run prog (wr.alloc (.cells #[.int .u8 0,.int .u8 0,.int .u8 0] 54))=.ok (goInt k) W2)∧Below wr.heap.size wr W2∧wr.heap.size<W2.heap.size ∧
   W2.cell? ⟨wr.heap.size,0,none⟩=some (.int .u8 a')∧W2.cell? ⟨wr.heap.size,1,none⟩=some (.int .u8 b')∧W2.cell? ⟨wr.heap.size,2,none⟩=some (.int .u8 c'):=by
 obtain⟨i0,hi0,F8,SB⟩:=info_parts Rg.infoByte;have Dj:(l.take k).length=k:=by simp;omega
 have ZE:∀k,k<3->(wr.alloc (.cells #[.int .u8 0,.int .u8 0,.int .u8 0] 54)).cell? ⟨wr.heap.size,k,none⟩=some (.int .u8 0):=by
  intro k hk;simp only[World.cell?,World.alloc];simp
  match k,hk with
  |0,_=>rfl
  |1,_=>rfl
  |2,_=>rfl
 refine⟨(wr.alloc (.cells #[.int .u8 0,.int .u8 0,.int .u8 0] 54)).setCells wr.heap.size 0 (OU (l.take k)),fun ty=>?_,?_,?_,?_⟩
 ·refine Aab _ _ _ ty 5 i0 wr.heap.size 0 3 3 ⟨b,o,none⟩ l.length cap k (OU (l.take k)) ?_ hi0 ?_ ?_ ?_ ?_ ?_ ?_
  ·exact Tryd.underlying22
  ·exact hk
  ·rw[SB.1];simp;omega
  ·intro j v hv
   have e0:(⟨b,o,none⟩:Addr).add j=⟨b,o+j,none⟩:=by
    unfold Addr.add;split
    ·subst j;rfl
    ·rfl
   rw[e0];rw[List.getElem?_map] at hv;obtain⟨x,hx,rfl⟩:=Option.map_eq_some_iff.1 hv
   have Pf:l[j]?=some x:=by
    rw[List.getElem?_take] at hx;split at hx
    ·exact hx
    ·cases hx
   exact Lib.cell?_alloc_some _ (hc j x Pf)
  ·intro j hj;rw[List.length_map,Dj] at hj;rw[ZE _ (by omega)]
   rfl
  ·intro j hj;exact World.frozen?_alloc_new wr _ _ _
  ·intro v hv;obtain⟨x,_,rfl⟩:=List.mem_map.1 hv;rfl
 ·exact Ll _ (Nat.le_refl _) _ _ ((Below.refl _ wr).alloc (Nat.le_refl _) _)
 ·have:=(Ll (B:=0) wr.heap.size (Nat.zero_le _) (OU (l.take k)) 0 (Below.refl 0 (wr.alloc (.cells #[.int .u8 0,.int .u8 0,.int .u8 0] 54)))).size;have e:(wr.alloc (.cells #[.int .u8 0,.int .u8 0,.int .u8 0] 54)).heap.size=wr.heap.size+1:=Array.size_push _;rw[e] at this;omega
 ·have D8:k=1∨k=2∨k=3:=by
   have:=List.length_pos_iff.2 Ei;omega
  have DN:∀i,i<k->∀x,[a',b',c'][i]?=some x->((wr.alloc (.cells #[.int .u8 0,.int .u8 0,.int .u8 0] 54)).setCells wr.heap.size 0 (OU (l.take k))).cell? ⟨wr.heap.size,i,none⟩=some (.int .u8 x):=by
   intro i hi x hx
   have h:=World.cell?_setCells_in wr.heap.size (OU (l.take k)) 0 (wr.alloc (.cells #[.int .u8 0,.int .u8 0,.int .u8 0] 54)) (fun j hj=>by
    rw[List.length_map,Dj] at hj;rw[ZE _ (by omega)]
    rfl) i (by rw[List.length_map,Dj];exact hi)
   rw[Zzd] at h;rw[h]
   have e:(OU (l.take k))[i]?=some (.int .u8 x):=by
    rw[←ht,List.getElem?_map,List.getElem?_take_of_lt hi,hx];rfl
   rw[List.getElem?_eq_getElem (by rw[List.length_map,Dj];exact hi)] at e
   exact e
  have S4:∀i,k<=i->i<3->((wr.alloc (.cells #[.int .u8 0,.int .u8 0,.int .u8 0] 54)).setCells wr.heap.size 0 (OU (l.take k))).cell? ⟨wr.heap.size,i,none⟩=some (.int .u8 0):=by
   intro i hi h3;rw[World.cell?_setCells_out _ _ _ _ _ (fun _ _=>Or.inr (by rw[List.length_map,Dj];show 0+k<=i;omega))]
   exact ZE i h3
  refine⟨DN 0 (by omega) _ rfl,?_,?_⟩
  ·by_cases h:1<k
   ·exact DN 1 h _ rfl
   ·rw[h2 (by omega)];exact S4 1 (by omega) (by omega)
  ·by_cases h:2<k
   ·exact DN 2 h _ rfl
   ·rw[h3 (by omega)];exact S4 2 (by omega) (by omega)
set_option maxHeartbeats 4000000 in
theorem Aak (l:List Int)(hb:C8 l)(hl:l.length<=100000000)(u:Value)(w:World)(hu:VC w l u):
  Calls prog 12 #[u] w fun e w'=>e=.returned (.string (Ab (Es l)))∧Below w.heap.size w w':=by
 have mixed:prog.follows Departure.mixedOrders=true:=by kernel_rfl
 go_enter Tryd.func12,Tryd.ntmps12
 go_wp2
 go_loopw [0] (fun v0 wr=>∃done rest,Es l=done++Es rest∧C8 done∧C8 rest∧rest.length<=l.length∧done.length+2*rest.length<=2*l.length∧VC w rest v0∧Lib.IsBuilderF 53 5 w.heap.size w.heap.size (OU done) wr∧Below w.heap.size w wr) (fun v0 _=>match v0 with | .slice _ n _=>n|_=>0)
 case atStart=>
  exact⟨[],l,rfl,(fun x hx=>by cases hx),hb,Nat.le_refl _,by simp,hu,Lib.IsBuilderF.of (Lib.fresh_isBuilder 53 5 w),(Below.refl _ w).alloc (Nat.le_refl _) _⟩
 case round=>
  obtain⟨done,rest,he,hd,hr,hrl,hdl,⟨ad,cap,rfl,Tf,Cp⟩,hI,hbw⟩:=hrel;have Ln:w.heap.size<=wr.heap.size:=hbw.size;by_cases hz:rest=[]
  ·subst hz
   go_wp2_with (go_at_call 25;refine (Any.Builder_String_any_k BX Rg w.heap.size w.heap.size (done.map fun n=>n.toNat.toUInt8) _ (by rw[←Xi hd];exact hI) (by omega)).mono ?_)
   rintro e W1 ⟨rfl,_,b1,_⟩
   go_wp2
   go_ret
   refine⟨?_,hbw.trans b1⟩;rw[he];simp[Es,Ab]
  ·obtain⟨b,o,rfl,FQ,Cp⟩:=Cp hz;have Ads:(0:Int)<rest.length:=by have:=List.length_pos_iff.2 hz;omega
   obtain⟨a',b',c',hB3,hen,htk,ZE,FJ⟩:=Aav rest hr hz;obtain⟨k,hk⟩:∃k,k=min rest.length 3:=⟨_,rfl⟩;rw[←hk] at hen htk;have Dm:(0:Int)<=k∧(k:Int)<=3∧(k:Int)<=rest.length:=by omega
   obtain⟨W2,hcp,hbc,hgs,g0,g1,g2⟩:=UJ wr b o cap rest hz (by omega) (fun j x hx=>by rw[hbw.cell (p:=⟨b,o+j,none⟩) FQ];exact Cp j x hx) a' b' c' k hk htk ZE FJ
   have hkl:k<=rest.length:=by omega
   have hkp:1<=k:=by have:=List.length_pos_iff.2 hz;omega
   clear hk
   go_wp2
   all_goals
    go_loopw [32] (fun v32 W=>∃j:Nat,v32=.int .i64 j∧j<=k+1∧Lib.IsBuilderF 53 5 w.heap.size w.heap.size (OU (done++(Um a' b' c').take j)) W∧Below w.heap.size w W) (fun v32 _=>match v32 with | .int _ n=>(4-n).toNat|_=>0)
    case atStart=>
     exact⟨0,rfl,by omega,by simpa using GI hI hbc,hbw.trans (hbc.mono Ln)⟩
    case round=>
     obtain⟨j,rfl,hj,hIj,hbj⟩:=hrel;by_cases hjk:j<k+1
     ·have hj1:(j:Int)<k+1:=by omega
      obtain⟨q,R0,Rv,hq,hqq⟩:=A1g hB3 j (by omega)
      have ha:=Ah8 R0 Rv (by rw[ZY];omega)
      have A4x:(done++(Um a' b' c').take j).length+1<=140737488355328:=by
       have:=List.length_take_le j (Um a' b' c');rw[Zzg];omega
      have A3r:=hbj.size
      go_wp2_with (go_at_call 24;refine (Any.Builder_WriteByte_k BF Rg w.heap.size w.heap.size _ _ _ hIj (by rw[List.length_map];exact A4x) A3r).mono ?_)
      rintro e W1 ⟨rfl,h1,b1,k1⟩
      go_wp2
      go_roundw
      case rel=>
       refine⟨j+1,by simp,by omega,?_,hbj.trans b1⟩
       have e1:(Um a' b' c').take (j+1)=(Um a' b' c').take j++[F0 q]:=by
        rw[List.take_add_one,hqq];rfl
       rw[e1,←List.append_assoc,KW,Ai0,←ha];exact Or.inr h1
      case measure=>
       simp;omega
     ·have hj1:¬((j:Int)<k+1):=by omega
      have A1p:j=k+1:=by omega
      subst A1p
      go_wp2
      refine⟨⟨done++(Um a' b' c').take (k+1),rest.drop k,?_,Ih hd (Afs (Aps hB3) _),Aei hr _,?_,?_,?_,hIj,hbj⟩,?_⟩
      ·rw[List.append_assoc,←hen];exact he
      ·simp;omega
      ·have:=List.length_take_le (k+1) (Um a' b' c');rw[Zzg,List.length_drop];omega
      ·refine⟨_,_,by rw[List.length_drop],?_,fun Ei=>?_⟩
       ·rw[List.length_drop];omega
       have:k<rest.length:=by
        rcases Nat.lt_or_ge k rest.length with h|h
        ·exact h
        ·exact absurd (List.drop_eq_nil_iff.2 h) Ei
       first
        |(exfalso;omega)
        |(refine⟨b,o+k,rfl,FQ,fun i x hx=>?_⟩;rw[List.getElem?_drop] at hx;rw[Nat.add_assoc];exact Cp _ _ hx)
      ·simp;omega
end
section
open Go.Proofs.Tryd (prog)
open Go.IntKind (wrap)
set_option maxRecDepth 1000000
open Go.RowKit
theorem IH:∀{c:List PV}{l:List Int},EG c=some l->c=Bk .u8 l∧C8 l
 |[],l,h=>by
  cases h;exact⟨rfl,fun x hx=>by cases hx⟩
 |p::c,l,h=>by
  unfold EG at h;split at h
  ·rename_i e;cases e
  ·rename_i n r e;cases e;cases hb:(decide (0<=n)&&decide (n<=255))
   ·rw[hb] at h;cases h
   ·rw[hb,cond_true] at h;simp only[Bool.and_eq_true,decide_eq_true_eq] at hb;cases hr:EG c with
    |none=>rw[hr] at h;cases h
    |some l'=>
     rw[hr] at h;cases h;obtain⟨rfl,h2⟩:=IH hr;refine⟨rfl,fun x hx=>?_⟩
     rcases List.mem_cons.1 hx with rfl|hx
     ·exact hb
     ·exact h2 x hx
  ·cases h
theorem M5 (k:IntKind):∀l:List Int,Bk k l=l.map fun n=>.sc (.int k n)
 |[]=>rfl
 |x::l=>by
  show PV.sc (.int k x)::Bk k l=_;rw[M5 k l];rfl
theorem Aby {w:World}{A:Nat->Prop}{bt:Bt}{z:Bool}{l:List Int}{u:Value}(h:OQ w A bt (.lst z 1 l.length (Bk .u8 l)) u):VC w l u:=by
 have ht:Au w A (.lst z 1 l.length (Bk .u8 l)) u:=h.2;generalize hc:Bk .u8 l=c at ht;generalize hn:l.length=n at ht;cases ht with
 |lnil=>exact⟨none,0,by rw[hn],by omega,fun Ei=>absurd (List.eq_nil_of_length_eq_zero hn) Ei⟩
 |lemp _ a cap=>exact⟨some a,cap,by rw[hn],by omega,fun Ei=>absurd (List.eq_nil_of_length_eq_zero hn) Ei⟩
 |lst _ _ _ a cap f hs hb hA hn' Cp h1 hr=>
  obtain⟨b,o,s⟩:=a;cases hs;refine⟨some ⟨b,o,none⟩,cap,by rw[hn],by omega,fun _=>⟨b,o,rfl,hb,fun j x hx=>?_⟩⟩
  have e:c[j]?=some (.sc (.int .u8 x)):=by rw[←hc,M5,List.getElem?_map,hx];rfl
  have h2:=Cp j _ e;rw[(hr j _ e).val] at h2
  have e0:(⟨b,o,none⟩:Addr).add j=⟨b,o+j,none⟩:=by
   unfold Addr.add;split
   ·subst j;rfl
   ·rfl
  rw[e0] at h2;exact h2
theorem Abk (G:S2)(args:List PV)(res:Ay)(h:Adm args=some res):C4 G prog 12 args res:=by
 refine⟨⟨_,Tryd.func12,by kernel_rfl⟩,fun w Y bt us hi _ _=>?_⟩
 unfold Adm at h;split at h
 rotate_left
 ·cases h
 rename_i z n c;cases hq:(Nat.beq c.length n&&Nat.ble n 100000000)
 ·rw[hq] at h;cases h
 rw[hq,cond_true] at h;simp only[Bool.and_eq_true] at hq;have hn:=Nat.eq_of_beq_eq_true hq.1;have hm:=Nat.le_of_ble_eq_true hq.2;split at h
 rotate_left
 ·cases h
 rename_i l hl;cases h;obtain⟨rfl,hB⟩:=IH hl
 have Dj:l.length=n:=by
  rw[←hn,M5,List.length_map]
 subst Dj;have ps:=hi.args
 match us,ps with
 |[u1],ps=>
  refine (Aak l hB hm u1 w (Aby ps.1)).mono ?_
  rintro e w' ⟨rfl,hb⟩
  exact⟨[.string (Ab (Es l))],fun _=>none,rfl,Nk hb rfl⟩
 |[],ps=>exact ps.elim
 |_::_::_,ps=>exact ps.2.elim
end
section
open Go.Proofs.Tryd (prog)
open Go.IntKind (wrap)
set_option maxRecDepth 100000
abbrev Ff:FuncId:=77
theorem Ns {xs:FuncId->Option (List PV->Option Ay)} (fu d:Nat)(a0 a1:ByteArray):Ae (CX xs) prog fu (d+1) Ff [.sc (.string a0),.sc (.string a1)]=(fun (call:Ax)=>Bf (decide ((↑(ByteArray.size a0):Int)>=(↑(ByteArray.size a1):Int))) (Be (decide (Int.toNat (↑(ByteArray.size a1):Int)<=ByteArray.size a0))<|Ac (ByteArray.extract a0 0 (Int.toNat (↑(ByteArray.size a1):Int))) fun x1=>some (Ay.mk [.sc (.bool (Array.toList (ByteArray.data x1)==Array.toList (ByteArray.data a1)))] [])) (some (Ay.mk [.sc (.bool false)] []))) (Ae (CX xs) prog fu d):=by kernel_rfl
abbrev Jx:FuncId:=87
theorem Rq {xs:FuncId->Option (List PV->Option Ay)} (fu d:Nat)(a0 a1:ByteArray):Ae (CX xs) prog fu (d+1) Jx [.sc (.string a0),.sc (.string a1)]=(fun (call:Ax)=>Ah (call 77 [.sc (.string a0),.sc (.string a1)]) fun x1 x2=>Ad x2<|Aa x1 fun x3 x4=>Ao x3 fun x5=>Ad x4<|some (Ay.mk [.sc (.bool x5)] [])) (Ae (CX xs) prog fu d):=by kernel_rfl
abbrev G2:FuncId:=90
theorem Mo {xs:FuncId->Option (List PV->Option Ay)} (fu d:Nat)(B1:ByteArray)(Bu:Int):Ae (CX xs) prog fu (d+1) G2 [.pbox [.sc (.string B1),.sc (.int .i64 Bu)]]=(fun (call:Ax)=>Bf (decide (Bu<(↑(ByteArray.size B1):Int))) (Be (decide (0<=Bu))<|Do ((Array.toList (ByteArray.data B1))[Int.toNat Bu]?) fun x1=>some (Ay.mk [.sc (.int .u8 (↑(UInt8.toNat x1):Int))] [[.sc (.string B1),.sc (.int .i64 Bu)]])) (some (Ay.mk [.sc (.int .u8 0)] [[.sc (.string B1),.sc (.int .i64 Bu)]]))) (Ae (CX xs) prog fu d):=by kernel_rfl
abbrev Ga:FuncId:=67
theorem Kx {xs:FuncId->Option (List PV->Option Ay)} (fu d:Nat)(B1:ByteArray)(Bu:Int)(a1:ByteArray):Ae (CX xs) prog fu (d+1) Ga [.pbox [.sc (.string B1),.sc (.int .i64 Bu)],.sc (.string a1)]=(fun (call:Ax)=>Be (decide (0<=Bu))<|Be (decide (Int.toNat Bu<=ByteArray.size B1)&&decide (ByteArray.size B1<=ByteArray.size B1))<|Ac (ByteArray.extract B1 Bu.toNat (ByteArray.size B1)) fun x1=>Ah (call 87 [.sc (.string x1),.sc (.string a1)]) fun x2 x3=>Ad x3<|Aa x2 fun x4 x5=>Ao x4 fun x6=>Ad x5<|Bf (!x6) (some (Ay.mk [.sc (.bool false)] [[.sc (.string B1),.sc (.int .i64 Bu)]])) (Ac (wrap .i64 (Bu+(↑(ByteArray.size a1):Int))) fun x7=>some (Ay.mk [.sc (.bool true)] [[.sc (.string B1),.sc (.int .i64 x7)]]))) (Ae (CX xs) prog fu d):=by kernel_rfl
abbrev Li:FuncId:=115
theorem Sl {xs:FuncId->Option (List PV->Option Ay)} (fu d:Nat)(a0:Int):Ae (CX xs) prog fu (d+1) Li [.sc (.int .i32 a0)]=(fun (call:Ax)=>Bf (decide (a0>=56320)) (some (Ay.mk [.sc (.bool (decide (a0<=57343)))] [])) (some (Ay.mk [.sc (.bool false)] []))) (Ae (CX xs) prog fu d):=by kernel_rfl
abbrev F7:FuncId:=114
noncomputable def Ba (fu:Nat)(call:Ax)(B1:ByteArray)(Bu:Int)(nn:Nat)(y0 y1:Int)(y2:ByteArray)(y3:Int):Option Ay:=H9 CB prog fu call 114 Tryd.f114 (F1 Tryd.f114) [.pbox [.sc (.string B1),.sc (.int .i64 Bu)]] [.r,.r,.l,.r,.l] nn ⟨lk [(0,(.ptr 120000 0)),(4,(.sc (.int .i32 y0))),(6,(.sc (.int .i64 y1)))],Jt [(120000,(.st [(.sc (.string y2)),(.sc (.int .i64 y3))]))]⟩
theorem Fg (fu:Nat)(call:Ax)(B1:ByteArray)(Bu:Int)(nn:Nat)(y0 y1:Int)(y2:ByteArray)(y3:Int):Ba fu call B1 Bu (nn+1) y0 y1 y2 y3=(Bf (decide (y1<4)) (Ah (call 90 [.pbox [.sc (.string y2),.sc (.int .i64 y3)]]) fun x1 x2=>Aa x1 fun x3 x4=>Ak .u8 x3 fun x5=>Ad x4<|Aa x2 fun x6 x7=>Aa x6 fun x8 x9=>Az x8 fun F9=>Aa x9 fun M8 Nw=>Ak .i64 M8 fun Fv=>Ad Nw<|Ad x7<|Bf (decide (x5>=48)) (Bf (decide (x5<=57)) (Ac (La .i32 y0 4) fun Ks=>Ac (wrap .u8 (x5-48)) fun Oa=>Ac (wrap .i32 Oa) fun Ka=>Ac (wrap .i32 (Ks+Ka)) fun Km=>Ac (wrap .i64 (Fv+1)) fun Nl=>Ac (wrap .i64 (y1+1)) fun Lg=>Ba fu call B1 Bu (nn) Km Lg F9 Nl) (Bf (decide (x5>=97)) (Bf (decide (x5<=102)) (Ac (La .i32 y0 4) fun Mv=>Ac (wrap .u8 (x5-97)) fun Mu=>Ac (wrap .i32 Mu) fun Ov=>Ac (wrap .i32 (Mv+Ov)) fun Lv=>Ac (wrap .i32 (Lv+10)) fun Ly=>Ac (wrap .i64 (Fv+1)) fun Mr=>Ac (wrap .i64 (y1+1)) fun Oh=>Ba fu call B1 Bu (nn) Ly Oh F9 Mr) (Bf (decide (x5>=65)) (Bf (decide (x5<=70)) (Ac (La .i32 y0 4) fun O3=>Ac (wrap .u8 (x5-65)) fun Pd=>Ac (wrap .i32 Pd) fun N4=>Ac (wrap .i32 (O3+N4)) fun Pr=>Ac (wrap .i32 (Pr+10)) fun Pq=>Ac (wrap .i64 (Fv+1)) fun Qo=>Ac (wrap .i64 (y1+1)) fun Q1=>Ba fu call B1 Bu (nn) Pq Q1 F9 Qo) (some (Ay.mk [.sc (.int .i32 0),.sc (.bool false)] [[.sc (.string F9),.sc (.int .i64 Fv)]]))) (some (Ay.mk [.sc (.int .i32 0),.sc (.bool false)] [[.sc (.string F9),.sc (.int .i64 Fv)]])))) (Bf (decide (x5>=65)) (Bf (decide (x5<=70)) (Ac (La .i32 y0 4) fun Qu=>Ac (wrap .u8 (x5-65)) fun Ry=>Ac (wrap .i32 Ry) fun Q8=>Ac (wrap .i32 (Qu+Q8)) fun Tm=>Ac (wrap .i32 (Tm+10)) fun Ud=>Ac (wrap .i64 (Fv+1)) fun Q5=>Ac (wrap .i64 (y1+1)) fun EJ=>Ba fu call B1 Bu (nn) Ud EJ F9 Q5) (some (Ay.mk [.sc (.int .i32 0),.sc (.bool false)] [[.sc (.string F9),.sc (.int .i64 Fv)]]))) (some (Ay.mk [.sc (.int .i32 0),.sc (.bool false)] [[.sc (.string F9),.sc (.int .i64 Fv)]]))))) (Bf (decide (x5>=97)) (Bf (decide (x5<=102)) (Ac (La .i32 y0 4) fun EU=>Ac (wrap .u8 (x5-97)) fun Ps=>Ac (wrap .i32 Ps) fun Pe=>Ac (wrap .i32 (EU+Pe)) fun AN=>Ac (wrap .i32 (AN+10)) fun Y7=>Ac (wrap .i64 (Fv+1)) fun EN=>Ac (wrap .i64 (y1+1)) fun AH=>Ba fu call B1 Bu (nn) Y7 AH F9 EN) (Bf (decide (x5>=65)) (Bf (decide (x5<=70)) (Ac (La .i32 y0 4) fun CH=>Ac (wrap .u8 (x5-65)) fun Zd=>Ac (wrap .i32 Zd) fun Za=>Ac (wrap .i32 (CH+Za)) fun Z4=>Ac (wrap .i32 (Z4+10)) fun M3=>Ac (wrap .i64 (Fv+1)) fun Q7=>Ac (wrap .i64 (y1+1)) fun Zm=>Ba fu call B1 Bu (nn) M3 Zm F9 Q7) (some (Ay.mk [.sc (.int .i32 0),.sc (.bool false)] [[.sc (.string F9),.sc (.int .i64 Fv)]]))) (some (Ay.mk [.sc (.int .i32 0),.sc (.bool false)] [[.sc (.string F9),.sc (.int .i64 Fv)]])))) (Bf (decide (x5>=65)) (Bf (decide (x5<=70)) (Ac (La .i32 y0 4) fun FI=>Ac (wrap .u8 (x5-65)) fun FD=>Ac (wrap .i32 FD) fun FA=>Ac (wrap .i32 (FI+FA)) fun EV=>Ac (wrap .i32 (EV+10)) fun ET=>Ac (wrap .i64 (Fv+1)) fun FB=>Ac (wrap .i64 (y1+1)) fun FN=>Ba fu call B1 Bu (nn) ET FN F9 FB) (some (Ay.mk [.sc (.int .i32 0),.sc (.bool false)] [[.sc (.string F9),.sc (.int .i64 Fv)]]))) (some (Ay.mk [.sc (.int .i32 0),.sc (.bool false)] [[.sc (.string F9),.sc (.int .i64 Fv)]]))))) (some (Ay.mk [.sc (.int .i32 y0),.sc (.bool true)] [[.sc (.string y2),.sc (.int .i64 y3)]]))):=by kernel_rfl
theorem Kk {xs:FuncId->Option (List PV->Option Ay)} (fu d:Nat)(B1:ByteArray)(Bu:Int):Ae (CX xs) prog fu (d+1) F7 [.pbox [.sc (.string B1),.sc (.int .i64 Bu)]]=(fun (call:Ax)=>Ba fu call B1 Bu (fu) 0 0 (B1) (Bu)) (Ae (CX xs) prog fu d):=by kernel_rfl
abbrev Fs:FuncId:=105
theorem Jr {xs:FuncId->Option (List PV->Option Ay)} (fu d:Nat)(B1:ByteArray)(Bu:Int):Ae (CX xs) prog fu (d+1) Fs [.pbox [.sc (.string B1),.sc (.int .i64 Bu)]]=(fun (call:Ax)=>Ah (call 114 [.pbox [.sc (.string B1),.sc (.int .i64 Bu)]]) fun x1 x2=>Aa x1 fun x3 x4=>Ak .i32 x3 fun x5=>Aa x4 fun x6 x7=>Ao x6 fun x8=>Ad x7<|Aa x2 fun x9 F9=>Aa x9 fun M8 Nw=>Az M8 fun Fv=>Aa Nw fun Ks Oa=>Ak .i64 Ks fun Ka=>Ad Oa<|Ad F9<|Bf (!x8) (some (Ay.mk [.sc (.int .i32 0),.sc (.bool false)] [[.sc (.string Fv),.sc (.int .i64 Ka)]])) (Ah (call 115 [.sc (.int .i32 x5)]) fun Km Nl=>Ad Nl<|Aa Km fun Lg Mv=>Ao Lg fun Mu=>Ad Mv<|Bf Mu (some (Ay.mk [.sc (.int .i32 0),.sc (.bool false)] [[.sc (.string Fv),.sc (.int .i64 Ka)]])) (Bf (decide (x5<55296)) (some (Ay.mk [.sc (.int .i32 x5),.sc (.bool true)] [[.sc (.string Fv),.sc (.int .i64 Ka)]])) (Bf (decide (x5>56319)) (some (Ay.mk [.sc (.int .i32 x5),.sc (.bool true)] [[.sc (.string Fv),.sc (.int .i64 Ka)]])) (Ah (call 67 [.pbox [.sc (.string Fv),.sc (.int .i64 Ka)],.sc (.string (ByteArray.mk #[92,117]))]) fun Ov Lv=>Aa Ov fun Ly Mr=>Ao Ly fun Oh=>Ad Mr<|Aa Lv fun O3 Pd=>Aa O3 fun N4 Pr=>Az N4 fun Pq=>Aa Pr fun Qo Q1=>Ak .i64 Qo fun Qu=>Ad Q1<|Ad Pd<|Bf (!Oh) (some (Ay.mk [.sc (.int .i32 0),.sc (.bool false)] [[.sc (.string Pq),.sc (.int .i64 Qu)]])) (Ah (call 114 [.pbox [.sc (.string Pq),.sc (.int .i64 Qu)]]) fun Ry Q8=>Aa Ry fun Tm Ud=>Ak .i32 Tm fun Q5=>Aa Ud fun EJ EU=>Ao EJ fun Ps=>Ad EU<|Aa Q8 fun Pe AN=>Aa Pe fun Y7 EN=>Az Y7 fun AH=>Aa EN fun CH Zd=>Ak .i64 CH fun Za=>Ad Zd<|Ad AN<|Bf (!Ps) (some (Ay.mk [.sc (.int .i32 0),.sc (.bool false)] [[.sc (.string AH),.sc (.int .i64 Za)]])) (Ah (call 115 [.sc (.int .i32 Q5)]) fun Z4 M3=>Ad M3<|Aa Z4 fun Q7 Zm=>Ao Q7 fun FI=>Ad Zm<|Bf (!FI) (some (Ay.mk [.sc (.int .i32 0),.sc (.bool false)] [[.sc (.string AH),.sc (.int .i64 Za)]])) (Ac (wrap .i32 (x5-55296)) fun FD=>Ac (La .i32 FD 10) fun FA=>Ac (wrap .i32 (65536+FA)) fun EV=>Ac (wrap .i32 (Q5-56320)) fun ET=>Ac (wrap .i32 (EV+ET)) fun FB=>some (Ay.mk [.sc (.int .i32 FB),.sc (.bool true)] [[.sc (.string AH),.sc (.int .i64 Za)]]))))))))) (Ae (CX xs) prog fu d):=by kernel_rfl
abbrev E7:FuncId:=88
theorem It {xs:FuncId->Option (List PV->Option Ay)} (fu d:Nat)(B1:ByteArray)(Bu:Int):Ae (CX xs) prog fu (d+1) E7 [.pbox [.sc (.string B1),.sc (.int .i64 Bu)]]=(fun (call:Ax)=>Ah (call 67 [.pbox [.sc (.string B1),.sc (.int .i64 Bu)],.sc (.string (ByteArray.mk #[117]))]) fun x1 x2=>Aa x1 fun x3 x4=>Ao x3 fun x5=>Ad x4<|Aa x2 fun x6 x7=>Aa x6 fun x8 x9=>Az x8 fun F9=>Aa x9 fun M8 Nw=>Ak .i64 M8 fun Fv=>Ad Nw<|Ad x7<|Bf x5 (Ah (call 105 [.pbox [.sc (.string F9),.sc (.int .i64 Fv)]]) fun Ks Oa=>Aa Ks fun Ka Km=>Ak .i32 Ka fun Nl=>Aa Km fun Lg Mv=>Ao Lg fun Mu=>Ad Mv<|Aa Oa fun Ov Lv=>Aa Ov fun Ly Mr=>Az Ly fun Oh=>Aa Mr fun O3 Pd=>Ak .i64 O3 fun N4=>Ad Pd<|Ad Lv<|some (Ay.mk [.sc (.int .i32 Nl),.sc (.bool Mu)] [[.sc (.string Oh),.sc (.int .i64 N4)]])) (Ah (call 90 [.pbox [.sc (.string F9),.sc (.int .i64 Fv)]]) fun Pr Pq=>Aa Pr fun Qo Q1=>Ak .u8 Qo fun Qu=>Ad Q1<|Aa Pq fun Ry Q8=>Aa Ry fun Tm Ud=>Az Tm fun Q5=>Aa Ud fun EJ EU=>Ak .i64 EJ fun Ps=>Ad EU<|Ad Q8<|Ac (wrap .i32 Qu) fun Pe=>Bf (Pe==34) (Ac (wrap .i64 (Ps+1)) fun AN=>some (Ay.mk [.sc (.int .i32 Pe),.sc (.bool true)] [[.sc (.string Q5),.sc (.int .i64 AN)]])) (Bf (Pe==92) (Ac (wrap .i64 (Ps+1)) fun Y7=>some (Ay.mk [.sc (.int .i32 Pe),.sc (.bool true)] [[.sc (.string Q5),.sc (.int .i64 Y7)]])) (Bf (Pe==47) (Ac (wrap .i64 (Ps+1)) fun EN=>some (Ay.mk [.sc (.int .i32 Pe),.sc (.bool true)] [[.sc (.string Q5),.sc (.int .i64 EN)]])) (Bf (Pe==98) (Ac (wrap .i64 (Ps+1)) fun AH=>some (Ay.mk [.sc (.int .i32 8),.sc (.bool true)] [[.sc (.string Q5),.sc (.int .i64 AH)]])) (Bf (Pe==102) (Ac (wrap .i64 (Ps+1)) fun CH=>some (Ay.mk [.sc (.int .i32 12),.sc (.bool true)] [[.sc (.string Q5),.sc (.int .i64 CH)]])) (Bf (Pe==110) (Ac (wrap .i64 (Ps+1)) fun Zd=>some (Ay.mk [.sc (.int .i32 10),.sc (.bool true)] [[.sc (.string Q5),.sc (.int .i64 Zd)]])) (Bf (Pe==114) (Ac (wrap .i64 (Ps+1)) fun Za=>some (Ay.mk [.sc (.int .i32 13),.sc (.bool true)] [[.sc (.string Q5),.sc (.int .i64 Za)]])) (Bf (Pe==116) (Ac (wrap .i64 (Ps+1)) fun Z4=>some (Ay.mk [.sc (.int .i32 9),.sc (.bool true)] [[.sc (.string Q5),.sc (.int .i64 Z4)]])) (some (Ay.mk [.sc (.int .i32 0),.sc (.bool false)] [[.sc (.string Q5),.sc (.int .i64 Ps)]]))))))))))) (Ae (CX xs) prog fu d):=by kernel_rfl
end
section
open Go.Proofs.Tryd (prog)
open Go.IntKind (wrap)
def C7 (t:ByteArray)(r:List Int):Prop:=∃pre,E4 t=pre++r
theorem C7.all (t:ByteArray):C7 t (E4 t):=⟨[],rfl⟩
theorem C7.len {t:ByteArray}{r:List Int}(h:C7 t r):r.length<=t.size:=by
 obtain⟨pre,h⟩:=h;have:=congrArg List.length h;rw[Nj,Zzg] at this;omega
theorem C7.app {t:ByteArray}{a r:List Int}(h:C7 t (a++r)):C7 t r:=by
 obtain⟨pre,h⟩:=h;exact⟨pre++a,by rw[h,List.append_assoc]⟩
theorem C7.tail {t:ByteArray}{c:Int}{r:List Int}(h:C7 t (c::r)):C7 t r:=C7.app (a:=[c]) h
theorem C7.drop {t:ByteArray}{r:List Int}(h:C7 t r)(k:Nat):C7 t (r.drop k):=by
 rw[←List.take_append_drop k r] at h;exact h.app
def Bs (t:ByteArray)(r:List Int):Nat:=t.size-r.length
theorem C7.eq {t:ByteArray}{r:List Int}(h:C7 t r):r=(E4 t).drop (Bs t r):=by
 have hl:=h.len;obtain⟨pre,h⟩:=h
 have e:Bs t r=pre.length:=by
  have:=congrArg List.length h;rw[Nj,Zzg] at this;unfold Bs;omega
 rw[e,h,List.drop_left]
theorem C7.B {t:ByteArray}{r:List Int}(h:C7 t r):C8 r:=by
 obtain⟨pre,h⟩:=h;exact fun x hx=>LD t x (by rw[h];exact List.mem_append_right _ hx)
theorem C7.at {t:ByteArray}{c:Int}{r:List Int}(h:C7 t (c::r)):∃b:UInt8,(Array.toList t.data)[Bs t (c::r)]?=some b∧(b.toNat:Int)=c:=by
 have he:=h.eq
 have:(E4 t)[Bs t (c::r)]?=some c:=by
  have:=congrArg (fun l=>l[0]?) he
  rw[List.getElem?_drop] at this;exact this.symm
 unfold E4 at this;rw[List.getElem?_map] at this;obtain⟨b,hb,rfl⟩:=Option.map_eq_some_iff.1 this;exact⟨b,hb,rfl⟩
theorem Ko {t:ByteArray}{c:Int}{r:List Int}(h:C7 t (c::r)):Bs t r=Bs t (c::r)+1:=by
 have:=h.len;unfold Bs;rw[LB] at this ⊢;omega
theorem Uu (t:ByteArray):Bs t []=t.size:=rfl
abbrev Bx (t:ByteArray)(r:List Int):List PV:=[.sc (.string t),.sc (.int .i64 (Bs t r:Int))]
def MR:List Int->Int
 |[]=>0
 |c::_=>c
section
variable {fu d:Nat} {xs:FuncId->Option (List PV->Option Ay)}
theorem Lj {t:ByteArray}{r:List Int}(h:C7 t r):Ae (CX xs) prog fu (d+1) G2 [.pbox (Bx t r)]=some ⟨[.sc (.int .u8 (MR r))],[Bx t r]⟩:=by
 rw[Mo];cases r with
 |nil=>
  show _=some (Ay.mk [.sc (.int .u8 0)] [[.sc (.string t),.sc (.int .i64 (Bs t []:Int))]]);rw[Uu];have e:decide ((t.size:Int)<(t.size:Int))=false:=by simp
  simp only[Dg,e]
 |cons c r=>
  have hl:=h.len;obtain⟨b,hb,rfl⟩:=h.at
  have hp:Bs t ((b.toNat:Int)::r)<t.size:=by
   unfold Bs;rw[LB] at hl ⊢;omega
  have e:decide ((Bs t ((b.toNat:Int)::r):Int)<(t.size:Int))=true:=by simp;omega
  have e2:decide ((0:Int)<=(Bs t ((b.toNat:Int)::r):Int))=true:=by simp
  rw[←O8 (Bs t ((b.toNat:Int)::r))] at hb;simp only[Dg,e,e2,hb,MR]
theorem Ym {s:ByteArray}{a:Nat}:s.extract a s.size=Ab ((E4 s).drop a):=by
 rw[←Hw (s.extract a s.size)]
 congr 1
 unfold E4;rw[ByteArray.data_extract,Array.toList_extract,List.extract_eq_take_drop,←List.map_drop,Zzf];rw[List.length_drop];exact Nat.le_refl _
theorem Ul {s:ByteArray}{n:Nat}:s.extract 0 n=Ab ((E4 s).take n):=by
 rw[←Hw (s.extract 0 n)]
 congr 1
 unfold E4;rw[ByteArray.data_extract,Array.toList_extract,List.extract_eq_take_drop,Nat.sub_zero,Zze,List.map_take]
theorem Ala {a w:List Int}(ha:C8 a)(hw:C8 w):Ae (CX xs) prog fu (d+1) Ff [.sc (.string (Ab a)),.sc (.string (Ab w))]=some ⟨[.sc (.bool (w.isPrefixOf a))],[]⟩:=by
 rw[Ns,Aj,Aj];by_cases hl:w.length<=a.length
 ·have e1:decide ((a.length:Int)>=(w.length:Int))=true:=by simp;omega
  have e2:decide (Int.toNat (w.length:Int)<=a.length)=true:=by rw[O8];simp;exact hl
  have e3:(Ab a).extract 0 (Int.toNat (w.length:Int))=Ab (a.take w.length):=by
   rw[O8,Ul,Ck ha]
  have e4:(Array.toList (Ab (a.take w.length)).data==Array.toList (Ab w).data)=w.isPrefixOf a:=by
   rw[Bool.eq_iff_iff,List.isPrefixOf_iff_prefix,beq_iff_eq];constructor
   ·intro h
    have h2:Ab (a.take w.length)=Ab w:=by
     cases hx:Ab (a.take w.length);cases hy:Ab w;rw[hx,hy] at h;exact congrArg ByteArray.mk (Array.toList_inj.1 h)
    have h3:=congrArg E4 h2;rw[Ck hw,Ck (fun x hx=>ha x (List.mem_of_mem_take hx))] at h3
    exact List.prefix_iff_eq_take.2 h3.symm
   ·intro h;rw[←List.prefix_iff_eq_take.1 h]
  simp only[Dg,e1,e2,e3,e4]
 ·have e1:decide ((a.length:Int)>=(w.length:Int))=false:=by simp;omega
  have e4:w.isPrefixOf a=false:=by
   rw[Bool.eq_false_iff,ne_eq,List.isPrefixOf_iff_prefix];exact fun h=>hl h.length_le
  simp only[Dg,e1,e4]
theorem A5j {a w:List Int}(ha:C8 a)(hw:C8 w):Ae (CX xs) prog fu (d+2) Jx [.sc (.string (Ab a)),.sc (.string (Ab w))]=some ⟨[.sc (.bool (w.isPrefixOf a))],[]⟩:=by
 rw[Rq];have e:Ae (CX xs) prog fu (d+1) Ff [.sc (.string (Ab a)),.sc (.string (Ab w))]=_:=Ala ha hw;simp only[Dg,e]
theorem Qf {t:ByteArray}{r w:List Int}(h:C7 t r)(ht:t.size<=1000000)(hw:C8 w)(hw2:w.length<=100):Ae (CX xs) prog fu (d+3) Ga [.pbox (Bx t r),.sc (.string (Ab w))]=some (match Aq w r with|some r'=>⟨[.sc (.bool true)],[Bx t r']⟩|none=>⟨[.sc (.bool false)],[Bx t r]⟩):=by
 have hl:=h.len;have he:=h.eq;have hp:Bs t r<=t.size:=Nat.sub_le _ _;have hh:=A5j (fu:=fu) (d:=d) (xs:=xs) h.B hw;have e1:decide ((0:Int)<=(Bs t r:Int))=true:=by simp
 have e2:(decide (Int.toNat (Bs t r:Int)<=t.size)&&decide (t.size<=t.size))=true:=by
  rw[O8];simp;exact hp
 have e3:t.extract (Int.toNat (Bs t r:Int)) t.size=Ab r:=by rw[O8,Ym,←he]
 rw[Kx];unfold Aq;by_cases hq:w.isPrefixOf r=true
 ·rw[Dw hq];rw[hq] at hh
  have hwl:w.length<=r.length:=by
   have:=List.IsPrefix.length_le (List.isPrefixOf_iff_prefix.1 hq);exact this
  have e4:wrap .i64 ((Bs t r:Int)+((Ab w).size:Int))=(Bs t (r.drop w.length):Int):=by
   rw[Aj,Bd (by omega) (by omega)]
   unfold Bs;rw[List.length_drop];omega
  simp only[Dg,e1,e2,e3,hh,e4,C6]
 ·rw[Cr hq];have Kp:w.isPrefixOf r=false:=Bool.eq_false_iff.2 hq;rw[Kp] at hh;simp only[Dg,e1,e2,e3,hh,Ds]
theorem Aj3 (x:Int):Ae (CX xs) prog fu (d+1) Li [.sc (.int .i32 x)]=some ⟨[.sc (.bool (KU x))],[]⟩:=by
 rw[Sl];unfold KU;by_cases h:56320<=x
 ·have e:decide (x>=56320)=true:=by simp;omega
  have e2:decide (56320<=x)=true:=by simp;omega
  simp only[Dg,e,e2,Bool.true_and]
 ·have e:decide (x>=56320)=false:=by simp;omega
  have e2:decide (56320<=x)=false:=by simp;omega
  simp only[Dg,e,e2,Zzs]
def Aj4 (t:ByteArray)(o:PR Int):Ay:=⟨[.sc (.int .i32 (o.1.getD 0)),.sc (.bool o.1.isSome)],[Bx t o.2]⟩
theorem HG (c:Int):(48<=c∧c<=57∧UI c=some (c-48))∨(97<=c∧c<=102∧UI c=some (c-87))∨(65<=c∧c<=70∧UI c=some (c-55))∨(¬(48<=c∧c<=57)∧¬(97<=c∧c<=102)∧¬(65<=c∧c<=70)∧UI c=none):=by
 unfold UI;by_cases h1:48<=c∧c<=57
 ·exact .inl ⟨h1.1,h1.2,Dw h1⟩
 ·by_cases h2:97<=c∧c<=102
  ·exact .inr (.inl ⟨h2.1,h2.2,by rw[Cr h1,Dw h2]⟩)
  ·by_cases h3:65<=c∧c<=70
   ·exact .inr (.inr (.inl ⟨h3.1,h3.2,by rw[Cr h1,Cr h2,Dw h3]⟩))
   ·exact .inr (.inr (.inr ⟨h1,h2,h3,by rw[Cr h1,Cr h2,Cr h3]⟩))
theorem Ek {x:Int}(h1: -2147483648<=x)(h2:x<=2147483647):wrap .i32 x=x:=by
 have:=IntWalk.i32_in x (by omega)
 exact this
theorem Atl {x:Int}(h0:0<=x)(h1:x<65536):La .i32 x 4=x*16:=by
 show wrap .i32 (x*2 ^ (min (4:Int).toNat IntKind.i32.bits))=_;rw[show min (4:Int).toNat IntKind.i32.bits=4 from rfl]
 exact Ek (by omega) (by omega)
theorem Vo {t s0:ByteArray}{p0:Int}(ht:t.size<=1000000):∀(n:Nat)(nn:Nat)(x:Int)(r:List Int),n<=4->n+1<=nn->0<=x->x<16 ^ (4-n)->C7 t r ->
  Ba fu (Ae (CX xs) prog fu (d+1)) s0 p0 nn x ((4-n:Nat):Int) t (Bs t r:Int)=some (Aj4 t (R3 n x r))
 |0,nn,x,r,_,Q3,h0,h1,h=>by
  obtain⟨k,rfl⟩:∃k,nn=k+1:=⟨nn-1,by omega⟩
  rw[Fg];simp only[Dg,show decide (((4-0:Nat):Int)<4)=false from rfl]
  rfl
 |n+1,nn,x,r,hn,Q3,h0,h1,h=>by
  obtain⟨k,rfl⟩:∃k,nn=k+1:=⟨nn-1,by omega⟩
  have pk:=Lj (fu:=fu) (d:=d) (xs:=xs) h;have hl:=h.len
  have hx:x<4096:=by
   have:n+1=1∨n+1=2∨n+1=3∨n+1=4:=by omega
   rcases this with e|e|e|e<;>rw[e] at h1<;>simp at h1<;>omega
  have Pf:∀v,0<=v->v<=15->x*16+v<16 ^ (4-n):=by
   intro v hv0 hv1;have e:4-n=(4-(n+1))+1:=by omega
   rw[e,Int.pow_succ];omega
  have e4:decide (((4-(n+1):Nat):Int)<4)=true:=by simp;omega
  have e5:wrap .i64 (((4-(n+1):Nat):Int)+1)=((4-n:Nat):Int):=by rw[Bd (by omega) (by omega)];omega
  have sh:=Atl h0 (by omega)
  rw[Fg];cases r with
  |nil=>
   have pk2:Ae (CX xs) prog fu (d+1) 90 [.pbox (Bx t [])]=some ⟨[.sc (.int .u8 0)],[Bx t []]⟩:=pk
   try unfold Ac
   repeat first
    |((with_reducible first|apply A1|apply As|apply A5|apply Av|apply A2|apply Dx|apply At|apply A3|apply A4);· first|with_reducible rfl|(simp (disch:=omega) only[gT,e4,pk2,Int.reduceGE,decide_false,decide_true]<;>first|with_reducible rfl|omega)|omega)
    |(with_reducible apply A0;· first|with_reducible rfl|(simp (disch:=omega) only[gF,e4,pk2,Int.reduceGE,decide_false,decide_true]<;>omega))
   try simp (disch:=omega) only[e4,pk2,Int.reduceGE,decide_false,decide_true]
   rfl
  |cons c r=>
   have hc:=h.B c (by simp)
   have hp:=Ko h
   have e6:wrap .i64 ((Bs t (c::r):Int)+1)=(Bs t r:Int):=by
    rw[hp,Bd (by unfold Bs;omega) (by unfold Bs;omega)];omega
   have pk2:Ae (CX xs) prog fu (d+1) 90 [.pbox (Bx t (c::r))]=some ⟨[.sc (.int .u8 c)],[Bx t (c::r)]⟩:=pk;unfold R3;rcases HG c with⟨g1,g2,g3⟩|⟨g1,g2,g3⟩|⟨g1,g2,g3⟩|⟨g1,g2,g3,g4⟩
   ·rw[g3];have ih:=Vo (s0:=s0) (p0:=p0) ht n k (x*16+(c-48)) r (by omega) (by omega) (by omega) (Pf _ (by omega) (by omega)) h.tail
    have w1:wrap .u8 (c-48)=c-48:=AD (by omega) (by omega)
    have w2:wrap .i32 (c-48)=c-48:=Ek (by omega) (by omega)
    have w3:wrap .i32 (x*16+(c-48))=x*16+(c-48):=Ek (by omega) (by omega)
    try unfold Ac
    repeat first
     |((with_reducible first|apply A1|apply As|apply A5|apply Av|apply A2|apply Dx|apply At|apply A3|apply A4);· first|with_reducible rfl|(simp (disch:=omega) only[gT,e4,pk2,sh,w1,w2,w3,e5,e6,ih]<;>first|with_reducible rfl|omega)|omega)
     |(with_reducible apply A0;· first|with_reducible rfl|(simp (disch:=omega) only[gF,e4,pk2,sh,w1,w2,w3,e5,e6,ih]<;>omega))
    try simp (disch:=omega) only[e4,pk2,sh,w1,w2,w3,e5,e6,ih]
   ·rw[g3];have ih:=Vo (s0:=s0) (p0:=p0) ht n k (x*16+(c-87)) r (by omega) (by omega) (by omega) (Pf _ (by omega) (by omega)) h.tail
    have w1:wrap .u8 (c-97)=c-97:=AD (by omega) (by omega)
    have w2:wrap .i32 (c-97)=c-97:=Ek (by omega) (by omega)
    have w3:wrap .i32 (x*16+(c-97))=x*16+(c-97):=Ek (by omega) (by omega)
    have w4:wrap .i32 (x*16+(c-97)+10)=x*16+(c-87):=by rw[Ek (by omega) (by omega)];omega
    try unfold Ac
    repeat first
     |((with_reducible first|apply A1|apply As|apply A5|apply Av|apply A2|apply Dx|apply At|apply A3|apply A4);· first|with_reducible rfl|(simp (disch:=omega) only[gT,e4,pk2,sh,w1,w2,w3,w4,e5,e6,ih]<;>first|with_reducible rfl|omega)|omega)
     |(with_reducible apply A0;· first|with_reducible rfl|(simp (disch:=omega) only[gF,e4,pk2,sh,w1,w2,w3,w4,e5,e6,ih]<;>omega))
    try simp (disch:=omega) only[e4,pk2,sh,w1,w2,w3,w4,e5,e6,ih]
   ·rw[g3];have ih:=Vo (s0:=s0) (p0:=p0) ht n k (x*16+(c-55)) r (by omega) (by omega) (by omega) (Pf _ (by omega) (by omega)) h.tail
    have w1:wrap .u8 (c-65)=c-65:=AD (by omega) (by omega)
    have w2:wrap .i32 (c-65)=c-65:=Ek (by omega) (by omega)
    have w3:wrap .i32 (x*16+(c-65))=x*16+(c-65):=Ek (by omega) (by omega)
    have w4:wrap .i32 (x*16+(c-65)+10)=x*16+(c-55):=by rw[Ek (by omega) (by omega)];omega
    try unfold Ac
    repeat first
     |((with_reducible first|apply A1|apply As|apply A5|apply Av|apply A2|apply Dx|apply At|apply A3|apply A4);· first|with_reducible rfl|(simp (disch:=omega) only[gT,e4,pk2,sh,w1,w2,w3,w4,e5,e6,ih]<;>first|with_reducible rfl|omega)|omega)
     |(with_reducible apply A0;· first|with_reducible rfl|(simp (disch:=omega) only[gF,e4,pk2,sh,w1,w2,w3,w4,e5,e6,ih]<;>omega))
    try simp (disch:=omega) only[e4,pk2,sh,w1,w2,w3,w4,e5,e6,ih]
   ·rw[g4];by_cases k1:48<=c
    ·by_cases k2:97<=c
     ·skip
      try unfold Ac
      repeat first
       |((with_reducible first|apply A1|apply As|apply A5|apply Av|apply A2|apply Dx|apply At|apply A3|apply A4);· first|with_reducible rfl|(simp (disch:=omega) only[gT,e4,pk2]<;>first|with_reducible rfl|omega)|omega)
       |(with_reducible apply A0;· first|with_reducible rfl|(simp (disch:=omega) only[gF,e4,pk2]<;>omega))
      try simp (disch:=omega) only[e4,pk2]
      rfl
     ·by_cases k3:65<=c
      ·skip
       try unfold Ac
       repeat first
        |((with_reducible first|apply A1|apply As|apply A5|apply Av|apply A2|apply Dx|apply At|apply A3|apply A4);· first|with_reducible rfl|(simp (disch:=omega) only[gT,e4,pk2]<;>first|with_reducible rfl|omega)|omega)
        |(with_reducible apply A0;· first|with_reducible rfl|(simp (disch:=omega) only[gF,e4,pk2]<;>omega))
       try simp (disch:=omega) only[e4,pk2]
       rfl
      ·skip
       try unfold Ac
       repeat first
        |((with_reducible first|apply A1|apply As|apply A5|apply Av|apply A2|apply Dx|apply At|apply A3|apply A4);· first|with_reducible rfl|(simp (disch:=omega) only[gT,e4,pk2]<;>first|with_reducible rfl|omega)|omega)
        |(with_reducible apply A0;· first|with_reducible rfl|(simp (disch:=omega) only[gF,e4,pk2]<;>omega))
       try simp (disch:=omega) only[e4,pk2]
       rfl
    ·skip
     try unfold Ac
     repeat first
      |((with_reducible first|apply A1|apply As|apply A5|apply Av|apply A2|apply Dx|apply At|apply A3|apply A4);· first|with_reducible rfl|(simp (disch:=omega) only[gT,e4,pk2]<;>first|with_reducible rfl|omega)|omega)
      |(with_reducible apply A0;· first|with_reducible rfl|(simp (disch:=omega) only[gF,e4,pk2]<;>omega))
     try simp (disch:=omega) only[e4,pk2]
     rfl
theorem Alo {t:ByteArray}{r:List Int}(E9:10<=fu)(h:C7 t r)(ht:t.size<=1000000):Ae (CX xs) prog fu (d+2) F7 [.pbox (Bx t r)]=some (Aj4 t (R3 4 0 r)):=by
 rw[Kk];exact Vo ht 4 fu 0 r (by omega) (by omega) (by omega) (by decide) h
theorem Gj:∀(n:Nat)(x:Int)(l:List Int)(y:Int)(r:List Int),R3 n x l=(some y,r)->0<=x->0<=y∧y<(x+1)*16 ^ n
 |0,x,l,y,r,h,h0=>by
  cases h;omega
 |n+1,x,[],y,r,h,h0=>by cases h
 |n+1,x,c::l,y,r,h,h0=>by
  unfold R3 at h;rcases HG c with⟨g1,g2,g3⟩|⟨g1,g2,g3⟩|⟨g1,g2,g3⟩|⟨g1,g2,g3,g4⟩
  ·rw[g3] at h;have:=Gj n _ l y r h (by omega)
   have e:(x*16+(c-48)+1)*16 ^ n<=(x+1)*16 ^ (n+1):=by
    rw[Int.pow_succ,Int.mul_comm (16 ^ n) 16,←Int.mul_assoc];exact Int.mul_le_mul_of_nonneg_right (by omega) (Int.pow_nonneg (by omega))
   omega
  ·rw[g3] at h;have:=Gj n _ l y r h (by omega)
   have e:(x*16+(c-87)+1)*16 ^ n<=(x+1)*16 ^ (n+1):=by
    rw[Int.pow_succ,Int.mul_comm (16 ^ n) 16,←Int.mul_assoc];exact Int.mul_le_mul_of_nonneg_right (by omega) (Int.pow_nonneg (by omega))
   omega
  ·rw[g3] at h;have:=Gj n _ l y r h (by omega)
   have e:(x*16+(c-55)+1)*16 ^ n<=(x+1)*16 ^ (n+1):=by
    rw[Int.pow_succ,Int.mul_comm (16 ^ n) 16,←Int.mul_assoc];exact Int.mul_le_mul_of_nonneg_right (by omega) (Int.pow_nonneg (by omega))
   omega
  ·rw[g4] at h;cases h
theorem Tt {t:ByteArray}:∀(n:Nat)(x:Int)(l:List Int),C7 t l->C7 t (R3 n x l).2
 |0,x,l,h=>h
 |n+1,x,[],h=>h
 |n+1,x,c::l,h=>by
  unfold R3;cases UI c with
  |none=>exact h
  |some v=>exact Tt n _ l h.tail
theorem Afw (l:List Int):Ags l=List.isPrefixOf [92,117] l:=by
 match l with
 |[]=>rfl
 |[a]=>
  unfold Ags;split
  ·rename_i e;cases e
  ·simp[List.isPrefixOf]
 |a::b::r=>
  unfold Ags;split
  ·rename_i e;cases e;rfl
  ·rename_i h
   symm
   rw[Bool.eq_false_iff];intro hp;simp[List.isPrefixOf] at hp;exact h r (by rw[←hp.1,←hp.2])
theorem Aoc {x:Int}(h0:0<=x)(h1:x<2097152):La .i32 x 10=x*1024:=by
 show wrap .i32 (x*2 ^ (min (10:Int).toNat IntKind.i32.bits))=_;rw[show min (10:Int).toNat IntKind.i32.bits=10 from rfl]
 exact Ek (by omega) (by omega)
theorem Aqf {t:ByteArray}{r:List Int}(E9:10<=fu)(h:C7 t r)(ht:t.size<=1000000):Ae (CX xs) prog fu (d+4) Fs [.pbox (Bx t r)]=some (Aj4 t (Ng r)):=by
 have hx:=Alo (d:=d+1) (xs:=xs) E9 h ht;have hs:=Tt 4 0 r h;have hb:=Gj 4 0 r;rw[Jr];unfold Ng;rcases hq:R3 4 0 r with⟨o,r1⟩;rw[hq] at hx hs;simp only at hs;cases o with
 |none=>
  have Pf:Ae (CX xs) prog fu (d+3) 114 [.pbox (Bx t r)]=some ⟨[.sc (.int .i32 0),.sc (.bool false)],[Bx t r1]⟩:=hx
  try unfold Ac
  repeat first
   |((with_reducible first|apply A1|apply As|apply A5|apply Av|apply A2|apply Dx|apply At|apply A3|apply A4);· first|with_reducible rfl|(simp (disch:=omega) only[gT,Pf,Ds]<;>first|with_reducible rfl|omega)|omega)
   |(with_reducible apply A0;· first|with_reducible rfl|(simp (disch:=omega) only[gF,Pf,Ds]<;>omega))
  try simp (disch:=omega) only[Pf,Ds]
  rfl
 |some x=>
  have Pf:Ae (CX xs) prog fu (d+3) 114 [.pbox (Bx t r)]=some ⟨[.sc (.int .i32 x),.sc (.bool true)],[Bx t r1]⟩:=hx;have bx:=hb x r1 hq (by omega)
  have lw:∀x,Ae (CX xs) prog fu (d+3) 115 [.sc (.int .i32 x)]=some ⟨[.sc (.bool (KU x))],[]⟩:=fun x=>Aj3 (d:=d+2) x
  cases hl:KU x
  ·simp only[hl,Bool.false_eq_true,if_false];by_cases c1:x<55296
   ·rw[Dw (Or.inl c1)]
    try unfold Ac
    repeat first
     |((with_reducible first|apply A1|apply As|apply A5|apply Av|apply A2|apply Dx|apply At|apply A3|apply A4);· first|with_reducible rfl|(simp (disch:=omega) only[gT,Pf,lw,hl,C6]<;>first|with_reducible rfl|omega)|omega)
     |(with_reducible apply A0;· first|with_reducible rfl|(simp (disch:=omega) only[gF,Pf,lw,hl,C6]<;>omega))
    try simp (disch:=omega) only[Pf,lw,hl,C6]
    rfl
   ·by_cases c2:56319<x
    ·rw[Dw (Or.inr c2)]
     try unfold Ac
     repeat first
      |((with_reducible first|apply A1|apply As|apply A5|apply Av|apply A2|apply Dx|apply At|apply A3|apply A4);· first|with_reducible rfl|(simp (disch:=omega) only[gT,Pf,lw,hl,C6]<;>first|with_reducible rfl|omega)|omega)
      |(with_reducible apply A0;· first|with_reducible rfl|(simp (disch:=omega) only[gF,Pf,lw,hl,C6]<;>omega))
     try simp (disch:=omega) only[Pf,lw,hl,C6]
     rfl
    ·rw[Cr (by omega)]
     have ha:=Qf (fu:=fu) (d:=d) (xs:=xs) hs ht (w:=[92,117]) (fun x hx=>by simp at hx;rcases hx with rfl|rfl<;>omega) (by decide)
     unfold Aq at ha;rw[←Afw] at ha;cases hB:Ags r1
     ·rw[hB,Cr (by simp)] at ha
      simp only[Bool.false_eq_true,if_false];have Il:Ae (CX xs) prog fu (d+3) 67 [.pbox (Bx t r1),.sc (.string (ByteArray.mk #[(92:UInt8),(117:UInt8)]))]=some ⟨[.sc (.bool false)],[Bx t r1]⟩:=ha
      try unfold Ac
      repeat first
       |((with_reducible first|apply A1|apply As|apply A5|apply Av|apply A2|apply Dx|apply At|apply A3|apply A4);· first|with_reducible rfl|(simp (disch:=omega) only[gT,Pf,lw,hl,Il,C6,Ds]<;>first|with_reducible rfl|omega)|omega)
       |(with_reducible apply A0;· first|with_reducible rfl|(simp (disch:=omega) only[gF,Pf,lw,hl,Il,C6,Ds]<;>omega))
      try simp (disch:=omega) only[Pf,lw,hl,Il,C6,Ds]
      rfl
     ·rw[hB,Dw rfl] at ha;simp only[if_true];have Il:Ae (CX xs) prog fu (d+3) 67 [.pbox (Bx t r1),.sc (.string (ByteArray.mk #[(92:UInt8),(117:UInt8)]))]=some ⟨[.sc (.bool true)],[Bx t (r1.drop 2)]⟩:=ha;have hy:=Alo (d:=d+1) (xs:=xs) E9 (hs.drop 2) ht;have YS:=Gj 4 0 (r1.drop 2);unfold XN;rcases Kp:R3 4 0 (r1.drop 2) with⟨o2,r2⟩;rw[Kp] at hy;cases o2 with
      |none=>
       have hy2:Ae (CX xs) prog fu (d+3) 114 [.pbox (Bx t (r1.drop 2))]=some ⟨[.sc (.int .i32 0),.sc (.bool false)],[Bx t r2]⟩:=hy
       try unfold Ac
       repeat first
        |((with_reducible first|apply A1|apply As|apply A5|apply Av|apply A2|apply Dx|apply At|apply A3|apply A4);· first|with_reducible rfl|(simp (disch:=omega) only[gT,Pf,lw,hl,Il,hy2,C6,Ds]<;>first|with_reducible rfl|omega)|omega)
        |(with_reducible apply A0;· first|with_reducible rfl|(simp (disch:=omega) only[gF,Pf,lw,hl,Il,hy2,C6,Ds]<;>omega))
       try simp (disch:=omega) only[Pf,lw,hl,Il,hy2,C6,Ds]
       rfl
      |some y=>
       have hy2:Ae (CX xs) prog fu (d+3) 114 [.pbox (Bx t (r1.drop 2))]=some ⟨[.sc (.int .i32 y),.sc (.bool true)],[Bx t r2]⟩:=hy;have by_:=YS y r2 Kp (by omega)
       cases Pg:KU y
       ·simp only[Bool.false_eq_true,if_false]
        try unfold Ac
        repeat first
         |((with_reducible first|apply A1|apply As|apply A5|apply Av|apply A2|apply Dx|apply At|apply A3|apply A4);· first|with_reducible rfl|(simp (disch:=omega) only[gT,Pf,lw,hl,Pg,Il,hy2,C6,Ds]<;>first|with_reducible rfl|omega)|omega)
         |(with_reducible apply A0;· first|with_reducible rfl|(simp (disch:=omega) only[gF,Pf,lw,hl,Pg,Il,hy2,C6,Ds]<;>omega))
        try simp (disch:=omega) only[Pf,lw,hl,Pg,Il,hy2,C6,Ds]
        rfl
       ·simp only[if_true]
        have ly:56320<=y∧y<=57343:=by
         unfold KU at Pg
         simpa using Pg
        have w1:wrap .i32 (x-55296)=x-55296:=Ek (by omega) (by omega)
        have w2:=Aoc (x:=x-55296) (by omega) (by omega)
        have w3:wrap .i32 (65536+(x-55296)*1024)=65536+(x-55296)*1024:=Ek (by omega) (by omega)
        have w4:wrap .i32 (y-56320)=y-56320:=Ek (by omega) (by omega)
        have w5:wrap .i32 (65536+(x-55296)*1024+(y-56320))=65536+(x-55296)*1024+(y-56320):=Ek (by omega) (by omega)
        try unfold Ac
        repeat first
         |((with_reducible first|apply A1|apply As|apply A5|apply Av|apply A2|apply Dx|apply At|apply A3|apply A4);· first|with_reducible rfl|(simp (disch:=omega) only[gT,Pf,lw,hl,Pg,Il,hy2,w1,w2,w3,w4,w5,C6,Ds]<;>first|with_reducible rfl|omega)|omega)
         |(with_reducible apply A0;· first|with_reducible rfl|(simp (disch:=omega) only[gF,Pf,lw,hl,Pg,Il,hy2,w1,w2,w3,w4,w5,C6,Ds]<;>omega))
        try simp (disch:=omega) only[Pf,lw,hl,Pg,Il,hy2,w1,w2,w3,w4,w5,C6,Ds]
        rfl
  ·simp only[if_true]
   try unfold Ac
   repeat first
    |((with_reducible first|apply A1|apply As|apply A5|apply Av|apply A2|apply Dx|apply At|apply A3|apply A4);· first|with_reducible rfl|(simp (disch:=omega) only[gT,Pf,lw,hl,C6]<;>first|with_reducible rfl|omega)|omega)
    |(with_reducible apply A0;· first|with_reducible rfl|(simp (disch:=omega) only[gF,Pf,lw,hl,C6]<;>omega))
   try simp (disch:=omega) only[Pf,lw,hl,C6]
   rfl
theorem GU (c:Int):(c=34∧Sm c=some 34)∨(c=92∧Sm c=some 92)∨(c=47∧Sm c=some 47)∨(c=98∧Sm c=some 8)∨(c=102∧Sm c=some 12)∨(c=110∧Sm c=some 10)∨(c=114∧Sm c=some 13)∨(c=116∧Sm c=some 9) ∨
  ((c≠34∧c≠92∧c≠47∧c≠98∧c≠102∧c≠110∧c≠114∧c≠116)∧Sm c=none):=by
 by_cases h1:c=34
 ·subst h1;exact .inl ⟨rfl,rfl⟩
 by_cases h2:c=92
 ·subst h2;exact .inr (.inl ⟨rfl,rfl⟩)
 by_cases h3:c=47
 ·subst h3;exact .inr (.inr (.inl ⟨rfl,rfl⟩))
 by_cases h4:c=98
 ·subst h4;exact .inr (.inr (.inr (.inl ⟨rfl,rfl⟩)))
 by_cases h5:c=102
 ·subst h5;exact .inr (.inr (.inr (.inr (.inl ⟨rfl,rfl⟩))))
 by_cases h6:c=110
 ·subst h6;exact .inr (.inr (.inr (.inr (.inr (.inl ⟨rfl,rfl⟩)))))
 by_cases h7:c=114
 ·subst h7;exact .inr (.inr (.inr (.inr (.inr (.inr (.inl ⟨rfl,rfl⟩))))))
 by_cases h8:c=116
 ·subst h8;exact .inr (.inr (.inr (.inr (.inr (.inr (.inr (.inl ⟨rfl,rfl⟩)))))))
 refine .inr (.inr (.inr (.inr (.inr (.inr (.inr (.inr ⟨⟨h1,h2,h3,h4,h5,h6,h7,h8⟩,?_⟩)))))));unfold Sm;rw[Cr (by omega),Cr h4,Cr h5,Cr h6,Cr h7,Cr h8]
theorem Avb {t:ByteArray}{r:List Int}(E9:10<=fu)(h:C7 t r)(ht:t.size<=1000000):Ae (CX xs) prog fu (d+5) E7 [.pbox (Bx t r)]=some (Aj4 t (Lp r)):=by
 have ha:=Qf (fu:=fu) (d:=d+1) (xs:=xs) h ht (w:=[117]) (fun x hx=>by simp at hx;omega) (by decide)
 have hl:=h.len;rw[It];cases r with
 |nil=>
  have Il:Ae (CX xs) prog fu (d+4) 67 [.pbox (Bx t []),.sc (.string (ByteArray.mk #[(117:UInt8)]))]=some ⟨[.sc (.bool false)],[Bx t []]⟩:=ha;have pk:Ae (CX xs) prog fu (d+4) 90 [.pbox (Bx t [])]=some ⟨[.sc (.int .u8 0)],[Bx t []]⟩:=Lj (d:=d+3) h;have w0:wrap .i32 0=0:=rfl
  try unfold Ac
  repeat first
   |((with_reducible first|apply A1|apply As|apply A5|apply Av|apply A2|apply Dx|apply At|apply A3|apply A4);· first|with_reducible rfl|(simp (disch:=omega) only[gT,Il,pk,w0,Int.reduceBEq]<;>first|with_reducible rfl|omega)|omega)
   |(with_reducible apply A0;· first|with_reducible rfl|(simp (disch:=omega) only[gF,Il,pk,w0,Int.reduceBEq]<;>omega))
  try simp (disch:=omega) only[Il,pk,w0,Int.reduceBEq]
  rfl
 |cons c r=>
  have hc:=h.B c (by simp)
  have hp:=Ko h
  have e6:wrap .i64 ((Bs t (c::r):Int)+1)=(Bs t r:Int):=by
   rw[hp,Bd (by unfold Bs;omega) (by unfold Bs;omega)];omega
  have w0:wrap .i32 c=c:=Ek (by omega) (by omega)
  have pk:Ae (CX xs) prog fu (d+4) 90 [.pbox (Bx t (c::r))]=some ⟨[.sc (.int .u8 c)],[Bx t (c::r)]⟩:=Lj (d:=d+3) h;have he:Lp (c::r)=if c=117 then Ng r else match Sm c with|some x=>(some x,r)|none=>(none,c::r):=rfl
  rw[he];unfold Aq at ha;by_cases hu:c=117
  ·subst hu;rw[Dw rfl];have Il:Ae (CX xs) prog fu (d+4) 67 [.pbox (Bx t (117::r)),.sc (.string (ByteArray.mk #[(117:UInt8)]))]=some ⟨[.sc (.bool true)],[Bx t r]⟩:=ha;have hcd:Ae (CX xs) prog fu (d+4) 105 [.pbox (Bx t r)]=some ⟨[.sc (.int .i32 ((Ng r).1.getD 0)),.sc (.bool (Ng r).1.isSome)],[Bx t (Ng r).2]⟩:=Aqf E9 h.tail ht
   try unfold Ac
   repeat first
    |((with_reducible first|apply A1|apply As|apply A5|apply Av|apply A2|apply Dx|apply At|apply A3|apply A4);· first|with_reducible rfl|(simp (disch:=omega) only[gT,Il,hcd]<;>first|with_reducible rfl|omega)|omega)
    |(with_reducible apply A0;· first|with_reducible rfl|(simp (disch:=omega) only[gF,Il,hcd]<;>omega))
   try simp (disch:=omega) only[Il,hcd]
   rfl
  ·rw[Cr hu]
   have hb:(List.isPrefixOf [117] (c::r))=false:=by
    rw[Bool.eq_false_iff];intro hp;simp[List.isPrefixOf] at hp;exact hu hp.symm
   rw[hb,Cr (by simp)] at ha
   have Il:Ae (CX xs) prog fu (d+4) 67 [.pbox (Bx t (c::r)),.sc (.string (ByteArray.mk #[(117:UInt8)]))]=some ⟨[.sc (.bool false)],[Bx t (c::r)]⟩:=ha;rcases GU c with⟨rfl,g⟩|⟨rfl,g⟩|⟨rfl,g⟩|⟨rfl,g⟩|⟨rfl,g⟩|⟨rfl,g⟩|⟨rfl,g⟩|⟨rfl,g⟩|⟨g1,g⟩
   ·rw[g]
    try unfold Ac
    repeat first
     |((with_reducible first|apply A1|apply As|apply A5|apply Av|apply A2|apply Dx|apply At|apply A3|apply A4);· first|with_reducible rfl|(simp (disch:=omega) only[gT,Il,pk,w0,e6,Int.reduceBEq]<;>first|with_reducible rfl|omega)|omega)
     |(with_reducible apply A0;· first|with_reducible rfl|(simp (disch:=omega) only[gF,Il,pk,w0,e6,Int.reduceBEq]<;>omega))
    try simp (disch:=omega) only[Il,pk,w0,e6,Int.reduceBEq]
    rfl
   ·rw[g]
    try unfold Ac
    repeat first
     |((with_reducible first|apply A1|apply As|apply A5|apply Av|apply A2|apply Dx|apply At|apply A3|apply A4);· first|with_reducible rfl|(simp (disch:=omega) only[gT,Il,pk,w0,e6,Int.reduceBEq]<;>first|with_reducible rfl|omega)|omega)
     |(with_reducible apply A0;· first|with_reducible rfl|(simp (disch:=omega) only[gF,Il,pk,w0,e6,Int.reduceBEq]<;>omega))
    try simp (disch:=omega) only[Il,pk,w0,e6,Int.reduceBEq]
    rfl
   ·rw[g]
    try unfold Ac
    repeat first
     |((with_reducible first|apply A1|apply As|apply A5|apply Av|apply A2|apply Dx|apply At|apply A3|apply A4);· first|with_reducible rfl|(simp (disch:=omega) only[gT,Il,pk,w0,e6,Int.reduceBEq]<;>first|with_reducible rfl|omega)|omega)
     |(with_reducible apply A0;· first|with_reducible rfl|(simp (disch:=omega) only[gF,Il,pk,w0,e6,Int.reduceBEq]<;>omega))
    try simp (disch:=omega) only[Il,pk,w0,e6,Int.reduceBEq]
    rfl
   ·rw[g]
    try unfold Ac
    repeat first
     |((with_reducible first|apply A1|apply As|apply A5|apply Av|apply A2|apply Dx|apply At|apply A3|apply A4);· first|with_reducible rfl|(simp (disch:=omega) only[gT,Il,pk,w0,e6,Int.reduceBEq]<;>first|with_reducible rfl|omega)|omega)
     |(with_reducible apply A0;· first|with_reducible rfl|(simp (disch:=omega) only[gF,Il,pk,w0,e6,Int.reduceBEq]<;>omega))
    try simp (disch:=omega) only[Il,pk,w0,e6,Int.reduceBEq]
    rfl
   ·rw[g]
    try unfold Ac
    repeat first
     |((with_reducible first|apply A1|apply As|apply A5|apply Av|apply A2|apply Dx|apply At|apply A3|apply A4);· first|with_reducible rfl|(simp (disch:=omega) only[gT,Il,pk,w0,e6,Int.reduceBEq]<;>first|with_reducible rfl|omega)|omega)
     |(with_reducible apply A0;· first|with_reducible rfl|(simp (disch:=omega) only[gF,Il,pk,w0,e6,Int.reduceBEq]<;>omega))
    try simp (disch:=omega) only[Il,pk,w0,e6,Int.reduceBEq]
    rfl
   ·rw[g]
    try unfold Ac
    repeat first
     |((with_reducible first|apply A1|apply As|apply A5|apply Av|apply A2|apply Dx|apply At|apply A3|apply A4);· first|with_reducible rfl|(simp (disch:=omega) only[gT,Il,pk,w0,e6,Int.reduceBEq]<;>first|with_reducible rfl|omega)|omega)
     |(with_reducible apply A0;· first|with_reducible rfl|(simp (disch:=omega) only[gF,Il,pk,w0,e6,Int.reduceBEq]<;>omega))
    try simp (disch:=omega) only[Il,pk,w0,e6,Int.reduceBEq]
    rfl
   ·rw[g]
    try unfold Ac
    repeat first
     |((with_reducible first|apply A1|apply As|apply A5|apply Av|apply A2|apply Dx|apply At|apply A3|apply A4);· first|with_reducible rfl|(simp (disch:=omega) only[gT,Il,pk,w0,e6,Int.reduceBEq]<;>first|with_reducible rfl|omega)|omega)
     |(with_reducible apply A0;· first|with_reducible rfl|(simp (disch:=omega) only[gF,Il,pk,w0,e6,Int.reduceBEq]<;>omega))
    try simp (disch:=omega) only[Il,pk,w0,e6,Int.reduceBEq]
    rfl
   ·rw[g]
    try unfold Ac
    repeat first
     |((with_reducible first|apply A1|apply As|apply A5|apply Av|apply A2|apply Dx|apply At|apply A3|apply A4);· first|with_reducible rfl|(simp (disch:=omega) only[gT,Il,pk,w0,e6,Int.reduceBEq]<;>first|with_reducible rfl|omega)|omega)
     |(with_reducible apply A0;· first|with_reducible rfl|(simp (disch:=omega) only[gF,Il,pk,w0,e6,Int.reduceBEq]<;>omega))
    try simp (disch:=omega) only[Il,pk,w0,e6,Int.reduceBEq]
    rfl
   ·rw[g];obtain⟨n1,n2,n3,n4,n5,n6,n7,n8⟩:=g1;have m1:(c==(34:Int))=false:=by simp[n1]
    have m2:(c==(92:Int))=false:=by simp[n2]
    have m3:(c==(47:Int))=false:=by simp[n3]
    have m4:(c==(98:Int))=false:=by simp[n4]
    have m5:(c==(102:Int))=false:=by simp[n5]
    have m6:(c==(110:Int))=false:=by simp[n6]
    have m7:(c==(114:Int))=false:=by simp[n7]
    have m8:(c==(116:Int))=false:=by simp[n8]
    try unfold Ac
    repeat first
     |((with_reducible first|apply A1|apply As|apply A5|apply Av|apply A2|apply Dx|apply At|apply A3|apply A4);· first|with_reducible rfl|(simp (disch:=omega) only[gT,Il,pk,w0,e6,m1,m2,m3,m4,m5,m6,m7,m8]<;>first|with_reducible rfl|omega)|omega)
     |(with_reducible apply A0;· first|with_reducible rfl|(simp (disch:=omega) only[gF,Il,pk,w0,e6,m1,m2,m3,m4,m5,m6,m7,m8]<;>omega))
    try simp (disch:=omega) only[Il,pk,w0,e6,m1,m2,m3,m4,m5,m6,m7,m8]
    rfl
theorem P3 {t:ByteArray}{l:List Int}(h:C7 t l):C7 t (Lp l).2:=by
 have Aud:∀l,C7 t l->C7 t (Ng l).2:=by
  intro l h;have h1:=Tt 4 0 l h;unfold Ng;rcases hq:R3 4 0 l with⟨o,r⟩;rw[hq] at h1;cases o with
  |none=>exact h1
  |some x=>
   simp only;split
   ·exact h1
   split
   ·exact h1
   split
   ·have h2:=Tt 4 0 (r.drop 2) (C7.drop h1 2);unfold XN;rcases Kp:R3 4 0 (r.drop 2) with⟨o2,r2⟩;rw[Kp] at h2;cases o2 with
    |none=>exact h2
    |some y=>
     simp only;split<;>exact h2
   ·exact h1
 cases l with
 |nil=>exact h
 |cons c r=>
  have he:Lp (c::r)=if c=117 then Ng r else match Sm c with|some x=>(some x,r)|none=>(none,c::r):=rfl
  rw[he];split
  ·exact Aud r h.tail
  ·cases Sm c with
   |none=>exact h
   |some x=>exact h.tail
end
end
section
open Go.Proofs.Tryd (prog)
open Go.IntKind (wrap)
set_option maxRecDepth 20000
open Go Go.RowKit
theorem Ee.refl (w:World)(b o n:Nat):Ee w w b o n:=⟨rfl,rfl,rfl,Nat.le_refl _,Gf.refl _ _,fun _ _ _=>rfl,fun _ _=>rfl,fun _ _=>rfl⟩
theorem Ee.trans {w w' w'':World}{b o n:Nat}(h:Ee w w' b o n)(k:Ee w' w'' b o n):Ee w w'' b o n:=
 ⟨k.os.trans h.os,k.tape.trans h.tape,k.output.trans h.output,Nat.le_trans h.size k.size,h.grow.trans k.grow,fun i hi Ei=>(k.other i (Nat.lt_of_lt_of_le hi h.size) Ei).trans (h.other i hi Ei),fun j hj=>(k.cells j hj).trans (h.cells j hj),fun j hj=>(k.frz j hj).trans (h.frz j hj)⟩
theorem Ee.below {w w' w'':World}{b o n:Nat}(h:Ee w w' b o n)(k:Below w.heap.size w' w'')(hb:b<w.heap.size):Ee w w'' b o n:=
 ⟨k.os.trans h.os,k.tape.trans h.tape,k.output.trans h.output,Nat.le_trans h.size k.size,h.grow.trans (Gf.same (k.block b hb)),fun i hi Ei=>(k.block i hi).trans (h.other i hi Ei),fun j hj=>(k.cell (p:=⟨b,j,none⟩) hb).trans (h.cells j hj),fun j hj=>(k.frozen (p:=⟨b,j,none⟩) hb).trans (h.frz j hj)⟩
theorem Ee.drew {w w':World}{b o n:Nat}(h:Ee w w' b o n):Ee w w'.drew b o n:=⟨h.os,h.tape,h.output,h.size,h.grow,h.other,h.cells,h.frz⟩
theorem Ee.setCell (w:World)(b o n j:Nat)(v:Value)(hj:o<=j)(hj2:j<o+n)(hb:b<w.heap.size):Ee w (w.setCell ⟨b,j,none⟩ v) b o n:=by
 have hw:Dk b w (w.setCell ⟨b,j,none⟩ v):=Dk.setCells b [v] j w;refine⟨hw.os,hw.tape,hw.output,Nat.le_of_eq hw.size.symm,hw.grow b,fun k hk Ei=>hw.other k Ei,fun i hi=>?_,fun i _=>hw.frz i⟩
 exact World.cell?_setCell_other _ _ _ _ (by intro e;injection e;omega)
theorem Tv {T e:TypeId}{B c:Nat}{bs:List Value}{W W':World}{b o n:Nat}(h:Lib.IsBuilderF T e B c bs W)(hk:Ee W W' b o n)(hb:b<B):Lib.IsBuilderF T e B c bs W':=by
 have key:∀p,Lib.BuilderAtF T e B c p bs W->Lib.BuilderAtF T e B c p bs W':=by
  intro p h;have B5:=h.lt;obtain⟨hB,v,hv,Fj,Ei⟩:=h;refine⟨hB,v,(hk.other c B5 (by omega)).trans hv,Fj.kept (row:=some b) ⟨hk.os,hk.tape,hk.output,hk.size,fun k Jm Apj=>hk.other k Jm (fun e=>Apj (by rw[e]))⟩ ?_,Ei⟩
  rcases Fj.2 with⟨rfl,_⟩|⟨g,cap,cur,fz,rfl,hg,_⟩
  ·exact .inl rfl
  ·refine .inr (fun e=>?_)
   simp[Value.ownBlock] at e;omega
 exact h.imp (key _) (key _)
def GR:S2:=⟨fun _=>False,fun _=>True,fun _ _ _ _=>trivial⟩
def noR:FuncId->Option (List PV->Option Ay):=fun _=>none
theorem Aoi:HQ GR prog (CX noR):=by
 intro f g args res h _;have h':(bif T7.any (Nat.beq f) then none else (none:Option (List PV->Option Ay)))=some g:=h;cases hb:T7.any (Nat.beq f)<;>rw[hb] at h'<;>cases h'
theorem ngR:NoNG prog:=by
 have h:(prog.funcs.toList.all fun fn=> !(fn.name == "runtime.NumGoroutine"))=true:=by kernel_rfl
 intro f fn hf;have:=List.all_eq_true.1 h fn (Array.mem_toList_iff.2 (Array.mem_of_getElem? hf))
 simpa using this
theorem mxR:prog.follows .mixedOrders=true:=by kernel_rfl
structure Vs (w:World) (b o:Nat) (t:ByteArray) (r:List Int):Prop where
 lt:b<w.heap.size
 c0:w.cell? ⟨b,o,none⟩=some (.string t)
 c1:w.cell? ⟨b,o+1,none⟩=some (.int .i64 (Bs t r:Int))
 f0:w.frozen? ⟨b,o,none⟩=false
 f1:w.frozen? ⟨b,o+1,none⟩=false
theorem LH {f:FuncId}{t:ByteArray}{r r':List Int}{args vals:List PV}{us rs:List Value}{d:Nat}(e:Ae (CX noR) prog 2000 d f (.pbox (Bx t r)::args)=some ⟨vals,[Bx t r']⟩) (ha:Bc DV args us)(hr:Bc DV vals rs)
  {w:World} {b o:Nat} (h:Vs w b o t r):Calls prog f (.pointer (some ⟨b,o,none⟩)::us).toArray w fun e w'=>e=.returned (Gv rs)∧Vs w' b o t r'∧Ee w w' b o 2:=by
 have hs:C4 GR prog f (.pbox ([Value.string t,.int .i64 (Bs t r:Int)].map .sc)::args) ⟨vals,[[Value.string t,.int .i64 (Bs t r':Int)].map .sc]⟩:=He ngR mxR Aoi d f _ _ e;refine (IW hs ha hr (w:=w) (b:=b) (o:=o) trivial (fun _ h=>h.elim) h.lt ?_ ?_).mono ?_
 ·intro j v hv
  match j,hv with
  |0,hv=>cases hv;exact h.c0
  |1,hv=>cases hv;exact h.c1
 ·intro j hj
  match j,hj with
  |0,_=>exact h.f0
  |1,_=>exact h.f1
 ·rintro e w' ⟨rfl,_,h4,h5,hk⟩
  exact⟨rfl,⟨Nat.lt_of_lt_of_le h.lt hk.size,h4 0 _ rfl,h4 1 _ rfl,h5 0 (Nat.zero_lt_succ _),h5 1 (Nat.succ_lt_succ (Nat.zero_lt_succ _))⟩,hk⟩
theorem Gp {t:ByteArray}{r w0:List Int}(hS:C7 t r)(ht:t.size<=1000000)(hw:C8 w0)(hw2:w0.length<=100){w:World}{b o:Nat}(h:Vs w b o t r):
  Calls prog 67 #[.pointer (some ⟨b,o,none⟩),.string (Ab w0)] w fun e w'=>e=.returned (.bool (Aq w0 r).isSome)∧Vs w' b o t ((Aq w0 r).getD r)∧Ee w w' b o 2:=by
 have e:=Qf (fu:=2000) (d:=0) (xs:=noR) hS ht hw hw2;cases hq:Aq w0 r with
 |none=>
  rw[hq] at e;exact LH (us:=[.string (Ab w0)]) (rs:=[.bool false]) e ⟨.inl rfl,trivial⟩ ⟨.inl rfl,trivial⟩ h
 |some r'=>
  rw[hq] at e;exact LH (us:=[.string (Ab w0)]) (rs:=[.bool true]) e ⟨.inl rfl,trivial⟩ ⟨.inl rfl,trivial⟩ h
theorem Abb {t:ByteArray}{r:List Int}(hS:C7 t r)(ht:t.size<=1000000){w:World}{b o:Nat}(h:Vs w b o t r):
  Calls prog 88 #[.pointer (some ⟨b,o,none⟩)] w fun e w'=>e=.returned (.tuple #[.int .i32 ((Lp r).1.getD 0),.bool (Lp r).1.isSome])∧Vs w' b o t (Lp r).2∧Ee w w' b o 2:=by
 have e:=Avb (fu:=2000) (d:=0) (xs:=noR) (by omega) hS ht
 exact LH (us:=[]) (rs:=[.int .i32 ((Lp r).1.getD 0),.bool (Lp r).1.isSome]) e trivial ⟨.inl rfl,.inl rfl,trivial⟩ h
end
section
open Go.Proofs.Tryd (prog)
open Go.IntKind (wrap)
set_option maxRecDepth 1000000
open Go Go.RowKit Go.Lib
def A7f (o:Option (List Int)):Value:=.tuple #[.string (Ab (o.getD [])),.bool o.isSome]
theorem Vs.below {B:Nat}{w w':World}{b o:Nat}{t:ByteArray}{r:List Int}(h:Vs w b o t r)(hb:Below B w w')(hB:b<B):Vs w' b o t r:=
 ⟨Nat.lt_of_lt_of_le h.lt hb.size,(hb.cell (p:=⟨b,o,none⟩) hB).trans h.c0,(hb.cell (p:=⟨b,o+1,none⟩) hB).trans h.c1,(hb.frozen (p:=⟨b,o,none⟩) hB).trans h.f0,(hb.frozen (p:=⟨b,o+1,none⟩) hB).trans h.f1⟩
theorem Ae2 {l:List Int}(h:C8 l):(Lp l).2.length<=l.length:=by
 have h1:C7 (Ab l) l:=⟨[],by rw[Ck h];rfl⟩
 have:=(P3 h1).len
 rwa [Aj] at this
theorem KZ {l r:List Int}{x:Int}(h:Ng l=(some x,r)):0<=x∧x<=1114111:=by
 have hb:=Gj 4 0 l;unfold Ng at h;rcases hq:R3 4 0 l with⟨o,r1⟩;rw[hq] at h;cases o with
 |none=>cases h
 |some y=>
  have by_:=hb y r1 hq (by omega)
  simp only at h;split at h
  ·cases h
  split at h
  ·cases h;omega
  split at h
  ·have G3:=Gj 4 0 (r1.drop 2);unfold XN at h;rcases Kp:R3 4 0 (r1.drop 2) with⟨o2,r2⟩;rw[Kp] at h;cases o2 with
   |none=>cases h
   |some z=>
    have bz:=G3 z r2 Kp (by omega)
    simp only at h;split at h
    ·rename_i hz
     have lz:56320<=z∧z<=57343:=by
      unfold KU at hz
      simpa using hz
     cases h;omega
    ·cases h
  ·cases h
theorem PL {l r:List Int}{x:Int}(h:Lp l=(some x,r)):0<=x∧x<=1114111:=by
 cases l with
 |nil=>cases h
 |cons c l=>
  have he:Lp (c::l)=if c=117 then Ng l else match Sm c with|some x=>(some x,l)|none=>(none,c::l):=rfl
  rw[he] at h;split at h
  ·exact KZ h
  ·rcases GU c with⟨rfl,g⟩|⟨rfl,g⟩|⟨rfl,g⟩|⟨rfl,g⟩|⟨rfl,g⟩|⟨rfl,g⟩|⟨rfl,g⟩|⟨rfl,g⟩|⟨g1,g⟩<;>rw[g] at h<;>cases h<;>omega
set_option maxHeartbeats 4000000 in
theorem QO {t:ByteArray}{r:List Int}(hS:C7 t r)(ht:t.size<=1000000){w:World}{b o:Nat}(h:Vs w b o t r):
    Calls prog 68 #[.pointer (some ⟨b,o,none⟩)] w fun e w'=>e=.returned (A7f (Eo r).1)∧Vs w' b o t (Eo r).2∧Ee w w' b o 2:=by
  have mixed:prog.follows Departure.mixedOrders=true:=by kernel_rfl
  have hac:=Gp hS ht (w0:=[34]) (fun x hx=>by simp at hx;omega) (by decide) h
  go_enter Tryd.func68,Tryd.ntmps68
  go_wp2_with (go_at_call 67;refine hac.mono ?_)
  rintro e W1 ⟨rfl,h1,k1⟩
  cases hq:Aq [34] r with
  |none=>
    rw[hq] at h1
    go_wp2
    go_ret2
    have e:Eo r=(none,r):=by
      cases r with
      |nil=>rfl
      |cons c l=>
        have hc:c≠34:=by
          rintro rfl
          unfold Aq at hq
          rw[Dw (by simp[List.isPrefixOf])] at hq
          cases hq
        show (if c=34 then _ else (none,c::l))=_
        rw[Cr hc]
    rw[e]
    exact⟨rfl,h1,k1⟩
  |some r1=>
    rw[hq] at h1
    have EX:r=34::r1:=by
      unfold Aq at hq
      split at hq
      · rename_i hp
        obtain⟨s,hs⟩:=List.isPrefixOf_iff_prefix.1 hp
        rw[←hs] at hq ⊢
        cases hq
        rfl
      · cases hq
    subst EX
    have e:Eo (34::r1)=Hm (r1.length+1) [] r1:=by
      show (if (34:Int)=34 then Hm (r1.length+1) [] r1 else (none,34::r1))=_
      exact Dw rfl
    have hS1:C7 t r1:=hS.tail
    have h2:Vs (W1.alloc (.cells #[.pointer none,.slice none 0 0] 53)) b o t r1:=by
      have hb:Below W1.heap.size W1 (W1.alloc (.cells #[.pointer none,.slice none 0 0] 53)):=(Below.refl _ W1).alloc (Nat.le_refl _) _
      exact⟨Nat.lt_of_lt_of_le h1.lt hb.size,(hb.cell (p:=⟨b,o,none⟩) h1.lt).trans h1.c0,(hb.cell (p:=⟨b,o+1,none⟩) h1.lt).trans h1.c1,(hb.frozen (p:=⟨b,o,none⟩) h1.lt).trans h1.f0,(hb.frozen (p:=⟨b,o+1,none⟩) h1.lt).trans h1.f1⟩
    have k2:Ee w (W1.alloc (.cells #[.pointer none,.slice none 0 0] 53)) b o 2:=k1.below ((Below.refl _ W1).alloc (Nat.le_refl _) _ |>.mono k1.size) h.lt
    have hB1:b<W1.heap.size:=h1.lt
    have hw1:w.heap.size<=W1.heap.size:=k1.size
    go_wp2
    go_loopw [] (fun wr=>∃(n:Nat) (out l:List Int),Hm (r1.length+1) [] r1=Hm n out l∧l.length<n∧C8 out∧out.length+4*l.length<=4*t.size∧C7 t l∧Vs wr b o t l∧Ee w wr b o 2∧W1.heap.size<=wr.heap.size∧Lib.IsBuilderF 53 5 W1.heap.size W1.heap.size (OU out) wr) (fun wr=>match wr.cell? ⟨b,o+1,none⟩ with|some (.int _ p)=>t.size-p.toNat|_=>0)
    case atStart=>
      exact⟨r1.length+1,[],r1,rfl,Nat.lt_succ_self _,(fun x hx=>by cases hx),(by have:=hS1.len;simp;omega),hS1,h2,k2,((Below.refl W1.heap.size W1).alloc (Nat.le_refl _) _).size,Lib.IsBuilderF.of (Lib.fresh_isBuilder 53 5 W1)⟩
    case round=>
      obtain⟨n,out,l,Fh,hn,hoB,hol,hSl,hat,hk,hws,hI⟩:=hrel
      obtain⟨B5,ZE,EZ,hf0,hf1⟩:=hat
      cases l with
      |nil=>
        rw[Uu] at EZ
        go_wp2
        go_region_o
        go_wp2
        go_ret2
        rw[e,Fh]
        obtain⟨m,rfl⟩:∃m,n=m+1:=⟨n-1,by omega⟩
        exact⟨rfl,⟨B5,ZE,EZ,hf0,hf1⟩,hk.drew⟩
      |cons c l=>
        obtain⟨m,rfl⟩:∃m,n=m+1:=⟨n-1,by omega⟩
        obtain⟨bb,hbb,rfl⟩:=hSl.at
        have hll:=hSl.len
        have Tn:Bs t ((bb.toNat:Int)::l)<t.size:=by
          unfold Bs
          rw[LB] at hll ⊢
          omega
        have XL:=Ko hSl
        have RB:t[Bs t ((bb.toNat:Int)::l)]'(Tn)=bb:=by
          rw[Array.getElem?_toList,Array.getElem?_eq_getElem Tn] at hbb
          exact Option.some.inj hbb
        have hcb:=bb.toNat_lt
        generalize hp:Bs t ((bb.toNat:Int)::l)=p at *
        have A9x:(p:Int)<t.size:=by omega
        have kw:Ee wr (wr.setCell ⟨b,o+1,none⟩ (.int .i64 ((p:Int)+1))).drew.drew b o 2:=((Ee.setCell wr b o 2 (o+1) _ (by omega) (by omega) B5).drew).drew
        have D8:=hk.trans kw
        have SI:=Tv hI kw hB1
        have JY:Vs (wr.setCell ⟨b,o+1,none⟩ (.int .i64 ((p:Int)+1))).drew.drew b o t l:=by
          refine⟨Nat.lt_of_lt_of_le B5 kw.size,?_,?_,?_,?_⟩
          · exact (World.cell?_setCell_other _ _ _ _ (by intro e;injection e;omega)).trans ZE
          · have:(Bs t l:Int)=(p:Int)+1:=by omega
            rw[this]
            exact World.cell?_setCell_same _ _ _ EZ
          · exact (World.frozen?_setCell _ _ _ _).trans hf0
          · exact (World.frozen?_setCell _ _ _ _).trans hf1
        have Aiq:W1.heap.size<=(wr.setCell ⟨b,o+1,none⟩ (.int .i64 ((p:Int)+1))).drew.drew.heap.size:=Nat.le_trans hws kw.size
        have hsm:Hm (m+1) out ((bb.toNat:Int)::l)=if (bb.toNat:Int)<32 then (none,(bb.toNat:Int)::l) else if (bb.toNat:Int)=34 then (some out,l) else if (bb.toNat:Int)=92 then
            (match Lp l with
             |(some x,r')=>Hm m (out++Lib.encodeRuneZ x) r'
             |(none,r')=>(none,r')) else Hm m (out++[(bb.toNat:Int)]) l:=rfl
        rw[hsm] at Fh
        have A79:(OU out).length+4<=140737488355328:=by
          rw[List.length_map]
          omega
        by_cases Ar6:(bb.toNat:Int)<32
        · rw[Dw Ar6] at Fh
          go_wp2
          go_region_o
          go_wp2
          go_region_o
          go_wp2
          go_ret2
          rw[e,Fh]
          exact⟨rfl,⟨B5,ZE,by rw[hp];exact EZ,hf0,hf1⟩,hk.drew.drew⟩
        · rw[Cr Ar6] at Fh
          by_cases Ar1:(bb.toNat:Int)=34
          · rw[Dw Ar1] at Fh
            go_wp2
            go_region_o
            go_wp2
            go_region_o
            go_wp2_with (go_at_call 25;refine (Any.Builder_String_any_k BX Rg W1.heap.size W1.heap.size (out.map fun n=>n.toNat.toUInt8) _ (by rw[←Xi hoB];exact SI) Aiq).mono ?_)
            rintro e2 W3 ⟨rfl,_,b3,_⟩
            go_wp2
            go_ret2
            rw[e,Fh]
            exact⟨rfl,JY.below b3 hB1,D8.below (b3.mono hw1) h.lt⟩
          · rw[Cr Ar1] at Fh
            by_cases Ava:(bb.toNat:Int)=92
            · rw[Dw Ava] at Fh
              have Dl:=Abb hSl.tail ht JY
              go_wp2
              go_region_o
              go_wp2
              go_region_o
              go_wp2_with (go_at_call 88;refine Dl.mono ?_)
              rintro e2 W3 ⟨rfl,Ab2,k3⟩
              have Jn:=D8.trans k3
              have hI3:=Tv SI k3 hB1
              have Ass:=Nat.le_trans Aiq k3.size
              have hel:=Ae2 (l:=l) hSl.tail.B
              have R5:=P3 hSl.tail
              rcases hqe:Lp l with⟨oe,le⟩
              rw[hqe] at Ab2 Fh hel R5
              cases oe with
              |none=>
                go_wp2
                go_ret2
                rw[e,Fh]
                exact⟨rfl,Ab2,Jn⟩
              |some x=>
                have Jl:=PL hqe
                go_wp2_with (go_at_call 89;refine (Any.Builder_WriteRune_k UG Rg W1.heap.size W1.heap.size _ x (by omega) (by omega) _ hI3 (by omega) Ass).mono ?_)
                rintro e3 W4 ⟨rfl,i4,b4,_⟩
                go_wp2
                have Atr:=Ab2.below b4 hB1
                have hrl:=Lib.encodeRuneZ_length x
                refine⟨⟨m,out++Lib.encodeRuneZ x,le,Fh,by simp at hn hel;omega,Ih hoB (fun y hy=>by have:=Lib.encodeRuneZ_byte x y hy;omega),by simp at hol hel ⊢;omega,R5,Atr,Jn.below (b4.mono hw1) h.lt,Nat.le_trans Ass b4.size,by rw[KW];exact Or.inr i4⟩,?_⟩
                have Y6:=R5.len
                have KI:Bs t l<=Bs t le:=by unfold Bs;omega
                have hp4:Bs t le<=t.size:=Nat.sub_le _ _
                simp only[Atr.c1,EZ,O8]
                omega
            · rw[Cr Ava] at Fh
              go_wp2
              go_region_o
              go_wp2
              go_region_o
              go_wp2_with (go_at_call 24;refine (Any.Builder_WriteByte_k BF Rg W1.heap.size W1.heap.size _ _ _ SI (by omega) Aiq).mono ?_)
              rintro e2 W3 ⟨rfl,i3,b3,_⟩
              go_wp2
              have Ab2:=JY.below b3 hB1
              refine⟨⟨m,out++[(bb.toNat:Int)],l,Fh,by simp at hn;omega,Ih hoB (fun x hx=>by simp at hx;omega),by simp at hol ⊢;omega,hSl.tail,Ab2,D8.below (b3.mono hw1) h.lt,Nat.le_trans Aiq b3.size,by rw[KW];exact Or.inr i3⟩,?_⟩
              simp only[Ab2.c1,EZ,O8]
              omega
end
section
open Go.Proofs.Tryd (prog)
open Go.IntKind (wrap)
set_option maxRecDepth 100000
open Go Go.RowKit
theorem DW {t:ByteArray}:∀(n:Nat)(out l:List Int),C7 t l->C7 t (Hm n out l).2
  |0,_,_,h=>h
  |_+1,_,[],h=>h
  |n+1,out,c::l,h=>by
    have e:Hm (n+1) out (c::l)=if c<32 then (none,c::l) else if c=34 then (some out,l) else if c=92 then
        (match Lp l with
         |(some x,r')=>Hm n (out++Lib.encodeRuneZ x) r'
         |(none,r')=>(none,r')) else Hm n (out++[c]) l:=rfl
    rw[e]
    split
    · exact h
    split
    · exact h.tail
    split
    · have h2:=P3 h.tail
      rcases hq:Lp l with⟨o,r⟩
      rw[hq] at h2
      cases o with
      |none=>exact h2
      |some x=>exact DW n _ r h2
    · exact DW n _ l h.tail
theorem Gn {t:ByteArray}{l:List Int}(h:C7 t l):C7 t (Eo l).2:=by
 cases l with
 |nil=>exact h
 |cons c l=>
  have e:Eo (c::l)=if c=34 then Hm (l.length+1) [] l else (none,c::l):=rfl
  rw[e];split
  ·exact DW _ _ _ h.tail
  ·exact h
theorem Ach {w w':World}{Y:Nat->Prop}{bt:V6}{vs vs':List Value}{us:List Value}{b o:Nat}{a c:Value}(hi:Ins w Y bt [.pbox (vs.map .sc)] us) (hb:bt 0 0=some (b,o)) (hk:Ee w w' b o vs.length)(hl:vs'.length=vs.length)
  (hc:∀j v,vs'[j]?=some v->w'.cell? ⟨b,o+j,none⟩=some v) (hf:∀j,j<vs.length->w'.frozen? ⟨b,o+j,none⟩=false):
  Out w w' Y bt [.pbox (vs.map .sc)] (fun _=>none) ⟨[.sc a,.sc c],[vs'.map .sc]⟩ [a,c] where
 os:=hk.os
 tape:=hk.tape
 output:=hk.output
 ext:=⟨hk.size,fun k h Ei=>hk.other k h (fun e=>Ei (by rw[e];exact⟨0,0,o,hb⟩)),fun k h=>by
  by_cases e:k=b
  ·rw[e];exact hk.grow
  ·exact Gf.same (hk.other k h e)⟩
 rng:=fun k j h hn=>by
  by_cases e:k=b
  ·subst e
   have hj:j<o∨o+vs.length<=j:=by
    rcases Nat.lt_or_ge j o with h1|h1
    ·exact .inl h1
    ·rcases Nat.lt_or_ge j (o+vs.length) with h2|h2
     ·exact absurd ⟨0,_,rfl,.inr ⟨o,vs.map .sc,hb,h1,.inl ⟨rfl,by rw[List.length_map];exact h2⟩⟩⟩ hn
     ·exact .inr h2
   exact⟨hk.cells j hj,hk.frz j hj⟩
  ·have:=hk.other k h e;exact⟨by unfold World.cell?;simp only[this],by unfold World.frozen?;simp only[this]⟩
 vals:=⟨Au.sc a,Au.sc c,trivial⟩
 outs:=⟨⟨b,o,hb,by rw[List.length_map,List.length_map,hl],vs',Qw,hc,fun k h=>hf k (by rw[List.length_map,hl] at h;exact h)⟩,rfl⟩
 fresh:=fun j b o h=>by cases h
 inj:=fun j j' b o o' h=>by cases h
theorem Aa7 (G:S2)(args:List PV)(res:Ay)(h:Adi args=some res):C4 G prog 68 args res:=by
 refine⟨⟨_,Tryd.func68,by kernel_rfl⟩,fun w Y bt us hi _ _=>?_⟩
 unfold Adi at h;split at h
 rotate_left
 ·cases h
 rename_i t p;cases hq:(decide (0<=p)&&decide (p<=t.size)&&Nat.ble t.size 1000000)
 ·rw[hq] at h;cases h
 rw[hq,cond_true] at h;simp only[Bool.and_eq_true,decide_eq_true_eq] at hq;obtain⟨⟨Gw,Cd⟩,hm⟩:=hq;have hm:=Nat.le_of_ble_eq_true hm;obtain⟨p,rfl⟩:=Int.eq_ofNat_of_zero_le Gw;rw[O8] at h;have hS:C7 t ((E4 t).drop p):=(C7.all t).drop p
 have Ads:(Bs t ((E4 t).drop p):Int)=(p:Int):=by
  unfold Bs;rw[List.length_drop,Nj];omega
 have ps:=hi.args
 match us,ps with
 |[u1],ps=>
  obtain⟨b,o,hb,rfl,_,vs,AE,Cp,hfr⟩:=ps.1;have O9:=Qv (vs:=[.string t,.int .i64 (p:Int)]) AE;subst O9;have hat:Vs w b o t ((E4 t).drop p):=⟨hi.lt b ⟨0,0,o,hb⟩,Cp 0 _ rfl,by rw[Ads];exact Cp 1 _ rfl,hfr 0 (Nat.zero_lt_succ _),hfr 1 (Nat.succ_lt_succ (Nat.zero_lt_succ _))⟩
  refine (QO hS hm hat).mono ?_
  rintro e w' ⟨rfl,JY,hk⟩
  rcases hx:Eo ((E4 t).drop p) with⟨o2,r2⟩;rw[hx] at h JY
  have HH:r2.length<=t.size:=by
   have:=Gn hS;rw[hx] at this;exact this.len
  have Art:(Bs t r2:Int)=(t.size:Int)-r2.length:=by
   unfold Bs;omega
  have S4:∀a c:Value,Out w w' Y bt [.pbox ([Value.string t,.int .i64 (p:Int)].map .sc)] (fun _=>none) ⟨[.sc a,.sc c],[[Value.string t,.int .i64 ((t.size:Int)-r2.length)].map .sc]⟩ [a,c]:=by
   intro a c;refine Ach hi hb hk rfl ?_ ?_
   ·intro j v hv
    match j,hv with
    |0,hv=>cases hv;exact JY.c0
    |1,hv=>cases hv;rw[←Art];exact JY.c1
   ·intro j hj
    match j,hj with
    |0,_=>exact JY.f0
    |1,_=>exact JY.f1
  cases o2 with
  |none=>
   cases h;exact⟨[.string ⟨#[]⟩,.bool false],fun _=>none,rfl,S4 _ _⟩
  |some s=>
   cases h;exact⟨[.string (Ab s),.bool true],fun _=>none,rfl,S4 _ _⟩
 |[],ps=>exact ps.elim
 |_::_::_,ps=>exact ps.2.elim
end
section
open Go.Proofs.Tryd (prog)
open Go.IntKind (wrap)
set_option maxRecDepth 100000
abbrev Jz:FuncId:=27
theorem J7 {p:Option (List PV->Option Ay)} (fu d:Nat)(a0:ByteArray)(a1:Int):Ae (CP p) prog fu (d+1) Jz [.sc (.string a0),.sc (.int .u8 a1)]=(fun (call:Ax)=>Ah (call 40 [.sc (.string a0),.sc (.int .u8 a1)]) fun x1 x2=>Ad x2<|Aa x1 fun x3 x4=>Ak .i64 x3 fun x5=>Ad x4<|some (Ay.mk [.sc (.int .i64 x5)] [])) (Ae (CP p) prog fu d):=by kernel_rfl
abbrev Fl:FuncId:=50
noncomputable def C5 (fu:Nat)(call:Ax)(B1:ByteArray)(Bu:Int)(nn:Nat)(y0:ByteArray)(y1:Int):Option Ay:=H9 CB prog fu call 50 Tryd.f50 (F1 Tryd.f50) [.pbox [.sc (.string B1),.sc (.int .i64 Bu)]] [.l] nn ⟨lk [(0,(.ptr 64000 0))],Jt [(64000,(.st [(.sc (.string y0)),(.sc (.int .i64 y1))]))]⟩
theorem Ey (fu:Nat)(call:Ax)(B1:ByteArray)(Bu:Int)(nn:Nat)(y0:ByteArray)(y1:Int):C5 fu call B1 Bu (nn+1) y0 y1=(Bf (decide (y1<(↑(ByteArray.size y0):Int))) (Be (decide (0<=y1))<|Do ((Array.toList (ByteArray.data y0))[Int.toNat y1]?) fun x1=>Ah (call 27 [.sc (.string (ByteArray.mk #[32,9,10,13])),.sc (.int .u8 (↑(UInt8.toNat x1):Int))]) fun x2 x3=>Ad x3<|Aa x2 fun x4 x5=>Ak .i64 x4 fun x6=>Ad x5<|Bf (decide (x6>=0)) (Ac (wrap .i64 (y1+1)) fun x7=>C5 fu call B1 Bu (nn) (y0) x7) (some (Ay.mk [] [[.sc (.string y0),.sc (.int .i64 y1)]]))) (some (Ay.mk [] [[.sc (.string y0),.sc (.int .i64 y1)]]))):=by kernel_rfl
theorem I9 {p:Option (List PV->Option Ay)} (fu d:Nat)(B1:ByteArray)(Bu:Int):Ae (CP p) prog fu (d+1) Fl [.pbox [.sc (.string B1),.sc (.int .i64 Bu)]]=(fun (call:Ax)=>C5 fu call B1 Bu (fu) (B1) (Bu)) (Ae (CP p) prog fu d):=by kernel_rfl
abbrev E8:FuncId:=107
noncomputable def Cu (fu:Nat)(call:Ax)(B1:ByteArray)(Bu:Int)(nn:Nat)(y0:Int)(y1:ByteArray)(y2:Int):Option Ay:=H9 CB prog fu call 107 Tryd.f107 (F1 Tryd.f107) [.pbox [.sc (.string B1),.sc (.int .i64 Bu)]] [.r,.r,.l,.l] nn ⟨lk [(0,(.ptr 58000 0)),(3,(.sc (.int .i64 y0)))],Jt [(58000,(.st [(.sc (.string y1)),(.sc (.int .i64 y2))]))]⟩
theorem Et (fu:Nat)(call:Ax)(B1:ByteArray)(Bu:Int)(nn:Nat)(y0:Int)(y1:ByteArray)(y2:Int):Cu fu call B1 Bu (nn+1) y0 y1 y2=(Ah (call 90 [.pbox [.sc (.string y1),.sc (.int .i64 y2)]]) fun x1 x2=>Aa x1 fun x3 x4=>Ak .u8 x3 fun x5=>Ad x4<|Aa x2 fun x6 x7=>Aa x6 fun x8 x9=>Az x8 fun F9=>Aa x9 fun M8 Nw=>Ak .i64 M8 fun Fv=>Ad Nw<|Ad x7<|Bf (decide (x5>=48)) (Ah (call 90 [.pbox [.sc (.string F9),.sc (.int .i64 Fv)]]) fun Ks Oa=>Aa Ks fun Ka Km=>Ak .u8 Ka fun Nl=>Ad Km<|Aa Oa fun Lg Mv=>Aa Lg fun Mu Ov=>Az Mu fun Lv=>Aa Ov fun Ly Mr=>Ak .i64 Ly fun Oh=>Ad Mr<|Ad Mv<|Bf (decide (Nl<=57)) (Ac (wrap .i64 (Oh+1)) fun O3=>Cu fu call B1 Bu (nn) (y0) Lv O3) (some (Ay.mk [.sc (.bool (decide (Oh>y0)))] [[.sc (.string Lv),.sc (.int .i64 Oh)]]))) (some (Ay.mk [.sc (.bool (decide (Fv>y0)))] [[.sc (.string F9),.sc (.int .i64 Fv)]]))):=by kernel_rfl
theorem Ie {p:Option (List PV->Option Ay)} (fu d:Nat)(B1:ByteArray)(Bu:Int):Ae (CP p) prog fu (d+1) E8 [.pbox [.sc (.string B1),.sc (.int .i64 Bu)]]=(fun (call:Ax)=>Cu fu call B1 Bu (fu) (Bu) (B1) (Bu)) (Ae (CP p) prog fu d):=by kernel_rfl
abbrev Fe:FuncId:=92
theorem Ag {p:Option (List PV->Option Ay)} (fu d:Nat)(B1:ByteArray)(Bu:Int):Ae (CP p) prog fu (d+1) Fe [.pbox [.sc (.string B1),.sc (.int .i64 Bu)]]=(fun (call:Ax)=>Ah (call 67 [.pbox [.sc (.string B1),.sc (.int .i64 Bu)],.sc (.string (ByteArray.mk #[45]))]) fun x1 x2=>Aa x1 fun x3 x4=>Ao x3 fun x5=>Ad x4<|Aa x2 fun x6 x7=>Aa x6 fun x8 x9=>Az x8 fun F9=>Aa x9 fun M8 Nw=>Ak .i64 M8 fun Fv=>Ad Nw<|Ad x7<|Ah (call 67 [.pbox [.sc (.string F9),.sc (.int .i64 Fv)],.sc (.string (ByteArray.mk #[48]))]) fun Ks Oa=>Aa Ks fun Ka Km=>Ao Ka fun Nl=>Ad Km<|Aa Oa fun Lg Mv=>Aa Lg fun Mu Ov=>Az Mu fun Lv=>Aa Ov fun Ly Mr=>Ak .i64 Ly fun Oh=>Ad Mr<|Ad Mv<|Bf (!Nl) (Ah (call 107 [.pbox [.sc (.string Lv),.sc (.int .i64 Oh)]]) fun O3 Pd=>Aa O3 fun N4 Pr=>Ao N4 fun Pq=>Ad Pr<|Aa Pd fun Qo Q1=>Aa Qo fun Qu Ry=>Az Qu fun Q8=>Aa Ry fun Tm Ud=>Ak .i64 Tm fun Q5=>Ad Ud<|Ad Q1<|Bf (!Pq) (some (Ay.mk [.sc (.bool false)] [[.sc (.string Q8),.sc (.int .i64 Q5)]])) (Ah (call 67 [.pbox [.sc (.string Q8),.sc (.int .i64 Q5)],.sc (.string (ByteArray.mk #[46]))]) fun EJ EU=>Aa EJ fun Ps Pe=>Ao Ps fun AN=>Ad Pe<|Aa EU fun Y7 EN=>Aa Y7 fun AH CH=>Az AH fun Zd=>Aa CH fun Za Z4=>Ak .i64 Za fun M3=>Ad Z4<|Ad EN<|Bf AN (Ah (call 107 [.pbox [.sc (.string Zd),.sc (.int .i64 M3)]]) fun Q7 Zm=>Aa Q7 fun FI FD=>Ao FI fun FA=>Ad FD<|Aa Zm fun EV ET=>Aa EV fun FB FN=>Az FB fun MT=>Aa FN fun UF OS=>Ak .i64 UF fun MK=>Ad OS<|Ad ET<|Bf (!FA) (some (Ay.mk [.sc (.bool false)] [[.sc (.string MT),.sc (.int .i64 MK)]])) (Ah (call 67 [.pbox [.sc (.string MT),.sc (.int .i64 MK)],.sc (.string (ByteArray.mk #[101]))]) fun OV MJ=>Aa OV fun RM RZ=>Ao RM fun MS=>Ad RZ<|Aa MJ fun MW LR=>Aa MW fun HL MO=>Az HL fun NB=>Aa MO fun SS UD=>Ak .i64 SS fun RX=>Ad UD<|Ad LR<|Bf MS (Ah (call 67 [.pbox [.sc (.string NB),.sc (.int .i64 RX)],.sc (.string (ByteArray.mk #[43]))]) fun UT LQ=>Aa UT fun RU VW=>Ao RU fun YC=>Ad VW<|Aa LQ fun PH RN=>Aa PH fun XF SJ=>Az XF fun ML=>Aa SJ fun RR TE=>Ak .i64 RR fun RW=>Ad TE<|Ad RN<|Bf (!YC) (Ah (call 67 [.pbox [.sc (.string ML),.sc (.int .i64 RW)],.sc (.string (ByteArray.mk #[45]))]) fun RV TL=>Aa RV fun RQ VO=>Ao RQ fun YK=>Ad VO<|Aa TL fun PU UL=>Aa PU fun VZ Qa=>Az VZ fun Tg=>Aa Qa fun Ru Tk=>Ak .i64 Ru fun Tb=>Ad Tk<|Ad UL<|Ah (call 107 [.pbox [.sc (.string Tg),.sc (.int .i64 Tb)]]) fun Mz R6=>Aa Mz fun Rs V3=>Ao Rs fun Ws=>Ad V3<|Aa R6 fun Ts Xh=>Aa Ts fun Zg Uw=>Az Zg fun Ww=>Aa Uw fun Zr Wg=>Ak .i64 Zr fun Wj=>Ad Wg<|Ad Xh<|some (Ay.mk [.sc (.bool Ws)] [[.sc (.string Ww),.sc (.int .i64 Wj)]])) (Ah (call 107 [.pbox [.sc (.string ML),.sc (.int .i64 RW)]]) fun Wc R1=>Aa Wc fun Rt Wa=>Ao Rt fun X8=>Ad Wa<|Aa R1 fun Sw Wl=>Aa Sw fun X7 Uo=>Az X7 fun U5=>Aa Uo fun Tx Rz=>Ak .i64 Tx fun Vi=>Ad Rz<|Ad Wl<|some (Ay.mk [.sc (.bool X8)] [[.sc (.string U5),.sc (.int .i64 Vi)]]))) (Ah (call 67 [.pbox [.sc (.string NB),.sc (.int .i64 RX)],.sc (.string (ByteArray.mk #[69]))]) fun Wo Xj=>Aa Wo fun Wp Xp=>Ao Wp fun V9=>Ad Xp<|Aa Xj fun X5 Wb=>Aa X5 fun Z1 Xf=>Az Z1 fun Wt=>Aa Xf fun Zh Wv=>Ak .i64 Zh fun Rm=>Ad Wv<|Ad Wb<|Bf V9 (Ah (call 67 [.pbox [.sc (.string Wt),.sc (.int .i64 Rm)],.sc (.string (ByteArray.mk #[43]))]) fun Te Wq=>Aa Te fun U6 Vj=>Ao U6 fun Vb=>Ad Vj<|Aa Wq fun Zp Zq=>Aa Zp fun KE JU=>Az KE fun EH=>Aa JU fun KX LG=>Ak .i64 KX fun GA=>Ad LG<|Ad Zq<|Bf (!Vb) (Ah (call 67 [.pbox [.sc (.string EH),.sc (.int .i64 GA)],.sc (.string (ByteArray.mk #[45]))]) fun TH UU=>Aa TH fun WA TM=>Ao WA fun Aau=>Ad TM<|Aa UU fun VU PD=>Aa VU fun SQ UW=>Az SQ fun QN=>Aa UW fun Abo WB=>Ak .i64 Abo fun VB=>Ad WB<|Ad PD<|Ah (call 107 [.pbox [.sc (.string QN),.sc (.int .i64 VB)]]) fun NG VD=>Aa NG fun SF SN=>Ao SF fun VF=>Ad SN<|Aa VD fun ZT GG=>Aa ZT fun MH TQ=>Az MH fun QF=>Aa TQ fun LF VN=>Ak .i64 LF fun TO=>Ad VN<|Ad GG<|some (Ay.mk [.sc (.bool VF)] [[.sc (.string QF),.sc (.int .i64 TO)]])) (Ah (call 107 [.pbox [.sc (.string EH),.sc (.int .i64 GA)]]) fun TU TJ=>Aa TU fun WI VQ=>Ao WI fun TG=>Ad VQ<|Aa TJ fun TN OI=>Aa TN fun Abx VJ=>Az Abx fun NO=>Aa VJ fun SV US=>Ak .i64 SV fun TV=>Ad US<|Ad OI<|some (Ay.mk [.sc (.bool TG)] [[.sc (.string NO),.sc (.int .i64 TV)]]))) (some (Ay.mk [.sc (.bool true)] [[.sc (.string Wt),.sc (.int .i64 Rm)]]))))) (Ah (call 67 [.pbox [.sc (.string Zd),.sc (.int .i64 M3)],.sc (.string (ByteArray.mk #[101]))]) fun UR Afn=>Aa UR fun Adj Af2=>Ao Adj fun Abg=>Ad Af2<|Aa Afn fun ZG Aa5=>Aa ZG fun Adb Adh=>Az Adb fun VL=>Aa Adh fun Adf Ad8=>Ak .i64 Adf fun Aap=>Ad Ad8<|Ad Aa5<|Bf Abg (Ah (call 67 [.pbox [.sc (.string VL),.sc (.int .i64 Aap)],.sc (.string (ByteArray.mk #[43]))]) fun Af3 Aen=>Aa Af3 fun Agx Ahp=>Ao Agx fun Acy=>Ad Ahp<|Aa Aen fun Add Acw=>Aa Add fun Aed Aej=>Az Aed fun ZF=>Aa Aej fun Ael Agh=>Ak .i64 Ael fun ZQ=>Ad Agh<|Ad Acw<|Bf (!Acy) (Ah (call 67 [.pbox [.sc (.string ZF),.sc (.int .i64 ZQ)],.sc (.string (ByteArray.mk #[45]))]) fun Afi Amt=>Aa Afi fun Am3 Ap4=>Ao Am3 fun Arb=>Ad Ap4<|Aa Amt fun Aoj Apb=>Aa Aoj fun Aoz Amy=>Az Aoz fun Amz=>Aa Amy fun Al3 Apx=>Ak .i64 Al3 fun Apv=>Ad Apx<|Ad Apb<|Ah (call 107 [.pbox [.sc (.string Amz),.sc (.int .i64 Apv)]]) fun Aqa Apz=>Aa Aqa fun Aox Aqd=>Ao Aox fun Ao7=>Ad Aqd<|Aa Apz fun Am6 Aov=>Aa Am6 fun Am4 Aml=>Az Am4 fun Apy=>Aa Aml fun Ano Aho=>Ak .i64 Ano fun Amk=>Ad Aho<|Ad Aov<|some (Ay.mk [.sc (.bool Ao7)] [[.sc (.string Apy),.sc (.int .i64 Amk)]])) (Ah (call 107 [.pbox [.sc (.string ZF),.sc (.int .i64 ZQ)]]) fun Apg Ahi=>Aa Apg fun Ao9 Aqb=>Ao Ao9 fun Am7=>Ad Aqb<|Aa Ahi fun Amo An2=>Aa Amo fun Aoa Apr=>Az Aoa fun Ao3=>Aa Apr fun Aot Aiu=>Ak .i64 Aot fun Apl=>Ad Aiu<|Ad An2<|some (Ay.mk [.sc (.bool Am7)] [[.sc (.string Ao3),.sc (.int .i64 Apl)]]))) (Ah (call 67 [.pbox [.sc (.string VL),.sc (.int .i64 Aap)],.sc (.string (ByteArray.mk #[69]))]) fun Ama Ahw=>Aa Ama fun Apf Aqc=>Ao Apf fun Ams=>Ad Aqc<|Aa Ahw fun Al1 Aob=>Aa Al1 fun Ani Ap1=>Az Ani fun Aj8=>Aa Ap1 fun Aon Ake=>Ak .i64 Aon fun Ajh=>Ad Ake<|Ad Aob<|Bf Ams (Ah (call 67 [.pbox [.sc (.string Aj8),.sc (.int .i64 Ajh)],.sc (.string (ByteArray.mk #[43]))]) fun Ao1 Akc=>Aa Ao1 fun Anl Ao0=>Ao Anl fun Aow=>Ad Ao0<|Aa Akc fun Aop Amn=>Aa Aop fun Apn Al2=>Az Apn fun Aju=>Aa Al2 fun Amp Akg=>Ak .i64 Amp fun Ai6=>Ad Akg<|Ad Amn<|Bf (!Aow) (Ah (call 67 [.pbox [.sc (.string Aju),.sc (.int .i64 Ai6)],.sc (.string (ByteArray.mk #[45]))]) fun Ap8 Ajr=>Aa Ap8 fun Aoe Amm=>Ao Aoe fun Arm=>Ad Amm<|Aa Ajr fun Amv Ami=>Aa Amv fun Aok Ap3=>Az Aok fun Ao4=>Aa Ap3 fun An6 Aj1=>Ak .i64 An6 fun Apc=>Ad Aj1<|Ad Ami<|Ah (call 107 [.pbox [.sc (.string Ao4),.sc (.int .i64 Apc)]]) fun Anc Ajv=>Aa Anc fun Ays A02=>Ao Ays fun Ax3=>Ad A02<|Aa Ajv fun A2u A6n=>Aa A2u fun A4e Ax6=>Az A4e fun Aw7=>Aa Ax6 fun A1q Aym=>Ak .i64 A1q fun Az8=>Ad Aym<|Ad A6n<|some (Ay.mk [.sc (.bool Ax3)] [[.sc (.string Aw7),.sc (.int .i64 Az8)]])) (Ah (call 107 [.pbox [.sc (.string Aju),.sc (.int .i64 Ai6)]]) fun A7q Azw=>Aa A7q fun A29 A32=>Ao A29 fun A6r=>Ad A32<|Aa Azw fun Aw9 A31=>Aa Aw9 fun Ax0 A6v=>Az Ax0 fun Ayp=>Aa A6v fun Awg Ax2=>Ak .i64 Awg fun Azh=>Ad Ax2<|Ad A31<|some (Ay.mk [.sc (.bool A6r)] [[.sc (.string Ayp),.sc (.int .i64 Azh)]]))) (some (Ay.mk [.sc (.bool true)] [[.sc (.string Aj8),.sc (.int .i64 Ajh)]])))))) (Ah (call 67 [.pbox [.sc (.string Lv),.sc (.int .i64 Oh)],.sc (.string (ByteArray.mk #[46]))]) fun A7t A41=>Aa A7t fun A12 A7k=>Ao A12 fun Awk=>Ad A7k<|Aa A41 fun A54 A1l=>Aa A54 fun Ayu A0t=>Az Ayu fun Asv=>Aa A0t fun Az7 A7w=>Ak .i64 Az7 fun Arg=>Ad A7w<|Ad A1l<|Bf Awk (Ah (call 107 [.pbox [.sc (.string Asv),.sc (.int .i64 Arg)]]) fun A1v A4f=>Aa A1v fun A20 A1x=>Ao A20 fun A03=>Ad A1x<|Aa A4f fun A7b A67=>Aa A7b fun A1u A5b=>Az A1u fun Au7=>Aa A5b fun Axk A4b=>Ak .i64 Axk fun Avf=>Ad A4b<|Ad A67<|Bf (!A03) (some (Ay.mk [.sc (.bool false)] [[.sc (.string Au7),.sc (.int .i64 Avf)]])) (Ah (call 67 [.pbox [.sc (.string Au7),.sc (.int .i64 Avf)],.sc (.string (ByteArray.mk #[101]))]) fun Azk A5q=>Aa Azk fun A17 A4j=>Ao A17 fun A4v=>Ad A4j<|Aa A5q fun Ayo A06=>Aa Ayo fun A5d A7s=>Az A5d fun Avc=>Aa A7s fun A6q A6s=>Ak .i64 A6q fun Atd=>Ad A6s<|Ad A06<|Bf A4v (Ah (call 67 [.pbox [.sc (.string Avc),.sc (.int .i64 Atd)],.sc (.string (ByteArray.mk #[43]))]) fun A5t A3b=>Aa A5t fun Aw5 A7c=>Ao Aw5 fun A0i=>Ad A7c<|Aa A3b fun A3q A5z=>Aa A3q fun A1e A0w=>Az A1e fun Avg=>Aa A0w fun A2w A5a=>Ak .i64 A2w fun Aro=>Ad A5a<|Ad A5z<|Bf (!A0i) (Ah (call 67 [.pbox [.sc (.string Avg),.sc (.int .i64 Aro)],.sc (.string (ByteArray.mk #[45]))]) fun Ayb Axd=>Aa Ayb fun A60 A0h=>Ao A60 fun Bbi=>Ad A0h<|Aa Axd fun A58 Aw2=>Aa A58 fun A34 A1w=>Az A34 fun Aw3=>Aa A1w fun Azo A1c=>Ak .i64 Azo fun A0x=>Ad A1c<|Ad Aw2<|Ah (call 107 [.pbox [.sc (.string Aw3),.sc (.int .i64 A0x)]]) fun A28 A5u=>Aa A28 fun Azc Ayt=>Ao Azc fun Axf=>Ad Ayt<|Aa A5u fun A3f A3h=>Aa A3f fun A5w Axs=>Az A5w fun A63=>Aa Axs fun A6y A24=>Ak .i64 A6y fun A56=>Ad A24<|Ad A3h<|some (Ay.mk [.sc (.bool Axf)] [[.sc (.string A63),.sc (.int .i64 A56)]])) (Ah (call 107 [.pbox [.sc (.string Avg),.sc (.int .i64 Aro)]]) fun A6x Aw8=>Aa A6x fun A3t A53=>Ao A3t fun A4u=>Ad A53<|Aa Aw8 fun Axq Ax7=>Aa Axq fun A7v A39=>Az A7v fun Az2=>Aa A39 fun A5m A0u=>Ak .i64 A5m fun A22=>Ad A0u<|Ad Ax7<|some (Ay.mk [.sc (.bool A4u)] [[.sc (.string Az2),.sc (.int .i64 A22)]]))) (Ah (call 67 [.pbox [.sc (.string Avc),.sc (.int .i64 Atd)],.sc (.string (ByteArray.mk #[69]))]) fun Ayq A3n=>Aa Ayq fun Axr A00=>Ao Axr fun A18=>Ad A00<|Aa A3n fun A46 A65=>Aa A46 fun A2x Azt=>Az A2x fun As4=>Aa Azt fun A1j Ayh=>Ak .i64 A1j fun Aso=>Ad Ayh<|Ad A65<|Bf A18 (Ah (call 67 [.pbox [.sc (.string As4),.sc (.int .i64 Aso)],.sc (.string (ByteArray.mk #[43]))]) fun A7u Azj=>Aa A7u fun Ayy A1b=>Ao Ayy fun A1n=>Ad A1b<|Aa Azj fun Aw4 A6m=>Aa Aw4 fun Aza Azp=>Az Aza fun Ash=>Aa Azp fun A0q A44=>Ak .i64 A0q fun Aul=>Ad A44<|Ad A6m<|Bf (!A1n) (Ah (call 67 [.pbox [.sc (.string Ash),.sc (.int .i64 Aul)],.sc (.string (ByteArray.mk #[45]))]) fun A0c A5v=>Aa A0c fun Azu A6b=>Ao Azu fun Baq=>Ad A6b<|Aa A5v fun A6e Awr=>Aa A6e fun A3w A5g=>Az A3w fun A45=>Aa A5g fun Ax1 A23=>Ak .i64 Ax1 fun A3y=>Ad A23<|Ad Awr<|Ah (call 107 [.pbox [.sc (.string A45),.sc (.int .i64 A3y)]]) fun A3d Ay3=>Aa A3d fun Ay5 Az5=>Ao Ay5 fun A5x=>Ad Az5<|Aa Ay3 fun Az9 A2p=>Aa Az9 fun A4w Axx=>Az A4w fun Awd=>Aa Axx fun A5k A4q=>Ak .i64 A5k fun A4h=>Ad A4q<|Ad A2p<|some (Ay.mk [.sc (.bool A5x)] [[.sc (.string Awd),.sc (.int .i64 A4h)]])) (Ah (call 107 [.pbox [.sc (.string Ash),.sc (.int .i64 Aul)]]) fun A2j A3z=>Aa A2j fun A2o A5f=>Ao A2o fun Axw=>Ad A5f<|Aa A3z fun Axb A6c=>Aa Axb fun Ayz A6w=>Az Ayz fun A16=>Aa A6w fun A1a A2c=>Ak .i64 A1a fun A0b=>Ad A2c<|Ad A6c<|some (Ay.mk [.sc (.bool Axw)] [[.sc (.string A16),.sc (.int .i64 A0b)]]))) (some (Ay.mk [.sc (.bool true)] [[.sc (.string As4),.sc (.int .i64 Aso)]]))))) (Ah (call 67 [.pbox [.sc (.string Asv),.sc (.int .i64 Arg)],.sc (.string (ByteArray.mk #[101]))]) fun A1k A3u=>Aa A1k fun A14 A4g=>Ao A14 fun Awf=>Ad A4g<|Aa A3u fun A2z A3p=>Aa A2z fun Axj Awv=>Az Axj fun Ark=>Aa Awv fun Awi A40=>Ak .i64 Awi fun Att=>Ad A40<|Ad A3p<|Bf Awf (Ah (call 67 [.pbox [.sc (.string Ark),.sc (.int .i64 Att)],.sc (.string (ByteArray.mk #[43]))]) fun A6z A2a=>Aa A6z fun Axy Aww=>Ao Axy fun A5n=>Ad Aww<|Aa A2a fun Azq A3e=>Aa Azq fun Axl A61=>Az Axl fun Arw=>Aa A61 fun A4l A6o=>Ak .i64 A4l fun Auw=>Ad A6o<|Ad A3e<|Bf (!A5n) (Ah (call 67 [.pbox [.sc (.string Arw),.sc (.int .i64 Auw)],.sc (.string (ByteArray.mk #[45]))]) fun A5i Ay6=>Aa A5i fun A57 Azm=>Ao A57 fun Bbb=>Ad Azm<|Aa Ay6 fun A2e A26=>Aa A2e fun A6t A7h=>Az A6t fun Azs=>Aa A7h fun Ayn A3i=>Ak .i64 Ayn fun Axc=>Ad A3i<|Ad A26<|Ah (call 107 [.pbox [.sc (.string Azs),.sc (.int .i64 Axc)]]) fun A7g A62=>Aa A7g fun A27 A08=>Ao A27 fun A4o=>Ad A08<|Aa A62 fun A0l A3j=>Aa A0l fun A3x A7d=>Az A3x fun Axu=>Aa A7d fun A0d A50=>Ak .i64 A0d fun A48=>Ad A50<|Ad A3j<|some (Ay.mk [.sc (.bool A4o)] [[.sc (.string Axu),.sc (.int .i64 A48)]])) (Ah (call 107 [.pbox [.sc (.string Arw),.sc (.int .i64 Auw)]]) fun A5c A2g=>Aa A5c fun Aw0 Awx=>Ao Aw0 fun Ay1=>Ad Awx<|Aa A2g fun Ayk Awh=>Aa Ayk fun Ax8 A1d=>Az Ax8 fun A1m=>Aa A1d fun Axp Awn=>Ak .i64 Axp fun A4i=>Ad Awn<|Ad Awh<|some (Ay.mk [.sc (.bool Ay1)] [[.sc (.string A1m),.sc (.int .i64 A4i)]]))) (Ah (call 67 [.pbox [.sc (.string Ark),.sc (.int .i64 Att)],.sc (.string (ByteArray.mk #[69]))]) fun A5l A33=>Aa A5l fun Axg A13=>Ao Axg fun Awu=>Ad A13<|Aa A33 fun Ayl A6h=>Aa Ayl fun A7e Axv=>Az A7e fun Aun=>Aa Axv fun A19 A0v=>Ak .i64 A19 fun Au2=>Ad A0v<|Ad A6h<|Bf Awu (Ah (call 67 [.pbox [.sc (.string Aun),.sc (.int .i64 Au2)],.sc (.string (ByteArray.mk #[43]))]) fun A4m A6k=>Aa A4m fun Azb Axh=>Ao Azb fun A3v=>Ad Axh<|Aa A6k fun A7a A6f=>Aa A7a fun A0j A25=>Az A0j fun Asc=>Aa A25 fun Aws A35=>Ak .i64 Aws fun Au9=>Ad A35<|Ad A6f<|Bf (!A3v) (Ah (call 67 [.pbox [.sc (.string Asc),.sc (.int .i64 Au9)],.sc (.string (ByteArray.mk #[45]))]) fun A5p A0m=>Aa A5p fun Awz A5s=>Ao Awz fun Bam=>Ad A5s<|Aa A0m fun Ax9 A2q=>Aa Ax9 fun A05 A1o=>Az A05 fun Ay0=>Aa A1o fun Azf A5y=>Ak .i64 Azf fun A0o=>Ad A5y<|Ad A2q<|Ah (call 107 [.pbox [.sc (.string Ay0),.sc (.int .i64 A0o)]]) fun A6u A1h=>Aa A6u fun Awj A68=>Ao Awj fun A0p=>Ad A68<|Aa A1h fun Az4 A0e=>Aa Az4 fun A4p Azd=>Az A4p fun Awe=>Aa Azd fun A2n A3g=>Ak .i64 A2n fun Aya=>Ad A3g<|Ad A0e<|some (Ay.mk [.sc (.bool A0p)] [[.sc (.string Awe),.sc (.int .i64 Aya)]])) (Ah (call 107 [.pbox [.sc (.string Asc),.sc (.int .i64 Au9)]]) fun Ayf A4z=>Aa Ayf fun Ax5 A43=>Ao Ax5 fun A51=>Ad A43<|Aa A4z fun Ay2 Ayj=>Aa Ay2 fun A1s Aze=>Az A1s fun A4d=>Aa Aze fun A66 A2t=>Ak .i64 A66 fun A0a=>Ad A2t<|Ad Ayj<|some (Ay.mk [.sc (.bool A51)] [[.sc (.string A4d),.sc (.int .i64 A0a)]]))) (some (Ay.mk [.sc (.bool true)] [[.sc (.string Aun),.sc (.int .i64 Au2)]])))))) (Ae (CP p) prog fu d):=by kernel_rfl
abbrev I3:FuncId:=91
noncomputable def C3 (fu:Nat)(call:Ax)(B1:ByteArray)(Bu a1:Int)(nn:Nat)(y0:Int)(y1:ByteArray)(y2:Int):Option Ay:=H9 CB prog fu call 91 Tryd.f91 (F1 Tryd.f91) [.pbox [.sc (.string B1),.sc (.int .i64 Bu)],.sc (.int .i64 a1)] [.r,.r,.r,.r,.l] nn ⟨lk [(0,(.ptr 64000 0)),(1,(.sc (.int .i64 y0)))],Jt [(64000,(.st [(.sc (.string y1)),(.sc (.int .i64 y2))]))]⟩
theorem Hr (fu:Nat)(call:Ax)(B1:ByteArray)(Bu a1:Int)(nn:Nat)(y0:Int)(y1:ByteArray)(y2:Int):C3 fu call B1 Bu a1 (nn+1) y0 y1 y2=(Ah (call 69 [.pbox [.sc (.string y1),.sc (.int .i64 y2)],.sc (.int .i64 y0)]) fun Tm Ud=>Aa Tm fun Q5 EJ=>E3 Q5 fun EU=>Aa EU fun Ps Pe=>Ak .i64 Ps fun AN=>Aa Pe fun Y7 EN=>Az Y7 fun AH=>Aa EN fun CH Zd=>Ao CH fun Za=>Ad Zd<|Aa EJ fun Z4 M3=>Ak .i64 Z4 fun Q7=>Ad M3<|Aa Ud fun Zm FI=>Aa Zm fun FD FA=>Az FD fun EV=>Aa FA fun ET FB=>Ak .i64 ET fun FN=>Ad FB<|Ad FI<|Bf (Q7 != 0) (some (Ay.mk [.sc (.int .i64 Q7)] [[.sc (.string EV),.sc (.int .i64 FN)]])) (Ah (call 50 [.pbox [.sc (.string EV),.sc (.int .i64 FN)]]) fun MT UF=>Ad MT<|Aa UF fun OS MK=>Aa OS fun OV MJ=>Az OV fun RM=>Aa MJ fun RZ MS=>Ak .i64 RZ fun MW=>Ad MS<|Ad MK<|Ah (call 67 [.pbox [.sc (.string RM),.sc (.int .i64 MW)],.sc (.string (ByteArray.mk #[93]))]) fun LR HL=>Aa LR fun MO NB=>Ao MO fun SS=>Ad NB<|Aa HL fun UD RX=>Aa UD fun UT LQ=>Az UT fun RU=>Aa LQ fun VW YC=>Ak .i64 VW fun PH=>Ad YC<|Ad RX<|Bf SS (some (Ay.mk [.sc (.int .i64 0)] [[.sc (.string RU),.sc (.int .i64 PH)]])) (Ah (call 67 [.pbox [.sc (.string RU),.sc (.int .i64 PH)],.sc (.string (ByteArray.mk #[44]))]) fun RN XF=>Aa RN fun SJ ML=>Ao SJ fun RR=>Ad ML<|Aa XF fun TE RW=>Aa TE fun RV TL=>Az RV fun RQ=>Aa TL fun VO YK=>Ak .i64 VO fun PU=>Ad YK<|Ad RW<|Bf (!RR) (some (Ay.mk [.sc (.int .i64 2)] [[.sc (.string RQ),.sc (.int .i64 PU)]])) (Ah (call 50 [.pbox [.sc (.string RQ),.sc (.int .i64 PU)]]) fun UL VZ=>Ad UL<|Aa VZ fun Qa Tg=>Aa Qa fun Ru Tk=>Az Ru fun Tb=>Aa Tk fun Mz R6=>Ak .i64 Mz fun Rs=>Ad R6<|Ad Tg<|C3 fu call B1 Bu a1 (nn) (y0) Tb Rs)))):=by kernel_rfl
theorem I0 {p:Option (List PV->Option Ay)} (fu d:Nat)(B1:ByteArray)(Bu a1:Int):Ae (CP p) prog fu (d+1) I3 [.pbox [.sc (.string B1),.sc (.int .i64 Bu)],.sc (.int .i64 a1)]=(fun (call:Ax)=>Ah (call 67 [.pbox [.sc (.string B1),.sc (.int .i64 Bu)],.sc (.string (ByteArray.mk #[91]))]) fun x1 x2=>Aa x1 fun x3 x4=>Ao x3 fun x5=>Ad x4<|Aa x2 fun x6 x7=>Aa x6 fun x8 x9=>Az x8 fun F9=>Aa x9 fun M8 Nw=>Ak .i64 M8 fun Fv=>Ad Nw<|Ad x7<|Bf (!x5) (some (Ay.mk [.sc (.int .i64 2)] [[.sc (.string F9),.sc (.int .i64 Fv)]])) (Ah (call 50 [.pbox [.sc (.string F9),.sc (.int .i64 Fv)]]) fun Ks Oa=>Ad Ks<|Aa Oa fun Ka Km=>Aa Ka fun Nl Lg=>Az Nl fun Mv=>Aa Lg fun Mu Ov=>Ak .i64 Mu fun Lv=>Ad Ov<|Ad Km<|Ah (call 67 [.pbox [.sc (.string Mv),.sc (.int .i64 Lv)],.sc (.string (ByteArray.mk #[93]))]) fun Ly Mr=>Aa Ly fun Oh O3=>Ao Oh fun Pd=>Ad O3<|Aa Mr fun N4 Pr=>Aa N4 fun Pq Qo=>Az Pq fun Q1=>Aa Qo fun Qu Ry=>Ak .i64 Qu fun Q8=>Ad Ry<|Ad Pr<|Bf Pd (some (Ay.mk [.sc (.int .i64 0)] [[.sc (.string Q1),.sc (.int .i64 Q8)]])) (C3 fu call B1 Bu a1 (fu) (a1) Q1 Q8))) (Ae (CP p) prog fu d):=by kernel_rfl
abbrev Im:FuncId:=51
noncomputable def Ct (fu:Nat)(call:Ax)(B1:ByteArray)(Bu a1:Int)(nn:Nat)(y0:Int)(y1:ByteArray)(y2:Int):Option Ay:=H9 CB prog fu call 51 Tryd.f51 (F1 Tryd.f51) [.pbox [.sc (.string B1),.sc (.int .i64 Bu)],.sc (.int .i64 a1),.sc (Value.map none)] [.r,.r,.r,.r,.l] nn ⟨lk [(0,(.ptr 128000 0)),(1,(.sc (.int .i64 y0))),(2,(.sc (Value.map none)))],Jt [(128000,(.st [(.sc (.string y1)),(.sc (.int .i64 y2))]))]⟩
theorem Hn (fu:Nat)(call:Ax)(B1:ByteArray)(Bu a1:Int)(nn:Nat)(y0:Int)(y1:ByteArray)(y2:Int):Ct fu call B1 Bu a1 (nn+1) y0 y1 y2=(Ah (call 68 [.pbox [.sc (.string y1),.sc (.int .i64 y2)]]) fun Tm Ud=>Aa Tm fun Q5 EJ=>Az Q5 fun EU=>Aa EJ fun Ps Pe=>Ao Ps fun AN=>Ad Pe<|Aa Ud fun Y7 EN=>Aa Y7 fun AH CH=>Az AH fun Zd=>Aa CH fun Za Z4=>Ak .i64 Za fun M3=>Ad Z4<|Ad EN<|Bf (!AN) (some (Ay.mk [.sc (.int .i64 2)] [[.sc (.string Zd),.sc (.int .i64 M3)]])) (Ah (call 50 [.pbox [.sc (.string Zd),.sc (.int .i64 M3)]]) fun Q7 Zm=>Ad Q7<|Aa Zm fun FI FD=>Aa FI fun FA EV=>Az FA fun ET=>Aa EV fun FB FN=>Ak .i64 FB fun MT=>Ad FN<|Ad FD<|Ah (call 67 [.pbox [.sc (.string ET),.sc (.int .i64 MT)],.sc (.string (ByteArray.mk #[58]))]) fun UF OS=>Aa UF fun MK OV=>Ao MK fun MJ=>Ad OV<|Aa OS fun RM RZ=>Aa RM fun MS MW=>Az MS fun LR=>Aa MW fun HL MO=>Ak .i64 HL fun NB=>Ad MO<|Ad RZ<|Bf (!MJ) (some (Ay.mk [.sc (.int .i64 2)] [[.sc (.string LR),.sc (.int .i64 NB)]])) (Ah (call 50 [.pbox [.sc (.string LR),.sc (.int .i64 NB)]]) fun SS UD=>Ad SS<|Aa UD fun RX UT=>Aa RX fun LQ RU=>Az LQ fun VW=>Aa RU fun YC PH=>Ak .i64 YC fun RN=>Ad PH<|Ad UT<|Ah (call 69 [.pbox [.sc (.string VW),.sc (.int .i64 RN)],.sc (.int .i64 y0)]) fun XF SJ=>Aa XF fun ML RR=>E3 ML fun TE=>Aa TE fun RW RV=>Ak .i64 RW fun TL=>Aa RV fun RQ VO=>Az RQ fun YK=>Aa VO fun PU UL=>Ao PU fun VZ=>Ad UL<|Aa RR fun Qa Tg=>Ak .i64 Qa fun Ru=>Ad Tg<|Aa SJ fun Tk Tb=>Aa Tk fun Mz R6=>Az Mz fun Rs=>Aa R6 fun V3 Ws=>Ak .i64 V3 fun Ts=>Ad Ws<|Ad Tb<|Bf (Ru != 0) (some (Ay.mk [.sc (.int .i64 Ru)] [[.sc (.string Rs),.sc (.int .i64 Ts)]])) (Ah (call 50 [.pbox [.sc (.string Rs),.sc (.int .i64 Ts)]]) fun Xh Zg=>Ad Xh<|Aa Zg fun Uw Ww=>Aa Uw fun Zr Wg=>Az Zr fun Wj=>Aa Wg fun Wc R1=>Ak .i64 Wc fun Rt=>Ad R1<|Ad Ww<|Ah (call 67 [.pbox [.sc (.string Wj),.sc (.int .i64 Rt)],.sc (.string (ByteArray.mk #[125]))]) fun Wa X8=>Aa Wa fun Sw Wl=>Ao Sw fun X7=>Ad Wl<|Aa X8 fun Uo U5=>Aa Uo fun Tx Rz=>Az Tx fun Vi=>Aa Rz fun Wo Xj=>Ak .i64 Wo fun Wp=>Ad Xj<|Ad U5<|Bf X7 (some (Ay.mk [.sc (.int .i64 0)] [[.sc (.string Vi),.sc (.int .i64 Wp)]])) (Ah (call 67 [.pbox [.sc (.string Vi),.sc (.int .i64 Wp)],.sc (.string (ByteArray.mk #[44]))]) fun Xp V9=>Aa Xp fun X5 Wb=>Ao X5 fun Z1=>Ad Wb<|Aa V9 fun Xf Wt=>Aa Xf fun Zh Wv=>Az Zh fun Rm=>Aa Wv fun Te Wq=>Ak .i64 Te fun U6=>Ad Wq<|Ad Wt<|Bf (!Z1) (some (Ay.mk [.sc (.int .i64 2)] [[.sc (.string Rm),.sc (.int .i64 U6)]])) (Ah (call 50 [.pbox [.sc (.string Rm),.sc (.int .i64 U6)]]) fun Vj Vb=>Ad Vj<|Aa Vb fun Zp Zq=>Aa Zp fun KE JU=>Az KE fun EH=>Aa JU fun KX LG=>Ak .i64 KX fun GA=>Ad LG<|Ad Zq<|Ct fu call B1 Bu a1 (nn) (y0) EH GA)))))):=by kernel_rfl
theorem Ik {p:Option (List PV->Option Ay)} (fu d:Nat)(B1:ByteArray)(Bu a1:Int):Ae (CP p) prog fu (d+1) Im [.pbox [.sc (.string B1),.sc (.int .i64 Bu)],.sc (.int .i64 a1),.sc (Value.map none)]=(fun (call:Ax)=>Ah (call 67 [.pbox [.sc (.string B1),.sc (.int .i64 Bu)],.sc (.string (ByteArray.mk #[123]))]) fun x1 x2=>Aa x1 fun x3 x4=>Ao x3 fun x5=>Ad x4<|Aa x2 fun x6 x7=>Aa x6 fun x8 x9=>Az x8 fun F9=>Aa x9 fun M8 Nw=>Ak .i64 M8 fun Fv=>Ad Nw<|Ad x7<|Bf (!x5) (some (Ay.mk [.sc (.int .i64 2)] [[.sc (.string F9),.sc (.int .i64 Fv)]])) (Ah (call 50 [.pbox [.sc (.string F9),.sc (.int .i64 Fv)]]) fun Ks Oa=>Ad Ks<|Aa Oa fun Ka Km=>Aa Ka fun Nl Lg=>Az Nl fun Mv=>Aa Lg fun Mu Ov=>Ak .i64 Mu fun Lv=>Ad Ov<|Ad Km<|Ah (call 67 [.pbox [.sc (.string Mv),.sc (.int .i64 Lv)],.sc (.string (ByteArray.mk #[125]))]) fun Ly Mr=>Aa Ly fun Oh O3=>Ao Oh fun Pd=>Ad O3<|Aa Mr fun N4 Pr=>Aa N4 fun Pq Qo=>Az Pq fun Q1=>Aa Qo fun Qu Ry=>Ak .i64 Qu fun Q8=>Ad Ry<|Ad Pr<|Bf Pd (some (Ay.mk [.sc (.int .i64 0)] [[.sc (.string Q1),.sc (.int .i64 Q8)]])) (Ct fu call B1 Bu a1 (fu) (a1) Q1 Q8))) (Ae (CP p) prog fu d):=by kernel_rfl
abbrev I7:FuncId:=69
theorem B2 {p:Option (List PV->Option Ay)} (fu d:Nat)(B1:ByteArray)(Bu a1:Int):Ae (CP p) prog fu (d+1) I7 [.pbox [.sc (.string B1),.sc (.int .i64 Bu)],.sc (.int .i64 a1)]=(fun (call:Ax)=>Ah (call 90 [.pbox [.sc (.string B1),.sc (.int .i64 Bu)]]) fun x1 x2=>Aa x1 fun x3 x4=>Ak .u8 x3 fun x5=>Ad x4<|Aa x2 fun x6 x7=>Aa x6 fun x8 x9=>Az x8 fun F9=>Aa x9 fun M8 Nw=>Ak .i64 M8 fun Fv=>Ad Nw<|Ad x7<|Bf (x5==123) (Bf (decide (a1>8)) (some (Ay.mk [.agg [.sc (.int .i64 0),.sc (.string (ByteArray.mk #[])),.sc (.bool false)],.sc (.int .i64 5)] [[.sc (.string F9),.sc (.int .i64 Fv)]])) (Bf (x5==123) (Ac (wrap .i64 (a1+1)) fun Ks=>Ah (call 51 [.pbox [.sc (.string F9),.sc (.int .i64 Fv)],.sc (.int .i64 Ks),.sc (Value.map none)]) fun Oa Ka=>Aa Oa fun Km Nl=>Ak .i64 Km fun Lg=>Ad Nl<|Aa Ka fun Mv Mu=>Aa Mv fun Ov Lv=>Az Ov fun Ly=>Aa Lv fun Mr Oh=>Ak .i64 Mr fun O3=>Ad Oh<|Ad Mu<|some (Ay.mk [.agg [.sc (.int .i64 6),.sc (.string (ByteArray.mk #[])),.sc (.bool false)],.sc (.int .i64 Lg)] [[.sc (.string Ly),.sc (.int .i64 O3)]])) (Bf (x5==91) (Ac (wrap .i64 (a1+1)) fun Pd=>Ah (call 91 [.pbox [.sc (.string F9),.sc (.int .i64 Fv)],.sc (.int .i64 Pd)]) fun N4 Pr=>Aa N4 fun Pq Qo=>Ak .i64 Pq fun Q1=>Ad Qo<|Aa Pr fun Qu Ry=>Aa Qu fun Q8 Tm=>Az Q8 fun Ud=>Aa Tm fun Q5 EJ=>Ak .i64 Q5 fun EU=>Ad EJ<|Ad Ry<|some (Ay.mk [.agg [.sc (.int .i64 5),.sc (.string (ByteArray.mk #[])),.sc (.bool false)],.sc (.int .i64 Q1)] [[.sc (.string Ud),.sc (.int .i64 EU)]])) (Bf (x5==34) (Ah (call 68 [.pbox [.sc (.string F9),.sc (.int .i64 Fv)]]) fun Ps Pe=>Aa Ps fun AN Y7=>Az AN fun EN=>Aa Y7 fun AH CH=>Ao AH fun Zd=>Ad CH<|Aa Pe fun Za Z4=>Aa Za fun M3 Q7=>Az M3 fun Zm=>Aa Q7 fun FI FD=>Ak .i64 FI fun FA=>Ad FD<|Ad Z4<|Bf Zd (some (Ay.mk [.agg [.sc (.int .i64 4),.sc (.string EN),.sc (.bool false)],.sc (.int .i64 0)] [[.sc (.string Zm),.sc (.int .i64 FA)]])) (some (Ay.mk [.agg [.sc (.int .i64 0),.sc (.string (ByteArray.mk #[])),.sc (.bool false)],.sc (.int .i64 2)] [[.sc (.string Zm),.sc (.int .i64 FA)]]))) (Ah (call 67 [.pbox [.sc (.string F9),.sc (.int .i64 Fv)],.sc (.string (ByteArray.mk #[116,114,117,101]))]) fun EV ET=>Aa EV fun FB FN=>Ao FB fun MT=>Ad FN<|Aa ET fun UF OS=>Aa UF fun MK OV=>Az MK fun MJ=>Aa OV fun RM RZ=>Ak .i64 RM fun MS=>Ad RZ<|Ad OS<|Bf MT (some (Ay.mk [.agg [.sc (.int .i64 2),.sc (.string (ByteArray.mk #[])),.sc (.bool true)],.sc (.int .i64 0)] [[.sc (.string MJ),.sc (.int .i64 MS)]])) (Ah (call 67 [.pbox [.sc (.string MJ),.sc (.int .i64 MS)],.sc (.string (ByteArray.mk #[102,97,108,115,101]))]) fun MW LR=>Aa MW fun HL MO=>Ao HL fun NB=>Ad MO<|Aa LR fun SS UD=>Aa SS fun RX UT=>Az RX fun LQ=>Aa UT fun RU VW=>Ak .i64 RU fun YC=>Ad VW<|Ad UD<|Bf NB (some (Ay.mk [.agg [.sc (.int .i64 2),.sc (.string (ByteArray.mk #[])),.sc (.bool false)],.sc (.int .i64 0)] [[.sc (.string LQ),.sc (.int .i64 YC)]])) (Ah (call 67 [.pbox [.sc (.string LQ),.sc (.int .i64 YC)],.sc (.string (ByteArray.mk #[110,117,108,108]))]) fun PH RN=>Aa PH fun XF SJ=>Ao XF fun ML=>Ad SJ<|Aa RN fun RR TE=>Aa RR fun RW RV=>Az RW fun TL=>Aa RV fun RQ VO=>Ak .i64 RQ fun YK=>Ad VO<|Ad TE<|Bf ML (some (Ay.mk [.agg [.sc (.int .i64 1),.sc (.string (ByteArray.mk #[])),.sc (.bool false)],.sc (.int .i64 0)] [[.sc (.string TL),.sc (.int .i64 YK)]])) (Ah (call 92 [.pbox [.sc (.string TL),.sc (.int .i64 YK)]]) fun PU UL=>Aa PU fun VZ Qa=>Ao VZ fun Tg=>Ad Qa<|Aa UL fun Ru Tk=>Aa Ru fun Tb Mz=>Az Tb fun R6=>Aa Mz fun Rs V3=>Ak .i64 Rs fun Ws=>Ad V3<|Ad Tk<|Bf Tg (some (Ay.mk [.agg [.sc (.int .i64 3),.sc (.string (ByteArray.mk #[])),.sc (.bool false)],.sc (.int .i64 0)] [[.sc (.string R6),.sc (.int .i64 Ws)]])) (some (Ay.mk [.agg [.sc (.int .i64 0),.sc (.string (ByteArray.mk #[])),.sc (.bool false)],.sc (.int .i64 2)] [[.sc (.string R6),.sc (.int .i64 Ws)]])))))))))) (Bf (x5==91) (Bf (decide (a1>8)) (some (Ay.mk [.agg [.sc (.int .i64 0),.sc (.string (ByteArray.mk #[])),.sc (.bool false)],.sc (.int .i64 5)] [[.sc (.string F9),.sc (.int .i64 Fv)]])) (Bf (x5==123) (Ac (wrap .i64 (a1+1)) fun Ts=>Ah (call 51 [.pbox [.sc (.string F9),.sc (.int .i64 Fv)],.sc (.int .i64 Ts),.sc (Value.map none)]) fun Xh Zg=>Aa Xh fun Uw Ww=>Ak .i64 Uw fun Zr=>Ad Ww<|Aa Zg fun Wg Wj=>Aa Wg fun Wc R1=>Az Wc fun Rt=>Aa R1 fun Wa X8=>Ak .i64 Wa fun Sw=>Ad X8<|Ad Wj<|some (Ay.mk [.agg [.sc (.int .i64 6),.sc (.string (ByteArray.mk #[])),.sc (.bool false)],.sc (.int .i64 Zr)] [[.sc (.string Rt),.sc (.int .i64 Sw)]])) (Bf (x5==91) (Ac (wrap .i64 (a1+1)) fun Wl=>Ah (call 91 [.pbox [.sc (.string F9),.sc (.int .i64 Fv)],.sc (.int .i64 Wl)]) fun X7 Uo=>Aa X7 fun U5 Tx=>Ak .i64 U5 fun Rz=>Ad Tx<|Aa Uo fun Vi Wo=>Aa Vi fun Xj Wp=>Az Xj fun Xp=>Aa Wp fun V9 X5=>Ak .i64 V9 fun Wb=>Ad X5<|Ad Wo<|some (Ay.mk [.agg [.sc (.int .i64 5),.sc (.string (ByteArray.mk #[])),.sc (.bool false)],.sc (.int .i64 Rz)] [[.sc (.string Xp),.sc (.int .i64 Wb)]])) (Bf (x5==34) (Ah (call 68 [.pbox [.sc (.string F9),.sc (.int .i64 Fv)]]) fun Z1 Xf=>Aa Z1 fun Wt Zh=>Az Wt fun Wv=>Aa Zh fun Rm Te=>Ao Rm fun Wq=>Ad Te<|Aa Xf fun U6 Vj=>Aa U6 fun Vb Zp=>Az Vb fun Zq=>Aa Zp fun KE JU=>Ak .i64 KE fun EH=>Ad JU<|Ad Vj<|Bf Wq (some (Ay.mk [.agg [.sc (.int .i64 4),.sc (.string Wv),.sc (.bool false)],.sc (.int .i64 0)] [[.sc (.string Zq),.sc (.int .i64 EH)]])) (some (Ay.mk [.agg [.sc (.int .i64 0),.sc (.string (ByteArray.mk #[])),.sc (.bool false)],.sc (.int .i64 2)] [[.sc (.string Zq),.sc (.int .i64 EH)]]))) (Ah (call 67 [.pbox [.sc (.string F9),.sc (.int .i64 Fv)],.sc (.string (ByteArray.mk #[116,114,117,101]))]) fun KX LG=>Aa KX fun GA TH=>Ao GA fun UU=>Ad TH<|Aa LG fun WA TM=>Aa WA fun Aau VU=>Az Aau fun PD=>Aa VU fun SQ UW=>Ak .i64 SQ fun QN=>Ad UW<|Ad TM<|Bf UU (some (Ay.mk [.agg [.sc (.int .i64 2),.sc (.string (ByteArray.mk #[])),.sc (.bool true)],.sc (.int .i64 0)] [[.sc (.string PD),.sc (.int .i64 QN)]])) (Ah (call 67 [.pbox [.sc (.string PD),.sc (.int .i64 QN)],.sc (.string (ByteArray.mk #[102,97,108,115,101]))]) fun Abo WB=>Aa Abo fun VB NG=>Ao VB fun VD=>Ad NG<|Aa WB fun SF SN=>Aa SF fun VF ZT=>Az VF fun GG=>Aa ZT fun MH TQ=>Ak .i64 MH fun QF=>Ad TQ<|Ad SN<|Bf VD (some (Ay.mk [.agg [.sc (.int .i64 2),.sc (.string (ByteArray.mk #[])),.sc (.bool false)],.sc (.int .i64 0)] [[.sc (.string GG),.sc (.int .i64 QF)]])) (Ah (call 67 [.pbox [.sc (.string GG),.sc (.int .i64 QF)],.sc (.string (ByteArray.mk #[110,117,108,108]))]) fun LF VN=>Aa LF fun TO TU=>Ao TO fun TJ=>Ad TU<|Aa VN fun WI VQ=>Aa WI fun TG TN=>Az TG fun OI=>Aa TN fun Abx VJ=>Ak .i64 Abx fun NO=>Ad VJ<|Ad VQ<|Bf TJ (some (Ay.mk [.agg [.sc (.int .i64 1),.sc (.string (ByteArray.mk #[])),.sc (.bool false)],.sc (.int .i64 0)] [[.sc (.string OI),.sc (.int .i64 NO)]])) (Ah (call 92 [.pbox [.sc (.string OI),.sc (.int .i64 NO)]]) fun SV US=>Aa SV fun TV UR=>Ao TV fun Afn=>Ad UR<|Aa US fun Adj Af2=>Aa Adj fun Abg ZG=>Az Abg fun Aa5=>Aa ZG fun Adb Adh=>Ak .i64 Adb fun VL=>Ad Adh<|Ad Af2<|Bf Afn (some (Ay.mk [.agg [.sc (.int .i64 3),.sc (.string (ByteArray.mk #[])),.sc (.bool false)],.sc (.int .i64 0)] [[.sc (.string Aa5),.sc (.int .i64 VL)]])) (some (Ay.mk [.agg [.sc (.int .i64 0),.sc (.string (ByteArray.mk #[])),.sc (.bool false)],.sc (.int .i64 2)] [[.sc (.string Aa5),.sc (.int .i64 VL)]])))))))))) (Bf (x5==123) (Ac (wrap .i64 (a1+1)) fun Adf=>Ah (call 51 [.pbox [.sc (.string F9),.sc (.int .i64 Fv)],.sc (.int .i64 Adf),.sc (Value.map none)]) fun Ad8 Aap=>Aa Ad8 fun Af3 Aen=>Ak .i64 Af3 fun Agx=>Ad Aen<|Aa Aap fun Ahp Acy=>Aa Ahp fun Add Acw=>Az Add fun Aed=>Aa Acw fun Aej ZF=>Ak .i64 Aej fun Ael=>Ad ZF<|Ad Acy<|some (Ay.mk [.agg [.sc (.int .i64 6),.sc (.string (ByteArray.mk #[])),.sc (.bool false)],.sc (.int .i64 Agx)] [[.sc (.string Aed),.sc (.int .i64 Ael)]])) (Bf (x5==91) (Ac (wrap .i64 (a1+1)) fun Agh=>Ah (call 91 [.pbox [.sc (.string F9),.sc (.int .i64 Fv)],.sc (.int .i64 Agh)]) fun ZQ Afi=>Aa ZQ fun Amt Am3=>Ak .i64 Amt fun Ap4=>Ad Am3<|Aa Afi fun Arb Aoj=>Aa Arb fun Apb Aoz=>Az Apb fun Amy=>Aa Aoz fun Amz Al3=>Ak .i64 Amz fun Apx=>Ad Al3<|Ad Aoj<|some (Ay.mk [.agg [.sc (.int .i64 5),.sc (.string (ByteArray.mk #[])),.sc (.bool false)],.sc (.int .i64 Ap4)] [[.sc (.string Amy),.sc (.int .i64 Apx)]])) (Bf (x5==34) (Ah (call 68 [.pbox [.sc (.string F9),.sc (.int .i64 Fv)]]) fun Apv Aqa=>Aa Apv fun Apz Aox=>Az Apz fun Aqd=>Aa Aox fun Ao7 Am6=>Ao Ao7 fun Aov=>Ad Am6<|Aa Aqa fun Am4 Aml=>Aa Am4 fun Apy Ano=>Az Apy fun Aho=>Aa Ano fun Amk Apg=>Ak .i64 Amk fun Ahi=>Ad Apg<|Ad Aml<|Bf Aov (some (Ay.mk [.agg [.sc (.int .i64 4),.sc (.string Aqd),.sc (.bool false)],.sc (.int .i64 0)] [[.sc (.string Aho),.sc (.int .i64 Ahi)]])) (some (Ay.mk [.agg [.sc (.int .i64 0),.sc (.string (ByteArray.mk #[])),.sc (.bool false)],.sc (.int .i64 2)] [[.sc (.string Aho),.sc (.int .i64 Ahi)]]))) (Ah (call 67 [.pbox [.sc (.string F9),.sc (.int .i64 Fv)],.sc (.string (ByteArray.mk #[116,114,117,101]))]) fun Ao9 Aqb=>Aa Ao9 fun Am7 Amo=>Ao Am7 fun An2=>Ad Amo<|Aa Aqb fun Aoa Apr=>Aa Aoa fun Ao3 Aot=>Az Ao3 fun Aiu=>Aa Aot fun Apl Ama=>Ak .i64 Apl fun Ahw=>Ad Ama<|Ad Apr<|Bf An2 (some (Ay.mk [.agg [.sc (.int .i64 2),.sc (.string (ByteArray.mk #[])),.sc (.bool true)],.sc (.int .i64 0)] [[.sc (.string Aiu),.sc (.int .i64 Ahw)]])) (Ah (call 67 [.pbox [.sc (.string Aiu),.sc (.int .i64 Ahw)],.sc (.string (ByteArray.mk #[102,97,108,115,101]))]) fun Apf Aqc=>Aa Apf fun Ams Al1=>Ao Ams fun Aob=>Ad Al1<|Aa Aqc fun Ani Ap1=>Aa Ani fun Aj8 Aon=>Az Aj8 fun Ake=>Aa Aon fun Ajh Ao1=>Ak .i64 Ajh fun Akc=>Ad Ao1<|Ad Ap1<|Bf Aob (some (Ay.mk [.agg [.sc (.int .i64 2),.sc (.string (ByteArray.mk #[])),.sc (.bool false)],.sc (.int .i64 0)] [[.sc (.string Ake),.sc (.int .i64 Akc)]])) (Ah (call 67 [.pbox [.sc (.string Ake),.sc (.int .i64 Akc)],.sc (.string (ByteArray.mk #[110,117,108,108]))]) fun Anl Ao0=>Aa Anl fun Aow Aop=>Ao Aow fun Amn=>Ad Aop<|Aa Ao0 fun Apn Al2=>Aa Apn fun Aju Amp=>Az Aju fun Akg=>Aa Amp fun Ai6 Ap8=>Ak .i64 Ai6 fun Ajr=>Ad Ap8<|Ad Al2<|Bf Amn (some (Ay.mk [.agg [.sc (.int .i64 1),.sc (.string (ByteArray.mk #[])),.sc (.bool false)],.sc (.int .i64 0)] [[.sc (.string Akg),.sc (.int .i64 Ajr)]])) (Ah (call 92 [.pbox [.sc (.string Akg),.sc (.int .i64 Ajr)]]) fun Aoe Amm=>Aa Aoe fun Arm Amv=>Ao Arm fun Ami=>Ad Amv<|Aa Amm fun Aok Ap3=>Aa Aok fun Ao4 An6=>Az Ao4 fun Aj1=>Aa An6 fun Apc Anc=>Ak .i64 Apc fun Ajv=>Ad Anc<|Ad Ap3<|Bf Ami (some (Ay.mk [.agg [.sc (.int .i64 3),.sc (.string (ByteArray.mk #[])),.sc (.bool false)],.sc (.int .i64 0)] [[.sc (.string Aj1),.sc (.int .i64 Ajv)]])) (some (Ay.mk [.agg [.sc (.int .i64 0),.sc (.string (ByteArray.mk #[])),.sc (.bool false)],.sc (.int .i64 2)] [[.sc (.string Aj1),.sc (.int .i64 Ajv)]]))))))))))) (Ae (CP p) prog fu d):=by kernel_rfl
end
section
open Go.Proofs.Tryd (prog)
open Go.IntKind (wrap)
theorem Aoh:∀n:Fin 256,decide (Lib.indexByte [32,9,10,13] (n.val:Int).toNat.toUInt8>=0)=Rr (n.val:Int):=by decide +kernel
theorem Asp {c:Int}(h0:0<=c)(h1:c<=255):decide (Lib.indexByte [32,9,10,13] c.toNat.toUInt8>=0)=Rr c:=by
 obtain⟨n,rfl⟩:=Int.eq_ofNat_of_zero_le h0;exact Aoh ⟨n,by omega⟩
theorem Bp {t:ByteArray}:∀{l:List Int},C7 t l->C7 t (Bb l)
 |[],h=>h
 |c::l,h=>by
  unfold Bb;split
  ·exact Bp h.tail
  ·exact h
theorem P6:∀(l:List Int),(Bb l).length<=l.length
 |[]=>Nat.le_refl _
 |c::l=>by
  unfold Bb;split
  ·exact Nat.le_succ_of_le (P6 l)
  ·exact Nat.le_refl _
section
variable {fu d:Nat}
theorem Asa (s:ByteArray)(c:Int):Ae C0 prog fu (d+2) Jz [.sc (.string s),.sc (.int .u8 c)]=some ⟨[.sc (.int .i64 (Lib.indexByte s.data.toList c.toNat.toUInt8))],[]⟩:=by
 have e:Ae C0 prog fu (d+1) 40 [.sc (.string s),.sc (.int .u8 c)]=some ⟨[.sc (.int .i64 (Lib.indexByte s.data.toList c.toNat.toUInt8))],[]⟩:=rfl;rw[J7];simp only[Dg,e]
theorem GS {t s0:ByteArray}{p0:Int}(ht:t.size<=1000000):∀(r:List Int)(nn:Nat),r.length+1<=nn->C7 t r ->
  C5 fu (Ae C0 prog fu (d+2)) s0 p0 nn t (Bs t r:Int)=some ⟨[],[Bx t (Bb r)]⟩
 |[],nn,Q3,h=>by
  obtain⟨k,rfl⟩:∃k,nn=k+1:=⟨nn-1,by omega⟩
  have e:decide ((Bs t []:Int)<(t.size:Int))=false:=by simp[Uu]
  rw[Ey];simp only[Dg,e];rfl
 |c::r,nn,Q3,h=>by
  obtain⟨k,rfl⟩:∃k,nn=k+1:=⟨nn-1,by omega⟩
  have ih:=GS (s0:=s0) (p0:=p0) ht r k (by simp at Q3;omega) h.tail
  have hc:=h.B c (by simp)
  have hl:=h.len;have hp:=Ko h
  have e6:wrap .i64 ((Bs t (c::r):Int)+1)=(Bs t r:Int):=by
   rw[hp,Bd (by unfold Bs;omega) (by unfold Bs;omega)];omega
  have Tn:Bs t (c::r)<t.size:=by
   unfold Bs;rw[LB] at hl ⊢;omega
  obtain⟨b,hb,rfl⟩:=h.at;have e:decide ((Bs t ((b.toNat:Int)::r):Int)<(t.size:Int))=true:=by simp;omega
  have e2:decide ((0:Int)<=(Bs t ((b.toNat:Int)::r):Int))=true:=by simp
  rw[←O8 (Bs t ((b.toNat:Int)::r))] at hb;have ix:Ae C0 prog fu (d+2) 27 [.sc (.string (ByteArray.mk #[(32:UInt8),(9:UInt8),(10:UInt8),(13:UInt8)])),.sc (.int .u8 (b.toNat:Int))]=some ⟨[.sc (.int .i64 (Lib.indexByte [32,9,10,13] (b.toNat:Int).toNat.toUInt8))],[]⟩:=Asa _ _;have hw:=Asp hc.1 hc.2;rw[Ey];cases hq:Rr (b.toNat:Int)
  ·rw[hq] at hw
   have es:Bb ((b.toNat:Int)::r)=(b.toNat:Int)::r:=by
    show (if Rr _=true then _ else _)=_
    rw[hq];rfl
   rw[es];simp only[Dg,e,e2,hb,ix,hw]
  ·rw[hq] at hw
   have es:Bb ((b.toNat:Int)::r)=Bb r:=by
    show (if Rr _=true then _ else _)=_
    rw[hq];rfl
   rw[es];simp only[Dg,e,e2,hb,ix,hw,e6,ih]
theorem Oc {t:ByteArray}{r:List Int}(h:C7 t r)(ht:t.size<=1000000)(E9:t.size+1<=fu):Ae C0 prog fu (d+3) Fl [.pbox (Bx t r)]=some ⟨[],[Bx t (Bb r)]⟩:=by
 rw[I9];exact GS ht r fu (by have:=h.len;omega) h
theorem IJ {t:ByteArray}:∀{l:List Int},C7 t l->C7 t (I6 l)
 |[],h=>h
 |c::l,h=>by
  unfold I6;split
  ·exact IJ h.tail
  ·exact h
theorem GT:∀(l:List Int),(I6 l).length<=l.length
 |[]=>Nat.le_refl _
 |c::l=>by
  unfold I6;split
  ·exact Nat.le_succ_of_le (GT l)
  ·exact Nat.le_refl _
theorem Yo {t s0:ByteArray}{p0 y0:Int}(ht:t.size<=1000000):∀(r:List Int)(nn:Nat),r.length+1<=nn->C7 t r ->
  Cu fu (Ae C0 prog fu (d+1)) s0 p0 nn y0 t (Bs t r:Int)=some ⟨[.sc (.bool (decide ((Bs t (I6 r):Int)>y0)))],[Bx t (I6 r)]⟩
 |[],nn,Q3,h=>by
  obtain⟨k,rfl⟩:∃k,nn=k+1:=⟨nn-1,by omega⟩
  have pk:Ae C0 prog fu (d+1) 90 [.pbox (Bx t [])]=some ⟨[.sc (.int .u8 0)],[Bx t []]⟩:=Lj (xs:=xs0) h;have e:decide ((0:Int)>=48)=false:=rfl;rw[Et];simp only[Dg,pk,e];rfl
 |c::r,nn,Q3,h=>by
  obtain⟨k,rfl⟩:∃k,nn=k+1:=⟨nn-1,by omega⟩
  have ih:=Yo (s0:=s0) (p0:=p0) (y0:=y0) ht r k (by simp at Q3;omega) h.tail
  have hc:=h.B c (by simp)
  have hl:=h.len;have hp:=Ko h
  have e6:wrap .i64 ((Bs t (c::r):Int)+1)=(Bs t r:Int):=by
   rw[hp,Bd (by unfold Bs;omega) (by unfold Bs;omega)];omega
  have pk:Ae C0 prog fu (d+1) 90 [.pbox (Bx t (c::r))]=some ⟨[.sc (.int .u8 c)],[Bx t (c::r)]⟩:=Lj (xs:=xs0) h;have ed:I6 (c::r)=if dgS c=true then I6 r else c::r:=rfl
  rw[Et,ed];by_cases h1:48<=c
  ·have e1:decide (c>=48)=true:=by simp;omega
   by_cases h2:c<=57
   ·have e2:decide (c<=57)=true:=by simp;omega
    have e3:dgS c=true:=by simp[dgS];omega
    rw[Dw e3];simp only[Dg,pk,e1,e2,e6,ih]
   ·have e2:decide (c<=57)=false:=by simp;omega
    have e3:¬dgS c=true:=by simp[dgS];omega
    rw[Cr e3];simp only[Dg,pk,e1,e2]
  ·have e1:decide (c>=48)=false:=by simp;omega
   have e3:¬dgS c=true:=by simp[dgS];omega
   rw[Cr e3];simp only[Dg,pk,e1]
def Asl (t:ByteArray)(r:List Int)(o:Option (List Int)):Ay:=⟨[.sc (.bool o.isSome)],[Bx t (o.getD r)]⟩
theorem Dq {t:ByteArray}{r:List Int}(h:C7 t r)(ht:t.size<=1000000)(E9:t.size+1<=fu):Ae C0 prog fu (d+2) E8 [.pbox (Bx t r)]=some (Asl t r (Cf r)):=by
 rw[Ie];refine (Yo ht r fu (by have:=h.len;omega) h).trans ?_
 cases r with
 |nil=>
  have e:decide ((Bs t (I6 []):Int)>(Bs t []:Int))=false:=by simp[I6]
  rw[e];rfl
 |cons c r=>
  have hl:=h.len;have hp:=Ko h;have ed:I6 (c::r)=if dgS c=true then I6 r else c::r:=rfl
  have eg:Cf (c::r)=if dgS c=true then some (I6 r) else none:=rfl
  rw[ed,eg];have hd:=GT r;by_cases q:dgS c=true
  ·rw[Dw q,Dw q]
   have e:decide ((Bs t (I6 r):Int)>(Bs t (c::r):Int))=true:=by
    rw[LB] at hl;simp only[gt_iff_lt,decide_eq_true_eq];unfold Bs;rw[LB];omega
   rw[e];rfl
  ·rw[Cr q,Cr q];have e:decide ((Bs t (c::r):Int)>(Bs t (c::r):Int))=false:=by simp
   rw[e];rfl
theorem SD {t:ByteArray}{r:List Int}(c:UInt8)(h:C7 t r)(ht:t.size<=1000000):Ae C0 prog fu (d+3) 67 [.pbox (Bx t r),.sc (.string (ByteArray.mk #[c]))]=some (Asl t r (Aq [(c.toNat:Int)] r)):=by
 have hc:=c.toNat_lt;have e:=Qf (fu:=fu) (d:=d) (xs:=xs0) h ht (w:=[(c.toNat:Int)]) (fun x hx=>by simp at hx;omega) (show 1<=100 by decide)
 have e2:Ab [(c.toNat:Int)]=ByteArray.mk #[c]:=by
  show ByteArray.mk #[((c.toNat:Int)).toNat.toUInt8]=_;rw[O8];simp
 rw[e2] at e;refine e.trans ?_;cases Aq [(c.toNat:Int)] r<;>rfl
theorem D9 (c:Int):∀r:List Int,Aq [c] r=match r with|[]=>none|x::r'=>if x=c then some r' else none
 |[]=>rfl
 |x::r=>by
  unfold Aq;by_cases h:x=c
  ·subst h;rw[Dw (by simp[List.isPrefixOf])]
   simp
  ·rw[Cr (by simp[List.isPrefixOf];exact fun e=>h e.symm)]
   simp[h]
theorem Ar {t:ByteArray}{w r r':List Int}(h:C7 t r)(e:Aq w r=some r'):C7 t r':=by
 unfold Aq at e;split at e
 ·cases e;exact h.drop _
 ·cases e
theorem Xv (c:Int)(r:List Int):Aeb c r=(Aq [c] r).getD r:=by
 rw[D9];cases r with
 |nil=>rfl
 |cons x r=>
  show (if x=c then r else x::r)=_
  split<;>simp_all
theorem ID (r:List Int):Ahh r=match Aq [48] r with|some q=>some q|none=>Cf r:=by
 rw[D9];cases r with
 |nil=>rfl
 |cons x r=>
  show (if x=48 then some r else Cf (x::r))=_
  by_cases h:x=48
  ·rw[Dw h];simp[h]
  ·rw[Cr h];simp[h]
theorem So (r:List Int):CI r=match Aq [46] r with|some q=>(Cf q).bind S0|none=>S0 r:=by
 rw[D9];cases r with
 |nil=>rfl
 |cons x r=>
  show (if x=46 then (Cf r).bind S0 else S0 (x::r))=_
  by_cases h:x=46
  ·rw[Dw h];simp[h]
  ·rw[Cr h];simp[h]
def Lf (r:List Int):Option (List Int):=match Aq [43] r with|some q=>Cf q|none=>Cf ((Aq [45] r).getD r)
theorem Ajl (r:List Int):(match r with|43::r'=>Cf r'|r=>Cf (Aeb 45 r))=Lf r:=by
 unfold Lf;rw[D9 43,←Xv];split
 ·simp
 ·rename_i Ei;cases r with
  |nil=>rfl
  |cons x r=>
   by_cases h:x=43
   ·exact absurd (by rw[h]) (Ei r)
   ·simp[h]
theorem Nq (r:List Int):S0 r=match Aq [101] r with|some q=>Lf q|none=>match Aq [69] r with|some q=>Lf q|none=>some r:=by
 rw[D9,D9];cases r with
 |nil=>rfl
 |cons x r=>
  have e:S0 (x::r)=if x=101∨x=69 then Lf r else some (x::r):=by
   rw[←Ajl];rfl
  rw[e];by_cases h:x=101
  ·rw[Dw (Or.inl h)];simp[h]
  ·by_cases h2:x=69
   ·rw[Dw (Or.inr h2)];simp[h2]
   ·rw[Cr (by omega)];simp[h,h2]
theorem Cv {t:ByteArray}{r r':List Int}(h:C7 t r)(e:Cf r=some r'):C7 t r':=by
 cases r with
 |nil=>cases e
 |cons c r=>
  have eg:Cf (c::r)=if dgS c=true then some (I6 r) else none:=rfl
  rw[eg] at e;split at e
  ·cases e;exact IJ h.tail
  ·cases e
theorem Cg {t:ByteArray}{r:List Int}{o:Option (List Int)} (h:C7 t r)(ho:∀q,o=some q->C7 t q):C7 t (o.getD r):=by
 cases o with
 |none=>exact h
 |some q=>exact ho q rfl
end
end
section
open Go.Proofs.Tryd (prog)
open Go.IntKind (wrap)
section
variable {fu d:Nat}
theorem D6 {t:ByteArray}{r:List Int}(c:UInt8)(n:Int)(hn:(c.toNat:Int)=n) (h:C7 t r)(ht:t.size<=1000000)(hq:Aq [n] r=none):Ae C0 prog fu (d+3) 67 [.pbox (Bx t r),.sc (.string (ByteArray.mk #[c]))]=some ⟨[.sc (.bool false)],[Bx t r]⟩:=by
 subst hn;have e:=SD (fu:=fu) (d:=d) c h ht;rw[hq] at e;exact e
theorem Cs {t:ByteArray}{r q:List Int}(c:UInt8)(n:Int)(hn:(c.toNat:Int)=n) (h:C7 t r)(ht:t.size<=1000000)(hq:Aq [n] r=some q):Ae C0 prog fu (d+3) 67 [.pbox (Bx t r),.sc (.string (ByteArray.mk #[c]))]=some ⟨[.sc (.bool true)],[Bx t q]⟩:=by
 subst hn;have e:=SD (fu:=fu) (d:=d) c h ht;rw[hq] at e;exact e
theorem Kh {t:ByteArray}{r:List Int}(c:UInt8)(n:Int)(hn:(c.toNat:Int)=n) (h:C7 t r)(ht:t.size<=1000000):Ae C0 prog fu (d+3) 67 [.pbox (Bx t r),.sc (.string (ByteArray.mk #[c]))]=some ⟨[.sc (.bool (Aq [n] r).isSome)],[Bx t ((Aq [n] r).getD r)]⟩:=by
 subst hn;exact SD (fu:=fu) (d:=d) c h ht
set_option maxHeartbeats 2000000 in
theorem Ad7 {t:ByteArray}{r:List Int}(h:C7 t r)(ht:t.size<=1000000)(E9:t.size+1<=fu):∃r',C7 t r'∧Ae C0 prog fu (d+4) Fe [.pbox (Bx t r)]=some ⟨[.sc (.bool (Fi r).isSome)],[Bx t r']⟩∧∀q,Fi r=some q->r'=q:=by
 have a0:=Kh (fu:=fu) (d:=d) 45 45 rfl h ht;have hS1:C7 t ((Aq [45] r).getD r):=Cg h fun q e=>Ar h e
 have V8:Fi r=(Ahh ((Aq [45] r).getD r)).bind CI:=by rw[←Xv];rfl
 generalize (Aq [45] r).getD r=r1 at a0 hS1 V8;generalize (Aq [45] r).isSome=b0 at a0;rw[ID] at V8;rcases hz:Aq [48] r1 with _|r2
 ·have F8:=D6 (fu:=fu) (d:=d) 48 48 rfl hS1 ht hz;rw[hz] at V8;have SB:=Dq (d:=d+1) hS1 ht E9;rcases hzd:Cf r1 with _|r2
  ·simp only[hzd] at SB V8;have L9:Ae C0 prog fu (d+3) 107 [.pbox (Bx t r1)]=some ⟨[.sc (.bool false)],[Bx t r1]⟩:=SB;have hn:Fi r=none:=V8;refine⟨r1,hS1,?_,?_⟩
   ·rw[hn,Ag]
    try unfold Ac
    repeat first
     |((with_reducible first|apply A1|apply As|apply A5|apply Av|apply A2|apply At|apply A3|apply A4);· first|with_reducible rfl|(simp (disch:=omega) only[gT,a0,F8,L9,C6,Ds]<;>first|with_reducible rfl|omega)|omega)
     |(with_reducible apply A0;· first|with_reducible rfl|(simp (disch:=omega) only[gF,a0,F8,L9,C6,Ds]<;>omega))
    try simp (disch:=omega) only[a0,F8,L9,C6,Ds]
    try rfl
   ·rw[hn];intro q e;cases e
  ·simp only[hzd] at SB V8;have L9:Ae C0 prog fu (d+3) 107 [.pbox (Bx t r1)]=some ⟨[.sc (.bool true)],[Bx t r2]⟩:=SB;have S8:=Cv hS1 hzd;have FR:Fi r=CI r2:=V8;rw[So] at FR;rcases hdt:Aq [46] r2 with _|r3
   ·have Gm:=D6 (fu:=fu) (d:=d) 46 46 rfl S8 ht hdt;rw[hdt] at FR;have Lc:Fi r=S0 r2:=FR;rw[Nq] at Lc;rcases he:Aq [101] r2 with _|r5
    ·have Gx:=D6 (fu:=fu) (d:=d) 101 101 rfl S8 ht he;rw[he] at Lc;rcases hE:Aq [69] r2 with _|r5
     ·have Mj:=D6 (fu:=fu) (d:=d) 69 69 rfl S8 ht hE;have hn:Fi r=some r2:=by rw[Lc,hE]
      refine⟨r2,S8,?_,?_⟩
      ·rw[hn,Ag]
       try unfold Ac
       repeat first
        |((with_reducible first|apply A1|apply As|apply A5|apply Av|apply A2|apply At|apply A3|apply A4);· first|with_reducible rfl|(simp (disch:=omega) only[gT,a0,F8,L9,Gm,Gx,Mj,C6,Ds]<;>first|with_reducible rfl|omega)|omega)
        |(with_reducible apply A0;· first|with_reducible rfl|(simp (disch:=omega) only[gF,a0,F8,L9,Gm,Gx,Mj,C6,Ds]<;>omega))
       try simp (disch:=omega) only[a0,F8,L9,Gm,Gx,Mj,C6,Ds]
       try rfl
      ·rw[hn];intro q e;cases e;rfl
     ·have Mj:=Cs (fu:=fu) (d:=d) 69 69 rfl S8 ht hE;have H5:=Ar S8 hE;rw[hE] at Lc;simp only at Lc;rcases hp:Aq [43] r5 with _|r6
      ·have Gw:=D6 (fu:=fu) (d:=d) 43 43 rfl H5 ht hp;have Cd:=Kh (fu:=fu) (d:=d) 45 45 rfl H5 ht;have Fz:C7 t ((Aq [45] r5).getD r5):=Cg H5 fun q e=>Ar H5 e
       have hn:Fi r=Cf ((Aq [45] r5).getD r5):=by rw[Lc];unfold Lf;rw[hp]
       generalize (Aq [45] r5).getD r5=r6 at Cd Fz hn;generalize (Aq [45] r5).isSome=b1 at Cd;have hg:Ae C0 prog fu (d+3) 107 [.pbox (Bx t r6)]=some ⟨[.sc (.bool (Cf r6).isSome)],[Bx t ((Cf r6).getD r6)]⟩:=Dq (d:=d+1) Fz ht E9;refine⟨(Cf r6).getD r6,Cg Fz fun q e=>Cv Fz e,?_,?_⟩
       ·rw[hn,Ag]
        try unfold Ac
        repeat first
         |((with_reducible first|apply A1|apply As|apply A5|apply Av|apply A2|apply At|apply A3|apply A4);· first|with_reducible rfl|(simp (disch:=omega) only[gT,a0,F8,L9,Gm,Gx,Mj,Gw,Cd,hg,C6,Ds]<;>first|with_reducible rfl|omega)|omega)
         |(with_reducible apply A0;· first|with_reducible rfl|(simp (disch:=omega) only[gF,a0,F8,L9,Gm,Gx,Mj,Gw,Cd,hg,C6,Ds]<;>omega))
        try simp (disch:=omega) only[a0,F8,L9,Gm,Gx,Mj,Gw,Cd,hg,C6,Ds]
        try rfl
       ·rw[hn];intro q e;rw[e];rfl
      ·have Gw:=Cs (fu:=fu) (d:=d) 43 43 rfl H5 ht hp;have Fz:=Ar H5 hp;have hn:Fi r=Cf r6:=by rw[Lc];unfold Lf;rw[hp]
       have hg:Ae C0 prog fu (d+3) 107 [.pbox (Bx t r6)]=some ⟨[.sc (.bool (Cf r6).isSome)],[Bx t ((Cf r6).getD r6)]⟩:=Dq (d:=d+1) Fz ht E9;refine⟨(Cf r6).getD r6,Cg Fz fun q e=>Cv Fz e,?_,?_⟩
       ·rw[hn,Ag]
        try unfold Ac
        repeat first
         |((with_reducible first|apply A1|apply As|apply A5|apply Av|apply A2|apply At|apply A3|apply A4);· first|with_reducible rfl|(simp (disch:=omega) only[gT,a0,F8,L9,Gm,Gx,Mj,Gw,hg,C6,Ds]<;>first|with_reducible rfl|omega)|omega)
         |(with_reducible apply A0;· first|with_reducible rfl|(simp (disch:=omega) only[gF,a0,F8,L9,Gm,Gx,Mj,Gw,hg,C6,Ds]<;>omega))
        try simp (disch:=omega) only[a0,F8,L9,Gm,Gx,Mj,Gw,hg,C6,Ds]
        try rfl
       ·rw[hn];intro q e;rw[e];rfl
    ·have Gx:=Cs (fu:=fu) (d:=d) 101 101 rfl S8 ht he;have H5:=Ar S8 he;rw[he] at Lc;simp only at Lc;rcases hp:Aq [43] r5 with _|r6
     ·have Gw:=D6 (fu:=fu) (d:=d) 43 43 rfl H5 ht hp;have Cd:=Kh (fu:=fu) (d:=d) 45 45 rfl H5 ht;have Fz:C7 t ((Aq [45] r5).getD r5):=Cg H5 fun q e=>Ar H5 e
      have hn:Fi r=Cf ((Aq [45] r5).getD r5):=by rw[Lc];unfold Lf;rw[hp]
      generalize (Aq [45] r5).getD r5=r6 at Cd Fz hn;generalize (Aq [45] r5).isSome=b1 at Cd;have hg:Ae C0 prog fu (d+3) 107 [.pbox (Bx t r6)]=some ⟨[.sc (.bool (Cf r6).isSome)],[Bx t ((Cf r6).getD r6)]⟩:=Dq (d:=d+1) Fz ht E9;refine⟨(Cf r6).getD r6,Cg Fz fun q e=>Cv Fz e,?_,?_⟩
      ·rw[hn,Ag]
       try unfold Ac
       repeat first
        |((with_reducible first|apply A1|apply As|apply A5|apply Av|apply A2|apply At|apply A3|apply A4);· first|with_reducible rfl|(simp (disch:=omega) only[gT,a0,F8,L9,Gm,Gx,Gw,Cd,hg,C6,Ds]<;>first|with_reducible rfl|omega)|omega)
        |(with_reducible apply A0;· first|with_reducible rfl|(simp (disch:=omega) only[gF,a0,F8,L9,Gm,Gx,Gw,Cd,hg,C6,Ds]<;>omega))
       try simp (disch:=omega) only[a0,F8,L9,Gm,Gx,Gw,Cd,hg,C6,Ds]
       try rfl
      ·rw[hn];intro q e;rw[e];rfl
     ·have Gw:=Cs (fu:=fu) (d:=d) 43 43 rfl H5 ht hp;have Fz:=Ar H5 hp;have hn:Fi r=Cf r6:=by rw[Lc];unfold Lf;rw[hp]
      have hg:Ae C0 prog fu (d+3) 107 [.pbox (Bx t r6)]=some ⟨[.sc (.bool (Cf r6).isSome)],[Bx t ((Cf r6).getD r6)]⟩:=Dq (d:=d+1) Fz ht E9;refine⟨(Cf r6).getD r6,Cg Fz fun q e=>Cv Fz e,?_,?_⟩
      ·rw[hn,Ag]
       try unfold Ac
       repeat first
        |((with_reducible first|apply A1|apply As|apply A5|apply Av|apply A2|apply At|apply A3|apply A4);· first|with_reducible rfl|(simp (disch:=omega) only[gT,a0,F8,L9,Gm,Gx,Gw,hg,C6,Ds]<;>first|with_reducible rfl|omega)|omega)
        |(with_reducible apply A0;· first|with_reducible rfl|(simp (disch:=omega) only[gF,a0,F8,L9,Gm,Gx,Gw,hg,C6,Ds]<;>omega))
       try simp (disch:=omega) only[a0,F8,L9,Gm,Gx,Gw,hg,C6,Ds]
       try rfl
      ·rw[hn];intro q e;rw[e];rfl
   ·have Gm:=Cs (fu:=fu) (d:=d) 46 46 rfl S8 ht hdt;have hS3:=Ar S8 hdt;rw[hdt] at FR;have FR:Fi r=(Cf r3).bind S0:=FR;have hd1:=Dq (d:=d+1) hS3 ht E9;rcases GX:Cf r3 with _|r4
    ·rw[GX] at hd1 FR;have Lu:Ae C0 prog fu (d+3) 107 [.pbox (Bx t r3)]=some ⟨[.sc (.bool false)],[Bx t r3]⟩:=hd1;have hn:Fi r=none:=FR;refine⟨r3,hS3,?_,?_⟩
     ·rw[hn,Ag]
      try unfold Ac
      repeat first
       |((with_reducible first|apply A1|apply As|apply A5|apply Av|apply A2|apply At|apply A3|apply A4);· first|with_reducible rfl|(simp (disch:=omega) only[gT,a0,F8,L9,Gm,Lu,C6,Ds]<;>first|with_reducible rfl|omega)|omega)
       |(with_reducible apply A0;· first|with_reducible rfl|(simp (disch:=omega) only[gF,a0,F8,L9,Gm,Lu,C6,Ds]<;>omega))
      try simp (disch:=omega) only[a0,F8,L9,Gm,Lu,C6,Ds]
      try rfl
     ·rw[hn];intro q e;cases e
    ·rw[GX] at hd1 FR;have Lu:Ae C0 prog fu (d+3) 107 [.pbox (Bx t r3)]=some ⟨[.sc (.bool true)],[Bx t r4]⟩:=hd1;have Z2:=Cv hS3 GX;have Lc:Fi r=S0 r4:=FR;rw[Nq] at Lc;rcases he:Aq [101] r4 with _|r5
     ·have Gx:=D6 (fu:=fu) (d:=d) 101 101 rfl Z2 ht he;rw[he] at Lc;rcases hE:Aq [69] r4 with _|r5
      ·have Mj:=D6 (fu:=fu) (d:=d) 69 69 rfl Z2 ht hE;have hn:Fi r=some r4:=by rw[Lc,hE]
       refine⟨r4,Z2,?_,?_⟩
       ·rw[hn,Ag]
        try unfold Ac
        repeat first
         |((with_reducible first|apply A1|apply As|apply A5|apply Av|apply A2|apply At|apply A3|apply A4);· first|with_reducible rfl|(simp (disch:=omega) only[gT,a0,F8,L9,Gm,Lu,Gx,Mj,C6,Ds]<;>first|with_reducible rfl|omega)|omega)
         |(with_reducible apply A0;· first|with_reducible rfl|(simp (disch:=omega) only[gF,a0,F8,L9,Gm,Lu,Gx,Mj,C6,Ds]<;>omega))
        try simp (disch:=omega) only[a0,F8,L9,Gm,Lu,Gx,Mj,C6,Ds]
        try rfl
       ·rw[hn];intro q e;cases e;rfl
      ·have Mj:=Cs (fu:=fu) (d:=d) 69 69 rfl Z2 ht hE;have H5:=Ar Z2 hE;rw[hE] at Lc;simp only at Lc;rcases hp:Aq [43] r5 with _|r6
       ·have Gw:=D6 (fu:=fu) (d:=d) 43 43 rfl H5 ht hp;have Cd:=Kh (fu:=fu) (d:=d) 45 45 rfl H5 ht;have Fz:C7 t ((Aq [45] r5).getD r5):=Cg H5 fun q e=>Ar H5 e
        have hn:Fi r=Cf ((Aq [45] r5).getD r5):=by rw[Lc];unfold Lf;rw[hp]
        generalize (Aq [45] r5).getD r5=r6 at Cd Fz hn;generalize (Aq [45] r5).isSome=b1 at Cd;have hg:Ae C0 prog fu (d+3) 107 [.pbox (Bx t r6)]=some ⟨[.sc (.bool (Cf r6).isSome)],[Bx t ((Cf r6).getD r6)]⟩:=Dq (d:=d+1) Fz ht E9;refine⟨(Cf r6).getD r6,Cg Fz fun q e=>Cv Fz e,?_,?_⟩
        ·rw[hn,Ag]
         try unfold Ac
         repeat first
          |((with_reducible first|apply A1|apply As|apply A5|apply Av|apply A2|apply At|apply A3|apply A4);· first|with_reducible rfl|(simp (disch:=omega) only[gT,a0,F8,L9,Gm,Lu,Gx,Mj,Gw,Cd,hg,C6,Ds]<;>first|with_reducible rfl|omega)|omega)
          |(with_reducible apply A0;· first|with_reducible rfl|(simp (disch:=omega) only[gF,a0,F8,L9,Gm,Lu,Gx,Mj,Gw,Cd,hg,C6,Ds]<;>omega))
         try simp (disch:=omega) only[a0,F8,L9,Gm,Lu,Gx,Mj,Gw,Cd,hg,C6,Ds]
         try rfl
        ·rw[hn];intro q e;rw[e];rfl
       ·have Gw:=Cs (fu:=fu) (d:=d) 43 43 rfl H5 ht hp;have Fz:=Ar H5 hp;have hn:Fi r=Cf r6:=by rw[Lc];unfold Lf;rw[hp]
        have hg:Ae C0 prog fu (d+3) 107 [.pbox (Bx t r6)]=some ⟨[.sc (.bool (Cf r6).isSome)],[Bx t ((Cf r6).getD r6)]⟩:=Dq (d:=d+1) Fz ht E9;refine⟨(Cf r6).getD r6,Cg Fz fun q e=>Cv Fz e,?_,?_⟩
        ·rw[hn,Ag]
         try unfold Ac
         repeat first
          |((with_reducible first|apply A1|apply As|apply A5|apply Av|apply A2|apply At|apply A3|apply A4);· first|with_reducible rfl|(simp (disch:=omega) only[gT,a0,F8,L9,Gm,Lu,Gx,Mj,Gw,hg,C6,Ds]<;>first|with_reducible rfl|omega)|omega)
          |(with_reducible apply A0;· first|with_reducible rfl|(simp (disch:=omega) only[gF,a0,F8,L9,Gm,Lu,Gx,Mj,Gw,hg,C6,Ds]<;>omega))
         try simp (disch:=omega) only[a0,F8,L9,Gm,Lu,Gx,Mj,Gw,hg,C6,Ds]
         try rfl
        ·rw[hn];intro q e;rw[e];rfl
     ·have Gx:=Cs (fu:=fu) (d:=d) 101 101 rfl Z2 ht he;have H5:=Ar Z2 he;rw[he] at Lc;simp only at Lc;rcases hp:Aq [43] r5 with _|r6
      ·have Gw:=D6 (fu:=fu) (d:=d) 43 43 rfl H5 ht hp;have Cd:=Kh (fu:=fu) (d:=d) 45 45 rfl H5 ht;have Fz:C7 t ((Aq [45] r5).getD r5):=Cg H5 fun q e=>Ar H5 e
       have hn:Fi r=Cf ((Aq [45] r5).getD r5):=by rw[Lc];unfold Lf;rw[hp]
       generalize (Aq [45] r5).getD r5=r6 at Cd Fz hn;generalize (Aq [45] r5).isSome=b1 at Cd;have hg:Ae C0 prog fu (d+3) 107 [.pbox (Bx t r6)]=some ⟨[.sc (.bool (Cf r6).isSome)],[Bx t ((Cf r6).getD r6)]⟩:=Dq (d:=d+1) Fz ht E9;refine⟨(Cf r6).getD r6,Cg Fz fun q e=>Cv Fz e,?_,?_⟩
       ·rw[hn,Ag]
        try unfold Ac
        repeat first
         |((with_reducible first|apply A1|apply As|apply A5|apply Av|apply A2|apply At|apply A3|apply A4);· first|with_reducible rfl|(simp (disch:=omega) only[gT,a0,F8,L9,Gm,Lu,Gx,Gw,Cd,hg,C6,Ds]<;>first|with_reducible rfl|omega)|omega)
         |(with_reducible apply A0;· first|with_reducible rfl|(simp (disch:=omega) only[gF,a0,F8,L9,Gm,Lu,Gx,Gw,Cd,hg,C6,Ds]<;>omega))
        try simp (disch:=omega) only[a0,F8,L9,Gm,Lu,Gx,Gw,Cd,hg,C6,Ds]
        try rfl
       ·rw[hn];intro q e;rw[e];rfl
      ·have Gw:=Cs (fu:=fu) (d:=d) 43 43 rfl H5 ht hp;have Fz:=Ar H5 hp;have hn:Fi r=Cf r6:=by rw[Lc];unfold Lf;rw[hp]
       have hg:Ae C0 prog fu (d+3) 107 [.pbox (Bx t r6)]=some ⟨[.sc (.bool (Cf r6).isSome)],[Bx t ((Cf r6).getD r6)]⟩:=Dq (d:=d+1) Fz ht E9;refine⟨(Cf r6).getD r6,Cg Fz fun q e=>Cv Fz e,?_,?_⟩
       ·rw[hn,Ag]
        try unfold Ac
        repeat first
         |((with_reducible first|apply A1|apply As|apply A5|apply Av|apply A2|apply At|apply A3|apply A4);· first|with_reducible rfl|(simp (disch:=omega) only[gT,a0,F8,L9,Gm,Lu,Gx,Gw,hg,C6,Ds]<;>first|with_reducible rfl|omega)|omega)
         |(with_reducible apply A0;· first|with_reducible rfl|(simp (disch:=omega) only[gF,a0,F8,L9,Gm,Lu,Gx,Gw,hg,C6,Ds]<;>omega))
        try simp (disch:=omega) only[a0,F8,L9,Gm,Lu,Gx,Gw,hg,C6,Ds]
        try rfl
       ·rw[hn];intro q e;rw[e];rfl
 ·have F8:=Cs (fu:=fu) (d:=d) 48 48 rfl hS1 ht hz;rw[hz] at V8;have S8:=Ar hS1 hz;have FR:Fi r=CI r2:=V8;rw[So] at FR;rcases hdt:Aq [46] r2 with _|r3
  ·have Gm:=D6 (fu:=fu) (d:=d) 46 46 rfl S8 ht hdt;rw[hdt] at FR;have Lc:Fi r=S0 r2:=FR;rw[Nq] at Lc;rcases he:Aq [101] r2 with _|r5
   ·have Gx:=D6 (fu:=fu) (d:=d) 101 101 rfl S8 ht he;rw[he] at Lc;rcases hE:Aq [69] r2 with _|r5
    ·have Mj:=D6 (fu:=fu) (d:=d) 69 69 rfl S8 ht hE;have hn:Fi r=some r2:=by rw[Lc,hE]
     refine⟨r2,S8,?_,?_⟩
     ·rw[hn,Ag]
      try unfold Ac
      repeat first
       |((with_reducible first|apply A1|apply As|apply A5|apply Av|apply A2|apply At|apply A3|apply A4);· first|with_reducible rfl|(simp (disch:=omega) only[gT,a0,F8,Gm,Gx,Mj,C6,Ds]<;>first|with_reducible rfl|omega)|omega)
       |(with_reducible apply A0;· first|with_reducible rfl|(simp (disch:=omega) only[gF,a0,F8,Gm,Gx,Mj,C6,Ds]<;>omega))
      try simp (disch:=omega) only[a0,F8,Gm,Gx,Mj,C6,Ds]
      try rfl
     ·rw[hn];intro q e;cases e;rfl
    ·have Mj:=Cs (fu:=fu) (d:=d) 69 69 rfl S8 ht hE;have H5:=Ar S8 hE;rw[hE] at Lc;simp only at Lc;rcases hp:Aq [43] r5 with _|r6
     ·have Gw:=D6 (fu:=fu) (d:=d) 43 43 rfl H5 ht hp;have Cd:=Kh (fu:=fu) (d:=d) 45 45 rfl H5 ht;have Fz:C7 t ((Aq [45] r5).getD r5):=Cg H5 fun q e=>Ar H5 e
      have hn:Fi r=Cf ((Aq [45] r5).getD r5):=by rw[Lc];unfold Lf;rw[hp]
      generalize (Aq [45] r5).getD r5=r6 at Cd Fz hn;generalize (Aq [45] r5).isSome=b1 at Cd;have hg:Ae C0 prog fu (d+3) 107 [.pbox (Bx t r6)]=some ⟨[.sc (.bool (Cf r6).isSome)],[Bx t ((Cf r6).getD r6)]⟩:=Dq (d:=d+1) Fz ht E9;refine⟨(Cf r6).getD r6,Cg Fz fun q e=>Cv Fz e,?_,?_⟩
      ·rw[hn,Ag]
       try unfold Ac
       repeat first
        |((with_reducible first|apply A1|apply As|apply A5|apply Av|apply A2|apply At|apply A3|apply A4);· first|with_reducible rfl|(simp (disch:=omega) only[gT,a0,F8,Gm,Gx,Mj,Gw,Cd,hg,C6,Ds]<;>first|with_reducible rfl|omega)|omega)
        |(with_reducible apply A0;· first|with_reducible rfl|(simp (disch:=omega) only[gF,a0,F8,Gm,Gx,Mj,Gw,Cd,hg,C6,Ds]<;>omega))
       try simp (disch:=omega) only[a0,F8,Gm,Gx,Mj,Gw,Cd,hg,C6,Ds]
       try rfl
      ·rw[hn];intro q e;rw[e];rfl
     ·have Gw:=Cs (fu:=fu) (d:=d) 43 43 rfl H5 ht hp;have Fz:=Ar H5 hp;have hn:Fi r=Cf r6:=by rw[Lc];unfold Lf;rw[hp]
      have hg:Ae C0 prog fu (d+3) 107 [.pbox (Bx t r6)]=some ⟨[.sc (.bool (Cf r6).isSome)],[Bx t ((Cf r6).getD r6)]⟩:=Dq (d:=d+1) Fz ht E9;refine⟨(Cf r6).getD r6,Cg Fz fun q e=>Cv Fz e,?_,?_⟩
      ·rw[hn,Ag]
       try unfold Ac
       repeat first
        |((with_reducible first|apply A1|apply As|apply A5|apply Av|apply A2|apply At|apply A3|apply A4);· first|with_reducible rfl|(simp (disch:=omega) only[gT,a0,F8,Gm,Gx,Mj,Gw,hg,C6,Ds]<;>first|with_reducible rfl|omega)|omega)
        |(with_reducible apply A0;· first|with_reducible rfl|(simp (disch:=omega) only[gF,a0,F8,Gm,Gx,Mj,Gw,hg,C6,Ds]<;>omega))
       try simp (disch:=omega) only[a0,F8,Gm,Gx,Mj,Gw,hg,C6,Ds]
       try rfl
      ·rw[hn];intro q e;rw[e];rfl
   ·have Gx:=Cs (fu:=fu) (d:=d) 101 101 rfl S8 ht he;have H5:=Ar S8 he;rw[he] at Lc;simp only at Lc;rcases hp:Aq [43] r5 with _|r6
    ·have Gw:=D6 (fu:=fu) (d:=d) 43 43 rfl H5 ht hp;have Cd:=Kh (fu:=fu) (d:=d) 45 45 rfl H5 ht;have Fz:C7 t ((Aq [45] r5).getD r5):=Cg H5 fun q e=>Ar H5 e
     have hn:Fi r=Cf ((Aq [45] r5).getD r5):=by rw[Lc];unfold Lf;rw[hp]
     generalize (Aq [45] r5).getD r5=r6 at Cd Fz hn;generalize (Aq [45] r5).isSome=b1 at Cd;have hg:Ae C0 prog fu (d+3) 107 [.pbox (Bx t r6)]=some ⟨[.sc (.bool (Cf r6).isSome)],[Bx t ((Cf r6).getD r6)]⟩:=Dq (d:=d+1) Fz ht E9;refine⟨(Cf r6).getD r6,Cg Fz fun q e=>Cv Fz e,?_,?_⟩
     ·rw[hn,Ag]
      try unfold Ac
      repeat first
       |((with_reducible first|apply A1|apply As|apply A5|apply Av|apply A2|apply At|apply A3|apply A4);· first|with_reducible rfl|(simp (disch:=omega) only[gT,a0,F8,Gm,Gx,Gw,Cd,hg,C6,Ds]<;>first|with_reducible rfl|omega)|omega)
       |(with_reducible apply A0;· first|with_reducible rfl|(simp (disch:=omega) only[gF,a0,F8,Gm,Gx,Gw,Cd,hg,C6,Ds]<;>omega))
      try simp (disch:=omega) only[a0,F8,Gm,Gx,Gw,Cd,hg,C6,Ds]
      try rfl
     ·rw[hn];intro q e;rw[e];rfl
    ·have Gw:=Cs (fu:=fu) (d:=d) 43 43 rfl H5 ht hp;have Fz:=Ar H5 hp;have hn:Fi r=Cf r6:=by rw[Lc];unfold Lf;rw[hp]
     have hg:Ae C0 prog fu (d+3) 107 [.pbox (Bx t r6)]=some ⟨[.sc (.bool (Cf r6).isSome)],[Bx t ((Cf r6).getD r6)]⟩:=Dq (d:=d+1) Fz ht E9;refine⟨(Cf r6).getD r6,Cg Fz fun q e=>Cv Fz e,?_,?_⟩
     ·rw[hn,Ag]
      try unfold Ac
      repeat first
       |((with_reducible first|apply A1|apply As|apply A5|apply Av|apply A2|apply At|apply A3|apply A4);· first|with_reducible rfl|(simp (disch:=omega) only[gT,a0,F8,Gm,Gx,Gw,hg,C6,Ds]<;>first|with_reducible rfl|omega)|omega)
       |(with_reducible apply A0;· first|with_reducible rfl|(simp (disch:=omega) only[gF,a0,F8,Gm,Gx,Gw,hg,C6,Ds]<;>omega))
      try simp (disch:=omega) only[a0,F8,Gm,Gx,Gw,hg,C6,Ds]
      try rfl
     ·rw[hn];intro q e;rw[e];rfl
  ·have Gm:=Cs (fu:=fu) (d:=d) 46 46 rfl S8 ht hdt;have hS3:=Ar S8 hdt;rw[hdt] at FR;have FR:Fi r=(Cf r3).bind S0:=FR;have hd1:=Dq (d:=d+1) hS3 ht E9;rcases GX:Cf r3 with _|r4
   ·rw[GX] at hd1 FR;have Lu:Ae C0 prog fu (d+3) 107 [.pbox (Bx t r3)]=some ⟨[.sc (.bool false)],[Bx t r3]⟩:=hd1;have hn:Fi r=none:=FR;refine⟨r3,hS3,?_,?_⟩
    ·rw[hn,Ag]
     try unfold Ac
     repeat first
      |((with_reducible first|apply A1|apply As|apply A5|apply Av|apply A2|apply At|apply A3|apply A4);· first|with_reducible rfl|(simp (disch:=omega) only[gT,a0,F8,Gm,Lu,C6,Ds]<;>first|with_reducible rfl|omega)|omega)
      |(with_reducible apply A0;· first|with_reducible rfl|(simp (disch:=omega) only[gF,a0,F8,Gm,Lu,C6,Ds]<;>omega))
     try simp (disch:=omega) only[a0,F8,Gm,Lu,C6,Ds]
     try rfl
    ·rw[hn];intro q e;cases e
   ·rw[GX] at hd1 FR;have Lu:Ae C0 prog fu (d+3) 107 [.pbox (Bx t r3)]=some ⟨[.sc (.bool true)],[Bx t r4]⟩:=hd1;have Z2:=Cv hS3 GX;have Lc:Fi r=S0 r4:=FR;rw[Nq] at Lc;rcases he:Aq [101] r4 with _|r5
    ·have Gx:=D6 (fu:=fu) (d:=d) 101 101 rfl Z2 ht he;rw[he] at Lc;rcases hE:Aq [69] r4 with _|r5
     ·have Mj:=D6 (fu:=fu) (d:=d) 69 69 rfl Z2 ht hE;have hn:Fi r=some r4:=by rw[Lc,hE]
      refine⟨r4,Z2,?_,?_⟩
      ·rw[hn,Ag]
       try unfold Ac
       repeat first
        |((with_reducible first|apply A1|apply As|apply A5|apply Av|apply A2|apply At|apply A3|apply A4);· first|with_reducible rfl|(simp (disch:=omega) only[gT,a0,F8,Gm,Lu,Gx,Mj,C6,Ds]<;>first|with_reducible rfl|omega)|omega)
        |(with_reducible apply A0;· first|with_reducible rfl|(simp (disch:=omega) only[gF,a0,F8,Gm,Lu,Gx,Mj,C6,Ds]<;>omega))
       try simp (disch:=omega) only[a0,F8,Gm,Lu,Gx,Mj,C6,Ds]
       try rfl
      ·rw[hn];intro q e;cases e;rfl
     ·have Mj:=Cs (fu:=fu) (d:=d) 69 69 rfl Z2 ht hE;have H5:=Ar Z2 hE;rw[hE] at Lc;simp only at Lc;rcases hp:Aq [43] r5 with _|r6
      ·have Gw:=D6 (fu:=fu) (d:=d) 43 43 rfl H5 ht hp;have Cd:=Kh (fu:=fu) (d:=d) 45 45 rfl H5 ht;have Fz:C7 t ((Aq [45] r5).getD r5):=Cg H5 fun q e=>Ar H5 e
       have hn:Fi r=Cf ((Aq [45] r5).getD r5):=by rw[Lc];unfold Lf;rw[hp]
       generalize (Aq [45] r5).getD r5=r6 at Cd Fz hn;generalize (Aq [45] r5).isSome=b1 at Cd;have hg:Ae C0 prog fu (d+3) 107 [.pbox (Bx t r6)]=some ⟨[.sc (.bool (Cf r6).isSome)],[Bx t ((Cf r6).getD r6)]⟩:=Dq (d:=d+1) Fz ht E9;refine⟨(Cf r6).getD r6,Cg Fz fun q e=>Cv Fz e,?_,?_⟩
       ·rw[hn,Ag]
        try unfold Ac
        repeat first
         |((with_reducible first|apply A1|apply As|apply A5|apply Av|apply A2|apply At|apply A3|apply A4);· first|with_reducible rfl|(simp (disch:=omega) only[gT,a0,F8,Gm,Lu,Gx,Mj,Gw,Cd,hg,C6,Ds]<;>first|with_reducible rfl|omega)|omega)
         |(with_reducible apply A0;· first|with_reducible rfl|(simp (disch:=omega) only[gF,a0,F8,Gm,Lu,Gx,Mj,Gw,Cd,hg,C6,Ds]<;>omega))
        try simp (disch:=omega) only[a0,F8,Gm,Lu,Gx,Mj,Gw,Cd,hg,C6,Ds]
        try rfl
       ·rw[hn];intro q e;rw[e];rfl
      ·have Gw:=Cs (fu:=fu) (d:=d) 43 43 rfl H5 ht hp;have Fz:=Ar H5 hp;have hn:Fi r=Cf r6:=by rw[Lc];unfold Lf;rw[hp]
       have hg:Ae C0 prog fu (d+3) 107 [.pbox (Bx t r6)]=some ⟨[.sc (.bool (Cf r6).isSome)],[Bx t ((Cf r6).getD r6)]⟩:=Dq (d:=d+1) Fz ht E9;refine⟨(Cf r6).getD r6,Cg Fz fun q e=>Cv Fz e,?_,?_⟩
       ·rw[hn,Ag]
        try unfold Ac
        repeat first
         |((with_reducible first|apply A1|apply As|apply A5|apply Av|apply A2|apply At|apply A3|apply A4);· first|with_reducible rfl|(simp (disch:=omega) only[gT,a0,F8,Gm,Lu,Gx,Mj,Gw,hg,C6,Ds]<;>first|with_reducible rfl|omega)|omega)
         |(with_reducible apply A0;· first|with_reducible rfl|(simp (disch:=omega) only[gF,a0,F8,Gm,Lu,Gx,Mj,Gw,hg,C6,Ds]<;>omega))
        try simp (disch:=omega) only[a0,F8,Gm,Lu,Gx,Mj,Gw,hg,C6,Ds]
        try rfl
       ·rw[hn];intro q e;rw[e];rfl
    ·have Gx:=Cs (fu:=fu) (d:=d) 101 101 rfl Z2 ht he;have H5:=Ar Z2 he;rw[he] at Lc;simp only at Lc;rcases hp:Aq [43] r5 with _|r6
     ·have Gw:=D6 (fu:=fu) (d:=d) 43 43 rfl H5 ht hp;have Cd:=Kh (fu:=fu) (d:=d) 45 45 rfl H5 ht;have Fz:C7 t ((Aq [45] r5).getD r5):=Cg H5 fun q e=>Ar H5 e
      have hn:Fi r=Cf ((Aq [45] r5).getD r5):=by rw[Lc];unfold Lf;rw[hp]
      generalize (Aq [45] r5).getD r5=r6 at Cd Fz hn;generalize (Aq [45] r5).isSome=b1 at Cd;have hg:Ae C0 prog fu (d+3) 107 [.pbox (Bx t r6)]=some ⟨[.sc (.bool (Cf r6).isSome)],[Bx t ((Cf r6).getD r6)]⟩:=Dq (d:=d+1) Fz ht E9;refine⟨(Cf r6).getD r6,Cg Fz fun q e=>Cv Fz e,?_,?_⟩
      ·rw[hn,Ag]
       try unfold Ac
       repeat first
        |((with_reducible first|apply A1|apply As|apply A5|apply Av|apply A2|apply At|apply A3|apply A4);· first|with_reducible rfl|(simp (disch:=omega) only[gT,a0,F8,Gm,Lu,Gx,Gw,Cd,hg,C6,Ds]<;>first|with_reducible rfl|omega)|omega)
        |(with_reducible apply A0;· first|with_reducible rfl|(simp (disch:=omega) only[gF,a0,F8,Gm,Lu,Gx,Gw,Cd,hg,C6,Ds]<;>omega))
       try simp (disch:=omega) only[a0,F8,Gm,Lu,Gx,Gw,Cd,hg,C6,Ds]
       try rfl
      ·rw[hn];intro q e;rw[e];rfl
     ·have Gw:=Cs (fu:=fu) (d:=d) 43 43 rfl H5 ht hp;have Fz:=Ar H5 hp;have hn:Fi r=Cf r6:=by rw[Lc];unfold Lf;rw[hp]
      have hg:Ae C0 prog fu (d+3) 107 [.pbox (Bx t r6)]=some ⟨[.sc (.bool (Cf r6).isSome)],[Bx t ((Cf r6).getD r6)]⟩:=Dq (d:=d+1) Fz ht E9;refine⟨(Cf r6).getD r6,Cg Fz fun q e=>Cv Fz e,?_,?_⟩
      ·rw[hn,Ag]
       try unfold Ac
       repeat first
        |((with_reducible first|apply A1|apply As|apply A5|apply Av|apply A2|apply At|apply A3|apply A4);· first|with_reducible rfl|(simp (disch:=omega) only[gT,a0,F8,Gm,Lu,Gx,Gw,hg,C6,Ds]<;>first|with_reducible rfl|omega)|omega)
        |(with_reducible apply A0;· first|with_reducible rfl|(simp (disch:=omega) only[gF,a0,F8,Gm,Lu,Gx,Gw,hg,C6,Ds]<;>omega))
       try simp (disch:=omega) only[a0,F8,Gm,Lu,Gx,Gw,hg,C6,Ds]
       try rfl
      ·rw[hn];intro q e;rw[e];rfl
end
end
section
open Go.Proofs.Tryd (prog)
open Go.IntKind (wrap)
theorem C7.trans {t:ByteArray}{r q:List Int}(h:C7 t r)(k:C7 (Ab r) q):C7 t q:=by
 obtain⟨pre,k⟩:=k;rw[Ck h.B] at k;rw[k] at h;exact h.app
theorem C7.self {l:List Int}(h:C8 l):C7 (Ab l) l:=⟨[],by rw[Ck h];rfl⟩
theorem C7.le {l q:List Int}(h:C7 (Ab l) q):q.length<=l.length:=by
 have:=h.len
 rwa [Aj] at this
def UV (t:ByteArray)(l:List Int)(x:JR (JV × List Int)) (res:Ay):Prop:=
 match x with
 |.ok (v,q)=>C7 (Ab l) q∧res=⟨[.agg [.sc (.int .i64 v.1),.sc (.string (Ab v.2.1)),.sc (.bool v.2.2)],.sc (.int .i64 0)],[Bx t q]⟩
 |.error e=>e≠0∧∃c1 c2 c3 q,C7 t q∧res=⟨[.agg [.sc (.int .i64 c1),.sc (.string c2),.sc (.bool c3)],.sc (.int .i64 e)],[Bx t q]⟩
def Auo (t:ByteArray)(l:List Int)(x:JR (List Int)) (res:Ay):Prop:=
 match x with
 |.ok q=>C7 (Ab l) q∧res=⟨[.sc (.int .i64 0)],[Bx t q]⟩
 |.error e=>e≠0∧∃q,C7 t q∧res=⟨[.sc (.int .i64 e)],[Bx t q]⟩
theorem Aco {α:Type}(a b:Int)(Mq:a≠b)(A B:List Int->α)(C:α)(x:List Int):
  (match Aq [a] x with|some r=>A r|none=>match Aq [b] x with|some r=>B r|none=>C)=(match x with|[]=>C|y::r=>if y=a then A r else if y=b then B r else C):=by
 rw[D9,D9];cases x with
 |nil=>rfl
 |cons y r=>
  by_cases h:y=a
  ·simp[h]
  ·by_cases h2:y=b
   ·subst h2;simp[h]
   ·simp[h,h2]
theorem Afb (V:List Int->JR (JV × List Int)) (n:Nat)(l:List Int):JP V (n+1) l=match V l with
  |.error e=>.error e
  |.ok (_,r)=>match Aq [93] (Bb r) with
   |some r'=>.ok r'
   |none=>match Aq [44] (Bb r) with
    |some r'=>JP V n (Bb r')
    |none=>.error 2:=by
 show (match V l with | .error e=>_ | .ok (_,r)=>_)=_
 cases V l with
 |error e=>rfl
 |ok x=>
  obtain⟨v,r⟩:=x;simp only;rw[Aco 93 44 (by decide) (fun r'=>Except.ok r') (fun r'=>JP V n (Bb r')) (Except.error 2)]
  cases Bb r with
  |nil=>rfl
  |cons y r=>
   by_cases h:y=93
   ·subst h;rfl
   ·by_cases h2:y=44
    ·subst h2;rfl
    ·simp only[Cr h,Cr h2];split
     ·rename_i e;injection e with e1 _;exact absurd e1 h
     ·rename_i e;injection e with e1 _;exact absurd e1 h2
     ·rfl
section
variable {fu d:Nat}
theorem Agi {t s0:ByteArray}{p0 D0 D:Int}(ht:t.size<=1000000)(E9:t.size+1<=fu)(V:List Int->JR (JV × List Int)) (HV:∀r,C7 t r->∃res,Ae C0 prog fu (d+3) 69 [.pbox (Bx t r),.sc (.int .i64 D)]=some res∧UV t r (V r) res):∀(n nn:Nat)(l:List Int),l.length+1<=n->l.length+1<=nn->C7 t l ->
  ∃res,C3 fu (Ae C0 prog fu (d+3)) s0 p0 D0 nn D t (Bs t l:Int)=some res∧Auo t l (JP V n l) res:=by
 intro n
 induction n with
 |zero=>intro nn l h1;omega
 |succ n ih=>
  intro nn l hn Q3 h;obtain⟨k,rfl⟩:∃k,nn=k+1:=⟨nn-1,by omega⟩
  obtain⟨rv,ev,hv⟩:=HV l h;rw[Afb,Hr];cases hV:V l with
  |error e=>
   rw[hV] at hv;obtain⟨he,c1,c2,c3,q,hq,rfl⟩:=hv;have hb:(e != (0:Int))=true:=by simp[he]
   refine⟨⟨[.sc (.int .i64 e)],[Bx t q]⟩,?_,he,q,hq,rfl⟩
   try unfold Ac
   repeat first
    |((with_reducible first|apply A1|apply As|apply A5|apply Av|apply A2|apply Js|apply At|apply A3|apply A4);· first|with_reducible rfl|(simp (disch:=omega) only[gT,ev,hb]<;>first|with_reducible rfl|omega)|omega)
    |(with_reducible apply A0;· first|with_reducible rfl|(simp (disch:=omega) only[gF,ev,hb]<;>omega))
   try simp (disch:=omega) only[ev,hb]
  |ok x=>
   obtain⟨v,q⟩:=x;rw[hV] at hv;obtain⟨hq,rfl⟩:=hv;have hqt:=h.trans hq;have hs:=Oc (fu:=fu) (d:=d) hqt ht E9;have Sd:Ae C0 prog fu (d+3) 50 [.pbox (Bx t q)]=some ⟨[],[Bx t (Bb q)]⟩:=hs;have hqs:=Bp hqt;have Ati:=Bp hq;have hb:((0:Int) != (0:Int))=false:=rfl;simp only;cases h1:Aq [93] (Bb q) with
   |some r'=>
    have a1:=Cs (fu:=fu) (d:=d) 93 93 rfl hqs ht h1;refine⟨⟨[.sc (.int .i64 0)],[Bx t r']⟩,?_,Ar Ati h1,rfl⟩
    try unfold Ac
    repeat first
     |((with_reducible first|apply A1|apply As|apply A5|apply Av|apply A2|apply Js|apply At|apply A3|apply A4);· first|with_reducible rfl|(simp (disch:=omega) only[gT,ev,hb,Sd,a1]<;>first|with_reducible rfl|omega)|omega)
     |(with_reducible apply A0;· first|with_reducible rfl|(simp (disch:=omega) only[gF,ev,hb,Sd,a1]<;>omega))
    try simp (disch:=omega) only[ev,hb,Sd,a1]
   |none=>
    have a1:=D6 (fu:=fu) (d:=d) 93 93 rfl hqs ht h1;cases h2:Aq [44] (Bb q) with
    |none=>
     have a2:=D6 (fu:=fu) (d:=d) 44 44 rfl hqs ht h2;refine⟨⟨[.sc (.int .i64 2)],[Bx t (Bb q)]⟩,?_,by decide,Bb q,hqs,rfl⟩
     try unfold Ac
     repeat first
      |((with_reducible first|apply A1|apply As|apply A5|apply Av|apply A2|apply Js|apply At|apply A3|apply A4);· first|with_reducible rfl|(simp (disch:=omega) only[gT,ev,hb,Sd,a1,a2,Ds]<;>first|with_reducible rfl|omega)|omega)
      |(with_reducible apply A0;· first|with_reducible rfl|(simp (disch:=omega) only[gF,ev,hb,Sd,a1,a2,Ds]<;>omega))
     try simp (disch:=omega) only[ev,hb,Sd,a1,a2,Ds]
    |some r'=>
     have a2:=Cs (fu:=fu) (d:=d) 44 44 rfl hqs ht h2;have hr:=Ar hqs h2;have HH:=Ar Ati h2;have MP:Ae C0 prog fu (d+3) 50 [.pbox (Bx t r')]=some ⟨[],[Bx t (Bb r')]⟩:=Oc (fu:=fu) (d:=d) hr ht E9
     have hlr:(Bb r').length+1<=l.length:=by
      have e1:=hq.le;have e2:=P6 q;have e3:=P6 r'
      have e4:r'.length+1<=(Bb q).length:=by
       rw[D9] at h2
       revert h2
       cases Bb q with
       |nil=>intro h2;cases h2
       |cons y s=>
        intro h2;simp only at h2;split at h2
        ·cases h2;simp
        ·cases h2
      omega
     obtain⟨res,e5,h5⟩:=ih k (Bb r') (by omega) (by omega) (Bp hr)
     refine⟨res,?_,?_⟩
     ·skip
      try unfold Ac
      repeat first
       |((with_reducible first|apply A1|apply As|apply A5|apply Av|apply A2|apply Js|apply At|apply A3|apply A4);· first|with_reducible rfl|(simp (disch:=omega) only[gT,ev,hb,Sd,a1,a2,MP,C6]<;>first|with_reducible rfl|omega)|omega)
       |(with_reducible apply A0;· first|with_reducible rfl|(simp (disch:=omega) only[gF,ev,hb,Sd,a1,a2,MP,C6]<;>omega))
      try simp (disch:=omega) only[ev,hb,Sd,a1,a2,MP,C6]
      exact e5
     ·simp only;have hup:C7 (Ab l) (Bb r'):=Bp HH
      revert h5
      cases JP V n (Bb r') with
      |error e=>exact id
      |ok q2=>exact fun h5=>⟨hup.trans h5.1,h5.2⟩
end
end
section
open Go.Proofs.Tryd (prog)
open Go.IntKind (wrap)
set_option maxRecDepth 100000
theorem QJ {c:Int}{x r:List Int}(h:Aq [c] x=some r):r.length+1<=x.length:=by
 rw[D9] at h
 revert h
 cases x with
 |nil=>intro h;cases h
 |cons y s=>
  intro h;simp only at h;split at h
  ·cases h;simp
  ·cases h
theorem Ut (V:List Int->JR (JV × List Int)) (kp:Bool)(n:Nat)(ms:List (List Int × JV)) (l:List Int):O5 V kp (n+1) ms l=match Eo l with
  |(none,_)=>.error 2
  |(some nm,r)=>if (kp&&ms.any fun m=>m.1==nm)=true then .error 10 else match Aq [58] (Bb r) with
   |none=>.error 2
   |some r1=>match V (Bb r1) with
    |.error e=>.error e
    |.ok (v,r2)=>match Aq [125] (Bb r2) with
     |some r3=>.ok (ms++[(nm,v)],r3)
     |none=>match Aq [44] (Bb r2) with
      |some r3=>O5 V kp n (ms++[(nm,v)]) (Bb r3)
      |none=>.error 2:=by
 show (match Apu V (fun nm=>kp&&ms.any fun m=>m.1==nm) l with | .error e=>_ | .ok (m,r)=>_)=_
 unfold Apu Uk;rcases Eo l with⟨o,r⟩;cases o with
 |none=>rfl
 |some nm=>
  simp only;by_cases hd:(kp&&ms.any fun m=>m.1==nm)=true
  rotate_left
  ·simp only[Cr hd];rw[D9];cases Bb r with
   |nil=>rfl
   |cons y s=>
    by_cases h:y=58
    ·subst h;simp only[if_true];cases V (Bb s) with
     |error e=>rfl
     |ok x=>
      obtain⟨v,r2⟩:=x;simp only;rw[D9,D9];cases Bb r2 with
      |nil=>rfl
      |cons y s=>
       by_cases h:y=125
       ·subst h;simp
       ·by_cases h2:y=44
        ·subst h2;simp
        ·simp only[Cr h,Cr h2];split
         ·rename_i e;injection e with e1 _;exact absurd e1 h
         ·rename_i e;injection e with e1 _;exact absurd e1 h2
         ·rfl
    ·simp only[Cr h];split
     ·rename_i e;split at e
      ·rename_i e2;injection e2 with e1 _;exact absurd e1 h
      ·cases e;rfl
     ·rename_i e;split at e
      ·rename_i e2;injection e2 with e1 _;exact absurd e1 h
      ·cases e
  ·simp only[Dw hd]
def Au6 {α:Type}(t:ByteArray)(l:List Int)(x:JR (α × List Int)) (res:Ay):Prop:=
 match x with
 |.ok (_,q)=>C7 (Ab l) q∧res=⟨[.sc (.int .i64 0)],[Bx t q]⟩
 |.error e=>e≠0∧∃q,C7 t q∧res=⟨[.sc (.int .i64 e)],[Bx t q]⟩
section
variable {fu d:Nat}
theorem Ak9 {t:ByteArray}{r:List Int}(h:C7 t r)(ht:t.size<=1000000):Ae C0 prog fu (d+1) 68 [.pbox (Bx t r)]=some ⟨[.sc (.string (Ab ((Eo r).1.getD []))),.sc (.bool (Eo r).1.isSome)],[Bx t (Eo r).2]⟩:=by
 have e0:Ae C0 prog fu (d+1) 68 [.pbox (Bx t r)]=Adi [.pbox (Bx t r)]:=rfl;have hl:=h.len
 have e1:(decide ((0:Int)<=(Bs t r:Int))&&decide ((Bs t r:Int)<=t.size)&&Nat.ble t.size 1000000)=true:=by
  simp only[Bool.and_eq_true,decide_eq_true_eq,Nat.ble_eq];unfold Bs;omega
 have e2:(E4 t).drop (Bs t r:Int).toNat=r:=by rw[O8];exact h.eq.symm
 have hq:=(Gn h).len;rw[e0];unfold Adi;simp only[e1,cond_true,e2];rcases hx:Eo r with⟨o,q⟩;rw[hx] at hq;have e3:(t.size:Int)-q.length=(Bs t q:Int):=by unfold Bs;simp only at hq;omega
 cases o with
 |none=>simp only[e3];rfl
 |some s=>simp only[e3];rfl
theorem As0 {t:ByteArray}{D:Int}(ht:t.size<=1000000)(E9:t.size+1<=fu)(V:List Int->JR (JV × List Int)) (HV:∀r,C7 t r->∃res,Ae C0 prog fu (d+3) 69 [.pbox (Bx t r),.sc (.int .i64 D)]=some res∧UV t r (V r) res) {l:List Int}(h:C7 t (91::l)):
  ∃res,Ae C0 prog fu (d+4) 91 [.pbox (Bx t (91::l)),.sc (.int .i64 D)]=some res∧Auo t l (Aa2 V l) res:=by
 have a0:=Cs (fu:=fu) (d:=d) (q:=l) 91 91 rfl h ht (by rw[D9];rfl)
 have hs:Ae C0 prog fu (d+3) 50 [.pbox (Bx t l)]=some ⟨[],[Bx t (Bb l)]⟩:=Oc (fu:=fu) (d:=d) h.tail ht E9;have hS:=Bp h.tail;have S8:=Bp (C7.self h.tail.B)
 have eA:Aa2 V l=match Aq [93] (Bb l) with|some r=>.ok r|none=>JP V ((Bb l).length+1) (Bb l):=by
  unfold Aa2;rw[D9];cases Bb l with
  |nil=>rfl
  |cons y s=>
   by_cases hy:y=93
   ·subst hy;rfl
   ·simp only[Cr hy];split
    ·rename_i e;injection e with e1 _;exact absurd e1 hy
    ·rfl
 have er:=I0 (p:=none) fu (d+3) t (Bs t (91::l):Int) D;rw[eA];cases h1:Aq [93] (Bb l) with
 |some r=>
  have a1:=Cs (fu:=fu) (d:=d) 93 93 rfl hS ht h1;refine⟨⟨[.sc (.int .i64 0)],[Bx t r]⟩,er.trans ?_,Ar S8 h1,rfl⟩
  try unfold Ac
  repeat first
   |((with_reducible first|apply A1|apply As|apply A5|apply Av|apply A2|apply At|apply A3|apply A4);· first|with_reducible rfl|(simp (disch:=omega) only[gT,a0,hs,a1,C6]<;>first|with_reducible rfl|omega)|omega)
   |(with_reducible apply A0;· first|with_reducible rfl|(simp (disch:=omega) only[gF,a0,hs,a1,C6]<;>omega))
  try simp (disch:=omega) only[a0,hs,a1,C6]
 |none=>
  have a1:=D6 (fu:=fu) (d:=d) 93 93 rfl hS ht h1;obtain⟨res,e5,h5⟩:=Agi (fu:=fu) (d:=d) (s0:=t) (p0:=(Bs t (91::l):Int)) (D0:=D) ht E9 V HV ((Bb l).length+1) fu (Bb l) (Nat.le_refl _) (by have:=hS.len;omega) hS
  refine⟨res,er.trans ?_,?_⟩
  ·skip
   try unfold Ac
   repeat first
    |((with_reducible first|apply A1|apply As|apply A5|apply Av|apply A2|apply At|apply A3|apply A4);· first|with_reducible rfl|(simp (disch:=omega) only[gT,a0,hs,a1,C6]<;>first|with_reducible rfl|omega)|omega)
    |(with_reducible apply A0;· first|with_reducible rfl|(simp (disch:=omega) only[gF,a0,hs,a1,C6]<;>omega))
   try simp (disch:=omega) only[a0,hs,a1,C6]
   exact e5
  ·simp only
   revert h5
   cases JP V ((Bb l).length+1) (Bb l) with
   |error e=>exact id
   |ok q2=>exact fun h5=>⟨S8.trans h5.1,h5.2⟩
end
end
section
open Go.Proofs.Tryd (prog)
open Go.IntKind (wrap)
set_option maxRecDepth 100000
section
variable {fu d:Nat}
theorem Aek {t s0:ByteArray}{p0 D0 D:Int}(ht:t.size<=1000000)(E9:t.size+1<=fu)(V:List Int->JR (JV × List Int)) (HV:∀r,C7 t r->∃res,Ae C0 prog fu (d+3) 69 [.pbox (Bx t r),.sc (.int .i64 D)]=some res∧UV t r (V r) res):∀(n nn:Nat)(ms:List (List Int × JV)) (l:List Int),l.length+1<=n->l.length+1<=nn->C7 t l ->
  ∃res,Ct fu (Ae C0 prog fu (d+3)) s0 p0 D0 nn D t (Bs t l:Int)=some res∧Au6 t l (O5 V false n ms l) res:=by
 intro n
 induction n with
 |zero=>intro nn ms l h1;omega
 |succ n ih=>
  intro nn ms l hn Q3 h;obtain⟨k,rfl⟩:∃k,nn=k+1:=⟨nn-1,by omega⟩
  have er:Ae C0 prog fu (d+3) 68 [.pbox (Bx t l)]=_:=Ak9 (d:=d+2) h ht;have MU:=Gn h;have JM:=Gn (C7.self h.B);rw[Ut,Hn];rcases hx:Eo l with⟨o,q⟩;rw[hx] at er MU JM;cases o with
  |none=>
   have er2:Ae C0 prog fu (d+3) 68 [.pbox (Bx t l)]=some ⟨[.sc (.string (Ab [])),.sc (.bool false)],[Bx t q]⟩:=er;refine⟨⟨[.sc (.int .i64 2)],[Bx t q]⟩,?_,by decide,q,MU,rfl⟩
   try unfold Ac
   repeat first
    |((with_reducible first|apply A1|apply As|apply A5|apply Av|apply A2|apply Js|apply At|apply A3|apply A4);· first|with_reducible rfl|(simp (disch:=omega) only[gT,er2,Ds]<;>first|with_reducible rfl|omega)|omega)
    |(with_reducible apply A0;· first|with_reducible rfl|(simp (disch:=omega) only[gF,er2,Ds]<;>omega))
   try simp (disch:=omega) only[er2,Ds]
  |some nm=>
   have er2:Ae C0 prog fu (d+3) 68 [.pbox (Bx t l)]=some ⟨[.sc (.string (Ab nm)),.sc (.bool true)],[Bx t q]⟩:=er;simp only at MU JM;have Sd:Ae C0 prog fu (d+3) 50 [.pbox (Bx t q)]=some ⟨[],[Bx t (Bb q)]⟩:=Oc (fu:=fu) (d:=d) MU ht E9;have Rv:=Bp MU;have Kp:=Bp JM;simp only[Zzs,Bool.false_eq_true,if_false];cases h1:Aq [58] (Bb q) with
   |none=>
    have a1:=D6 (fu:=fu) (d:=d) 58 58 rfl Rv ht h1;refine⟨⟨[.sc (.int .i64 2)],[Bx t (Bb q)]⟩,?_,by decide,Bb q,Rv,rfl⟩
    try unfold Ac
    repeat first
     |((with_reducible first|apply A1|apply As|apply A5|apply Av|apply A2|apply Js|apply At|apply A3|apply A4);· first|with_reducible rfl|(simp (disch:=omega) only[gT,er2,Sd,a1,C6,Ds]<;>first|with_reducible rfl|omega)|omega)
     |(with_reducible apply A0;· first|with_reducible rfl|(simp (disch:=omega) only[gF,er2,Sd,a1,C6,Ds]<;>omega))
    try simp (disch:=omega) only[er2,Sd,a1,C6,Ds]
   |some r1=>
    have a1:=Cs (fu:=fu) (d:=d) 58 58 rfl Rv ht h1;have EX:=Ar Rv h1;have HH:=Ar Kp h1;have MP:Ae C0 prog fu (d+3) 50 [.pbox (Bx t r1)]=some ⟨[],[Bx t (Bb r1)]⟩:=Oc (fu:=fu) (d:=d) EX ht E9;have hv1:=Bp EX;have hv2:=Bp HH;obtain⟨rv,ev,hv⟩:=HV (Bb r1) hv1;simp only;cases hV:V (Bb r1) with
    |error e=>
     rw[hV] at hv;obtain⟨he,c1,c2,c3,q3,hq3,rfl⟩:=hv;have hb:(e != (0:Int))=true:=by simp[he]
     refine⟨⟨[.sc (.int .i64 e)],[Bx t q3]⟩,?_,he,q3,hq3,rfl⟩
     try unfold Ac
     repeat first
      |((with_reducible first|apply A1|apply As|apply A5|apply Av|apply A2|apply Js|apply At|apply A3|apply A4);· first|with_reducible rfl|(simp (disch:=omega) only[gT,er2,Sd,a1,MP,ev,hb,C6]<;>first|with_reducible rfl|omega)|omega)
      |(with_reducible apply A0;· first|with_reducible rfl|(simp (disch:=omega) only[gF,er2,Sd,a1,MP,ev,hb,C6]<;>omega))
     try simp (disch:=omega) only[er2,Sd,a1,MP,ev,hb,C6]
    |ok x=>
     obtain⟨v,r2⟩:=x;rw[hV] at hv;obtain⟨hq3,rfl⟩:=hv;have hb:((0:Int) != (0:Int))=false:=rfl;have hw1:=hv1.trans hq3;have hw2:=hv2.trans hq3;have JQ:Ae C0 prog fu (d+3) 50 [.pbox (Bx t r2)]=some ⟨[],[Bx t (Bb r2)]⟩:=Oc (fu:=fu) (d:=d) hw1 ht E9;have SB:=Bp hw1;have L9:=Bp hw2;simp only;cases h2:Aq [125] (Bb r2) with
     |some r3=>
      have a2:=Cs (fu:=fu) (d:=d) 125 125 rfl SB ht h2;refine⟨⟨[.sc (.int .i64 0)],[Bx t r3]⟩,?_,Ar L9 h2,rfl⟩
      try unfold Ac
      repeat first
       |((with_reducible first|apply A1|apply As|apply A5|apply Av|apply A2|apply Js|apply At|apply A3|apply A4);· first|with_reducible rfl|(simp (disch:=omega) only[gT,er2,Sd,a1,MP,ev,hb,JQ,a2,C6]<;>first|with_reducible rfl|omega)|omega)
       |(with_reducible apply A0;· first|with_reducible rfl|(simp (disch:=omega) only[gF,er2,Sd,a1,MP,ev,hb,JQ,a2,C6]<;>omega))
      try simp (disch:=omega) only[er2,Sd,a1,MP,ev,hb,JQ,a2,C6]
     |none=>
      have a2:=D6 (fu:=fu) (d:=d) 125 125 rfl SB ht h2;cases h3:Aq [44] (Bb r2) with
      |none=>
       have a3:=D6 (fu:=fu) (d:=d) 44 44 rfl SB ht h3;refine⟨⟨[.sc (.int .i64 2)],[Bx t (Bb r2)]⟩,?_,by decide,Bb r2,SB,rfl⟩
       try unfold Ac
       repeat first
        |((with_reducible first|apply A1|apply As|apply A5|apply Av|apply A2|apply Js|apply At|apply A3|apply A4);· first|with_reducible rfl|(simp (disch:=omega) only[gT,er2,Sd,a1,MP,ev,hb,JQ,a2,a3,C6,Ds]<;>first|with_reducible rfl|omega)|omega)
        |(with_reducible apply A0;· first|with_reducible rfl|(simp (disch:=omega) only[gF,er2,Sd,a1,MP,ev,hb,JQ,a2,a3,C6,Ds]<;>omega))
       try simp (disch:=omega) only[er2,Sd,a1,MP,ev,hb,JQ,a2,a3,C6,Ds]
      |some r3=>
       have a3:=Cs (fu:=fu) (d:=d) 44 44 rfl SB ht h3;have hy1:=Ar SB h3;have hy2:=Ar L9 h3;have hs5:Ae C0 prog fu (d+3) 50 [.pbox (Bx t r3)]=some ⟨[],[Bx t (Bb r3)]⟩:=Oc (fu:=fu) (d:=d) hy1 ht E9
       have hlr:(Bb r3).length+1<=l.length:=by
        have e1:=L9.le;have e2:=P6 r3;have e3:=QJ h3;omega
       obtain⟨res,e5,h5⟩:=ih k (ms++[(nm,v)]) (Bb r3) (by omega) (by omega) (Bp hy1)
       refine⟨res,?_,?_⟩
       ·skip
        try unfold Ac
        repeat first
         |((with_reducible first|apply A1|apply As|apply A5|apply Av|apply A2|apply Js|apply At|apply A3|apply A4);· first|with_reducible rfl|(simp (disch:=omega) only[gT,er2,Sd,a1,MP,ev,hb,JQ,a2,a3,hs5,C6]<;>first|with_reducible rfl|omega)|omega)
         |(with_reducible apply A0;· first|with_reducible rfl|(simp (disch:=omega) only[gF,er2,Sd,a1,MP,ev,hb,JQ,a2,a3,hs5,C6]<;>omega))
        try simp (disch:=omega) only[er2,Sd,a1,MP,ev,hb,JQ,a2,a3,hs5,C6]
        exact e5
       ·simp only;have hup:C7 (Ab l) (Bb r3):=Bp hy2
        revert h5
        cases O5 V false n (ms++[(nm,v)]) (Bb r3) with
        |error e=>exact id
        |ok q2=>exact fun h5=>⟨hup.trans h5.1,h5.2⟩
theorem At2 {t:ByteArray}{D:Int}(ht:t.size<=1000000)(E9:t.size+1<=fu)(V:List Int->JR (JV × List Int)) (HV:∀r,C7 t r->∃res,Ae C0 prog fu (d+3) 69 [.pbox (Bx t r),.sc (.int .i64 D)]=some res∧UV t r (V r) res) {l:List Int}(h:C7 t (123::l)):
  ∃res,Ae C0 prog fu (d+4) 51 [.pbox (Bx t (123::l)),.sc (.int .i64 D),.sc (.map none)]=some res∧Au6 t l (Vp V false l) res:=by
 have a0:=Cs (fu:=fu) (d:=d) (q:=l) 123 123 rfl h ht (by rw[D9];rfl)
 have hs:Ae C0 prog fu (d+3) 50 [.pbox (Bx t l)]=some ⟨[],[Bx t (Bb l)]⟩:=Oc (fu:=fu) (d:=d) h.tail ht E9;have hS:=Bp h.tail;have S8:=Bp (C7.self h.tail.B)
 have eA:Vp V false l=match Aq [125] (Bb l) with|some r=>.ok ([],r)|none=>O5 V false ((Bb l).length+1) [] (Bb l):=by
  unfold Vp;rw[D9];cases Bb l with
  |nil=>rfl
  |cons y s=>
   by_cases hy:y=125
   ·subst hy;rfl
   ·simp only[Cr hy];split
    ·rename_i e;injection e with e1 _;exact absurd e1 hy
    ·rfl
 have er:=Ik (p:=none) fu (d+3) t (Bs t (123::l):Int) D;rw[eA];cases h1:Aq [125] (Bb l) with
 |some r=>
  have a1:=Cs (fu:=fu) (d:=d) 125 125 rfl hS ht h1;refine⟨⟨[.sc (.int .i64 0)],[Bx t r]⟩,er.trans ?_,Ar S8 h1,rfl⟩
  try unfold Ac
  repeat first
   |((with_reducible first|apply A1|apply As|apply A5|apply Av|apply A2|apply Js|apply At|apply A3|apply A4);· first|with_reducible rfl|(simp (disch:=omega) only[gT,a0,hs,a1,C6]<;>first|with_reducible rfl|omega)|omega)
   |(with_reducible apply A0;· first|with_reducible rfl|(simp (disch:=omega) only[gF,a0,hs,a1,C6]<;>omega))
  try simp (disch:=omega) only[a0,hs,a1,C6]
 |none=>
  have a1:=D6 (fu:=fu) (d:=d) 125 125 rfl hS ht h1;obtain⟨res,e5,h5⟩:=Aek (fu:=fu) (d:=d) (s0:=t) (p0:=(Bs t (123::l):Int)) (D0:=D) ht E9 V HV ((Bb l).length+1) fu [] (Bb l) (Nat.le_refl _) (by have:=hS.len;omega) hS
  refine⟨res,er.trans ?_,?_⟩
  ·skip
   try unfold Ac
   repeat first
    |((with_reducible first|apply A1|apply As|apply A5|apply Av|apply A2|apply Js|apply At|apply A3|apply A4);· first|with_reducible rfl|(simp (disch:=omega) only[gT,a0,hs,a1,C6]<;>first|with_reducible rfl|omega)|omega)
    |(with_reducible apply A0;· first|with_reducible rfl|(simp (disch:=omega) only[gF,a0,hs,a1,C6]<;>omega))
   try simp (disch:=omega) only[a0,hs,a1,C6]
   exact e5
  ·simp only
   revert h5
   cases O5 V false ((Bb l).length+1) [] (Bb l) with
   |error e=>exact id
   |ok q2=>exact fun h5=>⟨S8.trans h5.1,h5.2⟩
end
end
section
open Go.Proofs.Tryd (prog)
open Go.IntKind (wrap)
set_option maxRecDepth 100000
def Apa (l:List Int):JR (JV × List Int):=
 match Aq [116,114,117,101] l with
 |some r=>.ok ((2,[],true),r)
 |none=>match Aq [102,97,108,115,101] l with
  |some r=>.ok ((2,[],false),r)
  |none=>match Aq [110,117,108,108] l with
   |some r=>.ok ((1,[],false),r)
   |none=>match Fi l with
    |some r=>.ok ((3,[],false),r)
    |none=>.error 2
theorem GP (k:Nat){l:List Int}(h1:MR l≠123)(h2:MR l≠91)(h3:MR l≠34):E1 k l=Apa l:=by
 unfold E1;split
 ·exact absurd rfl h1
 ·exact absurd rfl h2
 ·exact absurd rfl h3
 ·rfl
theorem Ad0 {l r:List Int}(h:C8 l)(e:Fi l=some r):C7 (Ab l) r:=by
 have h0:=C7.self h;have e0:Fi l=(Ahh (Aeb 45 l)).bind CI:=rfl;rw[e0,Xv,ID] at e;have h1:C7 (Ab l) ((Aq [45] l).getD l):=Cg h0 fun q e=>Ar h0 e
 have hE:∀x q,C7 (Ab l) x->S0 x=some q->C7 (Ab l) q:=by
  have hT:∀x q,C7 (Ab l) x->Lf x=some q->C7 (Ab l) q:=by
   intro x q hx e;unfold Lf at e;split at e
   ·rename_i hw;exact Cv (Ar hx hw) e
   ·exact Cv (Cg hx fun q e=>Ar hx e) e
  intro x q hx e;rw[Nq] at e;split at e
  ·rename_i hw;exact hT _ _ (Ar hx hw) e
  ·split at e
   ·rename_i hw;exact hT _ _ (Ar hx hw) e
   ·cases e;exact hx
 have hF:∀x q,C7 (Ab l) x->CI x=some q->C7 (Ab l) q:=by
  intro x q hx e;rw[So] at e;split at e
  ·rename_i hw;obtain⟨y,hy,e⟩:=Option.bind_eq_some_iff.1 e;exact hE _ _ (Cv (Ar hx hw) hy) e
  ·exact hE _ _ hx e
 obtain⟨y,hy,e⟩:=Option.bind_eq_some_iff.1 e;split at hy
 ·rename_i hw;cases hy;exact hF _ _ (Ar h1 hw) e
 ·exact hF _ _ (Cv h1 hy) e
section
variable {fu d:Nat}
theorem An0 {t:ByteArray}{r:List Int}(w:List Int)(lit:ByteArray)(hw:Ab w=lit)(hB:C8 w)(hl:w.length<=100)(h:C7 t r)(ht:t.size<=1000000):Ae C0 prog fu (d+3) 67 [.pbox (Bx t r),.sc (.string lit)]=some ⟨[.sc (.bool (Aq w r).isSome)],[Bx t ((Aq w r).getD r)]⟩:=by
 subst hw;have e:=Qf (fu:=fu) (d:=d) (xs:=xs0) h ht (w:=w) hB hl;refine e.trans ?_;cases Aq w r<;>rfl
theorem Aec {t:ByteArray}(ht:t.size<=1000000)(E9:t.size+1<=fu){D:Int}{l:List Int}(h:C7 t l)(h1:MR l≠123)(h2:MR l≠91)(h3:MR l≠34):∃res,Ae C0 prog fu (d+5) 69 [.pbox (Bx t l),.sc (.int .i64 D)]=some res∧UV t l (Apa l) res:=by
 have er:=B2 (p:=none) fu (d+4) t (Bs t l:Int) D;have pk:Ae C0 prog fu (d+4) 90 [.pbox (Bx t l)]=some ⟨[.sc (.int .u8 (MR l))],[Bx t l]⟩:=Lj (xs:=xs0) (d:=d+3) h;have b1:(MR l==(123:Int))=false:=by simp[h1]
 have b2:(MR l==(91:Int))=false:=by simp[h2]
 have b3:(MR l==(34:Int))=false:=by simp[h3]
 have Acl:=C7.self h.B;have a1:=An0 (fu:=fu) (d:=d+1) [116,114,117,101] (ByteArray.mk #[(116:UInt8),(114:UInt8),(117:UInt8),(101:UInt8)]) rfl (fun x hx=>by simp at hx;omega) (by decide) h ht
 have a2:=An0 (fu:=fu) (d:=d+1) [102,97,108,115,101] (ByteArray.mk #[(102:UInt8),(97:UInt8),(108:UInt8),(115:UInt8),(101:UInt8)]) rfl (fun x hx=>by simp at hx;omega) (by decide) h ht
 have a3:=An0 (fu:=fu) (d:=d+1) [110,117,108,108] (ByteArray.mk #[(110:UInt8),(117:UInt8),(108:UInt8),(108:UInt8)]) rfl (fun x hx=>by simp at hx;omega) (by decide) h ht
 obtain⟨rn,hrn,en,hn⟩:=Ad7 (fu:=fu) (d:=d) h ht E9;have en2:Ae C0 prog fu (d+4) 92 [.pbox (Bx t l)]=some ⟨[.sc (.bool (Fi l).isSome)],[Bx t rn]⟩:=en;unfold Apa;cases q1:Aq [116,114,117,101] l with
 |some r=>
  rw[q1] at a1;have a1':Ae C0 prog fu (d+4) 67 [.pbox (Bx t l),.sc (.string (ByteArray.mk #[(116:UInt8),(114:UInt8),(117:UInt8),(101:UInt8)]))]=some ⟨[.sc (.bool true)],[Bx t r]⟩:=a1;refine⟨_,er.trans ?_,Ar Acl q1,rfl⟩
  try unfold Ac
  repeat first
   |((with_reducible first|apply A1|apply As|apply A5|apply Av|apply A2|apply At|apply A3|apply A4);· first|with_reducible rfl|(simp (disch:=omega) only[gT,pk,b1,b2,b3,a1']<;>first|with_reducible rfl|omega)|omega)
   |(with_reducible apply A0;· first|with_reducible rfl|(simp (disch:=omega) only[gF,pk,b1,b2,b3,a1']<;>omega))
  try simp (disch:=omega) only[pk,b1,b2,b3,a1']
  rfl
 |none=>
  rw[q1] at a1;have a1':Ae C0 prog fu (d+4) 67 [.pbox (Bx t l),.sc (.string (ByteArray.mk #[(116:UInt8),(114:UInt8),(117:UInt8),(101:UInt8)]))]=some ⟨[.sc (.bool false)],[Bx t l]⟩:=a1;cases q2:Aq [102,97,108,115,101] l with
  |some r=>
   rw[q2] at a2;have a2':Ae C0 prog fu (d+4) 67 [.pbox (Bx t l),.sc (.string (ByteArray.mk #[(102:UInt8),(97:UInt8),(108:UInt8),(115:UInt8),(101:UInt8)]))]=some ⟨[.sc (.bool true)],[Bx t r]⟩:=a2;refine⟨_,er.trans ?_,Ar Acl q2,rfl⟩
   try unfold Ac
   repeat first
    |((with_reducible first|apply A1|apply As|apply A5|apply Av|apply A2|apply At|apply A3|apply A4);· first|with_reducible rfl|(simp (disch:=omega) only[gT,pk,b1,b2,b3,a1',a2']<;>first|with_reducible rfl|omega)|omega)
    |(with_reducible apply A0;· first|with_reducible rfl|(simp (disch:=omega) only[gF,pk,b1,b2,b3,a1',a2']<;>omega))
   try simp (disch:=omega) only[pk,b1,b2,b3,a1',a2']
   rfl
  |none=>
   rw[q2] at a2;have a2':Ae C0 prog fu (d+4) 67 [.pbox (Bx t l),.sc (.string (ByteArray.mk #[(102:UInt8),(97:UInt8),(108:UInt8),(115:UInt8),(101:UInt8)]))]=some ⟨[.sc (.bool false)],[Bx t l]⟩:=a2;cases q3:Aq [110,117,108,108] l with
   |some r=>
    rw[q3] at a3;have a3':Ae C0 prog fu (d+4) 67 [.pbox (Bx t l),.sc (.string (ByteArray.mk #[(110:UInt8),(117:UInt8),(108:UInt8),(108:UInt8)]))]=some ⟨[.sc (.bool true)],[Bx t r]⟩:=a3;refine⟨_,er.trans ?_,Ar Acl q3,rfl⟩
    try unfold Ac
    repeat first
     |((with_reducible first|apply A1|apply As|apply A5|apply Av|apply A2|apply At|apply A3|apply A4);· first|with_reducible rfl|(simp (disch:=omega) only[gT,pk,b1,b2,b3,a1',a2',a3']<;>first|with_reducible rfl|omega)|omega)
     |(with_reducible apply A0;· first|with_reducible rfl|(simp (disch:=omega) only[gF,pk,b1,b2,b3,a1',a2',a3']<;>omega))
    try simp (disch:=omega) only[pk,b1,b2,b3,a1',a2',a3']
    rfl
   |none=>
    rw[q3] at a3;have a3':Ae C0 prog fu (d+4) 67 [.pbox (Bx t l),.sc (.string (ByteArray.mk #[(110:UInt8),(117:UInt8),(108:UInt8),(108:UInt8)]))]=some ⟨[.sc (.bool false)],[Bx t l]⟩:=a3;cases q4:Fi l with
    |some r=>
     rw[q4] at en2;have:=hn r q4;subst this;have en3:Ae C0 prog fu (d+4) 92 [.pbox (Bx t l)]=some ⟨[.sc (.bool true)],[Bx t rn]⟩:=en2;refine⟨_,er.trans ?_,Ad0 h.B q4,rfl⟩
     try unfold Ac
     repeat first
      |((with_reducible first|apply A1|apply As|apply A5|apply Av|apply A2|apply At|apply A3|apply A4);· first|with_reducible rfl|(simp (disch:=omega) only[gT,pk,b1,b2,b3,a1',a2',a3',en3]<;>first|with_reducible rfl|omega)|omega)
      |(with_reducible apply A0;· first|with_reducible rfl|(simp (disch:=omega) only[gF,pk,b1,b2,b3,a1',a2',a3',en3]<;>omega))
     try simp (disch:=omega) only[pk,b1,b2,b3,a1',a2',a3',en3]
     rfl
    |none=>
     rw[q4] at en2;have en3:Ae C0 prog fu (d+4) 92 [.pbox (Bx t l)]=some ⟨[.sc (.bool false)],[Bx t rn]⟩:=en2;refine⟨_,er.trans ?_,by decide,0,⟨#[]⟩,false,rn,hrn,rfl⟩
     try unfold Ac
     repeat first
      |((with_reducible first|apply A1|apply As|apply A5|apply Av|apply A2|apply At|apply A3|apply A4);· first|with_reducible rfl|(simp (disch:=omega) only[gT,pk,b1,b2,b3,a1',a2',a3',en3]<;>first|with_reducible rfl|omega)|omega)
      |(with_reducible apply A0;· first|with_reducible rfl|(simp (disch:=omega) only[gF,pk,b1,b2,b3,a1',a2',a3',en3]<;>omega))
     try simp (disch:=omega) only[pk,b1,b2,b3,a1',a2',a3',en3]
theorem Ahn (k:Nat)(r:List Int):E1 k (34::r)=match Eo (34::r) with|(some s,q)=>.ok ((4,s,false),q)|(none,_)=>.error 2:=by
 have e:E1 k (34::r)=match Uk (34::r) with|none=>.error 2|some (s,r')=>.ok ((4,s,false),r'):=by
  cases k<;>rfl
 rw[e];unfold Uk;rcases Eo (34::r) with⟨o,q⟩;cases o<;>rfl
theorem QT {t:ByteArray}(ht:t.size<=1000000)(k:Nat){D:Int}{l:List Int}(h:C7 t (34::l)):∃res,Ae C0 prog fu (d+5) 69 [.pbox (Bx t (34::l)),.sc (.int .i64 D)]=some res∧UV t (34::l) (E1 k (34::l)) res:=by
 have er:=B2 (p:=none) fu (d+4) t (Bs t (34::l):Int) D;have pk:Ae C0 prog fu (d+4) 90 [.pbox (Bx t (34::l))]=some ⟨[.sc (.int .u8 34)],[Bx t (34::l)]⟩:=Lj (xs:=xs0) (d:=d+3) h;have Fh:Ae C0 prog fu (d+4) 68 [.pbox (Bx t (34::l))]=_:=Ak9 (d:=d+3) h ht;have MU:=Gn h;have JM:=Gn (C7.self h.B);have b1:((34:Int)==(123:Int))=false:=rfl;have b2:((34:Int)==(91:Int))=false:=rfl;have b3:((34:Int)==(34:Int))=true:=rfl;rw[Ahn];rcases hx:Eo (34::l) with⟨o,q⟩;rw[hx] at Fh MU JM;cases o with
 |none=>
  have UZ:Ae C0 prog fu (d+4) 68 [.pbox (Bx t (34::l))]=some ⟨[.sc (.string (Ab [])),.sc (.bool false)],[Bx t q]⟩:=Fh;refine⟨_,er.trans ?_,by decide,0,⟨#[]⟩,false,q,MU,rfl⟩
  try unfold Ac
  repeat first
   |((with_reducible first|apply A1|apply As|apply A5|apply Av|apply A2|apply At|apply A3|apply A4);· first|with_reducible rfl|(simp (disch:=omega) only[gT,pk,b1,b2,b3,UZ]<;>first|with_reducible rfl|omega)|omega)
   |(with_reducible apply A0;· first|with_reducible rfl|(simp (disch:=omega) only[gF,pk,b1,b2,b3,UZ]<;>omega))
  try simp (disch:=omega) only[pk,b1,b2,b3,UZ]
 |some s=>
  have UZ:Ae C0 prog fu (d+4) 68 [.pbox (Bx t (34::l))]=some ⟨[.sc (.string (Ab s)),.sc (.bool true)],[Bx t q]⟩:=Fh;refine⟨_,er.trans ?_,JM,rfl⟩
  try unfold Ac
  repeat first
   |((with_reducible first|apply A1|apply As|apply A5|apply Av|apply A2|apply At|apply A3|apply A4);· first|with_reducible rfl|(simp (disch:=omega) only[gT,pk,b1,b2,b3,UZ]<;>first|with_reducible rfl|omega)|omega)
   |(with_reducible apply A0;· first|with_reducible rfl|(simp (disch:=omega) only[gF,pk,b1,b2,b3,UZ]<;>omega))
  try simp (disch:=omega) only[pk,b1,b2,b3,UZ]
theorem Alp {t:ByteArray}(ht:t.size<=1000000)(E9:t.size+1<=fu):∀(k:Nat)(D:Int),D+k=9->1<=D->∀l,C7 t l->∃res,Ae C0 prog fu (d+2*k+5) 69 [.pbox (Bx t l),.sc (.int .i64 D)]=some res∧UV t l (E1 k l) res:=by
 intro k
 induction k with
 |zero=>
  intro D hD h1 l h;by_cases g1:MR l=123
  ·cases l with
   |nil=>cases g1
   |cons c l=>
    have g2:c=123:=g1;subst g2;have er:=B2 (p:=none) fu (d+4) t (Bs t (123::l):Int) D;have pk:Ae C0 prog fu (d+4) 90 [.pbox (Bx t (123::l))]=some ⟨[.sc (.int .u8 123)],[Bx t (123::l)]⟩:=Lj (xs:=xs0) (d:=d+3) h;have b1:((123:Int)==(123:Int))=true:=rfl;have b2:decide (D>8)=true:=by simp;omega
    refine⟨_,er.trans ?_,(by decide:(5:Int)≠0),0,⟨#[]⟩,false,123::l,h,rfl⟩
    try unfold Ac
    repeat first
     |((with_reducible first|apply A1|apply As|apply A5|apply Av|apply A2|apply At|apply A3|apply A4);· first|with_reducible rfl|(simp (disch:=omega) only[gT,pk,b1,b2]<;>first|with_reducible rfl|omega)|omega)
     |(with_reducible apply A0;· first|with_reducible rfl|(simp (disch:=omega) only[gF,pk,b1,b2]<;>omega))
    try simp (disch:=omega) only[pk,b1,b2]
  ·by_cases g2:MR l=91
   ·cases l with
    |nil=>cases g2
    |cons c l=>
     have g3:c=91:=g2;subst g3;have er:=B2 (p:=none) fu (d+4) t (Bs t (91::l):Int) D;have pk:Ae C0 prog fu (d+4) 90 [.pbox (Bx t (91::l))]=some ⟨[.sc (.int .u8 91)],[Bx t (91::l)]⟩:=Lj (xs:=xs0) (d:=d+3) h;have b0:((91:Int)==(123:Int))=false:=rfl;have b1:((91:Int)==(91:Int))=true:=rfl;have b2:decide (D>8)=true:=by simp;omega
     refine⟨_,er.trans ?_,(by decide:(5:Int)≠0),0,⟨#[]⟩,false,91::l,h,rfl⟩
     try unfold Ac
     repeat first
      |((with_reducible first|apply A1|apply As|apply A5|apply Av|apply A2|apply At|apply A3|apply A4);· first|with_reducible rfl|(simp (disch:=omega) only[gT,pk,b0,b1,b2]<;>first|with_reducible rfl|omega)|omega)
      |(with_reducible apply A0;· first|with_reducible rfl|(simp (disch:=omega) only[gF,pk,b0,b1,b2]<;>omega))
     try simp (disch:=omega) only[pk,b0,b1,b2]
   ·by_cases g3:MR l=34
    ·cases l with
     |nil=>cases g3
     |cons c l=>
      have g4:c=34:=g3;subst g4;exact QT ht 0 h
    ·rw[GP 0 g1 g2 g3];exact Aec ht E9 h g1 g2 g3
 |succ k ih=>
  intro D hD h1 l h;have HV:=ih (D+1) (by omega) (by omega)
  by_cases g1:MR l=123
  ·cases l with
   |nil=>cases g1
   |cons c l=>
    have g2:c=123:=g1;subst g2;have er:=B2 (p:=none) fu (d+2*(k+1)+4) t (Bs t (123::l):Int) D;have pk:Ae C0 prog fu (d+2*(k+1)+4) 90 [.pbox (Bx t (123::l))]=some ⟨[.sc (.int .u8 123)],[Bx t (123::l)]⟩:=Lj (xs:=xs0) (d:=d+2*(k+1)+3) h;have b1:((123:Int)==(123:Int))=true:=rfl;have b2:decide (D>8)=false:=by simp;omega
    have w1:wrap .i64 (D+1)=D+1:=Bd (by omega) (by omega)
    obtain⟨res,e5,h5⟩:=At2 (fu:=fu) (d:=d+2*k+2) (D:=D+1) ht E9 (E1 k) HV h;have e6:Ae C0 prog fu (d+2*(k+1)+4) 51 [.pbox (Bx t (123::l)),.sc (.int .i64 (D+1)),.sc (.map none)]=some res:=e5;have ev:E1 (k+1) (123::l)=match Vp (E1 k) false l with | .error e=>.error e | .ok (_,r')=>.ok ((6,[],false),r'):=rfl
    rw[ev];cases ho:Vp (E1 k) false l with
    |error e=>
     rw[ho] at h5;obtain⟨he,q,hq,rfl⟩:=h5;refine⟨_,er.trans ?_,he,6,⟨#[]⟩,false,q,hq,rfl⟩
     try unfold Ac
     repeat first
      |((with_reducible first|apply A1|apply As|apply A5|apply Av|apply A2|apply At|apply A3|apply A4);· first|with_reducible rfl|(simp (disch:=omega) only[gT,pk,b1,b2,w1,e6]<;>first|with_reducible rfl|omega)|omega)
      |(with_reducible apply A0;· first|with_reducible rfl|(simp (disch:=omega) only[gF,pk,b1,b2,w1,e6]<;>omega))
     try simp (disch:=omega) only[pk,b1,b2,w1,e6]
    |ok x=>
     obtain⟨ms,q⟩:=x;rw[ho] at h5;obtain⟨hq,rfl⟩:=h5;refine⟨_,er.trans ?_,(C7.self h.B).tail.trans hq,rfl⟩
     try unfold Ac
     repeat first
      |((with_reducible first|apply A1|apply As|apply A5|apply Av|apply A2|apply At|apply A3|apply A4);· first|with_reducible rfl|(simp (disch:=omega) only[gT,pk,b1,b2,w1,e6]<;>first|with_reducible rfl|omega)|omega)
      |(with_reducible apply A0;· first|with_reducible rfl|(simp (disch:=omega) only[gF,pk,b1,b2,w1,e6]<;>omega))
     try simp (disch:=omega) only[pk,b1,b2,w1,e6]
     rfl
  ·by_cases g2:MR l=91
   ·cases l with
    |nil=>cases g2
    |cons c l=>
     have g3:c=91:=g2;subst g3;have er:=B2 (p:=none) fu (d+2*(k+1)+4) t (Bs t (91::l):Int) D;have pk:Ae C0 prog fu (d+2*(k+1)+4) 90 [.pbox (Bx t (91::l))]=some ⟨[.sc (.int .u8 91)],[Bx t (91::l)]⟩:=Lj (xs:=xs0) (d:=d+2*(k+1)+3) h;have b0:((91:Int)==(123:Int))=false:=rfl;have b1:((91:Int)==(91:Int))=true:=rfl;have b2:decide (D>8)=false:=by simp;omega
     have w1:wrap .i64 (D+1)=D+1:=Bd (by omega) (by omega)
     obtain⟨res,e5,h5⟩:=As0 (fu:=fu) (d:=d+2*k+2) (D:=D+1) ht E9 (E1 k) HV h;have e6:Ae C0 prog fu (d+2*(k+1)+4) 91 [.pbox (Bx t (91::l)),.sc (.int .i64 (D+1))]=some res:=e5;have ev:E1 (k+1) (91::l)=match Aa2 (E1 k) l with | .error e=>.error e | .ok r'=>.ok ((5,[],false),r'):=rfl
     rw[ev];cases ho:Aa2 (E1 k) l with
     |error e=>
      rw[ho] at h5;obtain⟨he,q,hq,rfl⟩:=h5;refine⟨_,er.trans ?_,he,5,⟨#[]⟩,false,q,hq,rfl⟩
      try unfold Ac
      repeat first
       |((with_reducible first|apply A1|apply As|apply A5|apply Av|apply A2|apply At|apply A3|apply A4);· first|with_reducible rfl|(simp (disch:=omega) only[gT,pk,b0,b1,b2,w1,e6]<;>first|with_reducible rfl|omega)|omega)
       |(with_reducible apply A0;· first|with_reducible rfl|(simp (disch:=omega) only[gF,pk,b0,b1,b2,w1,e6]<;>omega))
      try simp (disch:=omega) only[pk,b0,b1,b2,w1,e6]
     |ok q=>
      rw[ho] at h5;obtain⟨hq,rfl⟩:=h5;refine⟨_,er.trans ?_,(C7.self h.B).tail.trans hq,rfl⟩
      try unfold Ac
      repeat first
       |((with_reducible first|apply A1|apply As|apply A5|apply Av|apply A2|apply At|apply A3|apply A4);· first|with_reducible rfl|(simp (disch:=omega) only[gT,pk,b0,b1,b2,w1,e6]<;>first|with_reducible rfl|omega)|omega)
       |(with_reducible apply A0;· first|with_reducible rfl|(simp (disch:=omega) only[gF,pk,b0,b1,b2,w1,e6]<;>omega))
      try simp (disch:=omega) only[pk,b0,b1,b2,w1,e6]
      rfl
   ·by_cases g3:MR l=34
    ·cases l with
     |nil=>cases g3
     |cons c l=>
      have g4:c=34:=g3;subst g4;exact QT (d:=d+2*(k+1)) ht (k+1) h
    ·rw[GP (k+1) g1 g2 g3];exact Aec (d:=d+2*(k+1)) ht E9 h g1 g2 g3
end
end
section
open Go.Proofs.Tryd (prog)
open Go.IntKind (wrap)
set_option maxRecDepth 1000000
open Go.Shelf Go.RowKit Go.Lib
theorem SO (G:S2)(args:List PV)(res:Ay)(h:QR args=some res):C4 G prog 66 args res:=by
 refine⟨⟨_,Tryd.func66,by kernel_rfl⟩,fun w Y bt us hi _ _=>?_⟩
 unfold QR at h;split at h
 rotate_left
 ·cases h
 rename_i s p;cases hq:(Nat.ble p.size 1000&&p.data.toList.all (fun b=>decide (b.toNat<128))&&decide (s.size<=1000000000))
 ·rw[hq] at h;cases h
 rw[hq,cond_true] at h;cases h;rw[Bool.and_eq_true,Bool.and_eq_true] at hq;obtain⟨⟨h1,h2⟩,h3⟩:=hq;have h1:=Nat.le_of_ble_eq_true h1;have h3:=of_decide_eq_true h3;have ps:=hi.args
 match us,ps with
 |[u1,u2],ps=>
  obtain⟨⟨_,p1⟩,⟨_,p2⟩,_⟩:=ps;have e1:u1=.string s:=Au.val (show Au w _ (.sc (.string s)) u1 from p1)
  have e2:u2=.string p:=Au.val (show Au w _ (.sc (.string p)) u2 from p2)
  subst e1 e2;refine (Any.strings_Trim_laid UE (by kernel_rfl) s p w (by omega) (by omega) (ascii_of_all h2)).mono ?_
  rintro e w' ⟨rfl,hb⟩
  exact⟨[.string ⟨(Lib.trimS s.data.toList p.data.toList).toArray⟩],fun _=>none,rfl,Nk hb rfl⟩
 |[],ps=>exact ps.elim
 |[_],ps=>exact ps.2.elim
 |_::_::_::_,ps=>exact ps.2.2.elim
end
section
open Go.Proofs.Tryd (prog)
open Go.IntKind (wrap)
set_option maxRecDepth 1000000
open Go.Shelf Go.RowKit Go.Lib
def Atp:Go.Shelf.Ren:=⟨fun|196=>33|259=>49|n=>n,fun|0=>0|3=>3|4=>4|5=>5|9=>9|12=>12|46=>56|53=>46|119=>86|138=>88|139=>89|n=>n,fun|3=>0|4=>1|n=>n⟩
theorem laysVS:Lays.n196 prog Atp:={
 mixed:=by kernel_rfl
 f196:=Tryd.func33.trans (congrArg some (by kernel_rfl))
 f259:=Tryd.func49.trans (congrArg some (by kernel_rfl))
 t0:=Tryd.underlying0
 a0:=Tryd.isAgg0
 z0:=Tryd.sizeOf0
 v0:=Tryd.zeroValue0
 t3:=Tryd.underlying3
 a3:=Tryd.isAgg3
 z3:=Tryd.sizeOf3
 v3:=Tryd.zeroValue3
 t4:=Tryd.underlying4
 a4:=Tryd.isAgg4
 z4:=Tryd.sizeOf4
 v4:=Tryd.zeroValue4
 t5:=Tryd.underlying5
 a5:=Tryd.isAgg5
 z5:=Tryd.sizeOf5
 v5:=Tryd.zeroValue5
 t9:=Tryd.underlying9
 a9:=Tryd.isAgg9
 z9:=Tryd.sizeOf9
 v9:=Tryd.zeroValue9
 t12:=Tryd.underlying12
 a12:=Tryd.isAgg12
 z12:=Tryd.sizeOf12
 v12:=Tryd.zeroValue12
 t46:=Tryd.underlying56
 a46:=Tryd.isAgg56
 z46:=Tryd.sizeOf56
 v46:=Tryd.zeroValue56
 t53:=Tryd.underlying46
 a53:=Tryd.isAgg46
 z53:=Tryd.sizeOf46
 v53:=Tryd.zeroValue46
 t119:=Tryd.underlying86
 a119:=Tryd.isAgg86
 z119:=Tryd.sizeOf86
 t138:=Tryd.underlying88
 a138:=Tryd.isAgg88
 z138:=Tryd.sizeOf88
 v138:=Tryd.zeroValue88
 t139:=Tryd.underlying89
 a139:=Tryd.isAgg89
 z139:=Tryd.sizeOf89
 v139:=Tryd.zeroValue89
 g3:=by kernel_rfl
 g4:=by kernel_rfl }
def gU:S2:=⟨fun b=>b=0∨b=1,fun w=>0<w.heap.size∧1<w.heap.size∧Lib.Utf8Tabs 0 1 w,fun w w' h ⟨s1,s2,h1,h2⟩=>by
 have e1:=h _ (.inl rfl) s1;have e2:=h _ (.inr rfl) s2
 have hs:∀b,b<w.heap.size->w'.heap[b]?=w.heap[b]?->b<w'.heap.size:=by
  intro b hb he;rw[Array.getElem?_eq_getElem hb] at he;rcases Nat.lt_or_ge b w'.heap.size with q|q
  ·exact q
  ·rw[Array.getElem?_eq_none q] at he;cases he
 refine⟨hs _ s1 e1,hs _ s2 e2,fun c hc=>?_,fun i hi=>?_⟩
 ·have:=h1 c hc;unfold World.cell? at this ⊢;simp only[e1] at this ⊢;exact this
 ·obtain⟨a,b⟩:=h2 i hi;unfold World.cell? at a b ⊢;simp only[e2] at a b ⊢;exact⟨a,b⟩⟩
theorem QM (args:List PV)(res:Ay)(h:TB args=some res):C4 gU prog 33 args res:=by
 refine⟨⟨_,Tryd.func33,by kernel_rfl⟩,fun w Y bt us hi hok _=>?_⟩
 unfold TB at h;split at h
 rotate_left
 ·cases h
 rename_i s;cases hq:decide (s.size<=9223372036854775807)
 ·rw[hq] at h;cases h
 rw[hq] at h;cases h;have hs:=of_decide_eq_true hq;have ps:=hi.args
 match us,ps with
 |[u],ps=>
  have hu:u=.string s:=by
   have:Au w _ (.sc (.string s)) u:=ps.1.2;exact this.val
  subst hu;refine (Any.utf8_ValidString laysVS s w hs hok.2.2).mono ?_
  rintro e w' ⟨rfl,hb⟩
  exact⟨[.bool (Lib.validD s.data.toList)],fun _=>none,rfl,Nk hb rfl⟩
 |[],ps=>exact ps.elim
 |_::_::_,ps=>exact ps.2.elim
theorem Ak5 {p:Option (List PV->Option Ay)} (hp:∀g,p=some g->∀args res,g args=some res->C4 gU prog 19 args res):HQ gU prog (CP p):=by
 intro f g args res hx hg;have hx0:(bif T7.any (Nat.beq f) then none else NU p f)=some g:=hx;cases hb:T7.any (Nat.beq f)
 rotate_left
 ·rw[hb,cond_true] at hx0;cases hx0
 rw[hb,cond_false] at hx0;unfold NU at hx0;cases hP:Nat.beq f 19
 rotate_left
 ·rw[hP,cond_true] at hx0;rw[Nat.eq_of_beq_eq_true hP];exact hp g hx0 args res hg
 rw[hP,cond_false] at hx0;have Qk:Aeu f=some g:=hx0;unfold Aeu at Qk;cases h1:Nat.beq f 33
 rotate_left
 ·rw[h1,cond_true] at Qk;cases Qk;rw[Nat.eq_of_beq_eq_true h1];exact QM args res hg
 rw[h1,cond_false] at Qk;cases h6:Nat.beq f 40
 rotate_left
 ·rw[h6,cond_true] at Qk;cases Qk;rw[Nat.eq_of_beq_eq_true h6];exact ZL gU args res hg
 rw[h6,cond_false] at Qk;cases h7:Nat.beq f 99
 rotate_left
 ·rw[h7,cond_true] at Qk;cases Qk;rw[Nat.eq_of_beq_eq_true h7];exact ZC gU args res hg
 rw[h7,cond_false] at Qk;cases hA:Nat.beq f 66
 rotate_left
 ·rw[hA,cond_true] at Qk;cases Qk;rw[Nat.eq_of_beq_eq_true hA];exact SO gU args res hg
 rw[hA,cond_false] at Qk;cases h8:Nat.beq f 12
 rotate_left
 ·rw[h8,cond_true] at Qk;cases Qk;rw[Nat.eq_of_beq_eq_true h8];exact Abk gU args res hg
 rw[h8,cond_false] at Qk;cases h9:Nat.beq f 68
 rotate_left
 ·rw[h9,cond_true] at Qk;cases Qk;rw[Nat.eq_of_beq_eq_true h9];exact Aa7 gU args res hg
 rw[h9,cond_false] at Qk;cases h3:Nat.beq f 1000000
 ·rw[h3,cond_false] at Qk;cases Qk
 ·rw[h3,cond_true] at Qk;cases Qk;cases hg
theorem Ap0:HQ gU prog C0:=Ak5 (fun _ h=>by cases h)
end
section
open Go.Proofs.Tryd (prog)
open Go.IntKind (wrap)
open Go Go.RowKit
def Py (v:JV):Value:=.agg #[.int .i64 v.1,.string (Ab v.2.1),.bool v.2.2]
def Ht:Nat->List (List Int × JV)->List MapEntry
 |_,[]=>[]
 |i,m::r=>{ key:=.string (Ab m.1),val:=Py m.2,born:=i }::Ht (i+1) r
theorem IL:∀(i:Nat)(a b:List (List Int × JV)),Ht i (a++b)=Ht i a++Ht (i+a.length) b
 |_,[],_=>rfl
 |i,m::r,b=>by
  show _::Ht (i+1) (r++b)=_;rw[IL (i+1) r b];show _=_::(Ht (i+1) r++Ht (i+(r.length+1)) b);rw[show i+1+r.length=i+(r.length+1) by omega]
def Jy (nm:List Int)(ms:List (List Int × JV)):Option JV:=(ms.find? fun m=>m.1==nm).map (·.2)
theorem Yf {a b:List Int}(ha:C8 a)(hb:C8 b)(h:Ab a=Ab b):a=b:=by
 have:=congrArg E4 h
 rwa [Ck ha,Ck hb] at this
theorem Ae6 (a b:ByteArray):(a==b)=decide (a=b):=by
 have e:(a==b)=(a.data==b.data):=by
  cases a;cases b;rfl
 rw[e,Bool.eq_iff_iff,beq_iff_eq,decide_eq_true_iff];constructor
 ·intro h;cases a;cases b;exact congrArg ByteArray.mk h
 ·intro h;rw[h]
theorem Qd {nm:List Int}(hn:C8 nm):∀(ms:List (List Int × JV)) (i j:Nat),(∀m∈ms,C8 m.1)->∃r,Instr.findNow .string (.string (Ab nm)) (Ht i ms) j=some r∧(match Jy nm ms with|none=>r=none|some v=>∃k,r=some (k,Py v))
 |[],_,_,_=>⟨none,rfl,rfl⟩
 |m::r,i,j,hB=>by
  by_cases h:m.1=nm
  ·refine⟨some (j,Py m.2),?_,?_⟩
   ·show (match Instr.sameNow .string (.string (Ab nm)) (.string (Ab m.1)) with|some true=>some (some (j,Py m.2))|some false=>Instr.findNow .string (.string (Ab nm)) (Ht (i+1) r) (j+1)|none=>none)=_
    have e:Instr.sameNow .string (.string (Ab nm)) (.string (Ab m.1))=some true:=by
     show some (Ab nm==Ab m.1)=some true;rw[h,Ae6];simp
    rw[e]
   ·have e:Jy nm (m::r)=some m.2:=by
     unfold Jy;rw[List.find?_cons_of_pos (by simp[h])]
     rfl
    rw[e];exact⟨j,rfl⟩
  ·obtain⟨q,hq,hl⟩:=Qd hn r (i+1) (j+1) fun m hm=>hB m (List.mem_cons_of_mem _ hm)
   refine⟨q,?_,?_⟩
   ·show (match Instr.sameNow .string (.string (Ab nm)) (.string (Ab m.1)) with|some true=>some (some (j,Py m.2))|some false=>Instr.findNow .string (.string (Ab nm)) (Ht (i+1) r) (j+1)|none=>none)=_
    have e:Instr.sameNow .string (.string (Ab nm)) (.string (Ab m.1))=some false:=by
     show some (Ab nm==Ab m.1)=some false;have:Ab nm≠Ab m.1:=fun e=>h (Yf hn (hB m (List.mem_cons_self ..)) e).symm
     rw[Ae6];simp[this]
    rw[e];exact hq
   ·have e:Jy nm (m::r)=Jy nm r:=by
     unfold Jy;rw[List.find?_cons_of_neg (by simp[h])]
    rw[e];exact hl
def BA (w:World)(b:Nat)(ms:List (List Int × JV)):Prop:=w.heap[b]?=some (.map (Ht 0 ms).toArray ms.length)
theorem AP {w:World}{b:Nat}{ms:List (List Int × JV)} (h:BA w b ms):(getObj b).run prog w=.ok (.map (Ht 0 ms).toArray ms.length) w:=by
 simp[getObj,Sem.run,show w.heap[b]?=_ from h]
def PG (nm:List Int)(ms:List (List Int × JV)):Value:=match Jy nm ms with|some v=>Py v|none=>Py (0,[],false)
theorem DO {w:World}{b:Nat}{ms:List (List Int × JV)} (h:BA w b ms)(hB:∀m∈ms,C8 m.1){nm:List Int}(hn:C8 nm)(ok:Bool):(Instr.lookup 68 (.map (some b)) (.string (Ab nm)) ok).run prog w=.ok (if ok then .tuple #[PG nm ms,.bool (Jy nm ms).isSome] else PG nm ms) w:=by
 have hu:=run_underlying (w:=w) Tryd.underlying68;have hk:=run_underlying (w:=w) Tryd.underlying9;have hck:∀c (n:Nat),(Instr.checkKey c (n+1) 9 (.string (Ab nm))).run prog w=.ok () w:=fun c n=>by simp[Instr.checkKey,hk]
 have hc:∀c,(Instr.checkKey c 10000 9 (.string (Ab nm))).run prog w=.ok () w:=fun c=>hck c 9999
 obtain⟨r,hr,hl⟩:=Qd hn ms 0 0 hB;have hz:(zeroValue 95).run prog w=.ok (Py (0,[],false)) w:=Tryd.zeroValue95 w;unfold PG;cases hq:Jy nm ms with
 |none=>
  rw[hq] at hl;simp only at hl;subst hl;cases ok<;>simp[Instr.lookup,hu,hk,AP h,hc,Instr.findKey,hr,hz]<;>rfl
 |some v=>
  rw[hq] at hl;obtain⟨k,hl⟩:=hl;subst hl;cases ok<;>simp[Instr.lookup,hu,hk,AP h,hc,Instr.findKey,hr]
theorem UA {w:World}{b:Nat}{ms:List (List Int × JV)} (h:BA w b ms)(hB:∀m∈ms,C8 m.1){nm:List Int}(hn:C8 nm)(LT:Jy nm ms=none)(v:JV):(Instr.mapUpdate 68 (.map (some b)) (.string (Ab nm)) (Py v)).run prog w=.ok () { w with heap:=w.heap.setIfInBounds b (.map (Ht 0 (ms++[(nm,v)])).toArray (ms++[(nm,v)]).length) }:=by
 have hu:=run_underlying (w:=w) Tryd.underlying68;have hk:=run_underlying (w:=w) Tryd.underlying9;have hck:∀c (n:Nat),(Instr.checkKey c (n+1) 9 (.string (Ab nm))).run prog w=.ok () w:=fun c n=>by simp[Instr.checkKey,hk]
 have hc:∀c,(Instr.checkKey c 10000 9 (.string (Ab nm))).run prog w=.ok () w:=fun c=>hck c 9999
 obtain⟨r,hr,hl⟩:=Qd hn ms 0 0 hB;rw[LT] at hl;simp only at hl;subst hl
 have e:Ht 0 (ms++[(nm,v)])=Ht 0 ms++[{ key:=.string (Ab nm),val:=Py v,born:=ms.length }]:=by
  rw[IL];show _++[_]=_;rw[Zzd]
 have hs:∀o,(setObj b o).run prog w=.ok () { w with heap:=w.heap.setIfInBounds b o }:=fun o=>by
  simp[setObj,Sem.run,show w.heap[b]?=_ from h]
 rw[e];simp[Instr.mapUpdate,hu,hk,AP h,hc,Instr.findKey,hr,hs]
end
section
open Go.Proofs.Tryd (prog)
open Go.IntKind (wrap)
set_option maxRecDepth 20000
open Go Go.RowKit
structure J6 (w:World) (b:Nat):Prop where
 ok:gU.ok w
 bl:∀k,gU.bl k->k<w.heap.size∧k≠b
theorem DA {f:FuncId}{t:ByteArray}{r r':List Int}{args vals:List PV}{us rs:List Value}{fu d:Nat}(e:Ae C0 prog fu d f (.pbox (Bx t r)::args)=some ⟨vals,[Bx t r']⟩) (ha:Bc DV args us)(hr:Bc DV vals rs)
  {w:World} {b o:Nat} (hU:J6 w b) (h:Vs w b o t r):Calls prog f (.pointer (some ⟨b,o,none⟩)::us).toArray w fun e w'=>e=.returned (Gv rs)∧Vs w' b o t r'∧Ee w w' b o 2:=by
 have hs:C4 gU prog f (.pbox ([Value.string t,.int .i64 (Bs t r:Int)].map .sc)::args) ⟨vals,[[Value.string t,.int .i64 (Bs t r':Int)].map .sc]⟩:=He ngR mxR Ap0 d f _ _ e;refine (IW hs ha hr (w:=w) (b:=b) (o:=o) hU.ok hU.bl h.lt ?_ ?_).mono ?_
 ·intro j v hv
  match j,hv with
  |0,hv=>cases hv;exact h.c0
  |1,hv=>cases hv;exact h.c1
 ·intro j hj
  match j,hj with
  |0,_=>exact h.f0
  |1,_=>exact h.f1
 ·rintro e w' ⟨rfl,_,h4,h5,hk⟩
  exact⟨rfl,⟨Nat.lt_of_lt_of_le h.lt hk.size,h4 0 _ rfl,h4 1 _ rfl,h5 0 (Nat.zero_lt_succ _),h5 1 (Nat.succ_lt_succ (Nat.zero_lt_succ _))⟩,hk⟩
theorem G9 {t:ByteArray}{r:List Int}(hS:C7 t r)(ht:t.size<=1000000){w:World}{b o:Nat}(hU:J6 w b)(h:Vs w b o t r):
  Calls prog 50 #[.pointer (some ⟨b,o,none⟩)] w fun e w'=>e=.returned (.tuple #[])∧Vs w' b o t (Bb r)∧Ee w w' b o 2:=by
 have e:=Oc (fu:=1000001) (d:=0) hS ht (by omega)
 exact DA (us:=[]) (rs:=[]) e trivial trivial hU h
def Ang (t:ByteArray)(r r':List Int)(e:Ending):Prop:=
 match E1 8 r with
 |.ok (v,q)=>r'=q∧C7 (Ab r) q∧e=.returned (.tuple #[Py v,.int .i64 0])
 |.error er=>er≠0∧C7 t r'∧∃u:JV,e=.returned (.tuple #[Py u,.int .i64 er])
theorem Abr {t:ByteArray}{r:List Int}(hS:C7 t r)(ht:t.size<=1000000){w:World}{b o:Nat}(hU:J6 w b)(h:Vs w b o t r):
  Calls prog 69 #[.pointer (some ⟨b,o,none⟩),.int .i64 1] w fun e w'=>∃r',Vs w' b o t r'∧Ee w w' b o 2 ∧
   Ang t r r' e:=by
 unfold Ang;obtain⟨res,e,hr⟩:=Alp (fu:=1000001) (d:=0) ht (by omega) 8 1 (by omega) (by omega) r hS
 cases hv:E1 8 r with
 |error er=>
  rw[hv] at hr;obtain⟨he,c1,c2,c3,q,hq,rfl⟩:=hr;refine (DA (us:=[.int .i64 1]) (rs:=[.agg #[.int .i64 c1,.string c2,.bool c3],.int .i64 er]) e ⟨.inl rfl,trivial⟩ ⟨.inr ⟨[.int .i64 c1,.string c2,.bool c3],rfl,rfl⟩,.inl rfl,trivial⟩ hU h).mono ?_
  rintro e w' ⟨rfl,ha,hk⟩
  exact⟨q,ha,hk,he,hq,(c1,E4 c2,c3),by unfold Py;simp only[Hw];rfl⟩
 |ok x=>
  obtain⟨v,q⟩:=x;rw[hv] at hr;obtain⟨hq,rfl⟩:=hr;refine (DA (us:=[.int .i64 1]) (rs:=[Py v,.int .i64 0]) e ⟨.inl rfl,trivial⟩ ⟨.inr ⟨[.int .i64 v.1,.string (Ab v.2.1),.bool v.2.2],rfl,rfl⟩,.inl rfl,trivial⟩ hU h).mono ?_
  rintro e w' ⟨rfl,ha,hk⟩
  exact⟨q,ha,hk,rfl,hq,rfl⟩
end
section
open Go.Proofs.Tryd (prog)
open Go.IntKind (wrap)
set_option maxRecDepth 1000000
open Go Go.RowKit Go.Lib
theorem J6.keep {w w':World}{b o n:Nat}(h:J6 w b)(k:Ee w w' b o n):J6 w' b:=
 ⟨gU.stable w w' (fun j hj hl=>k.other j hl (h.bl j hj).2) h.ok,fun j hj=>⟨Nat.lt_of_lt_of_le (h.bl j hj).1 k.size,(h.bl j hj).2⟩⟩
theorem BA.keep {w w':World}{b mb o n:Nat}{ms:List (List Int × JV)} (h:BA w mb ms)(k:Ee w w' b o n)(Ei:mb≠b):BA w' mb ms:=by
 have B5:mb<w.heap.size:=(Array.getElem?_eq_some_iff.1 h).1;exact (k.other mb B5 Ei).trans h
structure Dp (w w':World) (b mb:Nat):Prop where
 os:w'.os=w.os
 tape:w'.tape=w.tape
 output:w'.output=w.output
 size:w.heap.size<=w'.heap.size
 other:∀k,k<w.heap.size->k≠b->k≠mb->w'.heap[k]?=w.heap[k]?
theorem Dp.of {w w':World}{b mb o n:Nat}(k:Ee w w' b o n):Dp w w' b mb:=⟨k.os,k.tape,k.output,k.size,fun j hj hb _=>k.other j hj hb⟩
theorem J6.below {w w':World}{b:Nat}(h:J6 w b)(k:Below w.heap.size w w'):J6 w' b:=
 ⟨gU.stable w w' (fun j _ hl=>k.block j hl) h.ok,fun j hj=>⟨Nat.lt_of_lt_of_le (h.bl j hj).1 k.size,(h.bl j hj).2⟩⟩
theorem BA.below {w w':World}{mb:Nat}{ms:List (List Int × JV)} (h:BA w mb ms)(k:Below w.heap.size w w'):BA w' mb ms:=by
 have B5:mb<w.heap.size:=(Array.getElem?_eq_some_iff.1 h).1;exact (k.block mb B5).trans h
theorem Dp.trans {w w' w'':World}{b mb:Nat}(h:Dp w w' b mb)(k:Dp w' w'' b mb):Dp w w'' b mb:=
 ⟨k.os.trans h.os,k.tape.trans h.tape,k.output.trans h.output,Nat.le_trans h.size k.size,fun i hi h1 h2=>(k.other i (Nat.lt_of_lt_of_le hi h.size) h1 h2).trans (h.other i hi h1 h2)⟩
theorem VG:∀(n:Nat)(out l s q:List Int),C8 out->C8 l->Hm n out l=(some s,q)->C8 s
  |0,_,_,_,_,_,_,h=>by cases h
  |_+1,_,[],_,_,_,_,h=>by cases h
  |n+1,out,c::l,s,q,ho,hl,h=>by
    have e:Hm (n+1) out (c::l)=if c<32 then (none,c::l) else if c=34 then (some out,l) else if c=92 then
        (match Lp l with
         |(some x,r')=>Hm n (out++Lib.encodeRuneZ x) r'
         |(none,r')=>(none,r')) else Hm n (out++[c]) l:=rfl
    have Pg:=Bm hl
    rw[e] at h
    split at h
    · cases h
    split at h
    · cases h;exact ho
    split at h
    · have h2:=P3 (C7.self Pg.2)
      rcases hq:Lp l with⟨o,r⟩
      rw[hq] at h2 h
      cases o with
      |none=>cases h
      |some x=>exact VG n _ r s q (Ih ho (fun y hy=>by have:=Lib.encodeRuneZ_byte x y hy;omega)) (by have:=h2.B;exact this) h
    · exact VG n _ l s q (Ih ho (fun y hy=>by simp at hy;omega)) Pg.2 h
theorem XP {l s q:List Int}(hl:C8 l)(h:Eo l=(some s,q)):C8 s:=by
 cases l with
 |nil=>cases h
 |cons c l=>
  have e:Eo (c::l)=if c=34 then Hm (l.length+1) [] l else (none,c::l):=rfl
  rw[e] at h;split at h
  ·exact VG _ _ _ _ _ (fun x hx=>by cases hx) (Bm hl).2 h
  ·cases h
theorem Dp.below {w w':World}{b mb:Nat}(k:Below w.heap.size w w'):Dp w w' b mb:=⟨k.os,k.tape,k.output,k.size,fun i hi _ _=>k.block i hi⟩
theorem Ahj {P:Program}{t k e:TypeId}(hu:P.underlying t=some (.map k e)) (mb:Nat)(w:World):(binOp .neq t (.map (some mb)) (.map none)).run P w=.ok (.bool true) w:=by
 have h:∀d,(Op.equalIn (d+1) t (.map (some mb)) (.map none)).run P w=.ok false w:=fun d=>by
  simp[Op.equalIn,run_underlying hu]
 simp only[binOp];simp[Op.equal,Op.maxDepth,h 9999]
theorem Ad6 (nm:List Int)(ms:List (List Int × JV)):(ms.any fun m=>m.1==nm)=(Jy nm ms).isSome:=by
 unfold Jy
 induction ms with
 |nil=>rfl
 |cons m r ih=>
  by_cases h:m.1=nm
  ·rw[List.find?_cons_of_pos (by simp[h])]
   simp[h]
  ·rw[List.find?_cons_of_neg (by simp[h]),←ih]
   simp[h]
theorem Q4 (V:List Int->JR (JV × List Int)) (kp:Bool)(l:List Int):Vp V kp l=match Aq [125] (Bb l) with|some r=>.ok ([],r)|none=>O5 V kp ((Bb l).length+1) [] (Bb l):=by
 unfold Vp;rw[D9];cases Bb l with
 |nil=>rfl
 |cons y s=>
  by_cases hy:y=125
  ·subst hy;rfl
  ·simp only[Cr hy];split
   ·rename_i e;injection e with e1 _;exact absurd e1 hy
   ·rfl
theorem BO {W:World}{mb b:Nat}{ob:Obj}(Ei:mb≠b):({ W with heap:=W.heap.setIfInBounds mb ob }:World).heap[b]?=W.heap[b]?:=Array.getElem?_setIfInBounds_ne Ei
theorem Vs.put {W:World}{b o mb:Nat}{t:ByteArray}{r:List Int}{ob:Obj}(h:Vs W b o t r)(Ei:mb≠b):Vs { W with heap:=W.heap.setIfInBounds mb ob } b o t r:=by
 have e:=BO (W:=W) (ob:=ob) Ei;refine⟨by simpa using h.lt,(World.cell?_of_block e).trans h.c0,(World.cell?_of_block e).trans h.c1,?_,?_⟩
 ·have:=h.f0;unfold World.frozen? at this ⊢;simp only[e] at this ⊢;exact this
 ·have:=h.f1;unfold World.frozen? at this ⊢;simp only[e] at this ⊢;exact this
theorem J6.put {W:World}{b mb:Nat}{ob:Obj}(h:J6 W b)(hmU:¬gU.bl mb):J6 { W with heap:=W.heap.setIfInBounds mb ob } b:=
 ⟨gU.stable W _ (fun j hj _=>BO (fun e=>hmU (e ▸ hj))) h.ok,fun j hj=>⟨by simpa using (h.bl j hj).1,(h.bl j hj).2⟩⟩
theorem Dp.put {W:World}{b mb:Nat}{ob:Obj}:Dp W { W with heap:=W.heap.setIfInBounds mb ob } b mb:=
 ⟨rfl,rfl,rfl,by simp,fun k _ _ h=>BO (fun e=>h e.symm)⟩
theorem BA.put {W:World}{mb n:Nat}{ms ms':List (List Int × JV)} (h:BA W mb ms)(hn:ms'.length=n):BA { W with heap:=W.heap.setIfInBounds mb (.map (Ht 0 ms').toArray n) } mb ms':=by
 have B5:mb<W.heap.size:=(Array.getElem?_eq_some_iff.1 h).1;subst hn;exact Array.getElem?_setIfInBounds_self_of_lt B5
def RoP (w':World)(mb:Nat)(l r':List Int)(e:Ending):Prop:=
 match Aq [123] l with
 |some l'=>(match Vp (E1 8) true l' with
  |.ok (ms,q)=>r'=q∧e=.returned (.int .i64 0)∧BA w' mb ms
  |.error er=>er≠0∧e=.returned (.int .i64 er))
 |none=>e=.returned (.int .i64 2)
set_option maxHeartbeats 4000000 in
theorem Ahz {t:ByteArray}{l:List Int}(hS:C7 t l)(ht:t.size<=1000000){w:World}{b o mb:Nat}(hU:J6 w b)(h:Vs w b o t l)(hM:BA w mb []) (JW:mb≠b)(hmU:¬gU.bl mb):
  Calls prog 51 #[.pointer (some ⟨b,o,none⟩),.int .i64 1,.map (some mb)] w fun e w'=>Dp w w' b mb∧∃r',C7 t r'∧Vs w' b o t r' ∧
   RoP w' mb l r' e:=by
 have mixed:prog.follows Departure.mixedOrders=true:=by kernel_rfl
 have hac:=Gp hS ht (w0:=[123]) (fun x hx=>by simp at hx;omega) (by decide) h
 go_enter Tryd.func51,Tryd.ntmps51
 go_wp2_with (go_at_call 67;refine hac.mono ?_)
 rintro e W1 ⟨rfl,h1,k1⟩
 cases hq:Aq [123] l with
 |none=>
  rw[hq] at h1
  go_wp2
  go_ret
  exact⟨Dp.of k1,l,hS,h1,by unfold RoP;rw[hq];rfl⟩
 |some l'=>
  rw[hq] at h1;have hS1:=Ar hS hq;have hsk:=G9 hS1 ht (hU.keep k1) h1
  go_wp2_with (go_at_call 50;refine hsk.mono ?_)
  rintro e W2 ⟨rfl,h2,k2⟩
  have S8:=Bp hS1;have A4a:=Gp S8 ht (w0:=[125]) (fun x hx=>by simp at hx;omega) (by decide) h2
  go_wp2_with (go_at_call 67;refine A4a.mono ?_)
  rintro e W3 ⟨rfl,h3,k3⟩
  cases Kp:Aq [125] (Bb l') with
  |some r3=>
   rw[Kp] at h3
   go_wp2
   go_ret
   refine⟨((Dp.of k1).trans (Dp.of k2)).trans (Dp.of k3),r3,Ar S8 Kp,h3,?_⟩;unfold RoP;rw[hq];simp only;rw[Q4,Kp];exact⟨rfl,rfl,((hM.keep k1 JW).keep k2 JW).keep k3 JW⟩
  |none=>
   rw[Kp] at h3
   have hRo:∀w' r' e,(match O5 (E1 8) true ((Bb l').length+1) [] (Bb l') with
     |.ok (ms,q)=>r'=q∧e=.returned (.int .i64 0)∧BA w' mb ms
     |.error er=>er≠0∧e=.returned (.int .i64 er))->RoP w' mb l r' e:=by
    intro w' r' e h;unfold RoP;rw[hq];simp only;rw[Q4,Kp];exact h
   have hU3:=((hU.keep k1).keep k2).keep k3;have hM3:=((hM.keep k1 JW).keep k2 JW).keep k3 JW;have Jn:Dp w W3 b mb:=((Dp.of k1).trans (Dp.of k2)).trans (Dp.of k3)
   go_wp2
   go_loopw [] (fun wr=>∃(n:Nat) (ms:List (List Int × JV)) (x:List Int),O5 (E1 8) true ((Bb l').length+1) [] (Bb l')=O5 (E1 8) true n ms x∧x.length<n∧C7 t x∧Vs wr b o t x∧BA wr mb ms∧(∀m∈ms,C8 m.1)∧J6 wr b∧Dp w wr b mb) (fun wr=>match wr.cell? ⟨b,o+1,none⟩ with|some (.int _ p)=>t.size-p.toNat|_=>0)
   case atStart=>
    exact⟨_,[],Bb l',rfl,Nat.lt_succ_self _,S8,h3,hM3,(fun m hm=>by cases hm),hU3,Jn⟩
   case round=>
    obtain⟨n,ms,x,Fh,hn,hSx,hat,hMx,hBx,hUx,hkx⟩:=hrel;have hrd:Calls prog 68 #[.pointer (some ⟨b,o,none⟩)] wr fun e w'=>e=.returned (.tuple #[.string (Ab ((Eo x).1.getD [])),.bool (Eo x).1.isSome])∧Vs w' b o t (Eo x).2∧Ee wr w' b o 2:=QO hSx ht hat
    go_wp2_with (go_at_call 68;refine hrd.mono ?_)
    rintro e W4 ⟨rfl,h4,k4⟩
    obtain⟨m,rfl⟩:∃m,n=m+1:=⟨n-1,by omega⟩
    rw[Ut (E1 8) true m ms x] at Fh;have Rw:Dp w W4 b mb:=hkx.trans (Dp.of k4);have Z2:=Gn hSx;rcases hx:Eo x with⟨o4,q4⟩;rw[hx] at h4 Fh Z2;cases o4 with
    |none=>
     go_wp2
     go_ret
     exact⟨Rw,q4,Z2,h4,hRo _ _ _ (by rw[Fh];exact⟨by decide,rfl⟩)⟩
    |some nm=>
     have FY:=XP hSx.B hx;have hM4:=hMx.keep k4 JW;have hlk:=DO hM4 hBx FY true;simp only[Bool.true_and,Ad6] at Fh;cases hl:Jy nm ms with
     |some v=>
      rw[hl] at hlk Fh;have hvm:PG nm ms=.agg #[.int .i64 v.1,.string (Ab v.2.1),.bool v.2.2]:=by unfold PG;rw[hl];rfl
      rw[hvm] at hlk
      go_wp2
      go_ret
      have Oj:=fun ob=>(Below.refl W4.heap.size W4).alloc (Nat.le_refl _) ob
      exact⟨Rw.trans (Dp.below (Oj _)),q4,Z2,h4.below (Oj _) h4.lt,hRo _ _ _ (by rw[Fh];exact⟨by decide,rfl⟩)⟩
     |none=>
      rw[hl] at hlk Fh;have hvm:PG nm ms=.agg #[.int .i64 0,.string ⟨#[]⟩,.bool false]:=by unfold PG;rw[hl];rfl
      rw[hvm] at hlk;have Oj:Below W4.heap.size W4 (W4.alloc (.cells #[.int .i64 0,.string ⟨#[]⟩,.bool false] 95)):=(Below.refl W4.heap.size W4).alloc (Nat.le_refl _) _;have h5:=h4.below Oj h4.lt;have hM5:=hM4.below Oj;have hU5:=(hUx.keep k4).below Oj;have UQ:=Rw.trans (Dp.below (b:=b) (mb:=mb) Oj);have Amw:=G9 Z2 ht hU5 h5
      go_wp2_with (go_at_call 50;refine Amw.mono ?_)
      rintro e W6 ⟨rfl,h6,k6⟩
      have Fz:=Bp Z2;have A2b:=Gp Fz ht (w0:=[58]) (fun x hx=>by simp at hx;omega) (by decide) h6
      go_wp2_with (go_at_call 67;refine A2b.mono ?_)
      rintro e W7 ⟨rfl,h7,k7⟩
      have hk7:=(UQ.trans (Dp.of k6)).trans (Dp.of k7);cases hq7:Aq [58] (Bb q4) with
      |none=>
       rw[hq7] at h7
       go_wp2
       go_ret
       exact⟨hk7,Bb q4,Fz,h7,hRo _ _ _ (by rw[Fh];simp only[Option.isSome_none,Bool.false_eq_true,if_false,hq7];exact⟨by decide,rfl⟩)⟩
      |some r7=>
       rw[hq7] at h7;have hS7:=Ar Fz hq7;have hU7:=(hU5.keep k6).keep k7;have hM7:=(hM5.keep k6 JW).keep k7 JW;have A5h:=G9 hS7 ht hU7 h7
       go_wp2_with (go_at_call 50;refine A5h.mono ?_)
       rintro e W8 ⟨rfl,h8,k8⟩
       have hS8:=Bp hS7;have hvc:=Abr hS8 ht (hU7.keep k8) h8
       go_wp2_with (go_at_call 69;refine hvc.mono ?_)
       rintro e W9 ⟨r9,h9,k9,hv9⟩
       have hk9:=(hk7.trans (Dp.of k8)).trans (Dp.of k9)
       have YX:O5 (E1 8) true ((Bb l').length+1) [] (Bb l')=match E1 8 (Bb r7) with
         |.error e=>.error e
         |.ok (v,r2)=>match Aq [125] (Bb r2) with
          |some r3=>.ok (ms++[(nm,v)],r3)
          |none=>match Aq [44] (Bb r2) with
           |some r3=>O5 (E1 8) true m (ms++[(nm,v)]) (Bb r3)
           |none=>.error 2:=by
        rw[Fh];simp only[Option.isSome_none,Bool.false_eq_true,if_false,hq7]
        all_goals (rcases E1 8 (Bb r7) with e|⟨v,r2⟩;rfl;simp only;cases Aq [125] (Bb r2)<;>cases Aq [44] (Bb r2)<;>rfl)
       unfold Ang at hv9;cases hv:E1 8 (Bb r7) with
       |error er=>
        rw[hv] at hv9 YX;obtain⟨he,hs9,u,rfl⟩:=hv9;unfold Py;have hbe:(er != (0:Int))=true:=by simp[he]
        go_wp2
        go_ret
        have SW:=fun ob=>(Below.refl W9.heap.size W9).alloc (Nat.le_refl _) ob
        exact⟨hk9.trans (Dp.below (SW _)),r9,hs9,h9.below (SW _) h9.lt,hRo _ _ _ (by rw[YX];exact⟨he,rfl⟩)⟩
       |ok x9=>
        obtain⟨v9,q9⟩:=x9;rw[hv] at hv9 YX;obtain⟨rfl,hq9,rfl⟩:=hv9;unfold Py;have SW:Below W9.heap.size W9 (W9.alloc (.cells #[.int .i64 v9.1,.string (Ab v9.2.1),.bool v9.2.2] 95)):=(Below.refl W9.heap.size W9).alloc (Nat.le_refl _) _;have ZN:=h9.below SW h9.lt;have At0:=((hM7.keep k8 JW).keep k9 JW).below SW;have A07:=((hU7.keep k8).keep k9).below SW;have A6a:=hk9.trans (Dp.below (b:=b) (mb:=mb) SW);have hup:=UA At0 hBx FY hl v9;unfold Py at hup;have Ei:=Ahj Tryd.underlying68 mb;have hS9:=hS8.trans hq9;have h11:=ZN.put (mb:=mb) (ob:=.map (Ht 0 (ms++[(nm,v9)])).toArray (ms.length+1)) JW;have Ata:=A07.put (ob:=.map (Ht 0 (ms++[(nm,v9)])).toArray (ms.length+1)) hmU;have hln:(ms++[(nm,v9)]).length=ms.length+1:=by simp
        rw[hln] at hup;have Arx:=At0.put (ms':=ms++[(nm,v9)]) hln;have Azx:=A6a.trans (Dp.put (b:=b) (ob:=.map (Ht 0 (ms++[(nm,v9)])).toArray (ms.length+1)));have Ast:=G9 hS9 ht Ata h11
        go_wp2_with (go_at_call 50;refine Ast.mono ?_)
        rintro e W12 ⟨rfl,h12,k12⟩
        have Aet:=Bp hS9;have At8:=Gp Aet ht (w0:=[125]) (fun x hx=>by simp at hx;omega) (by decide) h12
        go_wp2_with (go_at_call 67;refine At8.mono ?_)
        rintro e W13 ⟨rfl,h13,k13⟩
        have As7:=(Azx.trans (Dp.of k12)).trans (Dp.of k13);cases Aao:Aq [125] (Bb r9) with
        |some r13=>
         rw[Aao] at h13
         go_wp2
         go_ret
         exact⟨As7,r13,Ar Aet Aao,h13,hRo _ _ _ (by rw[YX];simp only;rw[Aao];exact⟨rfl,rfl,(Arx.keep k12 JW).keep k13 JW⟩)⟩
        |none=>
         rw[Aao] at h13;have Ar3:=Gp Aet ht (w0:=[44]) (fun x hx=>by simp at hx;omega) (by decide) h13
         go_wp2_with (go_at_call 67;refine Ar3.mono ?_)
         rintro e W14 ⟨rfl,h14,k14⟩
         have Asi:=As7.trans (Dp.of k14);cases Abp:Aq [44] (Bb r9) with
         |none=>
          rw[Abp] at h14
          go_wp2
          go_ret
          exact⟨Asi,Bb r9,Aet,h14,hRo _ _ _ (by rw[YX];simp only;rw[Aao];simp only;rw[Abp];exact⟨by decide,rfl⟩)⟩
         |some r14=>
          rw[Abp] at h14;have Aru:=Ar Aet Abp;have Asx:=((Ata.keep k12).keep k13).keep k14;have Ax4:=((Arx.keep k12 JW).keep k13 JW).keep k14 JW;have Aux:=G9 Aru ht Asx h14
          go_wp2_with (go_at_call 50;refine Aux.mono ?_)
          rintro e W15 ⟨rfl,h15,k15⟩
          have A11:=Bp Aru
          have hlr:(Bb r14).length+1<=x.length:=by
           have JM:=Gn (C7.self hSx.B);rw[hx] at JM;have g1:=(Bp (Ar (Bp JM) hq7));have g2:=((Bp (g1.trans hq9))).le;have g3:=P6 r14;have g4:=QJ Abp;omega
          have hxl:=hSx.len
          go_wp2
          refine⟨⟨m,ms++[(nm,v9)],Bb r14,by rw[YX];simp only[Aao,Abp],by omega,A11,h15,Ax4.keep k15 JW,fun y hy=>?_,Asx.keep k15,Asi.trans (Dp.of k15)⟩,?_⟩
          ·rcases List.mem_append.1 hy with hy|hy
           ·exact hBx y hy
           ·simp at hy;subst hy;exact FY
          ·have KI:Bs t x<Bs t (Bb r14):=by unfold Bs;omega
           have hp4:Bs t (Bb r14)<=t.size:=Nat.sub_le _ _;simp only[h15.c1,hat.c1,O8];omega
end
section
open Go.IntKind (wrap)
def A6 (c:Int):List Int->List (List Int)
 |[]=>[[]]
 |x::r=>if x=c then []::A6 c r else match A6 c r with
  |h::t=>(x::h)::t
  |[]=>[[x]]
theorem Nv (c:Int)(l:List Int):A6 c l≠[]:=by
 cases l with
 |nil=>simp[A6]
 |cons x r=>
  unfold A6;split
  ·simp
  ·cases A6 c r<;>simp
def Bn (c:Int)(l:List Int):List Int:=l.takeWhile (fun x=>x != c)
theorem Y5 (c:Int):∀(l:List Int),A6 c l=if (Bn c l).length<l.length then Bn c l::A6 c (l.drop ((Bn c l).length+1)) else [l]
 |[]=>rfl
 |x::r=>by
  by_cases h:x=c
  ·subst h;have e:Bn x (x::r)=[]:=by unfold Bn;rw[List.takeWhile_cons_of_neg (by simp)]
   have e2:A6 x (x::r)=[]::A6 x r:=by
    show (if x=x then []::A6 x r else _)=_
    rw[Dw rfl]
   rw[e,Dw (by simp),e2]
   rfl
  ·have e:Bn c (x::r)=x::Bn c r:=by unfold Bn;rw[List.takeWhile_cons_of_pos (by simp[h])]
   have e2:A6 c (x::r)=match A6 c r with|a::t=>(x::a)::t|[]=>[[x]]:=by
    show (if x=c then []::A6 c r else _)=_
    rw[Cr h]
   rw[e,e2,Y5 c r];by_cases g:(Bn c r).length<r.length
   ·rw[Dw g,Dw (by simp;omega)]
    rfl
   ·rw[Cr g,Cr (by simp;omega)]
def FO (x:Int):Bool:=decide (48<=x)&&decide (x<=57)
def ltB (x:Int):Bool:=(decide (97<=x)&&decide (x<=122))||FO x
def Rn (l:List Int):Bool:=decide (1<=l.length)&&decide (l.length<=63) && !(l.head?==some 45) && !(l.getLast?==some 45)&&l.all (fun x=>ltB x||x==45)
def Sj (l:List Int):Int:=
 if 100<l.length then 8 else if (A6 46 l).all Rn=false then 2 else if ((A6 46 l).getLastD []).all FO=true then 2 else 0
def QS (l:List Int):Int:=l.foldl (fun n x=>10*n+(x-48)) 0
def Ou (l:List Int):Bool:=decide (1<=l.length)&&decide (l.length<=5) && !(l.head?==some 48)&&l.all FO
def dfl (s:Bool):Int:=if s=true then 443 else 80
def HN (s:Bool)(r:List Int):Int:=
 let nm:=Bn 58 r
 if Sj nm≠0 then Sj nm else if nm.length=r.length then 0 else
  if Ou (r.drop (nm.length+1))=true∧QS (r.drop (nm.length+1))<=65535∧QS (r.drop (nm.length+1))≠dfl s then 0 else 2
def D3 (l:List Int):Int:=
 if [104,116,116,112,115,58,47,47].isPrefixOf l=true then HN true (l.drop 8)
 else if [104,116,116,112,58,47,47].isPrefixOf l=true then HN false (l.drop 7) else 2
end
end Go.Proofs.YtodnjibebeghjaaDoor.Pv
