/-
  The proof of DataWritten, part 4.
-/
import Derived.Test.YtodnjibebeghjaaGreatDoorWC
import Derived.Lib.RuneBytes
import Derived.Lib.SlTrimSet
import Derived.Test.YtodnjibebeghjaaGreatDoorRows
import Derived.Lib.BytesEntry
import Derived.Lib.Bytealg
import Derived.Lib.Walk
import Derived.WalkKit
import Derived.WalkMore
import Derived.Laws.Bits64b
import Derived.Shelf.Strings.BuilderRune
import Derived.Shelf.Strings.SlTrimAscii
import Derived.Shelf.RegionOpenPlain
import Derived.Lib.Overlaps
import Derived.Lib.AppendZerosOnto
import Derived.Lib.SliceRun
import Derived.Laws.Externs
import Derived.Laws.IdiomCopy
import Derived.Laws.NewBlocks
import Derived.Shelf.Unicode.ValidAny
import Derived.Lib.LaidU8T
set_option linter.unusedSimpArgs false
set_option linter.unusedVariables false
namespace Go.Proofs.YtodnjibebeghjaaGreatDoor.Pv
section
open Go.IntKind (wrap)
def Fp (v:Int):Int:=if v<26 then 65+v else if v<52 then 71+v else if v<62 then v-4 else if v<63 then 45 else 95
def Bv (c:Int):Int:=if 65<=c∧c<=90 then c-65 else if 97<=c∧c<=122 then c-71 else if 48<=c∧c<=57 then c+4 else if c=45 then 62 else if c=95 then 63 else 64
theorem Mi {v:Int}(h0:0<=v)(h1:v<64):Bv (Fp v)=v:=by
 unfold Bv Fp;split<;>split<;>(try split)<;>(try split)<;>(try split)<;>(try split)<;>(try split)<;>(try split)<;>omega
theorem Pe (c:Int):0<=Bv c∧Bv c<=64:=by
 unfold Bv;split
 ·omega
 split
 ·omega
 split
 ·omega
 split
 ·omega
 split<;>omega
def Ef:List Int->List Int
 |[]=>[]
 |[a]=>[Fp (a / 4),Fp (a % 4*16)]
 |[a,b]=>[Fp (a / 4),Fp (a % 4*16+b / 16),Fp (b % 16*4)]
 |a::b::c::r=>Fp (a / 4)::Fp (a % 4*16+b / 16)::Fp (b % 16*4+c / 64)::Fp (c % 64)::Ef r
def Nt:List Int->Option (List Int)
 |[]=>some []
 |[_]=>none
 |[p,q]=>if Bv p<64∧Bv q<64∧Bv q % 16=0 then some [Bv p*4+Bv q / 16] else none
 |[p,q,r]=>if Bv p<64∧Bv q<64∧Bv r<64∧Bv r % 4=0 then some [Bv p*4+Bv q / 16,Bv q % 16*16+Bv r / 4] else none
 |p::q::r::s::t=>if Bv p<64∧Bv q<64∧Bv r<64∧Bv s<64 then (Nt t).map (fun l=>(Bv p*4+Bv q / 16)::(Bv q % 16*16+Bv r / 4)::(Bv r % 4*64+Bv s)::l) else none
theorem Bq {a:Int}{l:List Int}(h:Cx (a::l)):(0<=a∧a<=255)∧Cx l:=⟨h a (by simp),fun x hx=>h x (by simp[hx])⟩
theorem Ab6:∀{l:List Int},Cx l->Nt (Ef l)=some l
 |[],_=>rfl
 |[a],h=>by
  obtain⟨ha,_⟩:=Bq h;have e1:=Mi (v:=a / 4) (by omega) (by omega)
  have e2:=Mi (v:=a % 4*16) (by omega) (by omega)
  unfold Ef Nt;rw[e1,e2,Dy (by omega)]
  congr 2
  omega
 |[a,b],h=>by
  obtain⟨ha,h⟩:=Bq h;obtain⟨hb,_⟩:=Bq h;have e1:=Mi (v:=a / 4) (by omega) (by omega)
  have e2:=Mi (v:=a % 4*16+b / 16) (by omega) (by omega)
  have e3:=Mi (v:=b % 16*4) (by omega) (by omega)
  unfold Ef Nt;rw[e1,e2,e3,Dy (by omega)]
  congr 2
  ·omega
  ·congr 1;omega
 |a::b::c::r,h=>by
  obtain⟨ha,h⟩:=Bq h;obtain⟨hb,h⟩:=Bq h;obtain⟨hc,h⟩:=Bq h;have e1:=Mi (v:=a / 4) (by omega) (by omega)
  have e2:=Mi (v:=a % 4*16+b / 16) (by omega) (by omega)
  have e3:=Mi (v:=b % 16*4+c / 64) (by omega) (by omega)
  have e4:=Mi (v:=c % 64) (by omega) (by omega)
  unfold Ef Nt;rw[e1,e2,e3,e4,Dy (by omega),Ab6 h]
  simp only[Option.map_some]
  congr 2
  ·omega
  ·congr 1
   ·omega
   ·congr 1;omega
theorem PT:∀l:List Int,(Ef l).length=(4*l.length+2) / 3
 |[]=>rfl
 |[_]=>by simp[Ef]
 |[_,_]=>by simp[Ef]
 |a::b::c::r=>by
  show (Ef r).length+1+1+1+1=_;rw[PT r];simp only[Uk];omega
end
section
open Go.IntKind (wrap)
def Po (c:Int):Bool:=c==32||c==9||c==10||c==13
def A3:List Int->List Int
 |[]=>[]
 |c::r=>if Po c=true then A3 r else c::r
def Wp (c:Int):Option Int:=if 48<=c∧c<=57 then some (c-48) else if 97<=c∧c<=102 then some (c-87) else if 65<=c∧c<=70 then some (c-55) else none
abbrev PR (α:Type):=Option α × List Int
def Me:Nat->Int->List Int->PR Int
 |0,x,l=>(some x,l)
 |_+1,_,[]=>(none,[])
 |n+1,x,c::r=>match Wp c with
  |some v=>Me n (x*16+v) r
  |none=>(none,c::r)
def IA (x:Int):Bool:=decide (56320<=x)&&decide (x<=57343)
def Ab3 (x:Int)(l:List Int):PR Int:=
 match Me 4 0 l with
 |(some y,r)=>if IA y=true then (some (65536+(x-55296)*1024+(y-56320)),r) else (none,r)
 |(none,r)=>(none,r)
def Ahn:List Int->Bool
 |92::117::_=>true
 |_=>false
def Nl (l:List Int):PR Int:=
 match Me 4 0 l with
 |(none,r)=>(none,r)
 |(some x,r)=>if IA x=true then (none,r) else if x<55296∨56319<x then (some x,r) else if Ahn r=true then Ab3 x (r.drop 2) else (none,r)
def Xa (c:Int):Option Int:=if c=34∨c=92∨c=47 then some c else if c=98 then some 8 else if c=102 then some 12 else if c=110 then some 10 else if c=114 then some 13 else if c=116 then some 9 else none
def Lb:List Int->PR Int
 |[]=>(none,[])
 |c::r=>if c=117 then Nl r else match Xa c with
  |some x=>(some x,r)
  |none=>(none,c::r)
def Fq:Nat->List Int->List Int->PR (List Int)
  |0,_,l=>(none,l)
  |_+1,_,[]=>(none,[])
  |n+1,out,c::r=>if c<32 then (none,c::r) else if c=34 then (some out,r) else if c=92 then
      (match Lb r with
       |(some x,r')=>Fq n (out++Lib.encodeRuneZ x) r'
       |(none,r')=>(none,r'))
    else Fq n (out++[c]) r
def Ev:List Int->PR (List Int)
 |[]=>(none,[])
 |c::r=>if c=34 then Fq (r.length+1) [] r else (none,c::r)
def Rr (l:List Int):Option (List Int × List Int):=match Ev l with|(some s,r)=>some (s,r)|_=>none
def dgS (c:Int):Bool:=decide (48<=c)&&decide (c<=57)
def K6:List Int->List Int
 |[]=>[]
 |c::r=>if dgS c=true then K6 r else c::r
def Cm:List Int->Option (List Int)
 |[]=>none
 |c::r=>if dgS c=true then some (K6 r) else none
def Ahj (c:Int):List Int->List Int
 |[]=>[]
 |d::r=>if d=c then r else d::r
def Wj:List Int->Option (List Int)
 |[]=>some []
 |c::r=>if c=101∨c=69 then (match r with
   |43::r'=>Cm r'
   |r=>Cm (Ahj 45 r)) else some (c::r)
def FO:List Int->Option (List Int)
 |[]=>some []
 |c::r=>if c=46 then (Cm r).bind Wj else Wj (c::r)
def Ane:List Int->Option (List Int)
 |[]=>none
 |c::r=>if c=48 then some r else Cm (c::r)
def F9 (l:List Int):Option (List Int):=(Ane (Ahj 45 l)).bind FO
abbrev JV:=Int × List Int × Bool
abbrev JR (α:Type):=Except Int α
def S9 (V:List Int->JR (JV × List Int)):Nat->List Int->JR (List Int)
 |0,_=>.error 2
 |n+1,l=>match V l with
  |.error e=>.error e
  |.ok (_,r)=>match A3 r with
   |93::r'=>.ok r'
   |44::r'=>S9 V n (A3 r')
   |_=>.error 2
def RT (V:List Int->JR (JV × List Int)) (l:List Int):JR (List Int):=
 match A3 l with
 |93::r=>.ok r
 |l'=>S9 V (l'.length+1) l'
def Ayr (V:List Int->JR (JV × List Int)) (dup:List Int->Bool)(l:List Int):JR ((List Int × JV) × List Int):=
 match Rr l with
 |none=>.error 2
 |some (nm,r)=>if dup nm=true then .error 10 else
  match A3 r with
  |58::r'=>(match V (A3 r') with
   |.error e=>.error e
   |.ok (v,r'')=>.ok ((nm,v),r''))
  |_=>.error 2
def Oh (V:List Int->JR (JV × List Int)) (kp:Bool):Nat->List (List Int × JV)->List Int->JR (List (List Int × JV) × List Int)
 |0,_,_=>.error 2
 |n+1,ms,l=>match Ayr V (fun nm=>kp&&ms.any fun m=>m.1==nm) l with
  |.error e=>.error e
  |.ok (m,r)=>match A3 r with
   |125::r'=>.ok (ms++[m],r')
   |44::r'=>Oh V kp n (ms++[m]) (A3 r')
   |_=>.error 2
def V8 (V:List Int->JR (JV × List Int)) (kp:Bool)(l:List Int):JR (List (List Int × JV) × List Int):=
 match A3 l with
 |125::r=>.ok ([],r)
 |l'=>Oh V kp (l'.length+1) [] l'
def Ao (w l:List Int):Option (List Int):=if w.isPrefixOf l=true then some (l.drop w.length) else none
def Dj:Nat->List Int->JR (JV × List Int)
 |k,l=>match l with
  |123::r=>(match k with
   |0=>.error 5
   |k+1=>(match V8 (Dj k) false r with
    |.error e=>.error e
    |.ok (_,r')=>.ok ((6,[],false),r')))
  |91::r=>(match k with
   |0=>.error 5
   |k+1=>(match RT (Dj k) r with
    |.error e=>.error e
    |.ok r'=>.ok ((5,[],false),r')))
  |34::r=>(match Rr (34::r) with
   |none=>.error 2
   |some (s,r')=>.ok ((4,s,false),r'))
  |l=>match Ao [116,114,117,101] l with
   |some r=>.ok ((2,[],true),r)
   |none=>match Ao [102,97,108,115,101] l with
    |some r=>.ok ((2,[],false),r)
    |none=>match Ao [110,117,108,108] l with
     |some r=>.ok ((1,[],false),r)
     |none=>match F9 l with
      |some r=>.ok ((3,[],false),r)
      |none=>.error 2
def AW (k:Nat)(l:List Int):JR (List (List Int × JV)):=
 match A3 l with
 |123::r=>(match V8 (Dj k) true r with
  |.error e=>.error e
  |.ok (ms,r')=>if A3 r'=[] then .ok ms else .error 2)
 |_=>.error 2
end
section
open Go.IntKind (wrap)
def VB:List PV->Option (List Int)
 |[]=>some []
 |.sc (.int .u8 n)::r=>bif decide (0<=n)&&decide (n<=255) then (VB r).map (n :: ·) else none
 |_=>none
def Ayt (args:List PV):Option Ap:=
 match args with
 |[.lst _ 1 n c]=>bif Nat.beq c.length n&&Nat.ble n 100000000 then (match VB c with|some l=>some ⟨[.sc (.string (Ab (Ef l)))],[]⟩|none=>none) else none
 |_=>none
def Ahm (args:List PV):Option Ap:=
  match args with
  |[.pbox [.sc (.string t),.sc (.int .i64 p)]]=>bif decide (0<=p)&&decide (p<=t.size)&&Nat.ble t.size 1000000 then
      (match Ev ((Fn t).drop p.toNat) with
       |(some s,r)=>some ⟨[.sc (.string (Ab s)),.sc (.bool true)],[[.sc (.string t),.sc (.int .i64 (t.size-r.length:Int))]]⟩
       |(none,r)=>some ⟨[.sc (.string ⟨#[]⟩),.sc (.bool false)],[[.sc (.string t),.sc (.int .i64 (t.size-r.length:Int))]]⟩) else none
  |_=>none
def A0l (args:List PV):Option Ap:=
 match args with
 |[.sc (.string s),.sc (.int .u8 c)]=>some ⟨[.sc (.int .i64 (Lib.indexByte s.data.toList c.toNat.toUInt8))],[]⟩
 |_=>none
def Avw (args:List PV):Option Ap:=
 match args with
 |[.sc (.string s),.sc (.string p)]=>bif Nat.beq p.size 1 then some ⟨[.sc (.int .i64 (Lib.countByte s.data.toList p[0]!))],[]⟩ else none
 |_=>none
def UT (args:List PV):Option Ap:=
 match args with
 |[.sc (.string s),.sc (.string p)]=>bif Nat.ble p.size 1000&&p.data.toList.all (fun b=>decide (b.toNat<128))&&decide (s.size<=1000000000) then some ⟨[.sc (.string ⟨(Lib.trimS s.data.toList p.data.toList).toArray⟩)],[]⟩ else none
 |_=>none
def Akk (f:FuncId):Option (List PV->Option Ap):=
 bif Nat.beq f 27 then some Aa9 else
 bif Nat.beq f 79 then some A0l else
 bif Nat.beq f 108 then some Avw else
 bif Nat.beq f 72 then some UT else
 bif Nat.beq f 31 then some Ayt else
 bif Nat.beq f 66 then some Ahm else
 bif Nat.beq f 1000000 then some (fun _=>none) else none
def SM (p:Option (List PV->Option Ap)) (f:FuncId):Option (List PV->Option Ap):=bif Nat.beq f 13 then p else Akk f
abbrev CP (p:Option (List PV->Option Ap)):G1:=CX (SM p)
abbrev C0:G1:=CP none
abbrev xs0:=SM none
end
section
open Go.IntKind (wrap)
open Go.RowKit
def HW (p:PV)(u:Value):Prop:=p=.sc u∨∃vs:List Value,p=.agg (vs.map .sc)∧u=.agg ⟨vs⟩
theorem Ui {w:World}{A:Nat->Prop}{own:Bt}:∀{vs us:List Value}{j:Nat},Ex w A own j (vs.map .sc) us->us=vs
 |[],[],_,_=>rfl
 |[],_::_,_,h=>h.elim
 |_::_,[],_,h=>h.elim
 |v::vs,u::us,j,h=>by
  have h1:Ay w A (.sc v) u:=h.1;rw[h1.val,Ui h.2]
theorem Tt {w:World}{A:Nat->Prop}{own:Bt}:∀{vs:List Value}{j:Nat},Ex w A own j (vs.map .sc) vs
 |[],_=>trivial
 |v::vs,j=>⟨show Ay w A (.sc v) v from .sc v,Tt⟩
theorem FE {w:World}{A:Nat->Prop}{own:Bt}{z:Nat}:∀{vals:List PV}{us us':List Value}{j:Nat},Bh HW vals us->LH w A own z j vals us'->us'=us
 |[],[],[],_,_,_=>rfl
 |[],[],_::_,_,_,h=>h.elim
 |[],_::_,_,_,h,_=>h.elim
 |_::_,[],_,_,h,_=>h.elim
 |_::_,_::_,[],_,_,h=>h.elim
 |p::ps,u::us,u'::us',j,hs,h=>by
  rw[FE hs.2 h.2]
  congr 1
  rcases hs.1 with rfl|⟨vs,rfl,rfl⟩
  ·exact Ay.val (show Ay w A (.sc u) u' from h.1)
  ·obtain⟨vs',rfl,h2⟩:=h.1;rw[Ui h2]
structure Ez (w w':World) (b o n:Nat):Prop where
 os:w'.os=w.os
 tape:w'.tape=w.tape
 output:w'.output=w.output
 size:w.heap.size<=w'.heap.size
 grow:Hh w w' b
 other:∀k,k<w.heap.size->k≠b->w'.heap[k]?=w.heap[k]?
 cells:∀j,(j<o∨o+n<=j)->w'.cell? ⟨b,j,none⟩=w.cell? ⟨b,j,none⟩
 frz:∀j,(j<o∨o+n<=j)->w'.frozen? ⟨b,j,none⟩=w.frozen? ⟨b,j,none⟩
def bt1 (b o:Nat):Zn:=fun i j=>match i,j with|0,0=>some (b,o)|_,_=>none
theorem Aht {b o k:Nat}(h:BtX (bt1 b o) k):k=b:=by
 obtain⟨i,j,o',h⟩:=h;unfold bt1 at h;split at h
 ·cases h;rfl
 ·cases h
theorem Yh {w:World}{A:Nat->Prop}{bt:Zn}:∀{i:Nat}{ps:List PV}{us:List Value},Bh HW ps us->K0 w A bt i ps us
 |_,[],[],_=>trivial
 |_,[],_::_,h=>h.elim
 |_,_::_,[],h=>h.elim
 |i,p::ps,u::us,h=>by
  refine⟨?_,Yh h.2⟩;rcases h.1 with rfl|⟨vs,rfl,rfl⟩
  ·exact⟨.inl trivial,show Ay w A (.sc u) u from .sc u⟩
  ·refine⟨vs,rfl,fun p hp=>?_,Tt⟩
   obtain⟨v,_,rfl⟩:=List.mem_map.1 hp;exact .inl trivial
theorem KT {G:Xg}{P:Program}{f:FuncId}{vs vs':List Value}{args vals:List PV}{us rs:List Value}(hs:Dh G P f (.pbox (vs.map .sc)::args) ⟨vals,[vs'.map .sc]⟩) (ha:Bh HW args us)(hr:Bh HW vals rs)
  {w:World} {b o:Nat} (hG:G.ok w) (hGl:∀k,G.bl k->k<w.heap.size∧k≠b) (hb:b<w.heap.size) (hc:∀j v,vs[j]?=some v->w.cell? ⟨b,o+j,none⟩=some v) (hf:∀j,j<vs.length->w.frozen? ⟨b,o+j,none⟩=false):
  Calls P f (.pointer (some ⟨b,o,none⟩)::us).toArray w fun e w'=>e=.returned (H1 rs)∧vs'.length=vs.length∧(∀j v,vs'[j]?=some v->w'.cell? ⟨b,o+j,none⟩=some v)∧(∀j,j<vs.length->w'.frozen? ⟨b,o+j,none⟩=false)∧Ez w w' b o vs.length:=by
 have hi:Ins w (fun _=>False) (bt1 b o) (.pbox (vs.map .sc)::args) (.pointer (some ⟨b,o,none⟩)::us):=by
  refine⟨fun _ h=>h.elim,fun _ h=>h.elim,fun k h=>by rw[Aht h];exact hb,fun i j i' j' k x x' h h'=>?_,fun i q h=>?_,?_,Yh ha⟩
  ·unfold bt1 at h h';split at h
   ·split at h'
    ·exact⟨rfl,rfl⟩
    ·cases h'
   ·cases h
  ·unfold bt1 at h;split at h
   ·exact⟨_,rfl,rfl⟩
   ·cases h
  ·refine⟨b,o,rfl,rfl,fun p hp=>?_,vs,Tt,hc,fun k hk=>hf k (by simpa using hk)⟩
   obtain⟨v,_,rfl⟩:=List.mem_map.1 hp;exact .inl trivial
 have C6:∀i,∀q,(bt1 b o) i 0=some q->i=0∧q=(b,o):=by
  intro i q h;unfold bt1 at h;split at h
  ·cases h;exact⟨rfl,rfl⟩
  ·cases h
 refine (hs.2 w _ _ _ hi hG (fun k hk=>⟨(hGl k hk).1,fun hx=>(hGl k hk).2 (Aht hx)⟩)).mono ?_
 rintro e w' ⟨ws,own,rfl,out⟩
 have hv:=FE hr out.vals;subst hv;have ho:=out.outs;obtain⟨⟨b',o',h1,h2,zs,h3,h4,h5⟩,_⟩:=(show (∃b' o',(bt1 b o) 0 0=some (b',o')∧(vs'.map PV.sc).length=(vs.map PV.sc).length∧Aio w' (GQ (bt1 b o) own (fun _=>False)) own (Ls vals) b' o' (vs'.map .sc))∧_ from ho)
 cases h1;have hz:=Ui h3;subst hz;simp only[List.length_map] at h2 h5
 have hL:∀k j,k<w.heap.size->(k≠b∨j<o∨o+vs.length<=j)->¬ES (bt1 b o) (.pbox (vs.map .sc)::args) k j:=by
  rintro k j hk E2 ⟨i,p,hp,hq⟩
  rcases hq with⟨x,y,hq,_⟩|⟨y,ps,hq,hy,Jm⟩
  ·unfold bt1 at hq;split at hq
   ·rename_i h;cases h
   ·cases hq
  ·obtain⟨rfl,h⟩:=C6 i _ hq;cases h;have:p=.pbox (vs.map .sc):=by simpa using hp.symm
   subst this;rcases Jm with⟨e,Cb⟩|e
   ·injection e with e;subst e;rw[List.length_map] at Cb;rcases E2 with h|h|h
    ·exact h rfl
    ·omega
    ·omega
   ·cases e
 refine⟨rfl,h2,h4,fun j hj=>h5 j (by omega),out.os,out.tape,out.output,out.ext.size,out.ext.bs b hb,fun k hk E2=>out.ext.keep k hk fun hx=>E2 (Aht hx),fun j hj=>(out.rng b j hb (hL b j hb (.inr hj))).1,fun j hj=>(out.rng b j hb (hL b j hb (.inr hj))).2⟩
end
section
open Go.IntKind (wrap)
open Go.RowKit
theorem Qc {w w':World}{Y:Nat->Prop}{bt:Zn}{args:List PV}{v:Value}(hb:Below w.heap.size w w')(ho:Vk w' (GQ bt (fun _=>none) Y) (fun _=>none) bt (Ls [.sc v]) 0 args []):
  Out w w' Y bt args (fun _=>none) ⟨[.sc v],[]⟩ [v] where
 os:=hb.os
 tape:=hb.tape
 output:=hb.output
 ext:=⟨hb.size,fun b h _=>hb.block b h,fun b h=>Hh.same (hb.block b h)⟩
 rng:=fun b j h _=>⟨by unfold World.cell?;simp only[hb.block b h],by unfold World.frozen?;simp only[hb.block b h]⟩
 vals:=⟨Ay.sc v,trivial⟩
 outs:=ho
 fresh:=fun j b o h=>by cases h
 inj:=fun j j' b o o' h=>by cases h
end
section
open Go.Proofs.Tryz (prog)
open Go.IntKind (wrap)
set_option maxRecDepth 1000000
open Go.RowKit
theorem Adi (G:Xg)(args:List PV)(res:Ap)(h:A0l args=some res):Dh G prog 79 args res:=by
 refine⟨⟨_,Tryz.func79,by kernel_rfl⟩,fun w Y bt us hi _ _=>?_⟩
 unfold A0l at h;split at h
 rotate_left
 ·cases h
 rename_i s c;cases h;have ps:=hi.args
 match us,ps with
 |[u1,u2],ps=>
  obtain⟨⟨_,p1⟩,⟨_,p2⟩,_⟩:=ps;have e1:u1=.string s:=Ay.val (show Ay w _ (.sc (.string s)) u1 from p1)
  have e2:u2=.int .u8 c:=Ay.val (show Ay w _ (.sc (.int .u8 c)) u2 from p2)
  subst e1 e2
  have walk:Calls prog 79 #[.string s,.int .u8 c] w fun e w'=>e=.returned (.int .i64 (Lib.indexByte s.data.toList c.toNat.toUInt8))∧w'=w:=by
   go_enter Tryz.func79,Tryz.ntmps79
   go_wp2
   rw[run_callFunc_extern Tryz.func100 (by kernel_rfl) (by kernel_rfl) (by kernel_rfl) (e:=Extern.BytealgIndexByte.indexByte) (by kernel_rfl),Lib.run_indexByteString]
   simp only[Result.andThen];rw[Oper.upon_value]
   go_wp2
   go_ret
   exact⟨rfl,rfl⟩
  refine walk.mono ?_
  rintro e w' ⟨rfl,rfl⟩
  exact⟨[.int .i64 (Lib.indexByte s.data.toList c.toNat.toUInt8)],fun _=>none,rfl,Qc (Below.refl _ _) rfl⟩
 |[],ps=>exact ps.elim
 |[_],ps=>exact ps.2.elim
 |_::_::_::_,ps=>exact ps.2.2.elim
theorem Alb {p:ByteArray}(h:p.size=1):p=⟨#[p[0]!]⟩:=by
 obtain⟨⟨l⟩⟩:=p
 match l,h with
 |[x],_=>rfl
theorem Ae1 (G:Xg)(args:List PV)(res:Ap)(h:Avw args=some res):Dh G prog 108 args res:=by
 refine⟨⟨_,Tryz.func108,by kernel_rfl⟩,fun w Y bt us hi _ _=>?_⟩
 unfold Avw at h;split at h
 rotate_left
 ·cases h
 rename_i s p;cases hq:Nat.beq p.size 1
 ·rw[hq] at h;cases h
 rw[hq,cond_true] at h;cases h;have hp:=Alb (Nat.eq_of_beq_eq_true hq);generalize (p[0]!)=c at hp ⊢;subst hp;have ps:=hi.args
 match us,ps with
 |[u1,u2],ps=>
  obtain⟨⟨_,p1⟩,⟨_,p2⟩,_⟩:=ps;have e1:u1=.string s:=Ay.val (show Ay w _ (.sc (.string s)) u1 from p1)
  have e2:u2=.string ⟨#[c]⟩:=Ay.val (show Ay w _ (.sc (.string ⟨#[c]⟩)) u2 from p2)
  subst e1 e2
  have walk:Calls prog 108 #[.string s,.string ⟨#[c]⟩] w fun e w'=>e=.returned (.int .i64 (Lib.countByte s.data.toList c))∧w'=w:=by
   go_enter Tryz.func108,Tryz.ntmps108
   go_wp2
   rw[run_callFunc_extern Tryz.func120 (by kernel_rfl) (by kernel_rfl) (by kernel_rfl) (e:=Extern.BytealgCount.count) (by kernel_rfl),Lib.run_countString]
   simp only[Result.andThen];rw[Oper.upon_value]
   go_wp2
   go_ret
   exact⟨rfl,rfl⟩
  refine walk.mono ?_
  rintro e w' ⟨rfl,rfl⟩
  exact⟨[.int .i64 (Lib.countByte s.data.toList c)],fun _=>none,rfl,Qc (Below.refl _ _) rfl⟩
 |[],ps=>exact ps.elim
 |[_],ps=>exact ps.2.elim
 |_::_::_::_,ps=>exact ps.2.2.elim
end
section
open Go.IntKind (wrap)
set_option maxRecDepth 100000
theorem Azk (a b:Nat)(ha:a<4294967296)(hb:b<4294967296):bits .or .u32 ((a:Nat):Int) ((b:Nat):Int)=((a ||| b:Nat):Int):=by
 have hx:a ||| b<2 ^ 32:=Nat.or_lt_two_pow (by omega) (by omega)
 have h1:(BitVec.ofInt 32 (a:Int)).toNat=a:=by
  rw[BitVec.ofInt_natCast,BitVec.toNat_ofNat];exact Nat.mod_eq_of_lt (by omega)
 have h2:(BitVec.ofInt 32 (b:Int)).toNat=b:=by
  rw[BitVec.ofInt_natCast,BitVec.toNat_ofNat];exact Nat.mod_eq_of_lt (by omega)
 show IntKind.u32.wrap ((BitVec.ofInt 32 (a:Int) ||| BitVec.ofInt 32 (b:Int)).toNat:Int)=_;rw[BitVec.toNat_or,h1,h2];simp only[wrap,IntKind.bits,IntKind.signed,OC,Bool.false_eq_true,if_false];omega
theorem A4r (a b:Nat)(ha:a<4294967296)(hb:b<4294967296):bits .and .u32 ((a:Nat):Int) ((b:Nat):Int)=((a &&& b:Nat):Int):=by
 have hx:a &&& b<2 ^ 32:=Nat.and_lt_two_pow _ (by omega)
 have h1:(BitVec.ofInt 32 (a:Int)).toNat=a:=by
  rw[BitVec.ofInt_natCast,BitVec.toNat_ofNat];exact Nat.mod_eq_of_lt (by omega)
 have h2:(BitVec.ofInt 32 (b:Int)).toNat=b:=by
  rw[BitVec.ofInt_natCast,BitVec.toNat_ofNat];exact Nat.mod_eq_of_lt (by omega)
 show IntKind.u32.wrap ((BitVec.ofInt 32 (a:Int) &&& BitVec.ofInt 32 (b:Int)).toNat:Int)=_;rw[BitVec.toNat_and,h1,h2];simp only[wrap,IntKind.bits,IntKind.signed,OC,Bool.false_eq_true,if_false];omega
def Ju (a b c:Int):List Int:=[Fp (a / 4),Fp (a % 4*16+b / 16),Fp (b % 16*4+c / 64),Fp (c % 64)]
abbrev Art (a b c:Int):Int:=bits .or .u32 (bits .or .u32 (a % 4294967296*65536 % 4294967296) (b % 4294967296*256 % 4294967296)) (c % 4294967296)
theorem Ai5 {a b c:Int}(h:Cx [a,b,c]):Art a b c=a*65536+b*256+c:=by
 obtain⟨ha,h⟩:=Bq h;obtain⟨hb,h⟩:=Bq h;obtain⟨hc,h⟩:=Bq h;obtain⟨a,rfl⟩:=Int.eq_ofNat_of_zero_le ha.1;obtain⟨b,rfl⟩:=Int.eq_ofNat_of_zero_le hb.1;obtain⟨c,rfl⟩:=Int.eq_ofNat_of_zero_le hc.1;have e1:(a:Int) % 4294967296*65536 % 4294967296=((a*65536:Nat):Int):=by omega
 have e2:(b:Int) % 4294967296*256 % 4294967296=((b*256:Nat):Int):=by omega
 have e3:(c:Int) % 4294967296=(c:Int):=by omega
 show bits .or .u32 (bits .or .u32 _ _) _=_;rw[e1,e2,e3,Azk _ _ (by omega) (by omega)]
 have h1:a*65536 ||| b*256=a*65536+b*256:=by
  have:=Nat.shiftLeft_add_eq_or_of_lt (show b*256<2 ^ 16 by omega) a
  rw[Nat.shiftLeft_eq,show (2:Nat) ^ 16=65536 from rfl] at this
  exact this.symm
 rw[h1,Azk _ _ (by omega) (by omega)]
 have h2:a*65536+b*256 ||| c=a*65536+b*256+c:=by
  have:=Nat.shiftLeft_add_eq_or_of_lt (show c<2 ^ 8 by omega) (a*256+b)
  rw[Nat.shiftLeft_eq] at this;have e:(a*256+b)*2 ^ 8=a*65536+b*256:=by omega
  rw[e] at this;exact this.symm
 rw[h2];omega
theorem Ba3 {a b c:Int}(h:Cx [a,b,c]) (j:Nat)(hj:j<4):∃q,0<=q∧q<64∧bits .and .u32 (Art a b c / 2 ^ (18-6*j)) 63=q∧(Ju a b c)[j]?=some (Fp q):=by
 rw[Ai5 h];obtain⟨ha,h⟩:=Bq h;obtain⟨hb,h⟩:=Bq h;obtain⟨hc,h⟩:=Bq h
 have key:∀x:Int,0<=x->x<4294967296->bits .and .u32 x 63=x % 64:=by
  intro x h0 h1;obtain⟨n,rfl⟩:=Int.eq_ofNat_of_zero_le h0;have:=A4r n 63 (by omega) (by omega)
  rw[show ((63:Nat):Int)=63 from rfl] at this
  show bits BinOp.and IntKind.u32 (n:Int) 63=(n:Int) % 64;rw[this,show (63:Nat)=2 ^ 6-1 by decide,Nat.and_two_pow_sub_one_eq_mod n 6]
  omega
 match j,hj with
 |0,_=>
  refine⟨_,?_,?_,key _ ?_ ?_,?_⟩
  ·show 0<=(a*65536+b*256+c) / 262144 % 64;omega
  ·show (a*65536+b*256+c) / 262144 % 64<64;omega
  ·show 0<=(a*65536+b*256+c) / 262144;omega
  ·show (a*65536+b*256+c) / 262144<_;omega
  ·show some (Fp _)=some (Fp ((a*65536+b*256+c) / 262144 % 64))
   congr 2;omega
 |1,_=>
  refine⟨_,?_,?_,key _ ?_ ?_,?_⟩
  ·show 0<=(a*65536+b*256+c) / 4096 % 64;omega
  ·show (a*65536+b*256+c) / 4096 % 64<64;omega
  ·show 0<=(a*65536+b*256+c) / 4096;omega
  ·show (a*65536+b*256+c) / 4096<_;omega
  ·show some (Fp _)=some (Fp ((a*65536+b*256+c) / 4096 % 64))
   congr 2;omega
 |2,_=>
  refine⟨_,?_,?_,key _ ?_ ?_,?_⟩
  ·show 0<=(a*65536+b*256+c) / 64 % 64;omega
  ·show (a*65536+b*256+c) / 64 % 64<64;omega
  ·show 0<=(a*65536+b*256+c) / 64;omega
  ·show (a*65536+b*256+c) / 64<_;omega
  ·show some (Fp _)=some (Fp ((a*65536+b*256+c) / 64 % 64))
   congr 2;omega
 |3,_=>
  refine⟨_,?_,?_,key _ ?_ ?_,?_⟩
  ·show 0<=(a*65536+b*256+c) / 1 % 64;omega
  ·show (a*65536+b*256+c) / 1 % 64<64;omega
  ·show 0<=(a*65536+b*256+c) / 1;omega
  ·show (a*65536+b*256+c) / 1<_;omega
  ·show some (Fp _)=some (Fp ((a*65536+b*256+c) / 1 % 64))
   congr 2;omega
def Z0:ByteArray:=⟨#[65,66,67,68,69,70,71,72,73,74,75,76,77,78,79,80,81,82,83,84,85,86,87,88,89,90,97,98,99,100,101,102,103,104,105,106,107,108,109,110,111,112,113,114,115,116,117,118,119,120,121,122,48,49,50,51,52,53,54,55,56,57,45,95]⟩
theorem Afz:Z0.size=64:=rfl
theorem Aik:∀n:Fin 64,((Z0[n.val]'n.isLt).toNat:Int)=Fp (n.val:Int):=by decide +kernel
theorem Apx {q:Int}(h0:0<=q)(h1:q<64)(h:q.toNat<Z0.size):((Z0[q.toNat]'(h)).toNat:Int)=Fp q:=by
 have:=Aik ⟨q.toNat,h⟩;refine this.trans (congrArg Fp ?_);show (q.toNat:Int)=q;omega
theorem A12 {q:Int}(h0:0<=q)(h1:q<64):0<=Fp q∧Fp q<=255:=by
 unfold Fp;split
 ·omega
 split
 ·omega
 split
 ·omega
 split<;>omega
theorem Ayz {a b c:Int}(h:Cx [a,b,c]):Cx (Ju a b c):=by
 obtain⟨ha,h⟩:=Bq h;obtain⟨hb,h⟩:=Bq h;obtain⟨hc,h⟩:=Bq h;intro x hx;simp[Ju] at hx;rcases hx with rfl|rfl|rfl|rfl<;>apply A12<;>omega
theorem Kk {a b:List Int}(ha:Cx a)(hb:Cx b):Cx (a++b):=by
 intro x hx;rcases List.mem_append.1 hx with h|h
 ·exact ha x h
 ·exact hb x h
theorem Al2 {a:List Int}(ha:Cx a)(k:Nat):Cx (a.take k):=fun x hx=>ha x (List.mem_of_mem_take hx)
theorem Aj8 {a:List Int}(ha:Cx a)(k:Nat):Cx (a.drop k):=fun x hx=>ha x (List.mem_of_mem_drop hx)
theorem Agc:∀(l:List Int),Cx l->l≠[]->∃a b c,Cx [a,b,c]∧Ef l=(Ju a b c).take (min l.length 3+1)++Ef (l.drop (min l.length 3))∧[a,b,c].take (min l.length 3)=l.take (min l.length 3)∧(l.length<3->c=0)∧(l.length<2->b=0)
 |[],_,h=>absurd rfl h
 |[a],h,_=>by
  have:=Bq h;refine⟨a,0,0,?_,?_,rfl,fun _=>rfl,fun _=>rfl⟩
  ·intro x hx;simp at hx;rcases hx with rfl|rfl<;>omega
  ·simp[Ef,Ju]
 |[a,b],h,_=>by
  have h1:=Bq h;have h2:=Bq h1.2;refine⟨a,b,0,?_,?_,rfl,fun _=>rfl,fun h=>?_⟩
  ·intro x hx;simp at hx;rcases hx with rfl|rfl|rfl<;>omega
  ·simp[Ef,Ju]
  ·simp at h
 |a::b::c::r,h,_=>by
  have e:min (a::b::c::r).length 3=3:=by simp
  rw[e];refine⟨a,b,c,?_,?_,rfl,fun h=>?_,fun h=>?_⟩
  ·intro x hx;refine h x ?_;simp at hx ⊢;rcases hx with rfl|rfl|rfl<;>simp
  ·simp[Ef,Ju]
  ·simp at h;omega
  ·simp at h;omega
end
section
open Go.Proofs.Tryz (prog)
open Go.IntKind (wrap)
set_option maxRecDepth 1000000
open Go.Shelf Go.RowKit Go.Lib
def RZ:Go.Shelf.Ren:=⟨fun|119=>124|120=>123|137=>64|151=>112|152=>122|160=>72|167=>50|168=>82|169=>51|197=>111|217=>79|224=>105|225=>104|227=>91|228=>110|231=>89|232=>90|233=>92|234=>93|235=>94|236=>95|240=>73|242=>102|260=>121|266=>100|271=>113|276=>96|278=>117|n=>n,fun|0=>0|3=>3|4=>4|5=>5|9=>9|20=>20|21=>21|37=>29|46=>59|51=>99|70=>95|72=>97|75=>101|80=>103|105=>149|116=>136|117=>137|119=>80|124=>140|127=>121|138=>82|139=>83|164=>141|n=>n,fun|3=>0|4=>1|n=>n⟩
theorem FR:Lays.n167 prog RZ:={
 mixed:=by kernel_rfl
 f167:=Tryz.func50.trans (congrArg some (by kernel_rfl))
 f240:=Tryz.func73.trans (congrArg some (by kernel_rfl))
 f276:=Tryz.func96.trans (congrArg some (by kernel_rfl))
 t0:=Tryz.underlying0
 a0:=Tryz.isAgg0
 z0:=Tryz.sizeOf0
 v0:=Tryz.zeroValue0
 t4:=Tryz.underlying4
 a4:=Tryz.isAgg4
 z4:=Tryz.sizeOf4
 v4:=Tryz.zeroValue4
 t5:=Tryz.underlying5
 a5:=Tryz.isAgg5
 z5:=Tryz.sizeOf5
 v5:=Tryz.zeroValue5
 t9:=Tryz.underlying9
 a9:=Tryz.isAgg9
 z9:=Tryz.sizeOf9
 v9:=Tryz.zeroValue9
 t20:=Tryz.underlying20
 a20:=Tryz.isAgg20
 z20:=Tryz.sizeOf20
 v20:=Tryz.zeroValue20
 t37:=Tryz.underlying29
 a37:=Tryz.isAgg29
 z37:=Tryz.sizeOf29
 v37:=Tryz.zeroValue29
 t70:=Tryz.underlying95
 a70:=Tryz.isAgg95
 z70:=Tryz.sizeOf95
 v70:=Tryz.zeroValue95
 t72:=Tryz.underlying97
 a72:=Tryz.isAgg97
 z72:=Tryz.sizeOf97
 v72:=Tryz.zeroValue97
 t75:=Tryz.underlying101
 a75:=Tryz.isAgg101
 z75:=Tryz.sizeOf101
 v75:=Tryz.zeroValue101
 t164:=Tryz.underlying141
 a164:=Tryz.isAgg141
 z164:=Tryz.sizeOf141
 v164:=Tryz.zeroValue141 }
theorem XD:Lays.n168 prog RZ:={
 mixed:=by kernel_rfl
 f168:=Tryz.func82.trans (congrArg some (by kernel_rfl))
 f240:=Tryz.func73.trans (congrArg some (by kernel_rfl))
 f242:=Tryz.func102.trans (congrArg some (by kernel_rfl))
 f276:=Tryz.func96.trans (congrArg some (by kernel_rfl))
 f278:=Tryz.func117.trans (congrArg some (by kernel_rfl))
 t0:=Tryz.underlying0
 a0:=Tryz.isAgg0
 z0:=Tryz.sizeOf0
 v0:=Tryz.zeroValue0
 t3:=Tryz.underlying3
 a3:=Tryz.isAgg3
 z3:=Tryz.sizeOf3
 v3:=Tryz.zeroValue3
 t4:=Tryz.underlying4
 a4:=Tryz.isAgg4
 z4:=Tryz.sizeOf4
 v4:=Tryz.zeroValue4
 t5:=Tryz.underlying5
 a5:=Tryz.isAgg5
 z5:=Tryz.sizeOf5
 v5:=Tryz.zeroValue5
 t9:=Tryz.underlying9
 a9:=Tryz.isAgg9
 z9:=Tryz.sizeOf9
 v9:=Tryz.zeroValue9
 t20:=Tryz.underlying20
 a20:=Tryz.isAgg20
 z20:=Tryz.sizeOf20
 v20:=Tryz.zeroValue20
 t21:=Tryz.underlying21
 a21:=Tryz.isAgg21
 z21:=Tryz.sizeOf21
 v21:=Tryz.zeroValue21
 t37:=Tryz.underlying29
 a37:=Tryz.isAgg29
 z37:=Tryz.sizeOf29
 v37:=Tryz.zeroValue29
 t46:=Tryz.underlying59
 a46:=Tryz.isAgg59
 z46:=Tryz.sizeOf59
 v46:=Tryz.zeroValue59
 t51:=Tryz.underlying99
 a51:=Tryz.isAgg99
 z51:=Tryz.sizeOf99
 v51:=Tryz.zeroValue99
 t70:=Tryz.underlying95
 a70:=Tryz.isAgg95
 z70:=Tryz.sizeOf95
 v70:=Tryz.zeroValue95
 t72:=Tryz.underlying97
 a72:=Tryz.isAgg97
 z72:=Tryz.sizeOf97
 v72:=Tryz.zeroValue97
 t75:=Tryz.underlying101
 a75:=Tryz.isAgg101
 z75:=Tryz.sizeOf101
 v75:=Tryz.zeroValue101
 t164:=Tryz.underlying141
 a164:=Tryz.isAgg141
 z164:=Tryz.sizeOf141
 v164:=Tryz.zeroValue141 }
theorem FB:Lays.n169 prog RZ:={
 mixed:=by kernel_rfl
 f169:=Tryz.func51.trans (congrArg some (by kernel_rfl))
 t0:=Tryz.underlying0
 a0:=Tryz.isAgg0
 z0:=Tryz.sizeOf0
 v0:=Tryz.zeroValue0
 t3:=Tryz.underlying3
 a3:=Tryz.isAgg3
 z3:=Tryz.sizeOf3
 v3:=Tryz.zeroValue3
 t9:=Tryz.underlying9
 a9:=Tryz.isAgg9
 z9:=Tryz.sizeOf9
 v9:=Tryz.zeroValue9
 t37:=Tryz.underlying29
 a37:=Tryz.isAgg29
 z37:=Tryz.sizeOf29
 v37:=Tryz.zeroValue29
 t70:=Tryz.underlying95
 a70:=Tryz.isAgg95
 z70:=Tryz.sizeOf95
 v70:=Tryz.zeroValue95
 t72:=Tryz.underlying97
 a72:=Tryz.isAgg97
 z72:=Tryz.sizeOf97
 v72:=Tryz.zeroValue97
 t127:=Tryz.underlying121
 a127:=Tryz.isAgg121
 z127:=Tryz.sizeOf121
 v127:=Tryz.zeroValue121 }
theorem YJ:Lays.n160 prog RZ:={
 mixed:=by kernel_rfl
 f119:=Tryz.func124.trans (congrArg some (by kernel_rfl))
 f120:=Tryz.func123.trans (congrArg some (by kernel_rfl))
 f137:=Tryz.func64.trans (congrArg some (by kernel_rfl))
 f151:=Tryz.func112.trans (congrArg some (by kernel_rfl))
 f152:=Tryz.func122.trans (congrArg some (by kernel_rfl))
 f160:=Tryz.func72.trans (congrArg some (by kernel_rfl))
 f197:=Tryz.func111.trans (congrArg some (by kernel_rfl))
 f217:=Tryz.func79.trans (congrArg some (by kernel_rfl))
 f224:=Tryz.func105.trans (congrArg some (by kernel_rfl))
 f225:=Tryz.func104.trans (congrArg some (by kernel_rfl))
 f227:=Tryz.func91.trans (congrArg some (by kernel_rfl))
 f228:=Tryz.func110.trans (congrArg some (by kernel_rfl))
 f231:=Tryz.func89.trans (congrArg some (by kernel_rfl))
 f232:=Tryz.func90.trans (congrArg some (by kernel_rfl))
 f233:=Tryz.func92.trans (congrArg some (by kernel_rfl))
 f234:=Tryz.func93.trans (congrArg some (by kernel_rfl))
 f235:=Tryz.func94.trans (congrArg some (by kernel_rfl))
 f236:=Tryz.func95.trans (congrArg some (by kernel_rfl))
 f260:=Tryz.func121.trans (congrArg some (by kernel_rfl))
 f266:=Tryz.func100.trans (congrArg some (by kernel_rfl))
 f271:=Tryz.func113.trans (congrArg some (by kernel_rfl))
 t0:=Tryz.underlying0
 a0:=Tryz.isAgg0
 z0:=Tryz.sizeOf0
 v0:=Tryz.zeroValue0
 t3:=Tryz.underlying3
 a3:=Tryz.isAgg3
 z3:=Tryz.sizeOf3
 v3:=Tryz.zeroValue3
 t4:=Tryz.underlying4
 a4:=Tryz.isAgg4
 z4:=Tryz.sizeOf4
 v4:=Tryz.zeroValue4
 t5:=Tryz.underlying5
 a5:=Tryz.isAgg5
 z5:=Tryz.sizeOf5
 v5:=Tryz.zeroValue5
 t9:=Tryz.underlying9
 a9:=Tryz.isAgg9
 z9:=Tryz.sizeOf9
 v9:=Tryz.zeroValue9
 t21:=Tryz.underlying21
 a21:=Tryz.isAgg21
 z21:=Tryz.sizeOf21
 v21:=Tryz.zeroValue21
 t46:=Tryz.underlying59
 a46:=Tryz.isAgg59
 z46:=Tryz.sizeOf59
 v46:=Tryz.zeroValue59
 t105:=Tryz.underlying149
 a105:=Tryz.isAgg149
 z105:=Tryz.sizeOf149
 v105:=Tryz.zeroValue149
 t116:=Tryz.underlying136
 a116:=Tryz.isAgg136
 z116:=Tryz.sizeOf136
 t117:=Tryz.underlying137
 a117:=Tryz.isAgg137
 z117:=Tryz.sizeOf137
 v117:=Tryz.zeroValue137
 t119:=Tryz.underlying80
 a119:=Tryz.isAgg80
 z119:=Tryz.sizeOf80
 t124:=Tryz.underlying140
 a124:=Tryz.isAgg140
 z124:=Tryz.sizeOf140
 v124:=Tryz.zeroValue140
 t138:=Tryz.underlying82
 a138:=Tryz.isAgg82
 z138:=Tryz.sizeOf82
 v138:=Tryz.zeroValue82
 t139:=Tryz.underlying83
 a139:=Tryz.isAgg83
 z139:=Tryz.sizeOf83
 v139:=Tryz.zeroValue83
 g3:=by kernel_rfl
 g4:=by kernel_rfl }
theorem Uc:Builder.Extra prog RZ:={
 sizeBuilder:=by kernel_rfl
 liesBuilder:=by kernel_rfl
 t5:=Tryz.underlying5
 a5:=Tryz.isAgg5
 z5:=Tryz.sizeOf5
 v5:=Tryz.zeroValue5
 infoByte:=by kernel_rfl
 cellsByte:=by kernel_rfl
 sizeByte:=by kernel_rfl
 neB5:=by decide }
end
section
open Go.IntKind (wrap)
open Go.RowKit Go.Lib
section
variable {P:Program}
theorem Afh (w:World)(dT sT ty elem:TypeId)(i:TypeInfo)(b o dLen dCap:Nat)(a:Addr)(sLen sCap k:Nat)(cs:List Value)
  (hu:P.underlying dT=some (.slice elem)) (hq:P.info? elem=some i)(hk:k=Nat.min sLen dLen)(hn:cs.length=k*i.size)
  (Xn:∀j v,cs[j]?=some v->w.cell? (a.add j)=some v) (hc:∀j,j<cs.length->(w.cell? ⟨b,o+j,none⟩).isSome=true) (hf:∀j,j<cs.length->w.frozen? ⟨b,o+j,none⟩=false)(h1:∀v∈cs,v.oneCell'=true):
  (Builtin.copy_ #[dT,sT] ty #[.slice (some ⟨b,o,none⟩) dLen dCap,.slice (some a) sLen sCap]).run P w=.ok (goInt k) (w.setCells b o cs):=by
 have hl:=run_loadCells_list (P:=P) w a cs Xn;have F8:=run_storeCells_cells (P:=P) b o cs 0 w (by simpa using hc) (by simpa using hf) h1
 simp[Builtin.copy_,run_underlying hu,Builtin.lenOf,Builtin.firstCells,sizeOf,typeInfo,hq,←hk,←hn,hl,F8]
end
end
section
open Go.Proofs.Tryz (prog)
open Go.IntKind (wrap)
set_option maxRecDepth 1000000
open Go.RowKit Go.Lib
abbrev VA (l:List Int):List Value:=l.map (Value.int .u8)
theorem OE (a b:List Int):VA (a++b)=VA a++VA b:=List.map_append
theorem Ao5 (x:Int):VA [x]=[Value.int .u8 x]:=rfl
theorem BA:∀{l:List Int},Cx l->VA l=Lib.byteCells (l.map fun n=>n.toNat.toUInt8)
 |[],_=>rfl
 |x::l,h=>by
  obtain⟨hx,h⟩:=Bq h;show Value.int .u8 x::VA l=Value.int .u8 ((x.toNat.toUInt8).toNat:Int)::Lib.byteCells (l.map fun n=>n.toNat.toUInt8)
  rw[BA h]
  congr 2
  have:(x.toNat.toUInt8).toNat=x.toNat:=by
   show x.toNat % 256=x.toNat;omega
  rw[this];omega
def XR (w:World)(l:List Int)(v:Value):Prop:=∃ad cap,v=.slice ad l.length cap∧l.length<=cap∧(l≠[]->∃b o,ad=some ⟨b,o,none⟩∧b<w.heap.size∧∀j x,l[j]?=some x->w.cell? ⟨b,o+j,none⟩=some (.int .u8 x))
theorem JW {T e:TypeId}{B b:Nat}{bs:List Value}{W W':World}(h:Lib.IsBuilderF T e B b bs W)(hb:Below W.heap.size W W'):Lib.IsBuilderF T e B b bs W':=by
 rcases h with h|h
 ·have Cb:=h.lt;obtain⟨hB,v,hv,Ga,E2⟩:=h;exact .inl ⟨hB,v,(hb.block b Cb).trans hv,Ga.kept (row:=none) ⟨hb.os,hb.tape,hb.output,hb.size,fun k hk _=>hb.block k hk⟩ (Classical.em _),E2⟩
 ·have Cb:=h.lt;obtain⟨hB,v,hv,Ga,E2⟩:=h;exact .inr ⟨hB,v,(hb.block b Cb).trans hv,Ga.kept (row:=none) ⟨hb.os,hb.tape,hb.output,hb.size,fun k hk _=>hb.block k hk⟩ (Classical.em _),E2⟩
theorem N0 {B:Nat}{a:World}(b:Nat)(hb:B<=b):∀(vs:List Value)(o:Nat){w:World},Below B a w->Below B a (w.setCells b o vs)
 |[],_,_,h=>h
 |v::r,o,w,h=>N0 b hb r (o+1) (h.setCell (p:=⟨b,o,none⟩) hb v)
theorem YA (wr:World)(b o cap:Nat)(l:List Int)(E2:l≠[]) (hb:b<wr.heap.size)(hc:∀j x,l[j]?=some x->wr.cell? ⟨b,o+j,none⟩=some (.int .u8 x)) (a' b' c':Int)(k:Nat)(hk:k=min l.length 3)(ht:[a',b',c'].take k=l.take k) (h3:l.length<3->c'=0)(h2:l.length<2->b'=0):
  ∃W2,(∀ty,(Builtin.copy_ #[29,29] ty #[.slice (some ⟨wr.heap.size,0,none⟩) 3 3,.slice (some ⟨b,o,none⟩) l.length cap]).run prog (wr.alloc (.cells #[.int .u8 0,.int .u8 0,.int .u8 0] 98))=.ok (goInt k) W2)∧Below wr.heap.size wr W2∧wr.heap.size<W2.heap.size ∧
   W2.cell? ⟨wr.heap.size,0,none⟩=some (.int .u8 a')∧W2.cell? ⟨wr.heap.size,1,none⟩=some (.int .u8 b')∧W2.cell? ⟨wr.heap.size,2,none⟩=some (.int .u8 c'):=by
 obtain⟨i0,hi0,Gx,XA⟩:=info_parts Uc.infoByte;have C6:(l.take k).length=k:=by simp;omega
 have hc0:∀k,k<3->(wr.alloc (.cells #[.int .u8 0,.int .u8 0,.int .u8 0] 98)).cell? ⟨wr.heap.size,k,none⟩=some (.int .u8 0):=by
  intro k hk;simp only[World.cell?,World.alloc];simp
  match k,hk with
  |0,_=>rfl
  |1,_=>rfl
  |2,_=>rfl
 refine⟨(wr.alloc (.cells #[.int .u8 0,.int .u8 0,.int .u8 0] 98)).setCells wr.heap.size 0 (VA (l.take k)),fun ty=>?_,?_,?_,?_⟩
 ·refine Afh _ _ _ ty 5 i0 wr.heap.size 0 3 3 ⟨b,o,none⟩ l.length cap k (VA (l.take k)) ?_ hi0 ?_ ?_ ?_ ?_ ?_ ?_
  ·exact Tryz.underlying29
  ·exact hk
  ·rw[XA.1];simp;omega
  ·intro j v hv
   have e0:(⟨b,o,none⟩:Addr).add j=⟨b,o+j,none⟩:=by
    unfold Addr.add;split
    ·subst j;rfl
    ·rfl
   rw[e0];rw[List.getElem?_map] at hv;obtain⟨x,hx,rfl⟩:=Option.map_eq_some_iff.1 hv
   have Sf:l[j]?=some x:=by
    rw[List.getElem?_take] at hx;split at hx
    ·exact hx
    ·cases hx
   exact Lib.cell?_alloc_some _ (hc j x Sf)
  ·intro j hj;rw[List.length_map,C6] at hj;rw[hc0 _ (by omega)]
   rfl
  ·intro j hj;exact World.frozen?_alloc_new wr _ _ _
  ·intro v hv;obtain⟨x,_,rfl⟩:=List.mem_map.1 hv;rfl
 ·exact N0 _ (Nat.le_refl _) _ _ ((Below.refl _ wr).alloc (Nat.le_refl _) _)
 ·have:=(N0 (B:=0) wr.heap.size (Nat.zero_le _) (VA (l.take k)) 0 (Below.refl 0 (wr.alloc (.cells #[.int .u8 0,.int .u8 0,.int .u8 0] 98)))).size;have e:(wr.alloc (.cells #[.int .u8 0,.int .u8 0,.int .u8 0] 98)).heap.size=wr.heap.size+1:=Array.size_push _;rw[e] at this;omega
 ·have Ep:k=1∨k=2∨k=3:=by
   have:=List.length_pos_iff.2 E2;omega
  have O7:∀i,i<k->∀x,[a',b',c'][i]?=some x->((wr.alloc (.cells #[.int .u8 0,.int .u8 0,.int .u8 0] 98)).setCells wr.heap.size 0 (VA (l.take k))).cell? ⟨wr.heap.size,i,none⟩=some (.int .u8 x):=by
   intro i hi x hx
   have h:=World.cell?_setCells_in wr.heap.size (VA (l.take k)) 0 (wr.alloc (.cells #[.int .u8 0,.int .u8 0,.int .u8 0] 98)) (fun j hj=>by
    rw[List.length_map,C6] at hj;rw[hc0 _ (by omega)]
    rfl) i (by rw[List.length_map,C6];exact hi)
   rw[WS] at h;rw[h]
   have e:(VA (l.take k))[i]?=some (.int .u8 x):=by
    rw[←ht,List.getElem?_map,List.getElem?_take_of_lt hi,hx];rfl
   rw[List.getElem?_eq_getElem (by rw[List.length_map,C6];exact hi)] at e
   exact e
  have Wq:∀i,k<=i->i<3->((wr.alloc (.cells #[.int .u8 0,.int .u8 0,.int .u8 0] 98)).setCells wr.heap.size 0 (VA (l.take k))).cell? ⟨wr.heap.size,i,none⟩=some (.int .u8 0):=by
   intro i hi h3;rw[World.cell?_setCells_out _ _ _ _ _ (fun _ _=>Or.inr (by rw[List.length_map,C6];show 0+k<=i;omega))]
   exact hc0 i h3
  refine⟨O7 0 (by omega) _ rfl,?_,?_⟩
  ·by_cases h:1<k
   ·exact O7 1 h _ rfl
   ·rw[h2 (by omega)];exact Wq 1 (by omega) (by omega)
  ·by_cases h:2<k
   ·exact O7 2 h _ rfl
   ·rw[h3 (by omega)];exact Wq 2 (by omega) (by omega)
set_option maxHeartbeats 4000000 in
theorem Ad2 (l:List Int)(hb:Cx l)(hl:l.length<=100000000)(u:Value)(w:World)(hu:XR w l u):
  Calls prog 31 #[u] w fun e w'=>e=.returned (.string (Ab (Ef l)))∧Below w.heap.size w w':=by
 have mixed:prog.follows Departure.mixedOrders=true:=by kernel_rfl
 go_enter Tryz.func31,Tryz.ntmps31
 go_wp2
 go_loopw [0] (fun v0 wr=>∃done rest,Ef l=done++Ef rest∧Cx done∧Cx rest∧rest.length<=l.length∧done.length+2*rest.length<=2*l.length∧XR w rest v0∧Lib.IsBuilderF 97 5 w.heap.size w.heap.size (VA done) wr∧Below w.heap.size w wr) (fun v0 _=>match v0 with | .slice _ n _=>n|_=>0)
 case atStart=>
  exact⟨[],l,rfl,(fun x hx=>by cases hx),hb,Nat.le_refl _,by simp,hu,Lib.IsBuilderF.of (Lib.fresh_isBuilder 97 5 w),(Below.refl _ w).alloc (Nat.le_refl _) _⟩
 case round=>
  obtain⟨done,rest,he,hd,hr,hrl,hdl,⟨ad,cap,rfl,Wx,C3⟩,hI,hbw⟩:=hrel;have My:w.heap.size<=wr.heap.size:=hbw.size;by_cases hz:rest=[]
  ·subst hz
   go_wp2_with (go_at_call 51;refine (Any.Builder_String_any_k FB Uc w.heap.size w.heap.size (done.map fun n=>n.toNat.toUInt8) _ (by rw[←BA hd];exact hI) (by omega)).mono ?_)
   rintro e W1 ⟨rfl,_,b1,_⟩
   go_wp2
   go_ret
   refine⟨?_,hbw.trans b1⟩;rw[he];simp[Ef,Ab]
  ·obtain⟨b,o,rfl,KC,C3⟩:=C3 hz;have Afb:(0:Int)<rest.length:=by have:=List.length_pos_iff.2 hz;omega
   obtain⟨a',b',c',hB3,hen,htk,hc0,JS⟩:=Agc rest hr hz;obtain⟨k,hk⟩:∃k,k=min rest.length 3:=⟨_,rfl⟩;rw[←hk] at hen htk;have Ea:(0:Int)<=k∧(k:Int)<=3∧(k:Int)<=rest.length:=by omega
   obtain⟨W2,hcp,hbc,hgs,g0,g1,g2⟩:=YA wr b o cap rest hz (by omega) (fun j x hx=>by rw[hbw.cell (p:=⟨b,o+j,none⟩) KC];exact C3 j x hx) a' b' c' k hk htk hc0 JS
   have hkl:k<=rest.length:=by omega
   have hkp:1<=k:=by have:=List.length_pos_iff.2 hz;omega
   clear hk
   go_wp2
   all_goals
    go_loopw [32] (fun v32 W=>∃j:Nat,v32=.int .i64 j∧j<=k+1∧Lib.IsBuilderF 97 5 w.heap.size w.heap.size (VA (done++(Ju a' b' c').take j)) W∧Below w.heap.size w W) (fun v32 _=>match v32 with | .int _ n=>(4-n).toNat|_=>0)
    case atStart=>
     exact⟨0,rfl,by omega,by simpa using JW hI hbc,hbw.trans (hbc.mono My)⟩
    case round=>
     obtain⟨j,rfl,hj,hIj,hbj⟩:=hrel;by_cases hjk:j<k+1
     ·have hj1:(j:Int)<k+1:=by omega
      obtain⟨q,U0,Se,hq,hqq⟩:=Ba3 hB3 j (by omega)
      have ha:=Apx U0 Se (by rw[Afz];omega)
      have A8j:(done++(Ju a' b' c').take j).length+1<=140737488355328:=by
       have:=List.length_take_le j (Ju a' b' c');rw[BZ];omega
      have Bae:=hbj.size
      go_wp2_with (go_at_call 50;refine (Any.Builder_WriteByte_k FR Uc w.heap.size w.heap.size _ _ _ hIj (by rw[List.length_map];exact A8j) Bae).mono ?_)
      rintro e W1 ⟨rfl,h1,b1,k1⟩
      go_wp2
      go_roundw
      case rel=>
       refine⟨j+1,by simp,by omega,?_,hbj.trans b1⟩
       have e1:(Ju a' b' c').take (j+1)=(Ju a' b' c').take j++[Fp q]:=by
        rw[List.take_add_one,hqq];rfl
       rw[e1,←Zzv,OE,Ao5,←ha];exact Or.inr h1
      case measure=>
       simp;omega
     ·have hj1:¬((j:Int)<k+1):=by omega
      have A9b:j=k+1:=by omega
      subst A9b
      go_wp2
      refine⟨⟨done++(Ju a' b' c').take (k+1),rest.drop k,?_,Kk hd (Al2 (Ayz hB3) _),Aj8 hr _,?_,?_,?_,hIj,hbj⟩,?_⟩
      ·rw[Zzv,←hen];exact he
      ·simp;omega
      ·have:=List.length_take_le (k+1) (Ju a' b' c');rw[BZ,List.length_drop];omega
      ·refine⟨_,_,by rw[List.length_drop],?_,fun E2=>?_⟩
       ·rw[List.length_drop];omega
       have:k<rest.length:=by
        rcases Nat.lt_or_ge k rest.length with h|h
        ·exact h
        ·exact absurd (List.drop_eq_nil_iff.2 h) E2
       first
        |(exfalso;omega)
        |(refine⟨b,o+k,rfl,KC,fun i x hx=>?_⟩;rw[List.getElem?_drop] at hx;rw[Nat.add_assoc];exact C3 _ _ hx)
      ·simp;omega
end
section
open Go.Proofs.Tryz (prog)
open Go.IntKind (wrap)
set_option maxRecDepth 1000000
open Go.RowKit
theorem KU:∀{c:List PV}{l:List Int},VB c=some l->c=Bl .u8 l∧Cx l
 |[],l,h=>by
  cases h;exact⟨rfl,fun x hx=>by cases hx⟩
 |p::c,l,h=>by
  unfold VB at h;split at h
  ·rename_i e;cases e
  ·rename_i n r e;cases e;cases hb:(decide (0<=n)&&decide (n<=255))
   ·rw[hb] at h;cases h
   ·rw[hb,cond_true] at h;simp only[Bool.and_eq_true,decide_eq_true_eq] at hb;cases hr:VB c with
    |none=>rw[hr] at h;cases h
    |some l'=>
     rw[hr] at h;cases h;obtain⟨rfl,h2⟩:=KU hr;refine⟨rfl,fun x hx=>?_⟩
     rcases List.mem_cons.1 hx with rfl|hx
     ·exact hb
     ·exact h2 x hx
  ·cases h
theorem Qf (k:IntKind):∀l:List Int,Bl k l=l.map fun n=>.sc (.int k n)
 |[]=>rfl
 |x::l=>by
  show PV.sc (.int k x)::Bl k l=_;rw[Qf k l];rfl
theorem Age {w:World}{A:Nat->Prop}{bt:Bt}{z:Bool}{l:List Int}{u:Value}(h:SX w A bt (.lst z 1 l.length (Bl .u8 l)) u):XR w l u:=by
 have ht:Ay w A (.lst z 1 l.length (Bl .u8 l)) u:=h.2;generalize hc:Bl .u8 l=c at ht;generalize hn:l.length=n at ht;cases ht with
 |lnil=>exact⟨none,0,by rw[hn],by omega,fun E2=>absurd (List.eq_nil_of_length_eq_zero hn) E2⟩
 |lemp _ a cap=>exact⟨some a,cap,by rw[hn],by omega,fun E2=>absurd (List.eq_nil_of_length_eq_zero hn) E2⟩
 |lst _ _ _ a cap f hs hb hA hn' C3 h1 hr=>
  obtain⟨b,o,s⟩:=a;cases hs;refine⟨some ⟨b,o,none⟩,cap,by rw[hn],by omega,fun _=>⟨b,o,rfl,hb,fun j x hx=>?_⟩⟩
  have e:c[j]?=some (.sc (.int .u8 x)):=by rw[←hc,Qf,List.getElem?_map,hx];rfl
  have h2:=C3 j _ e;rw[(hr j _ e).val] at h2
  have e0:(⟨b,o,none⟩:Addr).add j=⟨b,o+j,none⟩:=by
   unfold Addr.add;split
   ·subst j;rfl
   ·rfl
  rw[e0] at h2;exact h2
theorem Aeq (G:Xg)(args:List PV)(res:Ap)(h:Ayt args=some res):Dh G prog 31 args res:=by
 refine⟨⟨_,Tryz.func31,by kernel_rfl⟩,fun w Y bt us hi _ _=>?_⟩
 unfold Ayt at h;split at h
 rotate_left
 ·cases h
 rename_i z n c;cases hq:(Nat.beq c.length n&&Nat.ble n 100000000)
 ·rw[hq] at h;cases h
 rw[hq,cond_true] at h;simp only[Bool.and_eq_true] at hq;have hn:=Nat.eq_of_beq_eq_true hq.1;have hm:=Nat.le_of_ble_eq_true hq.2;split at h
 rotate_left
 ·cases h
 rename_i l hl;cases h;obtain⟨rfl,hB⟩:=KU hl
 have C6:l.length=n:=by
  rw[←hn,Qf,List.length_map]
 subst C6;have ps:=hi.args
 match us,ps with
 |[u1],ps=>
  refine (Ad2 l hB hm u1 w (Age ps.1)).mono ?_
  rintro e w' ⟨rfl,hb⟩
  exact⟨[.string (Ab (Ef l))],fun _=>none,rfl,Qc hb rfl⟩
 |[],ps=>exact ps.elim
 |_::_::_,ps=>exact ps.2.elim
end
section
open Go.Proofs.Tryz (prog)
open Go.IntKind (wrap)
set_option maxRecDepth 100000
abbrev Fy:FuncId:=86
theorem Pr {xs:FuncId->Option (List PV->Option Ap)} (fu d:Nat)(a0 a1:ByteArray):Ae (CX xs) prog fu (d+1) Fy [.sc (.string a0),.sc (.string a1)]=(fun (call:Am)=>Ba (decide ((↑(ByteArray.size a0):Int)>=(↑(ByteArray.size a1):Int))) (A2 (decide (Int.toNat (↑(ByteArray.size a1):Int)<=ByteArray.size a0))<|Ac (ByteArray.extract a0 0 (Int.toNat (↑(ByteArray.size a1):Int))) fun x1=>some (Ap.mk [.sc (.bool (Array.toList (ByteArray.data x1)==Array.toList (ByteArray.data a1)))] [])) (some (Ap.mk [.sc (.bool false)] []))) (Ae (CX xs) prog fu d):=by kernel_rfl
abbrev L9:FuncId:=80
theorem Vj {xs:FuncId->Option (List PV->Option Ap)} (fu d:Nat)(a0 a1:ByteArray):Ae (CX xs) prog fu (d+1) L9 [.sc (.string a0),.sc (.string a1)]=(fun (call:Am)=>Ah (call 86 [.sc (.string a0),.sc (.string a1)]) fun x1 x2=>Ad x2<|Aa x1 fun x3 x4=>Aq x3 fun x5=>Ad x4<|some (Ap.mk [.sc (.bool x5)] [])) (Ae (CX xs) prog fu d):=by kernel_rfl
abbrev Ib:FuncId:=83
theorem Ph {xs:FuncId->Option (List PV->Option Ap)} (fu d:Nat)(Bg:ByteArray)(Bf:Int):Ae (CX xs) prog fu (d+1) Ib [.pbox [.sc (.string Bg),.sc (.int .i64 Bf)]]=(fun (call:Am)=>Ba (decide (Bf<(↑(ByteArray.size Bg):Int))) (A2 (decide (0<=Bf))<|C5 ((Array.toList (ByteArray.data Bg))[Int.toNat Bf]?) fun x1=>some (Ap.mk [.sc (.int .u8 (↑(UInt8.toNat x1):Int))] [[.sc (.string Bg),.sc (.int .i64 Bf)]])) (some (Ap.mk [.sc (.int .u8 0)] [[.sc (.string Bg),.sc (.int .i64 Bf)]]))) (Ae (CX xs) prog fu d):=by kernel_rfl
abbrev Hb:FuncId:=65
theorem M8 {xs:FuncId->Option (List PV->Option Ap)} (fu d:Nat)(Bg:ByteArray)(Bf:Int)(a1:ByteArray):Ae (CX xs) prog fu (d+1) Hb [.pbox [.sc (.string Bg),.sc (.int .i64 Bf)],.sc (.string a1)]=(fun (call:Am)=>A2 (decide (0<=Bf))<|A2 (decide (Int.toNat Bf<=ByteArray.size Bg)&&decide (ByteArray.size Bg<=ByteArray.size Bg))<|Ac (ByteArray.extract Bg Bf.toNat (ByteArray.size Bg)) fun x1=>Ah (call 80 [.sc (.string x1),.sc (.string a1)]) fun x2 x3=>Ad x3<|Aa x2 fun x4 x5=>Aq x4 fun x6=>Ad x5<|Ba (!x6) (some (Ap.mk [.sc (.bool false)] [[.sc (.string Bg),.sc (.int .i64 Bf)]])) (Ac (wrap .i64 (Bf+(↑(ByteArray.size a1):Int))) fun x7=>some (Ap.mk [.sc (.bool true)] [[.sc (.string Bg),.sc (.int .i64 x7)]]))) (Ae (CX xs) prog fu d):=by kernel_rfl
abbrev Nk:FuncId:=116
theorem V4 {xs:FuncId->Option (List PV->Option Ap)} (fu d:Nat)(a0:Int):Ae (CX xs) prog fu (d+1) Nk [.sc (.int .i32 a0)]=(fun (call:Am)=>Ba (decide (a0>=56320)) (some (Ap.mk [.sc (.bool (decide (a0<=57343)))] [])) (some (Ap.mk [.sc (.bool false)] []))) (Ae (CX xs) prog fu d):=by kernel_rfl
abbrev Gy:FuncId:=115
noncomputable def Be (fu:Nat)(call:Am)(Bg:ByteArray)(Bf:Int)(nn:Nat)(y0 y1:Int)(y2:ByteArray)(y3:Int):Option Ap:=Fh CB prog fu call 115 Tryz.f115 (D2 Tryz.f115) [.pbox [.sc (.string Bg),.sc (.int .i64 Bf)]] [.r,.r,.l,.r,.l] nn ⟨lk [(0,(.ptr 120000 0)),(4,(.sc (.int .i32 y0))),(6,(.sc (.int .i64 y1)))],Iw [(120000,(.st [(.sc (.string y2)),(.sc (.int .i64 y3))]))]⟩
theorem F6 (fu:Nat)(call:Am)(Bg:ByteArray)(Bf:Int)(nn:Nat)(y0 y1:Int)(y2:ByteArray)(y3:Int):Be fu call Bg Bf (nn+1) y0 y1 y2 y3=(Ba (decide (y1<4)) (Ah (call 83 [.pbox [.sc (.string y2),.sc (.int .i64 y3)]]) fun x1 x2=>Aa x1 fun x3 x4=>Aj .u8 x3 fun x5=>Ad x4<|Aa x2 fun x6 x7=>Aa x6 fun x8 x9=>Ar x8 fun E4=>Aa x9 fun Is Iu=>Aj .i64 Is fun Ey=>Ad Iu<|Ad x7<|Ba (decide (x5>=48)) (Ba (decide (x5<=57)) (Ac (Ka .i32 y0 4) fun Gt=>Ac (wrap .u8 (x5-48)) fun Ja=>Ac (wrap .i32 Ja) fun Gs=>Ac (wrap .i32 (Gt+Gs)) fun Hk=>Ac (wrap .i64 (Ey+1)) fun I6=>Ac (wrap .i64 (y1+1)) fun H9=>Be fu call Bg Bf (nn) Hk H9 E4 I6) (Ba (decide (x5>=97)) (Ba (decide (x5<=102)) (Ac (Ka .i32 y0 4) fun I9=>Ac (wrap .u8 (x5-97)) fun I5=>Ac (wrap .i32 I5) fun Jr=>Ac (wrap .i32 (I9+Jr)) fun I4=>Ac (wrap .i32 (I4+10)) fun Hw=>Ac (wrap .i64 (Ey+1)) fun Iz=>Ac (wrap .i64 (y1+1)) fun Kr=>Be fu call Bg Bf (nn) Hw Kr E4 Iz) (Ba (decide (x5>=65)) (Ba (decide (x5<=70)) (Ac (Ka .i32 y0 4) fun L1=>Ac (wrap .u8 (x5-65)) fun Ms=>Ac (wrap .i32 Ms) fun L6=>Ac (wrap .i32 (L1+L6)) fun N4=>Ac (wrap .i32 (N4+10)) fun N1=>Ac (wrap .i64 (Ey+1)) fun Pf=>Ac (wrap .i64 (y1+1)) fun N6=>Be fu call Bg Bf (nn) N1 N6 E4 Pf) (some (Ap.mk [.sc (.int .i32 0),.sc (.bool false)] [[.sc (.string E4),.sc (.int .i64 Ey)]]))) (some (Ap.mk [.sc (.int .i32 0),.sc (.bool false)] [[.sc (.string E4),.sc (.int .i64 Ey)]])))) (Ba (decide (x5>=65)) (Ba (decide (x5<=70)) (Ac (Ka .i32 y0 4) fun O4=>Ac (wrap .u8 (x5-65)) fun Pq=>Ac (wrap .i32 Pq) fun Pm=>Ac (wrap .i32 (O4+Pm)) fun Q2=>Ac (wrap .i32 (Q2+10)) fun Qs=>Ac (wrap .i64 (Ey+1)) fun Pi=>Ac (wrap .i64 (y1+1)) fun Vw=>Be fu call Bg Bf (nn) Qs Vw E4 Pi) (some (Ap.mk [.sc (.int .i32 0),.sc (.bool false)] [[.sc (.string E4),.sc (.int .i64 Ey)]]))) (some (Ap.mk [.sc (.int .i32 0),.sc (.bool false)] [[.sc (.string E4),.sc (.int .i64 Ey)]]))))) (Ba (decide (x5>=97)) (Ba (decide (x5<=102)) (Ac (Ka .i32 y0 4) fun Xj=>Ac (wrap .u8 (x5-97)) fun Pb=>Ac (wrap .i32 Pb) fun Pp=>Ac (wrap .i32 (Xj+Pp)) fun V7=>Ac (wrap .i32 (V7+10)) fun Vn=>Ac (wrap .i64 (Ey+1)) fun Xv=>Ac (wrap .i64 (y1+1)) fun Yb=>Be fu call Bg Bf (nn) Vn Yb E4 Xv) (Ba (decide (x5>=65)) (Ba (decide (x5<=70)) (Ac (Ka .i32 y0 4) fun X9=>Ac (wrap .u8 (x5-65)) fun Vp=>Ac (wrap .i32 Vp) fun Wb=>Ac (wrap .i32 (X9+Wb)) fun Xh=>Ac (wrap .i32 (Xh+10)) fun Oa=>Ac (wrap .i64 (Ey+1)) fun R8=>Ac (wrap .i64 (y1+1)) fun Xk=>Be fu call Bg Bf (nn) Oa Xk E4 R8) (some (Ap.mk [.sc (.int .i32 0),.sc (.bool false)] [[.sc (.string E4),.sc (.int .i64 Ey)]]))) (some (Ap.mk [.sc (.int .i32 0),.sc (.bool false)] [[.sc (.string E4),.sc (.int .i64 Ey)]])))) (Ba (decide (x5>=65)) (Ba (decide (x5<=70)) (Ac (Ka .i32 y0 4) fun DJ=>Ac (wrap .u8 (x5-65)) fun BW=>Ac (wrap .i32 BW) fun Z9=>Ac (wrap .i32 (DJ+Z9)) fun Z5=>Ac (wrap .i32 (Z5+10)) fun EJ=>Ac (wrap .i64 (Ey+1)) fun FH=>Ac (wrap .i64 (y1+1)) fun EZ=>Be fu call Bg Bf (nn) EJ EZ E4 FH) (some (Ap.mk [.sc (.int .i32 0),.sc (.bool false)] [[.sc (.string E4),.sc (.int .i64 Ey)]]))) (some (Ap.mk [.sc (.int .i32 0),.sc (.bool false)] [[.sc (.string E4),.sc (.int .i64 Ey)]]))))) (some (Ap.mk [.sc (.int .i32 y0),.sc (.bool true)] [[.sc (.string y2),.sc (.int .i64 y3)]]))):=by kernel_rfl
theorem Mc {xs:FuncId->Option (List PV->Option Ap)} (fu d:Nat)(Bg:ByteArray)(Bf:Int):Ae (CX xs) prog fu (d+1) Gy [.pbox [.sc (.string Bg),.sc (.int .i64 Bf)]]=(fun (call:Am)=>Be fu call Bg Bf (fu) 0 0 (Bg) (Bf)) (Ae (CX xs) prog fu d):=by kernel_rfl
abbrev Gk:FuncId:=101
theorem Ln {xs:FuncId->Option (List PV->Option Ap)} (fu d:Nat)(Bg:ByteArray)(Bf:Int):Ae (CX xs) prog fu (d+1) Gk [.pbox [.sc (.string Bg),.sc (.int .i64 Bf)]]=(fun (call:Am)=>Ah (call 115 [.pbox [.sc (.string Bg),.sc (.int .i64 Bf)]]) fun x1 x2=>Aa x1 fun x3 x4=>Aj .i32 x3 fun x5=>Aa x4 fun x6 x7=>Aq x6 fun x8=>Ad x7<|Aa x2 fun x9 E4=>Aa x9 fun Is Iu=>Ar Is fun Ey=>Aa Iu fun Gt Ja=>Aj .i64 Gt fun Gs=>Ad Ja<|Ad E4<|Ba (!x8) (some (Ap.mk [.sc (.int .i32 0),.sc (.bool false)] [[.sc (.string Ey),.sc (.int .i64 Gs)]])) (Ah (call 116 [.sc (.int .i32 x5)]) fun Hk I6=>Ad I6<|Aa Hk fun H9 I9=>Aq H9 fun I5=>Ad I9<|Ba I5 (some (Ap.mk [.sc (.int .i32 0),.sc (.bool false)] [[.sc (.string Ey),.sc (.int .i64 Gs)]])) (Ba (decide (x5<55296)) (some (Ap.mk [.sc (.int .i32 x5),.sc (.bool true)] [[.sc (.string Ey),.sc (.int .i64 Gs)]])) (Ba (decide (x5>56319)) (some (Ap.mk [.sc (.int .i32 x5),.sc (.bool true)] [[.sc (.string Ey),.sc (.int .i64 Gs)]])) (Ah (call 65 [.pbox [.sc (.string Ey),.sc (.int .i64 Gs)],.sc (.string (ByteArray.mk #[92,117]))]) fun Jr I4=>Aa Jr fun Hw Iz=>Aq Hw fun Kr=>Ad Iz<|Aa I4 fun L1 Ms=>Aa L1 fun L6 N4=>Ar L6 fun N1=>Aa N4 fun Pf N6=>Aj .i64 Pf fun O4=>Ad N6<|Ad Ms<|Ba (!Kr) (some (Ap.mk [.sc (.int .i32 0),.sc (.bool false)] [[.sc (.string N1),.sc (.int .i64 O4)]])) (Ah (call 115 [.pbox [.sc (.string N1),.sc (.int .i64 O4)]]) fun Pq Pm=>Aa Pq fun Q2 Qs=>Aj .i32 Q2 fun Pi=>Aa Qs fun Vw Xj=>Aq Vw fun Pb=>Ad Xj<|Aa Pm fun Pp V7=>Aa Pp fun Vn Xv=>Ar Vn fun Yb=>Aa Xv fun X9 Vp=>Aj .i64 X9 fun Wb=>Ad Vp<|Ad V7<|Ba (!Pb) (some (Ap.mk [.sc (.int .i32 0),.sc (.bool false)] [[.sc (.string Yb),.sc (.int .i64 Wb)]])) (Ah (call 116 [.sc (.int .i32 Pi)]) fun Xh Oa=>Ad Oa<|Aa Xh fun R8 Xk=>Aq R8 fun DJ=>Ad Xk<|Ba (!DJ) (some (Ap.mk [.sc (.int .i32 0),.sc (.bool false)] [[.sc (.string Yb),.sc (.int .i64 Wb)]])) (Ac (wrap .i32 (x5-55296)) fun BW=>Ac (Ka .i32 BW 10) fun Z9=>Ac (wrap .i32 (65536+Z9)) fun Z5=>Ac (wrap .i32 (Pi-56320)) fun EJ=>Ac (wrap .i32 (Z5+EJ)) fun FH=>some (Ap.mk [.sc (.int .i32 FH),.sc (.bool true)] [[.sc (.string Yb),.sc (.int .i64 Wb)]]))))))))) (Ae (CX xs) prog fu d):=by kernel_rfl
abbrev Fx:FuncId:=81
theorem Kf {xs:FuncId->Option (List PV->Option Ap)} (fu d:Nat)(Bg:ByteArray)(Bf:Int):Ae (CX xs) prog fu (d+1) Fx [.pbox [.sc (.string Bg),.sc (.int .i64 Bf)]]=(fun (call:Am)=>Ah (call 65 [.pbox [.sc (.string Bg),.sc (.int .i64 Bf)],.sc (.string (ByteArray.mk #[117]))]) fun x1 x2=>Aa x1 fun x3 x4=>Aq x3 fun x5=>Ad x4<|Aa x2 fun x6 x7=>Aa x6 fun x8 x9=>Ar x8 fun E4=>Aa x9 fun Is Iu=>Aj .i64 Is fun Ey=>Ad Iu<|Ad x7<|Ba x5 (Ah (call 101 [.pbox [.sc (.string E4),.sc (.int .i64 Ey)]]) fun Gt Ja=>Aa Gt fun Gs Hk=>Aj .i32 Gs fun I6=>Aa Hk fun H9 I9=>Aq H9 fun I5=>Ad I9<|Aa Ja fun Jr I4=>Aa Jr fun Hw Iz=>Ar Hw fun Kr=>Aa Iz fun L1 Ms=>Aj .i64 L1 fun L6=>Ad Ms<|Ad I4<|some (Ap.mk [.sc (.int .i32 I6),.sc (.bool I5)] [[.sc (.string Kr),.sc (.int .i64 L6)]])) (Ah (call 83 [.pbox [.sc (.string E4),.sc (.int .i64 Ey)]]) fun N4 N1=>Aa N4 fun Pf N6=>Aj .u8 Pf fun O4=>Ad N6<|Aa N1 fun Pq Pm=>Aa Pq fun Q2 Qs=>Ar Q2 fun Pi=>Aa Qs fun Vw Xj=>Aj .i64 Vw fun Pb=>Ad Xj<|Ad Pm<|Ac (wrap .i32 O4) fun Pp=>Ba (Pp==34) (Ac (wrap .i64 (Pb+1)) fun V7=>some (Ap.mk [.sc (.int .i32 Pp),.sc (.bool true)] [[.sc (.string Pi),.sc (.int .i64 V7)]])) (Ba (Pp==92) (Ac (wrap .i64 (Pb+1)) fun Vn=>some (Ap.mk [.sc (.int .i32 Pp),.sc (.bool true)] [[.sc (.string Pi),.sc (.int .i64 Vn)]])) (Ba (Pp==47) (Ac (wrap .i64 (Pb+1)) fun Xv=>some (Ap.mk [.sc (.int .i32 Pp),.sc (.bool true)] [[.sc (.string Pi),.sc (.int .i64 Xv)]])) (Ba (Pp==98) (Ac (wrap .i64 (Pb+1)) fun Yb=>some (Ap.mk [.sc (.int .i32 8),.sc (.bool true)] [[.sc (.string Pi),.sc (.int .i64 Yb)]])) (Ba (Pp==102) (Ac (wrap .i64 (Pb+1)) fun X9=>some (Ap.mk [.sc (.int .i32 12),.sc (.bool true)] [[.sc (.string Pi),.sc (.int .i64 X9)]])) (Ba (Pp==110) (Ac (wrap .i64 (Pb+1)) fun Vp=>some (Ap.mk [.sc (.int .i32 10),.sc (.bool true)] [[.sc (.string Pi),.sc (.int .i64 Vp)]])) (Ba (Pp==114) (Ac (wrap .i64 (Pb+1)) fun Wb=>some (Ap.mk [.sc (.int .i32 13),.sc (.bool true)] [[.sc (.string Pi),.sc (.int .i64 Wb)]])) (Ba (Pp==116) (Ac (wrap .i64 (Pb+1)) fun Xh=>some (Ap.mk [.sc (.int .i32 9),.sc (.bool true)] [[.sc (.string Pi),.sc (.int .i64 Xh)]])) (some (Ap.mk [.sc (.int .i32 0),.sc (.bool false)] [[.sc (.string Pi),.sc (.int .i64 Pb)]]))))))))))) (Ae (CX xs) prog fu d):=by kernel_rfl
end
section
open Go.Proofs.Tryz (prog)
open Go.IntKind (wrap)
def Dm (t:ByteArray)(r:List Int):Prop:=∃pre,Fn t=pre++r
theorem Dm.all (t:ByteArray):Dm t (Fn t):=⟨[],rfl⟩
theorem Dm.len {t:ByteArray}{r:List Int}(h:Dm t r):r.length<=t.size:=by
 obtain⟨pre,h⟩:=h;have:=congrArg List.length h;rw[Qm,BZ] at this;omega
theorem Dm.app {t:ByteArray}{a r:List Int}(h:Dm t (a++r)):Dm t r:=by
 obtain⟨pre,h⟩:=h;exact⟨pre++a,by rw[h,Zzv]⟩
theorem Dm.tail {t:ByteArray}{c:Int}{r:List Int}(h:Dm t (c::r)):Dm t r:=Dm.app (a:=[c]) h
theorem Dm.drop {t:ByteArray}{r:List Int}(h:Dm t r)(k:Nat):Dm t (r.drop k):=by
 rw[←List.take_append_drop k r] at h;exact h.app
def Bz (t:ByteArray)(r:List Int):Nat:=t.size-r.length
theorem Dm.eq {t:ByteArray}{r:List Int}(h:Dm t r):r=(Fn t).drop (Bz t r):=by
 have hl:=h.len;obtain⟨pre,h⟩:=h
 have e:Bz t r=pre.length:=by
  have:=congrArg List.length h;rw[Qm,BZ] at this;unfold Bz;omega
 rw[e,h,List.drop_left]
theorem Dm.B {t:ByteArray}{r:List Int}(h:Dm t r):Cx r:=by
 obtain⟨pre,h⟩:=h;exact fun x hx=>QL t x (by rw[h];exact List.mem_append_right _ hx)
theorem Dm.at {t:ByteArray}{c:Int}{r:List Int}(h:Dm t (c::r)):∃b:UInt8,(Array.toList t.data)[Bz t (c::r)]?=some b∧(b.toNat:Int)=c:=by
 have he:=h.eq
 have:(Fn t)[Bz t (c::r)]?=some c:=by
  have:=congrArg (fun l=>l[0]?) he
  rw[List.getElem?_drop] at this;exact this.symm
 unfold Fn at this;rw[List.getElem?_map] at this;obtain⟨b,hb,rfl⟩:=Option.map_eq_some_iff.1 this;exact⟨b,hb,rfl⟩
theorem Mr {t:ByteArray}{c:Int}{r:List Int}(h:Dm t (c::r)):Bz t r=Bz t (c::r)+1:=by
 have:=h.len;unfold Bz;rw[Uk] at this ⊢;omega
theorem Xz (t:ByteArray):Bz t []=t.size:=rfl
abbrev B1 (t:ByteArray)(r:List Int):List PV:=[.sc (.string t),.sc (.int .i64 (Bz t r:Int))]
def RA:List Int->Int
 |[]=>0
 |c::_=>c
section
variable {fu d:Nat} {xs:FuncId->Option (List PV->Option Ap)}
theorem Nj {t:ByteArray}{r:List Int}(h:Dm t r):Ae (CX xs) prog fu (d+1) Ib [.pbox (B1 t r)]=some ⟨[.sc (.int .u8 (RA r))],[B1 t r]⟩:=by
 rw[Ph];cases r with
 |nil=>
  show _=some (Ap.mk [.sc (.int .u8 0)] [[.sc (.string t),.sc (.int .i64 (Bz t []:Int))]]);rw[Xz];have e:decide ((t.size:Int)<(t.size:Int))=false:=by simp
  simp only[B4,e]
 |cons c r=>
  have hl:=h.len;obtain⟨b,hb,rfl⟩:=h.at
  have hp:Bz t ((b.toNat:Int)::r)<t.size:=by
   unfold Bz;rw[Uk] at hl ⊢;omega
  have e:decide ((Bz t ((b.toNat:Int)::r):Int)<(t.size:Int))=true:=by simp;omega
  have e2:decide ((0:Int)<=(Bz t ((b.toNat:Int)::r):Int))=true:=by simp
  rw[←Kj (Bz t ((b.toNat:Int)::r))] at hb;simp only[B4,e,e2,hb,RA]
theorem CR {s:ByteArray}{a:Nat}:s.extract a s.size=Ab ((Fn s).drop a):=by
 rw[←Hl (s.extract a s.size)]
 congr 1
 unfold Fn;rw[ByteArray.data_extract,Array.toList_extract,List.extract_eq_take_drop,←List.map_drop,QT];rw[List.length_drop];exact Nat.le_refl _
theorem Y9 {s:ByteArray}{n:Nat}:s.extract 0 n=Ab ((Fn s).take n):=by
 rw[←Hl (s.extract 0 n)]
 congr 1
 unfold Fn;rw[ByteArray.data_extract,Array.toList_extract,List.extract_eq_take_drop,Nat.sub_zero,Zze,List.map_take]
theorem Ar2 {a w:List Int}(ha:Cx a)(hw:Cx w):Ae (CX xs) prog fu (d+1) Fy [.sc (.string (Ab a)),.sc (.string (Ab w))]=some ⟨[.sc (.bool (w.isPrefixOf a))],[]⟩:=by
 rw[Pr,Af,Af];by_cases hl:w.length<=a.length
 ·have e1:decide ((a.length:Int)>=(w.length:Int))=true:=by simp;omega
  have e2:decide (Int.toNat (w.length:Int)<=a.length)=true:=by rw[Kj];simp;exact hl
  have e3:(Ab a).extract 0 (Int.toNat (w.length:Int))=Ab (a.take w.length):=by
   rw[Kj,Y9,Cd ha]
  have e4:(Array.toList (Ab (a.take w.length)).data==Array.toList (Ab w).data)=w.isPrefixOf a:=by
   rw[Bool.eq_iff_iff,List.isPrefixOf_iff_prefix,beq_iff_eq];constructor
   ·intro h
    have h2:Ab (a.take w.length)=Ab w:=by
     cases hx:Ab (a.take w.length);cases hy:Ab w;rw[hx,hy] at h;exact congrArg ByteArray.mk (Array.toList_inj.1 h)
    have h3:=congrArg Fn h2;rw[Cd hw,Cd (fun x hx=>ha x (List.mem_of_mem_take hx))] at h3
    exact List.prefix_iff_eq_take.2 h3.symm
   ·intro h;rw[←List.prefix_iff_eq_take.1 h]
  simp only[B4,e1,e2,e3,e4]
 ·have e1:decide ((a.length:Int)>=(w.length:Int))=false:=by simp;omega
  have e4:w.isPrefixOf a=false:=by
   rw[Bool.eq_false_iff,ne_eq,List.isPrefixOf_iff_prefix];exact fun h=>hl h.length_le
  simp only[B4,e1,e4]
theorem Ba7 {a w:List Int}(ha:Cx a)(hw:Cx w):Ae (CX xs) prog fu (d+2) L9 [.sc (.string (Ab a)),.sc (.string (Ab w))]=some ⟨[.sc (.bool (w.isPrefixOf a))],[]⟩:=by
 rw[Vj];have e:Ae (CX xs) prog fu (d+1) Fy [.sc (.string (Ab a)),.sc (.string (Ab w))]=_:=Ar2 ha hw;simp only[B4,e]
theorem Sh {t:ByteArray}{r w:List Int}(h:Dm t r)(ht:t.size<=1000000)(hw:Cx w)(TB:w.length<=100):Ae (CX xs) prog fu (d+3) Hb [.pbox (B1 t r),.sc (.string (Ab w))]=some (match Ao w r with|some r'=>⟨[.sc (.bool true)],[B1 t r']⟩|none=>⟨[.sc (.bool false)],[B1 t r]⟩):=by
 have hl:=h.len;have he:=h.eq;have hp:Bz t r<=t.size:=Nat.sub_le _ _;have hh:=Ba7 (fu:=fu) (d:=d) (xs:=xs) h.B hw;have e1:decide ((0:Int)<=(Bz t r:Int))=true:=by simp
 have e2:(decide (Int.toNat (Bz t r:Int)<=t.size)&&decide (t.size<=t.size))=true:=by
  rw[Kj];simp;exact hp
 have e3:t.extract (Int.toNat (Bz t r:Int)) t.size=Ab r:=by rw[Kj,CR,←he]
 rw[M8];unfold Ao;by_cases hq:w.isPrefixOf r=true
 ·rw[Dy hq];rw[hq] at hh
  have hwl:w.length<=r.length:=by
   have:=List.IsPrefix.length_le (List.isPrefixOf_iff_prefix.1 hq);exact this
  have e4:wrap .i64 ((Bz t r:Int)+((Ab w).size:Int))=(Bz t (r.drop w.length):Int):=by
   rw[Af,Au (by omega) (by omega)]
   unfold Bz;rw[List.length_drop];omega
  simp only[B4,e1,e2,e3,hh,e4,Dk]
 ·rw[Ct hq];have Jm:w.isPrefixOf r=false:=Bool.eq_false_iff.2 hq;rw[Jm] at hh;simp only[B4,e1,e2,e3,hh,D6]
theorem Anz (x:Int):Ae (CX xs) prog fu (d+1) Nk [.sc (.int .i32 x)]=some ⟨[.sc (.bool (IA x))],[]⟩:=by
 rw[V4];unfold IA;by_cases h:56320<=x
 ·have e:decide (x>=56320)=true:=by simp;omega
  have e2:decide (56320<=x)=true:=by simp;omega
  simp only[B4,e,e2,Zzm]
 ·have e:decide (x>=56320)=false:=by simp;omega
  have e2:decide (56320<=x)=false:=by simp;omega
  simp only[B4,e,e2,OC]
def Aq8 (t:ByteArray)(o:PR Int):Ap:=⟨[.sc (.int .i32 (o.1.getD 0)),.sc (.bool o.1.isSome)],[B1 t o.2]⟩
theorem KZ (c:Int):(48<=c∧c<=57∧Wp c=some (c-48))∨(97<=c∧c<=102∧Wp c=some (c-87))∨(65<=c∧c<=70∧Wp c=some (c-55))∨(¬(48<=c∧c<=57)∧¬(97<=c∧c<=102)∧¬(65<=c∧c<=70)∧Wp c=none):=by
 unfold Wp;by_cases h1:48<=c∧c<=57
 ·exact .inl ⟨h1.1,h1.2,Dy h1⟩
 ·by_cases h2:97<=c∧c<=102
  ·exact .inr (.inl ⟨h2.1,h2.2,by rw[Ct h1,Dy h2]⟩)
  ·by_cases h3:65<=c∧c<=70
   ·exact .inr (.inr (.inl ⟨h3.1,h3.2,by rw[Ct h1,Ct h2,Dy h3]⟩))
   ·exact .inr (.inr (.inr ⟨h1,h2,h3,by rw[Ct h1,Ct h2,Ct h3]⟩))
theorem Fa {x:Int}(h1: -2147483648<=x)(h2:x<=2147483647):wrap .i32 x=x:=by
 have:=IntWalk.i32_in x (by omega)
 exact this
theorem A3w {x:Int}(h0:0<=x)(h1:x<65536):Ka .i32 x 4=x*16:=by
 show wrap .i32 (x*2 ^ (min (4:Int).toNat IntKind.i32.bits))=_;rw[show min (4:Int).toNat IntKind.i32.bits=4 from rfl]
 exact Fa (by omega) (by omega)
theorem X6 {t s0:ByteArray}{p0:Int}(ht:t.size<=1000000):∀(n:Nat)(nn:Nat)(x:Int)(r:List Int),n<=4->n+1<=nn->0<=x->x<16 ^ (4-n)->Dm t r ->
  Be fu (Ae (CX xs) prog fu (d+1)) s0 p0 nn x ((4-n:Nat):Int) t (Bz t r:Int)=some (Aq8 t (Me n x r))
 |0,nn,x,r,_,N7,h0,h1,h=>by
  obtain⟨k,rfl⟩:∃k,nn=k+1:=⟨nn-1,by omega⟩
  rw[F6];simp only[B4,show decide (((4-0:Nat):Int)<4)=false from rfl]
  rfl
 |n+1,nn,x,r,hn,N7,h0,h1,h=>by
  obtain⟨k,rfl⟩:∃k,nn=k+1:=⟨nn-1,by omega⟩
  have pk:=Nj (fu:=fu) (d:=d) (xs:=xs) h;have hl:=h.len
  have hx:x<4096:=by
   have:n+1=1∨n+1=2∨n+1=3∨n+1=4:=by omega
   rcases this with e|e|e|e<;>rw[e] at h1<;>simp at h1<;>omega
  have Sf:∀v,0<=v->v<=15->x*16+v<16 ^ (4-n):=by
   intro v hv0 hv1;have e:4-n=(4-(n+1))+1:=by omega
   rw[e,Int.pow_succ];omega
  have e4:decide (((4-(n+1):Nat):Int)<4)=true:=by simp;omega
  have e5:wrap .i64 (((4-(n+1):Nat):Int)+1)=((4-n:Nat):Int):=by rw[Au (by omega) (by omega)];omega
  have sh:=A3w h0 (by omega)
  rw[F6];cases r with
  |nil=>
   have pk2:Ae (CX xs) prog fu (d+1) 83 [.pbox (B1 t [])]=some ⟨[.sc (.int .u8 0)],[B1 t []]⟩:=pk
   try unfold Ac
   repeat first
    |((with_reducible first|apply A5|apply Ax|apply A6|apply Az|apply A9|apply Ed|apply Aw|apply A4|apply A7);· first|with_reducible rfl|(simp (disch:=omega) only[gT,e4,pk2,Int.reduceGE,decide_false,decide_true]<;>first|with_reducible rfl|omega)|omega)
    |(with_reducible apply A8;· first|with_reducible rfl|(simp (disch:=omega) only[gF,e4,pk2,Int.reduceGE,decide_false,decide_true]<;>omega))
   try simp (disch:=omega) only[e4,pk2,Int.reduceGE,decide_false,decide_true]
   rfl
  |cons c r=>
   have hc:=h.B c (by simp)
   have hp:=Mr h
   have e6:wrap .i64 ((Bz t (c::r):Int)+1)=(Bz t r:Int):=by
    rw[hp,Au (by unfold Bz;omega) (by unfold Bz;omega)];omega
   have pk2:Ae (CX xs) prog fu (d+1) 83 [.pbox (B1 t (c::r))]=some ⟨[.sc (.int .u8 c)],[B1 t (c::r)]⟩:=pk;unfold Me;rcases KZ c with⟨g1,g2,g3⟩|⟨g1,g2,g3⟩|⟨g1,g2,g3⟩|⟨g1,g2,g3,g4⟩
   ·rw[g3];have ih:=X6 (s0:=s0) (p0:=p0) ht n k (x*16+(c-48)) r (by omega) (by omega) (by omega) (Sf _ (by omega) (by omega)) h.tail
    have w1:wrap .u8 (c-48)=c-48:=Ol (by omega) (by omega)
    have w2:wrap .i32 (c-48)=c-48:=Fa (by omega) (by omega)
    have w3:wrap .i32 (x*16+(c-48))=x*16+(c-48):=Fa (by omega) (by omega)
    try unfold Ac
    repeat first
     |((with_reducible first|apply A5|apply Ax|apply A6|apply Az|apply A9|apply Ed|apply Aw|apply A4|apply A7);· first|with_reducible rfl|(simp (disch:=omega) only[gT,e4,pk2,sh,w1,w2,w3,e5,e6,ih]<;>first|with_reducible rfl|omega)|omega)
     |(with_reducible apply A8;· first|with_reducible rfl|(simp (disch:=omega) only[gF,e4,pk2,sh,w1,w2,w3,e5,e6,ih]<;>omega))
    try simp (disch:=omega) only[e4,pk2,sh,w1,w2,w3,e5,e6,ih]
   ·rw[g3];have ih:=X6 (s0:=s0) (p0:=p0) ht n k (x*16+(c-87)) r (by omega) (by omega) (by omega) (Sf _ (by omega) (by omega)) h.tail
    have w1:wrap .u8 (c-97)=c-97:=Ol (by omega) (by omega)
    have w2:wrap .i32 (c-97)=c-97:=Fa (by omega) (by omega)
    have w3:wrap .i32 (x*16+(c-97))=x*16+(c-97):=Fa (by omega) (by omega)
    have w4:wrap .i32 (x*16+(c-97)+10)=x*16+(c-87):=by rw[Fa (by omega) (by omega)];omega
    try unfold Ac
    repeat first
     |((with_reducible first|apply A5|apply Ax|apply A6|apply Az|apply A9|apply Ed|apply Aw|apply A4|apply A7);· first|with_reducible rfl|(simp (disch:=omega) only[gT,e4,pk2,sh,w1,w2,w3,w4,e5,e6,ih]<;>first|with_reducible rfl|omega)|omega)
     |(with_reducible apply A8;· first|with_reducible rfl|(simp (disch:=omega) only[gF,e4,pk2,sh,w1,w2,w3,w4,e5,e6,ih]<;>omega))
    try simp (disch:=omega) only[e4,pk2,sh,w1,w2,w3,w4,e5,e6,ih]
   ·rw[g3];have ih:=X6 (s0:=s0) (p0:=p0) ht n k (x*16+(c-55)) r (by omega) (by omega) (by omega) (Sf _ (by omega) (by omega)) h.tail
    have w1:wrap .u8 (c-65)=c-65:=Ol (by omega) (by omega)
    have w2:wrap .i32 (c-65)=c-65:=Fa (by omega) (by omega)
    have w3:wrap .i32 (x*16+(c-65))=x*16+(c-65):=Fa (by omega) (by omega)
    have w4:wrap .i32 (x*16+(c-65)+10)=x*16+(c-55):=by rw[Fa (by omega) (by omega)];omega
    try unfold Ac
    repeat first
     |((with_reducible first|apply A5|apply Ax|apply A6|apply Az|apply A9|apply Ed|apply Aw|apply A4|apply A7);· first|with_reducible rfl|(simp (disch:=omega) only[gT,e4,pk2,sh,w1,w2,w3,w4,e5,e6,ih]<;>first|with_reducible rfl|omega)|omega)
     |(with_reducible apply A8;· first|with_reducible rfl|(simp (disch:=omega) only[gF,e4,pk2,sh,w1,w2,w3,w4,e5,e6,ih]<;>omega))
    try simp (disch:=omega) only[e4,pk2,sh,w1,w2,w3,w4,e5,e6,ih]
   ·rw[g4];by_cases k1:48<=c
    ·by_cases k2:97<=c
     ·skip
      try unfold Ac
      repeat first
       |((with_reducible first|apply A5|apply Ax|apply A6|apply Az|apply A9|apply Ed|apply Aw|apply A4|apply A7);· first|with_reducible rfl|(simp (disch:=omega) only[gT,e4,pk2]<;>first|with_reducible rfl|omega)|omega)
       |(with_reducible apply A8;· first|with_reducible rfl|(simp (disch:=omega) only[gF,e4,pk2]<;>omega))
      try simp (disch:=omega) only[e4,pk2]
      rfl
     ·by_cases k3:65<=c
      ·skip
       try unfold Ac
       repeat first
        |((with_reducible first|apply A5|apply Ax|apply A6|apply Az|apply A9|apply Ed|apply Aw|apply A4|apply A7);· first|with_reducible rfl|(simp (disch:=omega) only[gT,e4,pk2]<;>first|with_reducible rfl|omega)|omega)
        |(with_reducible apply A8;· first|with_reducible rfl|(simp (disch:=omega) only[gF,e4,pk2]<;>omega))
       try simp (disch:=omega) only[e4,pk2]
       rfl
      ·skip
       try unfold Ac
       repeat first
        |((with_reducible first|apply A5|apply Ax|apply A6|apply Az|apply A9|apply Ed|apply Aw|apply A4|apply A7);· first|with_reducible rfl|(simp (disch:=omega) only[gT,e4,pk2]<;>first|with_reducible rfl|omega)|omega)
        |(with_reducible apply A8;· first|with_reducible rfl|(simp (disch:=omega) only[gF,e4,pk2]<;>omega))
       try simp (disch:=omega) only[e4,pk2]
       rfl
    ·skip
     try unfold Ac
     repeat first
      |((with_reducible first|apply A5|apply Ax|apply A6|apply Az|apply A9|apply Ed|apply Aw|apply A4|apply A7);· first|with_reducible rfl|(simp (disch:=omega) only[gT,e4,pk2]<;>first|with_reducible rfl|omega)|omega)
      |(with_reducible apply A8;· first|with_reducible rfl|(simp (disch:=omega) only[gF,e4,pk2]<;>omega))
     try simp (disch:=omega) only[e4,pk2]
     rfl
theorem Aso {t:ByteArray}{r:List Int}(Eu:10<=fu)(h:Dm t r)(ht:t.size<=1000000):Ae (CX xs) prog fu (d+2) Gy [.pbox (B1 t r)]=some (Aq8 t (Me 4 0 r)):=by
 rw[Mc];exact X6 ht 4 fu 0 r (by omega) (by omega) (by omega) (by decide) h
theorem Hc:∀(n:Nat)(x:Int)(l:List Int)(y:Int)(r:List Int),Me n x l=(some y,r)->0<=x->0<=y∧y<(x+1)*16 ^ n
 |0,x,l,y,r,h,h0=>by
  cases h;omega
 |n+1,x,[],y,r,h,h0=>by cases h
 |n+1,x,c::l,y,r,h,h0=>by
  unfold Me at h;rcases KZ c with⟨g1,g2,g3⟩|⟨g1,g2,g3⟩|⟨g1,g2,g3⟩|⟨g1,g2,g3,g4⟩
  ·rw[g3] at h;have:=Hc n _ l y r h (by omega)
   have e:(x*16+(c-48)+1)*16 ^ n<=(x+1)*16 ^ (n+1):=by
    rw[Int.pow_succ,Int.mul_comm (16 ^ n) 16,←Int.mul_assoc];exact Int.mul_le_mul_of_nonneg_right (by omega) (Int.pow_nonneg (by omega))
   omega
  ·rw[g3] at h;have:=Hc n _ l y r h (by omega)
   have e:(x*16+(c-87)+1)*16 ^ n<=(x+1)*16 ^ (n+1):=by
    rw[Int.pow_succ,Int.mul_comm (16 ^ n) 16,←Int.mul_assoc];exact Int.mul_le_mul_of_nonneg_right (by omega) (Int.pow_nonneg (by omega))
   omega
  ·rw[g3] at h;have:=Hc n _ l y r h (by omega)
   have e:(x*16+(c-55)+1)*16 ^ n<=(x+1)*16 ^ (n+1):=by
    rw[Int.pow_succ,Int.mul_comm (16 ^ n) 16,←Int.mul_assoc];exact Int.mul_le_mul_of_nonneg_right (by omega) (Int.pow_nonneg (by omega))
   omega
  ·rw[g4] at h;cases h
theorem X3 {t:ByteArray}:∀(n:Nat)(x:Int)(l:List Int),Dm t l->Dm t (Me n x l).2
 |0,x,l,h=>h
 |n+1,x,[],h=>h
 |n+1,x,c::l,h=>by
  unfold Me;cases Wp c with
  |none=>exact h
  |some v=>exact X3 n _ l h.tail
theorem Alx (l:List Int):Ahn l=List.isPrefixOf [92,117] l:=by
 match l with
 |[]=>rfl
 |[a]=>
  unfold Ahn;split
  ·rename_i e;cases e
  ·simp[List.isPrefixOf]
 |a::b::r=>
  unfold Ahn;split
  ·rename_i e;cases e;rfl
  ·rename_i h
   symm
   rw[Bool.eq_false_iff];intro hp;simp[List.isPrefixOf] at hp;exact h r (by rw[←hp.1,←hp.2])
theorem Azu {x:Int}(h0:0<=x)(h1:x<2097152):Ka .i32 x 10=x*1024:=by
 show wrap .i32 (x*2 ^ (min (10:Int).toNat IntKind.i32.bits))=_;rw[show min (10:Int).toNat IntKind.i32.bits=10 from rfl]
 exact Fa (by omega) (by omega)
theorem Azj {t:ByteArray}{r:List Int}(Eu:10<=fu)(h:Dm t r)(ht:t.size<=1000000):Ae (CX xs) prog fu (d+4) Gk [.pbox (B1 t r)]=some (Aq8 t (Nl r)):=by
 have hx:=Aso (d:=d+1) (xs:=xs) Eu h ht;have hs:=X3 4 0 r h;have hb:=Hc 4 0 r;rw[Ln];unfold Nl;rcases hq:Me 4 0 r with⟨o,r1⟩;rw[hq] at hx hs;simp only at hs;cases o with
 |none=>
  have Sf:Ae (CX xs) prog fu (d+3) 115 [.pbox (B1 t r)]=some ⟨[.sc (.int .i32 0),.sc (.bool false)],[B1 t r1]⟩:=hx
  try unfold Ac
  repeat first
   |((with_reducible first|apply A5|apply Ax|apply A6|apply Az|apply A9|apply Ed|apply Aw|apply A4|apply A7);· first|with_reducible rfl|(simp (disch:=omega) only[gT,Sf,D6]<;>first|with_reducible rfl|omega)|omega)
   |(with_reducible apply A8;· first|with_reducible rfl|(simp (disch:=omega) only[gF,Sf,D6]<;>omega))
  try simp (disch:=omega) only[Sf,D6]
  rfl
 |some x=>
  have Sf:Ae (CX xs) prog fu (d+3) 115 [.pbox (B1 t r)]=some ⟨[.sc (.int .i32 x),.sc (.bool true)],[B1 t r1]⟩:=hx;have bx:=hb x r1 hq (by omega)
  have lw:∀x,Ae (CX xs) prog fu (d+3) 116 [.sc (.int .i32 x)]=some ⟨[.sc (.bool (IA x))],[]⟩:=fun x=>Anz (d:=d+2) x
  cases hl:IA x
  ·simp only[hl,Bool.false_eq_true,if_false];by_cases c1:x<55296
   ·rw[Dy (Or.inl c1)]
    try unfold Ac
    repeat first
     |((with_reducible first|apply A5|apply Ax|apply A6|apply Az|apply A9|apply Ed|apply Aw|apply A4|apply A7);· first|with_reducible rfl|(simp (disch:=omega) only[gT,Sf,lw,hl,Dk]<;>first|with_reducible rfl|omega)|omega)
     |(with_reducible apply A8;· first|with_reducible rfl|(simp (disch:=omega) only[gF,Sf,lw,hl,Dk]<;>omega))
    try simp (disch:=omega) only[Sf,lw,hl,Dk]
    rfl
   ·by_cases c2:56319<x
    ·rw[Dy (Or.inr c2)]
     try unfold Ac
     repeat first
      |((with_reducible first|apply A5|apply Ax|apply A6|apply Az|apply A9|apply Ed|apply Aw|apply A4|apply A7);· first|with_reducible rfl|(simp (disch:=omega) only[gT,Sf,lw,hl,Dk]<;>first|with_reducible rfl|omega)|omega)
      |(with_reducible apply A8;· first|with_reducible rfl|(simp (disch:=omega) only[gF,Sf,lw,hl,Dk]<;>omega))
     try simp (disch:=omega) only[Sf,lw,hl,Dk]
     rfl
    ·rw[Ct (by omega)]
     have ha:=Sh (fu:=fu) (d:=d) (xs:=xs) hs ht (w:=[92,117]) (fun x hx=>by simp at hx;rcases hx with rfl|rfl<;>omega) (by decide)
     unfold Ao at ha;rw[←Alx] at ha;cases hB:Ahn r1
     ·rw[hB,Ct (by simp)] at ha
      simp only[Bool.false_eq_true,if_false];have Kl:Ae (CX xs) prog fu (d+3) 65 [.pbox (B1 t r1),.sc (.string (ByteArray.mk #[(92:UInt8),(117:UInt8)]))]=some ⟨[.sc (.bool false)],[B1 t r1]⟩:=ha
      try unfold Ac
      repeat first
       |((with_reducible first|apply A5|apply Ax|apply A6|apply Az|apply A9|apply Ed|apply Aw|apply A4|apply A7);· first|with_reducible rfl|(simp (disch:=omega) only[gT,Sf,lw,hl,Kl,Dk,D6]<;>first|with_reducible rfl|omega)|omega)
       |(with_reducible apply A8;· first|with_reducible rfl|(simp (disch:=omega) only[gF,Sf,lw,hl,Kl,Dk,D6]<;>omega))
      try simp (disch:=omega) only[Sf,lw,hl,Kl,Dk,D6]
      rfl
     ·rw[hB,Dy rfl] at ha;simp only[if_true];have Kl:Ae (CX xs) prog fu (d+3) 65 [.pbox (B1 t r1),.sc (.string (ByteArray.mk #[(92:UInt8),(117:UInt8)]))]=some ⟨[.sc (.bool true)],[B1 t (r1.drop 2)]⟩:=ha;have hy:=Aso (d:=d+1) (xs:=xs) Eu (hs.drop 2) ht;have hby:=Hc 4 0 (r1.drop 2);unfold Ab3;rcases Jm:Me 4 0 (r1.drop 2) with⟨o2,r2⟩;rw[Jm] at hy;cases o2 with
      |none=>
       have hy2:Ae (CX xs) prog fu (d+3) 115 [.pbox (B1 t (r1.drop 2))]=some ⟨[.sc (.int .i32 0),.sc (.bool false)],[B1 t r2]⟩:=hy
       try unfold Ac
       repeat first
        |((with_reducible first|apply A5|apply Ax|apply A6|apply Az|apply A9|apply Ed|apply Aw|apply A4|apply A7);· first|with_reducible rfl|(simp (disch:=omega) only[gT,Sf,lw,hl,Kl,hy2,Dk,D6]<;>first|with_reducible rfl|omega)|omega)
        |(with_reducible apply A8;· first|with_reducible rfl|(simp (disch:=omega) only[gF,Sf,lw,hl,Kl,hy2,Dk,D6]<;>omega))
       try simp (disch:=omega) only[Sf,lw,hl,Kl,hy2,Dk,D6]
       rfl
      |some y=>
       have hy2:Ae (CX xs) prog fu (d+3) 115 [.pbox (B1 t (r1.drop 2))]=some ⟨[.sc (.int .i32 y),.sc (.bool true)],[B1 t r2]⟩:=hy;have by_:=hby y r2 Jm (by omega)
       cases Ru:IA y
       ·simp only[Bool.false_eq_true,if_false]
        try unfold Ac
        repeat first
         |((with_reducible first|apply A5|apply Ax|apply A6|apply Az|apply A9|apply Ed|apply Aw|apply A4|apply A7);· first|with_reducible rfl|(simp (disch:=omega) only[gT,Sf,lw,hl,Ru,Kl,hy2,Dk,D6]<;>first|with_reducible rfl|omega)|omega)
         |(with_reducible apply A8;· first|with_reducible rfl|(simp (disch:=omega) only[gF,Sf,lw,hl,Ru,Kl,hy2,Dk,D6]<;>omega))
        try simp (disch:=omega) only[Sf,lw,hl,Ru,Kl,hy2,Dk,D6]
        rfl
       ·simp only[if_true]
        have ly:56320<=y∧y<=57343:=by
         unfold IA at Ru
         simpa using Ru
        have w1:wrap .i32 (x-55296)=x-55296:=Fa (by omega) (by omega)
        have w2:=Azu (x:=x-55296) (by omega) (by omega)
        have w3:wrap .i32 (65536+(x-55296)*1024)=65536+(x-55296)*1024:=Fa (by omega) (by omega)
        have w4:wrap .i32 (y-56320)=y-56320:=Fa (by omega) (by omega)
        have w5:wrap .i32 (65536+(x-55296)*1024+(y-56320))=65536+(x-55296)*1024+(y-56320):=Fa (by omega) (by omega)
        try unfold Ac
        repeat first
         |((with_reducible first|apply A5|apply Ax|apply A6|apply Az|apply A9|apply Ed|apply Aw|apply A4|apply A7);· first|with_reducible rfl|(simp (disch:=omega) only[gT,Sf,lw,hl,Ru,Kl,hy2,w1,w2,w3,w4,w5,Dk,D6]<;>first|with_reducible rfl|omega)|omega)
         |(with_reducible apply A8;· first|with_reducible rfl|(simp (disch:=omega) only[gF,Sf,lw,hl,Ru,Kl,hy2,w1,w2,w3,w4,w5,Dk,D6]<;>omega))
        try simp (disch:=omega) only[Sf,lw,hl,Ru,Kl,hy2,w1,w2,w3,w4,w5,Dk,D6]
        rfl
  ·simp only[if_true]
   try unfold Ac
   repeat first
    |((with_reducible first|apply A5|apply Ax|apply A6|apply Az|apply A9|apply Ed|apply Aw|apply A4|apply A7);· first|with_reducible rfl|(simp (disch:=omega) only[gT,Sf,lw,hl,Dk]<;>first|with_reducible rfl|omega)|omega)
    |(with_reducible apply A8;· first|with_reducible rfl|(simp (disch:=omega) only[gF,Sf,lw,hl,Dk]<;>omega))
   try simp (disch:=omega) only[Sf,lw,hl,Dk]
   rfl
theorem LW (c:Int):(c=34∧Xa c=some 34)∨(c=92∧Xa c=some 92)∨(c=47∧Xa c=some 47)∨(c=98∧Xa c=some 8)∨(c=102∧Xa c=some 12)∨(c=110∧Xa c=some 10)∨(c=114∧Xa c=some 13)∨(c=116∧Xa c=some 9) ∨
  ((c≠34∧c≠92∧c≠47∧c≠98∧c≠102∧c≠110∧c≠114∧c≠116)∧Xa c=none):=by
 by_cases h1:c=34
 ·subst h1;exact .inl ⟨rfl,rfl⟩
 by_cases h2:c=92
 ·subst h2;exact .inr (.inl ⟨rfl,rfl⟩)
 by_cases h3:c=47
 ·subst h3;exact .inr (.inr (.inl ⟨rfl,rfl⟩))
 by_cases h4:c=98
 ·subst h4;exact .inr (.inr (.inr (.inl ⟨rfl,rfl⟩)))
 by_cases h5:c=102
 ·subst h5;exact .inr (.inr (.inr (.inr (.inl ⟨rfl,rfl⟩))))
 by_cases h6:c=110
 ·subst h6;exact .inr (.inr (.inr (.inr (.inr (.inl ⟨rfl,rfl⟩)))))
 by_cases h7:c=114
 ·subst h7;exact .inr (.inr (.inr (.inr (.inr (.inr (.inl ⟨rfl,rfl⟩))))))
 by_cases h8:c=116
 ·subst h8;exact .inr (.inr (.inr (.inr (.inr (.inr (.inr (.inl ⟨rfl,rfl⟩)))))))
 refine .inr (.inr (.inr (.inr (.inr (.inr (.inr (.inr ⟨⟨h1,h2,h3,h4,h5,h6,h7,h8⟩,?_⟩)))))));unfold Xa;rw[Ct (by omega),Ct h4,Ct h5,Ct h6,Ct h7,Ct h8]
theorem A3o {t:ByteArray}{r:List Int}(Eu:10<=fu)(h:Dm t r)(ht:t.size<=1000000):Ae (CX xs) prog fu (d+5) Fx [.pbox (B1 t r)]=some (Aq8 t (Lb r)):=by
 have ha:=Sh (fu:=fu) (d:=d+1) (xs:=xs) h ht (w:=[117]) (fun x hx=>by simp at hx;omega) (by decide)
 have hl:=h.len;rw[Kf];cases r with
 |nil=>
  have Kl:Ae (CX xs) prog fu (d+4) 65 [.pbox (B1 t []),.sc (.string (ByteArray.mk #[(117:UInt8)]))]=some ⟨[.sc (.bool false)],[B1 t []]⟩:=ha;have pk:Ae (CX xs) prog fu (d+4) 83 [.pbox (B1 t [])]=some ⟨[.sc (.int .u8 0)],[B1 t []]⟩:=Nj (d:=d+3) h;have w0:wrap .i32 0=0:=rfl
  try unfold Ac
  repeat first
   |((with_reducible first|apply A5|apply Ax|apply A6|apply Az|apply A9|apply Ed|apply Aw|apply A4|apply A7);· first|with_reducible rfl|(simp (disch:=omega) only[gT,Kl,pk,w0,Int.reduceBEq]<;>first|with_reducible rfl|omega)|omega)
   |(with_reducible apply A8;· first|with_reducible rfl|(simp (disch:=omega) only[gF,Kl,pk,w0,Int.reduceBEq]<;>omega))
  try simp (disch:=omega) only[Kl,pk,w0,Int.reduceBEq]
  rfl
 |cons c r=>
  have hc:=h.B c (by simp)
  have hp:=Mr h
  have e6:wrap .i64 ((Bz t (c::r):Int)+1)=(Bz t r:Int):=by
   rw[hp,Au (by unfold Bz;omega) (by unfold Bz;omega)];omega
  have w0:wrap .i32 c=c:=Fa (by omega) (by omega)
  have pk:Ae (CX xs) prog fu (d+4) 83 [.pbox (B1 t (c::r))]=some ⟨[.sc (.int .u8 c)],[B1 t (c::r)]⟩:=Nj (d:=d+3) h;have he:Lb (c::r)=if c=117 then Nl r else match Xa c with|some x=>(some x,r)|none=>(none,c::r):=rfl
  rw[he];unfold Ao at ha;by_cases hu:c=117
  ·subst hu;rw[Dy rfl];have Kl:Ae (CX xs) prog fu (d+4) 65 [.pbox (B1 t (117::r)),.sc (.string (ByteArray.mk #[(117:UInt8)]))]=some ⟨[.sc (.bool true)],[B1 t r]⟩:=ha;have hcd:Ae (CX xs) prog fu (d+4) 101 [.pbox (B1 t r)]=some ⟨[.sc (.int .i32 ((Nl r).1.getD 0)),.sc (.bool (Nl r).1.isSome)],[B1 t (Nl r).2]⟩:=Azj Eu h.tail ht
   try unfold Ac
   repeat first
    |((with_reducible first|apply A5|apply Ax|apply A6|apply Az|apply A9|apply Ed|apply Aw|apply A4|apply A7);· first|with_reducible rfl|(simp (disch:=omega) only[gT,Kl,hcd]<;>first|with_reducible rfl|omega)|omega)
    |(with_reducible apply A8;· first|with_reducible rfl|(simp (disch:=omega) only[gF,Kl,hcd]<;>omega))
   try simp (disch:=omega) only[Kl,hcd]
   rfl
  ·rw[Ct hu]
   have hb:(List.isPrefixOf [117] (c::r))=false:=by
    rw[Bool.eq_false_iff];intro hp;simp[List.isPrefixOf] at hp;exact hu hp.symm
   rw[hb,Ct (by simp)] at ha
   have Kl:Ae (CX xs) prog fu (d+4) 65 [.pbox (B1 t (c::r)),.sc (.string (ByteArray.mk #[(117:UInt8)]))]=some ⟨[.sc (.bool false)],[B1 t (c::r)]⟩:=ha;rcases LW c with⟨rfl,g⟩|⟨rfl,g⟩|⟨rfl,g⟩|⟨rfl,g⟩|⟨rfl,g⟩|⟨rfl,g⟩|⟨rfl,g⟩|⟨rfl,g⟩|⟨g1,g⟩
   ·rw[g]
    try unfold Ac
    repeat first
     |((with_reducible first|apply A5|apply Ax|apply A6|apply Az|apply A9|apply Ed|apply Aw|apply A4|apply A7);· first|with_reducible rfl|(simp (disch:=omega) only[gT,Kl,pk,w0,e6,Int.reduceBEq]<;>first|with_reducible rfl|omega)|omega)
     |(with_reducible apply A8;· first|with_reducible rfl|(simp (disch:=omega) only[gF,Kl,pk,w0,e6,Int.reduceBEq]<;>omega))
    try simp (disch:=omega) only[Kl,pk,w0,e6,Int.reduceBEq]
    rfl
   ·rw[g]
    try unfold Ac
    repeat first
     |((with_reducible first|apply A5|apply Ax|apply A6|apply Az|apply A9|apply Ed|apply Aw|apply A4|apply A7);· first|with_reducible rfl|(simp (disch:=omega) only[gT,Kl,pk,w0,e6,Int.reduceBEq]<;>first|with_reducible rfl|omega)|omega)
     |(with_reducible apply A8;· first|with_reducible rfl|(simp (disch:=omega) only[gF,Kl,pk,w0,e6,Int.reduceBEq]<;>omega))
    try simp (disch:=omega) only[Kl,pk,w0,e6,Int.reduceBEq]
    rfl
   ·rw[g]
    try unfold Ac
    repeat first
     |((with_reducible first|apply A5|apply Ax|apply A6|apply Az|apply A9|apply Ed|apply Aw|apply A4|apply A7);· first|with_reducible rfl|(simp (disch:=omega) only[gT,Kl,pk,w0,e6,Int.reduceBEq]<;>first|with_reducible rfl|omega)|omega)
     |(with_reducible apply A8;· first|with_reducible rfl|(simp (disch:=omega) only[gF,Kl,pk,w0,e6,Int.reduceBEq]<;>omega))
    try simp (disch:=omega) only[Kl,pk,w0,e6,Int.reduceBEq]
    rfl
   ·rw[g]
    try unfold Ac
    repeat first
     |((with_reducible first|apply A5|apply Ax|apply A6|apply Az|apply A9|apply Ed|apply Aw|apply A4|apply A7);· first|with_reducible rfl|(simp (disch:=omega) only[gT,Kl,pk,w0,e6,Int.reduceBEq]<;>first|with_reducible rfl|omega)|omega)
     |(with_reducible apply A8;· first|with_reducible rfl|(simp (disch:=omega) only[gF,Kl,pk,w0,e6,Int.reduceBEq]<;>omega))
    try simp (disch:=omega) only[Kl,pk,w0,e6,Int.reduceBEq]
    rfl
   ·rw[g]
    try unfold Ac
    repeat first
     |((with_reducible first|apply A5|apply Ax|apply A6|apply Az|apply A9|apply Ed|apply Aw|apply A4|apply A7);· first|with_reducible rfl|(simp (disch:=omega) only[gT,Kl,pk,w0,e6,Int.reduceBEq]<;>first|with_reducible rfl|omega)|omega)
     |(with_reducible apply A8;· first|with_reducible rfl|(simp (disch:=omega) only[gF,Kl,pk,w0,e6,Int.reduceBEq]<;>omega))
    try simp (disch:=omega) only[Kl,pk,w0,e6,Int.reduceBEq]
    rfl
   ·rw[g]
    try unfold Ac
    repeat first
     |((with_reducible first|apply A5|apply Ax|apply A6|apply Az|apply A9|apply Ed|apply Aw|apply A4|apply A7);· first|with_reducible rfl|(simp (disch:=omega) only[gT,Kl,pk,w0,e6,Int.reduceBEq]<;>first|with_reducible rfl|omega)|omega)
     |(with_reducible apply A8;· first|with_reducible rfl|(simp (disch:=omega) only[gF,Kl,pk,w0,e6,Int.reduceBEq]<;>omega))
    try simp (disch:=omega) only[Kl,pk,w0,e6,Int.reduceBEq]
    rfl
   ·rw[g]
    try unfold Ac
    repeat first
     |((with_reducible first|apply A5|apply Ax|apply A6|apply Az|apply A9|apply Ed|apply Aw|apply A4|apply A7);· first|with_reducible rfl|(simp (disch:=omega) only[gT,Kl,pk,w0,e6,Int.reduceBEq]<;>first|with_reducible rfl|omega)|omega)
     |(with_reducible apply A8;· first|with_reducible rfl|(simp (disch:=omega) only[gF,Kl,pk,w0,e6,Int.reduceBEq]<;>omega))
    try simp (disch:=omega) only[Kl,pk,w0,e6,Int.reduceBEq]
    rfl
   ·rw[g]
    try unfold Ac
    repeat first
     |((with_reducible first|apply A5|apply Ax|apply A6|apply Az|apply A9|apply Ed|apply Aw|apply A4|apply A7);· first|with_reducible rfl|(simp (disch:=omega) only[gT,Kl,pk,w0,e6,Int.reduceBEq]<;>first|with_reducible rfl|omega)|omega)
     |(with_reducible apply A8;· first|with_reducible rfl|(simp (disch:=omega) only[gF,Kl,pk,w0,e6,Int.reduceBEq]<;>omega))
    try simp (disch:=omega) only[Kl,pk,w0,e6,Int.reduceBEq]
    rfl
   ·rw[g];obtain⟨n1,n2,n3,n4,n5,n6,n7,n8⟩:=g1;have m1:(c==(34:Int))=false:=by simp[n1]
    have m2:(c==(92:Int))=false:=by simp[n2]
    have m3:(c==(47:Int))=false:=by simp[n3]
    have m4:(c==(98:Int))=false:=by simp[n4]
    have m5:(c==(102:Int))=false:=by simp[n5]
    have m6:(c==(110:Int))=false:=by simp[n6]
    have m7:(c==(114:Int))=false:=by simp[n7]
    have m8:(c==(116:Int))=false:=by simp[n8]
    try unfold Ac
    repeat first
     |((with_reducible first|apply A5|apply Ax|apply A6|apply Az|apply A9|apply Ed|apply Aw|apply A4|apply A7);· first|with_reducible rfl|(simp (disch:=omega) only[gT,Kl,pk,w0,e6,m1,m2,m3,m4,m5,m6,m7,m8]<;>first|with_reducible rfl|omega)|omega)
     |(with_reducible apply A8;· first|with_reducible rfl|(simp (disch:=omega) only[gF,Kl,pk,w0,e6,m1,m2,m3,m4,m5,m6,m7,m8]<;>omega))
    try simp (disch:=omega) only[Kl,pk,w0,e6,m1,m2,m3,m4,m5,m6,m7,m8]
    rfl
theorem Sp {t:ByteArray}{l:List Int}(h:Dm t l):Dm t (Lb l).2:=by
 have A17:∀l,Dm t l->Dm t (Nl l).2:=by
  intro l h;have h1:=X3 4 0 l h;unfold Nl;rcases hq:Me 4 0 l with⟨o,r⟩;rw[hq] at h1;cases o with
  |none=>exact h1
  |some x=>
   simp only;split
   ·exact h1
   split
   ·exact h1
   split
   ·have h2:=X3 4 0 (r.drop 2) (Dm.drop h1 2);unfold Ab3;rcases Jm:Me 4 0 (r.drop 2) with⟨o2,r2⟩;rw[Jm] at h2;cases o2 with
    |none=>exact h2
    |some y=>
     simp only;split<;>exact h2
   ·exact h1
 cases l with
 |nil=>exact h
 |cons c r=>
  have he:Lb (c::r)=if c=117 then Nl r else match Xa c with|some x=>(some x,r)|none=>(none,c::r):=rfl
  rw[he];split
  ·exact A17 r h.tail
  ·cases Xa c with
   |none=>exact h
   |some x=>exact h.tail
end
end
section
open Go.Proofs.Tryz (prog)
open Go.IntKind (wrap)
set_option maxRecDepth 20000
open Go Go.RowKit
theorem Ez.refl (w:World)(b o n:Nat):Ez w w b o n:=⟨rfl,rfl,rfl,Nat.le_refl _,Hh.refl _ _,fun _ _ _=>rfl,fun _ _=>rfl,fun _ _=>rfl⟩
theorem Ez.trans {w w' w'':World}{b o n:Nat}(h:Ez w w' b o n)(k:Ez w' w'' b o n):Ez w w'' b o n:=
 ⟨k.os.trans h.os,k.tape.trans h.tape,k.output.trans h.output,Nat.le_trans h.size k.size,h.grow.trans k.grow,fun i hi E2=>(k.other i (Nat.lt_of_lt_of_le hi h.size) E2).trans (h.other i hi E2),fun j hj=>(k.cells j hj).trans (h.cells j hj),fun j hj=>(k.frz j hj).trans (h.frz j hj)⟩
theorem Ez.below {w w' w'':World}{b o n:Nat}(h:Ez w w' b o n)(k:Below w.heap.size w' w'')(hb:b<w.heap.size):Ez w w'' b o n:=
 ⟨k.os.trans h.os,k.tape.trans h.tape,k.output.trans h.output,Nat.le_trans h.size k.size,h.grow.trans (Hh.same (k.block b hb)),fun i hi E2=>(k.block i hi).trans (h.other i hi E2),fun j hj=>(k.cell (p:=⟨b,j,none⟩) hb).trans (h.cells j hj),fun j hj=>(k.frozen (p:=⟨b,j,none⟩) hb).trans (h.frz j hj)⟩
theorem Ez.drew {w w':World}{b o n:Nat}(h:Ez w w' b o n):Ez w w'.drew b o n:=⟨h.os,h.tape,h.output,h.size,h.grow,h.other,h.cells,h.frz⟩
theorem Ez.setCell (w:World)(b o n j:Nat)(v:Value)(hj:o<=j)(hj2:j<o+n)(hb:b<w.heap.size):Ez w (w.setCell ⟨b,j,none⟩ v) b o n:=by
 have hw:Dx b w (w.setCell ⟨b,j,none⟩ v):=Dx.setCells b [v] j w;refine⟨hw.os,hw.tape,hw.output,Nat.le_of_eq hw.size.symm,hw.grow b,fun k hk E2=>hw.other k E2,fun i hi=>?_,fun i _=>hw.frz i⟩
 exact World.cell?_setCell_other _ _ _ _ (by intro e;injection e;omega)
theorem Xx {T e:TypeId}{B c:Nat}{bs:List Value}{W W':World}{b o n:Nat}(h:Lib.IsBuilderF T e B c bs W)(hk:Ez W W' b o n)(hb:b<B):Lib.IsBuilderF T e B c bs W':=by
 have key:∀p,Lib.BuilderAtF T e B c p bs W->Lib.BuilderAtF T e B c p bs W':=by
  intro p h;have Cb:=h.lt;obtain⟨hB,v,hv,Ga,E2⟩:=h;refine⟨hB,v,(hk.other c Cb (by omega)).trans hv,Ga.kept (row:=some b) ⟨hk.os,hk.tape,hk.output,hk.size,fun k Ll Av6=>hk.other k Ll (fun e=>Av6 (by rw[e]))⟩ ?_,E2⟩
  rcases Ga.2 with⟨rfl,_⟩|⟨g,cap,cur,fz,rfl,hg,_⟩
  ·exact .inl rfl
  ·refine .inr (fun e=>?_)
   simp[Value.ownBlock] at e;omega
 exact h.imp (key _) (key _)
def GR:Xg:=⟨fun _=>False,fun _=>True,fun _ _ _ _=>trivial⟩
def noR:FuncId->Option (List PV->Option Ap):=fun _=>none
theorem Auh:KF GR prog (CX noR):=by
 intro f g args res h _;have h':(bif Yw.any (Nat.beq f) then none else (none:Option (List PV->Option Ap)))=some g:=h;cases hb:Yw.any (Nat.beq f)<;>rw[hb] at h'<;>cases h'
theorem ngR:NoNG prog:=by
 have h:(prog.funcs.toList.all fun fn=> !(fn.name == "runtime.NumGoroutine"))=true:=by kernel_rfl
 intro f fn hf;have:=List.all_eq_true.1 h fn (Array.mem_toList_iff.2 (Array.mem_of_getElem? hf))
 simpa using this
theorem mxR:prog.follows .mixedOrders=true:=by kernel_rfl
structure Zc (w:World) (b o:Nat) (t:ByteArray) (r:List Int):Prop where
 lt:b<w.heap.size
 c0:w.cell? ⟨b,o,none⟩=some (.string t)
 c1:w.cell? ⟨b,o+1,none⟩=some (.int .i64 (Bz t r:Int))
 f0:w.frozen? ⟨b,o,none⟩=false
 f1:w.frozen? ⟨b,o+1,none⟩=false
theorem PI {f:FuncId}{t:ByteArray}{r r':List Int}{args vals:List PV}{us rs:List Value}{d:Nat}(e:Ae (CX noR) prog 2000 d f (.pbox (B1 t r)::args)=some ⟨vals,[B1 t r']⟩) (ha:Bh HW args us)(hr:Bh HW vals rs)
  {w:World} {b o:Nat} (h:Zc w b o t r):Calls prog f (.pointer (some ⟨b,o,none⟩)::us).toArray w fun e w'=>e=.returned (H1 rs)∧Zc w' b o t r'∧Ez w w' b o 2:=by
 have hs:Dh GR prog f (.pbox ([Value.string t,.int .i64 (Bz t r:Int)].map .sc)::args) ⟨vals,[[Value.string t,.int .i64 (Bz t r':Int)].map .sc]⟩:=Iy ngR mxR Auh d f _ _ e;refine (KT hs ha hr (w:=w) (b:=b) (o:=o) trivial (fun _ h=>h.elim) h.lt ?_ ?_).mono ?_
 ·intro j v hv
  match j,hv with
  |0,hv=>cases hv;exact h.c0
  |1,hv=>cases hv;exact h.c1
 ·intro j hj
  match j,hj with
  |0,_=>exact h.f0
  |1,_=>exact h.f1
 ·rintro e w' ⟨rfl,_,h4,h5,hk⟩
  exact⟨rfl,⟨Nat.lt_of_lt_of_le h.lt hk.size,h4 0 _ rfl,h4 1 _ rfl,h5 0 (Nat.zero_lt_succ _),h5 1 (Nat.succ_lt_succ (Nat.zero_lt_succ _))⟩,hk⟩
theorem Hr {t:ByteArray}{r w0:List Int}(hS:Dm t r)(ht:t.size<=1000000)(hw:Cx w0)(TB:w0.length<=100){w:World}{b o:Nat}(h:Zc w b o t r):
  Calls prog 65 #[.pointer (some ⟨b,o,none⟩),.string (Ab w0)] w fun e w'=>e=.returned (.bool (Ao w0 r).isSome)∧Zc w' b o t ((Ao w0 r).getD r)∧Ez w w' b o 2:=by
 have e:=Sh (fu:=2000) (d:=0) (xs:=noR) hS ht hw TB;cases hq:Ao w0 r with
 |none=>
  rw[hq] at e;exact PI (us:=[.string (Ab w0)]) (rs:=[.bool false]) e ⟨.inl rfl,trivial⟩ ⟨.inl rfl,trivial⟩ h
 |some r'=>
  rw[hq] at e;exact PI (us:=[.string (Ab w0)]) (rs:=[.bool true]) e ⟨.inl rfl,trivial⟩ ⟨.inl rfl,trivial⟩ h
theorem Aev {t:ByteArray}{r:List Int}(hS:Dm t r)(ht:t.size<=1000000){w:World}{b o:Nat}(h:Zc w b o t r):
  Calls prog 81 #[.pointer (some ⟨b,o,none⟩)] w fun e w'=>e=.returned (.tuple #[.int .i32 ((Lb r).1.getD 0),.bool (Lb r).1.isSome])∧Zc w' b o t (Lb r).2∧Ez w w' b o 2:=by
 have e:=A3o (fu:=2000) (d:=0) (xs:=noR) (by omega) hS ht
 exact PI (us:=[]) (rs:=[.int .i32 ((Lb r).1.getD 0),.bool (Lb r).1.isSome]) e trivial ⟨.inl rfl,.inl rfl,trivial⟩ h
end
section
open Go.Proofs.Tryz (prog)
open Go.IntKind (wrap)
set_option maxRecDepth 1000000
open Go Go.RowKit Go.Lib
def A94 (o:Option (List Int)):Value:=.tuple #[.string (Ab (o.getD [])),.bool o.isSome]
theorem Zc.below {B:Nat}{w w':World}{b o:Nat}{t:ByteArray}{r:List Int}(h:Zc w b o t r)(hb:Below B w w')(hB:b<B):Zc w' b o t r:=
 ⟨Nat.lt_of_lt_of_le h.lt hb.size,(hb.cell (p:=⟨b,o,none⟩) hB).trans h.c0,(hb.cell (p:=⟨b,o+1,none⟩) hB).trans h.c1,(hb.frozen (p:=⟨b,o,none⟩) hB).trans h.f0,(hb.frozen (p:=⟨b,o+1,none⟩) hB).trans h.f1⟩
theorem Ahy {l:List Int}(h:Cx l):(Lb l).2.length<=l.length:=by
 have h1:Dm (Ab l) l:=⟨[],by rw[Cd h];rfl⟩
 have:=(Sp h1).len
 rwa [Af] at this
theorem OZ {l r:List Int}{x:Int}(h:Nl l=(some x,r)):0<=x∧x<=1114111:=by
 have hb:=Hc 4 0 l;unfold Nl at h;rcases hq:Me 4 0 l with⟨o,r1⟩;rw[hq] at h;cases o with
 |none=>cases h
 |some y=>
  have by_:=hb y r1 hq (by omega)
  simp only at h;split at h
  ·cases h
  split at h
  ·cases h;omega
  split at h
  ·have H8:=Hc 4 0 (r1.drop 2);unfold Ab3 at h;rcases Jm:Me 4 0 (r1.drop 2) with⟨o2,r2⟩;rw[Jm] at h;cases o2 with
   |none=>cases h
   |some z=>
    have bz:=H8 z r2 Jm (by omega)
    simp only at h;split at h
    ·rename_i hz
     have lz:56320<=z∧z<=57343:=by
      unfold IA at hz
      simpa using hz
     cases h;omega
    ·cases h
  ·cases h
theorem UU {l r:List Int}{x:Int}(h:Lb l=(some x,r)):0<=x∧x<=1114111:=by
 cases l with
 |nil=>cases h
 |cons c l=>
  have he:Lb (c::l)=if c=117 then Nl l else match Xa c with|some x=>(some x,l)|none=>(none,c::l):=rfl
  rw[he] at h;split at h
  ·exact OZ h
  ·rcases LW c with⟨rfl,g⟩|⟨rfl,g⟩|⟨rfl,g⟩|⟨rfl,g⟩|⟨rfl,g⟩|⟨rfl,g⟩|⟨rfl,g⟩|⟨rfl,g⟩|⟨g1,g⟩<;>rw[g] at h<;>cases h<;>omega
set_option maxHeartbeats 4000000 in
theorem UP {t:ByteArray}{r:List Int}(hS:Dm t r)(ht:t.size<=1000000){w:World}{b o:Nat}(h:Zc w b o t r):
    Calls prog 66 #[.pointer (some ⟨b,o,none⟩)] w fun e w'=>e=.returned (A94 (Ev r).1)∧Zc w' b o t (Ev r).2∧Ez w w' b o 2:=by
  have mixed:prog.follows Departure.mixedOrders=true:=by kernel_rfl
  have hac:=Hr hS ht (w0:=[34]) (fun x hx=>by simp at hx;omega) (by decide) h
  go_enter Tryz.func66,Tryz.ntmps66
  go_wp2_with (go_at_call 65;refine hac.mono ?_)
  rintro e W1 ⟨rfl,h1,k1⟩
  cases hq:Ao [34] r with
  |none=>
    rw[hq] at h1
    go_wp2
    go_ret2
    have e:Ev r=(none,r):=by
      cases r with
      |nil=>rfl
      |cons c l=>
        have hc:c≠34:=by
          rintro rfl
          unfold Ao at hq
          rw[Dy (by simp[List.isPrefixOf])] at hq
          cases hq
        show (if c=34 then _ else (none,c::l))=_
        rw[Ct hc]
    rw[e]
    exact⟨rfl,h1,k1⟩
  |some r1=>
    rw[hq] at h1
    have IQ:r=34::r1:=by
      unfold Ao at hq
      split at hq
      · rename_i hp
        obtain⟨s,hs⟩:=List.isPrefixOf_iff_prefix.1 hp
        rw[←hs] at hq ⊢
        cases hq
        rfl
      · cases hq
    subst IQ
    have e:Ev (34::r1)=Fq (r1.length+1) [] r1:=by
      show (if (34:Int)=34 then Fq (r1.length+1) [] r1 else (none,34::r1))=_
      exact Dy rfl
    have hS1:Dm t r1:=hS.tail
    have h2:Zc (W1.alloc (.cells #[.pointer none,.slice none 0 0] 97)) b o t r1:=by
      have hb:Below W1.heap.size W1 (W1.alloc (.cells #[.pointer none,.slice none 0 0] 97)):=(Below.refl _ W1).alloc (Nat.le_refl _) _
      exact⟨Nat.lt_of_lt_of_le h1.lt hb.size,(hb.cell (p:=⟨b,o,none⟩) h1.lt).trans h1.c0,(hb.cell (p:=⟨b,o+1,none⟩) h1.lt).trans h1.c1,(hb.frozen (p:=⟨b,o,none⟩) h1.lt).trans h1.f0,(hb.frozen (p:=⟨b,o+1,none⟩) h1.lt).trans h1.f1⟩
    have k2:Ez w (W1.alloc (.cells #[.pointer none,.slice none 0 0] 97)) b o 2:=k1.below ((Below.refl _ W1).alloc (Nat.le_refl _) _ |>.mono k1.size) h.lt
    have hB1:b<W1.heap.size:=h1.lt
    have hw1:w.heap.size<=W1.heap.size:=k1.size
    go_wp2
    go_loopw [] (fun wr=>∃(n:Nat) (out l:List Int),Fq (r1.length+1) [] r1=Fq n out l∧l.length<n∧Cx out∧out.length+4*l.length<=4*t.size∧Dm t l∧Zc wr b o t l∧Ez w wr b o 2∧W1.heap.size<=wr.heap.size∧Lib.IsBuilderF 97 5 W1.heap.size W1.heap.size (VA out) wr) (fun wr=>match wr.cell? ⟨b,o+1,none⟩ with|some (.int _ p)=>t.size-p.toNat|_=>0)
    case atStart=>
      exact⟨r1.length+1,[],r1,rfl,Nat.lt_succ_self _,(fun x hx=>by cases hx),(by have:=hS1.len;simp;omega),hS1,h2,k2,((Below.refl W1.heap.size W1).alloc (Nat.le_refl _) _).size,Lib.IsBuilderF.of (Lib.fresh_isBuilder 97 5 W1)⟩
    case round=>
      obtain⟨n,out,l,F8,hn,hoB,hol,hSl,hat,hk,hws,hI⟩:=hrel
      obtain⟨Cb,hc0,IZ,hf0,hf1⟩:=hat
      cases l with
      |nil=>
        rw[Xz] at IZ
        go_wp2
        go_region_o
        go_wp2
        go_ret2
        rw[e,F8]
        obtain⟨m,rfl⟩:∃m,n=m+1:=⟨n-1,by omega⟩
        exact⟨rfl,⟨Cb,hc0,IZ,hf0,hf1⟩,hk.drew⟩
      |cons c l=>
        obtain⟨m,rfl⟩:∃m,n=m+1:=⟨n-1,by omega⟩
        obtain⟨bb,hbb,rfl⟩:=hSl.at
        have hll:=hSl.len
        have Qu:Bz t ((bb.toNat:Int)::l)<t.size:=by
          unfold Bz
          rw[Uk] at hll ⊢
          omega
        have Acw:=Mr hSl
        have VC:t[Bz t ((bb.toNat:Int)::l)]'(Qu)=bb:=by
          rw[Array.getElem?_toList,Array.getElem?_eq_getElem Qu] at hbb
          exact Option.some.inj hbb
        have hcb:=bb.toNat_lt
        generalize hp:Bz t ((bb.toNat:Int)::l)=p at *
        have Bd5:(p:Int)<t.size:=by omega
        have kw:Ez wr (wr.setCell ⟨b,o+1,none⟩ (.int .i64 ((p:Int)+1))).drew.drew b o 2:=((Ez.setCell wr b o 2 (o+1) _ (by omega) (by omega) Cb).drew).drew
        have Ep:=hk.trans kw
        have YK:=Xx hI kw hB1
        have PM:Zc (wr.setCell ⟨b,o+1,none⟩ (.int .i64 ((p:Int)+1))).drew.drew b o t l:=by
          refine⟨Nat.lt_of_lt_of_le Cb kw.size,?_,?_,?_,?_⟩
          · exact (World.cell?_setCell_other _ _ _ _ (by intro e;injection e;omega)).trans hc0
          · have:(Bz t l:Int)=(p:Int)+1:=by omega
            rw[this]
            exact World.cell?_setCell_same _ _ _ IZ
          · exact (World.frozen?_setCell _ _ _ _).trans hf0
          · exact (World.frozen?_setCell _ _ _ _).trans hf1
        have Aou:W1.heap.size<=(wr.setCell ⟨b,o+1,none⟩ (.int .i64 ((p:Int)+1))).drew.drew.heap.size:=Nat.le_trans hws kw.size
        have hsm:Fq (m+1) out ((bb.toNat:Int)::l)=if (bb.toNat:Int)<32 then (none,(bb.toNat:Int)::l) else if (bb.toNat:Int)=34 then (some out,l) else if (bb.toNat:Int)=92 then
            (match Lb l with
             |(some x,r')=>Fq m (out++Lib.encodeRuneZ x) r'
             |(none,r')=>(none,r')) else Fq m (out++[(bb.toNat:Int)]) l:=rfl
        rw[hsm] at F8
        have Bck:(VA out).length+4<=140737488355328:=by
          rw[List.length_map]
          omega
        by_cases A40:(bb.toNat:Int)<32
        · rw[Dy A40] at F8
          go_wp2
          go_region_o
          go_wp2
          go_region_o
          go_wp2
          go_ret2
          rw[e,F8]
          exact⟨rfl,⟨Cb,hc0,by rw[hp];exact IZ,hf0,hf1⟩,hk.drew.drew⟩
        · rw[Ct A40] at F8
          by_cases A26:(bb.toNat:Int)=34
          · rw[Dy A26] at F8
            go_wp2
            go_region_o
            go_wp2
            go_region_o
            go_wp2_with (go_at_call 51;refine (Any.Builder_String_any_k FB Uc W1.heap.size W1.heap.size (out.map fun n=>n.toNat.toUInt8) _ (by rw[←BA hoB];exact YK) Aou).mono ?_)
            rintro e2 W3 ⟨rfl,_,b3,_⟩
            go_wp2
            go_ret2
            rw[e,F8]
            exact⟨rfl,PM.below b3 hB1,Ep.below (b3.mono hw1) h.lt⟩
          · rw[Ct A26] at F8
            by_cases A5s:(bb.toNat:Int)=92
            · rw[Dy A5s] at F8
              have Dz:=Aev hSl.tail ht PM
              go_wp2
              go_region_o
              go_wp2
              go_region_o
              go_wp2_with (go_at_call 81;refine Dz.mono ?_)
              rintro e2 W3 ⟨rfl,Ac8,k3⟩
              have Lk:=Ep.trans k3
              have hI3:=Xx YK k3 hB1
              have A15:=Nat.le_trans Aou k3.size
              have hel:=Ahy (l:=l) hSl.tail.B
              have Vf:=Sp hSl.tail
              rcases hqe:Lb l with⟨oe,le⟩
              rw[hqe] at Ac8 F8 hel Vf
              cases oe with
              |none=>
                go_wp2
                go_ret2
                rw[e,F8]
                exact⟨rfl,Ac8,Lk⟩
              |some x=>
                have Lj:=UU hqe
                go_wp2_with (go_at_call 82;refine (Any.Builder_WriteRune_k XD Uc W1.heap.size W1.heap.size _ x (by omega) (by omega) _ hI3 (by omega) A15).mono ?_)
                rintro e3 W4 ⟨rfl,i4,b4,_⟩
                go_wp2
                have A3j:=Ac8.below b4 hB1
                have hrl:=Lib.encodeRuneZ_length x
                refine⟨⟨m,out++Lib.encodeRuneZ x,le,F8,by simp at hn hel;omega,Kk hoB (fun y hy=>by have:=Lib.encodeRuneZ_byte x y hy;omega),by simp at hol hel ⊢;omega,Vf,A3j,Lk.below (b4.mono hw1) h.lt,Nat.le_trans A15 b4.size,by rw[OE];exact Or.inr i4⟩,?_⟩
                have CJ:=Vf.len
                have QH:Bz t l<=Bz t le:=by unfold Bz;omega
                have hp4:Bz t le<=t.size:=Nat.sub_le _ _
                simp only[A3j.c1,IZ,Kj]
                omega
            · rw[Ct A5s] at F8
              go_wp2
              go_region_o
              go_wp2
              go_region_o
              go_wp2_with (go_at_call 50;refine (Any.Builder_WriteByte_k FR Uc W1.heap.size W1.heap.size _ _ _ YK (by omega) Aou).mono ?_)
              rintro e2 W3 ⟨rfl,i3,b3,_⟩
              go_wp2
              have Ac8:=PM.below b3 hB1
              refine⟨⟨m,out++[(bb.toNat:Int)],l,F8,by simp at hn;omega,Kk hoB (fun x hx=>by simp at hx;omega),by simp at hol ⊢;omega,hSl.tail,Ac8,Ep.below (b3.mono hw1) h.lt,Nat.le_trans Aou b3.size,by rw[OE];exact Or.inr i3⟩,?_⟩
              simp only[Ac8.c1,IZ,Kj]
              omega
end
section
open Go.Proofs.Tryz (prog)
open Go.IntKind (wrap)
set_option maxRecDepth 100000
open Go Go.RowKit
theorem FU {t:ByteArray}:∀(n:Nat)(out l:List Int),Dm t l->Dm t (Fq n out l).2
  |0,_,_,h=>h
  |_+1,_,[],h=>h
  |n+1,out,c::l,h=>by
    have e:Fq (n+1) out (c::l)=if c<32 then (none,c::l) else if c=34 then (some out,l) else if c=92 then
        (match Lb l with
         |(some x,r')=>Fq n (out++Lib.encodeRuneZ x) r'
         |(none,r')=>(none,r')) else Fq n (out++[c]) l:=rfl
    rw[e]
    split
    · exact h
    split
    · exact h.tail
    split
    · have h2:=Sp h.tail
      rcases hq:Lb l with⟨o,r⟩
      rw[hq] at h2
      cases o with
      |none=>exact h2
      |some x=>exact FU n _ r h2
    · exact FU n _ l h.tail
theorem Ho {t:ByteArray}{l:List Int}(h:Dm t l):Dm t (Ev l).2:=by
 cases l with
 |nil=>exact h
 |cons c l=>
  have e:Ev (c::l)=if c=34 then Fq (l.length+1) [] l else (none,c::l):=rfl
  rw[e];split
  ·exact FU _ _ _ h.tail
  ·exact h
theorem Aie {w w':World}{Y:Nat->Prop}{bt:Zn}{vs vs':List Value}{us:List Value}{b o:Nat}{a c:Value}(hi:Ins w Y bt [.pbox (vs.map .sc)] us) (hb:bt 0 0=some (b,o)) (hk:Ez w w' b o vs.length)(hl:vs'.length=vs.length)
  (hc:∀j v,vs'[j]?=some v->w'.cell? ⟨b,o+j,none⟩=some v) (hf:∀j,j<vs.length->w'.frozen? ⟨b,o+j,none⟩=false):
  Out w w' Y bt [.pbox (vs.map .sc)] (fun _=>none) ⟨[.sc a,.sc c],[vs'.map .sc]⟩ [a,c] where
 os:=hk.os
 tape:=hk.tape
 output:=hk.output
 ext:=⟨hk.size,fun k h E2=>hk.other k h (fun e=>E2 (by rw[e];exact⟨0,0,o,hb⟩)),fun k h=>by
  by_cases e:k=b
  ·rw[e];exact hk.grow
  ·exact Hh.same (hk.other k h e)⟩
 rng:=fun k j h hn=>by
  by_cases e:k=b
  ·subst e
   have hj:j<o∨o+vs.length<=j:=by
    rcases Nat.lt_or_ge j o with h1|h1
    ·exact .inl h1
    ·rcases Nat.lt_or_ge j (o+vs.length) with h2|h2
     ·exact absurd ⟨0,_,rfl,.inr ⟨o,vs.map .sc,hb,h1,.inl ⟨rfl,by rw[List.length_map];exact h2⟩⟩⟩ hn
     ·exact .inr h2
   exact⟨hk.cells j hj,hk.frz j hj⟩
  ·have:=hk.other k h e;exact⟨by unfold World.cell?;simp only[this],by unfold World.frozen?;simp only[this]⟩
 vals:=⟨Ay.sc a,Ay.sc c,trivial⟩
 outs:=⟨⟨b,o,hb,by rw[List.length_map,List.length_map,hl],vs',Tt,hc,fun k h=>hf k (by rw[List.length_map,hl] at h;exact h)⟩,rfl⟩
 fresh:=fun j b o h=>by cases h
 inj:=fun j j' b o o' h=>by cases h
theorem Adj (G:Xg)(args:List PV)(res:Ap)(h:Ahm args=some res):Dh G prog 66 args res:=by
 refine⟨⟨_,Tryz.func66,by kernel_rfl⟩,fun w Y bt us hi _ _=>?_⟩
 unfold Ahm at h;split at h
 rotate_left
 ·cases h
 rename_i t p;cases hq:(decide (0<=p)&&decide (p<=t.size)&&Nat.ble t.size 1000000)
 ·rw[hq] at h;cases h
 rw[hq,cond_true] at h;simp only[Bool.and_eq_true,decide_eq_true_eq] at hq;obtain⟨⟨H4,Cj⟩,hm⟩:=hq;have hm:=Nat.le_of_ble_eq_true hm;obtain⟨p,rfl⟩:=Int.eq_ofNat_of_zero_le H4;rw[Kj] at h;have hS:Dm t ((Fn t).drop p):=(Dm.all t).drop p
 have Afb:(Bz t ((Fn t).drop p):Int)=(p:Int):=by
  unfold Bz;rw[List.length_drop,Qm];omega
 have ps:=hi.args
 match us,ps with
 |[u1],ps=>
  obtain⟨b,o,hb,rfl,_,vs,EN,C3,hfr⟩:=ps.1;have Rz:=Ui (vs:=[.string t,.int .i64 (p:Int)]) EN;subst Rz;have hat:Zc w b o t ((Fn t).drop p):=⟨hi.lt b ⟨0,0,o,hb⟩,C3 0 _ rfl,by rw[Afb];exact C3 1 _ rfl,hfr 0 (Nat.zero_lt_succ _),hfr 1 (Nat.succ_lt_succ (Nat.zero_lt_succ _))⟩
  refine (UP hS hm hat).mono ?_
  rintro e w' ⟨rfl,PM,hk⟩
  rcases hx:Ev ((Fn t).drop p) with⟨o2,r2⟩;rw[hx] at h PM
  have MM:r2.length<=t.size:=by
   have:=Ho hS;rw[hx] at this;exact this.len
  have A4h:(Bz t r2:Int)=(t.size:Int)-r2.length:=by
   unfold Bz;omega
  have Wq:∀a c:Value,Out w w' Y bt [.pbox ([Value.string t,.int .i64 (p:Int)].map .sc)] (fun _=>none) ⟨[.sc a,.sc c],[[Value.string t,.int .i64 ((t.size:Int)-r2.length)].map .sc]⟩ [a,c]:=by
   intro a c;refine Aie hi hb hk rfl ?_ ?_
   ·intro j v hv
    match j,hv with
    |0,hv=>cases hv;exact PM.c0
    |1,hv=>cases hv;rw[←A4h];exact PM.c1
   ·intro j hj
    match j,hj with
    |0,_=>exact PM.f0
    |1,_=>exact PM.f1
  cases o2 with
  |none=>
   cases h;exact⟨[.string ⟨#[]⟩,.bool false],fun _=>none,rfl,Wq _ _⟩
  |some s=>
   cases h;exact⟨[.string (Ab s),.bool true],fun _=>none,rfl,Wq _ _⟩
 |[],ps=>exact ps.elim
 |_::_::_,ps=>exact ps.2.elim
end
section
open Go.Proofs.Tryz (prog)
open Go.IntKind (wrap)
set_option maxRecDepth 100000
abbrev L3:FuncId:=64
theorem L7 {p:Option (List PV->Option Ap)} (fu d:Nat)(a0:ByteArray)(a1:Int):Ae (CP p) prog fu (d+1) L3 [.sc (.string a0),.sc (.int .u8 a1)]=(fun (call:Am)=>Ah (call 79 [.sc (.string a0),.sc (.int .u8 a1)]) fun x1 x2=>Ad x2<|Aa x1 fun x3 x4=>Aj .i64 x3 fun x5=>Ad x4<|some (Ap.mk [.sc (.int .i64 x5)] [])) (Ae (CP p) prog fu d):=by kernel_rfl
abbrev Ge:FuncId:=42
noncomputable def Di (fu:Nat)(call:Am)(Bg:ByteArray)(Bf:Int)(nn:Nat)(y0:ByteArray)(y1:Int):Option Ap:=Fh CB prog fu call 42 Tryz.f42 (D2 Tryz.f42) [.pbox [.sc (.string Bg),.sc (.int .i64 Bf)]] [.l] nn ⟨lk [(0,(.ptr 64000 0))],Iw [(64000,(.st [(.sc (.string y0)),(.sc (.int .i64 y1))]))]⟩
theorem Fi (fu:Nat)(call:Am)(Bg:ByteArray)(Bf:Int)(nn:Nat)(y0:ByteArray)(y1:Int):Di fu call Bg Bf (nn+1) y0 y1=(Ba (decide (y1<(↑(ByteArray.size y0):Int))) (A2 (decide (0<=y1))<|C5 ((Array.toList (ByteArray.data y0))[Int.toNat y1]?) fun x1=>Ah (call 64 [.sc (.string (ByteArray.mk #[32,9,10,13])),.sc (.int .u8 (↑(UInt8.toNat x1):Int))]) fun x2 x3=>Ad x3<|Aa x2 fun x4 x5=>Aj .i64 x4 fun x6=>Ad x5<|Ba (decide (x6>=0)) (Ac (wrap .i64 (y1+1)) fun x7=>Di fu call Bg Bf (nn) (y0) x7) (some (Ap.mk [] [[.sc (.string y0),.sc (.int .i64 y1)]]))) (some (Ap.mk [] [[.sc (.string y0),.sc (.int .i64 y1)]]))):=by kernel_rfl
theorem K7 {p:Option (List PV->Option Ap)} (fu d:Nat)(Bg:ByteArray)(Bf:Int):Ae (CP p) prog fu (d+1) Ge [.pbox [.sc (.string Bg),.sc (.int .i64 Bf)]]=(fun (call:Am)=>Di fu call Bg Bf (fu) (Bg) (Bf)) (Ae (CP p) prog fu d):=by kernel_rfl
abbrev Fz:FuncId:=103
noncomputable def C8 (fu:Nat)(call:Am)(Bg:ByteArray)(Bf:Int)(nn:Nat)(y0:Int)(y1:ByteArray)(y2:Int):Option Ap:=Fh CB prog fu call 103 Tryz.f103 (D2 Tryz.f103) [.pbox [.sc (.string Bg),.sc (.int .i64 Bf)]] [.r,.r,.l,.l] nn ⟨lk [(0,(.ptr 58000 0)),(3,(.sc (.int .i64 y0)))],Iw [(58000,(.st [(.sc (.string y1)),(.sc (.int .i64 y2))]))]⟩
theorem Fd (fu:Nat)(call:Am)(Bg:ByteArray)(Bf:Int)(nn:Nat)(y0:Int)(y1:ByteArray)(y2:Int):C8 fu call Bg Bf (nn+1) y0 y1 y2=(Ah (call 83 [.pbox [.sc (.string y1),.sc (.int .i64 y2)]]) fun x1 x2=>Aa x1 fun x3 x4=>Aj .u8 x3 fun x5=>Ad x4<|Aa x2 fun x6 x7=>Aa x6 fun x8 x9=>Ar x8 fun E4=>Aa x9 fun Is Iu=>Aj .i64 Is fun Ey=>Ad Iu<|Ad x7<|Ba (decide (x5>=48)) (Ah (call 83 [.pbox [.sc (.string E4),.sc (.int .i64 Ey)]]) fun Gt Ja=>Aa Gt fun Gs Hk=>Aj .u8 Gs fun I6=>Ad Hk<|Aa Ja fun H9 I9=>Aa H9 fun I5 Jr=>Ar I5 fun I4=>Aa Jr fun Hw Iz=>Aj .i64 Hw fun Kr=>Ad Iz<|Ad I9<|Ba (decide (I6<=57)) (Ac (wrap .i64 (Kr+1)) fun L1=>C8 fu call Bg Bf (nn) (y0) I4 L1) (some (Ap.mk [.sc (.bool (decide (Kr>y0)))] [[.sc (.string I4),.sc (.int .i64 Kr)]]))) (some (Ap.mk [.sc (.bool (decide (Ey>y0)))] [[.sc (.string E4),.sc (.int .i64 Ey)]]))):=by kernel_rfl
theorem J3 {p:Option (List PV->Option Ap)} (fu d:Nat)(Bg:ByteArray)(Bf:Int):Ae (CP p) prog fu (d+1) Fz [.pbox [.sc (.string Bg),.sc (.int .i64 Bf)]]=(fun (call:Am)=>C8 fu call Bg Bf (fu) (Bf) (Bg) (Bf)) (Ae (CP p) prog fu d):=by kernel_rfl
abbrev F4:FuncId:=85
theorem Ai {p:Option (List PV->Option Ap)} (fu d:Nat)(Bg:ByteArray)(Bf:Int):Ae (CP p) prog fu (d+1) F4 [.pbox [.sc (.string Bg),.sc (.int .i64 Bf)]]=(fun (call:Am)=>Ah (call 65 [.pbox [.sc (.string Bg),.sc (.int .i64 Bf)],.sc (.string (ByteArray.mk #[45]))]) fun x1 x2=>Aa x1 fun x3 x4=>Aq x3 fun x5=>Ad x4<|Aa x2 fun x6 x7=>Aa x6 fun x8 x9=>Ar x8 fun E4=>Aa x9 fun Is Iu=>Aj .i64 Is fun Ey=>Ad Iu<|Ad x7<|Ah (call 65 [.pbox [.sc (.string E4),.sc (.int .i64 Ey)],.sc (.string (ByteArray.mk #[48]))]) fun Gt Ja=>Aa Gt fun Gs Hk=>Aq Gs fun I6=>Ad Hk<|Aa Ja fun H9 I9=>Aa H9 fun I5 Jr=>Ar I5 fun I4=>Aa Jr fun Hw Iz=>Aj .i64 Hw fun Kr=>Ad Iz<|Ad I9<|Ba (!I6) (Ah (call 103 [.pbox [.sc (.string I4),.sc (.int .i64 Kr)]]) fun L1 Ms=>Aa L1 fun L6 N4=>Aq L6 fun N1=>Ad N4<|Aa Ms fun Pf N6=>Aa Pf fun O4 Pq=>Ar O4 fun Pm=>Aa Pq fun Q2 Qs=>Aj .i64 Q2 fun Pi=>Ad Qs<|Ad N6<|Ba (!N1) (some (Ap.mk [.sc (.bool false)] [[.sc (.string Pm),.sc (.int .i64 Pi)]])) (Ah (call 65 [.pbox [.sc (.string Pm),.sc (.int .i64 Pi)],.sc (.string (ByteArray.mk #[46]))]) fun Vw Xj=>Aa Vw fun Pb Pp=>Aq Pb fun V7=>Ad Pp<|Aa Xj fun Vn Xv=>Aa Vn fun Yb X9=>Ar Yb fun Vp=>Aa X9 fun Wb Xh=>Aj .i64 Wb fun Oa=>Ad Xh<|Ad Xv<|Ba V7 (Ah (call 103 [.pbox [.sc (.string Vp),.sc (.int .i64 Oa)]]) fun R8 Xk=>Aa R8 fun DJ BW=>Aq DJ fun Z9=>Ad BW<|Aa Xk fun Z5 EJ=>Aa Z5 fun FH EZ=>Ar FH fun MC=>Aa EZ fun RX ND=>Aj .i64 RX fun JK=>Ad ND<|Ad EJ<|Ba (!Z9) (some (Ap.mk [.sc (.bool false)] [[.sc (.string MC),.sc (.int .i64 JK)]])) (Ah (call 65 [.pbox [.sc (.string MC),.sc (.int .i64 JK)],.sc (.string (ByteArray.mk #[101]))]) fun PQ KP=>Aa PQ fun NQ QW=>Aq NQ fun QA=>Ad QW<|Aa KP fun LQ JF=>Aa LQ fun FM KK=>Ar FM fun LO=>Aa KK fun SG VF=>Aj .i64 SG fun RE=>Ad VF<|Ad JF<|Ba QA (Ah (call 65 [.pbox [.sc (.string LO),.sc (.int .i64 RE)],.sc (.string (ByteArray.mk #[43]))]) fun WB JU=>Aa WB fun QP RR=>Aq QP fun WN=>Ad RR<|Aa JU fun OB TI=>Aa OB fun RQ XB=>Ar RQ fun NV=>Aa XB fun QX WO=>Aj .i64 QX fun PY=>Ad WO<|Ad TI<|Ba (!WN) (Ah (call 65 [.pbox [.sc (.string NV),.sc (.int .i64 PY)],.sc (.string (ByteArray.mk #[45]))]) fun QN VH=>Aa QN fun QZ UX=>Aq QZ fun YS=>Ad UX<|Aa VH fun OP RJ=>Aa OP fun WA Qq=>Ar WA fun U9=>Aa Qq fun Ri Sg=>Aj .i64 Ri fun Tc=>Ad Sg<|Ad RJ<|Ah (call 103 [.pbox [.sc (.string U9),.sc (.int .i64 Tc)]]) fun Ob Rx=>Aa Ob fun Q9 Uw=>Aq Q9 fun W0=>Ad Uw<|Aa Rx fun Uq Wl=>Aa Uq fun BI S6=>Ar BI fun Uv=>Aa S6 fun V0 Wf=>Aj .i64 V0 fun Va=>Ad Wf<|Ad Wl<|some (Ap.mk [.sc (.bool W0)] [[.sc (.string Uv),.sc (.int .i64 Va)]])) (Ah (call 103 [.pbox [.sc (.string NV),.sc (.int .i64 PY)]]) fun S3 Ry=>Aa S3 fun R0 Vz=>Aq R0 fun Wo=>Ad Vz<|Aa Ry fun Sc Wd=>Aa Sc fun Wm U6=>Ar Wm fun Vc=>Aa U6 fun Ww R5=>Aj .i64 Ww fun Vi=>Ad R5<|Ad Wd<|some (Ap.mk [.sc (.bool Wo)] [[.sc (.string Vc),.sc (.int .i64 Vi)]]))) (Ah (call 65 [.pbox [.sc (.string LO),.sc (.int .i64 RE)],.sc (.string (ByteArray.mk #[69]))]) fun BB AH=>Aa BB fun BD BK=>Aq BD fun AU=>Ad BK<|Aa AH fun Z2 AJ=>Aa Z2 fun DH AO=>Ar DH fun Xl=>Aa AO fun DG AP=>Aj .i64 DG fun Uu=>Ad AP<|Ad AJ<|Ba AU (Ah (call 65 [.pbox [.sc (.string Xl),.sc (.int .i64 Uu)],.sc (.string (ByteArray.mk #[43]))]) fun X7 Zy=>Aa X7 fun Yq Yo=>Aq Yq fun Y6=>Ad Yo<|Aa Zy fun DN DA=>Aa DN fun PA PC=>Ar PA fun HR=>Aa PC fun ON WL=>Aj .i64 ON fun JG=>Ad WL<|Ad DA<|Ba (!Y6) (Ah (call 65 [.pbox [.sc (.string HR),.sc (.int .i64 JG)],.sc (.string (ByteArray.mk #[45]))]) fun Aba Aak=>Aa Aba fun Agb UA=>Aq Agb fun YI=>Ad UA<|Aa Aak fun Aaq VL=>Aa Aaq fun UM Abg=>Ar UM fun UG=>Aa Abg fun ZI Aa8=>Aj .i64 ZI fun ZK=>Ad Aa8<|Ad VL<|Ah (call 103 [.pbox [.sc (.string UG),.sc (.int .i64 ZK)]]) fun SL Aa1=>Aa SL fun Aaf XF=>Aq Aaf fun Ae8=>Ad XF<|Aa Aa1 fun Afe KD=>Aa Afe fun NU XZ=>Ar NU fun WJ=>Aa XZ fun OO ZL=>Aj .i64 OO fun Aaz=>Ad ZL<|Ad KD<|some (Ap.mk [.sc (.bool Ae8)] [[.sc (.string WJ),.sc (.int .i64 Aaz)]])) (Ah (call 103 [.pbox [.sc (.string HR),.sc (.int .i64 JG)]]) fun XU ZQ=>Aa XU fun XT YT=>Aq XT fun YP=>Ad YT<|Aa ZQ fun ZU ZZ=>Aa ZU fun Afl ZH=>Ar Afl fun WH=>Aa ZH fun Aa3 ZM=>Aj .i64 Aa3 fun ZV=>Ad ZM<|Ad ZZ<|some (Ap.mk [.sc (.bool YP)] [[.sc (.string WH),.sc (.int .i64 ZV)]]))) (some (Ap.mk [.sc (.bool true)] [[.sc (.string Xl),.sc (.int .i64 Uu)]]))))) (Ah (call 65 [.pbox [.sc (.string Vp),.sc (.int .i64 Oa)],.sc (.string (ByteArray.mk #[101]))]) fun Aa0 Aa4=>Aa Aa0 fun Aad TX=>Aq Aad fun UI=>Ad TX<|Aa Aa4 fun VI WK=>Aa VI fun ZD Afj=>Ar ZD fun NX=>Aa Afj fun Aax ZX=>Aj .i64 Aax fun UK=>Ad ZX<|Ad WK<|Ba UI (Ah (call 65 [.pbox [.sc (.string NX),.sc (.int .i64 UK)],.sc (.string (ByteArray.mk #[43]))]) fun Aa7 SY=>Aa Aa7 fun UF Aei=>Aq UF fun XL=>Ad Aei<|Aa SY fun ZA Aaj=>Aa ZA fun SK YD=>Ar SK fun RH=>Aa YD fun YB Aas=>Aj .i64 YB fun XK=>Ad Aas<|Ad Aaj<|Ba (!XL) (Ah (call 65 [.pbox [.sc (.string RH),.sc (.int .i64 XK)],.sc (.string (ByteArray.mk #[45]))]) fun ZF Aif=>Aa ZF fun Ajq Aj2=>Aq Ajq fun Anj=>Ad Aj2<|Aa Aif fun Ad6 Ait=>Aa Ad6 fun Alk Akn=>Ar Alk fun Ail=>Aa Akn fun Aeh Aiw=>Aj .i64 Aeh fun Alw=>Ad Aiw<|Ad Ait<|Ah (call 103 [.pbox [.sc (.string Ail),.sc (.int .i64 Alw)]]) fun Ag7 Ald=>Aa Ag7 fun Ani Aj1=>Aq Ani fun Amg=>Ad Aj1<|Aa Ald fun Ahk Ajv=>Aa Ahk fun Amh Aa5=>Ar Amh fun Ahl=>Aa Aa5 fun Akt Afc=>Aj .i64 Akt fun Amf=>Ad Afc<|Ad Ajv<|some (Ap.mk [.sc (.bool Amg)] [[.sc (.string Ahl),.sc (.int .i64 Amf)]])) (Ah (call 103 [.pbox [.sc (.string RH),.sc (.int .i64 XK)]]) fun Ad0 Aet=>Aa Ad0 fun Ako Ale=>Aq Ako fun Amj=>Ad Ale<|Aa Aet fun Aqo Ag5=>Aa Aqo fun Akp Amd=>Ar Akp fun Aia=>Aa Amd fun Aiq Aan=>Aj .i64 Aiq fun Ahe=>Ad Aan<|Ad Ag5<|some (Ap.mk [.sc (.bool Amj)] [[.sc (.string Aia),.sc (.int .i64 Ahe)]]))) (Ah (call 65 [.pbox [.sc (.string NX),.sc (.int .i64 UK)],.sc (.string (ByteArray.mk #[69]))]) fun Akx Afs=>Aa Akx fun Al4 Aiv=>Aq Al4 fun Aku=>Ad Aiv<|Aa Afs fun Ag9 Aln=>Aa Ag9 fun Akr Ady=>Ar Akr fun Aec=>Aa Ady fun Ai6 Afn=>Aj .i64 Ai6 fun Afp=>Ad Afn<|Ad Aln<|Ba Aku (Ah (call 65 [.pbox [.sc (.string Aec),.sc (.int .i64 Afp)],.sc (.string (ByteArray.mk #[43]))]) fun Aq2 Aen=>Aa Aq2 fun Ala Amr=>Aq Ala fun Al5=>Ad Amr<|Aa Aen fun Ajb YL=>Aa Ajb fun Aj0 Ak2=>Ar Aj0 fun Aff=>Aa Ak2 fun Alr Aag=>Aj .i64 Alr fun Ae6=>Ad Aag<|Ad YL<|Ba (!Al5) (Ah (call 65 [.pbox [.sc (.string Aff),.sc (.int .i64 Ae6)],.sc (.string (ByteArray.mk #[45]))]) fun Alm Adn=>Aa Alm fun Alf Aq0=>Aq Alf fun An5=>Ad Aq0<|Aa Adn fun Ajr Alo=>Aa Ajr fun Ahi Ajy=>Ar Ahi fun Afa=>Aa Ajy fun Aj6 Agd=>Aj .i64 Aj6 fun Aly=>Ad Agd<|Ad Alo<|Ah (call 103 [.pbox [.sc (.string Afa),.sc (.int .i64 Aly)]]) fun Ai7 XG=>Aa Ai7 fun A0o At1=>Aq A0o fun A0m=>Ad At1<|Aa XG fun Axc A5i=>Aa Axc fun Aq6 Aqh=>Ar Aq6 fun Atj=>Aa Aqh fun Awq Ap0=>Aj .i64 Awq fun Ame=>Ad Ap0<|Ad A5i<|some (Ap.mk [.sc (.bool A0m)] [[.sc (.string Atj),.sc (.int .i64 Ame)]])) (Ah (call 103 [.pbox [.sc (.string Aff),.sc (.int .i64 Ae6)]]) fun Az6 Av4=>Aa Az6 fun Au9 A0i=>Aq Au9 fun Ap1=>Ad A0i<|Aa Av4 fun Axz Atq=>Aa Axz fun A0e Axo=>Ar A0e fun A4c=>Aa Axo fun Axd Awz=>Aj .i64 Axd fun Avl=>Ad Awz<|Ad Atq<|some (Ap.mk [.sc (.bool Ap1)] [[.sc (.string A4c),.sc (.int .i64 Avl)]]))) (some (Ap.mk [.sc (.bool true)] [[.sc (.string Aec),.sc (.int .i64 Afp)]])))))) (Ah (call 65 [.pbox [.sc (.string I4),.sc (.int .i64 Kr)],.sc (.string (ByteArray.mk #[46]))]) fun Atz Axp=>Aa Atz fun A0h Awt=>Aq A0h fun Atr=>Ad Awt<|Aa Axp fun Axr Ax0=>Aa Axr fun Awx Aw8=>Ar Awx fun Aod=>Aa Aw8 fun Avx Aww=>Aj .i64 Avx fun Atg=>Ad Aww<|Ad Ax0<|Ba Atr (Ah (call 103 [.pbox [.sc (.string Aod),.sc (.int .i64 Atg)]]) fun Awa Au1=>Aa Awa fun Atu Awv=>Aq Atu fun Azw=>Ad Awv<|Aa Au1 fun Azf Aud=>Aa Azf fun Auo Ayp=>Ar Auo fun App=>Aa Ayp fun Auj Aws=>Aj .i64 Auj fun Aoh=>Ad Aws<|Ad Aud<|Ba (!Azw) (some (Ap.mk [.sc (.bool false)] [[.sc (.string App),.sc (.int .i64 Aoh)]])) (Ah (call 65 [.pbox [.sc (.string App),.sc (.int .i64 Aoh)],.sc (.string (ByteArray.mk #[101]))]) fun Az5 A5d=>Aa Az5 fun Aqf Aoc=>Aq Aqf fun Aye=>Ad Aoc<|Aa A5d fun Axf Aqp=>Aa Axf fun Ayl Aza=>Ar Ayl fun Aog=>Aa Aza fun A0b Atv=>Aj .i64 A0b fun Apv=>Ad Atv<|Ad Aqp<|Ba Aye (Ah (call 65 [.pbox [.sc (.string Aog),.sc (.int .i64 Apv)],.sc (.string (ByteArray.mk #[43]))]) fun At0 Awu=>Aa At0 fun Aw2 A42=>Aq Aw2 fun Az0=>Ad A42<|Aa Awu fun Az7 Ayj=>Aa Az7 fun Aul Aw6=>Ar Aul fun Aov=>Aa Aw6 fun Aub As4=>Aj .i64 Aub fun Apg=>Ad As4<|Ad Ayj<|Ba (!Az0) (Ah (call 65 [.pbox [.sc (.string Aov),.sc (.int .i64 Apg)],.sc (.string (ByteArray.mk #[45]))]) fun Ay4 Azr=>Aa Ay4 fun Avt Awh=>Aq Avt fun A4u=>Ad Awh<|Aa Azr fun A2j Avr=>Aa A2j fun Ayg A0d=>Ar Ayg fun Ave=>Aa A0d fun Awp Aw5=>Aj .i64 Awp fun Atd=>Ad Aw5<|Ad Avr<|Ah (call 103 [.pbox [.sc (.string Ave),.sc (.int .i64 Atd)]]) fun Awg Au7=>Aa Awg fun Avk Azm=>Aq Avk fun A0p=>Ad Azm<|Aa Au7 fun Anv Avu=>Aa Anv fun Ayv Ay0=>Ar Ayv fun Azt=>Aa Ay0 fun A33 Ax9=>Aj .i64 A33 fun Axm=>Ad Ax9<|Ad Avu<|some (Ap.mk [.sc (.bool A0p)] [[.sc (.string Azt),.sc (.int .i64 Axm)]])) (Ah (call 103 [.pbox [.sc (.string Aov),.sc (.int .i64 Apg)]]) fun Azi Azo=>Aa Azi fun Awd Anq=>Aq Awd fun Atx=>Ad Anq<|Aa Azo fun Ay2 Axj=>Aa Ay2 fun Axh As2=>Ar Axh fun Azd=>Aa As2 fun Ayk Ata=>Aj .i64 Ayk fun Ax5=>Ad Ata<|Ad Axj<|some (Ap.mk [.sc (.bool Atx)] [[.sc (.string Azd),.sc (.int .i64 Ax5)]]))) (Ah (call 65 [.pbox [.sc (.string Aog),.sc (.int .i64 Apv)],.sc (.string (ByteArray.mk #[69]))]) fun A3m Av2=>Aa A3m fun Av7 Aue=>Aq Av7 fun Auw=>Ad Aue<|Aa Av2 fun Aze Ax7=>Aa Aze fun Axg Aui=>Ar Axg fun Apm=>Aa Aui fun Aus Ay9=>Aj .i64 Aus fun Ana=>Ad Ay9<|Ad Ax7<|Ba Auw (Ah (call 65 [.pbox [.sc (.string Apm),.sc (.int .i64 Ana)],.sc (.string (ByteArray.mk #[43]))]) fun Aya Az1=>Aa Aya fun A11 A0n=>Aq A11 fun As9=>Ad A0n<|Aa Az1 fun Atf Axe=>Aa Atf fun Au0 Azh=>Ar Au0 fun Aq5=>Aa Azh fun Axy Ayb=>Aj .i64 Axy fun Aih=>Ad Ayb<|Ad Axe<|Ba (!As9) (Ah (call 65 [.pbox [.sc (.string Aq5),.sc (.int .i64 Aih)],.sc (.string (ByteArray.mk #[45]))]) fun Av0 As3=>Aa Av0 fun At9 Ay6=>Aq At9 fun A3r=>Ad Ay6<|Aa As3 fun Aux A0j=>Aa Aux fun Ax1 Aoj=>Ar Ax1 fun Aup=>Aa Aoj fun Av9 Atl=>Aj .i64 Av9 fun Awo=>Ad Atl<|Ad A0j<|Ah (call 103 [.pbox [.sc (.string Aup),.sc (.int .i64 Awo)]]) fun A3d Atm=>Aa A3d fun Avf Axu=>Aq Avf fun Axq=>Ad Axu<|Aa Atm fun Azl Axx=>Aa Azl fun Ayx Ayh=>Ar Ayx fun A0a=>Aa Ayh fun Av1 OS=>Aj .i64 Av1 fun Ay7=>Ad OS<|Ad Axx<|some (Ap.mk [.sc (.bool Axq)] [[.sc (.string A0a),.sc (.int .i64 Ay7)]])) (Ah (call 103 [.pbox [.sc (.string Aq5),.sc (.int .i64 Aih)]]) fun Azc Awb=>Aa Azc fun A0q A3p=>Aq A0q fun Auk=>Ad A3p<|Aa Awb fun Av8 Avv=>Aa Av8 fun Aw0 Azs=>Ar Aw0 fun At8=>Aa Azs fun Au6 Axl=>Aj .i64 Au6 fun Ato=>Ad Axl<|Ad Avv<|some (Ap.mk [.sc (.bool Auk)] [[.sc (.string At8),.sc (.int .i64 Ato)]]))) (some (Ap.mk [.sc (.bool true)] [[.sc (.string Apm),.sc (.int .i64 Ana)]]))))) (Ah (call 65 [.pbox [.sc (.string Aod),.sc (.int .i64 Atg)],.sc (.string (ByteArray.mk #[101]))]) fun An8 Au5=>Aa An8 fun Awi Av3=>Aq Awi fun Awj=>Ad Av3<|Aa Au5 fun A3x Awc=>Aa A3x fun Az8 Ath=>Ar Az8 fun Aor=>Aa Ath fun Avg Apr=>Aj .i64 Avg fun Ahr=>Ad Apr<|Ad Awc<|Ba Awj (Ah (call 65 [.pbox [.sc (.string Aor),.sc (.int .i64 Ahr)],.sc (.string (ByteArray.mk #[43]))]) fun Aua Au4=>Aa Aua fun Az9 Atw=>Aq Az9 fun Apk=>Ad Atw<|Aa Au4 fun Ayw Auu=>Aa Ayw fun Atn Auv=>Ar Atn fun Atc=>Aa Auv fun Aoq Aq1=>Aj .i64 Aoq fun Anp=>Ad Aq1<|Ad Auu<|Ba (!Apk) (Ah (call 65 [.pbox [.sc (.string Atc),.sc (.int .i64 Anp)],.sc (.string (ByteArray.mk #[45]))]) fun Atp Ap4=>Aa Atp fun Aol Al1=>Aq Aol fun Apu=>Ad Al1<|Aa Ap4 fun Ate Apw=>Aa Ate fun Auq Ayi=>Ar Auq fun Az4=>Aa Ayi fun Aoo Au2=>Aj .i64 Aoo fun At5=>Ad Au2<|Ad Apw<|Ah (call 103 [.pbox [.sc (.string Az4),.sc (.int .i64 At5)]]) fun A0c Azp=>Aa A0c fun Aos Avi=>Aq Aos fun At2=>Ad Avi<|Aa Azp fun Ayu Av5=>Aa Ayu fun A3t Avs=>Ar A3t fun Aw9=>Aa Avs fun Axb Avm=>Aj .i64 Axb fun Aw1=>Ad Avm<|Ad Av5<|some (Ap.mk [.sc (.bool At2)] [[.sc (.string Aw9),.sc (.int .i64 Aw1)]])) (Ah (call 103 [.pbox [.sc (.string Atc),.sc (.int .i64 Anp)]]) fun Avb A7s=>Aa Avb fun A7v Bbg=>Aq A7v fun A87=>Ad Bbg<|Aa A7s fun Bb9 A9l=>Aa Bb9 fun Bah A81=>Ar Bah fun A6u=>Aa A81 fun A70 Bak=>Aj .i64 A70 fun Baw=>Ad Bak<|Ad A9l<|some (Ap.mk [.sc (.bool A87)] [[.sc (.string A6u),.sc (.int .i64 Baw)]]))) (Ah (call 65 [.pbox [.sc (.string Aor),.sc (.int .i64 Ahr)],.sc (.string (ByteArray.mk #[69]))]) fun A9s A9p=>Aa A9s fun Bbw A7y=>Aq Bbw fun A9a=>Ad A7y<|Aa A9p fun A60 A76=>Aa A60 fun A9x A9o=>Ar A9x fun A5o=>Aa A9o fun A7j A99=>Aj .i64 A7j fun A4v=>Ad A99<|Ad A76<|Ba A9a (Ah (call 65 [.pbox [.sc (.string A5o),.sc (.int .i64 A4v)],.sc (.string (ByteArray.mk #[43]))]) fun Bbt A7b=>Aa Bbt fun A9q Bb5=>Aq A9q fun Bbe=>Ad Bb5<|Aa A7b fun A61 Bas=>Aa A61 fun Bcd A7r=>Ar Bcd fun A44=>Aa A7r fun A9r A9e=>Aj .i64 A9r fun A4j=>Ad A9e<|Ad Bas<|Ba (!Bbe) (Ah (call 65 [.pbox [.sc (.string A44),.sc (.int .i64 A4j)],.sc (.string (ByteArray.mk #[45]))]) fun Bbp A8m=>Aa Bbp fun A6z Bal=>Aq A6z fun Bgm=>Ad Bal<|Aa A8m fun A9f Ba8=>Aa A9f fun A67 A8l=>Ar A67 fun Baq=>Aa A8l fun Baa A8w=>Aj .i64 Baa fun A71=>Ad A8w<|Ad Ba8<|Ah (call 103 [.pbox [.sc (.string Baq),.sc (.int .i64 A71)]]) fun A9v A89=>Aa A9v fun A7h A7e=>Aq A7h fun A8f=>Ad A7e<|Aa A89 fun A9t Bap=>Aa A9t fun Bce Bbm=>Ar Bce fun A9z=>Aa Bbm fun A85 Ba5=>Aj .i64 A85 fun A8b=>Ad Ba5<|Ad Bap<|some (Ap.mk [.sc (.bool A8f)] [[.sc (.string A9z),.sc (.int .i64 A8b)]])) (Ah (call 103 [.pbox [.sc (.string A44),.sc (.int .i64 A4j)]]) fun A68 A62=>Aa A68 fun Bb6 A64=>Aq Bb6 fun A8g=>Ad A64<|Aa A62 fun Bb2 A7l=>Aa Bb2 fun Bat Bb4=>Ar Bat fun A9n=>Aa Bb4 fun A8x A8c=>Aj .i64 A8x fun A93=>Ad A8c<|Ad A7l<|some (Ap.mk [.sc (.bool A8g)] [[.sc (.string A9n),.sc (.int .i64 A93)]]))) (some (Ap.mk [.sc (.bool true)] [[.sc (.string A5o),.sc (.int .i64 A4v)]])))))) (Ae (CP p) prog fu d):=by kernel_rfl
abbrev K9:FuncId:=84
noncomputable def Dg (fu:Nat)(call:Am)(Bg:ByteArray)(Bf a1:Int)(nn:Nat)(y0:Int)(y1:ByteArray)(y2:Int):Option Ap:=Fh CB prog fu call 84 Tryz.f84 (D2 Tryz.f84) [.pbox [.sc (.string Bg),.sc (.int .i64 Bf)],.sc (.int .i64 a1)] [.r,.r,.r,.r,.l] nn ⟨lk [(0,(.ptr 64000 0)),(1,(.sc (.int .i64 y0)))],Iw [(64000,(.st [(.sc (.string y1)),(.sc (.int .i64 y2))]))]⟩
theorem Jf (fu:Nat)(call:Am)(Bg:ByteArray)(Bf a1:Int)(nn:Nat)(y0:Int)(y1:ByteArray)(y2:Int):Dg fu call Bg Bf a1 (nn+1) y0 y1 y2=(Ah (call 67 [.pbox [.sc (.string y1),.sc (.int .i64 y2)],.sc (.int .i64 y0)]) fun Q2 Qs=>Aa Q2 fun Pi Vw=>F7 Pi fun Xj=>Aa Xj fun Pb Pp=>Aj .i64 Pb fun V7=>Aa Pp fun Vn Xv=>Ar Vn fun Yb=>Aa Xv fun X9 Vp=>Aq X9 fun Wb=>Ad Vp<|Aa Vw fun Xh Oa=>Aj .i64 Xh fun R8=>Ad Oa<|Aa Qs fun Xk DJ=>Aa Xk fun BW Z9=>Ar BW fun Z5=>Aa Z9 fun EJ FH=>Aj .i64 EJ fun EZ=>Ad FH<|Ad DJ<|Ba (R8 != 0) (some (Ap.mk [.sc (.int .i64 R8)] [[.sc (.string Z5),.sc (.int .i64 EZ)]])) (Ah (call 42 [.pbox [.sc (.string Z5),.sc (.int .i64 EZ)]]) fun MC RX=>Ad MC<|Aa RX fun ND JK=>Aa ND fun PQ KP=>Ar PQ fun NQ=>Aa KP fun QW QA=>Aj .i64 QW fun LQ=>Ad QA<|Ad JK<|Ah (call 65 [.pbox [.sc (.string NQ),.sc (.int .i64 LQ)],.sc (.string (ByteArray.mk #[93]))]) fun JF FM=>Aa JF fun KK LO=>Aq KK fun SG=>Ad LO<|Aa FM fun VF RE=>Aa VF fun WB JU=>Ar WB fun QP=>Aa JU fun RR WN=>Aj .i64 RR fun OB=>Ad WN<|Ad RE<|Ba SG (some (Ap.mk [.sc (.int .i64 0)] [[.sc (.string QP),.sc (.int .i64 OB)]])) (Ah (call 65 [.pbox [.sc (.string QP),.sc (.int .i64 OB)],.sc (.string (ByteArray.mk #[44]))]) fun TI RQ=>Aa TI fun XB NV=>Aq XB fun QX=>Ad NV<|Aa RQ fun WO PY=>Aa WO fun QN VH=>Ar QN fun QZ=>Aa VH fun UX YS=>Aj .i64 UX fun OP=>Ad YS<|Ad PY<|Ba (!QX) (some (Ap.mk [.sc (.int .i64 2)] [[.sc (.string QZ),.sc (.int .i64 OP)]])) (Ah (call 42 [.pbox [.sc (.string QZ),.sc (.int .i64 OP)]]) fun RJ WA=>Ad RJ<|Aa WA fun Qq U9=>Aa Qq fun Ri Sg=>Ar Ri fun Tc=>Aa Sg fun Ob Rx=>Aj .i64 Ob fun Q9=>Ad Rx<|Ad U9<|Dg fu call Bg Bf a1 (nn) (y0) Tc Q9)))):=by kernel_rfl
theorem K5 {p:Option (List PV->Option Ap)} (fu d:Nat)(Bg:ByteArray)(Bf a1:Int):Ae (CP p) prog fu (d+1) K9 [.pbox [.sc (.string Bg),.sc (.int .i64 Bf)],.sc (.int .i64 a1)]=(fun (call:Am)=>Ah (call 65 [.pbox [.sc (.string Bg),.sc (.int .i64 Bf)],.sc (.string (ByteArray.mk #[91]))]) fun x1 x2=>Aa x1 fun x3 x4=>Aq x3 fun x5=>Ad x4<|Aa x2 fun x6 x7=>Aa x6 fun x8 x9=>Ar x8 fun E4=>Aa x9 fun Is Iu=>Aj .i64 Is fun Ey=>Ad Iu<|Ad x7<|Ba (!x5) (some (Ap.mk [.sc (.int .i64 2)] [[.sc (.string E4),.sc (.int .i64 Ey)]])) (Ah (call 42 [.pbox [.sc (.string E4),.sc (.int .i64 Ey)]]) fun Gt Ja=>Ad Gt<|Aa Ja fun Gs Hk=>Aa Gs fun I6 H9=>Ar I6 fun I9=>Aa H9 fun I5 Jr=>Aj .i64 I5 fun I4=>Ad Jr<|Ad Hk<|Ah (call 65 [.pbox [.sc (.string I9),.sc (.int .i64 I4)],.sc (.string (ByteArray.mk #[93]))]) fun Hw Iz=>Aa Hw fun Kr L1=>Aq Kr fun Ms=>Ad L1<|Aa Iz fun L6 N4=>Aa L6 fun N1 Pf=>Ar N1 fun N6=>Aa Pf fun O4 Pq=>Aj .i64 O4 fun Pm=>Ad Pq<|Ad N4<|Ba Ms (some (Ap.mk [.sc (.int .i64 0)] [[.sc (.string N6),.sc (.int .i64 Pm)]])) (Dg fu call Bg Bf a1 (fu) (a1) N6 Pm))) (Ae (CP p) prog fu d):=by kernel_rfl
abbrev J2:FuncId:=43
noncomputable def C9 (fu:Nat)(call:Am)(Bg:ByteArray)(Bf a1:Int)(nn:Nat)(y0:Int)(y1:ByteArray)(y2:Int):Option Ap:=Fh CB prog fu call 43 Tryz.f43 (D2 Tryz.f43) [.pbox [.sc (.string Bg),.sc (.int .i64 Bf)],.sc (.int .i64 a1),.sc (Value.map none)] [.r,.r,.r,.r,.l] nn ⟨lk [(0,(.ptr 128000 0)),(1,(.sc (.int .i64 y0))),(2,(.sc (Value.map none)))],Iw [(128000,(.st [(.sc (.string y1)),(.sc (.int .i64 y2))]))]⟩
theorem I2 (fu:Nat)(call:Am)(Bg:ByteArray)(Bf a1:Int)(nn:Nat)(y0:Int)(y1:ByteArray)(y2:Int):C9 fu call Bg Bf a1 (nn+1) y0 y1 y2=(Ah (call 66 [.pbox [.sc (.string y1),.sc (.int .i64 y2)]]) fun Q2 Qs=>Aa Q2 fun Pi Vw=>Ar Pi fun Xj=>Aa Vw fun Pb Pp=>Aq Pb fun V7=>Ad Pp<|Aa Qs fun Vn Xv=>Aa Vn fun Yb X9=>Ar Yb fun Vp=>Aa X9 fun Wb Xh=>Aj .i64 Wb fun Oa=>Ad Xh<|Ad Xv<|Ba (!V7) (some (Ap.mk [.sc (.int .i64 2)] [[.sc (.string Vp),.sc (.int .i64 Oa)]])) (Ah (call 42 [.pbox [.sc (.string Vp),.sc (.int .i64 Oa)]]) fun R8 Xk=>Ad R8<|Aa Xk fun DJ BW=>Aa DJ fun Z9 Z5=>Ar Z9 fun EJ=>Aa Z5 fun FH EZ=>Aj .i64 FH fun MC=>Ad EZ<|Ad BW<|Ah (call 65 [.pbox [.sc (.string EJ),.sc (.int .i64 MC)],.sc (.string (ByteArray.mk #[58]))]) fun RX ND=>Aa RX fun JK PQ=>Aq JK fun KP=>Ad PQ<|Aa ND fun NQ QW=>Aa NQ fun QA LQ=>Ar QA fun JF=>Aa LQ fun FM KK=>Aj .i64 FM fun LO=>Ad KK<|Ad QW<|Ba (!KP) (some (Ap.mk [.sc (.int .i64 2)] [[.sc (.string JF),.sc (.int .i64 LO)]])) (Ah (call 42 [.pbox [.sc (.string JF),.sc (.int .i64 LO)]]) fun SG VF=>Ad SG<|Aa VF fun RE WB=>Aa RE fun JU QP=>Ar JU fun RR=>Aa QP fun WN OB=>Aj .i64 WN fun TI=>Ad OB<|Ad WB<|Ah (call 67 [.pbox [.sc (.string RR),.sc (.int .i64 TI)],.sc (.int .i64 y0)]) fun RQ XB=>Aa RQ fun NV QX=>F7 NV fun WO=>Aa WO fun PY QN=>Aj .i64 PY fun VH=>Aa QN fun QZ UX=>Ar QZ fun YS=>Aa UX fun OP RJ=>Aq OP fun WA=>Ad RJ<|Aa QX fun Qq U9=>Aj .i64 Qq fun Ri=>Ad U9<|Aa XB fun Sg Tc=>Aa Sg fun Ob Rx=>Ar Ob fun Q9=>Aa Rx fun Uw W0=>Aj .i64 Uw fun Uq=>Ad W0<|Ad Tc<|Ba (Ri != 0) (some (Ap.mk [.sc (.int .i64 Ri)] [[.sc (.string Q9),.sc (.int .i64 Uq)]])) (Ah (call 42 [.pbox [.sc (.string Q9),.sc (.int .i64 Uq)]]) fun Wl BI=>Ad Wl<|Aa BI fun S6 Uv=>Aa S6 fun V0 Wf=>Ar V0 fun Va=>Aa Wf fun S3 Ry=>Aj .i64 S3 fun R0=>Ad Ry<|Ad Uv<|Ah (call 65 [.pbox [.sc (.string Va),.sc (.int .i64 R0)],.sc (.string (ByteArray.mk #[125]))]) fun Vz Wo=>Aa Vz fun Sc Wd=>Aq Sc fun Wm=>Ad Wd<|Aa Wo fun U6 Vc=>Aa U6 fun Ww R5=>Ar Ww fun Vi=>Aa R5 fun BB AH=>Aj .i64 BB fun BD=>Ad AH<|Ad Vc<|Ba Wm (some (Ap.mk [.sc (.int .i64 0)] [[.sc (.string Vi),.sc (.int .i64 BD)]])) (Ah (call 65 [.pbox [.sc (.string Vi),.sc (.int .i64 BD)],.sc (.string (ByteArray.mk #[44]))]) fun BK AU=>Aa BK fun Z2 AJ=>Aq Z2 fun DH=>Ad AJ<|Aa AU fun AO Xl=>Aa AO fun DG AP=>Ar DG fun Uu=>Aa AP fun X7 Zy=>Aj .i64 X7 fun Yq=>Ad Zy<|Ad Xl<|Ba (!DH) (some (Ap.mk [.sc (.int .i64 2)] [[.sc (.string Uu),.sc (.int .i64 Yq)]])) (Ah (call 42 [.pbox [.sc (.string Uu),.sc (.int .i64 Yq)]]) fun Yo Y6=>Ad Yo<|Aa Y6 fun DN DA=>Aa DN fun PA PC=>Ar PA fun HR=>Aa PC fun ON WL=>Aj .i64 ON fun JG=>Ad WL<|Ad DA<|C9 fu call Bg Bf a1 (nn) (y0) HR JG)))))):=by kernel_rfl
theorem J4 {p:Option (List PV->Option Ap)} (fu d:Nat)(Bg:ByteArray)(Bf a1:Int):Ae (CP p) prog fu (d+1) J2 [.pbox [.sc (.string Bg),.sc (.int .i64 Bf)],.sc (.int .i64 a1),.sc (Value.map none)]=(fun (call:Am)=>Ah (call 65 [.pbox [.sc (.string Bg),.sc (.int .i64 Bf)],.sc (.string (ByteArray.mk #[123]))]) fun x1 x2=>Aa x1 fun x3 x4=>Aq x3 fun x5=>Ad x4<|Aa x2 fun x6 x7=>Aa x6 fun x8 x9=>Ar x8 fun E4=>Aa x9 fun Is Iu=>Aj .i64 Is fun Ey=>Ad Iu<|Ad x7<|Ba (!x5) (some (Ap.mk [.sc (.int .i64 2)] [[.sc (.string E4),.sc (.int .i64 Ey)]])) (Ah (call 42 [.pbox [.sc (.string E4),.sc (.int .i64 Ey)]]) fun Gt Ja=>Ad Gt<|Aa Ja fun Gs Hk=>Aa Gs fun I6 H9=>Ar I6 fun I9=>Aa H9 fun I5 Jr=>Aj .i64 I5 fun I4=>Ad Jr<|Ad Hk<|Ah (call 65 [.pbox [.sc (.string I9),.sc (.int .i64 I4)],.sc (.string (ByteArray.mk #[125]))]) fun Hw Iz=>Aa Hw fun Kr L1=>Aq Kr fun Ms=>Ad L1<|Aa Iz fun L6 N4=>Aa L6 fun N1 Pf=>Ar N1 fun N6=>Aa Pf fun O4 Pq=>Aj .i64 O4 fun Pm=>Ad Pq<|Ad N4<|Ba Ms (some (Ap.mk [.sc (.int .i64 0)] [[.sc (.string N6),.sc (.int .i64 Pm)]])) (C9 fu call Bg Bf a1 (fu) (a1) N6 Pm))) (Ae (CP p) prog fu d):=by kernel_rfl
abbrev K8:FuncId:=67
theorem B7 {p:Option (List PV->Option Ap)} (fu d:Nat)(Bg:ByteArray)(Bf a1:Int):Ae (CP p) prog fu (d+1) K8 [.pbox [.sc (.string Bg),.sc (.int .i64 Bf)],.sc (.int .i64 a1)]=(fun (call:Am)=>Ah (call 83 [.pbox [.sc (.string Bg),.sc (.int .i64 Bf)]]) fun x1 x2=>Aa x1 fun x3 x4=>Aj .u8 x3 fun x5=>Ad x4<|Aa x2 fun x6 x7=>Aa x6 fun x8 x9=>Ar x8 fun E4=>Aa x9 fun Is Iu=>Aj .i64 Is fun Ey=>Ad Iu<|Ad x7<|Ba (x5==123) (Ba (decide (a1>8)) (some (Ap.mk [.agg [.sc (.int .i64 0),.sc (.string (ByteArray.mk #[])),.sc (.bool false)],.sc (.int .i64 5)] [[.sc (.string E4),.sc (.int .i64 Ey)]])) (Ba (x5==123) (Ac (wrap .i64 (a1+1)) fun Gt=>Ah (call 43 [.pbox [.sc (.string E4),.sc (.int .i64 Ey)],.sc (.int .i64 Gt),.sc (Value.map none)]) fun Ja Gs=>Aa Ja fun Hk I6=>Aj .i64 Hk fun H9=>Ad I6<|Aa Gs fun I9 I5=>Aa I9 fun Jr I4=>Ar Jr fun Hw=>Aa I4 fun Iz Kr=>Aj .i64 Iz fun L1=>Ad Kr<|Ad I5<|some (Ap.mk [.agg [.sc (.int .i64 6),.sc (.string (ByteArray.mk #[])),.sc (.bool false)],.sc (.int .i64 H9)] [[.sc (.string Hw),.sc (.int .i64 L1)]])) (Ba (x5==91) (Ac (wrap .i64 (a1+1)) fun Ms=>Ah (call 84 [.pbox [.sc (.string E4),.sc (.int .i64 Ey)],.sc (.int .i64 Ms)]) fun L6 N4=>Aa L6 fun N1 Pf=>Aj .i64 N1 fun N6=>Ad Pf<|Aa N4 fun O4 Pq=>Aa O4 fun Pm Q2=>Ar Pm fun Qs=>Aa Q2 fun Pi Vw=>Aj .i64 Pi fun Xj=>Ad Vw<|Ad Pq<|some (Ap.mk [.agg [.sc (.int .i64 5),.sc (.string (ByteArray.mk #[])),.sc (.bool false)],.sc (.int .i64 N6)] [[.sc (.string Qs),.sc (.int .i64 Xj)]])) (Ba (x5==34) (Ah (call 66 [.pbox [.sc (.string E4),.sc (.int .i64 Ey)]]) fun Pb Pp=>Aa Pb fun V7 Vn=>Ar V7 fun Xv=>Aa Vn fun Yb X9=>Aq Yb fun Vp=>Ad X9<|Aa Pp fun Wb Xh=>Aa Wb fun Oa R8=>Ar Oa fun Xk=>Aa R8 fun DJ BW=>Aj .i64 DJ fun Z9=>Ad BW<|Ad Xh<|Ba Vp (some (Ap.mk [.agg [.sc (.int .i64 4),.sc (.string Xv),.sc (.bool false)],.sc (.int .i64 0)] [[.sc (.string Xk),.sc (.int .i64 Z9)]])) (some (Ap.mk [.agg [.sc (.int .i64 0),.sc (.string (ByteArray.mk #[])),.sc (.bool false)],.sc (.int .i64 2)] [[.sc (.string Xk),.sc (.int .i64 Z9)]]))) (Ah (call 65 [.pbox [.sc (.string E4),.sc (.int .i64 Ey)],.sc (.string (ByteArray.mk #[116,114,117,101]))]) fun Z5 EJ=>Aa Z5 fun FH EZ=>Aq FH fun MC=>Ad EZ<|Aa EJ fun RX ND=>Aa RX fun JK PQ=>Ar JK fun KP=>Aa PQ fun NQ QW=>Aj .i64 NQ fun QA=>Ad QW<|Ad ND<|Ba MC (some (Ap.mk [.agg [.sc (.int .i64 2),.sc (.string (ByteArray.mk #[])),.sc (.bool true)],.sc (.int .i64 0)] [[.sc (.string KP),.sc (.int .i64 QA)]])) (Ah (call 65 [.pbox [.sc (.string KP),.sc (.int .i64 QA)],.sc (.string (ByteArray.mk #[102,97,108,115,101]))]) fun LQ JF=>Aa LQ fun FM KK=>Aq FM fun LO=>Ad KK<|Aa JF fun SG VF=>Aa SG fun RE WB=>Ar RE fun JU=>Aa WB fun QP RR=>Aj .i64 QP fun WN=>Ad RR<|Ad VF<|Ba LO (some (Ap.mk [.agg [.sc (.int .i64 2),.sc (.string (ByteArray.mk #[])),.sc (.bool false)],.sc (.int .i64 0)] [[.sc (.string JU),.sc (.int .i64 WN)]])) (Ah (call 65 [.pbox [.sc (.string JU),.sc (.int .i64 WN)],.sc (.string (ByteArray.mk #[110,117,108,108]))]) fun OB TI=>Aa OB fun RQ XB=>Aq RQ fun NV=>Ad XB<|Aa TI fun QX WO=>Aa QX fun PY QN=>Ar PY fun VH=>Aa QN fun QZ UX=>Aj .i64 QZ fun YS=>Ad UX<|Ad WO<|Ba NV (some (Ap.mk [.agg [.sc (.int .i64 1),.sc (.string (ByteArray.mk #[])),.sc (.bool false)],.sc (.int .i64 0)] [[.sc (.string VH),.sc (.int .i64 YS)]])) (Ah (call 85 [.pbox [.sc (.string VH),.sc (.int .i64 YS)]]) fun OP RJ=>Aa OP fun WA Qq=>Aq WA fun U9=>Ad Qq<|Aa RJ fun Ri Sg=>Aa Ri fun Tc Ob=>Ar Tc fun Rx=>Aa Ob fun Q9 Uw=>Aj .i64 Q9 fun W0=>Ad Uw<|Ad Sg<|Ba U9 (some (Ap.mk [.agg [.sc (.int .i64 3),.sc (.string (ByteArray.mk #[])),.sc (.bool false)],.sc (.int .i64 0)] [[.sc (.string Rx),.sc (.int .i64 W0)]])) (some (Ap.mk [.agg [.sc (.int .i64 0),.sc (.string (ByteArray.mk #[])),.sc (.bool false)],.sc (.int .i64 2)] [[.sc (.string Rx),.sc (.int .i64 W0)]])))))))))) (Ba (x5==91) (Ba (decide (a1>8)) (some (Ap.mk [.agg [.sc (.int .i64 0),.sc (.string (ByteArray.mk #[])),.sc (.bool false)],.sc (.int .i64 5)] [[.sc (.string E4),.sc (.int .i64 Ey)]])) (Ba (x5==123) (Ac (wrap .i64 (a1+1)) fun Uq=>Ah (call 43 [.pbox [.sc (.string E4),.sc (.int .i64 Ey)],.sc (.int .i64 Uq),.sc (Value.map none)]) fun Wl BI=>Aa Wl fun S6 Uv=>Aj .i64 S6 fun V0=>Ad Uv<|Aa BI fun Wf Va=>Aa Wf fun S3 Ry=>Ar S3 fun R0=>Aa Ry fun Vz Wo=>Aj .i64 Vz fun Sc=>Ad Wo<|Ad Va<|some (Ap.mk [.agg [.sc (.int .i64 6),.sc (.string (ByteArray.mk #[])),.sc (.bool false)],.sc (.int .i64 V0)] [[.sc (.string R0),.sc (.int .i64 Sc)]])) (Ba (x5==91) (Ac (wrap .i64 (a1+1)) fun Wd=>Ah (call 84 [.pbox [.sc (.string E4),.sc (.int .i64 Ey)],.sc (.int .i64 Wd)]) fun Wm U6=>Aa Wm fun Vc Ww=>Aj .i64 Vc fun R5=>Ad Ww<|Aa U6 fun Vi BB=>Aa Vi fun AH BD=>Ar AH fun BK=>Aa BD fun AU Z2=>Aj .i64 AU fun AJ=>Ad Z2<|Ad BB<|some (Ap.mk [.agg [.sc (.int .i64 5),.sc (.string (ByteArray.mk #[])),.sc (.bool false)],.sc (.int .i64 R5)] [[.sc (.string BK),.sc (.int .i64 AJ)]])) (Ba (x5==34) (Ah (call 66 [.pbox [.sc (.string E4),.sc (.int .i64 Ey)]]) fun DH AO=>Aa DH fun Xl DG=>Ar Xl fun AP=>Aa DG fun Uu X7=>Aq Uu fun Zy=>Ad X7<|Aa AO fun Yq Yo=>Aa Yq fun Y6 DN=>Ar Y6 fun DA=>Aa DN fun PA PC=>Aj .i64 PA fun HR=>Ad PC<|Ad Yo<|Ba Zy (some (Ap.mk [.agg [.sc (.int .i64 4),.sc (.string AP),.sc (.bool false)],.sc (.int .i64 0)] [[.sc (.string DA),.sc (.int .i64 HR)]])) (some (Ap.mk [.agg [.sc (.int .i64 0),.sc (.string (ByteArray.mk #[])),.sc (.bool false)],.sc (.int .i64 2)] [[.sc (.string DA),.sc (.int .i64 HR)]]))) (Ah (call 65 [.pbox [.sc (.string E4),.sc (.int .i64 Ey)],.sc (.string (ByteArray.mk #[116,114,117,101]))]) fun ON WL=>Aa ON fun JG Aba=>Aq JG fun Aak=>Ad Aba<|Aa WL fun Agb UA=>Aa Agb fun YI Aaq=>Ar YI fun VL=>Aa Aaq fun UM Abg=>Aj .i64 UM fun UG=>Ad Abg<|Ad UA<|Ba Aak (some (Ap.mk [.agg [.sc (.int .i64 2),.sc (.string (ByteArray.mk #[])),.sc (.bool true)],.sc (.int .i64 0)] [[.sc (.string VL),.sc (.int .i64 UG)]])) (Ah (call 65 [.pbox [.sc (.string VL),.sc (.int .i64 UG)],.sc (.string (ByteArray.mk #[102,97,108,115,101]))]) fun ZI Aa8=>Aa ZI fun ZK SL=>Aq ZK fun Aa1=>Ad SL<|Aa Aa8 fun Aaf XF=>Aa Aaf fun Ae8 Afe=>Ar Ae8 fun KD=>Aa Afe fun NU XZ=>Aj .i64 NU fun WJ=>Ad XZ<|Ad XF<|Ba Aa1 (some (Ap.mk [.agg [.sc (.int .i64 2),.sc (.string (ByteArray.mk #[])),.sc (.bool false)],.sc (.int .i64 0)] [[.sc (.string KD),.sc (.int .i64 WJ)]])) (Ah (call 65 [.pbox [.sc (.string KD),.sc (.int .i64 WJ)],.sc (.string (ByteArray.mk #[110,117,108,108]))]) fun OO ZL=>Aa OO fun Aaz XU=>Aq Aaz fun ZQ=>Ad XU<|Aa ZL fun XT YT=>Aa XT fun YP ZU=>Ar YP fun ZZ=>Aa ZU fun Afl ZH=>Aj .i64 Afl fun WH=>Ad ZH<|Ad YT<|Ba ZQ (some (Ap.mk [.agg [.sc (.int .i64 1),.sc (.string (ByteArray.mk #[])),.sc (.bool false)],.sc (.int .i64 0)] [[.sc (.string ZZ),.sc (.int .i64 WH)]])) (Ah (call 85 [.pbox [.sc (.string ZZ),.sc (.int .i64 WH)]]) fun Aa3 ZM=>Aa Aa3 fun ZV Aa0=>Aq ZV fun Aa4=>Ad Aa0<|Aa ZM fun Aad TX=>Aa Aad fun UI VI=>Ar UI fun WK=>Aa VI fun ZD Afj=>Aj .i64 ZD fun NX=>Ad Afj<|Ad TX<|Ba Aa4 (some (Ap.mk [.agg [.sc (.int .i64 3),.sc (.string (ByteArray.mk #[])),.sc (.bool false)],.sc (.int .i64 0)] [[.sc (.string WK),.sc (.int .i64 NX)]])) (some (Ap.mk [.agg [.sc (.int .i64 0),.sc (.string (ByteArray.mk #[])),.sc (.bool false)],.sc (.int .i64 2)] [[.sc (.string WK),.sc (.int .i64 NX)]])))))))))) (Ba (x5==123) (Ac (wrap .i64 (a1+1)) fun Aax=>Ah (call 43 [.pbox [.sc (.string E4),.sc (.int .i64 Ey)],.sc (.int .i64 Aax),.sc (Value.map none)]) fun ZX UK=>Aa ZX fun Aa7 SY=>Aj .i64 Aa7 fun UF=>Ad SY<|Aa UK fun Aei XL=>Aa Aei fun ZA Aaj=>Ar ZA fun SK=>Aa Aaj fun YD RH=>Aj .i64 YD fun YB=>Ad RH<|Ad XL<|some (Ap.mk [.agg [.sc (.int .i64 6),.sc (.string (ByteArray.mk #[])),.sc (.bool false)],.sc (.int .i64 UF)] [[.sc (.string SK),.sc (.int .i64 YB)]])) (Ba (x5==91) (Ac (wrap .i64 (a1+1)) fun Aas=>Ah (call 84 [.pbox [.sc (.string E4),.sc (.int .i64 Ey)],.sc (.int .i64 Aas)]) fun XK ZF=>Aa XK fun Aif Ajq=>Aj .i64 Aif fun Aj2=>Ad Ajq<|Aa ZF fun Anj Ad6=>Aa Anj fun Ait Alk=>Ar Ait fun Akn=>Aa Alk fun Ail Aeh=>Aj .i64 Ail fun Aiw=>Ad Aeh<|Ad Ad6<|some (Ap.mk [.agg [.sc (.int .i64 5),.sc (.string (ByteArray.mk #[])),.sc (.bool false)],.sc (.int .i64 Aj2)] [[.sc (.string Akn),.sc (.int .i64 Aiw)]])) (Ba (x5==34) (Ah (call 66 [.pbox [.sc (.string E4),.sc (.int .i64 Ey)]]) fun Alw Ag7=>Aa Alw fun Ald Ani=>Ar Ald fun Aj1=>Aa Ani fun Amg Ahk=>Aq Amg fun Ajv=>Ad Ahk<|Aa Ag7 fun Amh Aa5=>Aa Amh fun Ahl Akt=>Ar Ahl fun Afc=>Aa Akt fun Amf Ad0=>Aj .i64 Amf fun Aet=>Ad Ad0<|Ad Aa5<|Ba Ajv (some (Ap.mk [.agg [.sc (.int .i64 4),.sc (.string Aj1),.sc (.bool false)],.sc (.int .i64 0)] [[.sc (.string Afc),.sc (.int .i64 Aet)]])) (some (Ap.mk [.agg [.sc (.int .i64 0),.sc (.string (ByteArray.mk #[])),.sc (.bool false)],.sc (.int .i64 2)] [[.sc (.string Afc),.sc (.int .i64 Aet)]]))) (Ah (call 65 [.pbox [.sc (.string E4),.sc (.int .i64 Ey)],.sc (.string (ByteArray.mk #[116,114,117,101]))]) fun Ako Ale=>Aa Ako fun Amj Aqo=>Aq Amj fun Ag5=>Ad Aqo<|Aa Ale fun Akp Amd=>Aa Akp fun Aia Aiq=>Ar Aia fun Aan=>Aa Aiq fun Ahe Akx=>Aj .i64 Ahe fun Afs=>Ad Akx<|Ad Amd<|Ba Ag5 (some (Ap.mk [.agg [.sc (.int .i64 2),.sc (.string (ByteArray.mk #[])),.sc (.bool true)],.sc (.int .i64 0)] [[.sc (.string Aan),.sc (.int .i64 Afs)]])) (Ah (call 65 [.pbox [.sc (.string Aan),.sc (.int .i64 Afs)],.sc (.string (ByteArray.mk #[102,97,108,115,101]))]) fun Al4 Aiv=>Aa Al4 fun Aku Ag9=>Aq Aku fun Aln=>Ad Ag9<|Aa Aiv fun Akr Ady=>Aa Akr fun Aec Ai6=>Ar Aec fun Afn=>Aa Ai6 fun Afp Aq2=>Aj .i64 Afp fun Aen=>Ad Aq2<|Ad Ady<|Ba Aln (some (Ap.mk [.agg [.sc (.int .i64 2),.sc (.string (ByteArray.mk #[])),.sc (.bool false)],.sc (.int .i64 0)] [[.sc (.string Afn),.sc (.int .i64 Aen)]])) (Ah (call 65 [.pbox [.sc (.string Afn),.sc (.int .i64 Aen)],.sc (.string (ByteArray.mk #[110,117,108,108]))]) fun Ala Amr=>Aa Ala fun Al5 Ajb=>Aq Al5 fun YL=>Ad Ajb<|Aa Amr fun Aj0 Ak2=>Aa Aj0 fun Aff Alr=>Ar Aff fun Aag=>Aa Alr fun Ae6 Alm=>Aj .i64 Ae6 fun Adn=>Ad Alm<|Ad Ak2<|Ba YL (some (Ap.mk [.agg [.sc (.int .i64 1),.sc (.string (ByteArray.mk #[])),.sc (.bool false)],.sc (.int .i64 0)] [[.sc (.string Aag),.sc (.int .i64 Adn)]])) (Ah (call 85 [.pbox [.sc (.string Aag),.sc (.int .i64 Adn)]]) fun Alf Aq0=>Aa Alf fun An5 Ajr=>Aq An5 fun Alo=>Ad Ajr<|Aa Aq0 fun Ahi Ajy=>Aa Ahi fun Afa Aj6=>Ar Afa fun Agd=>Aa Aj6 fun Aly Ai7=>Aj .i64 Aly fun XG=>Ad Ai7<|Ad Ajy<|Ba Alo (some (Ap.mk [.agg [.sc (.int .i64 3),.sc (.string (ByteArray.mk #[])),.sc (.bool false)],.sc (.int .i64 0)] [[.sc (.string Agd),.sc (.int .i64 XG)]])) (some (Ap.mk [.agg [.sc (.int .i64 0),.sc (.string (ByteArray.mk #[])),.sc (.bool false)],.sc (.int .i64 2)] [[.sc (.string Agd),.sc (.int .i64 XG)]]))))))))))) (Ae (CP p) prog fu d):=by kernel_rfl
end
section
open Go.Proofs.Tryz (prog)
open Go.IntKind (wrap)
theorem Awy:∀n:Fin 256,decide (Lib.indexByte [32,9,10,13] (n.val:Int).toNat.toUInt8>=0)=Po (n.val:Int):=by decide +kernel
theorem A2n {c:Int}(h0:0<=c)(h1:c<=255):decide (Lib.indexByte [32,9,10,13] c.toNat.toUInt8>=0)=Po c:=by
 obtain⟨n,rfl⟩:=Int.eq_ofNat_of_zero_le h0;exact Awy ⟨n,by omega⟩
theorem Bu {t:ByteArray}:∀{l:List Int},Dm t l->Dm t (A3 l)
 |[],h=>h
 |c::l,h=>by
  unfold A3;split
  ·exact Bu h.tail
  ·exact h
theorem P3:∀(l:List Int),(A3 l).length<=l.length
 |[]=>Nat.le_refl _
 |c::l=>by
  unfold A3;split
  ·exact Nat.le_succ_of_le (P3 l)
  ·exact Nat.le_refl _
section
variable {fu d:Nat}
theorem A1x (s:ByteArray)(c:Int):Ae C0 prog fu (d+2) L3 [.sc (.string s),.sc (.int .u8 c)]=some ⟨[.sc (.int .i64 (Lib.indexByte s.data.toList c.toNat.toUInt8))],[]⟩:=by
 have e:Ae C0 prog fu (d+1) 79 [.sc (.string s),.sc (.int .u8 c)]=some ⟨[.sc (.int .i64 (Lib.indexByte s.data.toList c.toNat.toUInt8))],[]⟩:=rfl;rw[L7];simp only[B4,e]
theorem LS {t s0:ByteArray}{p0:Int}(ht:t.size<=1000000):∀(r:List Int)(nn:Nat),r.length+1<=nn->Dm t r ->
  Di fu (Ae C0 prog fu (d+2)) s0 p0 nn t (Bz t r:Int)=some ⟨[],[B1 t (A3 r)]⟩
 |[],nn,N7,h=>by
  obtain⟨k,rfl⟩:∃k,nn=k+1:=⟨nn-1,by omega⟩
  have e:decide ((Bz t []:Int)<(t.size:Int))=false:=by simp[Xz]
  rw[Fi];simp only[B4,e];rfl
 |c::r,nn,N7,h=>by
  obtain⟨k,rfl⟩:∃k,nn=k+1:=⟨nn-1,by omega⟩
  have ih:=LS (s0:=s0) (p0:=p0) ht r k (by simp at N7;omega) h.tail
  have hc:=h.B c (by simp)
  have hl:=h.len;have hp:=Mr h
  have e6:wrap .i64 ((Bz t (c::r):Int)+1)=(Bz t r:Int):=by
   rw[hp,Au (by unfold Bz;omega) (by unfold Bz;omega)];omega
  have Qu:Bz t (c::r)<t.size:=by
   unfold Bz;rw[Uk] at hl ⊢;omega
  obtain⟨b,hb,rfl⟩:=h.at;have e:decide ((Bz t ((b.toNat:Int)::r):Int)<(t.size:Int))=true:=by simp;omega
  have e2:decide ((0:Int)<=(Bz t ((b.toNat:Int)::r):Int))=true:=by simp
  rw[←Kj (Bz t ((b.toNat:Int)::r))] at hb;have ix:Ae C0 prog fu (d+2) 64 [.sc (.string (ByteArray.mk #[(32:UInt8),(9:UInt8),(10:UInt8),(13:UInt8)])),.sc (.int .u8 (b.toNat:Int))]=some ⟨[.sc (.int .i64 (Lib.indexByte [32,9,10,13] (b.toNat:Int).toNat.toUInt8))],[]⟩:=A1x _ _;have hw:=A2n hc.1 hc.2;rw[Fi];cases hq:Po (b.toNat:Int)
  ·rw[hq] at hw
   have es:A3 ((b.toNat:Int)::r)=(b.toNat:Int)::r:=by
    show (if Po _=true then _ else _)=_
    rw[hq];rfl
   rw[es];simp only[B4,e,e2,hb,ix,hw]
  ·rw[hq] at hw
   have es:A3 ((b.toNat:Int)::r)=A3 r:=by
    show (if Po _=true then _ else _)=_
    rw[hq];rfl
   rw[es];simp only[B4,e,e2,hb,ix,hw,e6,ih]
theorem Rg {t:ByteArray}{r:List Int}(h:Dm t r)(ht:t.size<=1000000)(Eu:t.size+1<=fu):Ae C0 prog fu (d+3) Ge [.pbox (B1 t r)]=some ⟨[],[B1 t (A3 r)]⟩:=by
 rw[K7];exact LS ht r fu (by have:=h.len;omega) h
theorem ML {t:ByteArray}:∀{l:List Int},Dm t l->Dm t (K6 l)
 |[],h=>h
 |c::l,h=>by
  unfold K6;split
  ·exact ML h.tail
  ·exact h
theorem LN:∀(l:List Int),(K6 l).length<=l.length
 |[]=>Nat.le_refl _
 |c::l=>by
  unfold K6;split
  ·exact Nat.le_succ_of_le (LN l)
  ·exact Nat.le_refl _
theorem BU {t s0:ByteArray}{p0 y0:Int}(ht:t.size<=1000000):∀(r:List Int)(nn:Nat),r.length+1<=nn->Dm t r ->
  C8 fu (Ae C0 prog fu (d+1)) s0 p0 nn y0 t (Bz t r:Int)=some ⟨[.sc (.bool (decide ((Bz t (K6 r):Int)>y0)))],[B1 t (K6 r)]⟩
 |[],nn,N7,h=>by
  obtain⟨k,rfl⟩:∃k,nn=k+1:=⟨nn-1,by omega⟩
  have pk:Ae C0 prog fu (d+1) 83 [.pbox (B1 t [])]=some ⟨[.sc (.int .u8 0)],[B1 t []]⟩:=Nj (xs:=xs0) h;have e:decide ((0:Int)>=48)=false:=rfl;rw[Fd];simp only[B4,pk,e];rfl
 |c::r,nn,N7,h=>by
  obtain⟨k,rfl⟩:∃k,nn=k+1:=⟨nn-1,by omega⟩
  have ih:=BU (s0:=s0) (p0:=p0) (y0:=y0) ht r k (by simp at N7;omega) h.tail
  have hc:=h.B c (by simp)
  have hl:=h.len;have hp:=Mr h
  have e6:wrap .i64 ((Bz t (c::r):Int)+1)=(Bz t r:Int):=by
   rw[hp,Au (by unfold Bz;omega) (by unfold Bz;omega)];omega
  have pk:Ae C0 prog fu (d+1) 83 [.pbox (B1 t (c::r))]=some ⟨[.sc (.int .u8 c)],[B1 t (c::r)]⟩:=Nj (xs:=xs0) h;have ed:K6 (c::r)=if dgS c=true then K6 r else c::r:=rfl
  rw[Fd,ed];by_cases h1:48<=c
  ·have e1:decide (c>=48)=true:=by simp;omega
   by_cases h2:c<=57
   ·have e2:decide (c<=57)=true:=by simp;omega
    have e3:dgS c=true:=by simp[dgS];omega
    rw[Dy e3];simp only[B4,pk,e1,e2,e6,ih]
   ·have e2:decide (c<=57)=false:=by simp;omega
    have e3:¬dgS c=true:=by simp[dgS];omega
    rw[Ct e3];simp only[B4,pk,e1,e2]
  ·have e1:decide (c>=48)=false:=by simp;omega
   have e3:¬dgS c=true:=by simp[dgS];omega
   rw[Ct e3];simp only[B4,pk,e1]
def A19 (t:ByteArray)(r:List Int)(o:Option (List Int)):Ap:=⟨[.sc (.bool o.isSome)],[B1 t (o.getD r)]⟩
theorem D3 {t:ByteArray}{r:List Int}(h:Dm t r)(ht:t.size<=1000000)(Eu:t.size+1<=fu):Ae C0 prog fu (d+2) Fz [.pbox (B1 t r)]=some (A19 t r (Cm r)):=by
 rw[J3];refine (BU ht r fu (by have:=h.len;omega) h).trans ?_
 cases r with
 |nil=>
  have e:decide ((Bz t (K6 []):Int)>(Bz t []:Int))=false:=by simp[K6]
  rw[e];rfl
 |cons c r=>
  have hl:=h.len;have hp:=Mr h;have ed:K6 (c::r)=if dgS c=true then K6 r else c::r:=rfl
  have eg:Cm (c::r)=if dgS c=true then some (K6 r) else none:=rfl
  rw[ed,eg];have hd:=LN r;by_cases q:dgS c=true
  ·rw[Dy q,Dy q]
   have e:decide ((Bz t (K6 r):Int)>(Bz t (c::r):Int))=true:=by
    rw[Uk] at hl;simp only[gt_iff_lt,decide_eq_true_eq];unfold Bz;rw[Uk];omega
   rw[e];rfl
  ·rw[Ct q,Ct q];have e:decide ((Bz t (c::r):Int)>(Bz t (c::r):Int))=false:=by simp
   rw[e];rfl
theorem Aay {t:ByteArray}{r:List Int}(c:UInt8)(h:Dm t r)(ht:t.size<=1000000):Ae C0 prog fu (d+3) 65 [.pbox (B1 t r),.sc (.string (ByteArray.mk #[c]))]=some (A19 t r (Ao [(c.toNat:Int)] r)):=by
 have hc:=c.toNat_lt;have e:=Sh (fu:=fu) (d:=d) (xs:=xs0) h ht (w:=[(c.toNat:Int)]) (fun x hx=>by simp at hx;omega) (show 1<=100 by decide)
 have e2:Ab [(c.toNat:Int)]=ByteArray.mk #[c]:=by
  show ByteArray.mk #[((c.toNat:Int)).toNat.toUInt8]=_;rw[Kj];simp
 rw[e2] at e;refine e.trans ?_;cases Ao [(c.toNat:Int)] r<;>rfl
theorem Df (c:Int):∀r:List Int,Ao [c] r=match r with|[]=>none|x::r'=>if x=c then some r' else none
 |[]=>rfl
 |x::r=>by
  unfold Ao;by_cases h:x=c
  ·subst h;rw[Dy (by simp[List.isPrefixOf])]
   simp
  ·rw[Ct (by simp[List.isPrefixOf];exact fun e=>h e.symm)]
   simp[h]
theorem Av {t:ByteArray}{w r r':List Int}(h:Dm t r)(e:Ao w r=some r'):Dm t r':=by
 unfold Ao at e;split at e
 ·cases e;exact h.drop _
 ·cases e
theorem BJ (c:Int)(r:List Int):Ahj c r=(Ao [c] r).getD r:=by
 rw[Df];cases r with
 |nil=>rfl
 |cons x r=>
  show (if x=c then r else x::r)=_
  split<;>simp_all
theorem KW (r:List Int):Ane r=match Ao [48] r with|some q=>some q|none=>Cm r:=by
 rw[Df];cases r with
 |nil=>rfl
 |cons x r=>
  show (if x=48 then some r else Cm (x::r))=_
  by_cases h:x=48
  ·rw[Dy h];simp[h]
  ·rw[Ct h];simp[h]
theorem Wk (r:List Int):FO r=match Ao [46] r with|some q=>(Cm q).bind Wj|none=>Wj r:=by
 rw[Df];cases r with
 |nil=>rfl
 |cons x r=>
  show (if x=46 then (Cm r).bind Wj else Wj (x::r))=_
  by_cases h:x=46
  ·rw[Dy h];simp[h]
  ·rw[Ct h];simp[h]
def Ns (r:List Int):Option (List Int):=match Ao [43] r with|some q=>Cm q|none=>Cm ((Ao [45] r).getD r)
theorem Aqv (r:List Int):(match r with|43::r'=>Cm r'|r=>Cm (Ahj 45 r))=Ns r:=by
 unfold Ns;rw[Df 43,←BJ];split
 ·simp
 ·rename_i E2;cases r with
  |nil=>rfl
  |cons x r=>
   by_cases h:x=43
   ·exact absurd (by rw[h]) (E2 r)
   ·simp[h]
theorem Qk (r:List Int):Wj r=match Ao [101] r with|some q=>Ns q|none=>match Ao [69] r with|some q=>Ns q|none=>some r:=by
 rw[Df,Df];cases r with
 |nil=>rfl
 |cons x r=>
  have e:Wj (x::r)=if x=101∨x=69 then Ns r else some (x::r):=by
   rw[←Aqv];rfl
  rw[e];by_cases h:x=101
  ·rw[Dy (Or.inl h)];simp[h]
  ·by_cases h2:x=69
   ·rw[Dy (Or.inr h2)];simp[h2]
   ·rw[Ct (by omega)];simp[h,h2]
theorem Da {t:ByteArray}{r r':List Int}(h:Dm t r)(e:Cm r=some r'):Dm t r':=by
 cases r with
 |nil=>cases e
 |cons c r=>
  have eg:Cm (c::r)=if dgS c=true then some (K6 r) else none:=rfl
  rw[eg] at e;split at e
  ·cases e;exact ML h.tail
  ·cases e
theorem Cp {t:ByteArray}{r:List Int}{o:Option (List Int)} (h:Dm t r)(ho:∀q,o=some q->Dm t q):Dm t (o.getD r):=by
 cases o with
 |none=>exact h
 |some q=>exact ho q rfl
end
end
section
open Go.Proofs.Tryz (prog)
open Go.IntKind (wrap)
section
variable {fu d:Nat}
theorem Eo {t:ByteArray}{r:List Int}(c:UInt8)(n:Int)(hn:(c.toNat:Int)=n) (h:Dm t r)(ht:t.size<=1000000)(hq:Ao [n] r=none):Ae C0 prog fu (d+3) 65 [.pbox (B1 t r),.sc (.string (ByteArray.mk #[c]))]=some ⟨[.sc (.bool false)],[B1 t r]⟩:=by
 subst hn;have e:=Aay (fu:=fu) (d:=d) c h ht;rw[hq] at e;exact e
theorem C7 {t:ByteArray}{r q:List Int}(c:UInt8)(n:Int)(hn:(c.toNat:Int)=n) (h:Dm t r)(ht:t.size<=1000000)(hq:Ao [n] r=some q):Ae C0 prog fu (d+3) 65 [.pbox (B1 t r),.sc (.string (ByteArray.mk #[c]))]=some ⟨[.sc (.bool true)],[B1 t q]⟩:=by
 subst hn;have e:=Aay (fu:=fu) (d:=d) c h ht;rw[hq] at e;exact e
theorem Mm {t:ByteArray}{r:List Int}(c:UInt8)(n:Int)(hn:(c.toNat:Int)=n) (h:Dm t r)(ht:t.size<=1000000):Ae C0 prog fu (d+3) 65 [.pbox (B1 t r),.sc (.string (ByteArray.mk #[c]))]=some ⟨[.sc (.bool (Ao [n] r).isSome)],[B1 t ((Ao [n] r).getD r)]⟩:=by
 subst hn;exact Aay (fu:=fu) (d:=d) c h ht
set_option maxHeartbeats 2000000 in
theorem Ajn {t:ByteArray}{r:List Int}(h:Dm t r)(ht:t.size<=1000000)(Eu:t.size+1<=fu):∃r',Dm t r'∧Ae C0 prog fu (d+4) F4 [.pbox (B1 t r)]=some ⟨[.sc (.bool (F9 r).isSome)],[B1 t r']⟩∧∀q,F9 r=some q->r'=q:=by
 have a0:=Mm (fu:=fu) (d:=d) 45 45 rfl h ht;have hS1:Dm t ((Ao [45] r).getD r):=Cp h fun q e=>Av h e
 have Zo:F9 r=(Ane ((Ao [45] r).getD r)).bind FO:=by rw[←BJ];rfl
 generalize (Ao [45] r).getD r=r1 at a0 hS1 Zo;generalize (Ao [45] r).isSome=b0 at a0;rw[KW] at Zo;rcases hz:Ao [48] r1 with _|r2
 ·have Gx:=Eo (fu:=fu) (d:=d) 48 48 rfl hS1 ht hz;rw[hz] at Zo;have XA:=D3 (d:=d+1) hS1 ht Eu;rcases hzd:Cm r1 with _|r2
  ·simp only[hzd] at XA Zo;have Nn:Ae C0 prog fu (d+3) 103 [.pbox (B1 t r1)]=some ⟨[.sc (.bool false)],[B1 t r1]⟩:=XA;have hn:F9 r=none:=Zo;refine⟨r1,hS1,?_,?_⟩
   ·rw[hn,Ai]
    try unfold Ac
    repeat first
     |((with_reducible first|apply A5|apply Ax|apply A6|apply Az|apply A9|apply Aw|apply A4|apply A7);· first|with_reducible rfl|(simp (disch:=omega) only[gT,a0,Gx,Nn,Dk,D6]<;>first|with_reducible rfl|omega)|omega)
     |(with_reducible apply A8;· first|with_reducible rfl|(simp (disch:=omega) only[gF,a0,Gx,Nn,Dk,D6]<;>omega))
    try simp (disch:=omega) only[a0,Gx,Nn,Dk,D6]
    try rfl
   ·rw[hn];intro q e;cases e
  ·simp only[hzd] at XA Zo;have Nn:Ae C0 prog fu (d+3) 103 [.pbox (B1 t r1)]=some ⟨[.sc (.bool true)],[B1 t r2]⟩:=XA;have We:=Da hS1 hzd;have JO:F9 r=FO r2:=Zo;rw[Wk] at JO;rcases hdt:Ao [46] r2 with _|r3
   ·have Ha:=Eo (fu:=fu) (d:=d) 46 46 rfl We ht hdt;rw[hdt] at JO;have Nz:F9 r=Wj r2:=JO;rw[Qk] at Nz;rcases he:Ao [101] r2 with _|r5
    ·have H2:=Eo (fu:=fu) (d:=d) 101 101 rfl We ht he;rw[he] at Nz;rcases hE:Ao [69] r2 with _|r5
     ·have O9:=Eo (fu:=fu) (d:=d) 69 69 rfl We ht hE;have hn:F9 r=some r2:=by rw[Nz,hE]
      refine⟨r2,We,?_,?_⟩
      ·rw[hn,Ai]
       try unfold Ac
       repeat first
        |((with_reducible first|apply A5|apply Ax|apply A6|apply Az|apply A9|apply Aw|apply A4|apply A7);· first|with_reducible rfl|(simp (disch:=omega) only[gT,a0,Gx,Nn,Ha,H2,O9,Dk,D6]<;>first|with_reducible rfl|omega)|omega)
        |(with_reducible apply A8;· first|with_reducible rfl|(simp (disch:=omega) only[gF,a0,Gx,Nn,Ha,H2,O9,Dk,D6]<;>omega))
       try simp (disch:=omega) only[a0,Gx,Nn,Ha,H2,O9,Dk,D6]
       try rfl
      ·rw[hn];intro q e;cases e;rfl
     ·have O9:=C7 (fu:=fu) (d:=d) 69 69 rfl We ht hE;have Jt:=Av We hE;rw[hE] at Nz;simp only at Nz;rcases hp:Ao [43] r5 with _|r6
      ·have H4:=Eo (fu:=fu) (d:=d) 43 43 rfl Jt ht hp;have Cj:=Mm (fu:=fu) (d:=d) 45 45 rfl Jt ht;have Gp:Dm t ((Ao [45] r5).getD r5):=Cp Jt fun q e=>Av Jt e
       have hn:F9 r=Cm ((Ao [45] r5).getD r5):=by rw[Nz];unfold Ns;rw[hp]
       generalize (Ao [45] r5).getD r5=r6 at Cj Gp hn;generalize (Ao [45] r5).isSome=b1 at Cj;have hg:Ae C0 prog fu (d+3) 103 [.pbox (B1 t r6)]=some ⟨[.sc (.bool (Cm r6).isSome)],[B1 t ((Cm r6).getD r6)]⟩:=D3 (d:=d+1) Gp ht Eu;refine⟨(Cm r6).getD r6,Cp Gp fun q e=>Da Gp e,?_,?_⟩
       ·rw[hn,Ai]
        try unfold Ac
        repeat first
         |((with_reducible first|apply A5|apply Ax|apply A6|apply Az|apply A9|apply Aw|apply A4|apply A7);· first|with_reducible rfl|(simp (disch:=omega) only[gT,a0,Gx,Nn,Ha,H2,O9,H4,Cj,hg,Dk,D6]<;>first|with_reducible rfl|omega)|omega)
         |(with_reducible apply A8;· first|with_reducible rfl|(simp (disch:=omega) only[gF,a0,Gx,Nn,Ha,H2,O9,H4,Cj,hg,Dk,D6]<;>omega))
        try simp (disch:=omega) only[a0,Gx,Nn,Ha,H2,O9,H4,Cj,hg,Dk,D6]
        try rfl
       ·rw[hn];intro q e;rw[e];rfl
      ·have H4:=C7 (fu:=fu) (d:=d) 43 43 rfl Jt ht hp;have Gp:=Av Jt hp;have hn:F9 r=Cm r6:=by rw[Nz];unfold Ns;rw[hp]
       have hg:Ae C0 prog fu (d+3) 103 [.pbox (B1 t r6)]=some ⟨[.sc (.bool (Cm r6).isSome)],[B1 t ((Cm r6).getD r6)]⟩:=D3 (d:=d+1) Gp ht Eu;refine⟨(Cm r6).getD r6,Cp Gp fun q e=>Da Gp e,?_,?_⟩
       ·rw[hn,Ai]
        try unfold Ac
        repeat first
         |((with_reducible first|apply A5|apply Ax|apply A6|apply Az|apply A9|apply Aw|apply A4|apply A7);· first|with_reducible rfl|(simp (disch:=omega) only[gT,a0,Gx,Nn,Ha,H2,O9,H4,hg,Dk,D6]<;>first|with_reducible rfl|omega)|omega)
         |(with_reducible apply A8;· first|with_reducible rfl|(simp (disch:=omega) only[gF,a0,Gx,Nn,Ha,H2,O9,H4,hg,Dk,D6]<;>omega))
        try simp (disch:=omega) only[a0,Gx,Nn,Ha,H2,O9,H4,hg,Dk,D6]
        try rfl
       ·rw[hn];intro q e;rw[e];rfl
    ·have H2:=C7 (fu:=fu) (d:=d) 101 101 rfl We ht he;have Jt:=Av We he;rw[he] at Nz;simp only at Nz;rcases hp:Ao [43] r5 with _|r6
     ·have H4:=Eo (fu:=fu) (d:=d) 43 43 rfl Jt ht hp;have Cj:=Mm (fu:=fu) (d:=d) 45 45 rfl Jt ht;have Gp:Dm t ((Ao [45] r5).getD r5):=Cp Jt fun q e=>Av Jt e
      have hn:F9 r=Cm ((Ao [45] r5).getD r5):=by rw[Nz];unfold Ns;rw[hp]
      generalize (Ao [45] r5).getD r5=r6 at Cj Gp hn;generalize (Ao [45] r5).isSome=b1 at Cj;have hg:Ae C0 prog fu (d+3) 103 [.pbox (B1 t r6)]=some ⟨[.sc (.bool (Cm r6).isSome)],[B1 t ((Cm r6).getD r6)]⟩:=D3 (d:=d+1) Gp ht Eu;refine⟨(Cm r6).getD r6,Cp Gp fun q e=>Da Gp e,?_,?_⟩
      ·rw[hn,Ai]
       try unfold Ac
       repeat first
        |((with_reducible first|apply A5|apply Ax|apply A6|apply Az|apply A9|apply Aw|apply A4|apply A7);· first|with_reducible rfl|(simp (disch:=omega) only[gT,a0,Gx,Nn,Ha,H2,H4,Cj,hg,Dk,D6]<;>first|with_reducible rfl|omega)|omega)
        |(with_reducible apply A8;· first|with_reducible rfl|(simp (disch:=omega) only[gF,a0,Gx,Nn,Ha,H2,H4,Cj,hg,Dk,D6]<;>omega))
       try simp (disch:=omega) only[a0,Gx,Nn,Ha,H2,H4,Cj,hg,Dk,D6]
       try rfl
      ·rw[hn];intro q e;rw[e];rfl
     ·have H4:=C7 (fu:=fu) (d:=d) 43 43 rfl Jt ht hp;have Gp:=Av Jt hp;have hn:F9 r=Cm r6:=by rw[Nz];unfold Ns;rw[hp]
      have hg:Ae C0 prog fu (d+3) 103 [.pbox (B1 t r6)]=some ⟨[.sc (.bool (Cm r6).isSome)],[B1 t ((Cm r6).getD r6)]⟩:=D3 (d:=d+1) Gp ht Eu;refine⟨(Cm r6).getD r6,Cp Gp fun q e=>Da Gp e,?_,?_⟩
      ·rw[hn,Ai]
       try unfold Ac
       repeat first
        |((with_reducible first|apply A5|apply Ax|apply A6|apply Az|apply A9|apply Aw|apply A4|apply A7);· first|with_reducible rfl|(simp (disch:=omega) only[gT,a0,Gx,Nn,Ha,H2,H4,hg,Dk,D6]<;>first|with_reducible rfl|omega)|omega)
        |(with_reducible apply A8;· first|with_reducible rfl|(simp (disch:=omega) only[gF,a0,Gx,Nn,Ha,H2,H4,hg,Dk,D6]<;>omega))
       try simp (disch:=omega) only[a0,Gx,Nn,Ha,H2,H4,hg,Dk,D6]
       try rfl
      ·rw[hn];intro q e;rw[e];rfl
   ·have Ha:=C7 (fu:=fu) (d:=d) 46 46 rfl We ht hdt;have hS3:=Av We hdt;rw[hdt] at JO;have JO:F9 r=(Cm r3).bind Wj:=JO;have hd1:=D3 (d:=d+1) hS3 ht Eu;rcases KO:Cm r3 with _|r4
    ·rw[KO] at hd1 JO;have Il:Ae C0 prog fu (d+3) 103 [.pbox (B1 t r3)]=some ⟨[.sc (.bool false)],[B1 t r3]⟩:=hd1;have hn:F9 r=none:=JO;refine⟨r3,hS3,?_,?_⟩
     ·rw[hn,Ai]
      try unfold Ac
      repeat first
       |((with_reducible first|apply A5|apply Ax|apply A6|apply Az|apply A9|apply Aw|apply A4|apply A7);· first|with_reducible rfl|(simp (disch:=omega) only[gT,a0,Gx,Nn,Ha,Il,Dk,D6]<;>first|with_reducible rfl|omega)|omega)
       |(with_reducible apply A8;· first|with_reducible rfl|(simp (disch:=omega) only[gF,a0,Gx,Nn,Ha,Il,Dk,D6]<;>omega))
      try simp (disch:=omega) only[a0,Gx,Nn,Ha,Il,Dk,D6]
      try rfl
     ·rw[hn];intro q e;cases e
    ·rw[KO] at hd1 JO;have Il:Ae C0 prog fu (d+3) 103 [.pbox (B1 t r3)]=some ⟨[.sc (.bool true)],[B1 t r4]⟩:=hd1;have DY:=Da hS3 KO;have Nz:F9 r=Wj r4:=JO;rw[Qk] at Nz;rcases he:Ao [101] r4 with _|r5
     ·have H2:=Eo (fu:=fu) (d:=d) 101 101 rfl DY ht he;rw[he] at Nz;rcases hE:Ao [69] r4 with _|r5
      ·have O9:=Eo (fu:=fu) (d:=d) 69 69 rfl DY ht hE;have hn:F9 r=some r4:=by rw[Nz,hE]
       refine⟨r4,DY,?_,?_⟩
       ·rw[hn,Ai]
        try unfold Ac
        repeat first
         |((with_reducible first|apply A5|apply Ax|apply A6|apply Az|apply A9|apply Aw|apply A4|apply A7);· first|with_reducible rfl|(simp (disch:=omega) only[gT,a0,Gx,Nn,Ha,Il,H2,O9,Dk,D6]<;>first|with_reducible rfl|omega)|omega)
         |(with_reducible apply A8;· first|with_reducible rfl|(simp (disch:=omega) only[gF,a0,Gx,Nn,Ha,Il,H2,O9,Dk,D6]<;>omega))
        try simp (disch:=omega) only[a0,Gx,Nn,Ha,Il,H2,O9,Dk,D6]
        try rfl
       ·rw[hn];intro q e;cases e;rfl
      ·have O9:=C7 (fu:=fu) (d:=d) 69 69 rfl DY ht hE;have Jt:=Av DY hE;rw[hE] at Nz;simp only at Nz;rcases hp:Ao [43] r5 with _|r6
       ·have H4:=Eo (fu:=fu) (d:=d) 43 43 rfl Jt ht hp;have Cj:=Mm (fu:=fu) (d:=d) 45 45 rfl Jt ht;have Gp:Dm t ((Ao [45] r5).getD r5):=Cp Jt fun q e=>Av Jt e
        have hn:F9 r=Cm ((Ao [45] r5).getD r5):=by rw[Nz];unfold Ns;rw[hp]
        generalize (Ao [45] r5).getD r5=r6 at Cj Gp hn;generalize (Ao [45] r5).isSome=b1 at Cj;have hg:Ae C0 prog fu (d+3) 103 [.pbox (B1 t r6)]=some ⟨[.sc (.bool (Cm r6).isSome)],[B1 t ((Cm r6).getD r6)]⟩:=D3 (d:=d+1) Gp ht Eu;refine⟨(Cm r6).getD r6,Cp Gp fun q e=>Da Gp e,?_,?_⟩
        ·rw[hn,Ai]
         try unfold Ac
         repeat first
          |((with_reducible first|apply A5|apply Ax|apply A6|apply Az|apply A9|apply Aw|apply A4|apply A7);· first|with_reducible rfl|(simp (disch:=omega) only[gT,a0,Gx,Nn,Ha,Il,H2,O9,H4,Cj,hg,Dk,D6]<;>first|with_reducible rfl|omega)|omega)
          |(with_reducible apply A8;· first|with_reducible rfl|(simp (disch:=omega) only[gF,a0,Gx,Nn,Ha,Il,H2,O9,H4,Cj,hg,Dk,D6]<;>omega))
         try simp (disch:=omega) only[a0,Gx,Nn,Ha,Il,H2,O9,H4,Cj,hg,Dk,D6]
         try rfl
        ·rw[hn];intro q e;rw[e];rfl
       ·have H4:=C7 (fu:=fu) (d:=d) 43 43 rfl Jt ht hp;have Gp:=Av Jt hp;have hn:F9 r=Cm r6:=by rw[Nz];unfold Ns;rw[hp]
        have hg:Ae C0 prog fu (d+3) 103 [.pbox (B1 t r6)]=some ⟨[.sc (.bool (Cm r6).isSome)],[B1 t ((Cm r6).getD r6)]⟩:=D3 (d:=d+1) Gp ht Eu;refine⟨(Cm r6).getD r6,Cp Gp fun q e=>Da Gp e,?_,?_⟩
        ·rw[hn,Ai]
         try unfold Ac
         repeat first
          |((with_reducible first|apply A5|apply Ax|apply A6|apply Az|apply A9|apply Aw|apply A4|apply A7);· first|with_reducible rfl|(simp (disch:=omega) only[gT,a0,Gx,Nn,Ha,Il,H2,O9,H4,hg,Dk,D6]<;>first|with_reducible rfl|omega)|omega)
          |(with_reducible apply A8;· first|with_reducible rfl|(simp (disch:=omega) only[gF,a0,Gx,Nn,Ha,Il,H2,O9,H4,hg,Dk,D6]<;>omega))
         try simp (disch:=omega) only[a0,Gx,Nn,Ha,Il,H2,O9,H4,hg,Dk,D6]
         try rfl
        ·rw[hn];intro q e;rw[e];rfl
     ·have H2:=C7 (fu:=fu) (d:=d) 101 101 rfl DY ht he;have Jt:=Av DY he;rw[he] at Nz;simp only at Nz;rcases hp:Ao [43] r5 with _|r6
      ·have H4:=Eo (fu:=fu) (d:=d) 43 43 rfl Jt ht hp;have Cj:=Mm (fu:=fu) (d:=d) 45 45 rfl Jt ht;have Gp:Dm t ((Ao [45] r5).getD r5):=Cp Jt fun q e=>Av Jt e
       have hn:F9 r=Cm ((Ao [45] r5).getD r5):=by rw[Nz];unfold Ns;rw[hp]
       generalize (Ao [45] r5).getD r5=r6 at Cj Gp hn;generalize (Ao [45] r5).isSome=b1 at Cj;have hg:Ae C0 prog fu (d+3) 103 [.pbox (B1 t r6)]=some ⟨[.sc (.bool (Cm r6).isSome)],[B1 t ((Cm r6).getD r6)]⟩:=D3 (d:=d+1) Gp ht Eu;refine⟨(Cm r6).getD r6,Cp Gp fun q e=>Da Gp e,?_,?_⟩
       ·rw[hn,Ai]
        try unfold Ac
        repeat first
         |((with_reducible first|apply A5|apply Ax|apply A6|apply Az|apply A9|apply Aw|apply A4|apply A7);· first|with_reducible rfl|(simp (disch:=omega) only[gT,a0,Gx,Nn,Ha,Il,H2,H4,Cj,hg,Dk,D6]<;>first|with_reducible rfl|omega)|omega)
         |(with_reducible apply A8;· first|with_reducible rfl|(simp (disch:=omega) only[gF,a0,Gx,Nn,Ha,Il,H2,H4,Cj,hg,Dk,D6]<;>omega))
        try simp (disch:=omega) only[a0,Gx,Nn,Ha,Il,H2,H4,Cj,hg,Dk,D6]
        try rfl
       ·rw[hn];intro q e;rw[e];rfl
      ·have H4:=C7 (fu:=fu) (d:=d) 43 43 rfl Jt ht hp;have Gp:=Av Jt hp;have hn:F9 r=Cm r6:=by rw[Nz];unfold Ns;rw[hp]
       have hg:Ae C0 prog fu (d+3) 103 [.pbox (B1 t r6)]=some ⟨[.sc (.bool (Cm r6).isSome)],[B1 t ((Cm r6).getD r6)]⟩:=D3 (d:=d+1) Gp ht Eu;refine⟨(Cm r6).getD r6,Cp Gp fun q e=>Da Gp e,?_,?_⟩
       ·rw[hn,Ai]
        try unfold Ac
        repeat first
         |((with_reducible first|apply A5|apply Ax|apply A6|apply Az|apply A9|apply Aw|apply A4|apply A7);· first|with_reducible rfl|(simp (disch:=omega) only[gT,a0,Gx,Nn,Ha,Il,H2,H4,hg,Dk,D6]<;>first|with_reducible rfl|omega)|omega)
         |(with_reducible apply A8;· first|with_reducible rfl|(simp (disch:=omega) only[gF,a0,Gx,Nn,Ha,Il,H2,H4,hg,Dk,D6]<;>omega))
        try simp (disch:=omega) only[a0,Gx,Nn,Ha,Il,H2,H4,hg,Dk,D6]
        try rfl
       ·rw[hn];intro q e;rw[e];rfl
 ·have Gx:=C7 (fu:=fu) (d:=d) 48 48 rfl hS1 ht hz;rw[hz] at Zo;have We:=Av hS1 hz;have JO:F9 r=FO r2:=Zo;rw[Wk] at JO;rcases hdt:Ao [46] r2 with _|r3
  ·have Ha:=Eo (fu:=fu) (d:=d) 46 46 rfl We ht hdt;rw[hdt] at JO;have Nz:F9 r=Wj r2:=JO;rw[Qk] at Nz;rcases he:Ao [101] r2 with _|r5
   ·have H2:=Eo (fu:=fu) (d:=d) 101 101 rfl We ht he;rw[he] at Nz;rcases hE:Ao [69] r2 with _|r5
    ·have O9:=Eo (fu:=fu) (d:=d) 69 69 rfl We ht hE;have hn:F9 r=some r2:=by rw[Nz,hE]
     refine⟨r2,We,?_,?_⟩
     ·rw[hn,Ai]
      try unfold Ac
      repeat first
       |((with_reducible first|apply A5|apply Ax|apply A6|apply Az|apply A9|apply Aw|apply A4|apply A7);· first|with_reducible rfl|(simp (disch:=omega) only[gT,a0,Gx,Ha,H2,O9,Dk,D6]<;>first|with_reducible rfl|omega)|omega)
       |(with_reducible apply A8;· first|with_reducible rfl|(simp (disch:=omega) only[gF,a0,Gx,Ha,H2,O9,Dk,D6]<;>omega))
      try simp (disch:=omega) only[a0,Gx,Ha,H2,O9,Dk,D6]
      try rfl
     ·rw[hn];intro q e;cases e;rfl
    ·have O9:=C7 (fu:=fu) (d:=d) 69 69 rfl We ht hE;have Jt:=Av We hE;rw[hE] at Nz;simp only at Nz;rcases hp:Ao [43] r5 with _|r6
     ·have H4:=Eo (fu:=fu) (d:=d) 43 43 rfl Jt ht hp;have Cj:=Mm (fu:=fu) (d:=d) 45 45 rfl Jt ht;have Gp:Dm t ((Ao [45] r5).getD r5):=Cp Jt fun q e=>Av Jt e
      have hn:F9 r=Cm ((Ao [45] r5).getD r5):=by rw[Nz];unfold Ns;rw[hp]
      generalize (Ao [45] r5).getD r5=r6 at Cj Gp hn;generalize (Ao [45] r5).isSome=b1 at Cj;have hg:Ae C0 prog fu (d+3) 103 [.pbox (B1 t r6)]=some ⟨[.sc (.bool (Cm r6).isSome)],[B1 t ((Cm r6).getD r6)]⟩:=D3 (d:=d+1) Gp ht Eu;refine⟨(Cm r6).getD r6,Cp Gp fun q e=>Da Gp e,?_,?_⟩
      ·rw[hn,Ai]
       try unfold Ac
       repeat first
        |((with_reducible first|apply A5|apply Ax|apply A6|apply Az|apply A9|apply Aw|apply A4|apply A7);· first|with_reducible rfl|(simp (disch:=omega) only[gT,a0,Gx,Ha,H2,O9,H4,Cj,hg,Dk,D6]<;>first|with_reducible rfl|omega)|omega)
        |(with_reducible apply A8;· first|with_reducible rfl|(simp (disch:=omega) only[gF,a0,Gx,Ha,H2,O9,H4,Cj,hg,Dk,D6]<;>omega))
       try simp (disch:=omega) only[a0,Gx,Ha,H2,O9,H4,Cj,hg,Dk,D6]
       try rfl
      ·rw[hn];intro q e;rw[e];rfl
     ·have H4:=C7 (fu:=fu) (d:=d) 43 43 rfl Jt ht hp;have Gp:=Av Jt hp;have hn:F9 r=Cm r6:=by rw[Nz];unfold Ns;rw[hp]
      have hg:Ae C0 prog fu (d+3) 103 [.pbox (B1 t r6)]=some ⟨[.sc (.bool (Cm r6).isSome)],[B1 t ((Cm r6).getD r6)]⟩:=D3 (d:=d+1) Gp ht Eu;refine⟨(Cm r6).getD r6,Cp Gp fun q e=>Da Gp e,?_,?_⟩
      ·rw[hn,Ai]
       try unfold Ac
       repeat first
        |((with_reducible first|apply A5|apply Ax|apply A6|apply Az|apply A9|apply Aw|apply A4|apply A7);· first|with_reducible rfl|(simp (disch:=omega) only[gT,a0,Gx,Ha,H2,O9,H4,hg,Dk,D6]<;>first|with_reducible rfl|omega)|omega)
        |(with_reducible apply A8;· first|with_reducible rfl|(simp (disch:=omega) only[gF,a0,Gx,Ha,H2,O9,H4,hg,Dk,D6]<;>omega))
       try simp (disch:=omega) only[a0,Gx,Ha,H2,O9,H4,hg,Dk,D6]
       try rfl
      ·rw[hn];intro q e;rw[e];rfl
   ·have H2:=C7 (fu:=fu) (d:=d) 101 101 rfl We ht he;have Jt:=Av We he;rw[he] at Nz;simp only at Nz;rcases hp:Ao [43] r5 with _|r6
    ·have H4:=Eo (fu:=fu) (d:=d) 43 43 rfl Jt ht hp;have Cj:=Mm (fu:=fu) (d:=d) 45 45 rfl Jt ht;have Gp:Dm t ((Ao [45] r5).getD r5):=Cp Jt fun q e=>Av Jt e
     have hn:F9 r=Cm ((Ao [45] r5).getD r5):=by rw[Nz];unfold Ns;rw[hp]
     generalize (Ao [45] r5).getD r5=r6 at Cj Gp hn;generalize (Ao [45] r5).isSome=b1 at Cj;have hg:Ae C0 prog fu (d+3) 103 [.pbox (B1 t r6)]=some ⟨[.sc (.bool (Cm r6).isSome)],[B1 t ((Cm r6).getD r6)]⟩:=D3 (d:=d+1) Gp ht Eu;refine⟨(Cm r6).getD r6,Cp Gp fun q e=>Da Gp e,?_,?_⟩
     ·rw[hn,Ai]
      try unfold Ac
      repeat first
       |((with_reducible first|apply A5|apply Ax|apply A6|apply Az|apply A9|apply Aw|apply A4|apply A7);· first|with_reducible rfl|(simp (disch:=omega) only[gT,a0,Gx,Ha,H2,H4,Cj,hg,Dk,D6]<;>first|with_reducible rfl|omega)|omega)
       |(with_reducible apply A8;· first|with_reducible rfl|(simp (disch:=omega) only[gF,a0,Gx,Ha,H2,H4,Cj,hg,Dk,D6]<;>omega))
      try simp (disch:=omega) only[a0,Gx,Ha,H2,H4,Cj,hg,Dk,D6]
      try rfl
     ·rw[hn];intro q e;rw[e];rfl
    ·have H4:=C7 (fu:=fu) (d:=d) 43 43 rfl Jt ht hp;have Gp:=Av Jt hp;have hn:F9 r=Cm r6:=by rw[Nz];unfold Ns;rw[hp]
     have hg:Ae C0 prog fu (d+3) 103 [.pbox (B1 t r6)]=some ⟨[.sc (.bool (Cm r6).isSome)],[B1 t ((Cm r6).getD r6)]⟩:=D3 (d:=d+1) Gp ht Eu;refine⟨(Cm r6).getD r6,Cp Gp fun q e=>Da Gp e,?_,?_⟩
     ·rw[hn,Ai]
      try unfold Ac
      repeat first
       |((with_reducible first|apply A5|apply Ax|apply A6|apply Az|apply A9|apply Aw|apply A4|apply A7);· first|with_reducible rfl|(simp (disch:=omega) only[gT,a0,Gx,Ha,H2,H4,hg,Dk,D6]<;>first|with_reducible rfl|omega)|omega)
       |(with_reducible apply A8;· first|with_reducible rfl|(simp (disch:=omega) only[gF,a0,Gx,Ha,H2,H4,hg,Dk,D6]<;>omega))
      try simp (disch:=omega) only[a0,Gx,Ha,H2,H4,hg,Dk,D6]
      try rfl
     ·rw[hn];intro q e;rw[e];rfl
  ·have Ha:=C7 (fu:=fu) (d:=d) 46 46 rfl We ht hdt;have hS3:=Av We hdt;rw[hdt] at JO;have JO:F9 r=(Cm r3).bind Wj:=JO;have hd1:=D3 (d:=d+1) hS3 ht Eu;rcases KO:Cm r3 with _|r4
   ·rw[KO] at hd1 JO;have Il:Ae C0 prog fu (d+3) 103 [.pbox (B1 t r3)]=some ⟨[.sc (.bool false)],[B1 t r3]⟩:=hd1;have hn:F9 r=none:=JO;refine⟨r3,hS3,?_,?_⟩
    ·rw[hn,Ai]
     try unfold Ac
     repeat first
      |((with_reducible first|apply A5|apply Ax|apply A6|apply Az|apply A9|apply Aw|apply A4|apply A7);· first|with_reducible rfl|(simp (disch:=omega) only[gT,a0,Gx,Ha,Il,Dk,D6]<;>first|with_reducible rfl|omega)|omega)
      |(with_reducible apply A8;· first|with_reducible rfl|(simp (disch:=omega) only[gF,a0,Gx,Ha,Il,Dk,D6]<;>omega))
     try simp (disch:=omega) only[a0,Gx,Ha,Il,Dk,D6]
     try rfl
    ·rw[hn];intro q e;cases e
   ·rw[KO] at hd1 JO;have Il:Ae C0 prog fu (d+3) 103 [.pbox (B1 t r3)]=some ⟨[.sc (.bool true)],[B1 t r4]⟩:=hd1;have DY:=Da hS3 KO;have Nz:F9 r=Wj r4:=JO;rw[Qk] at Nz;rcases he:Ao [101] r4 with _|r5
    ·have H2:=Eo (fu:=fu) (d:=d) 101 101 rfl DY ht he;rw[he] at Nz;rcases hE:Ao [69] r4 with _|r5
     ·have O9:=Eo (fu:=fu) (d:=d) 69 69 rfl DY ht hE;have hn:F9 r=some r4:=by rw[Nz,hE]
      refine⟨r4,DY,?_,?_⟩
      ·rw[hn,Ai]
       try unfold Ac
       repeat first
        |((with_reducible first|apply A5|apply Ax|apply A6|apply Az|apply A9|apply Aw|apply A4|apply A7);· first|with_reducible rfl|(simp (disch:=omega) only[gT,a0,Gx,Ha,Il,H2,O9,Dk,D6]<;>first|with_reducible rfl|omega)|omega)
        |(with_reducible apply A8;· first|with_reducible rfl|(simp (disch:=omega) only[gF,a0,Gx,Ha,Il,H2,O9,Dk,D6]<;>omega))
       try simp (disch:=omega) only[a0,Gx,Ha,Il,H2,O9,Dk,D6]
       try rfl
      ·rw[hn];intro q e;cases e;rfl
     ·have O9:=C7 (fu:=fu) (d:=d) 69 69 rfl DY ht hE;have Jt:=Av DY hE;rw[hE] at Nz;simp only at Nz;rcases hp:Ao [43] r5 with _|r6
      ·have H4:=Eo (fu:=fu) (d:=d) 43 43 rfl Jt ht hp;have Cj:=Mm (fu:=fu) (d:=d) 45 45 rfl Jt ht;have Gp:Dm t ((Ao [45] r5).getD r5):=Cp Jt fun q e=>Av Jt e
       have hn:F9 r=Cm ((Ao [45] r5).getD r5):=by rw[Nz];unfold Ns;rw[hp]
       generalize (Ao [45] r5).getD r5=r6 at Cj Gp hn;generalize (Ao [45] r5).isSome=b1 at Cj;have hg:Ae C0 prog fu (d+3) 103 [.pbox (B1 t r6)]=some ⟨[.sc (.bool (Cm r6).isSome)],[B1 t ((Cm r6).getD r6)]⟩:=D3 (d:=d+1) Gp ht Eu;refine⟨(Cm r6).getD r6,Cp Gp fun q e=>Da Gp e,?_,?_⟩
       ·rw[hn,Ai]
        try unfold Ac
        repeat first
         |((with_reducible first|apply A5|apply Ax|apply A6|apply Az|apply A9|apply Aw|apply A4|apply A7);· first|with_reducible rfl|(simp (disch:=omega) only[gT,a0,Gx,Ha,Il,H2,O9,H4,Cj,hg,Dk,D6]<;>first|with_reducible rfl|omega)|omega)
         |(with_reducible apply A8;· first|with_reducible rfl|(simp (disch:=omega) only[gF,a0,Gx,Ha,Il,H2,O9,H4,Cj,hg,Dk,D6]<;>omega))
        try simp (disch:=omega) only[a0,Gx,Ha,Il,H2,O9,H4,Cj,hg,Dk,D6]
        try rfl
       ·rw[hn];intro q e;rw[e];rfl
      ·have H4:=C7 (fu:=fu) (d:=d) 43 43 rfl Jt ht hp;have Gp:=Av Jt hp;have hn:F9 r=Cm r6:=by rw[Nz];unfold Ns;rw[hp]
       have hg:Ae C0 prog fu (d+3) 103 [.pbox (B1 t r6)]=some ⟨[.sc (.bool (Cm r6).isSome)],[B1 t ((Cm r6).getD r6)]⟩:=D3 (d:=d+1) Gp ht Eu;refine⟨(Cm r6).getD r6,Cp Gp fun q e=>Da Gp e,?_,?_⟩
       ·rw[hn,Ai]
        try unfold Ac
        repeat first
         |((with_reducible first|apply A5|apply Ax|apply A6|apply Az|apply A9|apply Aw|apply A4|apply A7);· first|with_reducible rfl|(simp (disch:=omega) only[gT,a0,Gx,Ha,Il,H2,O9,H4,hg,Dk,D6]<;>first|with_reducible rfl|omega)|omega)
         |(with_reducible apply A8;· first|with_reducible rfl|(simp (disch:=omega) only[gF,a0,Gx,Ha,Il,H2,O9,H4,hg,Dk,D6]<;>omega))
        try simp (disch:=omega) only[a0,Gx,Ha,Il,H2,O9,H4,hg,Dk,D6]
        try rfl
       ·rw[hn];intro q e;rw[e];rfl
    ·have H2:=C7 (fu:=fu) (d:=d) 101 101 rfl DY ht he;have Jt:=Av DY he;rw[he] at Nz;simp only at Nz;rcases hp:Ao [43] r5 with _|r6
     ·have H4:=Eo (fu:=fu) (d:=d) 43 43 rfl Jt ht hp;have Cj:=Mm (fu:=fu) (d:=d) 45 45 rfl Jt ht;have Gp:Dm t ((Ao [45] r5).getD r5):=Cp Jt fun q e=>Av Jt e
      have hn:F9 r=Cm ((Ao [45] r5).getD r5):=by rw[Nz];unfold Ns;rw[hp]
      generalize (Ao [45] r5).getD r5=r6 at Cj Gp hn;generalize (Ao [45] r5).isSome=b1 at Cj;have hg:Ae C0 prog fu (d+3) 103 [.pbox (B1 t r6)]=some ⟨[.sc (.bool (Cm r6).isSome)],[B1 t ((Cm r6).getD r6)]⟩:=D3 (d:=d+1) Gp ht Eu;refine⟨(Cm r6).getD r6,Cp Gp fun q e=>Da Gp e,?_,?_⟩
      ·rw[hn,Ai]
       try unfold Ac
       repeat first
        |((with_reducible first|apply A5|apply Ax|apply A6|apply Az|apply A9|apply Aw|apply A4|apply A7);· first|with_reducible rfl|(simp (disch:=omega) only[gT,a0,Gx,Ha,Il,H2,H4,Cj,hg,Dk,D6]<;>first|with_reducible rfl|omega)|omega)
        |(with_reducible apply A8;· first|with_reducible rfl|(simp (disch:=omega) only[gF,a0,Gx,Ha,Il,H2,H4,Cj,hg,Dk,D6]<;>omega))
       try simp (disch:=omega) only[a0,Gx,Ha,Il,H2,H4,Cj,hg,Dk,D6]
       try rfl
      ·rw[hn];intro q e;rw[e];rfl
     ·have H4:=C7 (fu:=fu) (d:=d) 43 43 rfl Jt ht hp;have Gp:=Av Jt hp;have hn:F9 r=Cm r6:=by rw[Nz];unfold Ns;rw[hp]
      have hg:Ae C0 prog fu (d+3) 103 [.pbox (B1 t r6)]=some ⟨[.sc (.bool (Cm r6).isSome)],[B1 t ((Cm r6).getD r6)]⟩:=D3 (d:=d+1) Gp ht Eu;refine⟨(Cm r6).getD r6,Cp Gp fun q e=>Da Gp e,?_,?_⟩
      ·rw[hn,Ai]
       try unfold Ac
       repeat first
        |((with_reducible first|apply A5|apply Ax|apply A6|apply Az|apply A9|apply Aw|apply A4|apply A7);· first|with_reducible rfl|(simp (disch:=omega) only[gT,a0,Gx,Ha,Il,H2,H4,hg,Dk,D6]<;>first|with_reducible rfl|omega)|omega)
        |(with_reducible apply A8;· first|with_reducible rfl|(simp (disch:=omega) only[gF,a0,Gx,Ha,Il,H2,H4,hg,Dk,D6]<;>omega))
       try simp (disch:=omega) only[a0,Gx,Ha,Il,H2,H4,hg,Dk,D6]
       try rfl
      ·rw[hn];intro q e;rw[e];rfl
end
end
section
open Go.Proofs.Tryz (prog)
open Go.IntKind (wrap)
theorem Dm.trans {t:ByteArray}{r q:List Int}(h:Dm t r)(k:Dm (Ab r) q):Dm t q:=by
 obtain⟨pre,k⟩:=k;rw[Cd h.B] at k;rw[k] at h;exact h.app
theorem Dm.self {l:List Int}(h:Cx l):Dm (Ab l) l:=⟨[],by rw[Cd h];rfl⟩
theorem Dm.le {l q:List Int}(h:Dm (Ab l) q):q.length<=l.length:=by
 have:=h.len
 rwa [Af] at this
def Aau (t:ByteArray)(l:List Int)(x:JR (JV × List Int)) (res:Ap):Prop:=
 match x with
 |.ok (v,q)=>Dm (Ab l) q∧res=⟨[.agg [.sc (.int .i64 v.1),.sc (.string (Ab v.2.1)),.sc (.bool v.2.2)],.sc (.int .i64 0)],[B1 t q]⟩
 |.error e=>e≠0∧∃c1 c2 c3 q,Dm t q∧res=⟨[.agg [.sc (.int .i64 c1),.sc (.string c2),.sc (.bool c3)],.sc (.int .i64 e)],[B1 t q]⟩
def A27 (t:ByteArray)(l:List Int)(x:JR (List Int)) (res:Ap):Prop:=
 match x with
 |.ok q=>Dm (Ab l) q∧res=⟨[.sc (.int .i64 0)],[B1 t q]⟩
 |.error e=>e≠0∧∃q,Dm t q∧res=⟨[.sc (.int .i64 e)],[B1 t q]⟩
theorem Ai9 {α:Type}(a b:Int)(Pc:a≠b)(A B:List Int->α)(C:α)(x:List Int):
  (match Ao [a] x with|some r=>A r|none=>match Ao [b] x with|some r=>B r|none=>C)=(match x with|[]=>C|y::r=>if y=a then A r else if y=b then B r else C):=by
 rw[Df,Df];cases x with
 |nil=>rfl
 |cons y r=>
  by_cases h:y=a
  ·simp[h]
  ·by_cases h2:y=b
   ·subst h2;simp[h]
   ·simp[h,h2]
theorem Ak4 (V:List Int->JR (JV × List Int)) (n:Nat)(l:List Int):S9 V (n+1) l=match V l with
  |.error e=>.error e
  |.ok (_,r)=>match Ao [93] (A3 r) with
   |some r'=>.ok r'
   |none=>match Ao [44] (A3 r) with
    |some r'=>S9 V n (A3 r')
    |none=>.error 2:=by
 show (match V l with | .error e=>_ | .ok (_,r)=>_)=_
 cases V l with
 |error e=>rfl
 |ok x=>
  obtain⟨v,r⟩:=x;simp only;rw[Ai9 93 44 (by decide) (fun r'=>Except.ok r') (fun r'=>S9 V n (A3 r')) (Except.error 2)]
  cases A3 r with
  |nil=>rfl
  |cons y r=>
   by_cases h:y=93
   ·subst h;rfl
   ·by_cases h2:y=44
    ·subst h2;rfl
    ·simp only[Ct h,Ct h2];split
     ·rename_i e;injection e with e1 _;exact absurd e1 h
     ·rename_i e;injection e with e1 _;exact absurd e1 h2
     ·rfl
section
variable {fu d:Nat}
theorem Ah0 {t s0:ByteArray}{p0 D0 D:Int}(ht:t.size<=1000000)(Eu:t.size+1<=fu)(V:List Int->JR (JV × List Int)) (HV:∀r,Dm t r->∃res,Ae C0 prog fu (d+3) 67 [.pbox (B1 t r),.sc (.int .i64 D)]=some res∧Aau t r (V r) res):∀(n nn:Nat)(l:List Int),l.length+1<=n->l.length+1<=nn->Dm t l ->
  ∃res,Dg fu (Ae C0 prog fu (d+3)) s0 p0 D0 nn D t (Bz t l:Int)=some res∧A27 t l (S9 V n l) res:=by
 intro n
 induction n with
 |zero=>intro nn l h1;omega
 |succ n ih=>
  intro nn l hn N7 h;obtain⟨k,rfl⟩:∃k,nn=k+1:=⟨nn-1,by omega⟩
  obtain⟨rv,ev,hv⟩:=HV l h;rw[Ak4,Jf];cases hV:V l with
  |error e=>
   rw[hV] at hv;obtain⟨he,c1,c2,c3,q,hq,rfl⟩:=hv;have hb:(e != (0:Int))=true:=by simp[he]
   refine⟨⟨[.sc (.int .i64 e)],[B1 t q]⟩,?_,he,q,hq,rfl⟩
   try unfold Ac
   repeat first
    |((with_reducible first|apply A5|apply Ax|apply A6|apply Az|apply A9|apply Lr|apply Aw|apply A4|apply A7);· first|with_reducible rfl|(simp (disch:=omega) only[gT,ev,hb]<;>first|with_reducible rfl|omega)|omega)
    |(with_reducible apply A8;· first|with_reducible rfl|(simp (disch:=omega) only[gF,ev,hb]<;>omega))
   try simp (disch:=omega) only[ev,hb]
  |ok x=>
   obtain⟨v,q⟩:=x;rw[hV] at hv;obtain⟨hq,rfl⟩:=hv;have hqt:=h.trans hq;have hs:=Rg (fu:=fu) (d:=d) hqt ht Eu;have Vm:Ae C0 prog fu (d+3) 42 [.pbox (B1 t q)]=some ⟨[],[B1 t (A3 q)]⟩:=hs;have hqs:=Bu hqt;have A3q:=Bu hq;have hb:((0:Int) != (0:Int))=false:=rfl;simp only;cases h1:Ao [93] (A3 q) with
   |some r'=>
    have a1:=C7 (fu:=fu) (d:=d) 93 93 rfl hqs ht h1;refine⟨⟨[.sc (.int .i64 0)],[B1 t r']⟩,?_,Av A3q h1,rfl⟩
    try unfold Ac
    repeat first
     |((with_reducible first|apply A5|apply Ax|apply A6|apply Az|apply A9|apply Lr|apply Aw|apply A4|apply A7);· first|with_reducible rfl|(simp (disch:=omega) only[gT,ev,hb,Vm,a1]<;>first|with_reducible rfl|omega)|omega)
     |(with_reducible apply A8;· first|with_reducible rfl|(simp (disch:=omega) only[gF,ev,hb,Vm,a1]<;>omega))
    try simp (disch:=omega) only[ev,hb,Vm,a1]
   |none=>
    have a1:=Eo (fu:=fu) (d:=d) 93 93 rfl hqs ht h1;cases h2:Ao [44] (A3 q) with
    |none=>
     have a2:=Eo (fu:=fu) (d:=d) 44 44 rfl hqs ht h2;refine⟨⟨[.sc (.int .i64 2)],[B1 t (A3 q)]⟩,?_,by decide,A3 q,hqs,rfl⟩
     try unfold Ac
     repeat first
      |((with_reducible first|apply A5|apply Ax|apply A6|apply Az|apply A9|apply Lr|apply Aw|apply A4|apply A7);· first|with_reducible rfl|(simp (disch:=omega) only[gT,ev,hb,Vm,a1,a2,D6]<;>first|with_reducible rfl|omega)|omega)
      |(with_reducible apply A8;· first|with_reducible rfl|(simp (disch:=omega) only[gF,ev,hb,Vm,a1,a2,D6]<;>omega))
     try simp (disch:=omega) only[ev,hb,Vm,a1,a2,D6]
    |some r'=>
     have a2:=C7 (fu:=fu) (d:=d) 44 44 rfl hqs ht h2;have hr:=Av hqs h2;have MM:=Av A3q h2;have QV:Ae C0 prog fu (d+3) 42 [.pbox (B1 t r')]=some ⟨[],[B1 t (A3 r')]⟩:=Rg (fu:=fu) (d:=d) hr ht Eu
     have hlr:(A3 r').length+1<=l.length:=by
      have e1:=hq.le;have e2:=P3 q;have e3:=P3 r'
      have e4:r'.length+1<=(A3 q).length:=by
       rw[Df] at h2
       revert h2
       cases A3 q with
       |nil=>intro h2;cases h2
       |cons y s=>
        intro h2;simp only at h2;split at h2
        ·cases h2;simp
        ·cases h2
      omega
     obtain⟨res,e5,h5⟩:=ih k (A3 r') (by omega) (by omega) (Bu hr)
     refine⟨res,?_,?_⟩
     ·skip
      try unfold Ac
      repeat first
       |((with_reducible first|apply A5|apply Ax|apply A6|apply Az|apply A9|apply Lr|apply Aw|apply A4|apply A7);· first|with_reducible rfl|(simp (disch:=omega) only[gT,ev,hb,Vm,a1,a2,QV,Dk]<;>first|with_reducible rfl|omega)|omega)
       |(with_reducible apply A8;· first|with_reducible rfl|(simp (disch:=omega) only[gF,ev,hb,Vm,a1,a2,QV,Dk]<;>omega))
      try simp (disch:=omega) only[ev,hb,Vm,a1,a2,QV,Dk]
      exact e5
     ·simp only;have hup:Dm (Ab l) (A3 r'):=Bu MM
      revert h5
      cases S9 V n (A3 r') with
      |error e=>exact id
      |ok q2=>exact fun h5=>⟨hup.trans h5.1,h5.2⟩
end
end
section
open Go.Proofs.Tryz (prog)
open Go.IntKind (wrap)
set_option maxRecDepth 100000
theorem SV {c:Int}{x r:List Int}(h:Ao [c] x=some r):r.length+1<=x.length:=by
 rw[Df] at h
 revert h
 cases x with
 |nil=>intro h;cases h
 |cons y s=>
  intro h;simp only at h;split at h
  ·cases h;simp
  ·cases h
theorem Np (V:List Int->JR (JV × List Int)) (kp:Bool)(n:Nat)(ms:List (List Int × JV)) (l:List Int):Oh V kp (n+1) ms l=match Ev l with
  |(none,_)=>.error 2
  |(some nm,r)=>if (kp&&ms.any fun m=>m.1==nm)=true then .error 10 else match Ao [58] (A3 r) with
   |none=>.error 2
   |some r1=>match V (A3 r1) with
    |.error e=>.error e
    |.ok (v,r2)=>match Ao [125] (A3 r2) with
     |some r3=>.ok (ms++[(nm,v)],r3)
     |none=>match Ao [44] (A3 r2) with
      |some r3=>Oh V kp n (ms++[(nm,v)]) (A3 r3)
      |none=>.error 2:=by
 show (match Ayr V (fun nm=>kp&&ms.any fun m=>m.1==nm) l with | .error e=>_ | .ok (m,r)=>_)=_
 unfold Ayr Rr;rcases Ev l with⟨o,r⟩;cases o with
 |none=>rfl
 |some nm=>
  simp only;by_cases hd:(kp&&ms.any fun m=>m.1==nm)=true
  rotate_left
  ·simp only[Ct hd];rw[Df];cases A3 r with
   |nil=>rfl
   |cons y s=>
    by_cases h:y=58
    ·subst h;simp only[if_true];cases V (A3 s) with
     |error e=>rfl
     |ok x=>
      obtain⟨v,r2⟩:=x;simp only;rw[Df,Df];cases A3 r2 with
      |nil=>rfl
      |cons y s=>
       by_cases h:y=125
       ·subst h;simp
       ·by_cases h2:y=44
        ·subst h2;simp
        ·simp only[Ct h,Ct h2];split
         ·rename_i e;injection e with e1 _;exact absurd e1 h
         ·rename_i e;injection e with e1 _;exact absurd e1 h2
         ·rfl
    ·simp only[Ct h];split
     ·rename_i e;split at e
      ·rename_i e2;injection e2 with e1 _;exact absurd e1 h
      ·cases e;rfl
     ·rename_i e;split at e
      ·rename_i e2;injection e2 with e1 _;exact absurd e1 h
      ·cases e
  ·simp only[Dy hd]
def A28 {α:Type}(t:ByteArray)(l:List Int)(x:JR (α × List Int)) (res:Ap):Prop:=
 match x with
 |.ok (_,q)=>Dm (Ab l) q∧res=⟨[.sc (.int .i64 0)],[B1 t q]⟩
 |.error e=>e≠0∧∃q,Dm t q∧res=⟨[.sc (.int .i64 e)],[B1 t q]⟩
section
variable {fu d:Nat}
theorem Ar8 {t:ByteArray}{r:List Int}(h:Dm t r)(ht:t.size<=1000000):Ae C0 prog fu (d+1) 66 [.pbox (B1 t r)]=some ⟨[.sc (.string (Ab ((Ev r).1.getD []))),.sc (.bool (Ev r).1.isSome)],[B1 t (Ev r).2]⟩:=by
 have e0:Ae C0 prog fu (d+1) 66 [.pbox (B1 t r)]=Ahm [.pbox (B1 t r)]:=rfl;have hl:=h.len
 have e1:(decide ((0:Int)<=(Bz t r:Int))&&decide ((Bz t r:Int)<=t.size)&&Nat.ble t.size 1000000)=true:=by
  simp only[Bool.and_eq_true,decide_eq_true_eq,Nat.ble_eq];unfold Bz;omega
 have e2:(Fn t).drop (Bz t r:Int).toNat=r:=by rw[Kj];exact h.eq.symm
 have hq:=(Ho h).len;rw[e0];unfold Ahm;simp only[e1,cond_true,e2];rcases hx:Ev r with⟨o,q⟩;rw[hx] at hq;have e3:(t.size:Int)-q.length=(Bz t q:Int):=by unfold Bz;simp only at hq;omega
 cases o with
 |none=>simp only[e3];rfl
 |some s=>simp only[e3];rfl
theorem A5v {t:ByteArray}{D:Int}(ht:t.size<=1000000)(Eu:t.size+1<=fu)(V:List Int->JR (JV × List Int)) (HV:∀r,Dm t r->∃res,Ae C0 prog fu (d+3) 67 [.pbox (B1 t r),.sc (.int .i64 D)]=some res∧Aau t r (V r) res) {l:List Int}(h:Dm t (91::l)):
  ∃res,Ae C0 prog fu (d+4) 84 [.pbox (B1 t (91::l)),.sc (.int .i64 D)]=some res∧A27 t l (RT V l) res:=by
 have a0:=C7 (fu:=fu) (d:=d) (q:=l) 91 91 rfl h ht (by rw[Df];rfl)
 have hs:Ae C0 prog fu (d+3) 42 [.pbox (B1 t l)]=some ⟨[],[B1 t (A3 l)]⟩:=Rg (fu:=fu) (d:=d) h.tail ht Eu;have hS:=Bu h.tail;have We:=Bu (Dm.self h.tail.B)
 have eA:RT V l=match Ao [93] (A3 l) with|some r=>.ok r|none=>S9 V ((A3 l).length+1) (A3 l):=by
  unfold RT;rw[Df];cases A3 l with
  |nil=>rfl
  |cons y s=>
   by_cases hy:y=93
   ·subst hy;rfl
   ·simp only[Ct hy];split
    ·rename_i e;injection e with e1 _;exact absurd e1 hy
    ·rfl
 have er:=K5 (p:=none) fu (d+3) t (Bz t (91::l):Int) D;rw[eA];cases h1:Ao [93] (A3 l) with
 |some r=>
  have a1:=C7 (fu:=fu) (d:=d) 93 93 rfl hS ht h1;refine⟨⟨[.sc (.int .i64 0)],[B1 t r]⟩,er.trans ?_,Av We h1,rfl⟩
  try unfold Ac
  repeat first
   |((with_reducible first|apply A5|apply Ax|apply A6|apply Az|apply A9|apply Aw|apply A4|apply A7);· first|with_reducible rfl|(simp (disch:=omega) only[gT,a0,hs,a1,Dk]<;>first|with_reducible rfl|omega)|omega)
   |(with_reducible apply A8;· first|with_reducible rfl|(simp (disch:=omega) only[gF,a0,hs,a1,Dk]<;>omega))
  try simp (disch:=omega) only[a0,hs,a1,Dk]
 |none=>
  have a1:=Eo (fu:=fu) (d:=d) 93 93 rfl hS ht h1;obtain⟨res,e5,h5⟩:=Ah0 (fu:=fu) (d:=d) (s0:=t) (p0:=(Bz t (91::l):Int)) (D0:=D) ht Eu V HV ((A3 l).length+1) fu (A3 l) (Nat.le_refl _) (by have:=hS.len;omega) hS
  refine⟨res,er.trans ?_,?_⟩
  ·skip
   try unfold Ac
   repeat first
    |((with_reducible first|apply A5|apply Ax|apply A6|apply Az|apply A9|apply Aw|apply A4|apply A7);· first|with_reducible rfl|(simp (disch:=omega) only[gT,a0,hs,a1,Dk]<;>first|with_reducible rfl|omega)|omega)
    |(with_reducible apply A8;· first|with_reducible rfl|(simp (disch:=omega) only[gF,a0,hs,a1,Dk]<;>omega))
   try simp (disch:=omega) only[a0,hs,a1,Dk]
   exact e5
  ·simp only
   revert h5
   cases S9 V ((A3 l).length+1) (A3 l) with
   |error e=>exact id
   |ok q2=>exact fun h5=>⟨We.trans h5.1,h5.2⟩
end
end
section
open Go.Proofs.Tryz (prog)
open Go.IntKind (wrap)
set_option maxRecDepth 100000
section
variable {fu d:Nat}
theorem Aj9 {t s0:ByteArray}{p0 D0 D:Int}(ht:t.size<=1000000)(Eu:t.size+1<=fu)(V:List Int->JR (JV × List Int)) (HV:∀r,Dm t r->∃res,Ae C0 prog fu (d+3) 67 [.pbox (B1 t r),.sc (.int .i64 D)]=some res∧Aau t r (V r) res):∀(n nn:Nat)(ms:List (List Int × JV)) (l:List Int),l.length+1<=n->l.length+1<=nn->Dm t l ->
  ∃res,C9 fu (Ae C0 prog fu (d+3)) s0 p0 D0 nn D t (Bz t l:Int)=some res∧A28 t l (Oh V false n ms l) res:=by
 intro n
 induction n with
 |zero=>intro nn ms l h1;omega
 |succ n ih=>
  intro nn ms l hn N7 h;obtain⟨k,rfl⟩:∃k,nn=k+1:=⟨nn-1,by omega⟩
  have er:Ae C0 prog fu (d+3) 66 [.pbox (B1 t l)]=_:=Ar8 (d:=d+2) h ht;have QO:=Ho h;have NL:=Ho (Dm.self h.B);rw[Np,I2];rcases hx:Ev l with⟨o,q⟩;rw[hx] at er QO NL;cases o with
  |none=>
   have er2:Ae C0 prog fu (d+3) 66 [.pbox (B1 t l)]=some ⟨[.sc (.string (Ab [])),.sc (.bool false)],[B1 t q]⟩:=er;refine⟨⟨[.sc (.int .i64 2)],[B1 t q]⟩,?_,by decide,q,QO,rfl⟩
   try unfold Ac
   repeat first
    |((with_reducible first|apply A5|apply Ax|apply A6|apply Az|apply A9|apply Lr|apply Aw|apply A4|apply A7);· first|with_reducible rfl|(simp (disch:=omega) only[gT,er2,D6]<;>first|with_reducible rfl|omega)|omega)
    |(with_reducible apply A8;· first|with_reducible rfl|(simp (disch:=omega) only[gF,er2,D6]<;>omega))
   try simp (disch:=omega) only[er2,D6]
  |some nm=>
   have er2:Ae C0 prog fu (d+3) 66 [.pbox (B1 t l)]=some ⟨[.sc (.string (Ab nm)),.sc (.bool true)],[B1 t q]⟩:=er;simp only at QO NL;have Vm:Ae C0 prog fu (d+3) 42 [.pbox (B1 t q)]=some ⟨[],[B1 t (A3 q)]⟩:=Rg (fu:=fu) (d:=d) QO ht Eu;have Se:=Bu QO;have Jm:=Bu NL;simp only[OC,Bool.false_eq_true,if_false];cases h1:Ao [58] (A3 q) with
   |none=>
    have a1:=Eo (fu:=fu) (d:=d) 58 58 rfl Se ht h1;refine⟨⟨[.sc (.int .i64 2)],[B1 t (A3 q)]⟩,?_,by decide,A3 q,Se,rfl⟩
    try unfold Ac
    repeat first
     |((with_reducible first|apply A5|apply Ax|apply A6|apply Az|apply A9|apply Lr|apply Aw|apply A4|apply A7);· first|with_reducible rfl|(simp (disch:=omega) only[gT,er2,Vm,a1,Dk,D6]<;>first|with_reducible rfl|omega)|omega)
     |(with_reducible apply A8;· first|with_reducible rfl|(simp (disch:=omega) only[gF,er2,Vm,a1,Dk,D6]<;>omega))
    try simp (disch:=omega) only[er2,Vm,a1,Dk,D6]
   |some r1=>
    have a1:=C7 (fu:=fu) (d:=d) 58 58 rfl Se ht h1;have IQ:=Av Se h1;have MM:=Av Jm h1;have QV:Ae C0 prog fu (d+3) 42 [.pbox (B1 t r1)]=some ⟨[],[B1 t (A3 r1)]⟩:=Rg (fu:=fu) (d:=d) IQ ht Eu;have hv1:=Bu IQ;have hv2:=Bu MM;obtain⟨rv,ev,hv⟩:=HV (A3 r1) hv1;simp only;cases hV:V (A3 r1) with
    |error e=>
     rw[hV] at hv;obtain⟨he,c1,c2,c3,q3,hq3,rfl⟩:=hv;have hb:(e != (0:Int))=true:=by simp[he]
     refine⟨⟨[.sc (.int .i64 e)],[B1 t q3]⟩,?_,he,q3,hq3,rfl⟩
     try unfold Ac
     repeat first
      |((with_reducible first|apply A5|apply Ax|apply A6|apply Az|apply A9|apply Lr|apply Aw|apply A4|apply A7);· first|with_reducible rfl|(simp (disch:=omega) only[gT,er2,Vm,a1,QV,ev,hb,Dk]<;>first|with_reducible rfl|omega)|omega)
      |(with_reducible apply A8;· first|with_reducible rfl|(simp (disch:=omega) only[gF,er2,Vm,a1,QV,ev,hb,Dk]<;>omega))
     try simp (disch:=omega) only[er2,Vm,a1,QV,ev,hb,Dk]
    |ok x=>
     obtain⟨v,r2⟩:=x;rw[hV] at hv;obtain⟨hq3,rfl⟩:=hv;have hb:((0:Int) != (0:Int))=false:=rfl;have hw1:=hv1.trans hq3;have TB:=hv2.trans hq3;have QK:Ae C0 prog fu (d+3) 42 [.pbox (B1 t r2)]=some ⟨[],[B1 t (A3 r2)]⟩:=Rg (fu:=fu) (d:=d) hw1 ht Eu;have XA:=Bu hw1;have Nn:=Bu TB;simp only;cases h2:Ao [125] (A3 r2) with
     |some r3=>
      have a2:=C7 (fu:=fu) (d:=d) 125 125 rfl XA ht h2;refine⟨⟨[.sc (.int .i64 0)],[B1 t r3]⟩,?_,Av Nn h2,rfl⟩
      try unfold Ac
      repeat first
       |((with_reducible first|apply A5|apply Ax|apply A6|apply Az|apply A9|apply Lr|apply Aw|apply A4|apply A7);· first|with_reducible rfl|(simp (disch:=omega) only[gT,er2,Vm,a1,QV,ev,hb,QK,a2,Dk]<;>first|with_reducible rfl|omega)|omega)
       |(with_reducible apply A8;· first|with_reducible rfl|(simp (disch:=omega) only[gF,er2,Vm,a1,QV,ev,hb,QK,a2,Dk]<;>omega))
      try simp (disch:=omega) only[er2,Vm,a1,QV,ev,hb,QK,a2,Dk]
     |none=>
      have a2:=Eo (fu:=fu) (d:=d) 125 125 rfl XA ht h2;cases h3:Ao [44] (A3 r2) with
      |none=>
       have a3:=Eo (fu:=fu) (d:=d) 44 44 rfl XA ht h3;refine⟨⟨[.sc (.int .i64 2)],[B1 t (A3 r2)]⟩,?_,by decide,A3 r2,XA,rfl⟩
       try unfold Ac
       repeat first
        |((with_reducible first|apply A5|apply Ax|apply A6|apply Az|apply A9|apply Lr|apply Aw|apply A4|apply A7);· first|with_reducible rfl|(simp (disch:=omega) only[gT,er2,Vm,a1,QV,ev,hb,QK,a2,a3,Dk,D6]<;>first|with_reducible rfl|omega)|omega)
        |(with_reducible apply A8;· first|with_reducible rfl|(simp (disch:=omega) only[gF,er2,Vm,a1,QV,ev,hb,QK,a2,a3,Dk,D6]<;>omega))
       try simp (disch:=omega) only[er2,Vm,a1,QV,ev,hb,QK,a2,a3,Dk,D6]
      |some r3=>
       have a3:=C7 (fu:=fu) (d:=d) 44 44 rfl XA ht h3;have hy1:=Av XA h3;have hy2:=Av Nn h3;have hs5:Ae C0 prog fu (d+3) 42 [.pbox (B1 t r3)]=some ⟨[],[B1 t (A3 r3)]⟩:=Rg (fu:=fu) (d:=d) hy1 ht Eu
       have hlr:(A3 r3).length+1<=l.length:=by
        have e1:=Nn.le;have e2:=P3 r3;have e3:=SV h3;omega
       obtain⟨res,e5,h5⟩:=ih k (ms++[(nm,v)]) (A3 r3) (by omega) (by omega) (Bu hy1)
       refine⟨res,?_,?_⟩
       ·skip
        try unfold Ac
        repeat first
         |((with_reducible first|apply A5|apply Ax|apply A6|apply Az|apply A9|apply Lr|apply Aw|apply A4|apply A7);· first|with_reducible rfl|(simp (disch:=omega) only[gT,er2,Vm,a1,QV,ev,hb,QK,a2,a3,hs5,Dk]<;>first|with_reducible rfl|omega)|omega)
         |(with_reducible apply A8;· first|with_reducible rfl|(simp (disch:=omega) only[gF,er2,Vm,a1,QV,ev,hb,QK,a2,a3,hs5,Dk]<;>omega))
        try simp (disch:=omega) only[er2,Vm,a1,QV,ev,hb,QK,a2,a3,hs5,Dk]
        exact e5
       ·simp only;have hup:Dm (Ab l) (A3 r3):=Bu hy2
        revert h5
        cases Oh V false n (ms++[(nm,v)]) (A3 r3) with
        |error e=>exact id
        |ok q2=>exact fun h5=>⟨hup.trans h5.1,h5.2⟩
theorem A23 {t:ByteArray}{D:Int}(ht:t.size<=1000000)(Eu:t.size+1<=fu)(V:List Int->JR (JV × List Int)) (HV:∀r,Dm t r->∃res,Ae C0 prog fu (d+3) 67 [.pbox (B1 t r),.sc (.int .i64 D)]=some res∧Aau t r (V r) res) {l:List Int}(h:Dm t (123::l)):
  ∃res,Ae C0 prog fu (d+4) 43 [.pbox (B1 t (123::l)),.sc (.int .i64 D),.sc (.map none)]=some res∧A28 t l (V8 V false l) res:=by
 have a0:=C7 (fu:=fu) (d:=d) (q:=l) 123 123 rfl h ht (by rw[Df];rfl)
 have hs:Ae C0 prog fu (d+3) 42 [.pbox (B1 t l)]=some ⟨[],[B1 t (A3 l)]⟩:=Rg (fu:=fu) (d:=d) h.tail ht Eu;have hS:=Bu h.tail;have We:=Bu (Dm.self h.tail.B)
 have eA:V8 V false l=match Ao [125] (A3 l) with|some r=>.ok ([],r)|none=>Oh V false ((A3 l).length+1) [] (A3 l):=by
  unfold V8;rw[Df];cases A3 l with
  |nil=>rfl
  |cons y s=>
   by_cases hy:y=125
   ·subst hy;rfl
   ·simp only[Ct hy];split
    ·rename_i e;injection e with e1 _;exact absurd e1 hy
    ·rfl
 have er:=J4 (p:=none) fu (d+3) t (Bz t (123::l):Int) D;rw[eA];cases h1:Ao [125] (A3 l) with
 |some r=>
  have a1:=C7 (fu:=fu) (d:=d) 125 125 rfl hS ht h1;refine⟨⟨[.sc (.int .i64 0)],[B1 t r]⟩,er.trans ?_,Av We h1,rfl⟩
  try unfold Ac
  repeat first
   |((with_reducible first|apply A5|apply Ax|apply A6|apply Az|apply A9|apply Lr|apply Aw|apply A4|apply A7);· first|with_reducible rfl|(simp (disch:=omega) only[gT,a0,hs,a1,Dk]<;>first|with_reducible rfl|omega)|omega)
   |(with_reducible apply A8;· first|with_reducible rfl|(simp (disch:=omega) only[gF,a0,hs,a1,Dk]<;>omega))
  try simp (disch:=omega) only[a0,hs,a1,Dk]
 |none=>
  have a1:=Eo (fu:=fu) (d:=d) 125 125 rfl hS ht h1;obtain⟨res,e5,h5⟩:=Aj9 (fu:=fu) (d:=d) (s0:=t) (p0:=(Bz t (123::l):Int)) (D0:=D) ht Eu V HV ((A3 l).length+1) fu [] (A3 l) (Nat.le_refl _) (by have:=hS.len;omega) hS
  refine⟨res,er.trans ?_,?_⟩
  ·skip
   try unfold Ac
   repeat first
    |((with_reducible first|apply A5|apply Ax|apply A6|apply Az|apply A9|apply Lr|apply Aw|apply A4|apply A7);· first|with_reducible rfl|(simp (disch:=omega) only[gT,a0,hs,a1,Dk]<;>first|with_reducible rfl|omega)|omega)
    |(with_reducible apply A8;· first|with_reducible rfl|(simp (disch:=omega) only[gF,a0,hs,a1,Dk]<;>omega))
   try simp (disch:=omega) only[a0,hs,a1,Dk]
   exact e5
  ·simp only
   revert h5
   cases Oh V false ((A3 l).length+1) [] (A3 l) with
   |error e=>exact id
   |ok q2=>exact fun h5=>⟨We.trans h5.1,h5.2⟩
end
end
section
open Go.Proofs.Tryz (prog)
open Go.IntKind (wrap)
set_option maxRecDepth 100000
def Axs (l:List Int):JR (JV × List Int):=
 match Ao [116,114,117,101] l with
 |some r=>.ok ((2,[],true),r)
 |none=>match Ao [102,97,108,115,101] l with
  |some r=>.ok ((2,[],false),r)
  |none=>match Ao [110,117,108,108] l with
   |some r=>.ok ((1,[],false),r)
   |none=>match F9 l with
    |some r=>.ok ((3,[],false),r)
    |none=>.error 2
theorem MG (k:Nat){l:List Int}(h1:RA l≠123)(h2:RA l≠91)(h3:RA l≠34):Dj k l=Axs l:=by
 unfold Dj;split
 ·exact absurd rfl h1
 ·exact absurd rfl h2
 ·exact absurd rfl h3
 ·rfl
theorem Ah4 {l r:List Int}(h:Cx l)(e:F9 l=some r):Dm (Ab l) r:=by
 have h0:=Dm.self h;have e0:F9 l=(Ane (Ahj 45 l)).bind FO:=rfl;rw[e0,BJ,KW] at e;have h1:Dm (Ab l) ((Ao [45] l).getD l):=Cp h0 fun q e=>Av h0 e
 have hE:∀x q,Dm (Ab l) x->Wj x=some q->Dm (Ab l) q:=by
  have hT:∀x q,Dm (Ab l) x->Ns x=some q->Dm (Ab l) q:=by
   intro x q hx e;unfold Ns at e;split at e
   ·rename_i hw;exact Da (Av hx hw) e
   ·exact Da (Cp hx fun q e=>Av hx e) e
  intro x q hx e;rw[Qk] at e;split at e
  ·rename_i hw;exact hT _ _ (Av hx hw) e
  ·split at e
   ·rename_i hw;exact hT _ _ (Av hx hw) e
   ·cases e;exact hx
 have hF:∀x q,Dm (Ab l) x->FO x=some q->Dm (Ab l) q:=by
  intro x q hx e;rw[Wk] at e;split at e
  ·rename_i hw;obtain⟨y,hy,e⟩:=Option.bind_eq_some_iff.1 e;exact hE _ _ (Da (Av hx hw) hy) e
  ·exact hE _ _ hx e
 obtain⟨y,hy,e⟩:=Option.bind_eq_some_iff.1 e;split at hy
 ·rename_i hw;cases hy;exact hF _ _ (Av h1 hw) e
 ·exact hF _ _ (Da h1 hy) e
section
variable {fu d:Nat}
theorem Att {t:ByteArray}{r:List Int}(w:List Int)(lit:ByteArray)(hw:Ab w=lit)(hB:Cx w)(hl:w.length<=100)(h:Dm t r)(ht:t.size<=1000000):Ae C0 prog fu (d+3) 65 [.pbox (B1 t r),.sc (.string lit)]=some ⟨[.sc (.bool (Ao w r).isSome)],[B1 t ((Ao w r).getD r)]⟩:=by
 subst hw;have e:=Sh (fu:=fu) (d:=d) (xs:=xs0) h ht (w:=w) hB hl;refine e.trans ?_;cases Ao w r<;>rfl
theorem Al6 {t:ByteArray}(ht:t.size<=1000000)(Eu:t.size+1<=fu){D:Int}{l:List Int}(h:Dm t l)(h1:RA l≠123)(h2:RA l≠91)(h3:RA l≠34):∃res,Ae C0 prog fu (d+5) 67 [.pbox (B1 t l),.sc (.int .i64 D)]=some res∧Aau t l (Axs l) res:=by
 have er:=B7 (p:=none) fu (d+4) t (Bz t l:Int) D;have pk:Ae C0 prog fu (d+4) 83 [.pbox (B1 t l)]=some ⟨[.sc (.int .u8 (RA l))],[B1 t l]⟩:=Nj (xs:=xs0) (d:=d+3) h;have b1:(RA l==(123:Int))=false:=by simp[h1]
 have b2:(RA l==(91:Int))=false:=by simp[h2]
 have b3:(RA l==(34:Int))=false:=by simp[h3]
 have Aki:=Dm.self h.B;have a1:=Att (fu:=fu) (d:=d+1) [116,114,117,101] (ByteArray.mk #[(116:UInt8),(114:UInt8),(117:UInt8),(101:UInt8)]) rfl (fun x hx=>by simp at hx;omega) (by decide) h ht
 have a2:=Att (fu:=fu) (d:=d+1) [102,97,108,115,101] (ByteArray.mk #[(102:UInt8),(97:UInt8),(108:UInt8),(115:UInt8),(101:UInt8)]) rfl (fun x hx=>by simp at hx;omega) (by decide) h ht
 have a3:=Att (fu:=fu) (d:=d+1) [110,117,108,108] (ByteArray.mk #[(110:UInt8),(117:UInt8),(108:UInt8),(108:UInt8)]) rfl (fun x hx=>by simp at hx;omega) (by decide) h ht
 obtain⟨rn,hrn,en,hn⟩:=Ajn (fu:=fu) (d:=d) h ht Eu;have en2:Ae C0 prog fu (d+4) 85 [.pbox (B1 t l)]=some ⟨[.sc (.bool (F9 l).isSome)],[B1 t rn]⟩:=en;unfold Axs;cases q1:Ao [116,114,117,101] l with
 |some r=>
  rw[q1] at a1;have a1':Ae C0 prog fu (d+4) 65 [.pbox (B1 t l),.sc (.string (ByteArray.mk #[(116:UInt8),(114:UInt8),(117:UInt8),(101:UInt8)]))]=some ⟨[.sc (.bool true)],[B1 t r]⟩:=a1;refine⟨_,er.trans ?_,Av Aki q1,rfl⟩
  try unfold Ac
  repeat first
   |((with_reducible first|apply A5|apply Ax|apply A6|apply Az|apply A9|apply Aw|apply A4|apply A7);· first|with_reducible rfl|(simp (disch:=omega) only[gT,pk,b1,b2,b3,a1']<;>first|with_reducible rfl|omega)|omega)
   |(with_reducible apply A8;· first|with_reducible rfl|(simp (disch:=omega) only[gF,pk,b1,b2,b3,a1']<;>omega))
  try simp (disch:=omega) only[pk,b1,b2,b3,a1']
  rfl
 |none=>
  rw[q1] at a1;have a1':Ae C0 prog fu (d+4) 65 [.pbox (B1 t l),.sc (.string (ByteArray.mk #[(116:UInt8),(114:UInt8),(117:UInt8),(101:UInt8)]))]=some ⟨[.sc (.bool false)],[B1 t l]⟩:=a1;cases q2:Ao [102,97,108,115,101] l with
  |some r=>
   rw[q2] at a2;have a2':Ae C0 prog fu (d+4) 65 [.pbox (B1 t l),.sc (.string (ByteArray.mk #[(102:UInt8),(97:UInt8),(108:UInt8),(115:UInt8),(101:UInt8)]))]=some ⟨[.sc (.bool true)],[B1 t r]⟩:=a2;refine⟨_,er.trans ?_,Av Aki q2,rfl⟩
   try unfold Ac
   repeat first
    |((with_reducible first|apply A5|apply Ax|apply A6|apply Az|apply A9|apply Aw|apply A4|apply A7);· first|with_reducible rfl|(simp (disch:=omega) only[gT,pk,b1,b2,b3,a1',a2']<;>first|with_reducible rfl|omega)|omega)
    |(with_reducible apply A8;· first|with_reducible rfl|(simp (disch:=omega) only[gF,pk,b1,b2,b3,a1',a2']<;>omega))
   try simp (disch:=omega) only[pk,b1,b2,b3,a1',a2']
   rfl
  |none=>
   rw[q2] at a2;have a2':Ae C0 prog fu (d+4) 65 [.pbox (B1 t l),.sc (.string (ByteArray.mk #[(102:UInt8),(97:UInt8),(108:UInt8),(115:UInt8),(101:UInt8)]))]=some ⟨[.sc (.bool false)],[B1 t l]⟩:=a2;cases q3:Ao [110,117,108,108] l with
   |some r=>
    rw[q3] at a3;have a3':Ae C0 prog fu (d+4) 65 [.pbox (B1 t l),.sc (.string (ByteArray.mk #[(110:UInt8),(117:UInt8),(108:UInt8),(108:UInt8)]))]=some ⟨[.sc (.bool true)],[B1 t r]⟩:=a3;refine⟨_,er.trans ?_,Av Aki q3,rfl⟩
    try unfold Ac
    repeat first
     |((with_reducible first|apply A5|apply Ax|apply A6|apply Az|apply A9|apply Aw|apply A4|apply A7);· first|with_reducible rfl|(simp (disch:=omega) only[gT,pk,b1,b2,b3,a1',a2',a3']<;>first|with_reducible rfl|omega)|omega)
     |(with_reducible apply A8;· first|with_reducible rfl|(simp (disch:=omega) only[gF,pk,b1,b2,b3,a1',a2',a3']<;>omega))
    try simp (disch:=omega) only[pk,b1,b2,b3,a1',a2',a3']
    rfl
   |none=>
    rw[q3] at a3;have a3':Ae C0 prog fu (d+4) 65 [.pbox (B1 t l),.sc (.string (ByteArray.mk #[(110:UInt8),(117:UInt8),(108:UInt8),(108:UInt8)]))]=some ⟨[.sc (.bool false)],[B1 t l]⟩:=a3;cases q4:F9 l with
    |some r=>
     rw[q4] at en2;have:=hn r q4;subst this;have en3:Ae C0 prog fu (d+4) 85 [.pbox (B1 t l)]=some ⟨[.sc (.bool true)],[B1 t rn]⟩:=en2;refine⟨_,er.trans ?_,Ah4 h.B q4,rfl⟩
     try unfold Ac
     repeat first
      |((with_reducible first|apply A5|apply Ax|apply A6|apply Az|apply A9|apply Aw|apply A4|apply A7);· first|with_reducible rfl|(simp (disch:=omega) only[gT,pk,b1,b2,b3,a1',a2',a3',en3]<;>first|with_reducible rfl|omega)|omega)
      |(with_reducible apply A8;· first|with_reducible rfl|(simp (disch:=omega) only[gF,pk,b1,b2,b3,a1',a2',a3',en3]<;>omega))
     try simp (disch:=omega) only[pk,b1,b2,b3,a1',a2',a3',en3]
     rfl
    |none=>
     rw[q4] at en2;have en3:Ae C0 prog fu (d+4) 85 [.pbox (B1 t l)]=some ⟨[.sc (.bool false)],[B1 t rn]⟩:=en2;refine⟨_,er.trans ?_,by decide,0,⟨#[]⟩,false,rn,hrn,rfl⟩
     try unfold Ac
     repeat first
      |((with_reducible first|apply A5|apply Ax|apply A6|apply Az|apply A9|apply Aw|apply A4|apply A7);· first|with_reducible rfl|(simp (disch:=omega) only[gT,pk,b1,b2,b3,a1',a2',a3',en3]<;>first|with_reducible rfl|omega)|omega)
      |(with_reducible apply A8;· first|with_reducible rfl|(simp (disch:=omega) only[gF,pk,b1,b2,b3,a1',a2',a3',en3]<;>omega))
     try simp (disch:=omega) only[pk,b1,b2,b3,a1',a2',a3',en3]
theorem Arj (k:Nat)(r:List Int):Dj k (34::r)=match Ev (34::r) with|(some s,q)=>.ok ((4,s,false),q)|(none,_)=>.error 2:=by
 have e:Dj k (34::r)=match Rr (34::r) with|none=>.error 2|some (s,r')=>.ok ((4,s,false),r'):=by
  cases k<;>rfl
 rw[e];unfold Rr;rcases Ev (34::r) with⟨o,q⟩;cases o<;>rfl
theorem UY {t:ByteArray}(ht:t.size<=1000000)(k:Nat){D:Int}{l:List Int}(h:Dm t (34::l)):∃res,Ae C0 prog fu (d+5) 67 [.pbox (B1 t (34::l)),.sc (.int .i64 D)]=some res∧Aau t (34::l) (Dj k (34::l)) res:=by
 have er:=B7 (p:=none) fu (d+4) t (Bz t (34::l):Int) D;have pk:Ae C0 prog fu (d+4) 83 [.pbox (B1 t (34::l))]=some ⟨[.sc (.int .u8 34)],[B1 t (34::l)]⟩:=Nj (xs:=xs0) (d:=d+3) h;have F8:Ae C0 prog fu (d+4) 66 [.pbox (B1 t (34::l))]=_:=Ar8 (d:=d+3) h ht;have QO:=Ho h;have NL:=Ho (Dm.self h.B);have b1:((34:Int)==(123:Int))=false:=rfl;have b2:((34:Int)==(91:Int))=false:=rfl;have b3:((34:Int)==(34:Int))=true:=rfl;rw[Arj];rcases hx:Ev (34::l) with⟨o,q⟩;rw[hx] at F8 QO NL;cases o with
 |none=>
  have YU:Ae C0 prog fu (d+4) 66 [.pbox (B1 t (34::l))]=some ⟨[.sc (.string (Ab [])),.sc (.bool false)],[B1 t q]⟩:=F8;refine⟨_,er.trans ?_,by decide,0,⟨#[]⟩,false,q,QO,rfl⟩
  try unfold Ac
  repeat first
   |((with_reducible first|apply A5|apply Ax|apply A6|apply Az|apply A9|apply Aw|apply A4|apply A7);· first|with_reducible rfl|(simp (disch:=omega) only[gT,pk,b1,b2,b3,YU]<;>first|with_reducible rfl|omega)|omega)
   |(with_reducible apply A8;· first|with_reducible rfl|(simp (disch:=omega) only[gF,pk,b1,b2,b3,YU]<;>omega))
  try simp (disch:=omega) only[pk,b1,b2,b3,YU]
 |some s=>
  have YU:Ae C0 prog fu (d+4) 66 [.pbox (B1 t (34::l))]=some ⟨[.sc (.string (Ab s)),.sc (.bool true)],[B1 t q]⟩:=F8;refine⟨_,er.trans ?_,NL,rfl⟩
  try unfold Ac
  repeat first
   |((with_reducible first|apply A5|apply Ax|apply A6|apply Az|apply A9|apply Aw|apply A4|apply A7);· first|with_reducible rfl|(simp (disch:=omega) only[gT,pk,b1,b2,b3,YU]<;>first|with_reducible rfl|omega)|omega)
   |(with_reducible apply A8;· first|with_reducible rfl|(simp (disch:=omega) only[gF,pk,b1,b2,b3,YU]<;>omega))
  try simp (disch:=omega) only[pk,b1,b2,b3,YU]
theorem Asg {t:ByteArray}(ht:t.size<=1000000)(Eu:t.size+1<=fu):∀(k:Nat)(D:Int),D+k=9->1<=D->∀l,Dm t l->∃res,Ae C0 prog fu (d+2*k+5) 67 [.pbox (B1 t l),.sc (.int .i64 D)]=some res∧Aau t l (Dj k l) res:=by
 intro k
 induction k with
 |zero=>
  intro D hD h1 l h;by_cases g1:RA l=123
  ·cases l with
   |nil=>cases g1
   |cons c l=>
    have g2:c=123:=g1;subst g2;have er:=B7 (p:=none) fu (d+4) t (Bz t (123::l):Int) D;have pk:Ae C0 prog fu (d+4) 83 [.pbox (B1 t (123::l))]=some ⟨[.sc (.int .u8 123)],[B1 t (123::l)]⟩:=Nj (xs:=xs0) (d:=d+3) h;have b1:((123:Int)==(123:Int))=true:=rfl;have b2:decide (D>8)=true:=by simp;omega
    refine⟨_,er.trans ?_,(by decide:(5:Int)≠0),0,⟨#[]⟩,false,123::l,h,rfl⟩
    try unfold Ac
    repeat first
     |((with_reducible first|apply A5|apply Ax|apply A6|apply Az|apply A9|apply Aw|apply A4|apply A7);· first|with_reducible rfl|(simp (disch:=omega) only[gT,pk,b1,b2]<;>first|with_reducible rfl|omega)|omega)
     |(with_reducible apply A8;· first|with_reducible rfl|(simp (disch:=omega) only[gF,pk,b1,b2]<;>omega))
    try simp (disch:=omega) only[pk,b1,b2]
  ·by_cases g2:RA l=91
   ·cases l with
    |nil=>cases g2
    |cons c l=>
     have g3:c=91:=g2;subst g3;have er:=B7 (p:=none) fu (d+4) t (Bz t (91::l):Int) D;have pk:Ae C0 prog fu (d+4) 83 [.pbox (B1 t (91::l))]=some ⟨[.sc (.int .u8 91)],[B1 t (91::l)]⟩:=Nj (xs:=xs0) (d:=d+3) h;have b0:((91:Int)==(123:Int))=false:=rfl;have b1:((91:Int)==(91:Int))=true:=rfl;have b2:decide (D>8)=true:=by simp;omega
     refine⟨_,er.trans ?_,(by decide:(5:Int)≠0),0,⟨#[]⟩,false,91::l,h,rfl⟩
     try unfold Ac
     repeat first
      |((with_reducible first|apply A5|apply Ax|apply A6|apply Az|apply A9|apply Aw|apply A4|apply A7);· first|with_reducible rfl|(simp (disch:=omega) only[gT,pk,b0,b1,b2]<;>first|with_reducible rfl|omega)|omega)
      |(with_reducible apply A8;· first|with_reducible rfl|(simp (disch:=omega) only[gF,pk,b0,b1,b2]<;>omega))
     try simp (disch:=omega) only[pk,b0,b1,b2]
   ·by_cases g3:RA l=34
    ·cases l with
     |nil=>cases g3
     |cons c l=>
      have g4:c=34:=g3;subst g4;exact UY ht 0 h
    ·rw[MG 0 g1 g2 g3];exact Al6 ht Eu h g1 g2 g3
 |succ k ih=>
  intro D hD h1 l h;have HV:=ih (D+1) (by omega) (by omega)
  by_cases g1:RA l=123
  ·cases l with
   |nil=>cases g1
   |cons c l=>
    have g2:c=123:=g1;subst g2;have er:=B7 (p:=none) fu (d+2*(k+1)+4) t (Bz t (123::l):Int) D;have pk:Ae C0 prog fu (d+2*(k+1)+4) 83 [.pbox (B1 t (123::l))]=some ⟨[.sc (.int .u8 123)],[B1 t (123::l)]⟩:=Nj (xs:=xs0) (d:=d+2*(k+1)+3) h;have b1:((123:Int)==(123:Int))=true:=rfl;have b2:decide (D>8)=false:=by simp;omega
    have w1:wrap .i64 (D+1)=D+1:=Au (by omega) (by omega)
    obtain⟨res,e5,h5⟩:=A23 (fu:=fu) (d:=d+2*k+2) (D:=D+1) ht Eu (Dj k) HV h;have e6:Ae C0 prog fu (d+2*(k+1)+4) 43 [.pbox (B1 t (123::l)),.sc (.int .i64 (D+1)),.sc (.map none)]=some res:=e5;have ev:Dj (k+1) (123::l)=match V8 (Dj k) false l with | .error e=>.error e | .ok (_,r')=>.ok ((6,[],false),r'):=rfl
    rw[ev];cases ho:V8 (Dj k) false l with
    |error e=>
     rw[ho] at h5;obtain⟨he,q,hq,rfl⟩:=h5;refine⟨_,er.trans ?_,he,6,⟨#[]⟩,false,q,hq,rfl⟩
     try unfold Ac
     repeat first
      |((with_reducible first|apply A5|apply Ax|apply A6|apply Az|apply A9|apply Aw|apply A4|apply A7);· first|with_reducible rfl|(simp (disch:=omega) only[gT,pk,b1,b2,w1,e6]<;>first|with_reducible rfl|omega)|omega)
      |(with_reducible apply A8;· first|with_reducible rfl|(simp (disch:=omega) only[gF,pk,b1,b2,w1,e6]<;>omega))
     try simp (disch:=omega) only[pk,b1,b2,w1,e6]
    |ok x=>
     obtain⟨ms,q⟩:=x;rw[ho] at h5;obtain⟨hq,rfl⟩:=h5;refine⟨_,er.trans ?_,(Dm.self h.B).tail.trans hq,rfl⟩
     try unfold Ac
     repeat first
      |((with_reducible first|apply A5|apply Ax|apply A6|apply Az|apply A9|apply Aw|apply A4|apply A7);· first|with_reducible rfl|(simp (disch:=omega) only[gT,pk,b1,b2,w1,e6]<;>first|with_reducible rfl|omega)|omega)
      |(with_reducible apply A8;· first|with_reducible rfl|(simp (disch:=omega) only[gF,pk,b1,b2,w1,e6]<;>omega))
     try simp (disch:=omega) only[pk,b1,b2,w1,e6]
     rfl
  ·by_cases g2:RA l=91
   ·cases l with
    |nil=>cases g2
    |cons c l=>
     have g3:c=91:=g2;subst g3;have er:=B7 (p:=none) fu (d+2*(k+1)+4) t (Bz t (91::l):Int) D;have pk:Ae C0 prog fu (d+2*(k+1)+4) 83 [.pbox (B1 t (91::l))]=some ⟨[.sc (.int .u8 91)],[B1 t (91::l)]⟩:=Nj (xs:=xs0) (d:=d+2*(k+1)+3) h;have b0:((91:Int)==(123:Int))=false:=rfl;have b1:((91:Int)==(91:Int))=true:=rfl;have b2:decide (D>8)=false:=by simp;omega
     have w1:wrap .i64 (D+1)=D+1:=Au (by omega) (by omega)
     obtain⟨res,e5,h5⟩:=A5v (fu:=fu) (d:=d+2*k+2) (D:=D+1) ht Eu (Dj k) HV h;have e6:Ae C0 prog fu (d+2*(k+1)+4) 84 [.pbox (B1 t (91::l)),.sc (.int .i64 (D+1))]=some res:=e5;have ev:Dj (k+1) (91::l)=match RT (Dj k) l with | .error e=>.error e | .ok r'=>.ok ((5,[],false),r'):=rfl
     rw[ev];cases ho:RT (Dj k) l with
     |error e=>
      rw[ho] at h5;obtain⟨he,q,hq,rfl⟩:=h5;refine⟨_,er.trans ?_,he,5,⟨#[]⟩,false,q,hq,rfl⟩
      try unfold Ac
      repeat first
       |((with_reducible first|apply A5|apply Ax|apply A6|apply Az|apply A9|apply Aw|apply A4|apply A7);· first|with_reducible rfl|(simp (disch:=omega) only[gT,pk,b0,b1,b2,w1,e6]<;>first|with_reducible rfl|omega)|omega)
       |(with_reducible apply A8;· first|with_reducible rfl|(simp (disch:=omega) only[gF,pk,b0,b1,b2,w1,e6]<;>omega))
      try simp (disch:=omega) only[pk,b0,b1,b2,w1,e6]
     |ok q=>
      rw[ho] at h5;obtain⟨hq,rfl⟩:=h5;refine⟨_,er.trans ?_,(Dm.self h.B).tail.trans hq,rfl⟩
      try unfold Ac
      repeat first
       |((with_reducible first|apply A5|apply Ax|apply A6|apply Az|apply A9|apply Aw|apply A4|apply A7);· first|with_reducible rfl|(simp (disch:=omega) only[gT,pk,b0,b1,b2,w1,e6]<;>first|with_reducible rfl|omega)|omega)
       |(with_reducible apply A8;· first|with_reducible rfl|(simp (disch:=omega) only[gF,pk,b0,b1,b2,w1,e6]<;>omega))
      try simp (disch:=omega) only[pk,b0,b1,b2,w1,e6]
      rfl
   ·by_cases g3:RA l=34
    ·cases l with
     |nil=>cases g3
     |cons c l=>
      have g4:c=34:=g3;subst g4;exact UY (d:=d+2*(k+1)) ht (k+1) h
    ·rw[MG (k+1) g1 g2 g3];exact Al6 (d:=d+2*(k+1)) ht Eu h g1 g2 g3
end
end
section
open Go.Proofs.Tryz (prog)
open Go.IntKind (wrap)
set_option maxRecDepth 1000000
open Go.Shelf Go.RowKit Go.Lib
theorem Aae (G:Xg)(args:List PV)(res:Ap)(h:UT args=some res):Dh G prog 72 args res:=by
 refine⟨⟨_,Tryz.func72,by kernel_rfl⟩,fun w Y bt us hi _ _=>?_⟩
 unfold UT at h;split at h
 rotate_left
 ·cases h
 rename_i s p;cases hq:(Nat.ble p.size 1000&&p.data.toList.all (fun b=>decide (b.toNat<128))&&decide (s.size<=1000000000))
 ·rw[hq] at h;cases h
 rw[hq,cond_true] at h;cases h;rw[Bool.and_eq_true,Bool.and_eq_true] at hq;obtain⟨⟨h1,h2⟩,h3⟩:=hq;have h1:=Nat.le_of_ble_eq_true h1;have h3:=of_decide_eq_true h3;have ps:=hi.args
 match us,ps with
 |[u1,u2],ps=>
  obtain⟨⟨_,p1⟩,⟨_,p2⟩,_⟩:=ps;have e1:u1=.string s:=Ay.val (show Ay w _ (.sc (.string s)) u1 from p1)
  have e2:u2=.string p:=Ay.val (show Ay w _ (.sc (.string p)) u2 from p2)
  subst e1 e2;refine (Any.strings_Trim_laid YJ (by kernel_rfl) s p w (by omega) (by omega) (ascii_of_all h2)).mono ?_
  rintro e w' ⟨rfl,hb⟩
  exact⟨[.string ⟨(Lib.trimS s.data.toList p.data.toList).toArray⟩],fun _=>none,rfl,Qc hb rfl⟩
 |[],ps=>exact ps.elim
 |[_],ps=>exact ps.2.elim
 |_::_::_::_,ps=>exact ps.2.2.elim
end
section
open Go.Proofs.Tryz (prog)
open Go.IntKind (wrap)
set_option maxRecDepth 1000000
open Go.Shelf Go.RowKit Go.Lib
def A2k:Go.Shelf.Ren:=⟨fun|196=>27|259=>41|n=>n,fun|0=>0|3=>3|4=>4|5=>5|9=>9|12=>12|46=>59|53=>61|119=>80|138=>82|139=>83|n=>n,fun|3=>0|4=>1|n=>n⟩
theorem laysVS:Lays.n196 prog A2k:={
 mixed:=by kernel_rfl
 f196:=Tryz.func27.trans (congrArg some (by kernel_rfl))
 f259:=Tryz.func41.trans (congrArg some (by kernel_rfl))
 t0:=Tryz.underlying0
 a0:=Tryz.isAgg0
 z0:=Tryz.sizeOf0
 v0:=Tryz.zeroValue0
 t3:=Tryz.underlying3
 a3:=Tryz.isAgg3
 z3:=Tryz.sizeOf3
 v3:=Tryz.zeroValue3
 t4:=Tryz.underlying4
 a4:=Tryz.isAgg4
 z4:=Tryz.sizeOf4
 v4:=Tryz.zeroValue4
 t5:=Tryz.underlying5
 a5:=Tryz.isAgg5
 z5:=Tryz.sizeOf5
 v5:=Tryz.zeroValue5
 t9:=Tryz.underlying9
 a9:=Tryz.isAgg9
 z9:=Tryz.sizeOf9
 v9:=Tryz.zeroValue9
 t12:=Tryz.underlying12
 a12:=Tryz.isAgg12
 z12:=Tryz.sizeOf12
 v12:=Tryz.zeroValue12
 t46:=Tryz.underlying59
 a46:=Tryz.isAgg59
 z46:=Tryz.sizeOf59
 v46:=Tryz.zeroValue59
 t53:=Tryz.underlying61
 a53:=Tryz.isAgg61
 z53:=Tryz.sizeOf61
 v53:=Tryz.zeroValue61
 t119:=Tryz.underlying80
 a119:=Tryz.isAgg80
 z119:=Tryz.sizeOf80
 t138:=Tryz.underlying82
 a138:=Tryz.isAgg82
 z138:=Tryz.sizeOf82
 v138:=Tryz.zeroValue82
 t139:=Tryz.underlying83
 a139:=Tryz.isAgg83
 z139:=Tryz.sizeOf83
 v139:=Tryz.zeroValue83
 g3:=by kernel_rfl
 g4:=by kernel_rfl }
def gU:Xg:=⟨fun b=>b=0∨b=1,fun w=>0<w.heap.size∧1<w.heap.size∧Lib.Utf8Tabs 0 1 w,fun w w' h ⟨s1,s2,h1,h2⟩=>by
 have e1:=h _ (.inl rfl) s1;have e2:=h _ (.inr rfl) s2
 have hs:∀b,b<w.heap.size->w'.heap[b]?=w.heap[b]?->b<w'.heap.size:=by
  intro b hb he;rw[Array.getElem?_eq_getElem hb] at he;rcases Nat.lt_or_ge b w'.heap.size with q|q
  ·exact q
  ·rw[Array.getElem?_eq_none q] at he;cases he
 refine⟨hs _ s1 e1,hs _ s2 e2,fun c hc=>?_,fun i hi=>?_⟩
 ·have:=h1 c hc;unfold World.cell? at this ⊢;simp only[e1] at this ⊢;exact this
 ·obtain⟨a,b⟩:=h2 i hi;unfold World.cell? at a b ⊢;simp only[e2] at a b ⊢;exact⟨a,b⟩⟩
theorem UV (args:List PV)(res:Ap)(h:Aa9 args=some res):Dh gU prog 27 args res:=by
 refine⟨⟨_,Tryz.func27,by kernel_rfl⟩,fun w Y bt us hi hok _=>?_⟩
 unfold Aa9 at h;split at h
 rotate_left
 ·cases h
 rename_i s;cases hq:decide (s.size<=9223372036854775807)
 ·rw[hq] at h;cases h
 rw[hq] at h;cases h;have hs:=of_decide_eq_true hq;have ps:=hi.args
 match us,ps with
 |[u],ps=>
  have hu:u=.string s:=by
   have:Ay w _ (.sc (.string s)) u:=ps.1.2;exact this.val
  subst hu;refine (Any.utf8_ValidString laysVS s w hs hok.2.2).mono ?_
  rintro e w' ⟨rfl,hb⟩
  exact⟨[.bool (Lib.validD s.data.toList)],fun _=>none,rfl,Qc hb rfl⟩
 |[],ps=>exact ps.elim
 |_::_::_,ps=>exact ps.2.elim
theorem As1 {p:Option (List PV->Option Ap)} (hp:∀g,p=some g->∀args res,g args=some res->Dh gU prog 13 args res):KF gU prog (CP p):=by
 intro f g args res hx hg;have hx0:(bif Yw.any (Nat.beq f) then none else SM p f)=some g:=hx;cases hb:Yw.any (Nat.beq f)
 rotate_left
 ·rw[hb,cond_true] at hx0;cases hx0
 rw[hb,cond_false] at hx0;unfold SM at hx0;cases hP:Nat.beq f 13
 rotate_left
 ·rw[hP,cond_true] at hx0;rw[Nat.eq_of_beq_eq_true hP];exact hp g hx0 args res hg
 rw[hP,cond_false] at hx0;have Tg:Akk f=some g:=hx0;unfold Akk at Tg;cases h1:Nat.beq f 27
 rotate_left
 ·rw[h1,cond_true] at Tg;cases Tg;rw[Nat.eq_of_beq_eq_true h1];exact UV args res hg
 rw[h1,cond_false] at Tg;cases h6:Nat.beq f 79
 rotate_left
 ·rw[h6,cond_true] at Tg;cases Tg;rw[Nat.eq_of_beq_eq_true h6];exact Adi gU args res hg
 rw[h6,cond_false] at Tg;cases h7:Nat.beq f 108
 rotate_left
 ·rw[h7,cond_true] at Tg;cases Tg;rw[Nat.eq_of_beq_eq_true h7];exact Ae1 gU args res hg
 rw[h7,cond_false] at Tg;cases hA:Nat.beq f 72
 rotate_left
 ·rw[hA,cond_true] at Tg;cases Tg;rw[Nat.eq_of_beq_eq_true hA];exact Aae gU args res hg
 rw[hA,cond_false] at Tg;cases h8:Nat.beq f 31
 rotate_left
 ·rw[h8,cond_true] at Tg;cases Tg;rw[Nat.eq_of_beq_eq_true h8];exact Aeq gU args res hg
 rw[h8,cond_false] at Tg;cases h9:Nat.beq f 66
 rotate_left
 ·rw[h9,cond_true] at Tg;cases Tg;rw[Nat.eq_of_beq_eq_true h9];exact Adj gU args res hg
 rw[h9,cond_false] at Tg;cases h3:Nat.beq f 1000000
 ·rw[h3,cond_false] at Tg;cases Tg
 ·rw[h3,cond_true] at Tg;cases Tg;cases hg
theorem Awk:KF gU prog C0:=As1 (fun _ h=>by cases h)
end
section
open Go.Proofs.Tryz (prog)
open Go.IntKind (wrap)
open Go Go.RowKit
def S1 (v:JV):Value:=.agg #[.int .i64 v.1,.string (Ab v.2.1),.bool v.2.2]
def Jb:Nat->List (List Int × JV)->List MapEntry
 |_,[]=>[]
 |i,m::r=>{ key:=.string (Ab m.1),val:=S1 m.2,born:=i }::Jb (i+1) r
theorem MI:∀(i:Nat)(a b:List (List Int × JV)),Jb i (a++b)=Jb i a++Jb (i+a.length) b
 |_,[],_=>rfl
 |i,m::r,b=>by
  show _::Jb (i+1) (r++b)=_;rw[MI (i+1) r b];show _=_::(Jb (i+1) r++Jb (i+(r.length+1)) b);rw[show i+1+r.length=i+(r.length+1) by omega]
def Hx (nm:List Int)(ms:List (List Int × JV)):Option JV:=(ms.find? fun m=>m.1==nm).map (·.2)
theorem CK {a b:List Int}(ha:Cx a)(hb:Cx b)(h:Ab a=Ab b):a=b:=by
 have:=congrArg Fn h
 rwa [Cd ha,Cd hb] at this
theorem Aha (a b:ByteArray):(a==b)=decide (a=b):=by
 have e:(a==b)=(a.data==b.data):=by
  cases a;cases b;rfl
 rw[e,Bool.eq_iff_iff,beq_iff_eq,decide_eq_true_iff];constructor
 ·intro h;cases a;cases b;exact congrArg ByteArray.mk h
 ·intro h;rw[h]
theorem S2 {nm:List Int}(hn:Cx nm):∀(ms:List (List Int × JV)) (i j:Nat),(∀m∈ms,Cx m.1)->∃r,Instr.findNow .string (.string (Ab nm)) (Jb i ms) j=some r∧(match Hx nm ms with|none=>r=none|some v=>∃k,r=some (k,S1 v))
 |[],_,_,_=>⟨none,rfl,rfl⟩
 |m::r,i,j,hB=>by
  by_cases h:m.1=nm
  ·refine⟨some (j,S1 m.2),?_,?_⟩
   ·show (match Instr.sameNow .string (.string (Ab nm)) (.string (Ab m.1)) with|some true=>some (some (j,S1 m.2))|some false=>Instr.findNow .string (.string (Ab nm)) (Jb (i+1) r) (j+1)|none=>none)=_
    have e:Instr.sameNow .string (.string (Ab nm)) (.string (Ab m.1))=some true:=by
     show some (Ab nm==Ab m.1)=some true;rw[h,Aha];simp
    rw[e]
   ·have e:Hx nm (m::r)=some m.2:=by
     unfold Hx;rw[List.find?_cons_of_pos (by simp[h])]
     rfl
    rw[e];exact⟨j,rfl⟩
  ·obtain⟨q,hq,hl⟩:=S2 hn r (i+1) (j+1) fun m hm=>hB m (List.mem_cons_of_mem _ hm)
   refine⟨q,?_,?_⟩
   ·show (match Instr.sameNow .string (.string (Ab nm)) (.string (Ab m.1)) with|some true=>some (some (j,S1 m.2))|some false=>Instr.findNow .string (.string (Ab nm)) (Jb (i+1) r) (j+1)|none=>none)=_
    have e:Instr.sameNow .string (.string (Ab nm)) (.string (Ab m.1))=some false:=by
     show some (Ab nm==Ab m.1)=some false;have:Ab nm≠Ab m.1:=fun e=>h (CK hn (hB m (List.mem_cons_self ..)) e).symm
     rw[Aha];simp[this]
    rw[e];exact hq
   ·have e:Hx nm (m::r)=Hx nm r:=by
     unfold Hx;rw[List.find?_cons_of_neg (by simp[h])]
    rw[e];exact hl
def FS (w:World)(b:Nat)(ms:List (List Int × JV)):Prop:=w.heap[b]?=some (.map (Jb 0 ms).toArray ms.length)
theorem FF {w:World}{b:Nat}{ms:List (List Int × JV)} (h:FS w b ms):(getObj b).run prog w=.ok (.map (Jb 0 ms).toArray ms.length) w:=by
 simp[getObj,Sem.run,show w.heap[b]?=_ from h]
def RS (nm:List Int)(ms:List (List Int × JV)):Value:=match Hx nm ms with|some v=>S1 v|none=>S1 (0,[],false)
theorem EW {w:World}{b:Nat}{ms:List (List Int × JV)} (h:FS w b ms)(hB:∀m∈ms,Cx m.1){nm:List Int}(hn:Cx nm)(ok:Bool):(Instr.lookup 55 (.map (some b)) (.string (Ab nm)) ok).run prog w=.ok (if ok then .tuple #[RS nm ms,.bool (Hx nm ms).isSome] else RS nm ms) w:=by
 have hu:=run_underlying (w:=w) Tryz.underlying55;have hk:=run_underlying (w:=w) Tryz.underlying9;have hck:∀c (n:Nat),(Instr.checkKey c (n+1) 9 (.string (Ab nm))).run prog w=.ok () w:=fun c n=>by simp[Instr.checkKey,hk]
 have hc:∀c,(Instr.checkKey c 10000 9 (.string (Ab nm))).run prog w=.ok () w:=fun c=>hck c 9999
 obtain⟨r,hr,hl⟩:=S2 hn ms 0 0 hB;have hz:(zeroValue 89).run prog w=.ok (S1 (0,[],false)) w:=Tryz.zeroValue89 w;unfold RS;cases hq:Hx nm ms with
 |none=>
  rw[hq] at hl;simp only at hl;subst hl;cases ok<;>simp[Instr.lookup,hu,hk,FF h,hc,Instr.findKey,hr,hz]<;>rfl
 |some v=>
  rw[hq] at hl;obtain⟨k,hl⟩:=hl;subst hl;cases ok<;>simp[Instr.lookup,hu,hk,FF h,hc,Instr.findKey,hr]
theorem XH {w:World}{b:Nat}{ms:List (List Int × JV)} (h:FS w b ms)(hB:∀m∈ms,Cx m.1){nm:List Int}(hn:Cx nm)(Y2:Hx nm ms=none)(v:JV):(Instr.mapUpdate 55 (.map (some b)) (.string (Ab nm)) (S1 v)).run prog w=.ok () { w with heap:=w.heap.setIfInBounds b (.map (Jb 0 (ms++[(nm,v)])).toArray (ms++[(nm,v)]).length) }:=by
 have hu:=run_underlying (w:=w) Tryz.underlying55;have hk:=run_underlying (w:=w) Tryz.underlying9;have hck:∀c (n:Nat),(Instr.checkKey c (n+1) 9 (.string (Ab nm))).run prog w=.ok () w:=fun c n=>by simp[Instr.checkKey,hk]
 have hc:∀c,(Instr.checkKey c 10000 9 (.string (Ab nm))).run prog w=.ok () w:=fun c=>hck c 9999
 obtain⟨r,hr,hl⟩:=S2 hn ms 0 0 hB;rw[Y2] at hl;simp only at hl;subst hl
 have e:Jb 0 (ms++[(nm,v)])=Jb 0 ms++[{ key:=.string (Ab nm),val:=S1 v,born:=ms.length }]:=by
  rw[MI];show _++[_]=_;rw[WS]
 have hs:∀o,(setObj b o).run prog w=.ok () { w with heap:=w.heap.setIfInBounds b o }:=fun o=>by
  simp[setObj,Sem.run,show w.heap[b]?=_ from h]
 rw[e];simp[Instr.mapUpdate,hu,hk,FF h,hc,Instr.findKey,hr,hs]
end
section
open Go.Proofs.Tryz (prog)
open Go.IntKind (wrap)
set_option maxRecDepth 20000
open Go Go.RowKit
structure Lz (w:World) (b:Nat):Prop where
 ok:gU.ok w
 bl:∀k,gU.bl k->k<w.heap.size∧k≠b
theorem GH {f:FuncId}{t:ByteArray}{r r':List Int}{args vals:List PV}{us rs:List Value}{fu d:Nat}(e:Ae C0 prog fu d f (.pbox (B1 t r)::args)=some ⟨vals,[B1 t r']⟩) (ha:Bh HW args us)(hr:Bh HW vals rs)
  {w:World} {b o:Nat} (hU:Lz w b) (h:Zc w b o t r):Calls prog f (.pointer (some ⟨b,o,none⟩)::us).toArray w fun e w'=>e=.returned (H1 rs)∧Zc w' b o t r'∧Ez w w' b o 2:=by
 have hs:Dh gU prog f (.pbox ([Value.string t,.int .i64 (Bz t r:Int)].map .sc)::args) ⟨vals,[[Value.string t,.int .i64 (Bz t r':Int)].map .sc]⟩:=Iy ngR mxR Awk d f _ _ e;refine (KT hs ha hr (w:=w) (b:=b) (o:=o) hU.ok hU.bl h.lt ?_ ?_).mono ?_
 ·intro j v hv
  match j,hv with
  |0,hv=>cases hv;exact h.c0
  |1,hv=>cases hv;exact h.c1
 ·intro j hj
  match j,hj with
  |0,_=>exact h.f0
  |1,_=>exact h.f1
 ·rintro e w' ⟨rfl,_,h4,h5,hk⟩
  exact⟨rfl,⟨Nat.lt_of_lt_of_le h.lt hk.size,h4 0 _ rfl,h4 1 _ rfl,h5 0 (Nat.zero_lt_succ _),h5 1 (Nat.succ_lt_succ (Nat.zero_lt_succ _))⟩,hk⟩
theorem Ih {t:ByteArray}{r:List Int}(hS:Dm t r)(ht:t.size<=1000000){w:World}{b o:Nat}(hU:Lz w b)(h:Zc w b o t r):
  Calls prog 42 #[.pointer (some ⟨b,o,none⟩)] w fun e w'=>e=.returned (.tuple #[])∧Zc w' b o t (A3 r)∧Ez w w' b o 2:=by
 have e:=Rg (fu:=1000001) (d:=0) hS ht (by omega)
 exact GH (us:=[]) (rs:=[]) e trivial trivial hU h
def Aur (t:ByteArray)(r r':List Int)(e:Ending):Prop:=
 match Dj 8 r with
 |.ok (v,q)=>r'=q∧Dm (Ab r) q∧e=.returned (.tuple #[S1 v,.int .i64 0])
 |.error er=>er≠0∧Dm t r'∧∃u:JV,e=.returned (.tuple #[S1 u,.int .i64 er])
theorem Adb {t:ByteArray}{r:List Int}(hS:Dm t r)(ht:t.size<=1000000){w:World}{b o:Nat}(hU:Lz w b)(h:Zc w b o t r):
  Calls prog 67 #[.pointer (some ⟨b,o,none⟩),.int .i64 1] w fun e w'=>∃r',Zc w' b o t r'∧Ez w w' b o 2 ∧
   Aur t r r' e:=by
 unfold Aur;obtain⟨res,e,hr⟩:=Asg (fu:=1000001) (d:=0) ht (by omega) 8 1 (by omega) (by omega) r hS
 cases hv:Dj 8 r with
 |error er=>
  rw[hv] at hr;obtain⟨he,c1,c2,c3,q,hq,rfl⟩:=hr;refine (GH (us:=[.int .i64 1]) (rs:=[.agg #[.int .i64 c1,.string c2,.bool c3],.int .i64 er]) e ⟨.inl rfl,trivial⟩ ⟨.inr ⟨[.int .i64 c1,.string c2,.bool c3],rfl,rfl⟩,.inl rfl,trivial⟩ hU h).mono ?_
  rintro e w' ⟨rfl,ha,hk⟩
  exact⟨q,ha,hk,he,hq,(c1,Fn c2,c3),by unfold S1;simp only[Hl];rfl⟩
 |ok x=>
  obtain⟨v,q⟩:=x;rw[hv] at hr;obtain⟨hq,rfl⟩:=hr;refine (GH (us:=[.int .i64 1]) (rs:=[S1 v,.int .i64 0]) e ⟨.inl rfl,trivial⟩ ⟨.inr ⟨[.int .i64 v.1,.string (Ab v.2.1),.bool v.2.2],rfl,rfl⟩,.inl rfl,trivial⟩ hU h).mono ?_
  rintro e w' ⟨rfl,ha,hk⟩
  exact⟨q,ha,hk,rfl,hq,rfl⟩
end
section
open Go.Proofs.Tryz (prog)
open Go.IntKind (wrap)
set_option maxRecDepth 1000000
open Go Go.RowKit Go.Lib
theorem Lz.keep {w w':World}{b o n:Nat}(h:Lz w b)(k:Ez w w' b o n):Lz w' b:=
 ⟨gU.stable w w' (fun j hj hl=>k.other j hl (h.bl j hj).2) h.ok,fun j hj=>⟨Nat.lt_of_lt_of_le (h.bl j hj).1 k.size,(h.bl j hj).2⟩⟩
theorem FS.keep {w w':World}{b mb o n:Nat}{ms:List (List Int × JV)} (h:FS w mb ms)(k:Ez w w' b o n)(E2:mb≠b):FS w' mb ms:=by
 have Cb:mb<w.heap.size:=(Array.getElem?_eq_some_iff.1 h).1;exact (k.other mb Cb E2).trans h
structure D1 (w w':World) (b mb:Nat):Prop where
 os:w'.os=w.os
 tape:w'.tape=w.tape
 output:w'.output=w.output
 size:w.heap.size<=w'.heap.size
 other:∀k,k<w.heap.size->k≠b->k≠mb->w'.heap[k]?=w.heap[k]?
theorem D1.of {w w':World}{b mb o n:Nat}(k:Ez w w' b o n):D1 w w' b mb:=⟨k.os,k.tape,k.output,k.size,fun j hj hb _=>k.other j hj hb⟩
theorem Lz.below {w w':World}{b:Nat}(h:Lz w b)(k:Below w.heap.size w w'):Lz w' b:=
 ⟨gU.stable w w' (fun j _ hl=>k.block j hl) h.ok,fun j hj=>⟨Nat.lt_of_lt_of_le (h.bl j hj).1 k.size,(h.bl j hj).2⟩⟩
theorem FS.below {w w':World}{mb:Nat}{ms:List (List Int × JV)} (h:FS w mb ms)(k:Below w.heap.size w w'):FS w' mb ms:=by
 have Cb:mb<w.heap.size:=(Array.getElem?_eq_some_iff.1 h).1;exact (k.block mb Cb).trans h
theorem D1.trans {w w' w'':World}{b mb:Nat}(h:D1 w w' b mb)(k:D1 w' w'' b mb):D1 w w'' b mb:=
 ⟨k.os.trans h.os,k.tape.trans h.tape,k.output.trans h.output,Nat.le_trans h.size k.size,fun i hi h1 h2=>(k.other i (Nat.lt_of_lt_of_le hi h.size) h1 h2).trans (h.other i hi h1 h2)⟩
theorem Abd:∀(n:Nat)(out l s q:List Int),Cx out->Cx l->Fq n out l=(some s,q)->Cx s
  |0,_,_,_,_,_,_,h=>by cases h
  |_+1,_,[],_,_,_,_,h=>by cases h
  |n+1,out,c::l,s,q,ho,hl,h=>by
    have e:Fq (n+1) out (c::l)=if c<32 then (none,c::l) else if c=34 then (some out,l) else if c=92 then
        (match Lb l with
         |(some x,r')=>Fq n (out++Lib.encodeRuneZ x) r'
         |(none,r')=>(none,r')) else Fq n (out++[c]) l:=rfl
    have Ru:=Bq hl
    rw[e] at h
    split at h
    · cases h
    split at h
    · cases h;exact ho
    split at h
    · have h2:=Sp (Dm.self Ru.2)
      rcases hq:Lb l with⟨o,r⟩
      rw[hq] at h2 h
      cases o with
      |none=>cases h
      |some x=>exact Abd n _ r s q (Kk ho (fun y hy=>by have:=Lib.encodeRuneZ_byte x y hy;omega)) (by have:=h2.B;exact this) h
    · exact Abd n _ l s q (Kk ho (fun y hy=>by simp at hy;omega)) Ru.2 h
theorem Acs {l s q:List Int}(hl:Cx l)(h:Ev l=(some s,q)):Cx s:=by
 cases l with
 |nil=>cases h
 |cons c l=>
  have e:Ev (c::l)=if c=34 then Fq (l.length+1) [] l else (none,c::l):=rfl
  rw[e] at h;split at h
  ·exact Abd _ _ _ _ _ (fun x hx=>by cases hx) (Bq hl).2 h
  ·cases h
theorem D1.below {w w':World}{b mb:Nat}(k:Below w.heap.size w w'):D1 w w' b mb:=⟨k.os,k.tape,k.output,k.size,fun i hi _ _=>k.block i hi⟩
theorem Ara {P:Program}{t k e:TypeId}(hu:P.underlying t=some (.map k e)) (mb:Nat)(w:World):(binOp .neq t (.map (some mb)) (.map none)).run P w=.ok (.bool true) w:=by
 have h:∀d,(Op.equalIn (d+1) t (.map (some mb)) (.map none)).run P w=.ok false w:=fun d=>by
  simp[Op.equalIn,run_underlying hu]
 simp only[binOp];simp[Op.equal,Op.maxDepth,h 9999]
theorem Ajj (nm:List Int)(ms:List (List Int × JV)):(ms.any fun m=>m.1==nm)=(Hx nm ms).isSome:=by
 unfold Hx
 induction ms with
 |nil=>rfl
 |cons m r ih=>
  by_cases h:m.1=nm
  ·rw[List.find?_cons_of_pos (by simp[h])]
   simp[h]
  ·rw[List.find?_cons_of_neg (by simp[h]),←ih]
   simp[h]
theorem Mz (V:List Int->JR (JV × List Int)) (kp:Bool)(l:List Int):V8 V kp l=match Ao [125] (A3 l) with|some r=>.ok ([],r)|none=>Oh V kp ((A3 l).length+1) [] (A3 l):=by
 unfold V8;rw[Df];cases A3 l with
 |nil=>rfl
 |cons y s=>
  by_cases hy:y=125
  ·subst hy;rfl
  ·simp only[Ct hy];split
   ·rename_i e;injection e with e1 _;exact absurd e1 hy
   ·rfl
theorem FQ {W:World}{mb b:Nat}{ob:Obj}(E2:mb≠b):({ W with heap:=W.heap.setIfInBounds mb ob }:World).heap[b]?=W.heap[b]?:=Array.getElem?_setIfInBounds_ne E2
theorem Zc.put {W:World}{b o mb:Nat}{t:ByteArray}{r:List Int}{ob:Obj}(h:Zc W b o t r)(E2:mb≠b):Zc { W with heap:=W.heap.setIfInBounds mb ob } b o t r:=by
 have e:=FQ (W:=W) (ob:=ob) E2;refine⟨by simpa using h.lt,(World.cell?_of_block e).trans h.c0,(World.cell?_of_block e).trans h.c1,?_,?_⟩
 ·have:=h.f0;unfold World.frozen? at this ⊢;simp only[e] at this ⊢;exact this
 ·have:=h.f1;unfold World.frozen? at this ⊢;simp only[e] at this ⊢;exact this
theorem Lz.put {W:World}{b mb:Nat}{ob:Obj}(h:Lz W b)(hmU:¬gU.bl mb):Lz { W with heap:=W.heap.setIfInBounds mb ob } b:=
 ⟨gU.stable W _ (fun j hj _=>FQ (fun e=>hmU (e ▸ hj))) h.ok,fun j hj=>⟨by simpa using (h.bl j hj).1,(h.bl j hj).2⟩⟩
theorem D1.put {W:World}{b mb:Nat}{ob:Obj}:D1 W { W with heap:=W.heap.setIfInBounds mb ob } b mb:=
 ⟨rfl,rfl,rfl,by simp,fun k _ _ h=>FQ (fun e=>h e.symm)⟩
theorem FS.put {W:World}{mb n:Nat}{ms ms':List (List Int × JV)} (h:FS W mb ms)(hn:ms'.length=n):FS { W with heap:=W.heap.setIfInBounds mb (.map (Jb 0 ms').toArray n) } mb ms':=by
 have Cb:mb<W.heap.size:=(Array.getElem?_eq_some_iff.1 h).1;subst hn;exact Array.getElem?_setIfInBounds_self_of_lt Cb
def RoP (w':World)(mb:Nat)(l r':List Int)(e:Ending):Prop:=
 match Ao [123] l with
 |some l'=>(match V8 (Dj 8) true l' with
  |.ok (ms,q)=>r'=q∧e=.returned (.int .i64 0)∧FS w' mb ms
  |.error er=>er≠0∧e=.returned (.int .i64 er))
 |none=>e=.returned (.int .i64 2)
set_option maxHeartbeats 4000000 in
theorem Apl {t:ByteArray}{l:List Int}(hS:Dm t l)(ht:t.size<=1000000){w:World}{b o mb:Nat}(hU:Lz w b)(h:Zc w b o t l)(hM:FS w mb []) (PX:mb≠b)(hmU:¬gU.bl mb):
  Calls prog 43 #[.pointer (some ⟨b,o,none⟩),.int .i64 1,.map (some mb)] w fun e w'=>D1 w w' b mb∧∃r',Dm t r'∧Zc w' b o t r' ∧
   RoP w' mb l r' e:=by
 have mixed:prog.follows Departure.mixedOrders=true:=by kernel_rfl
 have hac:=Hr hS ht (w0:=[123]) (fun x hx=>by simp at hx;omega) (by decide) h
 go_enter Tryz.func43,Tryz.ntmps43
 go_wp2_with (go_at_call 65;refine hac.mono ?_)
 rintro e W1 ⟨rfl,h1,k1⟩
 cases hq:Ao [123] l with
 |none=>
  rw[hq] at h1
  go_wp2
  go_ret
  exact⟨D1.of k1,l,hS,h1,by unfold RoP;rw[hq];rfl⟩
 |some l'=>
  rw[hq] at h1;have hS1:=Av hS hq;have hsk:=Ih hS1 ht (hU.keep k1) h1
  go_wp2_with (go_at_call 42;refine hsk.mono ?_)
  rintro e W2 ⟨rfl,h2,k2⟩
  have We:=Bu hS1;have A82:=Hr We ht (w0:=[125]) (fun x hx=>by simp at hx;omega) (by decide) h2
  go_wp2_with (go_at_call 65;refine A82.mono ?_)
  rintro e W3 ⟨rfl,h3,k3⟩
  cases Jm:Ao [125] (A3 l') with
  |some r3=>
   rw[Jm] at h3
   go_wp2
   go_ret
   refine⟨((D1.of k1).trans (D1.of k2)).trans (D1.of k3),r3,Av We Jm,h3,?_⟩;unfold RoP;rw[hq];simp only;rw[Mz,Jm];exact⟨rfl,rfl,((hM.keep k1 PX).keep k2 PX).keep k3 PX⟩
  |none=>
   rw[Jm] at h3
   have hRo:∀w' r' e,(match Oh (Dj 8) true ((A3 l').length+1) [] (A3 l') with
     |.ok (ms,q)=>r'=q∧e=.returned (.int .i64 0)∧FS w' mb ms
     |.error er=>er≠0∧e=.returned (.int .i64 er))->RoP w' mb l r' e:=by
    intro w' r' e h;unfold RoP;rw[hq];simp only;rw[Mz,Jm];exact h
   have hU3:=((hU.keep k1).keep k2).keep k3;have hM3:=((hM.keep k1 PX).keep k2 PX).keep k3 PX;have Lk:D1 w W3 b mb:=((D1.of k1).trans (D1.of k2)).trans (D1.of k3)
   go_wp2
   go_loopw [] (fun wr=>∃(n:Nat) (ms:List (List Int × JV)) (x:List Int),Oh (Dj 8) true ((A3 l').length+1) [] (A3 l')=Oh (Dj 8) true n ms x∧x.length<n∧Dm t x∧Zc wr b o t x∧FS wr mb ms∧(∀m∈ms,Cx m.1)∧Lz wr b∧D1 w wr b mb) (fun wr=>match wr.cell? ⟨b,o+1,none⟩ with|some (.int _ p)=>t.size-p.toNat|_=>0)
   case atStart=>
    exact⟨_,[],A3 l',rfl,Nat.lt_succ_self _,We,h3,hM3,(fun m hm=>by cases hm),hU3,Lk⟩
   case round=>
    obtain⟨n,ms,x,F8,hn,hSx,hat,hMx,hBx,hUx,hkx⟩:=hrel;have hrd:Calls prog 66 #[.pointer (some ⟨b,o,none⟩)] wr fun e w'=>e=.returned (.tuple #[.string (Ab ((Ev x).1.getD [])),.bool (Ev x).1.isSome])∧Zc w' b o t (Ev x).2∧Ez wr w' b o 2:=UP hSx ht hat
    go_wp2_with (go_at_call 66;refine hrd.mono ?_)
    rintro e W4 ⟨rfl,h4,k4⟩
    obtain⟨m,rfl⟩:∃m,n=m+1:=⟨n-1,by omega⟩
    rw[Np (Dj 8) true m ms x] at F8;have Uj:D1 w W4 b mb:=hkx.trans (D1.of k4);have DY:=Ho hSx;rcases hx:Ev x with⟨o4,q4⟩;rw[hx] at h4 F8 DY;cases o4 with
    |none=>
     go_wp2
     go_ret
     exact⟨Uj,q4,DY,h4,hRo _ _ _ (by rw[F8];exact⟨by decide,rfl⟩)⟩
    |some nm=>
     have JI:=Acs hSx.B hx;have hM4:=hMx.keep k4 PX;have hlk:=EW hM4 hBx JI true;simp only[Zzm,Ajj] at F8;cases hl:Hx nm ms with
     |some v=>
      rw[hl] at hlk F8;have hvm:RS nm ms=.agg #[.int .i64 v.1,.string (Ab v.2.1),.bool v.2.2]:=by unfold RS;rw[hl];rfl
      rw[hvm] at hlk
      go_wp2
      go_ret
      have Qt:=fun ob=>(Below.refl W4.heap.size W4).alloc (Nat.le_refl _) ob
      exact⟨Uj.trans (D1.below (Qt _)),q4,DY,h4.below (Qt _) h4.lt,hRo _ _ _ (by rw[F8];exact⟨by decide,rfl⟩)⟩
     |none=>
      rw[hl] at hlk F8;have hvm:RS nm ms=.agg #[.int .i64 0,.string ⟨#[]⟩,.bool false]:=by unfold RS;rw[hl];rfl
      rw[hvm] at hlk;have Qt:Below W4.heap.size W4 (W4.alloc (.cells #[.int .i64 0,.string ⟨#[]⟩,.bool false] 89)):=(Below.refl W4.heap.size W4).alloc (Nat.le_refl _) _;have h5:=h4.below Qt h4.lt;have hM5:=hM4.below Qt;have hU5:=(hUx.keep k4).below Qt;have hk5:=Uj.trans (D1.below (b:=b) (mb:=mb) Qt);have Axk:=Ih DY ht hU5 h5
      go_wp2_with (go_at_call 42;refine Axk.mono ?_)
      rintro e W6 ⟨rfl,h6,k6⟩
      have Gp:=Bu DY;have A96:=Hr Gp ht (w0:=[58]) (fun x hx=>by simp at hx;omega) (by decide) h6
      go_wp2_with (go_at_call 65;refine A96.mono ?_)
      rintro e W7 ⟨rfl,h7,k7⟩
      have hk7:=(hk5.trans (D1.of k6)).trans (D1.of k7);cases hq7:Ao [58] (A3 q4) with
      |none=>
       rw[hq7] at h7
       go_wp2
       go_ret
       exact⟨hk7,A3 q4,Gp,h7,hRo _ _ _ (by rw[F8];simp only[Option.isSome_none,Bool.false_eq_true,if_false,hq7];exact⟨by decide,rfl⟩)⟩
      |some r7=>
       rw[hq7] at h7;have hS7:=Av Gp hq7;have hU7:=(hU5.keep k6).keep k7;have hM7:=(hM5.keep k6 PX).keep k7 PX;have A72:=Ih hS7 ht hU7 h7
       go_wp2_with (go_at_call 42;refine A72.mono ?_)
       rintro e W8 ⟨rfl,h8,k8⟩
       have hS8:=Bu hS7;have hvc:=Adb hS8 ht (hU7.keep k8) h8
       go_wp2_with (go_at_call 67;refine hvc.mono ?_)
       rintro e W9 ⟨r9,h9,k9,hv9⟩
       have hk9:=(hk7.trans (D1.of k8)).trans (D1.of k9)
       have Adq:Oh (Dj 8) true ((A3 l').length+1) [] (A3 l')=match Dj 8 (A3 r7) with
         |.error e=>.error e
         |.ok (v,r2)=>match Ao [125] (A3 r2) with
          |some r3=>.ok (ms++[(nm,v)],r3)
          |none=>match Ao [44] (A3 r2) with
           |some r3=>Oh (Dj 8) true m (ms++[(nm,v)]) (A3 r3)
           |none=>.error 2:=by
        rw[F8];simp only[Option.isSome_none,Bool.false_eq_true,if_false,hq7]
        all_goals (rcases Dj 8 (A3 r7) with e|⟨v,r2⟩;rfl;simp only;cases Ao [125] (A3 r2)<;>cases Ao [44] (A3 r2)<;>rfl)
       unfold Aur at hv9;cases hv:Dj 8 (A3 r7) with
       |error er=>
        rw[hv] at hv9 Adq;obtain⟨he,hs9,u,rfl⟩:=hv9;unfold S1;have hbe:(er != (0:Int))=true:=by simp[he]
        go_wp2
        go_ret
        have XS:=fun ob=>(Below.refl W9.heap.size W9).alloc (Nat.le_refl _) ob
        exact⟨hk9.trans (D1.below (XS _)),r9,hs9,h9.below (XS _) h9.lt,hRo _ _ _ (by rw[Adq];exact⟨he,rfl⟩)⟩
       |ok x9=>
        obtain⟨v9,q9⟩:=x9;rw[hv] at hv9 Adq;obtain⟨rfl,hq9,rfl⟩:=hv9;unfold S1;have XS:Below W9.heap.size W9 (W9.alloc (.cells #[.int .i64 v9.1,.string (Ab v9.2.1),.bool v9.2.2] 89)):=(Below.refl W9.heap.size W9).alloc (Nat.le_refl _) _;have h10:=h9.below XS h9.lt;have A4f:=((hM7.keep k8 PX).keep k9 PX).below XS;have A6s:=((hU7.keep k8).keep k9).below XS;have Bby:=hk9.trans (D1.below (b:=b) (mb:=mb) XS);have hup:=XH A4f hBx JI hl v9;unfold S1 at hup;have E2:=Ara Tryz.underlying55 mb;have hS9:=hS8.trans hq9;have h11:=h10.put (mb:=mb) (ob:=.map (Jb 0 (ms++[(nm,v9)])).toArray (ms.length+1)) PX;have A4o:=A6s.put (ob:=.map (Jb 0 (ms++[(nm,v9)])).toArray (ms.length+1)) hmU;have hln:(ms++[(nm,v9)]).length=ms.length+1:=by simp
        rw[hln] at hup;have A5q:=A4f.put (ms':=ms++[(nm,v9)]) hln;have A9i:=Bby.trans (D1.put (b:=b) (ob:=.map (Jb 0 (ms++[(nm,v9)])).toArray (ms.length+1)));have A5t:=Ih hS9 ht A4o h11
        go_wp2_with (go_at_call 42;refine A5t.mono ?_)
        rintro e W12 ⟨rfl,h12,k12⟩
        have Alu:=Bu hS9;have A4y:=Hr Alu ht (w0:=[125]) (fun x hx=>by simp at hx;omega) (by decide) h12
        go_wp2_with (go_at_call 65;refine A4y.mono ?_)
        rintro e W13 ⟨rfl,h13,k13⟩
        have A31:=(A9i.trans (D1.of k12)).trans (D1.of k13);cases Adf:Ao [125] (A3 r9) with
        |some r13=>
         rw[Adf] at h13
         go_wp2
         go_ret
         exact⟨A31,r13,Av Alu Adf,h13,hRo _ _ _ (by rw[Adq];simp only;rw[Adf];exact⟨rfl,rfl,(A5q.keep k12 PX).keep k13 PX⟩)⟩
        |none=>
         rw[Adf] at h13;have A5j:=Hr Alu ht (w0:=[44]) (fun x hx=>by simp at hx;omega) (by decide) h13
         go_wp2_with (go_at_call 65;refine A5j.mono ?_)
         rintro e W14 ⟨rfl,h14,k14⟩
         have A3l:=A31.trans (D1.of k14);cases Adx:Ao [44] (A3 r9) with
         |none=>
          rw[Adx] at h14
          go_wp2
          go_ret
          exact⟨A3l,A3 r9,Alu,h14,hRo _ _ _ (by rw[Adq];simp only;rw[Adf];simp only;rw[Adx];exact⟨by decide,rfl⟩)⟩
         |some r14=>
          rw[Adx] at h14;have A49:=Av Alu Adx;have A2e:=((A4o.keep k12).keep k13).keep k14;have A65:=((A5q.keep k12 PX).keep k13 PX).keep k14 PX;have A2s:=Ih A49 ht A2e h14
          go_wp2_with (go_at_call 42;refine A2s.mono ?_)
          rintro e W15 ⟨rfl,h15,k15⟩
          have A9k:=Bu A49
          have hlr:(A3 r14).length+1<=x.length:=by
           have NL:=Ho (Dm.self hSx.B);rw[hx] at NL;have g1:=(Bu (Av (Bu NL) hq7));have g2:=((Bu (g1.trans hq9))).le;have g3:=P3 r14;have g4:=SV Adx;omega
          have IX:=hSx.len
          go_wp2
          refine⟨⟨m,ms++[(nm,v9)],A3 r14,by rw[Adq];simp only[Adf,Adx],by omega,A9k,h15,A65.keep k15 PX,fun y hy=>?_,A2e.keep k15,A3l.trans (D1.of k15)⟩,?_⟩
          ·rcases List.mem_append.1 hy with hy|hy
           ·exact hBx y hy
           ·simp at hy;subst hy;exact JI
          ·have QH:Bz t x<Bz t (A3 r14):=by unfold Bz;omega
           have hp4:Bz t (A3 r14)<=t.size:=Nat.sub_le _ _;simp only[h15.c1,hat.c1,Kj];omega
end
section
open Go.IntKind (wrap)
def A1 (c:Int):List Int->List (List Int)
 |[]=>[[]]
 |x::r=>if x=c then []::A1 c r else match A1 c r with
  |h::t=>(x::h)::t
  |[]=>[[x]]
theorem Mw (c:Int)(l:List Int):A1 c l≠[]:=by
 cases l with
 |nil=>simp[A1]
 |cons x r=>
  unfold A1;split
  ·simp
  ·cases A1 c r<;>simp
def Bi (c:Int)(l:List Int):List Int:=l.takeWhile (fun x=>x != c)
theorem BM (c:Int):∀(l:List Int),A1 c l=if (Bi c l).length<l.length then Bi c l::A1 c (l.drop ((Bi c l).length+1)) else [l]
 |[]=>rfl
 |x::r=>by
  by_cases h:x=c
  ·subst h;have e:Bi x (x::r)=[]:=by unfold Bi;rw[List.takeWhile_cons_of_neg (by simp)]
   have e2:A1 x (x::r)=[]::A1 x r:=by
    show (if x=x then []::A1 x r else _)=_
    rw[Dy rfl]
   rw[e,Dy (by simp),e2]
   rfl
  ·have e:Bi c (x::r)=x::Bi c r:=by unfold Bi;rw[List.takeWhile_cons_of_pos (by simp[h])]
   have e2:A1 c (x::r)=match A1 c r with|a::t=>(x::a)::t|[]=>[[x]]:=by
    show (if x=c then []::A1 c r else _)=_
    rw[Ct h]
   rw[e,e2,BM c r];by_cases g:(Bi c r).length<r.length
   ·rw[Dy g,Dy (by simp;omega)]
    rfl
   ·rw[Ct g,Ct (by simp;omega)]
def Vh (x:Int):Bool:=decide (48<=x)&&decide (x<=57)
def XI (x:Int):Bool:=(decide (97<=x)&&decide (x<=122))||Vh x
def Ie (l:List Int):Bool:=decide (1<=l.length)&&decide (l.length<=63) && !(l.head?==some 45) && !(l.getLast?==some 45)&&l.all (fun x=>XI x||x==45)
def Oq (l:List Int):Int:=
 if 100<l.length then 8 else if (A1 46 l).all Ie=false then 2 else if ((A1 46 l).getLastD []).all Vh=true then 2 else 0
def V9 (l:List Int):Int:=l.foldl (fun n x=>10*n+(x-48)) 0
def Hu (l:List Int):Bool:=decide (1<=l.length)&&decide (l.length<=5) && !(l.head?==some 48)&&l.all Vh
def dfl (s:Bool):Int:=if s=true then 443 else 80
def Sj (s:Bool)(r:List Int):Int:=
 let nm:=Bi 58 r
 if Oq nm≠0 then Oq nm else if nm.length=r.length then 0 else
  if Hu (r.drop (nm.length+1))=true∧V9 (r.drop (nm.length+1))<=65535∧V9 (r.drop (nm.length+1))≠dfl s then 0 else 2
def Ec (l:List Int):Int:=
 if [104,116,116,112,115,58,47,47].isPrefixOf l=true then Sj true (l.drop 8)
 else if [104,116,116,112,58,47,47].isPrefixOf l=true then Sj false (l.drop 7) else 2
end
end Go.Proofs.YtodnjibebeghjaaGreatDoor.Pv
