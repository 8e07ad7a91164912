/-
  The proof of DataFormats, part 4.
-/
import Derived.Test.YtodnjibebeghjaaDoorFC
import Derived.Lib.RuneBytes
import Derived.Lib.SlTrimSet
import Derived.Test.YtodnjibebeghjaaDoorRows
import Derived.Lib.BytesEntry
import Derived.Lib.Bytealg
import Derived.Lib.Walk
import Derived.WalkKit
import Derived.WalkMore
import Derived.Laws.Bits64b
import Derived.Shelf.Strings.BuilderRune
import Derived.Shelf.Strings.SlTrimAscii
import Derived.Shelf.RegionOpenPlain
import Derived.Lib.Overlaps
import Derived.Lib.AppendZerosOnto
import Derived.Lib.SliceRun
import Derived.Laws.Externs
import Derived.Laws.IdiomCopy
import Derived.Laws.NewBlocks
import Derived.Shelf.Unicode.ValidAny
import Derived.Lib.LaidU8T
set_option linter.unusedSimpArgs false
set_option linter.unusedVariables false
namespace Go.Proofs.YtodnjibebeghjaaDoor.Pv
section
open Go.IntKind (wrap)
def YS (c:Int):Bool:=c==32||c==9||c==10||c==13
def Bf:List Int->List Int
 |[]=>[]
 |c::r=>if YS c=true then Bf r else c::r
def SV (c:Int):Option Int:=if 48<=c∧c<=57 then some (c-48) else if 97<=c∧c<=102 then some (c-87) else if 65<=c∧c<=70 then some (c-55) else none
abbrev PR (α:Type):=Option α × List Int
def S6:Nat->Int->List Int->PR Int
 |0,x,l=>(some x,l)
 |_+1,_,[]=>(none,[])
 |n+1,x,c::r=>match SV c with
  |some v=>S6 n (x*16+v) r
  |none=>(none,c::r)
def MC (x:Int):Bool:=decide (56320<=x)&&decide (x<=57343)
def WG (x:Int)(l:List Int):PR Int:=
 match S6 4 0 l with
 |(some y,r)=>if MC y=true then (some (65536+(x-55296)*1024+(y-56320)),r) else (none,r)
 |(none,r)=>(none,r)
def Ae7:List Int->Bool
 |92::117::_=>true
 |_=>false
def O9 (l:List Int):PR Int:=
 match S6 4 0 l with
 |(none,r)=>(none,r)
 |(some x,r)=>if MC x=true then (none,r) else if x<55296∨56319<x then (some x,r) else if Ae7 r=true then WG x (r.drop 2) else (none,r)
def Ts (c:Int):Option Int:=if c=34∨c=92∨c=47 then some c else if c=98 then some 8 else if c=102 then some 12 else if c=110 then some 10 else if c=114 then some 13 else if c=116 then some 9 else none
def N4:List Int->PR Int
 |[]=>(none,[])
 |c::r=>if c=117 then O9 r else match Ts c with
  |some x=>(some x,r)
  |none=>(none,c::r)
def Kz:Nat->List Int->List Int->PR (List Int)
  |0,_,l=>(none,l)
  |_+1,_,[]=>(none,[])
  |n+1,out,c::r=>if c<32 then (none,c::r) else if c=34 then (some out,r) else if c=92 then
      (match N4 r with
       |(some x,r')=>Kz n (out++Lib.encodeRuneZ x) r'
       |(none,r')=>(none,r'))
    else Kz n (out++[c]) r
def E5:List Int->PR (List Int)
 |[]=>(none,[])
 |c::r=>if c=34 then Kz (r.length+1) [] r else (none,c::r)
def KD (l:List Int):Option (List Int × List Int):=match E5 l with|(some s,r)=>some (s,r)|_=>none
def dgS (c:Int):Bool:=decide (48<=c)&&decide (c<=57)
def Kc:List Int->List Int
 |[]=>[]
 |c::r=>if dgS c=true then Kc r else c::r
def Ch:List Int->Option (List Int)
 |[]=>none
 |c::r=>if dgS c=true then some (Kc r) else none
def Ah5 (c:Int):List Int->List Int
 |[]=>[]
 |d::r=>if d=c then r else d::r
def Us:List Int->Option (List Int)
 |[]=>some []
 |c::r=>if c=101∨c=69 then (match r with
   |43::r'=>Ch r'
   |r=>Ch (Ah5 45 r)) else some (c::r)
def FN:List Int->Option (List Int)
 |[]=>some []
 |c::r=>if c=46 then (Ch r).bind Us else Us (c::r)
def Ajd:List Int->Option (List Int)
 |[]=>none
 |c::r=>if c=48 then some r else Ch (c::r)
def Fu (l:List Int):Option (List Int):=(Ajd (Ah5 45 l)).bind FN
abbrev JV:=Int × List Int × Bool
abbrev JR (α:Type):=Except Int α
def LO (V:List Int->JR (JV × List Int)):Nat->List Int->JR (List Int)
 |0,_=>.error 2
 |n+1,l=>match V l with
  |.error e=>.error e
  |.ok (_,r)=>match Bf r with
   |93::r'=>.ok r'
   |44::r'=>LO V n (Bf r')
   |_=>.error 2
def Ab9 (V:List Int->JR (JV × List Int)) (l:List Int):JR (List Int):=
 match Bf l with
 |93::r=>.ok r
 |l'=>LO V (l'.length+1) l'
def Apq (V:List Int->JR (JV × List Int)) (dup:List Int->Bool)(l:List Int):JR ((List Int × JV) × List Int):=
 match KD l with
 |none=>.error 2
 |some (nm,r)=>if dup nm=true then .error 10 else
  match Bf r with
  |58::r'=>(match V (Bf r') with
   |.error e=>.error e
   |.ok (v,r'')=>.ok ((nm,v),r''))
  |_=>.error 2
def S7 (V:List Int->JR (JV × List Int)) (kp:Bool):Nat->List (List Int × JV)->List Int->JR (List (List Int × JV) × List Int)
 |0,_,_=>.error 2
 |n+1,ms,l=>match Apq V (fun nm=>kp&&ms.any fun m=>m.1==nm) l with
  |.error e=>.error e
  |.ok (m,r)=>match Bf r with
   |125::r'=>.ok (ms++[m],r')
   |44::r'=>S7 V kp n (ms++[m]) (Bf r')
   |_=>.error 2
def Vu (V:List Int->JR (JV × List Int)) (kp:Bool)(l:List Int):JR (List (List Int × JV) × List Int):=
 match Bf l with
 |125::r=>.ok ([],r)
 |l'=>S7 V kp (l'.length+1) [] l'
def Av (w l:List Int):Option (List Int):=if w.isPrefixOf l=true then some (l.drop w.length) else none
def F6:Nat->List Int->JR (JV × List Int)
 |k,l=>match l with
  |123::r=>(match k with
   |0=>.error 5
   |k+1=>(match Vu (F6 k) false r with
    |.error e=>.error e
    |.ok (_,r')=>.ok ((6,[],false),r')))
  |91::r=>(match k with
   |0=>.error 5
   |k+1=>(match Ab9 (F6 k) r with
    |.error e=>.error e
    |.ok r'=>.ok ((5,[],false),r')))
  |34::r=>(match KD (34::r) with
   |none=>.error 2
   |some (s,r')=>.ok ((4,s,false),r'))
  |l=>match Av [116,114,117,101] l with
   |some r=>.ok ((2,[],true),r)
   |none=>match Av [102,97,108,115,101] l with
    |some r=>.ok ((2,[],false),r)
    |none=>match Av [110,117,108,108] l with
     |some r=>.ok ((1,[],false),r)
     |none=>match Fu l with
      |some r=>.ok ((3,[],false),r)
      |none=>.error 2
def TT (k:Nat)(l:List Int):JR (List (List Int × JV)):=
 match Bf l with
 |123::r=>(match Vu (F6 k) true r with
  |.error e=>.error e
  |.ok (ms,r')=>if Bf r'=[] then .ok ms else .error 2)
 |_=>.error 2
end
section
open Go.IntKind (wrap)
def BV:List PV->Option (List Int)
 |[]=>some []
 |.sc (.int .u8 n)::r=>bif decide (0<=n)&&decide (n<=255) then (BV r).map (n :: ·) else none
 |_=>none
def Adi (args:List PV):Option Aq:=
 match args with
 |[.lst _ 1 n c]=>bif Nat.beq c.length n&&Nat.ble n 100000000 then (match BV c with|some l=>some ⟨[.sc (.string (Aa (Ev l)))],[]⟩|none=>none) else none
 |_=>none
def Ag4 (args:List PV):Option Aq:=
  match args with
  |[.pbox [.sc (.string t),.sc (.int .i64 p)]]=>bif decide (0<=p)&&decide (p<=t.size)&&Nat.ble t.size 1000000 then
      (match E5 ((Fc t).drop p.toNat) with
       |(some s,r)=>some ⟨[.sc (.string (Aa s)),.sc (.bool true)],[[.sc (.string t),.sc (.int .i64 (t.size-r.length:Int))]]⟩
       |(none,r)=>some ⟨[.sc (.string ⟨#[]⟩),.sc (.bool false)],[[.sc (.string t),.sc (.int .i64 (t.size-r.length:Int))]]⟩) else none
  |_=>none
def Anm (args:List PV):Option Aq:=
 match args with
 |[.sc (.string s),.sc (.int .u8 c)]=>some ⟨[.sc (.int .i64 (Lib.indexByte s.data.toList c.toNat.toUInt8))],[]⟩
 |_=>none
def Aql (args:List PV):Option Aq:=
 match args with
 |[.sc (.string s),.sc (.string p)]=>bif Nat.beq p.size 1 then some ⟨[.sc (.int .i64 (Lib.countByte s.data.toList p[0]!))],[]⟩ else none
 |_=>none
def RJ (args:List PV):Option Aq:=
 match args with
 |[.sc (.string s),.sc (.string p)]=>bif Nat.ble p.size 1000&&p.data.toList.all (fun b=>decide (b.toNat<128))&&decide (s.size<=1000000000) then some ⟨[.sc (.string ⟨(Lib.trimS s.data.toList p.data.toList).toArray⟩)],[]⟩ else none
 |_=>none
def Afg (f:FuncId):Option (List PV->Option Aq):=
 bif Nat.beq f 33 then some UA else
 bif Nat.beq f 40 then some Anm else
 bif Nat.beq f 99 then some Aql else
 bif Nat.beq f 66 then some RJ else
 bif Nat.beq f 12 then some Adi else
 bif Nat.beq f 68 then some Ag4 else
 bif Nat.beq f 1000000 then some (fun _=>none) else none
def RP (p:Option (List PV->Option Aq)) (f:FuncId):Option (List PV->Option Aq):=bif Nat.beq f 19 then p else Afg f
abbrev CP (p:Option (List PV->Option Aq)):Gl:=CX (RP p)
abbrev C0:Gl:=CP none
abbrev xs0:=RP none
end
section
open Go.IntKind (wrap)
open Go.RowKit
def DF (p:PV)(u:Value):Prop:=p=.sc u∨∃vs:List Value,p=.agg (vs.map .sc)∧u=.agg ⟨vs⟩
theorem Sn {w:World}{A:Nat->Prop}{own:Bt}:∀{vs us:List Value}{j:Nat},Ek w A own j (vs.map .sc) us->us=vs
 |[],[],_,_=>rfl
 |[],_::_,_,h=>h.elim
 |_::_,[],_,h=>h.elim
 |v::vs,u::us,j,h=>by
  have h1:Aw w A (.sc v) u:=h.1;rw[h1.val,Sn h.2]
theorem Sl {w:World}{A:Nat->Prop}{own:Bt}:∀{vs:List Value}{j:Nat},Ek w A own j (vs.map .sc) vs
 |[],_=>trivial
 |v::vs,j=>⟨show Aw w A (.sc v) v from .sc v,Sl⟩
theorem EP {w:World}{A:Nat->Prop}{own:Bt}{z:Nat}:∀{vals:List PV}{us us':List Value}{j:Nat},Be DF vals us->JH w A own z j vals us'->us'=us
 |[],[],[],_,_,_=>rfl
 |[],[],_::_,_,_,h=>h.elim
 |[],_::_,_,_,h,_=>h.elim
 |_::_,[],_,_,h,_=>h.elim
 |_::_,_::_,[],_,_,h=>h.elim
 |p::ps,u::us,u'::us',j,hs,h=>by
  rw[EP hs.2 h.2]
  congr 1
  rcases hs.1 with rfl|⟨vs,rfl,rfl⟩
  ·exact Aw.val (show Aw w A (.sc u) u' from h.1)
  ·obtain⟨vs',rfl,h2⟩:=h.1;rw[Sn h2]
structure El (w w':World) (b o n:Nat):Prop where
 os:w'.os=w.os
 tape:w'.tape=w.tape
 output:w'.output=w.output
 size:w.heap.size<=w'.heap.size
 grow:Gn w w' b
 other:∀k,k<w.heap.size->k≠b->w'.heap[k]?=w.heap[k]?
 cells:∀j,(j<o∨o+n<=j)->w'.cell? ⟨b,j,none⟩=w.cell? ⟨b,j,none⟩
 frz:∀j,(j<o∨o+n<=j)->w'.frozen? ⟨b,j,none⟩=w.frozen? ⟨b,j,none⟩
def bt1 (b o:Nat):Wx:=fun i j=>match i,j with|0,0=>some (b,o)|_,_=>none
theorem Afk {b o k:Nat}(h:ZZ (bt1 b o) k):k=b:=by
 obtain⟨i,j,o',h⟩:=h;unfold bt1 at h;split at h
 ·cases h;rfl
 ·cases h
theorem Wo {w:World}{A:Nat->Prop}{bt:Wx}:∀{i:Nat}{ps:List PV}{us:List Value},Be DF ps us->J5 w A bt i ps us
 |_,[],[],_=>trivial
 |_,[],_::_,h=>h.elim
 |_,_::_,[],h=>h.elim
 |i,p::ps,u::us,h=>by
  refine⟨?_,Wo h.2⟩;rcases h.1 with rfl|⟨vs,rfl,rfl⟩
  ·exact⟨.inl trivial,show Aw w A (.sc u) u from .sc u⟩
  ·refine⟨vs,rfl,fun p hp=>?_,Sl⟩
   obtain⟨v,_,rfl⟩:=List.mem_map.1 hp;exact .inl trivial
theorem JS {G:Ur}{P:Program}{f:FuncId}{vs vs':List Value}{args vals:List PV}{us rs:List Value}(hs:Df G P f (.pbox (vs.map .sc)::args) ⟨vals,[vs'.map .sc]⟩) (ha:Be DF args us)(hr:Be DF vals rs)
  {w:World} {b o:Nat} (hG:G.ok w) (hGl:∀k,G.bl k->k<w.heap.size∧k≠b) (hb:b<w.heap.size) (hc:∀j v,vs[j]?=some v->w.cell? ⟨b,o+j,none⟩=some v) (hf:∀j,j<vs.length->w.frozen? ⟨b,o+j,none⟩=false):
  Calls P f (.pointer (some ⟨b,o,none⟩)::us).toArray w fun e w'=>e=.returned (He rs)∧vs'.length=vs.length∧(∀j v,vs'[j]?=some v->w'.cell? ⟨b,o+j,none⟩=some v)∧(∀j,j<vs.length->w'.frozen? ⟨b,o+j,none⟩=false)∧El w w' b o vs.length:=by
 have hi:Ins w (fun _=>False) (bt1 b o) (.pbox (vs.map .sc)::args) (.pointer (some ⟨b,o,none⟩)::us):=by
  refine⟨fun _ h=>h.elim,fun _ h=>h.elim,fun k h=>by rw[Afk h];exact hb,fun i j i' j' k x x' h h'=>?_,fun i q h=>?_,?_,Wo ha⟩
  ·unfold bt1 at h h';split at h
   ·split at h'
    ·exact⟨rfl,rfl⟩
    ·cases h'
   ·cases h
  ·unfold bt1 at h;split at h
   ·exact⟨_,rfl,rfl⟩
   ·cases h
  ·refine⟨b,o,rfl,rfl,fun p hp=>?_,vs,Sl,hc,fun k hk=>hf k (by simpa using hk)⟩
   obtain⟨v,_,rfl⟩:=List.mem_map.1 hp;exact .inl trivial
 have Cz:∀i,∀q,(bt1 b o) i 0=some q->i=0∧q=(b,o):=by
  intro i q h;unfold bt1 at h;split at h
  ·cases h;exact⟨rfl,rfl⟩
  ·cases h
 refine (hs.2 w _ _ _ hi hG (fun k hk=>⟨(hGl k hk).1,fun hx=>(hGl k hk).2 (Afk hx)⟩)).mono ?_
 rintro e w' ⟨ws,own,rfl,out⟩
 have hv:=EP hr out.vals;subst hv;have ho:=out.outs;obtain⟨⟨b',o',h1,h2,zs,h3,h4,h5⟩,_⟩:=(show (∃b' o',(bt1 b o) 0 0=some (b',o')∧(vs'.map PV.sc).length=(vs.map PV.sc).length∧Af1 w' (CU (bt1 b o) own (fun _=>False)) own (K6 vals) b' o' (vs'.map .sc))∧_ from ho)
 cases h1;have hz:=Sn h3;subst hz;simp only[List.length_map] at h2 h5
 have hL:∀k j,k<w.heap.size->(k≠b∨j<o∨o+vs.length<=j)->¬EJ (bt1 b o) (.pbox (vs.map .sc)::args) k j:=by
  rintro k j hk Eo ⟨i,p,hp,hq⟩
  rcases hq with⟨x,y,hq,_⟩|⟨y,ps,hq,hy,Jd⟩
  ·unfold bt1 at hq;split at hq
   ·rename_i h;cases h
   ·cases hq
  ·obtain⟨rfl,h⟩:=Cz i _ hq;cases h;have:p=.pbox (vs.map .sc):=by simpa using hp.symm
   subst this;rcases Jd with⟨e,B7⟩|e
   ·injection e with e;subst e;rw[List.length_map] at B7;rcases Eo with h|h|h
    ·exact h rfl
    ·omega
    ·omega
   ·cases e
 refine⟨rfl,h2,h4,fun j hj=>h5 j (by omega),out.os,out.tape,out.output,out.ext.size,out.ext.bs b hb,fun k hk Eo=>out.ext.keep k hk fun hx=>Eo (Afk hx),fun j hj=>(out.rng b j hb (hL b j hb (.inr hj))).1,fun j hj=>(out.rng b j hb (hL b j hb (.inr hj))).2⟩
end
section
open Go.IntKind (wrap)
open Go.RowKit
theorem O7 {w w':World}{Y:Nat->Prop}{bt:Wx}{args:List PV}{v:Value}(hb:Below w.heap.size w w')(ho:Tf w' (CU bt (fun _=>none) Y) (fun _=>none) bt (K6 [.sc v]) 0 args []):
  Out w w' Y bt args (fun _=>none) ⟨[.sc v],[]⟩ [v] where
 os:=hb.os
 tape:=hb.tape
 output:=hb.output
 ext:=⟨hb.size,fun b h _=>hb.block b h,fun b h=>Gn.same (hb.block b h)⟩
 rng:=fun b j h _=>⟨by unfold World.cell?;simp only[hb.block b h],by unfold World.frozen?;simp only[hb.block b h]⟩
 vals:=⟨Aw.sc v,trivial⟩
 outs:=ho
 fresh:=fun j b o h=>by cases h
 inj:=fun j j' b o o' h=>by cases h
end
section
open Go.Proofs.Tryd (prog)
open Go.IntKind (wrap)
set_option maxRecDepth 1000000
open Go.RowKit
theorem YI (G:Ur)(args:List PV)(res:Aq)(h:Anm args=some res):Df G prog 40 args res:=by
 refine⟨⟨_,Tryd.func40,by kernel_rfl⟩,fun w Y bt us hi _ _=>?_⟩
 unfold Anm at h;split at h
 rotate_left
 ·cases h
 rename_i s c;cases h;have ps:=hi.args
 match us,ps with
 |[u1,u2],ps=>
  obtain⟨⟨_,p1⟩,⟨_,p2⟩,_⟩:=ps;have e1:u1=.string s:=Aw.val (show Aw w _ (.sc (.string s)) u1 from p1)
  have e2:u2=.int .u8 c:=Aw.val (show Aw w _ (.sc (.int .u8 c)) u2 from p2)
  subst e1 e2
  have walk:Calls prog 40 #[.string s,.int .u8 c] w fun e w'=>e=.returned (.int .i64 (Lib.indexByte s.data.toList c.toNat.toUInt8))∧w'=w:=by
   go_enter Tryd.func40,Tryd.ntmps40
   go_wp2
   rw[run_callFunc_extern Tryd.func55 (by kernel_rfl) (by kernel_rfl) (by kernel_rfl) (e:=Extern.BytealgIndexByte.indexByte) (by kernel_rfl),Lib.run_indexByteString]
   simp only[Result.andThen];rw[Oper.upon_value]
   go_wp2
   go_ret
   exact⟨rfl,rfl⟩
  refine walk.mono ?_
  rintro e w' ⟨rfl,rfl⟩
  exact⟨[.int .i64 (Lib.indexByte s.data.toList c.toNat.toUInt8)],fun _=>none,rfl,O7 (Below.refl _ _) rfl⟩
 |[],ps=>exact ps.elim
 |[_],ps=>exact ps.2.elim
 |_::_::_::_,ps=>exact ps.2.2.elim
theorem Aew {p:ByteArray}(h:p.size=1):p=⟨#[p[0]!]⟩:=by
 obtain⟨⟨l⟩⟩:=p
 match l,h with
 |[x],_=>rfl
theorem Aa3 (G:Ur)(args:List PV)(res:Aq)(h:Aql args=some res):Df G prog 99 args res:=by
 refine⟨⟨_,Tryd.func99,by kernel_rfl⟩,fun w Y bt us hi _ _=>?_⟩
 unfold Aql at h;split at h
 rotate_left
 ·cases h
 rename_i s p;cases hq:Nat.beq p.size 1
 ·rw[hq] at h;cases h
 rw[hq,cond_true] at h;cases h;have hp:=Aew (Nat.eq_of_beq_eq_true hq);generalize (p[0]!)=c at hp ⊢;subst hp;have ps:=hi.args
 match us,ps with
 |[u1,u2],ps=>
  obtain⟨⟨_,p1⟩,⟨_,p2⟩,_⟩:=ps;have e1:u1=.string s:=Aw.val (show Aw w _ (.sc (.string s)) u1 from p1)
  have e2:u2=.string ⟨#[c]⟩:=Aw.val (show Aw w _ (.sc (.string ⟨#[c]⟩)) u2 from p2)
  subst e1 e2
  have walk:Calls prog 99 #[.string s,.string ⟨#[c]⟩] w fun e w'=>e=.returned (.int .i64 (Lib.countByte s.data.toList c))∧w'=w:=by
   go_enter Tryd.func99,Tryd.ntmps99
   go_wp2
   rw[run_callFunc_extern Tryd.func110 (by kernel_rfl) (by kernel_rfl) (by kernel_rfl) (e:=Extern.BytealgCount.count) (by kernel_rfl),Lib.run_countString]
   simp only[Result.andThen];rw[Oper.upon_value]
   go_wp2
   go_ret
   exact⟨rfl,rfl⟩
  refine walk.mono ?_
  rintro e w' ⟨rfl,rfl⟩
  exact⟨[.int .i64 (Lib.countByte s.data.toList c)],fun _=>none,rfl,O7 (Below.refl _ _) rfl⟩
 |[],ps=>exact ps.elim
 |[_],ps=>exact ps.2.elim
 |_::_::_::_,ps=>exact ps.2.2.elim
end
section
open Go.IntKind (wrap)
set_option maxRecDepth 100000
theorem Aq3 (a b:Nat)(ha:a<4294967296)(hb:b<4294967296):bits .or .u32 ((a:Nat):Int) ((b:Nat):Int)=((a ||| b:Nat):Int):=by
 have hx:a ||| b<2 ^ 32:=Nat.or_lt_two_pow (by omega) (by omega)
 have h1:(BitVec.ofInt 32 (a:Int)).toNat=a:=by
  rw[BitVec.ofInt_natCast,BitVec.toNat_ofNat];exact Nat.mod_eq_of_lt (by omega)
 have h2:(BitVec.ofInt 32 (b:Int)).toNat=b:=by
  rw[BitVec.ofInt_natCast,BitVec.toNat_ofNat];exact Nat.mod_eq_of_lt (by omega)
 show IntKind.u32.wrap ((BitVec.ofInt 32 (a:Int) ||| BitVec.ofInt 32 (b:Int)).toNat:Int)=_;rw[BitVec.toNat_or,h1,h2];simp only[wrap,IntKind.bits,IntKind.signed,PE,Bool.false_eq_true,if_false];omega
theorem Aun (a b:Nat)(ha:a<4294967296)(hb:b<4294967296):bits .and .u32 ((a:Nat):Int) ((b:Nat):Int)=((a &&& b:Nat):Int):=by
 have hx:a &&& b<2 ^ 32:=Nat.and_lt_two_pow _ (by omega)
 have h1:(BitVec.ofInt 32 (a:Int)).toNat=a:=by
  rw[BitVec.ofInt_natCast,BitVec.toNat_ofNat];exact Nat.mod_eq_of_lt (by omega)
 have h2:(BitVec.ofInt 32 (b:Int)).toNat=b:=by
  rw[BitVec.ofInt_natCast,BitVec.toNat_ofNat];exact Nat.mod_eq_of_lt (by omega)
 show IntKind.u32.wrap ((BitVec.ofInt 32 (a:Int) &&& BitVec.ofInt 32 (b:Int)).toNat:Int)=_;rw[BitVec.toNat_and,h1,h2];simp only[wrap,IntKind.bits,IntKind.signed,PE,Bool.false_eq_true,if_false];omega
def I0 (a b c:Int):List Int:=[Gv (a / 4),Gv (a % 4*16+b / 16),Gv (b % 16*4+c / 64),Gv (c % 64)]
abbrev Amh (a b c:Int):Int:=bits .or .u32 (bits .or .u32 (a % 4294967296*65536 % 4294967296) (b % 4294967296*256 % 4294967296)) (c % 4294967296)
theorem Af2 {a b c:Int}(h:Ct [a,b,c]):Amh a b c=a*65536+b*256+c:=by
 obtain⟨ha,h⟩:=Cq h;obtain⟨hb,h⟩:=Cq h;obtain⟨hc,h⟩:=Cq h;obtain⟨a,rfl⟩:=Int.eq_ofNat_of_zero_le ha.1;obtain⟨b,rfl⟩:=Int.eq_ofNat_of_zero_le hb.1;obtain⟨c,rfl⟩:=Int.eq_ofNat_of_zero_le hc.1;have e1:(a:Int) % 4294967296*65536 % 4294967296=((a*65536:Nat):Int):=by omega
 have e2:(b:Int) % 4294967296*256 % 4294967296=((b*256:Nat):Int):=by omega
 have e3:(c:Int) % 4294967296=(c:Int):=by omega
 show bits .or .u32 (bits .or .u32 _ _) _=_;rw[e1,e2,e3,Aq3 _ _ (by omega) (by omega)]
 have h1:a*65536 ||| b*256=a*65536+b*256:=by
  have:=Nat.shiftLeft_add_eq_or_of_lt (show b*256<2 ^ 16 by omega) a
  rw[Nat.shiftLeft_eq,show (2:Nat) ^ 16=65536 from rfl] at this
  exact this.symm
 rw[h1,Aq3 _ _ (by omega) (by omega)]
 have h2:a*65536+b*256 ||| c=a*65536+b*256+c:=by
  have:=Nat.shiftLeft_add_eq_or_of_lt (show c<2 ^ 8 by omega) (a*256+b)
  rw[Nat.shiftLeft_eq] at this;have e:(a*256+b)*2 ^ 8=a*65536+b*256:=by omega
  rw[e] at this;exact this.symm
 rw[h2];omega
theorem A0k {a b c:Int}(h:Ct [a,b,c]) (j:Nat)(hj:j<4):∃q,0<=q∧q<64∧bits .and .u32 (Amh a b c / 2 ^ (18-6*j)) 63=q∧(I0 a b c)[j]?=some (Gv q):=by
 rw[Af2 h];obtain⟨ha,h⟩:=Cq h;obtain⟨hb,h⟩:=Cq h;obtain⟨hc,h⟩:=Cq h
 have key:∀x:Int,0<=x->x<4294967296->bits .and .u32 x 63=x % 64:=by
  intro x h0 h1;obtain⟨n,rfl⟩:=Int.eq_ofNat_of_zero_le h0;have:=Aun n 63 (by omega) (by omega)
  rw[show ((63:Nat):Int)=63 from rfl] at this
  show bits BinOp.and IntKind.u32 (n:Int) 63=(n:Int) % 64;rw[this,show (63:Nat)=2 ^ 6-1 by decide,Nat.and_two_pow_sub_one_eq_mod n 6]
  omega
 match j,hj with
 |0,_=>
  refine⟨_,?_,?_,key _ ?_ ?_,?_⟩
  ·show 0<=(a*65536+b*256+c) / 262144 % 64;omega
  ·show (a*65536+b*256+c) / 262144 % 64<64;omega
  ·show 0<=(a*65536+b*256+c) / 262144;omega
  ·show (a*65536+b*256+c) / 262144<_;omega
  ·show some (Gv _)=some (Gv ((a*65536+b*256+c) / 262144 % 64))
   congr 2;omega
 |1,_=>
  refine⟨_,?_,?_,key _ ?_ ?_,?_⟩
  ·show 0<=(a*65536+b*256+c) / 4096 % 64;omega
  ·show (a*65536+b*256+c) / 4096 % 64<64;omega
  ·show 0<=(a*65536+b*256+c) / 4096;omega
  ·show (a*65536+b*256+c) / 4096<_;omega
  ·show some (Gv _)=some (Gv ((a*65536+b*256+c) / 4096 % 64))
   congr 2;omega
 |2,_=>
  refine⟨_,?_,?_,key _ ?_ ?_,?_⟩
  ·show 0<=(a*65536+b*256+c) / 64 % 64;omega
  ·show (a*65536+b*256+c) / 64 % 64<64;omega
  ·show 0<=(a*65536+b*256+c) / 64;omega
  ·show (a*65536+b*256+c) / 64<_;omega
  ·show some (Gv _)=some (Gv ((a*65536+b*256+c) / 64 % 64))
   congr 2;omega
 |3,_=>
  refine⟨_,?_,?_,key _ ?_ ?_,?_⟩
  ·show 0<=(a*65536+b*256+c) / 1 % 64;omega
  ·show (a*65536+b*256+c) / 1 % 64<64;omega
  ·show 0<=(a*65536+b*256+c) / 1;omega
  ·show (a*65536+b*256+c) / 1<_;omega
  ·show some (Gv _)=some (Gv ((a*65536+b*256+c) / 1 % 64))
   congr 2;omega
def Yq:ByteArray:=⟨#[65,66,67,68,69,70,71,72,73,74,75,76,77,78,79,80,81,82,83,84,85,86,87,88,89,90,97,98,99,100,101,102,103,104,105,106,107,108,109,110,111,112,113,114,115,116,117,118,119,120,121,122,48,49,50,51,52,53,54,55,56,57,45,95]⟩
theorem ZK:Yq.size=64:=rfl
theorem Ady:∀n:Fin 64,((Yq[n.val]'n.isLt).toNat:Int)=Gv (n.val:Int):=by decide +kernel
theorem Ai2 {q:Int}(h0:0<=q)(h1:q<64)(h:q.toNat<Yq.size):((Yq[q.toNat]'(h)).toNat:Int)=Gv q:=by
 have:=Ady ⟨q.toNat,h⟩;refine this.trans (congrArg Gv ?_);show (q.toNat:Int)=q;omega
theorem Aud {q:Int}(h0:0<=q)(h1:q<64):0<=Gv q∧Gv q<=255:=by
 unfold Gv;split
 ·omega
 split
 ·omega
 split
 ·omega
 split<;>omega
theorem Aqz {a b c:Int}(h:Ct [a,b,c]):Ct (I0 a b c):=by
 obtain⟨ha,h⟩:=Cq h;obtain⟨hb,h⟩:=Cq h;obtain⟨hc,h⟩:=Cq h;intro x hx;simp[I0] at hx;rcases hx with rfl|rfl|rfl|rfl<;>apply Aud<;>omega
theorem Jt {a b:List Int}(ha:Ct a)(hb:Ct b):Ct (a++b):=by
 intro x hx;rcases List.mem_append.1 hx with h|h
 ·exact ha x h
 ·exact hb x h
theorem Ae1 {a:List Int}(ha:Ct a)(k:Nat):Ct (a.take k):=fun x hx=>ha x (List.mem_of_mem_take hx)
theorem Aeo {a:List Int}(ha:Ct a)(k:Nat):Ct (a.drop k):=fun x hx=>ha x (List.mem_of_mem_drop hx)
theorem Aai:∀(l:List Int),Ct l->l≠[]->∃a b c,Ct [a,b,c]∧Ev l=(I0 a b c).take (min l.length 3+1)++Ev (l.drop (min l.length 3))∧[a,b,c].take (min l.length 3)=l.take (min l.length 3)∧(l.length<3->c=0)∧(l.length<2->b=0)
 |[],_,h=>absurd rfl h
 |[a],h,_=>by
  have:=Cq h;refine⟨a,0,0,?_,?_,rfl,fun _=>rfl,fun _=>rfl⟩
  ·intro x hx;simp at hx;rcases hx with rfl|rfl<;>omega
  ·simp[Ev,I0]
 |[a,b],h,_=>by
  have h1:=Cq h;have h2:=Cq h1.2;refine⟨a,b,0,?_,?_,rfl,fun _=>rfl,fun h=>?_⟩
  ·intro x hx;simp at hx;rcases hx with rfl|rfl|rfl<;>omega
  ·simp[Ev,I0]
  ·simp at h
 |a::b::c::r,h,_=>by
  have e:min (a::b::c::r).length 3=3:=by simp
  rw[e];refine⟨a,b,c,?_,?_,rfl,fun h=>?_,fun h=>?_⟩
  ·intro x hx;refine h x ?_;simp at hx ⊢;rcases hx with rfl|rfl|rfl<;>simp
  ·simp[Ev,I0]
  ·simp at h;omega
  ·simp at h;omega
end
section
open Go.Proofs.Tryd (prog)
open Go.IntKind (wrap)
set_option maxRecDepth 1000000
open Go.Shelf Go.RowKit Go.Lib
def OQ:Go.Shelf.Ren:=⟨fun|119=>117|120=>113|137=>27|151=>103|152=>112|160=>66|167=>24|168=>89|169=>25|197=>102|217=>40|224=>96|225=>95|227=>82|228=>101|231=>80|232=>81|233=>83|234=>84|235=>85|236=>86|240=>38|242=>106|260=>111|266=>55|271=>104|276=>54|278=>116|n=>n,fun|0=>0|3=>3|4=>4|5=>5|9=>9|20=>20|21=>21|37=>22|46=>56|51=>55|70=>51|72=>53|75=>58|80=>60|105=>139|116=>124|117=>125|119=>86|124=>128|127=>73|138=>88|139=>89|164=>97|n=>n,fun|3=>0|4=>1|n=>n⟩
theorem EM:Lays.n167 prog OQ:={
 mixed:=by kernel_rfl
 f167:=Tryd.func24.trans (congrArg some (by kernel_rfl))
 f240:=Tryd.func38.trans (congrArg some (by kernel_rfl))
 f276:=Tryd.func54.trans (congrArg some (by kernel_rfl))
 t0:=Tryd.underlying0
 a0:=Tryd.isAgg0
 z0:=Tryd.sizeOf0
 v0:=Tryd.zeroValue0
 t4:=Tryd.underlying4
 a4:=Tryd.isAgg4
 z4:=Tryd.sizeOf4
 v4:=Tryd.zeroValue4
 t5:=Tryd.underlying5
 a5:=Tryd.isAgg5
 z5:=Tryd.sizeOf5
 v5:=Tryd.zeroValue5
 t9:=Tryd.underlying9
 a9:=Tryd.isAgg9
 z9:=Tryd.sizeOf9
 v9:=Tryd.zeroValue9
 t20:=Tryd.underlying20
 a20:=Tryd.isAgg20
 z20:=Tryd.sizeOf20
 v20:=Tryd.zeroValue20
 t37:=Tryd.underlying22
 a37:=Tryd.isAgg22
 z37:=Tryd.sizeOf22
 v37:=Tryd.zeroValue22
 t70:=Tryd.underlying51
 a70:=Tryd.isAgg51
 z70:=Tryd.sizeOf51
 v70:=Tryd.zeroValue51
 t72:=Tryd.underlying53
 a72:=Tryd.isAgg53
 z72:=Tryd.sizeOf53
 v72:=Tryd.zeroValue53
 t75:=Tryd.underlying58
 a75:=Tryd.isAgg58
 z75:=Tryd.sizeOf58
 v75:=Tryd.zeroValue58
 t164:=Tryd.underlying97
 a164:=Tryd.isAgg97
 z164:=Tryd.sizeOf97
 v164:=Tryd.zeroValue97 }
theorem TA:Lays.n168 prog OQ:={
 mixed:=by kernel_rfl
 f168:=Tryd.func89.trans (congrArg some (by kernel_rfl))
 f240:=Tryd.func38.trans (congrArg some (by kernel_rfl))
 f242:=Tryd.func106.trans (congrArg some (by kernel_rfl))
 f276:=Tryd.func54.trans (congrArg some (by kernel_rfl))
 f278:=Tryd.func116.trans (congrArg some (by kernel_rfl))
 t0:=Tryd.underlying0
 a0:=Tryd.isAgg0
 z0:=Tryd.sizeOf0
 v0:=Tryd.zeroValue0
 t3:=Tryd.underlying3
 a3:=Tryd.isAgg3
 z3:=Tryd.sizeOf3
 v3:=Tryd.zeroValue3
 t4:=Tryd.underlying4
 a4:=Tryd.isAgg4
 z4:=Tryd.sizeOf4
 v4:=Tryd.zeroValue4
 t5:=Tryd.underlying5
 a5:=Tryd.isAgg5
 z5:=Tryd.sizeOf5
 v5:=Tryd.zeroValue5
 t9:=Tryd.underlying9
 a9:=Tryd.isAgg9
 z9:=Tryd.sizeOf9
 v9:=Tryd.zeroValue9
 t20:=Tryd.underlying20
 a20:=Tryd.isAgg20
 z20:=Tryd.sizeOf20
 v20:=Tryd.zeroValue20
 t21:=Tryd.underlying21
 a21:=Tryd.isAgg21
 z21:=Tryd.sizeOf21
 v21:=Tryd.zeroValue21
 t37:=Tryd.underlying22
 a37:=Tryd.isAgg22
 z37:=Tryd.sizeOf22
 v37:=Tryd.zeroValue22
 t46:=Tryd.underlying56
 a46:=Tryd.isAgg56
 z46:=Tryd.sizeOf56
 v46:=Tryd.zeroValue56
 t51:=Tryd.underlying55
 a51:=Tryd.isAgg55
 z51:=Tryd.sizeOf55
 v51:=Tryd.zeroValue55
 t70:=Tryd.underlying51
 a70:=Tryd.isAgg51
 z70:=Tryd.sizeOf51
 v70:=Tryd.zeroValue51
 t72:=Tryd.underlying53
 a72:=Tryd.isAgg53
 z72:=Tryd.sizeOf53
 v72:=Tryd.zeroValue53
 t75:=Tryd.underlying58
 a75:=Tryd.isAgg58
 z75:=Tryd.sizeOf58
 v75:=Tryd.zeroValue58
 t164:=Tryd.underlying97
 a164:=Tryd.isAgg97
 z164:=Tryd.sizeOf97
 v164:=Tryd.zeroValue97 }
theorem FP:Lays.n169 prog OQ:={
 mixed:=by kernel_rfl
 f169:=Tryd.func25.trans (congrArg some (by kernel_rfl))
 t0:=Tryd.underlying0
 a0:=Tryd.isAgg0
 z0:=Tryd.sizeOf0
 v0:=Tryd.zeroValue0
 t3:=Tryd.underlying3
 a3:=Tryd.isAgg3
 z3:=Tryd.sizeOf3
 v3:=Tryd.zeroValue3
 t9:=Tryd.underlying9
 a9:=Tryd.isAgg9
 z9:=Tryd.sizeOf9
 v9:=Tryd.zeroValue9
 t37:=Tryd.underlying22
 a37:=Tryd.isAgg22
 z37:=Tryd.sizeOf22
 v37:=Tryd.zeroValue22
 t70:=Tryd.underlying51
 a70:=Tryd.isAgg51
 z70:=Tryd.sizeOf51
 v70:=Tryd.zeroValue51
 t72:=Tryd.underlying53
 a72:=Tryd.isAgg53
 z72:=Tryd.sizeOf53
 v72:=Tryd.zeroValue53
 t127:=Tryd.underlying73
 a127:=Tryd.isAgg73
 z127:=Tryd.sizeOf73
 v127:=Tryd.zeroValue73 }
theorem TZ:Lays.n160 prog OQ:={
 mixed:=by kernel_rfl
 f119:=Tryd.func117.trans (congrArg some (by kernel_rfl))
 f120:=Tryd.func113.trans (congrArg some (by kernel_rfl))
 f137:=Tryd.func27.trans (congrArg some (by kernel_rfl))
 f151:=Tryd.func103.trans (congrArg some (by kernel_rfl))
 f152:=Tryd.func112.trans (congrArg some (by kernel_rfl))
 f160:=Tryd.func66.trans (congrArg some (by kernel_rfl))
 f197:=Tryd.func102.trans (congrArg some (by kernel_rfl))
 f217:=Tryd.func40.trans (congrArg some (by kernel_rfl))
 f224:=Tryd.func96.trans (congrArg some (by kernel_rfl))
 f225:=Tryd.func95.trans (congrArg some (by kernel_rfl))
 f227:=Tryd.func82.trans (congrArg some (by kernel_rfl))
 f228:=Tryd.func101.trans (congrArg some (by kernel_rfl))
 f231:=Tryd.func80.trans (congrArg some (by kernel_rfl))
 f232:=Tryd.func81.trans (congrArg some (by kernel_rfl))
 f233:=Tryd.func83.trans (congrArg some (by kernel_rfl))
 f234:=Tryd.func84.trans (congrArg some (by kernel_rfl))
 f235:=Tryd.func85.trans (congrArg some (by kernel_rfl))
 f236:=Tryd.func86.trans (congrArg some (by kernel_rfl))
 f260:=Tryd.func111.trans (congrArg some (by kernel_rfl))
 f266:=Tryd.func55.trans (congrArg some (by kernel_rfl))
 f271:=Tryd.func104.trans (congrArg some (by kernel_rfl))
 t0:=Tryd.underlying0
 a0:=Tryd.isAgg0
 z0:=Tryd.sizeOf0
 v0:=Tryd.zeroValue0
 t3:=Tryd.underlying3
 a3:=Tryd.isAgg3
 z3:=Tryd.sizeOf3
 v3:=Tryd.zeroValue3
 t4:=Tryd.underlying4
 a4:=Tryd.isAgg4
 z4:=Tryd.sizeOf4
 v4:=Tryd.zeroValue4
 t5:=Tryd.underlying5
 a5:=Tryd.isAgg5
 z5:=Tryd.sizeOf5
 v5:=Tryd.zeroValue5
 t9:=Tryd.underlying9
 a9:=Tryd.isAgg9
 z9:=Tryd.sizeOf9
 v9:=Tryd.zeroValue9
 t21:=Tryd.underlying21
 a21:=Tryd.isAgg21
 z21:=Tryd.sizeOf21
 v21:=Tryd.zeroValue21
 t46:=Tryd.underlying56
 a46:=Tryd.isAgg56
 z46:=Tryd.sizeOf56
 v46:=Tryd.zeroValue56
 t105:=Tryd.underlying139
 a105:=Tryd.isAgg139
 z105:=Tryd.sizeOf139
 v105:=Tryd.zeroValue139
 t116:=Tryd.underlying124
 a116:=Tryd.isAgg124
 z116:=Tryd.sizeOf124
 t117:=Tryd.underlying125
 a117:=Tryd.isAgg125
 z117:=Tryd.sizeOf125
 v117:=Tryd.zeroValue125
 t119:=Tryd.underlying86
 a119:=Tryd.isAgg86
 z119:=Tryd.sizeOf86
 t124:=Tryd.underlying128
 a124:=Tryd.isAgg128
 z124:=Tryd.sizeOf128
 v124:=Tryd.zeroValue128
 t138:=Tryd.underlying88
 a138:=Tryd.isAgg88
 z138:=Tryd.sizeOf88
 v138:=Tryd.zeroValue88
 t139:=Tryd.underlying89
 a139:=Tryd.isAgg89
 z139:=Tryd.sizeOf89
 v139:=Tryd.zeroValue89
 g3:=by kernel_rfl
 g4:=by kernel_rfl }
theorem So:Builder.Extra prog OQ:={
 sizeBuilder:=by kernel_rfl
 liesBuilder:=by kernel_rfl
 t5:=Tryd.underlying5
 a5:=Tryd.isAgg5
 z5:=Tryd.sizeOf5
 v5:=Tryd.zeroValue5
 infoByte:=by kernel_rfl
 cellsByte:=by kernel_rfl
 sizeByte:=by kernel_rfl
 neB5:=by decide }
end
section
open Go.IntKind (wrap)
open Go.RowKit Go.Lib
section
variable {P:Program}
theorem Aav (w:World)(dT sT ty elem:TypeId)(i:TypeInfo)(b o dLen dCap:Nat)(a:Addr)(sLen sCap k:Nat)(cs:List Value)
  (hu:P.underlying dT=some (.slice elem)) (hq:P.info? elem=some i)(hk:k=Nat.min sLen dLen)(hn:cs.length=k*i.size)
  (V0:∀j v,cs[j]?=some v->w.cell? (a.add j)=some v) (hc:∀j,j<cs.length->(w.cell? ⟨b,o+j,none⟩).isSome=true) (hf:∀j,j<cs.length->w.frozen? ⟨b,o+j,none⟩=false)(h1:∀v∈cs,v.oneCell'=true):
  (Builtin.copy_ #[dT,sT] ty #[.slice (some ⟨b,o,none⟩) dLen dCap,.slice (some a) sLen sCap]).run P w=.ok (goInt k) (w.setCells b o cs):=by
 have hl:=run_loadCells_list (P:=P) w a cs V0;have Ft:=run_storeCells_cells (P:=P) b o cs 0 w (by simpa using hc) (by simpa using hf) h1
 simp[Builtin.copy_,run_underlying hu,Builtin.lenOf,Builtin.firstCells,sizeOf,typeInfo,hq,←hk,←hn,hl,Ft]
end
end
section
open Go.Proofs.Tryd (prog)
open Go.IntKind (wrap)
set_option maxRecDepth 1000000
open Go.RowKit Go.Lib
abbrev QA (l:List Int):List Value:=l.map (Value.int .u8)
theorem ND (a b:List Int):QA (a++b)=QA a++QA b:=List.map_append
theorem Ajy (x:Int):QA [x]=[Value.int .u8 x]:=rfl
theorem X4:∀{l:List Int},Ct l->QA l=Lib.byteCells (l.map fun n=>n.toNat.toUInt8)
 |[],_=>rfl
 |x::l,h=>by
  obtain⟨hx,h⟩:=Cq h;show Value.int .u8 x::QA l=Value.int .u8 ((x.toNat.toUInt8).toNat:Int)::Lib.byteCells (l.map fun n=>n.toNat.toUInt8)
  rw[X4 h]
  congr 2
  have:(x.toNat.toUInt8).toNat=x.toNat:=by
   show x.toNat % 256=x.toNat;omega
  rw[this];omega
def UK (w:World)(l:List Int)(v:Value):Prop:=∃ad cap,v=.slice ad l.length cap∧l.length<=cap∧(l≠[]->∃b o,ad=some ⟨b,o,none⟩∧b<w.heap.size∧∀j x,l[j]?=some x->w.cell? ⟨b,o+j,none⟩=some (.int .u8 x))
theorem GX {T e:TypeId}{B b:Nat}{bs:List Value}{W W':World}(h:Lib.IsBuilderF T e B b bs W)(hb:Below W.heap.size W W'):Lib.IsBuilderF T e B b bs W':=by
 rcases h with h|h
 ·have B7:=h.lt;obtain⟨hB,v,hv,Fv,Eo⟩:=h;exact .inl ⟨hB,v,(hb.block b B7).trans hv,Fv.kept (row:=none) ⟨hb.os,hb.tape,hb.output,hb.size,fun k hk _=>hb.block k hk⟩ (Classical.em _),Eo⟩
 ·have B7:=h.lt;obtain⟨hB,v,hv,Fv,Eo⟩:=h;exact .inr ⟨hB,v,(hb.block b B7).trans hv,Fv.kept (row:=none) ⟨hb.os,hb.tape,hb.output,hb.size,fun k hk _=>hb.block k hk⟩ (Classical.em _),Eo⟩
theorem Mr {B:Nat}{a:World}(b:Nat)(hb:B<=b):∀(vs:List Value)(o:Nat){w:World},Below B a w->Below B a (w.setCells b o vs)
 |[],_,_,h=>h
 |v::r,o,w,h=>Mr b hb r (o+1) (h.setCell (p:=⟨b,o,none⟩) hb v)
theorem VC (wr:World)(b o cap:Nat)(l:List Int)(Eo:l≠[]) (hb:b<wr.heap.size)(hc:∀j x,l[j]?=some x->wr.cell? ⟨b,o+j,none⟩=some (.int .u8 x)) (a' b' c':Int)(k:Nat)(hk:k=min l.length 3)(ht:[a',b',c'].take k=l.take k) (h3:l.length<3->c'=0)(h2:l.length<2->b'=0):
  ∃W2,(∀ty,(Builtin.copy_ #[22,22] ty #[.slice (some ⟨wr.heap.size,0,none⟩) 3 3,.slice (some ⟨b,o,none⟩) l.length cap]).run prog (wr.alloc (.cells #[.int .u8 0,.int .u8 0,.int .u8 0] 54))=.ok (goInt k) W2)∧Below wr.heap.size wr W2∧wr.heap.size<W2.heap.size ∧
   W2.cell? ⟨wr.heap.size,0,none⟩=some (.int .u8 a')∧W2.cell? ⟨wr.heap.size,1,none⟩=some (.int .u8 b')∧W2.cell? ⟨wr.heap.size,2,none⟩=some (.int .u8 c'):=by
 obtain⟨i0,hi0,Gi,SJ⟩:=info_parts So.infoByte;have Cz:(l.take k).length=k:=by simp;omega
 have hc0:∀k,k<3->(wr.alloc (.cells #[.int .u8 0,.int .u8 0,.int .u8 0] 54)).cell? ⟨wr.heap.size,k,none⟩=some (.int .u8 0):=by
  intro k hk;simp only[World.cell?,World.alloc];simp
  match k,hk with
  |0,_=>rfl
  |1,_=>rfl
  |2,_=>rfl
 refine⟨(wr.alloc (.cells #[.int .u8 0,.int .u8 0,.int .u8 0] 54)).setCells wr.heap.size 0 (QA (l.take k)),fun ty=>?_,?_,?_,?_⟩
 ·refine Aav _ _ _ ty 5 i0 wr.heap.size 0 3 3 ⟨b,o,none⟩ l.length cap k (QA (l.take k)) ?_ hi0 ?_ ?_ ?_ ?_ ?_ ?_
  ·exact Tryd.underlying22
  ·exact hk
  ·rw[SJ.1];simp;omega
  ·intro j v hv
   have e0:(⟨b,o,none⟩:Addr).add j=⟨b,o+j,none⟩:=by
    unfold Addr.add;split
    ·subst j;rfl
    ·rfl
   rw[e0];rw[List.getElem?_map] at hv;obtain⟨x,hx,rfl⟩:=Option.map_eq_some_iff.1 hv
   have Q5:l[j]?=some x:=by
    rw[List.getElem?_take] at hx;split at hx
    ·exact hx
    ·cases hx
   exact Lib.cell?_alloc_some _ (hc j x Q5)
  ·intro j hj;rw[List.length_map,Cz] at hj;rw[hc0 _ (by omega)]
   rfl
  ·intro j hj;exact World.frozen?_alloc_new wr _ _ _
  ·intro v hv;obtain⟨x,_,rfl⟩:=List.mem_map.1 hv;rfl
 ·exact Mr _ (Nat.le_refl _) _ _ ((Below.refl _ wr).alloc (Nat.le_refl _) _)
 ·have:=(Mr (B:=0) wr.heap.size (Nat.zero_le _) (QA (l.take k)) 0 (Below.refl 0 (wr.alloc (.cells #[.int .u8 0,.int .u8 0,.int .u8 0] 54)))).size;have e:(wr.alloc (.cells #[.int .u8 0,.int .u8 0,.int .u8 0] 54)).heap.size=wr.heap.size+1:=Array.size_push _;rw[e] at this;omega
 ·have Ef:k=1∨k=2∨k=3:=by
   have:=List.length_pos_iff.2 Eo;omega
  have Ti:∀i,i<k->∀x,[a',b',c'][i]?=some x->((wr.alloc (.cells #[.int .u8 0,.int .u8 0,.int .u8 0] 54)).setCells wr.heap.size 0 (QA (l.take k))).cell? ⟨wr.heap.size,i,none⟩=some (.int .u8 x):=by
   intro i hi x hx
   have h:=World.cell?_setCells_in wr.heap.size (QA (l.take k)) 0 (wr.alloc (.cells #[.int .u8 0,.int .u8 0,.int .u8 0] 54)) (fun j hj=>by
    rw[List.length_map,Cz] at hj;rw[hc0 _ (by omega)]
    rfl) i (by rw[List.length_map,Cz];exact hi)
   rw[SF] at h;rw[h]
   have e:(QA (l.take k))[i]?=some (.int .u8 x):=by
    rw[←ht,List.getElem?_map,List.getElem?_take_of_lt hi,hx];rfl
   rw[List.getElem?_eq_getElem (by rw[List.length_map,Cz];exact hi)] at e
   exact e
  have Uk:∀i,k<=i->i<3->((wr.alloc (.cells #[.int .u8 0,.int .u8 0,.int .u8 0] 54)).setCells wr.heap.size 0 (QA (l.take k))).cell? ⟨wr.heap.size,i,none⟩=some (.int .u8 0):=by
   intro i hi h3;rw[World.cell?_setCells_out _ _ _ _ _ (fun _ _=>Or.inr (by rw[List.length_map,Cz];show 0+k<=i;omega))]
   exact hc0 i h3
  refine⟨Ti 0 (by omega) _ rfl,?_,?_⟩
  ·by_cases h:1<k
   ·exact Ti 1 h _ rfl
   ·rw[h2 (by omega)];exact Uk 1 (by omega) (by omega)
  ·by_cases h:2<k
   ·exact Ti 2 h _ rfl
   ·rw[h3 (by omega)];exact Uk 2 (by omega) (by omega)
set_option maxHeartbeats 4000000 in
theorem Aay (l:List Int)(hb:Ct l)(hl:l.length<=100000000)(u:Value)(w:World)(hu:UK w l u):
  Calls prog 12 #[u] w fun e w'=>e=.returned (.string (Aa (Ev l)))∧Below w.heap.size w w':=by
 have mixed:prog.follows Departure.mixedOrders=true:=by kernel_rfl
 go_enter Tryd.func12,Tryd.ntmps12
 go_wp2
 go_loopw [0] (fun v0 wr=>∃done rest,Ev l=done++Ev rest∧Ct done∧Ct rest∧rest.length<=l.length∧done.length+2*rest.length<=2*l.length∧UK w rest v0∧Lib.IsBuilderF 53 5 w.heap.size w.heap.size (QA done) wr∧Below w.heap.size w wr) (fun v0 _=>match v0 with | .slice _ n _=>n|_=>0)
 case atStart=>
  exact⟨[],l,rfl,(fun x hx=>by cases hx),hb,Nat.le_refl _,by simp,hu,Lib.IsBuilderF.of (Lib.fresh_isBuilder 53 5 w),(Below.refl _ w).alloc (Nat.le_refl _) _⟩
 case round=>
  obtain⟨done,rest,he,hd,hr,hrl,hdl,⟨ad,cap,rfl,T8,Cx⟩,hI,hbw⟩:=hrel;have M3:w.heap.size<=wr.heap.size:=hbw.size;by_cases hz:rest=[]
  ·subst hz
   go_wp2_with (go_at_call 25;refine (Any.Builder_String_any_k FP So w.heap.size w.heap.size (done.map fun n=>n.toNat.toUInt8) _ (by rw[←X4 hd];exact hI) (by omega)).mono ?_)
   rintro e W1 ⟨rfl,_,b1,_⟩
   go_wp2
   go_ret
   refine⟨?_,hbw.trans b1⟩;rw[he];simp[Ev,Aa]
  ·obtain⟨b,o,rfl,GI,Cx⟩:=Cx hz;have ZI:(0:Int)<rest.length:=by have:=List.length_pos_iff.2 hz;omega
   obtain⟨a',b',c',hB3,hen,htk,hc0,GJ⟩:=Aai rest hr hz;obtain⟨k,hk⟩:∃k,k=min rest.length 3:=⟨_,rfl⟩;rw[←hk] at hen htk;have Ds:(0:Int)<=k∧(k:Int)<=3∧(k:Int)<=rest.length:=by omega
   obtain⟨W2,hcp,hbc,hgs,g0,g1,g2⟩:=VC wr b o cap rest hz (by omega) (fun j x hx=>by rw[hbw.cell (p:=⟨b,o+j,none⟩) GI];exact Cx j x hx) a' b' c' k hk htk hc0 GJ
   have hkl:k<=rest.length:=by omega
   have hkp:1<=k:=by have:=List.length_pos_iff.2 hz;omega
   clear hk
   go_wp2
   all_goals
    go_loopw [32] (fun v32 W=>∃j:Nat,v32=.int .i64 j∧j<=k+1∧Lib.IsBuilderF 53 5 w.heap.size w.heap.size (QA (done++(I0 a' b' c').take j)) W∧Below w.heap.size w W) (fun v32 _=>match v32 with | .int _ n=>(4-n).toNat|_=>0)
    case atStart=>
     exact⟨0,rfl,by omega,by simpa using GX hI hbc,hbw.trans (hbc.mono M3)⟩
    case round=>
     obtain⟨j,rfl,hj,hIj,hbj⟩:=hrel;by_cases hjk:j<k+1
     ·have hj1:(j:Int)<k+1:=by omega
      obtain⟨q,S8,Ta,hq,hqq⟩:=A0k hB3 j (by omega)
      have ha:=Ai2 S8 Ta (by rw[ZK];omega)
      have A73:(done++(I0 a' b' c').take j).length+1<=140737488355328:=by
       have:=List.length_take_le j (I0 a' b' c');rw[Zzg];omega
      have Ay7:=hbj.size
      go_wp2_with (go_at_call 24;refine (Any.Builder_WriteByte_k EM So w.heap.size w.heap.size _ _ _ hIj (by rw[List.length_map];exact A73) Ay7).mono ?_)
      rintro e W1 ⟨rfl,h1,b1,k1⟩
      go_wp2
      go_roundw
      case rel=>
       refine⟨j+1,by simp,by omega,?_,hbj.trans b1⟩
       have e1:(I0 a' b' c').take (j+1)=(I0 a' b' c').take j++[Gv q]:=by
        rw[List.take_add_one,hqq];rfl
       rw[e1,←Zzv,ND,Ajy,←ha];exact Or.inr h1
      case measure=>
       simp;omega
     ·have hj1:¬((j:Int)<k+1):=by omega
      have A4a:j=k+1:=by omega
      subst A4a
      go_wp2
      refine⟨⟨done++(I0 a' b' c').take (k+1),rest.drop k,?_,Jt hd (Ae1 (Aqz hB3) _),Aeo hr _,?_,?_,?_,hIj,hbj⟩,?_⟩
      ·rw[Zzv,←hen];exact he
      ·simp;omega
      ·have:=List.length_take_le (k+1) (I0 a' b' c');rw[Zzg,List.length_drop];omega
      ·refine⟨_,_,by rw[List.length_drop],?_,fun Eo=>?_⟩
       ·rw[List.length_drop];omega
       have:k<rest.length:=by
        rcases Nat.lt_or_ge k rest.length with h|h
        ·exact h
        ·exact absurd (List.drop_eq_nil_iff.2 h) Eo
       first
        |(exfalso;omega)
        |(refine⟨b,o+k,rfl,GI,fun i x hx=>?_⟩;rw[List.getElem?_drop] at hx;rw[Nat.add_assoc];exact Cx _ _ hx)
      ·simp;omega
end
section
open Go.Proofs.Tryd (prog)
open Go.IntKind (wrap)
set_option maxRecDepth 1000000
open Go.RowKit
theorem HU:∀{c:List PV}{l:List Int},BV c=some l->c=Bn .u8 l∧Ct l
 |[],l,h=>by
  cases h;exact⟨rfl,fun x hx=>by cases hx⟩
 |p::c,l,h=>by
  unfold BV at h;split at h
  ·rename_i e;cases e
  ·rename_i n r e;cases e;cases hb:(decide (0<=n)&&decide (n<=255))
   ·rw[hb] at h;cases h
   ·rw[hb,cond_true] at h;simp only[Bool.and_eq_true,decide_eq_true_eq] at hb;cases hr:BV c with
    |none=>rw[hr] at h;cases h
    |some l'=>
     rw[hr] at h;cases h;obtain⟨rfl,h2⟩:=HU hr;refine⟨rfl,fun x hx=>?_⟩
     rcases List.mem_cons.1 hx with rfl|hx
     ·exact hb
     ·exact h2 x hx
  ·cases h
theorem Pb (k:IntKind):∀l:List Int,Bn k l=l.map fun n=>.sc (.int k n)
 |[]=>rfl
 |x::l=>by
  show PV.sc (.int k x)::Bn k l=_;rw[Pb k l];rfl
theorem Aar {w:World}{A:Nat->Prop}{bt:Bt}{z:Bool}{l:List Int}{u:Value}(h:OL w A bt (.lst z 1 l.length (Bn .u8 l)) u):UK w l u:=by
 have ht:Aw w A (.lst z 1 l.length (Bn .u8 l)) u:=h.2;generalize hc:Bn .u8 l=c at ht;generalize hn:l.length=n at ht;cases ht with
 |lnil=>exact⟨none,0,by rw[hn],by omega,fun Eo=>absurd (List.eq_nil_of_length_eq_zero hn) Eo⟩
 |lemp _ a cap=>exact⟨some a,cap,by rw[hn],by omega,fun Eo=>absurd (List.eq_nil_of_length_eq_zero hn) Eo⟩
 |lst _ _ _ a cap f hs hb hA hn' Cx h1 hr=>
  obtain⟨b,o,s⟩:=a;cases hs;refine⟨some ⟨b,o,none⟩,cap,by rw[hn],by omega,fun _=>⟨b,o,rfl,hb,fun j x hx=>?_⟩⟩
  have e:c[j]?=some (.sc (.int .u8 x)):=by rw[←hc,Pb,List.getElem?_map,hx];rfl
  have h2:=Cx j _ e;rw[(hr j _ e).val] at h2
  have e0:(⟨b,o,none⟩:Addr).add j=⟨b,o+j,none⟩:=by
   unfold Addr.add;split
   ·subst j;rfl
   ·rfl
  rw[e0] at h2;exact h2
theorem Abe (G:Ur)(args:List PV)(res:Aq)(h:Adi args=some res):Df G prog 12 args res:=by
 refine⟨⟨_,Tryd.func12,by kernel_rfl⟩,fun w Y bt us hi _ _=>?_⟩
 unfold Adi at h;split at h
 rotate_left
 ·cases h
 rename_i z n c;cases hq:(Nat.beq c.length n&&Nat.ble n 100000000)
 ·rw[hq] at h;cases h
 rw[hq,cond_true] at h;simp only[Bool.and_eq_true] at hq;have hn:=Nat.eq_of_beq_eq_true hq.1;have hm:=Nat.le_of_ble_eq_true hq.2;split at h
 rotate_left
 ·cases h
 rename_i l hl;cases h;obtain⟨rfl,hB⟩:=HU hl
 have Cz:l.length=n:=by
  rw[←hn,Pb,List.length_map]
 subst Cz;have ps:=hi.args
 match us,ps with
 |[u1],ps=>
  refine (Aay l hB hm u1 w (Aar ps.1)).mono ?_
  rintro e w' ⟨rfl,hb⟩
  exact⟨[.string (Aa (Ev l))],fun _=>none,rfl,O7 hb rfl⟩
 |[],ps=>exact ps.elim
 |_::_::_,ps=>exact ps.2.elim
end
section
open Go.Proofs.Tryd (prog)
open Go.IntKind (wrap)
set_option maxRecDepth 100000
abbrev Fh:FuncId:=77
theorem On {xs:FuncId->Option (List PV->Option Aq)} (fu d:Nat)(a0 a1:ByteArray):Ae (CX xs) prog fu (d+1) Fh [.sc (.string a0),.sc (.string a1)]=(fun (call:An)=>Ba (decide ((↑(ByteArray.size a0):Int)>=(↑(ByteArray.size a1):Int))) (A9 (decide (Int.toNat (↑(ByteArray.size a1):Int)<=ByteArray.size a0))<|Ac (ByteArray.extract a0 0 (Int.toNat (↑(ByteArray.size a1):Int))) fun x1=>some (Aq.mk [.sc (.bool (Array.toList (ByteArray.data x1)==Array.toList (ByteArray.data a1)))] [])) (some (Aq.mk [.sc (.bool false)] []))) (Ae (CX xs) prog fu d):=by kernel_rfl
abbrev Li:FuncId:=87
theorem Sz {xs:FuncId->Option (List PV->Option Aq)} (fu d:Nat)(a0 a1:ByteArray):Ae (CX xs) prog fu (d+1) Li [.sc (.string a0),.sc (.string a1)]=(fun (call:An)=>Ai (call 77 [.sc (.string a0),.sc (.string a1)]) fun x1 x2=>Ad x2<|Ab x1 fun x3 x4=>Ao x3 fun x5=>Ad x4<|some (Aq.mk [.sc (.bool x5)] [])) (Ae (CX xs) prog fu d):=by kernel_rfl
abbrev Hq:FuncId:=90
theorem Nx {xs:FuncId->Option (List PV->Option Aq)} (fu d:Nat)(Bp:ByteArray)(Bm:Int):Ae (CX xs) prog fu (d+1) Hq [.pbox [.sc (.string Bp),.sc (.int .i64 Bm)]]=(fun (call:An)=>Ba (decide (Bm<(↑(ByteArray.size Bp):Int))) (A9 (decide (0<=Bm))<|Cy ((Array.toList (ByteArray.data Bp))[Int.toNat Bm]?) fun x1=>some (Aq.mk [.sc (.int .u8 (↑(UInt8.toNat x1):Int))] [[.sc (.string Bp),.sc (.int .i64 Bm)]])) (some (Aq.mk [.sc (.int .u8 0)] [[.sc (.string Bp),.sc (.int .i64 Bm)]]))) (Ae (CX xs) prog fu d):=by kernel_rfl
abbrev Gt:FuncId:=67
theorem L9 {xs:FuncId->Option (List PV->Option Aq)} (fu d:Nat)(Bp:ByteArray)(Bm:Int)(a1:ByteArray):Ae (CX xs) prog fu (d+1) Gt [.pbox [.sc (.string Bp),.sc (.int .i64 Bm)],.sc (.string a1)]=(fun (call:An)=>A9 (decide (0<=Bm))<|A9 (decide (Int.toNat Bm<=ByteArray.size Bp)&&decide (ByteArray.size Bp<=ByteArray.size Bp))<|Ac (ByteArray.extract Bp Bm.toNat (ByteArray.size Bp)) fun x1=>Ai (call 87 [.sc (.string x1),.sc (.string a1)]) fun x2 x3=>Ad x3<|Ab x2 fun x4 x5=>Ao x4 fun x6=>Ad x5<|Ba (!x6) (some (Aq.mk [.sc (.bool false)] [[.sc (.string Bp),.sc (.int .i64 Bm)]])) (Ac (wrap .i64 (Bm+(↑(ByteArray.size a1):Int))) fun x7=>some (Aq.mk [.sc (.bool true)] [[.sc (.string Bp),.sc (.int .i64 x7)]]))) (Ae (CX xs) prog fu d):=by kernel_rfl
abbrev Mn:FuncId:=115
theorem Tx {xs:FuncId->Option (List PV->Option Aq)} (fu d:Nat)(a0:Int):Ae (CX xs) prog fu (d+1) Mn [.sc (.int .i32 a0)]=(fun (call:An)=>Ba (decide (a0>=56320)) (some (Aq.mk [.sc (.bool (decide (a0<=57343)))] [])) (some (Aq.mk [.sc (.bool false)] []))) (Ae (CX xs) prog fu d):=by kernel_rfl
abbrev Gh:FuncId:=114
noncomputable def Bd (fu:Nat)(call:An)(Bp:ByteArray)(Bm:Int)(nn:Nat)(y0 y1:Int)(y2:ByteArray)(y3:Int):Option Aq:=Fy CB prog fu call 114 Tryd.f114 (Eb Tryd.f114) [.pbox [.sc (.string Bp),.sc (.int .i64 Bm)]] [.r,.r,.l,.r,.l] nn ⟨lk [(0,(.ptr 120000 0)),(4,(.sc (.int .i32 y0))),(6,(.sc (.int .i64 y1)))],Ij [(120000,(.st [(.sc (.string y2)),(.sc (.int .i64 y3))]))]⟩
theorem Fj (fu:Nat)(call:An)(Bp:ByteArray)(Bm:Int)(nn:Nat)(y0 y1:Int)(y2:ByteArray)(y3:Int):Bd fu call Bp Bm (nn+1) y0 y1 y2 y3=(Ba (decide (y1<4)) (Ai (call 90 [.pbox [.sc (.string y2),.sc (.int .i64 y3)]]) fun x1 x2=>Ab x1 fun x3 x4=>Ak .u8 x3 fun x5=>Ad x4<|Ab x2 fun x6 x7=>Ab x6 fun x8 x9=>A0 x8 fun E2=>Ab x9 fun I3 J2=>Ak .i64 I3 fun E4=>Ad J2<|Ad x7<|Ba (decide (x5>=48)) (Ba (decide (x5<=57)) (Ac (Jw .i32 y0 4) fun Ha=>Ac (wrap .u8 (x5-48)) fun Km=>Ac (wrap .i32 Km) fun Hk=>Ac (wrap .i32 (Ha+Hk)) fun Ib=>Ac (wrap .i64 (E4+1)) fun Kp=>Ac (wrap .i64 (y1+1)) fun Jb=>Bd fu call Bp Bm (nn) Ib Jb E2 Kp) (Ba (decide (x5>=97)) (Ba (decide (x5<=102)) (Ac (Jw .i32 y0 4) fun Kw=>Ac (wrap .u8 (x5-97)) fun K7=>Ac (wrap .i32 K7) fun Lx=>Ac (wrap .i32 (Kw+Lx)) fun Jz=>Ac (wrap .i32 (Jz+10)) fun Lo=>Ac (wrap .i64 (E4+1)) fun Ld=>Ac (wrap .i64 (y1+1)) fun Lt=>Bd fu call Bp Bm (nn) Lo Lt E2 Ld) (Ba (decide (x5>=65)) (Ba (decide (x5<=70)) (Ac (Jw .i32 y0 4) fun Mq=>Ac (wrap .u8 (x5-65)) fun Ow=>Ac (wrap .i32 Ow) fun M2=>Ac (wrap .i32 (Mq+M2)) fun Ox=>Ac (wrap .i32 (Ox+10)) fun Pk=>Ac (wrap .i64 (E4+1)) fun P4=>Ac (wrap .i64 (y1+1)) fun Pi=>Bd fu call Bp Bm (nn) Pk Pi E2 P4) (some (Aq.mk [.sc (.int .i32 0),.sc (.bool false)] [[.sc (.string E2),.sc (.int .i64 E4)]]))) (some (Aq.mk [.sc (.int .i32 0),.sc (.bool false)] [[.sc (.string E2),.sc (.int .i64 E4)]])))) (Ba (decide (x5>=65)) (Ba (decide (x5<=70)) (Ac (Jw .i32 y0 4) fun Ql=>Ac (wrap .u8 (x5-65)) fun Qt=>Ac (wrap .i32 Qt) fun P7=>Ac (wrap .i32 (Ql+P7)) fun R0=>Ac (wrap .i32 (R0+10)) fun Q3=>Ac (wrap .i64 (E4+1)) fun Pn=>Ac (wrap .i64 (y1+1)) fun W0=>Bd fu call Bp Bm (nn) Q3 W0 E2 Pn) (some (Aq.mk [.sc (.int .i32 0),.sc (.bool false)] [[.sc (.string E2),.sc (.int .i64 E4)]]))) (some (Aq.mk [.sc (.int .i32 0),.sc (.bool false)] [[.sc (.string E2),.sc (.int .i64 E4)]]))))) (Ba (decide (x5>=97)) (Ba (decide (x5<=102)) (Ac (Jw .i32 y0 4) fun X8=>Ac (wrap .u8 (x5-97)) fun Pq=>Ac (wrap .i32 Pq) fun Qp=>Ac (wrap .i32 (X8+Qp)) fun Wb=>Ac (wrap .i32 (Wb+10)) fun Wa=>Ac (wrap .i64 (E4+1)) fun Z2=>Ac (wrap .i64 (y1+1)) fun Zq=>Bd fu call Bp Bm (nn) Wa Zq E2 Z2) (Ba (decide (x5>=65)) (Ba (decide (x5<=70)) (Ac (Jw .i32 y0 4) fun Zr=>Ac (wrap .u8 (x5-65)) fun Xk=>Ac (wrap .i32 Xk) fun Xn=>Ac (wrap .i32 (Zr+Xn)) fun Zi=>Ac (wrap .i32 (Zi+10)) fun N1=>Ac (wrap .i64 (E4+1)) fun Q8=>Ac (wrap .i64 (y1+1)) fun X5=>Bd fu call Bp Bm (nn) N1 X5 E2 Q8) (some (Aq.mk [.sc (.int .i32 0),.sc (.bool false)] [[.sc (.string E2),.sc (.int .i64 E4)]]))) (some (Aq.mk [.sc (.int .i32 0),.sc (.bool false)] [[.sc (.string E2),.sc (.int .i64 E4)]])))) (Ba (decide (x5>=65)) (Ba (decide (x5<=70)) (Ac (Jw .i32 y0 4) fun FB=>Ac (wrap .u8 (x5-65)) fun BG=>Ac (wrap .i32 BG) fun Zw=>Ac (wrap .i32 (FB+Zw)) fun Zu=>Ac (wrap .i32 (Zu+10)) fun GA=>Ac (wrap .i64 (E4+1)) fun II=>Ac (wrap .i64 (y1+1)) fun JO=>Bd fu call Bp Bm (nn) GA JO E2 II) (some (Aq.mk [.sc (.int .i32 0),.sc (.bool false)] [[.sc (.string E2),.sc (.int .i64 E4)]]))) (some (Aq.mk [.sc (.int .i32 0),.sc (.bool false)] [[.sc (.string E2),.sc (.int .i64 E4)]]))))) (some (Aq.mk [.sc (.int .i32 y0),.sc (.bool true)] [[.sc (.string y2),.sc (.int .i64 y3)]]))):=by kernel_rfl
theorem Ls {xs:FuncId->Option (List PV->Option Aq)} (fu d:Nat)(Bp:ByteArray)(Bm:Int):Ae (CX xs) prog fu (d+1) Gh [.pbox [.sc (.string Bp),.sc (.int .i64 Bm)]]=(fun (call:An)=>Bd fu call Bp Bm (fu) 0 0 (Bp) (Bm)) (Ae (CX xs) prog fu d):=by kernel_rfl
abbrev F8:FuncId:=105
theorem K5 {xs:FuncId->Option (List PV->Option Aq)} (fu d:Nat)(Bp:ByteArray)(Bm:Int):Ae (CX xs) prog fu (d+1) F8 [.pbox [.sc (.string Bp),.sc (.int .i64 Bm)]]=(fun (call:An)=>Ai (call 114 [.pbox [.sc (.string Bp),.sc (.int .i64 Bm)]]) fun x1 x2=>Ab x1 fun x3 x4=>Ak .i32 x3 fun x5=>Ab x4 fun x6 x7=>Ao x6 fun x8=>Ad x7<|Ab x2 fun x9 E2=>Ab x9 fun I3 J2=>A0 I3 fun E4=>Ab J2 fun Ha Km=>Ak .i64 Ha fun Hk=>Ad Km<|Ad E2<|Ba (!x8) (some (Aq.mk [.sc (.int .i32 0),.sc (.bool false)] [[.sc (.string E4),.sc (.int .i64 Hk)]])) (Ai (call 115 [.sc (.int .i32 x5)]) fun Ib Kp=>Ad Kp<|Ab Ib fun Jb Kw=>Ao Jb fun K7=>Ad Kw<|Ba K7 (some (Aq.mk [.sc (.int .i32 0),.sc (.bool false)] [[.sc (.string E4),.sc (.int .i64 Hk)]])) (Ba (decide (x5<55296)) (some (Aq.mk [.sc (.int .i32 x5),.sc (.bool true)] [[.sc (.string E4),.sc (.int .i64 Hk)]])) (Ba (decide (x5>56319)) (some (Aq.mk [.sc (.int .i32 x5),.sc (.bool true)] [[.sc (.string E4),.sc (.int .i64 Hk)]])) (Ai (call 67 [.pbox [.sc (.string E4),.sc (.int .i64 Hk)],.sc (.string (ByteArray.mk #[92,117]))]) fun Lx Jz=>Ab Lx fun Lo Ld=>Ao Lo fun Lt=>Ad Ld<|Ab Jz fun Mq Ow=>Ab Mq fun M2 Ox=>A0 M2 fun Pk=>Ab Ox fun P4 Pi=>Ak .i64 P4 fun Ql=>Ad Pi<|Ad Ow<|Ba (!Lt) (some (Aq.mk [.sc (.int .i32 0),.sc (.bool false)] [[.sc (.string Pk),.sc (.int .i64 Ql)]])) (Ai (call 114 [.pbox [.sc (.string Pk),.sc (.int .i64 Ql)]]) fun Qt P7=>Ab Qt fun R0 Q3=>Ak .i32 R0 fun Pn=>Ab Q3 fun W0 X8=>Ao W0 fun Pq=>Ad X8<|Ab P7 fun Qp Wb=>Ab Qp fun Wa Z2=>A0 Wa fun Zq=>Ab Z2 fun Zr Xk=>Ak .i64 Zr fun Xn=>Ad Xk<|Ad Wb<|Ba (!Pq) (some (Aq.mk [.sc (.int .i32 0),.sc (.bool false)] [[.sc (.string Zq),.sc (.int .i64 Xn)]])) (Ai (call 115 [.sc (.int .i32 Pn)]) fun Zi N1=>Ad N1<|Ab Zi fun Q8 X5=>Ao Q8 fun FB=>Ad X5<|Ba (!FB) (some (Aq.mk [.sc (.int .i32 0),.sc (.bool false)] [[.sc (.string Zq),.sc (.int .i64 Xn)]])) (Ac (wrap .i32 (x5-55296)) fun BG=>Ac (Jw .i32 BG 10) fun Zw=>Ac (wrap .i32 (65536+Zw)) fun Zu=>Ac (wrap .i32 (Pn-56320)) fun GA=>Ac (wrap .i32 (Zu+GA)) fun II=>some (Aq.mk [.sc (.int .i32 II),.sc (.bool true)] [[.sc (.string Zq),.sc (.int .i64 Xn)]]))))))))) (Ae (CX xs) prog fu d):=by kernel_rfl
abbrev Fq:FuncId:=88
theorem Jo {xs:FuncId->Option (List PV->Option Aq)} (fu d:Nat)(Bp:ByteArray)(Bm:Int):Ae (CX xs) prog fu (d+1) Fq [.pbox [.sc (.string Bp),.sc (.int .i64 Bm)]]=(fun (call:An)=>Ai (call 67 [.pbox [.sc (.string Bp),.sc (.int .i64 Bm)],.sc (.string (ByteArray.mk #[117]))]) fun x1 x2=>Ab x1 fun x3 x4=>Ao x3 fun x5=>Ad x4<|Ab x2 fun x6 x7=>Ab x6 fun x8 x9=>A0 x8 fun E2=>Ab x9 fun I3 J2=>Ak .i64 I3 fun E4=>Ad J2<|Ad x7<|Ba x5 (Ai (call 105 [.pbox [.sc (.string E2),.sc (.int .i64 E4)]]) fun Ha Km=>Ab Ha fun Hk Ib=>Ak .i32 Hk fun Kp=>Ab Ib fun Jb Kw=>Ao Jb fun K7=>Ad Kw<|Ab Km fun Lx Jz=>Ab Lx fun Lo Ld=>A0 Lo fun Lt=>Ab Ld fun Mq Ow=>Ak .i64 Mq fun M2=>Ad Ow<|Ad Jz<|some (Aq.mk [.sc (.int .i32 Kp),.sc (.bool K7)] [[.sc (.string Lt),.sc (.int .i64 M2)]])) (Ai (call 90 [.pbox [.sc (.string E2),.sc (.int .i64 E4)]]) fun Ox Pk=>Ab Ox fun P4 Pi=>Ak .u8 P4 fun Ql=>Ad Pi<|Ab Pk fun Qt P7=>Ab Qt fun R0 Q3=>A0 R0 fun Pn=>Ab Q3 fun W0 X8=>Ak .i64 W0 fun Pq=>Ad X8<|Ad P7<|Ac (wrap .i32 Ql) fun Qp=>Ba (Qp==34) (Ac (wrap .i64 (Pq+1)) fun Wb=>some (Aq.mk [.sc (.int .i32 Qp),.sc (.bool true)] [[.sc (.string Pn),.sc (.int .i64 Wb)]])) (Ba (Qp==92) (Ac (wrap .i64 (Pq+1)) fun Wa=>some (Aq.mk [.sc (.int .i32 Qp),.sc (.bool true)] [[.sc (.string Pn),.sc (.int .i64 Wa)]])) (Ba (Qp==47) (Ac (wrap .i64 (Pq+1)) fun Z2=>some (Aq.mk [.sc (.int .i32 Qp),.sc (.bool true)] [[.sc (.string Pn),.sc (.int .i64 Z2)]])) (Ba (Qp==98) (Ac (wrap .i64 (Pq+1)) fun Zq=>some (Aq.mk [.sc (.int .i32 8),.sc (.bool true)] [[.sc (.string Pn),.sc (.int .i64 Zq)]])) (Ba (Qp==102) (Ac (wrap .i64 (Pq+1)) fun Zr=>some (Aq.mk [.sc (.int .i32 12),.sc (.bool true)] [[.sc (.string Pn),.sc (.int .i64 Zr)]])) (Ba (Qp==110) (Ac (wrap .i64 (Pq+1)) fun Xk=>some (Aq.mk [.sc (.int .i32 10),.sc (.bool true)] [[.sc (.string Pn),.sc (.int .i64 Xk)]])) (Ba (Qp==114) (Ac (wrap .i64 (Pq+1)) fun Xn=>some (Aq.mk [.sc (.int .i32 13),.sc (.bool true)] [[.sc (.string Pn),.sc (.int .i64 Xn)]])) (Ba (Qp==116) (Ac (wrap .i64 (Pq+1)) fun Zi=>some (Aq.mk [.sc (.int .i32 9),.sc (.bool true)] [[.sc (.string Pn),.sc (.int .i64 Zi)]])) (some (Aq.mk [.sc (.int .i32 0),.sc (.bool false)] [[.sc (.string Pn),.sc (.int .i64 Pq)]]))))))))))) (Ae (CX xs) prog fu d):=by kernel_rfl
end
section
open Go.Proofs.Tryd (prog)
open Go.IntKind (wrap)
def Dg (t:ByteArray)(r:List Int):Prop:=∃pre,Fc t=pre++r
theorem Dg.all (t:ByteArray):Dg t (Fc t):=⟨[],rfl⟩
theorem Dg.len {t:ByteArray}{r:List Int}(h:Dg t r):r.length<=t.size:=by
 obtain⟨pre,h⟩:=h;have:=congrArg List.length h;rw[Kk,Zzg] at this;omega
theorem Dg.app {t:ByteArray}{a r:List Int}(h:Dg t (a++r)):Dg t r:=by
 obtain⟨pre,h⟩:=h;exact⟨pre++a,by rw[h,Zzv]⟩
theorem Dg.tail {t:ByteArray}{c:Int}{r:List Int}(h:Dg t (c::r)):Dg t r:=Dg.app (a:=[c]) h
theorem Dg.drop {t:ByteArray}{r:List Int}(h:Dg t r)(k:Nat):Dg t (r.drop k):=by
 rw[←List.take_append_drop k r] at h;exact h.app
def Bu (t:ByteArray)(r:List Int):Nat:=t.size-r.length
theorem Dg.eq {t:ByteArray}{r:List Int}(h:Dg t r):r=(Fc t).drop (Bu t r):=by
 have hl:=h.len;obtain⟨pre,h⟩:=h
 have e:Bu t r=pre.length:=by
  have:=congrArg List.length h;rw[Kk,Zzg] at this;unfold Bu;omega
 rw[e,h,List.drop_left]
theorem Dg.B {t:ByteArray}{r:List Int}(h:Dg t r):Ct r:=by
 obtain⟨pre,h⟩:=h;exact fun x hx=>LY t x (by rw[h];exact List.mem_append_right _ hx)
theorem Dg.at {t:ByteArray}{c:Int}{r:List Int}(h:Dg t (c::r)):∃b:UInt8,(Array.toList t.data)[Bu t (c::r)]?=some b∧(b.toNat:Int)=c:=by
 have he:=h.eq
 have:(Fc t)[Bu t (c::r)]?=some c:=by
  have:=congrArg (fun l=>l[0]?) he
  rw[List.getElem?_drop] at this;exact this.symm
 unfold Fc at this;rw[List.getElem?_map] at this;obtain⟨b,hb,rfl⟩:=Option.map_eq_some_iff.1 this;exact⟨b,hb,rfl⟩
theorem L6 {t:ByteArray}{c:Int}{r:List Int}(h:Dg t (c::r)):Bu t r=Bu t (c::r)+1:=by
 have:=h.len;unfold Bu;rw[FM] at this ⊢;omega
theorem U9 (t:ByteArray):Bu t []=t.size:=rfl
abbrev Bx (t:ByteArray)(r:List Int):List PV:=[.sc (.string t),.sc (.int .i64 (Bu t r:Int))]
def NT:List Int->Int
 |[]=>0
 |c::_=>c
section
variable {fu d:Nat} {xs:FuncId->Option (List PV->Option Aq)}
theorem M1 {t:ByteArray}{r:List Int}(h:Dg t r):Ae (CX xs) prog fu (d+1) Hq [.pbox (Bx t r)]=some ⟨[.sc (.int .u8 (NT r))],[Bx t r]⟩:=by
 rw[Nx];cases r with
 |nil=>
  show _=some (Aq.mk [.sc (.int .u8 0)] [[.sc (.string t),.sc (.int .i64 (Bu t []:Int))]]);rw[U9];have e:decide ((t.size:Int)<(t.size:Int))=false:=by simp
  simp only[B0,e]
 |cons c r=>
  have hl:=h.len;obtain⟨b,hb,rfl⟩:=h.at
  have hp:Bu t ((b.toNat:Int)::r)<t.size:=by
   unfold Bu;rw[FM] at hl ⊢;omega
  have e:decide ((Bu t ((b.toNat:Int)::r):Int)<(t.size:Int))=true:=by simp;omega
  have e2:decide ((0:Int)<=(Bu t ((b.toNat:Int)::r):Int))=true:=by simp
  rw[←Kx (Bu t ((b.toNat:Int)::r))] at hb;simp only[B0,e,e2,hb,NT]
theorem Zg {s:ByteArray}{a:Nat}:s.extract a s.size=Aa ((Fc s).drop a):=by
 rw[←G9 (s.extract a s.size)]
 congr 1
 unfold Fc;rw[ByteArray.data_extract,Array.toList_extract,List.extract_eq_take_drop,←List.map_drop,Zzf];rw[List.length_drop];exact Nat.le_refl _
theorem U8 {s:ByteArray}{n:Nat}:s.extract 0 n=Aa ((Fc s).take n):=by
 rw[←G9 (s.extract 0 n)]
 congr 1
 unfold Fc;rw[ByteArray.data_extract,Array.toList_extract,List.extract_eq_take_drop,Nat.sub_zero,Zze,List.map_take]
theorem Am0 {a w:List Int}(ha:Ct a)(hw:Ct w):Ae (CX xs) prog fu (d+1) Fh [.sc (.string (Aa a)),.sc (.string (Aa w))]=some ⟨[.sc (.bool (w.isPrefixOf a))],[]⟩:=by
 rw[On,Af,Af];by_cases hl:w.length<=a.length
 ·have e1:decide ((a.length:Int)>=(w.length:Int))=true:=by simp;omega
  have e2:decide (Int.toNat (w.length:Int)<=a.length)=true:=by rw[Kx];simp;exact hl
  have e3:(Aa a).extract 0 (Int.toNat (w.length:Int))=Aa (a.take w.length):=by
   rw[Kx,U8,Co ha]
  have e4:(Array.toList (Aa (a.take w.length)).data==Array.toList (Aa w).data)=w.isPrefixOf a:=by
   rw[Bool.eq_iff_iff,List.isPrefixOf_iff_prefix,beq_iff_eq];constructor
   ·intro h
    have h2:Aa (a.take w.length)=Aa w:=by
     cases hx:Aa (a.take w.length);cases hy:Aa w;rw[hx,hy] at h;exact congrArg ByteArray.mk (Array.toList_inj.1 h)
    have h3:=congrArg Fc h2;rw[Co hw,Co (fun x hx=>ha x (List.mem_of_mem_take hx))] at h3
    exact List.prefix_iff_eq_take.2 h3.symm
   ·intro h;rw[←List.prefix_iff_eq_take.1 h]
  simp only[B0,e1,e2,e3,e4]
 ·have e1:decide ((a.length:Int)>=(w.length:Int))=false:=by simp;omega
  have e4:w.isPrefixOf a=false:=by
   rw[Bool.eq_false_iff,ne_eq,List.isPrefixOf_iff_prefix];exact fun h=>hl h.length_le
  simp only[B0,e1,e4]
theorem A4y {a w:List Int}(ha:Ct a)(hw:Ct w):Ae (CX xs) prog fu (d+2) Li [.sc (.string (Aa a)),.sc (.string (Aa w))]=some ⟨[.sc (.bool (w.isPrefixOf a))],[]⟩:=by
 rw[Sz];have e:Ae (CX xs) prog fu (d+1) Fh [.sc (.string (Aa a)),.sc (.string (Aa w))]=_:=Am0 ha hw;simp only[B0,e]
theorem Ra {t:ByteArray}{r w:List Int}(h:Dg t r)(ht:t.size<=1000000)(hw:Ct w)(hw2:w.length<=100):Ae (CX xs) prog fu (d+3) Gt [.pbox (Bx t r),.sc (.string (Aa w))]=some (match Av w r with|some r'=>⟨[.sc (.bool true)],[Bx t r']⟩|none=>⟨[.sc (.bool false)],[Bx t r]⟩):=by
 have hl:=h.len;have he:=h.eq;have hp:Bu t r<=t.size:=Nat.sub_le _ _;have hh:=A4y (fu:=fu) (d:=d) (xs:=xs) h.B hw;have e1:decide ((0:Int)<=(Bu t r:Int))=true:=by simp
 have e2:(decide (Int.toNat (Bu t r:Int)<=t.size)&&decide (t.size<=t.size))=true:=by
  rw[Kx];simp;exact hp
 have e3:t.extract (Int.toNat (Bu t r:Int)) t.size=Aa r:=by rw[Kx,Zg,←he]
 rw[L9];unfold Av;by_cases hq:w.isPrefixOf r=true
 ·rw[D1 hq];rw[hq] at hh
  have hwl:w.length<=r.length:=by
   have:=List.IsPrefix.length_le (List.isPrefixOf_iff_prefix.1 hq);exact this
  have e4:wrap .i64 ((Bu t r:Int)+((Aa w).size:Int))=(Bu t (r.drop w.length):Int):=by
   rw[Af,Az (by omega) (by omega)]
   unfold Bu;rw[List.length_drop];omega
  simp only[B0,e1,e2,e3,hh,e4,Cw]
 ·rw[Dc hq];have Jd:w.isPrefixOf r=false:=Bool.eq_false_iff.2 hq;rw[Jd] at hh;simp only[B0,e1,e2,e3,hh,Dl]
theorem Ako (x:Int):Ae (CX xs) prog fu (d+1) Mn [.sc (.int .i32 x)]=some ⟨[.sc (.bool (MC x))],[]⟩:=by
 rw[Tx];unfold MC;by_cases h:56320<=x
 ·have e:decide (x>=56320)=true:=by simp;omega
  have e2:decide (56320<=x)=true:=by simp;omega
  simp only[B0,e,e2,Zzm]
 ·have e:decide (x>=56320)=false:=by simp;omega
  have e2:decide (56320<=x)=false:=by simp;omega
  simp only[B0,e,e2,PE]
def Ai4 (t:ByteArray)(o:PR Int):Aq:=⟨[.sc (.int .i32 (o.1.getD 0)),.sc (.bool o.1.isSome)],[Bx t o.2]⟩
theorem IJ (c:Int):(48<=c∧c<=57∧SV c=some (c-48))∨(97<=c∧c<=102∧SV c=some (c-87))∨(65<=c∧c<=70∧SV c=some (c-55))∨(¬(48<=c∧c<=57)∧¬(97<=c∧c<=102)∧¬(65<=c∧c<=70)∧SV c=none):=by
 unfold SV;by_cases h1:48<=c∧c<=57
 ·exact .inl ⟨h1.1,h1.2,D1 h1⟩
 ·by_cases h2:97<=c∧c<=102
  ·exact .inr (.inl ⟨h2.1,h2.2,by rw[Dc h1,D1 h2]⟩)
  ·by_cases h3:65<=c∧c<=70
   ·exact .inr (.inr (.inl ⟨h3.1,h3.2,by rw[Dc h1,Dc h2,D1 h3]⟩))
   ·exact .inr (.inr (.inr ⟨h1,h2,h3,by rw[Dc h1,Dc h2,Dc h3]⟩))
theorem Et {x:Int}(h1: -2147483648<=x)(h2:x<=2147483647):wrap .i32 x=x:=by
 have:=IntWalk.i32_in x (by omega)
 exact this
theorem As7 {x:Int}(h0:0<=x)(h1:x<65536):Jw .i32 x 4=x*16:=by
 show wrap .i32 (x*2 ^ (min (4:Int).toNat IntKind.i32.bits))=_;rw[show min (4:Int).toNat IntKind.i32.bits=4 from rfl]
 exact Et (by omega) (by omega)
theorem V5 {t s0:ByteArray}{p0:Int}(ht:t.size<=1000000):∀(n:Nat)(nn:Nat)(x:Int)(r:List Int),n<=4->n+1<=nn->0<=x->x<16 ^ (4-n)->Dg t r ->
  Bd fu (Ae (CX xs) prog fu (d+1)) s0 p0 nn x ((4-n:Nat):Int) t (Bu t r:Int)=some (Ai4 t (S6 n x r))
 |0,nn,x,r,_,Pe,h0,h1,h=>by
  obtain⟨k,rfl⟩:∃k,nn=k+1:=⟨nn-1,by omega⟩
  rw[Fj];simp only[B0,show decide (((4-0:Nat):Int)<4)=false from rfl]
  rfl
 |n+1,nn,x,r,hn,Pe,h0,h1,h=>by
  obtain⟨k,rfl⟩:∃k,nn=k+1:=⟨nn-1,by omega⟩
  have pk:=M1 (fu:=fu) (d:=d) (xs:=xs) h;have hl:=h.len
  have hx:x<4096:=by
   have:n+1=1∨n+1=2∨n+1=3∨n+1=4:=by omega
   rcases this with e|e|e|e<;>rw[e] at h1<;>simp at h1<;>omega
  have Q5:∀v,0<=v->v<=15->x*16+v<16 ^ (4-n):=by
   intro v hv0 hv1;have e:4-n=(4-(n+1))+1:=by omega
   rw[e,Int.pow_succ];omega
  have e4:decide (((4-(n+1):Nat):Int)<4)=true:=by simp;omega
  have e5:wrap .i64 (((4-(n+1):Nat):Int)+1)=((4-n:Nat):Int):=by rw[Az (by omega) (by omega)];omega
  have sh:=As7 h0 (by omega)
  rw[Fj];cases r with
  |nil=>
   have pk2:Ae (CX xs) prog fu (d+1) 90 [.pbox (Bx t [])]=some ⟨[.sc (.int .u8 0)],[Bx t []]⟩:=pk
   try unfold Ac
   repeat first
    |((with_reducible first|apply A5|apply At|apply A7|apply Ax|apply A2|apply D2|apply Au|apply A4|apply A6);· first|with_reducible rfl|(simp (disch:=omega) only[gT,e4,pk2,Int.reduceGE,decide_false,decide_true]<;>first|with_reducible rfl|omega)|omega)
    |(with_reducible apply A3;· first|with_reducible rfl|(simp (disch:=omega) only[gF,e4,pk2,Int.reduceGE,decide_false,decide_true]<;>omega))
   try simp (disch:=omega) only[e4,pk2,Int.reduceGE,decide_false,decide_true]
   rfl
  |cons c r=>
   have hc:=h.B c (by simp)
   have hp:=L6 h
   have e6:wrap .i64 ((Bu t (c::r):Int)+1)=(Bu t r:Int):=by
    rw[hp,Az (by unfold Bu;omega) (by unfold Bu;omega)];omega
   have pk2:Ae (CX xs) prog fu (d+1) 90 [.pbox (Bx t (c::r))]=some ⟨[.sc (.int .u8 c)],[Bx t (c::r)]⟩:=pk;unfold S6;rcases IJ c with⟨g1,g2,g3⟩|⟨g1,g2,g3⟩|⟨g1,g2,g3⟩|⟨g1,g2,g3,g4⟩
   ·rw[g3];have ih:=V5 (s0:=s0) (p0:=p0) ht n k (x*16+(c-48)) r (by omega) (by omega) (by omega) (Q5 _ (by omega) (by omega)) h.tail
    have w1:wrap .u8 (c-48)=c-48:=Wd (by omega) (by omega)
    have w2:wrap .i32 (c-48)=c-48:=Et (by omega) (by omega)
    have w3:wrap .i32 (x*16+(c-48))=x*16+(c-48):=Et (by omega) (by omega)
    try unfold Ac
    repeat first
     |((with_reducible first|apply A5|apply At|apply A7|apply Ax|apply A2|apply D2|apply Au|apply A4|apply A6);· first|with_reducible rfl|(simp (disch:=omega) only[gT,e4,pk2,sh,w1,w2,w3,e5,e6,ih]<;>first|with_reducible rfl|omega)|omega)
     |(with_reducible apply A3;· first|with_reducible rfl|(simp (disch:=omega) only[gF,e4,pk2,sh,w1,w2,w3,e5,e6,ih]<;>omega))
    try simp (disch:=omega) only[e4,pk2,sh,w1,w2,w3,e5,e6,ih]
   ·rw[g3];have ih:=V5 (s0:=s0) (p0:=p0) ht n k (x*16+(c-87)) r (by omega) (by omega) (by omega) (Q5 _ (by omega) (by omega)) h.tail
    have w1:wrap .u8 (c-97)=c-97:=Wd (by omega) (by omega)
    have w2:wrap .i32 (c-97)=c-97:=Et (by omega) (by omega)
    have w3:wrap .i32 (x*16+(c-97))=x*16+(c-97):=Et (by omega) (by omega)
    have w4:wrap .i32 (x*16+(c-97)+10)=x*16+(c-87):=by rw[Et (by omega) (by omega)];omega
    try unfold Ac
    repeat first
     |((with_reducible first|apply A5|apply At|apply A7|apply Ax|apply A2|apply D2|apply Au|apply A4|apply A6);· first|with_reducible rfl|(simp (disch:=omega) only[gT,e4,pk2,sh,w1,w2,w3,w4,e5,e6,ih]<;>first|with_reducible rfl|omega)|omega)
     |(with_reducible apply A3;· first|with_reducible rfl|(simp (disch:=omega) only[gF,e4,pk2,sh,w1,w2,w3,w4,e5,e6,ih]<;>omega))
    try simp (disch:=omega) only[e4,pk2,sh,w1,w2,w3,w4,e5,e6,ih]
   ·rw[g3];have ih:=V5 (s0:=s0) (p0:=p0) ht n k (x*16+(c-55)) r (by omega) (by omega) (by omega) (Q5 _ (by omega) (by omega)) h.tail
    have w1:wrap .u8 (c-65)=c-65:=Wd (by omega) (by omega)
    have w2:wrap .i32 (c-65)=c-65:=Et (by omega) (by omega)
    have w3:wrap .i32 (x*16+(c-65))=x*16+(c-65):=Et (by omega) (by omega)
    have w4:wrap .i32 (x*16+(c-65)+10)=x*16+(c-55):=by rw[Et (by omega) (by omega)];omega
    try unfold Ac
    repeat first
     |((with_reducible first|apply A5|apply At|apply A7|apply Ax|apply A2|apply D2|apply Au|apply A4|apply A6);· first|with_reducible rfl|(simp (disch:=omega) only[gT,e4,pk2,sh,w1,w2,w3,w4,e5,e6,ih]<;>first|with_reducible rfl|omega)|omega)
     |(with_reducible apply A3;· first|with_reducible rfl|(simp (disch:=omega) only[gF,e4,pk2,sh,w1,w2,w3,w4,e5,e6,ih]<;>omega))
    try simp (disch:=omega) only[e4,pk2,sh,w1,w2,w3,w4,e5,e6,ih]
   ·rw[g4];by_cases k1:48<=c
    ·by_cases k2:97<=c
     ·skip
      try unfold Ac
      repeat first
       |((with_reducible first|apply A5|apply At|apply A7|apply Ax|apply A2|apply D2|apply Au|apply A4|apply A6);· first|with_reducible rfl|(simp (disch:=omega) only[gT,e4,pk2]<;>first|with_reducible rfl|omega)|omega)
       |(with_reducible apply A3;· first|with_reducible rfl|(simp (disch:=omega) only[gF,e4,pk2]<;>omega))
      try simp (disch:=omega) only[e4,pk2]
      rfl
     ·by_cases k3:65<=c
      ·skip
       try unfold Ac
       repeat first
        |((with_reducible first|apply A5|apply At|apply A7|apply Ax|apply A2|apply D2|apply Au|apply A4|apply A6);· first|with_reducible rfl|(simp (disch:=omega) only[gT,e4,pk2]<;>first|with_reducible rfl|omega)|omega)
        |(with_reducible apply A3;· first|with_reducible rfl|(simp (disch:=omega) only[gF,e4,pk2]<;>omega))
       try simp (disch:=omega) only[e4,pk2]
       rfl
      ·skip
       try unfold Ac
       repeat first
        |((with_reducible first|apply A5|apply At|apply A7|apply Ax|apply A2|apply D2|apply Au|apply A4|apply A6);· first|with_reducible rfl|(simp (disch:=omega) only[gT,e4,pk2]<;>first|with_reducible rfl|omega)|omega)
        |(with_reducible apply A3;· first|with_reducible rfl|(simp (disch:=omega) only[gF,e4,pk2]<;>omega))
       try simp (disch:=omega) only[e4,pk2]
       rfl
    ·skip
     try unfold Ac
     repeat first
      |((with_reducible first|apply A5|apply At|apply A7|apply Ax|apply A2|apply D2|apply Au|apply A4|apply A6);· first|with_reducible rfl|(simp (disch:=omega) only[gT,e4,pk2]<;>first|with_reducible rfl|omega)|omega)
      |(with_reducible apply A3;· first|with_reducible rfl|(simp (disch:=omega) only[gF,e4,pk2]<;>omega))
     try simp (disch:=omega) only[e4,pk2]
     rfl
theorem Amb {t:ByteArray}{r:List Int}(Ei:10<=fu)(h:Dg t r)(ht:t.size<=1000000):Ae (CX xs) prog fu (d+2) Gh [.pbox (Bx t r)]=some (Ai4 t (S6 4 0 r)):=by
 rw[Ls];exact V5 ht 4 fu 0 r (by omega) (by omega) (by omega) (by decide) h
theorem Gr:∀(n:Nat)(x:Int)(l:List Int)(y:Int)(r:List Int),S6 n x l=(some y,r)->0<=x->0<=y∧y<(x+1)*16 ^ n
 |0,x,l,y,r,h,h0=>by
  cases h;omega
 |n+1,x,[],y,r,h,h0=>by cases h
 |n+1,x,c::l,y,r,h,h0=>by
  unfold S6 at h;rcases IJ c with⟨g1,g2,g3⟩|⟨g1,g2,g3⟩|⟨g1,g2,g3⟩|⟨g1,g2,g3,g4⟩
  ·rw[g3] at h;have:=Gr n _ l y r h (by omega)
   have e:(x*16+(c-48)+1)*16 ^ n<=(x+1)*16 ^ (n+1):=by
    rw[Int.pow_succ,Int.mul_comm (16 ^ n) 16,←Int.mul_assoc];exact Int.mul_le_mul_of_nonneg_right (by omega) (Int.pow_nonneg (by omega))
   omega
  ·rw[g3] at h;have:=Gr n _ l y r h (by omega)
   have e:(x*16+(c-87)+1)*16 ^ n<=(x+1)*16 ^ (n+1):=by
    rw[Int.pow_succ,Int.mul_comm (16 ^ n) 16,←Int.mul_assoc];exact Int.mul_le_mul_of_nonneg_right (by omega) (Int.pow_nonneg (by omega))
   omega
  ·rw[g3] at h;have:=Gr n _ l y r h (by omega)
   have e:(x*16+(c-55)+1)*16 ^ n<=(x+1)*16 ^ (n+1):=by
    rw[Int.pow_succ,Int.mul_comm (16 ^ n) 16,←Int.mul_assoc];exact Int.mul_le_mul_of_nonneg_right (by omega) (Int.pow_nonneg (by omega))
   omega
  ·rw[g4] at h;cases h
theorem Vj {t:ByteArray}:∀(n:Nat)(x:Int)(l:List Int),Dg t l->Dg t (S6 n x l).2
 |0,x,l,h=>h
 |n+1,x,[],h=>h
 |n+1,x,c::l,h=>by
  unfold S6;cases SV c with
  |none=>exact h
  |some v=>exact Vj n _ l h.tail
theorem Ag3 (l:List Int):Ae7 l=List.isPrefixOf [92,117] l:=by
 match l with
 |[]=>rfl
 |[a]=>
  unfold Ae7;split
  ·rename_i e;cases e
  ·simp[List.isPrefixOf]
 |a::b::r=>
  unfold Ae7;split
  ·rename_i e;cases e;rfl
  ·rename_i h
   symm
   rw[Bool.eq_false_iff];intro hp;simp[List.isPrefixOf] at hp;exact h r (by rw[←hp.1,←hp.2])
theorem Aov {x:Int}(h0:0<=x)(h1:x<2097152):Jw .i32 x 10=x*1024:=by
 show wrap .i32 (x*2 ^ (min (10:Int).toNat IntKind.i32.bits))=_;rw[show min (10:Int).toNat IntKind.i32.bits=10 from rfl]
 exact Et (by omega) (by omega)
theorem Apc {t:ByteArray}{r:List Int}(Ei:10<=fu)(h:Dg t r)(ht:t.size<=1000000):Ae (CX xs) prog fu (d+4) F8 [.pbox (Bx t r)]=some (Ai4 t (O9 r)):=by
 have hx:=Amb (d:=d+1) (xs:=xs) Ei h ht;have hs:=Vj 4 0 r h;have hb:=Gr 4 0 r;rw[K5];unfold O9;rcases hq:S6 4 0 r with⟨o,r1⟩;rw[hq] at hx hs;simp only at hs;cases o with
 |none=>
  have Q5:Ae (CX xs) prog fu (d+3) 114 [.pbox (Bx t r)]=some ⟨[.sc (.int .i32 0),.sc (.bool false)],[Bx t r1]⟩:=hx
  try unfold Ac
  repeat first
   |((with_reducible first|apply A5|apply At|apply A7|apply Ax|apply A2|apply D2|apply Au|apply A4|apply A6);· first|with_reducible rfl|(simp (disch:=omega) only[gT,Q5,Dl]<;>first|with_reducible rfl|omega)|omega)
   |(with_reducible apply A3;· first|with_reducible rfl|(simp (disch:=omega) only[gF,Q5,Dl]<;>omega))
  try simp (disch:=omega) only[Q5,Dl]
  rfl
 |some x=>
  have Q5:Ae (CX xs) prog fu (d+3) 114 [.pbox (Bx t r)]=some ⟨[.sc (.int .i32 x),.sc (.bool true)],[Bx t r1]⟩:=hx;have bx:=hb x r1 hq (by omega)
  have lw:∀x,Ae (CX xs) prog fu (d+3) 115 [.sc (.int .i32 x)]=some ⟨[.sc (.bool (MC x))],[]⟩:=fun x=>Ako (d:=d+2) x
  cases hl:MC x
  ·simp only[hl,Bool.false_eq_true,if_false];by_cases c1:x<55296
   ·rw[D1 (Or.inl c1)]
    try unfold Ac
    repeat first
     |((with_reducible first|apply A5|apply At|apply A7|apply Ax|apply A2|apply D2|apply Au|apply A4|apply A6);· first|with_reducible rfl|(simp (disch:=omega) only[gT,Q5,lw,hl,Cw]<;>first|with_reducible rfl|omega)|omega)
     |(with_reducible apply A3;· first|with_reducible rfl|(simp (disch:=omega) only[gF,Q5,lw,hl,Cw]<;>omega))
    try simp (disch:=omega) only[Q5,lw,hl,Cw]
    rfl
   ·by_cases c2:56319<x
    ·rw[D1 (Or.inr c2)]
     try unfold Ac
     repeat first
      |((with_reducible first|apply A5|apply At|apply A7|apply Ax|apply A2|apply D2|apply Au|apply A4|apply A6);· first|with_reducible rfl|(simp (disch:=omega) only[gT,Q5,lw,hl,Cw]<;>first|with_reducible rfl|omega)|omega)
      |(with_reducible apply A3;· first|with_reducible rfl|(simp (disch:=omega) only[gF,Q5,lw,hl,Cw]<;>omega))
     try simp (disch:=omega) only[Q5,lw,hl,Cw]
     rfl
    ·rw[Dc (by omega)]
     have ha:=Ra (fu:=fu) (d:=d) (xs:=xs) hs ht (w:=[92,117]) (fun x hx=>by simp at hx;rcases hx with rfl|rfl<;>omega) (by decide)
     unfold Av at ha;rw[←Ag3] at ha;cases hB:Ae7 r1
     ·rw[hB,Dc (by simp)] at ha
      simp only[Bool.false_eq_true,if_false];have Jr:Ae (CX xs) prog fu (d+3) 67 [.pbox (Bx t r1),.sc (.string (ByteArray.mk #[(92:UInt8),(117:UInt8)]))]=some ⟨[.sc (.bool false)],[Bx t r1]⟩:=ha
      try unfold Ac
      repeat first
       |((with_reducible first|apply A5|apply At|apply A7|apply Ax|apply A2|apply D2|apply Au|apply A4|apply A6);· first|with_reducible rfl|(simp (disch:=omega) only[gT,Q5,lw,hl,Jr,Cw,Dl]<;>first|with_reducible rfl|omega)|omega)
       |(with_reducible apply A3;· first|with_reducible rfl|(simp (disch:=omega) only[gF,Q5,lw,hl,Jr,Cw,Dl]<;>omega))
      try simp (disch:=omega) only[Q5,lw,hl,Jr,Cw,Dl]
      rfl
     ·rw[hB,D1 rfl] at ha;simp only[if_true];have Jr:Ae (CX xs) prog fu (d+3) 67 [.pbox (Bx t r1),.sc (.string (ByteArray.mk #[(92:UInt8),(117:UInt8)]))]=some ⟨[.sc (.bool true)],[Bx t (r1.drop 2)]⟩:=ha;have hy:=Amb (d:=d+1) (xs:=xs) Ei (hs.drop 2) ht;have YW:=Gr 4 0 (r1.drop 2);unfold WG;rcases Jd:S6 4 0 (r1.drop 2) with⟨o2,r2⟩;rw[Jd] at hy;cases o2 with
      |none=>
       have hy2:Ae (CX xs) prog fu (d+3) 114 [.pbox (Bx t (r1.drop 2))]=some ⟨[.sc (.int .i32 0),.sc (.bool false)],[Bx t r2]⟩:=hy
       try unfold Ac
       repeat first
        |((with_reducible first|apply A5|apply At|apply A7|apply Ax|apply A2|apply D2|apply Au|apply A4|apply A6);· first|with_reducible rfl|(simp (disch:=omega) only[gT,Q5,lw,hl,Jr,hy2,Cw,Dl]<;>first|with_reducible rfl|omega)|omega)
        |(with_reducible apply A3;· first|with_reducible rfl|(simp (disch:=omega) only[gF,Q5,lw,hl,Jr,hy2,Cw,Dl]<;>omega))
       try simp (disch:=omega) only[Q5,lw,hl,Jr,hy2,Cw,Dl]
       rfl
      |some y=>
       have hy2:Ae (CX xs) prog fu (d+3) 114 [.pbox (Bx t (r1.drop 2))]=some ⟨[.sc (.int .i32 y),.sc (.bool true)],[Bx t r2]⟩:=hy;have by_:=YW y r2 Jd (by omega)
       cases Q1:MC y
       ·simp only[Bool.false_eq_true,if_false]
        try unfold Ac
        repeat first
         |((with_reducible first|apply A5|apply At|apply A7|apply Ax|apply A2|apply D2|apply Au|apply A4|apply A6);· first|with_reducible rfl|(simp (disch:=omega) only[gT,Q5,lw,hl,Q1,Jr,hy2,Cw,Dl]<;>first|with_reducible rfl|omega)|omega)
         |(with_reducible apply A3;· first|with_reducible rfl|(simp (disch:=omega) only[gF,Q5,lw,hl,Q1,Jr,hy2,Cw,Dl]<;>omega))
        try simp (disch:=omega) only[Q5,lw,hl,Q1,Jr,hy2,Cw,Dl]
        rfl
       ·simp only[if_true]
        have ly:56320<=y∧y<=57343:=by
         unfold MC at Q1
         simpa using Q1
        have w1:wrap .i32 (x-55296)=x-55296:=Et (by omega) (by omega)
        have w2:=Aov (x:=x-55296) (by omega) (by omega)
        have w3:wrap .i32 (65536+(x-55296)*1024)=65536+(x-55296)*1024:=Et (by omega) (by omega)
        have w4:wrap .i32 (y-56320)=y-56320:=Et (by omega) (by omega)
        have w5:wrap .i32 (65536+(x-55296)*1024+(y-56320))=65536+(x-55296)*1024+(y-56320):=Et (by omega) (by omega)
        try unfold Ac
        repeat first
         |((with_reducible first|apply A5|apply At|apply A7|apply Ax|apply A2|apply D2|apply Au|apply A4|apply A6);· first|with_reducible rfl|(simp (disch:=omega) only[gT,Q5,lw,hl,Q1,Jr,hy2,w1,w2,w3,w4,w5,Cw,Dl]<;>first|with_reducible rfl|omega)|omega)
         |(with_reducible apply A3;· first|with_reducible rfl|(simp (disch:=omega) only[gF,Q5,lw,hl,Q1,Jr,hy2,w1,w2,w3,w4,w5,Cw,Dl]<;>omega))
        try simp (disch:=omega) only[Q5,lw,hl,Q1,Jr,hy2,w1,w2,w3,w4,w5,Cw,Dl]
        rfl
  ·simp only[if_true]
   try unfold Ac
   repeat first
    |((with_reducible first|apply A5|apply At|apply A7|apply Ax|apply A2|apply D2|apply Au|apply A4|apply A6);· first|with_reducible rfl|(simp (disch:=omega) only[gT,Q5,lw,hl,Cw]<;>first|with_reducible rfl|omega)|omega)
    |(with_reducible apply A3;· first|with_reducible rfl|(simp (disch:=omega) only[gF,Q5,lw,hl,Cw]<;>omega))
   try simp (disch:=omega) only[Q5,lw,hl,Cw]
   rfl
theorem IE (c:Int):(c=34∧Ts c=some 34)∨(c=92∧Ts c=some 92)∨(c=47∧Ts c=some 47)∨(c=98∧Ts c=some 8)∨(c=102∧Ts c=some 12)∨(c=110∧Ts c=some 10)∨(c=114∧Ts c=some 13)∨(c=116∧Ts c=some 9) ∨
  ((c≠34∧c≠92∧c≠47∧c≠98∧c≠102∧c≠110∧c≠114∧c≠116)∧Ts c=none):=by
 by_cases h1:c=34
 ·subst h1;exact .inl ⟨rfl,rfl⟩
 by_cases h2:c=92
 ·subst h2;exact .inr (.inl ⟨rfl,rfl⟩)
 by_cases h3:c=47
 ·subst h3;exact .inr (.inr (.inl ⟨rfl,rfl⟩))
 by_cases h4:c=98
 ·subst h4;exact .inr (.inr (.inr (.inl ⟨rfl,rfl⟩)))
 by_cases h5:c=102
 ·subst h5;exact .inr (.inr (.inr (.inr (.inl ⟨rfl,rfl⟩))))
 by_cases h6:c=110
 ·subst h6;exact .inr (.inr (.inr (.inr (.inr (.inl ⟨rfl,rfl⟩)))))
 by_cases h7:c=114
 ·subst h7;exact .inr (.inr (.inr (.inr (.inr (.inr (.inl ⟨rfl,rfl⟩))))))
 by_cases h8:c=116
 ·subst h8;exact .inr (.inr (.inr (.inr (.inr (.inr (.inr (.inl ⟨rfl,rfl⟩)))))))
 refine .inr (.inr (.inr (.inr (.inr (.inr (.inr (.inr ⟨⟨h1,h2,h3,h4,h5,h6,h7,h8⟩,?_⟩)))))));unfold Ts;rw[Dc (by omega),Dc h4,Dc h5,Dc h6,Dc h7,Dc h8]
theorem Av5 {t:ByteArray}{r:List Int}(Ei:10<=fu)(h:Dg t r)(ht:t.size<=1000000):Ae (CX xs) prog fu (d+5) Fq [.pbox (Bx t r)]=some (Ai4 t (N4 r)):=by
 have ha:=Ra (fu:=fu) (d:=d+1) (xs:=xs) h ht (w:=[117]) (fun x hx=>by simp at hx;omega) (by decide)
 have hl:=h.len;rw[Jo];cases r with
 |nil=>
  have Jr:Ae (CX xs) prog fu (d+4) 67 [.pbox (Bx t []),.sc (.string (ByteArray.mk #[(117:UInt8)]))]=some ⟨[.sc (.bool false)],[Bx t []]⟩:=ha;have pk:Ae (CX xs) prog fu (d+4) 90 [.pbox (Bx t [])]=some ⟨[.sc (.int .u8 0)],[Bx t []]⟩:=M1 (d:=d+3) h;have w0:wrap .i32 0=0:=rfl
  try unfold Ac
  repeat first
   |((with_reducible first|apply A5|apply At|apply A7|apply Ax|apply A2|apply D2|apply Au|apply A4|apply A6);· first|with_reducible rfl|(simp (disch:=omega) only[gT,Jr,pk,w0,Int.reduceBEq]<;>first|with_reducible rfl|omega)|omega)
   |(with_reducible apply A3;· first|with_reducible rfl|(simp (disch:=omega) only[gF,Jr,pk,w0,Int.reduceBEq]<;>omega))
  try simp (disch:=omega) only[Jr,pk,w0,Int.reduceBEq]
  rfl
 |cons c r=>
  have hc:=h.B c (by simp)
  have hp:=L6 h
  have e6:wrap .i64 ((Bu t (c::r):Int)+1)=(Bu t r:Int):=by
   rw[hp,Az (by unfold Bu;omega) (by unfold Bu;omega)];omega
  have w0:wrap .i32 c=c:=Et (by omega) (by omega)
  have pk:Ae (CX xs) prog fu (d+4) 90 [.pbox (Bx t (c::r))]=some ⟨[.sc (.int .u8 c)],[Bx t (c::r)]⟩:=M1 (d:=d+3) h;have he:N4 (c::r)=if c=117 then O9 r else match Ts c with|some x=>(some x,r)|none=>(none,c::r):=rfl
  rw[he];unfold Av at ha;by_cases hu:c=117
  ·subst hu;rw[D1 rfl];have Jr:Ae (CX xs) prog fu (d+4) 67 [.pbox (Bx t (117::r)),.sc (.string (ByteArray.mk #[(117:UInt8)]))]=some ⟨[.sc (.bool true)],[Bx t r]⟩:=ha;have hcd:Ae (CX xs) prog fu (d+4) 105 [.pbox (Bx t r)]=some ⟨[.sc (.int .i32 ((O9 r).1.getD 0)),.sc (.bool (O9 r).1.isSome)],[Bx t (O9 r).2]⟩:=Apc Ei h.tail ht
   try unfold Ac
   repeat first
    |((with_reducible first|apply A5|apply At|apply A7|apply Ax|apply A2|apply D2|apply Au|apply A4|apply A6);· first|with_reducible rfl|(simp (disch:=omega) only[gT,Jr,hcd]<;>first|with_reducible rfl|omega)|omega)
    |(with_reducible apply A3;· first|with_reducible rfl|(simp (disch:=omega) only[gF,Jr,hcd]<;>omega))
   try simp (disch:=omega) only[Jr,hcd]
   rfl
  ·rw[Dc hu]
   have hb:(List.isPrefixOf [117] (c::r))=false:=by
    rw[Bool.eq_false_iff];intro hp;simp[List.isPrefixOf] at hp;exact hu hp.symm
   rw[hb,Dc (by simp)] at ha
   have Jr:Ae (CX xs) prog fu (d+4) 67 [.pbox (Bx t (c::r)),.sc (.string (ByteArray.mk #[(117:UInt8)]))]=some ⟨[.sc (.bool false)],[Bx t (c::r)]⟩:=ha;rcases IE c with⟨rfl,g⟩|⟨rfl,g⟩|⟨rfl,g⟩|⟨rfl,g⟩|⟨rfl,g⟩|⟨rfl,g⟩|⟨rfl,g⟩|⟨rfl,g⟩|⟨g1,g⟩
   ·rw[g]
    try unfold Ac
    repeat first
     |((with_reducible first|apply A5|apply At|apply A7|apply Ax|apply A2|apply D2|apply Au|apply A4|apply A6);· first|with_reducible rfl|(simp (disch:=omega) only[gT,Jr,pk,w0,e6,Int.reduceBEq]<;>first|with_reducible rfl|omega)|omega)
     |(with_reducible apply A3;· first|with_reducible rfl|(simp (disch:=omega) only[gF,Jr,pk,w0,e6,Int.reduceBEq]<;>omega))
    try simp (disch:=omega) only[Jr,pk,w0,e6,Int.reduceBEq]
    rfl
   ·rw[g]
    try unfold Ac
    repeat first
     |((with_reducible first|apply A5|apply At|apply A7|apply Ax|apply A2|apply D2|apply Au|apply A4|apply A6);· first|with_reducible rfl|(simp (disch:=omega) only[gT,Jr,pk,w0,e6,Int.reduceBEq]<;>first|with_reducible rfl|omega)|omega)
     |(with_reducible apply A3;· first|with_reducible rfl|(simp (disch:=omega) only[gF,Jr,pk,w0,e6,Int.reduceBEq]<;>omega))
    try simp (disch:=omega) only[Jr,pk,w0,e6,Int.reduceBEq]
    rfl
   ·rw[g]
    try unfold Ac
    repeat first
     |((with_reducible first|apply A5|apply At|apply A7|apply Ax|apply A2|apply D2|apply Au|apply A4|apply A6);· first|with_reducible rfl|(simp (disch:=omega) only[gT,Jr,pk,w0,e6,Int.reduceBEq]<;>first|with_reducible rfl|omega)|omega)
     |(with_reducible apply A3;· first|with_reducible rfl|(simp (disch:=omega) only[gF,Jr,pk,w0,e6,Int.reduceBEq]<;>omega))
    try simp (disch:=omega) only[Jr,pk,w0,e6,Int.reduceBEq]
    rfl
   ·rw[g]
    try unfold Ac
    repeat first
     |((with_reducible first|apply A5|apply At|apply A7|apply Ax|apply A2|apply D2|apply Au|apply A4|apply A6);· first|with_reducible rfl|(simp (disch:=omega) only[gT,Jr,pk,w0,e6,Int.reduceBEq]<;>first|with_reducible rfl|omega)|omega)
     |(with_reducible apply A3;· first|with_reducible rfl|(simp (disch:=omega) only[gF,Jr,pk,w0,e6,Int.reduceBEq]<;>omega))
    try simp (disch:=omega) only[Jr,pk,w0,e6,Int.reduceBEq]
    rfl
   ·rw[g]
    try unfold Ac
    repeat first
     |((with_reducible first|apply A5|apply At|apply A7|apply Ax|apply A2|apply D2|apply Au|apply A4|apply A6);· first|with_reducible rfl|(simp (disch:=omega) only[gT,Jr,pk,w0,e6,Int.reduceBEq]<;>first|with_reducible rfl|omega)|omega)
     |(with_reducible apply A3;· first|with_reducible rfl|(simp (disch:=omega) only[gF,Jr,pk,w0,e6,Int.reduceBEq]<;>omega))
    try simp (disch:=omega) only[Jr,pk,w0,e6,Int.reduceBEq]
    rfl
   ·rw[g]
    try unfold Ac
    repeat first
     |((with_reducible first|apply A5|apply At|apply A7|apply Ax|apply A2|apply D2|apply Au|apply A4|apply A6);· first|with_reducible rfl|(simp (disch:=omega) only[gT,Jr,pk,w0,e6,Int.reduceBEq]<;>first|with_reducible rfl|omega)|omega)
     |(with_reducible apply A3;· first|with_reducible rfl|(simp (disch:=omega) only[gF,Jr,pk,w0,e6,Int.reduceBEq]<;>omega))
    try simp (disch:=omega) only[Jr,pk,w0,e6,Int.reduceBEq]
    rfl
   ·rw[g]
    try unfold Ac
    repeat first
     |((with_reducible first|apply A5|apply At|apply A7|apply Ax|apply A2|apply D2|apply Au|apply A4|apply A6);· first|with_reducible rfl|(simp (disch:=omega) only[gT,Jr,pk,w0,e6,Int.reduceBEq]<;>first|with_reducible rfl|omega)|omega)
     |(with_reducible apply A3;· first|with_reducible rfl|(simp (disch:=omega) only[gF,Jr,pk,w0,e6,Int.reduceBEq]<;>omega))
    try simp (disch:=omega) only[Jr,pk,w0,e6,Int.reduceBEq]
    rfl
   ·rw[g]
    try unfold Ac
    repeat first
     |((with_reducible first|apply A5|apply At|apply A7|apply Ax|apply A2|apply D2|apply Au|apply A4|apply A6);· first|with_reducible rfl|(simp (disch:=omega) only[gT,Jr,pk,w0,e6,Int.reduceBEq]<;>first|with_reducible rfl|omega)|omega)
     |(with_reducible apply A3;· first|with_reducible rfl|(simp (disch:=omega) only[gF,Jr,pk,w0,e6,Int.reduceBEq]<;>omega))
    try simp (disch:=omega) only[Jr,pk,w0,e6,Int.reduceBEq]
    rfl
   ·rw[g];obtain⟨n1,n2,n3,n4,n5,n6,n7,n8⟩:=g1;have m1:(c==(34:Int))=false:=by simp[n1]
    have m2:(c==(92:Int))=false:=by simp[n2]
    have m3:(c==(47:Int))=false:=by simp[n3]
    have m4:(c==(98:Int))=false:=by simp[n4]
    have m5:(c==(102:Int))=false:=by simp[n5]
    have m6:(c==(110:Int))=false:=by simp[n6]
    have m7:(c==(114:Int))=false:=by simp[n7]
    have m8:(c==(116:Int))=false:=by simp[n8]
    try unfold Ac
    repeat first
     |((with_reducible first|apply A5|apply At|apply A7|apply Ax|apply A2|apply D2|apply Au|apply A4|apply A6);· first|with_reducible rfl|(simp (disch:=omega) only[gT,Jr,pk,w0,e6,m1,m2,m3,m4,m5,m6,m7,m8]<;>first|with_reducible rfl|omega)|omega)
     |(with_reducible apply A3;· first|with_reducible rfl|(simp (disch:=omega) only[gF,Jr,pk,w0,e6,m1,m2,m3,m4,m5,m6,m7,m8]<;>omega))
    try simp (disch:=omega) only[Jr,pk,w0,e6,m1,m2,m3,m4,m5,m6,m7,m8]
    rfl
theorem Rq {t:ByteArray}{l:List Int}(h:Dg t l):Dg t (N4 l).2:=by
 have Atd:∀l,Dg t l->Dg t (O9 l).2:=by
  intro l h;have h1:=Vj 4 0 l h;unfold O9;rcases hq:S6 4 0 l with⟨o,r⟩;rw[hq] at h1;cases o with
  |none=>exact h1
  |some x=>
   simp only;split
   ·exact h1
   split
   ·exact h1
   split
   ·have h2:=Vj 4 0 (r.drop 2) (Dg.drop h1 2);unfold WG;rcases Jd:S6 4 0 (r.drop 2) with⟨o2,r2⟩;rw[Jd] at h2;cases o2 with
    |none=>exact h2
    |some y=>
     simp only;split<;>exact h2
   ·exact h1
 cases l with
 |nil=>exact h
 |cons c r=>
  have he:N4 (c::r)=if c=117 then O9 r else match Ts c with|some x=>(some x,r)|none=>(none,c::r):=rfl
  rw[he];split
  ·exact Atd r h.tail
  ·cases Ts c with
   |none=>exact h
   |some x=>exact h.tail
end
end
section
open Go.Proofs.Tryd (prog)
open Go.IntKind (wrap)
set_option maxRecDepth 20000
open Go Go.RowKit
theorem El.refl (w:World)(b o n:Nat):El w w b o n:=⟨rfl,rfl,rfl,Nat.le_refl _,Gn.refl _ _,fun _ _ _=>rfl,fun _ _=>rfl,fun _ _=>rfl⟩
theorem El.trans {w w' w'':World}{b o n:Nat}(h:El w w' b o n)(k:El w' w'' b o n):El w w'' b o n:=
 ⟨k.os.trans h.os,k.tape.trans h.tape,k.output.trans h.output,Nat.le_trans h.size k.size,h.grow.trans k.grow,fun i hi Eo=>(k.other i (Nat.lt_of_lt_of_le hi h.size) Eo).trans (h.other i hi Eo),fun j hj=>(k.cells j hj).trans (h.cells j hj),fun j hj=>(k.frz j hj).trans (h.frz j hj)⟩
theorem El.below {w w' w'':World}{b o n:Nat}(h:El w w' b o n)(k:Below w.heap.size w' w'')(hb:b<w.heap.size):El w w'' b o n:=
 ⟨k.os.trans h.os,k.tape.trans h.tape,k.output.trans h.output,Nat.le_trans h.size k.size,h.grow.trans (Gn.same (k.block b hb)),fun i hi Eo=>(k.block i hi).trans (h.other i hi Eo),fun j hj=>(k.cell (p:=⟨b,j,none⟩) hb).trans (h.cells j hj),fun j hj=>(k.frozen (p:=⟨b,j,none⟩) hb).trans (h.frz j hj)⟩
theorem El.drew {w w':World}{b o n:Nat}(h:El w w' b o n):El w w'.drew b o n:=⟨h.os,h.tape,h.output,h.size,h.grow,h.other,h.cells,h.frz⟩
theorem El.setCell (w:World)(b o n j:Nat)(v:Value)(hj:o<=j)(hj2:j<o+n)(hb:b<w.heap.size):El w (w.setCell ⟨b,j,none⟩ v) b o n:=by
 have hw:Dp b w (w.setCell ⟨b,j,none⟩ v):=Dp.setCells b [v] j w;refine⟨hw.os,hw.tape,hw.output,Nat.le_of_eq hw.size.symm,hw.grow b,fun k hk Eo=>hw.other k Eo,fun i hi=>?_,fun i _=>hw.frz i⟩
 exact World.cell?_setCell_other _ _ _ _ (by intro e;injection e;omega)
theorem Vd {T e:TypeId}{B c:Nat}{bs:List Value}{W W':World}{b o n:Nat}(h:Lib.IsBuilderF T e B c bs W)(hk:El W W' b o n)(hb:b<B):Lib.IsBuilderF T e B c bs W':=by
 have key:∀p,Lib.BuilderAtF T e B c p bs W->Lib.BuilderAtF T e B c p bs W':=by
  intro p h;have B7:=h.lt;obtain⟨hB,v,hv,Fv,Eo⟩:=h;refine⟨hB,v,(hk.other c B7 (by omega)).trans hv,Fv.kept (row:=some b) ⟨hk.os,hk.tape,hk.output,hk.size,fun k Ky Aqr=>hk.other k Ky (fun e=>Aqr (by rw[e]))⟩ ?_,Eo⟩
  rcases Fv.2 with⟨rfl,_⟩|⟨g,cap,cur,fz,rfl,hg,_⟩
  ·exact .inl rfl
  ·refine .inr (fun e=>?_)
   simp[Value.ownBlock] at e;omega
 exact h.imp (key _) (key _)
def GR:Ur:=⟨fun _=>False,fun _=>True,fun _ _ _ _=>trivial⟩
def noR:FuncId->Option (List PV->Option Aq):=fun _=>none
theorem Arj:JA GR prog (CX noR):=by
 intro f g args res h _;have h':(bif Vi.any (Nat.beq f) then none else (none:Option (List PV->Option Aq)))=some g:=h;cases hb:Vi.any (Nat.beq f)<;>rw[hb] at h'<;>cases h'
theorem ngR:NoNG prog:=by
 have h:(prog.funcs.toList.all fun fn=> !(fn.name == "runtime.NumGoroutine"))=true:=by kernel_rfl
 intro f fn hf;have:=List.all_eq_true.1 h fn (Array.mem_toList_iff.2 (Array.mem_of_getElem? hf))
 simpa using this
theorem mxR:prog.follows .mixedOrders=true:=by kernel_rfl
structure Ux (w:World) (b o:Nat) (t:ByteArray) (r:List Int):Prop where
 lt:b<w.heap.size
 c0:w.cell? ⟨b,o,none⟩=some (.string t)
 c1:w.cell? ⟨b,o+1,none⟩=some (.int .i64 (Bu t r:Int))
 f0:w.frozen? ⟨b,o,none⟩=false
 f1:w.frozen? ⟨b,o+1,none⟩=false
theorem KV {f:FuncId}{t:ByteArray}{r r':List Int}{args vals:List PV}{us rs:List Value}{d:Nat}(e:Ae (CX noR) prog 2000 d f (.pbox (Bx t r)::args)=some ⟨vals,[Bx t r']⟩) (ha:Be DF args us)(hr:Be DF vals rs)
  {w:World} {b o:Nat} (h:Ux w b o t r):Calls prog f (.pointer (some ⟨b,o,none⟩)::us).toArray w fun e w'=>e=.returned (He rs)∧Ux w' b o t r'∧El w w' b o 2:=by
 have hs:Df GR prog f (.pbox ([Value.string t,.int .i64 (Bu t r:Int)].map .sc)::args) ⟨vals,[[Value.string t,.int .i64 (Bu t r':Int)].map .sc]⟩:=H5 ngR mxR Arj d f _ _ e;refine (JS hs ha hr (w:=w) (b:=b) (o:=o) trivial (fun _ h=>h.elim) h.lt ?_ ?_).mono ?_
 ·intro j v hv
  match j,hv with
  |0,hv=>cases hv;exact h.c0
  |1,hv=>cases hv;exact h.c1
 ·intro j hj
  match j,hj with
  |0,_=>exact h.f0
  |1,_=>exact h.f1
 ·rintro e w' ⟨rfl,_,h4,h5,hk⟩
  exact⟨rfl,⟨Nat.lt_of_lt_of_le h.lt hk.size,h4 0 _ rfl,h4 1 _ rfl,h5 0 (Nat.zero_lt_succ _),h5 1 (Nat.succ_lt_succ (Nat.zero_lt_succ _))⟩,hk⟩
theorem G8 {t:ByteArray}{r w0:List Int}(hS:Dg t r)(ht:t.size<=1000000)(hw:Ct w0)(hw2:w0.length<=100){w:World}{b o:Nat}(h:Ux w b o t r):
  Calls prog 67 #[.pointer (some ⟨b,o,none⟩),.string (Aa w0)] w fun e w'=>e=.returned (.bool (Av w0 r).isSome)∧Ux w' b o t ((Av w0 r).getD r)∧El w w' b o 2:=by
 have e:=Ra (fu:=2000) (d:=0) (xs:=noR) hS ht hw hw2;cases hq:Av w0 r with
 |none=>
  rw[hq] at e;exact KV (us:=[.string (Aa w0)]) (rs:=[.bool false]) e ⟨.inl rfl,trivial⟩ ⟨.inl rfl,trivial⟩ h
 |some r'=>
  rw[hq] at e;exact KV (us:=[.string (Aa w0)]) (rs:=[.bool true]) e ⟨.inl rfl,trivial⟩ ⟨.inl rfl,trivial⟩ h
theorem Abv {t:ByteArray}{r:List Int}(hS:Dg t r)(ht:t.size<=1000000){w:World}{b o:Nat}(h:Ux w b o t r):
  Calls prog 88 #[.pointer (some ⟨b,o,none⟩)] w fun e w'=>e=.returned (.tuple #[.int .i32 ((N4 r).1.getD 0),.bool (N4 r).1.isSome])∧Ux w' b o t (N4 r).2∧El w w' b o 2:=by
 have e:=Av5 (fu:=2000) (d:=0) (xs:=noR) (by omega) hS ht
 exact KV (us:=[]) (rs:=[.int .i32 ((N4 r).1.getD 0),.bool (N4 r).1.isSome]) e trivial ⟨.inl rfl,.inl rfl,trivial⟩ h
end
section
open Go.Proofs.Tryd (prog)
open Go.IntKind (wrap)
set_option maxRecDepth 1000000
open Go Go.RowKit Go.Lib
def A7o (o:Option (List Int)):Value:=.tuple #[.string (Aa (o.getD [])),.bool o.isSome]
theorem Ux.below {B:Nat}{w w':World}{b o:Nat}{t:ByteArray}{r:List Int}(h:Ux w b o t r)(hb:Below B w w')(hB:b<B):Ux w' b o t r:=
 ⟨Nat.lt_of_lt_of_le h.lt hb.size,(hb.cell (p:=⟨b,o,none⟩) hB).trans h.c0,(hb.cell (p:=⟨b,o+1,none⟩) hB).trans h.c1,(hb.frozen (p:=⟨b,o,none⟩) hB).trans h.f0,(hb.frozen (p:=⟨b,o+1,none⟩) hB).trans h.f1⟩
theorem Ae6 {l:List Int}(h:Ct l):(N4 l).2.length<=l.length:=by
 have h1:Dg (Aa l) l:=⟨[],by rw[Co h];rfl⟩
 have:=(Rq h1).len
 rwa [Af] at this
theorem NA {l r:List Int}{x:Int}(h:O9 l=(some x,r)):0<=x∧x<=1114111:=by
 have hb:=Gr 4 0 l;unfold O9 at h;rcases hq:S6 4 0 l with⟨o,r1⟩;rw[hq] at h;cases o with
 |none=>cases h
 |some y=>
  have by_:=hb y r1 hq (by omega)
  simp only at h;split at h
  ·cases h
  split at h
  ·cases h;omega
  split at h
  ·have Ho:=Gr 4 0 (r1.drop 2);unfold WG at h;rcases Jd:S6 4 0 (r1.drop 2) with⟨o2,r2⟩;rw[Jd] at h;cases o2 with
   |none=>cases h
   |some z=>
    have bz:=Ho z r2 Jd (by omega)
    simp only at h;split at h
    ·rename_i hz
     have lz:56320<=z∧z<=57343:=by
      unfold MC at hz
      simpa using hz
     cases h;omega
    ·cases h
  ·cases h
theorem OH {l r:List Int}{x:Int}(h:N4 l=(some x,r)):0<=x∧x<=1114111:=by
 cases l with
 |nil=>cases h
 |cons c l=>
  have he:N4 (c::l)=if c=117 then O9 l else match Ts c with|some x=>(some x,l)|none=>(none,c::l):=rfl
  rw[he] at h;split at h
  ·exact NA h
  ·rcases IE c with⟨rfl,g⟩|⟨rfl,g⟩|⟨rfl,g⟩|⟨rfl,g⟩|⟨rfl,g⟩|⟨rfl,g⟩|⟨rfl,g⟩|⟨rfl,g⟩|⟨g1,g⟩<;>rw[g] at h<;>cases h<;>omega
set_option maxHeartbeats 4000000 in
theorem QC {t:ByteArray}{r:List Int}(hS:Dg t r)(ht:t.size<=1000000){w:World}{b o:Nat}(h:Ux w b o t r):
    Calls prog 68 #[.pointer (some ⟨b,o,none⟩)] w fun e w'=>e=.returned (A7o (E5 r).1)∧Ux w' b o t (E5 r).2∧El w w' b o 2:=by
  have mixed:prog.follows Departure.mixedOrders=true:=by kernel_rfl
  have hac:=G8 hS ht (w0:=[34]) (fun x hx=>by simp at hx;omega) (by decide) h
  go_enter Tryd.func68,Tryd.ntmps68
  go_wp2_with (go_at_call 67;refine hac.mono ?_)
  rintro e W1 ⟨rfl,h1,k1⟩
  cases hq:Av [34] r with
  |none=>
    rw[hq] at h1
    go_wp2
    go_ret2
    have e:E5 r=(none,r):=by
      cases r with
      |nil=>rfl
      |cons c l=>
        have hc:c≠34:=by
          rintro rfl
          unfold Av at hq
          rw[D1 (by simp[List.isPrefixOf])] at hq
          cases hq
        show (if c=34 then _ else (none,c::l))=_
        rw[Dc hc]
    rw[e]
    exact⟨rfl,h1,k1⟩
  |some r1=>
    rw[hq] at h1
    have GE:r=34::r1:=by
      unfold Av at hq
      split at hq
      · rename_i hp
        obtain⟨s,hs⟩:=List.isPrefixOf_iff_prefix.1 hp
        rw[←hs] at hq ⊢
        cases hq
        rfl
      · cases hq
    subst GE
    have e:E5 (34::r1)=Kz (r1.length+1) [] r1:=by
      show (if (34:Int)=34 then Kz (r1.length+1) [] r1 else (none,34::r1))=_
      exact D1 rfl
    have YJ:Dg t r1:=hS.tail
    have h2:Ux (W1.alloc (.cells #[.pointer none,.slice none 0 0] 53)) b o t r1:=by
      have hb:Below W1.heap.size W1 (W1.alloc (.cells #[.pointer none,.slice none 0 0] 53)):=(Below.refl _ W1).alloc (Nat.le_refl _) _
      exact⟨Nat.lt_of_lt_of_le h1.lt hb.size,(hb.cell (p:=⟨b,o,none⟩) h1.lt).trans h1.c0,(hb.cell (p:=⟨b,o+1,none⟩) h1.lt).trans h1.c1,(hb.frozen (p:=⟨b,o,none⟩) h1.lt).trans h1.f0,(hb.frozen (p:=⟨b,o+1,none⟩) h1.lt).trans h1.f1⟩
    have k2:El w (W1.alloc (.cells #[.pointer none,.slice none 0 0] 53)) b o 2:=k1.below ((Below.refl _ W1).alloc (Nat.le_refl _) _ |>.mono k1.size) h.lt
    have hB1:b<W1.heap.size:=h1.lt
    have hw1:w.heap.size<=W1.heap.size:=k1.size
    go_wp2
    go_loopw [] (fun wr=>∃(n:Nat) (out l:List Int),Kz (r1.length+1) [] r1=Kz n out l∧l.length<n∧Ct out∧out.length+4*l.length<=4*t.size∧Dg t l∧Ux wr b o t l∧El w wr b o 2∧W1.heap.size<=wr.heap.size∧Lib.IsBuilderF 53 5 W1.heap.size W1.heap.size (QA out) wr) (fun wr=>match wr.cell? ⟨b,o+1,none⟩ with|some (.int _ p)=>t.size-p.toNat|_=>0)
    case atStart=>
      exact⟨r1.length+1,[],r1,rfl,Nat.lt_succ_self _,(fun x hx=>by cases hx),(by have:=YJ.len;simp;omega),YJ,h2,k2,((Below.refl W1.heap.size W1).alloc (Nat.le_refl _) _).size,Lib.IsBuilderF.of (Lib.fresh_isBuilder 53 5 W1)⟩
    case round=>
      obtain⟨n,out,l,Ft,hn,hoB,hol,hSl,hat,hk,hws,hI⟩:=hrel
      obtain⟨B7,hc0,GB,hf0,hf1⟩:=hat
      cases l with
      |nil=>
        rw[U9] at GB
        go_wp2
        go_region_o
        go_wp2
        go_ret2
        rw[e,Ft]
        obtain⟨m,rfl⟩:∃m,n=m+1:=⟨n-1,by omega⟩
        exact⟨rfl,⟨B7,hc0,GB,hf0,hf1⟩,hk.drew⟩
      |cons c l=>
        obtain⟨m,rfl⟩:∃m,n=m+1:=⟨n-1,by omega⟩
        obtain⟨bb,hbb,rfl⟩:=hSl.at
        have hll:=hSl.len
        have Pm:Bu t ((bb.toNat:Int)::l)<t.size:=by
          unfold Bu
          rw[FM] at hll ⊢
          omega
        have XM:=L6 hSl
        have RD:t[Bu t ((bb.toNat:Int)::l)]'(Pm)=bb:=by
          rw[Array.getElem?_toList,Array.getElem?_eq_getElem Pm] at hbb
          exact Option.some.inj hbb
        have hcb:=bb.toNat_lt
        generalize hp:Bu t ((bb.toNat:Int)::l)=p at *
        have Bbm:(p:Int)<t.size:=by omega
        have kw:El wr (wr.setCell ⟨b,o+1,none⟩ (.int .i64 ((p:Int)+1))).drew.drew b o 2:=((El.setCell wr b o 2 (o+1) _ (by omega) (by omega) B7).drew).drew
        have Ef:=hk.trans kw
        have SY:=Vd hI kw hB1
        have LP:Ux (wr.setCell ⟨b,o+1,none⟩ (.int .i64 ((p:Int)+1))).drew.drew b o t l:=by
          refine⟨Nat.lt_of_lt_of_le B7 kw.size,?_,?_,?_,?_⟩
          · exact (World.cell?_setCell_other _ _ _ _ (by intro e;injection e;omega)).trans hc0
          · have:(Bu t l:Int)=(p:Int)+1:=by omega
            rw[this]
            exact World.cell?_setCell_same _ _ _ GB
          · exact (World.frozen?_setCell _ _ _ _).trans hf0
          · exact (World.frozen?_setCell _ _ _ _).trans hf1
        have Ain:W1.heap.size<=(wr.setCell ⟨b,o+1,none⟩ (.int .i64 ((p:Int)+1))).drew.drew.heap.size:=Nat.le_trans hws kw.size
        have hsm:Kz (m+1) out ((bb.toNat:Int)::l)=if (bb.toNat:Int)<32 then (none,(bb.toNat:Int)::l) else if (bb.toNat:Int)=34 then (some out,l) else if (bb.toNat:Int)=92 then
            (match N4 l with
             |(some x,r')=>Kz m (out++Lib.encodeRuneZ x) r'
             |(none,r')=>(none,r')) else Kz m (out++[(bb.toNat:Int)]) l:=rfl
        rw[hsm] at Ft
        have Bad:(QA out).length+4<=140737488355328:=by
          rw[List.length_map]
          omega
        by_cases Awm:(bb.toNat:Int)<32
        · rw[D1 Awm] at Ft
          go_wp2
          go_region_o
          go_wp2
          go_region_o
          go_wp2
          go_ret2
          rw[e,Ft]
          exact⟨rfl,⟨B7,hc0,by rw[hp];exact GB,hf0,hf1⟩,hk.drew.drew⟩
        · rw[Dc Awm] at Ft
          by_cases Avt:(bb.toNat:Int)=34
          · rw[D1 Avt] at Ft
            go_wp2
            go_region_o
            go_wp2
            go_region_o
            go_wp2_with (go_at_call 25;refine (Any.Builder_String_any_k FP So W1.heap.size W1.heap.size (out.map fun n=>n.toNat.toUInt8) _ (by rw[←X4 hoB];exact SY) Ain).mono ?_)
            rintro e2 W3 ⟨rfl,_,b3,_⟩
            go_wp2
            go_ret2
            rw[e,Ft]
            exact⟨rfl,LP.below b3 hB1,Ef.below (b3.mono hw1) h.lt⟩
          · rw[Dc Avt] at Ft
            by_cases Atj:(bb.toNat:Int)=92
            · rw[D1 Atj] at Ft
              have Dq:=Abv hSl.tail ht LP
              go_wp2
              go_region_o
              go_wp2
              go_region_o
              go_wp2_with (go_at_call 88;refine Dq.mono ?_)
              rintro e2 W3 ⟨rfl,Aab,k3⟩
              have Kv:=Ef.trans k3
              have hI3:=Vd SY k3 hB1
              have Au8:=Nat.le_trans Ain k3.size
              have hel:=Ae6 (l:=l) hSl.tail.B
              have S0:=Rq hSl.tail
              rcases hqe:N4 l with⟨oe,le⟩
              rw[hqe] at Aab Ft hel S0
              cases oe with
              |none=>
                go_wp2
                go_ret2
                rw[e,Ft]
                exact⟨rfl,Aab,Kv⟩
              |some x=>
                have Ku:=OH hqe
                go_wp2_with (go_at_call 89;refine (Any.Builder_WriteRune_k TA So W1.heap.size W1.heap.size _ x (by omega) (by omega) _ hI3 (by omega) Au8).mono ?_)
                rintro e3 W4 ⟨rfl,i4,b4,_⟩
                go_wp2
                have Au7:=Aab.below b4 hB1
                have hrl:=Lib.encodeRuneZ_length x
                refine⟨⟨m,out++Lib.encodeRuneZ x,le,Ft,by simp at hn hel;omega,Jt hoB (fun y hy=>by have:=Lib.encodeRuneZ_byte x y hy;omega),by simp at hol hel ⊢;omega,S0,Au7,Kv.below (b4.mono hw1) h.lt,Nat.le_trans Au8 b4.size,by rw[ND];exact Or.inr i4⟩,?_⟩
                have Y0:=S0.len
                have LR:Bu t l<=Bu t le:=by unfold Bu;omega
                have hp4:Bu t le<=t.size:=Nat.sub_le _ _
                simp only[Au7.c1,GB,Kx]
                omega
            · rw[Dc Atj] at Ft
              go_wp2
              go_region_o
              go_wp2
              go_region_o
              go_wp2_with (go_at_call 24;refine (Any.Builder_WriteByte_k EM So W1.heap.size W1.heap.size _ _ _ SY (by omega) Ain).mono ?_)
              rintro e2 W3 ⟨rfl,i3,b3,_⟩
              go_wp2
              have Aab:=LP.below b3 hB1
              refine⟨⟨m,out++[(bb.toNat:Int)],l,Ft,by simp at hn;omega,Jt hoB (fun x hx=>by simp at hx;omega),by simp at hol ⊢;omega,hSl.tail,Aab,Ef.below (b3.mono hw1) h.lt,Nat.le_trans Ain b3.size,by rw[ND];exact Or.inr i3⟩,?_⟩
              simp only[Aab.c1,GB,Kx]
              omega
end
section
open Go.Proofs.Tryd (prog)
open Go.IntKind (wrap)
set_option maxRecDepth 100000
open Go Go.RowKit
theorem EO {t:ByteArray}:∀(n:Nat)(out l:List Int),Dg t l->Dg t (Kz n out l).2
  |0,_,_,h=>h
  |_+1,_,[],h=>h
  |n+1,out,c::l,h=>by
    have e:Kz (n+1) out (c::l)=if c<32 then (none,c::l) else if c=34 then (some out,l) else if c=92 then
        (match N4 l with
         |(some x,r')=>Kz n (out++Lib.encodeRuneZ x) r'
         |(none,r')=>(none,r')) else Kz n (out++[c]) l:=rfl
    rw[e]
    split
    · exact h
    split
    · exact h.tail
    split
    · have h2:=Rq h.tail
      rcases hq:N4 l with⟨o,r⟩
      rw[hq] at h2
      cases o with
      |none=>exact h2
      |some x=>exact EO n _ r h2
    · exact EO n _ l h.tail
theorem G6 {t:ByteArray}{l:List Int}(h:Dg t l):Dg t (E5 l).2:=by
 cases l with
 |nil=>exact h
 |cons c l=>
  have e:E5 (c::l)=if c=34 then Kz (l.length+1) [] l else (none,c::l):=rfl
  rw[e];split
  ·exact EO _ _ _ h.tail
  ·exact h
theorem Aei {w w':World}{Y:Nat->Prop}{bt:Wx}{vs vs':List Value}{us:List Value}{b o:Nat}{a c:Value}(hi:Ins w Y bt [.pbox (vs.map .sc)] us) (hb:bt 0 0=some (b,o)) (hk:El w w' b o vs.length)(hl:vs'.length=vs.length)
  (hc:∀j v,vs'[j]?=some v->w'.cell? ⟨b,o+j,none⟩=some v) (hf:∀j,j<vs.length->w'.frozen? ⟨b,o+j,none⟩=false):
  Out w w' Y bt [.pbox (vs.map .sc)] (fun _=>none) ⟨[.sc a,.sc c],[vs'.map .sc]⟩ [a,c] where
 os:=hk.os
 tape:=hk.tape
 output:=hk.output
 ext:=⟨hk.size,fun k h Eo=>hk.other k h (fun e=>Eo (by rw[e];exact⟨0,0,o,hb⟩)),fun k h=>by
  by_cases e:k=b
  ·rw[e];exact hk.grow
  ·exact Gn.same (hk.other k h e)⟩
 rng:=fun k j h hn=>by
  by_cases e:k=b
  ·subst e
   have hj:j<o∨o+vs.length<=j:=by
    rcases Nat.lt_or_ge j o with h1|h1
    ·exact .inl h1
    ·rcases Nat.lt_or_ge j (o+vs.length) with h2|h2
     ·exact absurd ⟨0,_,rfl,.inr ⟨o,vs.map .sc,hb,h1,.inl ⟨rfl,by rw[List.length_map];exact h2⟩⟩⟩ hn
     ·exact .inr h2
   exact⟨hk.cells j hj,hk.frz j hj⟩
  ·have:=hk.other k h e;exact⟨by unfold World.cell?;simp only[this],by unfold World.frozen?;simp only[this]⟩
 vals:=⟨Aw.sc a,Aw.sc c,trivial⟩
 outs:=⟨⟨b,o,hb,by rw[List.length_map,List.length_map,hl],vs',Sl,hc,fun k h=>hf k (by rw[List.length_map,hl] at h;exact h)⟩,rfl⟩
 fresh:=fun j b o h=>by cases h
 inj:=fun j j' b o o' h=>by cases h
theorem Aa1 (G:Ur)(args:List PV)(res:Aq)(h:Ag4 args=some res):Df G prog 68 args res:=by
 refine⟨⟨_,Tryd.func68,by kernel_rfl⟩,fun w Y bt us hi _ _=>?_⟩
 unfold Ag4 at h;split at h
 rotate_left
 ·cases h
 rename_i t p;cases hq:(decide (0<=p)&&decide (p<=t.size)&&Nat.ble t.size 1000000)
 ·rw[hq] at h;cases h
 rw[hq,cond_true] at h;simp only[Bool.and_eq_true,decide_eq_true_eq] at hq;obtain⟨⟨Hj,Cf⟩,hm⟩:=hq;have hm:=Nat.le_of_ble_eq_true hm;obtain⟨p,rfl⟩:=Int.eq_ofNat_of_zero_le Hj;rw[Kx] at h;have hS:Dg t ((Fc t).drop p):=(Dg.all t).drop p
 have ZI:(Bu t ((Fc t).drop p):Int)=(p:Int):=by
  unfold Bu;rw[List.length_drop,Kk];omega
 have ps:=hi.args
 match us,ps with
 |[u1],ps=>
  obtain⟨b,o,hb,rfl,_,vs,AO,Cx,hfr⟩:=ps.1;have Qx:=Sn (vs:=[.string t,.int .i64 (p:Int)]) AO;subst Qx;have hat:Ux w b o t ((Fc t).drop p):=⟨hi.lt b ⟨0,0,o,hb⟩,Cx 0 _ rfl,by rw[ZI];exact Cx 1 _ rfl,hfr 0 (Nat.zero_lt_succ _),hfr 1 (Nat.succ_lt_succ (Nat.zero_lt_succ _))⟩
  refine (QC hS hm hat).mono ?_
  rintro e w' ⟨rfl,LP,hk⟩
  rcases hx:E5 ((Fc t).drop p) with⟨o2,r2⟩;rw[hx] at h LP
  have JU:r2.length<=t.size:=by
   have:=G6 hS;rw[hx] at this;exact this.len
  have Atg:(Bu t r2:Int)=(t.size:Int)-r2.length:=by
   unfold Bu;omega
  have Uk:∀a c:Value,Out w w' Y bt [.pbox ([Value.string t,.int .i64 (p:Int)].map .sc)] (fun _=>none) ⟨[.sc a,.sc c],[[Value.string t,.int .i64 ((t.size:Int)-r2.length)].map .sc]⟩ [a,c]:=by
   intro a c;refine Aei hi hb hk rfl ?_ ?_
   ·intro j v hv
    match j,hv with
    |0,hv=>cases hv;exact LP.c0
    |1,hv=>cases hv;rw[←Atg];exact LP.c1
   ·intro j hj
    match j,hj with
    |0,_=>exact LP.f0
    |1,_=>exact LP.f1
  cases o2 with
  |none=>
   cases h;exact⟨[.string ⟨#[]⟩,.bool false],fun _=>none,rfl,Uk _ _⟩
  |some s=>
   cases h;exact⟨[.string (Aa s),.bool true],fun _=>none,rfl,Uk _ _⟩
 |[],ps=>exact ps.elim
 |_::_::_,ps=>exact ps.2.elim
end
section
open Go.Proofs.Tryd (prog)
open Go.IntKind (wrap)
set_option maxRecDepth 100000
abbrev Lj:FuncId:=27
theorem K8 {p:Option (List PV->Option Aq)} (fu d:Nat)(a0:ByteArray)(a1:Int):Ae (CP p) prog fu (d+1) Lj [.sc (.string a0),.sc (.int .u8 a1)]=(fun (call:An)=>Ai (call 40 [.sc (.string a0),.sc (.int .u8 a1)]) fun x1 x2=>Ad x2<|Ab x1 fun x3 x4=>Ak .i64 x3 fun x5=>Ad x4<|some (Aq.mk [.sc (.int .i64 x5)] [])) (Ae (CP p) prog fu d):=by kernel_rfl
abbrev F0:FuncId:=50
noncomputable def De (fu:Nat)(call:An)(Bp:ByteArray)(Bm:Int)(nn:Nat)(y0:ByteArray)(y1:Int):Option Aq:=Fy CB prog fu call 50 Tryd.f50 (Eb Tryd.f50) [.pbox [.sc (.string Bp),.sc (.int .i64 Bm)]] [.l] nn ⟨lk [(0,(.ptr 64000 0))],Ij [(64000,(.st [(.sc (.string y0)),(.sc (.int .i64 y1))]))]⟩
theorem E9 (fu:Nat)(call:An)(Bp:ByteArray)(Bm:Int)(nn:Nat)(y0:ByteArray)(y1:Int):De fu call Bp Bm (nn+1) y0 y1=(Ba (decide (y1<(↑(ByteArray.size y0):Int))) (A9 (decide (0<=y1))<|Cy ((Array.toList (ByteArray.data y0))[Int.toNat y1]?) fun x1=>Ai (call 27 [.sc (.string (ByteArray.mk #[32,9,10,13])),.sc (.int .u8 (↑(UInt8.toNat x1):Int))]) fun x2 x3=>Ad x3<|Ab x2 fun x4 x5=>Ak .i64 x4 fun x6=>Ad x5<|Ba (decide (x6>=0)) (Ac (wrap .i64 (y1+1)) fun x7=>De fu call Bp Bm (nn) (y0) x7) (some (Aq.mk [] [[.sc (.string y0),.sc (.int .i64 y1)]]))) (some (Aq.mk [] [[.sc (.string y0),.sc (.int .i64 y1)]]))):=by kernel_rfl
theorem J4 {p:Option (List PV->Option Aq)} (fu d:Nat)(Bp:ByteArray)(Bm:Int):Ae (CP p) prog fu (d+1) F0 [.pbox [.sc (.string Bp),.sc (.int .i64 Bm)]]=(fun (call:An)=>De fu call Bp Bm (fu) (Bp) (Bm)) (Ae (CP p) prog fu d):=by kernel_rfl
abbrev Fk:FuncId:=107
noncomputable def C5 (fu:Nat)(call:An)(Bp:ByteArray)(Bm:Int)(nn:Nat)(y0:Int)(y1:ByteArray)(y2:Int):Option Aq:=Fy CB prog fu call 107 Tryd.f107 (Eb Tryd.f107) [.pbox [.sc (.string Bp),.sc (.int .i64 Bm)]] [.r,.r,.l,.l] nn ⟨lk [(0,(.ptr 58000 0)),(3,(.sc (.int .i64 y0)))],Ij [(58000,(.st [(.sc (.string y1)),(.sc (.int .i64 y2))]))]⟩
theorem E1 (fu:Nat)(call:An)(Bp:ByteArray)(Bm:Int)(nn:Nat)(y0:Int)(y1:ByteArray)(y2:Int):C5 fu call Bp Bm (nn+1) y0 y1 y2=(Ai (call 90 [.pbox [.sc (.string y1),.sc (.int .i64 y2)]]) fun x1 x2=>Ab x1 fun x3 x4=>Ak .u8 x3 fun x5=>Ad x4<|Ab x2 fun x6 x7=>Ab x6 fun x8 x9=>A0 x8 fun E2=>Ab x9 fun I3 J2=>Ak .i64 I3 fun E4=>Ad J2<|Ad x7<|Ba (decide (x5>=48)) (Ai (call 90 [.pbox [.sc (.string E2),.sc (.int .i64 E4)]]) fun Ha Km=>Ab Ha fun Hk Ib=>Ak .u8 Hk fun Kp=>Ad Ib<|Ab Km fun Jb Kw=>Ab Jb fun K7 Lx=>A0 K7 fun Jz=>Ab Lx fun Lo Ld=>Ak .i64 Lo fun Lt=>Ad Ld<|Ad Kw<|Ba (decide (Kp<=57)) (Ac (wrap .i64 (Lt+1)) fun Mq=>C5 fu call Bp Bm (nn) (y0) Jz Mq) (some (Aq.mk [.sc (.bool (decide (Lt>y0)))] [[.sc (.string Jz),.sc (.int .i64 Lt)]]))) (some (Aq.mk [.sc (.bool (decide (E4>y0)))] [[.sc (.string E2),.sc (.int .i64 E4)]]))):=by kernel_rfl
theorem Jg {p:Option (List PV->Option Aq)} (fu d:Nat)(Bp:ByteArray)(Bm:Int):Ae (CP p) prog fu (d+1) Fk [.pbox [.sc (.string Bp),.sc (.int .i64 Bm)]]=(fun (call:An)=>C5 fu call Bp Bm (fu) (Bm) (Bp) (Bm)) (Ae (CP p) prog fu d):=by kernel_rfl
abbrev Fp:FuncId:=92
theorem Ah {p:Option (List PV->Option Aq)} (fu d:Nat)(Bp:ByteArray)(Bm:Int):Ae (CP p) prog fu (d+1) Fp [.pbox [.sc (.string Bp),.sc (.int .i64 Bm)]]=(fun (call:An)=>Ai (call 67 [.pbox [.sc (.string Bp),.sc (.int .i64 Bm)],.sc (.string (ByteArray.mk #[45]))]) fun x1 x2=>Ab x1 fun x3 x4=>Ao x3 fun x5=>Ad x4<|Ab x2 fun x6 x7=>Ab x6 fun x8 x9=>A0 x8 fun E2=>Ab x9 fun I3 J2=>Ak .i64 I3 fun E4=>Ad J2<|Ad x7<|Ai (call 67 [.pbox [.sc (.string E2),.sc (.int .i64 E4)],.sc (.string (ByteArray.mk #[48]))]) fun Ha Km=>Ab Ha fun Hk Ib=>Ao Hk fun Kp=>Ad Ib<|Ab Km fun Jb Kw=>Ab Jb fun K7 Lx=>A0 K7 fun Jz=>Ab Lx fun Lo Ld=>Ak .i64 Lo fun Lt=>Ad Ld<|Ad Kw<|Ba (!Kp) (Ai (call 107 [.pbox [.sc (.string Jz),.sc (.int .i64 Lt)]]) fun Mq Ow=>Ab Mq fun M2 Ox=>Ao M2 fun Pk=>Ad Ox<|Ab Ow fun P4 Pi=>Ab P4 fun Ql Qt=>A0 Ql fun P7=>Ab Qt fun R0 Q3=>Ak .i64 R0 fun Pn=>Ad Q3<|Ad Pi<|Ba (!Pk) (some (Aq.mk [.sc (.bool false)] [[.sc (.string P7),.sc (.int .i64 Pn)]])) (Ai (call 67 [.pbox [.sc (.string P7),.sc (.int .i64 Pn)],.sc (.string (ByteArray.mk #[46]))]) fun W0 X8=>Ab W0 fun Pq Qp=>Ao Pq fun Wb=>Ad Qp<|Ab X8 fun Wa Z2=>Ab Wa fun Zq Zr=>A0 Zq fun Xk=>Ab Zr fun Xn Zi=>Ak .i64 Xn fun N1=>Ad Zi<|Ad Z2<|Ba Wb (Ai (call 107 [.pbox [.sc (.string Xk),.sc (.int .i64 N1)]]) fun Q8 X5=>Ab Q8 fun FB BG=>Ao FB fun Zw=>Ad BG<|Ab X5 fun Zu GA=>Ab Zu fun II JO=>A0 II fun NU=>Ab JO fun TQ SD=>Ak .i64 TQ fun NS=>Ad SD<|Ad GA<|Ba (!Zw) (some (Aq.mk [.sc (.bool false)] [[.sc (.string NU),.sc (.int .i64 NS)]])) (Ai (call 67 [.pbox [.sc (.string NU),.sc (.int .i64 NS)],.sc (.string (ByteArray.mk #[101]))]) fun QJ NJ=>Ab QJ fun QH SI=>Ao QH fun NW=>Ad SI<|Ab NJ fun NO LI=>Ab NO fun GL NP=>A0 GL fun TH=>Ab NP fun ZN x77=>Ak .i64 ZN fun WQ=>Ad x77<|Ad LI<|Ba NW (Ai (call 67 [.pbox [.sc (.string TH),.sc (.int .i64 WQ)],.sc (.string (ByteArray.mk #[43]))]) fun ZA RT=>Ab ZA fun YE x82=>Ao YE fun x83=>Ad x82<|Ab RT fun VE WO=>Ab VE fun x86 ZH=>A0 x86 fun UG=>Ab ZH fun XB x90=>Ak .i64 XB fun WJ=>Ad x90<|Ad WO<|Ba (!x83) (Ai (call 67 [.pbox [.sc (.string UG),.sc (.int .i64 WJ)],.sc (.string (ByteArray.mk #[45]))]) fun WW x93=>Ab WW fun WK YO=>Ao WK fun x96=>Ad YO<|Ab x93 fun VJ x98=>Ab VJ fun ZM Tc=>A0 ZM fun Xf=>Ab Tc fun Vv Yd=>Ak .i64 Vv fun Yb=>Ad Yd<|Ad x98<|Ai (call 107 [.pbox [.sc (.string Xf),.sc (.int .i64 Yb)]]) fun Qu Wp=>Ab Qu fun Ws Zs=>Ao Ws fun DE=>Ad Zs<|Ab Wp fun AF EB=>Ab AF fun HC Z3=>A0 HC fun EW=>Ab Z3 fun HI FK=>Ak .i64 HI fun BQ=>Ad FK<|Ad EB<|some (Aq.mk [.sc (.bool DE)] [[.sc (.string EW),.sc (.int .i64 BQ)]])) (Ai (call 107 [.pbox [.sc (.string UG),.sc (.int .i64 WJ)]]) fun FG Wc=>Ab FG fun V3 EI=>Ao V3 fun FU=>Ad EI<|Ab Wc fun Xc CO=>Ab Xc fun DG AL=>A0 DG fun AK=>Ab AL fun AB V2=>Ak .i64 AB fun Zz=>Ad V2<|Ad CO<|some (Aq.mk [.sc (.bool FU)] [[.sc (.string AK),.sc (.int .i64 Zz)]]))) (Ai (call 67 [.pbox [.sc (.string TH),.sc (.int .i64 WQ)],.sc (.string (ByteArray.mk #[69]))]) fun EX FD=>Ab EX fun CA DY=>Ao CA fun DM=>Ad DY<|Ab FD fun DD EF=>Ab DD fun HK ES=>A0 HK fun Z4=>Ab ES fun GZ CW=>Ak .i64 GZ fun U6=>Ad CW<|Ad EF<|Ba DM (Ai (call 67 [.pbox [.sc (.string Z4),.sc (.int .i64 U6)],.sc (.string (ByteArray.mk #[43]))]) fun Yr FC=>Ab Yr fun Z5 AM=>Ao Z5 fun AJ=>Ad AM<|Ab FC fun GN GW=>Ab GN fun TF UM=>A0 TF fun MQ=>Ab UM fun SP Aan=>Ak .i64 SP fun QQ=>Ad Aan<|Ad GW<|Ba (!AJ) (Ai (call 67 [.pbox [.sc (.string MQ),.sc (.int .i64 QQ)],.sc (.string (ByteArray.mk #[45]))]) fun Ac9 Aff=>Ab Ac9 fun Ad9 Afp=>Ao Ad9 fun Ak5=>Ad Afp<|Ab Aff fun Adt ZU=>Ab Adt fun Agj Afh=>A0 Agj fun Abu=>Ab Afh fun Afb Ah0=>Ak .i64 Afb fun Ag5=>Ad Ah0<|Ad ZU<|Ai (call 107 [.pbox [.sc (.string Abu),.sc (.int .i64 Ag5)]]) fun Aca Acy=>Ab Aca fun Acs Aft=>Ao Acs fun Aes=>Ad Aft<|Ab Acy fun Aim RN=>Ab Aim fun UY Ad4=>A0 UY fun YR=>Ab Ad4 fun UH Ad1=>Ak .i64 UH fun Af3=>Ad Ad1<|Ad RN<|some (Aq.mk [.sc (.bool Aes)] [[.sc (.string YR),.sc (.int .i64 Af3)]])) (Ai (call 107 [.pbox [.sc (.string MQ),.sc (.int .i64 QQ)]]) fun Ae5 Aeb=>Ab Ae5 fun Ado Ahg=>Ao Ado fun Ahd=>Ad Ahg<|Ab Aeb fun Afj ZL=>Ab Afj fun Aln Af6=>A0 Aln fun Aa0=>Ab Af6 fun Af8 Ad3=>Ak .i64 Af8 fun Agf=>Ad Ad3<|Ad ZL<|some (Aq.mk [.sc (.bool Ahd)] [[.sc (.string Aa0),.sc (.int .i64 Agf)]]))) (some (Aq.mk [.sc (.bool true)] [[.sc (.string Z4),.sc (.int .i64 U6)]]))))) (Ai (call 67 [.pbox [.sc (.string Xk),.sc (.int .i64 N1)],.sc (.string (ByteArray.mk #[101]))]) fun Adc Aer=>Ab Adc fun Ah1 Afz=>Ao Ah1 fun Abp=>Ad Afz<|Ab Aer fun Aa9 ZC=>Ab Aa9 fun Aex Ahl=>A0 Aex fun TE=>Ab Ahl fun Agw Ahy=>Ak .i64 Agw fun Aac=>Ad Ahy<|Ad ZC<|Ba Abp (Ai (call 67 [.pbox [.sc (.string TE),.sc (.int .i64 Aac)],.sc (.string (ByteArray.mk #[43]))]) fun Adv Ahn=>Ab Adv fun Ac1 Aj8=>Ao Ac1 fun Ah2=>Ad Aj8<|Ab Ahn fun Ada Acx=>Ab Ada fun Aeu Agz=>A0 Aeu fun Aaz=>Ab Agz fun Ahb Ad5=>Ak .i64 Ahb fun Abq=>Ad Ad5<|Ad Acx<|Ba (!Ah2) (Ai (call 67 [.pbox [.sc (.string Aaz),.sc (.int .i64 Abq)],.sc (.string (ByteArray.mk #[45]))]) fun Agx Ane=>Ab Agx fun Anv Aqy=>Ao Anv fun At8=>Ad Aqy<|Ab Ane fun Apg Anp=>Ab Apg fun Ao1 Anq=>A0 Ao1 fun Aqe=>Ab Anq fun Ann Api=>Ak .i64 Ann fun An1=>Ad Api<|Ad Anp<|Ai (call 107 [.pbox [.sc (.string Aqe),.sc (.int .i64 An1)]]) fun Arm An2=>Ab Arm fun Apr Aqu=>Ao Apr fun Ank=>Ad Aqu<|Ab An2 fun Aoe Aqs=>Ab Aoe fun Aqa Aq7=>A0 Aqa fun Aqj=>Ab Aq7 fun Apb Akf=>Ak .i64 Apb fun Ap7=>Ad Akf<|Ad Aqs<|some (Aq.mk [.sc (.bool Ank)] [[.sc (.string Aqj),.sc (.int .i64 Ap7)]])) (Ai (call 107 [.pbox [.sc (.string Aaz),.sc (.int .i64 Abq)]]) fun Aox Aj7=>Ab Aox fun An0 Aqk=>Ao An0 fun Aq9=>Ad Aqk<|Ab Aj7 fun Ap6 Aqp=>Ab Ap6 fun Aog Aqm=>A0 Aog fun Apk=>Ab Aqm fun Ao0 Alo=>Ak .i64 Ao0 fun Arq=>Ad Alo<|Ad Aqp<|some (Aq.mk [.sc (.bool Aq9)] [[.sc (.string Apk),.sc (.int .i64 Arq)]]))) (Ai (call 67 [.pbox [.sc (.string TE),.sc (.int .i64 Aac)],.sc (.string (ByteArray.mk #[69]))]) fun Aqc Ajk=>Ab Aqc fun Ark Apf=>Ao Ark fun Ap8=>Ad Apf<|Ab Ajk fun Aoi Aom=>Ab Aoi fun Arh An5=>A0 Arh fun All=>Ab An5 fun Aq4 Ak0=>Ak .i64 Aq4 fun Akt=>Ad Ak0<|Ad Aom<|Ba Ap8 (Ai (call 67 [.pbox [.sc (.string All),.sc (.int .i64 Akt)],.sc (.string (ByteArray.mk #[43]))]) fun Aq5 Alf=>Ab Aq5 fun Aoh Arg=>Ao Aoh fun Ao6=>Ad Arg<|Ab Alf fun Aph Apv=>Ab Aph fun Arc Ari=>A0 Arc fun Aj5=>Ab Ari fun Apd Aiz=>Ak .i64 Apd fun Akh=>Ad Aiz<|Ad Apv<|Ba (!Ao6) (Ai (call 67 [.pbox [.sc (.string Aj5),.sc (.int .i64 Akh)],.sc (.string (ByteArray.mk #[45]))]) fun Ap9 Ail=>Ab Ap9 fun Aoq Aow=>Ao Aoq fun Av1=>Ad Aow<|Ab Ail fun Aok Aq6=>Ab Aok fun Ao7 Ao4=>A0 Ao7 fun Aoz=>Ab Ao4 fun Anj Aj6=>Ak .i64 Anj fun Apw=>Ad Aj6<|Ad Aq6<|Ai (call 107 [.pbox [.sc (.string Aoz),.sc (.int .i64 Apw)]]) fun Apj Ajt=>Ab Apj fun A82 A1b=>Ao A82 fun A03=>Ad A1b<|Ab Ajt fun A31 A2i=>Ab A31 fun A09 Azt=>A0 A09 fun A51=>Ab Azt fun Ayn A50=>Ak .i64 Ayn fun Azn=>Ad A50<|Ad A2i<|some (Aq.mk [.sc (.bool A03)] [[.sc (.string A51),.sc (.int .i64 Azn)]])) (Ai (call 107 [.pbox [.sc (.string Aj5),.sc (.int .i64 Akh)]]) fun A00 A5d=>Ab A00 fun A10 A3i=>Ao A10 fun A6e=>Ad A3i<|Ab A5d fun Azx A3a=>Ab Azx fun A0m A2e=>A0 A0m fun Azv=>Ab A2e fun A5x Az8=>Ak .i64 A5x fun A3f=>Ad Az8<|Ad A3a<|some (Aq.mk [.sc (.bool A6e)] [[.sc (.string Azv),.sc (.int .i64 A3f)]]))) (some (Aq.mk [.sc (.bool true)] [[.sc (.string All),.sc (.int .i64 Akt)]])))))) (Ai (call 67 [.pbox [.sc (.string Jz),.sc (.int .i64 Lt)],.sc (.string (ByteArray.mk #[46]))]) fun A7t A56=>Ab A7t fun Ayi A0p=>Ao Ayi fun A8v=>Ad A0p<|Ab A56 fun Ayj A7z=>Ab Ayj fun A4l A38=>A0 A4l fun Atc=>Ab A38 fun A28 A7m=>Ak .i64 A28 fun Awn=>Ad A7m<|Ad A7z<|Ba A8v (Ai (call 107 [.pbox [.sc (.string Atc),.sc (.int .i64 Awn)]]) fun Azw A41=>Ab Azw fun A84 A87=>Ao A84 fun A0z=>Ad A87<|Ab A41 fun A3w Azi=>Ab A3w fun A45 A3q=>A0 A45 fun Awz=>Ab A3q fun A65 Ayp=>Ak .i64 A65 fun Avm=>Ad Ayp<|Ad Azi<|Ba (!A0z) (some (Aq.mk [.sc (.bool false)] [[.sc (.string Awz),.sc (.int .i64 Avm)]])) (Ai (call 67 [.pbox [.sc (.string Awz),.sc (.int .i64 Avm)],.sc (.string (ByteArray.mk #[101]))]) fun A5z Azu=>Ab A5z fun A1j A6b=>Ao A1j fun A6n=>Ad A6b<|Ab Azu fun A29 A4x=>Ab A29 fun A04 Ax1=>A0 A04 fun Awk=>Ab Ax1 fun Ayr A2j=>Ak .i64 Ayr fun Avs=>Ad A2j<|Ad A4x<|Ba A6n (Ai (call 67 [.pbox [.sc (.string Awk),.sc (.int .i64 Avs)],.sc (.string (ByteArray.mk #[43]))]) fun A7h A8u=>Ab A7h fun A5h A2b=>Ao A5h fun Azr=>Ad A2b<|Ab A8u fun A4k A6a=>Ab A4k fun A6x Ayf=>A0 A6x fun Aug=>Ab Ayf fun A3t A2p=>Ak .i64 A3t fun As9=>Ad A2p<|Ad A6a<|Ba (!Azr) (Ai (call 67 [.pbox [.sc (.string Aug),.sc (.int .i64 As9)],.sc (.string (ByteArray.mk #[45]))]) fun Azk A58=>Ab Azk fun Ayk A4r=>Ao Ayk fun Bb6=>Ad A4r<|Ab A58 fun Ayl A3s=>Ab Ayl fun A33 A3u=>A0 A33 fun A23=>Ab A3u fun A5g Azg=>Ak .i64 A5g fun A54=>Ad Azg<|Ad A3s<|Ai (call 107 [.pbox [.sc (.string A23),.sc (.int .i64 A54)]]) fun Az0 A3k=>Ab Az0 fun A4z A8y=>Ao A4z fun A85=>Ad A8y<|Ab A3k fun A4c Ayq=>Ab A4c fun A3r A2r=>A0 A3r fun A2n=>Ab A2r fun A4j A4b=>Ak .i64 A4j fun A3v=>Ad A4b<|Ad Ayq<|some (Aq.mk [.sc (.bool A85)] [[.sc (.string A2n),.sc (.int .i64 A3v)]])) (Ai (call 107 [.pbox [.sc (.string Aug),.sc (.int .i64 As9)]]) fun Ay8 A0g=>Ab Ay8 fun A2s A16=>Ao A2s fun A26=>Ad A16<|Ab A0g fun Az1 A53=>Ab Az1 fun A72 A0d=>A0 A72 fun A1w=>Ab A0d fun A6v A70=>Ak .i64 A6v fun Ayu=>Ad A70<|Ad A53<|some (Aq.mk [.sc (.bool A26)] [[.sc (.string A1w),.sc (.int .i64 Ayu)]]))) (Ai (call 67 [.pbox [.sc (.string Awk),.sc (.int .i64 Avs)],.sc (.string (ByteArray.mk #[69]))]) fun A6j Ay6=>Ab A6j fun A5b A1v=>Ao A5b fun Aza=>Ad A1v<|Ab Ay6 fun A71 A37=>Ab A71 fun A11 Axu=>A0 A11 fun Avf=>Ab Axu fun A8z A7a=>Ak .i64 A8z fun Awl=>Ad A7a<|Ad A37<|Ba Aza (Ai (call 67 [.pbox [.sc (.string Avf),.sc (.int .i64 Awl)],.sc (.string (ByteArray.mk #[43]))]) fun A8s A1l=>Ab A8s fun A74 A39=>Ao A74 fun A22=>Ad A39<|Ab A1l fun A1s A8l=>Ab A1s fun A1n A7d=>A0 A1n fun Auo=>Ab A7d fun A8i A6u=>Ak .i64 A8i fun Avr=>Ad A6u<|Ad A8l<|Ba (!A22) (Ai (call 67 [.pbox [.sc (.string Auo),.sc (.int .i64 Avr)],.sc (.string (ByteArray.mk #[45]))]) fun A3o A4p=>Ab A3o fun A69 A8f=>Ao A69 fun Bdh=>Ad A8f<|Ab A4p fun A5a A6p=>Ab A5a fun Azm A1m=>A0 Azm fun Ay3=>Ab A1m fun A4v A7l=>Ak .i64 A4v fun A5u=>Ad A7l<|Ad A6p<|Ai (call 107 [.pbox [.sc (.string Ay3),.sc (.int .i64 A5u)]]) fun Ayw A0x=>Ab Ayw fun A2d A2g=>Ao A2d fun A12=>Ad A2g<|Ab A0x fun A4s Az6=>Ab A4s fun A30 A6t=>A0 A30 fun Ay1=>Ab A6t fun A14 A0f=>Ak .i64 A14 fun A32=>Ad A0f<|Ad Az6<|some (Aq.mk [.sc (.bool A12)] [[.sc (.string Ay1),.sc (.int .i64 A32)]])) (Ai (call 107 [.pbox [.sc (.string Auo),.sc (.int .i64 Avr)]]) fun A02 A07=>Ab A02 fun A3c A17=>Ao A3c fun A1k=>Ad A17<|Ab A07 fun A21 A79=>Ab A21 fun A15 A4w=>A0 A15 fun A83=>Ab A4w fun Axt A4d=>Ak .i64 Axt fun A1i=>Ad A4d<|Ad A79<|some (Aq.mk [.sc (.bool A1k)] [[.sc (.string A83),.sc (.int .i64 A1i)]]))) (some (Aq.mk [.sc (.bool true)] [[.sc (.string Avf),.sc (.int .i64 Awl)]]))))) (Ai (call 67 [.pbox [.sc (.string Atc),.sc (.int .i64 Awn)],.sc (.string (ByteArray.mk #[101]))]) fun A8x Ayx=>Ab A8x fun A3b A19=>Ao A3b fun A7y=>Ad A19<|Ab Ayx fun A60 A24=>Ab A60 fun A86 A4e=>A0 A86 fun Au5=>Ab A4e fun A5r A1h=>Ak .i64 A5r fun Awv=>Ad A1h<|Ad A24<|Ba A7y (Ai (call 67 [.pbox [.sc (.string Au5),.sc (.int .i64 Awv)],.sc (.string (ByteArray.mk #[43]))]) fun Azp Ayg=>Ab Azp fun Azc Az5=>Ao Azc fun A4u=>Ad Az5<|Ab Ayg fun Axx A0j=>Ab Axx fun A3m A0l=>A0 A3m fun Ath=>Ab A0l fun A1p Axv=>Ak .i64 A1p fun Au2=>Ad Axv<|Ad A0j<|Ba (!A4u) (Ai (call 67 [.pbox [.sc (.string Ath),.sc (.int .i64 Au2)],.sc (.string (ByteArray.mk #[45]))]) fun A0t A1x=>Ab A0t fun A5s A0s=>Ao A5s fun Bc2=>Ad A0s<|Ab A1x fun A6y Ay2=>Ab A6y fun A3h A3g=>A0 A3h fun A2u=>Ab A3g fun A2l Ayz=>Ak .i64 A2l fun A48=>Ad Ayz<|Ad Ay2<|Ai (call 107 [.pbox [.sc (.string A2u),.sc (.int .i64 A48)]]) fun A8d A3p=>Ab A8d fun Axy A0i=>Ao Axy fun A7f=>Ad A0i<|Ab A3p fun Ayd A55=>Ab Ayd fun A1r Azd=>A0 A1r fun Ayc=>Ab Azd fun Ayv A8g=>Ak .i64 Ayv fun A5v=>Ad A8g<|Ad A55<|some (Aq.mk [.sc (.bool A7f)] [[.sc (.string Ayc),.sc (.int .i64 A5v)]])) (Ai (call 107 [.pbox [.sc (.string Ath),.sc (.int .i64 Au2)]]) fun Azj A62=>Ab Azj fun Ax8 A5w=>Ao Ax8 fun A7i=>Ad A5w<|Ab A62 fun A88 A57=>Ab A88 fun A3n A3l=>A0 A3n fun A5k=>Ab A3l fun A4m A5t=>Ak .i64 A4m fun A2w=>Ad A5t<|Ad A57<|some (Aq.mk [.sc (.bool A7i)] [[.sc (.string A5k),.sc (.int .i64 A2w)]]))) (Ai (call 67 [.pbox [.sc (.string Au5),.sc (.int .i64 Awv)],.sc (.string (ByteArray.mk #[69]))]) fun A42 A08=>Ab A42 fun Ayy A7c=>Ao Ayy fun A6q=>Ad A7c<|Ab A08 fun A5y A0q=>Ab A5y fun A8a A7b=>A0 A8a fun Awf=>Ab A7b fun A36 Ay5=>Ak .i64 A36 fun Ata=>Ad Ay5<|Ad A0q<|Ba A6q (Ai (call 67 [.pbox [.sc (.string Awf),.sc (.int .i64 Ata)],.sc (.string (ByteArray.mk #[43]))]) fun A7e A4t=>Ab A7e fun Az7 Azz=>Ao Az7 fun A6g=>Ad Azz<|Ab A4t fun A2q A0b=>Ab A2q fun A2o Azo=>A0 A2o fun Atm=>Ab Azo fun A7s Ays=>Ak .i64 A7s fun Ats=>Ad Ays<|Ad A0b<|Ba (!A6g) (Ai (call 67 [.pbox [.sc (.string Atm),.sc (.int .i64 Ats)],.sc (.string (ByteArray.mk #[45]))]) fun A06 A1d=>Ab A06 fun A7r A63=>Ao A7r fun Bdd=>Ad A63<|Ab A1d fun Aya A5e=>Ab Aya fun A47 A20=>A0 A47 fun A6w=>Ab A20 fun A2f A2c=>Ak .i64 A2f fun A64=>Ad A2c<|Ad A5e<|Ai (call 107 [.pbox [.sc (.string A6w),.sc (.int .i64 A64)]]) fun A7k A3z=>Ab A7k fun A0n A8w=>Ao A0n fun A4q=>Ad A8w<|Ab A3z fun A0e A8j=>Ab A0e fun A8k A5p=>A0 A8k fun A34=>Ab A5p fun A7v A75=>Ak .i64 A7v fun A0c=>Ad A75<|Ad A8j<|some (Aq.mk [.sc (.bool A4q)] [[.sc (.string A34),.sc (.int .i64 A0c)]])) (Ai (call 107 [.pbox [.sc (.string Atm),.sc (.int .i64 Ats)]]) fun A8n A3x=>Ab A8n fun A8q A78=>Ao A8q fun A2x=>Ad A78<|Ab A3x fun A46 A3d=>Ab A46 fun A2v Ax6=>A0 A2v fun A0u=>Ab Ax6 fun A13 A49=>Ak .i64 A13 fun A5l=>Ad A49<|Ad A3d<|some (Aq.mk [.sc (.bool A2x)] [[.sc (.string A0u),.sc (.int .i64 A5l)]]))) (some (Aq.mk [.sc (.bool true)] [[.sc (.string Awf),.sc (.int .i64 Ata)]])))))) (Ae (CP p) prog fu d):=by kernel_rfl
abbrev Kb:FuncId:=91
noncomputable def Dd (fu:Nat)(call:An)(Bp:ByteArray)(Bm a1:Int)(nn:Nat)(y0:Int)(y1:ByteArray)(y2:Int):Option Aq:=Fy CB prog fu call 91 Tryd.f91 (Eb Tryd.f91) [.pbox [.sc (.string Bp),.sc (.int .i64 Bm)],.sc (.int .i64 a1)] [.r,.r,.r,.r,.l] nn ⟨lk [(0,(.ptr 64000 0)),(1,(.sc (.int .i64 y0)))],Ij [(64000,(.st [(.sc (.string y1)),(.sc (.int .i64 y2))]))]⟩
theorem Iu (fu:Nat)(call:An)(Bp:ByteArray)(Bm a1:Int)(nn:Nat)(y0:Int)(y1:ByteArray)(y2:Int):Dd fu call Bp Bm a1 (nn+1) y0 y1 y2=(Ai (call 69 [.pbox [.sc (.string y1),.sc (.int .i64 y2)],.sc (.int .i64 y0)]) fun R0 Q3=>Ab R0 fun Pn W0=>Fw Pn fun X8=>Ab X8 fun Pq Qp=>Ak .i64 Pq fun Wb=>Ab Qp fun Wa Z2=>A0 Wa fun Zq=>Ab Z2 fun Zr Xk=>Ao Zr fun Xn=>Ad Xk<|Ab W0 fun Zi N1=>Ak .i64 Zi fun Q8=>Ad N1<|Ab Q3 fun X5 FB=>Ab X5 fun BG Zw=>A0 BG fun Zu=>Ab Zw fun GA II=>Ak .i64 GA fun JO=>Ad II<|Ad FB<|Ba (Q8 != 0) (some (Aq.mk [.sc (.int .i64 Q8)] [[.sc (.string Zu),.sc (.int .i64 JO)]])) (Ai (call 50 [.pbox [.sc (.string Zu),.sc (.int .i64 JO)]]) fun NU TQ=>Ad NU<|Ab TQ fun SD NS=>Ab SD fun QJ NJ=>A0 QJ fun QH=>Ab NJ fun SI NW=>Ak .i64 SI fun NO=>Ad NW<|Ad NS<|Ai (call 67 [.pbox [.sc (.string QH),.sc (.int .i64 NO)],.sc (.string (ByteArray.mk #[93]))]) fun LI GL=>Ab LI fun NP TH=>Ao NP fun ZN=>Ad TH<|Ab GL fun x77 WQ=>Ab x77 fun ZA RT=>A0 ZA fun YE=>Ab RT fun x82 x83=>Ak .i64 x82 fun VE=>Ad x83<|Ad WQ<|Ba ZN (some (Aq.mk [.sc (.int .i64 0)] [[.sc (.string YE),.sc (.int .i64 VE)]])) (Ai (call 67 [.pbox [.sc (.string YE),.sc (.int .i64 VE)],.sc (.string (ByteArray.mk #[44]))]) fun WO x86=>Ab WO fun ZH UG=>Ao ZH fun XB=>Ad UG<|Ab x86 fun x90 WJ=>Ab x90 fun WW x93=>A0 WW fun WK=>Ab x93 fun YO x96=>Ak .i64 YO fun VJ=>Ad x96<|Ad WJ<|Ba (!XB) (some (Aq.mk [.sc (.int .i64 2)] [[.sc (.string WK),.sc (.int .i64 VJ)]])) (Ai (call 50 [.pbox [.sc (.string WK),.sc (.int .i64 VJ)]]) fun x98 ZM=>Ad x98<|Ab ZM fun Tc Xf=>Ab Tc fun Vv Yd=>A0 Vv fun Yb=>Ab Yd fun Qu Wp=>Ak .i64 Qu fun Ws=>Ad Wp<|Ad Xf<|Dd fu call Bp Bm a1 (nn) (y0) Yb Ws)))):=by kernel_rfl
theorem Kq {p:Option (List PV->Option Aq)} (fu d:Nat)(Bp:ByteArray)(Bm a1:Int):Ae (CP p) prog fu (d+1) Kb [.pbox [.sc (.string Bp),.sc (.int .i64 Bm)],.sc (.int .i64 a1)]=(fun (call:An)=>Ai (call 67 [.pbox [.sc (.string Bp),.sc (.int .i64 Bm)],.sc (.string (ByteArray.mk #[91]))]) fun x1 x2=>Ab x1 fun x3 x4=>Ao x3 fun x5=>Ad x4<|Ab x2 fun x6 x7=>Ab x6 fun x8 x9=>A0 x8 fun E2=>Ab x9 fun I3 J2=>Ak .i64 I3 fun E4=>Ad J2<|Ad x7<|Ba (!x5) (some (Aq.mk [.sc (.int .i64 2)] [[.sc (.string E2),.sc (.int .i64 E4)]])) (Ai (call 50 [.pbox [.sc (.string E2),.sc (.int .i64 E4)]]) fun Ha Km=>Ad Ha<|Ab Km fun Hk Ib=>Ab Hk fun Kp Jb=>A0 Kp fun Kw=>Ab Jb fun K7 Lx=>Ak .i64 K7 fun Jz=>Ad Lx<|Ad Ib<|Ai (call 67 [.pbox [.sc (.string Kw),.sc (.int .i64 Jz)],.sc (.string (ByteArray.mk #[93]))]) fun Lo Ld=>Ab Lo fun Lt Mq=>Ao Lt fun Ow=>Ad Mq<|Ab Ld fun M2 Ox=>Ab M2 fun Pk P4=>A0 Pk fun Pi=>Ab P4 fun Ql Qt=>Ak .i64 Ql fun P7=>Ad Qt<|Ad Ox<|Ba Ow (some (Aq.mk [.sc (.int .i64 0)] [[.sc (.string Pi),.sc (.int .i64 P7)]])) (Dd fu call Bp Bm a1 (fu) (a1) Pi P7))) (Ae (CP p) prog fu d):=by kernel_rfl
abbrev Jj:FuncId:=51
noncomputable def C4 (fu:Nat)(call:An)(Bp:ByteArray)(Bm a1:Int)(nn:Nat)(y0:Int)(y1:ByteArray)(y2:Int):Option Aq:=Fy CB prog fu call 51 Tryd.f51 (Eb Tryd.f51) [.pbox [.sc (.string Bp),.sc (.int .i64 Bm)],.sc (.int .i64 a1),.sc (Value.map none)] [.r,.r,.r,.r,.l] nn ⟨lk [(0,(.ptr 128000 0)),(1,(.sc (.int .i64 y0))),(2,(.sc (Value.map none)))],Ij [(128000,(.st [(.sc (.string y1)),(.sc (.int .i64 y2))]))]⟩
theorem Ia (fu:Nat)(call:An)(Bp:ByteArray)(Bm a1:Int)(nn:Nat)(y0:Int)(y1:ByteArray)(y2:Int):C4 fu call Bp Bm a1 (nn+1) y0 y1 y2=(Ai (call 68 [.pbox [.sc (.string y1),.sc (.int .i64 y2)]]) fun R0 Q3=>Ab R0 fun Pn W0=>A0 Pn fun X8=>Ab W0 fun Pq Qp=>Ao Pq fun Wb=>Ad Qp<|Ab Q3 fun Wa Z2=>Ab Wa fun Zq Zr=>A0 Zq fun Xk=>Ab Zr fun Xn Zi=>Ak .i64 Xn fun N1=>Ad Zi<|Ad Z2<|Ba (!Wb) (some (Aq.mk [.sc (.int .i64 2)] [[.sc (.string Xk),.sc (.int .i64 N1)]])) (Ai (call 50 [.pbox [.sc (.string Xk),.sc (.int .i64 N1)]]) fun Q8 X5=>Ad Q8<|Ab X5 fun FB BG=>Ab FB fun Zw Zu=>A0 Zw fun GA=>Ab Zu fun II JO=>Ak .i64 II fun NU=>Ad JO<|Ad BG<|Ai (call 67 [.pbox [.sc (.string GA),.sc (.int .i64 NU)],.sc (.string (ByteArray.mk #[58]))]) fun TQ SD=>Ab TQ fun NS QJ=>Ao NS fun NJ=>Ad QJ<|Ab SD fun QH SI=>Ab QH fun NW NO=>A0 NW fun LI=>Ab NO fun GL NP=>Ak .i64 GL fun TH=>Ad NP<|Ad SI<|Ba (!NJ) (some (Aq.mk [.sc (.int .i64 2)] [[.sc (.string LI),.sc (.int .i64 TH)]])) (Ai (call 50 [.pbox [.sc (.string LI),.sc (.int .i64 TH)]]) fun ZN x77=>Ad ZN<|Ab x77 fun WQ ZA=>Ab WQ fun RT YE=>A0 RT fun x82=>Ab YE fun x83 VE=>Ak .i64 x83 fun WO=>Ad VE<|Ad ZA<|Ai (call 69 [.pbox [.sc (.string x82),.sc (.int .i64 WO)],.sc (.int .i64 y0)]) fun x86 ZH=>Ab x86 fun UG XB=>Fw UG fun x90=>Ab x90 fun WJ WW=>Ak .i64 WJ fun x93=>Ab WW fun WK YO=>A0 WK fun x96=>Ab YO fun VJ x98=>Ao VJ fun ZM=>Ad x98<|Ab XB fun Tc Xf=>Ak .i64 Tc fun Vv=>Ad Xf<|Ab ZH fun Yd Yb=>Ab Yd fun Qu Wp=>A0 Qu fun Ws=>Ab Wp fun Zs DE=>Ak .i64 Zs fun AF=>Ad DE<|Ad Yb<|Ba (Vv != 0) (some (Aq.mk [.sc (.int .i64 Vv)] [[.sc (.string Ws),.sc (.int .i64 AF)]])) (Ai (call 50 [.pbox [.sc (.string Ws),.sc (.int .i64 AF)]]) fun EB HC=>Ad EB<|Ab HC fun Z3 EW=>Ab Z3 fun HI FK=>A0 HI fun BQ=>Ab FK fun FG Wc=>Ak .i64 FG fun V3=>Ad Wc<|Ad EW<|Ai (call 67 [.pbox [.sc (.string BQ),.sc (.int .i64 V3)],.sc (.string (ByteArray.mk #[125]))]) fun EI FU=>Ab EI fun Xc CO=>Ao Xc fun DG=>Ad CO<|Ab FU fun AL AK=>Ab AL fun AB V2=>A0 AB fun Zz=>Ab V2 fun EX FD=>Ak .i64 EX fun CA=>Ad FD<|Ad AK<|Ba DG (some (Aq.mk [.sc (.int .i64 0)] [[.sc (.string Zz),.sc (.int .i64 CA)]])) (Ai (call 67 [.pbox [.sc (.string Zz),.sc (.int .i64 CA)],.sc (.string (ByteArray.mk #[44]))]) fun DY DM=>Ab DY fun DD EF=>Ao DD fun HK=>Ad EF<|Ab DM fun ES Z4=>Ab ES fun GZ CW=>A0 GZ fun U6=>Ab CW fun Yr FC=>Ak .i64 Yr fun Z5=>Ad FC<|Ad Z4<|Ba (!HK) (some (Aq.mk [.sc (.int .i64 2)] [[.sc (.string U6),.sc (.int .i64 Z5)]])) (Ai (call 50 [.pbox [.sc (.string U6),.sc (.int .i64 Z5)]]) fun AM AJ=>Ad AM<|Ab AJ fun GN GW=>Ab GN fun TF UM=>A0 TF fun MQ=>Ab UM fun SP Aan=>Ak .i64 SP fun QQ=>Ad Aan<|Ad GW<|C4 fu call Bp Bm a1 (nn) (y0) MQ QQ)))))):=by kernel_rfl
theorem Ju {p:Option (List PV->Option Aq)} (fu d:Nat)(Bp:ByteArray)(Bm a1:Int):Ae (CP p) prog fu (d+1) Jj [.pbox [.sc (.string Bp),.sc (.int .i64 Bm)],.sc (.int .i64 a1),.sc (Value.map none)]=(fun (call:An)=>Ai (call 67 [.pbox [.sc (.string Bp),.sc (.int .i64 Bm)],.sc (.string (ByteArray.mk #[123]))]) fun x1 x2=>Ab x1 fun x3 x4=>Ao x3 fun x5=>Ad x4<|Ab x2 fun x6 x7=>Ab x6 fun x8 x9=>A0 x8 fun E2=>Ab x9 fun I3 J2=>Ak .i64 I3 fun E4=>Ad J2<|Ad x7<|Ba (!x5) (some (Aq.mk [.sc (.int .i64 2)] [[.sc (.string E2),.sc (.int .i64 E4)]])) (Ai (call 50 [.pbox [.sc (.string E2),.sc (.int .i64 E4)]]) fun Ha Km=>Ad Ha<|Ab Km fun Hk Ib=>Ab Hk fun Kp Jb=>A0 Kp fun Kw=>Ab Jb fun K7 Lx=>Ak .i64 K7 fun Jz=>Ad Lx<|Ad Ib<|Ai (call 67 [.pbox [.sc (.string Kw),.sc (.int .i64 Jz)],.sc (.string (ByteArray.mk #[125]))]) fun Lo Ld=>Ab Lo fun Lt Mq=>Ao Lt fun Ow=>Ad Mq<|Ab Ld fun M2 Ox=>Ab M2 fun Pk P4=>A0 Pk fun Pi=>Ab P4 fun Ql Qt=>Ak .i64 Ql fun P7=>Ad Qt<|Ad Ox<|Ba Ow (some (Aq.mk [.sc (.int .i64 0)] [[.sc (.string Pi),.sc (.int .i64 P7)]])) (C4 fu call Bp Bm a1 (fu) (a1) Pi P7))) (Ae (CP p) prog fu d):=by kernel_rfl
abbrev Kh:FuncId:=69
theorem B5 {p:Option (List PV->Option Aq)} (fu d:Nat)(Bp:ByteArray)(Bm a1:Int):Ae (CP p) prog fu (d+1) Kh [.pbox [.sc (.string Bp),.sc (.int .i64 Bm)],.sc (.int .i64 a1)]=(fun (call:An)=>Ai (call 90 [.pbox [.sc (.string Bp),.sc (.int .i64 Bm)]]) fun x1 x2=>Ab x1 fun x3 x4=>Ak .u8 x3 fun x5=>Ad x4<|Ab x2 fun x6 x7=>Ab x6 fun x8 x9=>A0 x8 fun E2=>Ab x9 fun I3 J2=>Ak .i64 I3 fun E4=>Ad J2<|Ad x7<|Ba (x5==123) (Ba (decide (a1>8)) (some (Aq.mk [.agg [.sc (.int .i64 0),.sc (.string (ByteArray.mk #[])),.sc (.bool false)],.sc (.int .i64 5)] [[.sc (.string E2),.sc (.int .i64 E4)]])) (Ba (x5==123) (Ac (wrap .i64 (a1+1)) fun Ha=>Ai (call 51 [.pbox [.sc (.string E2),.sc (.int .i64 E4)],.sc (.int .i64 Ha),.sc (Value.map none)]) fun Km Hk=>Ab Km fun Ib Kp=>Ak .i64 Ib fun Jb=>Ad Kp<|Ab Hk fun Kw K7=>Ab Kw fun Lx Jz=>A0 Lx fun Lo=>Ab Jz fun Ld Lt=>Ak .i64 Ld fun Mq=>Ad Lt<|Ad K7<|some (Aq.mk [.agg [.sc (.int .i64 6),.sc (.string (ByteArray.mk #[])),.sc (.bool false)],.sc (.int .i64 Jb)] [[.sc (.string Lo),.sc (.int .i64 Mq)]])) (Ba (x5==91) (Ac (wrap .i64 (a1+1)) fun Ow=>Ai (call 91 [.pbox [.sc (.string E2),.sc (.int .i64 E4)],.sc (.int .i64 Ow)]) fun M2 Ox=>Ab M2 fun Pk P4=>Ak .i64 Pk fun Pi=>Ad P4<|Ab Ox fun Ql Qt=>Ab Ql fun P7 R0=>A0 P7 fun Q3=>Ab R0 fun Pn W0=>Ak .i64 Pn fun X8=>Ad W0<|Ad Qt<|some (Aq.mk [.agg [.sc (.int .i64 5),.sc (.string (ByteArray.mk #[])),.sc (.bool false)],.sc (.int .i64 Pi)] [[.sc (.string Q3),.sc (.int .i64 X8)]])) (Ba (x5==34) (Ai (call 68 [.pbox [.sc (.string E2),.sc (.int .i64 E4)]]) fun Pq Qp=>Ab Pq fun Wb Wa=>A0 Wb fun Z2=>Ab Wa fun Zq Zr=>Ao Zq fun Xk=>Ad Zr<|Ab Qp fun Xn Zi=>Ab Xn fun N1 Q8=>A0 N1 fun X5=>Ab Q8 fun FB BG=>Ak .i64 FB fun Zw=>Ad BG<|Ad Zi<|Ba Xk (some (Aq.mk [.agg [.sc (.int .i64 4),.sc (.string Z2),.sc (.bool false)],.sc (.int .i64 0)] [[.sc (.string X5),.sc (.int .i64 Zw)]])) (some (Aq.mk [.agg [.sc (.int .i64 0),.sc (.string (ByteArray.mk #[])),.sc (.bool false)],.sc (.int .i64 2)] [[.sc (.string X5),.sc (.int .i64 Zw)]]))) (Ai (call 67 [.pbox [.sc (.string E2),.sc (.int .i64 E4)],.sc (.string (ByteArray.mk #[116,114,117,101]))]) fun Zu GA=>Ab Zu fun II JO=>Ao II fun NU=>Ad JO<|Ab GA fun TQ SD=>Ab TQ fun NS QJ=>A0 NS fun NJ=>Ab QJ fun QH SI=>Ak .i64 QH fun NW=>Ad SI<|Ad SD<|Ba NU (some (Aq.mk [.agg [.sc (.int .i64 2),.sc (.string (ByteArray.mk #[])),.sc (.bool true)],.sc (.int .i64 0)] [[.sc (.string NJ),.sc (.int .i64 NW)]])) (Ai (call 67 [.pbox [.sc (.string NJ),.sc (.int .i64 NW)],.sc (.string (ByteArray.mk #[102,97,108,115,101]))]) fun NO LI=>Ab NO fun GL NP=>Ao GL fun TH=>Ad NP<|Ab LI fun ZN x77=>Ab ZN fun WQ ZA=>A0 WQ fun RT=>Ab ZA fun YE x82=>Ak .i64 YE fun x83=>Ad x82<|Ad x77<|Ba TH (some (Aq.mk [.agg [.sc (.int .i64 2),.sc (.string (ByteArray.mk #[])),.sc (.bool false)],.sc (.int .i64 0)] [[.sc (.string RT),.sc (.int .i64 x83)]])) (Ai (call 67 [.pbox [.sc (.string RT),.sc (.int .i64 x83)],.sc (.string (ByteArray.mk #[110,117,108,108]))]) fun VE WO=>Ab VE fun x86 ZH=>Ao x86 fun UG=>Ad ZH<|Ab WO fun XB x90=>Ab XB fun WJ WW=>A0 WJ fun x93=>Ab WW fun WK YO=>Ak .i64 WK fun x96=>Ad YO<|Ad x90<|Ba UG (some (Aq.mk [.agg [.sc (.int .i64 1),.sc (.string (ByteArray.mk #[])),.sc (.bool false)],.sc (.int .i64 0)] [[.sc (.string x93),.sc (.int .i64 x96)]])) (Ai (call 92 [.pbox [.sc (.string x93),.sc (.int .i64 x96)]]) fun VJ x98=>Ab VJ fun ZM Tc=>Ao ZM fun Xf=>Ad Tc<|Ab x98 fun Vv Yd=>Ab Vv fun Yb Qu=>A0 Yb fun Wp=>Ab Qu fun Ws Zs=>Ak .i64 Ws fun DE=>Ad Zs<|Ad Yd<|Ba Xf (some (Aq.mk [.agg [.sc (.int .i64 3),.sc (.string (ByteArray.mk #[])),.sc (.bool false)],.sc (.int .i64 0)] [[.sc (.string Wp),.sc (.int .i64 DE)]])) (some (Aq.mk [.agg [.sc (.int .i64 0),.sc (.string (ByteArray.mk #[])),.sc (.bool false)],.sc (.int .i64 2)] [[.sc (.string Wp),.sc (.int .i64 DE)]])))))))))) (Ba (x5==91) (Ba (decide (a1>8)) (some (Aq.mk [.agg [.sc (.int .i64 0),.sc (.string (ByteArray.mk #[])),.sc (.bool false)],.sc (.int .i64 5)] [[.sc (.string E2),.sc (.int .i64 E4)]])) (Ba (x5==123) (Ac (wrap .i64 (a1+1)) fun AF=>Ai (call 51 [.pbox [.sc (.string E2),.sc (.int .i64 E4)],.sc (.int .i64 AF),.sc (Value.map none)]) fun EB HC=>Ab EB fun Z3 EW=>Ak .i64 Z3 fun HI=>Ad EW<|Ab HC fun FK BQ=>Ab FK fun FG Wc=>A0 FG fun V3=>Ab Wc fun EI FU=>Ak .i64 EI fun Xc=>Ad FU<|Ad BQ<|some (Aq.mk [.agg [.sc (.int .i64 6),.sc (.string (ByteArray.mk #[])),.sc (.bool false)],.sc (.int .i64 HI)] [[.sc (.string V3),.sc (.int .i64 Xc)]])) (Ba (x5==91) (Ac (wrap .i64 (a1+1)) fun CO=>Ai (call 91 [.pbox [.sc (.string E2),.sc (.int .i64 E4)],.sc (.int .i64 CO)]) fun DG AL=>Ab DG fun AK AB=>Ak .i64 AK fun V2=>Ad AB<|Ab AL fun Zz EX=>Ab Zz fun FD CA=>A0 FD fun DY=>Ab CA fun DM DD=>Ak .i64 DM fun EF=>Ad DD<|Ad EX<|some (Aq.mk [.agg [.sc (.int .i64 5),.sc (.string (ByteArray.mk #[])),.sc (.bool false)],.sc (.int .i64 V2)] [[.sc (.string DY),.sc (.int .i64 EF)]])) (Ba (x5==34) (Ai (call 68 [.pbox [.sc (.string E2),.sc (.int .i64 E4)]]) fun HK ES=>Ab HK fun Z4 GZ=>A0 Z4 fun CW=>Ab GZ fun U6 Yr=>Ao U6 fun FC=>Ad Yr<|Ab ES fun Z5 AM=>Ab Z5 fun AJ GN=>A0 AJ fun GW=>Ab GN fun TF UM=>Ak .i64 TF fun MQ=>Ad UM<|Ad AM<|Ba FC (some (Aq.mk [.agg [.sc (.int .i64 4),.sc (.string CW),.sc (.bool false)],.sc (.int .i64 0)] [[.sc (.string GW),.sc (.int .i64 MQ)]])) (some (Aq.mk [.agg [.sc (.int .i64 0),.sc (.string (ByteArray.mk #[])),.sc (.bool false)],.sc (.int .i64 2)] [[.sc (.string GW),.sc (.int .i64 MQ)]]))) (Ai (call 67 [.pbox [.sc (.string E2),.sc (.int .i64 E4)],.sc (.string (ByteArray.mk #[116,114,117,101]))]) fun SP Aan=>Ab SP fun QQ Ac9=>Ao QQ fun Aff=>Ad Ac9<|Ab Aan fun Ad9 Afp=>Ab Ad9 fun Ak5 Adt=>A0 Ak5 fun ZU=>Ab Adt fun Agj Afh=>Ak .i64 Agj fun Abu=>Ad Afh<|Ad Afp<|Ba Aff (some (Aq.mk [.agg [.sc (.int .i64 2),.sc (.string (ByteArray.mk #[])),.sc (.bool true)],.sc (.int .i64 0)] [[.sc (.string ZU),.sc (.int .i64 Abu)]])) (Ai (call 67 [.pbox [.sc (.string ZU),.sc (.int .i64 Abu)],.sc (.string (ByteArray.mk #[102,97,108,115,101]))]) fun Afb Ah0=>Ab Afb fun Ag5 Aca=>Ao Ag5 fun Acy=>Ad Aca<|Ab Ah0 fun Acs Aft=>Ab Acs fun Aes Aim=>A0 Aes fun RN=>Ab Aim fun UY Ad4=>Ak .i64 UY fun YR=>Ad Ad4<|Ad Aft<|Ba Acy (some (Aq.mk [.agg [.sc (.int .i64 2),.sc (.string (ByteArray.mk #[])),.sc (.bool false)],.sc (.int .i64 0)] [[.sc (.string RN),.sc (.int .i64 YR)]])) (Ai (call 67 [.pbox [.sc (.string RN),.sc (.int .i64 YR)],.sc (.string (ByteArray.mk #[110,117,108,108]))]) fun UH Ad1=>Ab UH fun Af3 Ae5=>Ao Af3 fun Aeb=>Ad Ae5<|Ab Ad1 fun Ado Ahg=>Ab Ado fun Ahd Afj=>A0 Ahd fun ZL=>Ab Afj fun Aln Af6=>Ak .i64 Aln fun Aa0=>Ad Af6<|Ad Ahg<|Ba Aeb (some (Aq.mk [.agg [.sc (.int .i64 1),.sc (.string (ByteArray.mk #[])),.sc (.bool false)],.sc (.int .i64 0)] [[.sc (.string ZL),.sc (.int .i64 Aa0)]])) (Ai (call 92 [.pbox [.sc (.string ZL),.sc (.int .i64 Aa0)]]) fun Af8 Ad3=>Ab Af8 fun Agf Adc=>Ao Agf fun Aer=>Ad Adc<|Ab Ad3 fun Ah1 Afz=>Ab Ah1 fun Abp Aa9=>A0 Abp fun ZC=>Ab Aa9 fun Aex Ahl=>Ak .i64 Aex fun TE=>Ad Ahl<|Ad Afz<|Ba Aer (some (Aq.mk [.agg [.sc (.int .i64 3),.sc (.string (ByteArray.mk #[])),.sc (.bool false)],.sc (.int .i64 0)] [[.sc (.string ZC),.sc (.int .i64 TE)]])) (some (Aq.mk [.agg [.sc (.int .i64 0),.sc (.string (ByteArray.mk #[])),.sc (.bool false)],.sc (.int .i64 2)] [[.sc (.string ZC),.sc (.int .i64 TE)]])))))))))) (Ba (x5==123) (Ac (wrap .i64 (a1+1)) fun Agw=>Ai (call 51 [.pbox [.sc (.string E2),.sc (.int .i64 E4)],.sc (.int .i64 Agw),.sc (Value.map none)]) fun Ahy Aac=>Ab Ahy fun Adv Ahn=>Ak .i64 Adv fun Ac1=>Ad Ahn<|Ab Aac fun Aj8 Ah2=>Ab Aj8 fun Ada Acx=>A0 Ada fun Aeu=>Ab Acx fun Agz Aaz=>Ak .i64 Agz fun Ahb=>Ad Aaz<|Ad Ah2<|some (Aq.mk [.agg [.sc (.int .i64 6),.sc (.string (ByteArray.mk #[])),.sc (.bool false)],.sc (.int .i64 Ac1)] [[.sc (.string Aeu),.sc (.int .i64 Ahb)]])) (Ba (x5==91) (Ac (wrap .i64 (a1+1)) fun Ad5=>Ai (call 91 [.pbox [.sc (.string E2),.sc (.int .i64 E4)],.sc (.int .i64 Ad5)]) fun Abq Agx=>Ab Abq fun Ane Anv=>Ak .i64 Ane fun Aqy=>Ad Anv<|Ab Agx fun At8 Apg=>Ab At8 fun Anp Ao1=>A0 Anp fun Anq=>Ab Ao1 fun Aqe Ann=>Ak .i64 Aqe fun Api=>Ad Ann<|Ad Apg<|some (Aq.mk [.agg [.sc (.int .i64 5),.sc (.string (ByteArray.mk #[])),.sc (.bool false)],.sc (.int .i64 Aqy)] [[.sc (.string Anq),.sc (.int .i64 Api)]])) (Ba (x5==34) (Ai (call 68 [.pbox [.sc (.string E2),.sc (.int .i64 E4)]]) fun An1 Arm=>Ab An1 fun An2 Apr=>A0 An2 fun Aqu=>Ab Apr fun Ank Aoe=>Ao Ank fun Aqs=>Ad Aoe<|Ab Arm fun Aqa Aq7=>Ab Aqa fun Aqj Apb=>A0 Aqj fun Akf=>Ab Apb fun Ap7 Aox=>Ak .i64 Ap7 fun Aj7=>Ad Aox<|Ad Aq7<|Ba Aqs (some (Aq.mk [.agg [.sc (.int .i64 4),.sc (.string Aqu),.sc (.bool false)],.sc (.int .i64 0)] [[.sc (.string Akf),.sc (.int .i64 Aj7)]])) (some (Aq.mk [.agg [.sc (.int .i64 0),.sc (.string (ByteArray.mk #[])),.sc (.bool false)],.sc (.int .i64 2)] [[.sc (.string Akf),.sc (.int .i64 Aj7)]]))) (Ai (call 67 [.pbox [.sc (.string E2),.sc (.int .i64 E4)],.sc (.string (ByteArray.mk #[116,114,117,101]))]) fun An0 Aqk=>Ab An0 fun Aq9 Ap6=>Ao Aq9 fun Aqp=>Ad Ap6<|Ab Aqk fun Aog Aqm=>Ab Aog fun Apk Ao0=>A0 Apk fun Alo=>Ab Ao0 fun Arq Aqc=>Ak .i64 Arq fun Ajk=>Ad Aqc<|Ad Aqm<|Ba Aqp (some (Aq.mk [.agg [.sc (.int .i64 2),.sc (.string (ByteArray.mk #[])),.sc (.bool true)],.sc (.int .i64 0)] [[.sc (.string Alo),.sc (.int .i64 Ajk)]])) (Ai (call 67 [.pbox [.sc (.string Alo),.sc (.int .i64 Ajk)],.sc (.string (ByteArray.mk #[102,97,108,115,101]))]) fun Ark Apf=>Ab Ark fun Ap8 Aoi=>Ao Ap8 fun Aom=>Ad Aoi<|Ab Apf fun Arh An5=>Ab Arh fun All Aq4=>A0 All fun Ak0=>Ab Aq4 fun Akt Aq5=>Ak .i64 Akt fun Alf=>Ad Aq5<|Ad An5<|Ba Aom (some (Aq.mk [.agg [.sc (.int .i64 2),.sc (.string (ByteArray.mk #[])),.sc (.bool false)],.sc (.int .i64 0)] [[.sc (.string Ak0),.sc (.int .i64 Alf)]])) (Ai (call 67 [.pbox [.sc (.string Ak0),.sc (.int .i64 Alf)],.sc (.string (ByteArray.mk #[110,117,108,108]))]) fun Aoh Arg=>Ab Aoh fun Ao6 Aph=>Ao Ao6 fun Apv=>Ad Aph<|Ab Arg fun Arc Ari=>Ab Arc fun Aj5 Apd=>A0 Aj5 fun Aiz=>Ab Apd fun Akh Ap9=>Ak .i64 Akh fun Ail=>Ad Ap9<|Ad Ari<|Ba Apv (some (Aq.mk [.agg [.sc (.int .i64 1),.sc (.string (ByteArray.mk #[])),.sc (.bool false)],.sc (.int .i64 0)] [[.sc (.string Aiz),.sc (.int .i64 Ail)]])) (Ai (call 92 [.pbox [.sc (.string Aiz),.sc (.int .i64 Ail)]]) fun Aoq Aow=>Ab Aoq fun Av1 Aok=>Ao Av1 fun Aq6=>Ad Aok<|Ab Aow fun Ao7 Ao4=>Ab Ao7 fun Aoz Anj=>A0 Aoz fun Aj6=>Ab Anj fun Apw Apj=>Ak .i64 Apw fun Ajt=>Ad Apj<|Ad Ao4<|Ba Aq6 (some (Aq.mk [.agg [.sc (.int .i64 3),.sc (.string (ByteArray.mk #[])),.sc (.bool false)],.sc (.int .i64 0)] [[.sc (.string Aj6),.sc (.int .i64 Ajt)]])) (some (Aq.mk [.agg [.sc (.int .i64 0),.sc (.string (ByteArray.mk #[])),.sc (.bool false)],.sc (.int .i64 2)] [[.sc (.string Aj6),.sc (.int .i64 Ajt)]]))))))))))) (Ae (CP p) prog fu d):=by kernel_rfl
end
section
open Go.Proofs.Tryd (prog)
open Go.IntKind (wrap)
theorem Art:∀n:Fin 256,decide (Lib.indexByte [32,9,10,13] (n.val:Int).toNat.toUInt8>=0)=YS (n.val:Int):=by decide +kernel
theorem Awi {c:Int}(h0:0<=c)(h1:c<=255):decide (Lib.indexByte [32,9,10,13] c.toNat.toUInt8>=0)=YS c:=by
 obtain⟨n,rfl⟩:=Int.eq_ofNat_of_zero_le h0;exact Art ⟨n,by omega⟩
theorem Br {t:ByteArray}:∀{l:List Int},Dg t l->Dg t (Bf l)
 |[],h=>h
 |c::l,h=>by
  unfold Bf;split
  ·exact Br h.tail
  ·exact h
theorem Rd:∀(l:List Int),(Bf l).length<=l.length
 |[]=>Nat.le_refl _
 |c::l=>by
  unfold Bf;split
  ·exact Nat.le_succ_of_le (Rd l)
  ·exact Nat.le_refl _
section
variable {fu d:Nat}
theorem Avk (s:ByteArray)(c:Int):Ae C0 prog fu (d+2) Lj [.sc (.string s),.sc (.int .u8 c)]=some ⟨[.sc (.int .i64 (Lib.indexByte s.data.toList c.toNat.toUInt8))],[]⟩:=by
 have e:Ae C0 prog fu (d+1) 40 [.sc (.string s),.sc (.int .u8 c)]=some ⟨[.sc (.int .i64 (Lib.indexByte s.data.toList c.toNat.toUInt8))],[]⟩:=rfl;rw[K8];simp only[B0,e]
theorem IV {t s0:ByteArray}{p0:Int}(ht:t.size<=1000000):∀(r:List Int)(nn:Nat),r.length+1<=nn->Dg t r ->
  De fu (Ae C0 prog fu (d+2)) s0 p0 nn t (Bu t r:Int)=some ⟨[],[Bx t (Bf r)]⟩
 |[],nn,Pe,h=>by
  obtain⟨k,rfl⟩:∃k,nn=k+1:=⟨nn-1,by omega⟩
  have e:decide ((Bu t []:Int)<(t.size:Int))=false:=by simp[U9]
  rw[E9];simp only[B0,e];rfl
 |c::r,nn,Pe,h=>by
  obtain⟨k,rfl⟩:∃k,nn=k+1:=⟨nn-1,by omega⟩
  have ih:=IV (s0:=s0) (p0:=p0) ht r k (by simp at Pe;omega) h.tail
  have hc:=h.B c (by simp)
  have hl:=h.len;have hp:=L6 h
  have e6:wrap .i64 ((Bu t (c::r):Int)+1)=(Bu t r:Int):=by
   rw[hp,Az (by unfold Bu;omega) (by unfold Bu;omega)];omega
  have Pm:Bu t (c::r)<t.size:=by
   unfold Bu;rw[FM] at hl ⊢;omega
  obtain⟨b,hb,rfl⟩:=h.at;have e:decide ((Bu t ((b.toNat:Int)::r):Int)<(t.size:Int))=true:=by simp;omega
  have e2:decide ((0:Int)<=(Bu t ((b.toNat:Int)::r):Int))=true:=by simp
  rw[←Kx (Bu t ((b.toNat:Int)::r))] at hb;have ix:Ae C0 prog fu (d+2) 27 [.sc (.string (ByteArray.mk #[(32:UInt8),(9:UInt8),(10:UInt8),(13:UInt8)])),.sc (.int .u8 (b.toNat:Int))]=some ⟨[.sc (.int .i64 (Lib.indexByte [32,9,10,13] (b.toNat:Int).toNat.toUInt8))],[]⟩:=Avk _ _;have hw:=Awi hc.1 hc.2;rw[E9];cases hq:YS (b.toNat:Int)
  ·rw[hq] at hw
   have es:Bf ((b.toNat:Int)::r)=(b.toNat:Int)::r:=by
    show (if YS _=true then _ else _)=_
    rw[hq];rfl
   rw[es];simp only[B0,e,e2,hb,ix,hw]
  ·rw[hq] at hw
   have es:Bf ((b.toNat:Int)::r)=Bf r:=by
    show (if YS _=true then _ else _)=_
    rw[hq];rfl
   rw[es];simp only[B0,e,e2,hb,ix,hw,e6,ih]
theorem P9 {t:ByteArray}{r:List Int}(h:Dg t r)(ht:t.size<=1000000)(Ei:t.size+1<=fu):Ae C0 prog fu (d+3) F0 [.pbox (Bx t r)]=some ⟨[],[Bx t (Bf r)]⟩:=by
 rw[J4];exact IV ht r fu (by have:=h.len;omega) h
theorem IH {t:ByteArray}:∀{l:List Int},Dg t l->Dg t (Kc l)
 |[],h=>h
 |c::l,h=>by
  unfold Kc;split
  ·exact IH h.tail
  ·exact h
theorem JK:∀(l:List Int),(Kc l).length<=l.length
 |[]=>Nat.le_refl _
 |c::l=>by
  unfold Kc;split
  ·exact Nat.le_succ_of_le (JK l)
  ·exact Nat.le_refl _
theorem Yz {t s0:ByteArray}{p0 y0:Int}(ht:t.size<=1000000):∀(r:List Int)(nn:Nat),r.length+1<=nn->Dg t r ->
  C5 fu (Ae C0 prog fu (d+1)) s0 p0 nn y0 t (Bu t r:Int)=some ⟨[.sc (.bool (decide ((Bu t (Kc r):Int)>y0)))],[Bx t (Kc r)]⟩
 |[],nn,Pe,h=>by
  obtain⟨k,rfl⟩:∃k,nn=k+1:=⟨nn-1,by omega⟩
  have pk:Ae C0 prog fu (d+1) 90 [.pbox (Bx t [])]=some ⟨[.sc (.int .u8 0)],[Bx t []]⟩:=M1 (xs:=xs0) h;have e:decide ((0:Int)>=48)=false:=rfl;rw[E1];simp only[B0,pk,e];rfl
 |c::r,nn,Pe,h=>by
  obtain⟨k,rfl⟩:∃k,nn=k+1:=⟨nn-1,by omega⟩
  have ih:=Yz (s0:=s0) (p0:=p0) (y0:=y0) ht r k (by simp at Pe;omega) h.tail
  have hc:=h.B c (by simp)
  have hl:=h.len;have hp:=L6 h
  have e6:wrap .i64 ((Bu t (c::r):Int)+1)=(Bu t r:Int):=by
   rw[hp,Az (by unfold Bu;omega) (by unfold Bu;omega)];omega
  have pk:Ae C0 prog fu (d+1) 90 [.pbox (Bx t (c::r))]=some ⟨[.sc (.int .u8 c)],[Bx t (c::r)]⟩:=M1 (xs:=xs0) h;have ed:Kc (c::r)=if dgS c=true then Kc r else c::r:=rfl
  rw[E1,ed];by_cases h1:48<=c
  ·have e1:decide (c>=48)=true:=by simp;omega
   by_cases h2:c<=57
   ·have e2:decide (c<=57)=true:=by simp;omega
    have e3:dgS c=true:=by simp[dgS];omega
    rw[D1 e3];simp only[B0,pk,e1,e2,e6,ih]
   ·have e2:decide (c<=57)=false:=by simp;omega
    have e3:¬dgS c=true:=by simp[dgS];omega
    rw[Dc e3];simp only[B0,pk,e1,e2]
  ·have e1:decide (c>=48)=false:=by simp;omega
   have e3:¬dgS c=true:=by simp[dgS];omega
   rw[Dc e3];simp only[B0,pk,e1]
def Avu (t:ByteArray)(r:List Int)(o:Option (List Int)):Aq:=⟨[.sc (.bool o.isSome)],[Bx t (o.getD r)]⟩
theorem Dv {t:ByteArray}{r:List Int}(h:Dg t r)(ht:t.size<=1000000)(Ei:t.size+1<=fu):Ae C0 prog fu (d+2) Fk [.pbox (Bx t r)]=some (Avu t r (Ch r)):=by
 rw[Jg];refine (Yz ht r fu (by have:=h.len;omega) h).trans ?_
 cases r with
 |nil=>
  have e:decide ((Bu t (Kc []):Int)>(Bu t []:Int))=false:=by simp[Kc]
  rw[e];rfl
 |cons c r=>
  have hl:=h.len;have hp:=L6 h;have ed:Kc (c::r)=if dgS c=true then Kc r else c::r:=rfl
  have eg:Ch (c::r)=if dgS c=true then some (Kc r) else none:=rfl
  rw[ed,eg];have hd:=JK r;by_cases q:dgS c=true
  ·rw[D1 q,D1 q]
   have e:decide ((Bu t (Kc r):Int)>(Bu t (c::r):Int))=true:=by
    rw[FM] at hl;simp only[gt_iff_lt,decide_eq_true_eq];unfold Bu;rw[FM];omega
   rw[e];rfl
  ·rw[Dc q,Dc q];have e:decide ((Bu t (c::r):Int)>(Bu t (c::r):Int))=false:=by simp
   rw[e];rfl
theorem UJ {t:ByteArray}{r:List Int}(c:UInt8)(h:Dg t r)(ht:t.size<=1000000):Ae C0 prog fu (d+3) 67 [.pbox (Bx t r),.sc (.string (ByteArray.mk #[c]))]=some (Avu t r (Av [(c.toNat:Int)] r)):=by
 have hc:=c.toNat_lt;have e:=Ra (fu:=fu) (d:=d) (xs:=xs0) h ht (w:=[(c.toNat:Int)]) (fun x hx=>by simp at hx;omega) (show 1<=100 by decide)
 have e2:Aa [(c.toNat:Int)]=ByteArray.mk #[c]:=by
  show ByteArray.mk #[((c.toNat:Int)).toNat.toUInt8]=_;rw[Kx];simp
 rw[e2] at e;refine e.trans ?_;cases Av [(c.toNat:Int)] r<;>rfl
theorem F3 (c:Int):∀r:List Int,Av [c] r=match r with|[]=>none|x::r'=>if x=c then some r' else none
 |[]=>rfl
 |x::r=>by
  unfold Av;by_cases h:x=c
  ·subst h;rw[D1 (by simp[List.isPrefixOf])]
   simp
  ·rw[Dc (by simp[List.isPrefixOf];exact fun e=>h e.symm)]
   simp[h]
theorem As {t:ByteArray}{w r r':List Int}(h:Dg t r)(e:Av w r=some r'):Dg t r':=by
 unfold Av at e;split at e
 ·cases e;exact h.drop _
 ·cases e
theorem Xv (c:Int)(r:List Int):Ah5 c r=(Av [c] r).getD r:=by
 rw[F3];cases r with
 |nil=>rfl
 |cons x r=>
  show (if x=c then r else x::r)=_
  split<;>simp_all
theorem HZ (r:List Int):Ajd r=match Av [48] r with|some q=>some q|none=>Ch r:=by
 rw[F3];cases r with
 |nil=>rfl
 |cons x r=>
  show (if x=48 then some r else Ch (x::r))=_
  by_cases h:x=48
  ·rw[D1 h];simp[h]
  ·rw[Dc h];simp[h]
theorem Up (r:List Int):FN r=match Av [46] r with|some q=>(Ch q).bind Us|none=>Us r:=by
 rw[F3];cases r with
 |nil=>rfl
 |cons x r=>
  show (if x=46 then (Ch r).bind Us else Us (x::r))=_
  by_cases h:x=46
  ·rw[D1 h];simp[h]
  ·rw[Dc h];simp[h]
def Mb (r:List Int):Option (List Int):=match Av [43] r with|some q=>Ch q|none=>Ch ((Av [45] r).getD r)
theorem Ai3 (r:List Int):(match r with|43::r'=>Ch r'|r=>Ch (Ah5 45 r))=Mb r:=by
 unfold Mb;rw[F3 43,←Xv];split
 ·simp
 ·rename_i Eo;cases r with
  |nil=>rfl
  |cons x r=>
   by_cases h:x=43
   ·exact absurd (by rw[h]) (Eo r)
   ·simp[h]
theorem Oe (r:List Int):Us r=match Av [101] r with|some q=>Mb q|none=>match Av [69] r with|some q=>Mb q|none=>some r:=by
 rw[F3,F3];cases r with
 |nil=>rfl
 |cons x r=>
  have e:Us (x::r)=if x=101∨x=69 then Mb r else some (x::r):=by
   rw[←Ai3];rfl
  rw[e];by_cases h:x=101
  ·rw[D1 (Or.inl h)];simp[h]
  ·by_cases h2:x=69
   ·rw[D1 (Or.inr h2)];simp[h2]
   ·rw[Dc (by omega)];simp[h,h2]
theorem Da {t:ByteArray}{r r':List Int}(h:Dg t r)(e:Ch r=some r'):Dg t r':=by
 cases r with
 |nil=>cases e
 |cons c r=>
  have eg:Ch (c::r)=if dgS c=true then some (Kc r) else none:=rfl
  rw[eg] at e;split at e
  ·cases e;exact IH h.tail
  ·cases e
theorem Ck {t:ByteArray}{r:List Int}{o:Option (List Int)} (h:Dg t r)(ho:∀q,o=some q->Dg t q):Dg t (o.getD r):=by
 cases o with
 |none=>exact h
 |some q=>exact ho q rfl
end
end
section
open Go.Proofs.Tryd (prog)
open Go.IntKind (wrap)
section
variable {fu d:Nat}
theorem D8 {t:ByteArray}{r:List Int}(c:UInt8)(n:Int)(hn:(c.toNat:Int)=n) (h:Dg t r)(ht:t.size<=1000000)(hq:Av [n] r=none):Ae C0 prog fu (d+3) 67 [.pbox (Bx t r),.sc (.string (ByteArray.mk #[c]))]=some ⟨[.sc (.bool false)],[Bx t r]⟩:=by
 subst hn;have e:=UJ (fu:=fu) (d:=d) c h ht;rw[hq] at e;exact e
theorem C3 {t:ByteArray}{r q:List Int}(c:UInt8)(n:Int)(hn:(c.toNat:Int)=n) (h:Dg t r)(ht:t.size<=1000000)(hq:Av [n] r=some q):Ae C0 prog fu (d+3) 67 [.pbox (Bx t r),.sc (.string (ByteArray.mk #[c]))]=some ⟨[.sc (.bool true)],[Bx t q]⟩:=by
 subst hn;have e:=UJ (fu:=fu) (d:=d) c h ht;rw[hq] at e;exact e
theorem Lr {t:ByteArray}{r:List Int}(c:UInt8)(n:Int)(hn:(c.toNat:Int)=n) (h:Dg t r)(ht:t.size<=1000000):Ae C0 prog fu (d+3) 67 [.pbox (Bx t r),.sc (.string (ByteArray.mk #[c]))]=some ⟨[.sc (.bool (Av [n] r).isSome)],[Bx t ((Av [n] r).getD r)]⟩:=by
 subst hn;exact UJ (fu:=fu) (d:=d) c h ht
set_option maxHeartbeats 2000000 in
theorem Afo {t:ByteArray}{r:List Int}(h:Dg t r)(ht:t.size<=1000000)(Ei:t.size+1<=fu):∃r',Dg t r'∧Ae C0 prog fu (d+4) Fp [.pbox (Bx t r)]=some ⟨[.sc (.bool (Fu r).isSome)],[Bx t r']⟩∧∀q,Fu r=some q->r'=q:=by
 have a0:=Lr (fu:=fu) (d:=d) 45 45 rfl h ht;have YJ:Dg t ((Av [45] r).getD r):=Ck h fun q e=>As h e
 have Wz:Fu r=(Ajd ((Av [45] r).getD r)).bind FN:=by rw[←Xv];rfl
 generalize (Av [45] r).getD r=r1 at a0 YJ Wz;generalize (Av [45] r).isSome=b0 at a0;rw[HZ] at Wz;rcases hz:Av [48] r1 with _|r2
 ·have Gi:=D8 (fu:=fu) (d:=d) 48 48 rfl YJ ht hz;rw[hz] at Wz;have SJ:=Dv (d:=d+1) YJ ht Ei;rcases hzd:Ch r1 with _|r2
  ·simp only[hzd] at SJ Wz;have Mj:Ae C0 prog fu (d+3) 107 [.pbox (Bx t r1)]=some ⟨[.sc (.bool false)],[Bx t r1]⟩:=SJ;have hn:Fu r=none:=Wz;refine⟨r1,YJ,?_,?_⟩
   ·rw[hn,Ah]
    try unfold Ac
    repeat first
     |((with_reducible first|apply A5|apply At|apply A7|apply Ax|apply A2|apply Au|apply A4|apply A6);· first|with_reducible rfl|(simp (disch:=omega) only[gT,a0,Gi,Mj,Cw,Dl]<;>first|with_reducible rfl|omega)|omega)
     |(with_reducible apply A3;· first|with_reducible rfl|(simp (disch:=omega) only[gF,a0,Gi,Mj,Cw,Dl]<;>omega))
    try simp (disch:=omega) only[a0,Gi,Mj,Cw,Dl]
    try rfl
   ·rw[hn];intro q e;cases e
  ·simp only[hzd] at SJ Wz;have Mj:Ae C0 prog fu (d+3) 107 [.pbox (Bx t r1)]=some ⟨[.sc (.bool true)],[Bx t r2]⟩:=SJ;have Uc:=Da YJ hzd;have HG:Fu r=FN r2:=Wz;rw[Up] at HG;rcases hdt:Av [46] r2 with _|r3
   ·have G4:=D8 (fu:=fu) (d:=d) 46 46 rfl Uc ht hdt;rw[hdt] at HG;have Mg:Fu r=Us r2:=HG;rw[Oe] at Mg;rcases he:Av [101] r2 with _|r5
    ·have Hh:=D8 (fu:=fu) (d:=d) 101 101 rfl Uc ht he;rw[he] at Mg;rcases hE:Av [69] r2 with _|r5
     ·have N6:=D8 (fu:=fu) (d:=d) 69 69 rfl Uc ht hE;have hn:Fu r=some r2:=by rw[Mg,hE]
      refine⟨r2,Uc,?_,?_⟩
      ·rw[hn,Ah]
       try unfold Ac
       repeat first
        |((with_reducible first|apply A5|apply At|apply A7|apply Ax|apply A2|apply Au|apply A4|apply A6);· first|with_reducible rfl|(simp (disch:=omega) only[gT,a0,Gi,Mj,G4,Hh,N6,Cw,Dl]<;>first|with_reducible rfl|omega)|omega)
        |(with_reducible apply A3;· first|with_reducible rfl|(simp (disch:=omega) only[gF,a0,Gi,Mj,G4,Hh,N6,Cw,Dl]<;>omega))
       try simp (disch:=omega) only[a0,Gi,Mj,G4,Hh,N6,Cw,Dl]
       try rfl
      ·rw[hn];intro q e;cases e;rfl
     ·have N6:=C3 (fu:=fu) (d:=d) 69 69 rfl Uc ht hE;have I4:=As Uc hE;rw[hE] at Mg;simp only at Mg;rcases hp:Av [43] r5 with _|r6
      ·have Hj:=D8 (fu:=fu) (d:=d) 43 43 rfl I4 ht hp;have Cf:=Lr (fu:=fu) (d:=d) 45 45 rfl I4 ht;have Ge:Dg t ((Av [45] r5).getD r5):=Ck I4 fun q e=>As I4 e
       have hn:Fu r=Ch ((Av [45] r5).getD r5):=by rw[Mg];unfold Mb;rw[hp]
       generalize (Av [45] r5).getD r5=r6 at Cf Ge hn;generalize (Av [45] r5).isSome=b1 at Cf;have hg:Ae C0 prog fu (d+3) 107 [.pbox (Bx t r6)]=some ⟨[.sc (.bool (Ch r6).isSome)],[Bx t ((Ch r6).getD r6)]⟩:=Dv (d:=d+1) Ge ht Ei;refine⟨(Ch r6).getD r6,Ck Ge fun q e=>Da Ge e,?_,?_⟩
       ·rw[hn,Ah]
        try unfold Ac
        repeat first
         |((with_reducible first|apply A5|apply At|apply A7|apply Ax|apply A2|apply Au|apply A4|apply A6);· first|with_reducible rfl|(simp (disch:=omega) only[gT,a0,Gi,Mj,G4,Hh,N6,Hj,Cf,hg,Cw,Dl]<;>first|with_reducible rfl|omega)|omega)
         |(with_reducible apply A3;· first|with_reducible rfl|(simp (disch:=omega) only[gF,a0,Gi,Mj,G4,Hh,N6,Hj,Cf,hg,Cw,Dl]<;>omega))
        try simp (disch:=omega) only[a0,Gi,Mj,G4,Hh,N6,Hj,Cf,hg,Cw,Dl]
        try rfl
       ·rw[hn];intro q e;rw[e];rfl
      ·have Hj:=C3 (fu:=fu) (d:=d) 43 43 rfl I4 ht hp;have Ge:=As I4 hp;have hn:Fu r=Ch r6:=by rw[Mg];unfold Mb;rw[hp]
       have hg:Ae C0 prog fu (d+3) 107 [.pbox (Bx t r6)]=some ⟨[.sc (.bool (Ch r6).isSome)],[Bx t ((Ch r6).getD r6)]⟩:=Dv (d:=d+1) Ge ht Ei;refine⟨(Ch r6).getD r6,Ck Ge fun q e=>Da Ge e,?_,?_⟩
       ·rw[hn,Ah]
        try unfold Ac
        repeat first
         |((with_reducible first|apply A5|apply At|apply A7|apply Ax|apply A2|apply Au|apply A4|apply A6);· first|with_reducible rfl|(simp (disch:=omega) only[gT,a0,Gi,Mj,G4,Hh,N6,Hj,hg,Cw,Dl]<;>first|with_reducible rfl|omega)|omega)
         |(with_reducible apply A3;· first|with_reducible rfl|(simp (disch:=omega) only[gF,a0,Gi,Mj,G4,Hh,N6,Hj,hg,Cw,Dl]<;>omega))
        try simp (disch:=omega) only[a0,Gi,Mj,G4,Hh,N6,Hj,hg,Cw,Dl]
        try rfl
       ·rw[hn];intro q e;rw[e];rfl
    ·have Hh:=C3 (fu:=fu) (d:=d) 101 101 rfl Uc ht he;have I4:=As Uc he;rw[he] at Mg;simp only at Mg;rcases hp:Av [43] r5 with _|r6
     ·have Hj:=D8 (fu:=fu) (d:=d) 43 43 rfl I4 ht hp;have Cf:=Lr (fu:=fu) (d:=d) 45 45 rfl I4 ht;have Ge:Dg t ((Av [45] r5).getD r5):=Ck I4 fun q e=>As I4 e
      have hn:Fu r=Ch ((Av [45] r5).getD r5):=by rw[Mg];unfold Mb;rw[hp]
      generalize (Av [45] r5).getD r5=r6 at Cf Ge hn;generalize (Av [45] r5).isSome=b1 at Cf;have hg:Ae C0 prog fu (d+3) 107 [.pbox (Bx t r6)]=some ⟨[.sc (.bool (Ch r6).isSome)],[Bx t ((Ch r6).getD r6)]⟩:=Dv (d:=d+1) Ge ht Ei;refine⟨(Ch r6).getD r6,Ck Ge fun q e=>Da Ge e,?_,?_⟩
      ·rw[hn,Ah]
       try unfold Ac
       repeat first
        |((with_reducible first|apply A5|apply At|apply A7|apply Ax|apply A2|apply Au|apply A4|apply A6);· first|with_reducible rfl|(simp (disch:=omega) only[gT,a0,Gi,Mj,G4,Hh,Hj,Cf,hg,Cw,Dl]<;>first|with_reducible rfl|omega)|omega)
        |(with_reducible apply A3;· first|with_reducible rfl|(simp (disch:=omega) only[gF,a0,Gi,Mj,G4,Hh,Hj,Cf,hg,Cw,Dl]<;>omega))
       try simp (disch:=omega) only[a0,Gi,Mj,G4,Hh,Hj,Cf,hg,Cw,Dl]
       try rfl
      ·rw[hn];intro q e;rw[e];rfl
     ·have Hj:=C3 (fu:=fu) (d:=d) 43 43 rfl I4 ht hp;have Ge:=As I4 hp;have hn:Fu r=Ch r6:=by rw[Mg];unfold Mb;rw[hp]
      have hg:Ae C0 prog fu (d+3) 107 [.pbox (Bx t r6)]=some ⟨[.sc (.bool (Ch r6).isSome)],[Bx t ((Ch r6).getD r6)]⟩:=Dv (d:=d+1) Ge ht Ei;refine⟨(Ch r6).getD r6,Ck Ge fun q e=>Da Ge e,?_,?_⟩
      ·rw[hn,Ah]
       try unfold Ac
       repeat first
        |((with_reducible first|apply A5|apply At|apply A7|apply Ax|apply A2|apply Au|apply A4|apply A6);· first|with_reducible rfl|(simp (disch:=omega) only[gT,a0,Gi,Mj,G4,Hh,Hj,hg,Cw,Dl]<;>first|with_reducible rfl|omega)|omega)
        |(with_reducible apply A3;· first|with_reducible rfl|(simp (disch:=omega) only[gF,a0,Gi,Mj,G4,Hh,Hj,hg,Cw,Dl]<;>omega))
       try simp (disch:=omega) only[a0,Gi,Mj,G4,Hh,Hj,hg,Cw,Dl]
       try rfl
      ·rw[hn];intro q e;rw[e];rfl
   ·have G4:=C3 (fu:=fu) (d:=d) 46 46 rfl Uc ht hdt;have hS3:=As Uc hdt;rw[hdt] at HG;have HG:Fu r=(Ch r3).bind Us:=HG;have hd1:=Dv (d:=d+1) hS3 ht Ei;rcases IP:Ch r3 with _|r4
    ·rw[IP] at hd1 HG;have Iz:Ae C0 prog fu (d+3) 107 [.pbox (Bx t r3)]=some ⟨[.sc (.bool false)],[Bx t r3]⟩:=hd1;have hn:Fu r=none:=HG;refine⟨r3,hS3,?_,?_⟩
     ·rw[hn,Ah]
      try unfold Ac
      repeat first
       |((with_reducible first|apply A5|apply At|apply A7|apply Ax|apply A2|apply Au|apply A4|apply A6);· first|with_reducible rfl|(simp (disch:=omega) only[gT,a0,Gi,Mj,G4,Iz,Cw,Dl]<;>first|with_reducible rfl|omega)|omega)
       |(with_reducible apply A3;· first|with_reducible rfl|(simp (disch:=omega) only[gF,a0,Gi,Mj,G4,Iz,Cw,Dl]<;>omega))
      try simp (disch:=omega) only[a0,Gi,Mj,G4,Iz,Cw,Dl]
      try rfl
     ·rw[hn];intro q e;cases e
    ·rw[IP] at hd1 HG;have Iz:Ae C0 prog fu (d+3) 107 [.pbox (Bx t r3)]=some ⟨[.sc (.bool true)],[Bx t r4]⟩:=hd1;have AR:=Da hS3 IP;have Mg:Fu r=Us r4:=HG;rw[Oe] at Mg;rcases he:Av [101] r4 with _|r5
     ·have Hh:=D8 (fu:=fu) (d:=d) 101 101 rfl AR ht he;rw[he] at Mg;rcases hE:Av [69] r4 with _|r5
      ·have N6:=D8 (fu:=fu) (d:=d) 69 69 rfl AR ht hE;have hn:Fu r=some r4:=by rw[Mg,hE]
       refine⟨r4,AR,?_,?_⟩
       ·rw[hn,Ah]
        try unfold Ac
        repeat first
         |((with_reducible first|apply A5|apply At|apply A7|apply Ax|apply A2|apply Au|apply A4|apply A6);· first|with_reducible rfl|(simp (disch:=omega) only[gT,a0,Gi,Mj,G4,Iz,Hh,N6,Cw,Dl]<;>first|with_reducible rfl|omega)|omega)
         |(with_reducible apply A3;· first|with_reducible rfl|(simp (disch:=omega) only[gF,a0,Gi,Mj,G4,Iz,Hh,N6,Cw,Dl]<;>omega))
        try simp (disch:=omega) only[a0,Gi,Mj,G4,Iz,Hh,N6,Cw,Dl]
        try rfl
       ·rw[hn];intro q e;cases e;rfl
      ·have N6:=C3 (fu:=fu) (d:=d) 69 69 rfl AR ht hE;have I4:=As AR hE;rw[hE] at Mg;simp only at Mg;rcases hp:Av [43] r5 with _|r6
       ·have Hj:=D8 (fu:=fu) (d:=d) 43 43 rfl I4 ht hp;have Cf:=Lr (fu:=fu) (d:=d) 45 45 rfl I4 ht;have Ge:Dg t ((Av [45] r5).getD r5):=Ck I4 fun q e=>As I4 e
        have hn:Fu r=Ch ((Av [45] r5).getD r5):=by rw[Mg];unfold Mb;rw[hp]
        generalize (Av [45] r5).getD r5=r6 at Cf Ge hn;generalize (Av [45] r5).isSome=b1 at Cf;have hg:Ae C0 prog fu (d+3) 107 [.pbox (Bx t r6)]=some ⟨[.sc (.bool (Ch r6).isSome)],[Bx t ((Ch r6).getD r6)]⟩:=Dv (d:=d+1) Ge ht Ei;refine⟨(Ch r6).getD r6,Ck Ge fun q e=>Da Ge e,?_,?_⟩
        ·rw[hn,Ah]
         try unfold Ac
         repeat first
          |((with_reducible first|apply A5|apply At|apply A7|apply Ax|apply A2|apply Au|apply A4|apply A6);· first|with_reducible rfl|(simp (disch:=omega) only[gT,a0,Gi,Mj,G4,Iz,Hh,N6,Hj,Cf,hg,Cw,Dl]<;>first|with_reducible rfl|omega)|omega)
          |(with_reducible apply A3;· first|with_reducible rfl|(simp (disch:=omega) only[gF,a0,Gi,Mj,G4,Iz,Hh,N6,Hj,Cf,hg,Cw,Dl]<;>omega))
         try simp (disch:=omega) only[a0,Gi,Mj,G4,Iz,Hh,N6,Hj,Cf,hg,Cw,Dl]
         try rfl
        ·rw[hn];intro q e;rw[e];rfl
       ·have Hj:=C3 (fu:=fu) (d:=d) 43 43 rfl I4 ht hp;have Ge:=As I4 hp;have hn:Fu r=Ch r6:=by rw[Mg];unfold Mb;rw[hp]
        have hg:Ae C0 prog fu (d+3) 107 [.pbox (Bx t r6)]=some ⟨[.sc (.bool (Ch r6).isSome)],[Bx t ((Ch r6).getD r6)]⟩:=Dv (d:=d+1) Ge ht Ei;refine⟨(Ch r6).getD r6,Ck Ge fun q e=>Da Ge e,?_,?_⟩
        ·rw[hn,Ah]
         try unfold Ac
         repeat first
          |((with_reducible first|apply A5|apply At|apply A7|apply Ax|apply A2|apply Au|apply A4|apply A6);· first|with_reducible rfl|(simp (disch:=omega) only[gT,a0,Gi,Mj,G4,Iz,Hh,N6,Hj,hg,Cw,Dl]<;>first|with_reducible rfl|omega)|omega)
          |(with_reducible apply A3;· first|with_reducible rfl|(simp (disch:=omega) only[gF,a0,Gi,Mj,G4,Iz,Hh,N6,Hj,hg,Cw,Dl]<;>omega))
         try simp (disch:=omega) only[a0,Gi,Mj,G4,Iz,Hh,N6,Hj,hg,Cw,Dl]
         try rfl
        ·rw[hn];intro q e;rw[e];rfl
     ·have Hh:=C3 (fu:=fu) (d:=d) 101 101 rfl AR ht he;have I4:=As AR he;rw[he] at Mg;simp only at Mg;rcases hp:Av [43] r5 with _|r6
      ·have Hj:=D8 (fu:=fu) (d:=d) 43 43 rfl I4 ht hp;have Cf:=Lr (fu:=fu) (d:=d) 45 45 rfl I4 ht;have Ge:Dg t ((Av [45] r5).getD r5):=Ck I4 fun q e=>As I4 e
       have hn:Fu r=Ch ((Av [45] r5).getD r5):=by rw[Mg];unfold Mb;rw[hp]
       generalize (Av [45] r5).getD r5=r6 at Cf Ge hn;generalize (Av [45] r5).isSome=b1 at Cf;have hg:Ae C0 prog fu (d+3) 107 [.pbox (Bx t r6)]=some ⟨[.sc (.bool (Ch r6).isSome)],[Bx t ((Ch r6).getD r6)]⟩:=Dv (d:=d+1) Ge ht Ei;refine⟨(Ch r6).getD r6,Ck Ge fun q e=>Da Ge e,?_,?_⟩
       ·rw[hn,Ah]
        try unfold Ac
        repeat first
         |((with_reducible first|apply A5|apply At|apply A7|apply Ax|apply A2|apply Au|apply A4|apply A6);· first|with_reducible rfl|(simp (disch:=omega) only[gT,a0,Gi,Mj,G4,Iz,Hh,Hj,Cf,hg,Cw,Dl]<;>first|with_reducible rfl|omega)|omega)
         |(with_reducible apply A3;· first|with_reducible rfl|(simp (disch:=omega) only[gF,a0,Gi,Mj,G4,Iz,Hh,Hj,Cf,hg,Cw,Dl]<;>omega))
        try simp (disch:=omega) only[a0,Gi,Mj,G4,Iz,Hh,Hj,Cf,hg,Cw,Dl]
        try rfl
       ·rw[hn];intro q e;rw[e];rfl
      ·have Hj:=C3 (fu:=fu) (d:=d) 43 43 rfl I4 ht hp;have Ge:=As I4 hp;have hn:Fu r=Ch r6:=by rw[Mg];unfold Mb;rw[hp]
       have hg:Ae C0 prog fu (d+3) 107 [.pbox (Bx t r6)]=some ⟨[.sc (.bool (Ch r6).isSome)],[Bx t ((Ch r6).getD r6)]⟩:=Dv (d:=d+1) Ge ht Ei;refine⟨(Ch r6).getD r6,Ck Ge fun q e=>Da Ge e,?_,?_⟩
       ·rw[hn,Ah]
        try unfold Ac
        repeat first
         |((with_reducible first|apply A5|apply At|apply A7|apply Ax|apply A2|apply Au|apply A4|apply A6);· first|with_reducible rfl|(simp (disch:=omega) only[gT,a0,Gi,Mj,G4,Iz,Hh,Hj,hg,Cw,Dl]<;>first|with_reducible rfl|omega)|omega)
         |(with_reducible apply A3;· first|with_reducible rfl|(simp (disch:=omega) only[gF,a0,Gi,Mj,G4,Iz,Hh,Hj,hg,Cw,Dl]<;>omega))
        try simp (disch:=omega) only[a0,Gi,Mj,G4,Iz,Hh,Hj,hg,Cw,Dl]
        try rfl
       ·rw[hn];intro q e;rw[e];rfl
 ·have Gi:=C3 (fu:=fu) (d:=d) 48 48 rfl YJ ht hz;rw[hz] at Wz;have Uc:=As YJ hz;have HG:Fu r=FN r2:=Wz;rw[Up] at HG;rcases hdt:Av [46] r2 with _|r3
  ·have G4:=D8 (fu:=fu) (d:=d) 46 46 rfl Uc ht hdt;rw[hdt] at HG;have Mg:Fu r=Us r2:=HG;rw[Oe] at Mg;rcases he:Av [101] r2 with _|r5
   ·have Hh:=D8 (fu:=fu) (d:=d) 101 101 rfl Uc ht he;rw[he] at Mg;rcases hE:Av [69] r2 with _|r5
    ·have N6:=D8 (fu:=fu) (d:=d) 69 69 rfl Uc ht hE;have hn:Fu r=some r2:=by rw[Mg,hE]
     refine⟨r2,Uc,?_,?_⟩
     ·rw[hn,Ah]
      try unfold Ac
      repeat first
       |((with_reducible first|apply A5|apply At|apply A7|apply Ax|apply A2|apply Au|apply A4|apply A6);· first|with_reducible rfl|(simp (disch:=omega) only[gT,a0,Gi,G4,Hh,N6,Cw,Dl]<;>first|with_reducible rfl|omega)|omega)
       |(with_reducible apply A3;· first|with_reducible rfl|(simp (disch:=omega) only[gF,a0,Gi,G4,Hh,N6,Cw,Dl]<;>omega))
      try simp (disch:=omega) only[a0,Gi,G4,Hh,N6,Cw,Dl]
      try rfl
     ·rw[hn];intro q e;cases e;rfl
    ·have N6:=C3 (fu:=fu) (d:=d) 69 69 rfl Uc ht hE;have I4:=As Uc hE;rw[hE] at Mg;simp only at Mg;rcases hp:Av [43] r5 with _|r6
     ·have Hj:=D8 (fu:=fu) (d:=d) 43 43 rfl I4 ht hp;have Cf:=Lr (fu:=fu) (d:=d) 45 45 rfl I4 ht;have Ge:Dg t ((Av [45] r5).getD r5):=Ck I4 fun q e=>As I4 e
      have hn:Fu r=Ch ((Av [45] r5).getD r5):=by rw[Mg];unfold Mb;rw[hp]
      generalize (Av [45] r5).getD r5=r6 at Cf Ge hn;generalize (Av [45] r5).isSome=b1 at Cf;have hg:Ae C0 prog fu (d+3) 107 [.pbox (Bx t r6)]=some ⟨[.sc (.bool (Ch r6).isSome)],[Bx t ((Ch r6).getD r6)]⟩:=Dv (d:=d+1) Ge ht Ei;refine⟨(Ch r6).getD r6,Ck Ge fun q e=>Da Ge e,?_,?_⟩
      ·rw[hn,Ah]
       try unfold Ac
       repeat first
        |((with_reducible first|apply A5|apply At|apply A7|apply Ax|apply A2|apply Au|apply A4|apply A6);· first|with_reducible rfl|(simp (disch:=omega) only[gT,a0,Gi,G4,Hh,N6,Hj,Cf,hg,Cw,Dl]<;>first|with_reducible rfl|omega)|omega)
        |(with_reducible apply A3;· first|with_reducible rfl|(simp (disch:=omega) only[gF,a0,Gi,G4,Hh,N6,Hj,Cf,hg,Cw,Dl]<;>omega))
       try simp (disch:=omega) only[a0,Gi,G4,Hh,N6,Hj,Cf,hg,Cw,Dl]
       try rfl
      ·rw[hn];intro q e;rw[e];rfl
     ·have Hj:=C3 (fu:=fu) (d:=d) 43 43 rfl I4 ht hp;have Ge:=As I4 hp;have hn:Fu r=Ch r6:=by rw[Mg];unfold Mb;rw[hp]
      have hg:Ae C0 prog fu (d+3) 107 [.pbox (Bx t r6)]=some ⟨[.sc (.bool (Ch r6).isSome)],[Bx t ((Ch r6).getD r6)]⟩:=Dv (d:=d+1) Ge ht Ei;refine⟨(Ch r6).getD r6,Ck Ge fun q e=>Da Ge e,?_,?_⟩
      ·rw[hn,Ah]
       try unfold Ac
       repeat first
        |((with_reducible first|apply A5|apply At|apply A7|apply Ax|apply A2|apply Au|apply A4|apply A6);· first|with_reducible rfl|(simp (disch:=omega) only[gT,a0,Gi,G4,Hh,N6,Hj,hg,Cw,Dl]<;>first|with_reducible rfl|omega)|omega)
        |(with_reducible apply A3;· first|with_reducible rfl|(simp (disch:=omega) only[gF,a0,Gi,G4,Hh,N6,Hj,hg,Cw,Dl]<;>omega))
       try simp (disch:=omega) only[a0,Gi,G4,Hh,N6,Hj,hg,Cw,Dl]
       try rfl
      ·rw[hn];intro q e;rw[e];rfl
   ·have Hh:=C3 (fu:=fu) (d:=d) 101 101 rfl Uc ht he;have I4:=As Uc he;rw[he] at Mg;simp only at Mg;rcases hp:Av [43] r5 with _|r6
    ·have Hj:=D8 (fu:=fu) (d:=d) 43 43 rfl I4 ht hp;have Cf:=Lr (fu:=fu) (d:=d) 45 45 rfl I4 ht;have Ge:Dg t ((Av [45] r5).getD r5):=Ck I4 fun q e=>As I4 e
     have hn:Fu r=Ch ((Av [45] r5).getD r5):=by rw[Mg];unfold Mb;rw[hp]
     generalize (Av [45] r5).getD r5=r6 at Cf Ge hn;generalize (Av [45] r5).isSome=b1 at Cf;have hg:Ae C0 prog fu (d+3) 107 [.pbox (Bx t r6)]=some ⟨[.sc (.bool (Ch r6).isSome)],[Bx t ((Ch r6).getD r6)]⟩:=Dv (d:=d+1) Ge ht Ei;refine⟨(Ch r6).getD r6,Ck Ge fun q e=>Da Ge e,?_,?_⟩
     ·rw[hn,Ah]
      try unfold Ac
      repeat first
       |((with_reducible first|apply A5|apply At|apply A7|apply Ax|apply A2|apply Au|apply A4|apply A6);· first|with_reducible rfl|(simp (disch:=omega) only[gT,a0,Gi,G4,Hh,Hj,Cf,hg,Cw,Dl]<;>first|with_reducible rfl|omega)|omega)
       |(with_reducible apply A3;· first|with_reducible rfl|(simp (disch:=omega) only[gF,a0,Gi,G4,Hh,Hj,Cf,hg,Cw,Dl]<;>omega))
      try simp (disch:=omega) only[a0,Gi,G4,Hh,Hj,Cf,hg,Cw,Dl]
      try rfl
     ·rw[hn];intro q e;rw[e];rfl
    ·have Hj:=C3 (fu:=fu) (d:=d) 43 43 rfl I4 ht hp;have Ge:=As I4 hp;have hn:Fu r=Ch r6:=by rw[Mg];unfold Mb;rw[hp]
     have hg:Ae C0 prog fu (d+3) 107 [.pbox (Bx t r6)]=some ⟨[.sc (.bool (Ch r6).isSome)],[Bx t ((Ch r6).getD r6)]⟩:=Dv (d:=d+1) Ge ht Ei;refine⟨(Ch r6).getD r6,Ck Ge fun q e=>Da Ge e,?_,?_⟩
     ·rw[hn,Ah]
      try unfold Ac
      repeat first
       |((with_reducible first|apply A5|apply At|apply A7|apply Ax|apply A2|apply Au|apply A4|apply A6);· first|with_reducible rfl|(simp (disch:=omega) only[gT,a0,Gi,G4,Hh,Hj,hg,Cw,Dl]<;>first|with_reducible rfl|omega)|omega)
       |(with_reducible apply A3;· first|with_reducible rfl|(simp (disch:=omega) only[gF,a0,Gi,G4,Hh,Hj,hg,Cw,Dl]<;>omega))
      try simp (disch:=omega) only[a0,Gi,G4,Hh,Hj,hg,Cw,Dl]
      try rfl
     ·rw[hn];intro q e;rw[e];rfl
  ·have G4:=C3 (fu:=fu) (d:=d) 46 46 rfl Uc ht hdt;have hS3:=As Uc hdt;rw[hdt] at HG;have HG:Fu r=(Ch r3).bind Us:=HG;have hd1:=Dv (d:=d+1) hS3 ht Ei;rcases IP:Ch r3 with _|r4
   ·rw[IP] at hd1 HG;have Iz:Ae C0 prog fu (d+3) 107 [.pbox (Bx t r3)]=some ⟨[.sc (.bool false)],[Bx t r3]⟩:=hd1;have hn:Fu r=none:=HG;refine⟨r3,hS3,?_,?_⟩
    ·rw[hn,Ah]
     try unfold Ac
     repeat first
      |((with_reducible first|apply A5|apply At|apply A7|apply Ax|apply A2|apply Au|apply A4|apply A6);· first|with_reducible rfl|(simp (disch:=omega) only[gT,a0,Gi,G4,Iz,Cw,Dl]<;>first|with_reducible rfl|omega)|omega)
      |(with_reducible apply A3;· first|with_reducible rfl|(simp (disch:=omega) only[gF,a0,Gi,G4,Iz,Cw,Dl]<;>omega))
     try simp (disch:=omega) only[a0,Gi,G4,Iz,Cw,Dl]
     try rfl
    ·rw[hn];intro q e;cases e
   ·rw[IP] at hd1 HG;have Iz:Ae C0 prog fu (d+3) 107 [.pbox (Bx t r3)]=some ⟨[.sc (.bool true)],[Bx t r4]⟩:=hd1;have AR:=Da hS3 IP;have Mg:Fu r=Us r4:=HG;rw[Oe] at Mg;rcases he:Av [101] r4 with _|r5
    ·have Hh:=D8 (fu:=fu) (d:=d) 101 101 rfl AR ht he;rw[he] at Mg;rcases hE:Av [69] r4 with _|r5
     ·have N6:=D8 (fu:=fu) (d:=d) 69 69 rfl AR ht hE;have hn:Fu r=some r4:=by rw[Mg,hE]
      refine⟨r4,AR,?_,?_⟩
      ·rw[hn,Ah]
       try unfold Ac
       repeat first
        |((with_reducible first|apply A5|apply At|apply A7|apply Ax|apply A2|apply Au|apply A4|apply A6);· first|with_reducible rfl|(simp (disch:=omega) only[gT,a0,Gi,G4,Iz,Hh,N6,Cw,Dl]<;>first|with_reducible rfl|omega)|omega)
        |(with_reducible apply A3;· first|with_reducible rfl|(simp (disch:=omega) only[gF,a0,Gi,G4,Iz,Hh,N6,Cw,Dl]<;>omega))
       try simp (disch:=omega) only[a0,Gi,G4,Iz,Hh,N6,Cw,Dl]
       try rfl
      ·rw[hn];intro q e;cases e;rfl
     ·have N6:=C3 (fu:=fu) (d:=d) 69 69 rfl AR ht hE;have I4:=As AR hE;rw[hE] at Mg;simp only at Mg;rcases hp:Av [43] r5 with _|r6
      ·have Hj:=D8 (fu:=fu) (d:=d) 43 43 rfl I4 ht hp;have Cf:=Lr (fu:=fu) (d:=d) 45 45 rfl I4 ht;have Ge:Dg t ((Av [45] r5).getD r5):=Ck I4 fun q e=>As I4 e
       have hn:Fu r=Ch ((Av [45] r5).getD r5):=by rw[Mg];unfold Mb;rw[hp]
       generalize (Av [45] r5).getD r5=r6 at Cf Ge hn;generalize (Av [45] r5).isSome=b1 at Cf;have hg:Ae C0 prog fu (d+3) 107 [.pbox (Bx t r6)]=some ⟨[.sc (.bool (Ch r6).isSome)],[Bx t ((Ch r6).getD r6)]⟩:=Dv (d:=d+1) Ge ht Ei;refine⟨(Ch r6).getD r6,Ck Ge fun q e=>Da Ge e,?_,?_⟩
       ·rw[hn,Ah]
        try unfold Ac
        repeat first
         |((with_reducible first|apply A5|apply At|apply A7|apply Ax|apply A2|apply Au|apply A4|apply A6);· first|with_reducible rfl|(simp (disch:=omega) only[gT,a0,Gi,G4,Iz,Hh,N6,Hj,Cf,hg,Cw,Dl]<;>first|with_reducible rfl|omega)|omega)
         |(with_reducible apply A3;· first|with_reducible rfl|(simp (disch:=omega) only[gF,a0,Gi,G4,Iz,Hh,N6,Hj,Cf,hg,Cw,Dl]<;>omega))
        try simp (disch:=omega) only[a0,Gi,G4,Iz,Hh,N6,Hj,Cf,hg,Cw,Dl]
        try rfl
       ·rw[hn];intro q e;rw[e];rfl
      ·have Hj:=C3 (fu:=fu) (d:=d) 43 43 rfl I4 ht hp;have Ge:=As I4 hp;have hn:Fu r=Ch r6:=by rw[Mg];unfold Mb;rw[hp]
       have hg:Ae C0 prog fu (d+3) 107 [.pbox (Bx t r6)]=some ⟨[.sc (.bool (Ch r6).isSome)],[Bx t ((Ch r6).getD r6)]⟩:=Dv (d:=d+1) Ge ht Ei;refine⟨(Ch r6).getD r6,Ck Ge fun q e=>Da Ge e,?_,?_⟩
       ·rw[hn,Ah]
        try unfold Ac
        repeat first
         |((with_reducible first|apply A5|apply At|apply A7|apply Ax|apply A2|apply Au|apply A4|apply A6);· first|with_reducible rfl|(simp (disch:=omega) only[gT,a0,Gi,G4,Iz,Hh,N6,Hj,hg,Cw,Dl]<;>first|with_reducible rfl|omega)|omega)
         |(with_reducible apply A3;· first|with_reducible rfl|(simp (disch:=omega) only[gF,a0,Gi,G4,Iz,Hh,N6,Hj,hg,Cw,Dl]<;>omega))
        try simp (disch:=omega) only[a0,Gi,G4,Iz,Hh,N6,Hj,hg,Cw,Dl]
        try rfl
       ·rw[hn];intro q e;rw[e];rfl
    ·have Hh:=C3 (fu:=fu) (d:=d) 101 101 rfl AR ht he;have I4:=As AR he;rw[he] at Mg;simp only at Mg;rcases hp:Av [43] r5 with _|r6
     ·have Hj:=D8 (fu:=fu) (d:=d) 43 43 rfl I4 ht hp;have Cf:=Lr (fu:=fu) (d:=d) 45 45 rfl I4 ht;have Ge:Dg t ((Av [45] r5).getD r5):=Ck I4 fun q e=>As I4 e
      have hn:Fu r=Ch ((Av [45] r5).getD r5):=by rw[Mg];unfold Mb;rw[hp]
      generalize (Av [45] r5).getD r5=r6 at Cf Ge hn;generalize (Av [45] r5).isSome=b1 at Cf;have hg:Ae C0 prog fu (d+3) 107 [.pbox (Bx t r6)]=some ⟨[.sc (.bool (Ch r6).isSome)],[Bx t ((Ch r6).getD r6)]⟩:=Dv (d:=d+1) Ge ht Ei;refine⟨(Ch r6).getD r6,Ck Ge fun q e=>Da Ge e,?_,?_⟩
      ·rw[hn,Ah]
       try unfold Ac
       repeat first
        |((with_reducible first|apply A5|apply At|apply A7|apply Ax|apply A2|apply Au|apply A4|apply A6);· first|with_reducible rfl|(simp (disch:=omega) only[gT,a0,Gi,G4,Iz,Hh,Hj,Cf,hg,Cw,Dl]<;>first|with_reducible rfl|omega)|omega)
        |(with_reducible apply A3;· first|with_reducible rfl|(simp (disch:=omega) only[gF,a0,Gi,G4,Iz,Hh,Hj,Cf,hg,Cw,Dl]<;>omega))
       try simp (disch:=omega) only[a0,Gi,G4,Iz,Hh,Hj,Cf,hg,Cw,Dl]
       try rfl
      ·rw[hn];intro q e;rw[e];rfl
     ·have Hj:=C3 (fu:=fu) (d:=d) 43 43 rfl I4 ht hp;have Ge:=As I4 hp;have hn:Fu r=Ch r6:=by rw[Mg];unfold Mb;rw[hp]
      have hg:Ae C0 prog fu (d+3) 107 [.pbox (Bx t r6)]=some ⟨[.sc (.bool (Ch r6).isSome)],[Bx t ((Ch r6).getD r6)]⟩:=Dv (d:=d+1) Ge ht Ei;refine⟨(Ch r6).getD r6,Ck Ge fun q e=>Da Ge e,?_,?_⟩
      ·rw[hn,Ah]
       try unfold Ac
       repeat first
        |((with_reducible first|apply A5|apply At|apply A7|apply Ax|apply A2|apply Au|apply A4|apply A6);· first|with_reducible rfl|(simp (disch:=omega) only[gT,a0,Gi,G4,Iz,Hh,Hj,hg,Cw,Dl]<;>first|with_reducible rfl|omega)|omega)
        |(with_reducible apply A3;· first|with_reducible rfl|(simp (disch:=omega) only[gF,a0,Gi,G4,Iz,Hh,Hj,hg,Cw,Dl]<;>omega))
       try simp (disch:=omega) only[a0,Gi,G4,Iz,Hh,Hj,hg,Cw,Dl]
       try rfl
      ·rw[hn];intro q e;rw[e];rfl
end
end
section
open Go.Proofs.Tryd (prog)
open Go.IntKind (wrap)
theorem Dg.trans {t:ByteArray}{r q:List Int}(h:Dg t r)(k:Dg (Aa r) q):Dg t q:=by
 obtain⟨pre,k⟩:=k;rw[Co h.B] at k;rw[k] at h;exact h.app
theorem Dg.self {l:List Int}(h:Ct l):Dg (Aa l) l:=⟨[],by rw[Co h];rfl⟩
theorem Dg.le {l q:List Int}(h:Dg (Aa l) q):q.length<=l.length:=by
 have:=h.len
 rwa [Af] at this
def UR (t:ByteArray)(l:List Int)(x:JR (JV × List Int)) (res:Aq):Prop:=
 match x with
 |.ok (v,q)=>Dg (Aa l) q∧res=⟨[.agg [.sc (.int .i64 v.1),.sc (.string (Aa v.2.1)),.sc (.bool v.2.2)],.sc (.int .i64 0)],[Bx t q]⟩
 |.error e=>e≠0∧∃c1 c2 c3 q,Dg t q∧res=⟨[.agg [.sc (.int .i64 c1),.sc (.string c2),.sc (.bool c3)],.sc (.int .i64 e)],[Bx t q]⟩
def At0 (t:ByteArray)(l:List Int)(x:JR (List Int)) (res:Aq):Prop:=
 match x with
 |.ok q=>Dg (Aa l) q∧res=⟨[.sc (.int .i64 0)],[Bx t q]⟩
 |.error e=>e≠0∧∃q,Dg t q∧res=⟨[.sc (.int .i64 e)],[Bx t q]⟩
theorem Aem {α:Type}(a b:Int)(Ny:a≠b)(A B:List Int->α)(C:α)(x:List Int):
  (match Av [a] x with|some r=>A r|none=>match Av [b] x with|some r=>B r|none=>C)=(match x with|[]=>C|y::r=>if y=a then A r else if y=b then B r else C):=by
 rw[F3,F3];cases x with
 |nil=>rfl
 |cons y r=>
  by_cases h:y=a
  ·simp[h]
  ·by_cases h2:y=b
   ·subst h2;simp[h]
   ·simp[h,h2]
theorem Ae0 (V:List Int->JR (JV × List Int)) (n:Nat)(l:List Int):LO V (n+1) l=match V l with
  |.error e=>.error e
  |.ok (_,r)=>match Av [93] (Bf r) with
   |some r'=>.ok r'
   |none=>match Av [44] (Bf r) with
    |some r'=>LO V n (Bf r')
    |none=>.error 2:=by
 show (match V l with | .error e=>_ | .ok (_,r)=>_)=_
 cases V l with
 |error e=>rfl
 |ok x=>
  obtain⟨v,r⟩:=x;simp only;rw[Aem 93 44 (by decide) (fun r'=>Except.ok r') (fun r'=>LO V n (Bf r')) (Except.error 2)]
  cases Bf r with
  |nil=>rfl
  |cons y r=>
   by_cases h:y=93
   ·subst h;rfl
   ·by_cases h2:y=44
    ·subst h2;rfl
    ·simp only[Dc h,Dc h2];split
     ·rename_i e;injection e with e1 _;exact absurd e1 h
     ·rename_i e;injection e with e1 _;exact absurd e1 h2
     ·rfl
section
variable {fu d:Nat}
theorem Adx {t s0:ByteArray}{p0 D0 D:Int}(ht:t.size<=1000000)(Ei:t.size+1<=fu)(V:List Int->JR (JV × List Int)) (HV:∀r,Dg t r->∃res,Ae C0 prog fu (d+3) 69 [.pbox (Bx t r),.sc (.int .i64 D)]=some res∧UR t r (V r) res):∀(n nn:Nat)(l:List Int),l.length+1<=n->l.length+1<=nn->Dg t l ->
  ∃res,Dd fu (Ae C0 prog fu (d+3)) s0 p0 D0 nn D t (Bu t l:Int)=some res∧At0 t l (LO V n l) res:=by
 intro n
 induction n with
 |zero=>intro nn l h1;omega
 |succ n ih=>
  intro nn l hn Pe h;obtain⟨k,rfl⟩:∃k,nn=k+1:=⟨nn-1,by omega⟩
  obtain⟨rv,ev,hv⟩:=HV l h;rw[Ae0,Iu];cases hV:V l with
  |error e=>
   rw[hV] at hv;obtain⟨he,c1,c2,c3,q,hq,rfl⟩:=hv;have hb:(e != (0:Int))=true:=by simp[he]
   refine⟨⟨[.sc (.int .i64 e)],[Bx t q]⟩,?_,he,q,hq,rfl⟩
   try unfold Ac
   repeat first
    |((with_reducible first|apply A5|apply At|apply A7|apply Ax|apply A2|apply K3|apply Au|apply A4|apply A6);· first|with_reducible rfl|(simp (disch:=omega) only[gT,ev,hb]<;>first|with_reducible rfl|omega)|omega)
    |(with_reducible apply A3;· first|with_reducible rfl|(simp (disch:=omega) only[gF,ev,hb]<;>omega))
   try simp (disch:=omega) only[ev,hb]
  |ok x=>
   obtain⟨v,q⟩:=x;rw[hV] at hv;obtain⟨hq,rfl⟩:=hv;have hqt:=h.trans hq;have hs:=P9 (fu:=fu) (d:=d) hqt ht Ei;have Tg:Ae C0 prog fu (d+3) 50 [.pbox (Bx t q)]=some ⟨[],[Bx t (Bf q)]⟩:=hs;have hqs:=Br hqt;have Atn:=Br hq;have hb:((0:Int) != (0:Int))=false:=rfl;simp only;cases h1:Av [93] (Bf q) with
   |some r'=>
    have a1:=C3 (fu:=fu) (d:=d) 93 93 rfl hqs ht h1;refine⟨⟨[.sc (.int .i64 0)],[Bx t r']⟩,?_,As Atn h1,rfl⟩
    try unfold Ac
    repeat first
     |((with_reducible first|apply A5|apply At|apply A7|apply Ax|apply A2|apply K3|apply Au|apply A4|apply A6);· first|with_reducible rfl|(simp (disch:=omega) only[gT,ev,hb,Tg,a1]<;>first|with_reducible rfl|omega)|omega)
     |(with_reducible apply A3;· first|with_reducible rfl|(simp (disch:=omega) only[gF,ev,hb,Tg,a1]<;>omega))
    try simp (disch:=omega) only[ev,hb,Tg,a1]
   |none=>
    have a1:=D8 (fu:=fu) (d:=d) 93 93 rfl hqs ht h1;cases h2:Av [44] (Bf q) with
    |none=>
     have a2:=D8 (fu:=fu) (d:=d) 44 44 rfl hqs ht h2;refine⟨⟨[.sc (.int .i64 2)],[Bx t (Bf q)]⟩,?_,by decide,Bf q,hqs,rfl⟩
     try unfold Ac
     repeat first
      |((with_reducible first|apply A5|apply At|apply A7|apply Ax|apply A2|apply K3|apply Au|apply A4|apply A6);· first|with_reducible rfl|(simp (disch:=omega) only[gT,ev,hb,Tg,a1,a2,Dl]<;>first|with_reducible rfl|omega)|omega)
      |(with_reducible apply A3;· first|with_reducible rfl|(simp (disch:=omega) only[gF,ev,hb,Tg,a1,a2,Dl]<;>omega))
     try simp (disch:=omega) only[ev,hb,Tg,a1,a2,Dl]
    |some r'=>
     have a2:=C3 (fu:=fu) (d:=d) 44 44 rfl hqs ht h2;have hr:=As hqs h2;have JU:=As Atn h2;have NV:Ae C0 prog fu (d+3) 50 [.pbox (Bx t r')]=some ⟨[],[Bx t (Bf r')]⟩:=P9 (fu:=fu) (d:=d) hr ht Ei
     have hlr:(Bf r').length+1<=l.length:=by
      have e1:=hq.le;have e2:=Rd q;have e3:=Rd r'
      have e4:r'.length+1<=(Bf q).length:=by
       rw[F3] at h2
       revert h2
       cases Bf q with
       |nil=>intro h2;cases h2
       |cons y s=>
        intro h2;simp only at h2;split at h2
        ·cases h2;simp
        ·cases h2
      omega
     obtain⟨res,e5,h5⟩:=ih k (Bf r') (by omega) (by omega) (Br hr)
     refine⟨res,?_,?_⟩
     ·skip
      try unfold Ac
      repeat first
       |((with_reducible first|apply A5|apply At|apply A7|apply Ax|apply A2|apply K3|apply Au|apply A4|apply A6);· first|with_reducible rfl|(simp (disch:=omega) only[gT,ev,hb,Tg,a1,a2,NV,Cw]<;>first|with_reducible rfl|omega)|omega)
       |(with_reducible apply A3;· first|with_reducible rfl|(simp (disch:=omega) only[gF,ev,hb,Tg,a1,a2,NV,Cw]<;>omega))
      try simp (disch:=omega) only[ev,hb,Tg,a1,a2,NV,Cw]
      exact e5
     ·simp only;have hup:Dg (Aa l) (Bf r'):=Br JU
      revert h5
      cases LO V n (Bf r') with
      |error e=>exact id
      |ok q2=>exact fun h5=>⟨hup.trans h5.1,h5.2⟩
end
end
section
open Go.Proofs.Tryd (prog)
open Go.IntKind (wrap)
set_option maxRecDepth 100000
theorem RE {c:Int}{x r:List Int}(h:Av [c] x=some r):r.length+1<=x.length:=by
 rw[F3] at h
 revert h
 cases x with
 |nil=>intro h;cases h
 |cons y s=>
  intro h;simp only at h;split at h
  ·cases h;simp
  ·cases h
theorem BZ (V:List Int->JR (JV × List Int)) (kp:Bool)(n:Nat)(ms:List (List Int × JV)) (l:List Int):S7 V kp (n+1) ms l=match E5 l with
  |(none,_)=>.error 2
  |(some nm,r)=>if (kp&&ms.any fun m=>m.1==nm)=true then .error 10 else match Av [58] (Bf r) with
   |none=>.error 2
   |some r1=>match V (Bf r1) with
    |.error e=>.error e
    |.ok (v,r2)=>match Av [125] (Bf r2) with
     |some r3=>.ok (ms++[(nm,v)],r3)
     |none=>match Av [44] (Bf r2) with
      |some r3=>S7 V kp n (ms++[(nm,v)]) (Bf r3)
      |none=>.error 2:=by
 show (match Apq V (fun nm=>kp&&ms.any fun m=>m.1==nm) l with | .error e=>_ | .ok (m,r)=>_)=_
 unfold Apq KD;rcases E5 l with⟨o,r⟩;cases o with
 |none=>rfl
 |some nm=>
  simp only;by_cases hd:(kp&&ms.any fun m=>m.1==nm)=true
  rotate_left
  ·simp only[Dc hd];rw[F3];cases Bf r with
   |nil=>rfl
   |cons y s=>
    by_cases h:y=58
    ·subst h;simp only[if_true];cases V (Bf s) with
     |error e=>rfl
     |ok x=>
      obtain⟨v,r2⟩:=x;simp only;rw[F3,F3];cases Bf r2 with
      |nil=>rfl
      |cons y s=>
       by_cases h:y=125
       ·subst h;simp
       ·by_cases h2:y=44
        ·subst h2;simp
        ·simp only[Dc h,Dc h2];split
         ·rename_i e;injection e with e1 _;exact absurd e1 h
         ·rename_i e;injection e with e1 _;exact absurd e1 h2
         ·rfl
    ·simp only[Dc h];split
     ·rename_i e;split at e
      ·rename_i e2;injection e2 with e1 _;exact absurd e1 h
      ·cases e;rfl
     ·rename_i e;split at e
      ·rename_i e2;injection e2 with e1 _;exact absurd e1 h
      ·cases e
  ·simp only[D1 hd]
def Awj {α:Type}(t:ByteArray)(l:List Int)(x:JR (α × List Int)) (res:Aq):Prop:=
 match x with
 |.ok (_,q)=>Dg (Aa l) q∧res=⟨[.sc (.int .i64 0)],[Bx t q]⟩
 |.error e=>e≠0∧∃q,Dg t q∧res=⟨[.sc (.int .i64 e)],[Bx t q]⟩
section
variable {fu d:Nat}
theorem Ame {t:ByteArray}{r:List Int}(h:Dg t r)(ht:t.size<=1000000):Ae C0 prog fu (d+1) 68 [.pbox (Bx t r)]=some ⟨[.sc (.string (Aa ((E5 r).1.getD []))),.sc (.bool (E5 r).1.isSome)],[Bx t (E5 r).2]⟩:=by
 have e0:Ae C0 prog fu (d+1) 68 [.pbox (Bx t r)]=Ag4 [.pbox (Bx t r)]:=rfl;have hl:=h.len
 have e1:(decide ((0:Int)<=(Bu t r:Int))&&decide ((Bu t r:Int)<=t.size)&&Nat.ble t.size 1000000)=true:=by
  simp only[Bool.and_eq_true,decide_eq_true_eq,Nat.ble_eq];unfold Bu;omega
 have e2:(Fc t).drop (Bu t r:Int).toNat=r:=by rw[Kx];exact h.eq.symm
 have hq:=(G6 h).len;rw[e0];unfold Ag4;simp only[e1,cond_true,e2];rcases hx:E5 r with⟨o,q⟩;rw[hx] at hq;have e3:(t.size:Int)-q.length=(Bu t q:Int):=by unfold Bu;simp only at hq;omega
 cases o with
 |none=>simp only[e3];rfl
 |some s=>simp only[e3];rfl
theorem Awt {t:ByteArray}{D:Int}(ht:t.size<=1000000)(Ei:t.size+1<=fu)(V:List Int->JR (JV × List Int)) (HV:∀r,Dg t r->∃res,Ae C0 prog fu (d+3) 69 [.pbox (Bx t r),.sc (.int .i64 D)]=some res∧UR t r (V r) res) {l:List Int}(h:Dg t (91::l)):
  ∃res,Ae C0 prog fu (d+4) 91 [.pbox (Bx t (91::l)),.sc (.int .i64 D)]=some res∧At0 t l (Ab9 V l) res:=by
 have a0:=C3 (fu:=fu) (d:=d) (q:=l) 91 91 rfl h ht (by rw[F3];rfl)
 have hs:Ae C0 prog fu (d+3) 50 [.pbox (Bx t l)]=some ⟨[],[Bx t (Bf l)]⟩:=P9 (fu:=fu) (d:=d) h.tail ht Ei;have hS:=Br h.tail;have Uc:=Br (Dg.self h.tail.B)
 have eA:Ab9 V l=match Av [93] (Bf l) with|some r=>.ok r|none=>LO V ((Bf l).length+1) (Bf l):=by
  unfold Ab9;rw[F3];cases Bf l with
  |nil=>rfl
  |cons y s=>
   by_cases hy:y=93
   ·subst hy;rfl
   ·simp only[Dc hy];split
    ·rename_i e;injection e with e1 _;exact absurd e1 hy
    ·rfl
 have er:=Kq (p:=none) fu (d+3) t (Bu t (91::l):Int) D;rw[eA];cases h1:Av [93] (Bf l) with
 |some r=>
  have a1:=C3 (fu:=fu) (d:=d) 93 93 rfl hS ht h1;refine⟨⟨[.sc (.int .i64 0)],[Bx t r]⟩,er.trans ?_,As Uc h1,rfl⟩
  try unfold Ac
  repeat first
   |((with_reducible first|apply A5|apply At|apply A7|apply Ax|apply A2|apply Au|apply A4|apply A6);· first|with_reducible rfl|(simp (disch:=omega) only[gT,a0,hs,a1,Cw]<;>first|with_reducible rfl|omega)|omega)
   |(with_reducible apply A3;· first|with_reducible rfl|(simp (disch:=omega) only[gF,a0,hs,a1,Cw]<;>omega))
  try simp (disch:=omega) only[a0,hs,a1,Cw]
 |none=>
  have a1:=D8 (fu:=fu) (d:=d) 93 93 rfl hS ht h1;obtain⟨res,e5,h5⟩:=Adx (fu:=fu) (d:=d) (s0:=t) (p0:=(Bu t (91::l):Int)) (D0:=D) ht Ei V HV ((Bf l).length+1) fu (Bf l) (Nat.le_refl _) (by have:=hS.len;omega) hS
  refine⟨res,er.trans ?_,?_⟩
  ·skip
   try unfold Ac
   repeat first
    |((with_reducible first|apply A5|apply At|apply A7|apply Ax|apply A2|apply Au|apply A4|apply A6);· first|with_reducible rfl|(simp (disch:=omega) only[gT,a0,hs,a1,Cw]<;>first|with_reducible rfl|omega)|omega)
    |(with_reducible apply A3;· first|with_reducible rfl|(simp (disch:=omega) only[gF,a0,hs,a1,Cw]<;>omega))
   try simp (disch:=omega) only[a0,hs,a1,Cw]
   exact e5
  ·simp only
   revert h5
   cases LO V ((Bf l).length+1) (Bf l) with
   |error e=>exact id
   |ok q2=>exact fun h5=>⟨Uc.trans h5.1,h5.2⟩
end
end
section
open Go.Proofs.Tryd (prog)
open Go.IntKind (wrap)
set_option maxRecDepth 100000
section
variable {fu d:Nat}
theorem Agp {t s0:ByteArray}{p0 D0 D:Int}(ht:t.size<=1000000)(Ei:t.size+1<=fu)(V:List Int->JR (JV × List Int)) (HV:∀r,Dg t r->∃res,Ae C0 prog fu (d+3) 69 [.pbox (Bx t r),.sc (.int .i64 D)]=some res∧UR t r (V r) res):∀(n nn:Nat)(ms:List (List Int × JV)) (l:List Int),l.length+1<=n->l.length+1<=nn->Dg t l ->
  ∃res,C4 fu (Ae C0 prog fu (d+3)) s0 p0 D0 nn D t (Bu t l:Int)=some res∧Awj t l (S7 V false n ms l) res:=by
 intro n
 induction n with
 |zero=>intro nn ms l h1;omega
 |succ n ih=>
  intro nn ms l hn Pe h;obtain⟨k,rfl⟩:∃k,nn=k+1:=⟨nn-1,by omega⟩
  have er:Ae C0 prog fu (d+3) 68 [.pbox (Bx t l)]=_:=Ame (d:=d+2) h ht;have NN:=G6 h;have MO:=G6 (Dg.self h.B);rw[BZ,Ia];rcases hx:E5 l with⟨o,q⟩;rw[hx] at er NN MO;cases o with
  |none=>
   have er2:Ae C0 prog fu (d+3) 68 [.pbox (Bx t l)]=some ⟨[.sc (.string (Aa [])),.sc (.bool false)],[Bx t q]⟩:=er;refine⟨⟨[.sc (.int .i64 2)],[Bx t q]⟩,?_,by decide,q,NN,rfl⟩
   try unfold Ac
   repeat first
    |((with_reducible first|apply A5|apply At|apply A7|apply Ax|apply A2|apply K3|apply Au|apply A4|apply A6);· first|with_reducible rfl|(simp (disch:=omega) only[gT,er2,Dl]<;>first|with_reducible rfl|omega)|omega)
    |(with_reducible apply A3;· first|with_reducible rfl|(simp (disch:=omega) only[gF,er2,Dl]<;>omega))
   try simp (disch:=omega) only[er2,Dl]
  |some nm=>
   have er2:Ae C0 prog fu (d+3) 68 [.pbox (Bx t l)]=some ⟨[.sc (.string (Aa nm)),.sc (.bool true)],[Bx t q]⟩:=er;simp only at NN MO;have Tg:Ae C0 prog fu (d+3) 50 [.pbox (Bx t q)]=some ⟨[],[Bx t (Bf q)]⟩:=P9 (fu:=fu) (d:=d) NN ht Ei;have Ta:=Br NN;have Jd:=Br MO;simp only[PE,Bool.false_eq_true,if_false];cases h1:Av [58] (Bf q) with
   |none=>
    have a1:=D8 (fu:=fu) (d:=d) 58 58 rfl Ta ht h1;refine⟨⟨[.sc (.int .i64 2)],[Bx t (Bf q)]⟩,?_,by decide,Bf q,Ta,rfl⟩
    try unfold Ac
    repeat first
     |((with_reducible first|apply A5|apply At|apply A7|apply Ax|apply A2|apply K3|apply Au|apply A4|apply A6);· first|with_reducible rfl|(simp (disch:=omega) only[gT,er2,Tg,a1,Cw,Dl]<;>first|with_reducible rfl|omega)|omega)
     |(with_reducible apply A3;· first|with_reducible rfl|(simp (disch:=omega) only[gF,er2,Tg,a1,Cw,Dl]<;>omega))
    try simp (disch:=omega) only[er2,Tg,a1,Cw,Dl]
   |some r1=>
    have a1:=C3 (fu:=fu) (d:=d) 58 58 rfl Ta ht h1;have GE:=As Ta h1;have JU:=As Jd h1;have NV:Ae C0 prog fu (d+3) 50 [.pbox (Bx t r1)]=some ⟨[],[Bx t (Bf r1)]⟩:=P9 (fu:=fu) (d:=d) GE ht Ei;have hv1:=Br GE;have hv2:=Br JU;obtain⟨rv,ev,hv⟩:=HV (Bf r1) hv1;simp only;cases hV:V (Bf r1) with
    |error e=>
     rw[hV] at hv;obtain⟨he,c1,c2,c3,q3,hq3,rfl⟩:=hv;have hb:(e != (0:Int))=true:=by simp[he]
     refine⟨⟨[.sc (.int .i64 e)],[Bx t q3]⟩,?_,he,q3,hq3,rfl⟩
     try unfold Ac
     repeat first
      |((with_reducible first|apply A5|apply At|apply A7|apply Ax|apply A2|apply K3|apply Au|apply A4|apply A6);· first|with_reducible rfl|(simp (disch:=omega) only[gT,er2,Tg,a1,NV,ev,hb,Cw]<;>first|with_reducible rfl|omega)|omega)
      |(with_reducible apply A3;· first|with_reducible rfl|(simp (disch:=omega) only[gF,er2,Tg,a1,NV,ev,hb,Cw]<;>omega))
     try simp (disch:=omega) only[er2,Tg,a1,NV,ev,hb,Cw]
    |ok x=>
     obtain⟨v,r2⟩:=x;rw[hV] at hv;obtain⟨hq3,rfl⟩:=hv;have hb:((0:Int) != (0:Int))=false:=rfl;have hw1:=hv1.trans hq3;have hw2:=hv2.trans hq3;have LC:Ae C0 prog fu (d+3) 50 [.pbox (Bx t r2)]=some ⟨[],[Bx t (Bf r2)]⟩:=P9 (fu:=fu) (d:=d) hw1 ht Ei;have SJ:=Br hw1;have Mj:=Br hw2;simp only;cases h2:Av [125] (Bf r2) with
     |some r3=>
      have a2:=C3 (fu:=fu) (d:=d) 125 125 rfl SJ ht h2;refine⟨⟨[.sc (.int .i64 0)],[Bx t r3]⟩,?_,As Mj h2,rfl⟩
      try unfold Ac
      repeat first
       |((with_reducible first|apply A5|apply At|apply A7|apply Ax|apply A2|apply K3|apply Au|apply A4|apply A6);· first|with_reducible rfl|(simp (disch:=omega) only[gT,er2,Tg,a1,NV,ev,hb,LC,a2,Cw]<;>first|with_reducible rfl|omega)|omega)
       |(with_reducible apply A3;· first|with_reducible rfl|(simp (disch:=omega) only[gF,er2,Tg,a1,NV,ev,hb,LC,a2,Cw]<;>omega))
      try simp (disch:=omega) only[er2,Tg,a1,NV,ev,hb,LC,a2,Cw]
     |none=>
      have a2:=D8 (fu:=fu) (d:=d) 125 125 rfl SJ ht h2;cases h3:Av [44] (Bf r2) with
      |none=>
       have a3:=D8 (fu:=fu) (d:=d) 44 44 rfl SJ ht h3;refine⟨⟨[.sc (.int .i64 2)],[Bx t (Bf r2)]⟩,?_,by decide,Bf r2,SJ,rfl⟩
       try unfold Ac
       repeat first
        |((with_reducible first|apply A5|apply At|apply A7|apply Ax|apply A2|apply K3|apply Au|apply A4|apply A6);· first|with_reducible rfl|(simp (disch:=omega) only[gT,er2,Tg,a1,NV,ev,hb,LC,a2,a3,Cw,Dl]<;>first|with_reducible rfl|omega)|omega)
        |(with_reducible apply A3;· first|with_reducible rfl|(simp (disch:=omega) only[gF,er2,Tg,a1,NV,ev,hb,LC,a2,a3,Cw,Dl]<;>omega))
       try simp (disch:=omega) only[er2,Tg,a1,NV,ev,hb,LC,a2,a3,Cw,Dl]
      |some r3=>
       have a3:=C3 (fu:=fu) (d:=d) 44 44 rfl SJ ht h3;have hy1:=As SJ h3;have hy2:=As Mj h3;have hs5:Ae C0 prog fu (d+3) 50 [.pbox (Bx t r3)]=some ⟨[],[Bx t (Bf r3)]⟩:=P9 (fu:=fu) (d:=d) hy1 ht Ei
       have hlr:(Bf r3).length+1<=l.length:=by
        have e1:=Mj.le;have e2:=Rd r3;have e3:=RE h3;omega
       obtain⟨res,e5,h5⟩:=ih k (ms++[(nm,v)]) (Bf r3) (by omega) (by omega) (Br hy1)
       refine⟨res,?_,?_⟩
       ·skip
        try unfold Ac
        repeat first
         |((with_reducible first|apply A5|apply At|apply A7|apply Ax|apply A2|apply K3|apply Au|apply A4|apply A6);· first|with_reducible rfl|(simp (disch:=omega) only[gT,er2,Tg,a1,NV,ev,hb,LC,a2,a3,hs5,Cw]<;>first|with_reducible rfl|omega)|omega)
         |(with_reducible apply A3;· first|with_reducible rfl|(simp (disch:=omega) only[gF,er2,Tg,a1,NV,ev,hb,LC,a2,a3,hs5,Cw]<;>omega))
        try simp (disch:=omega) only[er2,Tg,a1,NV,ev,hb,LC,a2,a3,hs5,Cw]
        exact e5
       ·simp only;have hup:Dg (Aa l) (Bf r3):=Br hy2
        revert h5
        cases S7 V false n (ms++[(nm,v)]) (Bf r3) with
        |error e=>exact id
        |ok q2=>exact fun h5=>⟨hup.trans h5.1,h5.2⟩
theorem Atk {t:ByteArray}{D:Int}(ht:t.size<=1000000)(Ei:t.size+1<=fu)(V:List Int->JR (JV × List Int)) (HV:∀r,Dg t r->∃res,Ae C0 prog fu (d+3) 69 [.pbox (Bx t r),.sc (.int .i64 D)]=some res∧UR t r (V r) res) {l:List Int}(h:Dg t (123::l)):
  ∃res,Ae C0 prog fu (d+4) 51 [.pbox (Bx t (123::l)),.sc (.int .i64 D),.sc (.map none)]=some res∧Awj t l (Vu V false l) res:=by
 have a0:=C3 (fu:=fu) (d:=d) (q:=l) 123 123 rfl h ht (by rw[F3];rfl)
 have hs:Ae C0 prog fu (d+3) 50 [.pbox (Bx t l)]=some ⟨[],[Bx t (Bf l)]⟩:=P9 (fu:=fu) (d:=d) h.tail ht Ei;have hS:=Br h.tail;have Uc:=Br (Dg.self h.tail.B)
 have eA:Vu V false l=match Av [125] (Bf l) with|some r=>.ok ([],r)|none=>S7 V false ((Bf l).length+1) [] (Bf l):=by
  unfold Vu;rw[F3];cases Bf l with
  |nil=>rfl
  |cons y s=>
   by_cases hy:y=125
   ·subst hy;rfl
   ·simp only[Dc hy];split
    ·rename_i e;injection e with e1 _;exact absurd e1 hy
    ·rfl
 have er:=Ju (p:=none) fu (d+3) t (Bu t (123::l):Int) D;rw[eA];cases h1:Av [125] (Bf l) with
 |some r=>
  have a1:=C3 (fu:=fu) (d:=d) 125 125 rfl hS ht h1;refine⟨⟨[.sc (.int .i64 0)],[Bx t r]⟩,er.trans ?_,As Uc h1,rfl⟩
  try unfold Ac
  repeat first
   |((with_reducible first|apply A5|apply At|apply A7|apply Ax|apply A2|apply K3|apply Au|apply A4|apply A6);· first|with_reducible rfl|(simp (disch:=omega) only[gT,a0,hs,a1,Cw]<;>first|with_reducible rfl|omega)|omega)
   |(with_reducible apply A3;· first|with_reducible rfl|(simp (disch:=omega) only[gF,a0,hs,a1,Cw]<;>omega))
  try simp (disch:=omega) only[a0,hs,a1,Cw]
 |none=>
  have a1:=D8 (fu:=fu) (d:=d) 125 125 rfl hS ht h1;obtain⟨res,e5,h5⟩:=Agp (fu:=fu) (d:=d) (s0:=t) (p0:=(Bu t (123::l):Int)) (D0:=D) ht Ei V HV ((Bf l).length+1) fu [] (Bf l) (Nat.le_refl _) (by have:=hS.len;omega) hS
  refine⟨res,er.trans ?_,?_⟩
  ·skip
   try unfold Ac
   repeat first
    |((with_reducible first|apply A5|apply At|apply A7|apply Ax|apply A2|apply K3|apply Au|apply A4|apply A6);· first|with_reducible rfl|(simp (disch:=omega) only[gT,a0,hs,a1,Cw]<;>first|with_reducible rfl|omega)|omega)
    |(with_reducible apply A3;· first|with_reducible rfl|(simp (disch:=omega) only[gF,a0,hs,a1,Cw]<;>omega))
   try simp (disch:=omega) only[a0,hs,a1,Cw]
   exact e5
  ·simp only
   revert h5
   cases S7 V false ((Bf l).length+1) [] (Bf l) with
   |error e=>exact id
   |ok q2=>exact fun h5=>⟨Uc.trans h5.1,h5.2⟩
end
end
section
open Go.Proofs.Tryd (prog)
open Go.IntKind (wrap)
set_option maxRecDepth 100000
def Anw (l:List Int):JR (JV × List Int):=
 match Av [116,114,117,101] l with
 |some r=>.ok ((2,[],true),r)
 |none=>match Av [102,97,108,115,101] l with
  |some r=>.ok ((2,[],false),r)
  |none=>match Av [110,117,108,108] l with
   |some r=>.ok ((1,[],false),r)
   |none=>match Fu l with
    |some r=>.ok ((3,[],false),r)
    |none=>.error 2
theorem JP (k:Nat){l:List Int}(h1:NT l≠123)(h2:NT l≠91)(h3:NT l≠34):F6 k l=Anw l:=by
 unfold F6;split
 ·exact absurd rfl h1
 ·exact absurd rfl h2
 ·exact absurd rfl h3
 ·rfl
theorem Afa {l r:List Int}(h:Ct l)(e:Fu l=some r):Dg (Aa l) r:=by
 have h0:=Dg.self h;have e0:Fu l=(Ajd (Ah5 45 l)).bind FN:=rfl;rw[e0,Xv,HZ] at e;have h1:Dg (Aa l) ((Av [45] l).getD l):=Ck h0 fun q e=>As h0 e
 have hE:∀x q,Dg (Aa l) x->Us x=some q->Dg (Aa l) q:=by
  have hT:∀x q,Dg (Aa l) x->Mb x=some q->Dg (Aa l) q:=by
   intro x q hx e;unfold Mb at e;split at e
   ·rename_i hw;exact Da (As hx hw) e
   ·exact Da (Ck hx fun q e=>As hx e) e
  intro x q hx e;rw[Oe] at e;split at e
  ·rename_i hw;exact hT _ _ (As hx hw) e
  ·split at e
   ·rename_i hw;exact hT _ _ (As hx hw) e
   ·cases e;exact hx
 have hF:∀x q,Dg (Aa l) x->FN x=some q->Dg (Aa l) q:=by
  intro x q hx e;rw[Up] at e;split at e
  ·rename_i hw;obtain⟨y,hy,e⟩:=Option.bind_eq_some_iff.1 e;exact hE _ _ (Da (As hx hw) hy) e
  ·exact hE _ _ hx e
 obtain⟨y,hy,e⟩:=Option.bind_eq_some_iff.1 e;split at hy
 ·rename_i hw;cases hy;exact hF _ _ (As h1 hw) e
 ·exact hF _ _ (Da h1 hy) e
section
variable {fu d:Nat}
theorem Aqv {t:ByteArray}{r:List Int}(w:List Int)(lit:ByteArray)(hw:Aa w=lit)(hB:Ct w)(hl:w.length<=100)(h:Dg t r)(ht:t.size<=1000000):Ae C0 prog fu (d+3) 67 [.pbox (Bx t r),.sc (.string lit)]=some ⟨[.sc (.bool (Av w r).isSome)],[Bx t ((Av w r).getD r)]⟩:=by
 subst hw;have e:=Ra (fu:=fu) (d:=d) (xs:=xs0) h ht (w:=w) hB hl;refine e.trans ?_;cases Av w r<;>rfl
theorem Ade {t:ByteArray}(ht:t.size<=1000000)(Ei:t.size+1<=fu){D:Int}{l:List Int}(h:Dg t l)(h1:NT l≠123)(h2:NT l≠91)(h3:NT l≠34):∃res,Ae C0 prog fu (d+5) 69 [.pbox (Bx t l),.sc (.int .i64 D)]=some res∧UR t l (Anw l) res:=by
 have er:=B5 (p:=none) fu (d+4) t (Bu t l:Int) D;have pk:Ae C0 prog fu (d+4) 90 [.pbox (Bx t l)]=some ⟨[.sc (.int .u8 (NT l))],[Bx t l]⟩:=M1 (xs:=xs0) (d:=d+3) h;have b1:(NT l==(123:Int))=false:=by simp[h1]
 have b2:(NT l==(91:Int))=false:=by simp[h2]
 have b3:(NT l==(34:Int))=false:=by simp[h3]
 have Ahz:=Dg.self h.B;have a1:=Aqv (fu:=fu) (d:=d+1) [116,114,117,101] (ByteArray.mk #[(116:UInt8),(114:UInt8),(117:UInt8),(101:UInt8)]) rfl (fun x hx=>by simp at hx;omega) (by decide) h ht
 have a2:=Aqv (fu:=fu) (d:=d+1) [102,97,108,115,101] (ByteArray.mk #[(102:UInt8),(97:UInt8),(108:UInt8),(115:UInt8),(101:UInt8)]) rfl (fun x hx=>by simp at hx;omega) (by decide) h ht
 have a3:=Aqv (fu:=fu) (d:=d+1) [110,117,108,108] (ByteArray.mk #[(110:UInt8),(117:UInt8),(108:UInt8),(108:UInt8)]) rfl (fun x hx=>by simp at hx;omega) (by decide) h ht
 obtain⟨rn,hrn,en,hn⟩:=Afo (fu:=fu) (d:=d) h ht Ei;have en2:Ae C0 prog fu (d+4) 92 [.pbox (Bx t l)]=some ⟨[.sc (.bool (Fu l).isSome)],[Bx t rn]⟩:=en;unfold Anw;cases q1:Av [116,114,117,101] l with
 |some r=>
  rw[q1] at a1;have a1':Ae C0 prog fu (d+4) 67 [.pbox (Bx t l),.sc (.string (ByteArray.mk #[(116:UInt8),(114:UInt8),(117:UInt8),(101:UInt8)]))]=some ⟨[.sc (.bool true)],[Bx t r]⟩:=a1;refine⟨_,er.trans ?_,As Ahz q1,rfl⟩
  try unfold Ac
  repeat first
   |((with_reducible first|apply A5|apply At|apply A7|apply Ax|apply A2|apply Au|apply A4|apply A6);· first|with_reducible rfl|(simp (disch:=omega) only[gT,pk,b1,b2,b3,a1']<;>first|with_reducible rfl|omega)|omega)
   |(with_reducible apply A3;· first|with_reducible rfl|(simp (disch:=omega) only[gF,pk,b1,b2,b3,a1']<;>omega))
  try simp (disch:=omega) only[pk,b1,b2,b3,a1']
  rfl
 |none=>
  rw[q1] at a1;have a1':Ae C0 prog fu (d+4) 67 [.pbox (Bx t l),.sc (.string (ByteArray.mk #[(116:UInt8),(114:UInt8),(117:UInt8),(101:UInt8)]))]=some ⟨[.sc (.bool false)],[Bx t l]⟩:=a1;cases q2:Av [102,97,108,115,101] l with
  |some r=>
   rw[q2] at a2;have a2':Ae C0 prog fu (d+4) 67 [.pbox (Bx t l),.sc (.string (ByteArray.mk #[(102:UInt8),(97:UInt8),(108:UInt8),(115:UInt8),(101:UInt8)]))]=some ⟨[.sc (.bool true)],[Bx t r]⟩:=a2;refine⟨_,er.trans ?_,As Ahz q2,rfl⟩
   try unfold Ac
   repeat first
    |((with_reducible first|apply A5|apply At|apply A7|apply Ax|apply A2|apply Au|apply A4|apply A6);· first|with_reducible rfl|(simp (disch:=omega) only[gT,pk,b1,b2,b3,a1',a2']<;>first|with_reducible rfl|omega)|omega)
    |(with_reducible apply A3;· first|with_reducible rfl|(simp (disch:=omega) only[gF,pk,b1,b2,b3,a1',a2']<;>omega))
   try simp (disch:=omega) only[pk,b1,b2,b3,a1',a2']
   rfl
  |none=>
   rw[q2] at a2;have a2':Ae C0 prog fu (d+4) 67 [.pbox (Bx t l),.sc (.string (ByteArray.mk #[(102:UInt8),(97:UInt8),(108:UInt8),(115:UInt8),(101:UInt8)]))]=some ⟨[.sc (.bool false)],[Bx t l]⟩:=a2;cases q3:Av [110,117,108,108] l with
   |some r=>
    rw[q3] at a3;have a3':Ae C0 prog fu (d+4) 67 [.pbox (Bx t l),.sc (.string (ByteArray.mk #[(110:UInt8),(117:UInt8),(108:UInt8),(108:UInt8)]))]=some ⟨[.sc (.bool true)],[Bx t r]⟩:=a3;refine⟨_,er.trans ?_,As Ahz q3,rfl⟩
    try unfold Ac
    repeat first
     |((with_reducible first|apply A5|apply At|apply A7|apply Ax|apply A2|apply Au|apply A4|apply A6);· first|with_reducible rfl|(simp (disch:=omega) only[gT,pk,b1,b2,b3,a1',a2',a3']<;>first|with_reducible rfl|omega)|omega)
     |(with_reducible apply A3;· first|with_reducible rfl|(simp (disch:=omega) only[gF,pk,b1,b2,b3,a1',a2',a3']<;>omega))
    try simp (disch:=omega) only[pk,b1,b2,b3,a1',a2',a3']
    rfl
   |none=>
    rw[q3] at a3;have a3':Ae C0 prog fu (d+4) 67 [.pbox (Bx t l),.sc (.string (ByteArray.mk #[(110:UInt8),(117:UInt8),(108:UInt8),(108:UInt8)]))]=some ⟨[.sc (.bool false)],[Bx t l]⟩:=a3;cases q4:Fu l with
    |some r=>
     rw[q4] at en2;have:=hn r q4;subst this;have en3:Ae C0 prog fu (d+4) 92 [.pbox (Bx t l)]=some ⟨[.sc (.bool true)],[Bx t rn]⟩:=en2;refine⟨_,er.trans ?_,Afa h.B q4,rfl⟩
     try unfold Ac
     repeat first
      |((with_reducible first|apply A5|apply At|apply A7|apply Ax|apply A2|apply Au|apply A4|apply A6);· first|with_reducible rfl|(simp (disch:=omega) only[gT,pk,b1,b2,b3,a1',a2',a3',en3]<;>first|with_reducible rfl|omega)|omega)
      |(with_reducible apply A3;· first|with_reducible rfl|(simp (disch:=omega) only[gF,pk,b1,b2,b3,a1',a2',a3',en3]<;>omega))
     try simp (disch:=omega) only[pk,b1,b2,b3,a1',a2',a3',en3]
     rfl
    |none=>
     rw[q4] at en2;have en3:Ae C0 prog fu (d+4) 92 [.pbox (Bx t l)]=some ⟨[.sc (.bool false)],[Bx t rn]⟩:=en2;refine⟨_,er.trans ?_,by decide,0,⟨#[]⟩,false,rn,hrn,rfl⟩
     try unfold Ac
     repeat first
      |((with_reducible first|apply A5|apply At|apply A7|apply Ax|apply A2|apply Au|apply A4|apply A6);· first|with_reducible rfl|(simp (disch:=omega) only[gT,pk,b1,b2,b3,a1',a2',a3',en3]<;>first|with_reducible rfl|omega)|omega)
      |(with_reducible apply A3;· first|with_reducible rfl|(simp (disch:=omega) only[gF,pk,b1,b2,b3,a1',a2',a3',en3]<;>omega))
     try simp (disch:=omega) only[pk,b1,b2,b3,a1',a2',a3',en3]
theorem Ajw (k:Nat)(r:List Int):F6 k (34::r)=match E5 (34::r) with|(some s,q)=>.ok ((4,s,false),q)|(none,_)=>.error 2:=by
 have e:F6 k (34::r)=match KD (34::r) with|none=>.error 2|some (s,r')=>.ok ((4,s,false),r'):=by
  cases k<;>rfl
 rw[e];unfold KD;rcases E5 (34::r) with⟨o,q⟩;cases o<;>rfl
theorem QO {t:ByteArray}(ht:t.size<=1000000)(k:Nat){D:Int}{l:List Int}(h:Dg t (34::l)):∃res,Ae C0 prog fu (d+5) 69 [.pbox (Bx t (34::l)),.sc (.int .i64 D)]=some res∧UR t (34::l) (F6 k (34::l)) res:=by
 have er:=B5 (p:=none) fu (d+4) t (Bu t (34::l):Int) D;have pk:Ae C0 prog fu (d+4) 90 [.pbox (Bx t (34::l))]=some ⟨[.sc (.int .u8 34)],[Bx t (34::l)]⟩:=M1 (xs:=xs0) (d:=d+3) h;have Ft:Ae C0 prog fu (d+4) 68 [.pbox (Bx t (34::l))]=_:=Ame (d:=d+3) h ht;have NN:=G6 h;have MO:=G6 (Dg.self h.B);have b1:((34:Int)==(123:Int))=false:=rfl;have b2:((34:Int)==(91:Int))=false:=rfl;have b3:((34:Int)==(34:Int))=true:=rfl;rw[Ajw];rcases hx:E5 (34::l) with⟨o,q⟩;rw[hx] at Ft NN MO;cases o with
 |none=>
  have SS:Ae C0 prog fu (d+4) 68 [.pbox (Bx t (34::l))]=some ⟨[.sc (.string (Aa [])),.sc (.bool false)],[Bx t q]⟩:=Ft;refine⟨_,er.trans ?_,by decide,0,⟨#[]⟩,false,q,NN,rfl⟩
  try unfold Ac
  repeat first
   |((with_reducible first|apply A5|apply At|apply A7|apply Ax|apply A2|apply Au|apply A4|apply A6);· first|with_reducible rfl|(simp (disch:=omega) only[gT,pk,b1,b2,b3,SS]<;>first|with_reducible rfl|omega)|omega)
   |(with_reducible apply A3;· first|with_reducible rfl|(simp (disch:=omega) only[gF,pk,b1,b2,b3,SS]<;>omega))
  try simp (disch:=omega) only[pk,b1,b2,b3,SS]
 |some s=>
  have SS:Ae C0 prog fu (d+4) 68 [.pbox (Bx t (34::l))]=some ⟨[.sc (.string (Aa s)),.sc (.bool true)],[Bx t q]⟩:=Ft;refine⟨_,er.trans ?_,MO,rfl⟩
  try unfold Ac
  repeat first
   |((with_reducible first|apply A5|apply At|apply A7|apply Ax|apply A2|apply Au|apply A4|apply A6);· first|with_reducible rfl|(simp (disch:=omega) only[gT,pk,b1,b2,b3,SS]<;>first|with_reducible rfl|omega)|omega)
   |(with_reducible apply A3;· first|with_reducible rfl|(simp (disch:=omega) only[gF,pk,b1,b2,b3,SS]<;>omega))
  try simp (disch:=omega) only[pk,b1,b2,b3,SS]
theorem Am8 {t:ByteArray}(ht:t.size<=1000000)(Ei:t.size+1<=fu):∀(k:Nat)(D:Int),D+k=9->1<=D->∀l,Dg t l->∃res,Ae C0 prog fu (d+2*k+5) 69 [.pbox (Bx t l),.sc (.int .i64 D)]=some res∧UR t l (F6 k l) res:=by
 intro k
 induction k with
 |zero=>
  intro D hD h1 l h;by_cases g1:NT l=123
  ·cases l with
   |nil=>cases g1
   |cons c l=>
    have g2:c=123:=g1;subst g2;have er:=B5 (p:=none) fu (d+4) t (Bu t (123::l):Int) D;have pk:Ae C0 prog fu (d+4) 90 [.pbox (Bx t (123::l))]=some ⟨[.sc (.int .u8 123)],[Bx t (123::l)]⟩:=M1 (xs:=xs0) (d:=d+3) h;have b1:((123:Int)==(123:Int))=true:=rfl;have b2:decide (D>8)=true:=by simp;omega
    refine⟨_,er.trans ?_,(by decide:(5:Int)≠0),0,⟨#[]⟩,false,123::l,h,rfl⟩
    try unfold Ac
    repeat first
     |((with_reducible first|apply A5|apply At|apply A7|apply Ax|apply A2|apply Au|apply A4|apply A6);· first|with_reducible rfl|(simp (disch:=omega) only[gT,pk,b1,b2]<;>first|with_reducible rfl|omega)|omega)
     |(with_reducible apply A3;· first|with_reducible rfl|(simp (disch:=omega) only[gF,pk,b1,b2]<;>omega))
    try simp (disch:=omega) only[pk,b1,b2]
  ·by_cases g2:NT l=91
   ·cases l with
    |nil=>cases g2
    |cons c l=>
     have g3:c=91:=g2;subst g3;have er:=B5 (p:=none) fu (d+4) t (Bu t (91::l):Int) D;have pk:Ae C0 prog fu (d+4) 90 [.pbox (Bx t (91::l))]=some ⟨[.sc (.int .u8 91)],[Bx t (91::l)]⟩:=M1 (xs:=xs0) (d:=d+3) h;have b0:((91:Int)==(123:Int))=false:=rfl;have b1:((91:Int)==(91:Int))=true:=rfl;have b2:decide (D>8)=true:=by simp;omega
     refine⟨_,er.trans ?_,(by decide:(5:Int)≠0),0,⟨#[]⟩,false,91::l,h,rfl⟩
     try unfold Ac
     repeat first
      |((with_reducible first|apply A5|apply At|apply A7|apply Ax|apply A2|apply Au|apply A4|apply A6);· first|with_reducible rfl|(simp (disch:=omega) only[gT,pk,b0,b1,b2]<;>first|with_reducible rfl|omega)|omega)
      |(with_reducible apply A3;· first|with_reducible rfl|(simp (disch:=omega) only[gF,pk,b0,b1,b2]<;>omega))
     try simp (disch:=omega) only[pk,b0,b1,b2]
   ·by_cases g3:NT l=34
    ·cases l with
     |nil=>cases g3
     |cons c l=>
      have g4:c=34:=g3;subst g4;exact QO ht 0 h
    ·rw[JP 0 g1 g2 g3];exact Ade ht Ei h g1 g2 g3
 |succ k ih=>
  intro D hD h1 l h;have HV:=ih (D+1) (by omega) (by omega)
  by_cases g1:NT l=123
  ·cases l with
   |nil=>cases g1
   |cons c l=>
    have g2:c=123:=g1;subst g2;have er:=B5 (p:=none) fu (d+2*(k+1)+4) t (Bu t (123::l):Int) D;have pk:Ae C0 prog fu (d+2*(k+1)+4) 90 [.pbox (Bx t (123::l))]=some ⟨[.sc (.int .u8 123)],[Bx t (123::l)]⟩:=M1 (xs:=xs0) (d:=d+2*(k+1)+3) h;have b1:((123:Int)==(123:Int))=true:=rfl;have b2:decide (D>8)=false:=by simp;omega
    have w1:wrap .i64 (D+1)=D+1:=Az (by omega) (by omega)
    obtain⟨res,e5,h5⟩:=Atk (fu:=fu) (d:=d+2*k+2) (D:=D+1) ht Ei (F6 k) HV h;have e6:Ae C0 prog fu (d+2*(k+1)+4) 51 [.pbox (Bx t (123::l)),.sc (.int .i64 (D+1)),.sc (.map none)]=some res:=e5;have ev:F6 (k+1) (123::l)=match Vu (F6 k) false l with | .error e=>.error e | .ok (_,r')=>.ok ((6,[],false),r'):=rfl
    rw[ev];cases ho:Vu (F6 k) false l with
    |error e=>
     rw[ho] at h5;obtain⟨he,q,hq,rfl⟩:=h5;refine⟨_,er.trans ?_,he,6,⟨#[]⟩,false,q,hq,rfl⟩
     try unfold Ac
     repeat first
      |((with_reducible first|apply A5|apply At|apply A7|apply Ax|apply A2|apply Au|apply A4|apply A6);· first|with_reducible rfl|(simp (disch:=omega) only[gT,pk,b1,b2,w1,e6]<;>first|with_reducible rfl|omega)|omega)
      |(with_reducible apply A3;· first|with_reducible rfl|(simp (disch:=omega) only[gF,pk,b1,b2,w1,e6]<;>omega))
     try simp (disch:=omega) only[pk,b1,b2,w1,e6]
    |ok x=>
     obtain⟨ms,q⟩:=x;rw[ho] at h5;obtain⟨hq,rfl⟩:=h5;refine⟨_,er.trans ?_,(Dg.self h.B).tail.trans hq,rfl⟩
     try unfold Ac
     repeat first
      |((with_reducible first|apply A5|apply At|apply A7|apply Ax|apply A2|apply Au|apply A4|apply A6);· first|with_reducible rfl|(simp (disch:=omega) only[gT,pk,b1,b2,w1,e6]<;>first|with_reducible rfl|omega)|omega)
      |(with_reducible apply A3;· first|with_reducible rfl|(simp (disch:=omega) only[gF,pk,b1,b2,w1,e6]<;>omega))
     try simp (disch:=omega) only[pk,b1,b2,w1,e6]
     rfl
  ·by_cases g2:NT l=91
   ·cases l with
    |nil=>cases g2
    |cons c l=>
     have g3:c=91:=g2;subst g3;have er:=B5 (p:=none) fu (d+2*(k+1)+4) t (Bu t (91::l):Int) D;have pk:Ae C0 prog fu (d+2*(k+1)+4) 90 [.pbox (Bx t (91::l))]=some ⟨[.sc (.int .u8 91)],[Bx t (91::l)]⟩:=M1 (xs:=xs0) (d:=d+2*(k+1)+3) h;have b0:((91:Int)==(123:Int))=false:=rfl;have b1:((91:Int)==(91:Int))=true:=rfl;have b2:decide (D>8)=false:=by simp;omega
     have w1:wrap .i64 (D+1)=D+1:=Az (by omega) (by omega)
     obtain⟨res,e5,h5⟩:=Awt (fu:=fu) (d:=d+2*k+2) (D:=D+1) ht Ei (F6 k) HV h;have e6:Ae C0 prog fu (d+2*(k+1)+4) 91 [.pbox (Bx t (91::l)),.sc (.int .i64 (D+1))]=some res:=e5;have ev:F6 (k+1) (91::l)=match Ab9 (F6 k) l with | .error e=>.error e | .ok r'=>.ok ((5,[],false),r'):=rfl
     rw[ev];cases ho:Ab9 (F6 k) l with
     |error e=>
      rw[ho] at h5;obtain⟨he,q,hq,rfl⟩:=h5;refine⟨_,er.trans ?_,he,5,⟨#[]⟩,false,q,hq,rfl⟩
      try unfold Ac
      repeat first
       |((with_reducible first|apply A5|apply At|apply A7|apply Ax|apply A2|apply Au|apply A4|apply A6);· first|with_reducible rfl|(simp (disch:=omega) only[gT,pk,b0,b1,b2,w1,e6]<;>first|with_reducible rfl|omega)|omega)
       |(with_reducible apply A3;· first|with_reducible rfl|(simp (disch:=omega) only[gF,pk,b0,b1,b2,w1,e6]<;>omega))
      try simp (disch:=omega) only[pk,b0,b1,b2,w1,e6]
     |ok q=>
      rw[ho] at h5;obtain⟨hq,rfl⟩:=h5;refine⟨_,er.trans ?_,(Dg.self h.B).tail.trans hq,rfl⟩
      try unfold Ac
      repeat first
       |((with_reducible first|apply A5|apply At|apply A7|apply Ax|apply A2|apply Au|apply A4|apply A6);· first|with_reducible rfl|(simp (disch:=omega) only[gT,pk,b0,b1,b2,w1,e6]<;>first|with_reducible rfl|omega)|omega)
       |(with_reducible apply A3;· first|with_reducible rfl|(simp (disch:=omega) only[gF,pk,b0,b1,b2,w1,e6]<;>omega))
      try simp (disch:=omega) only[pk,b0,b1,b2,w1,e6]
      rfl
   ·by_cases g3:NT l=34
    ·cases l with
     |nil=>cases g3
     |cons c l=>
      have g4:c=34:=g3;subst g4;exact QO (d:=d+2*(k+1)) ht (k+1) h
    ·rw[JP (k+1) g1 g2 g3];exact Ade (d:=d+2*(k+1)) ht Ei h g1 g2 g3
end
end
section
open Go.Proofs.Tryd (prog)
open Go.IntKind (wrap)
set_option maxRecDepth 1000000
open Go.Shelf Go.RowKit Go.Lib
theorem TJ (G:Ur)(args:List PV)(res:Aq)(h:RJ args=some res):Df G prog 66 args res:=by
 refine⟨⟨_,Tryd.func66,by kernel_rfl⟩,fun w Y bt us hi _ _=>?_⟩
 unfold RJ at h;split at h
 rotate_left
 ·cases h
 rename_i s p;cases hq:(Nat.ble p.size 1000&&p.data.toList.all (fun b=>decide (b.toNat<128))&&decide (s.size<=1000000000))
 ·rw[hq] at h;cases h
 rw[hq,cond_true] at h;cases h;rw[Bool.and_eq_true,Bool.and_eq_true] at hq;obtain⟨⟨h1,h2⟩,h3⟩:=hq;have h1:=Nat.le_of_ble_eq_true h1;have h3:=of_decide_eq_true h3;have ps:=hi.args
 match us,ps with
 |[u1,u2],ps=>
  obtain⟨⟨_,p1⟩,⟨_,p2⟩,_⟩:=ps;have e1:u1=.string s:=Aw.val (show Aw w _ (.sc (.string s)) u1 from p1)
  have e2:u2=.string p:=Aw.val (show Aw w _ (.sc (.string p)) u2 from p2)
  subst e1 e2;refine (Any.strings_Trim_laid TZ (by kernel_rfl) s p w (by omega) (by omega) (ascii_of_all h2)).mono ?_
  rintro e w' ⟨rfl,hb⟩
  exact⟨[.string ⟨(Lib.trimS s.data.toList p.data.toList).toArray⟩],fun _=>none,rfl,O7 hb rfl⟩
 |[],ps=>exact ps.elim
 |[_],ps=>exact ps.2.elim
 |_::_::_::_,ps=>exact ps.2.2.elim
end
section
open Go.Proofs.Tryd (prog)
open Go.IntKind (wrap)
set_option maxRecDepth 1000000
open Go.Shelf Go.RowKit Go.Lib
def Awa:Go.Shelf.Ren:=⟨fun|196=>33|259=>49|n=>n,fun|0=>0|3=>3|4=>4|5=>5|9=>9|12=>12|46=>56|53=>46|119=>86|138=>88|139=>89|n=>n,fun|3=>0|4=>1|n=>n⟩
theorem laysVS:Lays.n196 prog Awa:={
 mixed:=by kernel_rfl
 f196:=Tryd.func33.trans (congrArg some (by kernel_rfl))
 f259:=Tryd.func49.trans (congrArg some (by kernel_rfl))
 t0:=Tryd.underlying0
 a0:=Tryd.isAgg0
 z0:=Tryd.sizeOf0
 v0:=Tryd.zeroValue0
 t3:=Tryd.underlying3
 a3:=Tryd.isAgg3
 z3:=Tryd.sizeOf3
 v3:=Tryd.zeroValue3
 t4:=Tryd.underlying4
 a4:=Tryd.isAgg4
 z4:=Tryd.sizeOf4
 v4:=Tryd.zeroValue4
 t5:=Tryd.underlying5
 a5:=Tryd.isAgg5
 z5:=Tryd.sizeOf5
 v5:=Tryd.zeroValue5
 t9:=Tryd.underlying9
 a9:=Tryd.isAgg9
 z9:=Tryd.sizeOf9
 v9:=Tryd.zeroValue9
 t12:=Tryd.underlying12
 a12:=Tryd.isAgg12
 z12:=Tryd.sizeOf12
 v12:=Tryd.zeroValue12
 t46:=Tryd.underlying56
 a46:=Tryd.isAgg56
 z46:=Tryd.sizeOf56
 v46:=Tryd.zeroValue56
 t53:=Tryd.underlying46
 a53:=Tryd.isAgg46
 z53:=Tryd.sizeOf46
 v53:=Tryd.zeroValue46
 t119:=Tryd.underlying86
 a119:=Tryd.isAgg86
 z119:=Tryd.sizeOf86
 t138:=Tryd.underlying88
 a138:=Tryd.isAgg88
 z138:=Tryd.sizeOf88
 v138:=Tryd.zeroValue88
 t139:=Tryd.underlying89
 a139:=Tryd.isAgg89
 z139:=Tryd.sizeOf89
 v139:=Tryd.zeroValue89
 g3:=by kernel_rfl
 g4:=by kernel_rfl }
def gU:Ur:=⟨fun b=>b=0∨b=1,fun w=>0<w.heap.size∧1<w.heap.size∧Lib.Utf8Tabs 0 1 w,fun w w' h ⟨s1,s2,h1,h2⟩=>by
 have e1:=h _ (.inl rfl) s1;have e2:=h _ (.inr rfl) s2
 have hs:∀b,b<w.heap.size->w'.heap[b]?=w.heap[b]?->b<w'.heap.size:=by
  intro b hb he;rw[Array.getElem?_eq_getElem hb] at he;rcases Nat.lt_or_ge b w'.heap.size with q|q
  ·exact q
  ·rw[Array.getElem?_eq_none q] at he;cases he
 refine⟨hs _ s1 e1,hs _ s2 e2,fun c hc=>?_,fun i hi=>?_⟩
 ·have:=h1 c hc;unfold World.cell? at this ⊢;simp only[e1] at this ⊢;exact this
 ·obtain⟨a,b⟩:=h2 i hi;unfold World.cell? at a b ⊢;simp only[e2] at a b ⊢;exact⟨a,b⟩⟩
theorem OR (args:List PV)(res:Aq)(h:UA args=some res):Df gU prog 33 args res:=by
 refine⟨⟨_,Tryd.func33,by kernel_rfl⟩,fun w Y bt us hi hok _=>?_⟩
 unfold UA at h;split at h
 rotate_left
 ·cases h
 rename_i s;cases hq:decide (s.size<=9223372036854775807)
 ·rw[hq] at h;cases h
 rw[hq] at h;cases h;have hs:=of_decide_eq_true hq;have ps:=hi.args
 match us,ps with
 |[u],ps=>
  have hu:u=.string s:=by
   have:Aw w _ (.sc (.string s)) u:=ps.1.2;exact this.val
  subst hu;refine (Any.utf8_ValidString laysVS s w hs hok.2.2).mono ?_
  rintro e w' ⟨rfl,hb⟩
  exact⟨[.bool (Lib.validD s.data.toList)],fun _=>none,rfl,O7 hb rfl⟩
 |[],ps=>exact ps.elim
 |_::_::_,ps=>exact ps.2.elim
theorem Amn {p:Option (List PV->Option Aq)} (hp:∀g,p=some g->∀args res,g args=some res->Df gU prog 19 args res):JA gU prog (CP p):=by
 intro f g args res hx hg;have hx0:(bif Vi.any (Nat.beq f) then none else RP p f)=some g:=hx;cases hb:Vi.any (Nat.beq f)
 rotate_left
 ·rw[hb,cond_true] at hx0;cases hx0
 rw[hb,cond_false] at hx0;unfold RP at hx0;cases hP:Nat.beq f 19
 rotate_left
 ·rw[hP,cond_true] at hx0;rw[Nat.eq_of_beq_eq_true hP];exact hp g hx0 args res hg
 rw[hP,cond_false] at hx0;have R6:Afg f=some g:=hx0;unfold Afg at R6;cases h1:Nat.beq f 33
 rotate_left
 ·rw[h1,cond_true] at R6;cases R6;rw[Nat.eq_of_beq_eq_true h1];exact OR args res hg
 rw[h1,cond_false] at R6;cases h6:Nat.beq f 40
 rotate_left
 ·rw[h6,cond_true] at R6;cases R6;rw[Nat.eq_of_beq_eq_true h6];exact YI gU args res hg
 rw[h6,cond_false] at R6;cases h7:Nat.beq f 99
 rotate_left
 ·rw[h7,cond_true] at R6;cases R6;rw[Nat.eq_of_beq_eq_true h7];exact Aa3 gU args res hg
 rw[h7,cond_false] at R6;cases hA:Nat.beq f 66
 rotate_left
 ·rw[hA,cond_true] at R6;cases R6;rw[Nat.eq_of_beq_eq_true hA];exact TJ gU args res hg
 rw[hA,cond_false] at R6;cases h8:Nat.beq f 12
 rotate_left
 ·rw[h8,cond_true] at R6;cases R6;rw[Nat.eq_of_beq_eq_true h8];exact Abe gU args res hg
 rw[h8,cond_false] at R6;cases h9:Nat.beq f 68
 rotate_left
 ·rw[h9,cond_true] at R6;cases R6;rw[Nat.eq_of_beq_eq_true h9];exact Aa1 gU args res hg
 rw[h9,cond_false] at R6;cases h3:Nat.beq f 1000000
 ·rw[h3,cond_false] at R6;cases R6
 ·rw[h3,cond_true] at R6;cases R6;cases hg
theorem And:JA gU prog C0:=Amn (fun _ h=>by cases h)
end
section
open Go.Proofs.Tryd (prog)
open Go.IntKind (wrap)
open Go Go.RowKit
def R5 (v:JV):Value:=.agg #[.int .i64 v.1,.string (Aa v.2.1),.bool v.2.2]
def Iw:Nat->List (List Int × JV)->List MapEntry
 |_,[]=>[]
 |i,m::r=>{ key:=.string (Aa m.1),val:=R5 m.2,born:=i }::Iw (i+1) r
theorem JT:∀(i:Nat)(a b:List (List Int × JV)),Iw i (a++b)=Iw i a++Iw (i+a.length) b
 |_,[],_=>rfl
 |i,m::r,b=>by
  show _::Iw (i+1) (r++b)=_;rw[JT (i+1) r b];show _=_::(Iw (i+1) r++Iw (i+(r.length+1)) b);rw[show i+1+r.length=i+(r.length+1) by omega]
def Lc (nm:List Int)(ms:List (List Int × JV)):Option JV:=(ms.find? fun m=>m.1==nm).map (·.2)
theorem Zb {a b:List Int}(ha:Ct a)(hb:Ct b)(h:Aa a=Aa b):a=b:=by
 have:=congrArg Fc h
 rwa [Co ha,Co hb] at this
theorem Agq (a b:ByteArray):(a==b)=decide (a=b):=by
 have e:(a==b)=(a.data==b.data):=by
  cases a;cases b;rfl
 rw[e,Bool.eq_iff_iff,beq_iff_eq,decide_eq_true_iff];constructor
 ·intro h;cases a;cases b;exact congrArg ByteArray.mk h
 ·intro h;rw[h]
theorem R2 {nm:List Int}(hn:Ct nm):∀(ms:List (List Int × JV)) (i j:Nat),(∀m∈ms,Ct m.1)->∃r,Instr.findNow .string (.string (Aa nm)) (Iw i ms) j=some r∧(match Lc nm ms with|none=>r=none|some v=>∃k,r=some (k,R5 v))
 |[],_,_,_=>⟨none,rfl,rfl⟩
 |m::r,i,j,hB=>by
  by_cases h:m.1=nm
  ·refine⟨some (j,R5 m.2),?_,?_⟩
   ·show (match Instr.sameNow .string (.string (Aa nm)) (.string (Aa m.1)) with|some true=>some (some (j,R5 m.2))|some false=>Instr.findNow .string (.string (Aa nm)) (Iw (i+1) r) (j+1)|none=>none)=_
    have e:Instr.sameNow .string (.string (Aa nm)) (.string (Aa m.1))=some true:=by
     show some (Aa nm==Aa m.1)=some true;rw[h,Agq];simp
    rw[e]
   ·have e:Lc nm (m::r)=some m.2:=by
     unfold Lc;rw[List.find?_cons_of_pos (by simp[h])]
     rfl
    rw[e];exact⟨j,rfl⟩
  ·obtain⟨q,hq,hl⟩:=R2 hn r (i+1) (j+1) fun m hm=>hB m (List.mem_cons_of_mem _ hm)
   refine⟨q,?_,?_⟩
   ·show (match Instr.sameNow .string (.string (Aa nm)) (.string (Aa m.1)) with|some true=>some (some (j,R5 m.2))|some false=>Instr.findNow .string (.string (Aa nm)) (Iw (i+1) r) (j+1)|none=>none)=_
    have e:Instr.sameNow .string (.string (Aa nm)) (.string (Aa m.1))=some false:=by
     show some (Aa nm==Aa m.1)=some false;have:Aa nm≠Aa m.1:=fun e=>h (Zb hn (hB m (List.mem_cons_self ..)) e).symm
     rw[Agq];simp[this]
    rw[e];exact hq
   ·have e:Lc nm (m::r)=Lc nm r:=by
     unfold Lc;rw[List.find?_cons_of_neg (by simp[h])]
    rw[e];exact hl
def CN (w:World)(b:Nat)(ms:List (List Int × JV)):Prop:=w.heap[b]?=some (.map (Iw 0 ms).toArray ms.length)
theorem FO {w:World}{b:Nat}{ms:List (List Int × JV)} (h:CN w b ms):(getObj b).run prog w=.ok (.map (Iw 0 ms).toArray ms.length) w:=by
 simp[getObj,Sem.run,show w.heap[b]?=_ from h]
def PN (nm:List Int)(ms:List (List Int × JV)):Value:=match Lc nm ms with|some v=>R5 v|none=>R5 (0,[],false)
theorem DN {w:World}{b:Nat}{ms:List (List Int × JV)} (h:CN w b ms)(hB:∀m∈ms,Ct m.1){nm:List Int}(hn:Ct nm)(ok:Bool):(Instr.lookup 68 (.map (some b)) (.string (Aa nm)) ok).run prog w=.ok (if ok then .tuple #[PN nm ms,.bool (Lc nm ms).isSome] else PN nm ms) w:=by
 have hu:=run_underlying (w:=w) Tryd.underlying68;have hk:=run_underlying (w:=w) Tryd.underlying9;have hck:∀c (n:Nat),(Instr.checkKey c (n+1) 9 (.string (Aa nm))).run prog w=.ok () w:=fun c n=>by simp[Instr.checkKey,hk]
 have hc:∀c,(Instr.checkKey c 10000 9 (.string (Aa nm))).run prog w=.ok () w:=fun c=>hck c 9999
 obtain⟨r,hr,hl⟩:=R2 hn ms 0 0 hB;have hz:(zeroValue 95).run prog w=.ok (R5 (0,[],false)) w:=Tryd.zeroValue95 w;unfold PN;cases hq:Lc nm ms with
 |none=>
  rw[hq] at hl;simp only at hl;subst hl;cases ok<;>simp[Instr.lookup,hu,hk,FO h,hc,Instr.findKey,hr,hz]<;>rfl
 |some v=>
  rw[hq] at hl;obtain⟨k,hl⟩:=hl;subst hl;cases ok<;>simp[Instr.lookup,hu,hk,FO h,hc,Instr.findKey,hr]
theorem TB {w:World}{b:Nat}{ms:List (List Int × JV)} (h:CN w b ms)(hB:∀m∈ms,Ct m.1){nm:List Int}(hn:Ct nm)(LB:Lc nm ms=none)(v:JV):(Instr.mapUpdate 68 (.map (some b)) (.string (Aa nm)) (R5 v)).run prog w=.ok () { w with heap:=w.heap.setIfInBounds b (.map (Iw 0 (ms++[(nm,v)])).toArray (ms++[(nm,v)]).length) }:=by
 have hu:=run_underlying (w:=w) Tryd.underlying68;have hk:=run_underlying (w:=w) Tryd.underlying9;have hck:∀c (n:Nat),(Instr.checkKey c (n+1) 9 (.string (Aa nm))).run prog w=.ok () w:=fun c n=>by simp[Instr.checkKey,hk]
 have hc:∀c,(Instr.checkKey c 10000 9 (.string (Aa nm))).run prog w=.ok () w:=fun c=>hck c 9999
 obtain⟨r,hr,hl⟩:=R2 hn ms 0 0 hB;rw[LB] at hl;simp only at hl;subst hl
 have e:Iw 0 (ms++[(nm,v)])=Iw 0 ms++[{ key:=.string (Aa nm),val:=R5 v,born:=ms.length }]:=by
  rw[JT];show _++[_]=_;rw[SF]
 have hs:∀o,(setObj b o).run prog w=.ok () { w with heap:=w.heap.setIfInBounds b o }:=fun o=>by
  simp[setObj,Sem.run,show w.heap[b]?=_ from h]
 rw[e];simp[Instr.mapUpdate,hu,hk,FO h,hc,Instr.findKey,hr,hs]
end
section
open Go.Proofs.Tryd (prog)
open Go.IntKind (wrap)
set_option maxRecDepth 20000
open Go Go.RowKit
structure Lh (w:World) (b:Nat):Prop where
 ok:gU.ok w
 bl:∀k,gU.bl k->k<w.heap.size∧k≠b
theorem DH {f:FuncId}{t:ByteArray}{r r':List Int}{args vals:List PV}{us rs:List Value}{fu d:Nat}(e:Ae C0 prog fu d f (.pbox (Bx t r)::args)=some ⟨vals,[Bx t r']⟩) (ha:Be DF args us)(hr:Be DF vals rs)
  {w:World} {b o:Nat} (hU:Lh w b) (h:Ux w b o t r):Calls prog f (.pointer (some ⟨b,o,none⟩)::us).toArray w fun e w'=>e=.returned (He rs)∧Ux w' b o t r'∧El w w' b o 2:=by
 have hs:Df gU prog f (.pbox ([Value.string t,.int .i64 (Bu t r:Int)].map .sc)::args) ⟨vals,[[Value.string t,.int .i64 (Bu t r':Int)].map .sc]⟩:=H5 ngR mxR And d f _ _ e;refine (JS hs ha hr (w:=w) (b:=b) (o:=o) hU.ok hU.bl h.lt ?_ ?_).mono ?_
 ·intro j v hv
  match j,hv with
  |0,hv=>cases hv;exact h.c0
  |1,hv=>cases hv;exact h.c1
 ·intro j hj
  match j,hj with
  |0,_=>exact h.f0
  |1,_=>exact h.f1
 ·rintro e w' ⟨rfl,_,h4,h5,hk⟩
  exact⟨rfl,⟨Nat.lt_of_lt_of_le h.lt hk.size,h4 0 _ rfl,h4 1 _ rfl,h5 0 (Nat.zero_lt_succ _),h5 1 (Nat.succ_lt_succ (Nat.zero_lt_succ _))⟩,hk⟩
theorem Ht {t:ByteArray}{r:List Int}(hS:Dg t r)(ht:t.size<=1000000){w:World}{b o:Nat}(hU:Lh w b)(h:Ux w b o t r):
  Calls prog 50 #[.pointer (some ⟨b,o,none⟩)] w fun e w'=>e=.returned (.tuple #[])∧Ux w' b o t (Bf r)∧El w w' b o 2:=by
 have e:=P9 (fu:=1000001) (d:=0) hS ht (by omega)
 exact DH (us:=[]) (rs:=[]) e trivial trivial hU h
def Aqn (t:ByteArray)(r r':List Int)(e:Ending):Prop:=
 match F6 8 r with
 |.ok (v,q)=>r'=q∧Dg (Aa r) q∧e=.returned (.tuple #[R5 v,.int .i64 0])
 |.error er=>er≠0∧Dg t r'∧∃u:JV,e=.returned (.tuple #[R5 u,.int .i64 er])
theorem Abf {t:ByteArray}{r:List Int}(hS:Dg t r)(ht:t.size<=1000000){w:World}{b o:Nat}(hU:Lh w b)(h:Ux w b o t r):
  Calls prog 69 #[.pointer (some ⟨b,o,none⟩),.int .i64 1] w fun e w'=>∃r',Ux w' b o t r'∧El w w' b o 2 ∧
   Aqn t r r' e:=by
 unfold Aqn;obtain⟨res,e,hr⟩:=Am8 (fu:=1000001) (d:=0) ht (by omega) 8 1 (by omega) (by omega) r hS
 cases hv:F6 8 r with
 |error er=>
  rw[hv] at hr;obtain⟨he,c1,c2,c3,q,hq,rfl⟩:=hr;refine (DH (us:=[.int .i64 1]) (rs:=[.agg #[.int .i64 c1,.string c2,.bool c3],.int .i64 er]) e ⟨.inl rfl,trivial⟩ ⟨.inr ⟨[.int .i64 c1,.string c2,.bool c3],rfl,rfl⟩,.inl rfl,trivial⟩ hU h).mono ?_
  rintro e w' ⟨rfl,ha,hk⟩
  exact⟨q,ha,hk,he,hq,(c1,Fc c2,c3),by unfold R5;simp only[G9];rfl⟩
 |ok x=>
  obtain⟨v,q⟩:=x;rw[hv] at hr;obtain⟨hq,rfl⟩:=hr;refine (DH (us:=[.int .i64 1]) (rs:=[R5 v,.int .i64 0]) e ⟨.inl rfl,trivial⟩ ⟨.inr ⟨[.int .i64 v.1,.string (Aa v.2.1),.bool v.2.2],rfl,rfl⟩,.inl rfl,trivial⟩ hU h).mono ?_
  rintro e w' ⟨rfl,ha,hk⟩
  exact⟨q,ha,hk,rfl,hq,rfl⟩
end
section
open Go.Proofs.Tryd (prog)
open Go.IntKind (wrap)
set_option maxRecDepth 1000000
open Go Go.RowKit Go.Lib
theorem Lh.keep {w w':World}{b o n:Nat}(h:Lh w b)(k:El w w' b o n):Lh w' b:=
 ⟨gU.stable w w' (fun j hj hl=>k.other j hl (h.bl j hj).2) h.ok,fun j hj=>⟨Nat.lt_of_lt_of_le (h.bl j hj).1 k.size,(h.bl j hj).2⟩⟩
theorem CN.keep {w w':World}{b mb o n:Nat}{ms:List (List Int × JV)} (h:CN w mb ms)(k:El w w' b o n)(Eo:mb≠b):CN w' mb ms:=by
 have B7:mb<w.heap.size:=(Array.getElem?_eq_some_iff.1 h).1;exact (k.other mb B7 Eo).trans h
structure Dt (w w':World) (b mb:Nat):Prop where
 os:w'.os=w.os
 tape:w'.tape=w.tape
 output:w'.output=w.output
 size:w.heap.size<=w'.heap.size
 other:∀k,k<w.heap.size->k≠b->k≠mb->w'.heap[k]?=w.heap[k]?
theorem Dt.of {w w':World}{b mb o n:Nat}(k:El w w' b o n):Dt w w' b mb:=⟨k.os,k.tape,k.output,k.size,fun j hj hb _=>k.other j hj hb⟩
theorem Lh.below {w w':World}{b:Nat}(h:Lh w b)(k:Below w.heap.size w w'):Lh w' b:=
 ⟨gU.stable w w' (fun j _ hl=>k.block j hl) h.ok,fun j hj=>⟨Nat.lt_of_lt_of_le (h.bl j hj).1 k.size,(h.bl j hj).2⟩⟩
theorem CN.below {w w':World}{mb:Nat}{ms:List (List Int × JV)} (h:CN w mb ms)(k:Below w.heap.size w w'):CN w' mb ms:=by
 have B7:mb<w.heap.size:=(Array.getElem?_eq_some_iff.1 h).1;exact (k.block mb B7).trans h
theorem Dt.trans {w w' w'':World}{b mb:Nat}(h:Dt w w' b mb)(k:Dt w' w'' b mb):Dt w w'' b mb:=
 ⟨k.os.trans h.os,k.tape.trans h.tape,k.output.trans h.output,Nat.le_trans h.size k.size,fun i hi h1 h2=>(k.other i (Nat.lt_of_lt_of_le hi h.size) h1 h2).trans (h.other i hi h1 h2)⟩
theorem UE:∀(n:Nat)(out l s q:List Int),Ct out->Ct l->Kz n out l=(some s,q)->Ct s
  |0,_,_,_,_,_,_,h=>by cases h
  |_+1,_,[],_,_,_,_,h=>by cases h
  |n+1,out,c::l,s,q,ho,hl,h=>by
    have e:Kz (n+1) out (c::l)=if c<32 then (none,c::l) else if c=34 then (some out,l) else if c=92 then
        (match N4 l with
         |(some x,r')=>Kz n (out++Lib.encodeRuneZ x) r'
         |(none,r')=>(none,r')) else Kz n (out++[c]) l:=rfl
    have Q1:=Cq hl
    rw[e] at h
    split at h
    · cases h
    split at h
    · cases h;exact ho
    split at h
    · have h2:=Rq (Dg.self Q1.2)
      rcases hq:N4 l with⟨o,r⟩
      rw[hq] at h2 h
      cases o with
      |none=>cases h
      |some x=>exact UE n _ r s q (Jt ho (fun y hy=>by have:=Lib.encodeRuneZ_byte x y hy;omega)) (by have:=h2.B;exact this) h
    · exact UE n _ l s q (Jt ho (fun y hy=>by simp at hy;omega)) Q1.2 h
theorem WM {l s q:List Int}(hl:Ct l)(h:E5 l=(some s,q)):Ct s:=by
 cases l with
 |nil=>cases h
 |cons c l=>
  have e:E5 (c::l)=if c=34 then Kz (l.length+1) [] l else (none,c::l):=rfl
  rw[e] at h;split at h
  ·exact UE _ _ _ _ _ (fun x hx=>by cases hx) (Cq hl).2 h
  ·cases h
theorem Dt.below {w w':World}{b mb:Nat}(k:Below w.heap.size w w'):Dt w w' b mb:=⟨k.os,k.tape,k.output,k.size,fun i hi _ _=>k.block i hi⟩
theorem Ak1 {P:Program}{t k e:TypeId}(hu:P.underlying t=some (.map k e)) (mb:Nat)(w:World):(binOp .neq t (.map (some mb)) (.map none)).run P w=.ok (.bool true) w:=by
 have h:∀d,(Op.equalIn (d+1) t (.map (some mb)) (.map none)).run P w=.ok false w:=fun d=>by
  simp[Op.equalIn,run_underlying hu]
 simp only[binOp];simp[Op.equal,Op.maxDepth,h 9999]
theorem Ac0 (nm:List Int)(ms:List (List Int × JV)):(ms.any fun m=>m.1==nm)=(Lc nm ms).isSome:=by
 unfold Lc
 induction ms with
 |nil=>rfl
 |cons m r ih=>
  by_cases h:m.1=nm
  ·rw[List.find?_cons_of_pos (by simp[h])]
   simp[h]
  ·rw[List.find?_cons_of_neg (by simp[h]),←ih]
   simp[h]
theorem Xp (V:List Int->JR (JV × List Int)) (kp:Bool)(l:List Int):Vu V kp l=match Av [125] (Bf l) with|some r=>.ok ([],r)|none=>S7 V kp ((Bf l).length+1) [] (Bf l):=by
 unfold Vu;rw[F3];cases Bf l with
 |nil=>rfl
 |cons y s=>
  by_cases hy:y=125
  ·subst hy;rfl
  ·simp only[Dc hy];split
   ·rename_i e;injection e with e1 _;exact absurd e1 hy
   ·rfl
theorem DB {W:World}{mb b:Nat}{ob:Obj}(Eo:mb≠b):({ W with heap:=W.heap.setIfInBounds mb ob }:World).heap[b]?=W.heap[b]?:=Array.getElem?_setIfInBounds_ne Eo
theorem Ux.put {W:World}{b o mb:Nat}{t:ByteArray}{r:List Int}{ob:Obj}(h:Ux W b o t r)(Eo:mb≠b):Ux { W with heap:=W.heap.setIfInBounds mb ob } b o t r:=by
 have e:=DB (W:=W) (ob:=ob) Eo;refine⟨by simpa using h.lt,(World.cell?_of_block e).trans h.c0,(World.cell?_of_block e).trans h.c1,?_,?_⟩
 ·have:=h.f0;unfold World.frozen? at this ⊢;simp only[e] at this ⊢;exact this
 ·have:=h.f1;unfold World.frozen? at this ⊢;simp only[e] at this ⊢;exact this
theorem Lh.put {W:World}{b mb:Nat}{ob:Obj}(h:Lh W b)(hmU:¬gU.bl mb):Lh { W with heap:=W.heap.setIfInBounds mb ob } b:=
 ⟨gU.stable W _ (fun j hj _=>DB (fun e=>hmU (e ▸ hj))) h.ok,fun j hj=>⟨by simpa using (h.bl j hj).1,(h.bl j hj).2⟩⟩
theorem Dt.put {W:World}{b mb:Nat}{ob:Obj}:Dt W { W with heap:=W.heap.setIfInBounds mb ob } b mb:=
 ⟨rfl,rfl,rfl,by simp,fun k _ _ h=>DB (fun e=>h e.symm)⟩
theorem CN.put {W:World}{mb n:Nat}{ms ms':List (List Int × JV)} (h:CN W mb ms)(hn:ms'.length=n):CN { W with heap:=W.heap.setIfInBounds mb (.map (Iw 0 ms').toArray n) } mb ms':=by
 have B7:mb<W.heap.size:=(Array.getElem?_eq_some_iff.1 h).1;subst hn;exact Array.getElem?_setIfInBounds_self_of_lt B7
def RoP (w':World)(mb:Nat)(l r':List Int)(e:Ending):Prop:=
 match Av [123] l with
 |some l'=>(match Vu (F6 8) true l' with
  |.ok (ms,q)=>r'=q∧e=.returned (.int .i64 0)∧CN w' mb ms
  |.error er=>er≠0∧e=.returned (.int .i64 er))
 |none=>e=.returned (.int .i64 2)
set_option maxHeartbeats 4000000 in
theorem Ala {t:ByteArray}{l:List Int}(hS:Dg t l)(ht:t.size<=1000000){w:World}{b o mb:Nat}(hU:Lh w b)(h:Ux w b o t l)(hM:CN w mb []) (LV:mb≠b)(hmU:¬gU.bl mb):
  Calls prog 51 #[.pointer (some ⟨b,o,none⟩),.int .i64 1,.map (some mb)] w fun e w'=>Dt w w' b mb∧∃r',Dg t r'∧Ux w' b o t r' ∧
   RoP w' mb l r' e:=by
 have mixed:prog.follows Departure.mixedOrders=true:=by kernel_rfl
 have hac:=G8 hS ht (w0:=[123]) (fun x hx=>by simp at hx;omega) (by decide) h
 go_enter Tryd.func51,Tryd.ntmps51
 go_wp2_with (go_at_call 67;refine hac.mono ?_)
 rintro e W1 ⟨rfl,h1,k1⟩
 cases hq:Av [123] l with
 |none=>
  rw[hq] at h1
  go_wp2
  go_ret
  exact⟨Dt.of k1,l,hS,h1,by unfold RoP;rw[hq];rfl⟩
 |some l'=>
  rw[hq] at h1;have YJ:=As hS hq;have hsk:=Ht YJ ht (hU.keep k1) h1
  go_wp2_with (go_at_call 50;refine hsk.mono ?_)
  rintro e W2 ⟨rfl,h2,k2⟩
  have Uc:=Br YJ;have A8e:=G8 Uc ht (w0:=[125]) (fun x hx=>by simp at hx;omega) (by decide) h2
  go_wp2_with (go_at_call 67;refine A8e.mono ?_)
  rintro e W3 ⟨rfl,h3,k3⟩
  cases Jd:Av [125] (Bf l') with
  |some r3=>
   rw[Jd] at h3
   go_wp2
   go_ret
   refine⟨((Dt.of k1).trans (Dt.of k2)).trans (Dt.of k3),r3,As Uc Jd,h3,?_⟩;unfold RoP;rw[hq];simp only;rw[Xp,Jd];exact⟨rfl,rfl,((hM.keep k1 LV).keep k2 LV).keep k3 LV⟩
  |none=>
   rw[Jd] at h3
   have hRo:∀w' r' e,(match S7 (F6 8) true ((Bf l').length+1) [] (Bf l') with
     |.ok (ms,q)=>r'=q∧e=.returned (.int .i64 0)∧CN w' mb ms
     |.error er=>er≠0∧e=.returned (.int .i64 er))->RoP w' mb l r' e:=by
    intro w' r' e h;unfold RoP;rw[hq];simp only;rw[Xp,Jd];exact h
   have hU3:=((hU.keep k1).keep k2).keep k3;have hM3:=((hM.keep k1 LV).keep k2 LV).keep k3 LV;have Kv:Dt w W3 b mb:=((Dt.of k1).trans (Dt.of k2)).trans (Dt.of k3)
   go_wp2
   go_loopw [] (fun wr=>∃(n:Nat) (ms:List (List Int × JV)) (x:List Int),S7 (F6 8) true ((Bf l').length+1) [] (Bf l')=S7 (F6 8) true n ms x∧x.length<n∧Dg t x∧Ux wr b o t x∧CN wr mb ms∧(∀m∈ms,Ct m.1)∧Lh wr b∧Dt w wr b mb) (fun wr=>match wr.cell? ⟨b,o+1,none⟩ with|some (.int _ p)=>t.size-p.toNat|_=>0)
   case atStart=>
    exact⟨_,[],Bf l',rfl,Nat.lt_succ_self _,Uc,h3,hM3,(fun m hm=>by cases hm),hU3,Kv⟩
   case round=>
    obtain⟨n,ms,x,Ft,hn,hSx,hat,hMx,hBx,hUx,hkx⟩:=hrel;have hrd:Calls prog 68 #[.pointer (some ⟨b,o,none⟩)] wr fun e w'=>e=.returned (.tuple #[.string (Aa ((E5 x).1.getD [])),.bool (E5 x).1.isSome])∧Ux w' b o t (E5 x).2∧El wr w' b o 2:=QC hSx ht hat
    go_wp2_with (go_at_call 68;refine hrd.mono ?_)
    rintro e W4 ⟨rfl,h4,k4⟩
    obtain⟨m,rfl⟩:∃m,n=m+1:=⟨n-1,by omega⟩
    rw[BZ (F6 8) true m ms x] at Ft;have Sf:Dt w W4 b mb:=hkx.trans (Dt.of k4);have AR:=G6 hSx;rcases hx:E5 x with⟨o4,q4⟩;rw[hx] at h4 Ft AR;cases o4 with
    |none=>
     go_wp2
     go_ret
     exact⟨Sf,q4,AR,h4,hRo _ _ _ (by rw[Ft];exact⟨by decide,rfl⟩)⟩
    |some nm=>
     have GM:=WM hSx.B hx;have hM4:=hMx.keep k4 LV;have hlk:=DN hM4 hBx GM true;simp only[Zzm,Ac0] at Ft;cases hl:Lc nm ms with
     |some v=>
      rw[hl] at hlk Ft;have hvm:PN nm ms=.agg #[.int .i64 v.1,.string (Aa v.2.1),.bool v.2.2]:=by unfold PN;rw[hl];rfl
      rw[hvm] at hlk
      go_wp2
      go_ret
      have Pj:=fun ob=>(Below.refl W4.heap.size W4).alloc (Nat.le_refl _) ob
      exact⟨Sf.trans (Dt.below (Pj _)),q4,AR,h4.below (Pj _) h4.lt,hRo _ _ _ (by rw[Ft];exact⟨by decide,rfl⟩)⟩
     |none=>
      rw[hl] at hlk Ft;have hvm:PN nm ms=.agg #[.int .i64 0,.string ⟨#[]⟩,.bool false]:=by unfold PN;rw[hl];rfl
      rw[hvm] at hlk;have Pj:Below W4.heap.size W4 (W4.alloc (.cells #[.int .i64 0,.string ⟨#[]⟩,.bool false] 95)):=(Below.refl W4.heap.size W4).alloc (Nat.le_refl _) _;have h5:=h4.below Pj h4.lt;have hM5:=hM4.below Pj;have hU5:=(hUx.keep k4).below Pj;have UL:=Sf.trans (Dt.below (b:=b) (mb:=mb) Pj);have Aps:=Ht AR ht hU5 h5
      go_wp2_with (go_at_call 50;refine Aps.mono ?_)
      rintro e W6 ⟨rfl,h6,k6⟩
      have Ge:=Br AR;have A40:=G8 Ge ht (w0:=[58]) (fun x hx=>by simp at hx;omega) (by decide) h6
      go_wp2_with (go_at_call 67;refine A40.mono ?_)
      rintro e W7 ⟨rfl,h7,k7⟩
      have hk7:=(UL.trans (Dt.of k6)).trans (Dt.of k7);cases hq7:Av [58] (Bf q4) with
      |none=>
       rw[hq7] at h7
       go_wp2
       go_ret
       exact⟨hk7,Bf q4,Ge,h7,hRo _ _ _ (by rw[Ft];simp only[Option.isSome_none,Bool.false_eq_true,if_false,hq7];exact⟨by decide,rfl⟩)⟩
      |some r7=>
       rw[hq7] at h7;have hS7:=As Ge hq7;have hU7:=(hU5.keep k6).keep k7;have hM7:=(hM5.keep k6 LV).keep k7 LV;have A01:=Ht hS7 ht hU7 h7
       go_wp2_with (go_at_call 50;refine A01.mono ?_)
       rintro e W8 ⟨rfl,h8,k8⟩
       have hS8:=Br hS7;have hvc:=Abf hS8 ht (hU7.keep k8) h8
       go_wp2_with (go_at_call 69;refine hvc.mono ?_)
       rintro e W9 ⟨r9,h9,k9,hv9⟩
       have hk9:=(hk7.trans (Dt.of k8)).trans (Dt.of k9)
       have Aae:S7 (F6 8) true ((Bf l').length+1) [] (Bf l')=match F6 8 (Bf r7) with
         |.error e=>.error e
         |.ok (v,r2)=>match Av [125] (Bf r2) with
          |some r3=>.ok (ms++[(nm,v)],r3)
          |none=>match Av [44] (Bf r2) with
           |some r3=>S7 (F6 8) true m (ms++[(nm,v)]) (Bf r3)
           |none=>.error 2:=by
        rw[Ft];simp only[Option.isSome_none,Bool.false_eq_true,if_false,hq7]
        all_goals (rcases F6 8 (Bf r7) with e|⟨v,r2⟩;rfl;simp only;cases Av [125] (Bf r2)<;>cases Av [44] (Bf r2)<;>rfl)
       unfold Aqn at hv9;cases hv:F6 8 (Bf r7) with
       |error er=>
        rw[hv] at hv9 Aae;obtain⟨he,hs9,u,rfl⟩:=hv9;unfold R5;have hbe:(er != (0:Int))=true:=by simp[he]
        go_wp2
        go_ret
        have TU:=fun ob=>(Below.refl W9.heap.size W9).alloc (Nat.le_refl _) ob
        exact⟨hk9.trans (Dt.below (TU _)),r9,hs9,h9.below (TU _) h9.lt,hRo _ _ _ (by rw[Aae];exact⟨he,rfl⟩)⟩
       |ok x9=>
        obtain⟨v9,q9⟩:=x9;rw[hv] at hv9 Aae;obtain⟨rfl,hq9,rfl⟩:=hv9;unfold R5;have TU:Below W9.heap.size W9 (W9.alloc (.cells #[.int .i64 v9.1,.string (Aa v9.2.1),.bool v9.2.2] 95)):=(Below.refl W9.heap.size W9).alloc (Nat.le_refl _) _;have ZJ:=h9.below TU h9.lt;have As4:=((hM7.keep k8 LV).keep k9 LV).below TU;have A0a:=((hU7.keep k8).keep k9).below TU;have A1f:=hk9.trans (Dt.below (b:=b) (mb:=mb) TU);have hup:=TB As4 hBx GM hl v9;unfold R5 at hup;have Eo:=Ak1 Tryd.underlying68 mb;have hS9:=hS8.trans hq9;have h11:=ZJ.put (mb:=mb) (ob:=.map (Iw 0 (ms++[(nm,v9)])).toArray (ms.length+1)) LV;have Avw:=A0a.put (ob:=.map (Iw 0 (ms++[(nm,v9)])).toArray (ms.length+1)) hmU;have hln:(ms++[(nm,v9)]).length=ms.length+1:=by simp
        rw[hln] at hup;have Aup:=As4.put (ms':=ms++[(nm,v9)]) hln;have Az4:=A1f.trans (Dt.put (b:=b) (ob:=.map (Iw 0 (ms++[(nm,v9)])).toArray (ms.length+1)));have Auq:=Ht hS9 ht Avw h11
        go_wp2_with (go_at_call 50;refine Auq.mono ?_)
        rintro e W12 ⟨rfl,h12,k12⟩
        have Adg:=Br hS9;have Aut:=G8 Adg ht (w0:=[125]) (fun x hx=>by simp at hx;omega) (by decide) h12
        go_wp2_with (go_at_call 67;refine Aut.mono ?_)
        rintro e W13 ⟨rfl,h13,k13⟩
        have Avg:=(Az4.trans (Dt.of k12)).trans (Dt.of k13);cases Abx:Av [125] (Bf r9) with
        |some r13=>
         rw[Abx] at h13
         go_wp2
         go_ret
         exact⟨Avg,r13,As Adg Abx,h13,hRo _ _ _ (by rw[Aae];simp only;rw[Abx];exact⟨rfl,rfl,(Aup.keep k12 LV).keep k13 LV⟩)⟩
        |none=>
         rw[Abx] at h13;have Avq:=G8 Adg ht (w0:=[44]) (fun x hx=>by simp at hx;omega) (by decide) h13
         go_wp2_with (go_at_call 67;refine Avq.mono ?_)
         rintro e W14 ⟨rfl,h14,k14⟩
         have Avj:=Avg.trans (Dt.of k14);cases ZD:Av [44] (Bf r9) with
         |none=>
          rw[ZD] at h14
          go_wp2
          go_ret
          exact⟨Avj,Bf r9,Adg,h14,hRo _ _ _ (by rw[Aae];simp only;rw[Abx];simp only;rw[ZD];exact⟨by decide,rfl⟩)⟩
         |some r14=>
          rw[ZD] at h14;have Aum:=As Adg ZD;have Awy:=((Avw.keep k12).keep k13).keep k14;have A0y:=((Aup.keep k12 LV).keep k13 LV).keep k14 LV;have Awg:=Ht Aum ht Awy h14
          go_wp2_with (go_at_call 50;refine Awg.mono ?_)
          rintro e W15 ⟨rfl,h15,k15⟩
          have A1t:=Br Aum
          have hlr:(Bf r14).length+1<=x.length:=by
           have MO:=G6 (Dg.self hSx.B);rw[hx] at MO;have g1:=(Br (As (Br MO) hq7));have g2:=((Br (g1.trans hq9))).le;have g3:=Rd r14;have g4:=RE ZD;omega
          have hxl:=hSx.len
          go_wp2
          refine⟨⟨m,ms++[(nm,v9)],Bf r14,by rw[Aae];simp only[Abx,ZD],by omega,A1t,h15,A0y.keep k15 LV,fun y hy=>?_,Awy.keep k15,Avj.trans (Dt.of k15)⟩,?_⟩
          ·rcases List.mem_append.1 hy with hy|hy
           ·exact hBx y hy
           ·simp at hy;subst hy;exact GM
          ·have LR:Bu t x<Bu t (Bf r14):=by unfold Bu;omega
           have hp4:Bu t (Bf r14)<=t.size:=Nat.sub_le _ _;simp only[h15.c1,hat.c1,Kx];omega
end
section
open Go.IntKind (wrap)
def A1 (c:Int):List Int->List (List Int)
 |[]=>[[]]
 |x::r=>if x=c then []::A1 c r else match A1 c r with
  |h::t=>(x::h)::t
  |[]=>[[x]]
theorem Ol (c:Int)(l:List Int):A1 c l≠[]:=by
 cases l with
 |nil=>simp[A1]
 |cons x r=>
  unfold A1;split
  ·simp
  ·cases A1 c r<;>simp
def Bi (c:Int)(l:List Int):List Int:=l.takeWhile (fun x=>x != c)
theorem Y8 (c:Int):∀(l:List Int),A1 c l=if (Bi c l).length<l.length then Bi c l::A1 c (l.drop ((Bi c l).length+1)) else [l]
 |[]=>rfl
 |x::r=>by
  by_cases h:x=c
  ·subst h;have e:Bi x (x::r)=[]:=by unfold Bi;rw[List.takeWhile_cons_of_neg (by simp)]
   have e2:A1 x (x::r)=[]::A1 x r:=by
    show (if x=x then []::A1 x r else _)=_
    rw[D1 rfl]
   rw[e,D1 (by simp),e2]
   rfl
  ·have e:Bi c (x::r)=x::Bi c r:=by unfold Bi;rw[List.takeWhile_cons_of_pos (by simp[h])]
   have e2:A1 c (x::r)=match A1 c r with|a::t=>(x::a)::t|[]=>[[x]]:=by
    show (if x=c then []::A1 c r else _)=_
    rw[Dc h]
   rw[e,e2,Y8 c r];by_cases g:(Bi c r).length<r.length
   ·rw[D1 g,D1 (by simp;omega)]
    rfl
   ·rw[Dc g,Dc (by simp;omega)]
def Uu (x:Int):Bool:=decide (48<=x)&&decide (x<=57)
def VZ (x:Int):Bool:=(decide (97<=x)&&decide (x<=122))||Uu x
def I5 (l:List Int):Bool:=decide (1<=l.length)&&decide (l.length<=63) && !(l.head?==some 45) && !(l.getLast?==some 45)&&l.all (fun x=>VZ x||x==45)
def Sb (l:List Int):Int:=
 if 100<l.length then 8 else if (A1 46 l).all I5=false then 2 else if ((A1 46 l).getLastD []).all Uu=true then 2 else 0
def Ud (l:List Int):Int:=l.foldl (fun n x=>10*n+(x-48)) 0
def Hp (l:List Int):Bool:=decide (1<=l.length)&&decide (l.length<=5) && !(l.head?==some 48)&&l.all Uu
def XT (s:Bool):Int:=if s=true then 443 else 80
def Vx (s:Bool)(r:List Int):Int:=
 let nm:=Bi 58 r
 if Sb nm≠0 then Sb nm else if nm.length=r.length then 0 else
  if Hp (r.drop (nm.length+1))=true∧Ud (r.drop (nm.length+1))<=65535∧Ud (r.drop (nm.length+1))≠XT s then 0 else 2
def Ew (l:List Int):Int:=
 if [104,116,116,112,115,58,47,47].isPrefixOf l=true then Vx true (l.drop 8)
 else if [104,116,116,112,58,47,47].isPrefixOf l=true then Vx false (l.drop 7) else 2
end
end Go.Proofs.YtodnjibebeghjaaDoor.Pv
