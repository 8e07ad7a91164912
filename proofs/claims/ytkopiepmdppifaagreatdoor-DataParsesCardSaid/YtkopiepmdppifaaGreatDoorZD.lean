/-
  The proof of DataParses, part 4.
-/
import Derived.Test.YtkopiepmdppifaaGreatDoorZC
import Derived.Lib.SlTrimSet
import Derived.Test.YtkopiepmdppifaaGreatDoorRows
import Derived.Lib.BytesEntry
import Derived.Lib.Bytealg
import Derived.Lib.Walk
import Derived.WalkKit
import Derived.WalkMore
import Derived.Laws.Bits64b
import Derived.Shelf.Strings.BuilderRune
import Derived.Shelf.Strings.SlTrimAscii
import Derived.Shelf.RegionOpenPlain
import Derived.Lib.Overlaps
import Derived.Lib.AppendZerosOnto
import Derived.Lib.SliceRun
import Derived.Laws.Externs
import Derived.Laws.IdiomCopy
import Derived.Laws.NewBlocks
import Derived.Shelf.Unicode.ValidAny
import Derived.Lib.LaidU8T
set_option linter.unusedSimpArgs false
set_option linter.unusedVariables false
namespace Go.Proofs.YtkopiepmdppifaaGreatDoor.Pv
open Go.IntKind (wrap)
open Go.Proofs.Tryz (prog)
set_option maxRecDepth 1000000
noncomputable section
def TO:Al->Option Am
 |[]=>some []
 |.sc (.int .u8 n)::r=>bif decide (0<=n)&&decide (n<=255) then (TO r).map (n :: ·) else none
 |_=>none
def Aq2(args:Al):Option Bz:=
 match args with
 |[.lst _ 1 n c]=>bif Nat.beq c.length n&&Nat.ble n 100000000 then (match TO c with|some l=>some ⟨[.sc (.string (Aa (Eo l)))],[]⟩|none=>none) else none
 |_=>none
def Agh(args:Al):Option Bz:=
  match args with
  |[.pbox [.sc (.string t),.sc (.int .i64 p)]]=>bif decide (0<=p)&&decide (p<=t.size)&&Nat.ble t.size 1000000 then
      (match De ((Eu t).drop p.toNat) with
       |(some s,r)=>some ⟨[.sc (.string (Aa s)),.sc (.bool true)],[[.sc (.string t),B9 (t.size-r.length:Int)]]⟩
       |(none,r)=>some ⟨[.sc (.string ⟨#[]⟩),.sc (.bool false)],[[.sc (.string t),B9 (t.size-r.length:Int)]]⟩) else none
  |_=>none
def Aql(args:Al):Option Bz:=
 match args with
 |[.sc (.string s),.sc (.int .u8 c)]=>some ⟨[B9 (Lib.indexByte s.data.toList c.toNat.toUInt8)],[]⟩
 |_=>none
def Arg(args:Al):Option Bz:=
 match args with
 |[.sc (.string s),.sc (.string p)]=>bif Nat.beq p.size 1 then some ⟨[B9 (Lib.countByte s.data.toList p[0]!)],[]⟩ else none
 |_=>none
def UC(args:Al):Option Bz:=
 match args with
 |[.sc (.string s),.sc (.string p)]=>bif Nat.ble p.size 1000&&p.data.toList.all (fun b=>decide (b.toNat<128))&&decide (s.size<=1000000000) then some ⟨[.sc (.string ⟨(Lib.trimS s.data.toList p.data.toList).toArray⟩)],[]⟩ else none
 |_=>none
def Aj5(f:FuncId):Option (Al->Option Bz):=
 bif Nat.beq f 25 then some JZ else
 bif Nat.beq f 88 then some Aql else
 bif Nat.beq f 102 then some Arg else
 bif Nat.beq f 63 then some UC else
 bif Nat.beq f 24 then some Aq2 else
 bif Nat.beq f 67 then some Agh else
 bif Nat.beq f 1000000 then some (fun _=>none) else none
def RQ(p:Option (Al->Option Bz))(f:FuncId):Option (Al->Option Bz):=bif Nat.beq f 12 then p else Aj5 f
abbrev CP(p:Option (Al->Option Bz)):H2:=CX (RQ p)
abbrev C0:H2:=CP none
abbrev xs0:=RQ none
section
open Go.RowKit
def HY(p:PV)(u:Value):Prop:=p=.sc u\/∃vs:List Value,p=.agg (vs.map .sc)/\u=.agg ⟨vs⟩
theorem Wh{w:World}{A:Nat->Prop}{own:Bt}:∀{vs us:List Value}{j:Nat},F1 w A own j (vs.map .sc) us->us=vs
 |[],[],_,_=>rfl
 |[],_::_,_,h=>h.elim
 |_::_,[],_,h=>h.elim
 |v::vs,u::us,j,h=>by
  have h1:A3 w A (.sc v) u:=h.1;rw[h1.val,Wh h.2]
theorem V5{w:World}{A:Nat->Prop}{own:Bt}:∀{vs:List Value}{j:Nat},F1 w A own j (vs.map .sc) vs
 |[],_=>trivial
 |v::vs,j=>⟨show A3 w A (.sc v) v from .sc v,V5⟩
theorem GC{w:World}{A:Nat->Prop}{own:Bt}{z:Nat}:∀{vals:Al}{us us':List Value}{j:Nat},Bo HY vals us->MJ w A own z j vals us'->us'=us
 |[],[],[],_,_,_=>rfl
 |[],[],_::_,_,_,h=>h.elim
 |[],_::_,_,_,h,_=>h.elim
 |_::_,[],_,_,h,_=>h.elim
 |_::_,_::_,[],_,_,h=>h.elim
 |p::ps,u::us,u'::us',j,hs,h=>by
  rw[GC hs.2 h.2]
  congr 1
  rcases hs.1 with rfl|⟨vs,rfl,rfl⟩
  ·exact A3.val (show A3 w A (.sc u) u' from h.1)
  ·obtain⟨vs',rfl,h2⟩:=h.1;rw[Wh h2]
structure F4(w w':World)(b o n:Nat):Prop where
 os:w'.os=w.os
 tape:w'.tape=w.tape
 output:w'.output=w.output
 size:w.heap.size<=w'.heap.size
 grow:Iw w w' b
 other:∀k,k<w.heap.size->k≠b->w'.heap[k]?=w.heap[k]?
 cells:∀j,(j<o\/o+n<=j)->w'.cell? ⟨b,j,none⟩=w.cell? ⟨b,j,none⟩
 frz:∀j,(j<o\/o+n<=j)->w'.frozen? ⟨b,j,none⟩=w.frozen? ⟨b,j,none⟩
def bt1(b o:Nat):AO:=fun i j=>match i,j with|0,0=>some (b,o)|_,_=>none
theorem Ajz{b o k:Nat}(h:BtX (bt1 b o) k):k=b:=by
 obtain⟨i,j,o',h⟩:=h;unfold bt1 at h;split at h
 ·cases h;rfl
 ·cases h
theorem AE{w:World}{A:Nat->Prop}{bt:AO}:∀{i:Nat}{ps:Al}{us:List Value},Bo HY ps us->Ma w A bt i ps us
 |_,[],[],_=>trivial
 |_,[],_::_,h=>h.elim
 |_,_::_,[],h=>h.elim
 |i,p::ps,u::us,h=>by
  refine⟨?_,AE h.2⟩;rcases h.1 with rfl|⟨vs,rfl,rfl⟩
  ·exact⟨.inl trivial,show A3 w A (.sc u) u from .sc u⟩
  ·refine⟨vs,rfl,fun p hp=>?_,V5⟩;obtain⟨v,_,rfl⟩:=List.mem_map.1 hp;exact .inl trivial
theorem MB{G:Yl}{P:Program}{f:FuncId}{vs vs':List Value}{args vals:Al}{us rs:List Value}(hs:Eb G P f (.pbox (vs.map .sc)::args) ⟨vals,[vs'.map .sc]⟩)(ha:Bo HY args us)(hr:Bo HY vals rs){w:World}{b o:Nat}(hG:G.ok w)(hGl:∀k,G.bl k->k<w.heap.size/\k≠b)(hb:b<w.heap.size)(hc:∀j v,vs[j]?=some v->w.cell? ⟨b,o+j,none⟩=some v)(hf:∀j,j<vs.length->w.frozen? ⟨b,o+j,none⟩=false):
  Calls P f (.pointer (some ⟨b,o,none⟩)::us).toArray w fun e w'=>e=.returned (Jc rs)/\vs'.length=vs.length/\(∀j v,vs'[j]?=some v->w'.cell? ⟨b,o+j,none⟩=some v)/\(∀j,j<vs.length->w'.frozen? ⟨b,o+j,none⟩=false)/\F4 w w' b o vs.length:=by
 have hi:Ins w (fun _=>False) (bt1 b o) (.pbox (vs.map .sc)::args) (.pointer (some ⟨b,o,none⟩)::us):=by
  refine⟨fun _ h=>h.elim,fun _ h=>h.elim,fun k h=>by rw[Ajz h];exact hb,fun i j i' j' k x x' h h'=>?_,fun i q h=>?_,?_,AE ha⟩
  ·unfold bt1 at h h';split at h
   ·split at h'
    ·exact⟨rfl,rfl⟩
    ·cases h'
   ·cases h
  ·unfold bt1 at h;split at h
   ·exact⟨_,rfl,rfl⟩
   ·cases h
  ·refine⟨b,o,rfl,rfl,fun p hp=>?_,vs,V5,hc,fun k hk=>hf k (by simpa using hk)⟩;obtain⟨v,_,rfl⟩:=List.mem_map.1 hp;exact .inl trivial
 have Do:∀i,∀q,(bt1 b o) i 0=some q->i=0/\q=(b,o):=by
  intro i q h;unfold bt1 at h;split at h
  ·cases h;exact⟨rfl,rfl⟩
  ·cases h
 refine (hs.2 w _ _ _ hi hG (fun k hk=>⟨(hGl k hk).1,fun hx=>(hGl k hk).2 (Ajz hx)⟩)).mono ?_
 rintro e w' ⟨ws,own,rfl,out⟩
 have hv:=GC hr out.vals;subst hv;have ho:=out.outs;obtain⟨⟨b',o',h1,h2,zs,h3,h4,h5⟩,_⟩:=(show (∃b' o',(bt1 b o) 0 0=some (b',o')/\(vs'.map PV.sc).length=(vs.map PV.sc).length/\Ajc w' (FY (bt1 b o) own (fun _=>False)) own (M1 vals) b' o' (vs'.map .sc))/\_ from ho)
 cases h1;have hz:=Wh h3;subst hz;simp only[List.length_map] at h2 h5
 have hL:∀k j,k<w.heap.size->(k≠b\/j<o\/o+vs.length<=j)->¬GJ (bt1 b o) (.pbox (vs.map .sc)::args) k j:=by
  rintro k j hk Er ⟨i,p,hp,hq⟩
  rcases hq with⟨x,y,hq,_⟩|⟨y,ps,hq,hy,K7⟩
  ·unfold bt1 at hq;split at hq
   ·rename_i h;cases h
   ·cases hq
  ·obtain⟨rfl,h⟩:=Do i _ hq;cases h;have:p=.pbox (vs.map .sc):=by simpa using hp.symm
   subst this;rcases K7 with⟨e,Cx⟩|e
   ·injection e with e;subst e;rw[List.length_map] at Cx;rcases Er with h|h|h
    ·exact h rfl
    ·omega
    ·omega
   ·cases e
 refine⟨rfl,h2,h4,fun j hj=>h5 j (by omega),out.os,out.tape,out.output,out.ext.size,out.ext.bs b hb,fun k hk Er=>out.ext.keep k hk fun hx=>Er (Ajz hx),fun j hj=>(out.rng b j hb (hL b j hb (.inr hj))).1,fun j hj=>(out.rng b j hb (hL b j hb (.inr hj))).2⟩
end
section
open Go.RowKit
theorem R7{w w':World}{Y:Nat->Prop}{bt:AO}{args:Al}{v:Value}(hb:Below w.heap.size w w')(ho:Xe w' (FY bt (fun _=>none) Y) (fun _=>none) bt (M1 [.sc v]) 0 args []):
  Out w w' Y bt args (fun _=>none) ⟨[.sc v],[]⟩ [v] where
 os:=hb.os
 tape:=hb.tape
 output:=hb.output
 ext:=⟨hb.size,fun b h _=>hb.block b h,fun b h=>Iw.same (hb.block b h)⟩
 rng:=fun b j h _=>⟨by unfold World.cell?;simp only[hb.block b h],by unfold World.frozen?;simp only[hb.block b h]⟩
 vals:=⟨A3.sc v,trivial⟩
 outs:=ho
 fresh:=fun j b o h=>by cases h
 inj:=fun j j' b o o' h=>by cases h
end
section
open Go.RowKit
theorem Acf(G:Yl)(args:Al)(res:Bz)(h:Aql args=some res):Eb G prog 88 args res:=by
 refine⟨⟨_,Tryz.func88,by kernel_rfl⟩,fun w Y bt us hi _ _=>?_⟩;unfold Aql at h;split at h
 rotate_left
 ·cases h
 rename_i s c;cases h;have ps:=hi.args
 match us,ps with
 |[u1,u2],ps=>
  obtain⟨⟨_,p1⟩,⟨_,p2⟩,_⟩:=ps;have e1:u1=.string s:=A3.val (show A3 w _ (.sc (.string s)) u1 from p1);have e2:u2=.int .u8 c:=A3.val (show A3 w _ (.sc (.int .u8 c)) u2 from p2);subst e1 e2
  have walk:Calls prog 88 #[.string s,.int .u8 c] w fun e w'=>e=.returned (.int .i64 (Lib.indexByte s.data.toList c.toNat.toUInt8))/\w'=w:=by
   go_enter Tryz.func88,Tryz.ntmps88
   go_wp2
   rw[run_callFunc_extern Tryz.func108 (by kernel_rfl) (by kernel_rfl) (by kernel_rfl) (e:=Extern.BytealgIndexByte.indexByte) (by kernel_rfl),Lib.run_indexByteString];simp only[Result.andThen];rw[Oper.upon_value]
   go_wp2
   go_ret
   exact⟨rfl,rfl⟩
  refine walk.mono ?_
  rintro e w' ⟨rfl,rfl⟩
  exact⟨[.int .i64 (Lib.indexByte s.data.toList c.toNat.toUInt8)],fun _=>none,rfl,R7 (Below.refl _ _) rfl⟩
 |[],ps=>exact ps.elim
 |[_],ps=>exact ps.2.elim
 |_::_::_::_,ps=>exact ps.2.2.elim
theorem Ai9{p:ByteArray}(h:p.size=1):p=⟨#[p[0]!]⟩:=by
 obtain⟨⟨l⟩⟩:=p
 match l,h with
 |[x],_=>rfl
theorem Aec(G:Yl)(args:Al)(res:Bz)(h:Arg args=some res):Eb G prog 102 args res:=by
 refine⟨⟨_,Tryz.func102,by kernel_rfl⟩,fun w Y bt us hi _ _=>?_⟩;unfold Arg at h;split at h
 rotate_left
 ·cases h
 rename_i s p;cases hq:Nat.beq p.size 1
 ·rw[hq] at h;cases h
 rw[hq,cond_true] at h;cases h;have hp:=Ai9 (D9 hq);generalize (p[0]!)=c at hp ⊢;subst hp;have ps:=hi.args
 match us,ps with
 |[u1,u2],ps=>
  obtain⟨⟨_,p1⟩,⟨_,p2⟩,_⟩:=ps;have e1:u1=.string s:=A3.val (show A3 w _ (.sc (.string s)) u1 from p1);have e2:u2=.string ⟨#[c]⟩:=A3.val (show A3 w _ (.sc (.string ⟨#[c]⟩)) u2 from p2);subst e1 e2
  have walk:Calls prog 102 #[.string s,.string ⟨#[c]⟩] w fun e w'=>e=.returned (.int .i64 (Lib.countByte s.data.toList c))/\w'=w:=by
   go_enter Tryz.func102,Tryz.ntmps102
   go_wp2
   rw[run_callFunc_extern Tryz.func115 (by kernel_rfl) (by kernel_rfl) (by kernel_rfl) (e:=Extern.BytealgCount.count) (by kernel_rfl),Lib.run_countString];simp only[Result.andThen];rw[Oper.upon_value]
   go_wp2
   go_ret
   exact⟨rfl,rfl⟩
  refine walk.mono ?_
  rintro e w' ⟨rfl,rfl⟩
  exact⟨[.int .i64 (Lib.countByte s.data.toList c)],fun _=>none,rfl,R7 (Below.refl _ _) rfl⟩
 |[],ps=>exact ps.elim
 |[_],ps=>exact ps.2.elim
 |_::_::_::_,ps=>exact ps.2.2.elim
end
theorem Ap5(a b:Nat)(ha:a<4294967296)(hb:b<4294967296):bits .or .u32 ((a:Nat):Int) ((b:Nat):Int)=((a ||| b:Nat):Int):=by
 have hx:a ||| b<2 ^ 32:=Nat.or_lt_two_pow (by omega) (by omega)
 have h1:(BitVec.ofInt 32 (a:Int)).toNat=a:=by
  rw[BitVec.ofInt_natCast,BitVec.toNat_ofNat];exact Nat.mod_eq_of_lt (by omega)
 have h2:(BitVec.ofInt 32 (b:Int)).toNat=b:=by
  rw[BitVec.ofInt_natCast,BitVec.toNat_ofNat];exact Nat.mod_eq_of_lt (by omega)
 show IntKind.u32.wrap ((BitVec.ofInt 32 (a:Int) ||| BitVec.ofInt 32 (b:Int)).toNat:Int)=_;rw[BitVec.toNat_or,h1,h2];simp only[wrap,IntKind.bits,IntKind.signed,CS,Bool.false_eq_true,if_false];omega
theorem Axc(a b:Nat)(ha:a<4294967296)(hb:b<4294967296):bits .and .u32 ((a:Nat):Int) ((b:Nat):Int)=((a &&& b:Nat):Int):=by
 have hx:a &&& b<2 ^ 32:=Nat.and_lt_two_pow _ (by omega)
 have h1:(BitVec.ofInt 32 (a:Int)).toNat=a:=by
  rw[BitVec.ofInt_natCast,BitVec.toNat_ofNat];exact Nat.mod_eq_of_lt (by omega)
 have h2:(BitVec.ofInt 32 (b:Int)).toNat=b:=by
  rw[BitVec.ofInt_natCast,BitVec.toNat_ofNat];exact Nat.mod_eq_of_lt (by omega)
 show IntKind.u32.wrap ((BitVec.ofInt 32 (a:Int) &&& BitVec.ofInt 32 (b:Int)).toNat:Int)=_;rw[BitVec.toNat_and,h1,h2];simp only[wrap,IntKind.bits,IntKind.signed,CS,Bool.false_eq_true,if_false];omega
def K6(a b c:Int):Am:=[F0 (a / 4),F0 (a % 4*16+b / 16),F0 (b % 16*4+c / 64),F0 (c % 64)]
abbrev Apg(a b c:Int):Int:=bits .or .u32 (bits .or .u32 (a % 4294967296*65536 % 4294967296) (b % 4294967296*256 % 4294967296)) (c % 4294967296)
theorem Ags{a b c:Int}(h:Ct [a,b,c]):Apg a b c=a*65536+b*256+c:=by
 obtain⟨ha,h⟩:=Bi h;obtain⟨hb,h⟩:=Bi h;obtain⟨hc,h⟩:=Bi h;obtain⟨a,rfl⟩:=Int.eq_ofNat_of_zero_le ha.1;obtain⟨b,rfl⟩:=Int.eq_ofNat_of_zero_le hb.1;obtain⟨c,rfl⟩:=Int.eq_ofNat_of_zero_le hc.1;have e1:(a:Int) % 4294967296*65536 % 4294967296=((a*65536:Nat):Int):=by omega
 have e2:(b:Int) % 4294967296*256 % 4294967296=((b*256:Nat):Int):=by omega
 have e3:(c:Int) % 4294967296=(c:Int):=by omega
 show bits .or .u32 (bits .or .u32 _ _) _=_;rw[e1,e2,e3,Ap5 _ _ (by omega) (by omega)]
 have h1:a*65536 ||| b*256=a*65536+b*256:=by
  have:=Nat.shiftLeft_add_eq_or_of_lt (show b*256<2 ^ 16 by omega) a;rw[Nat.shiftLeft_eq,show (2:Nat) ^ 16=65536 from rfl] at this;exact this.symm
 rw[h1,Ap5 _ _ (by omega) (by omega)]
 have h2:a*65536+b*256 ||| c=a*65536+b*256+c:=by
  have:=Nat.shiftLeft_add_eq_or_of_lt (show c<2 ^ 8 by omega) (a*256+b);rw[Nat.shiftLeft_eq] at this;have e:(a*256+b)*2 ^ 8=a*65536+b*256:=by omega
  rw[e] at this;exact this.symm
 rw[h2];omega
theorem A1t{a b c:Int}(h:Ct [a,b,c])(j:Nat)(hj:j<4):∃q,0<=q/\q<64/\bits .and .u32 (Apg a b c / 2 ^ (18-6*j)) 63=q/\(K6 a b c)[j]?=some (F0 q):=by
 rw[Ags h];obtain⟨ha,h⟩:=Bi h;obtain⟨hb,h⟩:=Bi h;obtain⟨hc,h⟩:=Bi h
 have key:∀x:Int,0<=x->x<4294967296->bits .and .u32 x 63=x % 64:=by
  intro x h0 h1;obtain⟨n,rfl⟩:=Int.eq_ofNat_of_zero_le h0;have:=Axc n 63 (by omega) (by omega);rw[show ((63:Nat):Int)=63 from rfl] at this;show bits BinOp.and IntKind.u32 (n:Int) 63=(n:Int) % 64;rw[this,show (63:Nat)=2 ^ 6-1 by decide,Nat.and_two_pow_sub_one_eq_mod n 6];omega
 match j,hj with
 |0,_=>
  refine⟨_,?_,?_,key _ ?_ ?_,?_⟩
  ·show 0<=(a*65536+b*256+c) / 262144 % 64;omega
  ·show (a*65536+b*256+c) / 262144 % 64<64;omega
  ·show 0<=(a*65536+b*256+c) / 262144;omega
  ·show (a*65536+b*256+c) / 262144<_;omega
  ·show some (F0 _)=some (F0 ((a*65536+b*256+c) / 262144 % 64))
   congr 2;omega
 |1,_=>
  refine⟨_,?_,?_,key _ ?_ ?_,?_⟩
  ·show 0<=(a*65536+b*256+c) / 4096 % 64;omega
  ·show (a*65536+b*256+c) / 4096 % 64<64;omega
  ·show 0<=(a*65536+b*256+c) / 4096;omega
  ·show (a*65536+b*256+c) / 4096<_;omega
  ·show some (F0 _)=some (F0 ((a*65536+b*256+c) / 4096 % 64))
   congr 2;omega
 |2,_=>
  refine⟨_,?_,?_,key _ ?_ ?_,?_⟩
  ·show 0<=(a*65536+b*256+c) / 64 % 64;omega
  ·show (a*65536+b*256+c) / 64 % 64<64;omega
  ·show 0<=(a*65536+b*256+c) / 64;omega
  ·show (a*65536+b*256+c) / 64<_;omega
  ·show some (F0 _)=some (F0 ((a*65536+b*256+c) / 64 % 64))
   congr 2;omega
 |3,_=>
  refine⟨_,?_,?_,key _ ?_ ?_,?_⟩
  ·show 0<=(a*65536+b*256+c) / 1 % 64;omega
  ·show (a*65536+b*256+c) / 1 % 64<64;omega
  ·show 0<=(a*65536+b*256+c) / 1;omega
  ·show (a*65536+b*256+c) / 1<_;omega
  ·show some (F0 _)=some (F0 ((a*65536+b*256+c) / 1 % 64))
   congr 2;omega
def Ow:ByteArray:=⟨#[65,66,67,68,69,70,71,72,73,74,75,76,77,78,79,80,81,82,83,84,85,86,87,88,89,90,97,98,99,100,101,102,103,104,105,106,107,108,109,110,111,112,113,114,115,116,117,118,119,120,121,122,48,49,50,51,52,53,54,55,56,57,45,95]⟩
theorem Aeh:Ow.size=64:=rfl
theorem Ah3:∀n:Fin 64,((Ow[n.val]'n.isLt).toNat:Int)=F0 (n.val:Int):=by decide +kernel
theorem Al0{q:Int}(h0:0<=q)(h1:q<64)(h:q.toNat<Ow.size):((Ow[q.toNat]'(h)).toNat:Int)=F0 q:=by have:=Ah3 ⟨q.toNat,h⟩;refine this.trans (congrArg F0 ?_);show (q.toNat:Int)=q;omega
theorem JQ{q:Int}(h0:0<=q)(h1:q<64):0<=F0 q/\F0 q<=255:=by
 unfold F0;split
 ·omega
 split
 ·omega
 split
 ·omega
 split<;>omega
theorem Aq8{a b c:Int}(h:Ct [a,b,c]):Ct (K6 a b c):=by obtain⟨ha,h⟩:=Bi h;obtain⟨hb,h⟩:=Bi h;obtain⟨hc,h⟩:=Bi h;intro x hx;simp[K6] at hx;rcases hx with rfl|rfl|rfl|rfl<;>apply JQ<;>omega
theorem Js{a b:Am}(ha:Ct a)(hb:Ct b):Ct (a++b):=by
 intro x hx;rcases Bu.1 hx with h|h
 ·exact ha x h
 ·exact hb x h
theorem Ah5{a:Am}(ha:Ct a)(k:Nat):Ct (a.take k):=fun x hx=>ha x (List.mem_of_mem_take hx)
theorem Ai4{a:Am}(ha:Ct a)(k:Nat):Ct (a.drop k):=fun x hx=>ha x (List.mem_of_mem_drop hx)
theorem Aed:∀(l:Am),Ct l->l≠[]->∃a b c,Ct [a,b,c]/\Eo l=(K6 a b c).take (min l.length 3+1)++Eo (l.drop (min l.length 3))/\[a,b,c].take (min l.length 3)=l.take (min l.length 3)/\(l.length<3->c=0)/\(l.length<2->b=0)
 |[],_,h=>absurd rfl h
 |[a],h,_=>by
  have:=Bi h;refine⟨a,0,0,?_,?_,rfl,fun _=>rfl,fun _=>rfl⟩
  ·intro x hx;simp at hx;rcases hx with rfl|rfl<;>omega
  ·simp[Eo,K6]
 |[a,b],h,_=>by
  have h1:=Bi h;have h2:=Bi h1.2;refine⟨a,b,0,?_,?_,rfl,fun _=>rfl,fun h=>?_⟩
  ·intro x hx;simp at hx;rcases hx with rfl|rfl|rfl<;>omega
  ·simp[Eo,K6]
  ·simp at h
 |a::b::c::r,h,_=>by
  have e:min (a::b::c::r).length 3=3:=by simp
  rw[e];refine⟨a,b,c,?_,?_,rfl,fun h=>?_,fun h=>?_⟩
  ·intro x hx;refine h x ?_;simp at hx ⊢;rcases hx with rfl|rfl|rfl<;>simp
  ·simp[Eo,K6]
  ·simp at h;omega
  ·simp at h;omega
section
open Go.Shelf Go.RowKit Go.Lib
def SN:Go.Shelf.Ren:=⟨fun|119=>122|120=>118|137=>65|151=>106|152=>117|160=>63|167=>40|168=>91|169=>41|197=>105|217=>88|224=>99|225=>98|227=>82|228=>104|231=>80|232=>81|233=>83|234=>84|235=>85|236=>86|240=>64|242=>110|260=>116|266=>108|271=>107|276=>87|278=>121|n=>n,fun|0=>0|3=>3|4=>4|5=>5|9=>9|20=>20|21=>21|37=>29|46=>58|51=>85|70=>81|72=>83|75=>87|80=>89|105=>147|116=>130|117=>131|119=>91|124=>134|127=>113|138=>93|139=>94|164=>135|n=>n,fun|3=>0|4=>1|n=>n⟩
theorem HE:Lays.n167 prog SN:={
 mixed:=by kernel_rfl
 f167:=Tryz.func40.trans (congrArg some (by kernel_rfl))
 f240:=Tryz.func64.trans (congrArg some (by kernel_rfl))
 f276:=Tryz.func87.trans (congrArg some (by kernel_rfl))
 t0:=Tryz.underlying0
 a0:=Tryz.isAgg0
 z0:=Tryz.sizeOf0
 v0:=Tryz.zeroValue0
 t4:=Tryz.underlying4
 a4:=Tryz.isAgg4
 z4:=Tryz.sizeOf4
 v4:=Tryz.zeroValue4
 t5:=Tryz.underlying5
 a5:=Tryz.isAgg5
 z5:=Tryz.sizeOf5
 v5:=Tryz.zeroValue5
 t9:=Tryz.underlying9
 a9:=Tryz.isAgg9
 z9:=Tryz.sizeOf9
 v9:=Tryz.zeroValue9
 t20:=Tryz.underlying20
 a20:=Tryz.isAgg20
 z20:=Tryz.sizeOf20
 v20:=Tryz.zeroValue20
 t37:=Tryz.underlying29
 a37:=Tryz.isAgg29
 z37:=Tryz.sizeOf29
 v37:=Tryz.zeroValue29
 t70:=Tryz.underlying81
 a70:=Tryz.isAgg81
 z70:=Tryz.sizeOf81
 v70:=Tryz.zeroValue81
 t72:=Tryz.underlying83
 a72:=Tryz.isAgg83
 z72:=Tryz.sizeOf83
 v72:=Tryz.zeroValue83
 t75:=Tryz.underlying87
 a75:=Tryz.isAgg87
 z75:=Tryz.sizeOf87
 v75:=Tryz.zeroValue87
 t164:=Tryz.underlying135
 a164:=Tryz.isAgg135
 z164:=Tryz.sizeOf135
 v164:=Tryz.zeroValue135 }
theorem WN:Lays.n168 prog SN:={
 mixed:=by kernel_rfl
 f168:=Tryz.func91.trans (congrArg some (by kernel_rfl))
 f240:=Tryz.func64.trans (congrArg some (by kernel_rfl))
 f242:=Tryz.func110.trans (congrArg some (by kernel_rfl))
 f276:=Tryz.func87.trans (congrArg some (by kernel_rfl))
 f278:=Tryz.func121.trans (congrArg some (by kernel_rfl))
 t0:=Tryz.underlying0
 a0:=Tryz.isAgg0
 z0:=Tryz.sizeOf0
 v0:=Tryz.zeroValue0
 t3:=Tryz.underlying3
 a3:=Tryz.isAgg3
 z3:=Tryz.sizeOf3
 v3:=Tryz.zeroValue3
 t4:=Tryz.underlying4
 a4:=Tryz.isAgg4
 z4:=Tryz.sizeOf4
 v4:=Tryz.zeroValue4
 t5:=Tryz.underlying5
 a5:=Tryz.isAgg5
 z5:=Tryz.sizeOf5
 v5:=Tryz.zeroValue5
 t9:=Tryz.underlying9
 a9:=Tryz.isAgg9
 z9:=Tryz.sizeOf9
 v9:=Tryz.zeroValue9
 t20:=Tryz.underlying20
 a20:=Tryz.isAgg20
 z20:=Tryz.sizeOf20
 v20:=Tryz.zeroValue20
 t21:=Tryz.underlying21
 a21:=Tryz.isAgg21
 z21:=Tryz.sizeOf21
 v21:=Tryz.zeroValue21
 t37:=Tryz.underlying29
 a37:=Tryz.isAgg29
 z37:=Tryz.sizeOf29
 v37:=Tryz.zeroValue29
 t46:=Tryz.underlying58
 a46:=Tryz.isAgg58
 z46:=Tryz.sizeOf58
 v46:=Tryz.zeroValue58
 t51:=Tryz.underlying85
 a51:=Tryz.isAgg85
 z51:=Tryz.sizeOf85
 v51:=Tryz.zeroValue85
 t70:=Tryz.underlying81
 a70:=Tryz.isAgg81
 z70:=Tryz.sizeOf81
 v70:=Tryz.zeroValue81
 t72:=Tryz.underlying83
 a72:=Tryz.isAgg83
 z72:=Tryz.sizeOf83
 v72:=Tryz.zeroValue83
 t75:=Tryz.underlying87
 a75:=Tryz.isAgg87
 z75:=Tryz.sizeOf87
 v75:=Tryz.zeroValue87
 t164:=Tryz.underlying135
 a164:=Tryz.isAgg135
 z164:=Tryz.sizeOf135
 v164:=Tryz.zeroValue135 }
theorem HU:Lays.n169 prog SN:={
 mixed:=by kernel_rfl
 f169:=Tryz.func41.trans (congrArg some (by kernel_rfl))
 t0:=Tryz.underlying0
 a0:=Tryz.isAgg0
 z0:=Tryz.sizeOf0
 v0:=Tryz.zeroValue0
 t3:=Tryz.underlying3
 a3:=Tryz.isAgg3
 z3:=Tryz.sizeOf3
 v3:=Tryz.zeroValue3
 t9:=Tryz.underlying9
 a9:=Tryz.isAgg9
 z9:=Tryz.sizeOf9
 v9:=Tryz.zeroValue9
 t37:=Tryz.underlying29
 a37:=Tryz.isAgg29
 z37:=Tryz.sizeOf29
 v37:=Tryz.zeroValue29
 t70:=Tryz.underlying81
 a70:=Tryz.isAgg81
 z70:=Tryz.sizeOf81
 v70:=Tryz.zeroValue81
 t72:=Tryz.underlying83
 a72:=Tryz.isAgg83
 z72:=Tryz.sizeOf83
 v72:=Tryz.zeroValue83
 t127:=Tryz.underlying113
 a127:=Tryz.isAgg113
 z127:=Tryz.sizeOf113
 v127:=Tryz.zeroValue113 }
theorem YF:Lays.n160 prog SN:={
 mixed:=by kernel_rfl
 f119:=Tryz.func122.trans (congrArg some (by kernel_rfl))
 f120:=Tryz.func118.trans (congrArg some (by kernel_rfl))
 f137:=Tryz.func65.trans (congrArg some (by kernel_rfl))
 f151:=Tryz.func106.trans (congrArg some (by kernel_rfl))
 f152:=Tryz.func117.trans (congrArg some (by kernel_rfl))
 f160:=Tryz.func63.trans (congrArg some (by kernel_rfl))
 f197:=Tryz.func105.trans (congrArg some (by kernel_rfl))
 f217:=Tryz.func88.trans (congrArg some (by kernel_rfl))
 f224:=Tryz.func99.trans (congrArg some (by kernel_rfl))
 f225:=Tryz.func98.trans (congrArg some (by kernel_rfl))
 f227:=Tryz.func82.trans (congrArg some (by kernel_rfl))
 f228:=Tryz.func104.trans (congrArg some (by kernel_rfl))
 f231:=Tryz.func80.trans (congrArg some (by kernel_rfl))
 f232:=Tryz.func81.trans (congrArg some (by kernel_rfl))
 f233:=Tryz.func83.trans (congrArg some (by kernel_rfl))
 f234:=Tryz.func84.trans (congrArg some (by kernel_rfl))
 f235:=Tryz.func85.trans (congrArg some (by kernel_rfl))
 f236:=Tryz.func86.trans (congrArg some (by kernel_rfl))
 f260:=Tryz.func116.trans (congrArg some (by kernel_rfl))
 f266:=Tryz.func108.trans (congrArg some (by kernel_rfl))
 f271:=Tryz.func107.trans (congrArg some (by kernel_rfl))
 t0:=Tryz.underlying0
 a0:=Tryz.isAgg0
 z0:=Tryz.sizeOf0
 v0:=Tryz.zeroValue0
 t3:=Tryz.underlying3
 a3:=Tryz.isAgg3
 z3:=Tryz.sizeOf3
 v3:=Tryz.zeroValue3
 t4:=Tryz.underlying4
 a4:=Tryz.isAgg4
 z4:=Tryz.sizeOf4
 v4:=Tryz.zeroValue4
 t5:=Tryz.underlying5
 a5:=Tryz.isAgg5
 z5:=Tryz.sizeOf5
 v5:=Tryz.zeroValue5
 t9:=Tryz.underlying9
 a9:=Tryz.isAgg9
 z9:=Tryz.sizeOf9
 v9:=Tryz.zeroValue9
 t21:=Tryz.underlying21
 a21:=Tryz.isAgg21
 z21:=Tryz.sizeOf21
 v21:=Tryz.zeroValue21
 t46:=Tryz.underlying58
 a46:=Tryz.isAgg58
 z46:=Tryz.sizeOf58
 v46:=Tryz.zeroValue58
 t105:=Tryz.underlying147
 a105:=Tryz.isAgg147
 z105:=Tryz.sizeOf147
 v105:=Tryz.zeroValue147
 t116:=Tryz.underlying130
 a116:=Tryz.isAgg130
 z116:=Tryz.sizeOf130
 t117:=Tryz.underlying131
 a117:=Tryz.isAgg131
 z117:=Tryz.sizeOf131
 v117:=Tryz.zeroValue131
 t119:=Tryz.underlying91
 a119:=Tryz.isAgg91
 z119:=Tryz.sizeOf91
 t124:=Tryz.underlying134
 a124:=Tryz.isAgg134
 z124:=Tryz.sizeOf134
 v124:=Tryz.zeroValue134
 t138:=Tryz.underlying93
 a138:=Tryz.isAgg93
 z138:=Tryz.sizeOf93
 v138:=Tryz.zeroValue93
 t139:=Tryz.underlying94
 a139:=Tryz.isAgg94
 z139:=Tryz.sizeOf94
 v139:=Tryz.zeroValue94
 g3:=by kernel_rfl
 g4:=by kernel_rfl }
theorem V4:Builder.Extra prog SN:={
 sizeBuilder:=by kernel_rfl
 liesBuilder:=by kernel_rfl
 t5:=Tryz.underlying5
 a5:=Tryz.isAgg5
 z5:=Tryz.sizeOf5
 v5:=Tryz.zeroValue5
 infoByte:=by kernel_rfl
 cellsByte:=by kernel_rfl
 sizeByte:=by kernel_rfl
 neB5:=by decide }
end
section
open Go.RowKit Go.Lib
section
variable {P:Program}
theorem Aes(w:World)(dT sT ty elem:TypeId)(i:TypeInfo)(b o dLen dCap:Nat)(a:Addr)(sLen sCap k:Nat)(cs:List Value)(hu:P.underlying dT=some (.slice elem))(hq:P.info? elem=some i)(hk:k=Nat.min sLen dLen)(hn:cs.length=k*i.size)(Y2:∀j v,cs[j]?=some v->w.cell? (a.add j)=some v)(hc:∀j,j<cs.length->(w.cell? ⟨b,o+j,none⟩).isSome=true)(hf:∀j,j<cs.length->w.frozen? ⟨b,o+j,none⟩=false)(h1:∀v∈cs,v.oneCell'=true):
  (Builtin.copy_ #[dT,sT] ty #[.slice (some ⟨b,o,none⟩) dLen dCap,.slice (some a) sLen sCap]).run P w=.ok (goInt k) (w.setCells b o cs):=by
 have hl:=run_loadCells_list (P:=P) w a cs Y2;have Hf:=run_storeCells_cells (P:=P) b o cs 0 w (by simpa using hc) (by simpa using hf) h1;simp[Builtin.copy_,run_underlying hu,Builtin.lenOf,Builtin.firstCells,sizeOf,typeInfo,hq,<-hk,<-hn,hl,Hf]
end
end
section
open Go.RowKit Go.Lib
abbrev UL(l:Am):List Value:=l.map (Value.int .u8)
theorem PL(a b:Am):UL (a++b)=UL a++UL b:=List.map_append
theorem All(x:Int):UL [x]=[Value.int .u8 x]:=rfl
theorem AV:∀{l:Am},Ct l->UL l=Lib.byteCells (l.map fun n=>n.toNat.toUInt8)
 |[],_=>rfl
 |x::l,h=>by
  obtain⟨hx,h⟩:=Bi h;show Value.int .u8 x::UL l=Value.int .u8 ((x.toNat.toUInt8).toNat:Int)::Lib.byteCells (l.map fun n=>n.toNat.toUInt8);rw[AV h]
  congr 2
  have:(x.toNat.toUInt8).toNat=x.toNat:=by
   show x.toNat % 256=x.toNat;omega
  rw[this];omega
def XS(w:World)(l:Am)(v:Value):Prop:=∃ad cap,v=.slice ad l.length cap/\l.length<=cap/\(l≠[]->∃b o,ad=some ⟨b,o,none⟩/\b<w.heap.size/\∀j x,l[j]?=some x->w.cell? ⟨b,o+j,none⟩=some (.int .u8 x))
theorem KS{T e:TypeId}{B b:Nat}{bs:List Value}{W W':World}(h:Lib.IsBuilderF T e B b bs W)(hb:Below W.heap.size W W'):Lib.IsBuilderF T e B b bs W':=by
 rcases h with h|h
 ·have Cx:=h.lt;obtain⟨hB,v,hv,Hg,Er⟩:=h;exact .inl ⟨hB,v,(hb.block b Cx).trans hv,Hg.kept (row:=none) ⟨hb.os,hb.tape,hb.output,hb.size,fun k hk _=>hb.block k hk⟩ (Classical.em _),Er⟩
 ·have Cx:=h.lt;obtain⟨hB,v,hv,Hg,Er⟩:=h;exact .inr ⟨hB,v,(hb.block b Cx).trans hv,Hg.kept (row:=none) ⟨hb.os,hb.tape,hb.output,hb.size,fun k hk _=>hb.block k hk⟩ (Classical.em _),Er⟩
theorem Pd{B:Nat}{a:World}(b:Nat)(hb:B<=b):∀(vs:List Value)(o:Nat){w:World},Below B a w->Below B a (w.setCells b o vs)
 |[],_,_,h=>h
 |v::r,o,w,h=>Pd b hb r (o+1) (h.setCell (p:=⟨b,o,none⟩) hb v)
theorem XT(wr:World)(b o cap:Nat)(l:Am)(Er:l≠[])(hb:b<wr.heap.size)(hc:∀j x,l[j]?=some x->wr.cell? ⟨b,o+j,none⟩=some (.int .u8 x))(a' b' c':Int)(k:Nat)(hk:k=min l.length 3)(ht:[a',b',c'].take k=l.take k)(h3:l.length<3->c'=0)(h2:l.length<2->b'=0):
  ∃W2,(∀ty,(Builtin.copy_ #[29,29] ty #[.slice (some ⟨wr.heap.size,0,none⟩) 3 3,.slice (some ⟨b,o,none⟩) l.length cap]).run prog (wr.alloc (.cells #[.int .u8 0,.int .u8 0,.int .u8 0] 84))=.ok (goInt k) W2)/\Below wr.heap.size wr W2/\wr.heap.size<W2.heap.size /\
   W2.cell? ⟨wr.heap.size,0,none⟩=some (.int .u8 a')/\W2.cell? ⟨wr.heap.size,1,none⟩=some (.int .u8 b')/\W2.cell? ⟨wr.heap.size,2,none⟩=some (.int .u8 c'):=by
 obtain⟨i0,hi0,M6,PJ⟩:=info_parts V4.infoByte;have Do:(l.take k).length=k:=by simp;omega
 have hc0:∀k,k<3->(wr.alloc (.cells #[.int .u8 0,.int .u8 0,.int .u8 0] 84)).cell? ⟨wr.heap.size,k,none⟩=some (.int .u8 0):=by
  intro k hk;simp only[World.cell?,World.alloc];simp
  match k,hk with
  |0,_=>rfl
  |1,_=>rfl
  |2,_=>rfl
 refine⟨(wr.alloc (.cells #[.int .u8 0,.int .u8 0,.int .u8 0] 84)).setCells wr.heap.size 0 (UL (l.take k)),fun ty=>?_,?_,?_,?_⟩
 ·refine Aes _ _ _ ty 5 i0 wr.heap.size 0 3 3 ⟨b,o,none⟩ l.length cap k (UL (l.take k)) ?_ hi0 ?_ ?_ ?_ ?_ ?_ ?_
  ·exact Tryz.underlying29
  ·exact hk
  ·rw[PJ.1];simp;omega
  ·intro j v hv
   have e0:(⟨b,o,none⟩:Addr).add j=⟨b,o+j,none⟩:=by
    unfold Addr.add;split
    ·subst j;rfl
    ·rfl
   rw[e0];rw[List.getElem?_map] at hv;obtain⟨x,hx,rfl⟩:=Option.map_eq_some_iff.1 hv
   have R4:l[j]?=some x:=by
    rw[List.getElem?_take] at hx;split at hx
    ·exact hx
    ·cases hx
   exact Lib.cell?_alloc_some _ (hc j x R4)
  ·intro j hj;rw[List.length_map,Do] at hj;rw[hc0 _ (by omega)];rfl
  ·intro j hj;exact World.frozen?_alloc_new wr _ _ _
  ·intro v hv;obtain⟨x,_,rfl⟩:=List.mem_map.1 hv;rfl
 ·exact Pd _ (Cc _) _ _ ((Below.refl _ wr).alloc (Cc _) _)
 ·have:=(Pd (B:=0) wr.heap.size (Nat.zero_le _) (UL (l.take k)) 0 (Below.refl 0 (wr.alloc (.cells #[.int .u8 0,.int .u8 0,.int .u8 0] 84)))).size;have e:(wr.alloc (.cells #[.int .u8 0,.int .u8 0,.int .u8 0] 84)).heap.size=wr.heap.size+1:=Array.size_push _;rw[e] at this;omega
 ·have F3:k=1\/k=2\/k=3:=by
   have:=List.length_pos_iff.2 Er;omega
  have Xg:∀i,i<k->∀x,[a',b',c'][i]?=some x->((wr.alloc (.cells #[.int .u8 0,.int .u8 0,.int .u8 0] 84)).setCells wr.heap.size 0 (UL (l.take k))).cell? ⟨wr.heap.size,i,none⟩=some (.int .u8 x):=by
   intro i hi x hx
   have h:=World.cell?_setCells_in wr.heap.size (UL (l.take k)) 0 (wr.alloc (.cells #[.int .u8 0,.int .u8 0,.int .u8 0] 84)) (fun j hj=>by
    rw[List.length_map,Do] at hj;rw[hc0 _ (by omega)];rfl) i (by rw[List.length_map,Do];exact hi)
   rw[Ob] at h;rw[h]
   have e:(UL (l.take k))[i]?=some (.int .u8 x):=by
    rw[<-ht,List.getElem?_map,List.getElem?_take_of_lt hi,hx];rfl
   rw[List.getElem?_eq_getElem (by rw[List.length_map,Do];exact hi)] at e
   exact e
  have Ys:∀i,k<=i->i<3->((wr.alloc (.cells #[.int .u8 0,.int .u8 0,.int .u8 0] 84)).setCells wr.heap.size 0 (UL (l.take k))).cell? ⟨wr.heap.size,i,none⟩=some (.int .u8 0):=by
   intro i hi h3;rw[World.cell?_setCells_out _ _ _ _ _ (fun _ _=>Or.inr (by rw[List.length_map,Do];show 0+k<=i;omega))]
   exact hc0 i h3
  refine⟨Xg 0 (by omega) _ rfl,?_,?_⟩
  ·by_cases h:1<k
   ·exact Xg 1 h _ rfl
   ·rw[h2 (by omega)];exact Ys 1 (by omega) (by omega)
  ·by_cases h:2<k
   ·exact Xg 2 h _ rfl
   ·rw[h3 (by omega)];exact Ys 2 (by omega) (by omega)
set_option maxHeartbeats 4000000 in
theorem Adw(l:Am)(hb:Ct l)(hl:l.length<=100000000)(u:Value)(w:World)(hu:XS w l u):
  Calls prog 24 #[u] w fun e w'=>e=.returned (.string (Aa (Eo l)))/\Below w.heap.size w w':=by
 have mixed:prog.follows Departure.mixedOrders=true:=by kernel_rfl
 go_enter Tryz.func24,Tryz.ntmps24
 go_wp2
 go_loopw [0] (fun v0 wr=>∃done rest,Eo l=done++Eo rest/\Ct done/\Ct rest/\rest.length<=l.length/\done.length+2*rest.length<=2*l.length/\XS w rest v0/\Lib.IsBuilderF 83 5 w.heap.size w.heap.size (UL done) wr/\Below w.heap.size w wr) (fun v0 _=>match v0 with | .slice _ n _=>n|_=>0)
 case atStart=>
  exact⟨[],l,rfl,(fun x hx=>by cases hx),hb,Cc _,by simp,hu,Lib.IsBuilderF.of (Lib.fresh_isBuilder 83 5 w),(Below.refl _ w).alloc (Cc _) _⟩
 case round=>
  obtain⟨done,rest,he,hd,hr,hrl,hdl,⟨ad,cap,rfl,Yf,Dv⟩,hI,hbw⟩:=hrel;have Oa:w.heap.size<=wr.heap.size:=hbw.size;by_cases hz:rest=[]
  ·subst hz
   go_wp2_with (go_at_call 41;refine (Any.Builder_String_any_k HU V4 w.heap.size w.heap.size (done.map fun n=>n.toNat.toUInt8) _ (by rw[<-AV hd];exact hI) (by omega)).mono ?_)
   rintro e W1 ⟨rfl,_,b1,_⟩
   go_wp2
   go_ret
   refine⟨?_,hbw.trans b1⟩;rw[he];simp[Eo,Aa]
  ·obtain⟨b,o,rfl,KM,Dv⟩:=Dv hz;have Acl:(0:Int)<rest.length:=by have:=List.length_pos_iff.2 hz;omega
   obtain⟨a',b',c',hB3,hen,htk,hc0,KZ⟩:=Aed rest hr hz;obtain⟨k,hk⟩:∃k,k=min rest.length 3:=⟨_,rfl⟩
   rw[<-hk] at hen htk;have E6:(0:Int)<=k/\(k:Int)<=3/\(k:Int)<=rest.length:=by omega
   obtain⟨W2,hcp,hbc,hgs,g0,g1,g2⟩:=XT wr b o cap rest hz (by omega) (fun j x hx=>by rw[hbw.cell (p:=⟨b,o+j,none⟩) KM];exact Dv j x hx) a' b' c' k hk htk hc0 KZ
   have hkl:k<=rest.length:=by omega
   have hkp:1<=k:=by have:=List.length_pos_iff.2 hz;omega
   clear hk
   go_wp2
   all_goals
    go_loopw [32] (fun v32 W=>∃j:Nat,v32=.int .i64 j/\j<=k+1/\Lib.IsBuilderF 83 5 w.heap.size w.heap.size (UL (done++(K6 a' b' c').take j)) W/\Below w.heap.size w W) (fun v32 _=>match v32 with | .int _ n=>(4-n).toNat|_=>0)
    case atStart=>
     exact⟨0,rfl,by omega,by simpa using KS hI hbc,hbw.trans (hbc.mono Oa)⟩
    case round=>
     obtain⟨j,rfl,hj,hIj,hbj⟩:=hrel;by_cases hjk:j<k+1
     ·have hj1:(j:Int)<k+1:=by omega
      obtain⟨q,Wm,V8,hq,hqq⟩:=A1t hB3 j (by omega);have ha:=Al0 Wm V8 (by rw[Aeh];omega)
      have A4h:(done++(K6 a' b' c').take j).length+1<=140737488355328:=by
       have:=List.length_take_le j (K6 a' b' c');rw[LG];omega
      have A0s:=hbj.size
      go_wp2_with (go_at_call 40;refine (Any.Builder_WriteByte_k HE V4 w.heap.size w.heap.size _ _ _ hIj (by rw[List.length_map];exact A4h) A0s).mono ?_)
      rintro e W1 ⟨rfl,h1,b1,k1⟩
      go_wp2
      go_roundw
      case rel=>
       refine⟨j+1,by simp,by omega,?_,hbj.trans b1⟩
       have e1:(K6 a' b' c').take (j+1)=(K6 a' b' c').take j++[F0 q]:=by
        rw[List.take_add_one,hqq];rfl
       rw[e1,<-Zzv,PL,All,<-ha];exact Or.inr h1
      case measure=>
       simp;omega
     ·have hj1:¬((j:Int)<k+1):=by omega
      have A5x:j=k+1:=by omega
      subst A5x
      go_wp2
      refine⟨⟨done++(K6 a' b' c').take (k+1),rest.drop k,?_,Js hd (Ah5 (Aq8 hB3) _),Ai4 hr _,?_,?_,?_,hIj,hbj⟩,?_⟩
      ·rw[Zzv,<-hen];exact he
      ·simp;omega
      ·have:=List.length_take_le (k+1) (K6 a' b' c');rw[LG,List.length_drop];omega
      ·refine⟨_,_,by rw[List.length_drop],?_,fun Er=>?_⟩
       ·rw[List.length_drop];omega
       have:k<rest.length:=by
        rcases Ht k rest.length with h|h
        ·exact h
        ·exact absurd (List.drop_eq_nil_iff.2 h) Er
       first
        |(exfalso;omega)
        |(refine⟨b,o+k,rfl,KM,fun i x hx=>?_⟩;rw[List.getElem?_drop] at hx;rw[Mu];exact Dv _ _ hx)
      ·simp;omega
end
section
open Go.RowKit
theorem MD:∀{c:Al}{l:Am},TO c=some l->c=Bk .u8 l/\Ct l
 |[],l,h=>by
  cases h;exact⟨rfl,fun x hx=>by cases hx⟩
 |p::c,l,h=>by
  unfold TO at h;split at h
  ·rename_i e;cases e
  ·rename_i n r e;cases e;cases hb:(decide (0<=n)&&decide (n<=255))
   ·rw[hb] at h;cases h
   ·rw[hb,cond_true] at h;simp only[Fb,AM] at hb;cases hr:TO c with
    |none=>rw[hr] at h;cases h
    |some l'=>
     rw[hr] at h;cases h;obtain⟨rfl,h2⟩:=MD hr;refine⟨rfl,fun x hx=>?_⟩;rcases List.mem_cons.1 hx with rfl|hx
     ·exact hb
     ·exact h2 x hx
  ·cases h
theorem Rt(k:IntKind):∀l:Am,Bk k l=l.map fun n=>.sc (.int k n)
 |[]=>rfl
 |x::l=>by
  show PV.sc (.int k x)::Bk k l=_;rw[Rt k l];rfl
theorem Ac2{w:World}{A:Nat->Prop}{bt:Bt}{z:Bool}{l:Am}{u:Value}(h:SQ w A bt (.lst z 1 l.length (Bk .u8 l)) u):XS w l u:=by
 have ht:A3 w A (.lst z 1 l.length (Bk .u8 l)) u:=h.2;generalize hc:Bk .u8 l=c at ht;generalize hn:l.length=n at ht;cases ht with
 |lnil=>exact⟨none,0,by rw[hn],by omega,fun Er=>absurd (List.eq_nil_of_length_eq_zero hn) Er⟩
 |lemp _ a cap=>exact⟨some a,cap,by rw[hn],by omega,fun Er=>absurd (List.eq_nil_of_length_eq_zero hn) Er⟩
 |lst _ _ _ a cap f hs hb hA hn' Dv h1 hr=>
  obtain⟨b,o,s⟩:=a;cases hs;refine⟨some ⟨b,o,none⟩,cap,by rw[hn],by omega,fun _=>⟨b,o,rfl,hb,fun j x hx=>?_⟩⟩;have e:c[j]?=some (.sc (.int .u8 x)):=by rw[<-hc,Rt,List.getElem?_map,hx];rfl
  have h2:=Dv j _ e;rw[(hr j _ e).val] at h2
  have e0:(⟨b,o,none⟩:Addr).add j=⟨b,o+j,none⟩:=by
   unfold Addr.add;split
   ·subst j;rfl
   ·rfl
  rw[e0] at h2;exact h2
theorem Ad6(G:Yl)(args:Al)(res:Bz)(h:Aq2 args=some res):Eb G prog 24 args res:=by
 refine⟨⟨_,Tryz.func24,by kernel_rfl⟩,fun w Y bt us hi _ _=>?_⟩;unfold Aq2 at h;split at h
 rotate_left
 ·cases h
 rename_i z n c;cases hq:(Nat.beq c.length n&&Nat.ble n 100000000)
 ·rw[hq] at h;cases h
 rw[hq,cond_true] at h;simp only[Fb] at hq;have hn:=D9 hq.1;have hm:=Rc hq.2;split at h
 rotate_left
 ·cases h
 rename_i l hl;cases h;obtain⟨rfl,hB⟩:=MD hl
 have Do:l.length=n:=by
  rw[<-hn,Rt,List.length_map]
 subst Do;have ps:=hi.args
 match us,ps with
 |[u1],ps=>
  refine (Adw l hB hm u1 w (Ac2 ps.1)).mono ?_
  rintro e w' ⟨rfl,hb⟩
  exact⟨[.string (Aa (Eo l))],fun _=>none,rfl,R7 hb rfl⟩
 |[],ps=>exact ps.elim
 |_::_::_,ps=>exact ps.2.elim
end
section
variable {xs:FuncId->Option (Al->Option Bz)}(fu d:Nat)(call:A7)
theorem Sh(Y Z:ByteArray):ZzE (CX xs) fu d 77 [.sc (.string Y),.sc (.string Z)] fun call=>As (decide ((↑(ByteArray.size Y):Int)>=(↑(ByteArray.size Z):Int))) (A6 (decide (Int.toNat (↑(ByteArray.size Z):Int)<=ByteArray.size Y))<|Ab (ByteArray.extract Y 0 (Int.toNat (↑(ByteArray.size Z):Int))) fun a=>Cg [.sc (.bool (Array.toList (ByteArray.data a)==Array.toList (ByteArray.data Z)))]) (Cg [.sc (.bool false)]):=by show _=_;kernel_rfl
theorem Ww(Z Y:ByteArray):ZzE (CX xs) fu d 89 [.sc (.string Z),.sc (.string Y)] fun call=>Fv (call 77 [.sc (.string Z),.sc (.string Y)]) fun a b=>Cb a fun a=>Af b<|Cg [.sc (.bool a)]:=by show _=_;kernel_rfl
theorem Rb(Y:ByteArray)(Z:Int):ZzE (CX xs) fu d 92 [.pbox [.sc (.string Y),Z]] fun call=>As (decide (Z<(↑(ByteArray.size Y):Int))) (A6 (decide (0<=Z))<|Dk ((Array.toList (ByteArray.data Y))[Z.toNat]?) fun a=>some ⟨[.sc (.int .u8 (↑(UInt8.toNat a):Int))],[[.sc (.string Y),Z]]⟩) (some ⟨[.sc (.int .u8 0)],[[.sc (.string Y),Z]]⟩):=by show _=_;kernel_rfl
theorem Ph(Z:ByteArray)(Y:Int)(X:ByteArray):ZzE (CX xs) fu d 66 [.pbox [.sc (.string Z),Y],.sc (.string X)] fun call=>A6 (decide (0<=Y))<|A6 (decide (Y.toNat<=ByteArray.size Z)&&decide (ByteArray.size Z<=ByteArray.size Z))<|Ab (ByteArray.extract Z Y.toNat (ByteArray.size Z)) fun a=>Fv (call 89 [.sc (.string a),.sc (.string X)]) fun a b=>Cb a fun a=>Af b<|As (!a) (some ⟨[.sc (.bool false)],[[.sc (.string Z),Y]]⟩) (Ab (wrap .i64 (Y+(↑(ByteArray.size X):Int))) fun a=>some ⟨[.sc (.bool true)],[[.sc (.string Z),a]]⟩):=by show _=_;kernel_rfl
theorem Xt(Z:Int):ZzE (CX xs) fu d 120 [.sc (.int .i32 Z)] fun call=>As (decide (Z>=56320)) (Cg [.sc (.bool (decide (Z<=57343)))]) (Cg [.sc (.bool false)]):=by show _=_;kernel_rfl
def Bn(Z:ByteArray)(Y:Int)(X:Nat)(W V:Int)(U:ByteArray)(T:Int):Option Bz:=Ri fu call 119 Tryz.f119 [.pbox [.sc (.string Z),Y]] [.r,.r,.l,.r,.l] X ⟨lk [(0,.ptr 120000 0),(4,.sc (.int .i32 W)),(6,V)],H4 [(120000,.st [.sc (.string U),T])]⟩
theorem Hd(X:ByteArray)(W:Int)(V:Nat)(Z Y:Int)(U:ByteArray)(T:Int):Bn fu call X W (V+1) Z Y U T=(As (decide (Y<4)) (Ah (call 92 [.pbox [.sc (.string U),T]]) fun a b=>Au .u8 a fun a=>Ac b fun b c=>Ac b fun b e=>Ai b fun b=>Au .i64 e fun e=>Af c<|As (decide (a>=48)) (As (decide (a<=57)) (Ab (H6 .i32 Z 4) fun c=>Ab (wrap .u8 (a-48)) fun a=>Ab (wrap .i32 a) fun a=>Ab (wrap .i32 (c+a)) fun a=>Ab (wrap .i64 (e+1)) fun c=>Ab (wrap .i64 (Y+1)) fun e=>Bn fu call X W V a e b c) (As (decide (a>=97)) (As (decide (a<=102)) (Ab (H6 .i32 Z 4) fun c=>Ab (wrap .u8 (a-97)) fun a=>Ab (wrap .i32 a) fun a=>Ab (wrap .i32 (c+a)) fun a=>Ab (wrap .i32 (a+10)) fun a=>Ab (wrap .i64 (e+1)) fun c=>Ab (wrap .i64 (Y+1)) fun e=>Bn fu call X W V a e b c) (As (decide (a>=65)) (As (decide (a<=70)) (Ab (H6 .i32 Z 4) fun c=>Ab (wrap .u8 (a-65)) fun a=>Ab (wrap .i32 a) fun a=>Ab (wrap .i32 (c+a)) fun a=>Ab (wrap .i32 (a+10)) fun a=>Ab (wrap .i64 (e+1)) fun c=>Ab (wrap .i64 (Y+1)) fun e=>Bn fu call X W V a e b c) (some ⟨[.sc (.int .i32 0),.sc (.bool false)],[[.sc (.string b),e]]⟩)) (some ⟨[.sc (.int .i32 0),.sc (.bool false)],[[.sc (.string b),e]]⟩))) (As (decide (a>=65)) (As (decide (a<=70)) (Ab (H6 .i32 Z 4) fun c=>Ab (wrap .u8 (a-65)) fun a=>Ab (wrap .i32 a) fun a=>Ab (wrap .i32 (c+a)) fun a=>Ab (wrap .i32 (a+10)) fun a=>Ab (wrap .i64 (e+1)) fun c=>Ab (wrap .i64 (Y+1)) fun e=>Bn fu call X W V a e b c) (some ⟨[.sc (.int .i32 0),.sc (.bool false)],[[.sc (.string b),e]]⟩)) (some ⟨[.sc (.int .i32 0),.sc (.bool false)],[[.sc (.string b),e]]⟩)))) (As (decide (a>=97)) (As (decide (a<=102)) (Ab (H6 .i32 Z 4) fun c=>Ab (wrap .u8 (a-97)) fun a=>Ab (wrap .i32 a) fun a=>Ab (wrap .i32 (c+a)) fun a=>Ab (wrap .i32 (a+10)) fun a=>Ab (wrap .i64 (e+1)) fun c=>Ab (wrap .i64 (Y+1)) fun e=>Bn fu call X W V a e b c) (As (decide (a>=65)) (As (decide (a<=70)) (Ab (H6 .i32 Z 4) fun c=>Ab (wrap .u8 (a-65)) fun a=>Ab (wrap .i32 a) fun a=>Ab (wrap .i32 (c+a)) fun a=>Ab (wrap .i32 (a+10)) fun a=>Ab (wrap .i64 (e+1)) fun c=>Ab (wrap .i64 (Y+1)) fun e=>Bn fu call X W V a e b c) (some ⟨[.sc (.int .i32 0),.sc (.bool false)],[[.sc (.string b),e]]⟩)) (some ⟨[.sc (.int .i32 0),.sc (.bool false)],[[.sc (.string b),e]]⟩))) (As (decide (a>=65)) (As (decide (a<=70)) (Ab (H6 .i32 Z 4) fun c=>Ab (wrap .u8 (a-65)) fun a=>Ab (wrap .i32 a) fun a=>Ab (wrap .i32 (c+a)) fun a=>Ab (wrap .i32 (a+10)) fun a=>Ab (wrap .i64 (e+1)) fun c=>Ab (wrap .i64 (Y+1)) fun e=>Bn fu call X W V a e b c) (some ⟨[.sc (.int .i32 0),.sc (.bool false)],[[.sc (.string b),e]]⟩)) (some ⟨[.sc (.int .i32 0),.sc (.bool false)],[[.sc (.string b),e]]⟩)))) (some ⟨[.sc (.int .i32 Z),.sc (.bool true)],[[.sc (.string U),T]]⟩)):=by kernel_rfl
theorem Nw(Z:ByteArray)(Y:Int):ZzE (CX xs) fu d 119 [.pbox [.sc (.string Z),Y]] fun call=>Bn fu call Z Y fu 0 0 Z (Y):=by show _=_;kernel_rfl
theorem Ng(Z:ByteArray)(Y:Int):ZzE (CX xs) fu d 109 [.pbox [.sc (.string Z),Y]] fun call=>Ah (call 119 [.pbox [.sc (.string Z),Y]]) fun a b=>Ca .i32 a fun a c=>F8 c fun c=>Ac b fun b e=>Ac b fun b f=>Ai b fun b=>Au .i64 f fun f=>Af e<|As (!c) (some ⟨[.sc (.int .i32 0),.sc (.bool false)],[[.sc (.string b),f]]⟩) (Fv (call 120 [.sc (.int .i32 a)]) fun c e=>Cb c fun c=>Af e<|As c (some ⟨[.sc (.int .i32 0),.sc (.bool false)],[[.sc (.string b),f]]⟩) (As (decide (a<55296)) (some ⟨[.sc (.int .i32 a),.sc (.bool true)],[[.sc (.string b),f]]⟩) (As (decide (a>56319)) (some ⟨[.sc (.int .i32 a),.sc (.bool true)],[[.sc (.string b),f]]⟩) (Ah (call 66 [.pbox [.sc (.string b),f],.sc (.string (ByteArray.mk #[92,117]))]) fun b c=>F8 b fun b=>Ac c fun c e=>Ac c fun c f=>Ai c fun c=>Au .i64 f fun f=>Af e<|As (!b) (some ⟨[.sc (.int .i32 0),.sc (.bool false)],[[.sc (.string c),f]]⟩) (Ah (call 119 [.pbox [.sc (.string c),f]]) fun b c=>Ca .i32 b fun b e=>F8 e fun e=>Ac c fun c f=>Ac c fun c g=>Ai c fun c=>Au .i64 g fun g=>Af f<|As (!e) (some ⟨[.sc (.int .i32 0),.sc (.bool false)],[[.sc (.string c),g]]⟩) (Fv (call 120 [.sc (.int .i32 b)]) fun e f=>Cb e fun e=>Af f<|As (!e) (some ⟨[.sc (.int .i32 0),.sc (.bool false)],[[.sc (.string c),g]]⟩) (Ab (wrap .i32 (a-55296)) fun a=>Ab (H6 .i32 a 10) fun a=>Ab (wrap .i32 (65536+a)) fun a=>Ab (wrap .i32 (b-56320)) fun b=>Ab (wrap .i32 (a+b)) fun a=>some ⟨[.sc (.int .i32 a),.sc (.bool true)],[[.sc (.string c),g]]⟩))))))):=by show _=_;kernel_rfl
theorem Lf(Z:ByteArray)(Y:Int):ZzE (CX xs) fu d 90 [.pbox [.sc (.string Z),Y]] fun call=>Ah (call 66 [.pbox [.sc (.string Z),Y],.sc (.string (ByteArray.mk #[117]))]) fun a b=>F8 a fun a=>Ac b fun b c=>Ac b fun b e=>Ai b fun b=>Au .i64 e fun e=>Af c<|As a (Ah (call 109 [.pbox [.sc (.string b),e]]) fun a b=>Ca .i32 a fun a c=>F8 c fun c=>Ac b fun b e=>Ac b fun b f=>Ai b fun b=>Au .i64 f fun f=>Af e<|some ⟨[.sc (.int .i32 a),.sc (.bool c)],[[.sc (.string b),f]]⟩) (Ah (call 92 [.pbox [.sc (.string b),e]]) fun a b=>Au .u8 a fun a=>Ac b fun b c=>Ac b fun b e=>Ai b fun b=>Au .i64 e fun e=>Af c<|Ab (wrap .i32 a) fun a=>As (a==34) (Ab (wrap .i64 (e+1)) fun c=>some ⟨[.sc (.int .i32 a),.sc (.bool true)],[[.sc (.string b),c]]⟩) (As (a==92) (Ab (wrap .i64 (e+1)) fun c=>some ⟨[.sc (.int .i32 a),.sc (.bool true)],[[.sc (.string b),c]]⟩) (As (a==47) (Ab (wrap .i64 (e+1)) fun c=>some ⟨[.sc (.int .i32 a),.sc (.bool true)],[[.sc (.string b),c]]⟩) (As (a==98) (Ab (wrap .i64 (e+1)) fun a=>some ⟨[.sc (.int .i32 8),.sc (.bool true)],[[.sc (.string b),a]]⟩) (As (a==102) (Ab (wrap .i64 (e+1)) fun a=>some ⟨[.sc (.int .i32 12),.sc (.bool true)],[[.sc (.string b),a]]⟩) (As (a==110) (Ab (wrap .i64 (e+1)) fun a=>some ⟨[.sc (.int .i32 10),.sc (.bool true)],[[.sc (.string b),a]]⟩) (As (a==114) (Ab (wrap .i64 (e+1)) fun a=>some ⟨[.sc (.int .i32 13),.sc (.bool true)],[[.sc (.string b),a]]⟩) (As (a==116) (Ab (wrap .i64 (e+1)) fun a=>some ⟨[.sc (.int .i32 9),.sc (.bool true)],[[.sc (.string b),a]]⟩) (some ⟨[.sc (.int .i32 0),.sc (.bool false)],[[.sc (.string b),e]]⟩))))))))):=by show _=_;kernel_rfl
end
def Dp(t:ByteArray)(r:Am):Prop:=∃pre,Eu t=pre++r
theorem Dp.all(t:ByteArray):Dp t (Eu t):=⟨[],rfl⟩
theorem Dp.len{t:ByteArray}{r:Am}(h:Dp t r):r.length<=t.size:=by obtain⟨pre,h⟩:=h;have:=congrArg List.length h;rw[Ik,LG] at this;omega
theorem Dp.app{t:ByteArray}{a r:Am}(h:Dp t (a++r)):Dp t r:=by obtain⟨pre,h⟩:=h;exact⟨pre++a,by rw[h,Zzv]⟩
theorem Dp.tail{t:ByteArray}{c:Int}{r:Am}(h:Dp t (c::r)):Dp t r:=Dp.app (a:=[c]) h
theorem Dp.drop{t:ByteArray}{r:Am}(h:Dp t r)(k:Nat):Dp t (r.drop k):=by rw[<-List.take_append_drop k r] at h;exact h.app
def A9(t:ByteArray)(r:Am):Nat:=t.size-r.length
theorem Dp.eq{t:ByteArray}{r:Am}(h:Dp t r):r=(Eu t).drop (A9 t r):=by
 have hl:=h.len;obtain⟨pre,h⟩:=h
 have e:A9 t r=pre.length:=by
  have:=congrArg List.length h;rw[Ik,LG] at this;unfold A9;omega
 rw[e,h,List.drop_left]
theorem Dp.B{t:ByteArray}{r:Am}(h:Dp t r):Ct r:=by obtain⟨pre,h⟩:=h;exact fun x hx=>QH t x (by rw[h];exact List.mem_append_right _ hx)
theorem Dp.at{t:ByteArray}{c:Int}{r:Am}(h:Dp t (c::r)):∃b:UInt8,(Array.toList t.data)[A9 t (c::r)]?=some b/\(b.toNat:Int)=c:=by
 have he:=h.eq
 have:(Eu t)[A9 t (c::r)]?=some c:=by
  have:=congrArg (fun l=>l[0]?) he;rw[List.getElem?_drop] at this;exact this.symm
 unfold Eu at this;rw[List.getElem?_map] at this;obtain⟨b,hb,rfl⟩:=Option.map_eq_some_iff.1 this;exact⟨b,hb,rfl⟩
theorem Hy{t:ByteArray}{c:Int}{r:Am}(h:Dp t (c::r)):A9 t r=A9 t (c::r)+1:=by have:=h.len;unfold A9;rw[Ub] at this ⊢;omega
theorem L8(t:ByteArray):A9 t []=t.size:=rfl
abbrev Cl(t:ByteArray)(r:Am):Al:=[.sc (.string t),B9 (A9 t r:Int)]
def BK:Am->Int
 |[]=>0
 |c::_=>c
section
variable {fu d:Nat}{xs:FuncId->Option (Al->Option Bz)}
theorem Pe{t:ByteArray}{r:Am}(h:Dp t r):Ae (CX xs) prog fu (d+1) 92 [.pbox (Cl t r)]=some ⟨[.sc (.int .u8 (BK r))],[Cl t r]⟩:=by
 rw[Rb];cases r with
 |nil=>
  show _=some (Bz.mk [.sc (.int .u8 0)] [[.sc (.string t),B9 (A9 t []:Int)]]);rw[L8];have e:decide ((t.size:Int)<(t.size:Int))=false:=by simp
  simp only[A2,A1,e]
 |cons c r=>
  have hl:=h.len;obtain⟨b,hb,rfl⟩:=h.at
  have hp:A9 t ((b.toNat:Int)::r)<t.size:=by
   unfold A9;rw[Ub] at hl ⊢;omega
  have e:decide ((A9 t ((b.toNat:Int)::r):Int)<(t.size:Int))=true:=by simp;omega
  have e2:decide ((0:Int)<=(A9 t ((b.toNat:Int)::r):Int))=true:=by simp
  rw[<-Kc (A9 t ((b.toNat:Int)::r))] at hb;simp only[A2,A1,e,e2,hb,BK]
theorem DY{s:ByteArray}{a:Nat}:s.extract a s.size=Aa ((Eu s).drop a):=by
 rw[<-Kv (s.extract a s.size)]
 congr 1
 unfold Eu;rw[ByteArray.data_extract,Array.toList_extract,List.extract_eq_take_drop,<-List.map_drop,FF];rw[List.length_drop];exact Cc _
theorem Yv{s:ByteArray}{n:Nat}:s.extract 0 n=Aa ((Eu s).take n):=by
 rw[<-Kv (s.extract 0 n)]
 congr 1
 unfold Eu;rw[ByteArray.data_extract,Array.toList_extract,List.extract_eq_take_drop,Nat.sub_zero,SL,List.map_take]
theorem Aoz{a w:Am}(ha:Ct a)(hw:Ct w):Ae (CX xs) prog fu (d+1) 77 [.sc (.string (Aa a)),.sc (.string (Aa w))]=some ⟨[.sc (.bool (w.isPrefixOf a))],[]⟩:=by
 rw[Sh,Ag,Ag];by_cases hl:w.length<=a.length
 ·have e1:decide ((a.length:Int)>=(w.length:Int))=true:=by simp;omega
  have e2:decide (Int.toNat (w.length:Int)<=a.length)=true:=by rw[Kc];simp;exact hl
  have e3:(Aa a).extract 0 (Int.toNat (w.length:Int))=Aa (a.take w.length):=by
   rw[Kc,Yv,Cs ha]
  have e4:(Array.toList (Aa (a.take w.length)).data==Array.toList (Aa w).data)=w.isPrefixOf a:=by
   rw[Bool.eq_iff_iff,List.isPrefixOf_iff_prefix,beq_iff_eq];constructor
   ·intro h
    have h2:Aa (a.take w.length)=Aa w:=by
     cases hx:Aa (a.take w.length);cases hy:Aa w;rw[hx,hy] at h;exact congrArg ByteArray.mk (Array.toList_inj.1 h)
    have h3:=congrArg Eu h2;rw[Cs hw,Cs (fun x hx=>ha x (List.mem_of_mem_take hx))] at h3;exact List.prefix_iff_eq_take.2 h3.symm
   ·intro h;rw[<-List.prefix_iff_eq_take.1 h]
  simp only[A2,A1,e1,e2,e3,e4]
 ·have e1:decide ((a.length:Int)>=(w.length:Int))=false:=by simp;omega
  have e4:w.isPrefixOf a=false:=by
   rw[Bool.eq_false_iff,ne_eq,List.isPrefixOf_iff_prefix];exact fun h=>hl h.length_le
  simp only[A2,A1,e1,e4]
theorem A1z{a w:Am}(ha:Ct a)(hw:Ct w):Ae (CX xs) prog fu (d+2) 89 [.sc (.string (Aa a)),.sc (.string (Aa w))]=some ⟨[.sc (.bool (w.isPrefixOf a))],[]⟩:=by rw[Ww];have e:Ae (CX xs) prog fu (d+1) 77 [.sc (.string (Aa a)),.sc (.string (Aa w))]=_:=Aoz ha hw;simp only[A2,A1,e]
theorem Vk{t:ByteArray}{r w:Am}(h:Dp t r)(ht:t.size<=1000000)(hw:Ct w)(hw2:w.length<=100):Ae (CX xs) prog fu (d+3) 66 [.pbox (Cl t r),.sc (.string (Aa w))]=some (match An w r with|some r'=>⟨[.sc (.bool true)],[Cl t r']⟩|none=>⟨[.sc (.bool false)],[Cl t r]⟩):=by
 have hl:=h.len;have he:=h.eq;have hp:A9 t r<=t.size:=Nat.sub_le _ _;have hh:=A1z (fu:=fu) (d:=d) (xs:=xs) h.B hw;have e1:decide ((0:Int)<=(A9 t r:Int))=true:=by simp
 have e2:(decide (Int.toNat (A9 t r:Int)<=t.size)&&decide (t.size<=t.size))=true:=by
  rw[Kc];simp;exact hp
 have e3:t.extract (Int.toNat (A9 t r:Int)) t.size=Aa r:=by rw[Kc,DY,<-he]
 rw[Ph];unfold An;by_cases hq:w.isPrefixOf r=true
 ·rw[Bq hq];rw[hq] at hh
  have QT:w.length<=r.length:=by
   have:=List.IsPrefix.length_le (List.isPrefixOf_iff_prefix.1 hq);exact this
  have e4:wrap .i64 ((A9 t r:Int)+((Aa w).size:Int))=(A9 t (r.drop w.length):Int):=by
   rw[Ag,Ar (by omega) (by omega)];unfold A9;rw[List.length_drop];omega
  simp only[A2,A1,e1,e2,e3,hh,e4,E1]
 ·rw[Bg hq];have K7:w.isPrefixOf r=false:=Bool.eq_false_iff.2 hq;rw[K7] at hh;simp only[A2,A1,e1,e2,e3,hh,F9]
theorem Alz(x:Int):Ae (CX xs) prog fu (d+1) 120 [.sc (.int .i32 x)]=some ⟨[.sc (.bool (Rf x))],[]⟩:=by
 rw[Xt];unfold Rf;by_cases h:56320<=x
 ·have e:decide (x>=56320)=true:=by simp;omega
  have e2:decide (56320<=x)=true:=by simp;omega
  simp only[A2,A1,e,e2,QD]
 ·have e:decide (x>=56320)=false:=by simp;omega
  have e2:decide (56320<=x)=false:=by simp;omega
  simp only[A2,A1,e,e2,CS]
def Am5(t:ByteArray)(o:PR Int):Bz:=⟨[.sc (.int .i32 (o.1.getD 0)),.sc (.bool o.1.isSome)],[Cl t o.2]⟩
theorem BZ(c:Int):(48<=c/\c<=57/\Wu c=some (c-48))\/(97<=c/\c<=102/\Wu c=some (c-87))\/(65<=c/\c<=70/\Wu c=some (c-55))\/(¬(48<=c/\c<=57)/\¬(97<=c/\c<=102)/\¬(65<=c/\c<=70)/\Wu c=none):=by
 unfold Wu;by_cases h1:48<=c/\c<=57
 ·exact .inl ⟨h1.1,h1.2,Bq h1⟩
 ·by_cases h2:97<=c/\c<=102
  ·exact .inr (.inl ⟨h2.1,h2.2,by rw[Bg h1,Bq h2]⟩)
  ·by_cases h3:65<=c/\c<=70
   ·exact .inr (.inr (.inl ⟨h3.1,h3.2,by rw[Bg h1,Bg h2,Bq h3]⟩))
   ·exact .inr (.inr (.inr ⟨h1,h2,h3,by rw[Bg h1,Bg h2,Bg h3]⟩))
theorem D5{x:Int}(h1: -2147483648<=x)(h2:x<=2147483647):wrap .i32 x=x:=by have:=IntWalk.i32_in x (by omega);exact this
theorem Aos{x:Int}(h0:0<=x)(h1:x<65536):H6 .i32 x 4=x*16:=by show wrap .i32 (x*2 ^ (min (4:Int).toNat IntKind.i32.bits))=_;rw[show min (4:Int).toNat IntKind.i32.bits=4 from rfl];exact D5 (by omega) (by omega)
theorem Y1{t s0:ByteArray}{p0:Int}(ht:t.size<=1000000):∀(n:Nat)(nn:Nat)(x:Int)(r:Am),n<=4->n+1<=nn->0<=x->x<16 ^ (4-n)->Dp t r ->
  Bn fu (Ae (CX xs) prog fu (d+1)) s0 p0 nn x ((4-n:Nat):Int) t (A9 t r:Int)=some (Am5 t (N0 n x r))
 |0,nn,x,r,_,Jo,h0,h1,h=>by
  obtain⟨k,rfl⟩:∃k,nn=k+1:=⟨nn-1,by omega⟩
  rw[Hd];simp only[A2,A1,show decide (((4-0:Nat):Int)<4)=false from rfl];rfl
 |n+1,nn,x,r,hn,Jo,h0,h1,h=>by
  obtain⟨k,rfl⟩:∃k,nn=k+1:=⟨nn-1,by omega⟩
  have pk:=Pe (fu:=fu) (d:=d) (xs:=xs) h;have hl:=h.len
  have hx:x<4096:=by
   have:n+1=1\/n+1=2\/n+1=3\/n+1=4:=by omega
   rcases this with e|e|e|e<;>rw[e] at h1<;>simp at h1<;>omega
  have R4:∀v,0<=v->v<=15->x*16+v<16 ^ (4-n):=by
   intro v hv0 hv1;have e:4-n=(4-(n+1))+1:=by omega
   rw[e,Int.pow_succ];omega
  have e4:decide (((4-(n+1):Nat):Int)<4)=true:=by simp;omega
  have e5:wrap .i64 (((4-(n+1):Nat):Int)+1)=((4-n:Nat):Int):=by rw[Ar (by omega) (by omega)];omega
  have sh:=Aos h0 (by omega);rw[Hd];cases r with
  |nil=>
   have pk2:Ae (CX xs) prog fu (d+1) 92 [.pbox (Cl t [])]=some ⟨[.sc (.int .u8 0)],[Cl t []]⟩:=pk
   repeat(with_reducible(first|apply Be|apply A0|apply Bd|apply A4|apply Bc|apply Fe|apply Az|apply Bf|apply Hj);· first|constructor|(simp(disch:=omega)only[Hh,e4,pk2,Int.reduceGE,decide_false,decide_true]<;>first|constructor|omega)|omega)
   try simp(disch:=omega)only[Ab,e4,pk2,Int.reduceGE,decide_false,decide_true]
   rfl
  |cons c r=>
   have hc:=h.B c (by simp);have hp:=Hy h
   have e6:wrap .i64 ((A9 t (c::r):Int)+1)=(A9 t r:Int):=by
    rw[hp,Ar (by unfold A9;omega) (by unfold A9;omega)];omega
   have pk2:Ae (CX xs) prog fu (d+1) 92 [.pbox (Cl t (c::r))]=some ⟨[.sc (.int .u8 c)],[Cl t (c::r)]⟩:=pk;unfold N0;rcases BZ c with⟨g1,g2,g3⟩|⟨g1,g2,g3⟩|⟨g1,g2,g3⟩|⟨g1,g2,g3,g4⟩
   ·rw[g3];have ih:=Y1 (s0:=s0) (p0:=p0) ht n k (x*16+(c-48)) r (by omega) (by omega) (by omega) (R4 _ (by omega) (by omega)) h.tail;have w1:wrap .u8 (c-48)=c-48:=Iy (by omega) (by omega);have w2:wrap .i32 (c-48)=c-48:=D5 (by omega) (by omega);have w3:wrap .i32 (x*16+(c-48))=x*16+(c-48):=D5 (by omega) (by omega)
    repeat(with_reducible(first|apply Be|apply A0|apply Bd|apply A4|apply Bc|apply Fe|apply Az|apply Bf|apply Hj);· first|constructor|(simp(disch:=omega)only[Hh,e4,pk2,sh,w1,w2,w3,e5,e6,ih]<;>first|constructor|omega)|omega)
    try simp(disch:=omega)only[Ab,e4,pk2,sh,w1,w2,w3,e5,e6,ih]
   ·rw[g3];have ih:=Y1 (s0:=s0) (p0:=p0) ht n k (x*16+(c-87)) r (by omega) (by omega) (by omega) (R4 _ (by omega) (by omega)) h.tail;have w1:wrap .u8 (c-97)=c-97:=Iy (by omega) (by omega);have w2:wrap .i32 (c-97)=c-97:=D5 (by omega) (by omega);have w3:wrap .i32 (x*16+(c-97))=x*16+(c-97):=D5 (by omega) (by omega);have w4:wrap .i32 (x*16+(c-97)+10)=x*16+(c-87):=by rw[D5 (by omega) (by omega)];omega
    repeat(with_reducible(first|apply Be|apply A0|apply Bd|apply A4|apply Bc|apply Fe|apply Az|apply Bf|apply Hj);· first|constructor|(simp(disch:=omega)only[Hh,e4,pk2,sh,w1,w2,w3,w4,e5,e6,ih]<;>first|constructor|omega)|omega)
    try simp(disch:=omega)only[Ab,e4,pk2,sh,w1,w2,w3,w4,e5,e6,ih]
   ·rw[g3];have ih:=Y1 (s0:=s0) (p0:=p0) ht n k (x*16+(c-55)) r (by omega) (by omega) (by omega) (R4 _ (by omega) (by omega)) h.tail;have w1:wrap .u8 (c-65)=c-65:=Iy (by omega) (by omega);have w2:wrap .i32 (c-65)=c-65:=D5 (by omega) (by omega);have w3:wrap .i32 (x*16+(c-65))=x*16+(c-65):=D5 (by omega) (by omega);have w4:wrap .i32 (x*16+(c-65)+10)=x*16+(c-55):=by rw[D5 (by omega) (by omega)];omega
    repeat(with_reducible(first|apply Be|apply A0|apply Bd|apply A4|apply Bc|apply Fe|apply Az|apply Bf|apply Hj);· first|constructor|(simp(disch:=omega)only[Hh,e4,pk2,sh,w1,w2,w3,w4,e5,e6,ih]<;>first|constructor|omega)|omega)
    try simp(disch:=omega)only[Ab,e4,pk2,sh,w1,w2,w3,w4,e5,e6,ih]
   ·rw[g4];by_cases k1:48<=c
    ·by_cases k2:97<=c
     ·skip
      repeat(with_reducible(first|apply Be|apply A0|apply Bd|apply A4|apply Bc|apply Fe|apply Az|apply Bf|apply Hj);· first|constructor|(simp(disch:=omega)only[Hh,e4,pk2]<;>first|constructor|omega)|omega)
      try simp(disch:=omega)only[Ab,e4,pk2]
      rfl
     ·by_cases k3:65<=c
      ·skip
       repeat(with_reducible(first|apply Be|apply A0|apply Bd|apply A4|apply Bc|apply Fe|apply Az|apply Bf|apply Hj);· first|constructor|(simp(disch:=omega)only[Hh,e4,pk2]<;>first|constructor|omega)|omega)
       try simp(disch:=omega)only[Ab,e4,pk2]
       rfl
      ·skip
       repeat(with_reducible(first|apply Be|apply A0|apply Bd|apply A4|apply Bc|apply Fe|apply Az|apply Bf|apply Hj);· first|constructor|(simp(disch:=omega)only[Hh,e4,pk2]<;>first|constructor|omega)|omega)
       try simp(disch:=omega)only[Ab,e4,pk2]
       rfl
    ·skip
     repeat(with_reducible(first|apply Be|apply A0|apply Bd|apply A4|apply Bc|apply Fe|apply Az|apply Bf|apply Hj);· first|constructor|(simp(disch:=omega)only[Hh,e4,pk2]<;>first|constructor|omega)|omega)
     try simp(disch:=omega)only[Ab,e4,pk2]
     rfl
theorem Apn{t:ByteArray}{r:Am}(Ce:10<=fu)(h:Dp t r)(ht:t.size<=1000000):Ae (CX xs) prog fu (d+2) 119 [.pbox (Cl t r)]=some (Am5 t (N0 4 0 r)):=by rw[Nw];exact Y1 ht 4 fu 0 r (by omega) (by omega) (by omega) (by decide) h
theorem Iu:∀(n:Nat)(x:Int)(l:Am)(y:Int)(r:Am),N0 n x l=(some y,r)->0<=x->0<=y/\y<(x+1)*16 ^ n
 |0,x,l,y,r,h,h0=>by
  cases h;omega
 |n+1,x,[],y,r,h,h0=>by cases h
 |n+1,x,c::l,y,r,h,h0=>by
  unfold N0 at h;rcases BZ c with⟨g1,g2,g3⟩|⟨g1,g2,g3⟩|⟨g1,g2,g3⟩|⟨g1,g2,g3,g4⟩
  ·rw[g3] at h;have:=Iu n _ l y r h (by omega)
   have e:(x*16+(c-48)+1)*16 ^ n<=(x+1)*16 ^ (n+1):=by
    rw[Int.pow_succ,Int.mul_comm (16 ^ n) 16,<-Int.mul_assoc];exact Int.mul_le_mul_of_nonneg_right (by omega) (Int.pow_nonneg (by omega))
   omega
  ·rw[g3] at h;have:=Iu n _ l y r h (by omega)
   have e:(x*16+(c-87)+1)*16 ^ n<=(x+1)*16 ^ (n+1):=by
    rw[Int.pow_succ,Int.mul_comm (16 ^ n) 16,<-Int.mul_assoc];exact Int.mul_le_mul_of_nonneg_right (by omega) (Int.pow_nonneg (by omega))
   omega
  ·rw[g3] at h;have:=Iu n _ l y r h (by omega)
   have e:(x*16+(c-55)+1)*16 ^ n<=(x+1)*16 ^ (n+1):=by
    rw[Int.pow_succ,Int.mul_comm (16 ^ n) 16,<-Int.mul_assoc];exact Int.mul_le_mul_of_nonneg_right (by omega) (Int.pow_nonneg (by omega))
   omega
  ·rw[g4] at h;cases h
theorem Y6{t:ByteArray}:∀(n:Nat)(x:Int)(l:Am),Dp t l->Dp t (N0 n x l).2
 |0,x,l,h=>h
 |n+1,x,[],h=>h
 |n+1,x,c::l,h=>by
  unfold N0;cases Wu c with
  |none=>exact h
  |some v=>exact Y6 n _ l h.tail
theorem Agq(l:Am):YQ l=List.isPrefixOf [92,117] l:=by
 match l with
 |[]=>rfl
 |[a]=>
  unfold YQ;split
  ·rename_i e;cases e
  ·simp[List.isPrefixOf]
 |a::b::r=>
  unfold YQ;split
  ·rename_i e;cases e;rfl
  ·rename_i h
   symm
   rw[Bool.eq_false_iff];intro hp;simp[List.isPrefixOf] at hp;exact h r (by rw[<-hp.1,<-hp.2])
theorem Afw{x:Int}(h0:0<=x)(h1:x<2097152):H6 .i32 x 10=x*1024:=by show wrap .i32 (x*2 ^ (min (10:Int).toNat IntKind.i32.bits))=_;rw[show min (10:Int).toNat IntKind.i32.bits=10 from rfl];exact D5 (by omega) (by omega)
theorem Ap9{t:ByteArray}{r:Am}(Ce:10<=fu)(h:Dp t r)(ht:t.size<=1000000):Ae (CX xs) prog fu (d+4) 109 [.pbox (Cl t r)]=some (Am5 t (Ol r)):=by
 have hx:=Apn (d:=d+1) (xs:=xs) Ce h ht;have hs:=Y6 4 0 r h;have hb:=Iu 4 0 r;rw[Ng];unfold Ol;rcases hq:N0 4 0 r with⟨o,r1⟩;rw[hq] at hx hs;simp only at hs;cases o with
 |none=>
  have R4:Ae (CX xs) prog fu (d+3) 119 [.pbox (Cl t r)]=some ⟨[.sc (.int .i32 0),.sc (.bool false)],[Cl t r1]⟩:=hx
  repeat(with_reducible(first|apply Be|apply A0|apply Bd|apply A4|apply Bc|apply Fe|apply Az|apply Bf|apply Hj);· first|constructor|(simp(disch:=omega)only[Hh,R4,F9]<;>first|constructor|omega)|omega)
  try simp(disch:=omega)only[Ab,R4,F9]
  rfl
 |some x=>
  have R4:Ae (CX xs) prog fu (d+3) 119 [.pbox (Cl t r)]=some ⟨[.sc (.int .i32 x),.sc (.bool true)],[Cl t r1]⟩:=hx;have bx:=hb x r1 hq (by omega);have lw:∀x,Ae (CX xs) prog fu (d+3) 120 [.sc (.int .i32 x)]=some ⟨[.sc (.bool (Rf x))],[]⟩:=fun x=>Alz (d:=d+2) x;cases hl:Rf x
  ·simp only[hl,Bool.false_eq_true,if_false];by_cases c1:x<55296
   ·rw[Bq (Or.inl c1)]
    repeat(with_reducible(first|apply Be|apply A0|apply Bd|apply A4|apply Bc|apply Fe|apply Az|apply Bf|apply Hj);· first|constructor|(simp(disch:=omega)only[Hh,R4,lw,hl,E1]<;>first|constructor|omega)|omega)
    try simp(disch:=omega)only[Ab,R4,lw,hl,E1]
    rfl
   ·by_cases c2:56319<x
    ·rw[Bq (Or.inr c2)]
     repeat(with_reducible(first|apply Be|apply A0|apply Bd|apply A4|apply Bc|apply Fe|apply Az|apply Bf|apply Hj);· first|constructor|(simp(disch:=omega)only[Hh,R4,lw,hl,E1]<;>first|constructor|omega)|omega)
     try simp(disch:=omega)only[Ab,R4,lw,hl,E1]
     rfl
    ·rw[Bg (by omega)];have ha:=Vk (fu:=fu) (d:=d) (xs:=xs) hs ht (w:=[92,117]) (fun x hx=>by simp at hx;rcases hx with rfl|rfl<;>omega) (by decide)
     unfold An at ha;rw[<-Agq] at ha;cases hB:YQ r1
     ·rw[hB,Bg (by simp)] at ha;simp only[Bool.false_eq_true,if_false];have Sm:Ae (CX xs) prog fu (d+3) 66 [.pbox (Cl t r1),.sc (.string (ByteArray.mk #[(92:UInt8),(117:UInt8)]))]=some ⟨[.sc (.bool false)],[Cl t r1]⟩:=ha
      repeat(with_reducible(first|apply Be|apply A0|apply Bd|apply A4|apply Bc|apply Fe|apply Az|apply Bf|apply Hj);· first|constructor|(simp(disch:=omega)only[Hh,R4,lw,hl,Sm,E1,F9]<;>first|constructor|omega)|omega)
      try simp(disch:=omega)only[Ab,R4,lw,hl,Sm,E1,F9]
      rfl
     ·rw[hB,Bq rfl] at ha;simp only[if_true];have Sm:Ae (CX xs) prog fu (d+3) 66 [.pbox (Cl t r1),.sc (.string (ByteArray.mk #[(92:UInt8),(117:UInt8)]))]=some ⟨[.sc (.bool true)],[Cl t (r1.drop 2)]⟩:=ha;have hy:=Apn (d:=d+1) (xs:=xs) Ce (hs.drop 2) ht;have hby:=Iu 4 0 (r1.drop 2);unfold NW;rcases K7:N0 4 0 (r1.drop 2) with⟨o2,r2⟩;rw[K7] at hy;cases o2 with
      |none=>
       have hy2:Ae (CX xs) prog fu (d+3) 119 [.pbox (Cl t (r1.drop 2))]=some ⟨[.sc (.int .i32 0),.sc (.bool false)],[Cl t r2]⟩:=hy
       repeat(with_reducible(first|apply Be|apply A0|apply Bd|apply A4|apply Bc|apply Fe|apply Az|apply Bf|apply Hj);· first|constructor|(simp(disch:=omega)only[Hh,R4,lw,hl,Sm,hy2,E1,F9]<;>first|constructor|omega)|omega)
       try simp(disch:=omega)only[Ab,R4,lw,hl,Sm,hy2,E1,F9]
       rfl
      |some y=>
       have hy2:Ae (CX xs) prog fu (d+3) 119 [.pbox (Cl t (r1.drop 2))]=some ⟨[.sc (.int .i32 y),.sc (.bool true)],[Cl t r2]⟩:=hy;have by_:=hby y r2 K7 (by omega);cases Pu:Rf y
       ·simp only[Bool.false_eq_true,if_false]
        repeat(with_reducible(first|apply Be|apply A0|apply Bd|apply A4|apply Bc|apply Fe|apply Az|apply Bf|apply Hj);· first|constructor|(simp(disch:=omega)only[Hh,R4,lw,hl,Pu,Sm,hy2,E1,F9]<;>first|constructor|omega)|omega)
        try simp(disch:=omega)only[Ab,R4,lw,hl,Pu,Sm,hy2,E1,F9]
        rfl
       ·simp only[if_true]
        have ly:56320<=y/\y<=57343:=by
         unfold Rf at Pu
         simpa using Pu
        have w1:wrap .i32 (x-55296)=x-55296:=D5 (by omega) (by omega);have w2:=Afw (x:=x-55296) (by omega) (by omega);have w3:wrap .i32 (65536+(x-55296)*1024)=65536+(x-55296)*1024:=D5 (by omega) (by omega);have w4:wrap .i32 (y-56320)=y-56320:=D5 (by omega) (by omega);have w5:wrap .i32 (65536+(x-55296)*1024+(y-56320))=65536+(x-55296)*1024+(y-56320):=D5 (by omega) (by omega)
        repeat(with_reducible(first|apply Be|apply A0|apply Bd|apply A4|apply Bc|apply Fe|apply Az|apply Bf|apply Hj);· first|constructor|(simp(disch:=omega)only[Hh,R4,lw,hl,Pu,Sm,hy2,w1,w2,w3,w4,w5,E1,F9]<;>first|constructor|omega)|omega)
        try simp(disch:=omega)only[Ab,R4,lw,hl,Pu,Sm,hy2,w1,w2,w3,w4,w5,E1,F9]
        rfl
  ·simp only[if_true]
   repeat(with_reducible(first|apply Be|apply A0|apply Bd|apply A4|apply Bc|apply Fe|apply Az|apply Bf|apply Hj);· first|constructor|(simp(disch:=omega)only[Hh,R4,lw,hl,E1]<;>first|constructor|omega)|omega)
   try simp(disch:=omega)only[Ab,R4,lw,hl,E1]
   rfl
theorem LM(c:Int):(c=34/\S8 c=some 34)\/(c=92/\S8 c=some 92)\/(c=47/\S8 c=some 47)\/(c=98/\S8 c=some 8)\/(c=102/\S8 c=some 12)\/(c=110/\S8 c=some 10)\/(c=114/\S8 c=some 13)\/(c=116/\S8 c=some 9) \/
  ((c≠34/\c≠92/\c≠47/\c≠98/\c≠102/\c≠110/\c≠114/\c≠116)/\S8 c=none):=by
 by_cases h1:c=34
 ·subst h1;exact .inl ⟨rfl,rfl⟩
 by_cases h2:c=92
 ·subst h2;exact .inr (.inl ⟨rfl,rfl⟩)
 by_cases h3:c=47
 ·subst h3;exact .inr (.inr (.inl ⟨rfl,rfl⟩))
 by_cases h4:c=98
 ·subst h4;exact .inr (.inr (.inr (.inl ⟨rfl,rfl⟩)))
 by_cases h5:c=102
 ·subst h5;exact .inr (.inr (.inr (.inr (.inl ⟨rfl,rfl⟩))))
 by_cases h6:c=110
 ·subst h6;exact .inr (.inr (.inr (.inr (.inr (.inl ⟨rfl,rfl⟩)))))
 by_cases h7:c=114
 ·subst h7;exact .inr (.inr (.inr (.inr (.inr (.inr (.inl ⟨rfl,rfl⟩))))))
 by_cases h8:c=116
 ·subst h8;exact .inr (.inr (.inr (.inr (.inr (.inr (.inr (.inl ⟨rfl,rfl⟩)))))))
 refine .inr (.inr (.inr (.inr (.inr (.inr (.inr (.inr ⟨⟨h1,h2,h3,h4,h5,h6,h7,h8⟩,?_⟩)))))));unfold S8;rw[Bg (by omega),Bg h4,Bg h5,Bg h6,Bg h7,Bg h8]
theorem Avx{t:ByteArray}{r:Am}(Ce:10<=fu)(h:Dp t r)(ht:t.size<=1000000):Ae (CX xs) prog fu (d+5) 90 [.pbox (Cl t r)]=some (Am5 t (Kh r)):=by
 have ha:=Vk (fu:=fu) (d:=d+1) (xs:=xs) h ht (w:=[117]) (fun x hx=>by simp at hx;omega) (by decide)
 have hl:=h.len;rw[Lf];cases r with
 |nil=>
  have Sm:Ae (CX xs) prog fu (d+4) 66 [.pbox (Cl t []),.sc (.string (ByteArray.mk #[(117:UInt8)]))]=some ⟨[.sc (.bool false)],[Cl t []]⟩:=ha;have pk:Ae (CX xs) prog fu (d+4) 92 [.pbox (Cl t [])]=some ⟨[.sc (.int .u8 0)],[Cl t []]⟩:=Pe (d:=d+3) h;have w0:wrap .i32 0=0:=rfl
  repeat(with_reducible(first|apply Be|apply A0|apply Bd|apply A4|apply Bc|apply Fe|apply Az|apply Bf|apply Hj);· first|constructor|(simp(disch:=omega)only[Hh,Sm,pk,w0,Int.reduceBEq]<;>first|constructor|omega)|omega)
  try simp(disch:=omega)only[Ab,Sm,pk,w0,Int.reduceBEq]
  rfl
 |cons c r=>
  have hc:=h.B c (by simp);have hp:=Hy h
  have e6:wrap .i64 ((A9 t (c::r):Int)+1)=(A9 t r:Int):=by
   rw[hp,Ar (by unfold A9;omega) (by unfold A9;omega)];omega
  have w0:wrap .i32 c=c:=D5 (by omega) (by omega);have pk:Ae (CX xs) prog fu (d+4) 92 [.pbox (Cl t (c::r))]=some ⟨[.sc (.int .u8 c)],[Cl t (c::r)]⟩:=Pe (d:=d+3) h;have he:Kh (c::r)=if c=117 then Ol r else match S8 c with|some x=>(some x,r)|none=>(none,c::r):=rfl
  rw[he];unfold An at ha;by_cases hu:c=117
  ·subst hu;rw[Bq rfl];have Sm:Ae (CX xs) prog fu (d+4) 66 [.pbox (Cl t (117::r)),.sc (.string (ByteArray.mk #[(117:UInt8)]))]=some ⟨[.sc (.bool true)],[Cl t r]⟩:=ha;have hcd:Ae (CX xs) prog fu (d+4) 109 [.pbox (Cl t r)]=some ⟨[.sc (.int .i32 ((Ol r).1.getD 0)),.sc (.bool (Ol r).1.isSome)],[Cl t (Ol r).2]⟩:=Ap9 Ce h.tail ht
   repeat(with_reducible(first|apply Be|apply A0|apply Bd|apply A4|apply Bc|apply Fe|apply Az|apply Bf|apply Hj);· first|constructor|(simp(disch:=omega)only[Hh,Sm,hcd]<;>first|constructor|omega)|omega)
   try simp(disch:=omega)only[Ab,Sm,hcd]
   rfl
  ·rw[Bg hu]
   have hb:(List.isPrefixOf [117] (c::r))=false:=by
    rw[Bool.eq_false_iff];intro hp;simp[List.isPrefixOf] at hp;exact hu hp.symm
   rw[hb,Bg (by simp)] at ha;have Sm:Ae (CX xs) prog fu (d+4) 66 [.pbox (Cl t (c::r)),.sc (.string (ByteArray.mk #[(117:UInt8)]))]=some ⟨[.sc (.bool false)],[Cl t (c::r)]⟩:=ha;rcases LM c with⟨rfl,g⟩|⟨rfl,g⟩|⟨rfl,g⟩|⟨rfl,g⟩|⟨rfl,g⟩|⟨rfl,g⟩|⟨rfl,g⟩|⟨rfl,g⟩|⟨g1,g⟩
   ·rw[g]
    repeat(with_reducible(first|apply Be|apply A0|apply Bd|apply A4|apply Bc|apply Fe|apply Az|apply Bf|apply Hj);· first|constructor|(simp(disch:=omega)only[Hh,Sm,pk,w0,e6,Int.reduceBEq]<;>first|constructor|omega)|omega)
    try simp(disch:=omega)only[Ab,Sm,pk,w0,e6,Int.reduceBEq]
    rfl
   ·rw[g]
    repeat(with_reducible(first|apply Be|apply A0|apply Bd|apply A4|apply Bc|apply Fe|apply Az|apply Bf|apply Hj);· first|constructor|(simp(disch:=omega)only[Hh,Sm,pk,w0,e6,Int.reduceBEq]<;>first|constructor|omega)|omega)
    try simp(disch:=omega)only[Ab,Sm,pk,w0,e6,Int.reduceBEq]
    rfl
   ·rw[g]
    repeat(with_reducible(first|apply Be|apply A0|apply Bd|apply A4|apply Bc|apply Fe|apply Az|apply Bf|apply Hj);· first|constructor|(simp(disch:=omega)only[Hh,Sm,pk,w0,e6,Int.reduceBEq]<;>first|constructor|omega)|omega)
    try simp(disch:=omega)only[Ab,Sm,pk,w0,e6,Int.reduceBEq]
    rfl
   ·rw[g]
    repeat(with_reducible(first|apply Be|apply A0|apply Bd|apply A4|apply Bc|apply Fe|apply Az|apply Bf|apply Hj);· first|constructor|(simp(disch:=omega)only[Hh,Sm,pk,w0,e6,Int.reduceBEq]<;>first|constructor|omega)|omega)
    try simp(disch:=omega)only[Ab,Sm,pk,w0,e6,Int.reduceBEq]
    rfl
   ·rw[g]
    repeat(with_reducible(first|apply Be|apply A0|apply Bd|apply A4|apply Bc|apply Fe|apply Az|apply Bf|apply Hj);· first|constructor|(simp(disch:=omega)only[Hh,Sm,pk,w0,e6,Int.reduceBEq]<;>first|constructor|omega)|omega)
    try simp(disch:=omega)only[Ab,Sm,pk,w0,e6,Int.reduceBEq]
    rfl
   ·rw[g]
    repeat(with_reducible(first|apply Be|apply A0|apply Bd|apply A4|apply Bc|apply Fe|apply Az|apply Bf|apply Hj);· first|constructor|(simp(disch:=omega)only[Hh,Sm,pk,w0,e6,Int.reduceBEq]<;>first|constructor|omega)|omega)
    try simp(disch:=omega)only[Ab,Sm,pk,w0,e6,Int.reduceBEq]
    rfl
   ·rw[g]
    repeat(with_reducible(first|apply Be|apply A0|apply Bd|apply A4|apply Bc|apply Fe|apply Az|apply Bf|apply Hj);· first|constructor|(simp(disch:=omega)only[Hh,Sm,pk,w0,e6,Int.reduceBEq]<;>first|constructor|omega)|omega)
    try simp(disch:=omega)only[Ab,Sm,pk,w0,e6,Int.reduceBEq]
    rfl
   ·rw[g]
    repeat(with_reducible(first|apply Be|apply A0|apply Bd|apply A4|apply Bc|apply Fe|apply Az|apply Bf|apply Hj);· first|constructor|(simp(disch:=omega)only[Hh,Sm,pk,w0,e6,Int.reduceBEq]<;>first|constructor|omega)|omega)
    try simp(disch:=omega)only[Ab,Sm,pk,w0,e6,Int.reduceBEq]
    rfl
   ·rw[g];obtain⟨n1,n2,n3,n4,n5,n6,n7,n8⟩:=g1;have m1:(c==(34:Int))=false:=by simp[n1]
    have m2:(c==(92:Int))=false:=by simp[n2]
    have m3:(c==(47:Int))=false:=by simp[n3]
    have m4:(c==(98:Int))=false:=by simp[n4]
    have m5:(c==(102:Int))=false:=by simp[n5]
    have m6:(c==(110:Int))=false:=by simp[n6]
    have m7:(c==(114:Int))=false:=by simp[n7]
    have m8:(c==(116:Int))=false:=by simp[n8]
    repeat(with_reducible(first|apply Be|apply A0|apply Bd|apply A4|apply Bc|apply Fe|apply Az|apply Bf|apply Hj);· first|constructor|(simp(disch:=omega)only[Hh,Sm,pk,w0,e6,m1,m2,m3,m4,m5,m6,m7,m8]<;>first|constructor|omega)|omega)
    try simp(disch:=omega)only[Ab,Sm,pk,w0,e6,m1,m2,m3,m4,m5,m6,m7,m8]
    rfl
theorem Rp{t:ByteArray}{l:Am}(h:Dp t l):Dp t (Kh l).2:=by
 have Aun:∀l,Dp t l->Dp t (Ol l).2:=by
  intro l h;have h1:=Y6 4 0 l h;unfold Ol;rcases hq:N0 4 0 l with⟨o,r⟩;rw[hq] at h1;cases o with
  |none=>exact h1
  |some x=>
   simp only;split
   ·exact h1
   split
   ·exact h1
   split
   ·have h2:=Y6 4 0 (r.drop 2) (Dp.drop h1 2);unfold NW;rcases K7:N0 4 0 (r.drop 2) with⟨o2,r2⟩;rw[K7] at h2;cases o2 with
    |none=>exact h2
    |some y=>
     simp only;split<;>exact h2
   ·exact h1
 cases l with
 |nil=>exact h
 |cons c r=>
  have he:Kh (c::r)=if c=117 then Ol r else match S8 c with|some x=>(some x,r)|none=>(none,c::r):=rfl
  rw[he];split
  ·exact Aun r h.tail
  ·cases S8 c with
   |none=>exact h
   |some x=>exact h.tail
end
section
open Go Go.RowKit
theorem F4.refl(w:World)(b o n:Nat):F4 w w b o n:=⟨rfl,rfl,rfl,Cc _,Iw.refl _ _,fun _ _ _=>rfl,fun _ _=>rfl,fun _ _=>rfl⟩
theorem F4.trans{w w' w'':World}{b o n:Nat}(h:F4 w w' b o n)(k:F4 w' w'' b o n):F4 w w'' b o n:=
 ⟨k.os.trans h.os,k.tape.trans h.tape,k.output.trans h.output,Nat.le_trans h.size k.size,h.grow.trans k.grow,fun i hi Er=>(k.other i (Gy hi h.size) Er).trans (h.other i hi Er),fun j hj=>(k.cells j hj).trans (h.cells j hj),fun j hj=>(k.frz j hj).trans (h.frz j hj)⟩
theorem F4.below{w w' w'':World}{b o n:Nat}(h:F4 w w' b o n)(k:Below w.heap.size w' w'')(hb:b<w.heap.size):F4 w w'' b o n:=
 ⟨k.os.trans h.os,k.tape.trans h.tape,k.output.trans h.output,Nat.le_trans h.size k.size,h.grow.trans (Iw.same (k.block b hb)),fun i hi Er=>(k.block i hi).trans (h.other i hi Er),fun j hj=>(k.cell (p:=⟨b,j,none⟩) hb).trans (h.cells j hj),fun j hj=>(k.frozen (p:=⟨b,j,none⟩) hb).trans (h.frz j hj)⟩
theorem F4.drew{w w':World}{b o n:Nat}(h:F4 w w' b o n):F4 w w'.drew b o n:=⟨h.os,h.tape,h.output,h.size,h.grow,h.other,h.cells,h.frz⟩
theorem F4.setCell(w:World)(b o n j:Nat)(v:Value)(hj:o<=j)(hj2:j<o+n)(hb:b<w.heap.size):F4 w (w.setCell ⟨b,j,none⟩ v) b o n:=by have hw:Ep b w (w.setCell ⟨b,j,none⟩ v):=Ep.setCells b [v] j w;refine⟨hw.os,hw.tape,hw.output,Nat.le_of_eq hw.size.symm,hw.grow b,fun k hk Er=>hw.other k Er,fun i hi=>?_,fun i _=>hw.frz i⟩;exact World.cell?_setCell_other _ _ _ _ (by intro e;injection e;omega)
theorem Zk{T e:TypeId}{B c:Nat}{bs:List Value}{W W':World}{b o n:Nat}(h:Lib.IsBuilderF T e B c bs W)(hk:F4 W W' b o n)(hb:b<B):Lib.IsBuilderF T e B c bs W':=by
 have key:∀p,Lib.BuilderAtF T e B c p bs W->Lib.BuilderAtF T e B c p bs W':=by
  intro p h;have Cx:=h.lt;obtain⟨hB,v,hv,Hg,Er⟩:=h;refine⟨hB,v,(hk.other c Cx (by omega)).trans hv,Hg.kept (row:=some b) ⟨hk.os,hk.tape,hk.output,hk.size,fun k M0 Aqo=>hk.other k M0 (fun e=>Aqo (by rw[e]))⟩ ?_,Er⟩;rcases Hg.2 with⟨rfl,_⟩|⟨g,cap,cur,fz,rfl,hg,_⟩
  ·exact .inl rfl
  ·refine .inr (fun e=>?_);simp[Value.ownBlock] at e;omega
 exact h.imp (key _) (key _)
def GR:Yl:=⟨fun _=>False,fun _=>True,fun _ _ _ _=>trivial⟩
def noR:FuncId->Option (Al->Option Bz):=fun _=>none
theorem Arx:MU GR prog (CX noR):=by intro f g args res h _;have h':(bif Zh.any (Nat.beq f) then none else (none:Option (Al->Option Bz)))=some g:=h;cases hb:Zh.any (Nat.beq f)<;>rw[hb] at h'<;>cases h'
theorem ngR:NoNG prog:=by
 have h:(prog.funcs.toList.all fun fn=> !(fn.name == "runtime.NumGoroutine"))=true:=by kernel_rfl
 intro f fn hf;have:=List.all_eq_true.1 h fn (Array.mem_toList_iff.2 (Array.mem_of_getElem? hf))
 simpa using this
theorem mxR:prog.follows .mixedOrders=true:=by kernel_rfl
structure Zd(w:World)(b o:Nat)(t:ByteArray)(r:Am):Prop where
 lt:b<w.heap.size
 c0:w.cell? ⟨b,o,none⟩=some (.string t)
 c1:w.cell? ⟨b,o+1,none⟩=some (.int .i64 (A9 t r:Int))
 f0:w.frozen? ⟨b,o,none⟩=false
 f1:w.frozen? ⟨b,o+1,none⟩=false
theorem OM{f:FuncId}{t:ByteArray}{r r':Am}{args vals:Al}{us rs:List Value}{d:Nat}(e:Ae (CX noR) prog 2000 d f (.pbox (Cl t r)::args)=some ⟨vals,[Cl t r']⟩)(ha:Bo HY args us)(hr:Bo HY vals rs){w:World}{b o:Nat}(h:Zd w b o t r):Calls prog f (.pointer (some ⟨b,o,none⟩)::us).toArray w fun e w'=>e=.returned (Jc rs)/\Zd w' b o t r'/\F4 w w' b o 2:=by
 have hs:Eb GR prog f (.pbox ([Value.string t,.int .i64 (A9 t r:Int)].map .sc)::args) ⟨vals,[[Value.string t,.int .i64 (A9 t r':Int)].map .sc]⟩:=J9 ngR mxR Arx d f _ _ e;refine (MB hs ha hr (w:=w) (b:=b) (o:=o) trivial (fun _ h=>h.elim) h.lt ?_ ?_).mono ?_
 ·intro j v hv
  match j,hv with
  |0,hv=>cases hv;exact h.c0
  |1,hv=>cases hv;exact h.c1
 ·intro j hj
  match j,hj with
  |0,_=>exact h.f0
  |1,_=>exact h.f1
 ·rintro e w' ⟨rfl,_,h4,h5,hk⟩
  exact⟨rfl,⟨Gy h.lt hk.size,h4 0 _ rfl,h4 1 _ rfl,h5 0 (Nat.zero_lt_succ _),h5 1 (Nat.succ_lt_succ (Nat.zero_lt_succ _))⟩,hk⟩
theorem Iz{t:ByteArray}{r w0:Am}(hS:Dp t r)(ht:t.size<=1000000)(hw:Ct w0)(hw2:w0.length<=100){w:World}{b o:Nat}(h:Zd w b o t r):
  Calls prog 66 #[.pointer (some ⟨b,o,none⟩),.string (Aa w0)] w fun e w'=>e=.returned (.bool (An w0 r).isSome)/\Zd w' b o t ((An w0 r).getD r)/\F4 w w' b o 2:=by
 have e:=Vk (fu:=2000) (d:=0) (xs:=noR) hS ht hw hw2;cases hq:An w0 r with
 |none=>
  rw[hq] at e;exact OM (us:=[.string (Aa w0)]) (rs:=[.bool false]) e ⟨.inl rfl,trivial⟩ ⟨.inl rfl,trivial⟩ h
 |some r'=>
  rw[hq] at e;exact OM (us:=[.string (Aa w0)]) (rs:=[.bool true]) e ⟨.inl rfl,trivial⟩ ⟨.inl rfl,trivial⟩ h
theorem Ac1{t:ByteArray}{r:Am}(hS:Dp t r)(ht:t.size<=1000000){w:World}{b o:Nat}(h:Zd w b o t r):
  Calls prog 90 #[.pointer (some ⟨b,o,none⟩)] w fun e w'=>e=.returned (.tuple #[.int .i32 ((Kh r).1.getD 0),.bool (Kh r).1.isSome])/\Zd w' b o t (Kh r).2/\F4 w w' b o 2:=by
 have e:=Avx (fu:=2000) (d:=0) (xs:=noR) (by omega) hS ht;exact OM (us:=[]) (rs:=[.int .i32 ((Kh r).1.getD 0),.bool (Kh r).1.isSome]) e trivial ⟨.inl rfl,.inl rfl,trivial⟩ h
end
section
open Go Go.RowKit Go.Lib
def A5a(o:Option Am):Value:=.tuple #[.string (Aa (o.getD [])),.bool o.isSome]
theorem Zd.below{B:Nat}{w w':World}{b o:Nat}{t:ByteArray}{r:Am}(h:Zd w b o t r)(hb:Below B w w')(hB:b<B):Zd w' b o t r:=
 ⟨Gy h.lt hb.size,(hb.cell (p:=⟨b,o,none⟩) hB).trans h.c0,(hb.cell (p:=⟨b,o+1,none⟩) hB).trans h.c1,(hb.frozen (p:=⟨b,o,none⟩) hB).trans h.f0,(hb.frozen (p:=⟨b,o+1,none⟩) hB).trans h.f1⟩
theorem TJ{l:Am}(h:Ct l):(Kh l).2.length<=l.length:=by
 have h1:Dp (Aa l) l:=⟨[],by rw[Cs h];rfl⟩
 have:=(Rp h1).len
 rwa [Ag] at this
theorem OV{l r:Am}{x:Int}(h:Ol l=(some x,r)):0<=x/\x<=1114111:=by
 have hb:=Iu 4 0 l;unfold Ol at h;rcases hq:N0 4 0 l with⟨o,r1⟩;rw[hq] at h;cases o with
 |none=>cases h
 |some y=>
  have by_:=hb y r1 hq (by omega);simp only at h;split at h
  ·cases h
  split at h
  ·cases h;omega
  split at h
  ·have It:=Iu 4 0 (r1.drop 2);unfold NW at h;rcases K7:N0 4 0 (r1.drop 2) with⟨o2,r2⟩;rw[K7] at h;cases o2 with
   |none=>cases h
   |some z=>
    have bz:=It z r2 K7 (by omega);simp only at h;split at h
    ·rename_i hz
     have lz:56320<=z/\z<=57343:=by
      unfold Rf at hz
      simpa using hz
     cases h;omega
    ·cases h
  ·cases h
theorem RZ{l r:Am}{x:Int}(h:Kh l=(some x,r)):0<=x/\x<=1114111:=by
 cases l with
 |nil=>cases h
 |cons c l=>
  have he:Kh (c::l)=if c=117 then Ol l else match S8 c with|some x=>(some x,l)|none=>(none,c::l):=rfl
  rw[he] at h;split at h
  ·exact OV h
  ·rcases LM c with⟨rfl,g⟩|⟨rfl,g⟩|⟨rfl,g⟩|⟨rfl,g⟩|⟨rfl,g⟩|⟨rfl,g⟩|⟨rfl,g⟩|⟨rfl,g⟩|⟨g1,g⟩<;>rw[g] at h<;>cases h<;>omega
set_option maxHeartbeats 4000000 in
theorem UE{t:ByteArray}{r:Am}(hS:Dp t r)(ht:t.size<=1000000){w:World}{b o:Nat}(h:Zd w b o t r):
    Calls prog 67 #[.pointer (some ⟨b,o,none⟩)] w fun e w'=>e=.returned (A5a (De r).1)/\Zd w' b o t (De r).2/\F4 w w' b o 2:=by
  have mixed:prog.follows Departure.mixedOrders=true:=by kernel_rfl
  have hac:=Iz hS ht (w0:=[34]) (fun x hx=>by simp at hx;omega) (by decide) h
  go_enter Tryz.func67,Tryz.ntmps67
  go_wp2_with (go_at_call 66;refine hac.mono ?_)
  rintro e W1 ⟨rfl,h1,k1⟩
  cases hq:An [34] r with
  |none=>
    rw[hq] at h1
    go_wp2
    go_ret2
    have e:De r=(none,r):=by
      cases r with
      |nil=>rfl
      |cons c l=>
        have hc:c≠34:=by
          rintro rfl
          unfold An at hq
          rw[Bq (by simp[List.isPrefixOf])] at hq
          cases hq
        show (if c=34 then _ else (none,c::l))=_
        rw[Bg hc]
    rw[e]
    exact⟨rfl,h1,k1⟩
  |some r1=>
    rw[hq] at h1
    have KF:r=34::r1:=by
      unfold An at hq
      split at hq
      · rename_i hp
        obtain⟨s,hs⟩:=List.isPrefixOf_iff_prefix.1 hp
        rw[<-hs] at hq ⊢
        cases hq
        rfl
      · cases hq
    subst KF
    have e:De (34::r1)=Gf (r1.length+1) [] r1:=by
      show (if (34:Int)=34 then Gf (r1.length+1) [] r1 else (none,34::r1))=_
      exact Bq rfl
    have hS1:Dp t r1:=hS.tail
    have h2:Zd (W1.alloc (.cells #[.pointer none,.slice none 0 0] 83)) b o t r1:=by
      have hb:Below W1.heap.size W1 (W1.alloc (.cells #[.pointer none,.slice none 0 0] 83)):=(Below.refl _ W1).alloc (Cc _) _
      exact⟨Gy h1.lt hb.size,(hb.cell (p:=⟨b,o,none⟩) h1.lt).trans h1.c0,(hb.cell (p:=⟨b,o+1,none⟩) h1.lt).trans h1.c1,(hb.frozen (p:=⟨b,o,none⟩) h1.lt).trans h1.f0,(hb.frozen (p:=⟨b,o+1,none⟩) h1.lt).trans h1.f1⟩
    have k2:F4 w (W1.alloc (.cells #[.pointer none,.slice none 0 0] 83)) b o 2:=k1.below ((Below.refl _ W1).alloc (Cc _) _ |>.mono k1.size) h.lt
    have hB1:b<W1.heap.size:=h1.lt
    have hw1:w.heap.size<=W1.heap.size:=k1.size
    go_wp2
    go_loopw [] (fun wr=>∃(n:Nat) (out l:Am),Gf (r1.length+1) [] r1=Gf n out l/\l.length<n/\Ct out/\out.length+4*l.length<=4*t.size/\Dp t l/\Zd wr b o t l/\F4 w wr b o 2/\W1.heap.size<=wr.heap.size/\Lib.IsBuilderF 83 5 W1.heap.size W1.heap.size (UL out) wr) (fun wr=>match wr.cell? ⟨b,o+1,none⟩ with|some (.int _ p)=>t.size-p.toNat|_=>0)
    case atStart=>
      exact⟨r1.length+1,[],r1,rfl,Nat.lt_succ_self _,(fun x hx=>by cases hx),(by have:=hS1.len;simp;omega),hS1,h2,k2,((Below.refl W1.heap.size W1).alloc (Cc _) _).size,Lib.IsBuilderF.of (Lib.fresh_isBuilder 83 5 W1)⟩
    case round=>
      obtain⟨n,out,l,Hf,hn,hoB,hol,hSl,hat,hk,hws,hI⟩:=hrel
      obtain⟨Cx,hc0,KI,hf0,hf1⟩:=hat
      cases l with
      |nil=>
        rw[L8] at KI
        go_wp2
        go_region_o
        go_wp2
        go_ret2
        rw[e,Hf]
        obtain⟨m,rfl⟩:∃m,n=m+1:=⟨n-1,by omega⟩
        exact⟨rfl,⟨Cx,hc0,KI,hf0,hf1⟩,hk.drew⟩
      |cons c l=>
        obtain⟨m,rfl⟩:∃m,n=m+1:=⟨n-1,by omega⟩
        obtain⟨bb,hbb,rfl⟩:=hSl.at
        have hll:=hSl.len
        have Sl:A9 t ((bb.toNat:Int)::l)<t.size:=by
          unfold A9
          rw[Ub] at hll ⊢
          omega
        have Abb:=Hy hSl
        have RX:t[A9 t ((bb.toNat:Int)::l)]'(Sl)=bb:=by
          rw[Array.getElem?_toList,Array.getElem?_eq_getElem Sl] at hbb
          exact Option.some.inj hbb
        have hcb:=bb.toNat_lt
        generalize hp:A9 t ((bb.toNat:Int)::l)=p at *
        have A9h:(p:Int)<t.size:=by omega
        have kw:F4 wr (wr.setCell ⟨b,o+1,none⟩ (.int .i64 ((p:Int)+1))).drew.drew b o 2:=((F4.setCell wr b o 2 (o+1) _ (by omega) (by omega) Cx).drew).drew
        have F3:=hk.trans kw
        have YA:=Zk hI kw hB1
        have QV:Zd (wr.setCell ⟨b,o+1,none⟩ (.int .i64 ((p:Int)+1))).drew.drew b o t l:=by
          refine⟨Gy Cx kw.size,?_,?_,?_,?_⟩
          · exact (World.cell?_setCell_other _ _ _ _ (by intro e;injection e;omega)).trans hc0
          · have:(A9 t l:Int)=(p:Int)+1:=by omega
            rw[this]
            exact World.cell?_setCell_same _ _ _ KI
          · exact (World.frozen?_setCell _ _ _ _).trans hf0
          · exact (World.frozen?_setCell _ _ _ _).trans hf1
        have Amg:W1.heap.size<=(wr.setCell ⟨b,o+1,none⟩ (.int .i64 ((p:Int)+1))).drew.drew.heap.size:=Nat.le_trans hws kw.size
        have hsm:Gf (m+1) out ((bb.toNat:Int)::l)=if (bb.toNat:Int)<32 then (none,(bb.toNat:Int)::l) else if (bb.toNat:Int)=34 then (some out,l) else if (bb.toNat:Int)=92 then
            (match Kh l with
             |(some x,r')=>Gf m (out++Lib.encodeRuneZ x) r'
             |(none,r')=>(none,r')) else Gf m (out++[(bb.toNat:Int)]) l:=rfl
        rw[hsm] at Hf
        have A59:(UL out).length+4<=140737488355328:=by
          rw[List.length_map]
          omega
        by_cases Axq:(bb.toNat:Int)<32
        · rw[Bq Axq] at Hf
          go_wp2
          go_region_o
          go_wp2
          go_region_o
          go_wp2
          go_ret2
          rw[e,Hf]
          exact⟨rfl,⟨Cx,hc0,by rw[hp];exact KI,hf0,hf1⟩,hk.drew.drew⟩
        · rw[Bg Axq] at Hf
          by_cases Aui:(bb.toNat:Int)=34
          · rw[Bq Aui] at Hf
            go_wp2
            go_region_o
            go_wp2
            go_region_o
            go_wp2_with (go_at_call 41;refine (Any.Builder_String_any_k HU V4 W1.heap.size W1.heap.size (out.map fun n=>n.toNat.toUInt8) _ (by rw[<-AV hoB];exact YA) Amg).mono ?_)
            rintro e2 W3 ⟨rfl,_,b3,_⟩
            go_wp2
            go_ret2
            rw[e,Hf]
            exact⟨rfl,QV.below b3 hB1,F3.below (b3.mono hw1) h.lt⟩
          · rw[Bg Aui] at Hf
            by_cases Axs:(bb.toNat:Int)=92
            · rw[Bq Axs] at Hf
              have Es:=Ac1 hSl.tail ht QV
              go_wp2
              go_region_o
              go_wp2
              go_region_o
              go_wp2_with (go_at_call 90;refine Es.mono ?_)
              rintro e2 W3 ⟨rfl,Ada,k3⟩
              have Mx:=F3.trans k3
              have hI3:=Zk YA k3 hB1
              have Awi:=Nat.le_trans Amg k3.size
              have hel:=TJ (l:=l) hSl.tail.B
              have Tr:=Rp hSl.tail
              rcases hqe:Kh l with⟨oe,le⟩
              rw[hqe] at Ada Hf hel Tr
              cases oe with
              |none=>
                go_wp2
                go_ret2
                rw[e,Hf]
                exact⟨rfl,Ada,Mx⟩
              |some x=>
                have My:=RZ hqe
                go_wp2_with (go_at_call 91;refine (Any.Builder_WriteRune_k WN V4 W1.heap.size W1.heap.size _ x (by omega) (by omega) _ hI3 (by omega) Awi).mono ?_)
                rintro e3 W4 ⟨rfl,i4,b4,_⟩
                go_wp2
                have Avc:=Ada.below b4 hB1
                have hrl:=Lib.encodeRuneZ_length x
                refine⟨⟨m,out++Lib.encodeRuneZ x,le,Hf,by simp at hn hel;omega,Js hoB (fun y hy=>by have:=Lib.encodeRuneZ_byte x y hy;omega),by simp at hol hel ⊢;omega,Tr,Avc,Mx.below (b4.mono hw1) h.lt,Nat.le_trans Awi b4.size,by rw[PL];exact Or.inr i4⟩,?_⟩
                have BU:=Tr.len
                have QE:A9 t l<=A9 t le:=by unfold A9;omega
                have hp4:A9 t le<=t.size:=Nat.sub_le _ _
                simp only[Avc.c1,KI,Kc]
                omega
            · rw[Bg Axs] at Hf
              go_wp2
              go_region_o
              go_wp2
              go_region_o
              go_wp2_with (go_at_call 40;refine (Any.Builder_WriteByte_k HE V4 W1.heap.size W1.heap.size _ _ _ YA (by omega) Amg).mono ?_)
              rintro e2 W3 ⟨rfl,i3,b3,_⟩
              go_wp2
              have Ada:=QV.below b3 hB1
              refine⟨⟨m,out++[(bb.toNat:Int)],l,Hf,by simp at hn;omega,Js hoB (fun x hx=>by simp at hx;omega),by simp at hol ⊢;omega,hSl.tail,Ada,F3.below (b3.mono hw1) h.lt,Nat.le_trans Amg b3.size,by rw[PL];exact Or.inr i3⟩,?_⟩
              simp only[Ada.c1,KI,Kc]
              omega
end
section
open Go Go.RowKit
theorem GS{t:ByteArray}:∀(n:Nat)(out l:Am),Dp t l->Dp t (Gf n out l).2
  |0,_,_,h=>h
  |_+1,_,[],h=>h
  |n+1,out,c::l,h=>by
    have e:Gf (n+1) out (c::l)=if c<32 then (none,c::l) else if c=34 then (some out,l) else if c=92 then
        (match Kh l with
         |(some x,r')=>Gf n (out++Lib.encodeRuneZ x) r'
         |(none,r')=>(none,r')) else Gf n (out++[c]) l:=rfl
    rw[e]
    split
    · exact h
    split
    · exact h.tail
    split
    · have h2:=Rp h.tail
      rcases hq:Kh l with⟨o,r⟩
      rw[hq] at h2
      cases o with
      |none=>exact h2
      |some x=>exact GS n _ r h2
    · exact GS n _ l h.tail
theorem Gl{t:ByteArray}{l:Am}(h:Dp t l):Dp t (De l).2:=by
 cases l with
 |nil=>exact h
 |cons c l=>
  have e:De (c::l)=if c=34 then Gf (l.length+1) [] l else (none,c::l):=rfl
  rw[e];split
  ·exact GS _ _ _ h.tail
  ·exact h
theorem Ajj{w w':World}{Y:Nat->Prop}{bt:AO}{vs vs':List Value}{us:List Value}{b o:Nat}{a c:Value}(hi:Ins w Y bt [.pbox (vs.map .sc)] us)(hb:bt 0 0=some (b,o))(hk:F4 w w' b o vs.length)(hl:vs'.length=vs.length)(hc:∀j v,vs'[j]?=some v->w'.cell? ⟨b,o+j,none⟩=some v)(hf:∀j,j<vs.length->w'.frozen? ⟨b,o+j,none⟩=false):
  Out w w' Y bt [.pbox (vs.map .sc)] (fun _=>none) ⟨[.sc a,.sc c],[vs'.map .sc]⟩ [a,c] where
 os:=hk.os
 tape:=hk.tape
 output:=hk.output
 ext:=⟨hk.size,fun k h Er=>hk.other k h (fun e=>Er (by rw[e];exact⟨0,0,o,hb⟩)),fun k h=>by
  by_cases e:k=b
  ·rw[e];exact hk.grow
  ·exact Iw.same (hk.other k h e)⟩
 rng:=fun k j h hn=>by
  by_cases e:k=b
  ·subst e
   have hj:j<o\/o+vs.length<=j:=by
    rcases Ht j o with h1|h1
    ·exact .inl h1
    ·rcases Ht j (o+vs.length) with h2|h2
     ·exact absurd ⟨0,_,rfl,.inr ⟨o,vs.map .sc,hb,h1,.inl ⟨rfl,by rw[List.length_map];exact h2⟩⟩⟩ hn
     ·exact .inr h2
   exact⟨hk.cells j hj,hk.frz j hj⟩
  ·have:=hk.other k h e;exact⟨by unfold World.cell?;simp only[this],by unfold World.frozen?;simp only[this]⟩
 vals:=⟨A3.sc a,A3.sc c,trivial⟩
 outs:=⟨⟨b,o,hb,by rw[List.length_map,List.length_map,hl],vs',V5,hc,fun k h=>hf k (by rw[List.length_map,hl] at h;exact h)⟩,rfl⟩
 fresh:=fun j b o h=>by cases h
 inj:=fun j j' b o o' h=>by cases h
theorem Abx(G:Yl)(args:Al)(res:Bz)(h:Agh args=some res):Eb G prog 67 args res:=by
 refine⟨⟨_,Tryz.func67,by kernel_rfl⟩,fun w Y bt us hi _ _=>?_⟩;unfold Agh at h;split at h
 rotate_left
 ·cases h
 rename_i t p;cases hq:(decide (0<=p)&&decide (p<=t.size)&&Nat.ble t.size 1000000)
 ·rw[hq] at h;cases h
 rw[hq,cond_true] at h;simp only[Fb,AM] at hq;obtain⟨⟨M8,Da⟩,hm⟩:=hq;have hm:=Rc hm;obtain⟨p,rfl⟩:=Int.eq_ofNat_of_zero_le M8;rw[Kc] at h;have hS:Dp t ((Eu t).drop p):=(Dp.all t).drop p
 have Acl:(A9 t ((Eu t).drop p):Int)=(p:Int):=by
  unfold A9;rw[List.length_drop,Ik];omega
 have ps:=hi.args
 match us,ps with
 |[u1],ps=>
  obtain⟨b,o,hb,rfl,_,vs,EV,Dv,hfr⟩:=ps.1;have T8:=Wh (vs:=[.string t,.int .i64 (p:Int)]) EV;subst T8;have hat:Zd w b o t ((Eu t).drop p):=⟨hi.lt b ⟨0,0,o,hb⟩,Dv 0 _ rfl,by rw[Acl];exact Dv 1 _ rfl,hfr 0 (Nat.zero_lt_succ _),hfr 1 (Nat.succ_lt_succ (Nat.zero_lt_succ _))⟩
  refine (UE hS hm hat).mono ?_
  rintro e w' ⟨rfl,QV,hk⟩
  rcases hx:De ((Eu t).drop p) with⟨o2,r2⟩;rw[hx] at h QV
  have MR:r2.length<=t.size:=by
   have:=Gl hS;rw[hx] at this;exact this.len
  have Auy:(A9 t r2:Int)=(t.size:Int)-r2.length:=by
   unfold A9;omega
  have Ys:∀a c:Value,Out w w' Y bt [.pbox ([Value.string t,.int .i64 (p:Int)].map .sc)] (fun _=>none) ⟨[.sc a,.sc c],[[Value.string t,.int .i64 ((t.size:Int)-r2.length)].map .sc]⟩ [a,c]:=by
   intro a c;refine Ajj hi hb hk rfl ?_ ?_
   ·intro j v hv
    match j,hv with
    |0,hv=>cases hv;exact QV.c0
    |1,hv=>cases hv;rw[<-Auy];exact QV.c1
   ·intro j hj
    match j,hj with
    |0,_=>exact QV.f0
    |1,_=>exact QV.f1
  cases o2 with
  |none=>
   cases h;exact⟨[.string ⟨#[]⟩,.bool false],fun _=>none,rfl,Ys _ _⟩
  |some s=>
   cases h;exact⟨[.string (Aa s),.bool true],fun _=>none,rfl,Ys _ _⟩
 |[],ps=>exact ps.elim
 |_::_::_,ps=>exact ps.2.elim
end
section
variable {xs:FuncId->Option (Al->Option Bz)}(fu d:Nat)(call:A7)
theorem Nt{p:Option (Al->Option Bz)}(fu d:Nat)(Z:ByteArray)(Y:Int):Ae (CP p) prog fu (d+1) 65 [.sc (.string Z),.sc (.int .u8 Y)]=(fun (call:A7)=>Z1 .i64 (call 88 [.sc (.string Z),.sc (.int .u8 Y)]) fun a=>Cg [a]) (Ae (CP p) prog fu d):=by kernel_rfl
def Ea(Z:ByteArray)(Y:Int)(X:Nat)(W:ByteArray)(V:Int):Option Bz:=Ri fu call 43 Tryz.f43 [.pbox [.sc (.string Z),Y]] [.l] X ⟨lk [(0,.ptr 64000 0)],H4 [(64000,.st [.sc (.string W),V])]⟩
theorem Gr(X:ByteArray)(W:Int)(V:Nat)(Y:ByteArray)(Z:Int):Ea fu call X W (V+1) Y Z=(As (decide (Z<(↑(ByteArray.size Y):Int))) (A6 (decide (0<=Z))<|Dk ((Array.toList (ByteArray.data Y))[Z.toNat]?) fun a=>Z1 .i64 (call 65 [.sc (.string (ByteArray.mk #[32,9,10,13])),.sc (.int .u8 (↑(UInt8.toNat a):Int))]) fun a=>As (decide (a>=0)) (Ab (wrap .i64 (Z+1)) fun a=>Ea fu call X W V Y a) (some ⟨[],[[.sc (.string Y),Z]]⟩)) (some ⟨[],[[.sc (.string Y),Z]]⟩)):=by kernel_rfl
theorem Mp{p:Option (Al->Option Bz)}(fu d:Nat)(Z:ByteArray)(Y:Int):Ae (CP p) prog fu (d+1) 43 [.pbox [.sc (.string Z),Y]]=(fun (call:A7)=>Ea fu call Z Y fu Z Y) (Ae (CP p) prog fu d):=by kernel_rfl
def Dy(Z:ByteArray)(Y:Int)(X:Nat)(W:Int)(V:ByteArray)(U:Int):Option Bz:=Ri fu call 111 Tryz.f111 [.pbox [.sc (.string Z),Y]] [.r,.r,.l,.l] X ⟨lk [(0,.ptr 58000 0),(3,W)],H4 [(58000,.st [.sc (.string V),U])]⟩
theorem Gk(Y:ByteArray)(X:Int)(W:Nat)(Z:Int)(V:ByteArray)(U:Int):Dy fu call Y X (W+1) Z V U=(Ah (call 92 [.pbox [.sc (.string V),U]]) fun a b=>Au .u8 a fun a=>Ac b fun b c=>Ac b fun b e=>Ai b fun b=>Au .i64 e fun e=>Af c<|As (decide (a>=48)) (Ah (call 92 [.pbox [.sc (.string b),e]]) fun a b=>Au .u8 a fun a=>Ac b fun b c=>Ac b fun b e=>Ai b fun b=>Au .i64 e fun e=>Af c<|As (decide (a<=57)) (Ab (wrap .i64 (e+1)) fun a=>Dy fu call Y X W Z b a) (some ⟨[.sc (.bool (decide (e>Z)))],[[.sc (.string b),e]]⟩)) (some ⟨[.sc (.bool (decide (e>Z)))],[[.sc (.string b),e]]⟩)):=by kernel_rfl
theorem Lm{p:Option (Al->Option Bz)}(fu d:Nat)(Y:ByteArray)(Z:Int):Ae (CP p) prog fu (d+1) 111 [.pbox [.sc (.string Y),Z]]=(fun (call:A7)=>Dy fu call Y Z fu Z Y Z) (Ae (CP p) prog fu d):=by kernel_rfl
theorem Ak{p:Option (Al->Option Bz)}(fu d:Nat)(Z:ByteArray)(Y:Int):Ae (CP p) prog fu (d+1) 94 [.pbox [.sc (.string Z),Y]]=(fun (call:A7)=>Ah (call 66 [.pbox [.sc (.string Z),Y],.sc (.string (ByteArray.mk #[45]))]) fun a b=>F8 a fun a=>Ac b fun a b=>Ac a fun a c=>Ai a fun a=>Au .i64 c fun c=>Af b<|Ah (call 66 [.pbox [.sc (.string a),c],.sc (.string (ByteArray.mk #[48]))]) fun a b=>F8 a fun a=>Ac b fun b c=>Ac b fun b e=>Ai b fun b=>Au .i64 e fun e=>Af c<|As (!a) (Ah (call 111 [.pbox [.sc (.string b),e]]) fun a b=>F8 a fun a=>Ac b fun b c=>Ac b fun b e=>Ai b fun b=>Au .i64 e fun e=>Af c<|As (!a) (some ⟨[.sc (.bool false)],[[.sc (.string b),e]]⟩) (Ah (call 66 [.pbox [.sc (.string b),e],.sc (.string (ByteArray.mk #[46]))]) fun a b=>F8 a fun a=>Ac b fun b c=>Ac b fun b e=>Ai b fun b=>Au .i64 e fun e=>Af c<|As a (Ah (call 111 [.pbox [.sc (.string b),e]]) fun a b=>F8 a fun a=>Ac b fun b c=>Ac b fun b e=>Ai b fun b=>Au .i64 e fun e=>Af c<|As (!a) (some ⟨[.sc (.bool false)],[[.sc (.string b),e]]⟩) (Ah (call 66 [.pbox [.sc (.string b),e],.sc (.string (ByteArray.mk #[101]))]) fun a b=>F8 a fun a=>Ac b fun b c=>Ac b fun b e=>Ai b fun b=>Au .i64 e fun e=>Af c<|As a (Ah (call 66 [.pbox [.sc (.string b),e],.sc (.string (ByteArray.mk #[43]))]) fun a b=>F8 a fun a=>Ac b fun b c=>Ac b fun b e=>Ai b fun b=>Au .i64 e fun e=>Af c<|As (!a) (Ah (call 66 [.pbox [.sc (.string b),e],.sc (.string (ByteArray.mk #[45]))]) fun a b=>F8 a fun a=>Ac b fun a b=>Ac a fun a c=>Ai a fun a=>Au .i64 c fun c=>Af b<|Ah (call 111 [.pbox [.sc (.string a),c]]) fun a b=>F8 a fun a=>Ac b fun b c=>Ac b fun b e=>Ai b fun b=>Au .i64 e fun e=>Af c<|some ⟨[.sc (.bool a)],[[.sc (.string b),e]]⟩) (Ah (call 111 [.pbox [.sc (.string b),e]]) fun a b=>F8 a fun a=>Ac b fun b c=>Ac b fun b e=>Ai b fun b=>Au .i64 e fun e=>Af c<|some ⟨[.sc (.bool a)],[[.sc (.string b),e]]⟩)) (Ah (call 66 [.pbox [.sc (.string b),e],.sc (.string (ByteArray.mk #[69]))]) fun a b=>F8 a fun a=>Ac b fun b c=>Ac b fun b e=>Ai b fun b=>Au .i64 e fun e=>Af c<|As a (Ah (call 66 [.pbox [.sc (.string b),e],.sc (.string (ByteArray.mk #[43]))]) fun a b=>F8 a fun a=>Ac b fun b c=>Ac b fun b e=>Ai b fun b=>Au .i64 e fun e=>Af c<|As (!a) (Ah (call 66 [.pbox [.sc (.string b),e],.sc (.string (ByteArray.mk #[45]))]) fun a b=>F8 a fun a=>Ac b fun a b=>Ac a fun a c=>Ai a fun a=>Au .i64 c fun c=>Af b<|Ah (call 111 [.pbox [.sc (.string a),c]]) fun a b=>F8 a fun a=>Ac b fun b c=>Ac b fun b e=>Ai b fun b=>Au .i64 e fun e=>Af c<|some ⟨[.sc (.bool a)],[[.sc (.string b),e]]⟩) (Ah (call 111 [.pbox [.sc (.string b),e]]) fun a b=>F8 a fun a=>Ac b fun b c=>Ac b fun b e=>Ai b fun b=>Au .i64 e fun e=>Af c<|some ⟨[.sc (.bool a)],[[.sc (.string b),e]]⟩)) (some ⟨[.sc (.bool true)],[[.sc (.string b),e]]⟩)))) (Ah (call 66 [.pbox [.sc (.string b),e],.sc (.string (ByteArray.mk #[101]))]) fun a b=>F8 a fun a=>Ac b fun b c=>Ac b fun b e=>Ai b fun b=>Au .i64 e fun e=>Af c<|As a (Ah (call 66 [.pbox [.sc (.string b),e],.sc (.string (ByteArray.mk #[43]))]) fun a b=>F8 a fun a=>Ac b fun b c=>Ac b fun b e=>Ai b fun b=>Au .i64 e fun e=>Af c<|As (!a) (Ah (call 66 [.pbox [.sc (.string b),e],.sc (.string (ByteArray.mk #[45]))]) fun a b=>F8 a fun a=>Ac b fun a b=>Ac a fun a c=>Ai a fun a=>Au .i64 c fun c=>Af b<|Ah (call 111 [.pbox [.sc (.string a),c]]) fun a b=>F8 a fun a=>Ac b fun b c=>Ac b fun b e=>Ai b fun b=>Au .i64 e fun e=>Af c<|some ⟨[.sc (.bool a)],[[.sc (.string b),e]]⟩) (Ah (call 111 [.pbox [.sc (.string b),e]]) fun a b=>F8 a fun a=>Ac b fun b c=>Ac b fun b e=>Ai b fun b=>Au .i64 e fun e=>Af c<|some ⟨[.sc (.bool a)],[[.sc (.string b),e]]⟩)) (Ah (call 66 [.pbox [.sc (.string b),e],.sc (.string (ByteArray.mk #[69]))]) fun a b=>F8 a fun a=>Ac b fun b c=>Ac b fun b e=>Ai b fun b=>Au .i64 e fun e=>Af c<|As a (Ah (call 66 [.pbox [.sc (.string b),e],.sc (.string (ByteArray.mk #[43]))]) fun a b=>F8 a fun a=>Ac b fun b c=>Ac b fun b e=>Ai b fun b=>Au .i64 e fun e=>Af c<|As (!a) (Ah (call 66 [.pbox [.sc (.string b),e],.sc (.string (ByteArray.mk #[45]))]) fun a b=>F8 a fun a=>Ac b fun a b=>Ac a fun a c=>Ai a fun a=>Au .i64 c fun c=>Af b<|Ah (call 111 [.pbox [.sc (.string a),c]]) fun a b=>F8 a fun a=>Ac b fun b c=>Ac b fun b e=>Ai b fun b=>Au .i64 e fun e=>Af c<|some ⟨[.sc (.bool a)],[[.sc (.string b),e]]⟩) (Ah (call 111 [.pbox [.sc (.string b),e]]) fun a b=>F8 a fun a=>Ac b fun b c=>Ac b fun b e=>Ai b fun b=>Au .i64 e fun e=>Af c<|some ⟨[.sc (.bool a)],[[.sc (.string b),e]]⟩)) (some ⟨[.sc (.bool true)],[[.sc (.string b),e]]⟩))))) (Ah (call 66 [.pbox [.sc (.string b),e],.sc (.string (ByteArray.mk #[46]))]) fun a b=>F8 a fun a=>Ac b fun b c=>Ac b fun b e=>Ai b fun b=>Au .i64 e fun e=>Af c<|As a (Ah (call 111 [.pbox [.sc (.string b),e]]) fun a b=>F8 a fun a=>Ac b fun b c=>Ac b fun b e=>Ai b fun b=>Au .i64 e fun e=>Af c<|As (!a) (some ⟨[.sc (.bool false)],[[.sc (.string b),e]]⟩) (Ah (call 66 [.pbox [.sc (.string b),e],.sc (.string (ByteArray.mk #[101]))]) fun a b=>F8 a fun a=>Ac b fun b c=>Ac b fun b e=>Ai b fun b=>Au .i64 e fun e=>Af c<|As a (Ah (call 66 [.pbox [.sc (.string b),e],.sc (.string (ByteArray.mk #[43]))]) fun a b=>F8 a fun a=>Ac b fun b c=>Ac b fun b e=>Ai b fun b=>Au .i64 e fun e=>Af c<|As (!a) (Ah (call 66 [.pbox [.sc (.string b),e],.sc (.string (ByteArray.mk #[45]))]) fun a b=>F8 a fun a=>Ac b fun a b=>Ac a fun a c=>Ai a fun a=>Au .i64 c fun c=>Af b<|Ah (call 111 [.pbox [.sc (.string a),c]]) fun a b=>F8 a fun a=>Ac b fun b c=>Ac b fun b e=>Ai b fun b=>Au .i64 e fun e=>Af c<|some ⟨[.sc (.bool a)],[[.sc (.string b),e]]⟩) (Ah (call 111 [.pbox [.sc (.string b),e]]) fun a b=>F8 a fun a=>Ac b fun b c=>Ac b fun b e=>Ai b fun b=>Au .i64 e fun e=>Af c<|some ⟨[.sc (.bool a)],[[.sc (.string b),e]]⟩)) (Ah (call 66 [.pbox [.sc (.string b),e],.sc (.string (ByteArray.mk #[69]))]) fun a b=>F8 a fun a=>Ac b fun b c=>Ac b fun b e=>Ai b fun b=>Au .i64 e fun e=>Af c<|As a (Ah (call 66 [.pbox [.sc (.string b),e],.sc (.string (ByteArray.mk #[43]))]) fun a b=>F8 a fun a=>Ac b fun b c=>Ac b fun b e=>Ai b fun b=>Au .i64 e fun e=>Af c<|As (!a) (Ah (call 66 [.pbox [.sc (.string b),e],.sc (.string (ByteArray.mk #[45]))]) fun a b=>F8 a fun a=>Ac b fun a b=>Ac a fun a c=>Ai a fun a=>Au .i64 c fun c=>Af b<|Ah (call 111 [.pbox [.sc (.string a),c]]) fun a b=>F8 a fun a=>Ac b fun b c=>Ac b fun b e=>Ai b fun b=>Au .i64 e fun e=>Af c<|some ⟨[.sc (.bool a)],[[.sc (.string b),e]]⟩) (Ah (call 111 [.pbox [.sc (.string b),e]]) fun a b=>F8 a fun a=>Ac b fun b c=>Ac b fun b e=>Ai b fun b=>Au .i64 e fun e=>Af c<|some ⟨[.sc (.bool a)],[[.sc (.string b),e]]⟩)) (some ⟨[.sc (.bool true)],[[.sc (.string b),e]]⟩)))) (Ah (call 66 [.pbox [.sc (.string b),e],.sc (.string (ByteArray.mk #[101]))]) fun a b=>F8 a fun a=>Ac b fun b c=>Ac b fun b e=>Ai b fun b=>Au .i64 e fun e=>Af c<|As a (Ah (call 66 [.pbox [.sc (.string b),e],.sc (.string (ByteArray.mk #[43]))]) fun a b=>F8 a fun a=>Ac b fun b c=>Ac b fun b e=>Ai b fun b=>Au .i64 e fun e=>Af c<|As (!a) (Ah (call 66 [.pbox [.sc (.string b),e],.sc (.string (ByteArray.mk #[45]))]) fun a b=>F8 a fun a=>Ac b fun a b=>Ac a fun a c=>Ai a fun a=>Au .i64 c fun c=>Af b<|Ah (call 111 [.pbox [.sc (.string a),c]]) fun a b=>F8 a fun a=>Ac b fun b c=>Ac b fun b e=>Ai b fun b=>Au .i64 e fun e=>Af c<|some ⟨[.sc (.bool a)],[[.sc (.string b),e]]⟩) (Ah (call 111 [.pbox [.sc (.string b),e]]) fun a b=>F8 a fun a=>Ac b fun b c=>Ac b fun b e=>Ai b fun b=>Au .i64 e fun e=>Af c<|some ⟨[.sc (.bool a)],[[.sc (.string b),e]]⟩)) (Ah (call 66 [.pbox [.sc (.string b),e],.sc (.string (ByteArray.mk #[69]))]) fun a b=>F8 a fun a=>Ac b fun b c=>Ac b fun b e=>Ai b fun b=>Au .i64 e fun e=>Af c<|As a (Ah (call 66 [.pbox [.sc (.string b),e],.sc (.string (ByteArray.mk #[43]))]) fun a b=>F8 a fun a=>Ac b fun b c=>Ac b fun b e=>Ai b fun b=>Au .i64 e fun e=>Af c<|As (!a) (Ah (call 66 [.pbox [.sc (.string b),e],.sc (.string (ByteArray.mk #[45]))]) fun a b=>F8 a fun a=>Ac b fun a b=>Ac a fun a c=>Ai a fun a=>Au .i64 c fun c=>Af b<|Ah (call 111 [.pbox [.sc (.string a),c]]) fun a b=>F8 a fun a=>Ac b fun b c=>Ac b fun b e=>Ai b fun b=>Au .i64 e fun e=>Af c<|some ⟨[.sc (.bool a)],[[.sc (.string b),e]]⟩) (Ah (call 111 [.pbox [.sc (.string b),e]]) fun a b=>F8 a fun a=>Ac b fun b c=>Ac b fun b e=>Ai b fun b=>Au .i64 e fun e=>Af c<|some ⟨[.sc (.bool a)],[[.sc (.string b),e]]⟩)) (some ⟨[.sc (.bool true)],[[.sc (.string b),e]]⟩))))) (Ae (CP p) prog fu d):=by kernel_rfl
def Ec(Z:ByteArray)(Y X:Int)(W:Nat)(V:Int)(U:ByteArray)(T:Int):Option Bz:=Ri fu call 93 Tryz.f93 [.pbox [.sc (.string Z),Y],X] [.r,.r,.r,.r,.l] W ⟨lk [(0,.ptr 64000 0),(1,V)],H4 [(64000,.st [.sc (.string U),T])]⟩
theorem K0(Y:ByteArray)(X W:Int)(V:Nat)(Z:Int)(U:ByteArray)(T:Int):Ec fu call Y X W (V+1) Z U T=(Ah (call 68 [.pbox [.sc (.string U),T],Z]) fun a b=>Ac a fun a c=>Fo a fun a=>Ca .i64 a fun a e=>Ac e fun a e=>Ai a fun a=>F8 e fun a=>Au .i64 c fun a=>Ac b fun b c=>Ac b fun b e=>Ai b fun b=>Au .i64 e fun e=>Af c<|As (a != 0) (some ⟨[a],[[.sc (.string b),e]]⟩) (Ah (call 43 [.pbox [.sc (.string b),e]]) fun a b=>Af a<|Ac b fun a b=>Ac a fun a c=>Ai a fun a=>Au .i64 c fun c=>Af b<|Ah (call 66 [.pbox [.sc (.string a),c],.sc (.string (ByteArray.mk #[93]))]) fun a b=>F8 a fun a=>Ac b fun b c=>Ac b fun b e=>Ai b fun b=>Au .i64 e fun e=>Af c<|As a (some ⟨[(0:Int)],[[.sc (.string b),e]]⟩) (Ah (call 66 [.pbox [.sc (.string b),e],.sc (.string (ByteArray.mk #[44]))]) fun a b=>F8 a fun a=>Ac b fun b c=>Ac b fun b e=>Ai b fun b=>Au .i64 e fun e=>Af c<|As (!a) (some ⟨[(2:Int)],[[.sc (.string b),e]]⟩) (Ah (call 43 [.pbox [.sc (.string b),e]]) fun a b=>Af a<|Ac b fun a b=>Ac a fun a c=>Ai a fun a=>Au .i64 c fun c=>Af b<|Ec fu call Y X W V Z a c)))):=by kernel_rfl
theorem Mn{p:Option (Al->Option Bz)}(fu d:Nat)(Z:ByteArray)(Y X:Int):Ae (CP p) prog fu (d+1) 93 [.pbox [.sc (.string Z),Y],X]=(fun (call:A7)=>Ah (call 66 [.pbox [.sc (.string Z),Y],.sc (.string (ByteArray.mk #[91]))]) fun a b=>F8 a fun a=>Ac b fun b c=>Ac b fun b e=>Ai b fun b=>Au .i64 e fun e=>Af c<|As (!a) (some ⟨[(2:Int)],[[.sc (.string b),e]]⟩) (Ah (call 43 [.pbox [.sc (.string b),e]]) fun a b=>Af a<|Ac b fun a b=>Ac a fun a c=>Ai a fun a=>Au .i64 c fun c=>Af b<|Ah (call 66 [.pbox [.sc (.string a),c],.sc (.string (ByteArray.mk #[93]))]) fun a b=>F8 a fun a=>Ac b fun b c=>Ac b fun b e=>Ai b fun b=>Au .i64 e fun e=>Af c<|As a (some ⟨[(0:Int)],[[.sc (.string b),e]]⟩) (Ec fu call Z Y X fu X b e))) (Ae (CP p) prog fu d):=by kernel_rfl
def Dx(Z:ByteArray)(Y X:Int)(W:Nat)(V:Int)(U:ByteArray)(T:Int):Option Bz:=Ri fu call 44 Tryz.f44 [.pbox [.sc (.string Z),Y],X,.sc (Value.map none)] [.r,.r,.r,.r,.l] W ⟨lk [(0,.ptr 128000 0),(1,V),(2,.sc (Value.map none))],H4 [(128000,.st [.sc (.string U),T])]⟩
theorem Kf(Y:ByteArray)(X W:Int)(V:Nat)(Z:Int)(U:ByteArray)(T:Int):Dx fu call Y X W (V+1) Z U T=(Ah (call 67 [.pbox [.sc (.string U),T]]) fun a b=>Ac a fun a c=>Ai a fun a=>F8 c fun a=>Ac b fun b c=>Ac b fun b e=>Ai b fun b=>Au .i64 e fun e=>Af c<|As (!a) (some ⟨[(2:Int)],[[.sc (.string b),e]]⟩) (Ah (call 43 [.pbox [.sc (.string b),e]]) fun a b=>Af a<|Ac b fun a b=>Ac a fun a c=>Ai a fun a=>Au .i64 c fun c=>Af b<|Ah (call 66 [.pbox [.sc (.string a),c],.sc (.string (ByteArray.mk #[58]))]) fun a b=>F8 a fun a=>Ac b fun b c=>Ac b fun b e=>Ai b fun b=>Au .i64 e fun e=>Af c<|As (!a) (some ⟨[(2:Int)],[[.sc (.string b),e]]⟩) (Ah (call 43 [.pbox [.sc (.string b),e]]) fun a b=>Af a<|Ac b fun a b=>Ac a fun a c=>Ai a fun a=>Au .i64 c fun c=>Af b<|Ah (call 68 [.pbox [.sc (.string a),c],Z]) fun a b=>Ac a fun a c=>Fo a fun a=>Ca .i64 a fun a e=>Ac e fun a e=>Ai a fun a=>F8 e fun a=>Au .i64 c fun a=>Ac b fun b c=>Ac b fun b e=>Ai b fun b=>Au .i64 e fun e=>Af c<|As (a != 0) (some ⟨[a],[[.sc (.string b),e]]⟩) (Ah (call 43 [.pbox [.sc (.string b),e]]) fun a b=>Af a<|Ac b fun a b=>Ac a fun a c=>Ai a fun a=>Au .i64 c fun c=>Af b<|Ah (call 66 [.pbox [.sc (.string a),c],.sc (.string (ByteArray.mk #[125]))]) fun a b=>F8 a fun a=>Ac b fun b c=>Ac b fun b e=>Ai b fun b=>Au .i64 e fun e=>Af c<|As a (some ⟨[(0:Int)],[[.sc (.string b),e]]⟩) (Ah (call 66 [.pbox [.sc (.string b),e],.sc (.string (ByteArray.mk #[44]))]) fun a b=>F8 a fun a=>Ac b fun b c=>Ac b fun b e=>Ai b fun b=>Au .i64 e fun e=>Af c<|As (!a) (some ⟨[(2:Int)],[[.sc (.string b),e]]⟩) (Ah (call 43 [.pbox [.sc (.string b),e]]) fun a b=>Af a<|Ac b fun a b=>Ac a fun a c=>Ai a fun a=>Au .i64 c fun c=>Af b<|Dx fu call Y X W V Z a c)))))):=by kernel_rfl
theorem Lj{p:Option (Al->Option Bz)}(fu d:Nat)(Z:ByteArray)(Y X:Int):Ae (CP p) prog fu (d+1) 44 [.pbox [.sc (.string Z),Y],X,.sc (Value.map none)]=(fun (call:A7)=>Ah (call 66 [.pbox [.sc (.string Z),Y],.sc (.string (ByteArray.mk #[123]))]) fun a b=>F8 a fun a=>Ac b fun b c=>Ac b fun b e=>Ai b fun b=>Au .i64 e fun e=>Af c<|As (!a) (some ⟨[(2:Int)],[[.sc (.string b),e]]⟩) (Ah (call 43 [.pbox [.sc (.string b),e]]) fun a b=>Af a<|Ac b fun a b=>Ac a fun a c=>Ai a fun a=>Au .i64 c fun c=>Af b<|Ah (call 66 [.pbox [.sc (.string a),c],.sc (.string (ByteArray.mk #[125]))]) fun a b=>F8 a fun a=>Ac b fun b c=>Ac b fun b e=>Ai b fun b=>Au .i64 e fun e=>Af c<|As a (some ⟨[(0:Int)],[[.sc (.string b),e]]⟩) (Dx fu call Z Y X fu X b e))) (Ae (CP p) prog fu d):=by kernel_rfl
theorem Cu{p:Option (Al->Option Bz)}(fu d:Nat)(Y:ByteArray)(X Z:Int):Ae (CP p) prog fu (d+1) 68 [.pbox [.sc (.string Y),X],Z]=(fun (call:A7)=>Ah (call 92 [.pbox [.sc (.string Y),X]]) fun a b=>Au .u8 a fun a=>Ac b fun b c=>Ac b fun b e=>Ai b fun b=>Au .i64 e fun e=>Af c<|As (a==123) (As (decide (Z>8)) (some ⟨[.agg [(0:Int),.sc (.string (ByteArray.mk #[])),.sc (.bool false)],(5:Int)],[[.sc (.string b),e]]⟩) (As (a==123) (Ab (wrap .i64 (Z+1)) fun a=>Ah (call 44 [.pbox [.sc (.string b),e],a,.sc (Value.map none)]) fun a b=>Au .i64 a fun a=>Ac b fun b c=>Ac b fun b e=>Ai b fun b=>Au .i64 e fun e=>Af c<|some ⟨[.agg [(6:Int),.sc (.string (ByteArray.mk #[])),.sc (.bool false)],a],[[.sc (.string b),e]]⟩) (As (a==91) (Ab (wrap .i64 (Z+1)) fun a=>Ah (call 93 [.pbox [.sc (.string b),e],a]) fun a b=>Au .i64 a fun a=>Ac b fun b c=>Ac b fun b e=>Ai b fun b=>Au .i64 e fun e=>Af c<|some ⟨[.agg [(5:Int),.sc (.string (ByteArray.mk #[])),.sc (.bool false)],a],[[.sc (.string b),e]]⟩) (As (a==34) (Ah (call 67 [.pbox [.sc (.string b),e]]) fun a b=>Ac a fun a c=>Ai a fun a=>F8 c fun c=>Ac b fun b e=>Ac b fun b f=>Ai b fun b=>Au .i64 f fun f=>Af e<|As c (some ⟨[.agg [(4:Int),.sc (.string a),.sc (.bool false)],(0:Int)],[[.sc (.string b),f]]⟩) (some ⟨[.agg [(0:Int),.sc (.string (ByteArray.mk #[])),.sc (.bool false)],(2:Int)],[[.sc (.string b),f]]⟩)) (Ah (call 66 [.pbox [.sc (.string b),e],.sc (.string (ByteArray.mk #[116,114,117,101]))]) fun a b=>F8 a fun a=>Ac b fun b c=>Ac b fun b e=>Ai b fun b=>Au .i64 e fun e=>Af c<|As a (some ⟨[.agg [(2:Int),.sc (.string (ByteArray.mk #[])),.sc (.bool true)],(0:Int)],[[.sc (.string b),e]]⟩) (Ah (call 66 [.pbox [.sc (.string b),e],.sc (.string (ByteArray.mk #[102,97,108,115,101]))]) fun a b=>F8 a fun a=>Ac b fun b c=>Ac b fun b e=>Ai b fun b=>Au .i64 e fun e=>Af c<|As a (some ⟨[.agg [(2:Int),.sc (.string (ByteArray.mk #[])),.sc (.bool false)],(0:Int)],[[.sc (.string b),e]]⟩) (Ah (call 66 [.pbox [.sc (.string b),e],.sc (.string (ByteArray.mk #[110,117,108,108]))]) fun a b=>F8 a fun a=>Ac b fun b c=>Ac b fun b e=>Ai b fun b=>Au .i64 e fun e=>Af c<|As a (some ⟨[.agg [(1:Int),.sc (.string (ByteArray.mk #[])),.sc (.bool false)],(0:Int)],[[.sc (.string b),e]]⟩) (Ah (call 94 [.pbox [.sc (.string b),e]]) fun a b=>F8 a fun a=>Ac b fun b c=>Ac b fun b e=>Ai b fun b=>Au .i64 e fun e=>Af c<|As a (some ⟨[.agg [(3:Int),.sc (.string (ByteArray.mk #[])),.sc (.bool false)],(0:Int)],[[.sc (.string b),e]]⟩) (some ⟨[.agg [(0:Int),.sc (.string (ByteArray.mk #[])),.sc (.bool false)],(2:Int)],[[.sc (.string b),e]]⟩))))))))) (As (a==91) (As (decide (Z>8)) (some ⟨[.agg [(0:Int),.sc (.string (ByteArray.mk #[])),.sc (.bool false)],(5:Int)],[[.sc (.string b),e]]⟩) (As (a==123) (Ab (wrap .i64 (Z+1)) fun a=>Ah (call 44 [.pbox [.sc (.string b),e],a,.sc (Value.map none)]) fun a b=>Au .i64 a fun a=>Ac b fun b c=>Ac b fun b e=>Ai b fun b=>Au .i64 e fun e=>Af c<|some ⟨[.agg [(6:Int),.sc (.string (ByteArray.mk #[])),.sc (.bool false)],a],[[.sc (.string b),e]]⟩) (As (a==91) (Ab (wrap .i64 (Z+1)) fun a=>Ah (call 93 [.pbox [.sc (.string b),e],a]) fun a b=>Au .i64 a fun a=>Ac b fun b c=>Ac b fun b e=>Ai b fun b=>Au .i64 e fun e=>Af c<|some ⟨[.agg [(5:Int),.sc (.string (ByteArray.mk #[])),.sc (.bool false)],a],[[.sc (.string b),e]]⟩) (As (a==34) (Ah (call 67 [.pbox [.sc (.string b),e]]) fun a b=>Ac a fun a c=>Ai a fun a=>F8 c fun c=>Ac b fun b e=>Ac b fun b f=>Ai b fun b=>Au .i64 f fun f=>Af e<|As c (some ⟨[.agg [(4:Int),.sc (.string a),.sc (.bool false)],(0:Int)],[[.sc (.string b),f]]⟩) (some ⟨[.agg [(0:Int),.sc (.string (ByteArray.mk #[])),.sc (.bool false)],(2:Int)],[[.sc (.string b),f]]⟩)) (Ah (call 66 [.pbox [.sc (.string b),e],.sc (.string (ByteArray.mk #[116,114,117,101]))]) fun a b=>F8 a fun a=>Ac b fun b c=>Ac b fun b e=>Ai b fun b=>Au .i64 e fun e=>Af c<|As a (some ⟨[.agg [(2:Int),.sc (.string (ByteArray.mk #[])),.sc (.bool true)],(0:Int)],[[.sc (.string b),e]]⟩) (Ah (call 66 [.pbox [.sc (.string b),e],.sc (.string (ByteArray.mk #[102,97,108,115,101]))]) fun a b=>F8 a fun a=>Ac b fun b c=>Ac b fun b e=>Ai b fun b=>Au .i64 e fun e=>Af c<|As a (some ⟨[.agg [(2:Int),.sc (.string (ByteArray.mk #[])),.sc (.bool false)],(0:Int)],[[.sc (.string b),e]]⟩) (Ah (call 66 [.pbox [.sc (.string b),e],.sc (.string (ByteArray.mk #[110,117,108,108]))]) fun a b=>F8 a fun a=>Ac b fun b c=>Ac b fun b e=>Ai b fun b=>Au .i64 e fun e=>Af c<|As a (some ⟨[.agg [(1:Int),.sc (.string (ByteArray.mk #[])),.sc (.bool false)],(0:Int)],[[.sc (.string b),e]]⟩) (Ah (call 94 [.pbox [.sc (.string b),e]]) fun a b=>F8 a fun a=>Ac b fun b c=>Ac b fun b e=>Ai b fun b=>Au .i64 e fun e=>Af c<|As a (some ⟨[.agg [(3:Int),.sc (.string (ByteArray.mk #[])),.sc (.bool false)],(0:Int)],[[.sc (.string b),e]]⟩) (some ⟨[.agg [(0:Int),.sc (.string (ByteArray.mk #[])),.sc (.bool false)],(2:Int)],[[.sc (.string b),e]]⟩))))))))) (As (a==123) (Ab (wrap .i64 (Z+1)) fun a=>Ah (call 44 [.pbox [.sc (.string b),e],a,.sc (Value.map none)]) fun a b=>Au .i64 a fun a=>Ac b fun b c=>Ac b fun b e=>Ai b fun b=>Au .i64 e fun e=>Af c<|some ⟨[.agg [(6:Int),.sc (.string (ByteArray.mk #[])),.sc (.bool false)],a],[[.sc (.string b),e]]⟩) (As (a==91) (Ab (wrap .i64 (Z+1)) fun a=>Ah (call 93 [.pbox [.sc (.string b),e],a]) fun a b=>Au .i64 a fun a=>Ac b fun b c=>Ac b fun b e=>Ai b fun b=>Au .i64 e fun e=>Af c<|some ⟨[.agg [(5:Int),.sc (.string (ByteArray.mk #[])),.sc (.bool false)],a],[[.sc (.string b),e]]⟩) (As (a==34) (Ah (call 67 [.pbox [.sc (.string b),e]]) fun a b=>Ac a fun a c=>Ai a fun a=>F8 c fun c=>Ac b fun b e=>Ac b fun b f=>Ai b fun b=>Au .i64 f fun f=>Af e<|As c (some ⟨[.agg [(4:Int),.sc (.string a),.sc (.bool false)],(0:Int)],[[.sc (.string b),f]]⟩) (some ⟨[.agg [(0:Int),.sc (.string (ByteArray.mk #[])),.sc (.bool false)],(2:Int)],[[.sc (.string b),f]]⟩)) (Ah (call 66 [.pbox [.sc (.string b),e],.sc (.string (ByteArray.mk #[116,114,117,101]))]) fun a b=>F8 a fun a=>Ac b fun b c=>Ac b fun b e=>Ai b fun b=>Au .i64 e fun e=>Af c<|As a (some ⟨[.agg [(2:Int),.sc (.string (ByteArray.mk #[])),.sc (.bool true)],(0:Int)],[[.sc (.string b),e]]⟩) (Ah (call 66 [.pbox [.sc (.string b),e],.sc (.string (ByteArray.mk #[102,97,108,115,101]))]) fun a b=>F8 a fun a=>Ac b fun b c=>Ac b fun b e=>Ai b fun b=>Au .i64 e fun e=>Af c<|As a (some ⟨[.agg [(2:Int),.sc (.string (ByteArray.mk #[])),.sc (.bool false)],(0:Int)],[[.sc (.string b),e]]⟩) (Ah (call 66 [.pbox [.sc (.string b),e],.sc (.string (ByteArray.mk #[110,117,108,108]))]) fun a b=>F8 a fun a=>Ac b fun b c=>Ac b fun b e=>Ai b fun b=>Au .i64 e fun e=>Af c<|As a (some ⟨[.agg [(1:Int),.sc (.string (ByteArray.mk #[])),.sc (.bool false)],(0:Int)],[[.sc (.string b),e]]⟩) (Ah (call 94 [.pbox [.sc (.string b),e]]) fun a b=>F8 a fun a=>Ac b fun b c=>Ac b fun b e=>Ai b fun b=>Au .i64 e fun e=>Af c<|As a (some ⟨[.agg [(3:Int),.sc (.string (ByteArray.mk #[])),.sc (.bool false)],(0:Int)],[[.sc (.string b),e]]⟩) (some ⟨[.agg [(0:Int),.sc (.string (ByteArray.mk #[])),.sc (.bool false)],(2:Int)],[[.sc (.string b),e]]⟩)))))))))) (Ae (CP p) prog fu d):=by kernel_rfl
end
theorem Aqt:∀n:Fin 256,decide (Lib.indexByte [32,9,10,13] (n.val:Int).toNat.toUInt8>=0)=Jr (n.val:Int):=by decide +kernel
theorem Axg{c:Int}(h0:0<=c)(h1:c<=255):decide (Lib.indexByte [32,9,10,13] c.toNat.toUInt8>=0)=Jr c:=by obtain⟨n,rfl⟩:=Int.eq_ofNat_of_zero_le h0;exact Aqt ⟨n,by omega⟩
theorem Bw{t:ByteArray}:∀{l:Am},Dp t l->Dp t (Ao l)
 |[],h=>h
 |c::l,h=>by
  unfold Ao;split
  ·exact Bw h.tail
  ·exact h
theorem Gc:∀(l:Am),(Ao l).length<=l.length
 |[]=>Cc _
 |c::l=>by
  unfold Ao;split
  ·exact Nat.le_succ_of_le (Gc l)
  ·exact Cc _
section
variable {fu d:Nat}
theorem Auk(s:ByteArray)(c:Int):Ae C0 prog fu (d+2) 65 [.sc (.string s),.sc (.int .u8 c)]=some ⟨[B9 (Lib.indexByte s.data.toList c.toNat.toUInt8)],[]⟩:=by have e:Ae C0 prog fu (d+1) 88 [.sc (.string s),.sc (.int .u8 c)]=some ⟨[B9 (Lib.indexByte s.data.toList c.toNat.toUInt8)],[]⟩:=rfl;rw[Nt];simp only[A2,A1,e]
theorem NP{t s0:ByteArray}{p0:Int}(ht:t.size<=1000000):∀(r:Am)(nn:Nat),r.length+1<=nn->Dp t r ->
  Ea fu (Ae C0 prog fu (d+2)) s0 p0 nn t (A9 t r:Int)=some ⟨[],[Cl t (Ao r)]⟩
 |[],nn,Jo,h=>by
  obtain⟨k,rfl⟩:∃k,nn=k+1:=⟨nn-1,by omega⟩
  have e:decide ((A9 t []:Int)<(t.size:Int))=false:=by simp[L8]
  rw[Gr];simp only[A2,A1,e];rfl
 |c::r,nn,Jo,h=>by
  obtain⟨k,rfl⟩:∃k,nn=k+1:=⟨nn-1,by omega⟩
  have ih:=NP (s0:=s0) (p0:=p0) ht r k (by simp at Jo;omega) h.tail
  have hc:=h.B c (by simp);have hl:=h.len;have hp:=Hy h
  have e6:wrap .i64 ((A9 t (c::r):Int)+1)=(A9 t r:Int):=by
   rw[hp,Ar (by unfold A9;omega) (by unfold A9;omega)];omega
  have Sl:A9 t (c::r)<t.size:=by
   unfold A9;rw[Ub] at hl ⊢;omega
  obtain⟨b,hb,rfl⟩:=h.at;have e:decide ((A9 t ((b.toNat:Int)::r):Int)<(t.size:Int))=true:=by simp;omega
  have e2:decide ((0:Int)<=(A9 t ((b.toNat:Int)::r):Int))=true:=by simp
  rw[<-Kc (A9 t ((b.toNat:Int)::r))] at hb;have ix:Ae C0 prog fu (d+2) 65 [.sc (.string (ByteArray.mk #[(32:UInt8),(9:UInt8),(10:UInt8),(13:UInt8)])),.sc (.int .u8 (b.toNat:Int))]=some ⟨[B9 (Lib.indexByte [32,9,10,13] (b.toNat:Int).toNat.toUInt8)],[]⟩:=Auk _ _;have hw:=Axg hc.1 hc.2;rw[Gr];cases hq:Jr (b.toNat:Int)
  ·rw[hq] at hw
   have es:Ao ((b.toNat:Int)::r)=(b.toNat:Int)::r:=by
    show (if Jr _=true then _ else _)=_;rw[hq];rfl
   rw[es];simp only[A2,A1,e,e2,hb,ix,hw]
  ·rw[hq] at hw
   have es:Ao ((b.toNat:Int)::r)=Ao r:=by
    show (if Jr _=true then _ else _)=_;rw[hq];rfl
   rw[es];simp only[A2,A1,e,e2,hb,ix,hw,e6,ih]
theorem Tb{t:ByteArray}{r:Am}(h:Dp t r)(ht:t.size<=1000000)(Ce:t.size+1<=fu):Ae C0 prog fu (d+3) 43 [.pbox (Cl t r)]=some ⟨[],[Cl t (Ao r)]⟩:=by rw[Mp];exact NP ht r fu (by have:=h.len;omega) h
theorem NC{t:ByteArray}:∀{l:Am},Dp t l->Dp t (Gw l)
 |[],h=>h
 |c::l,h=>by
  unfold Gw;split
  ·exact NC h.tail
  ·exact h
theorem OC:∀(l:Am),(Gw l).length<=l.length
 |[]=>Cc _
 |c::l=>by
  unfold Gw;split
  ·exact Nat.le_succ_of_le (OC l)
  ·exact Cc _
theorem DD{t s0:ByteArray}{p0 y0:Int}(ht:t.size<=1000000):∀(r:Am)(nn:Nat),r.length+1<=nn->Dp t r ->
  Dy fu (Ae C0 prog fu (d+1)) s0 p0 nn y0 t (A9 t r:Int)=some ⟨[.sc (.bool (decide ((A9 t (Gw r):Int)>y0)))],[Cl t (Gw r)]⟩
 |[],nn,Jo,h=>by
  obtain⟨k,rfl⟩:∃k,nn=k+1:=⟨nn-1,by omega⟩
  have pk:Ae C0 prog fu (d+1) 92 [.pbox (Cl t [])]=some ⟨[.sc (.int .u8 0)],[Cl t []]⟩:=Pe (xs:=xs0) h;have e:decide ((0:Int)>=48)=false:=rfl;rw[Gk];simp only[A2,A1,pk,e];rfl
 |c::r,nn,Jo,h=>by
  obtain⟨k,rfl⟩:∃k,nn=k+1:=⟨nn-1,by omega⟩
  have ih:=DD (s0:=s0) (p0:=p0) (y0:=y0) ht r k (by simp at Jo;omega) h.tail
  have hc:=h.B c (by simp);have hl:=h.len;have hp:=Hy h
  have e6:wrap .i64 ((A9 t (c::r):Int)+1)=(A9 t r:Int):=by
   rw[hp,Ar (by unfold A9;omega) (by unfold A9;omega)];omega
  have pk:Ae C0 prog fu (d+1) 92 [.pbox (Cl t (c::r))]=some ⟨[.sc (.int .u8 c)],[Cl t (c::r)]⟩:=Pe (xs:=xs0) h;have ed:Gw (c::r)=if FP c=true then Gw r else c::r:=rfl
  rw[Gk,ed];by_cases h1:48<=c
  ·have e1:decide (c>=48)=true:=by simp;omega
   by_cases h2:c<=57
   ·have e2:decide (c<=57)=true:=by simp;omega
    have e3:FP c=true:=by simp[FP];omega
    rw[Bq e3];simp only[A2,A1,pk,e1,e2,e6,ih]
   ·have e2:decide (c<=57)=false:=by simp;omega
    have e3:¬FP c=true:=by simp[FP];omega
    rw[Bg e3];simp only[A2,A1,pk,e1,e2]
  ·have e1:decide (c>=48)=false:=by simp;omega
   have e3:¬FP c=true:=by simp[FP];omega
   rw[Bg e3];simp only[A2,A1,pk,e1]
def Av1(t:ByteArray)(r:Am)(o:Option Am):Bz:=⟨[.sc (.bool o.isSome)],[Cl t (o.getD r)]⟩
theorem Ex{t:ByteArray}{r:Am}(h:Dp t r)(ht:t.size<=1000000)(Ce:t.size+1<=fu):Ae C0 prog fu (d+2) 111 [.pbox (Cl t r)]=some (Av1 t r (C4 r)):=by
 rw[Lm];refine (DD ht r fu (by have:=h.len;omega) h).trans ?_
 cases r with
 |nil=>
  have e:decide ((A9 t (Gw []):Int)>(A9 t []:Int))=false:=by simp[Gw]
  rw[e];rfl
 |cons c r=>
  have hl:=h.len;have hp:=Hy h;have ed:Gw (c::r)=if FP c=true then Gw r else c::r:=rfl
  have eg:C4 (c::r)=if FP c=true then some (Gw r) else none:=rfl
  rw[ed,eg];have hd:=OC r;by_cases q:FP c=true
  ·rw[Bq q,Bq q]
   have e:decide ((A9 t (Gw r):Int)>(A9 t (c::r):Int))=true:=by
    rw[Ub] at hl;simp only[gt_iff_lt,AM];unfold A9;rw[Ub];omega
   rw[e];rfl
  ·rw[Bg q,Bg q];have e:decide ((A9 t (c::r):Int)>(A9 t (c::r):Int))=false:=by simp
   rw[e];rfl
theorem YI{t:ByteArray}{r:Am}(c:UInt8)(h:Dp t r)(ht:t.size<=1000000):Ae C0 prog fu (d+3) 66 [.pbox (Cl t r),.sc (.string (ByteArray.mk #[c]))]=some (Av1 t r (An [(c.toNat:Int)] r)):=by
 have hc:=c.toNat_lt;have e:=Vk (fu:=fu) (d:=d) (xs:=xs0) h ht (w:=[(c.toNat:Int)]) (fun x hx=>by simp at hx;omega) (show 1<=100 by decide)
 have e2:Aa [(c.toNat:Int)]=ByteArray.mk #[c]:=by
  show ByteArray.mk #[((c.toNat:Int)).toNat.toUInt8]=_;rw[Kc];simp
 rw[e2] at e;refine e.trans ?_;cases An [(c.toNat:Int)] r<;>rfl
theorem Ck(c:Int):∀r:Am,An [c] r=match r with|[]=>none|x::r'=>if x=c then some r' else none
 |[]=>rfl
 |x::r=>by
  unfold An;by_cases h:x=c
  ·subst h;rw[Bq (by simp[List.isPrefixOf])];simp
  ·rw[Bg (by simp[List.isPrefixOf];exact fun e=>h e.symm)]
   simp[h]
theorem Ay{t:ByteArray}{w r r':Am}(h:Dp t r)(e:An w r=some r'):Dp t r':=by
 unfold An at e;split at e
 ·cases e;exact h.drop _
 ·cases e
theorem Rq(c:Int)(r:Am):TH c r=(An [c] r).getD r:=by
 rw[Ck];cases r with
 |nil=>rfl
 |cons x r=>
  show (if x=c then r else x::r)=_;split<;>simp_all
theorem Wf(r:Am):Adf r=match An [48] r with|some q=>some q|none=>C4 r:=by
 rw[Ck];cases r with
 |nil=>rfl
 |cons x r=>
  show (if x=48 then some r else C4 (x::r))=_;by_cases h:x=48
  ·rw[Bq h];simp[h]
  ·rw[Bg h];simp[h]
theorem S7(r:Am):Xj r=match An [46] r with|some q=>(C4 q).bind U0|none=>U0 r:=by
 rw[Ck];cases r with
 |nil=>rfl
 |cons x r=>
  show (if x=46 then (C4 r).bind U0 else U0 (x::r))=_;by_cases h:x=46
  ·rw[Bq h];simp[h]
  ·rw[Bg h];simp[h]
def Na(r:Am):Option Am:=match An [43] r with|some q=>C4 q|none=>C4 ((An [45] r).getD r)
theorem Amh(r:Am):(match r with|43::r'=>C4 r'|r=>C4 (TH 45 r))=Na r:=by
 unfold Na;rw[Ck 43,<-Rq];split
 ·simp
 ·rename_i Er;cases r with
  |nil=>rfl
  |cons x r=>
   by_cases h:x=43
   ·exact absurd (by rw[h]) (Er r)
   ·simp[h]
theorem Oe(r:Am):U0 r=match An [101] r with|some q=>Na q|none=>match An [69] r with|some q=>Na q|none=>some r:=by
 rw[Ck,Ck];cases r with
 |nil=>rfl
 |cons x r=>
  have e:U0 (x::r)=if x=101\/x=69 then Na r else some (x::r):=by
   rw[<-Amh];rfl
  rw[e];by_cases h:x=101
  ·rw[Bq (Or.inl h)];simp[h]
  ·by_cases h2:x=69
   ·rw[Bq (Or.inr h2)];simp[h2]
   ·rw[Bg (by omega)];simp[h,h2]
theorem Dz{t:ByteArray}{r r':Am}(h:Dp t r)(e:C4 r=some r'):Dp t r':=by
 cases r with
 |nil=>cases e
 |cons c r=>
  have eg:C4 (c::r)=if FP c=true then some (Gw r) else none:=rfl
  rw[eg] at e;split at e
  ·cases e;exact NC h.tail
  ·cases e
theorem Dg{t:ByteArray}{r:Am}{o:Option Am}(h:Dp t r)(ho:∀q,o=some q->Dp t q):Dp t (o.getD r):=by
 cases o with
 |none=>exact h
 |some q=>exact ho q rfl
end
section
variable {fu d:Nat}
theorem Fl{t:ByteArray}{r:Am}(c:UInt8)(n:Int)(hn:(c.toNat:Int)=n)(h:Dp t r)(ht:t.size<=1000000)(hq:An [n] r=none):Ae C0 prog fu (d+3) 66 [.pbox (Cl t r),.sc (.string (ByteArray.mk #[c]))]=some ⟨[.sc (.bool false)],[Cl t r]⟩:=by subst hn;have e:=YI (fu:=fu) (d:=d) c h ht;rw[hq] at e;exact e
theorem Dw{t:ByteArray}{r q:Am}(c:UInt8)(n:Int)(hn:(c.toNat:Int)=n)(h:Dp t r)(ht:t.size<=1000000)(hq:An [n] r=some q):Ae C0 prog fu (d+3) 66 [.pbox (Cl t r),.sc (.string (ByteArray.mk #[c]))]=some ⟨[.sc (.bool true)],[Cl t q]⟩:=by subst hn;have e:=YI (fu:=fu) (d:=d) c h ht;rw[hq] at e;exact e
theorem N4{t:ByteArray}{r:Am}(c:UInt8)(n:Int)(hn:(c.toNat:Int)=n)(h:Dp t r)(ht:t.size<=1000000):Ae C0 prog fu (d+3) 66 [.pbox (Cl t r),.sc (.string (ByteArray.mk #[c]))]=some ⟨[.sc (.bool (An [n] r).isSome)],[Cl t ((An [n] r).getD r)]⟩:=by subst hn;exact YI (fu:=fu) (d:=d) c h ht
set_option maxHeartbeats 2000000 in
theorem Ai2{t:ByteArray}{r:Am}(h:Dp t r)(ht:t.size<=1000000)(Ce:t.size+1<=fu):∃r',Dp t r'/\Ae C0 prog fu (d+4) 94 [.pbox (Cl t r)]=some ⟨[.sc (.bool (Fz r).isSome)],[Cl t r']⟩/\∀q,Fz r=some q->r'=q:=by
 have a0:=N4 (fu:=fu) (d:=d) 45 45 rfl h ht;have hS1:Dp t ((An [45] r).getD r):=Dg h fun q e=>Ay h e;have AR:Fz r=(Adf ((An [45] r).getD r)).bind Xj:=by rw[<-Rq];rfl
 generalize (An [45] r).getD r=r1 at a0 hS1 AR;generalize (An [45] r).isSome=b0 at a0;rw[Wf] at AR;rcases hz:An [48] r1 with _|r2
 ·have M6:=Fl (fu:=fu) (d:=d) 48 48 rfl hS1 ht hz;rw[hz] at AR;have PJ:=Ex (d:=d+1) hS1 ht Ce;rcases hzd:C4 r1 with _|r2
  ·simp only[hzd] at PJ AR;have Ue:Ae C0 prog fu (d+3) 111 [.pbox (Cl t r1)]=some ⟨[.sc (.bool false)],[Cl t r1]⟩:=PJ;have hn:Fz r=none:=AR;refine⟨r1,hS1,?_,?_⟩
   ·rw[hn,Ak]
    repeat(with_reducible(first|apply Be|apply A0|apply Bd|apply A4|apply Bc|apply Az|apply Bf|apply Hj);· first|constructor|(simp(disch:=omega)only[Hh,a0,M6,Ue,E1,F9]<;>first|constructor|omega)|omega)
    try simp(disch:=omega)only[Ab,a0,M6,Ue,E1,F9]
    try rfl
   ·rw[hn];intro q e;cases e
  ·simp only[hzd] at PJ AR;have Ue:Ae C0 prog fu (d+3) 111 [.pbox (Cl t r1)]=some ⟨[.sc (.bool true)],[Cl t r2]⟩:=PJ;have Yr:=Dz hS1 hzd;have KN:Fz r=Xj r2:=AR;rw[S7] at KN;rcases hdt:An [46] r2 with _|r3
   ·have Nz:=Fl (fu:=fu) (d:=d) 46 46 rfl Yr ht hdt;rw[hdt] at KN;have O3:Fz r=U0 r2:=KN;rw[Oe] at O3;rcases he:An [101] r2 with _|r5
    ·have Og:=Fl (fu:=fu) (d:=d) 101 101 rfl Yr ht he;rw[he] at O3;rcases hE:An [69] r2 with _|r5
     ·have Ye:=Fl (fu:=fu) (d:=d) 69 69 rfl Yr ht hE;have hn:Fz r=some r2:=by rw[O3,hE]
      refine⟨r2,Yr,?_,?_⟩
      ·rw[hn,Ak]
       repeat(with_reducible(first|apply Be|apply A0|apply Bd|apply A4|apply Bc|apply Az|apply Bf|apply Hj);· first|constructor|(simp(disch:=omega)only[Hh,a0,M6,Ue,Nz,Og,Ye,E1,F9]<;>first|constructor|omega)|omega)
       try simp(disch:=omega)only[Ab,a0,M6,Ue,Nz,Og,Ye,E1,F9]
       try rfl
      ·rw[hn];intro q e;cases e;rfl
     ·have Ye:=Dw (fu:=fu) (d:=d) 69 69 rfl Yr ht hE;have K5:=Ay Yr hE;rw[hE] at O3;simp only at O3;rcases hp:An [43] r5 with _|r6
      ·have M8:=Fl (fu:=fu) (d:=d) 43 43 rfl K5 ht hp;have Da:=N4 (fu:=fu) (d:=d) 45 45 rfl K5 ht;have H5:Dp t ((An [45] r5).getD r5):=Dg K5 fun q e=>Ay K5 e;have hn:Fz r=C4 ((An [45] r5).getD r5):=by rw[O3];unfold Na;rw[hp]
       generalize (An [45] r5).getD r5=r6 at Da H5 hn;generalize (An [45] r5).isSome=b1 at Da;have hg:Ae C0 prog fu (d+3) 111 [.pbox (Cl t r6)]=some ⟨[.sc (.bool (C4 r6).isSome)],[Cl t ((C4 r6).getD r6)]⟩:=Ex (d:=d+1) H5 ht Ce;refine⟨(C4 r6).getD r6,Dg H5 fun q e=>Dz H5 e,?_,?_⟩
       ·rw[hn,Ak]
        repeat(with_reducible(first|apply Be|apply A0|apply Bd|apply A4|apply Bc|apply Az|apply Bf|apply Hj);· first|constructor|(simp(disch:=omega)only[Hh,a0,M6,Ue,Nz,Og,Ye,M8,Da,hg,E1,F9]<;>first|constructor|omega)|omega)
        try simp(disch:=omega)only[Ab,a0,M6,Ue,Nz,Og,Ye,M8,Da,hg,E1,F9]
        try rfl
       ·rw[hn];intro q e;rw[e];rfl
      ·have M8:=Dw (fu:=fu) (d:=d) 43 43 rfl K5 ht hp;have H5:=Ay K5 hp;have hn:Fz r=C4 r6:=by rw[O3];unfold Na;rw[hp]
       have hg:Ae C0 prog fu (d+3) 111 [.pbox (Cl t r6)]=some ⟨[.sc (.bool (C4 r6).isSome)],[Cl t ((C4 r6).getD r6)]⟩:=Ex (d:=d+1) H5 ht Ce;refine⟨(C4 r6).getD r6,Dg H5 fun q e=>Dz H5 e,?_,?_⟩
       ·rw[hn,Ak]
        repeat(with_reducible(first|apply Be|apply A0|apply Bd|apply A4|apply Bc|apply Az|apply Bf|apply Hj);· first|constructor|(simp(disch:=omega)only[Hh,a0,M6,Ue,Nz,Og,Ye,M8,hg,E1,F9]<;>first|constructor|omega)|omega)
        try simp(disch:=omega)only[Ab,a0,M6,Ue,Nz,Og,Ye,M8,hg,E1,F9]
        try rfl
       ·rw[hn];intro q e;rw[e];rfl
    ·have Og:=Dw (fu:=fu) (d:=d) 101 101 rfl Yr ht he;have K5:=Ay Yr he;rw[he] at O3;simp only at O3;rcases hp:An [43] r5 with _|r6
     ·have M8:=Fl (fu:=fu) (d:=d) 43 43 rfl K5 ht hp;have Da:=N4 (fu:=fu) (d:=d) 45 45 rfl K5 ht;have H5:Dp t ((An [45] r5).getD r5):=Dg K5 fun q e=>Ay K5 e;have hn:Fz r=C4 ((An [45] r5).getD r5):=by rw[O3];unfold Na;rw[hp]
      generalize (An [45] r5).getD r5=r6 at Da H5 hn;generalize (An [45] r5).isSome=b1 at Da;have hg:Ae C0 prog fu (d+3) 111 [.pbox (Cl t r6)]=some ⟨[.sc (.bool (C4 r6).isSome)],[Cl t ((C4 r6).getD r6)]⟩:=Ex (d:=d+1) H5 ht Ce;refine⟨(C4 r6).getD r6,Dg H5 fun q e=>Dz H5 e,?_,?_⟩
      ·rw[hn,Ak]
       repeat(with_reducible(first|apply Be|apply A0|apply Bd|apply A4|apply Bc|apply Az|apply Bf|apply Hj);· first|constructor|(simp(disch:=omega)only[Hh,a0,M6,Ue,Nz,Og,M8,Da,hg,E1,F9]<;>first|constructor|omega)|omega)
       try simp(disch:=omega)only[Ab,a0,M6,Ue,Nz,Og,M8,Da,hg,E1,F9]
       try rfl
      ·rw[hn];intro q e;rw[e];rfl
     ·have M8:=Dw (fu:=fu) (d:=d) 43 43 rfl K5 ht hp;have H5:=Ay K5 hp;have hn:Fz r=C4 r6:=by rw[O3];unfold Na;rw[hp]
      have hg:Ae C0 prog fu (d+3) 111 [.pbox (Cl t r6)]=some ⟨[.sc (.bool (C4 r6).isSome)],[Cl t ((C4 r6).getD r6)]⟩:=Ex (d:=d+1) H5 ht Ce;refine⟨(C4 r6).getD r6,Dg H5 fun q e=>Dz H5 e,?_,?_⟩
      ·rw[hn,Ak]
       repeat(with_reducible(first|apply Be|apply A0|apply Bd|apply A4|apply Bc|apply Az|apply Bf|apply Hj);· first|constructor|(simp(disch:=omega)only[Hh,a0,M6,Ue,Nz,Og,M8,hg,E1,F9]<;>first|constructor|omega)|omega)
       try simp(disch:=omega)only[Ab,a0,M6,Ue,Nz,Og,M8,hg,E1,F9]
       try rfl
      ·rw[hn];intro q e;rw[e];rfl
   ·have Nz:=Dw (fu:=fu) (d:=d) 46 46 rfl Yr ht hdt;have hS3:=Ay Yr hdt;rw[hdt] at KN;have KN:Fz r=(C4 r3).bind U0:=KN;have RI:=Ex (d:=d+1) hS3 ht Ce;rcases LT:C4 r3 with _|r4
    ·rw[LT] at RI KN;have Lz:Ae C0 prog fu (d+3) 111 [.pbox (Cl t r3)]=some ⟨[.sc (.bool false)],[Cl t r3]⟩:=RI;have hn:Fz r=none:=KN;refine⟨r3,hS3,?_,?_⟩
     ·rw[hn,Ak]
      repeat(with_reducible(first|apply Be|apply A0|apply Bd|apply A4|apply Bc|apply Az|apply Bf|apply Hj);· first|constructor|(simp(disch:=omega)only[Hh,a0,M6,Ue,Nz,Lz,E1,F9]<;>first|constructor|omega)|omega)
      try simp(disch:=omega)only[Ab,a0,M6,Ue,Nz,Lz,E1,F9]
      try rfl
     ·rw[hn];intro q e;cases e
    ·rw[LT] at RI KN;have Lz:Ae C0 prog fu (d+3) 111 [.pbox (Cl t r3)]=some ⟨[.sc (.bool true)],[Cl t r4]⟩:=RI;have FM:=Dz hS3 LT;have O3:Fz r=U0 r4:=KN;rw[Oe] at O3;rcases he:An [101] r4 with _|r5
     ·have Og:=Fl (fu:=fu) (d:=d) 101 101 rfl FM ht he;rw[he] at O3;rcases hE:An [69] r4 with _|r5
      ·have Ye:=Fl (fu:=fu) (d:=d) 69 69 rfl FM ht hE;have hn:Fz r=some r4:=by rw[O3,hE]
       refine⟨r4,FM,?_,?_⟩
       ·rw[hn,Ak]
        repeat(with_reducible(first|apply Be|apply A0|apply Bd|apply A4|apply Bc|apply Az|apply Bf|apply Hj);· first|constructor|(simp(disch:=omega)only[Hh,a0,M6,Ue,Nz,Lz,Og,Ye,E1,F9]<;>first|constructor|omega)|omega)
        try simp(disch:=omega)only[Ab,a0,M6,Ue,Nz,Lz,Og,Ye,E1,F9]
        try rfl
       ·rw[hn];intro q e;cases e;rfl
      ·have Ye:=Dw (fu:=fu) (d:=d) 69 69 rfl FM ht hE;have K5:=Ay FM hE;rw[hE] at O3;simp only at O3;rcases hp:An [43] r5 with _|r6
       ·have M8:=Fl (fu:=fu) (d:=d) 43 43 rfl K5 ht hp;have Da:=N4 (fu:=fu) (d:=d) 45 45 rfl K5 ht;have H5:Dp t ((An [45] r5).getD r5):=Dg K5 fun q e=>Ay K5 e;have hn:Fz r=C4 ((An [45] r5).getD r5):=by rw[O3];unfold Na;rw[hp]
        generalize (An [45] r5).getD r5=r6 at Da H5 hn;generalize (An [45] r5).isSome=b1 at Da;have hg:Ae C0 prog fu (d+3) 111 [.pbox (Cl t r6)]=some ⟨[.sc (.bool (C4 r6).isSome)],[Cl t ((C4 r6).getD r6)]⟩:=Ex (d:=d+1) H5 ht Ce;refine⟨(C4 r6).getD r6,Dg H5 fun q e=>Dz H5 e,?_,?_⟩
        ·rw[hn,Ak]
         repeat(with_reducible(first|apply Be|apply A0|apply Bd|apply A4|apply Bc|apply Az|apply Bf|apply Hj);· first|constructor|(simp(disch:=omega)only[Hh,a0,M6,Ue,Nz,Lz,Og,Ye,M8,Da,hg,E1,F9]<;>first|constructor|omega)|omega)
         try simp(disch:=omega)only[Ab,a0,M6,Ue,Nz,Lz,Og,Ye,M8,Da,hg,E1,F9]
         try rfl
        ·rw[hn];intro q e;rw[e];rfl
       ·have M8:=Dw (fu:=fu) (d:=d) 43 43 rfl K5 ht hp;have H5:=Ay K5 hp;have hn:Fz r=C4 r6:=by rw[O3];unfold Na;rw[hp]
        have hg:Ae C0 prog fu (d+3) 111 [.pbox (Cl t r6)]=some ⟨[.sc (.bool (C4 r6).isSome)],[Cl t ((C4 r6).getD r6)]⟩:=Ex (d:=d+1) H5 ht Ce;refine⟨(C4 r6).getD r6,Dg H5 fun q e=>Dz H5 e,?_,?_⟩
        ·rw[hn,Ak]
         repeat(with_reducible(first|apply Be|apply A0|apply Bd|apply A4|apply Bc|apply Az|apply Bf|apply Hj);· first|constructor|(simp(disch:=omega)only[Hh,a0,M6,Ue,Nz,Lz,Og,Ye,M8,hg,E1,F9]<;>first|constructor|omega)|omega)
         try simp(disch:=omega)only[Ab,a0,M6,Ue,Nz,Lz,Og,Ye,M8,hg,E1,F9]
         try rfl
        ·rw[hn];intro q e;rw[e];rfl
     ·have Og:=Dw (fu:=fu) (d:=d) 101 101 rfl FM ht he;have K5:=Ay FM he;rw[he] at O3;simp only at O3;rcases hp:An [43] r5 with _|r6
      ·have M8:=Fl (fu:=fu) (d:=d) 43 43 rfl K5 ht hp;have Da:=N4 (fu:=fu) (d:=d) 45 45 rfl K5 ht;have H5:Dp t ((An [45] r5).getD r5):=Dg K5 fun q e=>Ay K5 e;have hn:Fz r=C4 ((An [45] r5).getD r5):=by rw[O3];unfold Na;rw[hp]
       generalize (An [45] r5).getD r5=r6 at Da H5 hn;generalize (An [45] r5).isSome=b1 at Da;have hg:Ae C0 prog fu (d+3) 111 [.pbox (Cl t r6)]=some ⟨[.sc (.bool (C4 r6).isSome)],[Cl t ((C4 r6).getD r6)]⟩:=Ex (d:=d+1) H5 ht Ce;refine⟨(C4 r6).getD r6,Dg H5 fun q e=>Dz H5 e,?_,?_⟩
       ·rw[hn,Ak]
        repeat(with_reducible(first|apply Be|apply A0|apply Bd|apply A4|apply Bc|apply Az|apply Bf|apply Hj);· first|constructor|(simp(disch:=omega)only[Hh,a0,M6,Ue,Nz,Lz,Og,M8,Da,hg,E1,F9]<;>first|constructor|omega)|omega)
        try simp(disch:=omega)only[Ab,a0,M6,Ue,Nz,Lz,Og,M8,Da,hg,E1,F9]
        try rfl
       ·rw[hn];intro q e;rw[e];rfl
      ·have M8:=Dw (fu:=fu) (d:=d) 43 43 rfl K5 ht hp;have H5:=Ay K5 hp;have hn:Fz r=C4 r6:=by rw[O3];unfold Na;rw[hp]
       have hg:Ae C0 prog fu (d+3) 111 [.pbox (Cl t r6)]=some ⟨[.sc (.bool (C4 r6).isSome)],[Cl t ((C4 r6).getD r6)]⟩:=Ex (d:=d+1) H5 ht Ce;refine⟨(C4 r6).getD r6,Dg H5 fun q e=>Dz H5 e,?_,?_⟩
       ·rw[hn,Ak]
        repeat(with_reducible(first|apply Be|apply A0|apply Bd|apply A4|apply Bc|apply Az|apply Bf|apply Hj);· first|constructor|(simp(disch:=omega)only[Hh,a0,M6,Ue,Nz,Lz,Og,M8,hg,E1,F9]<;>first|constructor|omega)|omega)
        try simp(disch:=omega)only[Ab,a0,M6,Ue,Nz,Lz,Og,M8,hg,E1,F9]
        try rfl
       ·rw[hn];intro q e;rw[e];rfl
 ·have M6:=Dw (fu:=fu) (d:=d) 48 48 rfl hS1 ht hz;rw[hz] at AR;have Yr:=Ay hS1 hz;have KN:Fz r=Xj r2:=AR;rw[S7] at KN;rcases hdt:An [46] r2 with _|r3
  ·have Nz:=Fl (fu:=fu) (d:=d) 46 46 rfl Yr ht hdt;rw[hdt] at KN;have O3:Fz r=U0 r2:=KN;rw[Oe] at O3;rcases he:An [101] r2 with _|r5
   ·have Og:=Fl (fu:=fu) (d:=d) 101 101 rfl Yr ht he;rw[he] at O3;rcases hE:An [69] r2 with _|r5
    ·have Ye:=Fl (fu:=fu) (d:=d) 69 69 rfl Yr ht hE;have hn:Fz r=some r2:=by rw[O3,hE]
     refine⟨r2,Yr,?_,?_⟩
     ·rw[hn,Ak]
      repeat(with_reducible(first|apply Be|apply A0|apply Bd|apply A4|apply Bc|apply Az|apply Bf|apply Hj);· first|constructor|(simp(disch:=omega)only[Hh,a0,M6,Nz,Og,Ye,E1,F9]<;>first|constructor|omega)|omega)
      try simp(disch:=omega)only[Ab,a0,M6,Nz,Og,Ye,E1,F9]
      try rfl
     ·rw[hn];intro q e;cases e;rfl
    ·have Ye:=Dw (fu:=fu) (d:=d) 69 69 rfl Yr ht hE;have K5:=Ay Yr hE;rw[hE] at O3;simp only at O3;rcases hp:An [43] r5 with _|r6
     ·have M8:=Fl (fu:=fu) (d:=d) 43 43 rfl K5 ht hp;have Da:=N4 (fu:=fu) (d:=d) 45 45 rfl K5 ht;have H5:Dp t ((An [45] r5).getD r5):=Dg K5 fun q e=>Ay K5 e;have hn:Fz r=C4 ((An [45] r5).getD r5):=by rw[O3];unfold Na;rw[hp]
      generalize (An [45] r5).getD r5=r6 at Da H5 hn;generalize (An [45] r5).isSome=b1 at Da;have hg:Ae C0 prog fu (d+3) 111 [.pbox (Cl t r6)]=some ⟨[.sc (.bool (C4 r6).isSome)],[Cl t ((C4 r6).getD r6)]⟩:=Ex (d:=d+1) H5 ht Ce;refine⟨(C4 r6).getD r6,Dg H5 fun q e=>Dz H5 e,?_,?_⟩
      ·rw[hn,Ak]
       repeat(with_reducible(first|apply Be|apply A0|apply Bd|apply A4|apply Bc|apply Az|apply Bf|apply Hj);· first|constructor|(simp(disch:=omega)only[Hh,a0,M6,Nz,Og,Ye,M8,Da,hg,E1,F9]<;>first|constructor|omega)|omega)
       try simp(disch:=omega)only[Ab,a0,M6,Nz,Og,Ye,M8,Da,hg,E1,F9]
       try rfl
      ·rw[hn];intro q e;rw[e];rfl
     ·have M8:=Dw (fu:=fu) (d:=d) 43 43 rfl K5 ht hp;have H5:=Ay K5 hp;have hn:Fz r=C4 r6:=by rw[O3];unfold Na;rw[hp]
      have hg:Ae C0 prog fu (d+3) 111 [.pbox (Cl t r6)]=some ⟨[.sc (.bool (C4 r6).isSome)],[Cl t ((C4 r6).getD r6)]⟩:=Ex (d:=d+1) H5 ht Ce;refine⟨(C4 r6).getD r6,Dg H5 fun q e=>Dz H5 e,?_,?_⟩
      ·rw[hn,Ak]
       repeat(with_reducible(first|apply Be|apply A0|apply Bd|apply A4|apply Bc|apply Az|apply Bf|apply Hj);· first|constructor|(simp(disch:=omega)only[Hh,a0,M6,Nz,Og,Ye,M8,hg,E1,F9]<;>first|constructor|omega)|omega)
       try simp(disch:=omega)only[Ab,a0,M6,Nz,Og,Ye,M8,hg,E1,F9]
       try rfl
      ·rw[hn];intro q e;rw[e];rfl
   ·have Og:=Dw (fu:=fu) (d:=d) 101 101 rfl Yr ht he;have K5:=Ay Yr he;rw[he] at O3;simp only at O3;rcases hp:An [43] r5 with _|r6
    ·have M8:=Fl (fu:=fu) (d:=d) 43 43 rfl K5 ht hp;have Da:=N4 (fu:=fu) (d:=d) 45 45 rfl K5 ht;have H5:Dp t ((An [45] r5).getD r5):=Dg K5 fun q e=>Ay K5 e;have hn:Fz r=C4 ((An [45] r5).getD r5):=by rw[O3];unfold Na;rw[hp]
     generalize (An [45] r5).getD r5=r6 at Da H5 hn;generalize (An [45] r5).isSome=b1 at Da;have hg:Ae C0 prog fu (d+3) 111 [.pbox (Cl t r6)]=some ⟨[.sc (.bool (C4 r6).isSome)],[Cl t ((C4 r6).getD r6)]⟩:=Ex (d:=d+1) H5 ht Ce;refine⟨(C4 r6).getD r6,Dg H5 fun q e=>Dz H5 e,?_,?_⟩
     ·rw[hn,Ak]
      repeat(with_reducible(first|apply Be|apply A0|apply Bd|apply A4|apply Bc|apply Az|apply Bf|apply Hj);· first|constructor|(simp(disch:=omega)only[Hh,a0,M6,Nz,Og,M8,Da,hg,E1,F9]<;>first|constructor|omega)|omega)
      try simp(disch:=omega)only[Ab,a0,M6,Nz,Og,M8,Da,hg,E1,F9]
      try rfl
     ·rw[hn];intro q e;rw[e];rfl
    ·have M8:=Dw (fu:=fu) (d:=d) 43 43 rfl K5 ht hp;have H5:=Ay K5 hp;have hn:Fz r=C4 r6:=by rw[O3];unfold Na;rw[hp]
     have hg:Ae C0 prog fu (d+3) 111 [.pbox (Cl t r6)]=some ⟨[.sc (.bool (C4 r6).isSome)],[Cl t ((C4 r6).getD r6)]⟩:=Ex (d:=d+1) H5 ht Ce;refine⟨(C4 r6).getD r6,Dg H5 fun q e=>Dz H5 e,?_,?_⟩
     ·rw[hn,Ak]
      repeat(with_reducible(first|apply Be|apply A0|apply Bd|apply A4|apply Bc|apply Az|apply Bf|apply Hj);· first|constructor|(simp(disch:=omega)only[Hh,a0,M6,Nz,Og,M8,hg,E1,F9]<;>first|constructor|omega)|omega)
      try simp(disch:=omega)only[Ab,a0,M6,Nz,Og,M8,hg,E1,F9]
      try rfl
     ·rw[hn];intro q e;rw[e];rfl
  ·have Nz:=Dw (fu:=fu) (d:=d) 46 46 rfl Yr ht hdt;have hS3:=Ay Yr hdt;rw[hdt] at KN;have KN:Fz r=(C4 r3).bind U0:=KN;have RI:=Ex (d:=d+1) hS3 ht Ce;rcases LT:C4 r3 with _|r4
   ·rw[LT] at RI KN;have Lz:Ae C0 prog fu (d+3) 111 [.pbox (Cl t r3)]=some ⟨[.sc (.bool false)],[Cl t r3]⟩:=RI;have hn:Fz r=none:=KN;refine⟨r3,hS3,?_,?_⟩
    ·rw[hn,Ak]
     repeat(with_reducible(first|apply Be|apply A0|apply Bd|apply A4|apply Bc|apply Az|apply Bf|apply Hj);· first|constructor|(simp(disch:=omega)only[Hh,a0,M6,Nz,Lz,E1,F9]<;>first|constructor|omega)|omega)
     try simp(disch:=omega)only[Ab,a0,M6,Nz,Lz,E1,F9]
     try rfl
    ·rw[hn];intro q e;cases e
   ·rw[LT] at RI KN;have Lz:Ae C0 prog fu (d+3) 111 [.pbox (Cl t r3)]=some ⟨[.sc (.bool true)],[Cl t r4]⟩:=RI;have FM:=Dz hS3 LT;have O3:Fz r=U0 r4:=KN;rw[Oe] at O3;rcases he:An [101] r4 with _|r5
    ·have Og:=Fl (fu:=fu) (d:=d) 101 101 rfl FM ht he;rw[he] at O3;rcases hE:An [69] r4 with _|r5
     ·have Ye:=Fl (fu:=fu) (d:=d) 69 69 rfl FM ht hE;have hn:Fz r=some r4:=by rw[O3,hE]
      refine⟨r4,FM,?_,?_⟩
      ·rw[hn,Ak]
       repeat(with_reducible(first|apply Be|apply A0|apply Bd|apply A4|apply Bc|apply Az|apply Bf|apply Hj);· first|constructor|(simp(disch:=omega)only[Hh,a0,M6,Nz,Lz,Og,Ye,E1,F9]<;>first|constructor|omega)|omega)
       try simp(disch:=omega)only[Ab,a0,M6,Nz,Lz,Og,Ye,E1,F9]
       try rfl
      ·rw[hn];intro q e;cases e;rfl
     ·have Ye:=Dw (fu:=fu) (d:=d) 69 69 rfl FM ht hE;have K5:=Ay FM hE;rw[hE] at O3;simp only at O3;rcases hp:An [43] r5 with _|r6
      ·have M8:=Fl (fu:=fu) (d:=d) 43 43 rfl K5 ht hp;have Da:=N4 (fu:=fu) (d:=d) 45 45 rfl K5 ht;have H5:Dp t ((An [45] r5).getD r5):=Dg K5 fun q e=>Ay K5 e;have hn:Fz r=C4 ((An [45] r5).getD r5):=by rw[O3];unfold Na;rw[hp]
       generalize (An [45] r5).getD r5=r6 at Da H5 hn;generalize (An [45] r5).isSome=b1 at Da;have hg:Ae C0 prog fu (d+3) 111 [.pbox (Cl t r6)]=some ⟨[.sc (.bool (C4 r6).isSome)],[Cl t ((C4 r6).getD r6)]⟩:=Ex (d:=d+1) H5 ht Ce;refine⟨(C4 r6).getD r6,Dg H5 fun q e=>Dz H5 e,?_,?_⟩
       ·rw[hn,Ak]
        repeat(with_reducible(first|apply Be|apply A0|apply Bd|apply A4|apply Bc|apply Az|apply Bf|apply Hj);· first|constructor|(simp(disch:=omega)only[Hh,a0,M6,Nz,Lz,Og,Ye,M8,Da,hg,E1,F9]<;>first|constructor|omega)|omega)
        try simp(disch:=omega)only[Ab,a0,M6,Nz,Lz,Og,Ye,M8,Da,hg,E1,F9]
        try rfl
       ·rw[hn];intro q e;rw[e];rfl
      ·have M8:=Dw (fu:=fu) (d:=d) 43 43 rfl K5 ht hp;have H5:=Ay K5 hp;have hn:Fz r=C4 r6:=by rw[O3];unfold Na;rw[hp]
       have hg:Ae C0 prog fu (d+3) 111 [.pbox (Cl t r6)]=some ⟨[.sc (.bool (C4 r6).isSome)],[Cl t ((C4 r6).getD r6)]⟩:=Ex (d:=d+1) H5 ht Ce;refine⟨(C4 r6).getD r6,Dg H5 fun q e=>Dz H5 e,?_,?_⟩
       ·rw[hn,Ak]
        repeat(with_reducible(first|apply Be|apply A0|apply Bd|apply A4|apply Bc|apply Az|apply Bf|apply Hj);· first|constructor|(simp(disch:=omega)only[Hh,a0,M6,Nz,Lz,Og,Ye,M8,hg,E1,F9]<;>first|constructor|omega)|omega)
        try simp(disch:=omega)only[Ab,a0,M6,Nz,Lz,Og,Ye,M8,hg,E1,F9]
        try rfl
       ·rw[hn];intro q e;rw[e];rfl
    ·have Og:=Dw (fu:=fu) (d:=d) 101 101 rfl FM ht he;have K5:=Ay FM he;rw[he] at O3;simp only at O3;rcases hp:An [43] r5 with _|r6
     ·have M8:=Fl (fu:=fu) (d:=d) 43 43 rfl K5 ht hp;have Da:=N4 (fu:=fu) (d:=d) 45 45 rfl K5 ht;have H5:Dp t ((An [45] r5).getD r5):=Dg K5 fun q e=>Ay K5 e;have hn:Fz r=C4 ((An [45] r5).getD r5):=by rw[O3];unfold Na;rw[hp]
      generalize (An [45] r5).getD r5=r6 at Da H5 hn;generalize (An [45] r5).isSome=b1 at Da;have hg:Ae C0 prog fu (d+3) 111 [.pbox (Cl t r6)]=some ⟨[.sc (.bool (C4 r6).isSome)],[Cl t ((C4 r6).getD r6)]⟩:=Ex (d:=d+1) H5 ht Ce;refine⟨(C4 r6).getD r6,Dg H5 fun q e=>Dz H5 e,?_,?_⟩
      ·rw[hn,Ak]
       repeat(with_reducible(first|apply Be|apply A0|apply Bd|apply A4|apply Bc|apply Az|apply Bf|apply Hj);· first|constructor|(simp(disch:=omega)only[Hh,a0,M6,Nz,Lz,Og,M8,Da,hg,E1,F9]<;>first|constructor|omega)|omega)
       try simp(disch:=omega)only[Ab,a0,M6,Nz,Lz,Og,M8,Da,hg,E1,F9]
       try rfl
      ·rw[hn];intro q e;rw[e];rfl
     ·have M8:=Dw (fu:=fu) (d:=d) 43 43 rfl K5 ht hp;have H5:=Ay K5 hp;have hn:Fz r=C4 r6:=by rw[O3];unfold Na;rw[hp]
      have hg:Ae C0 prog fu (d+3) 111 [.pbox (Cl t r6)]=some ⟨[.sc (.bool (C4 r6).isSome)],[Cl t ((C4 r6).getD r6)]⟩:=Ex (d:=d+1) H5 ht Ce;refine⟨(C4 r6).getD r6,Dg H5 fun q e=>Dz H5 e,?_,?_⟩
      ·rw[hn,Ak]
       repeat(with_reducible(first|apply Be|apply A0|apply Bd|apply A4|apply Bc|apply Az|apply Bf|apply Hj);· first|constructor|(simp(disch:=omega)only[Hh,a0,M6,Nz,Lz,Og,M8,hg,E1,F9]<;>first|constructor|omega)|omega)
       try simp(disch:=omega)only[Ab,a0,M6,Nz,Lz,Og,M8,hg,E1,F9]
       try rfl
      ·rw[hn];intro q e;rw[e];rfl
end
theorem Dp.trans{t:ByteArray}{r q:Am}(h:Dp t r)(k:Dp (Aa r) q):Dp t q:=by obtain⟨pre,k⟩:=k;rw[Cs h.B] at k;rw[k] at h;exact h.app
theorem Dp.self{l:Am}(h:Ct l):Dp (Aa l) l:=⟨[],by rw[Cs h];rfl⟩
theorem Dp.le{l q:Am}(h:Dp (Aa l) q):q.length<=l.length:=by
 have:=h.len
 rwa [Ag] at this
def ZE(t:ByteArray)(l:Am)(x:JR (JV × Am))(res:Bz):Prop:=
 match x with
 |.ok (v,q)=>Dp (Aa l) q/\res=⟨[.agg [B9 v.1,.sc (.string (Aa v.2.1)),.sc (.bool v.2.2)],B9 0],[Cl t q]⟩
 |.error e=>e≠0/\∃c1 c2 c3 q,Dp t q/\res=⟨[.agg [B9 c1,.sc (.string c2),.sc (.bool c3)],B9 e],[Cl t q]⟩
def Av7(t:ByteArray)(l:Am)(x:JR Am)(res:Bz):Prop:=
 match x with
 |.ok q=>Dp (Aa l) q/\res=⟨[B9 0],[Cl t q]⟩
 |.error e=>e≠0/\∃q,Dp t q/\res=⟨[B9 e],[Cl t q]⟩
theorem Ag5{α:Type}(a b:Int)(Rh:a≠b)(A B:Am->α)(C:α)(x:Am):
  (match An [a] x with|some r=>A r|none=>match An [b] x with|some r=>B r|none=>C)=(match x with|[]=>C|y::r=>if y=a then A r else if y=b then B r else C):=by
 rw[Ck,Ck];cases x with
 |nil=>rfl
 |cons y r=>
  by_cases h:y=a
  ·simp[h]
  ·by_cases h2:y=b
   ·subst h2;simp[h]
   ·simp[h,h2]
theorem UT(V:Am->JR (JV × Am))(n:Nat)(l:Am):Ti V (n+1) l=match V l with
  |.error e=>.error e
  |.ok (_,r)=>match An [93] (Ao r) with
   |some r'=>.ok r'
   |none=>match An [44] (Ao r) with
    |some r'=>Ti V n (Ao r')
    |none=>.error 2:=by
 show (match V l with | .error e=>_ | .ok (_,r)=>_)=_;cases V l with
 |error e=>rfl
 |ok x=>
  obtain⟨v,r⟩:=x;simp only;rw[Ag5 93 44 (by decide) (fun r'=>Except.ok r') (fun r'=>Ti V n (Ao r')) (Except.error 2)];cases Ao r with
  |nil=>rfl
  |cons y r=>
   by_cases h:y=93
   ·subst h;rfl
   ·by_cases h2:y=44
    ·subst h2;rfl
    ·simp only[Bg h,Bg h2];split
     ·rename_i e;injection e with e1 _;exact absurd e1 h
     ·rename_i e;injection e with e1 _;exact absurd e1 h2
     ·rfl
section
variable {fu d:Nat}
theorem Air{t s0:ByteArray}{p0 D0 D:Int}(ht:t.size<=1000000)(Ce:t.size+1<=fu)(V:Am->JR (JV × Am))(HV:∀r,Dp t r->∃res,Ae C0 prog fu (d+3) 68 [.pbox (Cl t r),B9 D]=some res/\ZE t r (V r) res):∀(n nn:Nat)(l:Am),l.length+1<=n->l.length+1<=nn->Dp t l ->
  ∃res,Ec fu (Ae C0 prog fu (d+3)) s0 p0 D0 nn D t (A9 t l:Int)=some res/\Av7 t l (Ti V n l) res:=by
 intro n
 induction n with
 |zero=>intro nn l h1;omega
 |succ n ih=>
  intro nn l hn Jo h;obtain⟨k,rfl⟩:∃k,nn=k+1:=⟨nn-1,by omega⟩
  obtain⟨rv,ev,hv⟩:=HV l h;rw[UT,K0];cases hV:V l with
  |error e=>
   rw[hV] at hv;obtain⟨he,c1,c2,c3,q,hq,rfl⟩:=hv;have hb:(e != (0:Int))=true:=by simp[he]
   refine⟨⟨[B9 e],[Cl t q]⟩,?_,he,q,hq,rfl⟩
   repeat(with_reducible(first|apply Be|apply A0|apply Bd|apply A4|apply Bc|apply Nb|apply Az|apply Bf|apply Hj);· first|constructor|(simp(disch:=omega)only[Hh,ev,hb]<;>first|constructor|omega)|omega)
   try simp(disch:=omega)only[Ab,ev,hb]
  |ok x=>
   obtain⟨v,q⟩:=x;rw[hV] at hv;obtain⟨hq,rfl⟩:=hv;have hqt:=h.trans hq;have hs:=Tb (fu:=fu) (d:=d) hqt ht Ce;have FI:Ae C0 prog fu (d+3) 43 [.pbox (Cl t q)]=some ⟨[],[Cl t (Ao q)]⟩:=hs;have hqs:=Bw hqt;have Awg:=Bw hq;have hb:((0:Int) != (0:Int))=false:=rfl;simp only;cases h1:An [93] (Ao q) with
   |some r'=>
    have a1:=Dw (fu:=fu) (d:=d) 93 93 rfl hqs ht h1;refine⟨⟨[B9 0],[Cl t r']⟩,?_,Ay Awg h1,rfl⟩
    repeat(with_reducible(first|apply Be|apply A0|apply Bd|apply A4|apply Bc|apply Nb|apply Az|apply Bf|apply Hj);· first|constructor|(simp(disch:=omega)only[Hh,ev,hb,FI,a1]<;>first|constructor|omega)|omega)
    try simp(disch:=omega)only[Ab,ev,hb,FI,a1]
   |none=>
    have a1:=Fl (fu:=fu) (d:=d) 93 93 rfl hqs ht h1;cases h2:An [44] (Ao q) with
    |none=>
     have a2:=Fl (fu:=fu) (d:=d) 44 44 rfl hqs ht h2;refine⟨⟨[B9 2],[Cl t (Ao q)]⟩,?_,by decide,Ao q,hqs,rfl⟩
     repeat(with_reducible(first|apply Be|apply A0|apply Bd|apply A4|apply Bc|apply Nb|apply Az|apply Bf|apply Hj);· first|constructor|(simp(disch:=omega)only[Hh,ev,hb,FI,a1,a2,F9]<;>first|constructor|omega)|omega)
     try simp(disch:=omega)only[Ab,ev,hb,FI,a1,a2,F9]
    |some r'=>
     have a2:=Dw (fu:=fu) (d:=d) 44 44 rfl hqs ht h2;have hr:=Ay hqs h2;have MR:=Ay Awg h2;have hs3:Ae C0 prog fu (d+3) 43 [.pbox (Cl t r')]=some ⟨[],[Cl t (Ao r')]⟩:=Tb (fu:=fu) (d:=d) hr ht Ce
     have hlr:(Ao r').length+1<=l.length:=by
      have e1:=hq.le;have e2:=Gc q;have e3:=Gc r'
      have e4:r'.length+1<=(Ao q).length:=by
       rw[Ck] at h2
       revert h2
       cases Ao q with
       |nil=>intro h2;cases h2
       |cons y s=>
        intro h2;simp only at h2;split at h2
        ·cases h2;simp
        ·cases h2
      omega
     obtain⟨res,e5,h5⟩:=ih k (Ao r') (by omega) (by omega) (Bw hr);refine⟨res,?_,?_⟩
     ·skip
      repeat(with_reducible(first|apply Be|apply A0|apply Bd|apply A4|apply Bc|apply Nb|apply Az|apply Bf|apply Hj);· first|constructor|(simp(disch:=omega)only[Hh,ev,hb,FI,a1,a2,hs3,E1]<;>first|constructor|omega)|omega)
      try simp(disch:=omega)only[Ab,ev,hb,FI,a1,a2,hs3,E1]
      exact e5
     ·simp only;have hup:Dp (Aa l) (Ao r'):=Bw MR
      revert h5
      cases Ti V n (Ao r') with
      |error e=>exact id
      |ok q2=>exact fun h5=>⟨hup.trans h5.1,h5.2⟩
end
theorem Y0{c:Int}{x r:Am}(h:An [c] x=some r):r.length+1<=x.length:=by
 rw[Ck] at h
 revert h
 cases x with
 |nil=>intro h;cases h
 |cons y s=>
  intro h;simp only at h;split at h
  ·cases h;simp
  ·cases h
theorem G3(V:Am->JR (JV × Am))(kp:Bool)(n:Nat)(ms:List (Am × JV))(l:Am):Jz V kp (n+1) ms l=match De l with
  |(none,_)=>.error 2
  |(some nm,r)=>if (kp&&ms.any fun m=>m.1==nm)=true then .error 10 else match An [58] (Ao r) with
   |none=>.error 2
   |some r1=>match V (Ao r1) with
    |.error e=>.error e
    |.ok (v,r2)=>match An [125] (Ao r2) with
     |some r3=>.ok (ms++[(nm,v)],r3)
     |none=>match An [44] (Ao r2) with
      |some r3=>Jz V kp n (ms++[(nm,v)]) (Ao r3)
      |none=>.error 2:=by
 show (match Ar8 V (fun nm=>kp&&ms.any fun m=>m.1==nm) l with | .error e=>_ | .ok (m,r)=>_)=_;unfold Ar8 Tp;rcases De l with⟨o,r⟩;cases o with
 |none=>rfl
 |some nm=>
  simp only;by_cases hd:(kp&&ms.any fun m=>m.1==nm)=true
  rotate_left
  ·simp only[Bg hd];rw[Ck];cases Ao r with
   |nil=>rfl
   |cons y s=>
    by_cases h:y=58
    ·subst h;simp only[if_true];cases V (Ao s) with
     |error e=>rfl
     |ok x=>
      obtain⟨v,r2⟩:=x;simp only;rw[Ck,Ck];cases Ao r2 with
      |nil=>rfl
      |cons y s=>
       by_cases h:y=125
       ·subst h;simp
       ·by_cases h2:y=44
        ·subst h2;simp
        ·simp only[Bg h,Bg h2];split
         ·rename_i e;injection e with e1 _;exact absurd e1 h
         ·rename_i e;injection e with e1 _;exact absurd e1 h2
         ·rfl
    ·simp only[Bg h];split
     ·rename_i e;split at e
      ·rename_i e2;injection e2 with e1 _;exact absurd e1 h
      ·cases e;rfl
     ·rename_i e;split at e
      ·rename_i e2;injection e2 with e1 _;exact absurd e1 h
      ·cases e
  ·simp only[Bq hd]
def Avj{α:Type}(t:ByteArray)(l:Am)(x:JR (α × Am))(res:Bz):Prop:=
 match x with
 |.ok (_,q)=>Dp (Aa l) q/\res=⟨[B9 0],[Cl t q]⟩
 |.error e=>e≠0/\∃q,Dp t q/\res=⟨[B9 e],[Cl t q]⟩
section
variable {fu d:Nat}
theorem Apa{t:ByteArray}{r:Am}(h:Dp t r)(ht:t.size<=1000000):Ae C0 prog fu (d+1) 67 [.pbox (Cl t r)]=some ⟨[.sc (.string (Aa ((De r).1.getD []))),.sc (.bool (De r).1.isSome)],[Cl t (De r).2]⟩:=by
 have e0:Ae C0 prog fu (d+1) 67 [.pbox (Cl t r)]=Agh [.pbox (Cl t r)]:=rfl;have hl:=h.len
 have e1:(decide ((0:Int)<=(A9 t r:Int))&&decide ((A9 t r:Int)<=t.size)&&Nat.ble t.size 1000000)=true:=by
  simp only[Fb,AM,Nat.ble_eq];unfold A9;omega
 have e2:(Eu t).drop (A9 t r:Int).toNat=r:=by rw[Kc];exact h.eq.symm
 have hq:=(Gl h).len;rw[e0];unfold Agh;simp only[e1,cond_true,e2];rcases hx:De r with⟨o,q⟩;rw[hx] at hq;have e3:(t.size:Int)-q.length=(A9 t q:Int):=by unfold A9;simp only at hq;omega
 cases o with
 |none=>simp only[e3];rfl
 |some s=>simp only[e3];rfl
theorem Avb{t:ByteArray}{D:Int}(ht:t.size<=1000000)(Ce:t.size+1<=fu)(V:Am->JR (JV × Am))(HV:∀r,Dp t r->∃res,Ae C0 prog fu (d+3) 68 [.pbox (Cl t r),B9 D]=some res/\ZE t r (V r) res){l:Am}(h:Dp t (91::l)):
  ∃res,Ae C0 prog fu (d+4) 93 [.pbox (Cl t (91::l)),B9 D]=some res/\Av7 t l (Xb V l) res:=by
 have a0:=Dw (fu:=fu) (d:=d) (q:=l) 91 91 rfl h ht (by rw[Ck];rfl)
 have hs:Ae C0 prog fu (d+3) 43 [.pbox (Cl t l)]=some ⟨[],[Cl t (Ao l)]⟩:=Tb (fu:=fu) (d:=d) h.tail ht Ce;have hS:=Bw h.tail;have Yr:=Bw (Dp.self h.tail.B)
 have eA:Xb V l=match An [93] (Ao l) with|some r=>.ok r|none=>Ti V ((Ao l).length+1) (Ao l):=by
  unfold Xb;rw[Ck];cases Ao l with
  |nil=>rfl
  |cons y s=>
   by_cases hy:y=93
   ·subst hy;rfl
   ·simp only[Bg hy];split
    ·rename_i e;injection e with e1 _;exact absurd e1 hy
    ·rfl
 have er:=Mn (p:=none) fu (d+3) t (A9 t (91::l):Int) D;rw[eA];cases h1:An [93] (Ao l) with
 |some r=>
  have a1:=Dw (fu:=fu) (d:=d) 93 93 rfl hS ht h1;refine⟨⟨[B9 0],[Cl t r]⟩,er.trans ?_,Ay Yr h1,rfl⟩
  repeat(with_reducible(first|apply Be|apply A0|apply Bd|apply A4|apply Bc|apply Az|apply Bf|apply Hj);· first|constructor|(simp(disch:=omega)only[Hh,a0,hs,a1,E1]<;>first|constructor|omega)|omega)
  try simp(disch:=omega)only[Ab,a0,hs,a1,E1]
 |none=>
  have a1:=Fl (fu:=fu) (d:=d) 93 93 rfl hS ht h1;obtain⟨res,e5,h5⟩:=Air (fu:=fu) (d:=d) (s0:=t) (p0:=(A9 t (91::l):Int)) (D0:=D) ht Ce V HV ((Ao l).length+1) fu (Ao l) (Cc _) (by have:=hS.len;omega) hS
  refine⟨res,er.trans ?_,?_⟩
  ·skip
   repeat(with_reducible(first|apply Be|apply A0|apply Bd|apply A4|apply Bc|apply Az|apply Bf|apply Hj);· first|constructor|(simp(disch:=omega)only[Hh,a0,hs,a1,E1]<;>first|constructor|omega)|omega)
   try simp(disch:=omega)only[Ab,a0,hs,a1,E1]
   exact e5
  ·simp only
   revert h5
   cases Ti V ((Ao l).length+1) (Ao l) with
   |error e=>exact id
   |ok q2=>exact fun h5=>⟨Yr.trans h5.1,h5.2⟩
end
section
variable {fu d:Nat}
theorem Agd{t s0:ByteArray}{p0 D0 D:Int}(ht:t.size<=1000000)(Ce:t.size+1<=fu)(V:Am->JR (JV × Am))(HV:∀r,Dp t r->∃res,Ae C0 prog fu (d+3) 68 [.pbox (Cl t r),B9 D]=some res/\ZE t r (V r) res):∀(n nn:Nat)(ms:List (Am × JV)) (l:Am),l.length+1<=n->l.length+1<=nn->Dp t l ->
  ∃res,Dx fu (Ae C0 prog fu (d+3)) s0 p0 D0 nn D t (A9 t l:Int)=some res/\Avj t l (Jz V false n ms l) res:=by
 intro n
 induction n with
 |zero=>intro nn ms l h1;omega
 |succ n ih=>
  intro nn ms l hn Jo h;obtain⟨k,rfl⟩:∃k,nn=k+1:=⟨nn-1,by omega⟩
  have er:Ae C0 prog fu (d+3) 67 [.pbox (Cl t l)]=_:=Apa (d:=d+2) h ht;have RG:=Gl h;have ON:=Gl (Dp.self h.B);rw[G3,Kf];rcases hx:De l with⟨o,q⟩;rw[hx] at er RG ON;cases o with
  |none=>
   have er2:Ae C0 prog fu (d+3) 67 [.pbox (Cl t l)]=some ⟨[.sc (.string (Aa [])),.sc (.bool false)],[Cl t q]⟩:=er;refine⟨⟨[B9 2],[Cl t q]⟩,?_,by decide,q,RG,rfl⟩
   repeat(with_reducible(first|apply Be|apply A0|apply Bd|apply A4|apply Bc|apply Nb|apply Az|apply Bf|apply Hj);· first|constructor|(simp(disch:=omega)only[Hh,er2,F9]<;>first|constructor|omega)|omega)
   try simp(disch:=omega)only[Ab,er2,F9]
  |some nm=>
   have er2:Ae C0 prog fu (d+3) 67 [.pbox (Cl t l)]=some ⟨[.sc (.string (Aa nm)),.sc (.bool true)],[Cl t q]⟩:=er;simp only at RG ON;have FI:Ae C0 prog fu (d+3) 43 [.pbox (Cl t q)]=some ⟨[],[Cl t (Ao q)]⟩:=Tb (fu:=fu) (d:=d) RG ht Ce;have V8:=Bw RG;have K7:=Bw ON;simp only[CS,Bool.false_eq_true,if_false];cases h1:An [58] (Ao q) with
   |none=>
    have a1:=Fl (fu:=fu) (d:=d) 58 58 rfl V8 ht h1;refine⟨⟨[B9 2],[Cl t (Ao q)]⟩,?_,by decide,Ao q,V8,rfl⟩
    repeat(with_reducible(first|apply Be|apply A0|apply Bd|apply A4|apply Bc|apply Nb|apply Az|apply Bf|apply Hj);· first|constructor|(simp(disch:=omega)only[Hh,er2,FI,a1,E1,F9]<;>first|constructor|omega)|omega)
    try simp(disch:=omega)only[Ab,er2,FI,a1,E1,F9]
   |some r1=>
    have a1:=Dw (fu:=fu) (d:=d) 58 58 rfl V8 ht h1;have KF:=Ay V8 h1;have MR:=Ay K7 h1;have hs3:Ae C0 prog fu (d+3) 43 [.pbox (Cl t r1)]=some ⟨[],[Cl t (Ao r1)]⟩:=Tb (fu:=fu) (d:=d) KF ht Ce;have hv1:=Bw KF;have hv2:=Bw MR;obtain⟨rv,ev,hv⟩:=HV (Ao r1) hv1;simp only;cases hV:V (Ao r1) with
    |error e=>
     rw[hV] at hv;obtain⟨he,c1,c2,c3,q3,hq3,rfl⟩:=hv;have hb:(e != (0:Int))=true:=by simp[he]
     refine⟨⟨[B9 e],[Cl t q3]⟩,?_,he,q3,hq3,rfl⟩
     repeat(with_reducible(first|apply Be|apply A0|apply Bd|apply A4|apply Bc|apply Nb|apply Az|apply Bf|apply Hj);· first|constructor|(simp(disch:=omega)only[Hh,er2,FI,a1,hs3,ev,hb,E1]<;>first|constructor|omega)|omega)
     try simp(disch:=omega)only[Ab,er2,FI,a1,hs3,ev,hb,E1]
    |ok x=>
     obtain⟨v,r2⟩:=x;rw[hV] at hv;obtain⟨hq3,rfl⟩:=hv;have hb:((0:Int) != (0:Int))=false:=rfl;have hw1:=hv1.trans hq3;have hw2:=hv2.trans hq3;have VX:Ae C0 prog fu (d+3) 43 [.pbox (Cl t r2)]=some ⟨[],[Cl t (Ao r2)]⟩:=Tb (fu:=fu) (d:=d) hw1 ht Ce;have PJ:=Bw hw1;have Ue:=Bw hw2;simp only;cases h2:An [125] (Ao r2) with
     |some r3=>
      have a2:=Dw (fu:=fu) (d:=d) 125 125 rfl PJ ht h2;refine⟨⟨[B9 0],[Cl t r3]⟩,?_,Ay Ue h2,rfl⟩
      repeat(with_reducible(first|apply Be|apply A0|apply Bd|apply A4|apply Bc|apply Nb|apply Az|apply Bf|apply Hj);· first|constructor|(simp(disch:=omega)only[Hh,er2,FI,a1,hs3,ev,hb,VX,a2,E1]<;>first|constructor|omega)|omega)
      try simp(disch:=omega)only[Ab,er2,FI,a1,hs3,ev,hb,VX,a2,E1]
     |none=>
      have a2:=Fl (fu:=fu) (d:=d) 125 125 rfl PJ ht h2;cases h3:An [44] (Ao r2) with
      |none=>
       have a3:=Fl (fu:=fu) (d:=d) 44 44 rfl PJ ht h3;refine⟨⟨[B9 2],[Cl t (Ao r2)]⟩,?_,by decide,Ao r2,PJ,rfl⟩
       repeat(with_reducible(first|apply Be|apply A0|apply Bd|apply A4|apply Bc|apply Nb|apply Az|apply Bf|apply Hj);· first|constructor|(simp(disch:=omega)only[Hh,er2,FI,a1,hs3,ev,hb,VX,a2,a3,E1,F9]<;>first|constructor|omega)|omega)
       try simp(disch:=omega)only[Ab,er2,FI,a1,hs3,ev,hb,VX,a2,a3,E1,F9]
      |some r3=>
       have a3:=Dw (fu:=fu) (d:=d) 44 44 rfl PJ ht h3;have hy1:=Ay PJ h3;have hy2:=Ay Ue h3;have hs5:Ae C0 prog fu (d+3) 43 [.pbox (Cl t r3)]=some ⟨[],[Cl t (Ao r3)]⟩:=Tb (fu:=fu) (d:=d) hy1 ht Ce
       have hlr:(Ao r3).length+1<=l.length:=by
        have e1:=Ue.le;have e2:=Gc r3;have e3:=Y0 h3;omega
       obtain⟨res,e5,h5⟩:=ih k (ms++[(nm,v)]) (Ao r3) (by omega) (by omega) (Bw hy1);refine⟨res,?_,?_⟩
       ·skip
        repeat(with_reducible(first|apply Be|apply A0|apply Bd|apply A4|apply Bc|apply Nb|apply Az|apply Bf|apply Hj);· first|constructor|(simp(disch:=omega)only[Hh,er2,FI,a1,hs3,ev,hb,VX,a2,a3,hs5,E1]<;>first|constructor|omega)|omega)
        try simp(disch:=omega)only[Ab,er2,FI,a1,hs3,ev,hb,VX,a2,a3,hs5,E1]
        exact e5
       ·simp only;have hup:Dp (Aa l) (Ao r3):=Bw hy2
        revert h5
        cases Jz V false n (ms++[(nm,v)]) (Ao r3) with
        |error e=>exact id
        |ok q2=>exact fun h5=>⟨hup.trans h5.1,h5.2⟩
theorem Axe{t:ByteArray}{D:Int}(ht:t.size<=1000000)(Ce:t.size+1<=fu)(V:Am->JR (JV × Am))(HV:∀r,Dp t r->∃res,Ae C0 prog fu (d+3) 68 [.pbox (Cl t r),B9 D]=some res/\ZE t r (V r) res){l:Am}(h:Dp t (123::l)):
  ∃res,Ae C0 prog fu (d+4) 44 [.pbox (Cl t (123::l)),B9 D,.sc (.map none)]=some res/\Avj t l (Q2 V false l) res:=by
 have a0:=Dw (fu:=fu) (d:=d) (q:=l) 123 123 rfl h ht (by rw[Ck];rfl)
 have hs:Ae C0 prog fu (d+3) 43 [.pbox (Cl t l)]=some ⟨[],[Cl t (Ao l)]⟩:=Tb (fu:=fu) (d:=d) h.tail ht Ce;have hS:=Bw h.tail;have Yr:=Bw (Dp.self h.tail.B)
 have eA:Q2 V false l=match An [125] (Ao l) with|some r=>.ok ([],r)|none=>Jz V false ((Ao l).length+1) [] (Ao l):=by
  unfold Q2;rw[Ck];cases Ao l with
  |nil=>rfl
  |cons y s=>
   by_cases hy:y=125
   ·subst hy;rfl
   ·simp only[Bg hy];split
    ·rename_i e;injection e with e1 _;exact absurd e1 hy
    ·rfl
 have er:=Lj (p:=none) fu (d+3) t (A9 t (123::l):Int) D;rw[eA];cases h1:An [125] (Ao l) with
 |some r=>
  have a1:=Dw (fu:=fu) (d:=d) 125 125 rfl hS ht h1;refine⟨⟨[B9 0],[Cl t r]⟩,er.trans ?_,Ay Yr h1,rfl⟩
  repeat(with_reducible(first|apply Be|apply A0|apply Bd|apply A4|apply Bc|apply Nb|apply Az|apply Bf|apply Hj);· first|constructor|(simp(disch:=omega)only[Hh,a0,hs,a1,E1]<;>first|constructor|omega)|omega)
  try simp(disch:=omega)only[Ab,a0,hs,a1,E1]
 |none=>
  have a1:=Fl (fu:=fu) (d:=d) 125 125 rfl hS ht h1;obtain⟨res,e5,h5⟩:=Agd (fu:=fu) (d:=d) (s0:=t) (p0:=(A9 t (123::l):Int)) (D0:=D) ht Ce V HV ((Ao l).length+1) fu [] (Ao l) (Cc _) (by have:=hS.len;omega) hS
  refine⟨res,er.trans ?_,?_⟩
  ·skip
   repeat(with_reducible(first|apply Be|apply A0|apply Bd|apply A4|apply Bc|apply Nb|apply Az|apply Bf|apply Hj);· first|constructor|(simp(disch:=omega)only[Hh,a0,hs,a1,E1]<;>first|constructor|omega)|omega)
   try simp(disch:=omega)only[Ab,a0,hs,a1,E1]
   exact e5
  ·simp only
   revert h5
   cases Jz V false ((Ao l).length+1) [] (Ao l) with
   |error e=>exact id
   |ok q2=>exact fun h5=>⟨Yr.trans h5.1,h5.2⟩
end
def Z5(l:Am):JR (JV × Am):=
 match An [116,114,117,101] l with
 |some r=>.ok ((2,[],true),r)
 |none=>match An [102,97,108,115,101] l with
  |some r=>.ok ((2,[],false),r)
  |none=>match An [110,117,108,108] l with
   |some r=>.ok ((1,[],false),r)
   |none=>match Fz l with
    |some r=>.ok ((3,[],false),r)
    |none=>.error 2
theorem BW(k:Nat){l:Am}(h1:BK l≠123)(h2:BK l≠91)(h3:BK l≠34):B3 k l=Z5 l:=by
 unfold B3;split
 ·exact absurd rfl h1
 ·exact absurd rfl h2
 ·exact absurd rfl h3
 ·rfl
theorem Ajo{l r:Am}(h:Ct l)(e:Fz l=some r):Dp (Aa l) r:=by
 have h0:=Dp.self h;have e0:Fz l=(Adf (TH 45 l)).bind Xj:=rfl;rw[e0,Rq,Wf] at e;have h1:Dp (Aa l) ((An [45] l).getD l):=Dg h0 fun q e=>Ay h0 e
 have hE:∀x q,Dp (Aa l) x->U0 x=some q->Dp (Aa l) q:=by
  have hT:∀x q,Dp (Aa l) x->Na x=some q->Dp (Aa l) q:=by
   intro x q hx e;unfold Na at e;split at e
   ·rename_i hw;exact Dz (Ay hx hw) e
   ·exact Dz (Dg hx fun q e=>Ay hx e) e
  intro x q hx e;rw[Oe] at e;split at e
  ·rename_i hw;exact hT _ _ (Ay hx hw) e
  ·split at e
   ·rename_i hw;exact hT _ _ (Ay hx hw) e
   ·cases e;exact hx
 have hF:∀x q,Dp (Aa l) x->Xj x=some q->Dp (Aa l) q:=by
  intro x q hx e;rw[S7] at e;split at e
  ·rename_i hw;obtain⟨y,hy,e⟩:=Option.bind_eq_some_iff.1 e;exact hE _ _ (Dz (Ay hx hw) hy) e
  ·exact hE _ _ hx e
 obtain⟨y,hy,e⟩:=Option.bind_eq_some_iff.1 e;split at hy
 ·rename_i hw;cases hy;exact hF _ _ (Ay h1 hw) e
 ·exact hF _ _ (Dz h1 hy) e
section
variable {fu d:Nat}
theorem Ary{t:ByteArray}{r:Am}(w:Am)(lit:ByteArray)(hw:Aa w=lit)(hB:Ct w)(hl:w.length<=100)(h:Dp t r)(ht:t.size<=1000000):Ae C0 prog fu (d+3) 66 [.pbox (Cl t r),.sc (.string lit)]=some ⟨[.sc (.bool (An w r).isSome)],[Cl t ((An w r).getD r)]⟩:=by subst hw;have e:=Vk (fu:=fu) (d:=d) (xs:=xs0) h ht (w:=w) hB hl;refine e.trans ?_;cases An w r<;>rfl
theorem Ago{t:ByteArray}(ht:t.size<=1000000)(Ce:t.size+1<=fu){D:Int}{l:Am}(h:Dp t l)(h1:BK l≠123)(h2:BK l≠91)(h3:BK l≠34):∃res,Ae C0 prog fu (d+5) 68 [.pbox (Cl t l),B9 D]=some res/\ZE t l (Z5 l) res:=by
 have er:=Cu (p:=none) fu (d+4) t (A9 t l:Int) D;have pk:Ae C0 prog fu (d+4) 92 [.pbox (Cl t l)]=some ⟨[.sc (.int .u8 (BK l))],[Cl t l]⟩:=Pe (xs:=xs0) (d:=d+3) h;have b1:(BK l==(123:Int))=false:=by simp[h1]
 have b2:(BK l==(91:Int))=false:=by simp[h2]
 have b3:(BK l==(34:Int))=false:=by simp[h3]
 have Af7:=Dp.self h.B;have a1:=Ary (fu:=fu) (d:=d+1) [116,114,117,101] (ByteArray.mk #[(116:UInt8),(114:UInt8),(117:UInt8),(101:UInt8)]) rfl (fun x hx=>by simp at hx;omega) (by decide) h ht
 have a2:=Ary (fu:=fu) (d:=d+1) [102,97,108,115,101] (ByteArray.mk #[(102:UInt8),(97:UInt8),(108:UInt8),(115:UInt8),(101:UInt8)]) rfl (fun x hx=>by simp at hx;omega) (by decide) h ht
 have a3:=Ary (fu:=fu) (d:=d+1) [110,117,108,108] (ByteArray.mk #[(110:UInt8),(117:UInt8),(108:UInt8),(108:UInt8)]) rfl (fun x hx=>by simp at hx;omega) (by decide) h ht
 obtain⟨rn,hrn,en,hn⟩:=Ai2 (fu:=fu) (d:=d) h ht Ce;have en2:Ae C0 prog fu (d+4) 94 [.pbox (Cl t l)]=some ⟨[.sc (.bool (Fz l).isSome)],[Cl t rn]⟩:=en;unfold Z5;cases q1:An [116,114,117,101] l with
 |some r=>
  rw[q1] at a1;have a1':Ae C0 prog fu (d+4) 66 [.pbox (Cl t l),.sc (.string (ByteArray.mk #[(116:UInt8),(114:UInt8),(117:UInt8),(101:UInt8)]))]=some ⟨[.sc (.bool true)],[Cl t r]⟩:=a1;refine⟨_,er.trans ?_,Ay Af7 q1,rfl⟩
  repeat(with_reducible(first|apply Be|apply A0|apply Bd|apply A4|apply Bc|apply Az|apply Bf|apply Hj);· first|constructor|(simp(disch:=omega)only[Hh,pk,b1,b2,b3,a1']<;>first|constructor|omega)|omega)
  try simp(disch:=omega)only[Ab,pk,b1,b2,b3,a1']
  rfl
 |none=>
  rw[q1] at a1;have a1':Ae C0 prog fu (d+4) 66 [.pbox (Cl t l),.sc (.string (ByteArray.mk #[(116:UInt8),(114:UInt8),(117:UInt8),(101:UInt8)]))]=some ⟨[.sc (.bool false)],[Cl t l]⟩:=a1;cases q2:An [102,97,108,115,101] l with
  |some r=>
   rw[q2] at a2;have a2':Ae C0 prog fu (d+4) 66 [.pbox (Cl t l),.sc (.string (ByteArray.mk #[(102:UInt8),(97:UInt8),(108:UInt8),(115:UInt8),(101:UInt8)]))]=some ⟨[.sc (.bool true)],[Cl t r]⟩:=a2;refine⟨_,er.trans ?_,Ay Af7 q2,rfl⟩
   repeat(with_reducible(first|apply Be|apply A0|apply Bd|apply A4|apply Bc|apply Az|apply Bf|apply Hj);· first|constructor|(simp(disch:=omega)only[Hh,pk,b1,b2,b3,a1',a2']<;>first|constructor|omega)|omega)
   try simp(disch:=omega)only[Ab,pk,b1,b2,b3,a1',a2']
   rfl
  |none=>
   rw[q2] at a2;have a2':Ae C0 prog fu (d+4) 66 [.pbox (Cl t l),.sc (.string (ByteArray.mk #[(102:UInt8),(97:UInt8),(108:UInt8),(115:UInt8),(101:UInt8)]))]=some ⟨[.sc (.bool false)],[Cl t l]⟩:=a2;cases q3:An [110,117,108,108] l with
   |some r=>
    rw[q3] at a3;have a3':Ae C0 prog fu (d+4) 66 [.pbox (Cl t l),.sc (.string (ByteArray.mk #[(110:UInt8),(117:UInt8),(108:UInt8),(108:UInt8)]))]=some ⟨[.sc (.bool true)],[Cl t r]⟩:=a3;refine⟨_,er.trans ?_,Ay Af7 q3,rfl⟩
    repeat(with_reducible(first|apply Be|apply A0|apply Bd|apply A4|apply Bc|apply Az|apply Bf|apply Hj);· first|constructor|(simp(disch:=omega)only[Hh,pk,b1,b2,b3,a1',a2',a3']<;>first|constructor|omega)|omega)
    try simp(disch:=omega)only[Ab,pk,b1,b2,b3,a1',a2',a3']
    rfl
   |none=>
    rw[q3] at a3;have a3':Ae C0 prog fu (d+4) 66 [.pbox (Cl t l),.sc (.string (ByteArray.mk #[(110:UInt8),(117:UInt8),(108:UInt8),(108:UInt8)]))]=some ⟨[.sc (.bool false)],[Cl t l]⟩:=a3;cases q4:Fz l with
    |some r=>
     rw[q4] at en2;have:=hn r q4;subst this;have en3:Ae C0 prog fu (d+4) 94 [.pbox (Cl t l)]=some ⟨[.sc (.bool true)],[Cl t rn]⟩:=en2;refine⟨_,er.trans ?_,Ajo h.B q4,rfl⟩
     repeat(with_reducible(first|apply Be|apply A0|apply Bd|apply A4|apply Bc|apply Az|apply Bf|apply Hj);· first|constructor|(simp(disch:=omega)only[Hh,pk,b1,b2,b3,a1',a2',a3',en3]<;>first|constructor|omega)|omega)
     try simp(disch:=omega)only[Ab,pk,b1,b2,b3,a1',a2',a3',en3]
     rfl
    |none=>
     rw[q4] at en2;have en3:Ae C0 prog fu (d+4) 94 [.pbox (Cl t l)]=some ⟨[.sc (.bool false)],[Cl t rn]⟩:=en2;refine⟨_,er.trans ?_,by decide,0,⟨#[]⟩,false,rn,hrn,rfl⟩
     repeat(with_reducible(first|apply Be|apply A0|apply Bd|apply A4|apply Bc|apply Az|apply Bf|apply Hj);· first|constructor|(simp(disch:=omega)only[Hh,pk,b1,b2,b3,a1',a2',a3',en3]<;>first|constructor|omega)|omega)
     try simp(disch:=omega)only[Ab,pk,b1,b2,b3,a1',a2',a3',en3]
theorem OK(k:Nat)(r:Am):B3 k (34::r)=match De (34::r) with|(some s,q)=>.ok ((4,s,false),q)|(none,_)=>.error 2:=by
 have e:B3 k (34::r)=match Tp (34::r) with|none=>.error 2|some (s,r')=>.ok ((4,s,false),r'):=by
  cases k<;>rfl
 rw[e];unfold Tp;rcases De (34::r) with⟨o,q⟩;cases o<;>rfl
theorem UW{t:ByteArray}(ht:t.size<=1000000)(k:Nat){D:Int}{l:Am}(h:Dp t (34::l)):∃res,Ae C0 prog fu (d+5) 68 [.pbox (Cl t (34::l)),B9 D]=some res/\ZE t (34::l) (B3 k (34::l)) res:=by
 have er:=Cu (p:=none) fu (d+4) t (A9 t (34::l):Int) D;have pk:Ae C0 prog fu (d+4) 92 [.pbox (Cl t (34::l))]=some ⟨[.sc (.int .u8 34)],[Cl t (34::l)]⟩:=Pe (xs:=xs0) (d:=d+3) h;have Hf:Ae C0 prog fu (d+4) 67 [.pbox (Cl t (34::l))]=_:=Apa (d:=d+3) h ht;have RG:=Gl h;have ON:=Gl (Dp.self h.B);have b1:((34:Int)==(123:Int))=false:=rfl;have b2:((34:Int)==(91:Int))=false:=rfl;have b3:((34:Int)==(34:Int))=true:=rfl;rw[OK];rcases hx:De (34::l) with⟨o,q⟩;rw[hx] at Hf RG ON;cases o with
 |none=>
  have Aij:Ae C0 prog fu (d+4) 67 [.pbox (Cl t (34::l))]=some ⟨[.sc (.string (Aa [])),.sc (.bool false)],[Cl t q]⟩:=Hf;refine⟨_,er.trans ?_,by decide,0,⟨#[]⟩,false,q,RG,rfl⟩
  repeat(with_reducible(first|apply Be|apply A0|apply Bd|apply A4|apply Bc|apply Az|apply Bf|apply Hj);· first|constructor|(simp(disch:=omega)only[Hh,pk,b1,b2,b3,Aij]<;>first|constructor|omega)|omega)
  try simp(disch:=omega)only[Ab,pk,b1,b2,b3,Aij]
 |some s=>
  have Aij:Ae C0 prog fu (d+4) 67 [.pbox (Cl t (34::l))]=some ⟨[.sc (.string (Aa s)),.sc (.bool true)],[Cl t q]⟩:=Hf;refine⟨_,er.trans ?_,ON,rfl⟩
  repeat(with_reducible(first|apply Be|apply A0|apply Bd|apply A4|apply Bc|apply Az|apply Bf|apply Hj);· first|constructor|(simp(disch:=omega)only[Hh,pk,b1,b2,b3,Aij]<;>first|constructor|omega)|omega)
  try simp(disch:=omega)only[Ab,pk,b1,b2,b3,Aij]
theorem Ai3{t:ByteArray}(ht:t.size<=1000000)(Ce:t.size+1<=fu):∀(k:Nat)(D:Int),D+k=9->1<=D->∀l,Dp t l->∃res,Ae C0 prog fu (d+2*k+5) 68 [.pbox (Cl t l),B9 D]=some res/\ZE t l (B3 k l) res:=by
 intro k
 induction k with
 |zero=>
  intro D hD h1 l h;by_cases g1:BK l=123
  ·cases l with
   |nil=>cases g1
   |cons c l=>
    have g2:c=123:=g1;subst g2;have er:=Cu (p:=none) fu (d+4) t (A9 t (123::l):Int) D;have pk:Ae C0 prog fu (d+4) 92 [.pbox (Cl t (123::l))]=some ⟨[.sc (.int .u8 123)],[Cl t (123::l)]⟩:=Pe (xs:=xs0) (d:=d+3) h;have b1:((123:Int)==(123:Int))=true:=rfl;have b2:decide (D>8)=true:=by simp;omega
    refine⟨_,er.trans ?_,(by decide:(5:Int)≠0),0,⟨#[]⟩,false,123::l,h,rfl⟩
    repeat(with_reducible(first|apply Be|apply A0|apply Bd|apply A4|apply Bc|apply Az|apply Bf|apply Hj);· first|constructor|(simp(disch:=omega)only[Hh,pk,b1,b2]<;>first|constructor|omega)|omega)
    try simp(disch:=omega)only[Ab,pk,b1,b2]
  ·by_cases g2:BK l=91
   ·cases l with
    |nil=>cases g2
    |cons c l=>
     have g3:c=91:=g2;subst g3;have er:=Cu (p:=none) fu (d+4) t (A9 t (91::l):Int) D;have pk:Ae C0 prog fu (d+4) 92 [.pbox (Cl t (91::l))]=some ⟨[.sc (.int .u8 91)],[Cl t (91::l)]⟩:=Pe (xs:=xs0) (d:=d+3) h;have b0:((91:Int)==(123:Int))=false:=rfl;have b1:((91:Int)==(91:Int))=true:=rfl;have b2:decide (D>8)=true:=by simp;omega
     refine⟨_,er.trans ?_,(by decide:(5:Int)≠0),0,⟨#[]⟩,false,91::l,h,rfl⟩
     repeat(with_reducible(first|apply Be|apply A0|apply Bd|apply A4|apply Bc|apply Az|apply Bf|apply Hj);· first|constructor|(simp(disch:=omega)only[Hh,pk,b0,b1,b2]<;>first|constructor|omega)|omega)
     try simp(disch:=omega)only[Ab,pk,b0,b1,b2]
   ·by_cases g3:BK l=34
    ·cases l with
     |nil=>cases g3
     |cons c l=>
      have g4:c=34:=g3;subst g4;exact UW ht 0 h
    ·rw[BW 0 g1 g2 g3];exact Ago ht Ce h g1 g2 g3
 |succ k ih=>
  intro D hD h1 l h;have HV:=ih (D+1) (by omega) (by omega);by_cases g1:BK l=123
  ·cases l with
   |nil=>cases g1
   |cons c l=>
    have g2:c=123:=g1;subst g2;have er:=Cu (p:=none) fu (d+2*(k+1)+4) t (A9 t (123::l):Int) D;have pk:Ae C0 prog fu (d+2*(k+1)+4) 92 [.pbox (Cl t (123::l))]=some ⟨[.sc (.int .u8 123)],[Cl t (123::l)]⟩:=Pe (xs:=xs0) (d:=d+2*(k+1)+3) h;have b1:((123:Int)==(123:Int))=true:=rfl;have b2:decide (D>8)=false:=by simp;omega
    have w1:wrap .i64 (D+1)=D+1:=Ar (by omega) (by omega);obtain⟨res,e5,h5⟩:=Axe (fu:=fu) (d:=d+2*k+2) (D:=D+1) ht Ce (B3 k) HV h;have e6:Ae C0 prog fu (d+2*(k+1)+4) 44 [.pbox (Cl t (123::l)),B9 (D+1),.sc (.map none)]=some res:=e5;have ev:B3 (k+1) (123::l)=match Q2 (B3 k) false l with | .error e=>.error e | .ok (_,r')=>.ok ((6,[],false),r'):=rfl
    rw[ev];cases ho:Q2 (B3 k) false l with
    |error e=>
     rw[ho] at h5;obtain⟨he,q,hq,rfl⟩:=h5;refine⟨_,er.trans ?_,he,6,⟨#[]⟩,false,q,hq,rfl⟩
     repeat(with_reducible(first|apply Be|apply A0|apply Bd|apply A4|apply Bc|apply Az|apply Bf|apply Hj);· first|constructor|(simp(disch:=omega)only[Hh,pk,b1,b2,w1,e6]<;>first|constructor|omega)|omega)
     try simp(disch:=omega)only[Ab,pk,b1,b2,w1,e6]
    |ok x=>
     obtain⟨ms,q⟩:=x;rw[ho] at h5;obtain⟨hq,rfl⟩:=h5;refine⟨_,er.trans ?_,(Dp.self h.B).tail.trans hq,rfl⟩
     repeat(with_reducible(first|apply Be|apply A0|apply Bd|apply A4|apply Bc|apply Az|apply Bf|apply Hj);· first|constructor|(simp(disch:=omega)only[Hh,pk,b1,b2,w1,e6]<;>first|constructor|omega)|omega)
     try simp(disch:=omega)only[Ab,pk,b1,b2,w1,e6]
     rfl
  ·by_cases g2:BK l=91
   ·cases l with
    |nil=>cases g2
    |cons c l=>
     have g3:c=91:=g2;subst g3;have er:=Cu (p:=none) fu (d+2*(k+1)+4) t (A9 t (91::l):Int) D;have pk:Ae C0 prog fu (d+2*(k+1)+4) 92 [.pbox (Cl t (91::l))]=some ⟨[.sc (.int .u8 91)],[Cl t (91::l)]⟩:=Pe (xs:=xs0) (d:=d+2*(k+1)+3) h;have b0:((91:Int)==(123:Int))=false:=rfl;have b1:((91:Int)==(91:Int))=true:=rfl;have b2:decide (D>8)=false:=by simp;omega
     have w1:wrap .i64 (D+1)=D+1:=Ar (by omega) (by omega);obtain⟨res,e5,h5⟩:=Avb (fu:=fu) (d:=d+2*k+2) (D:=D+1) ht Ce (B3 k) HV h;have e6:Ae C0 prog fu (d+2*(k+1)+4) 93 [.pbox (Cl t (91::l)),B9 (D+1)]=some res:=e5;have ev:B3 (k+1) (91::l)=match Xb (B3 k) l with | .error e=>.error e | .ok r'=>.ok ((5,[],false),r'):=rfl
     rw[ev];cases ho:Xb (B3 k) l with
     |error e=>
      rw[ho] at h5;obtain⟨he,q,hq,rfl⟩:=h5;refine⟨_,er.trans ?_,he,5,⟨#[]⟩,false,q,hq,rfl⟩
      repeat(with_reducible(first|apply Be|apply A0|apply Bd|apply A4|apply Bc|apply Az|apply Bf|apply Hj);· first|constructor|(simp(disch:=omega)only[Hh,pk,b0,b1,b2,w1,e6]<;>first|constructor|omega)|omega)
      try simp(disch:=omega)only[Ab,pk,b0,b1,b2,w1,e6]
     |ok q=>
      rw[ho] at h5;obtain⟨hq,rfl⟩:=h5;refine⟨_,er.trans ?_,(Dp.self h.B).tail.trans hq,rfl⟩
      repeat(with_reducible(first|apply Be|apply A0|apply Bd|apply A4|apply Bc|apply Az|apply Bf|apply Hj);· first|constructor|(simp(disch:=omega)only[Hh,pk,b0,b1,b2,w1,e6]<;>first|constructor|omega)|omega)
      try simp(disch:=omega)only[Ab,pk,b0,b1,b2,w1,e6]
      rfl
   ·by_cases g3:BK l=34
    ·cases l with
     |nil=>cases g3
     |cons c l=>
      have g4:c=34:=g3;subst g4;exact UW (d:=d+2*(k+1)) ht (k+1) h
    ·rw[BW (k+1) g1 g2 g3];exact Ago (d:=d+2*(k+1)) ht Ce h g1 g2 g3
end
section
open Go.Shelf Go.RowKit Go.Lib
theorem ZA(G:Yl)(args:Al)(res:Bz)(h:UC args=some res):Eb G prog 63 args res:=by
 refine⟨⟨_,Tryz.func63,by kernel_rfl⟩,fun w Y bt us hi _ _=>?_⟩;unfold UC at h;split at h
 rotate_left
 ·cases h
 rename_i s p;cases hq:(Nat.ble p.size 1000&&p.data.toList.all (fun b=>decide (b.toNat<128))&&decide (s.size<=1000000000))
 ·rw[hq] at h;cases h
 rw[hq,cond_true] at h;cases h;rw[Fb,Fb] at hq;obtain⟨⟨h1,h2⟩,h3⟩:=hq;have h1:=Rc h1;have h3:=of_decide_eq_true h3;have ps:=hi.args
 match us,ps with
 |[u1,u2],ps=>
  obtain⟨⟨_,p1⟩,⟨_,p2⟩,_⟩:=ps;have e1:u1=.string s:=A3.val (show A3 w _ (.sc (.string s)) u1 from p1);have e2:u2=.string p:=A3.val (show A3 w _ (.sc (.string p)) u2 from p2);subst e1 e2;refine (Any.strings_Trim_laid YF (by kernel_rfl) s p w (by omega) (by omega) (ascii_of_all h2)).mono ?_
  rintro e w' ⟨rfl,hb⟩
  exact⟨[.string ⟨(Lib.trimS s.data.toList p.data.toList).toArray⟩],fun _=>none,rfl,R7 hb rfl⟩
 |[],ps=>exact ps.elim
 |[_],ps=>exact ps.2.elim
 |_::_::_::_,ps=>exact ps.2.2.elim
end
section
open Go.Shelf Go.RowKit Go.Lib
def Awm:Go.Shelf.Ren:=⟨fun|196=>25|259=>42|n=>n,fun|0=>0|3=>3|4=>4|5=>5|9=>9|12=>12|46=>58|53=>60|119=>91|138=>93|139=>94|n=>n,fun|3=>0|4=>1|n=>n⟩
theorem laysVS:Lays.n196 prog Awm:={
 mixed:=by kernel_rfl
 f196:=Tryz.func25.trans (congrArg some (by kernel_rfl))
 f259:=Tryz.func42.trans (congrArg some (by kernel_rfl))
 t0:=Tryz.underlying0
 a0:=Tryz.isAgg0
 z0:=Tryz.sizeOf0
 v0:=Tryz.zeroValue0
 t3:=Tryz.underlying3
 a3:=Tryz.isAgg3
 z3:=Tryz.sizeOf3
 v3:=Tryz.zeroValue3
 t4:=Tryz.underlying4
 a4:=Tryz.isAgg4
 z4:=Tryz.sizeOf4
 v4:=Tryz.zeroValue4
 t5:=Tryz.underlying5
 a5:=Tryz.isAgg5
 z5:=Tryz.sizeOf5
 v5:=Tryz.zeroValue5
 t9:=Tryz.underlying9
 a9:=Tryz.isAgg9
 z9:=Tryz.sizeOf9
 v9:=Tryz.zeroValue9
 t12:=Tryz.underlying12
 a12:=Tryz.isAgg12
 z12:=Tryz.sizeOf12
 v12:=Tryz.zeroValue12
 t46:=Tryz.underlying58
 a46:=Tryz.isAgg58
 z46:=Tryz.sizeOf58
 v46:=Tryz.zeroValue58
 t53:=Tryz.underlying60
 a53:=Tryz.isAgg60
 z53:=Tryz.sizeOf60
 v53:=Tryz.zeroValue60
 t119:=Tryz.underlying91
 a119:=Tryz.isAgg91
 z119:=Tryz.sizeOf91
 t138:=Tryz.underlying93
 a138:=Tryz.isAgg93
 z138:=Tryz.sizeOf93
 v138:=Tryz.zeroValue93
 t139:=Tryz.underlying94
 a139:=Tryz.isAgg94
 z139:=Tryz.sizeOf94
 v139:=Tryz.zeroValue94
 g3:=by kernel_rfl
 g4:=by kernel_rfl }
def gU:Yl:=⟨fun b=>b=0\/b=1,fun w=>0<w.heap.size/\1<w.heap.size/\Lib.Utf8Tabs 0 1 w,fun w w' h ⟨s1,s2,h1,h2⟩=>by
 have e1:=h _ (.inl rfl) s1;have e2:=h _ (.inr rfl) s2
 have hs:∀b,b<w.heap.size->w'.heap[b]?=w.heap[b]?->b<w'.heap.size:=by
  intro b hb he;rw[Array.getElem?_eq_getElem hb] at he;rcases Ht b w'.heap.size with q|q
  ·exact q
  ·rw[Array.getElem?_eq_none q] at he;cases he
 refine⟨hs _ s1 e1,hs _ s2 e2,fun c hc=>?_,fun i hi=>?_⟩
 ·have:=h1 c hc;unfold World.cell? at this ⊢;simp only[e1] at this ⊢;exact this
 ·obtain⟨a,b⟩:=h2 i hi;unfold World.cell? at a b ⊢;simp only[e2] at a b ⊢;exact⟨a,b⟩⟩
theorem VJ(args:Al)(res:Bz)(h:JZ args=some res):Eb gU prog 25 args res:=by
 refine⟨⟨_,Tryz.func25,by kernel_rfl⟩,fun w Y bt us hi hok _=>?_⟩;unfold JZ at h;split at h
 rotate_left
 ·cases h
 rename_i s;cases hq:decide (s.size<=9223372036854775807)
 ·rw[hq] at h;cases h
 rw[hq] at h;cases h;have hs:=of_decide_eq_true hq;have ps:=hi.args
 match us,ps with
 |[u],ps=>
  have hu:u=.string s:=by
   have:A3 w _ (.sc (.string s)) u:=ps.1.2;exact this.val
  subst hu;refine (Any.utf8_ValidString laysVS s w hs hok.2.2).mono ?_
  rintro e w' ⟨rfl,hb⟩
  exact⟨[.bool (Lib.validD s.data.toList)],fun _=>none,rfl,R7 hb rfl⟩
 |[],ps=>exact ps.elim
 |_::_::_,ps=>exact ps.2.elim
theorem Ape{p:Option (Al->Option Bz)}(hp:∀g,p=some g->∀args res,g args=some res->Eb gU prog 12 args res):MU gU prog (CP p):=by
 intro f g args res hx hg;have hx0:(bif Zh.any (Nat.beq f) then none else RQ p f)=some g:=hx;cases hb:Zh.any (Nat.beq f)
 rotate_left
 ·rw[hb,cond_true] at hx0;cases hx0
 rw[hb,cond_false] at hx0;unfold RQ at hx0;cases hP:Nat.beq f 12
 rotate_left
 ·rw[hP,cond_true] at hx0;rw[D9 hP];exact hp g hx0 args res hg
 rw[hP,cond_false] at hx0;have Vq:Aj5 f=some g:=hx0;unfold Aj5 at Vq;cases h1:Nat.beq f 25
 rotate_left
 ·rw[h1,cond_true] at Vq;cases Vq;rw[D9 h1];exact VJ args res hg
 rw[h1,cond_false] at Vq;cases h6:Nat.beq f 88
 rotate_left
 ·rw[h6,cond_true] at Vq;cases Vq;rw[D9 h6];exact Acf gU args res hg
 rw[h6,cond_false] at Vq;cases h7:Nat.beq f 102
 rotate_left
 ·rw[h7,cond_true] at Vq;cases Vq;rw[D9 h7];exact Aec gU args res hg
 rw[h7,cond_false] at Vq;cases hA:Nat.beq f 63
 rotate_left
 ·rw[hA,cond_true] at Vq;cases Vq;rw[D9 hA];exact ZA gU args res hg
 rw[hA,cond_false] at Vq;cases h8:Nat.beq f 24
 rotate_left
 ·rw[h8,cond_true] at Vq;cases Vq;rw[D9 h8];exact Ad6 gU args res hg
 rw[h8,cond_false] at Vq;cases h9:Nat.beq f 67
 rotate_left
 ·rw[h9,cond_true] at Vq;cases Vq;rw[D9 h9];exact Abx gU args res hg
 rw[h9,cond_false] at Vq;cases h3:Nat.beq f 1000000
 ·rw[h3,cond_false] at Vq;cases Vq
 ·rw[h3,cond_true] at Vq;cases Vq;cases hg
theorem Aru:MU gU prog C0:=Ape (fun _ h=>by cases h)
end
section
open Go Go.RowKit
def Um(v:JV):Value:=.agg #[.int .i64 v.1,.string (Aa v.2.1),.bool v.2.2]
def Kz:Nat->List (Am × JV)->List MapEntry
 |_,[]=>[]
 |i,m::r=>{ key:=.string (Aa m.1),val:=Um m.2,born:=i }::Kz (i+1) r
theorem NE:∀(i:Nat)(a b:List (Am × JV)),Kz i (a++b)=Kz i a++Kz (i+a.length) b
 |_,[],_=>rfl
 |i,m::r,b=>by
  show _::Kz (i+1) (r++b)=_;rw[NE (i+1) r b];show _=_::(Kz (i+1) r++Kz (i+(r.length+1)) b);rw[show i+1+r.length=i+(r.length+1) by omega]
def Hq(nm:Am)(ms:List (Am × JV)):Option JV:=(ms.find? fun m=>m.1==nm).map (·.2)
theorem DH{a b:Am}(ha:Ct a)(hb:Ct b)(h:Aa a=Aa b):a=b:=by
 have:=congrArg Eu h
 rwa [Cs ha,Cs hb] at this
theorem Ag6(a b:ByteArray):(a==b)=decide (a=b):=by
 have e:(a==b)=(a.data==b.data):=by
  cases a;cases b;rfl
 rw[e,Bool.eq_iff_iff,beq_iff_eq,decide_eq_true_iff];constructor
 ·intro h;cases a;cases b;exact congrArg ByteArray.mk h
 ·intro h;rw[h]
theorem Vd{nm:Am}(hn:Ct nm):∀(ms:List (Am × JV)) (i j:Nat),(∀m∈ms,Ct m.1)->∃r,Instr.findNow .string (.string (Aa nm)) (Kz i ms) j=some r/\(match Hq nm ms with|none=>r=none|some v=>∃k,r=some (k,Um v))
 |[],_,_,_=>⟨none,rfl,rfl⟩
 |m::r,i,j,hB=>by
  by_cases h:m.1=nm
  ·refine⟨some (j,Um m.2),?_,?_⟩
   ·show (match Instr.sameNow .string (.string (Aa nm)) (.string (Aa m.1)) with|some true=>some (some (j,Um m.2))|some false=>Instr.findNow .string (.string (Aa nm)) (Kz (i+1) r) (j+1)|none=>none)=_
    have e:Instr.sameNow .string (.string (Aa nm)) (.string (Aa m.1))=some true:=by
     show some (Aa nm==Aa m.1)=some true;rw[h,Ag6];simp
    rw[e]
   ·have e:Hq nm (m::r)=some m.2:=by
     unfold Hq;rw[List.find?_cons_of_pos (by simp[h])];rfl
    rw[e];exact⟨j,rfl⟩
  ·obtain⟨q,hq,hl⟩:=Vd hn r (i+1) (j+1) fun m hm=>hB m (Su _ hm);refine⟨q,?_,?_⟩
   ·show (match Instr.sameNow .string (.string (Aa nm)) (.string (Aa m.1)) with|some true=>some (some (j,Um m.2))|some false=>Instr.findNow .string (.string (Aa nm)) (Kz (i+1) r) (j+1)|none=>none)=_
    have e:Instr.sameNow .string (.string (Aa nm)) (.string (Aa m.1))=some false:=by
     show some (Aa nm==Aa m.1)=some false;have:Aa nm≠Aa m.1:=fun e=>h (DH hn (hB m (Yd ..)) e).symm;rw[Ag6];simp[this]
    rw[e];exact hq
   ·have e:Hq nm (m::r)=Hq nm r:=by
     unfold Hq;rw[List.find?_cons_of_neg (by simp[h])]
    rw[e];exact hl
def FZ(w:World)(b:Nat)(ms:List (Am × JV)):Prop:=w.heap[b]?=some (.map (Kz 0 ms).toArray ms.length)
theorem HM{w:World}{b:Nat}{ms:List (Am × JV)}(h:FZ w b ms):(getObj b).run prog w=.ok (.map (Kz 0 ms).toArray ms.length) w:=by simp[getObj,Sem.run,show w.heap[b]?=_ from h]
def UF(nm:Am)(ms:List (Am × JV)):Value:=match Hq nm ms with|some v=>Um v|none=>Um (0,[],false)
theorem GM{w:World}{b:Nat}{ms:List (Am × JV)}(h:FZ w b ms)(hB:∀m∈ms,Ct m.1){nm:Am}(hn:Ct nm)(ok:Bool):(Instr.lookup 54 (.map (some b)) (.string (Aa nm)) ok).run prog w=.ok (if ok then .tuple #[UF nm ms,.bool (Hq nm ms).isSome] else UF nm ms) w:=by
 have hu:=run_underlying (w:=w) Tryz.underlying54;have hk:=run_underlying (w:=w) Tryz.underlying9;have hck:∀c (n:Nat),(Instr.checkKey c (n+1) 9 (.string (Aa nm))).run prog w=.ok () w:=fun c n=>by simp[Instr.checkKey,hk]
 have hc:∀c,(Instr.checkKey c 10000 9 (.string (Aa nm))).run prog w=.ok () w:=fun c=>hck c 9999;obtain⟨r,hr,hl⟩:=Vd hn ms 0 0 hB;have hz:(zeroValue 100).run prog w=.ok (Um (0,[],false)) w:=Tryz.zeroValue100 w;unfold UF;cases hq:Hq nm ms with
 |none=>
  rw[hq] at hl;simp only at hl;subst hl;cases ok<;>simp[Instr.lookup,hu,hk,HM h,hc,Instr.findKey,hr,hz]<;>rfl
 |some v=>
  rw[hq] at hl;obtain⟨k,hl⟩:=hl;subst hl;cases ok<;>simp[Instr.lookup,hu,hk,HM h,hc,Instr.findKey,hr]
theorem XO{w:World}{b:Nat}{ms:List (Am × JV)}(h:FZ w b ms)(hB:∀m∈ms,Ct m.1){nm:Am}(hn:Ct nm)(PC:Hq nm ms=none)(v:JV):(Instr.mapUpdate 54 (.map (some b)) (.string (Aa nm)) (Um v)).run prog w=.ok () { w with heap:=w.heap.setIfInBounds b (.map (Kz 0 (ms++[(nm,v)])).toArray (ms++[(nm,v)]).length) }:=by
 have hu:=run_underlying (w:=w) Tryz.underlying54;have hk:=run_underlying (w:=w) Tryz.underlying9;have hck:∀c (n:Nat),(Instr.checkKey c (n+1) 9 (.string (Aa nm))).run prog w=.ok () w:=fun c n=>by simp[Instr.checkKey,hk]
 have hc:∀c,(Instr.checkKey c 10000 9 (.string (Aa nm))).run prog w=.ok () w:=fun c=>hck c 9999;obtain⟨r,hr,hl⟩:=Vd hn ms 0 0 hB;rw[PC] at hl;simp only at hl;subst hl
 have e:Kz 0 (ms++[(nm,v)])=Kz 0 ms++[{ key:=.string (Aa nm),val:=Um v,born:=ms.length }]:=by
  rw[NE];show _++[_]=_;rw[Ob]
 have hs:∀o,(setObj b o).run prog w=.ok () { w with heap:=w.heap.setIfInBounds b o }:=fun o=>by
  simp[setObj,Sem.run,show w.heap[b]?=_ from h]
 rw[e];simp[Instr.mapUpdate,hu,hk,HM h,hc,Instr.findKey,hr,hs]
end
section
open Go Go.RowKit
structure Nk(w:World)(b:Nat):Prop where
 ok:gU.ok w
 bl:∀k,gU.bl k->k<w.heap.size/\k≠b
theorem IP{f:FuncId}{t:ByteArray}{r r':Am}{args vals:Al}{us rs:List Value}{fu d:Nat}(e:Ae C0 prog fu d f (.pbox (Cl t r)::args)=some ⟨vals,[Cl t r']⟩)(ha:Bo HY args us)(hr:Bo HY vals rs){w:World}{b o:Nat}(hU:Nk w b)(h:Zd w b o t r):Calls prog f (.pointer (some ⟨b,o,none⟩)::us).toArray w fun e w'=>e=.returned (Jc rs)/\Zd w' b o t r'/\F4 w w' b o 2:=by
 have hs:Eb gU prog f (.pbox ([Value.string t,.int .i64 (A9 t r:Int)].map .sc)::args) ⟨vals,[[Value.string t,.int .i64 (A9 t r':Int)].map .sc]⟩:=J9 ngR mxR Aru d f _ _ e;refine (MB hs ha hr (w:=w) (b:=b) (o:=o) hU.ok hU.bl h.lt ?_ ?_).mono ?_
 ·intro j v hv
  match j,hv with
  |0,hv=>cases hv;exact h.c0
  |1,hv=>cases hv;exact h.c1
 ·intro j hj
  match j,hj with
  |0,_=>exact h.f0
  |1,_=>exact h.f1
 ·rintro e w' ⟨rfl,_,h4,h5,hk⟩
  exact⟨rfl,⟨Gy h.lt hk.size,h4 0 _ rfl,h4 1 _ rfl,h5 0 (Nat.zero_lt_succ _),h5 1 (Nat.succ_lt_succ (Nat.zero_lt_succ _))⟩,hk⟩
theorem Jv{t:ByteArray}{r:Am}(hS:Dp t r)(ht:t.size<=1000000){w:World}{b o:Nat}(hU:Nk w b)(h:Zd w b o t r):
  Calls prog 43 #[.pointer (some ⟨b,o,none⟩)] w fun e w'=>e=.returned (.tuple #[])/\Zd w' b o t (Ao r)/\F4 w w' b o 2:=by
 have e:=Tb (fu:=1000001) (d:=0) hS ht (by omega);exact IP (us:=[]) (rs:=[]) e trivial trivial hU h
def Asj(t:ByteArray)(r r':Am)(e:Ending):Prop:=
 match B3 8 r with
 |.ok (v,q)=>r'=q/\Dp (Aa r) q/\e=.returned (.tuple #[Um v,.int .i64 0])
 |.error er=>er≠0/\Dp t r'/\∃u:JV,e=.returned (.tuple #[Um u,.int .i64 er])
theorem Abz{t:ByteArray}{r:Am}(hS:Dp t r)(ht:t.size<=1000000){w:World}{b o:Nat}(hU:Nk w b)(h:Zd w b o t r):
  Calls prog 68 #[.pointer (some ⟨b,o,none⟩),.int .i64 1] w fun e w'=>∃r',Zd w' b o t r'/\F4 w w' b o 2 /\
   Asj t r r' e:=by
 unfold Asj;obtain⟨res,e,hr⟩:=Ai3 (fu:=1000001) (d:=0) ht (by omega) 8 1 (by omega) (by omega) r hS;cases hv:B3 8 r with
 |error er=>
  rw[hv] at hr;obtain⟨he,c1,c2,c3,q,hq,rfl⟩:=hr;refine (IP (us:=[.int .i64 1]) (rs:=[.agg #[.int .i64 c1,.string c2,.bool c3],.int .i64 er]) e ⟨.inl rfl,trivial⟩ ⟨.inr ⟨[.int .i64 c1,.string c2,.bool c3],rfl,rfl⟩,.inl rfl,trivial⟩ hU h).mono ?_
  rintro e w' ⟨rfl,ha,hk⟩
  exact⟨q,ha,hk,he,hq,(c1,Eu c2,c3),by unfold Um;simp only[Kv];rfl⟩
 |ok x=>
  obtain⟨v,q⟩:=x;rw[hv] at hr;obtain⟨hq,rfl⟩:=hr;refine (IP (us:=[.int .i64 1]) (rs:=[Um v,.int .i64 0]) e ⟨.inl rfl,trivial⟩ ⟨.inr ⟨[.int .i64 v.1,.string (Aa v.2.1),.bool v.2.2],rfl,rfl⟩,.inl rfl,trivial⟩ hU h).mono ?_
  rintro e w' ⟨rfl,ha,hk⟩
  exact⟨q,ha,hk,rfl,hq,rfl⟩
end
section
open Go Go.RowKit Go.Lib
theorem Nk.keep{w w':World}{b o n:Nat}(h:Nk w b)(k:F4 w w' b o n):Nk w' b:=
 ⟨gU.stable w w' (fun j hj hl=>k.other j hl (h.bl j hj).2) h.ok,fun j hj=>⟨Gy (h.bl j hj).1 k.size,(h.bl j hj).2⟩⟩
theorem FZ.keep{w w':World}{b mb o n:Nat}{ms:List (Am × JV)}(h:FZ w mb ms)(k:F4 w w' b o n)(Er:mb≠b):FZ w' mb ms:=by have Cx:mb<w.heap.size:=(Array.getElem?_eq_some_iff.1 h).1;exact (k.other mb Cx Er).trans h
structure Ew(w w':World)(b mb:Nat):Prop where
 os:w'.os=w.os
 tape:w'.tape=w.tape
 output:w'.output=w.output
 size:w.heap.size<=w'.heap.size
 other:∀k,k<w.heap.size->k≠b->k≠mb->w'.heap[k]?=w.heap[k]?
theorem Ew.of{w w':World}{b mb o n:Nat}(k:F4 w w' b o n):Ew w w' b mb:=⟨k.os,k.tape,k.output,k.size,fun j hj hb _=>k.other j hj hb⟩
theorem Nk.below{w w':World}{b:Nat}(h:Nk w b)(k:Below w.heap.size w w'):Nk w' b:=
 ⟨gU.stable w w' (fun j _ hl=>k.block j hl) h.ok,fun j hj=>⟨Gy (h.bl j hj).1 k.size,(h.bl j hj).2⟩⟩
theorem FZ.below{w w':World}{mb:Nat}{ms:List (Am × JV)}(h:FZ w mb ms)(k:Below w.heap.size w w'):FZ w' mb ms:=by have Cx:mb<w.heap.size:=(Array.getElem?_eq_some_iff.1 h).1;exact (k.block mb Cx).trans h
theorem Ew.trans{w w' w'':World}{b mb:Nat}(h:Ew w w' b mb)(k:Ew w' w'' b mb):Ew w w'' b mb:=
 ⟨k.os.trans h.os,k.tape.trans h.tape,k.output.trans h.output,Nat.le_trans h.size k.size,fun i hi h1 h2=>(k.other i (Gy hi h.size) h1 h2).trans (h.other i hi h1 h2)⟩
theorem YJ:∀(n:Nat)(out l s q:Am),Ct out->Ct l->Gf n out l=(some s,q)->Ct s
  |0,_,_,_,_,_,_,h=>by cases h
  |_+1,_,[],_,_,_,_,h=>by cases h
  |n+1,out,c::l,s,q,ho,hl,h=>by
    have e:Gf (n+1) out (c::l)=if c<32 then (none,c::l) else if c=34 then (some out,l) else if c=92 then
        (match Kh l with
         |(some x,r')=>Gf n (out++Lib.encodeRuneZ x) r'
         |(none,r')=>(none,r')) else Gf n (out++[c]) l:=rfl
    have Pu:=Bi hl
    rw[e] at h
    split at h
    · cases h
    split at h
    · cases h;exact ho
    split at h
    · have h2:=Rp (Dp.self Pu.2)
      rcases hq:Kh l with⟨o,r⟩
      rw[hq] at h2 h
      cases o with
      |none=>cases h
      |some x=>exact YJ n _ r s q (Js ho (fun y hy=>by have:=Lib.encodeRuneZ_byte x y hy;omega)) (by have:=h2.B;exact this) h
    · exact YJ n _ l s q (Js ho (fun y hy=>by simp at hy;omega)) Pu.2 h
theorem PE{l s q:Am}(hl:Ct l)(h:De l=(some s,q)):Ct s:=by
 cases l with
 |nil=>cases h
 |cons c l=>
  have e:De (c::l)=if c=34 then Gf (l.length+1) [] l else (none,c::l):=rfl
  rw[e] at h;split at h
  ·exact YJ _ _ _ _ _ (fun x hx=>by cases hx) (Bi hl).2 h
  ·cases h
theorem Ew.below{w w':World}{b mb:Nat}(k:Below w.heap.size w w'):Ew w w' b mb:=⟨k.os,k.tape,k.output,k.size,fun i hi _ _=>k.block i hi⟩
theorem Akx{P:Program}{t k e:TypeId}(hu:P.underlying t=some (.map k e))(mb:Nat)(w:World):(binOp .neq t (.map (some mb)) (.map none)).run P w=.ok (.bool true) w:=by
 have h:∀d,(Op.equalIn (d+1) t (.map (some mb)) (.map none)).run P w=.ok false w:=fun d=>by
  simp[Op.equalIn,run_underlying hu]
 simp only[binOp];simp[Op.equal,Op.maxDepth,h 9999]
theorem Ahy(nm:Am)(ms:List (Am × JV)):(ms.any fun m=>m.1==nm)=(Hq nm ms).isSome:=by
 unfold Hq
 induction ms with
 |nil=>rfl
 |cons m r ih=>
  by_cases h:m.1=nm
  ·rw[List.find?_cons_of_pos (by simp[h])];simp[h]
  ·rw[List.find?_cons_of_neg (by simp[h]),<-ih];simp[h]
theorem Hz(V:Am->JR (JV × Am))(kp:Bool)(l:Am):Q2 V kp l=match An [125] (Ao l) with|some r=>.ok ([],r)|none=>Jz V kp ((Ao l).length+1) [] (Ao l):=by
 unfold Q2;rw[Ck];cases Ao l with
 |nil=>rfl
 |cons y s=>
  by_cases hy:y=125
  ·subst hy;rfl
  ·simp only[Bg hy];split
   ·rename_i e;injection e with e1 _;exact absurd e1 hy
   ·rfl
theorem HO{W:World}{mb b:Nat}{ob:Obj}(Er:mb≠b):({ W with heap:=W.heap.setIfInBounds mb ob }:World).heap[b]?=W.heap[b]?:=Array.getElem?_setIfInBounds_ne Er
theorem Zd.put{W:World}{b o mb:Nat}{t:ByteArray}{r:Am}{ob:Obj}(h:Zd W b o t r)(Er:mb≠b):Zd { W with heap:=W.heap.setIfInBounds mb ob } b o t r:=by
 have e:=HO (W:=W) (ob:=ob) Er;refine⟨by simpa using h.lt,(World.cell?_of_block e).trans h.c0,(World.cell?_of_block e).trans h.c1,?_,?_⟩
 ·have:=h.f0;unfold World.frozen? at this ⊢;simp only[e] at this ⊢;exact this
 ·have:=h.f1;unfold World.frozen? at this ⊢;simp only[e] at this ⊢;exact this
theorem Nk.put{W:World}{b mb:Nat}{ob:Obj}(h:Nk W b)(hmU:¬gU.bl mb):Nk { W with heap:=W.heap.setIfInBounds mb ob } b:=
 ⟨gU.stable W _ (fun j hj _=>HO (fun e=>hmU (e ▸ hj))) h.ok,fun j hj=>⟨by simpa using (h.bl j hj).1,(h.bl j hj).2⟩⟩
theorem Ew.put{W:World}{b mb:Nat}{ob:Obj}:Ew W { W with heap:=W.heap.setIfInBounds mb ob } b mb:=
 ⟨rfl,rfl,rfl,by simp,fun k _ _ h=>HO (fun e=>h e.symm)⟩
theorem FZ.put{W:World}{mb n:Nat}{ms ms':List (Am × JV)}(h:FZ W mb ms)(hn:ms'.length=n):FZ { W with heap:=W.heap.setIfInBounds mb (.map (Kz 0 ms').toArray n) } mb ms':=by have Cx:mb<W.heap.size:=(Array.getElem?_eq_some_iff.1 h).1;subst hn;exact Array.getElem?_setIfInBounds_self_of_lt Cx
def RoP(w':World)(mb:Nat)(l r':Am)(e:Ending):Prop:=
 match An [123] l with
 |some l'=>(match Q2 (B3 8) true l' with
  |.ok (ms,q)=>r'=q/\e=.returned (.int .i64 0)/\FZ w' mb ms
  |.error er=>er≠0/\e=.returned (.int .i64 er))
 |none=>e=.returned (.int .i64 2)
set_option maxHeartbeats 4000000 in
theorem Anq{t:ByteArray}{l:Am}(hS:Dp t l)(ht:t.size<=1000000){w:World}{b o mb:Nat}(hU:Nk w b)(h:Zd w b o t l)(hM:FZ w mb [])(QZ:mb≠b)(hmU:¬gU.bl mb):
  Calls prog 44 #[.pointer (some ⟨b,o,none⟩),.int .i64 1,.map (some mb)] w fun e w'=>Ew w w' b mb/\∃r',Dp t r'/\Zd w' b o t r' /\
   RoP w' mb l r' e:=by
 have mixed:prog.follows Departure.mixedOrders=true:=by kernel_rfl
 have hac:=Iz hS ht (w0:=[123]) (fun x hx=>by simp at hx;omega) (by decide) h
 go_enter Tryz.func44,Tryz.ntmps44
 go_wp2_with (go_at_call 66;refine hac.mono ?_)
 rintro e W1 ⟨rfl,h1,k1⟩
 cases hq:An [123] l with
 |none=>
  rw[hq] at h1
  go_wp2
  go_ret
  exact⟨Ew.of k1,l,hS,h1,by unfold RoP;rw[hq];rfl⟩
 |some l'=>
  rw[hq] at h1;have hS1:=Ay hS hq;have hsk:=Jv hS1 ht (hU.keep k1) h1
  go_wp2_with (go_at_call 43;refine hsk.mono ?_)
  rintro e W2 ⟨rfl,h2,k2⟩
  have Yr:=Bw hS1;have A2w:=Iz Yr ht (w0:=[125]) (fun x hx=>by simp at hx;omega) (by decide) h2
  go_wp2_with (go_at_call 66;refine A2w.mono ?_)
  rintro e W3 ⟨rfl,h3,k3⟩
  cases K7:An [125] (Ao l') with
  |some r3=>
   rw[K7] at h3
   go_wp2
   go_ret
   refine⟨((Ew.of k1).trans (Ew.of k2)).trans (Ew.of k3),r3,Ay Yr K7,h3,?_⟩;unfold RoP;rw[hq];simp only;rw[Hz,K7];exact⟨rfl,rfl,((hM.keep k1 QZ).keep k2 QZ).keep k3 QZ⟩
  |none=>
   rw[K7] at h3
   have hRo:∀w' r' e,(match Jz (B3 8) true ((Ao l').length+1) [] (Ao l') with
     |.ok (ms,q)=>r'=q/\e=.returned (.int .i64 0)/\FZ w' mb ms
     |.error er=>er≠0/\e=.returned (.int .i64 er))->RoP w' mb l r' e:=by
    intro w' r' e h;unfold RoP;rw[hq];simp only;rw[Hz,K7];exact h
   have hU3:=((hU.keep k1).keep k2).keep k3;have hM3:=((hM.keep k1 QZ).keep k2 QZ).keep k3 QZ;have Mx:Ew w W3 b mb:=((Ew.of k1).trans (Ew.of k2)).trans (Ew.of k3)
   go_wp2
   go_loopw [] (fun wr=>∃(n:Nat) (ms:List (Am × JV)) (x:Am),Jz (B3 8) true ((Ao l').length+1) [] (Ao l')=Jz (B3 8) true n ms x/\x.length<n/\Dp t x/\Zd wr b o t x/\FZ wr mb ms/\(∀m∈ms,Ct m.1)/\Nk wr b/\Ew w wr b mb) (fun wr=>match wr.cell? ⟨b,o+1,none⟩ with|some (.int _ p)=>t.size-p.toNat|_=>0)
   case atStart=>
    exact⟨_,[],Ao l',rfl,Nat.lt_succ_self _,Yr,h3,hM3,(fun m hm=>by cases hm),hU3,Mx⟩
   case round=>
    obtain⟨n,ms,x,Hf,hn,hSx,hat,hMx,hBx,hUx,hkx⟩:=hrel;have hrd:Calls prog 67 #[.pointer (some ⟨b,o,none⟩)] wr fun e w'=>e=.returned (.tuple #[.string (Aa ((De x).1.getD [])),.bool (De x).1.isSome])/\Zd w' b o t (De x).2/\F4 wr w' b o 2:=UE hSx ht hat
    go_wp2_with (go_at_call 67;refine hrd.mono ?_)
    rintro e W4 ⟨rfl,h4,k4⟩
    obtain⟨m,rfl⟩:∃m,n=m+1:=⟨n-1,by omega⟩
    rw[G3 (B3 8) true m ms x] at Hf;have V3:Ew w W4 b mb:=hkx.trans (Ew.of k4);have FM:=Gl hSx;rcases hx:De x with⟨o4,q4⟩;rw[hx] at h4 Hf FM;cases o4 with
    |none=>
     go_wp2
     go_ret
     exact⟨V3,q4,FM,h4,hRo _ _ _ (by rw[Hf];exact⟨by decide,rfl⟩)⟩
    |some nm=>
     have EW:=PE hSx.B hx;have hM4:=hMx.keep k4 QZ;have hlk:=GM hM4 hBx EW true;simp only[QD,Ahy] at Hf;cases hl:Hq nm ms with
     |some v=>
      rw[hl] at hlk Hf;have hvm:UF nm ms=.agg #[.int .i64 v.1,.string (Aa v.2.1),.bool v.2.2]:=by unfold UF;rw[hl];rfl
      rw[hvm] at hlk
      go_wp2
      go_ret
      have Rj:=fun ob=>(Below.refl W4.heap.size W4).alloc (Cc _) ob;exact⟨V3.trans (Ew.below (Rj _)),q4,FM,h4.below (Rj _) h4.lt,hRo _ _ _ (by rw[Hf];exact⟨by decide,rfl⟩)⟩
     |none=>
      rw[hl] at hlk Hf;have hvm:UF nm ms=.agg #[.int .i64 0,.string ⟨#[]⟩,.bool false]:=by unfold UF;rw[hl];rfl
      rw[hvm] at hlk;have Rj:Below W4.heap.size W4 (W4.alloc (.cells #[.int .i64 0,.string ⟨#[]⟩,.bool false] 100)):=(Below.refl W4.heap.size W4).alloc (Cc _) _;have h5:=h4.below Rj h4.lt;have hM5:=hM4.below Rj;have hU5:=(hUx.keep k4).below Rj;have YH:=V3.trans (Ew.below (b:=b) (mb:=mb) Rj);have Ar5:=Jv FM ht hU5 h5
      go_wp2_with (go_at_call 43;refine Ar5.mono ?_)
      rintro e W6 ⟨rfl,h6,k6⟩
      have H5:=Bw FM;have Azn:=Iz H5 ht (w0:=[58]) (fun x hx=>by simp at hx;omega) (by decide) h6
      go_wp2_with (go_at_call 66;refine Azn.mono ?_)
      rintro e W7 ⟨rfl,h7,k7⟩
      have hk7:=(YH.trans (Ew.of k6)).trans (Ew.of k7);cases hq7:An [58] (Ao q4) with
      |none=>
       rw[hq7] at h7
       go_wp2
       go_ret
       exact⟨hk7,Ao q4,H5,h7,hRo _ _ _ (by rw[Hf];simp only[Option.isSome_none,Bool.false_eq_true,if_false,hq7];exact⟨by decide,rfl⟩)⟩
      |some r7=>
       rw[hq7] at h7;have hS7:=Ay H5 hq7;have hU7:=(hU5.keep k6).keep k7;have hM7:=(hM5.keep k6 QZ).keep k7 QZ;have A0x:=Jv hS7 ht hU7 h7
       go_wp2_with (go_at_call 43;refine A0x.mono ?_)
       rintro e W8 ⟨rfl,h8,k8⟩
       have hS8:=Bw hS7;have hvc:=Abz hS8 ht (hU7.keep k8) h8
       go_wp2_with (go_at_call 68;refine hvc.mono ?_)
       rintro e W9 ⟨r9,h9,k9,hv9⟩
       have hk9:=(hk7.trans (Ew.of k8)).trans (Ew.of k9)
       have Ab4:Jz (B3 8) true ((Ao l').length+1) [] (Ao l')=match B3 8 (Ao r7) with
         |.error e=>.error e
         |.ok (v,r2)=>match An [125] (Ao r2) with
          |some r3=>.ok (ms++[(nm,v)],r3)
          |none=>match An [44] (Ao r2) with
           |some r3=>Jz (B3 8) true m (ms++[(nm,v)]) (Ao r3)
           |none=>.error 2:=by
        rw[Hf];simp only[Option.isSome_none,Bool.false_eq_true,if_false,hq7]
        all_goals (rcases B3 8 (Ao r7) with e|⟨v,r2⟩;rfl;simp only;cases An [125] (Ao r2)<;>cases An [44] (Ao r2)<;>rfl)
       unfold Asj at hv9;cases hv:B3 8 (Ao r7) with
       |error er=>
        rw[hv] at hv9 Ab4;obtain⟨he,hs9,u,rfl⟩:=hv9;unfold Um;have hbe:(er != (0:Int))=true:=by simp[he]
        go_wp2
        go_ret
        have YX:=fun ob=>(Below.refl W9.heap.size W9).alloc (Cc _) ob;exact⟨hk9.trans (Ew.below (YX _)),r9,hs9,h9.below (YX _) h9.lt,hRo _ _ _ (by rw[Ab4];exact⟨he,rfl⟩)⟩
       |ok x9=>
        obtain⟨v9,q9⟩:=x9;rw[hv] at hv9 Ab4;obtain⟨rfl,hq9,rfl⟩:=hv9;unfold Um;have YX:Below W9.heap.size W9 (W9.alloc (.cells #[.int .i64 v9.1,.string (Aa v9.2.1),.bool v9.2.2] 100)):=(Below.refl W9.heap.size W9).alloc (Cc _) _;have h10:=h9.below YX h9.lt;have Axt:=((hM7.keep k8 QZ).keep k9 QZ).below YX;have A1y:=((hU7.keep k8).keep k9).below YX;have A2h:=hk9.trans (Ew.below (b:=b) (mb:=mb) YX);have hup:=XO Axt hBx EW hl v9;unfold Um at hup;have Er:=Akx Tryz.underlying54 mb;have hS9:=hS8.trans hq9;have h11:=h10.put (mb:=mb) (ob:=.map (Kz 0 (ms++[(nm,v9)])).toArray (ms.length+1)) QZ;have Avv:=A1y.put (ob:=.map (Kz 0 (ms++[(nm,v9)])).toArray (ms.length+1)) hmU;have hln:(ms++[(nm,v9)]).length=ms.length+1:=by simp
        rw[hln] at hup;have Awz:=Axt.put (ms':=ms++[(nm,v9)]) hln;have A3m:=A2h.trans (Ew.put (b:=b) (ob:=.map (Kz 0 (ms++[(nm,v9)])).toArray (ms.length+1)));have Avh:=Jv hS9 ht Avv h11
        go_wp2_with (go_at_call 43;refine Avh.mono ?_)
        rintro e W12 ⟨rfl,h12,k12⟩
        have Afc:=Bw hS9;have Awe:=Iz Afc ht (w0:=[125]) (fun x hx=>by simp at hx;omega) (by decide) h12
        go_wp2_with (go_at_call 66;refine Awe.mono ?_)
        rintro e W13 ⟨rfl,h13,k13⟩
        have Avd:=(A3m.trans (Ew.of k12)).trans (Ew.of k13);cases Acx:An [125] (Ao r9) with
        |some r13=>
         rw[Acx] at h13
         go_wp2
         go_ret
         exact⟨Avd,r13,Ay Afc Acx,h13,hRo _ _ _ (by rw[Ab4];simp only;rw[Acx];exact⟨rfl,rfl,(Awz.keep k12 QZ).keep k13 QZ⟩)⟩
        |none=>
         rw[Acx] at h13;have Av2:=Iz Afc ht (w0:=[44]) (fun x hx=>by simp at hx;omega) (by decide) h13
         go_wp2_with (go_at_call 66;refine Av2.mono ?_)
         rintro e W14 ⟨rfl,h14,k14⟩
         have Auq:=Avd.trans (Ew.of k14);cases Ady:An [44] (Ao r9) with
         |none=>
          rw[Ady] at h14
          go_wp2
          go_ret
          exact⟨Auq,Ao r9,Afc,h14,hRo _ _ _ (by rw[Ab4];simp only;rw[Acx];simp only;rw[Ady];exact⟨by decide,rfl⟩)⟩
         |some r14=>
          rw[Ady] at h14;have Awk:=Ay Afc Ady;have Aud:=((Avv.keep k12).keep k13).keep k14;have Ayz:=((Awz.keep k12 QZ).keep k13 QZ).keep k14 QZ;have Axd:=Jv Awk ht Aud h14
          go_wp2_with (go_at_call 43;refine Axd.mono ?_)
          rintro e W15 ⟨rfl,h15,k15⟩
          have Azr:=Bw Awk
          have hlr:(Ao r14).length+1<=x.length:=by
           have ON:=Gl (Dp.self hSx.B);rw[hx] at ON;have g1:=(Bw (Ay (Bw ON) hq7))
           have g2:=((Bw (g1.trans hq9))).le;have g3:=Gc r14;have g4:=Y0 Ady;omega
          have MW:=hSx.len
          go_wp2
          refine⟨⟨m,ms++[(nm,v9)],Ao r14,by rw[Ab4];simp only[Acx,Ady],by omega,Azr,h15,Ayz.keep k15 QZ,fun y hy=>?_,Aud.keep k15,Auq.trans (Ew.of k15)⟩,?_⟩
          ·rcases Bu.1 hy with hy|hy
           ·exact hBx y hy
           ·simp at hy;subst hy;exact EW
          ·have QE:A9 t x<A9 t (Ao r14):=by unfold A9;omega
           have hp4:A9 t (Ao r14)<=t.size:=Nat.sub_le _ _;simp only[h15.c1,hat.c1,Kc];omega
end
def A8(c:Int):Am->List Am
 |[]=>[[]]
 |x::r=>if x=c then []::A8 c r else match A8 c r with
  |h::t=>(x::h)::t
  |[]=>[[x]]
theorem Oc(c:Int)(l:Am):A8 c l≠[]:=by
 cases l with
 |nil=>simp[A8]
 |cons x r=>
  unfold A8;split
  ·simp
  ·cases A8 c r<;>simp
def Br(c:Int)(l:Am):Am:=l.takeWhile (fun x=>x != c)
theorem EB(c:Int):∀(l:Am),A8 c l=if (Br c l).length<l.length then Br c l::A8 c (l.drop ((Br c l).length+1)) else [l]
 |[]=>rfl
 |x::r=>by
  by_cases h:x=c
  ·subst h;have e:Br x (x::r)=[]:=by unfold Br;rw[List.takeWhile_cons_of_neg (by simp)]
   have e2:A8 x (x::r)=[]::A8 x r:=by
    show (if x=x then []::A8 x r else _)=_;rw[Bq rfl]
   rw[e,Bq (by simp),e2];rfl
  ·have e:Br c (x::r)=x::Br c r:=by unfold Br;rw[List.takeWhile_cons_of_pos (by simp[h])]
   have e2:A8 c (x::r)=match A8 c r with|a::t=>(x::a)::t|[]=>[[x]]:=by
    show (if x=c then []::A8 c r else _)=_;rw[Bg h]
   rw[e,e2,EB c r];by_cases g:(Br c r).length<r.length
   ·rw[Bq g,Bq (by simp;omega)]
    rfl
   ·rw[Bg g,Bg (by simp;omega)]
def Oi(x:Int):Bool:=decide (48<=x)&&decide (x<=57)
def XQ(x:Int):Bool:=(decide (97<=x)&&decide (x<=122))||Oi x
def Jt(l:Am):Bool:=decide (1<=l.length)&&decide (l.length<=63) && !(l.head?==some 45) && !(l.getLast?==some 45)&&l.all (fun x=>XQ x||x==45)
def Qe(l:Am):Int:=
 if 100<l.length then 8 else if (A8 46 l).all Jt=false then 2 else if ((A8 46 l).getLastD []).all Oi=true then 2 else 0
def X3(l:Am):Int:=l.foldl (fun n x=>10*n+(x-48)) 0
def I4(l:Am):Bool:=decide (1<=l.length)&&decide (l.length<=5) && !(l.head?==some 48)&&l.all Oi
def dfl(s:Bool):Int:=if s=true then 443 else 80
def Us(s:Bool)(r:Am):Int:=
 let nm:=Br 58 r
 if Qe nm≠0 then Qe nm else if nm.length=r.length then 0 else
  if I4 (r.drop (nm.length+1))=true/\X3 (r.drop (nm.length+1))<=65535/\X3 (r.drop (nm.length+1))≠dfl s then 0 else 2
def Fc(l:Am):Int:=
 if [104,116,116,112,115,58,47,47].isPrefixOf l=true then Us true (l.drop 8)
 else if [104,116,116,112,58,47,47].isPrefixOf l=true then Us false (l.drop 7) else 2
section
variable {xs:FuncId->Option (Al->Option Bz)}(fu d:Nat)(call:A7)
theorem Sj{p:Option (Al->Option Bz)}(fu d:Nat)(Z Y:ByteArray):Ae (CP p) prog fu (d+1) 59 [.sc (.string Z),.sc (.string Y)]=(fun (call:A7)=>Fv (call 77 [.sc (.string Z),.sc (.string Y)]) fun a b=>Cb a fun a=>Af b<|As (!a) (Cg [.sc (.string Z),.sc (.bool false)]) (A6 (decide (Int.toNat (↑(ByteArray.size Y):Int)<=ByteArray.size Z)&&decide (ByteArray.size Z<=ByteArray.size Z))<|Ab (ByteArray.extract Z (Int.toNat (↑(ByteArray.size Y):Int)) (ByteArray.size Z)) fun a=>Cg [.sc (.string a),.sc (.bool true)])) (Ae (CP p) prog fu d):=by kernel_rfl
theorem Wr{p:Option (Al->Option Bz)}(fu d:Nat)(Z Y:ByteArray):Ae (CP p) prog fu (d+1) 35 [.sc (.string Z),.sc (.string Y)]=(fun (call:A7)=>Fv (call 59 [.sc (.string Z),.sc (.string Y)]) fun a b=>Ai a fun a=>F8 b fun b=>Cg [.sc (.string a),.sc (.bool b)]) (Ae (CP p) prog fu d):=by kernel_rfl
theorem AB{p:Option (Al->Option Bz)}(fu d:Nat)(Z Y:ByteArray):Ae (CP p) prog fu (d+1) 60 [.sc (.string Z),.sc (.string Y)]=(fun (call:A7)=>Z1 .i64 (call 78 [.sc (.string Z),.sc (.string Y)]) fun a=>As (decide (a>=0)) (A6 (decide (0<=a))<|A6 (decide (a.toNat<=ByteArray.size Z))<|Ab (ByteArray.extract Z 0 a.toNat) fun b=>Ab (wrap .i64 (a+(↑(ByteArray.size Y):Int))) fun a=>A6 (decide (0<=a))<|A6 (decide (a.toNat<=ByteArray.size Z)&&decide (ByteArray.size Z<=ByteArray.size Z))<|Ab (ByteArray.extract Z a.toNat (ByteArray.size Z)) fun a=>Cg [.sc (.string b),.sc (.string a),.sc (.bool true)]) (Cg [.sc (.string Z),.sc (.string (ByteArray.mk #[])),.sc (.bool false)])) (Ae (CP p) prog fu d):=by kernel_rfl
theorem LB{p:Option (Al->Option Bz)}(fu d:Nat)(Z Y:ByteArray):Ae (CP p) prog fu (d+1) 36 [.sc (.string Z),.sc (.string Y)]=(fun (call:A7)=>Fv (call 60 [.sc (.string Z),.sc (.string Y)]) fun a b=>Ai a fun a=>Ac b fun b c=>Ai b fun b=>F8 c fun c=>Cg [.sc (.string a),.sc (.string b),.sc (.bool c)]) (Ae (CP p) prog fu d):=by kernel_rfl
theorem ET{p:Option (Al->Option Bz)}(fu d:Nat)(Z Y:ByteArray):Ae (CP p) prog fu (d+1) 103 [.sc (.string Z),.sc (.string Y)]=(fun (call:A7)=>Z1 .i64 (call 78 [.sc (.string Z),.sc (.string Y)]) fun a=>Cg [a]) (Ae (CP p) prog fu d):=by kernel_rfl
theorem Wz{p:Option (Al->Option Bz)}(fu d:Nat)(Y Z:ByteArray):Ae (CP p) prog fu (d+1) 78 [.sc (.string Y),.sc (.string Z)]=(fun (call:A7)=>As ((↑(ByteArray.size Z):Int)==0) (Cg [(0:Int)]) (As (Array.toList (ByteArray.data Z)==Array.toList (ByteArray.data Y)) (Cg [(0:Int)]) (As ((↑(ByteArray.size Z):Int)==1) (Dk ((Array.toList (ByteArray.data Z))[0]?) fun a=>Z1 .i64 (call 88 [.sc (.string Y),.sc (.int .u8 (↑(UInt8.toNat a):Int))]) fun a=>Cg [a]) (As (decide ((↑(ByteArray.size Z):Int)>=(↑(ByteArray.size Y):Int))) (Cg [(-1:Int)]) none)))) (Ae (CP p) prog fu d):=by kernel_rfl
def Fu(Z Y:ByteArray)(X W:Int)(V:Nat)(U T:ByteArray)(S Q:Int)(P:Nat)(O:Int)(N:Al):Option Bz:=Ri fu call 79 Tryz.f79 [.sc (.string Z),.sc (.string Y),X,W] [.r,.r,.r,.r,.r,.r,.r,.r,.l,.l] V ⟨lk [(0,.sc (.string U)),(1,.sc (.string T)),(2,S),(3,Q),(9,.view 9 1 0 P),(10,O)],H4 [(9,.ar false N)]⟩
theorem Tw(S Q:ByteArray)(P O:Int)(N:Nat)(Y V:ByteArray)(U T:Int)(X:Nat)(Z:Int)(W:Al):Fu fu call S Q P O (N+1) Y V U T X Z W=(As (decide (Z<T)) (Z1 .i64 (call 103 [.sc (.string Y),.sc (.string V)]) fun a=>As (decide (a<0)) (A6 (decide (0<=Z)&&decide (Z<(↑X:Int)))<|A6 (decide (0+Z.toNat*1+1<=W.length))<|Ab (Cw W [.sc (.string Y)] (0+Z.toNat*1)) fun a=>Ab (wrap .i64 (Z+1)) fun b=>A6 (decide (0<=b))<|A6 (decide (b.toNat<=X))<|Ab (b.toNat-0) fun b=>A6 (decide (b*1<=a.length))<|Cg [.own 1 b (a.take (b*1))]) (Ab (wrap .i64 (a+U)) fun b=>A6 (decide (0<=b))<|A6 (decide (b.toNat<=ByteArray.size Y))<|Ab (ByteArray.extract Y 0 b.toNat) fun b=>A6 (decide (0<=Z)&&decide (Z<(↑X:Int)))<|A6 (decide (0+Z.toNat*1+1<=W.length))<|Ab (Cw W [.sc (.string b)] (0+Z.toNat*1)) fun b=>Ab (wrap .i64 (a+(↑(ByteArray.size V):Int))) fun a=>A6 (decide (0<=a))<|A6 (decide (a.toNat<=ByteArray.size Y)&&decide (ByteArray.size Y<=ByteArray.size Y))<|Ab (ByteArray.extract Y a.toNat (ByteArray.size Y)) fun a=>Ab (wrap .i64 (Z+1)) fun c=>Fu fu call S Q P O N a V U T X c b)) (A6 (decide (0<=Z)&&decide (Z<(↑X:Int)))<|A6 (decide (0+Z.toNat*1+1<=W.length))<|Ab (Cw W [.sc (.string Y)] (0+Z.toNat*1)) fun a=>Ab (wrap .i64 (Z+1)) fun b=>A6 (decide (0<=b))<|A6 (decide (b.toNat<=X))<|Ab (b.toNat-0) fun b=>A6 (decide (b*1<=a.length))<|Cg [.own 1 b (a.take (b*1))])):=by kernel_rfl
theorem X6{p:Option (Al->Option Bz)}(fu d:Nat)(Z X:ByteArray)(W Y:Int):Ae (CP p) prog fu (d+1) 79 [.sc (.string Z),.sc (.string X),W,Y]=(fun (call:A7)=>As (Y==0) (Cg [.own 1 0 []]) (As (Array.toList (ByteArray.data X)==Array.toList (ByteArray.data (ByteArray.mk #[]))) (Fv (call 101 [.sc (.string Z),Y]) fun a b=>FJ 1 a fun a c=>Af b<|A6 (decide (a*1<=c.length))<|Cg [.own 1 a (c.take (a*1))]) (As (decide (Y<0)) (Z1 .i64 (call 102 [.sc (.string Z),.sc (.string X)]) fun a=>Ab (wrap .i64 (a+1)) fun a=>Ab (wrap .i64 ((↑(ByteArray.size Z):Int)+1)) fun b=>Ab (if b<a then b else a) fun a=>A6 (decide (0<=a)&&decide (a<=a)&&decide (a*16<=1099511627776)&&decide (a<=1099511627776))<|Ab (wrap .i64 (a-1)) fun b=>Fu fu call Z X W Y fu Z X W b a.toNat 0 (Sw a.toNat [.sc (.string (ByteArray.mk #[]))])) (Ab (wrap .i64 ((↑(ByteArray.size Z):Int)+1)) fun a=>Ab (if a<Y then a else Y) fun a=>A6 (decide (0<=a)&&decide (a<=a)&&decide (a*16<=1099511627776)&&decide (a<=1099511627776))<|Ab (wrap .i64 (a-1)) fun b=>Fu fu call Z X W Y fu Z X W b a.toNat 0 (Sw a.toNat [.sc (.string (ByteArray.mk #[]))]))))) (Ae (CP p) prog fu d):=by kernel_rfl
theorem EU{p:Option (Al->Option Bz)}(fu d:Nat)(Z Y:ByteArray):Ae (CP p) prog fu (d+1) 61 [.sc (.string Z),.sc (.string Y)]=(fun (call:A7)=>Fv (call 79 [.sc (.string Z),.sc (.string Y),(0:Int),(-1:Int)]) fun a b=>FJ 1 a fun a c=>Af b<|A6 (decide (a*1<=c.length))<|Cg [.own 1 a (c.take (a*1))]) (Ae (CP p) prog fu d):=by kernel_rfl
def Bl(Z:ByteArray)(Y:Nat)(X:ByteArray)(W V:Int):Option Bz:=Ri fu call 62 Tryz.f62 [.sc (.string Z)] [.r,.r,.l,.r,.l] Y ⟨lk [(0,.sc (.string X)),(16,W),(17,V)],H4 []⟩
theorem Mo(W:ByteArray)(V:Nat)(Y:ByteArray)(X Z:Int):Bl fu call W (V+1) Y X Z=(As (decide (Z<X)) (A6 (decide (0<=Z))<|Dk ((Array.toList (ByteArray.data Y))[Z.toNat]?) fun a=>As (decide (97<=(↑(UInt8.toNat a):Int))) (As (decide ((↑(UInt8.toNat a):Int)<=122)) (As ((↑(UInt8.toNat a):Int)==45) (As (decide (Z>0)) (Ab (wrap .i64 ((↑(ByteArray.size Y):Int)-1)) fun a=>Ab (wrap .i64 (Z+1)) fun a=>Bl fu call W V Y X a) (Ab (wrap .i64 (Z+1)) fun a=>Bl fu call W V Y X a)) (Ab (wrap .i64 (Z+1)) fun a=>Bl fu call W V Y X a)) (As (decide (48<=(↑(UInt8.toNat a):Int))) (As ((↑(UInt8.toNat a):Int)==45) (As (decide (Z>0)) (Ab (wrap .i64 ((↑(ByteArray.size Y):Int)-1)) fun b=>As (!decide ((↑(UInt8.toNat a):Int)<=57)) (As (!decide (Z<b)) (Cg [.sc (.bool false)]) (Ab (wrap .i64 (Z+1)) fun a=>Bl fu call W V Y X a)) (Ab (wrap .i64 (Z+1)) fun a=>Bl fu call W V Y X a)) (As (!decide ((↑(UInt8.toNat a):Int)<=57)) (Cg [.sc (.bool false)]) (Ab (wrap .i64 (Z+1)) fun a=>Bl fu call W V Y X a))) (As (!decide ((↑(UInt8.toNat a):Int)<=57)) (Cg [.sc (.bool false)]) (Ab (wrap .i64 (Z+1)) fun a=>Bl fu call W V Y X a))) (As ((↑(UInt8.toNat a):Int)==45) (As (decide (Z>0)) (Ab (wrap .i64 ((↑(ByteArray.size Y):Int)-1)) fun a=>As (!decide (Z<a)) (Cg [.sc (.bool false)]) (Ab (wrap .i64 (Z+1)) fun a=>Bl fu call W V Y X a)) (Cg [.sc (.bool false)])) (Cg [.sc (.bool false)])))) (As (decide (48<=(↑(UInt8.toNat a):Int))) (As ((↑(UInt8.toNat a):Int)==45) (As (decide (Z>0)) (Ab (wrap .i64 ((↑(ByteArray.size Y):Int)-1)) fun b=>As (!decide ((↑(UInt8.toNat a):Int)<=57)) (As (!decide (Z<b)) (Cg [.sc (.bool false)]) (Ab (wrap .i64 (Z+1)) fun a=>Bl fu call W V Y X a)) (Ab (wrap .i64 (Z+1)) fun a=>Bl fu call W V Y X a)) (As (!decide ((↑(UInt8.toNat a):Int)<=57)) (Cg [.sc (.bool false)]) (Ab (wrap .i64 (Z+1)) fun a=>Bl fu call W V Y X a))) (As (!decide ((↑(UInt8.toNat a):Int)<=57)) (Cg [.sc (.bool false)]) (Ab (wrap .i64 (Z+1)) fun a=>Bl fu call W V Y X a))) (As ((↑(UInt8.toNat a):Int)==45) (As (decide (Z>0)) (Ab (wrap .i64 ((↑(ByteArray.size Y):Int)-1)) fun a=>As (!decide (Z<a)) (Cg [.sc (.bool false)]) (Ab (wrap .i64 (Z+1)) fun a=>Bl fu call W V Y X a)) (Cg [.sc (.bool false)])) (Cg [.sc (.bool false)])))) (Cg [.sc (.bool true)])):=by kernel_rfl
theorem Zi{p:Option (Al->Option Bz)}(fu d:Nat)(Z:ByteArray):Ae (CP p) prog fu (d+1) 62 [.sc (.string Z)]=(fun (call:A7)=>As (decide ((↑(ByteArray.size Z):Int)<1)) (Cg [.sc (.bool false)]) (As (decide ((↑(ByteArray.size Z):Int)>63)) (Cg [.sc (.bool false)]) (Bl fu call Z fu Z ((↑(ByteArray.size Z):Int)) 0))) (Ae (CP p) prog fu d):=by kernel_rfl
def I3(Z:ByteArray)(Y X W:Nat)(V U:Int)(T:Al):Option Bz:=Ri fu call 37 Tryz.f37 [.sc (.string Z)] [.r,.r,.r,.l,.r,.l] Y ⟨lk [(3,.view 3 1 0 X),(11,.view 3 1 0 W),(12,V),(13,U)],H4 [(3,.ar false T)]⟩
theorem Pm(U:ByteArray)(T Y W:Nat)(V Z:Int)(X:Al):I3 fu call U (T+1) Y W V Z X=(As (decide (Z<V)) (A6 (decide (0<=Z)&&decide (Z<(↑W:Int)))<|Ai (X.getD (0+Z.toNat*1) .top) fun a=>Fv (call 62 [.sc (.string a)]) fun a b=>Cb a fun a=>Af b<|As (!a) (Cg [(2:Int)]) (Ab (wrap .i64 (Z+1)) fun a=>I3 fu call U T Y W V a X)) (Ab (wrap .i64 ((↑Y:Int)-1)) fun a=>A6 (decide (0<=a)&&decide (a<(↑Y:Int)))<|Ai (X.getD (0+a.toNat*1) .top) fun a=>Fv (call 63 [.sc (.string a),.sc (.string (ByteArray.mk #[48,49,50,51,52,53,54,55,56,57]))]) fun a b=>Ai a fun a=>Af b<|As (Array.toList (ByteArray.data a)==Array.toList (ByteArray.data (ByteArray.mk #[]))) (Cg [(2:Int)]) (Cg [(0:Int)]))):=by kernel_rfl
theorem EK{p:Option (Al->Option Bz)}(fu d:Nat)(Z:ByteArray):Ae (CP p) prog fu (d+1) 37 [.sc (.string Z)]=(fun (call:A7)=>As (decide ((↑(ByteArray.size Z):Int)>100)) (Cg [(8:Int)]) (Fv (call 61 [.sc (.string Z),.sc (.string (ByteArray.mk #[46]))]) fun a b=>FJ 1 a fun a c=>Af b<|I3 fu call Z fu a a (↑a:Int) 0 c)) (Ae (CP p) prog fu d):=by kernel_rfl
theorem Uv{p:Option (Al->Option Bz)}(fu d:Nat)(Z:Bool):Ae (CP p) prog fu (d+1) 38 [.sc (.bool Z)]=(fun (call:A7)=>As Z (Cg [(443:Int)]) (Cg [(80:Int)])) (Ae (CP p) prog fu d):=by kernel_rfl
def G0(Z:ByteArray)(Y:Nat)(X:ByteArray)(W V U:Int):Option Bz:=Ri fu call 39 Tryz.f39 [.sc (.string Z)] [.r,.r,.r,.l,.r,.l] Y ⟨lk [(0,.sc (.string X)),(4,W),(21,V),(22,U)],H4 []⟩
theorem Lc(V:ByteArray)(U:Nat)(X:ByteArray)(Y W Z:Int):G0 fu call V (U+1) X Y W Z=(As (decide (Z<W)) (A6 (decide (0<=Z))<|Dk ((Array.toList (ByteArray.data X))[Z.toNat]?) fun a=>As (decide ((↑(UInt8.toNat a):Int)<48)) (Cg [(0:Int),.sc (.bool false)]) (As (decide ((↑(UInt8.toNat a):Int)>57)) (Cg [(0:Int),.sc (.bool false)]) (Ab (wrap .i64 (10*Y)) fun b=>Ab (wrap .u8 ((↑(UInt8.toNat a):Int)-48)) fun a=>Ab (wrap .i64 a) fun a=>Ab (wrap .i64 (b+a)) fun a=>Ab (wrap .i64 (Z+1)) fun b=>G0 fu call V U X a W b))) (Cg [Y,.sc (.bool (decide (Y<=65535)))])):=by kernel_rfl
theorem Yb{p:Option (Al->Option Bz)}(fu d:Nat)(Z:ByteArray):Ae (CP p) prog fu (d+1) 39 [.sc (.string Z)]=(fun (call:A7)=>As (decide ((↑(ByteArray.size Z):Int)<1)) (Cg [(0:Int),.sc (.bool false)]) (As (decide ((↑(ByteArray.size Z):Int)>5)) (Cg [(0:Int),.sc (.bool false)]) (Dk ((Array.toList (ByteArray.data Z))[0]?) fun a=>As ((↑(UInt8.toNat a):Int)==48) (Cg [(0:Int),.sc (.bool false)]) (G0 fu call Z fu Z 0 ((↑(ByteArray.size Z):Int)) 0)))) (Ae (CP p) prog fu d):=by kernel_rfl
theorem JW{p:Option (Al->Option Bz)}(fu d:Nat)(Z:ByteArray):Ae (CP p) prog fu (d+1) 23 [.sc (.string Z)]=(fun (call:A7)=>Fv (call 35 [.sc (.string Z),.sc (.string (ByteArray.mk #[104,116,116,112,115,58,47,47]))]) fun a b=>Ai a fun a=>F8 b fun b=>As (!b) (Fv (call 35 [.sc (.string Z),.sc (.string (ByteArray.mk #[104,116,116,112,58,47,47]))]) fun a c=>Ai a fun a=>F8 c fun c=>As (!c) (Cg [.agg [.sc (.bool false),.sc (.string (ByteArray.mk #[])),(0:Int)],(2:Int)]) (Fv (call 36 [.sc (.string a),.sc (.string (ByteArray.mk #[58]))]) fun a c=>Ai a fun a=>Ac c fun c e=>Ai c fun c=>F8 e fun e=>Z1 .i64 (call 37 [.sc (.string a)]) fun f=>As (f != 0) (Cg [.agg [.sc (.bool false),.sc (.string (ByteArray.mk #[])),(0:Int)],f]) (Z1 .i64 (call 38 [.sc (.bool b)]) fun f=>As e (Fv (call 39 [.sc (.string c)]) fun c e=>Eh .i64 c fun c=>F8 e fun e=>As (!e) (Cg [.agg [.sc (.bool false),.sc (.string (ByteArray.mk #[])),(0:Int)],(2:Int)]) (As (c==f) (Cg [.agg [.sc (.bool false),.sc (.string (ByteArray.mk #[])),(0:Int)],(2:Int)]) (Cg [.agg [.sc (.bool b),.sc (.string a),c],(0:Int)]))) (Cg [.agg [.sc (.bool b),.sc (.string a),f],(0:Int)])))) (Fv (call 36 [.sc (.string a),.sc (.string (ByteArray.mk #[58]))]) fun a c=>Ai a fun a=>Ac c fun c e=>Ai c fun c=>F8 e fun e=>Z1 .i64 (call 37 [.sc (.string a)]) fun f=>As (f != 0) (Cg [.agg [.sc (.bool false),.sc (.string (ByteArray.mk #[])),(0:Int)],f]) (Z1 .i64 (call 38 [.sc (.bool b)]) fun f=>As e (Fv (call 39 [.sc (.string c)]) fun c e=>Eh .i64 c fun c=>F8 e fun e=>As (!e) (Cg [.agg [.sc (.bool false),.sc (.string (ByteArray.mk #[])),(0:Int)],(2:Int)]) (As (c==f) (Cg [.agg [.sc (.bool false),.sc (.string (ByteArray.mk #[])),(0:Int)],(2:Int)]) (Cg [.agg [.sc (.bool b),.sc (.string a),c],(0:Int)]))) (Cg [.agg [.sc (.bool b),.sc (.string a),f],(0:Int)])))) (Ae (CP p) prog fu d):=by kernel_rfl
def C8(Z:ByteArray)(Y:Nat)(X:ByteArray)(W:Nat)(V:Al):Option Bz:=Ri fu call 45 Tryz.f45 [.sc (.string Z)] [.r,.r,.r,.l,.l] Y ⟨lk [(0,.sc (.string X)),(4,.view 4 1 0 W)],H4 [(4,.ar false V)]⟩
def C6(Z:ByteArray)(Y X:Nat)(W:ByteArray)(V:Nat)(U T:Int)(S Q:Int)(P:Al):Option Bz:=Ri fu call 45 Tryz.f45 [.sc (.string Z)] [.r,.r,.r,.l,.l,.i Y,.r,.l,.r,.r,.l,.r,.l] X ⟨lk [(0,.sc (.string W)),(4,.view 4 1 0 V),(5,U),(6,.sc (.int .u32 T)),(28,S),(29,Q)],H4 [(4,.ar false P)]⟩
def C9(Z:ByteArray)(Y X:Nat)(W:ByteArray)(V:Nat)(U:Int)(T S:Nat)(Q P:Int)(O N:Al):Option Bz:=Ri fu call 45 Tryz.f45 [.sc (.string Z)] [.r,.r,.r,.l,.l,.i Y,.r,.l,.r,.r,.r,.r,.l,.r,.l] X ⟨lk [(0,.sc (.string W)),(4,.view 4 1 0 V),(5,U),(9,.ptr 9 0),(58,.view 9 1 T S),(59,Q),(60,P)],H4 [(4,.ar false O),(9,.ar false N)]⟩
theorem Ix(W:ByteArray)(V:Nat)(Z:ByteArray)(Y:Nat)(X:Al):C8 fu call W (V+1) Z Y X=(As (decide ((↑(ByteArray.size Z):Int)>0)) (Ab (if (↑(ByteArray.size Z):Int)<4 then (↑(ByteArray.size Z):Int) else 4) fun a=>C6 fu call W V fu Z Y a 0 a 0 X) (A6 (decide (Y*1<=X.length))<|Cg [.own 1 Y (X.take (Y*1)),(0:Int)])):=by kernel_rfl
theorem Im(V:ByteArray)(U P:Nat)(X:ByteArray)(T:Nat)(W Y:Int)(S Z:Int)(Q:Al):C6 fu call V U (P+1) X T W Y S Z Q=(As (decide (Z<S)) (A6 (decide (0<=Z))<|Dk ((Array.toList (ByteArray.data X))[Z.toNat]?) fun a=>Z1 .i64 (call 65 [.sc (.string (ByteArray.mk #[65,66,67,68,69,70,71,72,73,74,75,76,77,78,79,80,81,82,83,84,85,86,87,88,89,90,97,98,99,100,101,102,103,104,105,106,107,108,109,110,111,112,113,114,115,116,117,118,119,120,121,122,48,49,50,51,52,53,54,55,56,57,45,95])),.sc (.int .u8 (↑(UInt8.toNat a):Int))]) fun a=>As (decide (a<0)) (Cg [.own 1 0 [],(2:Int)]) (Ab (wrap .u32 a) fun a=>Ab (wrap .i64 (6*Z)) fun b=>Ab (wrap .i64 (18-b)) fun b=>A6 (decide (0<=b))<|Ab (H6 .u32 a b) fun a=>Ab (EO .u32 Y a) fun a=>Ab (wrap .i64 (Z+1)) fun b=>C6 fu call V U P X T W a S b Q)) (Ab (S0 .u32 Y 16) fun a=>Ab (wrap .u8 a) fun a=>Ab (S0 .u32 Y 8) fun b=>Ab (wrap .u8 b) fun b=>Ab (wrap .u8 Y) fun c=>Ab (wrap .i64 (W-1)) fun e=>A6 (decide (0<=e))<|A6 (decide (e.toNat<=3)&&true)<|Ab (0+e.toNat*1) fun f=>Ab (3-e.toNat) fun e=>C9 fu call V U fu X T W f e (↑e:Int) 0 Q ([.sc (.int .u8 a),.sc (.int .u8 b),.sc (.int .u8 c)]))):=by kernel_rfl
theorem Il(T:ByteArray)(S N:Nat)(Z:ByteArray)(Y:Nat)(W:Int)(Q P:Nat)(O V:Int)(U X:Al):C9 fu call T S (N+1) Z Y W Q P O V U X=(As (decide (V<O)) (A6 (decide (0<=V)&&decide (V<(↑P:Int)))<|Eh .u8 (X.getD (Q+V.toNat*1) .top) fun a=>As (a != 0) (Cg [.own 1 0 [],(2:Int)]) (Ab (wrap .i64 (V+1)) fun a=>C9 fu call T S N Z Y W Q P O a U X)) (Ab (wrap .i64 (W-1)) fun a=>A6 (decide (3<=X.length)&&true)<|A6 (decide (0<=a))<|A6 (decide (a.toNat<=3))<|Ab (a.toNat-0) fun a=>A6 (decide (0+a*1<=X.length))<|A6 (decide (Y*1<=U.length)&&decide (List.length (List.take (a*1) (X.drop 0))=a*1)&&decide ((Y+a)*1<=1099511627776)&&decide (Y+a<=1099511627776))<|Ab (Y+a) fun b=>Ab (List.take (Y*1) U++List.take (a*1) (X.drop 0)) fun a=>A6 (decide (0<=W))<|A6 (decide (W.toNat<=ByteArray.size Z)&&decide (ByteArray.size Z<=ByteArray.size Z))<|Ab (ByteArray.extract Z W.toNat (ByteArray.size Z)) fun c=>C8 fu call T S c b a)):=by kernel_rfl
theorem R0{p:Option (Al->Option Bz)}(fu d:Nat)(Z:ByteArray):Ae (CP p) prog fu (d+1) 45 [.sc (.string Z)]=(fun (call:A7)=>Ab (Int.tmod (↑(ByteArray.size Z):Int) 4) fun a=>As (a==1) (Cg [.own 1 0 [],(2:Int)]) (Ab (wrap .i64 (Int.tdiv (↑(ByteArray.size Z):Int) 4)) fun a=>Ab (wrap .i64 (a*3)) fun a=>Ab (wrap .i64 (a+2)) fun a=>A6 (decide (0<=a)&&decide (a*1<=1099511627776)&&decide (a<=1099511627776))<|C8 fu call Z fu Z 0 ([]))) (Ae (CP p) prog fu d):=by kernel_rfl
end
theorem Aj0{a b:Int}(ha:0<=a/\a<=255)(hb:0<=b/\b<=255):(a.toNat.toUInt8==b.toNat.toUInt8)=decide (a=b):=by
 rw[Bool.eq_iff_iff,beq_iff_eq,decide_eq_true_iff];constructor
 ·intro h;have:=congrArg UInt8.toNat h;have e1:a.toNat.toUInt8.toNat=a.toNat % 256:=by rw[Nat.toUInt8,UInt8.toNat_ofNat']
  have e2:b.toNat.toUInt8.toNat=b.toNat % 256:=by rw[Nat.toUInt8,UInt8.toNat_ofNat']
  rw[e1,e2] at this;omega
 ·rintro rfl;rfl
theorem Je{c:Int}(hc:0<=c/\c<=255):((c.toNat.toUInt8.toNat:Nat):Int)=c:=by rw[Nat.toUInt8,UInt8.toNat_ofNat'];omega
theorem TV{c x:Int}(r:Am)(e:x≠c):Br c (x::r)=x::Br c r:=by unfold Br;rw[List.takeWhile_cons_of_pos (by simp[e])]
theorem PI{c:Int}(r:Am):Br c (c::r)=[]:=by unfold Br;rw[List.takeWhile_cons_of_neg (by simp)]
theorem Po(c:Int)(l:Am):Br c l=l.take (Br c l).length:=by have h:Br c l <+: l:=List.takeWhile_prefix _;exact List.prefix_iff_eq_take.1 h
theorem FU(c:Int)(l:Am):(Br c l).length<=l.length:=by have h:Br c l <+: l:=List.takeWhile_prefix _;exact h.length_le
theorem Abr(c:Int)(l:Am)(h:¬(Br c l).length<l.length):Br c l=l:=by have:=FU c l;rw[Po c l,FF (by omega)]
def CR(c:Int)(l:Am):Int:=if (Br c l).length<l.length then ((Br c l).length:Int) else -1
theorem Aas{c:Int}(hc:0<=c/\c<=255):∀{l:Am},Ct l->Lib.indexByte (l.map fun n=>n.toNat.toUInt8) c.toNat.toUInt8=CR c l
 |[],_=>rfl
 |x::r,h=>by
  obtain⟨hx,hr⟩:=Bi h;have ih:=Aas hc hr;show (if (x.toNat.toUInt8==c.toNat.toUInt8)=true then (0:Int) else if (Lib.indexByte (r.map fun n=>n.toNat.toUInt8) c.toNat.toUInt8 == -1)=true then -1 else Lib.indexByte (r.map fun n=>n.toNat.toUInt8) c.toNat.toUInt8+1)=_;rw[Aj0 hx hc,ih];by_cases e:x=c
  ·subst e;unfold CR;rw[PI];simp
  ·unfold CR;rw[TV r e];simp only[AM,e,if_false,Ub];by_cases g:(Br c r).length<r.length
   ·simp only[Bq g,Bq (show (Br c r).length+1<r.length+1 by omega)];rw[Bg (show ¬(((((Br c r).length:Int)) == -1)=true) by rw[beq_iff_eq];omega)]
    omega
   ·simp only[Bg g,Bg (show ¬(Br c r).length+1<r.length+1 by omega)];rfl
theorem NU{c:Int}(hc:0<=c/\c<=255):∀{l:Am},Ct l->(l.map fun n=>n.toNat.toUInt8).count c.toNat.toUInt8+1=(A8 c l).length
 |[],_=>rfl
 |x::r,h=>by
  obtain⟨hx,hr⟩:=Bi h;have ih:=NU hc hr;rw[Xy,List.count_cons,Aj0 hx hc];unfold A8;by_cases e:x=c
  ·rw[Bq e,Bq (by simp[e]),Ub,<-ih]
  ·rw[Bg e,Bg (by simp[e])];cases hs:A8 c r with
   |nil=>exact absurd hs (Oc c r)
   |cons a t=>
    rw[hs] at ih
    simpa using ih
theorem Wb(c:Int):∀(l:Am),(A8 c l).length<=l.length+1
 |[]=>Cc _
 |x::r=>by
  have ih:=Wb c r;unfold A8;split
  ·simp;omega
  ·cases hs:A8 c r with
   |nil=>simp
   |cons a t=>rw[hs] at ih;simp at ih ⊢;omega
theorem LW(c:Int)(l:Am):1<=(A8 c l).length:=by
 have:=Oc c l;cases hs:A8 c l with
 |nil=>exact absurd hs this
 |cons a t=>simp
theorem Abh{a:Al}{n:Nat}{x y:PV}{r:Al}(h:a.length=n):(a++x::r).set n y=a++y::r:=by
 subst h
 induction a with
 |nil=>rfl
 |cons z a ih=>simp[ih]
theorem dle(n:Nat):decide (n<=n)=true:=by simp
section
variable {fu d:Nat}{p:Option (Al->Option Bz)}
theorem Aaq{c:Int}(hc:0<=c/\c<=255){l:Am}(hl:Ct l):Ae (CP p) prog fu (d+2) 78 [.sc (.string (Aa l)),.sc (.string (Aa [c]))]=some ⟨[B9 (CR c l)],[]⟩:=by
 have e:Ae (CP p) prog fu (d+1) 88 [.sc (.string (Aa l)),.sc (.int .u8 c)]=some ⟨[B9 (Lib.indexByte (Aa l).data.toList c.toNat.toUInt8)],[]⟩:=rfl;have e0:(Aa l).data.toList=l.map fun n=>n.toNat.toUInt8:=rfl;rw[e0,Aas hc hl] at e;have h0:((((Aa [c]).size:Nat):Int)==0)=false:=by rw[Ag];rfl
 have h1:((((Aa [c]).size:Nat):Int)==1)=true:=by rw[Ag];rfl
 have h2:(Array.toList (Aa [c]).data)[0]?=some c.toNat.toUInt8:=rfl;have h3:=Je hc;rw[Wz];by_cases g:[c]=l
 ·subst g;have h4:(Array.toList (Aa [c]).data==Array.toList (Aa [c]).data)=true:=by simp
  have h5:CR c [c]=0:=by unfold CR;rw[PI];rfl
  simp only[A2,A1,h0,h4,h5]
 ·have h4:(Array.toList (Aa [c]).data==Array.toList (Aa l).data)=false:=by
   rw[Bool.eq_false_iff,ne_eq,beq_iff_eq];intro q;apply g
   have q2:Aa [c]=Aa l:=by
    cases hx:Aa [c];cases hy:Aa l;rw[hx,hy] at q;exact congrArg ByteArray.mk (Array.toList_inj.1 q)
   have q3:=congrArg Eu q2
   rwa [Cs hl,Cs (fun x hx=>by simp at hx;omega)] at q3
  simp only[A2,A1,h0,h4,h1,h2,h3,e]
theorem Ag2{c:Int}(hc:0<=c/\c<=255){l:Am}(hl:Ct l):Ae (CP p) prog fu (d+3) 103 [.sc (.string (Aa l)),.sc (.string (Aa [c]))]=some ⟨[B9 (CR c l)],[]⟩:=by have e:Ae (CP p) prog fu (d+2) 78 [.sc (.string (Aa l)),.sc (.string (Aa [c]))]=_:=Aaq (fu:=fu) (d:=d) (p:=p) hc hl;rw[ET];simp only[A2,A1,e]
theorem Rv{l:Am}(hl:Ct l)(n:Nat):(Aa l).extract 0 n=Aa (l.take n):=by rw[Yv,Cs hl]
theorem Ss{l:Am}(hl:Ct l)(n:Nat):(Aa l).extract n l.length=Aa (l.drop n):=by
 have:=DY (s:=Aa l) (a:=n)
 rwa [Ag,Cs hl] at this
theorem Auz{c:Int}(hc:0<=c/\c<=255){l:Am}(hl:Ct l)(hs:l.length<=1000000):Ae (CP p) prog fu (d+4) 36 [.sc (.string (Aa l)),.sc (.string (Aa [c]))]=some ⟨[.sc (.string (Aa (Br c l))),.sc (.string (Aa (l.drop ((Br c l).length+1)))),.sc (.bool (decide ((Br c l).length<l.length)))],[]⟩:=by
 have e:Ae (CP p) prog fu (d+2) 78 [.sc (.string (Aa l)),.sc (.string (Aa [c]))]=_:=Aaq (fu:=fu) (d:=d) (p:=p) hc hl
 have e2:Ae (CP p) prog fu (d+3) 60 [.sc (.string (Aa l)),.sc (.string (Aa [c]))]=some ⟨[.sc (.string (Aa (Br c l))),.sc (.string (Aa (l.drop ((Br c l).length+1)))),.sc (.bool (decide ((Br c l).length<l.length)))],[]⟩:=by
  refine (AB (p:=p) fu (d+2) _ _).trans ?_;by_cases g:(Br c l).length<l.length
  ·have hi:CR c l=(Br c l).length:=by unfold CR;rw[Bq g]
   rw[hi] at e;have a1:decide (((Br c l).length:Int)>=0)=true:=by simp
   have a2:decide ((0:Int)<=((Br c l).length:Int))=true:=by simp
   have a3:decide (Int.toNat ((Br c l).length:Int)<=l.length)=true:=by simp;omega
   have a4:(Aa l).extract 0 (Int.toNat ((Br c l).length:Int))=Aa (Br c l):=by
    rw[Kc,Rv hl,<-Po]
   have a5:wrap .i64 (((Br c l).length:Int)+(([c].length:Nat):Int))=(((Br c l).length+1:Nat):Int):=by
    rw[Ar (by simp;omega) (by simp;omega)];simp
   have a6:decide ((0:Int)<=(((Br c l).length+1:Nat):Int))=true:=by simp;omega
   have a7:decide (Int.toNat (((Br c l).length+1:Nat):Int)<=l.length)=true:=by simp;omega
   have a8:(Aa l).extract (Int.toNat (((Br c l).length+1:Nat):Int)) l.length=Aa (l.drop ((Br c l).length+1)):=by
    rw[Kc,Ss hl]
   have a9:decide ((Br c l).length<l.length)=true:=by simpa using g
   simp only[A2,A1,e,Ag,dle,a1,a2,a3,a4,a5,a6,a7,a8,a9]
  ·have hi:CR c l = -1:=by unfold CR;rw[Bg g]
   rw[hi] at e;have a1:decide ((-1:Int)>=0)=false:=rfl;have a9:decide ((Br c l).length<l.length)=false:=by simpa using g
   have a10:l.drop ((Br c l).length+1)=[]:=List.drop_eq_nil_of_le (by omega);have a11:(ByteArray.mk #[])=Aa []:=rfl;rw[a9,a10,Abr c l g];simp only[A2,A1,e,a1,a11]
 rw[LB];simp only[A2,A1,e2]
theorem Apx{l w:Am}(hl:Ct l)(hw:Ct w):Ae (CP p) prog fu (d+4) 35 [.sc (.string (Aa l)),.sc (.string (Aa w))]=some ⟨[.sc (.string (Aa (if w.isPrefixOf l=true then l.drop w.length else l))),.sc (.bool (w.isPrefixOf l))],[]⟩:=by
 have e:Ae (CP p) prog fu (d+2) 77 [.sc (.string (Aa l)),.sc (.string (Aa w))]=some ⟨[.sc (.bool (w.isPrefixOf l))],[]⟩:=Aoz (xs:=RQ p) (fu:=fu) (d:=d+1) hl hw
 have e2:Ae (CP p) prog fu (d+3) 59 [.sc (.string (Aa l)),.sc (.string (Aa w))]=some ⟨[.sc (.string (Aa (if w.isPrefixOf l=true then l.drop w.length else l))),.sc (.bool (w.isPrefixOf l))],[]⟩:=by
  refine (Sj (p:=p) fu (d+2) _ _).trans ?_;cases hp:w.isPrefixOf l
  ·rw[hp] at e;simp only[A2,A1,e,F9,Bool.false_eq_true,if_false]
  ·rw[hp] at e;have BU:w.length<=l.length:=(List.isPrefixOf_iff_prefix.1 hp).length_le;have a1:decide (Int.toNat ((w.length:Nat):Int)<=l.length)=true:=by simp;omega
   have a2:(Aa l).extract (Int.toNat ((w.length:Nat):Int)) l.length=Aa (l.drop w.length):=by rw[Kc,Ss hl]
   simp only[A2,A1,e,Ag,dle,a1,a2,E1,if_true]
 rw[Wr];simp only[A2,A1,e2]
def Tq(x:Am):PV:=.sc (.string (Aa x))
theorem XI{c:Int}(hc:0<=c/\c<=255){a0 a1:ByteArray}{a2 a3:Int}{N:Nat}(hN:N<=1000000):∀(nn:Nat)(r:Am)(done:List Am),r.length+1<=nn->r.length<=1000000->Ct r->done.length+(A8 c r).length=N ->
  Fu fu (Ae (CP p) prog fu (d+3)) a0 a1 a2 a3 nn (Aa r) (Aa [c]) 0 ((N:Int)-1) N (done.length:Int) (done.map Tq++List.replicate (A8 c r).length (.sc (.string ⟨#[]⟩)))=some ⟨[.own 1 N ((done++A8 c r).map Tq)],[]⟩:=by
 intro nn
 induction nn with
 |zero=>intro r done h;omega
 |succ k ih=>
  intro r done hk hr6 hr hn;have e:Ae (CP p) prog fu (d+3) 103 [.sc (.string (Aa r)),.sc (.string (Aa [c]))]=_:=Ag2 (fu:=fu) (d:=d) (p:=p) hc hr;rw[Tw];have Hf:=EB c r;by_cases g:(Br c r).length<r.length
  ·rw[Bq g] at Hf;have hi:CR c r=(Br c r).length:=by unfold CR;rw[Bq g]
   rw[hi] at e;have hp:=LW c (r.drop ((Br c r).length+1));have Pu:(A8 c r).length=(A8 c (r.drop ((Br c r).length+1))).length+1:=by rw[Hf];simp
   have a0:decide ((done.length:Int)<(N:Int)-1)=true:=by simp;omega
   have a1:decide (((Br c r).length:Int)<0)=false:=by simp
   have a2:wrap .i64 (((Br c r).length:Int)+0)=((Br c r).length:Int):=by rw[Ar (by omega) (by omega)];omega
   have a3:decide ((0:Int)<=((Br c r).length:Int))=true:=by simp
   have a4:decide (Int.toNat ((Br c r).length:Int)<=r.length)=true:=by simp;omega
   have a5:(Aa r).extract 0 (Int.toNat ((Br c r).length:Int))=Aa (Br c r):=by rw[Kc,Rv hr,<-Po]
   have a6:(decide ((0:Int)<=(done.length:Int))&&decide ((done.length:Int)<(N:Int)))=true:=by simp;omega
   have a7:decide (0+Int.toNat (done.length:Int)*1+1<=List.length (done.map Tq++List.replicate (A8 c r).length (PV.sc (.string ⟨#[]⟩))))=true:=by simp;omega
   have a8:Cw (done.map Tq++List.replicate (A8 c r).length (PV.sc (.string ⟨#[]⟩))) [PV.sc (.string (Aa (Br c r)))] (0+Int.toNat (done.length:Int)*1)=(done++[Br c r]).map Tq++List.replicate (A8 c (r.drop ((Br c r).length+1))).length (PV.sc (.string ⟨#[]⟩)):=by
    rw[JN (by simp;omega),Pu,List.replicate_succ,Kc,Ob,KJ,Abh (by simp)]
    simp[Tq]
   have a9:wrap .i64 (((Br c r).length:Int)+(([c].length:Nat):Int))=(((Br c r).length+1:Nat):Int):=by
    rw[Ar (by simp;omega) (by simp;omega)];simp
   have b1:decide ((0:Int)<=(((Br c r).length+1:Nat):Int))=true:=by simp;omega
   have b2:decide (Int.toNat (((Br c r).length+1:Nat):Int)<=r.length)=true:=by simp;omega
   have b3:(Aa r).extract (Int.toNat (((Br c r).length+1:Nat):Int)) r.length=Aa (r.drop ((Br c r).length+1)):=by rw[Kc,Ss hr]
   have b4:wrap .i64 ((done.length:Int)+1)=(((done++[Br c r]).length:Nat):Int):=by
    rw[Ar (by omega) (by omega)];simp
   have hd:=ih (r.drop ((Br c r).length+1)) (done++[Br c r]) (by simp;omega) (by simp;omega) ((fun x hx=>hr x (List.mem_of_mem_drop hx))) (by simp;omega)
   simp only[A2,A1,e,Ag,dle,a0,a1,a2,a3,a4,a5,a6,a7,a8,a9,b1,b2,b3,b4];rw[hd,Hf];simp
  ·rw[Bg g] at Hf;have Pu:(A8 c r).length=1:=by rw[Hf];rfl
   have a0:decide ((done.length:Int)<(N:Int)-1)=false:=by simp;omega
   have a6:(decide ((0:Int)<=(done.length:Int))&&decide ((done.length:Int)<(N:Int)))=true:=by simp;omega
   have a7:decide (0+Int.toNat (done.length:Int)*1+1<=List.length (done.map Tq++List.replicate (A8 c r).length (PV.sc (.string ⟨#[]⟩))))=true:=by simp;omega
   have a8:Cw (done.map Tq++List.replicate (A8 c r).length (PV.sc (.string ⟨#[]⟩))) [PV.sc (.string (Aa r))] (0+Int.toNat (done.length:Int)*1)=(done++[r]).map Tq:=by
    rw[JN (by simp;omega),Pu,show List.replicate 1 (PV.sc (Value.string ⟨#[]⟩))=[PV.sc (.string ⟨#[]⟩)] from rfl,Kc,Ob,KJ,Abh (by simp)]
    simp[Tq]
   have b4:wrap .i64 ((done.length:Int)+1)=(N:Int):=by
    rw[Ar (by omega) (by omega)];omega
   have b5:decide ((0:Int)<=(N:Int))=true:=by simp
   have b6:decide (Int.toNat (N:Int)<=N)=true:=by simp
   have b7:Int.toNat (N:Int)-0=N:=by simp
   have b8:decide (N*1<=List.length ((done++[r]).map Tq))=true:=by simp;omega
   have b9:List.take (N*1) ((done++[r]).map Tq)=(done++[r]).map Tq:=FF (by simp;omega)
   simp only[A2,A1,a0,a6,a7,a8,b4,b5,b6,b7,b8,b9];rw[Hf]
theorem Amv{c:Int}(hc:0<=c/\c<=255){l:Am}(hl:Ct l)(hs:l.length<=999999)(Ce:l.length+1<=fu):Ae (CP p) prog fu (d+5) 61 [.sc (.string (Aa l)),.sc (.string (Aa [c]))]=some ⟨[.own 1 (A8 c l).length ((A8 c l).map Tq)],[]⟩:=by
 have e:Ae (CP p) prog fu (d+4) 79 [.sc (.string (Aa l)),.sc (.string (Aa [c])),B9 0,B9 (-1)]=some ⟨[.own 1 (A8 c l).length ((A8 c l).map Tq)],[]⟩:=by
  refine (X6 (p:=p) fu (d+3) _ _ _ _).trans ?_;have hn:=Wb c l;have hp:=LW c l;have hcn:=NU hc hl
  have e1:Ae (CP p) prog fu (d+3) 102 [.sc (.string (Aa l)),.sc (.string (Aa [c]))]=some ⟨[B9 (((A8 c l).length:Int)-1)],[]⟩:=by
   have:Ae (CP p) prog fu (d+3) 102 [.sc (.string (Aa l)),.sc (.string (Aa [c]))]=some ⟨[B9 (Lib.countByte (Aa l).data.toList c.toNat.toUInt8)],[]⟩:=rfl;rw[this]
   have e0:(Lib.countByte (Aa l).data.toList c.toNat.toUInt8:Int)=((A8 c l).length:Int)-1:=by
    have:Lib.countByte (Aa l).data.toList c.toNat.toUInt8+1=(A8 c l).length:=hcn;omega
   rw[e0]
  have a1:(((-1:Int))==0)=false:=rfl;have a2:(Array.toList (Aa [c]).data==Array.toList (ByteArray.mk #[]).data)=false:=rfl;have a3:decide ((-1:Int)<0)=true:=rfl;have a4:wrap .i64 (((A8 c l).length:Int)-1+1)=(A8 c l).length:=by rw[Ar (by omega) (by omega)];omega
  have a5:wrap .i64 ((l.length:Int)+1)=l.length+1:=by rw[Ar (by omega) (by omega)]
  have a6:(if ((l.length:Int)+1)<((A8 c l).length:Int) then ((l.length:Int)+1) else ((A8 c l).length:Int))=(A8 c l).length:=by rw[Bg (by omega)]
  have a7:decide ((0:Int)<=((A8 c l).length:Int))=true:=by simp
  have b7:decide (((A8 c l).length:Int)<=((A8 c l).length:Int))=true:=by simp
  have c7:decide (((A8 c l).length:Int)*16<=1099511627776)=true:=by simp;omega
  have d7:decide (((A8 c l).length:Int)<=1099511627776)=true:=by simp;omega
  have a8:wrap .i64 (((A8 c l).length:Int)-1)=((A8 c l).length:Int)-1:=Ar (by omega) (by omega)
  have a9:Sw (A8 c l).length [PV.sc (.string ⟨#[]⟩)]=List.replicate (A8 c l).length (PV.sc (.string ⟨#[]⟩)):=by
   unfold Sw
   induction (A8 c l).length with
   |zero=>rfl
   |succ k ih=>rw[List.replicate_succ,List.flatten_cons,ih];rfl
  have a10:Int.toNat ((A8 c l).length:Int)=(A8 c l).length:=Kc _;have hd:=XI (fu:=fu) (d:=d) (p:=p) hc (a0:=Aa l) (a1:=Aa [c]) (a2:=0) (a3:= -1) (N:=(A8 c l).length) (by omega) fu l [] Ce (by omega) hl (by simp);simp only[A2,A1,e1,Ag,dle,a1,a2,a3,a4,a5,a6,a7,b7,c7,d7,a8,a9,a10];exact hd
 have b1:decide ((A8 c l).length*1<=List.length ((A8 c l).map Tq))=true:=by simp
 have b2:List.take ((A8 c l).length*1) ((A8 c l).map Tq)=(A8 c l).map Tq:=FF (by simp);rw[EU];simp only[A2,A1,e,b1,b2]
end
theorem QM:∀n:Fin 256,Lib.indexByte Ow.data.toList (n.val:Int).toNat.toUInt8=if Ba (n.val:Int)<64 then Ba (n.val:Int) else -1:=by decide +kernel
theorem Ahe{c:Int}(hc:0<=c/\c<=255):Lib.indexByte Ow.data.toList c.toNat.toUInt8=if Ba c<64 then Ba c else -1:=by obtain⟨n,rfl⟩:=Int.eq_ofNat_of_zero_le hc.1;exact QM ⟨n,by omega⟩
theorem Aw9{y v:Int}(k:Nat)(hk:k<=18)(h0:0<=y)(hm:y % ((2 ^ (k+6):Nat):Int)=0)(hy:y<16777216)(hv0:0<=v)(hv:v<64):EO .u32 y (H6 .u32 (wrap .u32 v) (k:Int))=y+v*((2 ^ k:Nat):Int):=by
 obtain⟨y,rfl⟩:=Int.eq_ofNat_of_zero_le h0;obtain⟨v,rfl⟩:=Int.eq_ofNat_of_zero_le hv0
 have e1:wrap .u32 (v:Int)=v:=by
  simp only[wrap,IntKind.bits,IntKind.signed,CS,Bool.false_eq_true,if_false];omega
 have A9z:2 ^ k<=2 ^ 18:=Nat.pow_le_pow_right (by omega) hk
 have hvk:v*2 ^ k<2 ^ k*64:=by
  rw[Nat.mul_comm];exact Nat.mul_lt_mul_of_pos_left (by omega) (Nat.pos_of_ne_zero (by simp))
 have e2:H6 .u32 (v:Int) (k:Int)=((v*2 ^ k:Nat):Int):=by
  show wrap .u32 ((v:Int)*2 ^ (min (k:Int).toNat IntKind.u32.bits))=_
  have:min (k:Int).toNat IntKind.u32.bits=k:=by
   rw[Kc];exact Nat.min_eq_left (by show k<=32;omega)
  rw[this];have:(v:Int)*2 ^ k=((v*2 ^ k:Nat):Int):=by simp
  rw[this];simp only[wrap,IntKind.bits,IntKind.signed,CS,Bool.false_eq_true,if_false];omega
 rw[e1,e2];have e3:=Ap5 y (v*2 ^ k) (by omega) (by omega);refine e3.trans ?_
 have hd:y=y / 2 ^ (k+6)*2 ^ (k+6):=by
  have:y % 2 ^ (k+6)=0:=by exact_mod_cast hm
  have:=Nat.div_add_mod y (2 ^ (k+6));rw[Nat.mul_comm] at this;omega
 have Cx:v*2 ^ k<2 ^ (k+6):=by rw[Nat.pow_add];exact hvk
 have:=Nat.shiftLeft_add_eq_or_of_lt Cx (y / 2 ^ (k+6));rw[Nat.shiftLeft_eq,<-hd] at this;rw[<-this];simp
section
variable {fu d:Nat}{p:Option (Al->Option Bz)}
theorem Ar3{c:Int}(hc:0<=c/\c<=255):Ae (CP p) prog fu (d+2) 65 [.sc (.string Ow),.sc (.int .u8 c)]=some ⟨[B9 (if Ba c<64 then Ba c else -1)],[]⟩:=by have e:Ae (CP p) prog fu (d+1) 88 [.sc (.string Ow),.sc (.int .u8 c)]=some ⟨[B9 (Lib.indexByte Ow.data.toList c.toNat.toUInt8)],[]⟩:=rfl;rw[Ahe hc] at e;refine (Nt (p:=p) fu (d+1) _ _).trans ?_;simp only[A2,A1,e]
theorem N8{a0:ByteArray}{m0 nn:Nat}{l:Am}{y1:Nat}{y6:Al}{i n:Nat}{y3 c:Int}(Xg:i<n)(hn:n<=4)(hl:Ct l)(hc:l[i]?=some c)(h0:0<=y3)(hm:y3 % ((2 ^ (24-6*i):Nat):Int)=0)(hy:y3<16777216):
  C6 fu (Ae (CP p) prog fu (d+2)) a0 m0 (nn+1) (Aa l) y1 (n:Int) y3 (n:Int) (i:Int) y6=if Ba c<64 then C6 fu (Ae (CP p) prog fu (d+2)) a0 m0 nn (Aa l) y1 (n:Int) (y3+Ba c*((2 ^ (18-6*i):Nat):Int)) (n:Int) ((i+1:Nat):Int) y6 else some ⟨[.own 1 0 [],B9 2],[]⟩:=by
 have AP:=hl c (List.mem_of_getElem? hc);have hv:=G6 c;have e:=Ar3 (fu:=fu) (d:=d) (p:=p) AP;have a1:decide ((i:Int)<(n:Int))=true:=by simp;omega
 have a2:decide ((0:Int)<=(i:Int))=true:=by simp
 have a3:(Array.toList (Aa l).data)[Int.toNat (i:Int)]?=some c.toNat.toUInt8:=by
  rw[Kc];show (l.map fun n=>n.toNat.toUInt8)[i]?=_;rw[List.getElem?_map,hc];rfl
 have a4:=Je AP;have ea:(ByteArray.mk #[(65:UInt8),(66:UInt8),(67:UInt8),(68:UInt8),(69:UInt8),(70:UInt8),(71:UInt8),(72:UInt8),(73:UInt8),(74:UInt8),(75:UInt8),(76:UInt8),(77:UInt8),(78:UInt8),(79:UInt8),(80:UInt8),(81:UInt8),(82:UInt8),(83:UInt8),(84:UInt8),(85:UInt8),(86:UInt8),(87:UInt8),(88:UInt8),(89:UInt8),(90:UInt8),(97:UInt8),(98:UInt8),(99:UInt8),(100:UInt8),(101:UInt8),(102:UInt8),(103:UInt8),(104:UInt8),(105:UInt8),(106:UInt8),(107:UInt8),(108:UInt8),(109:UInt8),(110:UInt8),(111:UInt8),(112:UInt8),(113:UInt8),(114:UInt8),(115:UInt8),(116:UInt8),(117:UInt8),(118:UInt8),(119:UInt8),(120:UInt8),(121:UInt8),(122:UInt8),(48:UInt8),(49:UInt8),(50:UInt8),(51:UInt8),(52:UInt8),(53:UInt8),(54:UInt8),(55:UInt8),(56:UInt8),(57:UInt8),(45:UInt8),(95:UInt8)])=Ow:=rfl;rw[Im,ea];by_cases hv6:Ba c<64
 ·rw[Bq hv6] at e;have b1:decide (Ba c<0)=false:=by simp;omega
  have b2:wrap .i64 (6*(i:Int))=6*(i:Int):=Ar (by omega) (by omega);have b3:wrap .i64 (18-6*(i:Int))=((18-6*i:Nat):Int):=by rw[Ar (by omega) (by omega)];omega
  have b4:decide ((0:Int)<=((18-6*i:Nat):Int))=true:=by simp
  have b5:=Aw9 (y:=y3) (v:=Ba c) (18-6*i) (by omega) h0 (by rw[show 18-6*i+6=24-6*i by omega];exact hm) hy hv.1 hv6
  have b6:wrap .i64 ((i:Int)+1)=((i+1:Nat):Int):=by rw[Ar (by omega) (by omega)];omega
  rw[Bq hv6];simp only[A2,A1,a1,a2,a3,a4,e,b1,b2,b3,b4,b5,b6]
 ·rw[Bg hv6] at e;have b1:decide ((-1:Int)<0)=true:=rfl;rw[Bg hv6];simp only[A2,A1,a1,a2,a3,a4,e,b1]
theorem Awh{y:Int}(h0:0<=y)(hy:y<16777216):wrap .u8 (S0 .u32 y 16)=y / 65536 % 256:=by
 show wrap .u8 (y.fdiv (2 ^ (min (16:Int).toNat IntKind.u32.bits)))=_;have:(2:Int) ^ (min (16:Int).toNat IntKind.u32.bits)=65536:=by decide
 rw[this,Int.fdiv_eq_ediv_of_nonneg _ (by omega)];simp only[wrap,IntKind.bits,IntKind.signed,CS,Bool.false_eq_true,if_false];omega
theorem A4o{y:Int}(h0:0<=y)(hy:y<16777216):wrap .u8 (S0 .u32 y 8)=y / 256 % 256:=by
 show wrap .u8 (y.fdiv (2 ^ (min (8:Int).toNat IntKind.u32.bits)))=_;have:(2:Int) ^ (min (8:Int).toNat IntKind.u32.bits)=256:=by decide
 rw[this,Int.fdiv_eq_ediv_of_nonneg _ (by omega)];simp only[wrap,IntKind.bits,IntKind.signed,CS,Bool.false_eq_true,if_false];omega
theorem A4t{y:Int}(h0:0<=y)(hy:y<16777216):wrap .u8 y=y % 256:=by simp only[wrap,IntKind.bits,IntKind.signed,CS,Bool.false_eq_true,if_false];omega
theorem ZI{a0:ByteArray}{m0 nn:Nat}{s:ByteArray}{y1:Nat}{y6:Al}{n:Nat}{y3:Int}(hn:2<=n)(hn4:n<=4)(h0:0<=y3)(hy:y3<16777216):
  C6 fu (Ae (CP p) prog fu (d+2)) a0 m0 (nn+1) s y1 (n:Int) y3 (n:Int) (n:Int) y6=C9 fu (Ae (CP p) prog fu (d+2)) a0 m0 fu s y1 (n:Int) (n-1) (4-n) ((4-n:Nat):Int) 0 y6 [.sc (.int .u8 (y3 / 65536 % 256)),.sc (.int .u8 (y3 / 256 % 256)),.sc (.int .u8 (y3 % 256))]:=by
 have a1:decide ((n:Int)<(n:Int))=false:=by simp
 have e1:=Awh h0 hy;have e2:=A4o h0 hy;have e3:=A4t h0 hy;have b1:wrap .i64 ((n:Int)-1)=((n-1:Nat):Int):=by rw[Ar (by omega) (by omega)];omega
 have b2:decide ((0:Int)<=((n-1:Nat):Int))=true:=by simp
 have b3:decide (Int.toNat ((n-1:Nat):Int)<=3)=true:=by simp;omega
 have b4:0+Int.toNat ((n-1:Nat):Int)*1=n-1:=by rw[Kc];omega
 have b5:3-Int.toNat ((n-1:Nat):Int)=4-n:=by rw[Kc];omega
 rw[Im];simp only[A2,A1,a1,e1,e2,e3,b1,b2,b3,b4,b5]
end
section
variable {fu d:Nat}{p:Option (Al->Option Bz)}
abbrev grp(A B C:Int):Al:=[.sc (.int .u8 A),.sc (.int .u8 B),.sc (.int .u8 C)]
abbrev A2g:Option Bz:=some ⟨[.own 1 0 [],B9 2],[]⟩
theorem Asw{call:A7}{a0 s:ByteArray}{m0 nn y1:Nat}{n i j:Nat}{y7:Al}{A B C X:Int}(hij:i<j)(hj:j<=4)(h:List.getD (grp A B C) (n+i) .top=.sc (.int .u8 X)){q:Int}:
  C9 fu call a0 m0 (nn+1) s y1 q n j (j:Int) (i:Int) y7 (grp A B C)=if X=0 then C9 fu call a0 m0 nn s y1 q n j (j:Int) ((i+1:Nat):Int) y7 (grp A B C) else A2g:=by
 have a1:decide ((i:Int)<(j:Int))=true:=by simp;omega
 have a2:(decide ((0:Int)<=(i:Int))&&decide ((i:Int)<(j:Int)))=true:=by simp;omega
 have a2':decide ((0:Int)<=(i:Int))=true:=by simp
 have a3:List.getD (grp A B C) (n+Int.toNat (i:Int)*1) PV.top=.sc (.int .u8 X):=by rw[Kc,KJ];exact h
 have a4:wrap .i64 ((i:Int)+1)=((i+1:Nat):Int):=by rw[Ar (by omega) (by omega)];omega
 rw[Il];by_cases hx:X=0
 ·subst hx;have a5:((0:Int) != 0)=false:=rfl;rw[Bq rfl];simp only[A2,A1,a1,a2,a2',a3,a4,a5]
 ·have a5:(X != 0)=true:=by simp[hx]
  rw[Bg hx];simp only[A2,A1,a1,a2,a2',a3,a5]
theorem XC{call:A7}{a0:ByteArray}{m0 nn:Nat}{n j:Nat}{l acc:Am}{A B C:Int}(hn:2<=n)(hn4:n<=4)(hl:Ct l)(hnl:n<=l.length)(II:acc.length<=1000000){st:Nat}:
  C9 fu call a0 m0 (nn+1) (Aa l) acc.length (n:Int) st j (j:Int) (j:Int) (Bk .u8 acc) (grp A B C)=C8 fu call a0 m0 (Aa (l.drop n)) (acc++[A,B,C].take (n-1)).length (Bk .u8 (acc++[A,B,C].take (n-1))):=by
 have a1:decide ((j:Int)<(j:Int))=false:=by simp
 have a2:wrap .i64 ((n:Int)-1)=((n-1:Nat):Int):=by rw[Ar (by omega) (by omega)];omega
 have a3:(decide (3<=List.length (grp A B C))&&true)=true:=rfl;have a4:decide ((0:Int)<=((n-1:Nat):Int))=true:=by simp
 have a5:decide (Int.toNat ((n-1:Nat):Int)<=3)=true:=by simp;omega
 have a6:Int.toNat ((n-1:Nat):Int)-0=n-1:=by rw[Kc];omega
 have a7:decide (0+(n-1)*1<=List.length (grp A B C))=true:=by simp;omega
 have a8:decide (acc.length*1<=List.length (Bk .u8 acc))=true:=by rw[C3];simp
 have a9:decide (List.length (List.take ((n-1)*1) (List.drop 0 (grp A B C)))=(n-1)*1)=true:=by simp;omega
 have b1:decide ((acc.length+(n-1))*1<=1099511627776)=true:=by simp;omega
 have b2:decide (acc.length+(n-1)<=1099511627776)=true:=by simp;omega
 have b3:List.take (acc.length*1) (Bk .u8 acc)++List.take ((n-1)*1) (List.drop 0 (grp A B C))=Bk .u8 (acc++[A,B,C].take (n-1)):=by
  have e0:Bk .u8 (acc++[A,B,C].take (n-1))=Bk .u8 acc++Bk .u8 ([A,B,C].take (n-1)):=List.flatMap_append;rw[FF (by rw[C3];omega),e0,SL,KJ]
  congr 1
  match n,hn,hn4 with
  |2,_,_=>rfl
  |3,_,_=>rfl
  |4,_,_=>rfl
 have b4:decide ((0:Int)<=(n:Int))=true:=by simp
 have b5:decide (Int.toNat (n:Int)<=l.length)=true:=by simp;omega
 have b6:(Aa l).extract (Int.toNat (n:Int)) l.length=Aa (l.drop n):=by rw[Kc,Ss hl]
 have b7:acc.length+(n-1)=(acc++[A,B,C].take (n-1)).length:=by simp;omega
 rw[Il];simp only[A2,A1,Ag,dle,a1,a2,a3,a4,a5,a6,a7,a8,a9,b1,b2,b3,b4,b5,b6];rw[b7]
theorem Ag0{a0:ByteArray}(Ce:10<=fu):∀(m:Nat)(l acc:Am)(nn:Nat),l.length<=4*m->m+1<=nn->Ct l->l.length % 4≠1->acc.length+l.length<=1000000 ->
  C8 fu (Ae (CP p) prog fu (d+2)) a0 nn (Aa l) acc.length (Bk .u8 acc)=some (match Ji l with|none=>⟨[.own 1 0 [],B9 2],[]⟩|some b=>⟨[.own 1 (acc++b).length (Bk .u8 (acc++b)),B9 0],[]⟩):=by
 obtain⟨fu,rfl⟩:∃k,fu=k+10:=⟨fu-10,by omega⟩
 have zero:∀(acc:Am) (nn:Nat),acc.length<=1000000->C8 (fu+10) (Ae (CP p) prog (fu+10) (d+2)) a0 (nn+1) (Aa []) acc.length (Bk .u8 acc)=some ⟨[.own 1 acc.length (Bk .u8 acc),B9 0],[]⟩:=by
  intro acc nn h;have a1:decide ((((Aa []).size:Nat):Int)>0)=false:=rfl;have a2:decide (acc.length*1<=List.length (Bk .u8 acc))=true:=by rw[C3];simp
  have a3:List.take (acc.length*1) (Bk .u8 acc)=Bk .u8 acc:=FF (by rw[C3];omega)
  rw[Ix];simp only[A2,A1,a1,a2,a3]
 intro m
 induction m with
 |zero=>
  intro l acc nn hl Jo hB h1 II;have:l=[]:=List.eq_nil_of_length_eq_zero (by omega);subst this;obtain⟨k,rfl⟩:∃k,nn=k+1:=⟨nn-1,by omega⟩
  rw[zero acc k (by omega)];simp[Ji]
 |succ m ih=>
  intro l acc nn hl Jo hB h1 II;obtain⟨k,rfl⟩:∃k,nn=k+1:=⟨nn-1,by omega⟩
  have head:∀(n:Nat),l.length>0->n=min l.length 4->C8 (fu+10) (Ae (CP p) prog (fu+10) (d+2)) a0 (k+1) (Aa l) acc.length (Bk .u8 acc)=C6 (fu+10) (Ae (CP p) prog (fu+10) (d+2)) a0 k (fu+10) (Aa l) acc.length (n:Int) 0 (n:Int) 0 (Bk .u8 acc):=by
   intro n hp hn;have a1:decide (((l.length:Nat):Int)>0)=true:=by simp;omega
   have a2:(if ((l.length:Nat):Int)<4 then ((l.length:Nat):Int) else 4)=(n:Int):=by split<;>omega
   rw[Ix];simp only[A2,A1,Ag,a1,a2]
  match l,hl,hB,h1,II,head with
  |[],_,_,_,II,_=>
   rw[zero acc k (by simpa using II)];simp[Ji]
  |[x],_,_,h1,_,_=>exact absurd rfl h1
  |[a,b],_,hB,_,II,head=>
   have va:=G6 a;have vb:=G6 b;rw[head 2 (by simp) rfl,show (0:Int)=((0:Nat):Int) from rfl];rw[N8 (c:=a) (by omega) (by omega) hB rfl (by simp) (by simp) (by simp)];unfold Ji;by_cases ha:Ba a<64
   ·rw[Bq ha,N8 (c:=b) (by omega) (by omega) hB rfl (by simp<;>omega) (by simp<;>omega) (by simp<;>omega)]
    by_cases hb:Ba b<64
    ·rw[Bq hb,ZI (by omega) (by omega) (by simp<;>omega) (by simp<;>omega)]
     rw[show (0:Int)=((0:Nat):Int) from rfl];rw[Asw (X:=(((0:Nat):Int)+Ba a*((2 ^ (18-6*0):Nat):Int)+Ba b*((2 ^ (18-6*1):Nat):Int)) / 256 % 256) (by omega) (by omega) rfl];by_cases hz:Ba b % 16=0
     ·rw[Bq (by simp<;>omega)]
      rw[Asw (X:=(((0:Nat):Int)+Ba a*((2 ^ (18-6*0):Nat):Int)+Ba b*((2 ^ (18-6*1):Nat):Int)) % 256) (by omega) (by omega) rfl];rw[Bq (by simp<;>omega),XC (by omega) (by omega) hB (by simp) (by omega)]
      rw[Bq ⟨ha,hb,hz⟩];have hr:=ih [] (acc++[Ba a*4+Ba b / 16]) k (by simp) (by omega) (fun x hx=>by cases hx) (by simp) (by simp at II ⊢;omega)
      have e:(((0:Nat):Int)+Ba a*((2 ^ (18-6*0):Nat):Int)+Ba b*((2 ^ (18-6*1):Nat):Int)) / 65536 % 256=Ba a*4+Ba b / 16:=by simp;omega
      rw[e];refine hr.trans ?_;simp[Ji]
     ·rw[Bg (by simp<;>omega),Bg (fun h=>hz h.2.2)]
    ·rw[Bg hb,Bg (fun h=>hb h.2.1)]
   ·rw[Bg ha,Bg (fun h=>ha h.1)]
  |[a,b,c],_,hB,_,II,head=>
   have va:=G6 a;have vb:=G6 b;have vc:=G6 c;rw[head 3 (by simp) rfl,show (0:Int)=((0:Nat):Int) from rfl];rw[N8 (c:=a) (by omega) (by omega) hB rfl (by simp) (by simp) (by simp)];unfold Ji;by_cases ha:Ba a<64
   ·rw[Bq ha,N8 (c:=b) (by omega) (by omega) hB rfl (by simp<;>omega) (by simp<;>omega) (by simp<;>omega)]
    by_cases hb:Ba b<64
    ·rw[Bq hb,N8 (c:=c) (by omega) (by omega) hB rfl (by simp<;>omega) (by simp<;>omega) (by simp<;>omega)]
     by_cases hc:Ba c<64
     ·rw[Bq hc,ZI (by omega) (by omega) (by simp<;>omega) (by simp<;>omega)]
      rw[show (0:Int)=((0:Nat):Int) from rfl];rw[Asw (X:=(((0:Nat):Int)+Ba a*((2 ^ (18-6*0):Nat):Int)+Ba b*((2 ^ (18-6*1):Nat):Int)+Ba c*((2 ^ (18-6*2):Nat):Int)) % 256) (by omega) (by omega) rfl];by_cases hz:Ba c % 4=0
      ·rw[Bq (by simp<;>omega),XC (by omega) (by omega) hB (by simp) (by omega)]
       rw[Bq ⟨ha,hb,hc,hz⟩];have hr:=ih [] (acc++[Ba a*4+Ba b / 16,Ba b % 16*16+Ba c / 4]) k (by simp) (by omega) (fun x hx=>by cases hx) (by simp) (by simp at II ⊢;omega)
       have e:(((0:Nat):Int)+Ba a*((2 ^ (18-6*0):Nat):Int)+Ba b*((2 ^ (18-6*1):Nat):Int)+Ba c*((2 ^ (18-6*2):Nat):Int)) / 65536 % 256=Ba a*4+Ba b / 16:=by simp;omega
       have e2:(((0:Nat):Int)+Ba a*((2 ^ (18-6*0):Nat):Int)+Ba b*((2 ^ (18-6*1):Nat):Int)+Ba c*((2 ^ (18-6*2):Nat):Int)) / 256 % 256=Ba b % 16*16+Ba c / 4:=by simp;omega
       rw[e,e2];refine hr.trans ?_;simp[Ji]
      ·rw[Bg (by simp<;>omega),Bg (fun h=>hz h.2.2.2)]
     ·rw[Bg hc,Bg (fun h=>hc h.2.2.1)]
    ·rw[Bg hb,Bg (fun h=>hb h.2.1)]
   ·rw[Bg ha,Bg (fun h=>ha h.1)]
  |a::b::c::e::t,hl,hB,h1,II,head=>
   have va:=G6 a;have vb:=G6 b;have vc:=G6 c;have ve:=G6 e;rw[head 4 (by simp) (by simp<;>omega),show (0:Int)=((0:Nat):Int) from rfl]
   rw[N8 (c:=a) (by omega) (by omega) hB rfl (by simp) (by simp) (by simp)];unfold Ji;by_cases ha:Ba a<64
   ·rw[Bq ha,N8 (c:=b) (by omega) (by omega) hB rfl (by simp<;>omega) (by simp<;>omega) (by simp<;>omega)]
    by_cases hb:Ba b<64
    ·rw[Bq hb,N8 (c:=c) (by omega) (by omega) hB rfl (by simp<;>omega) (by simp<;>omega) (by simp<;>omega)]
     by_cases hc:Ba c<64
     ·rw[Bq hc,N8 (c:=e) (by omega) (by omega) hB rfl (by simp<;>omega) (by simp<;>omega) (by simp<;>omega)]
      by_cases he:Ba e<64
      ·rw[Bq he,ZI (by omega) (by omega) (by simp<;>omega) (by simp<;>omega)]
       rw[show (0:Int)=((4-4:Nat):Int) from rfl,XC (by omega) (by omega) hB (by simp) (by omega)];rw[Bq ⟨ha,hb,hc,he⟩];have hr:=ih t (acc++[Ba a*4+Ba b / 16,Ba b % 16*16+Ba c / 4,Ba c % 4*64+Ba e]) k (by simp at hl;omega) (by omega) (fun x hx=>hB x (by simp[hx])) (by simp at h1;omega) (by simp at II ⊢;omega)
       have e1:(((4-4:Nat):Int)+Ba a*((2 ^ (18-6*0):Nat):Int)+Ba b*((2 ^ (18-6*1):Nat):Int)+Ba c*((2 ^ (18-6*2):Nat):Int)+Ba e*((2 ^ (18-6*3):Nat):Int)) / 65536 % 256=Ba a*4+Ba b / 16:=by simp;omega
       have e2:(((4-4:Nat):Int)+Ba a*((2 ^ (18-6*0):Nat):Int)+Ba b*((2 ^ (18-6*1):Nat):Int)+Ba c*((2 ^ (18-6*2):Nat):Int)+Ba e*((2 ^ (18-6*3):Nat):Int)) / 256 % 256=Ba b % 16*16+Ba c / 4:=by simp;omega
       have e3:(((4-4:Nat):Int)+Ba a*((2 ^ (18-6*0):Nat):Int)+Ba b*((2 ^ (18-6*1):Nat):Int)+Ba c*((2 ^ (18-6*2):Nat):Int)+Ba e*((2 ^ (18-6*3):Nat):Int)) % 256=Ba c % 4*64+Ba e:=by simp;omega
       rw[e1,e2,e3];refine hr.trans ?_;cases Ji t<;>simp
      ·rw[Bg he,Bg (fun h=>he h.2.2.2)]
     ·rw[Bg hc,Bg (fun h=>hc h.2.2.1)]
    ·rw[Bg hb,Bg (fun h=>hb h.2.1)]
   ·rw[Bg ha,Bg (fun h=>ha h.1)]
theorem Agc:∀{l:Am},l.length % 4=1->Ji l=none
 |[],h=>by simp at h
 |[_],_=>rfl
 |[_,_],h=>by simp at h
 |[_,_,_],h=>by simp at h
 |p::q::r::s::t,h=>by
  have:=Agc (l:=t) (by simp at h;omega)
  unfold Ji;rw[this];simp
theorem Ark{l:Am}(hB:Ct l)(hl:l.length<=1000000)(Ce:10<=fu)(Xf:l.length<=fu):Ae (CP p) prog fu (d+3) 45 [.sc (.string (Aa l))]=some (match Ji l with|none=>⟨[.own 1 0 [],B9 2],[]⟩|some b=>⟨[.own 1 b.length (Bk .u8 b),B9 0],[]⟩):=by
 rw[R0];have a0:Int.tmod ((l.length:Nat):Int) 4=((l.length % 4:Nat):Int):=by rw[Int.tmod_eq_emod_of_nonneg (by omega)];omega
 by_cases h1:l.length % 4=1
 ·have a1:(((l.length % 4:Nat):Int)==1)=true:=by rw[h1];rfl
  rw[Agc h1];simp only[A2,A1,Ag,a0,a1]
 ·have a1:(((l.length % 4:Nat):Int)==1)=false:=by simp;omega
  have a2:Int.tdiv ((l.length:Nat):Int) 4=((l.length / 4:Nat):Int):=by rw[Int.tdiv_eq_ediv_of_nonneg (by omega)];omega
  have a3:wrap .i64 ((l.length / 4:Nat):Int)=((l.length / 4:Nat):Int):=Ar (by omega) (by omega);have a4:wrap .i64 (((l.length / 4:Nat):Int)*3)=((l.length / 4:Nat):Int)*3:=Ar (by omega) (by omega);have a5:wrap .i64 (((l.length / 4:Nat):Int)*3+2)=((l.length / 4:Nat):Int)*3+2:=Ar (by omega) (by omega);have a6:decide ((0:Int)<=((l.length / 4:Nat):Int)*3+2)=true:=by simp;omega
  have a7:decide ((((l.length / 4:Nat):Int)*3+2)*1<=1099511627776)=true:=by simp;omega
  have a8:decide (((l.length / 4:Nat):Int)*3+2<=1099511627776)=true:=by simp;omega
  have hd:=Ag0 (d:=d) (p:=p) (a0:=Aa l) Ce (l.length / 4+1) l [] fu (by omega) (by omega) hB h1 (by simp<;>omega)
  simp only[A2,A1,Ag,a0,a1,a2,a3,a4,a5,a6,a7,a8];refine hd.trans ?_;cases Ji l<;>simp
end
end
end Go.Proofs.YtkopiepmdppifaaGreatDoor.Pv
