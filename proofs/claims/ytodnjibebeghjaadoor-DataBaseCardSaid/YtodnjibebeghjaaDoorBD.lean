/-
  The proof of DataBase, part 4.
-/
import Derived.Test.YtodnjibebeghjaaDoorBC
import Derived.Laws.Bits64b
import Derived.Test.YtodnjibebeghjaaDoorRows
import Derived.Shelf.Strings.BuilderRune
import Derived.Shelf.Strings.SlTrimAscii
import Derived.Shelf.RegionOpenPlain
import Derived.Lib.Overlaps
import Derived.Lib.AppendZerosOnto
import Derived.Lib.Walk
import Derived.Lib.SliceRun
import Derived.Laws.Externs
import Derived.Laws.IdiomCopy
import Derived.Laws.NewBlocks
import Derived.WalkKit
import Derived.WalkMore
import Derived.Shelf.Unicode.ValidAny
import Derived.Lib.LaidU8T
set_option linter.unusedSimpArgs false
set_option linter.unusedVariables false
namespace Go.Proofs.YtodnjibebeghjaaDoor.Pv
section
open Go.IntKind (wrap)
set_option maxRecDepth 100000
theorem Alb (a b:Nat)(ha:a<4294967296)(hb:b<4294967296):bits .or .u32 ((a:Nat):Int) ((b:Nat):Int)=((a ||| b:Nat):Int):=by
 have hx:a ||| b<2 ^ 32:=Nat.or_lt_two_pow (by omega) (by omega)
 have h1:(BitVec.ofInt 32 (a:Int)).toNat=a:=by
  rw[BitVec.ofInt_natCast,BitVec.toNat_ofNat];exact Nat.mod_eq_of_lt (by omega)
 have h2:(BitVec.ofInt 32 (b:Int)).toNat=b:=by
  rw[BitVec.ofInt_natCast,BitVec.toNat_ofNat];exact Nat.mod_eq_of_lt (by omega)
 show IntKind.u32.wrap ((BitVec.ofInt 32 (a:Int) ||| BitVec.ofInt 32 (b:Int)).toNat:Int)=_;rw[BitVec.toNat_or,h1,h2];simp only[wrap,IntKind.bits,IntKind.signed,WO,Bool.false_eq_true,if_false];omega
theorem Ary (a b:Nat)(ha:a<4294967296)(hb:b<4294967296):bits .and .u32 ((a:Nat):Int) ((b:Nat):Int)=((a &&& b:Nat):Int):=by
 have hx:a &&& b<2 ^ 32:=Nat.and_lt_two_pow _ (by omega)
 have h1:(BitVec.ofInt 32 (a:Int)).toNat=a:=by
  rw[BitVec.ofInt_natCast,BitVec.toNat_ofNat];exact Nat.mod_eq_of_lt (by omega)
 have h2:(BitVec.ofInt 32 (b:Int)).toNat=b:=by
  rw[BitVec.ofInt_natCast,BitVec.toNat_ofNat];exact Nat.mod_eq_of_lt (by omega)
 show IntKind.u32.wrap ((BitVec.ofInt 32 (a:Int) &&& BitVec.ofInt 32 (b:Int)).toNat:Int)=_;rw[BitVec.toNat_and,h1,h2];simp only[wrap,IntKind.bits,IntKind.signed,WO,Bool.false_eq_true,if_false];omega
def H4 (a b c:Int):List Int:=[E0 (a / 4),E0 (a % 4*16+b / 16),E0 (b % 16*4+c / 64),E0 (c % 64)]
abbrev Ahd (a b c:Int):Int:=bits .or .u32 (bits .or .u32 (a % 4294967296*65536 % 4294967296) (b % 4294967296*256 % 4294967296)) (c % 4294967296)
theorem Abs {a b c:Int}(h:Dp [a,b,c]):Ahd a b c=a*65536+b*256+c:=by
 obtain⟨ha,h⟩:=Be h;obtain⟨hb,h⟩:=Be h;obtain⟨hc,h⟩:=Be h;obtain⟨a,rfl⟩:=Int.eq_ofNat_of_zero_le ha.1;obtain⟨b,rfl⟩:=Int.eq_ofNat_of_zero_le hb.1;obtain⟨c,rfl⟩:=Int.eq_ofNat_of_zero_le hc.1;have e1:(a:Int) % 4294967296*65536 % 4294967296=((a*65536:Nat):Int):=by omega
 have e2:(b:Int) % 4294967296*256 % 4294967296=((b*256:Nat):Int):=by omega
 have e3:(c:Int) % 4294967296=(c:Int):=by omega
 show bits .or .u32 (bits .or .u32 _ _) _=_;rw[e1,e2,e3,Alb _ _ (by omega) (by omega)]
 have h1:a*65536 ||| b*256=a*65536+b*256:=by
  have:=Nat.shiftLeft_add_eq_or_of_lt (show b*256<2 ^ 16 by omega) a
  rw[Nat.shiftLeft_eq,show (2:Nat) ^ 16=65536 from rfl] at this
  exact this.symm
 rw[h1,Alb _ _ (by omega) (by omega)]
 have h2:a*65536+b*256 ||| c=a*65536+b*256+c:=by
  have:=Nat.shiftLeft_add_eq_or_of_lt (show c<2 ^ 8 by omega) (a*256+b)
  rw[Nat.shiftLeft_eq] at this;have e:(a*256+b)*2 ^ 8=a*65536+b*256:=by omega
  rw[e] at this;exact this.symm
 rw[h2];omega
theorem A0y {a b c:Int}(h:Dp [a,b,c]) (j:Nat)(hj:j<4):∃q,0<=q∧q<64∧bits .and .u32 (Ahd a b c / 2 ^ (18-6*j)) 63=q∧(H4 a b c)[j]?=some (E0 q):=by
 rw[Abs h];obtain⟨ha,h⟩:=Be h;obtain⟨hb,h⟩:=Be h;obtain⟨hc,h⟩:=Be h
 have key:∀x:Int,0<=x->x<4294967296->bits .and .u32 x 63=x % 64:=by
  intro x h0 h1;obtain⟨n,rfl⟩:=Int.eq_ofNat_of_zero_le h0;have:=Ary n 63 (by omega) (by omega)
  rw[show ((63:Nat):Int)=63 from rfl] at this
  show bits BinOp.and IntKind.u32 (n:Int) 63=(n:Int) % 64;rw[this,show (63:Nat)=2 ^ 6-1 by decide,Nat.and_two_pow_sub_one_eq_mod n 6]
  omega
 match j,hj with
 |0,_=>
  refine⟨_,?_,?_,key _ ?_ ?_,?_⟩
  ·show 0<=(a*65536+b*256+c) / 262144 % 64;omega
  ·show (a*65536+b*256+c) / 262144 % 64<64;omega
  ·show 0<=(a*65536+b*256+c) / 262144;omega
  ·show (a*65536+b*256+c) / 262144<_;omega
  ·show some (E0 _)=some (E0 ((a*65536+b*256+c) / 262144 % 64))
   congr 2;omega
 |1,_=>
  refine⟨_,?_,?_,key _ ?_ ?_,?_⟩
  ·show 0<=(a*65536+b*256+c) / 4096 % 64;omega
  ·show (a*65536+b*256+c) / 4096 % 64<64;omega
  ·show 0<=(a*65536+b*256+c) / 4096;omega
  ·show (a*65536+b*256+c) / 4096<_;omega
  ·show some (E0 _)=some (E0 ((a*65536+b*256+c) / 4096 % 64))
   congr 2;omega
 |2,_=>
  refine⟨_,?_,?_,key _ ?_ ?_,?_⟩
  ·show 0<=(a*65536+b*256+c) / 64 % 64;omega
  ·show (a*65536+b*256+c) / 64 % 64<64;omega
  ·show 0<=(a*65536+b*256+c) / 64;omega
  ·show (a*65536+b*256+c) / 64<_;omega
  ·show some (E0 _)=some (E0 ((a*65536+b*256+c) / 64 % 64))
   congr 2;omega
 |3,_=>
  refine⟨_,?_,?_,key _ ?_ ?_,?_⟩
  ·show 0<=(a*65536+b*256+c) / 1 % 64;omega
  ·show (a*65536+b*256+c) / 1 % 64<64;omega
  ·show 0<=(a*65536+b*256+c) / 1;omega
  ·show (a*65536+b*256+c) / 1<_;omega
  ·show some (E0 _)=some (E0 ((a*65536+b*256+c) / 1 % 64))
   congr 2;omega
def Kw:ByteArray:=⟨#[65,66,67,68,69,70,71,72,73,74,75,76,77,78,79,80,81,82,83,84,85,86,87,88,89,90,97,98,99,100,101,102,103,104,105,106,107,108,109,110,111,112,113,114,115,116,117,118,119,120,121,122,48,49,50,51,52,53,54,55,56,57,45,95]⟩
theorem WB:Kw.size=64:=rfl
theorem Aam:∀n:Fin 64,((Kw[n.val]'n.isLt).toNat:Int)=E0 (n.val:Int):=by decide +kernel
theorem Adc {q:Int}(h0:0<=q)(h1:q<64)(h:q.toNat<Kw.size):((Kw[q.toNat]'(h)).toNat:Int)=E0 q:=by
 have:=Aam ⟨q.toNat,h⟩;refine this.trans (congrArg E0 ?_);show (q.toNat:Int)=q;omega
theorem Zc {q:Int}(h0:0<=q)(h1:q<64):0<=E0 q∧E0 q<=255:=by
 unfold E0;split
 ·omega
 split
 ·omega
 split
 ·omega
 split<;>omega
theorem Amq {a b c:Int}(h:Dp [a,b,c]):Dp (H4 a b c):=by
 obtain⟨ha,h⟩:=Be h;obtain⟨hb,h⟩:=Be h;obtain⟨hc,h⟩:=Be h;intro x hx;simp[H4] at hx;rcases hx with rfl|rfl|rfl|rfl<;>apply Zc<;>omega
theorem Iq {a b:List Int}(ha:Dp a)(hb:Dp b):Dp (a++b):=by
 intro x hx;rcases List.mem_append.1 hx with h|h
 ·exact ha x h
 ·exact hb x h
theorem Aan {a:List Int}(ha:Dp a)(k:Nat):Dp (a.take k):=fun x hx=>ha x (List.mem_of_mem_take hx)
theorem XQ {a:List Int}(ha:Dp a)(k:Nat):Dp (a.drop k):=fun x hx=>ha x (List.mem_of_mem_drop hx)
theorem VP:∀(l:List Int),Dp l->l≠[]->∃a b c,Dp [a,b,c]∧D8 l=(H4 a b c).take (min l.length 3+1)++D8 (l.drop (min l.length 3))∧[a,b,c].take (min l.length 3)=l.take (min l.length 3)∧(l.length<3->c=0)∧(l.length<2->b=0)
 |[],_,h=>absurd rfl h
 |[a],h,_=>by
  have:=Be h;refine⟨a,0,0,?_,?_,rfl,fun _=>rfl,fun _=>rfl⟩
  ·intro x hx;simp at hx;rcases hx with rfl|rfl<;>omega
  ·simp[D8,H4]
 |[a,b],h,_=>by
  have h1:=Be h;have h2:=Be h1.2;refine⟨a,b,0,?_,?_,rfl,fun _=>rfl,fun h=>?_⟩
  ·intro x hx;simp at hx;rcases hx with rfl|rfl|rfl<;>omega
  ·simp[D8,H4]
  ·simp at h
 |a::b::c::r,h,_=>by
  have e:min (a::b::c::r).length 3=3:=by simp
  rw[e];refine⟨a,b,c,?_,?_,rfl,fun h=>?_,fun h=>?_⟩
  ·intro x hx;refine h x ?_;simp at hx ⊢;rcases hx with rfl|rfl|rfl<;>simp
  ·simp[D8,H4]
  ·simp at h;omega
  ·simp at h;omega
end
section
open Go.Proofs.Tryd (prog)
open Go.IntKind (wrap)
set_option maxRecDepth 1000000
open Go.Shelf Go.RowKit Go.Lib
def IU:Go.Shelf.Ren:=⟨fun|119=>117|120=>113|137=>27|151=>103|152=>112|160=>66|167=>24|168=>89|169=>25|197=>102|217=>40|224=>96|225=>95|227=>82|228=>101|231=>80|232=>81|233=>83|234=>84|235=>85|236=>86|240=>38|242=>106|260=>111|266=>55|271=>104|276=>54|278=>116|n=>n,fun|0=>0|3=>3|4=>4|5=>5|9=>9|20=>20|21=>21|37=>22|46=>56|51=>55|70=>51|72=>53|75=>58|80=>60|105=>139|116=>124|117=>125|119=>86|124=>128|127=>73|138=>88|139=>89|164=>97|n=>n,fun|3=>0|4=>1|n=>n⟩
theorem Z3:Lays.n167 prog IU:={
 mixed:=by kernel_rfl
 f167:=Tryd.func24.trans (congrArg some (by kernel_rfl))
 f240:=Tryd.func38.trans (congrArg some (by kernel_rfl))
 f276:=Tryd.func54.trans (congrArg some (by kernel_rfl))
 t0:=Tryd.underlying0
 a0:=Tryd.isAgg0
 z0:=Tryd.sizeOf0
 v0:=Tryd.zeroValue0
 t4:=Tryd.underlying4
 a4:=Tryd.isAgg4
 z4:=Tryd.sizeOf4
 v4:=Tryd.zeroValue4
 t5:=Tryd.underlying5
 a5:=Tryd.isAgg5
 z5:=Tryd.sizeOf5
 v5:=Tryd.zeroValue5
 t9:=Tryd.underlying9
 a9:=Tryd.isAgg9
 z9:=Tryd.sizeOf9
 v9:=Tryd.zeroValue9
 t20:=Tryd.underlying20
 a20:=Tryd.isAgg20
 z20:=Tryd.sizeOf20
 v20:=Tryd.zeroValue20
 t37:=Tryd.underlying22
 a37:=Tryd.isAgg22
 z37:=Tryd.sizeOf22
 v37:=Tryd.zeroValue22
 t70:=Tryd.underlying51
 a70:=Tryd.isAgg51
 z70:=Tryd.sizeOf51
 v70:=Tryd.zeroValue51
 t72:=Tryd.underlying53
 a72:=Tryd.isAgg53
 z72:=Tryd.sizeOf53
 v72:=Tryd.zeroValue53
 t75:=Tryd.underlying58
 a75:=Tryd.isAgg58
 z75:=Tryd.sizeOf58
 v75:=Tryd.zeroValue58
 t164:=Tryd.underlying97
 a164:=Tryd.isAgg97
 z164:=Tryd.sizeOf97
 v164:=Tryd.zeroValue97 }
theorem ON:Lays.n168 prog IU:={
 mixed:=by kernel_rfl
 f168:=Tryd.func89.trans (congrArg some (by kernel_rfl))
 f240:=Tryd.func38.trans (congrArg some (by kernel_rfl))
 f242:=Tryd.func106.trans (congrArg some (by kernel_rfl))
 f276:=Tryd.func54.trans (congrArg some (by kernel_rfl))
 f278:=Tryd.func116.trans (congrArg some (by kernel_rfl))
 t0:=Tryd.underlying0
 a0:=Tryd.isAgg0
 z0:=Tryd.sizeOf0
 v0:=Tryd.zeroValue0
 t3:=Tryd.underlying3
 a3:=Tryd.isAgg3
 z3:=Tryd.sizeOf3
 v3:=Tryd.zeroValue3
 t4:=Tryd.underlying4
 a4:=Tryd.isAgg4
 z4:=Tryd.sizeOf4
 v4:=Tryd.zeroValue4
 t5:=Tryd.underlying5
 a5:=Tryd.isAgg5
 z5:=Tryd.sizeOf5
 v5:=Tryd.zeroValue5
 t9:=Tryd.underlying9
 a9:=Tryd.isAgg9
 z9:=Tryd.sizeOf9
 v9:=Tryd.zeroValue9
 t20:=Tryd.underlying20
 a20:=Tryd.isAgg20
 z20:=Tryd.sizeOf20
 v20:=Tryd.zeroValue20
 t21:=Tryd.underlying21
 a21:=Tryd.isAgg21
 z21:=Tryd.sizeOf21
 v21:=Tryd.zeroValue21
 t37:=Tryd.underlying22
 a37:=Tryd.isAgg22
 z37:=Tryd.sizeOf22
 v37:=Tryd.zeroValue22
 t46:=Tryd.underlying56
 a46:=Tryd.isAgg56
 z46:=Tryd.sizeOf56
 v46:=Tryd.zeroValue56
 t51:=Tryd.underlying55
 a51:=Tryd.isAgg55
 z51:=Tryd.sizeOf55
 v51:=Tryd.zeroValue55
 t70:=Tryd.underlying51
 a70:=Tryd.isAgg51
 z70:=Tryd.sizeOf51
 v70:=Tryd.zeroValue51
 t72:=Tryd.underlying53
 a72:=Tryd.isAgg53
 z72:=Tryd.sizeOf53
 v72:=Tryd.zeroValue53
 t75:=Tryd.underlying58
 a75:=Tryd.isAgg58
 z75:=Tryd.sizeOf58
 v75:=Tryd.zeroValue58
 t164:=Tryd.underlying97
 a164:=Tryd.isAgg97
 z164:=Tryd.sizeOf97
 v164:=Tryd.zeroValue97 }
theorem Zn:Lays.n169 prog IU:={
 mixed:=by kernel_rfl
 f169:=Tryd.func25.trans (congrArg some (by kernel_rfl))
 t0:=Tryd.underlying0
 a0:=Tryd.isAgg0
 z0:=Tryd.sizeOf0
 v0:=Tryd.zeroValue0
 t3:=Tryd.underlying3
 a3:=Tryd.isAgg3
 z3:=Tryd.sizeOf3
 v3:=Tryd.zeroValue3
 t9:=Tryd.underlying9
 a9:=Tryd.isAgg9
 z9:=Tryd.sizeOf9
 v9:=Tryd.zeroValue9
 t37:=Tryd.underlying22
 a37:=Tryd.isAgg22
 z37:=Tryd.sizeOf22
 v37:=Tryd.zeroValue22
 t70:=Tryd.underlying51
 a70:=Tryd.isAgg51
 z70:=Tryd.sizeOf51
 v70:=Tryd.zeroValue51
 t72:=Tryd.underlying53
 a72:=Tryd.isAgg53
 z72:=Tryd.sizeOf53
 v72:=Tryd.zeroValue53
 t127:=Tryd.underlying73
 a127:=Tryd.isAgg73
 z127:=Tryd.sizeOf73
 v127:=Tryd.zeroValue73 }
theorem NN:Lays.n160 prog IU:={
 mixed:=by kernel_rfl
 f119:=Tryd.func117.trans (congrArg some (by kernel_rfl))
 f120:=Tryd.func113.trans (congrArg some (by kernel_rfl))
 f137:=Tryd.func27.trans (congrArg some (by kernel_rfl))
 f151:=Tryd.func103.trans (congrArg some (by kernel_rfl))
 f152:=Tryd.func112.trans (congrArg some (by kernel_rfl))
 f160:=Tryd.func66.trans (congrArg some (by kernel_rfl))
 f197:=Tryd.func102.trans (congrArg some (by kernel_rfl))
 f217:=Tryd.func40.trans (congrArg some (by kernel_rfl))
 f224:=Tryd.func96.trans (congrArg some (by kernel_rfl))
 f225:=Tryd.func95.trans (congrArg some (by kernel_rfl))
 f227:=Tryd.func82.trans (congrArg some (by kernel_rfl))
 f228:=Tryd.func101.trans (congrArg some (by kernel_rfl))
 f231:=Tryd.func80.trans (congrArg some (by kernel_rfl))
 f232:=Tryd.func81.trans (congrArg some (by kernel_rfl))
 f233:=Tryd.func83.trans (congrArg some (by kernel_rfl))
 f234:=Tryd.func84.trans (congrArg some (by kernel_rfl))
 f235:=Tryd.func85.trans (congrArg some (by kernel_rfl))
 f236:=Tryd.func86.trans (congrArg some (by kernel_rfl))
 f260:=Tryd.func111.trans (congrArg some (by kernel_rfl))
 f266:=Tryd.func55.trans (congrArg some (by kernel_rfl))
 f271:=Tryd.func104.trans (congrArg some (by kernel_rfl))
 t0:=Tryd.underlying0
 a0:=Tryd.isAgg0
 z0:=Tryd.sizeOf0
 v0:=Tryd.zeroValue0
 t3:=Tryd.underlying3
 a3:=Tryd.isAgg3
 z3:=Tryd.sizeOf3
 v3:=Tryd.zeroValue3
 t4:=Tryd.underlying4
 a4:=Tryd.isAgg4
 z4:=Tryd.sizeOf4
 v4:=Tryd.zeroValue4
 t5:=Tryd.underlying5
 a5:=Tryd.isAgg5
 z5:=Tryd.sizeOf5
 v5:=Tryd.zeroValue5
 t9:=Tryd.underlying9
 a9:=Tryd.isAgg9
 z9:=Tryd.sizeOf9
 v9:=Tryd.zeroValue9
 t21:=Tryd.underlying21
 a21:=Tryd.isAgg21
 z21:=Tryd.sizeOf21
 v21:=Tryd.zeroValue21
 t46:=Tryd.underlying56
 a46:=Tryd.isAgg56
 z46:=Tryd.sizeOf56
 v46:=Tryd.zeroValue56
 t105:=Tryd.underlying139
 a105:=Tryd.isAgg139
 z105:=Tryd.sizeOf139
 v105:=Tryd.zeroValue139
 t116:=Tryd.underlying124
 a116:=Tryd.isAgg124
 z116:=Tryd.sizeOf124
 t117:=Tryd.underlying125
 a117:=Tryd.isAgg125
 z117:=Tryd.sizeOf125
 v117:=Tryd.zeroValue125
 t119:=Tryd.underlying86
 a119:=Tryd.isAgg86
 z119:=Tryd.sizeOf86
 t124:=Tryd.underlying128
 a124:=Tryd.isAgg128
 z124:=Tryd.sizeOf128
 v124:=Tryd.zeroValue128
 t138:=Tryd.underlying88
 a138:=Tryd.isAgg88
 z138:=Tryd.sizeOf88
 v138:=Tryd.zeroValue88
 t139:=Tryd.underlying89
 a139:=Tryd.isAgg89
 z139:=Tryd.sizeOf89
 v139:=Tryd.zeroValue89
 g3:=by kernel_rfl
 g4:=by kernel_rfl }
theorem P7:Builder.Extra prog IU:={
 sizeBuilder:=by kernel_rfl
 liesBuilder:=by kernel_rfl
 t5:=Tryd.underlying5
 a5:=Tryd.isAgg5
 z5:=Tryd.sizeOf5
 v5:=Tryd.zeroValue5
 infoByte:=by kernel_rfl
 cellsByte:=by kernel_rfl
 sizeByte:=by kernel_rfl
 neB5:=by decide }
end
section
open Go.IntKind (wrap)
open Go.RowKit Go.Lib
section
variable {P:Program}
theorem WM (w:World)(dT sT ty elem:TypeId)(i:TypeInfo)(b o dLen dCap:Nat)(a:Addr)(sLen sCap k:Nat)(cs:List Value)
  (hu:P.underlying dT=some (.slice elem)) (hq:P.info? elem=some i)(hk:k=Nat.min sLen dLen)(hn:cs.length=k*i.size)
  (Sg:∀j v,cs[j]?=some v->w.cell? (a.add j)=some v) (hc:∀j,j<cs.length->(w.cell? ⟨b,o+j,none⟩).isSome=true) (hf:∀j,j<cs.length->w.frozen? ⟨b,o+j,none⟩=false)(h1:∀v∈cs,v.oneCell'=true):
  (Builtin.copy_ #[dT,sT] ty #[.slice (some ⟨b,o,none⟩) dLen dCap,.slice (some a) sLen sCap]).run P w=.ok (goInt k) (w.setCells b o cs):=by
 have hl:=run_loadCells_list (P:=P) w a cs Sg;have Fd:=run_storeCells_cells (P:=P) b o cs 0 w (by simpa using hc) (by simpa using hf) h1
 simp[Builtin.copy_,run_underlying hu,Builtin.lenOf,Builtin.firstCells,sizeOf,typeInfo,hq,←hk,←hn,hl,Fd]
end
end
section
open Go.Proofs.Tryd (prog)
open Go.IntKind (wrap)
set_option maxRecDepth 1000000
open Go.RowKit Go.Lib
abbrev KR (l:List Int):List Value:=l.map (Value.int .u8)
theorem HH (a b:List Int):KR (a++b)=KR a++KR b:=List.map_append
theorem Ae3 (x:Int):KR [x]=[Value.int .u8 x]:=rfl
theorem Ur:∀{l:List Int},Dp l->KR l=Lib.byteCells (l.map fun n=>n.toNat.toUInt8)
 |[],_=>rfl
 |x::l,h=>by
  obtain⟨hx,h⟩:=Be h;show Value.int .u8 x::KR l=Value.int .u8 ((x.toNat.toUInt8).toNat:Int)::Lib.byteCells (l.map fun n=>n.toNat.toUInt8)
  rw[Ur h]
  congr 2
  have:(x.toNat.toUInt8).toNat=x.toNat:=by
   show x.toNat % 256=x.toNat;omega
  rw[this];omega
def OA (w:World)(l:List Int)(v:Value):Prop:=∃ad cap,v=.slice ad l.length cap∧l.length<=cap∧(l≠[]->∃b o,ad=some ⟨b,o,none⟩∧b<w.heap.size∧∀j x,l[j]?=some x->w.cell? ⟨b,o+j,none⟩=some (.int .u8 x))
theorem AH {T e:TypeId}{B b:Nat}{bs:List Value}{W W':World}(h:Lib.IsBuilderF T e B b bs W)(hb:Below W.heap.size W W'):Lib.IsBuilderF T e B b bs W':=by
 rcases h with h|h
 ·have B6:=h.lt;obtain⟨hB,v,hv,Fe,Ek⟩:=h;exact .inl ⟨hB,v,(hb.block b B6).trans hv,Fe.kept (row:=none) ⟨hb.os,hb.tape,hb.output,hb.size,fun k hk _=>hb.block k hk⟩ (Classical.em _),Ek⟩
 ·have B6:=h.lt;obtain⟨hB,v,hv,Fe,Ek⟩:=h;exact .inr ⟨hB,v,(hb.block b B6).trans hv,Fe.kept (row:=none) ⟨hb.os,hb.tape,hb.output,hb.size,fun k hk _=>hb.block k hk⟩ (Classical.em _),Ek⟩
theorem K8 {B:Nat}{a:World}(b:Nat)(hb:B<=b):∀(vs:List Value)(o:Nat){w:World},Below B a w->Below B a (w.setCells b o vs)
 |[],_,_,h=>h
 |v::r,o,w,h=>K8 b hb r (o+1) (h.setCell (p:=⟨b,o,none⟩) hb v)
theorem QB (wr:World)(b o cap:Nat)(l:List Int)(Ek:l≠[]) (hb:b<wr.heap.size)(hc:∀j x,l[j]?=some x->wr.cell? ⟨b,o+j,none⟩=some (.int .u8 x)) (a' b' c':Int)(k:Nat)(hk:k=min l.length 3)(ht:[a',b',c'].take k=l.take k) (h3:l.length<3->c'=0)(h2:l.length<2->b'=0):
  ∃W2,(∀ty,(Builtin.copy_ #[22,22] ty #[.slice (some ⟨wr.heap.size,0,none⟩) 3 3,.slice (some ⟨b,o,none⟩) l.length cap]).run prog (wr.alloc (.cells #[.int .u8 0,.int .u8 0,.int .u8 0] 54))=.ok (goInt k) W2)∧Below wr.heap.size wr W2∧wr.heap.size<W2.heap.size ∧
   W2.cell? ⟨wr.heap.size,0,none⟩=some (.int .u8 a')∧W2.cell? ⟨wr.heap.size,1,none⟩=some (.int .u8 b')∧W2.cell? ⟨wr.heap.size,2,none⟩=some (.int .u8 c'):=by
 obtain⟨i0,hi0,Fz,MP⟩:=info_parts P7.infoByte;have Db:(l.take k).length=k:=by simp;omega
 have hc0:∀k,k<3->(wr.alloc (.cells #[.int .u8 0,.int .u8 0,.int .u8 0] 54)).cell? ⟨wr.heap.size,k,none⟩=some (.int .u8 0):=by
  intro k hk;simp only[World.cell?,World.alloc];simp
  match k,hk with
  |0,_=>rfl
  |1,_=>rfl
  |2,_=>rfl
 refine⟨(wr.alloc (.cells #[.int .u8 0,.int .u8 0,.int .u8 0] 54)).setCells wr.heap.size 0 (KR (l.take k)),fun ty=>?_,?_,?_,?_⟩
 ·refine WM _ _ _ ty 5 i0 wr.heap.size 0 3 3 ⟨b,o,none⟩ l.length cap k (KR (l.take k)) ?_ hi0 ?_ ?_ ?_ ?_ ?_ ?_
  ·exact Tryd.underlying22
  ·exact hk
  ·rw[MP.1];simp;omega
  ·intro j v hv
   have e0:(⟨b,o,none⟩:Addr).add j=⟨b,o+j,none⟩:=by
    unfold Addr.add;split
    ·subst j;rfl
    ·rfl
   rw[e0];rw[List.getElem?_map] at hv;obtain⟨x,hx,rfl⟩:=Option.map_eq_some_iff.1 hv
   have Od:l[j]?=some x:=by
    rw[List.getElem?_take] at hx;split at hx
    ·exact hx
    ·cases hx
   exact Lib.cell?_alloc_some _ (hc j x Od)
  ·intro j hj;rw[List.length_map,Db] at hj;rw[hc0 _ (by omega)]
   rfl
  ·intro j hj;exact World.frozen?_alloc_new wr _ _ _
  ·intro v hv;obtain⟨x,_,rfl⟩:=List.mem_map.1 hv;rfl
 ·exact K8 _ (Nat.le_refl _) _ _ ((Below.refl _ wr).alloc (Nat.le_refl _) _)
 ·have:=(K8 (B:=0) wr.heap.size (Nat.zero_le _) (KR (l.take k)) 0 (Below.refl 0 (wr.alloc (.cells #[.int .u8 0,.int .u8 0,.int .u8 0] 54)))).size;have e:(wr.alloc (.cells #[.int .u8 0,.int .u8 0,.int .u8 0] 54)).heap.size=wr.heap.size+1:=Array.size_push _;rw[e] at this;omega
 ·have Eb:k=1∨k=2∨k=3:=by
   have:=List.length_pos_iff.2 Ek;omega
  have Qw:∀i,i<k->∀x,[a',b',c'][i]?=some x->((wr.alloc (.cells #[.int .u8 0,.int .u8 0,.int .u8 0] 54)).setCells wr.heap.size 0 (KR (l.take k))).cell? ⟨wr.heap.size,i,none⟩=some (.int .u8 x):=by
   intro i hi x hx
   have h:=World.cell?_setCells_in wr.heap.size (KR (l.take k)) 0 (wr.alloc (.cells #[.int .u8 0,.int .u8 0,.int .u8 0] 54)) (fun j hj=>by
    rw[List.length_map,Db] at hj;rw[hc0 _ (by omega)]
    rfl) i (by rw[List.length_map,Db];exact hi)
   rw[Nat.zero_add] at h;rw[h]
   have e:(KR (l.take k))[i]?=some (.int .u8 x):=by
    rw[←ht,List.getElem?_map,List.getElem?_take_of_lt hi,hx];rfl
   rw[List.getElem?_eq_getElem (by rw[List.length_map,Db];exact hi)] at e
   exact e
  have Rh:∀i,k<=i->i<3->((wr.alloc (.cells #[.int .u8 0,.int .u8 0,.int .u8 0] 54)).setCells wr.heap.size 0 (KR (l.take k))).cell? ⟨wr.heap.size,i,none⟩=some (.int .u8 0):=by
   intro i hi h3;rw[World.cell?_setCells_out _ _ _ _ _ (fun _ _=>Or.inr (by rw[List.length_map,Db];show 0+k<=i;omega))]
   exact hc0 i h3
  refine⟨Qw 0 (by omega) _ rfl,?_,?_⟩
  ·by_cases h:1<k
   ·exact Qw 1 h _ rfl
   ·rw[h2 (by omega)];exact Rh 1 (by omega) (by omega)
  ·by_cases h:2<k
   ·exact Qw 2 h _ rfl
   ·rw[h3 (by omega)];exact Rh 2 (by omega) (by omega)
set_option maxHeartbeats 4000000 in
theorem TS (l:List Int)(hb:Dp l)(hl:l.length<=100000000)(u:Value)(w:World)(hu:OA w l u):
  Calls prog 12 #[u] w fun e w'=>e=.returned (.string (Ab (D8 l)))∧Below w.heap.size w w':=by
 have mixed:prog.follows Departure.mixedOrders=true:=by kernel_rfl
 go_enter Tryd.func12,Tryd.ntmps12
 go_wp2
 go_loopw [0] (fun v0 wr=>∃done rest,D8 l=done++D8 rest∧Dp done∧Dp rest∧rest.length<=l.length∧done.length+2*rest.length<=2*l.length∧OA w rest v0∧Lib.IsBuilderF 53 5 w.heap.size w.heap.size (KR done) wr∧Below w.heap.size w wr) (fun v0 _=>match v0 with | .slice _ n _=>n|_=>0)
 case atStart=>
  exact⟨[],l,rfl,(fun x hx=>by cases hx),hb,Nat.le_refl _,by simp,hu,Lib.IsBuilderF.of (Lib.fresh_isBuilder 53 5 w),(Below.refl _ w).alloc (Nat.le_refl _) _⟩
 case round=>
  obtain⟨done,rest,he,hd,hr,hrl,hdl,⟨ad,cap,rfl,Q9,Cr⟩,hI,hbw⟩:=hrel;have La:w.heap.size<=wr.heap.size:=hbw.size;by_cases hz:rest=[]
  ·subst hz
   go_wp2_with (go_at_call 25;refine (Any.Builder_String_any_k Zn P7 w.heap.size w.heap.size (done.map fun n=>n.toNat.toUInt8) _ (by rw[←Ur hd];exact hI) (by omega)).mono ?_)
   rintro e W1 ⟨rfl,_,b1,_⟩
   go_wp2
   go_ret
   refine⟨?_,hbw.trans b1⟩;rw[he];simp[D8,Ab]
  ·obtain⟨b,o,rfl,AF,Cr⟩:=Cr hz;have YH:(0:Int)<rest.length:=by have:=List.length_pos_iff.2 hz;omega
   obtain⟨a',b',c',hB3,hen,htk,hc0,AP⟩:=VP rest hr hz;obtain⟨k,hk⟩:∃k,k=min rest.length 3:=⟨_,rfl⟩;rw[←hk] at hen htk;have Du:(0:Int)<=k∧(k:Int)<=3∧(k:Int)<=rest.length:=by omega
   obtain⟨W2,hcp,hbc,hgs,g0,g1,g2⟩:=QB wr b o cap rest hz (by omega) (fun j x hx=>by rw[hbw.cell (p:=⟨b,o+j,none⟩) AF];exact Cr j x hx) a' b' c' k hk htk hc0 AP
   have hkl:k<=rest.length:=by omega
   have hkp:1<=k:=by have:=List.length_pos_iff.2 hz;omega
   clear hk
   go_wp2
   all_goals
    go_loopw [32] (fun v32 W=>∃j:Nat,v32=.int .i64 j∧j<=k+1∧Lib.IsBuilderF 53 5 w.heap.size w.heap.size (KR (done++(H4 a' b' c').take j)) W∧Below w.heap.size w W) (fun v32 _=>match v32 with | .int _ n=>(4-n).toNat|_=>0)
    case atStart=>
     exact⟨0,rfl,by omega,by simpa using AH hI hbc,hbw.trans (hbc.mono La)⟩
    case round=>
     obtain⟨j,rfl,hj,hIj,hbj⟩:=hrel;by_cases hjk:j<k+1
     ·have hj1:(j:Int)<k+1:=by omega
      obtain⟨q,Qf,Qp,hq,hqq⟩:=A0y hB3 j (by omega)
      have ha:=Adc Qf Qp (by rw[WB];omega)
      have A3a:(done++(H4 a' b' c').take j).length+1<=140737488355328:=by
       have:=List.length_take_le j (H4 a' b' c');rw[List.length_append];omega
      have Ate:=hbj.size
      go_wp2_with (go_at_call 24;refine (Any.Builder_WriteByte_k Z3 P7 w.heap.size w.heap.size _ _ _ hIj (by rw[List.length_map];exact A3a) Ate).mono ?_)
      rintro e W1 ⟨rfl,h1,b1,k1⟩
      go_wp2
      go_roundw
      case rel=>
       refine⟨j+1,by simp,by omega,?_,hbj.trans b1⟩
       have e1:(H4 a' b' c').take (j+1)=(H4 a' b' c').take j++[E0 q]:=by
        rw[List.take_add_one,hqq];rfl
       rw[e1,←List.append_assoc,HH,Ae3,←ha];exact Or.inr h1
      case measure=>
       simp;omega
     ·have hj1:¬((j:Int)<k+1):=by omega
      have Avk:j=k+1:=by omega
      subst Avk
      go_wp2
      refine⟨⟨done++(H4 a' b' c').take (k+1),rest.drop k,?_,Iq hd (Aan (Amq hB3) _),XQ hr _,?_,?_,?_,hIj,hbj⟩,?_⟩
      ·rw[List.append_assoc,←hen];exact he
      ·simp;omega
      ·have:=List.length_take_le (k+1) (H4 a' b' c');rw[List.length_append,List.length_drop];omega
      ·refine⟨_,_,by rw[List.length_drop],?_,fun Ek=>?_⟩
       ·rw[List.length_drop];omega
       have:k<rest.length:=by
        rcases Nat.lt_or_ge k rest.length with h|h
        ·exact h
        ·exact absurd (List.drop_eq_nil_iff.2 h) Ek
       first
        |(exfalso;omega)
        |(refine⟨b,o+k,rfl,AF,fun i x hx=>?_⟩;rw[List.getElem?_drop] at hx;rw[Nat.add_assoc];exact Cr _ _ hx)
      ·simp;omega
end
section
open Go.Proofs.Tryd (prog)
open Go.IntKind (wrap)
set_option maxRecDepth 1000000
open Go.RowKit
theorem DK:∀{c:List PV}{l:List Int},Zf c=some l->c=Ck .u8 l∧Dp l
 |[],l,h=>by
  cases h;exact⟨rfl,fun x hx=>by cases hx⟩
 |p::c,l,h=>by
  unfold Zf at h;split at h
  ·rename_i e;cases e
  ·rename_i n r e;cases e;cases hb:(decide (0<=n)&&decide (n<=255))
   ·rw[hb] at h;cases h
   ·rw[hb,cond_true] at h;simp only[Bool.and_eq_true,decide_eq_true_eq] at hb;cases hr:Zf c with
    |none=>rw[hr] at h;cases h
    |some l'=>
     rw[hr] at h;cases h;obtain⟨rfl,h2⟩:=DK hr;refine⟨rfl,fun x hx=>?_⟩
     rcases List.mem_cons.1 hx with rfl|hx
     ·exact hb
     ·exact h2 x hx
  ·cases h
theorem Mx (k:IntKind):∀l:List Int,Ck k l=l.map fun n=>.sc (.int k n)
 |[]=>rfl
 |x::l=>by
  show PV.sc (.int k x)::Ck k l=_;rw[Mx k l];rfl
theorem SY {w:World}{A:Nat->Prop}{bt:Bt}{z:Bool}{l:List Int}{u:Value}(h:MH w A bt (.lst z 1 l.length (Ck .u8 l)) u):OA w l u:=by
 have ht:Ar w A (.lst z 1 l.length (Ck .u8 l)) u:=h.2;generalize hc:Ck .u8 l=c at ht;generalize hn:l.length=n at ht;cases ht with
 |lnil=>exact⟨none,0,by rw[hn],by omega,fun Ek=>absurd (List.eq_nil_of_length_eq_zero hn) Ek⟩
 |lemp _ a cap=>exact⟨some a,cap,by rw[hn],by omega,fun Ek=>absurd (List.eq_nil_of_length_eq_zero hn) Ek⟩
 |lst _ _ _ a cap f hs hb hA hn' Cr h1 hr=>
  obtain⟨b,o,s⟩:=a;cases hs;refine⟨some ⟨b,o,none⟩,cap,by rw[hn],by omega,fun _=>⟨b,o,rfl,hb,fun j x hx=>?_⟩⟩
  have e:c[j]?=some (.sc (.int .u8 x)):=by rw[←hc,Mx,List.getElem?_map,hx];rfl
  have h2:=Cr j _ e;rw[(hr j _ e).val] at h2
  have e0:(⟨b,o,none⟩:Addr).add j=⟨b,o+j,none⟩:=by
   unfold Addr.add;split
   ·subst j;rfl
   ·rfl
  rw[e0] at h2;exact h2
theorem VB (G:Rs)(args:List PV)(res:Ay)(h:Aa8 args=some res):C6 G prog 12 args res:=by
 refine⟨⟨_,Tryd.func12,by kernel_rfl⟩,fun w Y bt us hi _ _=>?_⟩
 unfold Aa8 at h;split at h
 rotate_left
 ·cases h
 rename_i z n c;cases hq:(Nat.beq c.length n&&Nat.ble n 100000000)
 ·rw[hq] at h;cases h
 rw[hq,cond_true] at h;simp only[Bool.and_eq_true] at hq;have hn:=Nat.eq_of_beq_eq_true hq.1;have hm:=Nat.le_of_ble_eq_true hq.2;split at h
 rotate_left
 ·cases h
 rename_i l hl;cases h;obtain⟨rfl,hB⟩:=DK hl
 have Db:l.length=n:=by
  rw[←hn,Mx,List.length_map]
 subst Db;have ps:=hi.args
 match us,ps with
 |[u1],ps=>
  refine (TS l hB hm u1 w (SY ps.1)).mono ?_
  rintro e w' ⟨rfl,hb⟩
  exact⟨[.string (Ab (D8 l))],fun _=>none,rfl,Md hb rfl⟩
 |[],ps=>exact ps.elim
 |_::_::_,ps=>exact ps.2.elim
end
section
open Go.Proofs.Tryd (prog)
open Go.IntKind (wrap)
set_option maxRecDepth 100000
abbrev E7:FuncId:=77
theorem M1 {xs:FuncId->Option (List PV->Option Ay)} (fu d:Nat)(a0 a1:ByteArray):Ae (CX xs) prog fu (d+1) E7 [.sc (.string a0),.sc (.string a1)]=(fun (call:Ax)=>Bh (decide ((↑(ByteArray.size a0):Int)>=(↑(ByteArray.size a1):Int))) (Bj (decide (Int.toNat (↑(ByteArray.size a1):Int)<=ByteArray.size a0))<|Ac (ByteArray.extract a0 0 (Int.toNat (↑(ByteArray.size a1):Int))) fun x1=>some (Ay.mk [.sc (.bool (Array.toList (ByteArray.data x1)==Array.toList (ByteArray.data a1)))] [])) (some (Ay.mk [.sc (.bool false)] []))) (Ae (CX xs) prog fu d):=by kernel_rfl
abbrev Jv:FuncId:=87
theorem Qm {xs:FuncId->Option (List PV->Option Ay)} (fu d:Nat)(a0 a1:ByteArray):Ae (CX xs) prog fu (d+1) Jv [.sc (.string a0),.sc (.string a1)]=(fun (call:Ax)=>Ai (call 77 [.sc (.string a0),.sc (.string a1)]) fun x1 x2=>Ad x2<|Aa x1 fun x3 x4=>Am x3 fun x5=>Ad x4<|some (Ay.mk [.sc (.bool x5)] [])) (Ae (CX xs) prog fu d):=by kernel_rfl
abbrev G4:FuncId:=90
theorem L9 {xs:FuncId->Option (List PV->Option Ay)} (fu d:Nat)(B3:ByteArray)(Bv:Int):Ae (CX xs) prog fu (d+1) G4 [.pbox [.sc (.string B3),.sc (.int .i64 Bv)]]=(fun (call:Ax)=>Bh (decide (Bv<(↑(ByteArray.size B3):Int))) (Bj (decide (0<=Bv))<|Dh ((Array.toList (ByteArray.data B3))[Int.toNat Bv]?) fun x1=>some (Ay.mk [.sc (.int .u8 (↑(UInt8.toNat x1):Int))] [[.sc (.string B3),.sc (.int .i64 Bv)]])) (some (Ay.mk [.sc (.int .u8 0)] [[.sc (.string B3),.sc (.int .i64 Bv)]]))) (Ae (CX xs) prog fu d):=by kernel_rfl
abbrev F7:FuncId:=67
theorem Ko {xs:FuncId->Option (List PV->Option Ay)} (fu d:Nat)(B3:ByteArray)(Bv:Int)(a1:ByteArray):Ae (CX xs) prog fu (d+1) F7 [.pbox [.sc (.string B3),.sc (.int .i64 Bv)],.sc (.string a1)]=(fun (call:Ax)=>Bj (decide (0<=Bv))<|Bj (decide (Int.toNat Bv<=ByteArray.size B3)&&decide (ByteArray.size B3<=ByteArray.size B3))<|Ac (ByteArray.extract B3 Bv.toNat (ByteArray.size B3)) fun x1=>Ai (call 87 [.sc (.string x1),.sc (.string a1)]) fun x2 x3=>Ad x3<|Aa x2 fun x4 x5=>Am x4 fun x6=>Ad x5<|Bh (!x6) (some (Ay.mk [.sc (.bool false)] [[.sc (.string B3),.sc (.int .i64 Bv)]])) (Ac (wrap .i64 (Bv+(↑(ByteArray.size a1):Int))) fun x7=>some (Ay.mk [.sc (.bool true)] [[.sc (.string B3),.sc (.int .i64 x7)]]))) (Ae (CX xs) prog fu d):=by kernel_rfl
abbrev Kn:FuncId:=115
theorem Rz {xs:FuncId->Option (List PV->Option Ay)} (fu d:Nat)(a0:Int):Ae (CX xs) prog fu (d+1) Kn [.sc (.int .i32 a0)]=(fun (call:Ax)=>Bh (decide (a0>=56320)) (some (Ay.mk [.sc (.bool (decide (a0<=57343)))] [])) (some (Ay.mk [.sc (.bool false)] []))) (Ae (CX xs) prog fu d):=by kernel_rfl
abbrev F1:FuncId:=114
noncomputable def Bb (fu:Nat)(call:Ax)(B3:ByteArray)(Bv:Int)(nn:Nat)(y0 y1:Int)(y2:ByteArray)(y3:Int):Option Ay:=I3 CB prog fu call 114 Tryd.f114 (Gb Tryd.f114) [.pbox [.sc (.string B3),.sc (.int .i64 Bv)]] [.r,.r,.l,.r,.l] nn ⟨lk [(0,(.ptr 120000 0)),(4,(.sc (.int .i32 y0))),(6,(.sc (.int .i64 y1)))],Jz [(120000,(.st [(.sc (.string y2)),(.sc (.int .i64 y3))]))]⟩
theorem E6 (fu:Nat)(call:Ax)(B3:ByteArray)(Bv:Int)(nn:Nat)(y0 y1:Int)(y2:ByteArray)(y3:Int):Bb fu call B3 Bv (nn+1) y0 y1 y2 y3=(Bh (decide (y1<4)) (Ai (call 90 [.pbox [.sc (.string y2),.sc (.int .i64 y3)]]) fun x1 x2=>Aa x1 fun x3 x4=>Aw .u8 x3 fun x5=>Ad x4<|Aa x2 fun x6 x7=>Aa x6 fun x8 x9=>A0 x8 fun F6=>Aa x9 fun L6 N0=>Aw .i64 L6 fun F0=>Ad N0<|Ad x7<|Bh (decide (x5>=48)) (Bh (decide (x5<=57)) (Ac (Le .i32 y0 4) fun Kb=>Ac (wrap .u8 (x5-48)) fun Ni=>Ac (wrap .i32 Ni) fun Lp=>Ac (wrap .i32 (Kb+Lp)) fun K0=>Ac (wrap .i64 (F0+1)) fun N3=>Ac (wrap .i64 (y1+1)) fun Nz=>Bb fu call B3 Bv (nn) K0 Nz F6 N3) (Bh (decide (x5>=97)) (Bh (decide (x5<=102)) (Ac (Le .i32 y0 4) fun N8=>Ac (wrap .u8 (x5-97)) fun Oc=>Ac (wrap .i32 Oc) fun P8=>Ac (wrap .i32 (N8+P8)) fun M4=>Ac (wrap .i32 (M4+10)) fun Qi=>Ac (wrap .i64 (F0+1)) fun M3=>Ac (wrap .i64 (y1+1)) fun M8=>Bb fu call B3 Bv (nn) Qi M8 F6 M3) (Bh (decide (x5>=65)) (Bh (decide (x5<=70)) (Ac (Le .i32 y0 4) fun Qe=>Ac (wrap .u8 (x5-65)) fun Rm=>Ac (wrap .i32 Rm) fun Ov=>Ac (wrap .i32 (Qe+Ov)) fun Q4=>Ac (wrap .i32 (Q4+10)) fun R1=>Ac (wrap .i64 (F0+1)) fun Tc=>Ac (wrap .i64 (y1+1)) fun Ul=>Bb fu call B3 Bv (nn) R1 Ul F6 Tc) (some (Ay.mk [.sc (.int .i32 0),.sc (.bool false)] [[.sc (.string F6),.sc (.int .i64 F0)]]))) (some (Ay.mk [.sc (.int .i32 0),.sc (.bool false)] [[.sc (.string F6),.sc (.int .i64 F0)]])))) (Bh (decide (x5>=65)) (Bh (decide (x5<=70)) (Ac (Le .i32 y0 4) fun Uc=>Ac (wrap .u8 (x5-65)) fun Us=>Ac (wrap .i32 Us) fun V1=>Ac (wrap .i32 (Uc+V1)) fun Wy=>Ac (wrap .i32 (Wy+10)) fun Y7=>Ac (wrap .i64 (F0+1)) fun Rt=>Ac (wrap .i64 (y1+1)) fun CU=>Bb fu call B3 Bv (nn) Y7 CU F6 Rt) (some (Ay.mk [.sc (.int .i32 0),.sc (.bool false)] [[.sc (.string F6),.sc (.int .i64 F0)]]))) (some (Ay.mk [.sc (.int .i32 0),.sc (.bool false)] [[.sc (.string F6),.sc (.int .i64 F0)]]))))) (Bh (decide (x5>=97)) (Bh (decide (x5<=102)) (Ac (Le .i32 y0 4) fun DA=>Ac (wrap .u8 (x5-97)) fun Rn=>Ac (wrap .i32 Rn) fun O3=>Ac (wrap .i32 (DA+O3)) fun AM=>Ac (wrap .i32 (AM+10)) fun AB=>Ac (wrap .i64 (F0+1)) fun FT=>Ac (wrap .i64 (y1+1)) fun DJ=>Bb fu call B3 Bv (nn) AB DJ F6 FT) (Bh (decide (x5>=65)) (Bh (decide (x5<=70)) (Ac (Le .i32 y0 4) fun HQ=>Ac (wrap .u8 (x5-65)) fun AV=>Ac (wrap .i32 AV) fun AD=>Ac (wrap .i32 (HQ+AD)) fun DR=>Ac (wrap .i32 (DR+10)) fun DB=>Ac (wrap .i64 (F0+1)) fun EW=>Ac (wrap .i64 (y1+1)) fun Xh=>Bb fu call B3 Bv (nn) DB Xh F6 EW) (some (Ay.mk [.sc (.int .i32 0),.sc (.bool false)] [[.sc (.string F6),.sc (.int .i64 F0)]]))) (some (Ay.mk [.sc (.int .i32 0),.sc (.bool false)] [[.sc (.string F6),.sc (.int .i64 F0)]])))) (Bh (decide (x5>=65)) (Bh (decide (x5<=70)) (Ac (Le .i32 y0 4) fun HY=>Ac (wrap .u8 (x5-65)) fun KF=>Ac (wrap .i32 KF) fun HW=>Ac (wrap .i32 (HY+HW)) fun HM=>Ac (wrap .i32 (HM+10)) fun LI=>Ac (wrap .i64 (F0+1)) fun KK=>Ac (wrap .i64 (y1+1)) fun JS=>Bb fu call B3 Bv (nn) LI JS F6 KK) (some (Ay.mk [.sc (.int .i32 0),.sc (.bool false)] [[.sc (.string F6),.sc (.int .i64 F0)]]))) (some (Ay.mk [.sc (.int .i32 0),.sc (.bool false)] [[.sc (.string F6),.sc (.int .i64 F0)]]))))) (some (Ay.mk [.sc (.int .i32 y0),.sc (.bool true)] [[.sc (.string y2),.sc (.int .i64 y3)]]))):=by kernel_rfl
theorem Ka {xs:FuncId->Option (List PV->Option Ay)} (fu d:Nat)(B3:ByteArray)(Bv:Int):Ae (CX xs) prog fu (d+1) F1 [.pbox [.sc (.string B3),.sc (.int .i64 Bv)]]=(fun (call:Ax)=>Bb fu call B3 Bv (fu) 0 0 (B3) (Bv)) (Ae (CX xs) prog fu d):=by kernel_rfl
abbrev Fs:FuncId:=105
theorem Jj {xs:FuncId->Option (List PV->Option Ay)} (fu d:Nat)(B3:ByteArray)(Bv:Int):Ae (CX xs) prog fu (d+1) Fs [.pbox [.sc (.string B3),.sc (.int .i64 Bv)]]=(fun (call:Ax)=>Ai (call 114 [.pbox [.sc (.string B3),.sc (.int .i64 Bv)]]) fun x1 x2=>Aa x1 fun x3 x4=>Aw .i32 x3 fun x5=>Aa x4 fun x6 x7=>Am x6 fun x8=>Ad x7<|Aa x2 fun x9 F6=>Aa x9 fun L6 N0=>A0 L6 fun F0=>Aa N0 fun Kb Ni=>Aw .i64 Kb fun Lp=>Ad Ni<|Ad F6<|Bh (!x8) (some (Ay.mk [.sc (.int .i32 0),.sc (.bool false)] [[.sc (.string F0),.sc (.int .i64 Lp)]])) (Ai (call 115 [.sc (.int .i32 x5)]) fun K0 N3=>Ad N3<|Aa K0 fun Nz N8=>Am Nz fun Oc=>Ad N8<|Bh Oc (some (Ay.mk [.sc (.int .i32 0),.sc (.bool false)] [[.sc (.string F0),.sc (.int .i64 Lp)]])) (Bh (decide (x5<55296)) (some (Ay.mk [.sc (.int .i32 x5),.sc (.bool true)] [[.sc (.string F0),.sc (.int .i64 Lp)]])) (Bh (decide (x5>56319)) (some (Ay.mk [.sc (.int .i32 x5),.sc (.bool true)] [[.sc (.string F0),.sc (.int .i64 Lp)]])) (Ai (call 67 [.pbox [.sc (.string F0),.sc (.int .i64 Lp)],.sc (.string (ByteArray.mk #[92,117]))]) fun P8 M4=>Aa P8 fun Qi M3=>Am Qi fun M8=>Ad M3<|Aa M4 fun Qe Rm=>Aa Qe fun Ov Q4=>A0 Ov fun R1=>Aa Q4 fun Tc Ul=>Aw .i64 Tc fun Uc=>Ad Ul<|Ad Rm<|Bh (!M8) (some (Ay.mk [.sc (.int .i32 0),.sc (.bool false)] [[.sc (.string R1),.sc (.int .i64 Uc)]])) (Ai (call 114 [.pbox [.sc (.string R1),.sc (.int .i64 Uc)]]) fun Us V1=>Aa Us fun Wy Y7=>Aw .i32 Wy fun Rt=>Aa Y7 fun CU DA=>Am CU fun Rn=>Ad DA<|Aa V1 fun O3 AM=>Aa O3 fun AB FT=>A0 AB fun DJ=>Aa FT fun HQ AV=>Aw .i64 HQ fun AD=>Ad AV<|Ad AM<|Bh (!Rn) (some (Ay.mk [.sc (.int .i32 0),.sc (.bool false)] [[.sc (.string DJ),.sc (.int .i64 AD)]])) (Ai (call 115 [.sc (.int .i32 Rt)]) fun DR DB=>Ad DB<|Aa DR fun EW Xh=>Am EW fun HY=>Ad Xh<|Bh (!HY) (some (Ay.mk [.sc (.int .i32 0),.sc (.bool false)] [[.sc (.string DJ),.sc (.int .i64 AD)]])) (Ac (wrap .i32 (x5-55296)) fun KF=>Ac (Le .i32 KF 10) fun HW=>Ac (wrap .i32 (65536+HW)) fun HM=>Ac (wrap .i32 (Rt-56320)) fun LI=>Ac (wrap .i32 (HM+LI)) fun KK=>some (Ay.mk [.sc (.int .i32 KK),.sc (.bool true)] [[.sc (.string DJ),.sc (.int .i64 AD)]]))))))))) (Ae (CX xs) prog fu d):=by kernel_rfl
abbrev Fa:FuncId:=88
theorem Ik {xs:FuncId->Option (List PV->Option Ay)} (fu d:Nat)(B3:ByteArray)(Bv:Int):Ae (CX xs) prog fu (d+1) Fa [.pbox [.sc (.string B3),.sc (.int .i64 Bv)]]=(fun (call:Ax)=>Ai (call 67 [.pbox [.sc (.string B3),.sc (.int .i64 Bv)],.sc (.string (ByteArray.mk #[117]))]) fun x1 x2=>Aa x1 fun x3 x4=>Am x3 fun x5=>Ad x4<|Aa x2 fun x6 x7=>Aa x6 fun x8 x9=>A0 x8 fun F6=>Aa x9 fun L6 N0=>Aw .i64 L6 fun F0=>Ad N0<|Ad x7<|Bh x5 (Ai (call 105 [.pbox [.sc (.string F6),.sc (.int .i64 F0)]]) fun Kb Ni=>Aa Kb fun Lp K0=>Aw .i32 Lp fun N3=>Aa K0 fun Nz N8=>Am Nz fun Oc=>Ad N8<|Aa Ni fun P8 M4=>Aa P8 fun Qi M3=>A0 Qi fun M8=>Aa M3 fun Qe Rm=>Aw .i64 Qe fun Ov=>Ad Rm<|Ad M4<|some (Ay.mk [.sc (.int .i32 N3),.sc (.bool Oc)] [[.sc (.string M8),.sc (.int .i64 Ov)]])) (Ai (call 90 [.pbox [.sc (.string F6),.sc (.int .i64 F0)]]) fun Q4 R1=>Aa Q4 fun Tc Ul=>Aw .u8 Tc fun Uc=>Ad Ul<|Aa R1 fun Us V1=>Aa Us fun Wy Y7=>A0 Wy fun Rt=>Aa Y7 fun CU DA=>Aw .i64 CU fun Rn=>Ad DA<|Ad V1<|Ac (wrap .i32 Uc) fun O3=>Bh (O3==34) (Ac (wrap .i64 (Rn+1)) fun AM=>some (Ay.mk [.sc (.int .i32 O3),.sc (.bool true)] [[.sc (.string Rt),.sc (.int .i64 AM)]])) (Bh (O3==92) (Ac (wrap .i64 (Rn+1)) fun AB=>some (Ay.mk [.sc (.int .i32 O3),.sc (.bool true)] [[.sc (.string Rt),.sc (.int .i64 AB)]])) (Bh (O3==47) (Ac (wrap .i64 (Rn+1)) fun FT=>some (Ay.mk [.sc (.int .i32 O3),.sc (.bool true)] [[.sc (.string Rt),.sc (.int .i64 FT)]])) (Bh (O3==98) (Ac (wrap .i64 (Rn+1)) fun DJ=>some (Ay.mk [.sc (.int .i32 8),.sc (.bool true)] [[.sc (.string Rt),.sc (.int .i64 DJ)]])) (Bh (O3==102) (Ac (wrap .i64 (Rn+1)) fun HQ=>some (Ay.mk [.sc (.int .i32 12),.sc (.bool true)] [[.sc (.string Rt),.sc (.int .i64 HQ)]])) (Bh (O3==110) (Ac (wrap .i64 (Rn+1)) fun AV=>some (Ay.mk [.sc (.int .i32 10),.sc (.bool true)] [[.sc (.string Rt),.sc (.int .i64 AV)]])) (Bh (O3==114) (Ac (wrap .i64 (Rn+1)) fun AD=>some (Ay.mk [.sc (.int .i32 13),.sc (.bool true)] [[.sc (.string Rt),.sc (.int .i64 AD)]])) (Bh (O3==116) (Ac (wrap .i64 (Rn+1)) fun DR=>some (Ay.mk [.sc (.int .i32 9),.sc (.bool true)] [[.sc (.string Rt),.sc (.int .i64 DR)]])) (some (Ay.mk [.sc (.int .i32 0),.sc (.bool false)] [[.sc (.string Rt),.sc (.int .i64 Rn)]]))))))))))) (Ae (CX xs) prog fu d):=by kernel_rfl
end
section
open Go.Proofs.Tryd (prog)
open Go.IntKind (wrap)
def C8 (t:ByteArray)(r:List Int):Prop:=∃pre,Ea t=pre++r
theorem C8.all (t:ByteArray):C8 t (Ea t):=⟨[],rfl⟩
theorem C8.len {t:ByteArray}{r:List Int}(h:C8 t r):r.length<=t.size:=by
 obtain⟨pre,h⟩:=h;have:=congrArg List.length h;rw[Kp,List.length_append] at this;omega
theorem C8.app {t:ByteArray}{a r:List Int}(h:C8 t (a++r)):C8 t r:=by
 obtain⟨pre,h⟩:=h;exact⟨pre++a,by rw[h,List.append_assoc]⟩
theorem C8.tail {t:ByteArray}{c:Int}{r:List Int}(h:C8 t (c::r)):C8 t r:=C8.app (a:=[c]) h
theorem C8.drop {t:ByteArray}{r:List Int}(h:C8 t r)(k:Nat):C8 t (r.drop k):=by
 rw[←List.take_append_drop k r] at h;exact h.app
def Bp (t:ByteArray)(r:List Int):Nat:=t.size-r.length
theorem C8.eq {t:ByteArray}{r:List Int}(h:C8 t r):r=(Ea t).drop (Bp t r):=by
 have hl:=h.len;obtain⟨pre,h⟩:=h
 have e:Bp t r=pre.length:=by
  have:=congrArg List.length h;rw[Kp,List.length_append] at this;unfold Bp;omega
 rw[e,h,List.drop_left]
theorem C8.B {t:ByteArray}{r:List Int}(h:C8 t r):Dp r:=by
 obtain⟨pre,h⟩:=h;exact fun x hx=>PG t x (by rw[h];exact List.mem_append_right _ hx)
theorem C8.at {t:ByteArray}{c:Int}{r:List Int}(h:C8 t (c::r)):∃b:UInt8,(Array.toList t.data)[Bp t (c::r)]?=some b∧(b.toNat:Int)=c:=by
 have he:=h.eq
 have:(Ea t)[Bp t (c::r)]?=some c:=by
  have:=congrArg (fun l=>l[0]?) he
  rw[List.getElem?_drop] at this;exact this.symm
 unfold Ea at this;rw[List.getElem?_map] at this;obtain⟨b,hb,rfl⟩:=Option.map_eq_some_iff.1 this;exact⟨b,hb,rfl⟩
theorem Kd {t:ByteArray}{c:Int}{r:List Int}(h:C8 t (c::r)):Bp t r=Bp t (c::r)+1:=by
 have:=h.len;unfold Bp;rw[RS] at this ⊢;omega
theorem R5 (t:ByteArray):Bp t []=t.size:=rfl
abbrev Bu (t:ByteArray)(r:List Int):List PV:=[.sc (.string t),.sc (.int .i64 (Bp t r:Int))]
def HN:List Int->Int
 |[]=>0
 |c::_=>c
section
variable {fu d:Nat} {xs:FuncId->Option (List PV->Option Ay)}
theorem K9 {t:ByteArray}{r:List Int}(h:C8 t r):Ae (CX xs) prog fu (d+1) G4 [.pbox (Bu t r)]=some ⟨[.sc (.int .u8 (HN r))],[Bu t r]⟩:=by
 rw[L9];cases r with
 |nil=>
  show _=some (Ay.mk [.sc (.int .u8 0)] [[.sc (.string t),.sc (.int .i64 (Bp t []:Int))]]);rw[R5];have e:decide ((t.size:Int)<(t.size:Int))=false:=by simp
  simp only[D4,e]
 |cons c r=>
  have hl:=h.len;obtain⟨b,hb,rfl⟩:=h.at
  have hp:Bp t ((b.toNat:Int)::r)<t.size:=by
   unfold Bp;rw[RS] at hl ⊢;omega
  have e:decide ((Bp t ((b.toNat:Int)::r):Int)<(t.size:Int))=true:=by simp;omega
  have e2:decide ((0:Int)<=(Bp t ((b.toNat:Int)::r):Int))=true:=by simp
  rw[←N4 (Bp t ((b.toNat:Int)::r))] at hb;simp only[D4,e,e2,hb,HN]
theorem V4 {s:ByteArray}{a:Nat}:s.extract a s.size=Ab ((Ea s).drop a):=by
 rw[←H0 (s.extract a s.size)]
 congr 1
 unfold Ea;rw[ByteArray.data_extract,Array.toList_extract,List.extract_eq_take_drop,←List.map_drop,Zzf];rw[List.length_drop];exact Nat.le_refl _
theorem Sy {s:ByteArray}{n:Nat}:s.extract 0 n=Ab ((Ea s).take n):=by
 rw[←H0 (s.extract 0 n)]
 congr 1
 unfold Ea;rw[ByteArray.data_extract,Array.toList_extract,List.extract_eq_take_drop,Nat.sub_zero,List.drop_zero,List.map_take]
theorem Ag0 {a w:List Int}(ha:Dp a)(hw:Dp w):Ae (CX xs) prog fu (d+1) E7 [.sc (.string (Ab a)),.sc (.string (Ab w))]=some ⟨[.sc (.bool (w.isPrefixOf a))],[]⟩:=by
 rw[M1,An,An];by_cases hl:w.length<=a.length
 ·have e1:decide ((a.length:Int)>=(w.length:Int))=true:=by simp;omega
  have e2:decide (Int.toNat (w.length:Int)<=a.length)=true:=by rw[N4];simp;exact hl
  have e3:(Ab a).extract 0 (Int.toNat (w.length:Int))=Ab (a.take w.length):=by
   rw[N4,Sy,Cq ha]
  have e4:(Array.toList (Ab (a.take w.length)).data==Array.toList (Ab w).data)=w.isPrefixOf a:=by
   rw[Bool.eq_iff_iff,List.isPrefixOf_iff_prefix,beq_iff_eq];constructor
   ·intro h
    have h2:Ab (a.take w.length)=Ab w:=by
     cases hx:Ab (a.take w.length);cases hy:Ab w;rw[hx,hy] at h;exact congrArg ByteArray.mk (Array.toList_inj.1 h)
    have h3:=congrArg Ea h2;rw[Cq hw,Cq (fun x hx=>ha x (List.mem_of_mem_take hx))] at h3
    exact List.prefix_iff_eq_take.2 h3.symm
   ·intro h;rw[←List.prefix_iff_eq_take.1 h]
  simp only[D4,e1,e2,e3,e4]
 ·have e1:decide ((a.length:Int)>=(w.length:Int))=false:=by simp;omega
  have e4:w.isPrefixOf a=false:=by
   rw[Bool.eq_false_iff,ne_eq,List.isPrefixOf_iff_prefix];exact fun h=>hl h.length_le
  simp only[D4,e1,e4]
theorem Av9 {a w:List Int}(ha:Dp a)(hw:Dp w):Ae (CX xs) prog fu (d+2) Jv [.sc (.string (Ab a)),.sc (.string (Ab w))]=some ⟨[.sc (.bool (w.isPrefixOf a))],[]⟩:=by
 rw[Qm];have e:Ae (CX xs) prog fu (d+1) E7 [.sc (.string (Ab a)),.sc (.string (Ab w))]=_:=Ag0 ha hw;simp only[D4,e]
theorem Pb {t:ByteArray}{r w:List Int}(h:C8 t r)(ht:t.size<=1000000)(hw:Dp w)(hw2:w.length<=100):Ae (CX xs) prog fu (d+3) F7 [.pbox (Bu t r),.sc (.string (Ab w))]=some (match Aq w r with|some r'=>⟨[.sc (.bool true)],[Bu t r']⟩|none=>⟨[.sc (.bool false)],[Bu t r]⟩):=by
 have hl:=h.len;have he:=h.eq;have hp:Bp t r<=t.size:=Nat.sub_le _ _;have hh:=Av9 (fu:=fu) (d:=d) (xs:=xs) h.B hw;have e1:decide ((0:Int)<=(Bp t r:Int))=true:=by simp
 have e2:(decide (Int.toNat (Bp t r:Int)<=t.size)&&decide (t.size<=t.size))=true:=by
  rw[N4];simp;exact hp
 have e3:t.extract (Int.toNat (Bp t r:Int)) t.size=Ab r:=by rw[N4,V4,←he]
 rw[Ko];unfold Aq;by_cases hq:w.isPrefixOf r=true
 ·rw[Ev hq];rw[hq] at hh
  have hwl:w.length<=r.length:=by
   have:=List.IsPrefix.length_le (List.isPrefixOf_iff_prefix.1 hq);exact this
  have e4:wrap .i64 ((Bp t r:Int)+((Ab w).size:Int))=(Bp t (r.drop w.length):Int):=by
   rw[An,Bc (by omega) (by omega)]
   unfold Bp;rw[List.length_drop];omega
  simp only[D4,e1,e2,e3,hh,e4,Dg]
 ·rw[Dr hq];have Ia:w.isPrefixOf r=false:=Bool.eq_false_iff.2 hq;rw[Ia] at hh;simp only[D4,e1,e2,e3,hh,D3]
theorem Afs (x:Int):Ae (CX xs) prog fu (d+1) Kn [.sc (.int .i32 x)]=some ⟨[.sc (.bool (EY x))],[]⟩:=by
 rw[Rz];unfold EY;by_cases h:56320<=x
 ·have e:decide (x>=56320)=true:=by simp;omega
  have e2:decide (56320<=x)=true:=by simp;omega
  simp only[D4,e,e2,Bool.true_and]
 ·have e:decide (x>=56320)=false:=by simp;omega
  have e2:decide (56320<=x)=false:=by simp;omega
  simp only[D4,e,e2,WO]
def Af5 (t:ByteArray)(o:PR Int):Ay:=⟨[.sc (.int .i32 (o.1.getD 0)),.sc (.bool o.1.isSome)],[Bu t o.2]⟩
theorem CR (c:Int):(48<=c∧c<=57∧NH c=some (c-48))∨(97<=c∧c<=102∧NH c=some (c-87))∨(65<=c∧c<=70∧NH c=some (c-55))∨(¬(48<=c∧c<=57)∧¬(97<=c∧c<=102)∧¬(65<=c∧c<=70)∧NH c=none):=by
 unfold NH;by_cases h1:48<=c∧c<=57
 ·exact .inl ⟨h1.1,h1.2,Ev h1⟩
 ·by_cases h2:97<=c∧c<=102
  ·exact .inr (.inl ⟨h2.1,h2.2,by rw[Dr h1,Ev h2]⟩)
  ·by_cases h3:65<=c∧c<=70
   ·exact .inr (.inr (.inl ⟨h3.1,h3.2,by rw[Dr h1,Dr h2,Ev h3]⟩))
   ·exact .inr (.inr (.inr ⟨h1,h2,h3,by rw[Dr h1,Dr h2,Dr h3]⟩))
theorem El {x:Int}(h1: -2147483648<=x)(h2:x<=2147483647):wrap .i32 x=x:=by
 have:=IntWalk.i32_in x (by omega)
 exact this
theorem Are {x:Int}(h0:0<=x)(h1:x<65536):Le .i32 x 4=x*16:=by
 show wrap .i32 (x*2 ^ (min (4:Int).toNat IntKind.i32.bits))=_;rw[show min (4:Int).toNat IntKind.i32.bits=4 from rfl]
 exact El (by omega) (by omega)
theorem Su {t s0:ByteArray}{p0:Int}(ht:t.size<=1000000):∀(n:Nat)(nn:Nat)(x:Int)(r:List Int),n<=4->n+1<=nn->0<=x->x<16 ^ (4-n)->C8 t r ->
  Bb fu (Ae (CX xs) prog fu (d+1)) s0 p0 nn x ((4-n:Nat):Int) t (Bp t r:Int)=some (Af5 t (Qk n x r))
 |0,nn,x,r,_,Lj,h0,h1,h=>by
  obtain⟨k,rfl⟩:∃k,nn=k+1:=⟨nn-1,by omega⟩
  rw[E6];simp only[D4,show decide (((4-0:Nat):Int)<4)=false from rfl]
  rfl
 |n+1,nn,x,r,hn,Lj,h0,h1,h=>by
  obtain⟨k,rfl⟩:∃k,nn=k+1:=⟨nn-1,by omega⟩
  have pk:=K9 (fu:=fu) (d:=d) (xs:=xs) h;have hl:=h.len
  have hx:x<4096:=by
   have:n+1=1∨n+1=2∨n+1=3∨n+1=4:=by omega
   rcases this with e|e|e|e<;>rw[e] at h1<;>simp at h1<;>omega
  have Od:∀v,0<=v->v<=15->x*16+v<16 ^ (4-n):=by
   intro v hv0 hv1;have e:4-n=(4-(n+1))+1:=by omega
   rw[e,Int.pow_succ];omega
  have e4:decide (((4-(n+1):Nat):Int)<4)=true:=by simp;omega
  have e5:wrap .i64 (((4-(n+1):Nat):Int)+1)=((4-n:Nat):Int):=by rw[Bc (by omega) (by omega)];omega
  have sh:=Are h0 (by omega)
  rw[E6];cases r with
  |nil=>
   have pk2:Ae (CX xs) prog fu (d+1) 90 [.pbox (Bu t [])]=some ⟨[.sc (.int .u8 0)],[Bu t []]⟩:=pk
   try unfold Ac
   repeat first
    |((with_reducible first|apply A6|apply Au|apply A1|apply At|apply A3|apply Dv|apply Av|apply A2|apply A5);· first|with_reducible rfl|(simp (disch:=omega) only[gT,e4,pk2,Int.reduceGE,decide_false,decide_true]<;>first|with_reducible rfl|omega)|omega)
    |(with_reducible apply A4;· first|with_reducible rfl|(simp (disch:=omega) only[gF,e4,pk2,Int.reduceGE,decide_false,decide_true]<;>omega))
   try simp (disch:=omega) only[e4,pk2,Int.reduceGE,decide_false,decide_true]
   rfl
  |cons c r=>
   have hc:=h.B c (by simp)
   have hp:=Kd h
   have e6:wrap .i64 ((Bp t (c::r):Int)+1)=(Bp t r:Int):=by
    rw[hp,Bc (by unfold Bp;omega) (by unfold Bp;omega)];omega
   have pk2:Ae (CX xs) prog fu (d+1) 90 [.pbox (Bu t (c::r))]=some ⟨[.sc (.int .u8 c)],[Bu t (c::r)]⟩:=pk;unfold Qk;rcases CR c with⟨g1,g2,g3⟩|⟨g1,g2,g3⟩|⟨g1,g2,g3⟩|⟨g1,g2,g3,g4⟩
   ·rw[g3];have ih:=Su (s0:=s0) (p0:=p0) ht n k (x*16+(c-48)) r (by omega) (by omega) (by omega) (Od _ (by omega) (by omega)) h.tail
    have w1:wrap .u8 (c-48)=c-48:=Wz (by omega) (by omega)
    have w2:wrap .i32 (c-48)=c-48:=El (by omega) (by omega)
    have w3:wrap .i32 (x*16+(c-48))=x*16+(c-48):=El (by omega) (by omega)
    try unfold Ac
    repeat first
     |((with_reducible first|apply A6|apply Au|apply A1|apply At|apply A3|apply Dv|apply Av|apply A2|apply A5);· first|with_reducible rfl|(simp (disch:=omega) only[gT,e4,pk2,sh,w1,w2,w3,e5,e6,ih]<;>first|with_reducible rfl|omega)|omega)
     |(with_reducible apply A4;· first|with_reducible rfl|(simp (disch:=omega) only[gF,e4,pk2,sh,w1,w2,w3,e5,e6,ih]<;>omega))
    try simp (disch:=omega) only[e4,pk2,sh,w1,w2,w3,e5,e6,ih]
   ·rw[g3];have ih:=Su (s0:=s0) (p0:=p0) ht n k (x*16+(c-87)) r (by omega) (by omega) (by omega) (Od _ (by omega) (by omega)) h.tail
    have w1:wrap .u8 (c-97)=c-97:=Wz (by omega) (by omega)
    have w2:wrap .i32 (c-97)=c-97:=El (by omega) (by omega)
    have w3:wrap .i32 (x*16+(c-97))=x*16+(c-97):=El (by omega) (by omega)
    have w4:wrap .i32 (x*16+(c-97)+10)=x*16+(c-87):=by rw[El (by omega) (by omega)];omega
    try unfold Ac
    repeat first
     |((with_reducible first|apply A6|apply Au|apply A1|apply At|apply A3|apply Dv|apply Av|apply A2|apply A5);· first|with_reducible rfl|(simp (disch:=omega) only[gT,e4,pk2,sh,w1,w2,w3,w4,e5,e6,ih]<;>first|with_reducible rfl|omega)|omega)
     |(with_reducible apply A4;· first|with_reducible rfl|(simp (disch:=omega) only[gF,e4,pk2,sh,w1,w2,w3,w4,e5,e6,ih]<;>omega))
    try simp (disch:=omega) only[e4,pk2,sh,w1,w2,w3,w4,e5,e6,ih]
   ·rw[g3];have ih:=Su (s0:=s0) (p0:=p0) ht n k (x*16+(c-55)) r (by omega) (by omega) (by omega) (Od _ (by omega) (by omega)) h.tail
    have w1:wrap .u8 (c-65)=c-65:=Wz (by omega) (by omega)
    have w2:wrap .i32 (c-65)=c-65:=El (by omega) (by omega)
    have w3:wrap .i32 (x*16+(c-65))=x*16+(c-65):=El (by omega) (by omega)
    have w4:wrap .i32 (x*16+(c-65)+10)=x*16+(c-55):=by rw[El (by omega) (by omega)];omega
    try unfold Ac
    repeat first
     |((with_reducible first|apply A6|apply Au|apply A1|apply At|apply A3|apply Dv|apply Av|apply A2|apply A5);· first|with_reducible rfl|(simp (disch:=omega) only[gT,e4,pk2,sh,w1,w2,w3,w4,e5,e6,ih]<;>first|with_reducible rfl|omega)|omega)
     |(with_reducible apply A4;· first|with_reducible rfl|(simp (disch:=omega) only[gF,e4,pk2,sh,w1,w2,w3,w4,e5,e6,ih]<;>omega))
    try simp (disch:=omega) only[e4,pk2,sh,w1,w2,w3,w4,e5,e6,ih]
   ·rw[g4];by_cases k1:48<=c
    ·by_cases k2:97<=c
     ·skip
      try unfold Ac
      repeat first
       |((with_reducible first|apply A6|apply Au|apply A1|apply At|apply A3|apply Dv|apply Av|apply A2|apply A5);· first|with_reducible rfl|(simp (disch:=omega) only[gT,e4,pk2]<;>first|with_reducible rfl|omega)|omega)
       |(with_reducible apply A4;· first|with_reducible rfl|(simp (disch:=omega) only[gF,e4,pk2]<;>omega))
      try simp (disch:=omega) only[e4,pk2]
      rfl
     ·by_cases k3:65<=c
      ·skip
       try unfold Ac
       repeat first
        |((with_reducible first|apply A6|apply Au|apply A1|apply At|apply A3|apply Dv|apply Av|apply A2|apply A5);· first|with_reducible rfl|(simp (disch:=omega) only[gT,e4,pk2]<;>first|with_reducible rfl|omega)|omega)
        |(with_reducible apply A4;· first|with_reducible rfl|(simp (disch:=omega) only[gF,e4,pk2]<;>omega))
       try simp (disch:=omega) only[e4,pk2]
       rfl
      ·skip
       try unfold Ac
       repeat first
        |((with_reducible first|apply A6|apply Au|apply A1|apply At|apply A3|apply Dv|apply Av|apply A2|apply A5);· first|with_reducible rfl|(simp (disch:=omega) only[gT,e4,pk2]<;>first|with_reducible rfl|omega)|omega)
        |(with_reducible apply A4;· first|with_reducible rfl|(simp (disch:=omega) only[gF,e4,pk2]<;>omega))
       try simp (disch:=omega) only[e4,pk2]
       rfl
    ·skip
     try unfold Ac
     repeat first
      |((with_reducible first|apply A6|apply Au|apply A1|apply At|apply A3|apply Dv|apply Av|apply A2|apply A5);· first|with_reducible rfl|(simp (disch:=omega) only[gT,e4,pk2]<;>first|with_reducible rfl|omega)|omega)
      |(with_reducible apply A4;· first|with_reducible rfl|(simp (disch:=omega) only[gF,e4,pk2]<;>omega))
     try simp (disch:=omega) only[e4,pk2]
     rfl
theorem Ag6 {t:ByteArray}{r:List Int}(Fv:10<=fu)(h:C8 t r)(ht:t.size<=1000000):Ae (CX xs) prog fu (d+2) F1 [.pbox (Bu t r)]=some (Af5 t (Qk 4 0 r)):=by
 rw[Ka];exact Su ht 4 fu 0 r (by omega) (by omega) (by omega) (by decide) h
theorem F8:∀(n:Nat)(x:Int)(l:List Int)(y:Int)(r:List Int),Qk n x l=(some y,r)->0<=x->0<=y∧y<(x+1)*16 ^ n
 |0,x,l,y,r,h,h0=>by
  cases h;omega
 |n+1,x,[],y,r,h,h0=>by cases h
 |n+1,x,c::l,y,r,h,h0=>by
  unfold Qk at h;rcases CR c with⟨g1,g2,g3⟩|⟨g1,g2,g3⟩|⟨g1,g2,g3⟩|⟨g1,g2,g3,g4⟩
  ·rw[g3] at h;have:=F8 n _ l y r h (by omega)
   have e:(x*16+(c-48)+1)*16 ^ n<=(x+1)*16 ^ (n+1):=by
    rw[Int.pow_succ,Int.mul_comm (16 ^ n) 16,←Int.mul_assoc];exact Int.mul_le_mul_of_nonneg_right (by omega) (Int.pow_nonneg (by omega))
   omega
  ·rw[g3] at h;have:=F8 n _ l y r h (by omega)
   have e:(x*16+(c-87)+1)*16 ^ n<=(x+1)*16 ^ (n+1):=by
    rw[Int.pow_succ,Int.mul_comm (16 ^ n) 16,←Int.mul_assoc];exact Int.mul_le_mul_of_nonneg_right (by omega) (Int.pow_nonneg (by omega))
   omega
  ·rw[g3] at h;have:=F8 n _ l y r h (by omega)
   have e:(x*16+(c-55)+1)*16 ^ n<=(x+1)*16 ^ (n+1):=by
    rw[Int.pow_succ,Int.mul_comm (16 ^ n) 16,←Int.mul_assoc];exact Int.mul_le_mul_of_nonneg_right (by omega) (Int.pow_nonneg (by omega))
   omega
  ·rw[g4] at h;cases h
theorem Tg {t:ByteArray}:∀(n:Nat)(x:Int)(l:List Int),C8 t l->C8 t (Qk n x l).2
 |0,x,l,h=>h
 |n+1,x,[],h=>h
 |n+1,x,c::l,h=>by
  unfold Qk;cases NH c with
  |none=>exact h
  |some v=>exact Tg n _ l h.tail
theorem Abv (l:List Int):XN l=List.isPrefixOf [92,117] l:=by
 match l with
 |[]=>rfl
 |[a]=>
  unfold XN;split
  ·rename_i e;cases e
  ·simp[List.isPrefixOf]
 |a::b::r=>
  unfold XN;split
  ·rename_i e;cases e;rfl
  ·rename_i h
   symm
   rw[Bool.eq_false_iff];intro hp;simp[List.isPrefixOf] at hp;exact h r (by rw[←hp.1,←hp.2])
theorem Ak7 {x:Int}(h0:0<=x)(h1:x<2097152):Le .i32 x 10=x*1024:=by
 show wrap .i32 (x*2 ^ (min (10:Int).toNat IntKind.i32.bits))=_;rw[show min (10:Int).toNat IntKind.i32.bits=10 from rfl]
 exact El (by omega) (by omega)
theorem Ai5 {t:ByteArray}{r:List Int}(Fv:10<=fu)(h:C8 t r)(ht:t.size<=1000000):Ae (CX xs) prog fu (d+4) Fs [.pbox (Bu t r)]=some (Af5 t (Mi r)):=by
 have hx:=Ag6 (d:=d+1) (xs:=xs) Fv h ht;have hs:=Tg 4 0 r h;have hb:=F8 4 0 r;rw[Jj];unfold Mi;rcases hq:Qk 4 0 r with⟨o,r1⟩;rw[hq] at hx hs;simp only at hs;cases o with
 |none=>
  have Od:Ae (CX xs) prog fu (d+3) 114 [.pbox (Bu t r)]=some ⟨[.sc (.int .i32 0),.sc (.bool false)],[Bu t r1]⟩:=hx
  try unfold Ac
  repeat first
   |((with_reducible first|apply A6|apply Au|apply A1|apply At|apply A3|apply Dv|apply Av|apply A2|apply A5);· first|with_reducible rfl|(simp (disch:=omega) only[gT,Od,D3]<;>first|with_reducible rfl|omega)|omega)
   |(with_reducible apply A4;· first|with_reducible rfl|(simp (disch:=omega) only[gF,Od,D3]<;>omega))
  try simp (disch:=omega) only[Od,D3]
  rfl
 |some x=>
  have Od:Ae (CX xs) prog fu (d+3) 114 [.pbox (Bu t r)]=some ⟨[.sc (.int .i32 x),.sc (.bool true)],[Bu t r1]⟩:=hx;have bx:=hb x r1 hq (by omega)
  have lw:∀x,Ae (CX xs) prog fu (d+3) 115 [.sc (.int .i32 x)]=some ⟨[.sc (.bool (EY x))],[]⟩:=fun x=>Afs (d:=d+2) x
  cases hl:EY x
  ·simp only[hl,Bool.false_eq_true,if_false];by_cases c1:x<55296
   ·rw[Ev (Or.inl c1)]
    try unfold Ac
    repeat first
     |((with_reducible first|apply A6|apply Au|apply A1|apply At|apply A3|apply Dv|apply Av|apply A2|apply A5);· first|with_reducible rfl|(simp (disch:=omega) only[gT,Od,lw,hl,Dg]<;>first|with_reducible rfl|omega)|omega)
     |(with_reducible apply A4;· first|with_reducible rfl|(simp (disch:=omega) only[gF,Od,lw,hl,Dg]<;>omega))
    try simp (disch:=omega) only[Od,lw,hl,Dg]
    rfl
   ·by_cases c2:56319<x
    ·rw[Ev (Or.inr c2)]
     try unfold Ac
     repeat first
      |((with_reducible first|apply A6|apply Au|apply A1|apply At|apply A3|apply Dv|apply Av|apply A2|apply A5);· first|with_reducible rfl|(simp (disch:=omega) only[gT,Od,lw,hl,Dg]<;>first|with_reducible rfl|omega)|omega)
      |(with_reducible apply A4;· first|with_reducible rfl|(simp (disch:=omega) only[gF,Od,lw,hl,Dg]<;>omega))
     try simp (disch:=omega) only[Od,lw,hl,Dg]
     rfl
    ·rw[Dr (by omega)]
     have ha:=Pb (fu:=fu) (d:=d) (xs:=xs) hs ht (w:=[92,117]) (fun x hx=>by simp at hx;rcases hx with rfl|rfl<;>omega) (by decide)
     unfold Aq at ha;rw[←Abv] at ha;cases hB:XN r1
     ·rw[hB,Dr (by simp)] at ha
      simp only[Bool.false_eq_true,if_false];have Io:Ae (CX xs) prog fu (d+3) 67 [.pbox (Bu t r1),.sc (.string (ByteArray.mk #[(92:UInt8),(117:UInt8)]))]=some ⟨[.sc (.bool false)],[Bu t r1]⟩:=ha
      try unfold Ac
      repeat first
       |((with_reducible first|apply A6|apply Au|apply A1|apply At|apply A3|apply Dv|apply Av|apply A2|apply A5);· first|with_reducible rfl|(simp (disch:=omega) only[gT,Od,lw,hl,Io,Dg,D3]<;>first|with_reducible rfl|omega)|omega)
       |(with_reducible apply A4;· first|with_reducible rfl|(simp (disch:=omega) only[gF,Od,lw,hl,Io,Dg,D3]<;>omega))
      try simp (disch:=omega) only[Od,lw,hl,Io,Dg,D3]
      rfl
     ·rw[hB,Ev rfl] at ha;simp only[if_true];have Io:Ae (CX xs) prog fu (d+3) 67 [.pbox (Bu t r1),.sc (.string (ByteArray.mk #[(92:UInt8),(117:UInt8)]))]=some ⟨[.sc (.bool true)],[Bu t (r1.drop 2)]⟩:=ha;have hy:=Ag6 (d:=d+1) (xs:=xs) Fv (hs.drop 2) ht;have VM:=F8 4 0 (r1.drop 2);unfold QF;rcases Ia:Qk 4 0 (r1.drop 2) with⟨o2,r2⟩;rw[Ia] at hy;cases o2 with
      |none=>
       have WZ:Ae (CX xs) prog fu (d+3) 114 [.pbox (Bu t (r1.drop 2))]=some ⟨[.sc (.int .i32 0),.sc (.bool false)],[Bu t r2]⟩:=hy
       try unfold Ac
       repeat first
        |((with_reducible first|apply A6|apply Au|apply A1|apply At|apply A3|apply Dv|apply Av|apply A2|apply A5);· first|with_reducible rfl|(simp (disch:=omega) only[gT,Od,lw,hl,Io,WZ,Dg,D3]<;>first|with_reducible rfl|omega)|omega)
        |(with_reducible apply A4;· first|with_reducible rfl|(simp (disch:=omega) only[gF,Od,lw,hl,Io,WZ,Dg,D3]<;>omega))
       try simp (disch:=omega) only[Od,lw,hl,Io,WZ,Dg,D3]
       rfl
      |some y=>
       have WZ:Ae (CX xs) prog fu (d+3) 114 [.pbox (Bu t (r1.drop 2))]=some ⟨[.sc (.int .i32 y),.sc (.bool true)],[Bu t r2]⟩:=hy;have by_:=VM y r2 Ia (by omega)
       cases Of:EY y
       ·simp only[Bool.false_eq_true,if_false]
        try unfold Ac
        repeat first
         |((with_reducible first|apply A6|apply Au|apply A1|apply At|apply A3|apply Dv|apply Av|apply A2|apply A5);· first|with_reducible rfl|(simp (disch:=omega) only[gT,Od,lw,hl,Of,Io,WZ,Dg,D3]<;>first|with_reducible rfl|omega)|omega)
         |(with_reducible apply A4;· first|with_reducible rfl|(simp (disch:=omega) only[gF,Od,lw,hl,Of,Io,WZ,Dg,D3]<;>omega))
        try simp (disch:=omega) only[Od,lw,hl,Of,Io,WZ,Dg,D3]
        rfl
       ·simp only[if_true]
        have ly:56320<=y∧y<=57343:=by
         unfold EY at Of
         simpa using Of
        have w1:wrap .i32 (x-55296)=x-55296:=El (by omega) (by omega)
        have w2:=Ak7 (x:=x-55296) (by omega) (by omega)
        have w3:wrap .i32 (65536+(x-55296)*1024)=65536+(x-55296)*1024:=El (by omega) (by omega)
        have w4:wrap .i32 (y-56320)=y-56320:=El (by omega) (by omega)
        have w5:wrap .i32 (65536+(x-55296)*1024+(y-56320))=65536+(x-55296)*1024+(y-56320):=El (by omega) (by omega)
        try unfold Ac
        repeat first
         |((with_reducible first|apply A6|apply Au|apply A1|apply At|apply A3|apply Dv|apply Av|apply A2|apply A5);· first|with_reducible rfl|(simp (disch:=omega) only[gT,Od,lw,hl,Of,Io,WZ,w1,w2,w3,w4,w5,Dg,D3]<;>first|with_reducible rfl|omega)|omega)
         |(with_reducible apply A4;· first|with_reducible rfl|(simp (disch:=omega) only[gF,Od,lw,hl,Of,Io,WZ,w1,w2,w3,w4,w5,Dg,D3]<;>omega))
        try simp (disch:=omega) only[Od,lw,hl,Of,Io,WZ,w1,w2,w3,w4,w5,Dg,D3]
        rfl
  ·simp only[if_true]
   try unfold Ac
   repeat first
    |((with_reducible first|apply A6|apply Au|apply A1|apply At|apply A3|apply Dv|apply Av|apply A2|apply A5);· first|with_reducible rfl|(simp (disch:=omega) only[gT,Od,lw,hl,Dg]<;>first|with_reducible rfl|omega)|omega)
    |(with_reducible apply A4;· first|with_reducible rfl|(simp (disch:=omega) only[gF,Od,lw,hl,Dg]<;>omega))
   try simp (disch:=omega) only[Od,lw,hl,Dg]
   rfl
theorem CA (c:Int):(c=34∧Rp c=some 34)∨(c=92∧Rp c=some 92)∨(c=47∧Rp c=some 47)∨(c=98∧Rp c=some 8)∨(c=102∧Rp c=some 12)∨(c=110∧Rp c=some 10)∨(c=114∧Rp c=some 13)∨(c=116∧Rp c=some 9) ∨
  ((c≠34∧c≠92∧c≠47∧c≠98∧c≠102∧c≠110∧c≠114∧c≠116)∧Rp c=none):=by
 by_cases h1:c=34
 ·subst h1;exact .inl ⟨rfl,rfl⟩
 by_cases h2:c=92
 ·subst h2;exact .inr (.inl ⟨rfl,rfl⟩)
 by_cases h3:c=47
 ·subst h3;exact .inr (.inr (.inl ⟨rfl,rfl⟩))
 by_cases h4:c=98
 ·subst h4;exact .inr (.inr (.inr (.inl ⟨rfl,rfl⟩)))
 by_cases h5:c=102
 ·subst h5;exact .inr (.inr (.inr (.inr (.inl ⟨rfl,rfl⟩))))
 by_cases h6:c=110
 ·subst h6;exact .inr (.inr (.inr (.inr (.inr (.inl ⟨rfl,rfl⟩)))))
 by_cases h7:c=114
 ·subst h7;exact .inr (.inr (.inr (.inr (.inr (.inr (.inl ⟨rfl,rfl⟩))))))
 by_cases h8:c=116
 ·subst h8;exact .inr (.inr (.inr (.inr (.inr (.inr (.inr (.inl ⟨rfl,rfl⟩)))))))
 refine .inr (.inr (.inr (.inr (.inr (.inr (.inr (.inr ⟨⟨h1,h2,h3,h4,h5,h6,h7,h8⟩,?_⟩)))))));unfold Rp;rw[Dr (by omega),Dr h4,Dr h5,Dr h6,Dr h7,Dr h8]
theorem Ard {t:ByteArray}{r:List Int}(Fv:10<=fu)(h:C8 t r)(ht:t.size<=1000000):Ae (CX xs) prog fu (d+5) Fa [.pbox (Bu t r)]=some (Af5 t (L1 r)):=by
 have ha:=Pb (fu:=fu) (d:=d+1) (xs:=xs) h ht (w:=[117]) (fun x hx=>by simp at hx;omega) (by decide)
 have hl:=h.len;rw[Ik];cases r with
 |nil=>
  have Io:Ae (CX xs) prog fu (d+4) 67 [.pbox (Bu t []),.sc (.string (ByteArray.mk #[(117:UInt8)]))]=some ⟨[.sc (.bool false)],[Bu t []]⟩:=ha;have pk:Ae (CX xs) prog fu (d+4) 90 [.pbox (Bu t [])]=some ⟨[.sc (.int .u8 0)],[Bu t []]⟩:=K9 (d:=d+3) h;have w0:wrap .i32 0=0:=rfl
  try unfold Ac
  repeat first
   |((with_reducible first|apply A6|apply Au|apply A1|apply At|apply A3|apply Dv|apply Av|apply A2|apply A5);· first|with_reducible rfl|(simp (disch:=omega) only[gT,Io,pk,w0,Int.reduceBEq]<;>first|with_reducible rfl|omega)|omega)
   |(with_reducible apply A4;· first|with_reducible rfl|(simp (disch:=omega) only[gF,Io,pk,w0,Int.reduceBEq]<;>omega))
  try simp (disch:=omega) only[Io,pk,w0,Int.reduceBEq]
  rfl
 |cons c r=>
  have hc:=h.B c (by simp)
  have hp:=Kd h
  have e6:wrap .i64 ((Bp t (c::r):Int)+1)=(Bp t r:Int):=by
   rw[hp,Bc (by unfold Bp;omega) (by unfold Bp;omega)];omega
  have w0:wrap .i32 c=c:=El (by omega) (by omega)
  have pk:Ae (CX xs) prog fu (d+4) 90 [.pbox (Bu t (c::r))]=some ⟨[.sc (.int .u8 c)],[Bu t (c::r)]⟩:=K9 (d:=d+3) h;have he:L1 (c::r)=if c=117 then Mi r else match Rp c with|some x=>(some x,r)|none=>(none,c::r):=rfl
  rw[he];unfold Aq at ha;by_cases hu:c=117
  ·subst hu;rw[Ev rfl];have Io:Ae (CX xs) prog fu (d+4) 67 [.pbox (Bu t (117::r)),.sc (.string (ByteArray.mk #[(117:UInt8)]))]=some ⟨[.sc (.bool true)],[Bu t r]⟩:=ha;have hcd:Ae (CX xs) prog fu (d+4) 105 [.pbox (Bu t r)]=some ⟨[.sc (.int .i32 ((Mi r).1.getD 0)),.sc (.bool (Mi r).1.isSome)],[Bu t (Mi r).2]⟩:=Ai5 Fv h.tail ht
   try unfold Ac
   repeat first
    |((with_reducible first|apply A6|apply Au|apply A1|apply At|apply A3|apply Dv|apply Av|apply A2|apply A5);· first|with_reducible rfl|(simp (disch:=omega) only[gT,Io,hcd]<;>first|with_reducible rfl|omega)|omega)
    |(with_reducible apply A4;· first|with_reducible rfl|(simp (disch:=omega) only[gF,Io,hcd]<;>omega))
   try simp (disch:=omega) only[Io,hcd]
   rfl
  ·rw[Dr hu]
   have hb:(List.isPrefixOf [117] (c::r))=false:=by
    rw[Bool.eq_false_iff];intro hp;simp[List.isPrefixOf] at hp;exact hu hp.symm
   rw[hb,Dr (by simp)] at ha
   have Io:Ae (CX xs) prog fu (d+4) 67 [.pbox (Bu t (c::r)),.sc (.string (ByteArray.mk #[(117:UInt8)]))]=some ⟨[.sc (.bool false)],[Bu t (c::r)]⟩:=ha;rcases CA c with⟨rfl,g⟩|⟨rfl,g⟩|⟨rfl,g⟩|⟨rfl,g⟩|⟨rfl,g⟩|⟨rfl,g⟩|⟨rfl,g⟩|⟨rfl,g⟩|⟨g1,g⟩
   ·rw[g]
    try unfold Ac
    repeat first
     |((with_reducible first|apply A6|apply Au|apply A1|apply At|apply A3|apply Dv|apply Av|apply A2|apply A5);· first|with_reducible rfl|(simp (disch:=omega) only[gT,Io,pk,w0,e6,Int.reduceBEq]<;>first|with_reducible rfl|omega)|omega)
     |(with_reducible apply A4;· first|with_reducible rfl|(simp (disch:=omega) only[gF,Io,pk,w0,e6,Int.reduceBEq]<;>omega))
    try simp (disch:=omega) only[Io,pk,w0,e6,Int.reduceBEq]
    rfl
   ·rw[g]
    try unfold Ac
    repeat first
     |((with_reducible first|apply A6|apply Au|apply A1|apply At|apply A3|apply Dv|apply Av|apply A2|apply A5);· first|with_reducible rfl|(simp (disch:=omega) only[gT,Io,pk,w0,e6,Int.reduceBEq]<;>first|with_reducible rfl|omega)|omega)
     |(with_reducible apply A4;· first|with_reducible rfl|(simp (disch:=omega) only[gF,Io,pk,w0,e6,Int.reduceBEq]<;>omega))
    try simp (disch:=omega) only[Io,pk,w0,e6,Int.reduceBEq]
    rfl
   ·rw[g]
    try unfold Ac
    repeat first
     |((with_reducible first|apply A6|apply Au|apply A1|apply At|apply A3|apply Dv|apply Av|apply A2|apply A5);· first|with_reducible rfl|(simp (disch:=omega) only[gT,Io,pk,w0,e6,Int.reduceBEq]<;>first|with_reducible rfl|omega)|omega)
     |(with_reducible apply A4;· first|with_reducible rfl|(simp (disch:=omega) only[gF,Io,pk,w0,e6,Int.reduceBEq]<;>omega))
    try simp (disch:=omega) only[Io,pk,w0,e6,Int.reduceBEq]
    rfl
   ·rw[g]
    try unfold Ac
    repeat first
     |((with_reducible first|apply A6|apply Au|apply A1|apply At|apply A3|apply Dv|apply Av|apply A2|apply A5);· first|with_reducible rfl|(simp (disch:=omega) only[gT,Io,pk,w0,e6,Int.reduceBEq]<;>first|with_reducible rfl|omega)|omega)
     |(with_reducible apply A4;· first|with_reducible rfl|(simp (disch:=omega) only[gF,Io,pk,w0,e6,Int.reduceBEq]<;>omega))
    try simp (disch:=omega) only[Io,pk,w0,e6,Int.reduceBEq]
    rfl
   ·rw[g]
    try unfold Ac
    repeat first
     |((with_reducible first|apply A6|apply Au|apply A1|apply At|apply A3|apply Dv|apply Av|apply A2|apply A5);· first|with_reducible rfl|(simp (disch:=omega) only[gT,Io,pk,w0,e6,Int.reduceBEq]<;>first|with_reducible rfl|omega)|omega)
     |(with_reducible apply A4;· first|with_reducible rfl|(simp (disch:=omega) only[gF,Io,pk,w0,e6,Int.reduceBEq]<;>omega))
    try simp (disch:=omega) only[Io,pk,w0,e6,Int.reduceBEq]
    rfl
   ·rw[g]
    try unfold Ac
    repeat first
     |((with_reducible first|apply A6|apply Au|apply A1|apply At|apply A3|apply Dv|apply Av|apply A2|apply A5);· first|with_reducible rfl|(simp (disch:=omega) only[gT,Io,pk,w0,e6,Int.reduceBEq]<;>first|with_reducible rfl|omega)|omega)
     |(with_reducible apply A4;· first|with_reducible rfl|(simp (disch:=omega) only[gF,Io,pk,w0,e6,Int.reduceBEq]<;>omega))
    try simp (disch:=omega) only[Io,pk,w0,e6,Int.reduceBEq]
    rfl
   ·rw[g]
    try unfold Ac
    repeat first
     |((with_reducible first|apply A6|apply Au|apply A1|apply At|apply A3|apply Dv|apply Av|apply A2|apply A5);· first|with_reducible rfl|(simp (disch:=omega) only[gT,Io,pk,w0,e6,Int.reduceBEq]<;>first|with_reducible rfl|omega)|omega)
     |(with_reducible apply A4;· first|with_reducible rfl|(simp (disch:=omega) only[gF,Io,pk,w0,e6,Int.reduceBEq]<;>omega))
    try simp (disch:=omega) only[Io,pk,w0,e6,Int.reduceBEq]
    rfl
   ·rw[g]
    try unfold Ac
    repeat first
     |((with_reducible first|apply A6|apply Au|apply A1|apply At|apply A3|apply Dv|apply Av|apply A2|apply A5);· first|with_reducible rfl|(simp (disch:=omega) only[gT,Io,pk,w0,e6,Int.reduceBEq]<;>first|with_reducible rfl|omega)|omega)
     |(with_reducible apply A4;· first|with_reducible rfl|(simp (disch:=omega) only[gF,Io,pk,w0,e6,Int.reduceBEq]<;>omega))
    try simp (disch:=omega) only[Io,pk,w0,e6,Int.reduceBEq]
    rfl
   ·rw[g];obtain⟨n1,n2,n3,n4,n5,n6,n7,n8⟩:=g1;have m1:(c==(34:Int))=false:=by simp[n1]
    have m2:(c==(92:Int))=false:=by simp[n2]
    have m3:(c==(47:Int))=false:=by simp[n3]
    have m4:(c==(98:Int))=false:=by simp[n4]
    have m5:(c==(102:Int))=false:=by simp[n5]
    have m6:(c==(110:Int))=false:=by simp[n6]
    have m7:(c==(114:Int))=false:=by simp[n7]
    have m8:(c==(116:Int))=false:=by simp[n8]
    try unfold Ac
    repeat first
     |((with_reducible first|apply A6|apply Au|apply A1|apply At|apply A3|apply Dv|apply Av|apply A2|apply A5);· first|with_reducible rfl|(simp (disch:=omega) only[gT,Io,pk,w0,e6,m1,m2,m3,m4,m5,m6,m7,m8]<;>first|with_reducible rfl|omega)|omega)
     |(with_reducible apply A4;· first|with_reducible rfl|(simp (disch:=omega) only[gF,Io,pk,w0,e6,m1,m2,m3,m4,m5,m6,m7,m8]<;>omega))
    try simp (disch:=omega) only[Io,pk,w0,e6,m1,m2,m3,m4,m5,m6,m7,m8]
    rfl
theorem Ox {t:ByteArray}{l:List Int}(h:C8 t l):C8 t (L1 l).2:=by
 have Aol:∀l,C8 t l->C8 t (Mi l).2:=by
  intro l h;have h1:=Tg 4 0 l h;unfold Mi;rcases hq:Qk 4 0 l with⟨o,r⟩;rw[hq] at h1;cases o with
  |none=>exact h1
  |some x=>
   simp only;split
   ·exact h1
   split
   ·exact h1
   split
   ·have h2:=Tg 4 0 (r.drop 2) (C8.drop h1 2);unfold QF;rcases Ia:Qk 4 0 (r.drop 2) with⟨o2,r2⟩;rw[Ia] at h2;cases o2 with
    |none=>exact h2
    |some y=>
     simp only;split<;>exact h2
   ·exact h1
 cases l with
 |nil=>exact h
 |cons c r=>
  have he:L1 (c::r)=if c=117 then Mi r else match Rp c with|some x=>(some x,r)|none=>(none,c::r):=rfl
  rw[he];split
  ·exact Aol r h.tail
  ·cases Rp c with
   |none=>exact h
   |some x=>exact h.tail
end
end
section
open Go.Proofs.Tryd (prog)
open Go.IntKind (wrap)
set_option maxRecDepth 20000
open Go Go.RowKit
theorem Ed.refl (w:World)(b o n:Nat):Ed w w b o n:=⟨rfl,rfl,rfl,Nat.le_refl _,Gi.refl _ _,fun _ _ _=>rfl,fun _ _=>rfl,fun _ _=>rfl⟩
theorem Ed.trans {w w' w'':World}{b o n:Nat}(h:Ed w w' b o n)(k:Ed w' w'' b o n):Ed w w'' b o n:=
 ⟨k.os.trans h.os,k.tape.trans h.tape,k.output.trans h.output,Nat.le_trans h.size k.size,h.grow.trans k.grow,fun i hi Ek=>(k.other i (Nat.lt_of_lt_of_le hi h.size) Ek).trans (h.other i hi Ek),fun j hj=>(k.cells j hj).trans (h.cells j hj),fun j hj=>(k.frz j hj).trans (h.frz j hj)⟩
theorem Ed.below {w w' w'':World}{b o n:Nat}(h:Ed w w' b o n)(k:Below w.heap.size w' w'')(hb:b<w.heap.size):Ed w w'' b o n:=
 ⟨k.os.trans h.os,k.tape.trans h.tape,k.output.trans h.output,Nat.le_trans h.size k.size,h.grow.trans (Gi.same (k.block b hb)),fun i hi Ek=>(k.block i hi).trans (h.other i hi Ek),fun j hj=>(k.cell (p:=⟨b,j,none⟩) hb).trans (h.cells j hj),fun j hj=>(k.frozen (p:=⟨b,j,none⟩) hb).trans (h.frz j hj)⟩
theorem Ed.drew {w w':World}{b o n:Nat}(h:Ed w w' b o n):Ed w w'.drew b o n:=⟨h.os,h.tape,h.output,h.size,h.grow,h.other,h.cells,h.frz⟩
theorem Ed.setCell (w:World)(b o n j:Nat)(v:Value)(hj:o<=j)(hj2:j<o+n)(hb:b<w.heap.size):Ed w (w.setCell ⟨b,j,none⟩ v) b o n:=by
 have hw:Dj b w (w.setCell ⟨b,j,none⟩ v):=Dj.setCells b [v] j w;refine⟨hw.os,hw.tape,hw.output,Nat.le_of_eq hw.size.symm,hw.grow b,fun k hk Ek=>hw.other k Ek,fun i hi=>?_,fun i _=>hw.frz i⟩
 exact World.cell?_setCell_other _ _ _ _ (by intro e;injection e;omega)
theorem S4 {T e:TypeId}{B c:Nat}{bs:List Value}{W W':World}{b o n:Nat}(h:Lib.IsBuilderF T e B c bs W)(hk:Ed W W' b o n)(hb:b<B):Lib.IsBuilderF T e B c bs W':=by
 have key:∀p,Lib.BuilderAtF T e B c p bs W->Lib.BuilderAtF T e B c p bs W':=by
  intro p h;have B6:=h.lt;obtain⟨hB,v,hv,Fe,Ek⟩:=h;refine⟨hB,v,(hk.other c B6 (by omega)).trans hv,Fe.kept (row:=some b) ⟨hk.os,hk.tape,hk.output,hk.size,fun k Jf Aj2=>hk.other k Jf (fun e=>Aj2 (by rw[e]))⟩ ?_,Ek⟩
  rcases Fe.2 with⟨rfl,_⟩|⟨g,cap,cur,fz,rfl,hg,_⟩
  ·exact .inl rfl
  ·refine .inr (fun e=>?_)
   simp[Value.ownBlock] at e;omega
 exact h.imp (key _) (key _)
def GR:Rs:=⟨fun _=>False,fun _=>True,fun _ _ _ _=>trivial⟩
def noR:FuncId->Option (List PV->Option Ay):=fun _=>none
theorem Amv:DU GR prog (CX noR):=by
 intro f g args res h _;have h':(bif Sm.any (Nat.beq f) then none else (none:Option (List PV->Option Ay)))=some g:=h;cases hb:Sm.any (Nat.beq f)<;>rw[hb] at h'<;>cases h'
theorem ngR:NoNG prog:=by
 have h:(prog.funcs.toList.all fun fn=> !(fn.name == "runtime.NumGoroutine"))=true:=by kernel_rfl
 intro f fn hf;have:=List.all_eq_true.1 h fn (Array.mem_toList_iff.2 (Array.mem_of_getElem? hf))
 simpa using this
theorem mxR:prog.follows .mixedOrders=true:=by kernel_rfl
structure Sd (w:World) (b o:Nat) (t:ByteArray) (r:List Int):Prop where
 lt:b<w.heap.size
 c0:w.cell? ⟨b,o,none⟩=some (.string t)
 c1:w.cell? ⟨b,o+1,none⟩=some (.int .i64 (Bp t r:Int))
 f0:w.frozen? ⟨b,o,none⟩=false
 f1:w.frozen? ⟨b,o+1,none⟩=false
theorem GI {f:FuncId}{t:ByteArray}{r r':List Int}{args vals:List PV}{us rs:List Value}{d:Nat}(e:Ae (CX noR) prog 2000 d f (.pbox (Bu t r)::args)=some ⟨vals,[Bu t r']⟩) (ha:Bd Yf args us)(hr:Bd Yf vals rs)
  {w:World} {b o:Nat} (h:Sd w b o t r):Calls prog f (.pointer (some ⟨b,o,none⟩)::us).toArray w fun e w'=>e=.returned (Gx rs)∧Sd w' b o t r'∧Ed w w' b o 2:=by
 have hs:C6 GR prog f (.pbox ([Value.string t,.int .i64 (Bp t r:Int)].map .sc)::args) ⟨vals,[[Value.string t,.int .i64 (Bp t r':Int)].map .sc]⟩:=Hi ngR mxR Amv d f _ _ e;refine (DG hs ha hr (w:=w) (b:=b) (o:=o) trivial (fun _ h=>h.elim) h.lt ?_ ?_).mono ?_
 ·intro j v hv
  match j,hv with
  |0,hv=>cases hv;exact h.c0
  |1,hv=>cases hv;exact h.c1
 ·intro j hj
  match j,hj with
  |0,_=>exact h.f0
  |1,_=>exact h.f1
 ·rintro e w' ⟨rfl,_,h4,h5,hk⟩
  exact⟨rfl,⟨Nat.lt_of_lt_of_le h.lt hk.size,h4 0 _ rfl,h4 1 _ rfl,h5 0 (Nat.zero_lt_succ _),h5 1 (Nat.succ_lt_succ (Nat.zero_lt_succ _))⟩,hk⟩
theorem Gn {t:ByteArray}{r w0:List Int}(hS:C8 t r)(ht:t.size<=1000000)(hw:Dp w0)(hw2:w0.length<=100){w:World}{b o:Nat}(h:Sd w b o t r):
  Calls prog 67 #[.pointer (some ⟨b,o,none⟩),.string (Ab w0)] w fun e w'=>e=.returned (.bool (Aq w0 r).isSome)∧Sd w' b o t ((Aq w0 r).getD r)∧Ed w w' b o 2:=by
 have e:=Pb (fu:=2000) (d:=0) (xs:=noR) hS ht hw hw2;cases hq:Aq w0 r with
 |none=>
  rw[hq] at e;exact GI (us:=[.string (Ab w0)]) (rs:=[.bool false]) e ⟨.inl rfl,trivial⟩ ⟨.inl rfl,trivial⟩ h
 |some r'=>
  rw[hq] at e;exact GI (us:=[.string (Ab w0)]) (rs:=[.bool true]) e ⟨.inl rfl,trivial⟩ ⟨.inl rfl,trivial⟩ h
theorem VS {t:ByteArray}{r:List Int}(hS:C8 t r)(ht:t.size<=1000000){w:World}{b o:Nat}(h:Sd w b o t r):
  Calls prog 88 #[.pointer (some ⟨b,o,none⟩)] w fun e w'=>e=.returned (.tuple #[.int .i32 ((L1 r).1.getD 0),.bool (L1 r).1.isSome])∧Sd w' b o t (L1 r).2∧Ed w w' b o 2:=by
 have e:=Ard (fu:=2000) (d:=0) (xs:=noR) (by omega) hS ht
 exact GI (us:=[]) (rs:=[.int .i32 ((L1 r).1.getD 0),.bool (L1 r).1.isSome]) e trivial ⟨.inl rfl,.inl rfl,trivial⟩ h
end
section
open Go.Proofs.Tryd (prog)
open Go.IntKind (wrap)
set_option maxRecDepth 1000000
open Go Go.RowKit Go.Lib
def Atd (o:Option (List Int)):Value:=.tuple #[.string (Ab (o.getD [])),.bool o.isSome]
theorem Sd.below {B:Nat}{w w':World}{b o:Nat}{t:ByteArray}{r:List Int}(h:Sd w b o t r)(hb:Below B w w')(hB:b<B):Sd w' b o t r:=
 ⟨Nat.lt_of_lt_of_le h.lt hb.size,(hb.cell (p:=⟨b,o,none⟩) hB).trans h.c0,(hb.cell (p:=⟨b,o+1,none⟩) hB).trans h.c1,(hb.frozen (p:=⟨b,o,none⟩) hB).trans h.f0,(hb.frozen (p:=⟨b,o+1,none⟩) hB).trans h.f1⟩
theorem Aa6 {l:List Int}(h:Dp l):(L1 l).2.length<=l.length:=by
 have h1:C8 (Ab l) l:=⟨[],by rw[Cq h];rfl⟩
 have:=(Ox h1).len
 rwa [An] at this
theorem FW {l r:List Int}{x:Int}(h:Mi l=(some x,r)):0<=x∧x<=1114111:=by
 have hb:=F8 4 0 l;unfold Mi at h;rcases hq:Qk 4 0 l with⟨o,r1⟩;rw[hq] at h;cases o with
 |none=>cases h
 |some y=>
  have by_:=hb y r1 hq (by omega)
  simp only at h;split at h
  ·cases h
  split at h
  ·cases h;omega
  split at h
  ·have G5:=F8 4 0 (r1.drop 2);unfold QF at h;rcases Ia:Qk 4 0 (r1.drop 2) with⟨o2,r2⟩;rw[Ia] at h;cases o2 with
   |none=>cases h
   |some z=>
    have bz:=G5 z r2 Ia (by omega)
    simp only at h;split at h
    ·rename_i hz
     have lz:56320<=z∧z<=57343:=by
      unfold EY at hz
      simpa using hz
     cases h;omega
    ·cases h
  ·cases h
theorem LM {l r:List Int}{x:Int}(h:L1 l=(some x,r)):0<=x∧x<=1114111:=by
 cases l with
 |nil=>cases h
 |cons c l=>
  have he:L1 (c::l)=if c=117 then Mi l else match Rp c with|some x=>(some x,l)|none=>(none,c::l):=rfl
  rw[he] at h;split at h
  ·exact FW h
  ·rcases CA c with⟨rfl,g⟩|⟨rfl,g⟩|⟨rfl,g⟩|⟨rfl,g⟩|⟨rfl,g⟩|⟨rfl,g⟩|⟨rfl,g⟩|⟨rfl,g⟩|⟨g1,g⟩<;>rw[g] at h<;>cases h<;>omega
set_option maxHeartbeats 4000000 in
theorem KL {t:ByteArray}{r:List Int}(hS:C8 t r)(ht:t.size<=1000000){w:World}{b o:Nat}(h:Sd w b o t r):
    Calls prog 68 #[.pointer (some ⟨b,o,none⟩)] w fun e w'=>e=.returned (Atd (Et r).1)∧Sd w' b o t (Et r).2∧Ed w w' b o 2:=by
  have mixed:prog.follows Departure.mixedOrders=true:=by kernel_rfl
  have hac:=Gn hS ht (w0:=[34]) (fun x hx=>by simp at hx;omega) (by decide) h
  go_enter Tryd.func68,Tryd.ntmps68
  go_wp2_with (go_at_call 67;refine hac.mono ?_)
  rintro e W1 ⟨rfl,h1,k1⟩
  cases hq:Aq [34] r with
  |none=>
    rw[hq] at h1
    go_wp2
    go_ret2
    have e:Et r=(none,r):=by
      cases r with
      |nil=>rfl
      |cons c l=>
        have hc:c≠34:=by
          rintro rfl
          unfold Aq at hq
          rw[Ev (by simp[List.isPrefixOf])] at hq
          cases hq
        show (if c=34 then _ else (none,c::l))=_
        rw[Dr hc]
    rw[e]
    exact⟨rfl,h1,k1⟩
  |some r1=>
    rw[hq] at h1
    have AC:r=34::r1:=by
      unfold Aq at hq
      split at hq
      · rename_i hp
        obtain⟨s,hs⟩:=List.isPrefixOf_iff_prefix.1 hp
        rw[←hs] at hq ⊢
        cases hq
        rfl
      · cases hq
    subst AC
    have e:Et (34::r1)=Jn (r1.length+1) [] r1:=by
      show (if (34:Int)=34 then Jn (r1.length+1) [] r1 else (none,34::r1))=_
      exact Ev rfl
    have WJ:C8 t r1:=hS.tail
    have h2:Sd (W1.alloc (.cells #[.pointer none,.slice none 0 0] 53)) b o t r1:=by
      have hb:Below W1.heap.size W1 (W1.alloc (.cells #[.pointer none,.slice none 0 0] 53)):=(Below.refl _ W1).alloc (Nat.le_refl _) _
      exact⟨Nat.lt_of_lt_of_le h1.lt hb.size,(hb.cell (p:=⟨b,o,none⟩) h1.lt).trans h1.c0,(hb.cell (p:=⟨b,o+1,none⟩) h1.lt).trans h1.c1,(hb.frozen (p:=⟨b,o,none⟩) h1.lt).trans h1.f0,(hb.frozen (p:=⟨b,o+1,none⟩) h1.lt).trans h1.f1⟩
    have k2:Ed w (W1.alloc (.cells #[.pointer none,.slice none 0 0] 53)) b o 2:=k1.below ((Below.refl _ W1).alloc (Nat.le_refl _) _ |>.mono k1.size) h.lt
    have hB1:b<W1.heap.size:=h1.lt
    have hw1:w.heap.size<=W1.heap.size:=k1.size
    go_wp2
    go_loopw [] (fun wr=>∃(n:Nat) (out l:List Int),Jn (r1.length+1) [] r1=Jn n out l∧l.length<n∧Dp out∧out.length+4*l.length<=4*t.size∧C8 t l∧Sd wr b o t l∧Ed w wr b o 2∧W1.heap.size<=wr.heap.size∧Lib.IsBuilderF 53 5 W1.heap.size W1.heap.size (KR out) wr) (fun wr=>match wr.cell? ⟨b,o+1,none⟩ with|some (.int _ p)=>t.size-p.toNat|_=>0)
    case atStart=>
      exact⟨r1.length+1,[],r1,rfl,Nat.lt_succ_self _,(fun x hx=>by cases hx),(by have:=WJ.len;simp;omega),WJ,h2,k2,((Below.refl W1.heap.size W1).alloc (Nat.le_refl _) _).size,Lib.IsBuilderF.of (Lib.fresh_isBuilder 53 5 W1)⟩
    case round=>
      obtain⟨n,out,l,Fd,hn,hoB,hol,hSl,hat,hk,hws,hI⟩:=hrel
      obtain⟨B6,hc0,AE,hf0,hf1⟩:=hat
      cases l with
      |nil=>
        rw[R5] at AE
        go_wp2
        go_region_o
        go_wp2
        go_ret2
        rw[e,Fd]
        obtain⟨m,rfl⟩:∃m,n=m+1:=⟨n-1,by omega⟩
        exact⟨rfl,⟨B6,hc0,AE,hf0,hf1⟩,hk.drew⟩
      |cons c l=>
        obtain⟨m,rfl⟩:∃m,n=m+1:=⟨n-1,by omega⟩
        obtain⟨bb,hbb,rfl⟩:=hSl.at
        have hll:=hSl.len
        have R2:Bp t ((bb.toNat:Int)::l)<t.size:=by
          unfold Bp
          rw[RS] at hll ⊢
          omega
        have SS:=Kd hSl
        have JM:t[Bp t ((bb.toNat:Int)::l)]'(R2)=bb:=by
          rw[Array.getElem?_toList,Array.getElem?_eq_getElem R2] at hbb
          exact Option.some.inj hbb
        have hcb:=bb.toNat_lt
        generalize hp:Bp t ((bb.toNat:Int)::l)=p at *
        have A7l:(p:Int)<t.size:=by omega
        have kw:Ed wr (wr.setCell ⟨b,o+1,none⟩ (.int .i64 ((p:Int)+1))).drew.drew b o 2:=((Ed.setCell wr b o 2 (o+1) _ (by omega) (by omega) B6).drew).drew
        have Eb:=hk.trans kw
        have QA:=S4 hI kw hB1
        have EL:Sd (wr.setCell ⟨b,o+1,none⟩ (.int .i64 ((p:Int)+1))).drew.drew b o t l:=by
          refine⟨Nat.lt_of_lt_of_le B6 kw.size,?_,?_,?_,?_⟩
          · exact (World.cell?_setCell_other _ _ _ _ (by intro e;injection e;omega)).trans hc0
          · have:(Bp t l:Int)=(p:Int)+1:=by omega
            rw[this]
            exact World.cell?_setCell_same _ _ _ AE
          · exact (World.frozen?_setCell _ _ _ _).trans hf0
          · exact (World.frozen?_setCell _ _ _ _).trans hf1
        have Aev:W1.heap.size<=(wr.setCell ⟨b,o+1,none⟩ (.int .i64 ((p:Int)+1))).drew.drew.heap.size:=Nat.le_trans hws kw.size
        have XA:Jn (m+1) out ((bb.toNat:Int)::l)=if (bb.toNat:Int)<32 then (none,(bb.toNat:Int)::l) else if (bb.toNat:Int)=34 then (some out,l) else if (bb.toNat:Int)=92 then
            (match L1 l with
             |(some x,r')=>Jn m (out++Lib.encodeRuneZ x) r'
             |(none,r')=>(none,r')) else Jn m (out++[(bb.toNat:Int)]) l:=rfl
        rw[XA] at Fd
        have A45:(KR out).length+4<=140737488355328:=by
          rw[List.length_map]
          omega
        by_cases Aoq:(bb.toNat:Int)<32
        · rw[Ev Aoq] at Fd
          go_wp2
          go_region_o
          go_wp2
          go_region_o
          go_wp2
          go_ret2
          rw[e,Fd]
          exact⟨rfl,⟨B6,hc0,by rw[hp];exact AE,hf0,hf1⟩,hk.drew.drew⟩
        · rw[Dr Aoq] at Fd
          by_cases Ao7:(bb.toNat:Int)=34
          · rw[Ev Ao7] at Fd
            go_wp2
            go_region_o
            go_wp2
            go_region_o
            go_wp2_with (go_at_call 25;refine (Any.Builder_String_any_k Zn P7 W1.heap.size W1.heap.size (out.map fun n=>n.toNat.toUInt8) _ (by rw[←Ur hoB];exact QA) Aev).mono ?_)
            rintro e2 W3 ⟨rfl,_,b3,_⟩
            go_wp2
            go_ret2
            rw[e,Fd]
            exact⟨rfl,EL.below b3 hB1,Eb.below (b3.mono hw1) h.lt⟩
          · rw[Dr Ao7] at Fd
            by_cases Ar2:(bb.toNat:Int)=92
            · rw[Ev Ar2] at Fd
              have Dk:=VS hSl.tail ht EL
              go_wp2
              go_region_o
              go_wp2
              go_region_o
              go_wp2_with (go_at_call 88;refine Dk.mono ?_)
              rintro e2 W3 ⟨rfl,TA,k3⟩
              have Jg:=Eb.trans k3
              have hI3:=S4 QA k3 hB1
              have Aqj:=Nat.le_trans Aev k3.size
              have hel:=Aa6 (l:=l) hSl.tail.B
              have Qn:=Ox hSl.tail
              rcases hqe:L1 l with⟨oe,le⟩
              rw[hqe] at TA Fd hel Qn
              cases oe with
              |none=>
                go_wp2
                go_ret2
                rw[e,Fd]
                exact⟨rfl,TA,Jg⟩
              |some x=>
                have Jh:=LM hqe
                go_wp2_with (go_at_call 89;refine (Any.Builder_WriteRune_k ON P7 W1.heap.size W1.heap.size _ x (by omega) (by omega) _ hI3 (by omega) Aqj).mono ?_)
                rintro e3 W4 ⟨rfl,i4,b4,_⟩
                go_wp2
                have Ar0:=TA.below b4 hB1
                have hrl:=Lib.encodeRuneZ_length x
                refine⟨⟨m,out++Lib.encodeRuneZ x,le,Fd,by simp at hn hel;omega,Iq hoB (fun y hy=>by have:=Lib.encodeRuneZ_byte x y hy;omega),by simp at hol hel ⊢;omega,Qn,Ar0,Jg.below (b4.mono hw1) h.lt,Nat.le_trans Aqj b4.size,by rw[HH];exact Or.inr i4⟩,?_⟩
                have Wg:=Qn.len
                have FF:Bp t l<=Bp t le:=by unfold Bp;omega
                have hp4:Bp t le<=t.size:=Nat.sub_le _ _
                simp only[Ar0.c1,AE,N4]
                omega
            · rw[Dr Ar2] at Fd
              go_wp2
              go_region_o
              go_wp2
              go_region_o
              go_wp2_with (go_at_call 24;refine (Any.Builder_WriteByte_k Z3 P7 W1.heap.size W1.heap.size _ _ _ QA (by omega) Aev).mono ?_)
              rintro e2 W3 ⟨rfl,i3,b3,_⟩
              go_wp2
              have TA:=EL.below b3 hB1
              refine⟨⟨m,out++[(bb.toNat:Int)],l,Fd,by simp at hn;omega,Iq hoB (fun x hx=>by simp at hx;omega),by simp at hol ⊢;omega,hSl.tail,TA,Eb.below (b3.mono hw1) h.lt,Nat.le_trans Aev b3.size,by rw[HH];exact Or.inr i3⟩,?_⟩
              simp only[TA.c1,AE,N4]
              omega
end
section
open Go.Proofs.Tryd (prog)
open Go.IntKind (wrap)
set_option maxRecDepth 100000
open Go Go.RowKit
theorem Zr {t:ByteArray}:∀(n:Nat)(out l:List Int),C8 t l->C8 t (Jn n out l).2
  |0,_,_,h=>h
  |_+1,_,[],h=>h
  |n+1,out,c::l,h=>by
    have e:Jn (n+1) out (c::l)=if c<32 then (none,c::l) else if c=34 then (some out,l) else if c=92 then
        (match L1 l with
         |(some x,r')=>Jn n (out++Lib.encodeRuneZ x) r'
         |(none,r')=>(none,r')) else Jn n (out++[c]) l:=rfl
    rw[e]
    split
    · exact h
    split
    · exact h.tail
    split
    · have h2:=Ox h.tail
      rcases hq:L1 l with⟨o,r⟩
      rw[hq] at h2
      cases o with
      |none=>exact h2
      |some x=>exact Zr n _ r h2
    · exact Zr n _ l h.tail
theorem Gp {t:ByteArray}{l:List Int}(h:C8 t l):C8 t (Et l).2:=by
 cases l with
 |nil=>exact h
 |cons c l=>
  have e:Et (c::l)=if c=34 then Jn (l.length+1) [] l else (none,c::l):=rfl
  rw[e];split
  ·exact Zr _ _ _ h.tail
  ·exact h
theorem Aa2 {w w':World}{Y:Nat->Prop}{bt:Tv}{vs vs':List Value}{us:List Value}{b o:Nat}{a c:Value}(hi:Ins w Y bt [.pbox (vs.map .sc)] us) (hb:bt 0 0=some (b,o)) (hk:Ed w w' b o vs.length)(hl:vs'.length=vs.length)
  (hc:∀j v,vs'[j]?=some v->w'.cell? ⟨b,o+j,none⟩=some v) (hf:∀j,j<vs.length->w'.frozen? ⟨b,o+j,none⟩=false):
  Out w w' Y bt [.pbox (vs.map .sc)] (fun _=>none) ⟨[.sc a,.sc c],[vs'.map .sc]⟩ [a,c] where
 os:=hk.os
 tape:=hk.tape
 output:=hk.output
 ext:=⟨hk.size,fun k h Ek=>hk.other k h (fun e=>Ek (by rw[e];exact⟨0,0,o,hb⟩)),fun k h=>by
  by_cases e:k=b
  ·rw[e];exact hk.grow
  ·exact Gi.same (hk.other k h e)⟩
 rng:=fun k j h hn=>by
  by_cases e:k=b
  ·subst e
   have hj:j<o∨o+vs.length<=j:=by
    rcases Nat.lt_or_ge j o with h1|h1
    ·exact .inl h1
    ·rcases Nat.lt_or_ge j (o+vs.length) with h2|h2
     ·exact absurd ⟨0,_,rfl,.inr ⟨o,vs.map .sc,hb,h1,.inl ⟨rfl,by rw[List.length_map];exact h2⟩⟩⟩ hn
     ·exact .inr h2
   exact⟨hk.cells j hj,hk.frz j hj⟩
  ·have:=hk.other k h e;exact⟨by unfold World.cell?;simp only[this],by unfold World.frozen?;simp only[this]⟩
 vals:=⟨Ar.sc a,Ar.sc c,trivial⟩
 outs:=⟨⟨b,o,hb,by rw[List.length_map,List.length_map,hl],vs',Pr,hc,fun k h=>hf k (by rw[List.length_map,hl] at h;exact h)⟩,rfl⟩
 fresh:=fun j b o h=>by cases h
 inj:=fun j j' b o o' h=>by cases h
theorem TM (G:Rs)(args:List PV)(res:Ay)(h:Aap args=some res):C6 G prog 68 args res:=by
 refine⟨⟨_,Tryd.func68,by kernel_rfl⟩,fun w Y bt us hi _ _=>?_⟩
 unfold Aap at h;split at h
 rotate_left
 ·cases h
 rename_i t p;cases hq:(decide (0<=p)&&decide (p<=t.size)&&Nat.ble t.size 1000000)
 ·rw[hq] at h;cases h
 rw[hq,cond_true] at h;simp only[Bool.and_eq_true,decide_eq_true_eq] at hq;obtain⟨⟨Gw,Cc⟩,hm⟩:=hq;have hm:=Nat.le_of_ble_eq_true hm;obtain⟨p,rfl⟩:=Int.eq_ofNat_of_zero_le Gw;rw[N4] at h;have hS:C8 t ((Ea t).drop p):=(C8.all t).drop p
 have YH:(Bp t ((Ea t).drop p):Int)=(p:Int):=by
  unfold Bp;rw[List.length_drop,Kp];omega
 have ps:=hi.args
 match us,ps with
 |[u1],ps=>
  obtain⟨b,o,hb,rfl,_,vs,Xd,Cr,XB⟩:=ps.1;have Ob:=P3 (vs:=[.string t,.int .i64 (p:Int)]) Xd;subst Ob;have hat:Sd w b o t ((Ea t).drop p):=⟨hi.lt b ⟨0,0,o,hb⟩,Cr 0 _ rfl,by rw[YH];exact Cr 1 _ rfl,XB 0 (Nat.zero_lt_succ _),XB 1 (Nat.succ_lt_succ (Nat.zero_lt_succ _))⟩
  refine (KL hS hm hat).mono ?_
  rintro e w' ⟨rfl,EL,hk⟩
  rcases hx:Et ((Ea t).drop p) with⟨o2,r2⟩;rw[hx] at h EL
  have CL:r2.length<=t.size:=by
   have:=Gp hS;rw[hx] at this;exact this.len
  have Aqr:(Bp t r2:Int)=(t.size:Int)-r2.length:=by
   unfold Bp;omega
  have Rh:∀a c:Value,Out w w' Y bt [.pbox ([Value.string t,.int .i64 (p:Int)].map .sc)] (fun _=>none) ⟨[.sc a,.sc c],[[Value.string t,.int .i64 ((t.size:Int)-r2.length)].map .sc]⟩ [a,c]:=by
   intro a c;refine Aa2 hi hb hk rfl ?_ ?_
   ·intro j v hv
    match j,hv with
    |0,hv=>cases hv;exact EL.c0
    |1,hv=>cases hv;rw[←Aqr];exact EL.c1
   ·intro j hj
    match j,hj with
    |0,_=>exact EL.f0
    |1,_=>exact EL.f1
  cases o2 with
  |none=>
   cases h;exact⟨[.string ⟨#[]⟩,.bool false],fun _=>none,rfl,Rh _ _⟩
  |some s=>
   cases h;exact⟨[.string (Ab s),.bool true],fun _=>none,rfl,Rh _ _⟩
 |[],ps=>exact ps.elim
 |_::_::_,ps=>exact ps.2.elim
end
section
open Go.Proofs.Tryd (prog)
open Go.IntKind (wrap)
set_option maxRecDepth 100000
abbrev Jw:FuncId:=27
theorem Jr {p:Option (List PV->Option Ay)} (fu d:Nat)(a0:ByteArray)(a1:Int):Ae (CP p) prog fu (d+1) Jw [.sc (.string a0),.sc (.int .u8 a1)]=(fun (call:Ax)=>Ai (call 40 [.sc (.string a0),.sc (.int .u8 a1)]) fun x1 x2=>Ad x2<|Aa x1 fun x3 x4=>Aw .i64 x3 fun x5=>Ad x4<|some (Ay.mk [.sc (.int .i64 x5)] [])) (Ae (CP p) prog fu d):=by kernel_rfl
abbrev Fg:FuncId:=50
noncomputable def C5 (fu:Nat)(call:Ax)(B3:ByteArray)(Bv:Int)(nn:Nat)(y0:ByteArray)(y1:Int):Option Ay:=I3 CB prog fu call 50 Tryd.f50 (Gb Tryd.f50) [.pbox [.sc (.string B3),.sc (.int .i64 Bv)]] [.l] nn ⟨lk [(0,(.ptr 64000 0))],Jz [(64000,(.st [(.sc (.string y0)),(.sc (.int .i64 y1))]))]⟩
theorem Ey (fu:Nat)(call:Ax)(B3:ByteArray)(Bv:Int)(nn:Nat)(y0:ByteArray)(y1:Int):C5 fu call B3 Bv (nn+1) y0 y1=(Bh (decide (y1<(↑(ByteArray.size y0):Int))) (Bj (decide (0<=y1))<|Dh ((Array.toList (ByteArray.data y0))[Int.toNat y1]?) fun x1=>Ai (call 27 [.sc (.string (ByteArray.mk #[32,9,10,13])),.sc (.int .u8 (↑(UInt8.toNat x1):Int))]) fun x2 x3=>Ad x3<|Aa x2 fun x4 x5=>Aw .i64 x4 fun x6=>Ad x5<|Bh (decide (x6>=0)) (Ac (wrap .i64 (y1+1)) fun x7=>C5 fu call B3 Bv (nn) (y0) x7) (some (Ay.mk [] [[.sc (.string y0),.sc (.int .i64 y1)]]))) (some (Ay.mk [] [[.sc (.string y0),.sc (.int .i64 y1)]]))):=by kernel_rfl
theorem I7 {p:Option (List PV->Option Ay)} (fu d:Nat)(B3:ByteArray)(Bv:Int):Ae (CP p) prog fu (d+1) Fg [.pbox [.sc (.string B3),.sc (.int .i64 Bv)]]=(fun (call:Ax)=>C5 fu call B3 Bv (fu) (B3) (Bv)) (Ae (CP p) prog fu d):=by kernel_rfl
abbrev E5:FuncId:=107
noncomputable def Cu (fu:Nat)(call:Ax)(B3:ByteArray)(Bv:Int)(nn:Nat)(y0:Int)(y1:ByteArray)(y2:Int):Option Ay:=I3 CB prog fu call 107 Tryd.f107 (Gb Tryd.f107) [.pbox [.sc (.string B3),.sc (.int .i64 Bv)]] [.r,.r,.l,.l] nn ⟨lk [(0,(.ptr 58000 0)),(3,(.sc (.int .i64 y0)))],Jz [(58000,(.st [(.sc (.string y1)),(.sc (.int .i64 y2))]))]⟩
theorem Ep (fu:Nat)(call:Ax)(B3:ByteArray)(Bv:Int)(nn:Nat)(y0:Int)(y1:ByteArray)(y2:Int):Cu fu call B3 Bv (nn+1) y0 y1 y2=(Ai (call 90 [.pbox [.sc (.string y1),.sc (.int .i64 y2)]]) fun x1 x2=>Aa x1 fun x3 x4=>Aw .u8 x3 fun x5=>Ad x4<|Aa x2 fun x6 x7=>Aa x6 fun x8 x9=>A0 x8 fun F6=>Aa x9 fun L6 N0=>Aw .i64 L6 fun F0=>Ad N0<|Ad x7<|Bh (decide (x5>=48)) (Ai (call 90 [.pbox [.sc (.string F6),.sc (.int .i64 F0)]]) fun Kb Ni=>Aa Kb fun Lp K0=>Aw .u8 Lp fun N3=>Ad K0<|Aa Ni fun Nz N8=>Aa Nz fun Oc P8=>A0 Oc fun M4=>Aa P8 fun Qi M3=>Aw .i64 Qi fun M8=>Ad M3<|Ad N8<|Bh (decide (N3<=57)) (Ac (wrap .i64 (M8+1)) fun Qe=>Cu fu call B3 Bv (nn) (y0) M4 Qe) (some (Ay.mk [.sc (.bool (decide (M8>y0)))] [[.sc (.string M4),.sc (.int .i64 M8)]]))) (some (Ay.mk [.sc (.bool (decide (F0>y0)))] [[.sc (.string F6),.sc (.int .i64 F0)]]))):=by kernel_rfl
theorem Is {p:Option (List PV->Option Ay)} (fu d:Nat)(B3:ByteArray)(Bv:Int):Ae (CP p) prog fu (d+1) E5 [.pbox [.sc (.string B3),.sc (.int .i64 Bv)]]=(fun (call:Ax)=>Cu fu call B3 Bv (fu) (Bv) (B3) (Bv)) (Ae (CP p) prog fu d):=by kernel_rfl
abbrev E4:FuncId:=92
theorem Ag {p:Option (List PV->Option Ay)} (fu d:Nat)(B3:ByteArray)(Bv:Int):Ae (CP p) prog fu (d+1) E4 [.pbox [.sc (.string B3),.sc (.int .i64 Bv)]]=(fun (call:Ax)=>Ai (call 67 [.pbox [.sc (.string B3),.sc (.int .i64 Bv)],.sc (.string (ByteArray.mk #[45]))]) fun x1 x2=>Aa x1 fun x3 x4=>Am x3 fun x5=>Ad x4<|Aa x2 fun x6 x7=>Aa x6 fun x8 x9=>A0 x8 fun F6=>Aa x9 fun L6 N0=>Aw .i64 L6 fun F0=>Ad N0<|Ad x7<|Ai (call 67 [.pbox [.sc (.string F6),.sc (.int .i64 F0)],.sc (.string (ByteArray.mk #[48]))]) fun Kb Ni=>Aa Kb fun Lp K0=>Am Lp fun N3=>Ad K0<|Aa Ni fun Nz N8=>Aa Nz fun Oc P8=>A0 Oc fun M4=>Aa P8 fun Qi M3=>Aw .i64 Qi fun M8=>Ad M3<|Ad N8<|Bh (!N3) (Ai (call 107 [.pbox [.sc (.string M4),.sc (.int .i64 M8)]]) fun Qe Rm=>Aa Qe fun Ov Q4=>Am Ov fun R1=>Ad Q4<|Aa Rm fun Tc Ul=>Aa Tc fun Uc Us=>A0 Uc fun V1=>Aa Us fun Wy Y7=>Aw .i64 Wy fun Rt=>Ad Y7<|Ad Ul<|Bh (!R1) (some (Ay.mk [.sc (.bool false)] [[.sc (.string V1),.sc (.int .i64 Rt)]])) (Ai (call 67 [.pbox [.sc (.string V1),.sc (.int .i64 Rt)],.sc (.string (ByteArray.mk #[46]))]) fun CU DA=>Aa CU fun Rn O3=>Am Rn fun AM=>Ad O3<|Aa DA fun AB FT=>Aa AB fun DJ HQ=>A0 DJ fun AV=>Aa HQ fun AD DR=>Aw .i64 AD fun DB=>Ad DR<|Ad FT<|Bh AM (Ai (call 107 [.pbox [.sc (.string AV),.sc (.int .i64 DB)]]) fun EW Xh=>Aa EW fun HY KF=>Am HY fun HW=>Ad KF<|Aa Xh fun HM LI=>Aa HM fun KK JS=>A0 KK fun QI=>Aa JS fun WP TH=>Aw .i64 WP fun RL=>Ad TH<|Ad LI<|Bh (!HW) (some (Ay.mk [.sc (.bool false)] [[.sc (.string QI),.sc (.int .i64 RL)]])) (Ai (call 67 [.pbox [.sc (.string QI),.sc (.int .i64 RL)],.sc (.string (ByteArray.mk #[101]))]) fun UO QL=>Aa UO fun US WQ=>Am US fun RR=>Ad WQ<|Aa QL fun RW PN=>Aa RW fun QV QG=>A0 QV fun UY=>Aa QG fun ZX x77=>Aw .i64 ZX fun WX=>Ad x77<|Ad PN<|Bh RR (Ai (call 67 [.pbox [.sc (.string UY),.sc (.int .i64 WX)],.sc (.string (ByteArray.mk #[43]))]) fun ZV WU=>Aa ZV fun WW ZF=>Am WW fun YB=>Ad ZF<|Aa WU fun WS XO=>Aa WS fun x86 x87=>A0 x86 fun XC=>Aa x87 fun x89 ZJ=>Aw .i64 x89 fun XH=>Ad ZJ<|Ad XO<|Bh (!YB) (Ai (call 67 [.pbox [.sc (.string XC),.sc (.int .i64 XH)],.sc (.string (ByteArray.mk #[45]))]) fun WR YK=>Aa WR fun XF ZZ=>Am XF fun x96=>Ad ZZ<|Aa YK fun TI XJ=>Aa TI fun x99 Sa=>A0 x99 fun Y9=>Aa Sa fun Wq Y5=>Aw .i64 Wq fun Xs=>Ad Y5<|Ad XJ<|Ai (call 107 [.pbox [.sc (.string Y9),.sc (.int .i64 Xs)]]) fun X5 Wo=>Aa X5 fun V9 FN=>Am V9 fun EZ=>Ad FN<|Aa Wo fun AR GJ=>Aa AR fun LG HF=>A0 LG fun FY=>Aa HF fun II GF=>Aw .i64 II fun GZ=>Ad GF<|Ad GJ<|some (Ay.mk [.sc (.bool EZ)] [[.sc (.string FY),.sc (.int .i64 GZ)]])) (Ai (call 107 [.pbox [.sc (.string XC),.sc (.int .i64 XH)]]) fun BE BF=>Aa BE fun AQ FX=>Am AQ fun FG=>Ad FX<|Aa BF fun GK HI=>Aa GK fun EM BD=>A0 EM fun AK=>Aa BD fun JG BH=>Aw .i64 JG fun KU=>Ad BH<|Ad HI<|some (Ay.mk [.sc (.bool FG)] [[.sc (.string AK),.sc (.int .i64 KU)]]))) (Ai (call 67 [.pbox [.sc (.string UY),.sc (.int .i64 WX)],.sc (.string (ByteArray.mk #[69]))]) fun PF PL=>Aa PF fun IR OJ=>Am IR fun NE=>Ad OJ<|Aa PL fun PY OI=>Aa PY fun UL OW=>A0 UL fun IM=>Aa OW fun TV PW=>Aw .i64 TV fun GL=>Ad PW<|Ad OI<|Bh NE (Ai (call 67 [.pbox [.sc (.string IM),.sc (.int .i64 GL)],.sc (.string (ByteArray.mk #[43]))]) fun TN OR=>Aa TN fun JP JL=>Am JP fun JO=>Ad JL<|Aa OR fun MG KC=>Aa MG fun Aba ZR=>A0 Aba fun NO=>Aa ZR fun ZG Ab0=>Aw .i64 ZG fun UJ=>Ad Ab0<|Ad KC<|Bh (!JO) (Ai (call 67 [.pbox [.sc (.string NO),.sc (.int .i64 UJ)],.sc (.string (ByteArray.mk #[45]))]) fun Aja Am8=>Aa Aja fun Amw Amr=>Am Amw fun Aog=>Ad Amr<|Aa Am8 fun Ak5 Afw=>Aa Ak5 fun Am1 Ajs=>A0 Am1 fun Ady=>Aa Ajs fun Ai1 Amz=>Aw .i64 Ai1 fun Ah2=>Ad Amz<|Ad Afw<|Ai (call 107 [.pbox [.sc (.string Ady),.sc (.int .i64 Ah2)]]) fun Aj0 Ajp=>Aa Aj0 fun Aim Akw=>Am Aim fun Aju=>Ad Akw<|Aa Ajp fun Amy Ad1=>Aa Amy fun Ak2 Ahy=>A0 Ak2 fun Ae6=>Aa Ahy fun Akq Aip=>Aw .i64 Akq fun Akb=>Ad Aip<|Ad Ad1<|some (Ay.mk [.sc (.bool Aju)] [[.sc (.string Ae6),.sc (.int .i64 Akb)]])) (Ai (call 107 [.pbox [.sc (.string NO),.sc (.int .i64 UJ)]]) fun Ajz Alq=>Aa Ajz fun Ajq Alp=>Am Ajq fun Aib=>Ad Alp<|Aa Alq fun Aje Aeg=>Aa Aje fun Al1 Akd=>A0 Al1 fun Aeo=>Aa Akd fun Ald Aic=>Aw .i64 Ald fun Amb=>Ad Aic<|Ad Aeg<|some (Ay.mk [.sc (.bool Aib)] [[.sc (.string Aeo),.sc (.int .i64 Amb)]]))) (some (Ay.mk [.sc (.bool true)] [[.sc (.string IM),.sc (.int .i64 GL)]]))))) (Ai (call 67 [.pbox [.sc (.string AV),.sc (.int .i64 DB)],.sc (.string (ByteArray.mk #[101]))]) fun Aj7 Ah4=>Aa Aj7 fun Ak0 Alt=>Am Ak0 fun Alc=>Ad Alt<|Aa Ah4 fun Aks Adn=>Aa Aks fun Aj9 Akk=>A0 Aj9 fun Ace=>Aa Akk fun Ams Aif=>Aw .i64 Ams fun Aft=>Ad Aif<|Ad Adn<|Bh Alc (Ai (call 67 [.pbox [.sc (.string Ace),.sc (.int .i64 Aft)],.sc (.string (ByteArray.mk #[43]))]) fun Ahu Aig=>Aa Ahu fun Alg Am5=>Am Alg fun Alz=>Ad Am5<|Aa Aig fun Ah8 Am7=>Aa Ah8 fun Akx Ajo=>A0 Akx fun Adw=>Aa Ajo fun Akr Aih=>Aw .i64 Akr fun Afg=>Ad Aih<|Ad Am7<|Bh (!Alz) (Ai (call 67 [.pbox [.sc (.string Adw),.sc (.int .i64 Afg)],.sc (.string (ByteArray.mk #[45]))]) fun Amx Akh=>Aa Amx fun Ai8 Amt=>Am Ai8 fun Arz=>Ad Amt<|Aa Akh fun Aly Aie=>Aa Aly fun Aii Ajn=>A0 Aii fun Akp=>Aa Ajn fun Akl Ahv=>Aw .i64 Akl fun Am2=>Ad Ahv<|Ad Aie<|Ai (call 107 [.pbox [.sc (.string Akp),.sc (.int .i64 Am2)]]) fun Am9 Al4=>Aa Am9 fun Ak4 Akc=>Am Ak4 fun Aji=>Ad Akc<|Aa Al4 fun Ajv Al5=>Aa Ajv fun Ak8 Aid=>A0 Ak8 fun Ah1=>Aa Aid fun Anc Af1=>Aw .i64 Anc fun Am4=>Ad Af1<|Ad Al5<|some (Ay.mk [.sc (.bool Aji)] [[.sc (.string Ah1),.sc (.int .i64 Am4)]])) (Ai (call 107 [.pbox [.sc (.string Adw),.sc (.int .i64 Afg)]]) fun Al0 Af0=>Aa Al0 fun Ah0 Amm=>Am Ah0 fun Ak1=>Ad Amm<|Aa Af0 fun Ajg Akn=>Aa Ajg fun And Alw=>A0 And fun Alv=>Aa Alw fun Amn Ae8=>Aw .i64 Amn fun Aiy=>Ad Ae8<|Ad Akn<|some (Ay.mk [.sc (.bool Ak1)] [[.sc (.string Alv),.sc (.int .i64 Aiy)]]))) (Ai (call 67 [.pbox [.sc (.string Ace),.sc (.int .i64 Aft)],.sc (.string (ByteArray.mk #[69]))]) fun Ai3 Afb=>Aa Ai3 fun Ajl Aiu=>Am Ajl fun Am0=>Ad Aiu<|Aa Afb fun Amh Ak9=>Aa Amh fun Anb Akj=>A0 Anb fun Afl=>Aa Akj fun Aj5 Ade=>Aw .i64 Aj5 fun Ad6=>Ad Ade<|Ad Ak9<|Bh Am0 (Ai (call 67 [.pbox [.sc (.string Afl),.sc (.int .i64 Ad6)],.sc (.string (ByteArray.mk #[43]))]) fun Ajx Aeh=>Aa Ajx fun Aka Ahw=>Am Aka fun Ain=>Ad Ahw<|Aa Aeh fun Ajt Ai9=>Aa Ajt fun Ah9 Ah7=>A0 Ah9 fun Adr=>Aa Ah7 fun Ah5 Af9=>Aw .i64 Ah5 fun Ad8=>Ad Af9<|Ad Ai9<|Bh (!Ain) (Ai (call 67 [.pbox [.sc (.string Adr),.sc (.int .i64 Ad8)],.sc (.string (ByteArray.mk #[45]))]) fun Akt Ad7=>Aa Akt fun Akv Ah3=>Am Akv fun Aor=>Ad Ah3<|Aa Ad7 fun Aix Aki=>Aa Aix fun Aiz Akf=>A0 Aiz fun Ahx=>Aa Akf fun Alx Af6=>Aw .i64 Alx fun Alf=>Ad Af6<|Ad Aki<|Ai (call 107 [.pbox [.sc (.string Ahx),.sc (.int .i64 Alf)]]) fun Amd Afa=>Aa Amd fun Azl A0l=>Am Azl fun Ayk=>Ad A0l<|Aa Afa fun Axn Aut=>Aa Axn fun Atg Ayp=>A0 Atg fun Av2=>Aa Ayp fun Axv A1e=>Aw .i64 Axv fun A2g=>Ad A1e<|Ad Aut<|some (Ay.mk [.sc (.bool Ayk)] [[.sc (.string Av2),.sc (.int .i64 A2g)]])) (Ai (call 107 [.pbox [.sc (.string Adr),.sc (.int .i64 Ad8)]]) fun A0a Azh=>Aa A0a fun Atx Awb=>Am Atx fun Atr=>Ad Awb<|Aa Azh fun Auv A18=>Aa Auv fun A2u A2o=>A0 A2u fun Au8=>Aa A2o fun Aww A39=>Aw .i64 Aww fun Aum=>Ad A39<|Ad A18<|some (Ay.mk [.sc (.bool Atr)] [[.sc (.string Au8),.sc (.int .i64 Aum)]]))) (some (Ay.mk [.sc (.bool true)] [[.sc (.string Afl),.sc (.int .i64 Ad6)]])))))) (Ai (call 67 [.pbox [.sc (.string M4),.sc (.int .i64 M8)],.sc (.string (ByteArray.mk #[46]))]) fun Avr A13=>Aa Avr fun A3s A36=>Am A3s fun Ayl=>Ad A36<|Aa A13 fun A4j A22=>Aa A4j fun A4i A3l=>A0 A4i fun Aqa=>Aa A3l fun A3m Aui=>Aw .i64 A3m fun Arv=>Ad Aui<|Ad A22<|Bh Ayl (Ai (call 107 [.pbox [.sc (.string Aqa),.sc (.int .i64 Arv)]]) fun Ayf Awg=>Aa Ayf fun A4a Awt=>Am A4a fun Auo=>Ad Awt<|Aa Awg fun Awe A0f=>Aa Awe fun A3w A0z=>A0 A3w fun Ap2=>Aa A0z fun Azg Aw4=>Aw .i64 Azg fun Apy=>Ad Aw4<|Ad A0f<|Bh (!Auo) (some (Ay.mk [.sc (.bool false)] [[.sc (.string Ap2),.sc (.int .i64 Apy)]])) (Ai (call 67 [.pbox [.sc (.string Ap2),.sc (.int .i64 Apy)],.sc (.string (ByteArray.mk #[101]))]) fun Auh A05=>Aa Auh fun Azb A2a=>Am Azb fun Au9=>Ad A2a<|Aa A05 fun Aup A1i=>Aa Aup fun A1z Awf=>A0 A1z fun Aru=>Aa Awf fun Axw Auf=>Aw .i64 Axw fun Ao6=>Ad Auf<|Ad A1i<|Bh Au9 (Ai (call 67 [.pbox [.sc (.string Aru),.sc (.int .i64 Ao6)],.sc (.string (ByteArray.mk #[43]))]) fun Avg Avp=>Aa Avg fun Aun Atu=>Am Aun fun Awc=>Ad Atu<|Aa Avp fun A23 A3r=>Aa A23 fun Au3 Av3=>A0 Au3 fun Apc=>Aa Av3 fun Az5 Av1=>Aw .i64 Az5 fun Aqn=>Ad Av1<|Ad A3r<|Bh (!Awc) (Ai (call 67 [.pbox [.sc (.string Apc),.sc (.int .i64 Aqn)],.sc (.string (ByteArray.mk #[45]))]) fun A12 A31=>Aa A12 fun Aw1 Avl=>Am Aw1 fun A7v=>Ad Avl<|Aa A31 fun Au4 Aw6=>Aa Au4 fun As9 Aw7=>A0 As9 fun Axy=>Aa Aw7 fun A2v A1u=>Aw .i64 A2v fun A1m=>Ad A1u<|Ad Aw6<|Ai (call 107 [.pbox [.sc (.string Axy),.sc (.int .i64 A1m)]]) fun Atp Aw8=>Aa Atp fun A2q A2y=>Am A2q fun Awp=>Ad A2y<|Aa Aw8 fun Auj A35=>Aa Auj fun Axd A0o=>A0 Axd fun A2f=>Aa A0o fun A4k A4l=>Aw .i64 A4k fun Awo=>Ad A4l<|Ad A35<|some (Ay.mk [.sc (.bool Awp)] [[.sc (.string A2f),.sc (.int .i64 Awo)]])) (Ai (call 107 [.pbox [.sc (.string Apc),.sc (.int .i64 Aqn)]]) fun Awn Atm=>Aa Awn fun Azo A3o=>Am Azo fun Ayn=>Ad A3o<|Aa Atm fun Ave Awm=>Aa Ave fun A01 Az3=>A0 A01 fun Avh=>Aa Az3 fun A26 A3v=>Aw .i64 A26 fun Axa=>Ad A3v<|Ad Awm<|some (Ay.mk [.sc (.bool Ayn)] [[.sc (.string Avh),.sc (.int .i64 Axa)]]))) (Ai (call 67 [.pbox [.sc (.string Aru),.sc (.int .i64 Ao6)],.sc (.string (ByteArray.mk #[69]))]) fun A2t A2e=>Aa A2t fun A0c Avo=>Am A0c fun A3d=>Ad Avo<|Aa A2e fun Ax0 A37=>Aa Ax0 fun At0 A1o=>A0 At0 fun Arn=>Aa A1o fun Awr Aye=>Aw .i64 Awr fun Aou=>Ad Aye<|Ad A37<|Bh A3d (Ai (call 67 [.pbox [.sc (.string Arn),.sc (.int .i64 Aou)],.sc (.string (ByteArray.mk #[43]))]) fun Ava A04=>Aa Ava fun Av6 A2c=>Am Av6 fun A03=>Ad A2c<|Aa A04 fun A2i A0x=>Aa A2i fun Aw5 Azi=>A0 Aw5 fun Aro=>Aa Azi fun A4f Axp=>Aw .i64 A4f fun Aoi=>Ad Axp<|Ad A0x<|Bh (!A03) (Ai (call 67 [.pbox [.sc (.string Aro),.sc (.int .i64 Aoi)],.sc (.string (ByteArray.mk #[45]))]) fun Axm A0h=>Aa Axm fun Ays A1s=>Am Ays fun A76=>Ad A1s<|Aa A0h fun Avi Ax5=>Aa Avi fun A1l A0w=>A0 A1l fun A4b=>Aa A0w fun A1g A0t=>Aw .i64 A1g fun Ath=>Ad A0t<|Ad Ax5<|Ai (call 107 [.pbox [.sc (.string A4b),.sc (.int .i64 Ath)]]) fun A1q Axu=>Aa A1q fun Auu At5=>Am Auu fun Avq=>Ad At5<|Aa Axu fun A0g Axf=>Aa A0g fun A1c Aw0=>A0 A1c fun A3q=>Aa Aw0 fun Azx A24=>Aw .i64 Azx fun At1=>Ad A24<|Ad Axf<|some (Ay.mk [.sc (.bool Avq)] [[.sc (.string A3q),.sc (.int .i64 At1)]])) (Ai (call 107 [.pbox [.sc (.string Aro),.sc (.int .i64 Aoi)]]) fun A1t Ayy=>Aa A1t fun A30 Axb=>Am A30 fun Axo=>Ad Axb<|Aa Ayy fun Auc Ayj=>Aa Auc fun Avb A28=>A0 Avb fun Ayr=>Aa A28 fun Axh Aym=>Aw .i64 Axh fun Azr=>Ad Aym<|Ad Ayj<|some (Ay.mk [.sc (.bool Axo)] [[.sc (.string Ayr),.sc (.int .i64 Azr)]]))) (some (Ay.mk [.sc (.bool true)] [[.sc (.string Arn),.sc (.int .i64 Aou)]]))))) (Ai (call 67 [.pbox [.sc (.string Aqa),.sc (.int .i64 Arv)],.sc (.string (ByteArray.mk #[101]))]) fun Ax7 Az9=>Aa Ax7 fun Awl Aws=>Am Awl fun Axz=>Ad Aws<|Aa Az9 fun Ay9 Au7=>Aa Ay9 fun Avx Ay8=>A0 Avx fun Aqz=>Aa Ay8 fun A11 A1b=>Aw .i64 A11 fun Arx=>Ad A1b<|Ad Au7<|Bh Axz (Ai (call 67 [.pbox [.sc (.string Aqz),.sc (.int .i64 Arx)],.sc (.string (ByteArray.mk #[43]))]) fun A1p Awq=>Aa A1p fun A0n Awi=>Am A0n fun A07=>Ad Awi<|Aa Awq fun Atf Awy=>Aa Atf fun Azj Ayb=>A0 Azj fun Ap3=>Aa Ayb fun Atl A0b=>Aw .i64 Atl fun Ao2=>Ad A0b<|Ad Awy<|Bh (!A07) (Ai (call 67 [.pbox [.sc (.string Ap3),.sc (.int .i64 Ao2)],.sc (.string (ByteArray.mk #[45]))]) fun Aus Atc=>Aa Aus fun Axj Axc=>Am Axj fun A6k=>Ad Axc<|Aa Atc fun Aue Avm=>Aa Aue fun Az0 A3t=>A0 Az0 fun Azy=>Aa A3t fun A2s Av5=>Aw .i64 A2s fun Aur=>Ad Av5<|Ad Avm<|Ai (call 107 [.pbox [.sc (.string Azy),.sc (.int .i64 Aur)]]) fun Azs A2l=>Aa Azs fun A1a As7=>Am A1a fun Ax3=>Ad As7<|Aa A2l fun A2j As6=>Aa A2j fun A0u A0i=>A0 A0u fun Azu=>Aa A0i fun A3n A1r=>Aw .i64 A3n fun Azk=>Ad A1r<|Ad As6<|some (Ay.mk [.sc (.bool Ax3)] [[.sc (.string Azu),.sc (.int .i64 Azk)]])) (Ai (call 107 [.pbox [.sc (.string Ap3),.sc (.int .i64 Ao2)]]) fun A3z Avz=>Aa A3z fun Au0 Aty=>Am Au0 fun A20=>Ad Aty<|Aa Avz fun Avd Ata=>Aa Avd fun Axi A09=>A0 Axi fun Aua=>Aa A09 fun Av0 Avv=>Aw .i64 Av0 fun Azw=>Ad Avv<|Ad Ata<|some (Ay.mk [.sc (.bool A20)] [[.sc (.string Aua),.sc (.int .i64 Azw)]]))) (Ai (call 67 [.pbox [.sc (.string Aqz),.sc (.int .i64 Arx)],.sc (.string (ByteArray.mk #[69]))]) fun A1n A2n=>Aa A1n fun A0s A1w=>Am A0s fun Aud=>Ad A1w<|Aa A2n fun Ayw Az6=>Aa Ayw fun Att Avu=>A0 Att fun Aqw=>Aa Avu fun A00 A4h=>Aw .i64 A00 fun Asa=>Ad A4h<|Ad Az6<|Bh Aud (Ai (call 67 [.pbox [.sc (.string Aqw),.sc (.int .i64 Asa)],.sc (.string (ByteArray.mk #[43]))]) fun A4g As8=>Aa A4g fun Ax6 Avs=>Am Ax6 fun A25=>Ad Avs<|Aa As8 fun A06 A2d=>Aa A06 fun Ayh A3h=>A0 Ayh fun Apj=>Aa A3h fun A4c A17=>Aw .i64 A4c fun Aoy=>Ad A17<|Ad A2d<|Bh (!A25) (Ai (call 67 [.pbox [.sc (.string Apj),.sc (.int .i64 Aoy)],.sc (.string (ByteArray.mk #[45]))]) fun Azp Aya=>Aa Azp fun Ay6 A3y=>Am Ay6 fun A6p=>Ad A3y<|Aa Aya fun Auw Ax2=>Aa Auw fun Av8 Auy=>A0 Av8 fun Awu=>Aa Auy fun A1d A2w=>Aw .i64 A1d fun A0m=>Ad A2w<|Ad Ax2<|Ai (call 107 [.pbox [.sc (.string Awu),.sc (.int .i64 A0m)]]) fun Azm Awv=>Aa Azm fun Az4 Aub=>Am Az4 fun Avc=>Ad Aub<|Aa Awv fun A1x A16=>Aa A1x fun Ato A4d=>A0 Ato fun Aw9=>Aa A4d fun At7 Au6=>Aw .i64 At7 fun Auz=>Ad Au6<|Ad A16<|some (Ay.mk [.sc (.bool Avc)] [[.sc (.string Aw9),.sc (.int .i64 Auz)]])) (Ai (call 107 [.pbox [.sc (.string Apj),.sc (.int .i64 Aoy)]]) fun At3 A3i=>Aa At3 fun Aw2 Aug=>Am Aw2 fun A3k=>Ad Aug<|Aa A3i fun Ay3 Atj=>Aa Ay3 fun Atv Axe=>A0 Atv fun Az7=>Aa Axe fun Ay5 Av4=>Aw .i64 Ay5 fun Avt=>Ad Av4<|Ad Atj<|some (Ay.mk [.sc (.bool A3k)] [[.sc (.string Az7),.sc (.int .i64 Avt)]]))) (some (Ay.mk [.sc (.bool true)] [[.sc (.string Aqw),.sc (.int .i64 Asa)]])))))) (Ae (CP p) prog fu d):=by kernel_rfl
abbrev I5:FuncId:=91
noncomputable def C7 (fu:Nat)(call:Ax)(B3:ByteArray)(Bv a1:Int)(nn:Nat)(y0:Int)(y1:ByteArray)(y2:Int):Option Ay:=I3 CB prog fu call 91 Tryd.f91 (Gb Tryd.f91) [.pbox [.sc (.string B3),.sc (.int .i64 Bv)],.sc (.int .i64 a1)] [.r,.r,.r,.r,.l] nn ⟨lk [(0,(.ptr 64000 0)),(1,(.sc (.int .i64 y0)))],Jz [(64000,(.st [(.sc (.string y1)),(.sc (.int .i64 y2))]))]⟩
theorem Hw (fu:Nat)(call:Ax)(B3:ByteArray)(Bv a1:Int)(nn:Nat)(y0:Int)(y1:ByteArray)(y2:Int):C7 fu call B3 Bv a1 (nn+1) y0 y1 y2=(Ai (call 69 [.pbox [.sc (.string y1),.sc (.int .i64 y2)],.sc (.int .i64 y0)]) fun Wy Y7=>Aa Wy fun Rt CU=>G7 Rt fun DA=>Aa DA fun Rn O3=>Aw .i64 Rn fun AM=>Aa O3 fun AB FT=>A0 AB fun DJ=>Aa FT fun HQ AV=>Am HQ fun AD=>Ad AV<|Aa CU fun DR DB=>Aw .i64 DR fun EW=>Ad DB<|Aa Y7 fun Xh HY=>Aa Xh fun KF HW=>A0 KF fun HM=>Aa HW fun LI KK=>Aw .i64 LI fun JS=>Ad KK<|Ad HY<|Bh (EW != 0) (some (Ay.mk [.sc (.int .i64 EW)] [[.sc (.string HM),.sc (.int .i64 JS)]])) (Ai (call 50 [.pbox [.sc (.string HM),.sc (.int .i64 JS)]]) fun QI WP=>Ad QI<|Aa WP fun TH RL=>Aa TH fun UO QL=>A0 UO fun US=>Aa QL fun WQ RR=>Aw .i64 WQ fun RW=>Ad RR<|Ad RL<|Ai (call 67 [.pbox [.sc (.string US),.sc (.int .i64 RW)],.sc (.string (ByteArray.mk #[93]))]) fun PN QV=>Aa PN fun QG UY=>Am QG fun ZX=>Ad UY<|Aa QV fun x77 WX=>Aa x77 fun ZV WU=>A0 ZV fun WW=>Aa WU fun ZF YB=>Aw .i64 ZF fun WS=>Ad YB<|Ad WX<|Bh ZX (some (Ay.mk [.sc (.int .i64 0)] [[.sc (.string WW),.sc (.int .i64 WS)]])) (Ai (call 67 [.pbox [.sc (.string WW),.sc (.int .i64 WS)],.sc (.string (ByteArray.mk #[44]))]) fun XO x86=>Aa XO fun x87 XC=>Am x87 fun x89=>Ad XC<|Aa x86 fun ZJ XH=>Aa ZJ fun WR YK=>A0 WR fun XF=>Aa YK fun ZZ x96=>Aw .i64 ZZ fun TI=>Ad x96<|Ad XH<|Bh (!x89) (some (Ay.mk [.sc (.int .i64 2)] [[.sc (.string XF),.sc (.int .i64 TI)]])) (Ai (call 50 [.pbox [.sc (.string XF),.sc (.int .i64 TI)]]) fun XJ x99=>Ad XJ<|Aa x99 fun Sa Y9=>Aa Sa fun Wq Y5=>A0 Wq fun Xs=>Aa Y5 fun X5 Wo=>Aw .i64 X5 fun V9=>Ad Wo<|Ad Y9<|C7 fu call B3 Bv a1 (nn) (y0) Xs V9)))):=by kernel_rfl
theorem I6 {p:Option (List PV->Option Ay)} (fu d:Nat)(B3:ByteArray)(Bv a1:Int):Ae (CP p) prog fu (d+1) I5 [.pbox [.sc (.string B3),.sc (.int .i64 Bv)],.sc (.int .i64 a1)]=(fun (call:Ax)=>Ai (call 67 [.pbox [.sc (.string B3),.sc (.int .i64 Bv)],.sc (.string (ByteArray.mk #[91]))]) fun x1 x2=>Aa x1 fun x3 x4=>Am x3 fun x5=>Ad x4<|Aa x2 fun x6 x7=>Aa x6 fun x8 x9=>A0 x8 fun F6=>Aa x9 fun L6 N0=>Aw .i64 L6 fun F0=>Ad N0<|Ad x7<|Bh (!x5) (some (Ay.mk [.sc (.int .i64 2)] [[.sc (.string F6),.sc (.int .i64 F0)]])) (Ai (call 50 [.pbox [.sc (.string F6),.sc (.int .i64 F0)]]) fun Kb Ni=>Ad Kb<|Aa Ni fun Lp K0=>Aa Lp fun N3 Nz=>A0 N3 fun N8=>Aa Nz fun Oc P8=>Aw .i64 Oc fun M4=>Ad P8<|Ad K0<|Ai (call 67 [.pbox [.sc (.string N8),.sc (.int .i64 M4)],.sc (.string (ByteArray.mk #[93]))]) fun Qi M3=>Aa Qi fun M8 Qe=>Am M8 fun Rm=>Ad Qe<|Aa M3 fun Ov Q4=>Aa Ov fun R1 Tc=>A0 R1 fun Ul=>Aa Tc fun Uc Us=>Aw .i64 Uc fun V1=>Ad Us<|Ad Q4<|Bh Rm (some (Ay.mk [.sc (.int .i64 0)] [[.sc (.string Ul),.sc (.int .i64 V1)]])) (C7 fu call B3 Bv a1 (fu) (a1) Ul V1))) (Ae (CP p) prog fu d):=by kernel_rfl
abbrev Ih:FuncId:=51
noncomputable def Cv (fu:Nat)(call:Ax)(B3:ByteArray)(Bv a1:Int)(nn:Nat)(y0:Int)(y1:ByteArray)(y2:Int):Option Ay:=I3 CB prog fu call 51 Tryd.f51 (Gb Tryd.f51) [.pbox [.sc (.string B3),.sc (.int .i64 Bv)],.sc (.int .i64 a1),.sc (Value.map none)] [.r,.r,.r,.r,.l] nn ⟨lk [(0,(.ptr 128000 0)),(1,(.sc (.int .i64 y0))),(2,(.sc (Value.map none)))],Jz [(128000,(.st [(.sc (.string y1)),(.sc (.int .i64 y2))]))]⟩
theorem Hq (fu:Nat)(call:Ax)(B3:ByteArray)(Bv a1:Int)(nn:Nat)(y0:Int)(y1:ByteArray)(y2:Int):Cv fu call B3 Bv a1 (nn+1) y0 y1 y2=(Ai (call 68 [.pbox [.sc (.string y1),.sc (.int .i64 y2)]]) fun Wy Y7=>Aa Wy fun Rt CU=>A0 Rt fun DA=>Aa CU fun Rn O3=>Am Rn fun AM=>Ad O3<|Aa Y7 fun AB FT=>Aa AB fun DJ HQ=>A0 DJ fun AV=>Aa HQ fun AD DR=>Aw .i64 AD fun DB=>Ad DR<|Ad FT<|Bh (!AM) (some (Ay.mk [.sc (.int .i64 2)] [[.sc (.string AV),.sc (.int .i64 DB)]])) (Ai (call 50 [.pbox [.sc (.string AV),.sc (.int .i64 DB)]]) fun EW Xh=>Ad EW<|Aa Xh fun HY KF=>Aa HY fun HW HM=>A0 HW fun LI=>Aa HM fun KK JS=>Aw .i64 KK fun QI=>Ad JS<|Ad KF<|Ai (call 67 [.pbox [.sc (.string LI),.sc (.int .i64 QI)],.sc (.string (ByteArray.mk #[58]))]) fun WP TH=>Aa WP fun RL UO=>Am RL fun QL=>Ad UO<|Aa TH fun US WQ=>Aa US fun RR RW=>A0 RR fun PN=>Aa RW fun QV QG=>Aw .i64 QV fun UY=>Ad QG<|Ad WQ<|Bh (!QL) (some (Ay.mk [.sc (.int .i64 2)] [[.sc (.string PN),.sc (.int .i64 UY)]])) (Ai (call 50 [.pbox [.sc (.string PN),.sc (.int .i64 UY)]]) fun ZX x77=>Ad ZX<|Aa x77 fun WX ZV=>Aa WX fun WU WW=>A0 WU fun ZF=>Aa WW fun YB WS=>Aw .i64 YB fun XO=>Ad WS<|Ad ZV<|Ai (call 69 [.pbox [.sc (.string ZF),.sc (.int .i64 XO)],.sc (.int .i64 y0)]) fun x86 x87=>Aa x86 fun XC x89=>G7 XC fun ZJ=>Aa ZJ fun XH WR=>Aw .i64 XH fun YK=>Aa WR fun XF ZZ=>A0 XF fun x96=>Aa ZZ fun TI XJ=>Am TI fun x99=>Ad XJ<|Aa x89 fun Sa Y9=>Aw .i64 Sa fun Wq=>Ad Y9<|Aa x87 fun Y5 Xs=>Aa Y5 fun X5 Wo=>A0 X5 fun V9=>Aa Wo fun FN EZ=>Aw .i64 FN fun AR=>Ad EZ<|Ad Xs<|Bh (Wq != 0) (some (Ay.mk [.sc (.int .i64 Wq)] [[.sc (.string V9),.sc (.int .i64 AR)]])) (Ai (call 50 [.pbox [.sc (.string V9),.sc (.int .i64 AR)]]) fun GJ LG=>Ad GJ<|Aa LG fun HF FY=>Aa HF fun II GF=>A0 II fun GZ=>Aa GF fun BE BF=>Aw .i64 BE fun AQ=>Ad BF<|Ad FY<|Ai (call 67 [.pbox [.sc (.string GZ),.sc (.int .i64 AQ)],.sc (.string (ByteArray.mk #[125]))]) fun FX FG=>Aa FX fun GK HI=>Am GK fun EM=>Ad HI<|Aa FG fun BD AK=>Aa BD fun JG BH=>A0 JG fun KU=>Aa BH fun PF PL=>Aw .i64 PF fun IR=>Ad PL<|Ad AK<|Bh EM (some (Ay.mk [.sc (.int .i64 0)] [[.sc (.string KU),.sc (.int .i64 IR)]])) (Ai (call 67 [.pbox [.sc (.string KU),.sc (.int .i64 IR)],.sc (.string (ByteArray.mk #[44]))]) fun OJ NE=>Aa OJ fun PY OI=>Am PY fun UL=>Ad OI<|Aa NE fun OW IM=>Aa OW fun TV PW=>A0 TV fun GL=>Aa PW fun TN OR=>Aw .i64 TN fun JP=>Ad OR<|Ad IM<|Bh (!UL) (some (Ay.mk [.sc (.int .i64 2)] [[.sc (.string GL),.sc (.int .i64 JP)]])) (Ai (call 50 [.pbox [.sc (.string GL),.sc (.int .i64 JP)]]) fun JL JO=>Ad JL<|Aa JO fun MG KC=>Aa MG fun Aba ZR=>A0 Aba fun NO=>Aa ZR fun ZG Ab0=>Aw .i64 ZG fun UJ=>Ad Ab0<|Ad KC<|Cv fu call B3 Bv a1 (nn) (y0) NO UJ)))))):=by kernel_rfl
theorem Ig {p:Option (List PV->Option Ay)} (fu d:Nat)(B3:ByteArray)(Bv a1:Int):Ae (CP p) prog fu (d+1) Ih [.pbox [.sc (.string B3),.sc (.int .i64 Bv)],.sc (.int .i64 a1),.sc (Value.map none)]=(fun (call:Ax)=>Ai (call 67 [.pbox [.sc (.string B3),.sc (.int .i64 Bv)],.sc (.string (ByteArray.mk #[123]))]) fun x1 x2=>Aa x1 fun x3 x4=>Am x3 fun x5=>Ad x4<|Aa x2 fun x6 x7=>Aa x6 fun x8 x9=>A0 x8 fun F6=>Aa x9 fun L6 N0=>Aw .i64 L6 fun F0=>Ad N0<|Ad x7<|Bh (!x5) (some (Ay.mk [.sc (.int .i64 2)] [[.sc (.string F6),.sc (.int .i64 F0)]])) (Ai (call 50 [.pbox [.sc (.string F6),.sc (.int .i64 F0)]]) fun Kb Ni=>Ad Kb<|Aa Ni fun Lp K0=>Aa Lp fun N3 Nz=>A0 N3 fun N8=>Aa Nz fun Oc P8=>Aw .i64 Oc fun M4=>Ad P8<|Ad K0<|Ai (call 67 [.pbox [.sc (.string N8),.sc (.int .i64 M4)],.sc (.string (ByteArray.mk #[125]))]) fun Qi M3=>Aa Qi fun M8 Qe=>Am M8 fun Rm=>Ad Qe<|Aa M3 fun Ov Q4=>Aa Ov fun R1 Tc=>A0 R1 fun Ul=>Aa Tc fun Uc Us=>Aw .i64 Uc fun V1=>Ad Us<|Ad Q4<|Bh Rm (some (Ay.mk [.sc (.int .i64 0)] [[.sc (.string Ul),.sc (.int .i64 V1)]])) (Cv fu call B3 Bv a1 (fu) (a1) Ul V1))) (Ae (CP p) prog fu d):=by kernel_rfl
abbrev Iz:FuncId:=69
theorem B1 {p:Option (List PV->Option Ay)} (fu d:Nat)(B3:ByteArray)(Bv a1:Int):Ae (CP p) prog fu (d+1) Iz [.pbox [.sc (.string B3),.sc (.int .i64 Bv)],.sc (.int .i64 a1)]=(fun (call:Ax)=>Ai (call 90 [.pbox [.sc (.string B3),.sc (.int .i64 Bv)]]) fun x1 x2=>Aa x1 fun x3 x4=>Aw .u8 x3 fun x5=>Ad x4<|Aa x2 fun x6 x7=>Aa x6 fun x8 x9=>A0 x8 fun F6=>Aa x9 fun L6 N0=>Aw .i64 L6 fun F0=>Ad N0<|Ad x7<|Bh (x5==123) (Bh (decide (a1>8)) (some (Ay.mk [.agg [.sc (.int .i64 0),.sc (.string (ByteArray.mk #[])),.sc (.bool false)],.sc (.int .i64 5)] [[.sc (.string F6),.sc (.int .i64 F0)]])) (Bh (x5==123) (Ac (wrap .i64 (a1+1)) fun Kb=>Ai (call 51 [.pbox [.sc (.string F6),.sc (.int .i64 F0)],.sc (.int .i64 Kb),.sc (Value.map none)]) fun Ni Lp=>Aa Ni fun K0 N3=>Aw .i64 K0 fun Nz=>Ad N3<|Aa Lp fun N8 Oc=>Aa N8 fun P8 M4=>A0 P8 fun Qi=>Aa M4 fun M3 M8=>Aw .i64 M3 fun Qe=>Ad M8<|Ad Oc<|some (Ay.mk [.agg [.sc (.int .i64 6),.sc (.string (ByteArray.mk #[])),.sc (.bool false)],.sc (.int .i64 Nz)] [[.sc (.string Qi),.sc (.int .i64 Qe)]])) (Bh (x5==91) (Ac (wrap .i64 (a1+1)) fun Rm=>Ai (call 91 [.pbox [.sc (.string F6),.sc (.int .i64 F0)],.sc (.int .i64 Rm)]) fun Ov Q4=>Aa Ov fun R1 Tc=>Aw .i64 R1 fun Ul=>Ad Tc<|Aa Q4 fun Uc Us=>Aa Uc fun V1 Wy=>A0 V1 fun Y7=>Aa Wy fun Rt CU=>Aw .i64 Rt fun DA=>Ad CU<|Ad Us<|some (Ay.mk [.agg [.sc (.int .i64 5),.sc (.string (ByteArray.mk #[])),.sc (.bool false)],.sc (.int .i64 Ul)] [[.sc (.string Y7),.sc (.int .i64 DA)]])) (Bh (x5==34) (Ai (call 68 [.pbox [.sc (.string F6),.sc (.int .i64 F0)]]) fun Rn O3=>Aa Rn fun AM AB=>A0 AM fun FT=>Aa AB fun DJ HQ=>Am DJ fun AV=>Ad HQ<|Aa O3 fun AD DR=>Aa AD fun DB EW=>A0 DB fun Xh=>Aa EW fun HY KF=>Aw .i64 HY fun HW=>Ad KF<|Ad DR<|Bh AV (some (Ay.mk [.agg [.sc (.int .i64 4),.sc (.string FT),.sc (.bool false)],.sc (.int .i64 0)] [[.sc (.string Xh),.sc (.int .i64 HW)]])) (some (Ay.mk [.agg [.sc (.int .i64 0),.sc (.string (ByteArray.mk #[])),.sc (.bool false)],.sc (.int .i64 2)] [[.sc (.string Xh),.sc (.int .i64 HW)]]))) (Ai (call 67 [.pbox [.sc (.string F6),.sc (.int .i64 F0)],.sc (.string (ByteArray.mk #[116,114,117,101]))]) fun HM LI=>Aa HM fun KK JS=>Am KK fun QI=>Ad JS<|Aa LI fun WP TH=>Aa WP fun RL UO=>A0 RL fun QL=>Aa UO fun US WQ=>Aw .i64 US fun RR=>Ad WQ<|Ad TH<|Bh QI (some (Ay.mk [.agg [.sc (.int .i64 2),.sc (.string (ByteArray.mk #[])),.sc (.bool true)],.sc (.int .i64 0)] [[.sc (.string QL),.sc (.int .i64 RR)]])) (Ai (call 67 [.pbox [.sc (.string QL),.sc (.int .i64 RR)],.sc (.string (ByteArray.mk #[102,97,108,115,101]))]) fun RW PN=>Aa RW fun QV QG=>Am QV fun UY=>Ad QG<|Aa PN fun ZX x77=>Aa ZX fun WX ZV=>A0 WX fun WU=>Aa ZV fun WW ZF=>Aw .i64 WW fun YB=>Ad ZF<|Ad x77<|Bh UY (some (Ay.mk [.agg [.sc (.int .i64 2),.sc (.string (ByteArray.mk #[])),.sc (.bool false)],.sc (.int .i64 0)] [[.sc (.string WU),.sc (.int .i64 YB)]])) (Ai (call 67 [.pbox [.sc (.string WU),.sc (.int .i64 YB)],.sc (.string (ByteArray.mk #[110,117,108,108]))]) fun WS XO=>Aa WS fun x86 x87=>Am x86 fun XC=>Ad x87<|Aa XO fun x89 ZJ=>Aa x89 fun XH WR=>A0 XH fun YK=>Aa WR fun XF ZZ=>Aw .i64 XF fun x96=>Ad ZZ<|Ad ZJ<|Bh XC (some (Ay.mk [.agg [.sc (.int .i64 1),.sc (.string (ByteArray.mk #[])),.sc (.bool false)],.sc (.int .i64 0)] [[.sc (.string YK),.sc (.int .i64 x96)]])) (Ai (call 92 [.pbox [.sc (.string YK),.sc (.int .i64 x96)]]) fun TI XJ=>Aa TI fun x99 Sa=>Am x99 fun Y9=>Ad Sa<|Aa XJ fun Wq Y5=>Aa Wq fun Xs X5=>A0 Xs fun Wo=>Aa X5 fun V9 FN=>Aw .i64 V9 fun EZ=>Ad FN<|Ad Y5<|Bh Y9 (some (Ay.mk [.agg [.sc (.int .i64 3),.sc (.string (ByteArray.mk #[])),.sc (.bool false)],.sc (.int .i64 0)] [[.sc (.string Wo),.sc (.int .i64 EZ)]])) (some (Ay.mk [.agg [.sc (.int .i64 0),.sc (.string (ByteArray.mk #[])),.sc (.bool false)],.sc (.int .i64 2)] [[.sc (.string Wo),.sc (.int .i64 EZ)]])))))))))) (Bh (x5==91) (Bh (decide (a1>8)) (some (Ay.mk [.agg [.sc (.int .i64 0),.sc (.string (ByteArray.mk #[])),.sc (.bool false)],.sc (.int .i64 5)] [[.sc (.string F6),.sc (.int .i64 F0)]])) (Bh (x5==123) (Ac (wrap .i64 (a1+1)) fun AR=>Ai (call 51 [.pbox [.sc (.string F6),.sc (.int .i64 F0)],.sc (.int .i64 AR),.sc (Value.map none)]) fun GJ LG=>Aa GJ fun HF FY=>Aw .i64 HF fun II=>Ad FY<|Aa LG fun GF GZ=>Aa GF fun BE BF=>A0 BE fun AQ=>Aa BF fun FX FG=>Aw .i64 FX fun GK=>Ad FG<|Ad GZ<|some (Ay.mk [.agg [.sc (.int .i64 6),.sc (.string (ByteArray.mk #[])),.sc (.bool false)],.sc (.int .i64 II)] [[.sc (.string AQ),.sc (.int .i64 GK)]])) (Bh (x5==91) (Ac (wrap .i64 (a1+1)) fun HI=>Ai (call 91 [.pbox [.sc (.string F6),.sc (.int .i64 F0)],.sc (.int .i64 HI)]) fun EM BD=>Aa EM fun AK JG=>Aw .i64 AK fun BH=>Ad JG<|Aa BD fun KU PF=>Aa KU fun PL IR=>A0 PL fun OJ=>Aa IR fun NE PY=>Aw .i64 NE fun OI=>Ad PY<|Ad PF<|some (Ay.mk [.agg [.sc (.int .i64 5),.sc (.string (ByteArray.mk #[])),.sc (.bool false)],.sc (.int .i64 BH)] [[.sc (.string OJ),.sc (.int .i64 OI)]])) (Bh (x5==34) (Ai (call 68 [.pbox [.sc (.string F6),.sc (.int .i64 F0)]]) fun UL OW=>Aa UL fun IM TV=>A0 IM fun PW=>Aa TV fun GL TN=>Am GL fun OR=>Ad TN<|Aa OW fun JP JL=>Aa JP fun JO MG=>A0 JO fun KC=>Aa MG fun Aba ZR=>Aw .i64 Aba fun NO=>Ad ZR<|Ad JL<|Bh OR (some (Ay.mk [.agg [.sc (.int .i64 4),.sc (.string PW),.sc (.bool false)],.sc (.int .i64 0)] [[.sc (.string KC),.sc (.int .i64 NO)]])) (some (Ay.mk [.agg [.sc (.int .i64 0),.sc (.string (ByteArray.mk #[])),.sc (.bool false)],.sc (.int .i64 2)] [[.sc (.string KC),.sc (.int .i64 NO)]]))) (Ai (call 67 [.pbox [.sc (.string F6),.sc (.int .i64 F0)],.sc (.string (ByteArray.mk #[116,114,117,101]))]) fun ZG Ab0=>Aa ZG fun UJ Aja=>Am UJ fun Am8=>Ad Aja<|Aa Ab0 fun Amw Amr=>Aa Amw fun Aog Ak5=>A0 Aog fun Afw=>Aa Ak5 fun Am1 Ajs=>Aw .i64 Am1 fun Ady=>Ad Ajs<|Ad Amr<|Bh Am8 (some (Ay.mk [.agg [.sc (.int .i64 2),.sc (.string (ByteArray.mk #[])),.sc (.bool true)],.sc (.int .i64 0)] [[.sc (.string Afw),.sc (.int .i64 Ady)]])) (Ai (call 67 [.pbox [.sc (.string Afw),.sc (.int .i64 Ady)],.sc (.string (ByteArray.mk #[102,97,108,115,101]))]) fun Ai1 Amz=>Aa Ai1 fun Ah2 Aj0=>Am Ah2 fun Ajp=>Ad Aj0<|Aa Amz fun Aim Akw=>Aa Aim fun Aju Amy=>A0 Aju fun Ad1=>Aa Amy fun Ak2 Ahy=>Aw .i64 Ak2 fun Ae6=>Ad Ahy<|Ad Akw<|Bh Ajp (some (Ay.mk [.agg [.sc (.int .i64 2),.sc (.string (ByteArray.mk #[])),.sc (.bool false)],.sc (.int .i64 0)] [[.sc (.string Ad1),.sc (.int .i64 Ae6)]])) (Ai (call 67 [.pbox [.sc (.string Ad1),.sc (.int .i64 Ae6)],.sc (.string (ByteArray.mk #[110,117,108,108]))]) fun Akq Aip=>Aa Akq fun Akb Ajz=>Am Akb fun Alq=>Ad Ajz<|Aa Aip fun Ajq Alp=>Aa Ajq fun Aib Aje=>A0 Aib fun Aeg=>Aa Aje fun Al1 Akd=>Aw .i64 Al1 fun Aeo=>Ad Akd<|Ad Alp<|Bh Alq (some (Ay.mk [.agg [.sc (.int .i64 1),.sc (.string (ByteArray.mk #[])),.sc (.bool false)],.sc (.int .i64 0)] [[.sc (.string Aeg),.sc (.int .i64 Aeo)]])) (Ai (call 92 [.pbox [.sc (.string Aeg),.sc (.int .i64 Aeo)]]) fun Ald Aic=>Aa Ald fun Amb Aj7=>Am Amb fun Ah4=>Ad Aj7<|Aa Aic fun Ak0 Alt=>Aa Ak0 fun Alc Aks=>A0 Alc fun Adn=>Aa Aks fun Aj9 Akk=>Aw .i64 Aj9 fun Ace=>Ad Akk<|Ad Alt<|Bh Ah4 (some (Ay.mk [.agg [.sc (.int .i64 3),.sc (.string (ByteArray.mk #[])),.sc (.bool false)],.sc (.int .i64 0)] [[.sc (.string Adn),.sc (.int .i64 Ace)]])) (some (Ay.mk [.agg [.sc (.int .i64 0),.sc (.string (ByteArray.mk #[])),.sc (.bool false)],.sc (.int .i64 2)] [[.sc (.string Adn),.sc (.int .i64 Ace)]])))))))))) (Bh (x5==123) (Ac (wrap .i64 (a1+1)) fun Ams=>Ai (call 51 [.pbox [.sc (.string F6),.sc (.int .i64 F0)],.sc (.int .i64 Ams),.sc (Value.map none)]) fun Aif Aft=>Aa Aif fun Ahu Aig=>Aw .i64 Ahu fun Alg=>Ad Aig<|Aa Aft fun Am5 Alz=>Aa Am5 fun Ah8 Am7=>A0 Ah8 fun Akx=>Aa Am7 fun Ajo Adw=>Aw .i64 Ajo fun Akr=>Ad Adw<|Ad Alz<|some (Ay.mk [.agg [.sc (.int .i64 6),.sc (.string (ByteArray.mk #[])),.sc (.bool false)],.sc (.int .i64 Alg)] [[.sc (.string Akx),.sc (.int .i64 Akr)]])) (Bh (x5==91) (Ac (wrap .i64 (a1+1)) fun Aih=>Ai (call 91 [.pbox [.sc (.string F6),.sc (.int .i64 F0)],.sc (.int .i64 Aih)]) fun Afg Amx=>Aa Afg fun Akh Ai8=>Aw .i64 Akh fun Amt=>Ad Ai8<|Aa Amx fun Arz Aly=>Aa Arz fun Aie Aii=>A0 Aie fun Ajn=>Aa Aii fun Akp Akl=>Aw .i64 Akp fun Ahv=>Ad Akl<|Ad Aly<|some (Ay.mk [.agg [.sc (.int .i64 5),.sc (.string (ByteArray.mk #[])),.sc (.bool false)],.sc (.int .i64 Amt)] [[.sc (.string Ajn),.sc (.int .i64 Ahv)]])) (Bh (x5==34) (Ai (call 68 [.pbox [.sc (.string F6),.sc (.int .i64 F0)]]) fun Am2 Am9=>Aa Am2 fun Al4 Ak4=>A0 Al4 fun Akc=>Aa Ak4 fun Aji Ajv=>Am Aji fun Al5=>Ad Ajv<|Aa Am9 fun Ak8 Aid=>Aa Ak8 fun Ah1 Anc=>A0 Ah1 fun Af1=>Aa Anc fun Am4 Al0=>Aw .i64 Am4 fun Af0=>Ad Al0<|Ad Aid<|Bh Al5 (some (Ay.mk [.agg [.sc (.int .i64 4),.sc (.string Akc),.sc (.bool false)],.sc (.int .i64 0)] [[.sc (.string Af1),.sc (.int .i64 Af0)]])) (some (Ay.mk [.agg [.sc (.int .i64 0),.sc (.string (ByteArray.mk #[])),.sc (.bool false)],.sc (.int .i64 2)] [[.sc (.string Af1),.sc (.int .i64 Af0)]]))) (Ai (call 67 [.pbox [.sc (.string F6),.sc (.int .i64 F0)],.sc (.string (ByteArray.mk #[116,114,117,101]))]) fun Ah0 Amm=>Aa Ah0 fun Ak1 Ajg=>Am Ak1 fun Akn=>Ad Ajg<|Aa Amm fun And Alw=>Aa And fun Alv Amn=>A0 Alv fun Ae8=>Aa Amn fun Aiy Ai3=>Aw .i64 Aiy fun Afb=>Ad Ai3<|Ad Alw<|Bh Akn (some (Ay.mk [.agg [.sc (.int .i64 2),.sc (.string (ByteArray.mk #[])),.sc (.bool true)],.sc (.int .i64 0)] [[.sc (.string Ae8),.sc (.int .i64 Afb)]])) (Ai (call 67 [.pbox [.sc (.string Ae8),.sc (.int .i64 Afb)],.sc (.string (ByteArray.mk #[102,97,108,115,101]))]) fun Ajl Aiu=>Aa Ajl fun Am0 Amh=>Am Am0 fun Ak9=>Ad Amh<|Aa Aiu fun Anb Akj=>Aa Anb fun Afl Aj5=>A0 Afl fun Ade=>Aa Aj5 fun Ad6 Ajx=>Aw .i64 Ad6 fun Aeh=>Ad Ajx<|Ad Akj<|Bh Ak9 (some (Ay.mk [.agg [.sc (.int .i64 2),.sc (.string (ByteArray.mk #[])),.sc (.bool false)],.sc (.int .i64 0)] [[.sc (.string Ade),.sc (.int .i64 Aeh)]])) (Ai (call 67 [.pbox [.sc (.string Ade),.sc (.int .i64 Aeh)],.sc (.string (ByteArray.mk #[110,117,108,108]))]) fun Aka Ahw=>Aa Aka fun Ain Ajt=>Am Ain fun Ai9=>Ad Ajt<|Aa Ahw fun Ah9 Ah7=>Aa Ah9 fun Adr Ah5=>A0 Adr fun Af9=>Aa Ah5 fun Ad8 Akt=>Aw .i64 Ad8 fun Ad7=>Ad Akt<|Ad Ah7<|Bh Ai9 (some (Ay.mk [.agg [.sc (.int .i64 1),.sc (.string (ByteArray.mk #[])),.sc (.bool false)],.sc (.int .i64 0)] [[.sc (.string Af9),.sc (.int .i64 Ad7)]])) (Ai (call 92 [.pbox [.sc (.string Af9),.sc (.int .i64 Ad7)]]) fun Akv Ah3=>Aa Akv fun Aor Aix=>Am Aor fun Aki=>Ad Aix<|Aa Ah3 fun Aiz Akf=>Aa Aiz fun Ahx Alx=>A0 Ahx fun Af6=>Aa Alx fun Alf Amd=>Aw .i64 Alf fun Afa=>Ad Amd<|Ad Akf<|Bh Aki (some (Ay.mk [.agg [.sc (.int .i64 3),.sc (.string (ByteArray.mk #[])),.sc (.bool false)],.sc (.int .i64 0)] [[.sc (.string Af6),.sc (.int .i64 Afa)]])) (some (Ay.mk [.agg [.sc (.int .i64 0),.sc (.string (ByteArray.mk #[])),.sc (.bool false)],.sc (.int .i64 2)] [[.sc (.string Af6),.sc (.int .i64 Afa)]]))))))))))) (Ae (CP p) prog fu d):=by kernel_rfl
end
section
open Go.Proofs.Tryd (prog)
open Go.IntKind (wrap)
theorem Aky:∀n:Fin 256,decide (Lib.indexByte [32,9,10,13] (n.val:Int).toNat.toUInt8>=0)=VL (n.val:Int):=by decide +kernel
theorem Ap4 {c:Int}(h0:0<=c)(h1:c<=255):decide (Lib.indexByte [32,9,10,13] c.toNat.toUInt8>=0)=VL c:=by
 obtain⟨n,rfl⟩:=Int.eq_ofNat_of_zero_le h0;exact Aky ⟨n,by omega⟩
theorem Bn {t:ByteArray}:∀{l:List Int},C8 t l->C8 t (Bf l)
 |[],h=>h
 |c::l,h=>by
  unfold Bf;split
  ·exact Bn h.tail
  ·exact h
theorem O5:∀(l:List Int),(Bf l).length<=l.length
 |[]=>Nat.le_refl _
 |c::l=>by
  unfold Bf;split
  ·exact Nat.le_succ_of_le (O5 l)
  ·exact Nat.le_refl _
section
variable {fu d:Nat}
theorem Arg (s:ByteArray)(c:Int):Ae C0 prog fu (d+2) Jw [.sc (.string s),.sc (.int .u8 c)]=some ⟨[.sc (.int .i64 (Lib.indexByte s.data.toList c.toNat.toUInt8))],[]⟩:=by
 have e:Ae C0 prog fu (d+1) 40 [.sc (.string s),.sc (.int .u8 c)]=some ⟨[.sc (.int .i64 (Lib.indexByte s.data.toList c.toNat.toUInt8))],[]⟩:=rfl;rw[Jr];simp only[D4,e]
theorem EA {t s0:ByteArray}{p0:Int}(ht:t.size<=1000000):∀(r:List Int)(nn:Nat),r.length+1<=nn->C8 t r ->
  C5 fu (Ae C0 prog fu (d+2)) s0 p0 nn t (Bp t r:Int)=some ⟨[],[Bu t (Bf r)]⟩
 |[],nn,Lj,h=>by
  obtain⟨k,rfl⟩:∃k,nn=k+1:=⟨nn-1,by omega⟩
  have e:decide ((Bp t []:Int)<(t.size:Int))=false:=by simp[R5]
  rw[Ey];simp only[D4,e];rfl
 |c::r,nn,Lj,h=>by
  obtain⟨k,rfl⟩:∃k,nn=k+1:=⟨nn-1,by omega⟩
  have ih:=EA (s0:=s0) (p0:=p0) ht r k (by simp at Lj;omega) h.tail
  have hc:=h.B c (by simp)
  have hl:=h.len;have hp:=Kd h
  have e6:wrap .i64 ((Bp t (c::r):Int)+1)=(Bp t r:Int):=by
   rw[hp,Bc (by unfold Bp;omega) (by unfold Bp;omega)];omega
  have R2:Bp t (c::r)<t.size:=by
   unfold Bp;rw[RS] at hl ⊢;omega
  obtain⟨b,hb,rfl⟩:=h.at;have e:decide ((Bp t ((b.toNat:Int)::r):Int)<(t.size:Int))=true:=by simp;omega
  have e2:decide ((0:Int)<=(Bp t ((b.toNat:Int)::r):Int))=true:=by simp
  rw[←N4 (Bp t ((b.toNat:Int)::r))] at hb;have ix:Ae C0 prog fu (d+2) 27 [.sc (.string (ByteArray.mk #[(32:UInt8),(9:UInt8),(10:UInt8),(13:UInt8)])),.sc (.int .u8 (b.toNat:Int))]=some ⟨[.sc (.int .i64 (Lib.indexByte [32,9,10,13] (b.toNat:Int).toNat.toUInt8))],[]⟩:=Arg _ _;have hw:=Ap4 hc.1 hc.2;rw[Ey];cases hq:VL (b.toNat:Int)
  ·rw[hq] at hw
   have es:Bf ((b.toNat:Int)::r)=(b.toNat:Int)::r:=by
    show (if VL _=true then _ else _)=_
    rw[hq];rfl
   rw[es];simp only[D4,e,e2,hb,ix,hw]
  ·rw[hq] at hw
   have es:Bf ((b.toNat:Int)::r)=Bf r:=by
    show (if VL _=true then _ else _)=_
    rw[hq];rfl
   rw[es];simp only[D4,e,e2,hb,ix,hw,e6,ih]
theorem Nr {t:ByteArray}{r:List Int}(h:C8 t r)(ht:t.size<=1000000)(Fv:t.size+1<=fu):Ae C0 prog fu (d+3) Fg [.pbox (Bu t r)]=some ⟨[],[Bu t (Bf r)]⟩:=by
 rw[I7];exact EA ht r fu (by have:=h.len;omega) h
theorem CI {t:ByteArray}:∀{l:List Int},C8 t l->C8 t (Je l)
 |[],h=>h
 |c::l,h=>by
  unfold Je;split
  ·exact CI h.tail
  ·exact h
theorem DE:∀(l:List Int),(Je l).length<=l.length
 |[]=>Nat.le_refl _
 |c::l=>by
  unfold Je;split
  ·exact Nat.le_succ_of_le (DE l)
  ·exact Nat.le_refl _
theorem Vi {t s0:ByteArray}{p0 y0:Int}(ht:t.size<=1000000):∀(r:List Int)(nn:Nat),r.length+1<=nn->C8 t r ->
  Cu fu (Ae C0 prog fu (d+1)) s0 p0 nn y0 t (Bp t r:Int)=some ⟨[.sc (.bool (decide ((Bp t (Je r):Int)>y0)))],[Bu t (Je r)]⟩
 |[],nn,Lj,h=>by
  obtain⟨k,rfl⟩:∃k,nn=k+1:=⟨nn-1,by omega⟩
  have pk:Ae C0 prog fu (d+1) 90 [.pbox (Bu t [])]=some ⟨[.sc (.int .u8 0)],[Bu t []]⟩:=K9 (xs:=xs0) h;have e:decide ((0:Int)>=48)=false:=rfl;rw[Ep];simp only[D4,pk,e];rfl
 |c::r,nn,Lj,h=>by
  obtain⟨k,rfl⟩:∃k,nn=k+1:=⟨nn-1,by omega⟩
  have ih:=Vi (s0:=s0) (p0:=p0) (y0:=y0) ht r k (by simp at Lj;omega) h.tail
  have hc:=h.B c (by simp)
  have hl:=h.len;have hp:=Kd h
  have e6:wrap .i64 ((Bp t (c::r):Int)+1)=(Bp t r:Int):=by
   rw[hp,Bc (by unfold Bp;omega) (by unfold Bp;omega)];omega
  have pk:Ae C0 prog fu (d+1) 90 [.pbox (Bu t (c::r))]=some ⟨[.sc (.int .u8 c)],[Bu t (c::r)]⟩:=K9 (xs:=xs0) h;have ed:Je (c::r)=if VV c=true then Je r else c::r:=rfl
  rw[Ep,ed];by_cases h1:48<=c
  ·have e1:decide (c>=48)=true:=by simp;omega
   by_cases h2:c<=57
   ·have e2:decide (c<=57)=true:=by simp;omega
    have e3:VV c=true:=by simp[VV];omega
    rw[Ev e3];simp only[D4,pk,e1,e2,e6,ih]
   ·have e2:decide (c<=57)=false:=by simp;omega
    have e3:¬VV c=true:=by simp[VV];omega
    rw[Dr e3];simp only[D4,pk,e1,e2]
  ·have e1:decide (c>=48)=false:=by simp;omega
   have e3:¬VV c=true:=by simp[VV];omega
   rw[Dr e3];simp only[D4,pk,e1]
def Ar4 (t:ByteArray)(r:List Int)(o:Option (List Int)):Ay:=⟨[.sc (.bool o.isSome)],[Bu t (o.getD r)]⟩
theorem Dn {t:ByteArray}{r:List Int}(h:C8 t r)(ht:t.size<=1000000)(Fv:t.size+1<=fu):Ae C0 prog fu (d+2) E5 [.pbox (Bu t r)]=some (Ar4 t r (Ce r)):=by
 rw[Is];refine (Vi ht r fu (by have:=h.len;omega) h).trans ?_
 cases r with
 |nil=>
  have e:decide ((Bp t (Je []):Int)>(Bp t []:Int))=false:=by simp[Je]
  rw[e];rfl
 |cons c r=>
  have hl:=h.len;have hp:=Kd h;have ed:Je (c::r)=if VV c=true then Je r else c::r:=rfl
  have eg:Ce (c::r)=if VV c=true then some (Je r) else none:=rfl
  rw[ed,eg];have hd:=DE r;by_cases q:VV c=true
  ·rw[Ev q,Ev q]
   have e:decide ((Bp t (Je r):Int)>(Bp t (c::r):Int))=true:=by
    rw[RS] at hl;simp only[gt_iff_lt,decide_eq_true_eq];unfold Bp;rw[RS];omega
   rw[e];rfl
  ·rw[Dr q,Dr q];have e:decide ((Bp t (c::r):Int)>(Bp t (c::r):Int))=false:=by simp
   rw[e];rfl
theorem NI {t:ByteArray}{r:List Int}(c:UInt8)(h:C8 t r)(ht:t.size<=1000000):Ae C0 prog fu (d+3) 67 [.pbox (Bu t r),.sc (.string (ByteArray.mk #[c]))]=some (Ar4 t r (Aq [(c.toNat:Int)] r)):=by
 have hc:=c.toNat_lt;have e:=Pb (fu:=fu) (d:=d) (xs:=xs0) h ht (w:=[(c.toNat:Int)]) (fun x hx=>by simp at hx;omega) (show 1<=100 by decide)
 have e2:Ab [(c.toNat:Int)]=ByteArray.mk #[c]:=by
  show ByteArray.mk #[((c.toNat:Int)).toNat.toUInt8]=_;rw[N4];simp
 rw[e2] at e;refine e.trans ?_;cases Aq [(c.toNat:Int)] r<;>rfl
theorem Fl (c:Int):∀r:List Int,Aq [c] r=match r with|[]=>none|x::r'=>if x=c then some r' else none
 |[]=>rfl
 |x::r=>by
  unfold Aq;by_cases h:x=c
  ·subst h;rw[Ev (by simp[List.isPrefixOf])]
   simp
  ·rw[Dr (by simp[List.isPrefixOf];exact fun e=>h e.symm)]
   simp[h]
theorem Ap {t:ByteArray}{w r r':List Int}(h:C8 t r)(e:Aq w r=some r'):C8 t r':=by
 unfold Aq at e;split at e
 ·cases e;exact h.drop _
 ·cases e
theorem U9 (c:Int)(r:List Int):ZM c r=(Aq [c] r).getD r:=by
 rw[Fl];cases r with
 |nil=>rfl
 |cons x r=>
  show (if x=c then r else x::r)=_
  split<;>simp_all
theorem DT (r:List Int):Aep r=match Aq [48] r with|some q=>some q|none=>Ce r:=by
 rw[Fl];cases r with
 |nil=>rfl
 |cons x r=>
  show (if x=48 then some r else Ce (x::r))=_
  by_cases h:x=48
  ·rw[Ev h];simp[h]
  ·rw[Dr h];simp[h]
theorem Rr (r:List Int):Xz r=match Aq [46] r with|some q=>(Ce q).bind Rq|none=>Rq r:=by
 rw[Fl];cases r with
 |nil=>rfl
 |cons x r=>
  show (if x=46 then (Ce r).bind Rq else Rq (x::r))=_
  by_cases h:x=46
  ·rw[Ev h];simp[h]
  ·rw[Dr h];simp[h]
def Ks (r:List Int):Option (List Int):=match Aq [43] r with|some q=>Ce q|none=>Ce ((Aq [45] r).getD r)
theorem Af8 (r:List Int):(match r with|43::r'=>Ce r'|r=>Ce (ZM 45 r))=Ks r:=by
 unfold Ks;rw[Fl 43,←U9];split
 ·simp
 ·rename_i Ek;cases r with
  |nil=>rfl
  |cons x r=>
   by_cases h:x=43
   ·exact absurd (by rw[h]) (Ek r)
   ·simp[h]
theorem Ml (r:List Int):Rq r=match Aq [101] r with|some q=>Ks q|none=>match Aq [69] r with|some q=>Ks q|none=>some r:=by
 rw[Fl,Fl];cases r with
 |nil=>rfl
 |cons x r=>
  have e:Rq (x::r)=if x=101∨x=69 then Ks r else some (x::r):=by
   rw[←Af8];rfl
  rw[e];by_cases h:x=101
  ·rw[Ev (Or.inl h)];simp[h]
  ·by_cases h2:x=69
   ·rw[Ev (Or.inr h2)];simp[h2]
   ·rw[Dr (by omega)];simp[h,h2]
theorem Cw {t:ByteArray}{r r':List Int}(h:C8 t r)(e:Ce r=some r'):C8 t r':=by
 cases r with
 |nil=>cases e
 |cons c r=>
  have eg:Ce (c::r)=if VV c=true then some (Je r) else none:=rfl
  rw[eg] at e;split at e
  ·cases e;exact CI h.tail
  ·cases e
theorem Cf {t:ByteArray}{r:List Int}{o:Option (List Int)} (h:C8 t r)(ho:∀q,o=some q->C8 t q):C8 t (o.getD r):=by
 cases o with
 |none=>exact h
 |some q=>exact ho q rfl
end
end
section
open Go.Proofs.Tryd (prog)
open Go.IntKind (wrap)
section
variable {fu d:Nat}
theorem Dz {t:ByteArray}{r:List Int}(c:UInt8)(n:Int)(hn:(c.toNat:Int)=n) (h:C8 t r)(ht:t.size<=1000000)(hq:Aq [n] r=none):Ae C0 prog fu (d+3) 67 [.pbox (Bu t r),.sc (.string (ByteArray.mk #[c]))]=some ⟨[.sc (.bool false)],[Bu t r]⟩:=by
 subst hn;have e:=NI (fu:=fu) (d:=d) c h ht;rw[hq] at e;exact e
theorem Ct {t:ByteArray}{r q:List Int}(c:UInt8)(n:Int)(hn:(c.toNat:Int)=n) (h:C8 t r)(ht:t.size<=1000000)(hq:Aq [n] r=some q):Ae C0 prog fu (d+3) 67 [.pbox (Bu t r),.sc (.string (ByteArray.mk #[c]))]=some ⟨[.sc (.bool true)],[Bu t q]⟩:=by
 subst hn;have e:=NI (fu:=fu) (d:=d) c h ht;rw[hq] at e;exact e
theorem J6 {t:ByteArray}{r:List Int}(c:UInt8)(n:Int)(hn:(c.toNat:Int)=n) (h:C8 t r)(ht:t.size<=1000000):Ae C0 prog fu (d+3) 67 [.pbox (Bu t r),.sc (.string (ByteArray.mk #[c]))]=some ⟨[.sc (.bool (Aq [n] r).isSome)],[Bu t ((Aq [n] r).getD r)]⟩:=by
 subst hn;exact NI (fu:=fu) (d:=d) c h ht
set_option maxHeartbeats 2000000 in
theorem Aab {t:ByteArray}{r:List Int}(h:C8 t r)(ht:t.size<=1000000)(Fv:t.size+1<=fu):∃r',C8 t r'∧Ae C0 prog fu (d+4) E4 [.pbox (Bu t r)]=some ⟨[.sc (.bool (Ff r).isSome)],[Bu t r']⟩∧∀q,Ff r=some q->r'=q:=by
 have a0:=J6 (fu:=fu) (d:=d) 45 45 rfl h ht;have WJ:C8 t ((Aq [45] r).getD r):=Cf h fun q e=>Ap h e
 have Tu:Ff r=(Aep ((Aq [45] r).getD r)).bind Xz:=by rw[←U9];rfl
 generalize (Aq [45] r).getD r=r1 at a0 WJ Tu;generalize (Aq [45] r).isSome=b0 at a0;rw[DT] at Tu;rcases hz:Aq [48] r1 with _|r2
 ·have Fz:=Dz (fu:=fu) (d:=d) 48 48 rfl WJ ht hz;rw[hz] at Tu;have MP:=Dn (d:=d+1) WJ ht Fv;rcases hzd:Ce r1 with _|r2
  ·simp only[hzd] at MP Tu;have Lo:Ae C0 prog fu (d+3) 107 [.pbox (Bu t r1)]=some ⟨[.sc (.bool false)],[Bu t r1]⟩:=MP;have hn:Ff r=none:=Tu;refine⟨r1,WJ,?_,?_⟩
   ·rw[hn,Ag]
    try unfold Ac
    repeat first
     |((with_reducible first|apply A6|apply Au|apply A1|apply At|apply A3|apply Av|apply A2|apply A5);· first|with_reducible rfl|(simp (disch:=omega) only[gT,a0,Fz,Lo,Dg,D3]<;>first|with_reducible rfl|omega)|omega)
     |(with_reducible apply A4;· first|with_reducible rfl|(simp (disch:=omega) only[gF,a0,Fz,Lo,Dg,D3]<;>omega))
    try simp (disch:=omega) only[a0,Fz,Lo,Dg,D3]
    try rfl
   ·rw[hn];intro q e;cases e
  ·simp only[hzd] at MP Tu;have Lo:Ae C0 prog fu (d+3) 107 [.pbox (Bu t r1)]=some ⟨[.sc (.bool true)],[Bu t r2]⟩:=MP;have Q6:=Cw WJ hzd;have BK:Ff r=Xz r2:=Tu;rw[Rr] at BK;rcases hdt:Aq [46] r2 with _|r3
   ·have Gd:=Dz (fu:=fu) (d:=d) 46 46 rfl Q6 ht hdt;rw[hdt] at BK;have K4:Ff r=Rq r2:=BK;rw[Ml] at K4;rcases he:Aq [101] r2 with _|r5
    ·have Gz:=Dz (fu:=fu) (d:=d) 101 101 rfl Q6 ht he;rw[he] at K4;rcases hE:Aq [69] r2 with _|r5
     ·have L3:=Dz (fu:=fu) (d:=d) 69 69 rfl Q6 ht hE;have hn:Ff r=some r2:=by rw[K4,hE]
      refine⟨r2,Q6,?_,?_⟩
      ·rw[hn,Ag]
       try unfold Ac
       repeat first
        |((with_reducible first|apply A6|apply Au|apply A1|apply At|apply A3|apply Av|apply A2|apply A5);· first|with_reducible rfl|(simp (disch:=omega) only[gT,a0,Fz,Lo,Gd,Gz,L3,Dg,D3]<;>first|with_reducible rfl|omega)|omega)
        |(with_reducible apply A4;· first|with_reducible rfl|(simp (disch:=omega) only[gF,a0,Fz,Lo,Gd,Gz,L3,Dg,D3]<;>omega))
       try simp (disch:=omega) only[a0,Fz,Lo,Gd,Gz,L3,Dg,D3]
       try rfl
      ·rw[hn];intro q e;cases e;rfl
     ·have L3:=Ct (fu:=fu) (d:=d) 69 69 rfl Q6 ht hE;have H6:=Ap Q6 hE;rw[hE] at K4;simp only at K4;rcases hp:Aq [43] r5 with _|r6
      ·have Gw:=Dz (fu:=fu) (d:=d) 43 43 rfl H6 ht hp;have Cc:=J6 (fu:=fu) (d:=d) 45 45 rfl H6 ht;have Fy:C8 t ((Aq [45] r5).getD r5):=Cf H6 fun q e=>Ap H6 e
       have hn:Ff r=Ce ((Aq [45] r5).getD r5):=by rw[K4];unfold Ks;rw[hp]
       generalize (Aq [45] r5).getD r5=r6 at Cc Fy hn;generalize (Aq [45] r5).isSome=b1 at Cc;have hg:Ae C0 prog fu (d+3) 107 [.pbox (Bu t r6)]=some ⟨[.sc (.bool (Ce r6).isSome)],[Bu t ((Ce r6).getD r6)]⟩:=Dn (d:=d+1) Fy ht Fv;refine⟨(Ce r6).getD r6,Cf Fy fun q e=>Cw Fy e,?_,?_⟩
       ·rw[hn,Ag]
        try unfold Ac
        repeat first
         |((with_reducible first|apply A6|apply Au|apply A1|apply At|apply A3|apply Av|apply A2|apply A5);· first|with_reducible rfl|(simp (disch:=omega) only[gT,a0,Fz,Lo,Gd,Gz,L3,Gw,Cc,hg,Dg,D3]<;>first|with_reducible rfl|omega)|omega)
         |(with_reducible apply A4;· first|with_reducible rfl|(simp (disch:=omega) only[gF,a0,Fz,Lo,Gd,Gz,L3,Gw,Cc,hg,Dg,D3]<;>omega))
        try simp (disch:=omega) only[a0,Fz,Lo,Gd,Gz,L3,Gw,Cc,hg,Dg,D3]
        try rfl
       ·rw[hn];intro q e;rw[e];rfl
      ·have Gw:=Ct (fu:=fu) (d:=d) 43 43 rfl H6 ht hp;have Fy:=Ap H6 hp;have hn:Ff r=Ce r6:=by rw[K4];unfold Ks;rw[hp]
       have hg:Ae C0 prog fu (d+3) 107 [.pbox (Bu t r6)]=some ⟨[.sc (.bool (Ce r6).isSome)],[Bu t ((Ce r6).getD r6)]⟩:=Dn (d:=d+1) Fy ht Fv;refine⟨(Ce r6).getD r6,Cf Fy fun q e=>Cw Fy e,?_,?_⟩
       ·rw[hn,Ag]
        try unfold Ac
        repeat first
         |((with_reducible first|apply A6|apply Au|apply A1|apply At|apply A3|apply Av|apply A2|apply A5);· first|with_reducible rfl|(simp (disch:=omega) only[gT,a0,Fz,Lo,Gd,Gz,L3,Gw,hg,Dg,D3]<;>first|with_reducible rfl|omega)|omega)
         |(with_reducible apply A4;· first|with_reducible rfl|(simp (disch:=omega) only[gF,a0,Fz,Lo,Gd,Gz,L3,Gw,hg,Dg,D3]<;>omega))
        try simp (disch:=omega) only[a0,Fz,Lo,Gd,Gz,L3,Gw,hg,Dg,D3]
        try rfl
       ·rw[hn];intro q e;rw[e];rfl
    ·have Gz:=Ct (fu:=fu) (d:=d) 101 101 rfl Q6 ht he;have H6:=Ap Q6 he;rw[he] at K4;simp only at K4;rcases hp:Aq [43] r5 with _|r6
     ·have Gw:=Dz (fu:=fu) (d:=d) 43 43 rfl H6 ht hp;have Cc:=J6 (fu:=fu) (d:=d) 45 45 rfl H6 ht;have Fy:C8 t ((Aq [45] r5).getD r5):=Cf H6 fun q e=>Ap H6 e
      have hn:Ff r=Ce ((Aq [45] r5).getD r5):=by rw[K4];unfold Ks;rw[hp]
      generalize (Aq [45] r5).getD r5=r6 at Cc Fy hn;generalize (Aq [45] r5).isSome=b1 at Cc;have hg:Ae C0 prog fu (d+3) 107 [.pbox (Bu t r6)]=some ⟨[.sc (.bool (Ce r6).isSome)],[Bu t ((Ce r6).getD r6)]⟩:=Dn (d:=d+1) Fy ht Fv;refine⟨(Ce r6).getD r6,Cf Fy fun q e=>Cw Fy e,?_,?_⟩
      ·rw[hn,Ag]
       try unfold Ac
       repeat first
        |((with_reducible first|apply A6|apply Au|apply A1|apply At|apply A3|apply Av|apply A2|apply A5);· first|with_reducible rfl|(simp (disch:=omega) only[gT,a0,Fz,Lo,Gd,Gz,Gw,Cc,hg,Dg,D3]<;>first|with_reducible rfl|omega)|omega)
        |(with_reducible apply A4;· first|with_reducible rfl|(simp (disch:=omega) only[gF,a0,Fz,Lo,Gd,Gz,Gw,Cc,hg,Dg,D3]<;>omega))
       try simp (disch:=omega) only[a0,Fz,Lo,Gd,Gz,Gw,Cc,hg,Dg,D3]
       try rfl
      ·rw[hn];intro q e;rw[e];rfl
     ·have Gw:=Ct (fu:=fu) (d:=d) 43 43 rfl H6 ht hp;have Fy:=Ap H6 hp;have hn:Ff r=Ce r6:=by rw[K4];unfold Ks;rw[hp]
      have hg:Ae C0 prog fu (d+3) 107 [.pbox (Bu t r6)]=some ⟨[.sc (.bool (Ce r6).isSome)],[Bu t ((Ce r6).getD r6)]⟩:=Dn (d:=d+1) Fy ht Fv;refine⟨(Ce r6).getD r6,Cf Fy fun q e=>Cw Fy e,?_,?_⟩
      ·rw[hn,Ag]
       try unfold Ac
       repeat first
        |((with_reducible first|apply A6|apply Au|apply A1|apply At|apply A3|apply Av|apply A2|apply A5);· first|with_reducible rfl|(simp (disch:=omega) only[gT,a0,Fz,Lo,Gd,Gz,Gw,hg,Dg,D3]<;>first|with_reducible rfl|omega)|omega)
        |(with_reducible apply A4;· first|with_reducible rfl|(simp (disch:=omega) only[gF,a0,Fz,Lo,Gd,Gz,Gw,hg,Dg,D3]<;>omega))
       try simp (disch:=omega) only[a0,Fz,Lo,Gd,Gz,Gw,hg,Dg,D3]
       try rfl
      ·rw[hn];intro q e;rw[e];rfl
   ·have Gd:=Ct (fu:=fu) (d:=d) 46 46 rfl Q6 ht hdt;have hS3:=Ap Q6 hdt;rw[hdt] at BK;have BK:Ff r=(Ce r3).bind Rq:=BK;have HP:=Dn (d:=d+1) hS3 ht Fv;rcases BX:Ce r3 with _|r4
    ·rw[BX] at HP BK;have K7:Ae C0 prog fu (d+3) 107 [.pbox (Bu t r3)]=some ⟨[.sc (.bool false)],[Bu t r3]⟩:=HP;have hn:Ff r=none:=BK;refine⟨r3,hS3,?_,?_⟩
     ·rw[hn,Ag]
      try unfold Ac
      repeat first
       |((with_reducible first|apply A6|apply Au|apply A1|apply At|apply A3|apply Av|apply A2|apply A5);· first|with_reducible rfl|(simp (disch:=omega) only[gT,a0,Fz,Lo,Gd,K7,Dg,D3]<;>first|with_reducible rfl|omega)|omega)
       |(with_reducible apply A4;· first|with_reducible rfl|(simp (disch:=omega) only[gF,a0,Fz,Lo,Gd,K7,Dg,D3]<;>omega))
      try simp (disch:=omega) only[a0,Fz,Lo,Gd,K7,Dg,D3]
      try rfl
     ·rw[hn];intro q e;cases e
    ·rw[BX] at HP BK;have K7:Ae C0 prog fu (d+3) 107 [.pbox (Bu t r3)]=some ⟨[.sc (.bool true)],[Bu t r4]⟩:=HP;have Wu:=Cw hS3 BX;have K4:Ff r=Rq r4:=BK;rw[Ml] at K4;rcases he:Aq [101] r4 with _|r5
     ·have Gz:=Dz (fu:=fu) (d:=d) 101 101 rfl Wu ht he;rw[he] at K4;rcases hE:Aq [69] r4 with _|r5
      ·have L3:=Dz (fu:=fu) (d:=d) 69 69 rfl Wu ht hE;have hn:Ff r=some r4:=by rw[K4,hE]
       refine⟨r4,Wu,?_,?_⟩
       ·rw[hn,Ag]
        try unfold Ac
        repeat first
         |((with_reducible first|apply A6|apply Au|apply A1|apply At|apply A3|apply Av|apply A2|apply A5);· first|with_reducible rfl|(simp (disch:=omega) only[gT,a0,Fz,Lo,Gd,K7,Gz,L3,Dg,D3]<;>first|with_reducible rfl|omega)|omega)
         |(with_reducible apply A4;· first|with_reducible rfl|(simp (disch:=omega) only[gF,a0,Fz,Lo,Gd,K7,Gz,L3,Dg,D3]<;>omega))
        try simp (disch:=omega) only[a0,Fz,Lo,Gd,K7,Gz,L3,Dg,D3]
        try rfl
       ·rw[hn];intro q e;cases e;rfl
      ·have L3:=Ct (fu:=fu) (d:=d) 69 69 rfl Wu ht hE;have H6:=Ap Wu hE;rw[hE] at K4;simp only at K4;rcases hp:Aq [43] r5 with _|r6
       ·have Gw:=Dz (fu:=fu) (d:=d) 43 43 rfl H6 ht hp;have Cc:=J6 (fu:=fu) (d:=d) 45 45 rfl H6 ht;have Fy:C8 t ((Aq [45] r5).getD r5):=Cf H6 fun q e=>Ap H6 e
        have hn:Ff r=Ce ((Aq [45] r5).getD r5):=by rw[K4];unfold Ks;rw[hp]
        generalize (Aq [45] r5).getD r5=r6 at Cc Fy hn;generalize (Aq [45] r5).isSome=b1 at Cc;have hg:Ae C0 prog fu (d+3) 107 [.pbox (Bu t r6)]=some ⟨[.sc (.bool (Ce r6).isSome)],[Bu t ((Ce r6).getD r6)]⟩:=Dn (d:=d+1) Fy ht Fv;refine⟨(Ce r6).getD r6,Cf Fy fun q e=>Cw Fy e,?_,?_⟩
        ·rw[hn,Ag]
         try unfold Ac
         repeat first
          |((with_reducible first|apply A6|apply Au|apply A1|apply At|apply A3|apply Av|apply A2|apply A5);· first|with_reducible rfl|(simp (disch:=omega) only[gT,a0,Fz,Lo,Gd,K7,Gz,L3,Gw,Cc,hg,Dg,D3]<;>first|with_reducible rfl|omega)|omega)
          |(with_reducible apply A4;· first|with_reducible rfl|(simp (disch:=omega) only[gF,a0,Fz,Lo,Gd,K7,Gz,L3,Gw,Cc,hg,Dg,D3]<;>omega))
         try simp (disch:=omega) only[a0,Fz,Lo,Gd,K7,Gz,L3,Gw,Cc,hg,Dg,D3]
         try rfl
        ·rw[hn];intro q e;rw[e];rfl
       ·have Gw:=Ct (fu:=fu) (d:=d) 43 43 rfl H6 ht hp;have Fy:=Ap H6 hp;have hn:Ff r=Ce r6:=by rw[K4];unfold Ks;rw[hp]
        have hg:Ae C0 prog fu (d+3) 107 [.pbox (Bu t r6)]=some ⟨[.sc (.bool (Ce r6).isSome)],[Bu t ((Ce r6).getD r6)]⟩:=Dn (d:=d+1) Fy ht Fv;refine⟨(Ce r6).getD r6,Cf Fy fun q e=>Cw Fy e,?_,?_⟩
        ·rw[hn,Ag]
         try unfold Ac
         repeat first
          |((with_reducible first|apply A6|apply Au|apply A1|apply At|apply A3|apply Av|apply A2|apply A5);· first|with_reducible rfl|(simp (disch:=omega) only[gT,a0,Fz,Lo,Gd,K7,Gz,L3,Gw,hg,Dg,D3]<;>first|with_reducible rfl|omega)|omega)
          |(with_reducible apply A4;· first|with_reducible rfl|(simp (disch:=omega) only[gF,a0,Fz,Lo,Gd,K7,Gz,L3,Gw,hg,Dg,D3]<;>omega))
         try simp (disch:=omega) only[a0,Fz,Lo,Gd,K7,Gz,L3,Gw,hg,Dg,D3]
         try rfl
        ·rw[hn];intro q e;rw[e];rfl
     ·have Gz:=Ct (fu:=fu) (d:=d) 101 101 rfl Wu ht he;have H6:=Ap Wu he;rw[he] at K4;simp only at K4;rcases hp:Aq [43] r5 with _|r6
      ·have Gw:=Dz (fu:=fu) (d:=d) 43 43 rfl H6 ht hp;have Cc:=J6 (fu:=fu) (d:=d) 45 45 rfl H6 ht;have Fy:C8 t ((Aq [45] r5).getD r5):=Cf H6 fun q e=>Ap H6 e
       have hn:Ff r=Ce ((Aq [45] r5).getD r5):=by rw[K4];unfold Ks;rw[hp]
       generalize (Aq [45] r5).getD r5=r6 at Cc Fy hn;generalize (Aq [45] r5).isSome=b1 at Cc;have hg:Ae C0 prog fu (d+3) 107 [.pbox (Bu t r6)]=some ⟨[.sc (.bool (Ce r6).isSome)],[Bu t ((Ce r6).getD r6)]⟩:=Dn (d:=d+1) Fy ht Fv;refine⟨(Ce r6).getD r6,Cf Fy fun q e=>Cw Fy e,?_,?_⟩
       ·rw[hn,Ag]
        try unfold Ac
        repeat first
         |((with_reducible first|apply A6|apply Au|apply A1|apply At|apply A3|apply Av|apply A2|apply A5);· first|with_reducible rfl|(simp (disch:=omega) only[gT,a0,Fz,Lo,Gd,K7,Gz,Gw,Cc,hg,Dg,D3]<;>first|with_reducible rfl|omega)|omega)
         |(with_reducible apply A4;· first|with_reducible rfl|(simp (disch:=omega) only[gF,a0,Fz,Lo,Gd,K7,Gz,Gw,Cc,hg,Dg,D3]<;>omega))
        try simp (disch:=omega) only[a0,Fz,Lo,Gd,K7,Gz,Gw,Cc,hg,Dg,D3]
        try rfl
       ·rw[hn];intro q e;rw[e];rfl
      ·have Gw:=Ct (fu:=fu) (d:=d) 43 43 rfl H6 ht hp;have Fy:=Ap H6 hp;have hn:Ff r=Ce r6:=by rw[K4];unfold Ks;rw[hp]
       have hg:Ae C0 prog fu (d+3) 107 [.pbox (Bu t r6)]=some ⟨[.sc (.bool (Ce r6).isSome)],[Bu t ((Ce r6).getD r6)]⟩:=Dn (d:=d+1) Fy ht Fv;refine⟨(Ce r6).getD r6,Cf Fy fun q e=>Cw Fy e,?_,?_⟩
       ·rw[hn,Ag]
        try unfold Ac
        repeat first
         |((with_reducible first|apply A6|apply Au|apply A1|apply At|apply A3|apply Av|apply A2|apply A5);· first|with_reducible rfl|(simp (disch:=omega) only[gT,a0,Fz,Lo,Gd,K7,Gz,Gw,hg,Dg,D3]<;>first|with_reducible rfl|omega)|omega)
         |(with_reducible apply A4;· first|with_reducible rfl|(simp (disch:=omega) only[gF,a0,Fz,Lo,Gd,K7,Gz,Gw,hg,Dg,D3]<;>omega))
        try simp (disch:=omega) only[a0,Fz,Lo,Gd,K7,Gz,Gw,hg,Dg,D3]
        try rfl
       ·rw[hn];intro q e;rw[e];rfl
 ·have Fz:=Ct (fu:=fu) (d:=d) 48 48 rfl WJ ht hz;rw[hz] at Tu;have Q6:=Ap WJ hz;have BK:Ff r=Xz r2:=Tu;rw[Rr] at BK;rcases hdt:Aq [46] r2 with _|r3
  ·have Gd:=Dz (fu:=fu) (d:=d) 46 46 rfl Q6 ht hdt;rw[hdt] at BK;have K4:Ff r=Rq r2:=BK;rw[Ml] at K4;rcases he:Aq [101] r2 with _|r5
   ·have Gz:=Dz (fu:=fu) (d:=d) 101 101 rfl Q6 ht he;rw[he] at K4;rcases hE:Aq [69] r2 with _|r5
    ·have L3:=Dz (fu:=fu) (d:=d) 69 69 rfl Q6 ht hE;have hn:Ff r=some r2:=by rw[K4,hE]
     refine⟨r2,Q6,?_,?_⟩
     ·rw[hn,Ag]
      try unfold Ac
      repeat first
       |((with_reducible first|apply A6|apply Au|apply A1|apply At|apply A3|apply Av|apply A2|apply A5);· first|with_reducible rfl|(simp (disch:=omega) only[gT,a0,Fz,Gd,Gz,L3,Dg,D3]<;>first|with_reducible rfl|omega)|omega)
       |(with_reducible apply A4;· first|with_reducible rfl|(simp (disch:=omega) only[gF,a0,Fz,Gd,Gz,L3,Dg,D3]<;>omega))
      try simp (disch:=omega) only[a0,Fz,Gd,Gz,L3,Dg,D3]
      try rfl
     ·rw[hn];intro q e;cases e;rfl
    ·have L3:=Ct (fu:=fu) (d:=d) 69 69 rfl Q6 ht hE;have H6:=Ap Q6 hE;rw[hE] at K4;simp only at K4;rcases hp:Aq [43] r5 with _|r6
     ·have Gw:=Dz (fu:=fu) (d:=d) 43 43 rfl H6 ht hp;have Cc:=J6 (fu:=fu) (d:=d) 45 45 rfl H6 ht;have Fy:C8 t ((Aq [45] r5).getD r5):=Cf H6 fun q e=>Ap H6 e
      have hn:Ff r=Ce ((Aq [45] r5).getD r5):=by rw[K4];unfold Ks;rw[hp]
      generalize (Aq [45] r5).getD r5=r6 at Cc Fy hn;generalize (Aq [45] r5).isSome=b1 at Cc;have hg:Ae C0 prog fu (d+3) 107 [.pbox (Bu t r6)]=some ⟨[.sc (.bool (Ce r6).isSome)],[Bu t ((Ce r6).getD r6)]⟩:=Dn (d:=d+1) Fy ht Fv;refine⟨(Ce r6).getD r6,Cf Fy fun q e=>Cw Fy e,?_,?_⟩
      ·rw[hn,Ag]
       try unfold Ac
       repeat first
        |((with_reducible first|apply A6|apply Au|apply A1|apply At|apply A3|apply Av|apply A2|apply A5);· first|with_reducible rfl|(simp (disch:=omega) only[gT,a0,Fz,Gd,Gz,L3,Gw,Cc,hg,Dg,D3]<;>first|with_reducible rfl|omega)|omega)
        |(with_reducible apply A4;· first|with_reducible rfl|(simp (disch:=omega) only[gF,a0,Fz,Gd,Gz,L3,Gw,Cc,hg,Dg,D3]<;>omega))
       try simp (disch:=omega) only[a0,Fz,Gd,Gz,L3,Gw,Cc,hg,Dg,D3]
       try rfl
      ·rw[hn];intro q e;rw[e];rfl
     ·have Gw:=Ct (fu:=fu) (d:=d) 43 43 rfl H6 ht hp;have Fy:=Ap H6 hp;have hn:Ff r=Ce r6:=by rw[K4];unfold Ks;rw[hp]
      have hg:Ae C0 prog fu (d+3) 107 [.pbox (Bu t r6)]=some ⟨[.sc (.bool (Ce r6).isSome)],[Bu t ((Ce r6).getD r6)]⟩:=Dn (d:=d+1) Fy ht Fv;refine⟨(Ce r6).getD r6,Cf Fy fun q e=>Cw Fy e,?_,?_⟩
      ·rw[hn,Ag]
       try unfold Ac
       repeat first
        |((with_reducible first|apply A6|apply Au|apply A1|apply At|apply A3|apply Av|apply A2|apply A5);· first|with_reducible rfl|(simp (disch:=omega) only[gT,a0,Fz,Gd,Gz,L3,Gw,hg,Dg,D3]<;>first|with_reducible rfl|omega)|omega)
        |(with_reducible apply A4;· first|with_reducible rfl|(simp (disch:=omega) only[gF,a0,Fz,Gd,Gz,L3,Gw,hg,Dg,D3]<;>omega))
       try simp (disch:=omega) only[a0,Fz,Gd,Gz,L3,Gw,hg,Dg,D3]
       try rfl
      ·rw[hn];intro q e;rw[e];rfl
   ·have Gz:=Ct (fu:=fu) (d:=d) 101 101 rfl Q6 ht he;have H6:=Ap Q6 he;rw[he] at K4;simp only at K4;rcases hp:Aq [43] r5 with _|r6
    ·have Gw:=Dz (fu:=fu) (d:=d) 43 43 rfl H6 ht hp;have Cc:=J6 (fu:=fu) (d:=d) 45 45 rfl H6 ht;have Fy:C8 t ((Aq [45] r5).getD r5):=Cf H6 fun q e=>Ap H6 e
     have hn:Ff r=Ce ((Aq [45] r5).getD r5):=by rw[K4];unfold Ks;rw[hp]
     generalize (Aq [45] r5).getD r5=r6 at Cc Fy hn;generalize (Aq [45] r5).isSome=b1 at Cc;have hg:Ae C0 prog fu (d+3) 107 [.pbox (Bu t r6)]=some ⟨[.sc (.bool (Ce r6).isSome)],[Bu t ((Ce r6).getD r6)]⟩:=Dn (d:=d+1) Fy ht Fv;refine⟨(Ce r6).getD r6,Cf Fy fun q e=>Cw Fy e,?_,?_⟩
     ·rw[hn,Ag]
      try unfold Ac
      repeat first
       |((with_reducible first|apply A6|apply Au|apply A1|apply At|apply A3|apply Av|apply A2|apply A5);· first|with_reducible rfl|(simp (disch:=omega) only[gT,a0,Fz,Gd,Gz,Gw,Cc,hg,Dg,D3]<;>first|with_reducible rfl|omega)|omega)
       |(with_reducible apply A4;· first|with_reducible rfl|(simp (disch:=omega) only[gF,a0,Fz,Gd,Gz,Gw,Cc,hg,Dg,D3]<;>omega))
      try simp (disch:=omega) only[a0,Fz,Gd,Gz,Gw,Cc,hg,Dg,D3]
      try rfl
     ·rw[hn];intro q e;rw[e];rfl
    ·have Gw:=Ct (fu:=fu) (d:=d) 43 43 rfl H6 ht hp;have Fy:=Ap H6 hp;have hn:Ff r=Ce r6:=by rw[K4];unfold Ks;rw[hp]
     have hg:Ae C0 prog fu (d+3) 107 [.pbox (Bu t r6)]=some ⟨[.sc (.bool (Ce r6).isSome)],[Bu t ((Ce r6).getD r6)]⟩:=Dn (d:=d+1) Fy ht Fv;refine⟨(Ce r6).getD r6,Cf Fy fun q e=>Cw Fy e,?_,?_⟩
     ·rw[hn,Ag]
      try unfold Ac
      repeat first
       |((with_reducible first|apply A6|apply Au|apply A1|apply At|apply A3|apply Av|apply A2|apply A5);· first|with_reducible rfl|(simp (disch:=omega) only[gT,a0,Fz,Gd,Gz,Gw,hg,Dg,D3]<;>first|with_reducible rfl|omega)|omega)
       |(with_reducible apply A4;· first|with_reducible rfl|(simp (disch:=omega) only[gF,a0,Fz,Gd,Gz,Gw,hg,Dg,D3]<;>omega))
      try simp (disch:=omega) only[a0,Fz,Gd,Gz,Gw,hg,Dg,D3]
      try rfl
     ·rw[hn];intro q e;rw[e];rfl
  ·have Gd:=Ct (fu:=fu) (d:=d) 46 46 rfl Q6 ht hdt;have hS3:=Ap Q6 hdt;rw[hdt] at BK;have BK:Ff r=(Ce r3).bind Rq:=BK;have HP:=Dn (d:=d+1) hS3 ht Fv;rcases BX:Ce r3 with _|r4
   ·rw[BX] at HP BK;have K7:Ae C0 prog fu (d+3) 107 [.pbox (Bu t r3)]=some ⟨[.sc (.bool false)],[Bu t r3]⟩:=HP;have hn:Ff r=none:=BK;refine⟨r3,hS3,?_,?_⟩
    ·rw[hn,Ag]
     try unfold Ac
     repeat first
      |((with_reducible first|apply A6|apply Au|apply A1|apply At|apply A3|apply Av|apply A2|apply A5);· first|with_reducible rfl|(simp (disch:=omega) only[gT,a0,Fz,Gd,K7,Dg,D3]<;>first|with_reducible rfl|omega)|omega)
      |(with_reducible apply A4;· first|with_reducible rfl|(simp (disch:=omega) only[gF,a0,Fz,Gd,K7,Dg,D3]<;>omega))
     try simp (disch:=omega) only[a0,Fz,Gd,K7,Dg,D3]
     try rfl
    ·rw[hn];intro q e;cases e
   ·rw[BX] at HP BK;have K7:Ae C0 prog fu (d+3) 107 [.pbox (Bu t r3)]=some ⟨[.sc (.bool true)],[Bu t r4]⟩:=HP;have Wu:=Cw hS3 BX;have K4:Ff r=Rq r4:=BK;rw[Ml] at K4;rcases he:Aq [101] r4 with _|r5
    ·have Gz:=Dz (fu:=fu) (d:=d) 101 101 rfl Wu ht he;rw[he] at K4;rcases hE:Aq [69] r4 with _|r5
     ·have L3:=Dz (fu:=fu) (d:=d) 69 69 rfl Wu ht hE;have hn:Ff r=some r4:=by rw[K4,hE]
      refine⟨r4,Wu,?_,?_⟩
      ·rw[hn,Ag]
       try unfold Ac
       repeat first
        |((with_reducible first|apply A6|apply Au|apply A1|apply At|apply A3|apply Av|apply A2|apply A5);· first|with_reducible rfl|(simp (disch:=omega) only[gT,a0,Fz,Gd,K7,Gz,L3,Dg,D3]<;>first|with_reducible rfl|omega)|omega)
        |(with_reducible apply A4;· first|with_reducible rfl|(simp (disch:=omega) only[gF,a0,Fz,Gd,K7,Gz,L3,Dg,D3]<;>omega))
       try simp (disch:=omega) only[a0,Fz,Gd,K7,Gz,L3,Dg,D3]
       try rfl
      ·rw[hn];intro q e;cases e;rfl
     ·have L3:=Ct (fu:=fu) (d:=d) 69 69 rfl Wu ht hE;have H6:=Ap Wu hE;rw[hE] at K4;simp only at K4;rcases hp:Aq [43] r5 with _|r6
      ·have Gw:=Dz (fu:=fu) (d:=d) 43 43 rfl H6 ht hp;have Cc:=J6 (fu:=fu) (d:=d) 45 45 rfl H6 ht;have Fy:C8 t ((Aq [45] r5).getD r5):=Cf H6 fun q e=>Ap H6 e
       have hn:Ff r=Ce ((Aq [45] r5).getD r5):=by rw[K4];unfold Ks;rw[hp]
       generalize (Aq [45] r5).getD r5=r6 at Cc Fy hn;generalize (Aq [45] r5).isSome=b1 at Cc;have hg:Ae C0 prog fu (d+3) 107 [.pbox (Bu t r6)]=some ⟨[.sc (.bool (Ce r6).isSome)],[Bu t ((Ce r6).getD r6)]⟩:=Dn (d:=d+1) Fy ht Fv;refine⟨(Ce r6).getD r6,Cf Fy fun q e=>Cw Fy e,?_,?_⟩
       ·rw[hn,Ag]
        try unfold Ac
        repeat first
         |((with_reducible first|apply A6|apply Au|apply A1|apply At|apply A3|apply Av|apply A2|apply A5);· first|with_reducible rfl|(simp (disch:=omega) only[gT,a0,Fz,Gd,K7,Gz,L3,Gw,Cc,hg,Dg,D3]<;>first|with_reducible rfl|omega)|omega)
         |(with_reducible apply A4;· first|with_reducible rfl|(simp (disch:=omega) only[gF,a0,Fz,Gd,K7,Gz,L3,Gw,Cc,hg,Dg,D3]<;>omega))
        try simp (disch:=omega) only[a0,Fz,Gd,K7,Gz,L3,Gw,Cc,hg,Dg,D3]
        try rfl
       ·rw[hn];intro q e;rw[e];rfl
      ·have Gw:=Ct (fu:=fu) (d:=d) 43 43 rfl H6 ht hp;have Fy:=Ap H6 hp;have hn:Ff r=Ce r6:=by rw[K4];unfold Ks;rw[hp]
       have hg:Ae C0 prog fu (d+3) 107 [.pbox (Bu t r6)]=some ⟨[.sc (.bool (Ce r6).isSome)],[Bu t ((Ce r6).getD r6)]⟩:=Dn (d:=d+1) Fy ht Fv;refine⟨(Ce r6).getD r6,Cf Fy fun q e=>Cw Fy e,?_,?_⟩
       ·rw[hn,Ag]
        try unfold Ac
        repeat first
         |((with_reducible first|apply A6|apply Au|apply A1|apply At|apply A3|apply Av|apply A2|apply A5);· first|with_reducible rfl|(simp (disch:=omega) only[gT,a0,Fz,Gd,K7,Gz,L3,Gw,hg,Dg,D3]<;>first|with_reducible rfl|omega)|omega)
         |(with_reducible apply A4;· first|with_reducible rfl|(simp (disch:=omega) only[gF,a0,Fz,Gd,K7,Gz,L3,Gw,hg,Dg,D3]<;>omega))
        try simp (disch:=omega) only[a0,Fz,Gd,K7,Gz,L3,Gw,hg,Dg,D3]
        try rfl
       ·rw[hn];intro q e;rw[e];rfl
    ·have Gz:=Ct (fu:=fu) (d:=d) 101 101 rfl Wu ht he;have H6:=Ap Wu he;rw[he] at K4;simp only at K4;rcases hp:Aq [43] r5 with _|r6
     ·have Gw:=Dz (fu:=fu) (d:=d) 43 43 rfl H6 ht hp;have Cc:=J6 (fu:=fu) (d:=d) 45 45 rfl H6 ht;have Fy:C8 t ((Aq [45] r5).getD r5):=Cf H6 fun q e=>Ap H6 e
      have hn:Ff r=Ce ((Aq [45] r5).getD r5):=by rw[K4];unfold Ks;rw[hp]
      generalize (Aq [45] r5).getD r5=r6 at Cc Fy hn;generalize (Aq [45] r5).isSome=b1 at Cc;have hg:Ae C0 prog fu (d+3) 107 [.pbox (Bu t r6)]=some ⟨[.sc (.bool (Ce r6).isSome)],[Bu t ((Ce r6).getD r6)]⟩:=Dn (d:=d+1) Fy ht Fv;refine⟨(Ce r6).getD r6,Cf Fy fun q e=>Cw Fy e,?_,?_⟩
      ·rw[hn,Ag]
       try unfold Ac
       repeat first
        |((with_reducible first|apply A6|apply Au|apply A1|apply At|apply A3|apply Av|apply A2|apply A5);· first|with_reducible rfl|(simp (disch:=omega) only[gT,a0,Fz,Gd,K7,Gz,Gw,Cc,hg,Dg,D3]<;>first|with_reducible rfl|omega)|omega)
        |(with_reducible apply A4;· first|with_reducible rfl|(simp (disch:=omega) only[gF,a0,Fz,Gd,K7,Gz,Gw,Cc,hg,Dg,D3]<;>omega))
       try simp (disch:=omega) only[a0,Fz,Gd,K7,Gz,Gw,Cc,hg,Dg,D3]
       try rfl
      ·rw[hn];intro q e;rw[e];rfl
     ·have Gw:=Ct (fu:=fu) (d:=d) 43 43 rfl H6 ht hp;have Fy:=Ap H6 hp;have hn:Ff r=Ce r6:=by rw[K4];unfold Ks;rw[hp]
      have hg:Ae C0 prog fu (d+3) 107 [.pbox (Bu t r6)]=some ⟨[.sc (.bool (Ce r6).isSome)],[Bu t ((Ce r6).getD r6)]⟩:=Dn (d:=d+1) Fy ht Fv;refine⟨(Ce r6).getD r6,Cf Fy fun q e=>Cw Fy e,?_,?_⟩
      ·rw[hn,Ag]
       try unfold Ac
       repeat first
        |((with_reducible first|apply A6|apply Au|apply A1|apply At|apply A3|apply Av|apply A2|apply A5);· first|with_reducible rfl|(simp (disch:=omega) only[gT,a0,Fz,Gd,K7,Gz,Gw,hg,Dg,D3]<;>first|with_reducible rfl|omega)|omega)
        |(with_reducible apply A4;· first|with_reducible rfl|(simp (disch:=omega) only[gF,a0,Fz,Gd,K7,Gz,Gw,hg,Dg,D3]<;>omega))
       try simp (disch:=omega) only[a0,Fz,Gd,K7,Gz,Gw,hg,Dg,D3]
       try rfl
      ·rw[hn];intro q e;rw[e];rfl
end
end
section
open Go.Proofs.Tryd (prog)
open Go.IntKind (wrap)
theorem C8.trans {t:ByteArray}{r q:List Int}(h:C8 t r)(k:C8 (Ab r) q):C8 t q:=by
 obtain⟨pre,k⟩:=k;rw[Cq h.B] at k;rw[k] at h;exact h.app
theorem C8.self {l:List Int}(h:Dp l):C8 (Ab l) l:=⟨[],by rw[Cq h];rfl⟩
theorem C8.le {l q:List Int}(h:C8 (Ab l) q):q.length<=l.length:=by
 have:=h.len
 rwa [An] at this
def PD (t:ByteArray)(l:List Int)(x:JR (JV × List Int)) (res:Ay):Prop:=
 match x with
 |.ok (v,q)=>C8 (Ab l) q∧res=⟨[.agg [.sc (.int .i64 v.1),.sc (.string (Ab v.2.1)),.sc (.bool v.2.2)],.sc (.int .i64 0)],[Bu t q]⟩
 |.error e=>e≠0∧∃c1 c2 c3 q,C8 t q∧res=⟨[.agg [.sc (.int .i64 c1),.sc (.string c2),.sc (.bool c3)],.sc (.int .i64 e)],[Bu t q]⟩
def Aq8 (t:ByteArray)(l:List Int)(x:JR (List Int)) (res:Ay):Prop:=
 match x with
 |.ok q=>C8 (Ab l) q∧res=⟨[.sc (.int .i64 0)],[Bu t q]⟩
 |.error e=>e≠0∧∃q,C8 t q∧res=⟨[.sc (.int .i64 e)],[Bu t q]⟩
theorem Aau {α:Type}(a b:Int)(L5:a≠b)(A B:List Int->α)(C:α)(x:List Int):
  (match Aq [a] x with|some r=>A r|none=>match Aq [b] x with|some r=>B r|none=>C)=(match x with|[]=>C|y::r=>if y=a then A r else if y=b then B r else C):=by
 rw[Fl,Fl];cases x with
 |nil=>rfl
 |cons y r=>
  by_cases h:y=a
  ·simp[h]
  ·by_cases h2:y=b
   ·subst h2;simp[h]
   ·simp[h,h2]
theorem Aar (V:List Int->JR (JV × List Int)) (n:Nat)(l:List Int):HJ V (n+1) l=match V l with
  |.error e=>.error e
  |.ok (_,r)=>match Aq [93] (Bf r) with
   |some r'=>.ok r'
   |none=>match Aq [44] (Bf r) with
    |some r'=>HJ V n (Bf r')
    |none=>.error 2:=by
 show (match V l with | .error e=>_ | .ok (_,r)=>_)=_
 cases V l with
 |error e=>rfl
 |ok x=>
  obtain⟨v,r⟩:=x;simp only;rw[Aau 93 44 (by decide) (fun r'=>Except.ok r') (fun r'=>HJ V n (Bf r')) (Except.error 2)]
  cases Bf r with
  |nil=>rfl
  |cons y r=>
   by_cases h:y=93
   ·subst h;rfl
   ·by_cases h2:y=44
    ·subst h2;rfl
    ·simp only[Dr h,Dr h2];split
     ·rename_i e;injection e with e1 _;exact absurd e1 h
     ·rename_i e;injection e with e1 _;exact absurd e1 h2
     ·rfl
section
variable {fu d:Nat}
theorem YW {t s0:ByteArray}{p0 D0 D:Int}(ht:t.size<=1000000)(Fv:t.size+1<=fu)(V:List Int->JR (JV × List Int)) (HV:∀r,C8 t r->∃res,Ae C0 prog fu (d+3) 69 [.pbox (Bu t r),.sc (.int .i64 D)]=some res∧PD t r (V r) res):∀(n nn:Nat)(l:List Int),l.length+1<=n->l.length+1<=nn->C8 t l ->
  ∃res,C7 fu (Ae C0 prog fu (d+3)) s0 p0 D0 nn D t (Bp t l:Int)=some res∧Aq8 t l (HJ V n l) res:=by
 intro n
 induction n with
 |zero=>intro nn l h1;omega
 |succ n ih=>
  intro nn l hn Lj h;obtain⟨k,rfl⟩:∃k,nn=k+1:=⟨nn-1,by omega⟩
  obtain⟨rv,ev,hv⟩:=HV l h;rw[Aar,Hw];cases hV:V l with
  |error e=>
   rw[hV] at hv;obtain⟨he,c1,c2,c3,q,hq,rfl⟩:=hv;have hb:(e != (0:Int))=true:=by simp[he]
   refine⟨⟨[.sc (.int .i64 e)],[Bu t q]⟩,?_,he,q,hq,rfl⟩
   try unfold Ac
   repeat first
    |((with_reducible first|apply A6|apply Au|apply A1|apply At|apply A3|apply Jl|apply Av|apply A2|apply A5);· first|with_reducible rfl|(simp (disch:=omega) only[gT,ev,hb]<;>first|with_reducible rfl|omega)|omega)
    |(with_reducible apply A4;· first|with_reducible rfl|(simp (disch:=omega) only[gF,ev,hb]<;>omega))
   try simp (disch:=omega) only[ev,hb]
  |ok x=>
   obtain⟨v,q⟩:=x;rw[hV] at hv;obtain⟨hq,rfl⟩:=hv;have hqt:=h.trans hq;have hs:=Nr (fu:=fu) (d:=d) hqt ht Fv;have Q3:Ae C0 prog fu (d+3) 50 [.pbox (Bu t q)]=some ⟨[],[Bu t (Bf q)]⟩:=hs;have hqs:=Bn hqt;have Ao4:=Bn hq;have hb:((0:Int) != (0:Int))=false:=rfl;simp only;cases h1:Aq [93] (Bf q) with
   |some r'=>
    have a1:=Ct (fu:=fu) (d:=d) 93 93 rfl hqs ht h1;refine⟨⟨[.sc (.int .i64 0)],[Bu t r']⟩,?_,Ap Ao4 h1,rfl⟩
    try unfold Ac
    repeat first
     |((with_reducible first|apply A6|apply Au|apply A1|apply At|apply A3|apply Jl|apply Av|apply A2|apply A5);· first|with_reducible rfl|(simp (disch:=omega) only[gT,ev,hb,Q3,a1]<;>first|with_reducible rfl|omega)|omega)
     |(with_reducible apply A4;· first|with_reducible rfl|(simp (disch:=omega) only[gF,ev,hb,Q3,a1]<;>omega))
    try simp (disch:=omega) only[ev,hb,Q3,a1]
   |none=>
    have a1:=Dz (fu:=fu) (d:=d) 93 93 rfl hqs ht h1;cases h2:Aq [44] (Bf q) with
    |none=>
     have a2:=Dz (fu:=fu) (d:=d) 44 44 rfl hqs ht h2;refine⟨⟨[.sc (.int .i64 2)],[Bu t (Bf q)]⟩,?_,by decide,Bf q,hqs,rfl⟩
     try unfold Ac
     repeat first
      |((with_reducible first|apply A6|apply Au|apply A1|apply At|apply A3|apply Jl|apply Av|apply A2|apply A5);· first|with_reducible rfl|(simp (disch:=omega) only[gT,ev,hb,Q3,a1,a2,D3]<;>first|with_reducible rfl|omega)|omega)
      |(with_reducible apply A4;· first|with_reducible rfl|(simp (disch:=omega) only[gF,ev,hb,Q3,a1,a2,D3]<;>omega))
     try simp (disch:=omega) only[ev,hb,Q3,a1,a2,D3]
    |some r'=>
     have a2:=Ct (fu:=fu) (d:=d) 44 44 rfl hqs ht h2;have hr:=Ap hqs h2;have CL:=Ap Ao4 h2;have HX:Ae C0 prog fu (d+3) 50 [.pbox (Bu t r')]=some ⟨[],[Bu t (Bf r')]⟩:=Nr (fu:=fu) (d:=d) hr ht Fv
     have hlr:(Bf r').length+1<=l.length:=by
      have e1:=hq.le;have e2:=O5 q;have e3:=O5 r'
      have e4:r'.length+1<=(Bf q).length:=by
       rw[Fl] at h2
       revert h2
       cases Bf q with
       |nil=>intro h2;cases h2
       |cons y s=>
        intro h2;simp only at h2;split at h2
        ·cases h2;simp
        ·cases h2
      omega
     obtain⟨res,e5,h5⟩:=ih k (Bf r') (by omega) (by omega) (Bn hr)
     refine⟨res,?_,?_⟩
     ·skip
      try unfold Ac
      repeat first
       |((with_reducible first|apply A6|apply Au|apply A1|apply At|apply A3|apply Jl|apply Av|apply A2|apply A5);· first|with_reducible rfl|(simp (disch:=omega) only[gT,ev,hb,Q3,a1,a2,HX,Dg]<;>first|with_reducible rfl|omega)|omega)
       |(with_reducible apply A4;· first|with_reducible rfl|(simp (disch:=omega) only[gF,ev,hb,Q3,a1,a2,HX,Dg]<;>omega))
      try simp (disch:=omega) only[ev,hb,Q3,a1,a2,HX,Dg]
      exact e5
     ·simp only;have hup:C8 (Ab l) (Bf r'):=Bn CL
      revert h5
      cases HJ V n (Bf r') with
      |error e=>exact id
      |ok q2=>exact fun h5=>⟨hup.trans h5.1,h5.2⟩
end
end
section
open Go.Proofs.Tryd (prog)
open Go.IntKind (wrap)
set_option maxRecDepth 100000
theorem LB {c:Int}{x r:List Int}(h:Aq [c] x=some r):r.length+1<=x.length:=by
 rw[Fl] at h
 revert h
 cases x with
 |nil=>intro h;cases h
 |cons y s=>
  intro h;simp only at h;split at h
  ·cases h;simp
  ·cases h
theorem Y3 (V:List Int->JR (JV × List Int)) (kp:Bool)(n:Nat)(ms:List (List Int × JV)) (l:List Int):Ql V kp (n+1) ms l=match Et l with
  |(none,_)=>.error 2
  |(some nm,r)=>if (kp&&ms.any fun m=>m.1==nm)=true then .error 10 else match Aq [58] (Bf r) with
   |none=>.error 2
   |some r1=>match V (Bf r1) with
    |.error e=>.error e
    |.ok (v,r2)=>match Aq [125] (Bf r2) with
     |some r3=>.ok (ms++[(nm,v)],r3)
     |none=>match Aq [44] (Bf r2) with
      |some r3=>Ql V kp n (ms++[(nm,v)]) (Bf r3)
      |none=>.error 2:=by
 show (match Ajh V (fun nm=>kp&&ms.any fun m=>m.1==nm) l with | .error e=>_ | .ok (m,r)=>_)=_
 unfold Ajh EI;rcases Et l with⟨o,r⟩;cases o with
 |none=>rfl
 |some nm=>
  simp only;by_cases hd:(kp&&ms.any fun m=>m.1==nm)=true
  rotate_left
  ·simp only[Dr hd];rw[Fl];cases Bf r with
   |nil=>rfl
   |cons y s=>
    by_cases h:y=58
    ·subst h;simp only[if_true];cases V (Bf s) with
     |error e=>rfl
     |ok x=>
      obtain⟨v,r2⟩:=x;simp only;rw[Fl,Fl];cases Bf r2 with
      |nil=>rfl
      |cons y s=>
       by_cases h:y=125
       ·subst h;simp
       ·by_cases h2:y=44
        ·subst h2;simp
        ·simp only[Dr h,Dr h2];split
         ·rename_i e;injection e with e1 _;exact absurd e1 h
         ·rename_i e;injection e with e1 _;exact absurd e1 h2
         ·rfl
    ·simp only[Dr h];split
     ·rename_i e;split at e
      ·rename_i e2;injection e2 with e1 _;exact absurd e1 h
      ·cases e;rfl
     ·rename_i e;split at e
      ·rename_i e2;injection e2 with e1 _;exact absurd e1 h
      ·cases e
  ·simp only[Ev hd]
def Apo {α:Type}(t:ByteArray)(l:List Int)(x:JR (α × List Int)) (res:Ay):Prop:=
 match x with
 |.ok (_,q)=>C8 (Ab l) q∧res=⟨[.sc (.int .i64 0)],[Bu t q]⟩
 |.error e=>e≠0∧∃q,C8 t q∧res=⟨[.sc (.int .i64 e)],[Bu t q]⟩
section
variable {fu d:Nat}
theorem Ags {t:ByteArray}{r:List Int}(h:C8 t r)(ht:t.size<=1000000):Ae C0 prog fu (d+1) 68 [.pbox (Bu t r)]=some ⟨[.sc (.string (Ab ((Et r).1.getD []))),.sc (.bool (Et r).1.isSome)],[Bu t (Et r).2]⟩:=by
 have e0:Ae C0 prog fu (d+1) 68 [.pbox (Bu t r)]=Aap [.pbox (Bu t r)]:=rfl;have hl:=h.len
 have e1:(decide ((0:Int)<=(Bp t r:Int))&&decide ((Bp t r:Int)<=t.size)&&Nat.ble t.size 1000000)=true:=by
  simp only[Bool.and_eq_true,decide_eq_true_eq,Nat.ble_eq];unfold Bp;omega
 have e2:(Ea t).drop (Bp t r:Int).toNat=r:=by rw[N4];exact h.eq.symm
 have hq:=(Gp h).len;rw[e0];unfold Aap;simp only[e1,cond_true,e2];rcases hx:Et r with⟨o,q⟩;rw[hx] at hq;have e3:(t.size:Int)-q.length=(Bp t q:Int):=by unfold Bp;simp only at hq;omega
 cases o with
 |none=>simp only[e3];rfl
 |some s=>simp only[e3];rfl
theorem Ao3 {t:ByteArray}{D:Int}(ht:t.size<=1000000)(Fv:t.size+1<=fu)(V:List Int->JR (JV × List Int)) (HV:∀r,C8 t r->∃res,Ae C0 prog fu (d+3) 69 [.pbox (Bu t r),.sc (.int .i64 D)]=some res∧PD t r (V r) res) {l:List Int}(h:C8 t (91::l)):
  ∃res,Ae C0 prog fu (d+4) 91 [.pbox (Bu t (91::l)),.sc (.int .i64 D)]=some res∧Aq8 t l (VF V l) res:=by
 have a0:=Ct (fu:=fu) (d:=d) (q:=l) 91 91 rfl h ht (by rw[Fl];rfl)
 have hs:Ae C0 prog fu (d+3) 50 [.pbox (Bu t l)]=some ⟨[],[Bu t (Bf l)]⟩:=Nr (fu:=fu) (d:=d) h.tail ht Fv;have hS:=Bn h.tail;have Q6:=Bn (C8.self h.tail.B)
 have eA:VF V l=match Aq [93] (Bf l) with|some r=>.ok r|none=>HJ V ((Bf l).length+1) (Bf l):=by
  unfold VF;rw[Fl];cases Bf l with
  |nil=>rfl
  |cons y s=>
   by_cases hy:y=93
   ·subst hy;rfl
   ·simp only[Dr hy];split
    ·rename_i e;injection e with e1 _;exact absurd e1 hy
    ·rfl
 have er:=I6 (p:=none) fu (d+3) t (Bp t (91::l):Int) D;rw[eA];cases h1:Aq [93] (Bf l) with
 |some r=>
  have a1:=Ct (fu:=fu) (d:=d) 93 93 rfl hS ht h1;refine⟨⟨[.sc (.int .i64 0)],[Bu t r]⟩,er.trans ?_,Ap Q6 h1,rfl⟩
  try unfold Ac
  repeat first
   |((with_reducible first|apply A6|apply Au|apply A1|apply At|apply A3|apply Av|apply A2|apply A5);· first|with_reducible rfl|(simp (disch:=omega) only[gT,a0,hs,a1,Dg]<;>first|with_reducible rfl|omega)|omega)
   |(with_reducible apply A4;· first|with_reducible rfl|(simp (disch:=omega) only[gF,a0,hs,a1,Dg]<;>omega))
  try simp (disch:=omega) only[a0,hs,a1,Dg]
 |none=>
  have a1:=Dz (fu:=fu) (d:=d) 93 93 rfl hS ht h1;obtain⟨res,e5,h5⟩:=YW (fu:=fu) (d:=d) (s0:=t) (p0:=(Bp t (91::l):Int)) (D0:=D) ht Fv V HV ((Bf l).length+1) fu (Bf l) (Nat.le_refl _) (by have:=hS.len;omega) hS
  refine⟨res,er.trans ?_,?_⟩
  ·skip
   try unfold Ac
   repeat first
    |((with_reducible first|apply A6|apply Au|apply A1|apply At|apply A3|apply Av|apply A2|apply A5);· first|with_reducible rfl|(simp (disch:=omega) only[gT,a0,hs,a1,Dg]<;>first|with_reducible rfl|omega)|omega)
    |(with_reducible apply A4;· first|with_reducible rfl|(simp (disch:=omega) only[gF,a0,hs,a1,Dg]<;>omega))
   try simp (disch:=omega) only[a0,hs,a1,Dg]
   exact e5
  ·simp only
   revert h5
   cases HJ V ((Bf l).length+1) (Bf l) with
   |error e=>exact id
   |ok q2=>exact fun h5=>⟨Q6.trans h5.1,h5.2⟩
end
end
section
open Go.Proofs.Tryd (prog)
open Go.IntKind (wrap)
set_option maxRecDepth 100000
section
variable {fu d:Nat}
theorem ZI {t s0:ByteArray}{p0 D0 D:Int}(ht:t.size<=1000000)(Fv:t.size+1<=fu)(V:List Int->JR (JV × List Int)) (HV:∀r,C8 t r->∃res,Ae C0 prog fu (d+3) 69 [.pbox (Bu t r),.sc (.int .i64 D)]=some res∧PD t r (V r) res):∀(n nn:Nat)(ms:List (List Int × JV)) (l:List Int),l.length+1<=n->l.length+1<=nn->C8 t l ->
  ∃res,Cv fu (Ae C0 prog fu (d+3)) s0 p0 D0 nn D t (Bp t l:Int)=some res∧Apo t l (Ql V false n ms l) res:=by
 intro n
 induction n with
 |zero=>intro nn ms l h1;omega
 |succ n ih=>
  intro nn ms l hn Lj h;obtain⟨k,rfl⟩:∃k,nn=k+1:=⟨nn-1,by omega⟩
  have er:Ae C0 prog fu (d+3) 68 [.pbox (Bu t l)]=_:=Ags (d:=d+2) h ht;have HS:=Gp h;have GW:=Gp (C8.self h.B);rw[Y3,Hq];rcases hx:Et l with⟨o,q⟩;rw[hx] at er HS GW;cases o with
  |none=>
   have er2:Ae C0 prog fu (d+3) 68 [.pbox (Bu t l)]=some ⟨[.sc (.string (Ab [])),.sc (.bool false)],[Bu t q]⟩:=er;refine⟨⟨[.sc (.int .i64 2)],[Bu t q]⟩,?_,by decide,q,HS,rfl⟩
   try unfold Ac
   repeat first
    |((with_reducible first|apply A6|apply Au|apply A1|apply At|apply A3|apply Jl|apply Av|apply A2|apply A5);· first|with_reducible rfl|(simp (disch:=omega) only[gT,er2,D3]<;>first|with_reducible rfl|omega)|omega)
    |(with_reducible apply A4;· first|with_reducible rfl|(simp (disch:=omega) only[gF,er2,D3]<;>omega))
   try simp (disch:=omega) only[er2,D3]
  |some nm=>
   have er2:Ae C0 prog fu (d+3) 68 [.pbox (Bu t l)]=some ⟨[.sc (.string (Ab nm)),.sc (.bool true)],[Bu t q]⟩:=er;simp only at HS GW;have Q3:Ae C0 prog fu (d+3) 50 [.pbox (Bu t q)]=some ⟨[],[Bu t (Bf q)]⟩:=Nr (fu:=fu) (d:=d) HS ht Fv;have Qp:=Bn HS;have Ia:=Bn GW;simp only[WO,Bool.false_eq_true,if_false];cases h1:Aq [58] (Bf q) with
   |none=>
    have a1:=Dz (fu:=fu) (d:=d) 58 58 rfl Qp ht h1;refine⟨⟨[.sc (.int .i64 2)],[Bu t (Bf q)]⟩,?_,by decide,Bf q,Qp,rfl⟩
    try unfold Ac
    repeat first
     |((with_reducible first|apply A6|apply Au|apply A1|apply At|apply A3|apply Jl|apply Av|apply A2|apply A5);· first|with_reducible rfl|(simp (disch:=omega) only[gT,er2,Q3,a1,Dg,D3]<;>first|with_reducible rfl|omega)|omega)
     |(with_reducible apply A4;· first|with_reducible rfl|(simp (disch:=omega) only[gF,er2,Q3,a1,Dg,D3]<;>omega))
    try simp (disch:=omega) only[er2,Q3,a1,Dg,D3]
   |some r1=>
    have a1:=Ct (fu:=fu) (d:=d) 58 58 rfl Qp ht h1;have AC:=Ap Qp h1;have CL:=Ap Ia h1;have HX:Ae C0 prog fu (d+3) 50 [.pbox (Bu t r1)]=some ⟨[],[Bu t (Bf r1)]⟩:=Nr (fu:=fu) (d:=d) AC ht Fv;have hv1:=Bn AC;have hv2:=Bn CL;obtain⟨rv,ev,hv⟩:=HV (Bf r1) hv1;simp only;cases hV:V (Bf r1) with
    |error e=>
     rw[hV] at hv;obtain⟨he,c1,c2,c3,q3,hq3,rfl⟩:=hv;have hb:(e != (0:Int))=true:=by simp[he]
     refine⟨⟨[.sc (.int .i64 e)],[Bu t q3]⟩,?_,he,q3,hq3,rfl⟩
     try unfold Ac
     repeat first
      |((with_reducible first|apply A6|apply Au|apply A1|apply At|apply A3|apply Jl|apply Av|apply A2|apply A5);· first|with_reducible rfl|(simp (disch:=omega) only[gT,er2,Q3,a1,HX,ev,hb,Dg]<;>first|with_reducible rfl|omega)|omega)
      |(with_reducible apply A4;· first|with_reducible rfl|(simp (disch:=omega) only[gF,er2,Q3,a1,HX,ev,hb,Dg]<;>omega))
     try simp (disch:=omega) only[er2,Q3,a1,HX,ev,hb,Dg]
    |ok x=>
     obtain⟨v,r2⟩:=x;rw[hV] at hv;obtain⟨hq3,rfl⟩:=hv;have hb:((0:Int) != (0:Int))=false:=rfl;have hw1:=hv1.trans hq3;have hw2:=hv2.trans hq3;have FR:Ae C0 prog fu (d+3) 50 [.pbox (Bu t r2)]=some ⟨[],[Bu t (Bf r2)]⟩:=Nr (fu:=fu) (d:=d) hw1 ht Fv;have MP:=Bn hw1;have Lo:=Bn hw2;simp only;cases h2:Aq [125] (Bf r2) with
     |some r3=>
      have a2:=Ct (fu:=fu) (d:=d) 125 125 rfl MP ht h2;refine⟨⟨[.sc (.int .i64 0)],[Bu t r3]⟩,?_,Ap Lo h2,rfl⟩
      try unfold Ac
      repeat first
       |((with_reducible first|apply A6|apply Au|apply A1|apply At|apply A3|apply Jl|apply Av|apply A2|apply A5);· first|with_reducible rfl|(simp (disch:=omega) only[gT,er2,Q3,a1,HX,ev,hb,FR,a2,Dg]<;>first|with_reducible rfl|omega)|omega)
       |(with_reducible apply A4;· first|with_reducible rfl|(simp (disch:=omega) only[gF,er2,Q3,a1,HX,ev,hb,FR,a2,Dg]<;>omega))
      try simp (disch:=omega) only[er2,Q3,a1,HX,ev,hb,FR,a2,Dg]
     |none=>
      have a2:=Dz (fu:=fu) (d:=d) 125 125 rfl MP ht h2;cases h3:Aq [44] (Bf r2) with
      |none=>
       have a3:=Dz (fu:=fu) (d:=d) 44 44 rfl MP ht h3;refine⟨⟨[.sc (.int .i64 2)],[Bu t (Bf r2)]⟩,?_,by decide,Bf r2,MP,rfl⟩
       try unfold Ac
       repeat first
        |((with_reducible first|apply A6|apply Au|apply A1|apply At|apply A3|apply Jl|apply Av|apply A2|apply A5);· first|with_reducible rfl|(simp (disch:=omega) only[gT,er2,Q3,a1,HX,ev,hb,FR,a2,a3,Dg,D3]<;>first|with_reducible rfl|omega)|omega)
        |(with_reducible apply A4;· first|with_reducible rfl|(simp (disch:=omega) only[gF,er2,Q3,a1,HX,ev,hb,FR,a2,a3,Dg,D3]<;>omega))
       try simp (disch:=omega) only[er2,Q3,a1,HX,ev,hb,FR,a2,a3,Dg,D3]
      |some r3=>
       have a3:=Ct (fu:=fu) (d:=d) 44 44 rfl MP ht h3;have hy1:=Ap MP h3;have WZ:=Ap Lo h3;have hs5:Ae C0 prog fu (d+3) 50 [.pbox (Bu t r3)]=some ⟨[],[Bu t (Bf r3)]⟩:=Nr (fu:=fu) (d:=d) hy1 ht Fv
       have hlr:(Bf r3).length+1<=l.length:=by
        have e1:=Lo.le;have e2:=O5 r3;have e3:=LB h3;omega
       obtain⟨res,e5,h5⟩:=ih k (ms++[(nm,v)]) (Bf r3) (by omega) (by omega) (Bn hy1)
       refine⟨res,?_,?_⟩
       ·skip
        try unfold Ac
        repeat first
         |((with_reducible first|apply A6|apply Au|apply A1|apply At|apply A3|apply Jl|apply Av|apply A2|apply A5);· first|with_reducible rfl|(simp (disch:=omega) only[gT,er2,Q3,a1,HX,ev,hb,FR,a2,a3,hs5,Dg]<;>first|with_reducible rfl|omega)|omega)
         |(with_reducible apply A4;· first|with_reducible rfl|(simp (disch:=omega) only[gF,er2,Q3,a1,HX,ev,hb,FR,a2,a3,hs5,Dg]<;>omega))
        try simp (disch:=omega) only[er2,Q3,a1,HX,ev,hb,FR,a2,a3,hs5,Dg]
        exact e5
       ·simp only;have hup:C8 (Ab l) (Bf r3):=Bn WZ
        revert h5
        cases Ql V false n (ms++[(nm,v)]) (Bf r3) with
        |error e=>exact id
        |ok q2=>exact fun h5=>⟨hup.trans h5.1,h5.2⟩
theorem Ao9 {t:ByteArray}{D:Int}(ht:t.size<=1000000)(Fv:t.size+1<=fu)(V:List Int->JR (JV × List Int)) (HV:∀r,C8 t r->∃res,Ae C0 prog fu (d+3) 69 [.pbox (Bu t r),.sc (.int .i64 D)]=some res∧PD t r (V r) res) {l:List Int}(h:C8 t (123::l)):
  ∃res,Ae C0 prog fu (d+4) 51 [.pbox (Bu t (123::l)),.sc (.int .i64 D),.sc (.map none)]=some res∧Apo t l (Ta V false l) res:=by
 have a0:=Ct (fu:=fu) (d:=d) (q:=l) 123 123 rfl h ht (by rw[Fl];rfl)
 have hs:Ae C0 prog fu (d+3) 50 [.pbox (Bu t l)]=some ⟨[],[Bu t (Bf l)]⟩:=Nr (fu:=fu) (d:=d) h.tail ht Fv;have hS:=Bn h.tail;have Q6:=Bn (C8.self h.tail.B)
 have eA:Ta V false l=match Aq [125] (Bf l) with|some r=>.ok ([],r)|none=>Ql V false ((Bf l).length+1) [] (Bf l):=by
  unfold Ta;rw[Fl];cases Bf l with
  |nil=>rfl
  |cons y s=>
   by_cases hy:y=125
   ·subst hy;rfl
   ·simp only[Dr hy];split
    ·rename_i e;injection e with e1 _;exact absurd e1 hy
    ·rfl
 have er:=Ig (p:=none) fu (d+3) t (Bp t (123::l):Int) D;rw[eA];cases h1:Aq [125] (Bf l) with
 |some r=>
  have a1:=Ct (fu:=fu) (d:=d) 125 125 rfl hS ht h1;refine⟨⟨[.sc (.int .i64 0)],[Bu t r]⟩,er.trans ?_,Ap Q6 h1,rfl⟩
  try unfold Ac
  repeat first
   |((with_reducible first|apply A6|apply Au|apply A1|apply At|apply A3|apply Jl|apply Av|apply A2|apply A5);· first|with_reducible rfl|(simp (disch:=omega) only[gT,a0,hs,a1,Dg]<;>first|with_reducible rfl|omega)|omega)
   |(with_reducible apply A4;· first|with_reducible rfl|(simp (disch:=omega) only[gF,a0,hs,a1,Dg]<;>omega))
  try simp (disch:=omega) only[a0,hs,a1,Dg]
 |none=>
  have a1:=Dz (fu:=fu) (d:=d) 125 125 rfl hS ht h1;obtain⟨res,e5,h5⟩:=ZI (fu:=fu) (d:=d) (s0:=t) (p0:=(Bp t (123::l):Int)) (D0:=D) ht Fv V HV ((Bf l).length+1) fu [] (Bf l) (Nat.le_refl _) (by have:=hS.len;omega) hS
  refine⟨res,er.trans ?_,?_⟩
  ·skip
   try unfold Ac
   repeat first
    |((with_reducible first|apply A6|apply Au|apply A1|apply At|apply A3|apply Jl|apply Av|apply A2|apply A5);· first|with_reducible rfl|(simp (disch:=omega) only[gT,a0,hs,a1,Dg]<;>first|with_reducible rfl|omega)|omega)
    |(with_reducible apply A4;· first|with_reducible rfl|(simp (disch:=omega) only[gF,a0,hs,a1,Dg]<;>omega))
   try simp (disch:=omega) only[a0,hs,a1,Dg]
   exact e5
  ·simp only
   revert h5
   cases Ql V false ((Bf l).length+1) [] (Bf l) with
   |error e=>exact id
   |ok q2=>exact fun h5=>⟨Q6.trans h5.1,h5.2⟩
end
end
section
open Go.Proofs.Tryd (prog)
open Go.IntKind (wrap)
set_option maxRecDepth 100000
def Ajw (l:List Int):JR (JV × List Int):=
 match Aq [116,114,117,101] l with
 |some r=>.ok ((2,[],true),r)
 |none=>match Aq [102,97,108,115,101] l with
  |some r=>.ok ((2,[],false),r)
  |none=>match Aq [110,117,108,108] l with
   |some r=>.ok ((1,[],false),r)
   |none=>match Ff l with
    |some r=>.ok ((3,[],false),r)
    |none=>.error 2
theorem CO (k:Nat){l:List Int}(h1:HN l≠123)(h2:HN l≠91)(h3:HN l≠34):Fn k l=Ajw l:=by
 unfold Fn;split
 ·exact absurd rfl h1
 ·exact absurd rfl h2
 ·exact absurd rfl h3
 ·rfl
theorem Aae {l r:List Int}(h:Dp l)(e:Ff l=some r):C8 (Ab l) r:=by
 have h0:=C8.self h;have e0:Ff l=(Aep (ZM 45 l)).bind Xz:=rfl;rw[e0,U9,DT] at e;have h1:C8 (Ab l) ((Aq [45] l).getD l):=Cf h0 fun q e=>Ap h0 e
 have hE:∀x q,C8 (Ab l) x->Rq x=some q->C8 (Ab l) q:=by
  have hT:∀x q,C8 (Ab l) x->Ks x=some q->C8 (Ab l) q:=by
   intro x q hx e;unfold Ks at e;split at e
   ·rename_i hw;exact Cw (Ap hx hw) e
   ·exact Cw (Cf hx fun q e=>Ap hx e) e
  intro x q hx e;rw[Ml] at e;split at e
  ·rename_i hw;exact hT _ _ (Ap hx hw) e
  ·split at e
   ·rename_i hw;exact hT _ _ (Ap hx hw) e
   ·cases e;exact hx
 have hF:∀x q,C8 (Ab l) x->Xz x=some q->C8 (Ab l) q:=by
  intro x q hx e;rw[Rr] at e;split at e
  ·rename_i hw;obtain⟨y,hy,e⟩:=Option.bind_eq_some_iff.1 e;exact hE _ _ (Cw (Ap hx hw) hy) e
  ·exact hE _ _ hx e
 obtain⟨y,hy,e⟩:=Option.bind_eq_some_iff.1 e;split at hy
 ·rename_i hw;cases hy;exact hF _ _ (Ap h1 hw) e
 ·exact hF _ _ (Cw h1 hy) e
section
variable {fu d:Nat}
theorem Ak6 {t:ByteArray}{r:List Int}(w:List Int)(lit:ByteArray)(hw:Ab w=lit)(hB:Dp w)(hl:w.length<=100)(h:C8 t r)(ht:t.size<=1000000):Ae C0 prog fu (d+3) 67 [.pbox (Bu t r),.sc (.string lit)]=some ⟨[.sc (.bool (Aq w r).isSome)],[Bu t ((Aq w r).getD r)]⟩:=by
 subst hw;have e:=Pb (fu:=fu) (d:=d) (xs:=xs0) h ht (w:=w) hB hl;refine e.trans ?_;cases Aq w r<;>rfl
theorem Aca {t:ByteArray}(ht:t.size<=1000000)(Fv:t.size+1<=fu){D:Int}{l:List Int}(h:C8 t l)(h1:HN l≠123)(h2:HN l≠91)(h3:HN l≠34):∃res,Ae C0 prog fu (d+5) 69 [.pbox (Bu t l),.sc (.int .i64 D)]=some res∧PD t l (Ajw l) res:=by
 have er:=B1 (p:=none) fu (d+4) t (Bp t l:Int) D;have pk:Ae C0 prog fu (d+4) 90 [.pbox (Bu t l)]=some ⟨[.sc (.int .u8 (HN l))],[Bu t l]⟩:=K9 (xs:=xs0) (d:=d+3) h;have b1:(HN l==(123:Int))=false:=by simp[h1]
 have b2:(HN l==(91:Int))=false:=by simp[h2]
 have b3:(HN l==(34:Int))=false:=by simp[h3]
 have Aag:=C8.self h.B;have a1:=Ak6 (fu:=fu) (d:=d+1) [116,114,117,101] (ByteArray.mk #[(116:UInt8),(114:UInt8),(117:UInt8),(101:UInt8)]) rfl (fun x hx=>by simp at hx;omega) (by decide) h ht
 have a2:=Ak6 (fu:=fu) (d:=d+1) [102,97,108,115,101] (ByteArray.mk #[(102:UInt8),(97:UInt8),(108:UInt8),(115:UInt8),(101:UInt8)]) rfl (fun x hx=>by simp at hx;omega) (by decide) h ht
 have a3:=Ak6 (fu:=fu) (d:=d+1) [110,117,108,108] (ByteArray.mk #[(110:UInt8),(117:UInt8),(108:UInt8),(108:UInt8)]) rfl (fun x hx=>by simp at hx;omega) (by decide) h ht
 obtain⟨rn,hrn,en,hn⟩:=Aab (fu:=fu) (d:=d) h ht Fv;have en2:Ae C0 prog fu (d+4) 92 [.pbox (Bu t l)]=some ⟨[.sc (.bool (Ff l).isSome)],[Bu t rn]⟩:=en;unfold Ajw;cases q1:Aq [116,114,117,101] l with
 |some r=>
  rw[q1] at a1;have a1':Ae C0 prog fu (d+4) 67 [.pbox (Bu t l),.sc (.string (ByteArray.mk #[(116:UInt8),(114:UInt8),(117:UInt8),(101:UInt8)]))]=some ⟨[.sc (.bool true)],[Bu t r]⟩:=a1;refine⟨_,er.trans ?_,Ap Aag q1,rfl⟩
  try unfold Ac
  repeat first
   |((with_reducible first|apply A6|apply Au|apply A1|apply At|apply A3|apply Av|apply A2|apply A5);· first|with_reducible rfl|(simp (disch:=omega) only[gT,pk,b1,b2,b3,a1']<;>first|with_reducible rfl|omega)|omega)
   |(with_reducible apply A4;· first|with_reducible rfl|(simp (disch:=omega) only[gF,pk,b1,b2,b3,a1']<;>omega))
  try simp (disch:=omega) only[pk,b1,b2,b3,a1']
  rfl
 |none=>
  rw[q1] at a1;have a1':Ae C0 prog fu (d+4) 67 [.pbox (Bu t l),.sc (.string (ByteArray.mk #[(116:UInt8),(114:UInt8),(117:UInt8),(101:UInt8)]))]=some ⟨[.sc (.bool false)],[Bu t l]⟩:=a1;cases q2:Aq [102,97,108,115,101] l with
  |some r=>
   rw[q2] at a2;have a2':Ae C0 prog fu (d+4) 67 [.pbox (Bu t l),.sc (.string (ByteArray.mk #[(102:UInt8),(97:UInt8),(108:UInt8),(115:UInt8),(101:UInt8)]))]=some ⟨[.sc (.bool true)],[Bu t r]⟩:=a2;refine⟨_,er.trans ?_,Ap Aag q2,rfl⟩
   try unfold Ac
   repeat first
    |((with_reducible first|apply A6|apply Au|apply A1|apply At|apply A3|apply Av|apply A2|apply A5);· first|with_reducible rfl|(simp (disch:=omega) only[gT,pk,b1,b2,b3,a1',a2']<;>first|with_reducible rfl|omega)|omega)
    |(with_reducible apply A4;· first|with_reducible rfl|(simp (disch:=omega) only[gF,pk,b1,b2,b3,a1',a2']<;>omega))
   try simp (disch:=omega) only[pk,b1,b2,b3,a1',a2']
   rfl
  |none=>
   rw[q2] at a2;have a2':Ae C0 prog fu (d+4) 67 [.pbox (Bu t l),.sc (.string (ByteArray.mk #[(102:UInt8),(97:UInt8),(108:UInt8),(115:UInt8),(101:UInt8)]))]=some ⟨[.sc (.bool false)],[Bu t l]⟩:=a2;cases q3:Aq [110,117,108,108] l with
   |some r=>
    rw[q3] at a3;have a3':Ae C0 prog fu (d+4) 67 [.pbox (Bu t l),.sc (.string (ByteArray.mk #[(110:UInt8),(117:UInt8),(108:UInt8),(108:UInt8)]))]=some ⟨[.sc (.bool true)],[Bu t r]⟩:=a3;refine⟨_,er.trans ?_,Ap Aag q3,rfl⟩
    try unfold Ac
    repeat first
     |((with_reducible first|apply A6|apply Au|apply A1|apply At|apply A3|apply Av|apply A2|apply A5);· first|with_reducible rfl|(simp (disch:=omega) only[gT,pk,b1,b2,b3,a1',a2',a3']<;>first|with_reducible rfl|omega)|omega)
     |(with_reducible apply A4;· first|with_reducible rfl|(simp (disch:=omega) only[gF,pk,b1,b2,b3,a1',a2',a3']<;>omega))
    try simp (disch:=omega) only[pk,b1,b2,b3,a1',a2',a3']
    rfl
   |none=>
    rw[q3] at a3;have a3':Ae C0 prog fu (d+4) 67 [.pbox (Bu t l),.sc (.string (ByteArray.mk #[(110:UInt8),(117:UInt8),(108:UInt8),(108:UInt8)]))]=some ⟨[.sc (.bool false)],[Bu t l]⟩:=a3;cases q4:Ff l with
    |some r=>
     rw[q4] at en2;have:=hn r q4;subst this;have en3:Ae C0 prog fu (d+4) 92 [.pbox (Bu t l)]=some ⟨[.sc (.bool true)],[Bu t rn]⟩:=en2;refine⟨_,er.trans ?_,Aae h.B q4,rfl⟩
     try unfold Ac
     repeat first
      |((with_reducible first|apply A6|apply Au|apply A1|apply At|apply A3|apply Av|apply A2|apply A5);· first|with_reducible rfl|(simp (disch:=omega) only[gT,pk,b1,b2,b3,a1',a2',a3',en3]<;>first|with_reducible rfl|omega)|omega)
      |(with_reducible apply A4;· first|with_reducible rfl|(simp (disch:=omega) only[gF,pk,b1,b2,b3,a1',a2',a3',en3]<;>omega))
     try simp (disch:=omega) only[pk,b1,b2,b3,a1',a2',a3',en3]
     rfl
    |none=>
     rw[q4] at en2;have en3:Ae C0 prog fu (d+4) 92 [.pbox (Bu t l)]=some ⟨[.sc (.bool false)],[Bu t rn]⟩:=en2;refine⟨_,er.trans ?_,by decide,0,⟨#[]⟩,false,rn,hrn,rfl⟩
     try unfold Ac
     repeat first
      |((with_reducible first|apply A6|apply Au|apply A1|apply At|apply A3|apply Av|apply A2|apply A5);· first|with_reducible rfl|(simp (disch:=omega) only[gT,pk,b1,b2,b3,a1',a2',a3',en3]<;>first|with_reducible rfl|omega)|omega)
      |(with_reducible apply A4;· first|with_reducible rfl|(simp (disch:=omega) only[gF,pk,b1,b2,b3,a1',a2',a3',en3]<;>omega))
     try simp (disch:=omega) only[pk,b1,b2,b3,a1',a2',a3',en3]
theorem Ad9 (k:Nat)(r:List Int):Fn k (34::r)=match Et (34::r) with|(some s,q)=>.ok ((4,s,false),q)|(none,_)=>.error 2:=by
 have e:Fn k (34::r)=match EI (34::r) with|none=>.error 2|some (s,r')=>.ok ((4,s,false),r'):=by
  cases k<;>rfl
 rw[e];unfold EI;rcases Et (34::r) with⟨o,q⟩;cases o<;>rfl
theorem IY {t:ByteArray}(ht:t.size<=1000000)(k:Nat){D:Int}{l:List Int}(h:C8 t (34::l)):∃res,Ae C0 prog fu (d+5) 69 [.pbox (Bu t (34::l)),.sc (.int .i64 D)]=some res∧PD t (34::l) (Fn k (34::l)) res:=by
 have er:=B1 (p:=none) fu (d+4) t (Bp t (34::l):Int) D;have pk:Ae C0 prog fu (d+4) 90 [.pbox (Bu t (34::l))]=some ⟨[.sc (.int .u8 34)],[Bu t (34::l)]⟩:=K9 (xs:=xs0) (d:=d+3) h;have Fd:Ae C0 prog fu (d+4) 68 [.pbox (Bu t (34::l))]=_:=Ags (d:=d+3) h ht;have HS:=Gp h;have GW:=Gp (C8.self h.B);have b1:((34:Int)==(123:Int))=false:=rfl;have b2:((34:Int)==(91:Int))=false:=rfl;have b3:((34:Int)==(34:Int))=true:=rfl;rw[Ad9];rcases hx:Et (34::l) with⟨o,q⟩;rw[hx] at Fd HS GW;cases o with
 |none=>
  have PE:Ae C0 prog fu (d+4) 68 [.pbox (Bu t (34::l))]=some ⟨[.sc (.string (Ab [])),.sc (.bool false)],[Bu t q]⟩:=Fd;refine⟨_,er.trans ?_,by decide,0,⟨#[]⟩,false,q,HS,rfl⟩
  try unfold Ac
  repeat first
   |((with_reducible first|apply A6|apply Au|apply A1|apply At|apply A3|apply Av|apply A2|apply A5);· first|with_reducible rfl|(simp (disch:=omega) only[gT,pk,b1,b2,b3,PE]<;>first|with_reducible rfl|omega)|omega)
   |(with_reducible apply A4;· first|with_reducible rfl|(simp (disch:=omega) only[gF,pk,b1,b2,b3,PE]<;>omega))
  try simp (disch:=omega) only[pk,b1,b2,b3,PE]
 |some s=>
  have PE:Ae C0 prog fu (d+4) 68 [.pbox (Bu t (34::l))]=some ⟨[.sc (.string (Ab s)),.sc (.bool true)],[Bu t q]⟩:=Fd;refine⟨_,er.trans ?_,GW,rfl⟩
  try unfold Ac
  repeat first
   |((with_reducible first|apply A6|apply Au|apply A1|apply At|apply A3|apply Av|apply A2|apply A5);· first|with_reducible rfl|(simp (disch:=omega) only[gT,pk,b1,b2,b3,PE]<;>first|with_reducible rfl|omega)|omega)
   |(with_reducible apply A4;· first|with_reducible rfl|(simp (disch:=omega) only[gF,pk,b1,b2,b3,PE]<;>omega))
  try simp (disch:=omega) only[pk,b1,b2,b3,PE]
theorem Agg {t:ByteArray}(ht:t.size<=1000000)(Fv:t.size+1<=fu):∀(k:Nat)(D:Int),D+k=9->1<=D->∀l,C8 t l->∃res,Ae C0 prog fu (d+2*k+5) 69 [.pbox (Bu t l),.sc (.int .i64 D)]=some res∧PD t l (Fn k l) res:=by
 intro k
 induction k with
 |zero=>
  intro D hD h1 l h;by_cases g1:HN l=123
  ·cases l with
   |nil=>cases g1
   |cons c l=>
    have g2:c=123:=g1;subst g2;have er:=B1 (p:=none) fu (d+4) t (Bp t (123::l):Int) D;have pk:Ae C0 prog fu (d+4) 90 [.pbox (Bu t (123::l))]=some ⟨[.sc (.int .u8 123)],[Bu t (123::l)]⟩:=K9 (xs:=xs0) (d:=d+3) h;have b1:((123:Int)==(123:Int))=true:=rfl;have b2:decide (D>8)=true:=by simp;omega
    refine⟨_,er.trans ?_,(by decide:(5:Int)≠0),0,⟨#[]⟩,false,123::l,h,rfl⟩
    try unfold Ac
    repeat first
     |((with_reducible first|apply A6|apply Au|apply A1|apply At|apply A3|apply Av|apply A2|apply A5);· first|with_reducible rfl|(simp (disch:=omega) only[gT,pk,b1,b2]<;>first|with_reducible rfl|omega)|omega)
     |(with_reducible apply A4;· first|with_reducible rfl|(simp (disch:=omega) only[gF,pk,b1,b2]<;>omega))
    try simp (disch:=omega) only[pk,b1,b2]
  ·by_cases g2:HN l=91
   ·cases l with
    |nil=>cases g2
    |cons c l=>
     have g3:c=91:=g2;subst g3;have er:=B1 (p:=none) fu (d+4) t (Bp t (91::l):Int) D;have pk:Ae C0 prog fu (d+4) 90 [.pbox (Bu t (91::l))]=some ⟨[.sc (.int .u8 91)],[Bu t (91::l)]⟩:=K9 (xs:=xs0) (d:=d+3) h;have b0:((91:Int)==(123:Int))=false:=rfl;have b1:((91:Int)==(91:Int))=true:=rfl;have b2:decide (D>8)=true:=by simp;omega
     refine⟨_,er.trans ?_,(by decide:(5:Int)≠0),0,⟨#[]⟩,false,91::l,h,rfl⟩
     try unfold Ac
     repeat first
      |((with_reducible first|apply A6|apply Au|apply A1|apply At|apply A3|apply Av|apply A2|apply A5);· first|with_reducible rfl|(simp (disch:=omega) only[gT,pk,b0,b1,b2]<;>first|with_reducible rfl|omega)|omega)
      |(with_reducible apply A4;· first|with_reducible rfl|(simp (disch:=omega) only[gF,pk,b0,b1,b2]<;>omega))
     try simp (disch:=omega) only[pk,b0,b1,b2]
   ·by_cases g3:HN l=34
    ·cases l with
     |nil=>cases g3
     |cons c l=>
      have g4:c=34:=g3;subst g4;exact IY ht 0 h
    ·rw[CO 0 g1 g2 g3];exact Aca ht Fv h g1 g2 g3
 |succ k ih=>
  intro D hD h1 l h;have HV:=ih (D+1) (by omega) (by omega)
  by_cases g1:HN l=123
  ·cases l with
   |nil=>cases g1
   |cons c l=>
    have g2:c=123:=g1;subst g2;have er:=B1 (p:=none) fu (d+2*(k+1)+4) t (Bp t (123::l):Int) D;have pk:Ae C0 prog fu (d+2*(k+1)+4) 90 [.pbox (Bu t (123::l))]=some ⟨[.sc (.int .u8 123)],[Bu t (123::l)]⟩:=K9 (xs:=xs0) (d:=d+2*(k+1)+3) h;have b1:((123:Int)==(123:Int))=true:=rfl;have b2:decide (D>8)=false:=by simp;omega
    have w1:wrap .i64 (D+1)=D+1:=Bc (by omega) (by omega)
    obtain⟨res,e5,h5⟩:=Ao9 (fu:=fu) (d:=d+2*k+2) (D:=D+1) ht Fv (Fn k) HV h;have e6:Ae C0 prog fu (d+2*(k+1)+4) 51 [.pbox (Bu t (123::l)),.sc (.int .i64 (D+1)),.sc (.map none)]=some res:=e5;have ev:Fn (k+1) (123::l)=match Ta (Fn k) false l with | .error e=>.error e | .ok (_,r')=>.ok ((6,[],false),r'):=rfl
    rw[ev];cases ho:Ta (Fn k) false l with
    |error e=>
     rw[ho] at h5;obtain⟨he,q,hq,rfl⟩:=h5;refine⟨_,er.trans ?_,he,6,⟨#[]⟩,false,q,hq,rfl⟩
     try unfold Ac
     repeat first
      |((with_reducible first|apply A6|apply Au|apply A1|apply At|apply A3|apply Av|apply A2|apply A5);· first|with_reducible rfl|(simp (disch:=omega) only[gT,pk,b1,b2,w1,e6]<;>first|with_reducible rfl|omega)|omega)
      |(with_reducible apply A4;· first|with_reducible rfl|(simp (disch:=omega) only[gF,pk,b1,b2,w1,e6]<;>omega))
     try simp (disch:=omega) only[pk,b1,b2,w1,e6]
    |ok x=>
     obtain⟨ms,q⟩:=x;rw[ho] at h5;obtain⟨hq,rfl⟩:=h5;refine⟨_,er.trans ?_,(C8.self h.B).tail.trans hq,rfl⟩
     try unfold Ac
     repeat first
      |((with_reducible first|apply A6|apply Au|apply A1|apply At|apply A3|apply Av|apply A2|apply A5);· first|with_reducible rfl|(simp (disch:=omega) only[gT,pk,b1,b2,w1,e6]<;>first|with_reducible rfl|omega)|omega)
      |(with_reducible apply A4;· first|with_reducible rfl|(simp (disch:=omega) only[gF,pk,b1,b2,w1,e6]<;>omega))
     try simp (disch:=omega) only[pk,b1,b2,w1,e6]
     rfl
  ·by_cases g2:HN l=91
   ·cases l with
    |nil=>cases g2
    |cons c l=>
     have g3:c=91:=g2;subst g3;have er:=B1 (p:=none) fu (d+2*(k+1)+4) t (Bp t (91::l):Int) D;have pk:Ae C0 prog fu (d+2*(k+1)+4) 90 [.pbox (Bu t (91::l))]=some ⟨[.sc (.int .u8 91)],[Bu t (91::l)]⟩:=K9 (xs:=xs0) (d:=d+2*(k+1)+3) h;have b0:((91:Int)==(123:Int))=false:=rfl;have b1:((91:Int)==(91:Int))=true:=rfl;have b2:decide (D>8)=false:=by simp;omega
     have w1:wrap .i64 (D+1)=D+1:=Bc (by omega) (by omega)
     obtain⟨res,e5,h5⟩:=Ao3 (fu:=fu) (d:=d+2*k+2) (D:=D+1) ht Fv (Fn k) HV h;have e6:Ae C0 prog fu (d+2*(k+1)+4) 91 [.pbox (Bu t (91::l)),.sc (.int .i64 (D+1))]=some res:=e5;have ev:Fn (k+1) (91::l)=match VF (Fn k) l with | .error e=>.error e | .ok r'=>.ok ((5,[],false),r'):=rfl
     rw[ev];cases ho:VF (Fn k) l with
     |error e=>
      rw[ho] at h5;obtain⟨he,q,hq,rfl⟩:=h5;refine⟨_,er.trans ?_,he,5,⟨#[]⟩,false,q,hq,rfl⟩
      try unfold Ac
      repeat first
       |((with_reducible first|apply A6|apply Au|apply A1|apply At|apply A3|apply Av|apply A2|apply A5);· first|with_reducible rfl|(simp (disch:=omega) only[gT,pk,b0,b1,b2,w1,e6]<;>first|with_reducible rfl|omega)|omega)
       |(with_reducible apply A4;· first|with_reducible rfl|(simp (disch:=omega) only[gF,pk,b0,b1,b2,w1,e6]<;>omega))
      try simp (disch:=omega) only[pk,b0,b1,b2,w1,e6]
     |ok q=>
      rw[ho] at h5;obtain⟨hq,rfl⟩:=h5;refine⟨_,er.trans ?_,(C8.self h.B).tail.trans hq,rfl⟩
      try unfold Ac
      repeat first
       |((with_reducible first|apply A6|apply Au|apply A1|apply At|apply A3|apply Av|apply A2|apply A5);· first|with_reducible rfl|(simp (disch:=omega) only[gT,pk,b0,b1,b2,w1,e6]<;>first|with_reducible rfl|omega)|omega)
       |(with_reducible apply A4;· first|with_reducible rfl|(simp (disch:=omega) only[gF,pk,b0,b1,b2,w1,e6]<;>omega))
      try simp (disch:=omega) only[pk,b0,b1,b2,w1,e6]
      rfl
   ·by_cases g3:HN l=34
    ·cases l with
     |nil=>cases g3
     |cons c l=>
      have g4:c=34:=g3;subst g4;exact IY (d:=d+2*(k+1)) ht (k+1) h
    ·rw[CO (k+1) g1 g2 g3];exact Aca (d:=d+2*(k+1)) ht Fv h g1 g2 g3
end
end
section
open Go.Proofs.Tryd (prog)
open Go.IntKind (wrap)
set_option maxRecDepth 1000000
open Go.Shelf Go.RowKit Go.Lib
theorem OQ (G:Rs)(args:List PV)(res:Ay)(h:LC args=some res):C6 G prog 66 args res:=by
 refine⟨⟨_,Tryd.func66,by kernel_rfl⟩,fun w Y bt us hi _ _=>?_⟩
 unfold LC at h;split at h
 rotate_left
 ·cases h
 rename_i s p;cases hq:(Nat.ble p.size 1000&&p.data.toList.all (fun b=>decide (b.toNat<128))&&decide (s.size<=1000000000))
 ·rw[hq] at h;cases h
 rw[hq,cond_true] at h;cases h;rw[Bool.and_eq_true,Bool.and_eq_true] at hq;obtain⟨⟨h1,h2⟩,h3⟩:=hq;have h1:=Nat.le_of_ble_eq_true h1;have h3:=of_decide_eq_true h3;have ps:=hi.args
 match us,ps with
 |[u1,u2],ps=>
  obtain⟨⟨_,p1⟩,⟨_,p2⟩,_⟩:=ps;have e1:u1=.string s:=Ar.val (show Ar w _ (.sc (.string s)) u1 from p1)
  have e2:u2=.string p:=Ar.val (show Ar w _ (.sc (.string p)) u2 from p2)
  subst e1 e2;refine (Any.strings_Trim_laid NN (by kernel_rfl) s p w (by omega) (by omega) (ascii_of_all h2)).mono ?_
  rintro e w' ⟨rfl,hb⟩
  exact⟨[.string ⟨(Lib.trimS s.data.toList p.data.toList).toArray⟩],fun _=>none,rfl,Md hb rfl⟩
 |[],ps=>exact ps.elim
 |[_],ps=>exact ps.2.elim
 |_::_::_::_,ps=>exact ps.2.2.elim
end
section
open Go.Proofs.Tryd (prog)
open Go.IntKind (wrap)
set_option maxRecDepth 1000000
open Go.Shelf Go.RowKit Go.Lib
def Aox:Go.Shelf.Ren:=⟨fun|196=>33|259=>49|n=>n,fun|0=>0|3=>3|4=>4|5=>5|9=>9|12=>12|46=>56|53=>46|119=>86|138=>88|139=>89|n=>n,fun|3=>0|4=>1|n=>n⟩
theorem laysVS:Lays.n196 prog Aox:={
 mixed:=by kernel_rfl
 f196:=Tryd.func33.trans (congrArg some (by kernel_rfl))
 f259:=Tryd.func49.trans (congrArg some (by kernel_rfl))
 t0:=Tryd.underlying0
 a0:=Tryd.isAgg0
 z0:=Tryd.sizeOf0
 v0:=Tryd.zeroValue0
 t3:=Tryd.underlying3
 a3:=Tryd.isAgg3
 z3:=Tryd.sizeOf3
 v3:=Tryd.zeroValue3
 t4:=Tryd.underlying4
 a4:=Tryd.isAgg4
 z4:=Tryd.sizeOf4
 v4:=Tryd.zeroValue4
 t5:=Tryd.underlying5
 a5:=Tryd.isAgg5
 z5:=Tryd.sizeOf5
 v5:=Tryd.zeroValue5
 t9:=Tryd.underlying9
 a9:=Tryd.isAgg9
 z9:=Tryd.sizeOf9
 v9:=Tryd.zeroValue9
 t12:=Tryd.underlying12
 a12:=Tryd.isAgg12
 z12:=Tryd.sizeOf12
 v12:=Tryd.zeroValue12
 t46:=Tryd.underlying56
 a46:=Tryd.isAgg56
 z46:=Tryd.sizeOf56
 v46:=Tryd.zeroValue56
 t53:=Tryd.underlying46
 a53:=Tryd.isAgg46
 z53:=Tryd.sizeOf46
 v53:=Tryd.zeroValue46
 t119:=Tryd.underlying86
 a119:=Tryd.isAgg86
 z119:=Tryd.sizeOf86
 t138:=Tryd.underlying88
 a138:=Tryd.isAgg88
 z138:=Tryd.sizeOf88
 v138:=Tryd.zeroValue88
 t139:=Tryd.underlying89
 a139:=Tryd.isAgg89
 z139:=Tryd.sizeOf89
 v139:=Tryd.zeroValue89
 g3:=by kernel_rfl
 g4:=by kernel_rfl }
def gU:Rs:=⟨fun b=>b=0∨b=1,fun w=>0<w.heap.size∧1<w.heap.size∧Lib.Utf8Tabs 0 1 w,fun w w' h ⟨s1,s2,h1,h2⟩=>by
 have e1:=h _ (.inl rfl) s1;have e2:=h _ (.inr rfl) s2
 have hs:∀b,b<w.heap.size->w'.heap[b]?=w.heap[b]?->b<w'.heap.size:=by
  intro b hb he;rw[Array.getElem?_eq_getElem hb] at he;rcases Nat.lt_or_ge b w'.heap.size with q|q
  ·exact q
  ·rw[Array.getElem?_eq_none q] at he;cases he
 refine⟨hs _ s1 e1,hs _ s2 e2,fun c hc=>?_,fun i hi=>?_⟩
 ·have:=h1 c hc;unfold World.cell? at this ⊢;simp only[e1] at this ⊢;exact this
 ·obtain⟨a,b⟩:=h2 i hi;unfold World.cell? at a b ⊢;simp only[e2] at a b ⊢;exact⟨a,b⟩⟩
theorem LO (args:List PV)(res:Ay)(h:NX args=some res):C6 gU prog 33 args res:=by
 refine⟨⟨_,Tryd.func33,by kernel_rfl⟩,fun w Y bt us hi hok _=>?_⟩
 unfold NX at h;split at h
 rotate_left
 ·cases h
 rename_i s;cases hq:decide (s.size<=9223372036854775807)
 ·rw[hq] at h;cases h
 rw[hq] at h;cases h;have hs:=of_decide_eq_true hq;have ps:=hi.args
 match us,ps with
 |[u],ps=>
  have hu:u=.string s:=by
   have:Ar w _ (.sc (.string s)) u:=ps.1.2;exact this.val
  subst hu;refine (Any.utf8_ValidString laysVS s w hs hok.2.2).mono ?_
  rintro e w' ⟨rfl,hb⟩
  exact⟨[.bool (Lib.validD s.data.toList)],fun _=>none,rfl,Md hb rfl⟩
 |[],ps=>exact ps.elim
 |_::_::_,ps=>exact ps.2.elim
theorem Agz {p:Option (List PV->Option Ay)} (hp:∀g,p=some g->∀args res,g args=some res->C6 gU prog 19 args res):DU gU prog (CP p):=by
 intro f g args res hx hg;have hx0:(bif Sm.any (Nat.beq f) then none else XK p f)=some g:=hx;cases hb:Sm.any (Nat.beq f)
 rotate_left
 ·rw[hb,cond_true] at hx0;cases hx0
 rw[hb,cond_false] at hx0;unfold XK at hx0;cases hP:Nat.beq f 19
 rotate_left
 ·rw[hP,cond_true] at hx0;rw[Nat.eq_of_beq_eq_true hP];exact hp g hx0 args res hg
 rw[hP,cond_false] at hx0;have Ph:YD f=some g:=hx0;unfold YD at Ph;cases h1:Nat.beq f 33
 rotate_left
 ·rw[h1,cond_true] at Ph;cases Ph;rw[Nat.eq_of_beq_eq_true h1];exact LO args res hg
 rw[h1,cond_false] at Ph;cases h6:Nat.beq f 40
 rotate_left
 ·rw[h6,cond_true] at Ph;cases Ph;rw[Nat.eq_of_beq_eq_true h6];exact TL gU args res hg
 rw[h6,cond_false] at Ph;cases h7:Nat.beq f 99
 rotate_left
 ·rw[h7,cond_true] at Ph;cases Ph;rw[Nat.eq_of_beq_eq_true h7];exact VK gU args res hg
 rw[h7,cond_false] at Ph;cases hA:Nat.beq f 66
 rotate_left
 ·rw[hA,cond_true] at Ph;cases Ph;rw[Nat.eq_of_beq_eq_true hA];exact OQ gU args res hg
 rw[hA,cond_false] at Ph;cases h8:Nat.beq f 12
 rotate_left
 ·rw[h8,cond_true] at Ph;cases Ph;rw[Nat.eq_of_beq_eq_true h8];exact VB gU args res hg
 rw[h8,cond_false] at Ph;cases h9:Nat.beq f 68
 rotate_left
 ·rw[h9,cond_true] at Ph;cases Ph;rw[Nat.eq_of_beq_eq_true h9];exact TM gU args res hg
 rw[h9,cond_false] at Ph;cases h3:Nat.beq f 1000000
 ·rw[h3,cond_false] at Ph;cases Ph
 ·rw[h3,cond_true] at Ph;cases Ph;cases hg
theorem Alh:DU gU prog C0:=Agz (fun _ h=>by cases h)
end
section
open Go.Proofs.Tryd (prog)
open Go.IntKind (wrap)
open Go Go.RowKit
def O4 (v:JV):Value:=.agg #[.int .i64 v.1,.string (Ab v.2.1),.bool v.2.2]
def Hr:Nat->List (List Int × JV)->List MapEntry
 |_,[]=>[]
 |i,m::r=>{ key:=.string (Ab m.1),val:=O4 m.2,born:=i }::Hr (i+1) r
theorem CH:∀(i:Nat)(a b:List (List Int × JV)),Hr i (a++b)=Hr i a++Hr (i+a.length) b
 |_,[],_=>rfl
 |i,m::r,b=>by
  show _::Hr (i+1) (r++b)=_;rw[CH (i+1) r b];show _=_::(Hr (i+1) r++Hr (i+(r.length+1)) b);rw[show i+1+r.length=i+(r.length+1) by omega]
def Ju (nm:List Int)(ms:List (List Int × JV)):Option JV:=(ms.find? fun m=>m.1==nm).map (·.2)
theorem Vo {a b:List Int}(ha:Dp a)(hb:Dp b)(h:Ab a=Ab b):a=b:=by
 have:=congrArg Ea h
 rwa [Cq ha,Cq hb] at this
theorem Abn (a b:ByteArray):(a==b)=decide (a=b):=by
 have e:(a==b)=(a.data==b.data):=by
  cases a;cases b;rfl
 rw[e,Bool.eq_iff_iff,beq_iff_eq,decide_eq_true_iff];constructor
 ·intro h;cases a;cases b;exact congrArg ByteArray.mk h
 ·intro h;rw[h]
theorem Pa {nm:List Int}(hn:Dp nm):∀(ms:List (List Int × JV)) (i j:Nat),(∀m∈ms,Dp m.1)->∃r,Instr.findNow .string (.string (Ab nm)) (Hr i ms) j=some r∧(match Ju nm ms with|none=>r=none|some v=>∃k,r=some (k,O4 v))
 |[],_,_,_=>⟨none,rfl,rfl⟩
 |m::r,i,j,hB=>by
  by_cases h:m.1=nm
  ·refine⟨some (j,O4 m.2),?_,?_⟩
   ·show (match Instr.sameNow .string (.string (Ab nm)) (.string (Ab m.1)) with|some true=>some (some (j,O4 m.2))|some false=>Instr.findNow .string (.string (Ab nm)) (Hr (i+1) r) (j+1)|none=>none)=_
    have e:Instr.sameNow .string (.string (Ab nm)) (.string (Ab m.1))=some true:=by
     show some (Ab nm==Ab m.1)=some true;rw[h,Abn];simp
    rw[e]
   ·have e:Ju nm (m::r)=some m.2:=by
     unfold Ju;rw[List.find?_cons_of_pos (by simp[h])]
     rfl
    rw[e];exact⟨j,rfl⟩
  ·obtain⟨q,hq,hl⟩:=Pa hn r (i+1) (j+1) fun m hm=>hB m (List.mem_cons_of_mem _ hm)
   refine⟨q,?_,?_⟩
   ·show (match Instr.sameNow .string (.string (Ab nm)) (.string (Ab m.1)) with|some true=>some (some (j,O4 m.2))|some false=>Instr.findNow .string (.string (Ab nm)) (Hr (i+1) r) (j+1)|none=>none)=_
    have e:Instr.sameNow .string (.string (Ab nm)) (.string (Ab m.1))=some false:=by
     show some (Ab nm==Ab m.1)=some false;have:Ab nm≠Ab m.1:=fun e=>h (Vo hn (hB m (List.mem_cons_self ..)) e).symm
     rw[Abn];simp[this]
    rw[e];exact hq
   ·have e:Ju nm (m::r)=Ju nm r:=by
     unfold Ju;rw[List.find?_cons_of_neg (by simp[h])]
    rw[e];exact hl
def Xy (w:World)(b:Nat)(ms:List (List Int × JV)):Prop:=w.heap[b]?=some (.map (Hr 0 ms).toArray ms.length)
theorem Xo {w:World}{b:Nat}{ms:List (List Int × JV)} (h:Xy w b ms):(getObj b).run prog w=.ok (.map (Hr 0 ms).toArray ms.length) w:=by
 simp[getObj,Sem.run,show w.heap[b]?=_ from h]
def JI (nm:List Int)(ms:List (List Int × JV)):Value:=match Ju nm ms with|some v=>O4 v|none=>O4 (0,[],false)
theorem Z2 {w:World}{b:Nat}{ms:List (List Int × JV)} (h:Xy w b ms)(hB:∀m∈ms,Dp m.1){nm:List Int}(hn:Dp nm)(ok:Bool):(Instr.lookup 68 (.map (some b)) (.string (Ab nm)) ok).run prog w=.ok (if ok then .tuple #[JI nm ms,.bool (Ju nm ms).isSome] else JI nm ms) w:=by
 have hu:=run_underlying (w:=w) Tryd.underlying68;have hk:=run_underlying (w:=w) Tryd.underlying9;have hck:∀c (n:Nat),(Instr.checkKey c (n+1) 9 (.string (Ab nm))).run prog w=.ok () w:=fun c n=>by simp[Instr.checkKey,hk]
 have hc:∀c,(Instr.checkKey c 10000 9 (.string (Ab nm))).run prog w=.ok () w:=fun c=>hck c 9999
 obtain⟨r,hr,hl⟩:=Pa hn ms 0 0 hB;have hz:(zeroValue 95).run prog w=.ok (O4 (0,[],false)) w:=Tryd.zeroValue95 w;unfold JI;cases hq:Ju nm ms with
 |none=>
  rw[hq] at hl;simp only at hl;subst hl;cases ok<;>simp[Instr.lookup,hu,hk,Xo h,hc,Instr.findKey,hr,hz]<;>rfl
 |some v=>
  rw[hq] at hl;obtain⟨k,hl⟩:=hl;subst hl;cases ok<;>simp[Instr.lookup,hu,hk,Xo h,hc,Instr.findKey,hr]
theorem NQ {w:World}{b:Nat}{ms:List (List Int × JV)} (h:Xy w b ms)(hB:∀m∈ms,Dp m.1){nm:List Int}(hn:Dp nm)(GC:Ju nm ms=none)(v:JV):(Instr.mapUpdate 68 (.map (some b)) (.string (Ab nm)) (O4 v)).run prog w=.ok () { w with heap:=w.heap.setIfInBounds b (.map (Hr 0 (ms++[(nm,v)])).toArray (ms++[(nm,v)]).length) }:=by
 have hu:=run_underlying (w:=w) Tryd.underlying68;have hk:=run_underlying (w:=w) Tryd.underlying9;have hck:∀c (n:Nat),(Instr.checkKey c (n+1) 9 (.string (Ab nm))).run prog w=.ok () w:=fun c n=>by simp[Instr.checkKey,hk]
 have hc:∀c,(Instr.checkKey c 10000 9 (.string (Ab nm))).run prog w=.ok () w:=fun c=>hck c 9999
 obtain⟨r,hr,hl⟩:=Pa hn ms 0 0 hB;rw[GC] at hl;simp only at hl;subst hl
 have e:Hr 0 (ms++[(nm,v)])=Hr 0 ms++[{ key:=.string (Ab nm),val:=O4 v,born:=ms.length }]:=by
  rw[CH];show _++[_]=_;rw[Nat.zero_add]
 have hs:∀o,(setObj b o).run prog w=.ok () { w with heap:=w.heap.setIfInBounds b o }:=fun o=>by
  simp[setObj,Sem.run,show w.heap[b]?=_ from h]
 rw[e];simp[Instr.mapUpdate,hu,hk,Xo h,hc,Instr.findKey,hr,hs]
end
section
open Go.Proofs.Tryd (prog)
open Go.IntKind (wrap)
set_option maxRecDepth 20000
open Go Go.RowKit
structure Jt (w:World) (b:Nat):Prop where
 ok:gU.ok w
 bl:∀k,gU.bl k->k<w.heap.size∧k≠b
theorem Y8 {f:FuncId}{t:ByteArray}{r r':List Int}{args vals:List PV}{us rs:List Value}{fu d:Nat}(e:Ae C0 prog fu d f (.pbox (Bu t r)::args)=some ⟨vals,[Bu t r']⟩) (ha:Bd Yf args us)(hr:Bd Yf vals rs)
  {w:World} {b o:Nat} (hU:Jt w b) (h:Sd w b o t r):Calls prog f (.pointer (some ⟨b,o,none⟩)::us).toArray w fun e w'=>e=.returned (Gx rs)∧Sd w' b o t r'∧Ed w w' b o 2:=by
 have hs:C6 gU prog f (.pbox ([Value.string t,.int .i64 (Bp t r:Int)].map .sc)::args) ⟨vals,[[Value.string t,.int .i64 (Bp t r':Int)].map .sc]⟩:=Hi ngR mxR Alh d f _ _ e;refine (DG hs ha hr (w:=w) (b:=b) (o:=o) hU.ok hU.bl h.lt ?_ ?_).mono ?_
 ·intro j v hv
  match j,hv with
  |0,hv=>cases hv;exact h.c0
  |1,hv=>cases hv;exact h.c1
 ·intro j hj
  match j,hj with
  |0,_=>exact h.f0
  |1,_=>exact h.f1
 ·rintro e w' ⟨rfl,_,h4,h5,hk⟩
  exact⟨rfl,⟨Nat.lt_of_lt_of_le h.lt hk.size,h4 0 _ rfl,h4 1 _ rfl,h5 0 (Nat.zero_lt_succ _),h5 1 (Nat.succ_lt_succ (Nat.zero_lt_succ _))⟩,hk⟩
theorem G8 {t:ByteArray}{r:List Int}(hS:C8 t r)(ht:t.size<=1000000){w:World}{b o:Nat}(hU:Jt w b)(h:Sd w b o t r):
  Calls prog 50 #[.pointer (some ⟨b,o,none⟩)] w fun e w'=>e=.returned (.tuple #[])∧Sd w' b o t (Bf r)∧Ed w w' b o 2:=by
 have e:=Nr (fu:=1000001) (d:=0) hS ht (by omega)
 exact Y8 (us:=[]) (rs:=[]) e trivial trivial hU h
def Amp (t:ByteArray)(r r':List Int)(e:Ending):Prop:=
 match Fn 8 r with
 |.ok (v,q)=>r'=q∧C8 (Ab r) q∧e=.returned (.tuple #[O4 v,.int .i64 0])
 |.error er=>er≠0∧C8 t r'∧∃u:JV,e=.returned (.tuple #[O4 u,.int .i64 er])
theorem TZ {t:ByteArray}{r:List Int}(hS:C8 t r)(ht:t.size<=1000000){w:World}{b o:Nat}(hU:Jt w b)(h:Sd w b o t r):
  Calls prog 69 #[.pointer (some ⟨b,o,none⟩),.int .i64 1] w fun e w'=>∃r',Sd w' b o t r'∧Ed w w' b o 2 ∧
   Amp t r r' e:=by
 unfold Amp;obtain⟨res,e,hr⟩:=Agg (fu:=1000001) (d:=0) ht (by omega) 8 1 (by omega) (by omega) r hS
 cases hv:Fn 8 r with
 |error er=>
  rw[hv] at hr;obtain⟨he,c1,c2,c3,q,hq,rfl⟩:=hr;refine (Y8 (us:=[.int .i64 1]) (rs:=[.agg #[.int .i64 c1,.string c2,.bool c3],.int .i64 er]) e ⟨.inl rfl,trivial⟩ ⟨.inr ⟨[.int .i64 c1,.string c2,.bool c3],rfl,rfl⟩,.inl rfl,trivial⟩ hU h).mono ?_
  rintro e w' ⟨rfl,ha,hk⟩
  exact⟨q,ha,hk,he,hq,(c1,Ea c2,c3),by unfold O4;simp only[H0];rfl⟩
 |ok x=>
  obtain⟨v,q⟩:=x;rw[hv] at hr;obtain⟨hq,rfl⟩:=hr;refine (Y8 (us:=[.int .i64 1]) (rs:=[O4 v,.int .i64 0]) e ⟨.inl rfl,trivial⟩ ⟨.inr ⟨[.int .i64 v.1,.string (Ab v.2.1),.bool v.2.2],rfl,rfl⟩,.inl rfl,trivial⟩ hU h).mono ?_
  rintro e w' ⟨rfl,ha,hk⟩
  exact⟨q,ha,hk,rfl,hq,rfl⟩
end
section
open Go.Proofs.Tryd (prog)
open Go.IntKind (wrap)
set_option maxRecDepth 1000000
open Go Go.RowKit Go.Lib
theorem Jt.keep {w w':World}{b o n:Nat}(h:Jt w b)(k:Ed w w' b o n):Jt w' b:=
 ⟨gU.stable w w' (fun j hj hl=>k.other j hl (h.bl j hj).2) h.ok,fun j hj=>⟨Nat.lt_of_lt_of_le (h.bl j hj).1 k.size,(h.bl j hj).2⟩⟩
theorem Xy.keep {w w':World}{b mb o n:Nat}{ms:List (List Int × JV)} (h:Xy w mb ms)(k:Ed w w' b o n)(Ek:mb≠b):Xy w' mb ms:=by
 have B6:mb<w.heap.size:=(Array.getElem?_eq_some_iff.1 h).1;exact (k.other mb B6 Ek).trans h
structure Dl (w w':World) (b mb:Nat):Prop where
 os:w'.os=w.os
 tape:w'.tape=w.tape
 output:w'.output=w.output
 size:w.heap.size<=w'.heap.size
 other:∀k,k<w.heap.size->k≠b->k≠mb->w'.heap[k]?=w.heap[k]?
theorem Dl.of {w w':World}{b mb o n:Nat}(k:Ed w w' b o n):Dl w w' b mb:=⟨k.os,k.tape,k.output,k.size,fun j hj hb _=>k.other j hj hb⟩
theorem Jt.below {w w':World}{b:Nat}(h:Jt w b)(k:Below w.heap.size w w'):Jt w' b:=
 ⟨gU.stable w w' (fun j _ hl=>k.block j hl) h.ok,fun j hj=>⟨Nat.lt_of_lt_of_le (h.bl j hj).1 k.size,(h.bl j hj).2⟩⟩
theorem Xy.below {w w':World}{mb:Nat}{ms:List (List Int × JV)} (h:Xy w mb ms)(k:Below w.heap.size w w'):Xy w' mb ms:=by
 have B6:mb<w.heap.size:=(Array.getElem?_eq_some_iff.1 h).1;exact (k.block mb B6).trans h
theorem Dl.trans {w w' w'':World}{b mb:Nat}(h:Dl w w' b mb)(k:Dl w' w'' b mb):Dl w w'' b mb:=
 ⟨k.os.trans h.os,k.tape.trans h.tape,k.output.trans h.output,Nat.le_trans h.size k.size,fun i hi h1 h2=>(k.other i (Nat.lt_of_lt_of_le hi h.size) h1 h2).trans (h.other i hi h1 h2)⟩
theorem PK:∀(n:Nat)(out l s q:List Int),Dp out->Dp l->Jn n out l=(some s,q)->Dp s
  |0,_,_,_,_,_,_,h=>by cases h
  |_+1,_,[],_,_,_,_,h=>by cases h
  |n+1,out,c::l,s,q,ho,hl,h=>by
    have e:Jn (n+1) out (c::l)=if c<32 then (none,c::l) else if c=34 then (some out,l) else if c=92 then
        (match L1 l with
         |(some x,r')=>Jn n (out++Lib.encodeRuneZ x) r'
         |(none,r')=>(none,r')) else Jn n (out++[c]) l:=rfl
    have Of:=Be hl
    rw[e] at h
    split at h
    · cases h
    split at h
    · cases h;exact ho
    split at h
    · have h2:=Ox (C8.self Of.2)
      rcases hq:L1 l with⟨o,r⟩
      rw[hq] at h2 h
      cases o with
      |none=>cases h
      |some x=>exact PK n _ r s q (Iq ho (fun y hy=>by have:=Lib.encodeRuneZ_byte x y hy;omega)) (by have:=h2.B;exact this) h
    · exact PK n _ l s q (Iq ho (fun y hy=>by simp at hy;omega)) Of.2 h
theorem QJ {l s q:List Int}(hl:Dp l)(h:Et l=(some s,q)):Dp s:=by
 cases l with
 |nil=>cases h
 |cons c l=>
  have e:Et (c::l)=if c=34 then Jn (l.length+1) [] l else (none,c::l):=rfl
  rw[e] at h;split at h
  ·exact PK _ _ _ _ _ (fun x hx=>by cases hx) (Be hl).2 h
  ·cases h
theorem Dl.below {w w':World}{b mb:Nat}(k:Below w.heap.size w w'):Dl w w' b mb:=⟨k.os,k.tape,k.output,k.size,fun i hi _ _=>k.block i hi⟩
theorem Adi {P:Program}{t k e:TypeId}(hu:P.underlying t=some (.map k e)) (mb:Nat)(w:World):(binOp .neq t (.map (some mb)) (.map none)).run P w=.ok (.bool true) w:=by
 have h:∀d,(Op.equalIn (d+1) t (.map (some mb)) (.map none)).run P w=.ok false w:=fun d=>by
  simp[Op.equalIn,run_underlying hu]
 simp only[binOp];simp[Op.equal,Op.maxDepth,h 9999]
theorem Aaf (nm:List Int)(ms:List (List Int × JV)):(ms.any fun m=>m.1==nm)=(Ju nm ms).isSome:=by
 unfold Ju
 induction ms with
 |nil=>rfl
 |cons m r ih=>
  by_cases h:m.1=nm
  ·rw[List.find?_cons_of_pos (by simp[h])]
   simp[h]
  ·rw[List.find?_cons_of_neg (by simp[h]),←ih]
   simp[h]
theorem Uw (V:List Int->JR (JV × List Int)) (kp:Bool)(l:List Int):Ta V kp l=match Aq [125] (Bf l) with|some r=>.ok ([],r)|none=>Ql V kp ((Bf l).length+1) [] (Bf l):=by
 unfold Ta;rw[Fl];cases Bf l with
 |nil=>rfl
 |cons y s=>
  by_cases hy:y=125
  ·subst hy;rfl
  ·simp only[Dr hy];split
   ·rename_i e;injection e with e1 _;exact absurd e1 hy
   ·rfl
theorem Zp {W:World}{mb b:Nat}{ob:Obj}(Ek:mb≠b):({ W with heap:=W.heap.setIfInBounds mb ob }:World).heap[b]?=W.heap[b]?:=Array.getElem?_setIfInBounds_ne Ek
theorem Sd.put {W:World}{b o mb:Nat}{t:ByteArray}{r:List Int}{ob:Obj}(h:Sd W b o t r)(Ek:mb≠b):Sd { W with heap:=W.heap.setIfInBounds mb ob } b o t r:=by
 have e:=Zp (W:=W) (ob:=ob) Ek;refine⟨by simpa using h.lt,(World.cell?_of_block e).trans h.c0,(World.cell?_of_block e).trans h.c1,?_,?_⟩
 ·have:=h.f0;unfold World.frozen? at this ⊢;simp only[e] at this ⊢;exact this
 ·have:=h.f1;unfold World.frozen? at this ⊢;simp only[e] at this ⊢;exact this
theorem Jt.put {W:World}{b mb:Nat}{ob:Obj}(h:Jt W b)(hmU:¬gU.bl mb):Jt { W with heap:=W.heap.setIfInBounds mb ob } b:=
 ⟨gU.stable W _ (fun j hj _=>Zp (fun e=>hmU (e ▸ hj))) h.ok,fun j hj=>⟨by simpa using (h.bl j hj).1,(h.bl j hj).2⟩⟩
theorem Dl.put {W:World}{b mb:Nat}{ob:Obj}:Dl W { W with heap:=W.heap.setIfInBounds mb ob } b mb:=
 ⟨rfl,rfl,rfl,by simp,fun k _ _ h=>Zp (fun e=>h e.symm)⟩
theorem Xy.put {W:World}{mb n:Nat}{ms ms':List (List Int × JV)} (h:Xy W mb ms)(hn:ms'.length=n):Xy { W with heap:=W.heap.setIfInBounds mb (.map (Hr 0 ms').toArray n) } mb ms':=by
 have B6:mb<W.heap.size:=(Array.getElem?_eq_some_iff.1 h).1;subst hn;exact Array.getElem?_setIfInBounds_self_of_lt B6
def RoP (w':World)(mb:Nat)(l r':List Int)(e:Ending):Prop:=
 match Aq [123] l with
 |some l'=>(match Ta (Fn 8) true l' with
  |.ok (ms,q)=>r'=q∧e=.returned (.int .i64 0)∧Xy w' mb ms
  |.error er=>er≠0∧e=.returned (.int .i64 er))
 |none=>e=.returned (.int .i64 2)
set_option maxHeartbeats 4000000 in
theorem Adh {t:ByteArray}{l:List Int}(hS:C8 t l)(ht:t.size<=1000000){w:World}{b o mb:Nat}(hU:Jt w b)(h:Sd w b o t l)(hM:Xy w mb []) (FI:mb≠b)(hmU:¬gU.bl mb):
  Calls prog 51 #[.pointer (some ⟨b,o,none⟩),.int .i64 1,.map (some mb)] w fun e w'=>Dl w w' b mb∧∃r',C8 t r'∧Sd w' b o t r' ∧
   RoP w' mb l r' e:=by
 have mixed:prog.follows Departure.mixedOrders=true:=by kernel_rfl
 have hac:=Gn hS ht (w0:=[123]) (fun x hx=>by simp at hx;omega) (by decide) h
 go_enter Tryd.func51,Tryd.ntmps51
 go_wp2_with (go_at_call 67;refine hac.mono ?_)
 rintro e W1 ⟨rfl,h1,k1⟩
 cases hq:Aq [123] l with
 |none=>
  rw[hq] at h1
  go_wp2
  go_ret
  exact⟨Dl.of k1,l,hS,h1,by unfold RoP;rw[hq];rfl⟩
 |some l'=>
  rw[hq] at h1;have WJ:=Ap hS hq;have hsk:=G8 WJ ht (hU.keep k1) h1
  go_wp2_with (go_at_call 50;refine hsk.mono ?_)
  rintro e W2 ⟨rfl,h2,k2⟩
  have Q6:=Bn WJ;have Avf:=Gn Q6 ht (w0:=[125]) (fun x hx=>by simp at hx;omega) (by decide) h2
  go_wp2_with (go_at_call 67;refine Avf.mono ?_)
  rintro e W3 ⟨rfl,h3,k3⟩
  cases Ia:Aq [125] (Bf l') with
  |some r3=>
   rw[Ia] at h3
   go_wp2
   go_ret
   refine⟨((Dl.of k1).trans (Dl.of k2)).trans (Dl.of k3),r3,Ap Q6 Ia,h3,?_⟩;unfold RoP;rw[hq];simp only;rw[Uw,Ia];exact⟨rfl,rfl,((hM.keep k1 FI).keep k2 FI).keep k3 FI⟩
  |none=>
   rw[Ia] at h3
   have hRo:∀w' r' e,(match Ql (Fn 8) true ((Bf l').length+1) [] (Bf l') with
     |.ok (ms,q)=>r'=q∧e=.returned (.int .i64 0)∧Xy w' mb ms
     |.error er=>er≠0∧e=.returned (.int .i64 er))->RoP w' mb l r' e:=by
    intro w' r' e h;unfold RoP;rw[hq];simp only;rw[Uw,Ia];exact h
   have hU3:=((hU.keep k1).keep k2).keep k3;have hM3:=((hM.keep k1 FI).keep k2 FI).keep k3 FI;have Jg:Dl w W3 b mb:=((Dl.of k1).trans (Dl.of k2)).trans (Dl.of k3)
   go_wp2
   go_loopw [] (fun wr=>∃(n:Nat) (ms:List (List Int × JV)) (x:List Int),Ql (Fn 8) true ((Bf l').length+1) [] (Bf l')=Ql (Fn 8) true n ms x∧x.length<n∧C8 t x∧Sd wr b o t x∧Xy wr mb ms∧(∀m∈ms,Dp m.1)∧Jt wr b∧Dl w wr b mb) (fun wr=>match wr.cell? ⟨b,o+1,none⟩ with|some (.int _ p)=>t.size-p.toNat|_=>0)
   case atStart=>
    exact⟨_,[],Bf l',rfl,Nat.lt_succ_self _,Q6,h3,hM3,(fun m hm=>by cases hm),hU3,Jg⟩
   case round=>
    obtain⟨n,ms,x,Fd,hn,hSx,hat,hMx,hBx,hUx,hkx⟩:=hrel;have XG:Calls prog 68 #[.pointer (some ⟨b,o,none⟩)] wr fun e w'=>e=.returned (.tuple #[.string (Ab ((Et x).1.getD [])),.bool (Et x).1.isSome])∧Sd w' b o t (Et x).2∧Ed wr w' b o 2:=KL hSx ht hat
    go_wp2_with (go_at_call 68;refine XG.mono ?_)
    rintro e W4 ⟨rfl,h4,k4⟩
    obtain⟨m,rfl⟩:∃m,n=m+1:=⟨n-1,by omega⟩
    rw[Y3 (Fn 8) true m ms x] at Fd;have Qd:Dl w W4 b mb:=hkx.trans (Dl.of k4);have Wu:=Gp hSx;rcases hx:Et x with⟨o4,q4⟩;rw[hx] at h4 Fd Wu;cases o4 with
    |none=>
     go_wp2
     go_ret
     exact⟨Qd,q4,Wu,h4,hRo _ _ _ (by rw[Fd];exact⟨by decide,rfl⟩)⟩
    |some nm=>
     have AX:=QJ hSx.B hx;have hM4:=hMx.keep k4 FI;have hlk:=Z2 hM4 hBx AX true;simp only[Bool.true_and,Aaf] at Fd;cases hl:Ju nm ms with
     |some v=>
      rw[hl] at hlk Fd;have hvm:JI nm ms=.agg #[.int .i64 v.1,.string (Ab v.2.1),.bool v.2.2]:=by unfold JI;rw[hl];rfl
      rw[hvm] at hlk
      go_wp2
      go_ret
      have Nf:=fun ob=>(Below.refl W4.heap.size W4).alloc (Nat.le_refl _) ob
      exact⟨Qd.trans (Dl.below (Nf _)),q4,Wu,h4.below (Nf _) h4.lt,hRo _ _ _ (by rw[Fd];exact⟨by decide,rfl⟩)⟩
     |none=>
      rw[hl] at hlk Fd;have hvm:JI nm ms=.agg #[.int .i64 0,.string ⟨#[]⟩,.bool false]:=by unfold JI;rw[hl];rfl
      rw[hvm] at hlk;have Nf:Below W4.heap.size W4 (W4.alloc (.cells #[.int .i64 0,.string ⟨#[]⟩,.bool false] 95)):=(Below.refl W4.heap.size W4).alloc (Nat.le_refl _) _;have h5:=h4.below Nf h4.lt;have hM5:=hM4.below Nf;have hU5:=(hUx.keep k4).below Nf;have NR:=Qd.trans (Dl.below (b:=b) (mb:=mb) Nf);have Am3:=G8 Wu ht hU5 h5
      go_wp2_with (go_at_call 50;refine Am3.mono ?_)
      rintro e W6 ⟨rfl,h6,k6⟩
      have Fy:=Bn Wu;have Ati:=Gn Fy ht (w0:=[58]) (fun x hx=>by simp at hx;omega) (by decide) h6
      go_wp2_with (go_at_call 67;refine Ati.mono ?_)
      rintro e W7 ⟨rfl,h7,k7⟩
      have hk7:=(NR.trans (Dl.of k6)).trans (Dl.of k7);cases hq7:Aq [58] (Bf q4) with
      |none=>
       rw[hq7] at h7
       go_wp2
       go_ret
       exact⟨hk7,Bf q4,Fy,h7,hRo _ _ _ (by rw[Fd];simp only[Option.isSome_none,Bool.false_eq_true,if_false,hq7];exact⟨by decide,rfl⟩)⟩
      |some r7=>
       rw[hq7] at h7;have hS7:=Ap Fy hq7;have hU7:=(hU5.keep k6).keep k7;have hM7:=(hM5.keep k6 FI).keep k7 FI;have A2p:=G8 hS7 ht hU7 h7
       go_wp2_with (go_at_call 50;refine A2p.mono ?_)
       rintro e W8 ⟨rfl,h8,k8⟩
       have hS8:=Bn hS7;have hvc:=TZ hS8 ht (hU7.keep k8) h8
       go_wp2_with (go_at_call 69;refine hvc.mono ?_)
       rintro e W9 ⟨r9,h9,k9,hv9⟩
       have hk9:=(hk7.trans (Dl.of k8)).trans (Dl.of k9)
       have VG:Ql (Fn 8) true ((Bf l').length+1) [] (Bf l')=match Fn 8 (Bf r7) with
         |.error e=>.error e
         |.ok (v,r2)=>match Aq [125] (Bf r2) with
          |some r3=>.ok (ms++[(nm,v)],r3)
          |none=>match Aq [44] (Bf r2) with
           |some r3=>Ql (Fn 8) true m (ms++[(nm,v)]) (Bf r3)
           |none=>.error 2:=by
        rw[Fd];simp only[Option.isSome_none,Bool.false_eq_true,if_false,hq7]
        all_goals (rcases Fn 8 (Bf r7) with e|⟨v,r2⟩;rfl;simp only;cases Aq [125] (Bf r2)<;>cases Aq [44] (Bf r2)<;>rfl)
       unfold Amp at hv9;cases hv:Fn 8 (Bf r7) with
       |error er=>
        rw[hv] at hv9 VG;obtain⟨he,hs9,u,rfl⟩:=hv9;unfold O4;have hbe:(er != (0:Int))=true:=by simp[he]
        go_wp2
        go_ret
        have ND:=fun ob=>(Below.refl W9.heap.size W9).alloc (Nat.le_refl _) ob
        exact⟨hk9.trans (Dl.below (ND _)),r9,hs9,h9.below (ND _) h9.lt,hRo _ _ _ (by rw[VG];exact⟨he,rfl⟩)⟩
       |ok x9=>
        obtain⟨v9,q9⟩:=x9;rw[hv] at hv9 VG;obtain⟨rfl,hq9,rfl⟩:=hv9;unfold O4;have ND:Below W9.heap.size W9 (W9.alloc (.cells #[.int .i64 v9.1,.string (Ab v9.2.1),.bool v9.2.2] 95)):=(Below.refl W9.heap.size W9).alloc (Nat.le_refl _) _;have h10:=h9.below ND h9.lt;have Ap1:=((hM7.keep k8 FI).keep k9 FI).below ND;have Avn:=((hU7.keep k8).keep k9).below ND;have Ayq:=hk9.trans (Dl.below (b:=b) (mb:=mb) ND);have hup:=NQ Ap1 hBx AX hl v9;unfold O4 at hup;have Ek:=Adi Tryd.underlying68 mb;have hS9:=hS8.trans hq9;have h11:=h10.put (mb:=mb) (ob:=.map (Hr 0 (ms++[(nm,v9)])).toArray (ms.length+1)) FI;have Aoo:=Avn.put (ob:=.map (Hr 0 (ms++[(nm,v9)])).toArray (ms.length+1)) hmU;have hln:(ms++[(nm,v9)]).length=ms.length+1:=by simp
        rw[hln] at hup;have Arp:=Ap1.put (ms':=ms++[(nm,v9)]) hln;have Au1:=Ayq.trans (Dl.put (b:=b) (ob:=.map (Hr 0 (ms++[(nm,v9)])).toArray (ms.length+1)));have Arc:=G8 hS9 ht Aoo h11
        go_wp2_with (go_at_call 50;refine Arc.mono ?_)
        rintro e W12 ⟨rfl,h12,k12⟩
        have Abo:=Bn hS9;have Aph:=Gn Abo ht (w0:=[125]) (fun x hx=>by simp at hx;omega) (by decide) h12
        go_wp2_with (go_at_call 67;refine Aph.mono ?_)
        rintro e W13 ⟨rfl,h13,k13⟩
        have Aos:=(Au1.trans (Dl.of k12)).trans (Dl.of k13);cases VD:Aq [125] (Bf r9) with
        |some r13=>
         rw[VD] at h13
         go_wp2
         go_ret
         exact⟨Aos,r13,Ap Abo VD,h13,hRo _ _ _ (by rw[VG];simp only;rw[VD];exact⟨rfl,rfl,(Arp.keep k12 FI).keep k13 FI⟩)⟩
        |none=>
         rw[VD] at h13;have Ark:=Gn Abo ht (w0:=[44]) (fun x hx=>by simp at hx;omega) (by decide) h13
         go_wp2_with (go_at_call 67;refine Ark.mono ?_)
         rintro e W14 ⟨rfl,h14,k14⟩
         have Apz:=Aos.trans (Dl.of k14);cases TO:Aq [44] (Bf r9) with
         |none=>
          rw[TO] at h14
          go_wp2
          go_ret
          exact⟨Apz,Bf r9,Abo,h14,hRo _ _ _ (by rw[VG];simp only;rw[VD];simp only;rw[TO];exact⟨by decide,rfl⟩)⟩
         |some r14=>
          rw[TO] at h14;have Asc:=Ap Abo TO;have Aq1:=((Aoo.keep k12).keep k13).keep k14;have A15:=((Arp.keep k12 FI).keep k13 FI).keep k14 FI;have Ap8:=G8 Asc ht Aq1 h14
          go_wp2_with (go_at_call 50;refine Ap8.mono ?_)
          rintro e W15 ⟨rfl,h15,k15⟩
          have Ayu:=Bn Asc
          have hlr:(Bf r14).length+1<=x.length:=by
           have GW:=Gp (C8.self hSx.B);rw[hx] at GW;have g1:=(Bn (Ap (Bn GW) hq7));have g2:=((Bn (g1.trans hq9))).le;have g3:=O5 r14;have g4:=LB TO;omega
          have hxl:=hSx.len
          go_wp2
          refine⟨⟨m,ms++[(nm,v9)],Bf r14,by rw[VG];simp only[VD,TO],by omega,Ayu,h15,A15.keep k15 FI,fun y hy=>?_,Aq1.keep k15,Apz.trans (Dl.of k15)⟩,?_⟩
          ·rcases List.mem_append.1 hy with hy|hy
           ·exact hBx y hy
           ·simp at hy;subst hy;exact AX
          ·have FF:Bp t x<Bp t (Bf r14):=by unfold Bp;omega
           have hp4:Bp t (Bf r14)<=t.size:=Nat.sub_le _ _;simp only[h15.c1,hat.c1,N4];omega
end
section
open Go.IntKind (wrap)
def Ba (c:Int):List Int->List (List Int)
 |[]=>[[]]
 |x::r=>if x=c then []::Ba c r else match Ba c r with
  |h::t=>(x::h)::t
  |[]=>[[x]]
theorem Qb (c:Int)(l:List Int):Ba c l≠[]:=by
 cases l with
 |nil=>simp[Ba]
 |cons x r=>
  unfold Ba;split
  ·simp
  ·cases Ba c r<;>simp
def B7 (c:Int)(l:List Int):List Int:=l.takeWhile (fun x=>x != c)
theorem V2 (c:Int):∀(l:List Int),Ba c l=if (B7 c l).length<l.length then B7 c l::Ba c (l.drop ((B7 c l).length+1)) else [l]
 |[]=>rfl
 |x::r=>by
  by_cases h:x=c
  ·subst h;have e:B7 x (x::r)=[]:=by unfold B7;rw[List.takeWhile_cons_of_neg (by simp)]
   have e2:Ba x (x::r)=[]::Ba x r:=by
    show (if x=x then []::Ba x r else _)=_
    rw[Ev rfl]
   rw[e,Ev (by simp),e2]
   rfl
  ·have e:B7 c (x::r)=x::B7 c r:=by unfold B7;rw[List.takeWhile_cons_of_pos (by simp[h])]
   have e2:Ba c (x::r)=match Ba c r with|a::t=>(x::a)::t|[]=>[[x]]:=by
    show (if x=c then []::Ba c r else _)=_
    rw[Dr h]
   rw[e,e2,V2 c r];by_cases g:(B7 c r).length<r.length
   ·rw[Ev g,Ev (by simp;omega)]
    rfl
   ·rw[Dr g,Dr (by simp;omega)]
def GU (x:Int):Bool:=decide (48<=x)&&decide (x<=57)
def ltB (x:Int):Bool:=(decide (97<=x)&&decide (x<=122))||GU x
def Uj (l:List Int):Bool:=decide (1<=l.length)&&decide (l.length<=63) && !(l.head?==some 45) && !(l.getLast?==some 45)&&l.all (fun x=>ltB x||x==45)
def Yt (l:List Int):Int:=
 if 100<l.length then 8 else if (Ba 46 l).all Uj=false then 2 else if ((Ba 46 l).getLastD []).all GU=true then 2 else 0
def LV (l:List Int):Int:=l.foldl (fun n x=>10*n+(x-48)) 0
def Oq (l:List Int):Bool:=decide (1<=l.length)&&decide (l.length<=5) && !(l.head?==some 48)&&l.all GU
def dfl (s:Bool):Int:=if s=true then 443 else 80
def RZ (s:Bool)(r:List Int):Int:=
 let nm:=B7 58 r
 if Yt nm≠0 then Yt nm else if nm.length=r.length then 0 else
  if Oq (r.drop (nm.length+1))=true∧LV (r.drop (nm.length+1))<=65535∧LV (r.drop (nm.length+1))≠dfl s then 0 else 2
def Ga (l:List Int):Int:=
 if [104,116,116,112,115,58,47,47].isPrefixOf l=true then RZ true (l.drop 8)
 else if [104,116,116,112,58,47,47].isPrefixOf l=true then RZ false (l.drop 7) else 2
end
section
open Go.Proofs.Tryd (prog)
open Go.IntKind (wrap)
set_option maxRecDepth 100000
abbrev Mf:FuncId:=62
theorem Mb {p:Option (List PV->Option Ay)} (fu d:Nat)(a0 a1:ByteArray):Ae (CP p) prog fu (d+1) Mf [.sc (.string a0),.sc (.string a1)]=(fun (call:Ax)=>Ai (call 77 [.sc (.string a0),.sc (.string a1)]) fun x1 x2=>Ad x2<|Aa x1 fun x3 x4=>Am x3 fun x5=>Ad x4<|Bh (!x5) (some (Ay.mk [.sc (.string a0),.sc (.bool false)] [])) (Bj (decide (Int.toNat (↑(ByteArray.size a1):Int)<=ByteArray.size a0)&&decide (ByteArray.size a0<=ByteArray.size a0))<|Ac (ByteArray.extract a0 (Int.toNat (↑(ByteArray.size a1):Int)) (ByteArray.size a0)) fun x6=>some (Ay.mk [.sc (.string x6),.sc (.bool true)] []))) (Ae (CP p) prog fu d):=by kernel_rfl
abbrev Jq:FuncId:=44
theorem Qr {p:Option (List PV->Option Ay)} (fu d:Nat)(a0 a1:ByteArray):Ae (CP p) prog fu (d+1) Jq [.sc (.string a0),.sc (.string a1)]=(fun (call:Ax)=>Ai (call 62 [.sc (.string a0),.sc (.string a1)]) fun x1 x2=>Ad x2<|Aa x1 fun x3 x4=>A0 x3 fun x5=>Aa x4 fun x6 x7=>Am x6 fun x8=>Ad x7<|some (Ay.mk [.sc (.string x5),.sc (.bool x8)] [])) (Ae (CP p) prog fu d):=by kernel_rfl
abbrev Ss:FuncId:=63
theorem S5 {p:Option (List PV->Option Ay)} (fu d:Nat)(a0 a1:ByteArray):Ae (CP p) prog fu (d+1) Ss [.sc (.string a0),.sc (.string a1)]=(fun (call:Ax)=>Ai (call 78 [.sc (.string a0),.sc (.string a1)]) fun x1 x2=>Ad x2<|Aa x1 fun x3 x4=>Aw .i64 x3 fun x5=>Ad x4<|Bh (decide (x5>=0)) (Bj (decide (0<=x5))<|Bj (decide (Int.toNat x5<=ByteArray.size a0))<|Ac (ByteArray.extract a0 0 x5.toNat) fun x6=>Ac (wrap .i64 (x5+(↑(ByteArray.size a1):Int))) fun x7=>Bj (decide (0<=x7))<|Bj (decide (Int.toNat x7<=ByteArray.size a0)&&decide (ByteArray.size a0<=ByteArray.size a0))<|Ac (ByteArray.extract a0 x7.toNat (ByteArray.size a0)) fun x8=>some (Ay.mk [.sc (.string x6),.sc (.string x8),.sc (.bool true)] [])) (some (Ay.mk [.sc (.string a0),.sc (.string (ByteArray.mk #[])),.sc (.bool false)] []))) (Ae (CP p) prog fu d):=by kernel_rfl
abbrev Q1:FuncId:=45
theorem AW {p:Option (List PV->Option Ay)} (fu d:Nat)(a0 a1:ByteArray):Ae (CP p) prog fu (d+1) Q1 [.sc (.string a0),.sc (.string a1)]=(fun (call:Ax)=>Ai (call 63 [.sc (.string a0),.sc (.string a1)]) fun x1 x2=>Ad x2<|Aa x1 fun x3 x4=>A0 x3 fun x5=>Aa x4 fun x6 x7=>A0 x6 fun x8=>Aa x7 fun x9 F6=>Am x9 fun L6=>Ad F6<|some (Ay.mk [.sc (.string x5),.sc (.string x8),.sc (.bool L6)] [])) (Ae (CP p) prog fu d):=by kernel_rfl
abbrev N1:FuncId:=100
theorem V5 {p:Option (List PV->Option Ay)} (fu d:Nat)(a0 a1:ByteArray):Ae (CP p) prog fu (d+1) N1 [.sc (.string a0),.sc (.string a1)]=(fun (call:Ax)=>Ai (call 78 [.sc (.string a0),.sc (.string a1)]) fun x1 x2=>Ad x2<|Aa x1 fun x3 x4=>Aw .i64 x3 fun x5=>Ad x4<|some (Ay.mk [.sc (.int .i64 x5)] [])) (Ae (CP p) prog fu d):=by kernel_rfl
abbrev Jx:FuncId:=78
theorem Qo {p:Option (List PV->Option Ay)} (fu d:Nat)(a0 a1:ByteArray):Ae (CP p) prog fu (d+1) Jx [.sc (.string a0),.sc (.string a1)]=(fun (call:Ax)=>Bh ((↑(ByteArray.size a1):Int)==0) (some (Ay.mk [.sc (.int .i64 0)] [])) (Bh (Array.toList (ByteArray.data a1)==Array.toList (ByteArray.data a0)) (some (Ay.mk [.sc (.int .i64 0)] [])) (Bh ((↑(ByteArray.size a1):Int)==1) (Dh ((Array.toList (ByteArray.data a1))[0]?) fun x1=>Ai (call 40 [.sc (.string a0),.sc (.int .u8 (↑(UInt8.toNat x1):Int))]) fun x2 x3=>Ad x3<|Aa x2 fun x4 x5=>Aw .i64 x4 fun x6=>Ad x5<|some (Ay.mk [.sc (.int .i64 x6)] [])) (Bh (decide ((↑(ByteArray.size a1):Int)>=(↑(ByteArray.size a0):Int))) (some (Ay.mk [.sc (.int .i64 (-1))] [])) (none))))) (Ae (CP p) prog fu d):=by kernel_rfl
abbrev Ri:FuncId:=79
noncomputable def D9 (fu:Nat)(call:Ax)(a0 a1:ByteArray)(a2 a3:Int)(nn:Nat)(y0 y1:ByteArray)(y2 y3:Int)(y4:Nat)(y5:Int)(y6:List PV):Option Ay:=I3 CB prog fu call 79 Tryd.f79 (Gb Tryd.f79) [.sc (.string a0),.sc (.string a1),.sc (.int .i64 a2),.sc (.int .i64 a3)] [.r,.r,.r,.r,.r,.r,.r,.r,.l,.l] nn ⟨lk [(0,(.sc (.string y0))),(1,(.sc (.string y1))),(2,(.sc (.int .i64 y2))),(3,(.sc (.int .i64 y3))),(9,(.view 9 1 0 y4)),(10,(.sc (.int .i64 y5)))],Jz [(9,(.ar false y6))]⟩
theorem N9 (fu:Nat)(call:Ax)(a0 a1:ByteArray)(a2 a3:Int)(nn:Nat)(y0 y1:ByteArray)(y2 y3:Int)(y4:Nat)(y5:Int)(y6:List PV):D9 fu call a0 a1 a2 a3 (nn+1) y0 y1 y2 y3 y4 y5 y6=(Bh (decide (y5<y3)) (Ai (call 100 [.sc (.string y0),.sc (.string y1)]) fun Nz N8=>Ad N8<|Aa Nz fun Oc P8=>Aw .i64 Oc fun M4=>Ad P8<|Bh (decide (M4<0)) (Bj (decide (0<=y5)&&decide (y5<(↑y4:Int)))<|Bj (decide (0+Int.toNat y5*1+1<=y6.length))<|Ac (Cs y6 [.sc (.string y0)] (0+Int.toNat y5*1)) fun Qi=>Ac (wrap .i64 (y5+1)) fun M3=>Bj (decide (0<=M3))<|Bj (decide (Int.toNat M3<=y4))<|Ac (Int.toNat M3-0) fun M8=>Bj (decide (M8*1<=Qi.length))<|some (Ay.mk [.own 1 M8 (List.take (M8*1) Qi)] [])) (Ac (wrap .i64 (M4+y2)) fun Qe=>Bj (decide (0<=Qe))<|Bj (decide (Int.toNat Qe<=ByteArray.size y0))<|Ac (ByteArray.extract y0 0 Qe.toNat) fun Rm=>Bj (decide (0<=y5)&&decide (y5<(↑y4:Int)))<|Bj (decide (0+Int.toNat y5*1+1<=y6.length))<|Ac (Cs y6 [.sc (.string Rm)] (0+Int.toNat y5*1)) fun Ov=>Ac (wrap .i64 (M4+(↑(ByteArray.size y1):Int))) fun Q4=>Bj (decide (0<=Q4))<|Bj (decide (Int.toNat Q4<=ByteArray.size y0)&&decide (ByteArray.size y0<=ByteArray.size y0))<|Ac (ByteArray.extract y0 Q4.toNat (ByteArray.size y0)) fun R1=>Ac (wrap .i64 (y5+1)) fun Tc=>D9 fu call a0 a1 a2 a3 (nn) R1 (y1) (y2) (y3) (y4) Tc Ov)) (Bj (decide (0<=y5)&&decide (y5<(↑y4:Int)))<|Bj (decide (0+Int.toNat y5*1+1<=y6.length))<|Ac (Cs y6 [.sc (.string y0)] (0+Int.toNat y5*1)) fun Ul=>Ac (wrap .i64 (y5+1)) fun Uc=>Bj (decide (0<=Uc))<|Bj (decide (Int.toNat Uc<=y4))<|Ac (Int.toNat Uc-0) fun Us=>Bj (decide (Us*1<=Ul.length))<|some (Ay.mk [.own 1 Us (List.take (Us*1) Ul)] []))):=by kernel_rfl
theorem Rv {p:Option (List PV->Option Ay)} (fu d:Nat)(a0 a1:ByteArray)(a2 a3:Int):Ae (CP p) prog fu (d+1) Ri [.sc (.string a0),.sc (.string a1),.sc (.int .i64 a2),.sc (.int .i64 a3)]=(fun (call:Ax)=>Bh (a3==0) (some (Ay.mk [.own 1 0 []] [])) (Bh (Array.toList (ByteArray.data a1)==Array.toList (ByteArray.data (ByteArray.mk #[]))) (Ai (call 98 [.sc (.string a0),.sc (.int .i64 a3)]) fun x1 x2=>Ad x2<|Aa x1 fun x3 x4=>HR 1 x3 fun x5 x6=>Ad x4<|Bj (decide (x5*1<=x6.length))<|some (Ay.mk [.own 1 x5 (List.take (x5*1) x6)] [])) (Bh (decide (a3<0)) (Ai (call 99 [.sc (.string a0),.sc (.string a1)]) fun x7 x8=>Ad x8<|Aa x7 fun x9 F6=>Aw .i64 x9 fun L6=>Ad F6<|Ac (wrap .i64 (L6+1)) fun N0=>Ac (wrap .i64 ((↑(ByteArray.size a0):Int)+1)) fun F0=>Ac (if F0<N0 then F0 else N0) fun Kb=>Bj (decide (0<=Kb)&&decide (Kb<=Kb)&&decide (Kb*16<=1099511627776)&&decide (Kb<=1099511627776))<|Ac (wrap .i64 (Kb-1)) fun Ni=>D9 fu call a0 a1 a2 a3 (fu) (a0) (a1) (a2) Ni Kb.toNat 0 (Np Kb.toNat [.sc (.string (ByteArray.mk #[]))])) (Ac (wrap .i64 ((↑(ByteArray.size a0):Int)+1)) fun Lp=>Ac (if Lp<a3 then Lp else a3) fun K0=>Bj (decide (0<=K0)&&decide (K0<=K0)&&decide (K0*16<=1099511627776)&&decide (K0<=1099511627776))<|Ac (wrap .i64 (K0-1)) fun N3=>D9 fu call a0 a1 a2 a3 (fu) (a0) (a1) (a2) N3 K0.toNat 0 (Np K0.toNat [.sc (.string (ByteArray.mk #[]))]))))) (Ae (CP p) prog fu d):=by kernel_rfl
abbrev N2:FuncId:=64
theorem Wh {p:Option (List PV->Option Ay)} (fu d:Nat)(a0 a1:ByteArray):Ae (CP p) prog fu (d+1) N2 [.sc (.string a0),.sc (.string a1)]=(fun (call:Ax)=>Ai (call 79 [.sc (.string a0),.sc (.string a1),.sc (.int .i64 0),.sc (.int .i64 (-1))]) fun x1 x2=>Ad x2<|Aa x1 fun x3 x4=>HR 1 x3 fun x5 x6=>Ad x4<|Bj (decide (x5*1<=x6.length))<|some (Ay.mk [.own 1 x5 (List.take (x5*1) x6)] [])) (Ae (CP p) prog fu d):=by kernel_rfl
abbrev Lq:FuncId:=65
noncomputable def A9 (fu:Nat)(call:Ax)(a0:ByteArray)(nn:Nat)(y0:ByteArray)(y1 y2:Int):Option Ay:=I3 CB prog fu call 65 Tryd.f65 (Gb Tryd.f65) [.sc (.string a0)] [.r,.r,.l,.r,.l] nn ⟨lk [(0,(.sc (.string y0))),(16,(.sc (.int .i64 y1))),(17,(.sc (.int .i64 y2)))],Jz []⟩
theorem I2 (fu:Nat)(call:Ax)(a0:ByteArray)(nn:Nat)(y0:ByteArray)(y1 y2:Int):A9 fu call a0 (nn+1) y0 y1 y2=(Bh (decide (y2<y1)) (Bj (decide (0<=y2))<|Dh ((Array.toList (ByteArray.data y0))[Int.toNat y2]?) fun x1=>Bh (decide (97<=(↑(UInt8.toNat x1):Int))) (Bh (decide ((↑(UInt8.toNat x1):Int)<=122)) (Bh ((↑(UInt8.toNat x1):Int)==45) (Bh (decide (y2>0)) (Ac (wrap .i64 ((↑(ByteArray.size y0):Int)-1)) fun x2=>Ac (wrap .i64 (y2+1)) fun x3=>A9 fu call a0 (nn) (y0) (y1) x3) (Ac (wrap .i64 (y2+1)) fun x4=>A9 fu call a0 (nn) (y0) (y1) x4)) (Ac (wrap .i64 (y2+1)) fun x5=>A9 fu call a0 (nn) (y0) (y1) x5)) (Bh (decide (48<=(↑(UInt8.toNat x1):Int))) (Bh ((↑(UInt8.toNat x1):Int)==45) (Bh (decide (y2>0)) (Ac (wrap .i64 ((↑(ByteArray.size y0):Int)-1)) fun x6=>Bh (!decide ((↑(UInt8.toNat x1):Int)<=57)) (Bh (!decide (y2<x6)) (some (Ay.mk [.sc (.bool false)] [])) (Ac (wrap .i64 (y2+1)) fun x7=>A9 fu call a0 (nn) (y0) (y1) x7)) (Ac (wrap .i64 (y2+1)) fun x8=>A9 fu call a0 (nn) (y0) (y1) x8)) (Bh (!decide ((↑(UInt8.toNat x1):Int)<=57)) (some (Ay.mk [.sc (.bool false)] [])) (Ac (wrap .i64 (y2+1)) fun x9=>A9 fu call a0 (nn) (y0) (y1) x9))) (Bh (!decide ((↑(UInt8.toNat x1):Int)<=57)) (some (Ay.mk [.sc (.bool false)] [])) (Ac (wrap .i64 (y2+1)) fun F6=>A9 fu call a0 (nn) (y0) (y1) F6))) (Bh ((↑(UInt8.toNat x1):Int)==45) (Bh (decide (y2>0)) (Ac (wrap .i64 ((↑(ByteArray.size y0):Int)-1)) fun L6=>Bh (!decide (y2<L6)) (some (Ay.mk [.sc (.bool false)] [])) (Ac (wrap .i64 (y2+1)) fun N0=>A9 fu call a0 (nn) (y0) (y1) N0)) (some (Ay.mk [.sc (.bool false)] []))) (some (Ay.mk [.sc (.bool false)] []))))) (Bh (decide (48<=(↑(UInt8.toNat x1):Int))) (Bh ((↑(UInt8.toNat x1):Int)==45) (Bh (decide (y2>0)) (Ac (wrap .i64 ((↑(ByteArray.size y0):Int)-1)) fun F0=>Bh (!decide ((↑(UInt8.toNat x1):Int)<=57)) (Bh (!decide (y2<F0)) (some (Ay.mk [.sc (.bool false)] [])) (Ac (wrap .i64 (y2+1)) fun Kb=>A9 fu call a0 (nn) (y0) (y1) Kb)) (Ac (wrap .i64 (y2+1)) fun Ni=>A9 fu call a0 (nn) (y0) (y1) Ni)) (Bh (!decide ((↑(UInt8.toNat x1):Int)<=57)) (some (Ay.mk [.sc (.bool false)] [])) (Ac (wrap .i64 (y2+1)) fun Lp=>A9 fu call a0 (nn) (y0) (y1) Lp))) (Bh (!decide ((↑(UInt8.toNat x1):Int)<=57)) (some (Ay.mk [.sc (.bool false)] [])) (Ac (wrap .i64 (y2+1)) fun K0=>A9 fu call a0 (nn) (y0) (y1) K0))) (Bh ((↑(UInt8.toNat x1):Int)==45) (Bh (decide (y2>0)) (Ac (wrap .i64 ((↑(ByteArray.size y0):Int)-1)) fun N3=>Bh (!decide (y2<N3)) (some (Ay.mk [.sc (.bool false)] [])) (Ac (wrap .i64 (y2+1)) fun Nz=>A9 fu call a0 (nn) (y0) (y1) Nz)) (some (Ay.mk [.sc (.bool false)] []))) (some (Ay.mk [.sc (.bool false)] []))))) (some (Ay.mk [.sc (.bool true)] []))):=by kernel_rfl
theorem So {p:Option (List PV->Option Ay)} (fu d:Nat)(a0:ByteArray):Ae (CP p) prog fu (d+1) Lq [.sc (.string a0)]=(fun (call:Ax)=>Bh (decide ((↑(ByteArray.size a0):Int)<1)) (some (Ay.mk [.sc (.bool false)] [])) (Bh (decide ((↑(ByteArray.size a0):Int)>63)) (some (Ay.mk [.sc (.bool false)] [])) (A9 fu call a0 (fu) (a0) ((↑(ByteArray.size a0):Int)) 0))) (Ae (CP p) prog fu d):=by kernel_rfl
abbrev N6:FuncId:=46
noncomputable def Gq (fu:Nat)(call:Ax)(a0:ByteArray)(nn y0 y1:Nat)(y2 y3:Int)(y4:List PV):Option Ay:=I3 CB prog fu call 46 Tryd.f46 (Gb Tryd.f46) [.sc (.string a0)] [.r,.r,.r,.l,.r,.l] nn ⟨lk [(3,(.view 3 1 0 y0)),(11,(.view 3 1 0 y1)),(12,(.sc (.int .i64 y2))),(13,(.sc (.int .i64 y3)))],Jz [(3,(.ar false y4))]⟩
theorem K6 (fu:Nat)(call:Ax)(a0:ByteArray)(nn y0 y1:Nat)(y2 y3:Int)(y4:List PV):Gq fu call a0 (nn+1) y0 y1 y2 y3 y4=(Bh (decide (y3<y2)) (Bj (decide (0<=y3)&&decide (y3<(↑y1:Int)))<|A0 (List.getD y4 (0+Int.toNat y3*1) .top) fun x7=>Ai (call 65 [.sc (.string x7)]) fun x8 x9=>Ad x9<|Aa x8 fun F6 L6=>Am F6 fun N0=>Ad L6<|Bh (!N0) (some (Ay.mk [.sc (.int .i64 2)] [])) (Ac (wrap .i64 (y3+1)) fun F0=>Gq fu call a0 (nn) (y0) (y1) (y2) F0 (y4))) (Ac (wrap .i64 ((↑y0:Int)-1)) fun Kb=>Bj (decide (0<=Kb)&&decide (Kb<(↑y0:Int)))<|A0 (List.getD y4 (0+Int.toNat Kb*1) .top) fun Ni=>Ai (call 66 [.sc (.string Ni),.sc (.string (ByteArray.mk #[48,49,50,51,52,53,54,55,56,57]))]) fun Lp K0=>Ad K0<|Aa Lp fun N3 Nz=>A0 N3 fun N8=>Ad Nz<|Bh (Array.toList (ByteArray.data N8)==Array.toList (ByteArray.data (ByteArray.mk #[]))) (some (Ay.mk [.sc (.int .i64 2)] [])) (some (Ay.mk [.sc (.int .i64 0)] [])))):=by kernel_rfl
theorem Wn {p:Option (List PV->Option Ay)} (fu d:Nat)(a0:ByteArray):Ae (CP p) prog fu (d+1) N6 [.sc (.string a0)]=(fun (call:Ax)=>Bh (decide ((↑(ByteArray.size a0):Int)>100)) (some (Ay.mk [.sc (.int .i64 8)] [])) (Ai (call 64 [.sc (.string a0),.sc (.string (ByteArray.mk #[46]))]) fun x1 x2=>Ad x2<|Aa x1 fun x3 x4=>HR 1 x3 fun x5 x6=>Ad x4<|Gq fu call a0 (fu) x5 x5 ((↑x5:Int)) 0 x6)) (Ae (CP p) prog fu d):=by kernel_rfl
abbrev I0:FuncId:=47
theorem Pd {p:Option (List PV->Option Ay)} (fu d:Nat)(a0:Bool):Ae (CP p) prog fu (d+1) I0 [.sc (.bool a0)]=(fun (call:Ax)=>Bh (a0) (some (Ay.mk [.sc (.int .i64 443)] [])) (some (Ay.mk [.sc (.int .i64 80)] []))) (Ae (CP p) prog fu d):=by kernel_rfl
abbrev Kh:FuncId:=48
noncomputable def E3 (fu:Nat)(call:Ax)(a0:ByteArray)(nn:Nat)(y0:ByteArray)(y1 y2 y3:Int):Option Ay:=I3 CB prog fu call 48 Tryd.f48 (Gb Tryd.f48) [.sc (.string a0)] [.r,.r,.r,.l,.r,.l] nn ⟨lk [(0,(.sc (.string y0))),(4,(.sc (.int .i64 y1))),(21,(.sc (.int .i64 y2))),(22,(.sc (.int .i64 y3)))],Jz []⟩
theorem H9 (fu:Nat)(call:Ax)(a0:ByteArray)(nn:Nat)(y0:ByteArray)(y1 y2 y3:Int):E3 fu call a0 (nn+1) y0 y1 y2 y3=(Bh (decide (y3<y2)) (Bj (decide (0<=y3))<|Dh ((Array.toList (ByteArray.data y0))[Int.toNat y3]?) fun x2=>Bh (decide ((↑(UInt8.toNat x2):Int)<48)) (some (Ay.mk [.sc (.int .i64 0),.sc (.bool false)] [])) (Bh (decide ((↑(UInt8.toNat x2):Int)>57)) (some (Ay.mk [.sc (.int .i64 0),.sc (.bool false)] [])) (Ac (wrap .i64 (10*y1)) fun x3=>Ac (wrap .u8 ((↑(UInt8.toNat x2):Int)-48)) fun x4=>Ac (wrap .i64 x4) fun x5=>Ac (wrap .i64 (x3+x5)) fun x6=>Ac (wrap .i64 (y3+1)) fun x7=>E3 fu call a0 (nn) (y0) x6 (y2) x7))) (some (Ay.mk [.sc (.int .i64 y1),.sc (.bool (decide (y1<=65535)))] []))):=by kernel_rfl
theorem Ro {p:Option (List PV->Option Ay)} (fu d:Nat)(a0:ByteArray):Ae (CP p) prog fu (d+1) Kh [.sc (.string a0)]=(fun (call:Ax)=>Bh (decide ((↑(ByteArray.size a0):Int)<1)) (some (Ay.mk [.sc (.int .i64 0),.sc (.bool false)] [])) (Bh (decide ((↑(ByteArray.size a0):Int)>5)) (some (Ay.mk [.sc (.int .i64 0),.sc (.bool false)] [])) (Dh ((Array.toList (ByteArray.data a0))[0]?) fun x1=>Bh ((↑(UInt8.toNat x1):Int)==48) (some (Ay.mk [.sc (.int .i64 0),.sc (.bool false)] [])) (E3 fu call a0 (fu) (a0) 0 ((↑(ByteArray.size a0):Int)) 0)))) (Ae (CP p) prog fu d):=by kernel_rfl
abbrev O9:FuncId:=32
theorem Yq {p:Option (List PV->Option Ay)} (fu d:Nat)(a0:ByteArray):Ae (CP p) prog fu (d+1) O9 [.sc (.string a0)]=(fun (call:Ax)=>Ai (call 44 [.sc (.string a0),.sc (.string (ByteArray.mk #[104,116,116,112,115,58,47,47]))]) fun x1 x2=>Ad x2<|Aa x1 fun x3 x4=>A0 x3 fun x5=>Aa x4 fun x6 x7=>Am x6 fun x8=>Ad x7<|Bh (!x8) (Ai (call 44 [.sc (.string a0),.sc (.string (ByteArray.mk #[104,116,116,112,58,47,47]))]) fun x9 F6=>Ad F6<|Aa x9 fun L6 N0=>A0 L6 fun F0=>Aa N0 fun Kb Ni=>Am Kb fun Lp=>Ad Ni<|Bh (!Lp) (some (Ay.mk [.agg [.sc (.bool false),.sc (.string (ByteArray.mk #[])),.sc (.int .i64 0)],.sc (.int .i64 2)] [])) (Ai (call 45 [.sc (.string F0),.sc (.string (ByteArray.mk #[58]))]) fun K0 N3=>Ad N3<|Aa K0 fun Nz N8=>A0 Nz fun Oc=>Aa N8 fun P8 M4=>A0 P8 fun Qi=>Aa M4 fun M3 M8=>Am M3 fun Qe=>Ad M8<|Ai (call 46 [.sc (.string Oc)]) fun Rm Ov=>Ad Ov<|Aa Rm fun Q4 R1=>Aw .i64 Q4 fun Tc=>Ad R1<|Bh (Tc != 0) (some (Ay.mk [.agg [.sc (.bool false),.sc (.string (ByteArray.mk #[])),.sc (.int .i64 0)],.sc (.int .i64 Tc)] [])) (Ai (call 47 [.sc (.bool x8)]) fun Ul Uc=>Ad Uc<|Aa Ul fun Us V1=>Aw .i64 Us fun Wy=>Ad V1<|Bh Qe (Ai (call 48 [.sc (.string Qi)]) fun Y7 Rt=>Ad Rt<|Aa Y7 fun CU DA=>Aw .i64 CU fun Rn=>Aa DA fun O3 AM=>Am O3 fun AB=>Ad AM<|Bh (!AB) (some (Ay.mk [.agg [.sc (.bool false),.sc (.string (ByteArray.mk #[])),.sc (.int .i64 0)],.sc (.int .i64 2)] [])) (Bh (Rn==Wy) (some (Ay.mk [.agg [.sc (.bool false),.sc (.string (ByteArray.mk #[])),.sc (.int .i64 0)],.sc (.int .i64 2)] [])) (some (Ay.mk [.agg [.sc (.bool x8),.sc (.string Oc),.sc (.int .i64 Rn)],.sc (.int .i64 0)] [])))) (some (Ay.mk [.agg [.sc (.bool x8),.sc (.string Oc),.sc (.int .i64 Wy)],.sc (.int .i64 0)] []))))) (Ai (call 45 [.sc (.string x5),.sc (.string (ByteArray.mk #[58]))]) fun FT DJ=>Ad DJ<|Aa FT fun HQ AV=>A0 HQ fun AD=>Aa AV fun DR DB=>A0 DR fun EW=>Aa DB fun Xh HY=>Am Xh fun KF=>Ad HY<|Ai (call 46 [.sc (.string AD)]) fun HW HM=>Ad HM<|Aa HW fun LI KK=>Aw .i64 LI fun JS=>Ad KK<|Bh (JS != 0) (some (Ay.mk [.agg [.sc (.bool false),.sc (.string (ByteArray.mk #[])),.sc (.int .i64 0)],.sc (.int .i64 JS)] [])) (Ai (call 47 [.sc (.bool x8)]) fun QI WP=>Ad WP<|Aa QI fun TH RL=>Aw .i64 TH fun UO=>Ad RL<|Bh KF (Ai (call 48 [.sc (.string EW)]) fun QL US=>Ad US<|Aa QL fun WQ RR=>Aw .i64 WQ fun RW=>Aa RR fun PN QV=>Am PN fun QG=>Ad QV<|Bh (!QG) (some (Ay.mk [.agg [.sc (.bool false),.sc (.string (ByteArray.mk #[])),.sc (.int .i64 0)],.sc (.int .i64 2)] [])) (Bh (RW==UO) (some (Ay.mk [.agg [.sc (.bool false),.sc (.string (ByteArray.mk #[])),.sc (.int .i64 0)],.sc (.int .i64 2)] [])) (some (Ay.mk [.agg [.sc (.bool x8),.sc (.string AD),.sc (.int .i64 RW)],.sc (.int .i64 0)] [])))) (some (Ay.mk [.agg [.sc (.bool x8),.sc (.string AD),.sc (.int .i64 UO)],.sc (.int .i64 0)] []))))) (Ae (CP p) prog fu d):=by kernel_rfl
abbrev Hd:FuncId:=15
noncomputable def Ca (fu:Nat)(call:Ax)(a0:ByteArray)(nn:Nat)(y0:ByteArray)(y1:Nat)(y2:List PV):Option Ay:=I3 CB prog fu call 15 Tryd.f15 (Gb Tryd.f15) [.sc (.string a0)] [.r,.r,.r,.l,.l] nn ⟨lk [(0,(.sc (.string y0))),(4,(.view 4 1 0 y1))],Jz [(4,(.ar false y2))]⟩
noncomputable def Cb (fu:Nat)(call:Ax)(a0:ByteArray)(m0 nn:Nat)(y0:ByteArray)(y1:Nat)(y2 y3:Int)(y4 y5:Int)(y6:List PV):Option Ay:=I3 CB prog fu call 15 Tryd.f15 (Gb Tryd.f15) [.sc (.string a0)] [.r,.r,.r,.l,.l,.i m0,.r,.l,.r,.r,.l,.r,.l] nn ⟨lk [(0,(.sc (.string y0))),(4,(.view 4 1 0 y1)),(5,(.sc (.int .i64 y2))),(6,(.sc (.int .u32 y3))),(28,(.sc (.int .i64 y4))),(29,(.sc (.int .i64 y5)))],Jz [(4,(.ar false y6))]⟩
noncomputable def B9 (fu:Nat)(call:Ax)(a0:ByteArray)(m0 nn:Nat)(y0:ByteArray)(y1:Nat)(y2:Int)(y3 y4:Nat)(y5 y6:Int)(y7 y8:List PV):Option Ay:=I3 CB prog fu call 15 Tryd.f15 (Gb Tryd.f15) [.sc (.string a0)] [.r,.r,.r,.l,.l,.i m0,.r,.l,.r,.r,.r,.r,.l,.r,.l] nn ⟨lk [(0,(.sc (.string y0))),(4,(.view 4 1 0 y1)),(5,(.sc (.int .i64 y2))),(9,(.ptr 9 0)),(58,(.view 9 1 y3 y4)),(59,(.sc (.int .i64 y5))),(60,(.sc (.int .i64 y6)))],Jz [(4,(.ar false y7)),(9,(.ar false y8))]⟩
theorem Gk (fu:Nat)(call:Ax)(a0:ByteArray)(nn:Nat)(y0:ByteArray)(y1:Nat)(y2:List PV):Ca fu call a0 (nn+1) y0 y1 y2=(Bh (decide ((↑(ByteArray.size y0):Int)>0)) (Ac (if (↑(ByteArray.size y0):Int)<4 then (↑(ByteArray.size y0):Int) else 4) fun x5=>Cb fu call a0 nn (fu) (y0) (y1) x5 0 x5 0 (y2)) (Bj (decide (y1*1<=y2.length))<|some (Ay.mk [.own 1 y1 (List.take (y1*1) y2),.sc (.int .i64 0)] []))):=by kernel_rfl
theorem Gc (fu:Nat)(call:Ax)(a0:ByteArray)(m0 nn:Nat)(y0:ByteArray)(y1:Nat)(y2 y3:Int)(y4 y5:Int)(y6:List PV):Cb fu call a0 m0 (nn+1) y0 y1 y2 y3 y4 y5 y6=(Bh (decide (y5<y4)) (Bj (decide (0<=y5))<|Dh ((Array.toList (ByteArray.data y0))[Int.toNat y5]?) fun x6=>Ai (call 27 [.sc (.string (ByteArray.mk #[65,66,67,68,69,70,71,72,73,74,75,76,77,78,79,80,81,82,83,84,85,86,87,88,89,90,97,98,99,100,101,102,103,104,105,106,107,108,109,110,111,112,113,114,115,116,117,118,119,120,121,122,48,49,50,51,52,53,54,55,56,57,45,95])),.sc (.int .u8 (↑(UInt8.toNat x6):Int))]) fun x7 x8=>Ad x8<|Aa x7 fun x9 F6=>Aw .i64 x9 fun L6=>Ad F6<|Bh (decide (L6<0)) (some (Ay.mk [.own 1 0 [],.sc (.int .i64 2)] [])) (Ac (wrap .u32 L6) fun N0=>Ac (wrap .i64 (6*y5)) fun F0=>Ac (wrap .i64 (18-F0)) fun Kb=>Bj (decide (0<=Kb))<|Ac (Le .u32 N0 Kb) fun Ni=>Ac (WI .u32 y3 Ni) fun Lp=>Ac (wrap .i64 (y5+1)) fun K0=>Cb fu call a0 m0 (nn) (y0) (y1) (y2) Lp (y4) K0 (y6))) (Ac (GP .u32 y3 16) fun N3=>Ac (wrap .u8 N3) fun Nz=>Ac (GP .u32 y3 8) fun N8=>Ac (wrap .u8 N8) fun Oc=>Ac (wrap .u8 y3) fun P8=>Ac (wrap .i64 (y2-1)) fun M4=>Bj (decide (0<=M4))<|Bj (decide (Int.toNat M4<=3)&&true)<|Ac (0+Int.toNat M4*1) fun Qi=>Ac (3-Int.toNat M4) fun M3=>B9 fu call a0 m0 (fu) (y0) (y1) (y2) Qi M3 ((↑M3:Int)) 0 (y6) ([.sc (.int .u8 Nz),.sc (.int .u8 Oc),.sc (.int .u8 P8)]))):=by kernel_rfl
theorem Gj (fu:Nat)(call:Ax)(a0:ByteArray)(m0 nn:Nat)(y0:ByteArray)(y1:Nat)(y2:Int)(y3 y4:Nat)(y5 y6:Int)(y7 y8:List PV):B9 fu call a0 m0 (nn+1) y0 y1 y2 y3 y4 y5 y6 y7 y8=(Bh (decide (y6<y5)) (Bj (decide (0<=y6)&&decide (y6<(↑y4:Int)))<|Aw .u8 (List.getD y8 (y3+Int.toNat y6*1) .top) fun M8=>Bh (M8 != 0) (some (Ay.mk [.own 1 0 [],.sc (.int .i64 2)] [])) (Ac (wrap .i64 (y6+1)) fun Qe=>B9 fu call a0 m0 (nn) (y0) (y1) (y2) (y3) (y4) (y5) Qe (y7) (y8))) (Ac (wrap .i64 (y2-1)) fun Rm=>Bj (decide (3<=y8.length)&&true)<|Bj (decide (0<=Rm))<|Bj (decide (Int.toNat Rm<=3))<|Ac (Int.toNat Rm-0) fun Ov=>Bj (decide (0+Ov*1<=y8.length))<|Bj (decide (y1*1<=y7.length)&&decide (List.length (List.take (Ov*1) (List.drop 0 y8))=Ov*1)&&decide ((y1+Ov)*1<=1099511627776)&&decide (y1+Ov<=1099511627776))<|Ac (y1+Ov) fun Q4=>Ac (List.take (y1*1) y7++List.take (Ov*1) (List.drop 0 y8)) fun R1=>Bj (decide (0<=y2))<|Bj (decide (Int.toNat y2<=ByteArray.size y0)&&decide (ByteArray.size y0<=ByteArray.size y0))<|Ac (ByteArray.extract y0 y2.toNat (ByteArray.size y0)) fun Tc=>Ca fu call a0 (m0) Tc Q4 R1)):=by kernel_rfl
theorem Mv {p:Option (List PV->Option Ay)} (fu d:Nat)(a0:ByteArray):Ae (CP p) prog fu (d+1) Hd [.sc (.string a0)]=(fun (call:Ax)=>Ac (Int.tmod (↑(ByteArray.size a0):Int) 4) fun x1=>Bh (x1==1) (some (Ay.mk [.own 1 0 [],.sc (.int .i64 2)] [])) (Ac (wrap .i64 (Int.tdiv (↑(ByteArray.size a0):Int) 4)) fun x2=>Ac (wrap .i64 (x2*3)) fun x3=>Ac (wrap .i64 (x3+2)) fun x4=>Bj (decide (0<=x4)&&decide (x4*1<=1099511627776)&&decide (x4<=1099511627776))<|Ca fu call a0 (fu) (a0) 0 ([]))) (Ae (CP p) prog fu d):=by kernel_rfl
end
end Go.Proofs.YtodnjibebeghjaaDoor.Pv
