/-
  The proof of DataBaseBack, part 4.
-/
import Derived.Test.YtodnjibebeghjaaDoorKC
import Derived.Test.YtodnjibebeghjaaDoorRows
import Derived.Shelf.Strings.BuilderRune
import Derived.Shelf.Strings.SlTrimAscii
import Derived.Shelf.RegionOpenPlain
import Derived.Lib.Overlaps
import Derived.Lib.AppendZerosOnto
import Derived.Lib.Walk
import Derived.Lib.SliceRun
import Derived.Laws.Externs
import Derived.Laws.IdiomCopy
import Derived.Laws.NewBlocks
import Derived.WalkKit
import Derived.WalkMore
import Derived.Shelf.Unicode.ValidAny
import Derived.Lib.LaidU8T
set_option linter.unusedSimpArgs false
set_option linter.unusedVariables false
namespace Go.Proofs.YtodnjibebeghjaaDoor.Pv
section
open Go.Proofs.Tryd (prog)
open Go.IntKind (wrap)
set_option maxRecDepth 1000000
open Go.Shelf Go.RowKit Go.Lib
def IQ:Go.Shelf.Ren:=⟨fun|119=>117|120=>113|137=>27|151=>103|152=>112|160=>66|167=>24|168=>89|169=>25|197=>102|217=>40|224=>96|225=>95|227=>82|228=>101|231=>80|232=>81|233=>83|234=>84|235=>85|236=>86|240=>38|242=>106|260=>111|266=>55|271=>104|276=>54|278=>116|n=>n,fun|0=>0|3=>3|4=>4|5=>5|9=>9|20=>20|21=>21|37=>22|46=>56|51=>55|70=>51|72=>53|75=>58|80=>60|105=>139|116=>124|117=>125|119=>86|124=>128|127=>73|138=>88|139=>89|164=>97|n=>n,fun|3=>0|4=>1|n=>n⟩
theorem Wq:Lays.n167 prog IQ:={
 mixed:=by kernel_rfl
 f167:=Tryd.func24.trans (congrArg some (by kernel_rfl))
 f240:=Tryd.func38.trans (congrArg some (by kernel_rfl))
 f276:=Tryd.func54.trans (congrArg some (by kernel_rfl))
 t0:=Tryd.underlying0
 a0:=Tryd.isAgg0
 z0:=Tryd.sizeOf0
 v0:=Tryd.zeroValue0
 t4:=Tryd.underlying4
 a4:=Tryd.isAgg4
 z4:=Tryd.sizeOf4
 v4:=Tryd.zeroValue4
 t5:=Tryd.underlying5
 a5:=Tryd.isAgg5
 z5:=Tryd.sizeOf5
 v5:=Tryd.zeroValue5
 t9:=Tryd.underlying9
 a9:=Tryd.isAgg9
 z9:=Tryd.sizeOf9
 v9:=Tryd.zeroValue9
 t20:=Tryd.underlying20
 a20:=Tryd.isAgg20
 z20:=Tryd.sizeOf20
 v20:=Tryd.zeroValue20
 t37:=Tryd.underlying22
 a37:=Tryd.isAgg22
 z37:=Tryd.sizeOf22
 v37:=Tryd.zeroValue22
 t70:=Tryd.underlying51
 a70:=Tryd.isAgg51
 z70:=Tryd.sizeOf51
 v70:=Tryd.zeroValue51
 t72:=Tryd.underlying53
 a72:=Tryd.isAgg53
 z72:=Tryd.sizeOf53
 v72:=Tryd.zeroValue53
 t75:=Tryd.underlying58
 a75:=Tryd.isAgg58
 z75:=Tryd.sizeOf58
 v75:=Tryd.zeroValue58
 t164:=Tryd.underlying97
 a164:=Tryd.isAgg97
 z164:=Tryd.sizeOf97
 v164:=Tryd.zeroValue97 }
theorem NH:Lays.n168 prog IQ:={
 mixed:=by kernel_rfl
 f168:=Tryd.func89.trans (congrArg some (by kernel_rfl))
 f240:=Tryd.func38.trans (congrArg some (by kernel_rfl))
 f242:=Tryd.func106.trans (congrArg some (by kernel_rfl))
 f276:=Tryd.func54.trans (congrArg some (by kernel_rfl))
 f278:=Tryd.func116.trans (congrArg some (by kernel_rfl))
 t0:=Tryd.underlying0
 a0:=Tryd.isAgg0
 z0:=Tryd.sizeOf0
 v0:=Tryd.zeroValue0
 t3:=Tryd.underlying3
 a3:=Tryd.isAgg3
 z3:=Tryd.sizeOf3
 v3:=Tryd.zeroValue3
 t4:=Tryd.underlying4
 a4:=Tryd.isAgg4
 z4:=Tryd.sizeOf4
 v4:=Tryd.zeroValue4
 t5:=Tryd.underlying5
 a5:=Tryd.isAgg5
 z5:=Tryd.sizeOf5
 v5:=Tryd.zeroValue5
 t9:=Tryd.underlying9
 a9:=Tryd.isAgg9
 z9:=Tryd.sizeOf9
 v9:=Tryd.zeroValue9
 t20:=Tryd.underlying20
 a20:=Tryd.isAgg20
 z20:=Tryd.sizeOf20
 v20:=Tryd.zeroValue20
 t21:=Tryd.underlying21
 a21:=Tryd.isAgg21
 z21:=Tryd.sizeOf21
 v21:=Tryd.zeroValue21
 t37:=Tryd.underlying22
 a37:=Tryd.isAgg22
 z37:=Tryd.sizeOf22
 v37:=Tryd.zeroValue22
 t46:=Tryd.underlying56
 a46:=Tryd.isAgg56
 z46:=Tryd.sizeOf56
 v46:=Tryd.zeroValue56
 t51:=Tryd.underlying55
 a51:=Tryd.isAgg55
 z51:=Tryd.sizeOf55
 v51:=Tryd.zeroValue55
 t70:=Tryd.underlying51
 a70:=Tryd.isAgg51
 z70:=Tryd.sizeOf51
 v70:=Tryd.zeroValue51
 t72:=Tryd.underlying53
 a72:=Tryd.isAgg53
 z72:=Tryd.sizeOf53
 v72:=Tryd.zeroValue53
 t75:=Tryd.underlying58
 a75:=Tryd.isAgg58
 z75:=Tryd.sizeOf58
 v75:=Tryd.zeroValue58
 t164:=Tryd.underlying97
 a164:=Tryd.isAgg97
 z164:=Tryd.sizeOf97
 v164:=Tryd.zeroValue97 }
theorem Yz:Lays.n169 prog IQ:={
 mixed:=by kernel_rfl
 f169:=Tryd.func25.trans (congrArg some (by kernel_rfl))
 t0:=Tryd.underlying0
 a0:=Tryd.isAgg0
 z0:=Tryd.sizeOf0
 v0:=Tryd.zeroValue0
 t3:=Tryd.underlying3
 a3:=Tryd.isAgg3
 z3:=Tryd.sizeOf3
 v3:=Tryd.zeroValue3
 t9:=Tryd.underlying9
 a9:=Tryd.isAgg9
 z9:=Tryd.sizeOf9
 v9:=Tryd.zeroValue9
 t37:=Tryd.underlying22
 a37:=Tryd.isAgg22
 z37:=Tryd.sizeOf22
 v37:=Tryd.zeroValue22
 t70:=Tryd.underlying51
 a70:=Tryd.isAgg51
 z70:=Tryd.sizeOf51
 v70:=Tryd.zeroValue51
 t72:=Tryd.underlying53
 a72:=Tryd.isAgg53
 z72:=Tryd.sizeOf53
 v72:=Tryd.zeroValue53
 t127:=Tryd.underlying73
 a127:=Tryd.isAgg73
 z127:=Tryd.sizeOf73
 v127:=Tryd.zeroValue73 }
theorem ML:Lays.n160 prog IQ:={
 mixed:=by kernel_rfl
 f119:=Tryd.func117.trans (congrArg some (by kernel_rfl))
 f120:=Tryd.func113.trans (congrArg some (by kernel_rfl))
 f137:=Tryd.func27.trans (congrArg some (by kernel_rfl))
 f151:=Tryd.func103.trans (congrArg some (by kernel_rfl))
 f152:=Tryd.func112.trans (congrArg some (by kernel_rfl))
 f160:=Tryd.func66.trans (congrArg some (by kernel_rfl))
 f197:=Tryd.func102.trans (congrArg some (by kernel_rfl))
 f217:=Tryd.func40.trans (congrArg some (by kernel_rfl))
 f224:=Tryd.func96.trans (congrArg some (by kernel_rfl))
 f225:=Tryd.func95.trans (congrArg some (by kernel_rfl))
 f227:=Tryd.func82.trans (congrArg some (by kernel_rfl))
 f228:=Tryd.func101.trans (congrArg some (by kernel_rfl))
 f231:=Tryd.func80.trans (congrArg some (by kernel_rfl))
 f232:=Tryd.func81.trans (congrArg some (by kernel_rfl))
 f233:=Tryd.func83.trans (congrArg some (by kernel_rfl))
 f234:=Tryd.func84.trans (congrArg some (by kernel_rfl))
 f235:=Tryd.func85.trans (congrArg some (by kernel_rfl))
 f236:=Tryd.func86.trans (congrArg some (by kernel_rfl))
 f260:=Tryd.func111.trans (congrArg some (by kernel_rfl))
 f266:=Tryd.func55.trans (congrArg some (by kernel_rfl))
 f271:=Tryd.func104.trans (congrArg some (by kernel_rfl))
 t0:=Tryd.underlying0
 a0:=Tryd.isAgg0
 z0:=Tryd.sizeOf0
 v0:=Tryd.zeroValue0
 t3:=Tryd.underlying3
 a3:=Tryd.isAgg3
 z3:=Tryd.sizeOf3
 v3:=Tryd.zeroValue3
 t4:=Tryd.underlying4
 a4:=Tryd.isAgg4
 z4:=Tryd.sizeOf4
 v4:=Tryd.zeroValue4
 t5:=Tryd.underlying5
 a5:=Tryd.isAgg5
 z5:=Tryd.sizeOf5
 v5:=Tryd.zeroValue5
 t9:=Tryd.underlying9
 a9:=Tryd.isAgg9
 z9:=Tryd.sizeOf9
 v9:=Tryd.zeroValue9
 t21:=Tryd.underlying21
 a21:=Tryd.isAgg21
 z21:=Tryd.sizeOf21
 v21:=Tryd.zeroValue21
 t46:=Tryd.underlying56
 a46:=Tryd.isAgg56
 z46:=Tryd.sizeOf56
 v46:=Tryd.zeroValue56
 t105:=Tryd.underlying139
 a105:=Tryd.isAgg139
 z105:=Tryd.sizeOf139
 v105:=Tryd.zeroValue139
 t116:=Tryd.underlying124
 a116:=Tryd.isAgg124
 z116:=Tryd.sizeOf124
 t117:=Tryd.underlying125
 a117:=Tryd.isAgg125
 z117:=Tryd.sizeOf125
 v117:=Tryd.zeroValue125
 t119:=Tryd.underlying86
 a119:=Tryd.isAgg86
 z119:=Tryd.sizeOf86
 t124:=Tryd.underlying128
 a124:=Tryd.isAgg128
 z124:=Tryd.sizeOf128
 v124:=Tryd.zeroValue128
 t138:=Tryd.underlying88
 a138:=Tryd.isAgg88
 z138:=Tryd.sizeOf88
 v138:=Tryd.zeroValue88
 t139:=Tryd.underlying89
 a139:=Tryd.isAgg89
 z139:=Tryd.sizeOf89
 v139:=Tryd.zeroValue89
 g3:=by kernel_rfl
 g4:=by kernel_rfl }
theorem Oe:Builder.Extra prog IQ:={
 sizeBuilder:=by kernel_rfl
 liesBuilder:=by kernel_rfl
 t5:=Tryd.underlying5
 a5:=Tryd.isAgg5
 z5:=Tryd.sizeOf5
 v5:=Tryd.zeroValue5
 infoByte:=by kernel_rfl
 cellsByte:=by kernel_rfl
 sizeByte:=by kernel_rfl
 neB5:=by decide }
end
section
open Go.IntKind (wrap)
open Go.RowKit Go.Lib
section
variable {P:Program}
theorem SW (w:World)(dT sT ty elem:TypeId)(i:TypeInfo)(b o dLen dCap:Nat)(a:Addr)(sLen sCap k:Nat)(cs:List Value)
  (hu:P.underlying dT=some (.slice elem)) (hq:P.info? elem=some i)(hk:k=Nat.min sLen dLen)(hn:cs.length=k*i.size)
  (R6:∀j v,cs[j]?=some v->w.cell? (a.add j)=some v) (hc:∀j,j<cs.length->(w.cell? ⟨b,o+j,none⟩).isSome=true) (hf:∀j,j<cs.length->w.frozen? ⟨b,o+j,none⟩=false)(h1:∀v∈cs,v.oneCell'=true):
  (Builtin.copy_ #[dT,sT] ty #[.slice (some ⟨b,o,none⟩) dLen dCap,.slice (some a) sLen sCap]).run P w=.ok (goInt k) (w.setCells b o cs):=by
 have hl:=run_loadCells_list (P:=P) w a cs R6;have Ey:=run_storeCells_cells (P:=P) b o cs 0 w (by simpa using hc) (by simpa using hf) h1
 simp[Builtin.copy_,run_underlying hu,Builtin.lenOf,Builtin.firstCells,sizeOf,typeInfo,hq,←hk,←hn,hl,Ey]
end
end
section
open Go.Proofs.Tryd (prog)
open Go.IntKind (wrap)
set_option maxRecDepth 1000000
open Go.RowKit Go.Lib
abbrev JK (l:List Int):List Value:=l.map (Value.int .u8)
theorem EH (a b:List Int):JK (a++b)=JK a++JK b:=List.map_append
theorem Acz (x:Int):JK [x]=[Value.int .u8 x]:=rfl
theorem Te:∀{l:List Int},Ds l->JK l=Lib.byteCells (l.map fun n=>n.toNat.toUInt8)
 |[],_=>rfl
 |x::l,h=>by
  obtain⟨hx,h⟩:=Bm h;show Value.int .u8 x::JK l=Value.int .u8 ((x.toNat.toUInt8).toNat:Int)::Lib.byteCells (l.map fun n=>n.toNat.toUInt8)
  rw[Te h]
  congr 2
  have:(x.toNat.toUInt8).toNat=x.toNat:=by
   show x.toNat % 256=x.toNat;omega
  rw[this];omega
def LZ (w:World)(l:List Int)(v:Value):Prop:=∃ad cap,v=.slice ad l.length cap∧l.length<=cap∧(l≠[]->∃b o,ad=some ⟨b,o,none⟩∧b<w.heap.size∧∀j x,l[j]?=some x->w.cell? ⟨b,o+j,none⟩=some (.int .u8 x))
theorem Zg {T e:TypeId}{B b:Nat}{bs:List Value}{W W':World}(h:Lib.IsBuilderF T e B b bs W)(hb:Below W.heap.size W W'):Lib.IsBuilderF T e B b bs W':=by
 rcases h with h|h
 ·have B2:=h.lt;obtain⟨hB,v,hv,E2,D8⟩:=h;exact .inl ⟨hB,v,(hb.block b B2).trans hv,E2.kept (row:=none) ⟨hb.os,hb.tape,hb.output,hb.size,fun k hk _=>hb.block k hk⟩ (Classical.em _),D8⟩
 ·have B2:=h.lt;obtain⟨hB,v,hv,E2,D8⟩:=h;exact .inr ⟨hB,v,(hb.block b B2).trans hv,E2.kept (row:=none) ⟨hb.os,hb.tape,hb.output,hb.size,fun k hk _=>hb.block k hk⟩ (Classical.em _),D8⟩
theorem Jv {B:Nat}{a:World}(b:Nat)(hb:B<=b):∀(vs:List Value)(o:Nat){w:World},Below B a w->Below B a (w.setCells b o vs)
 |[],_,_,h=>h
 |v::r,o,w,h=>Jv b hb r (o+1) (h.setCell (p:=⟨b,o,none⟩) hb v)
theorem NZ (wr:World)(b o cap:Nat)(l:List Int)(D8:l≠[]) (hb:b<wr.heap.size)(hc:∀j x,l[j]?=some x->wr.cell? ⟨b,o+j,none⟩=some (.int .u8 x)) (a' b' c':Int)(k:Nat)(hk:k=min l.length 3)(ht:[a',b',c'].take k=l.take k) (h3:l.length<3->c'=0)(h2:l.length<2->b'=0):
  ∃W2,(∀ty,(Builtin.copy_ #[22,22] ty #[.slice (some ⟨wr.heap.size,0,none⟩) 3 3,.slice (some ⟨b,o,none⟩) l.length cap]).run prog (wr.alloc (.cells #[.int .u8 0,.int .u8 0,.int .u8 0] 54))=.ok (goInt k) W2)∧Below wr.heap.size wr W2∧wr.heap.size<W2.heap.size ∧
   W2.cell? ⟨wr.heap.size,0,none⟩=some (.int .u8 a')∧W2.cell? ⟨wr.heap.size,1,none⟩=some (.int .u8 b')∧W2.cell? ⟨wr.heap.size,2,none⟩=some (.int .u8 c'):=by
 obtain⟨i0,hi0,Fo,KF⟩:=info_parts Oe.infoByte;have Dd:(l.take k).length=k:=by simp;omega
 have hc0:∀k,k<3->(wr.alloc (.cells #[.int .u8 0,.int .u8 0,.int .u8 0] 54)).cell? ⟨wr.heap.size,k,none⟩=some (.int .u8 0):=by
  intro k hk;simp only[World.cell?,World.alloc];simp
  match k,hk with
  |0,_=>rfl
  |1,_=>rfl
  |2,_=>rfl
 refine⟨(wr.alloc (.cells #[.int .u8 0,.int .u8 0,.int .u8 0] 54)).setCells wr.heap.size 0 (JK (l.take k)),fun ty=>?_,?_,?_,?_⟩
 ·refine SW _ _ _ ty 5 i0 wr.heap.size 0 3 3 ⟨b,o,none⟩ l.length cap k (JK (l.take k)) ?_ hi0 ?_ ?_ ?_ ?_ ?_ ?_
  ·exact Tryd.underlying22
  ·exact hk
  ·rw[KF.1];simp;omega
  ·intro j v hv
   have e0:(⟨b,o,none⟩:Addr).add j=⟨b,o+j,none⟩:=by
    unfold Addr.add;split
    ·subst j;rfl
    ·rfl
   rw[e0];rw[List.getElem?_map] at hv;obtain⟨x,hx,rfl⟩:=Option.map_eq_some_iff.1 hv
   have Mv:l[j]?=some x:=by
    rw[List.getElem?_take] at hx;split at hx
    ·exact hx
    ·cases hx
   exact Lib.cell?_alloc_some _ (hc j x Mv)
  ·intro j hj;rw[List.length_map,Dd] at hj;rw[hc0 _ (by omega)]
   rfl
  ·intro j hj;exact World.frozen?_alloc_new wr _ _ _
  ·intro v hv;obtain⟨x,_,rfl⟩:=List.mem_map.1 hv;rfl
 ·exact Jv _ (Nat.le_refl _) _ _ ((Below.refl _ wr).alloc (Nat.le_refl _) _)
 ·have:=(Jv (B:=0) wr.heap.size (Nat.zero_le _) (JK (l.take k)) 0 (Below.refl 0 (wr.alloc (.cells #[.int .u8 0,.int .u8 0,.int .u8 0] 54)))).size;have e:(wr.alloc (.cells #[.int .u8 0,.int .u8 0,.int .u8 0] 54)).heap.size=wr.heap.size+1:=Array.size_push _;rw[e] at this;omega
 ·have D3:k=1∨k=2∨k=3:=by
   have:=List.length_pos_iff.2 D8;omega
  have Xe:∀i,i<k->∀x,[a',b',c'][i]?=some x->((wr.alloc (.cells #[.int .u8 0,.int .u8 0,.int .u8 0] 54)).setCells wr.heap.size 0 (JK (l.take k))).cell? ⟨wr.heap.size,i,none⟩=some (.int .u8 x):=by
   intro i hi x hx
   have h:=World.cell?_setCells_in wr.heap.size (JK (l.take k)) 0 (wr.alloc (.cells #[.int .u8 0,.int .u8 0,.int .u8 0] 54)) (fun j hj=>by
    rw[List.length_map,Dd] at hj;rw[hc0 _ (by omega)]
    rfl) i (by rw[List.length_map,Dd];exact hi)
   rw[Nat.zero_add] at h;rw[h]
   have e:(JK (l.take k))[i]?=some (.int .u8 x):=by
    rw[←ht,List.getElem?_map,List.getElem?_take_of_lt hi,hx];rfl
   rw[List.getElem?_eq_getElem (by rw[List.length_map,Dd];exact hi)] at e
   exact e
  have Qt:∀i,k<=i->i<3->((wr.alloc (.cells #[.int .u8 0,.int .u8 0,.int .u8 0] 54)).setCells wr.heap.size 0 (JK (l.take k))).cell? ⟨wr.heap.size,i,none⟩=some (.int .u8 0):=by
   intro i hi h3;rw[World.cell?_setCells_out _ _ _ _ _ (fun _ _=>Or.inr (by rw[List.length_map,Dd];show 0+k<=i;omega))]
   exact hc0 i h3
  refine⟨Xe 0 (by omega) _ rfl,?_,?_⟩
  ·by_cases h:1<k
   ·exact Xe 1 h _ rfl
   ·rw[h2 (by omega)];exact Qt 1 (by omega) (by omega)
  ·by_cases h:2<k
   ·exact Xe 2 h _ rfl
   ·rw[h3 (by omega)];exact Qt 2 (by omega) (by omega)
set_option maxHeartbeats 4000000 in
theorem RD (l:List Int)(hb:Ds l)(hl:l.length<=100000000)(u:Value)(w:World)(hu:LZ w l u):
  Calls prog 12 #[u] w fun e w'=>e=.returned (.string (Ab (Gd l)))∧Below w.heap.size w w':=by
 have mixed:prog.follows Departure.mixedOrders=true:=by kernel_rfl
 go_enter Tryd.func12,Tryd.ntmps12
 go_wp2
 go_loopw [0] (fun v0 wr=>∃done rest,Gd l=done++Gd rest∧Ds done∧Ds rest∧rest.length<=l.length∧done.length+2*rest.length<=2*l.length∧LZ w rest v0∧Lib.IsBuilderF 53 5 w.heap.size w.heap.size (JK done) wr∧Below w.heap.size w wr) (fun v0 _=>match v0 with | .slice _ n _=>n|_=>0)
 case atStart=>
  exact⟨[],l,rfl,(fun x hx=>by cases hx),hb,Nat.le_refl _,by simp,hu,Lib.IsBuilderF.of (Lib.fresh_isBuilder 53 5 w),(Below.refl _ w).alloc (Nat.le_refl _) _⟩
 case round=>
  obtain⟨done,rest,he,hd,hr,hrl,hdl,⟨ad,cap,rfl,Qw,Cn⟩,hI,hbw⟩:=hrel;have Kj:w.heap.size<=wr.heap.size:=hbw.size;by_cases hz:rest=[]
  ·subst hz
   go_wp2_with (go_at_call 25;refine (Any.Builder_String_any_k Yz Oe w.heap.size w.heap.size (done.map fun n=>n.toNat.toUInt8) _ (by rw[←Te hd];exact hI) (by omega)).mono ?_)
   rintro e W1 ⟨rfl,_,b1,_⟩
   go_wp2
   go_ret
   refine⟨?_,hbw.trans b1⟩;rw[he];simp[Gd,Ab]
  ·obtain⟨b,o,rfl,Zu,Cn⟩:=Cn hz;have YG:(0:Int)<rest.length:=by have:=List.length_pos_iff.2 hz;omega
   obtain⟨a',b',c',hB3,hen,htk,hc0,Zj⟩:=SP rest hr hz;obtain⟨k,hk⟩:∃k,k=min rest.length 3:=⟨_,rfl⟩;rw[←hk] at hen htk;have Dn:(0:Int)<=k∧(k:Int)<=3∧(k:Int)<=rest.length:=by omega
   obtain⟨W2,hcp,hbc,hgs,g0,g1,g2⟩:=NZ wr b o cap rest hz (by omega) (fun j x hx=>by rw[hbw.cell (p:=⟨b,o+j,none⟩) Zu];exact Cn j x hx) a' b' c' k hk htk hc0 Zj
   have hkl:k<=rest.length:=by omega
   have hkp:1<=k:=by have:=List.length_pos_iff.2 hz;omega
   clear hk
   go_wp2
   all_goals
    go_loopw [32] (fun v32 W=>∃j:Nat,v32=.int .i64 j∧j<=k+1∧Lib.IsBuilderF 53 5 w.heap.size w.heap.size (JK (done++(Rs a' b' c').take j)) W∧Below w.heap.size w W) (fun v32 _=>match v32 with | .int _ n=>(4-n).toNat|_=>0)
    case atStart=>
     exact⟨0,rfl,by omega,by simpa using Zg hI hbc,hbw.trans (hbc.mono Kj)⟩
    case round=>
     obtain⟨j,rfl,hj,hIj,hbj⟩:=hrel;by_cases hjk:j<k+1
     ·have hj1:(j:Int)<k+1:=by omega
      obtain⟨q,O3,Pc,hq,hqq⟩:=At8 hB3 j (by omega)
      have ha:=Abq O3 Pc (by rw[SZ];omega)
      have Asy:(done++(Rs a' b' c').take j).length+1<=140737488355328:=by
       have:=List.length_take_le j (Rs a' b' c');rw[List.length_append];omega
      have Aug:=hbj.size
      go_wp2_with (go_at_call 24;refine (Any.Builder_WriteByte_k Wq Oe w.heap.size w.heap.size _ _ _ hIj (by rw[List.length_map];exact Asy) Aug).mono ?_)
      rintro e W1 ⟨rfl,h1,b1,k1⟩
      go_wp2
      go_roundw
      case rel=>
       refine⟨j+1,by simp,by omega,?_,hbj.trans b1⟩
       have e1:(Rs a' b' c').take (j+1)=(Rs a' b' c').take j++[Fi q]:=by
        rw[List.take_add_one,hqq];rfl
       rw[e1,←List.append_assoc,EH,Acz,←ha];exact Or.inr h1
      case measure=>
       simp;omega
     ·have hj1:¬((j:Int)<k+1):=by omega
      have A1f:j=k+1:=by omega
      subst A1f
      go_wp2
      refine⟨⟨done++(Rs a' b' c').take (k+1),rest.drop k,?_,Kf hd (ZK (Akk hB3) _),XR hr _,?_,?_,?_,hIj,hbj⟩,?_⟩
      ·rw[List.append_assoc,←hen];exact he
      ·simp;omega
      ·have:=List.length_take_le (k+1) (Rs a' b' c');rw[List.length_append,List.length_drop];omega
      ·refine⟨_,_,by rw[List.length_drop],?_,fun D8=>?_⟩
       ·rw[List.length_drop];omega
       have:k<rest.length:=by
        rcases Nat.lt_or_ge k rest.length with h|h
        ·exact h
        ·exact absurd (List.drop_eq_nil_iff.2 h) D8
       first
        |(exfalso;omega)
        |(refine⟨b,o+k,rfl,Zu,fun i x hx=>?_⟩;rw[List.getElem?_drop] at hx;rw[Nat.add_assoc];exact Cn _ _ hx)
      ·simp;omega
end
section
open Go.Proofs.Tryd (prog)
open Go.IntKind (wrap)
set_option maxRecDepth 1000000
open Go.RowKit
theorem BL:∀{c:List PV}{l:List Int},Ym c=some l->c=D7 .u8 l∧Ds l
 |[],l,h=>by
  cases h;exact⟨rfl,fun x hx=>by cases hx⟩
 |p::c,l,h=>by
  unfold Ym at h;split at h
  ·rename_i e;cases e
  ·rename_i n r e;cases e;cases hb:(decide (0<=n)&&decide (n<=255))
   ·rw[hb] at h;cases h
   ·rw[hb,cond_true] at h;simp only[Bool.and_eq_true,decide_eq_true_eq] at hb;cases hr:Ym c with
    |none=>rw[hr] at h;cases h
    |some l'=>
     rw[hr] at h;cases h;obtain⟨rfl,h2⟩:=BL hr;refine⟨rfl,fun x hx=>?_⟩
     rcases List.mem_cons.1 hx with rfl|hx
     ·exact hb
     ·exact h2 x hx
  ·cases h
theorem Lr (k:IntKind):∀l:List Int,D7 k l=l.map fun n=>.sc (.int k n)
 |[]=>rfl
 |x::l=>by
  show PV.sc (.int k x)::D7 k l=_;rw[Lr k l];rfl
theorem QR {w:World}{A:Nat->Prop}{bt:Bt}{z:Bool}{l:List Int}{u:Value}(h:JT w A bt (.lst z 1 l.length (D7 .u8 l)) u):LZ w l u:=by
 have ht:Aq w A (.lst z 1 l.length (D7 .u8 l)) u:=h.2;generalize hc:D7 .u8 l=c at ht;generalize hn:l.length=n at ht;cases ht with
 |lnil=>exact⟨none,0,by rw[hn],by omega,fun D8=>absurd (List.eq_nil_of_length_eq_zero hn) D8⟩
 |lemp _ a cap=>exact⟨some a,cap,by rw[hn],by omega,fun D8=>absurd (List.eq_nil_of_length_eq_zero hn) D8⟩
 |lst _ _ _ a cap f hs hb hA hn' Cn h1 hr=>
  obtain⟨b,o,s⟩:=a;cases hs;refine⟨some ⟨b,o,none⟩,cap,by rw[hn],by omega,fun _=>⟨b,o,rfl,hb,fun j x hx=>?_⟩⟩
  have e:c[j]?=some (.sc (.int .u8 x)):=by rw[←hc,Lr,List.getElem?_map,hx];rfl
  have h2:=Cn j _ e;rw[(hr j _ e).val] at h2
  have e0:(⟨b,o,none⟩:Addr).add j=⟨b,o+j,none⟩:=by
   unfold Addr.add;split
   ·subst j;rfl
   ·rfl
  rw[e0] at h2;exact h2
theorem TQ (G:Qi)(args:List PV)(res:A4)(h:UU args=some res):Cx G prog 12 args res:=by
 refine⟨⟨_,Tryd.func12,by kernel_rfl⟩,fun w Y bt us hi _ _=>?_⟩
 unfold UU at h;split at h
 rotate_left
 ·cases h
 rename_i z n c;cases hq:(Nat.beq c.length n&&Nat.ble n 100000000)
 ·rw[hq] at h;cases h
 rw[hq,cond_true] at h;simp only[Bool.and_eq_true] at hq;have hn:=Nat.eq_of_beq_eq_true hq.1;have hm:=Nat.le_of_ble_eq_true hq.2;split at h
 rotate_left
 ·cases h
 rename_i l hl;cases h;obtain⟨rfl,hB⟩:=BL hl
 have Dd:l.length=n:=by
  rw[←hn,Lr,List.length_map]
 subst Dd;have ps:=hi.args
 match us,ps with
 |[u1],ps=>
  refine (RD l hB hm u1 w (QR ps.1)).mono ?_
  rintro e w' ⟨rfl,hb⟩
  exact⟨[.string (Ab (Gd l))],fun _=>none,rfl,Le hb rfl⟩
 |[],ps=>exact ps.elim
 |_::_::_,ps=>exact ps.2.elim
end
section
open Go.Proofs.Tryd (prog)
open Go.IntKind (wrap)
set_option maxRecDepth 100000
abbrev Er:FuncId:=77
theorem Lp {xs:FuncId->Option (List PV->Option A4)} (fu d:Nat)(a0 a1:ByteArray):Af (CX xs) prog fu (d+1) Er [.sc (.string a0),.sc (.string a1)]=(fun (call:A7)=>Bi (decide ((↑(ByteArray.size a0):Int)>=(↑(ByteArray.size a1):Int))) (Bl (decide (Int.toNat (↑(ByteArray.size a1):Int)<=ByteArray.size a0))<|Ac (ByteArray.extract a0 0 (Int.toNat (↑(ByteArray.size a1):Int))) fun x1=>some (A4.mk [.sc (.bool (Array.toList (ByteArray.data x1)==Array.toList (ByteArray.data a1)))] [])) (some (A4.mk [.sc (.bool false)] []))) (Af (CX xs) prog fu d):=by kernel_rfl
abbrev I2:FuncId:=87
theorem Oz {xs:FuncId->Option (List PV->Option A4)} (fu d:Nat)(a0 a1:ByteArray):Af (CX xs) prog fu (d+1) I2 [.sc (.string a0),.sc (.string a1)]=(fun (call:A7)=>Aj (call 77 [.sc (.string a0),.sc (.string a1)]) fun x1 x2=>Ad x2<|Aa x1 fun x3 x4=>Ap x3 fun x5=>Ad x4<|some (A4.mk [.sc (.bool x5)] [])) (Af (CX xs) prog fu d):=by kernel_rfl
abbrev Gj:FuncId:=90
theorem K2 {xs:FuncId->Option (List PV->Option A4)} (fu d:Nat)(Cd:ByteArray)(B7:Int):Af (CX xs) prog fu (d+1) Gj [.pbox [.sc (.string Cd),.sc (.int .i64 B7)]]=(fun (call:A7)=>Bi (decide (B7<(↑(ByteArray.size Cd):Int))) (Bl (decide (0<=B7))<|Dg ((Array.toList (ByteArray.data Cd))[Int.toNat B7]?) fun x1=>some (A4.mk [.sc (.int .u8 (↑(UInt8.toNat x1):Int))] [[.sc (.string Cd),.sc (.int .i64 B7)]])) (some (A4.mk [.sc (.int .u8 0)] [[.sc (.string Cd),.sc (.int .i64 B7)]]))) (Af (CX xs) prog fu d):=by kernel_rfl
abbrev Fs:FuncId:=67
theorem Kh {xs:FuncId->Option (List PV->Option A4)} (fu d:Nat)(Cd:ByteArray)(B7:Int)(a1:ByteArray):Af (CX xs) prog fu (d+1) Fs [.pbox [.sc (.string Cd),.sc (.int .i64 B7)],.sc (.string a1)]=(fun (call:A7)=>Bl (decide (0<=B7))<|Bl (decide (Int.toNat B7<=ByteArray.size Cd)&&decide (ByteArray.size Cd<=ByteArray.size Cd))<|Ac (ByteArray.extract Cd B7.toNat (ByteArray.size Cd)) fun x1=>Aj (call 87 [.sc (.string x1),.sc (.string a1)]) fun x2 x3=>Ad x3<|Aa x2 fun x4 x5=>Ap x4 fun x6=>Ad x5<|Bi (!x6) (some (A4.mk [.sc (.bool false)] [[.sc (.string Cd),.sc (.int .i64 B7)]])) (Ac (wrap .i64 (B7+(↑(ByteArray.size a1):Int))) fun x7=>some (A4.mk [.sc (.bool true)] [[.sc (.string Cd),.sc (.int .i64 x7)]]))) (Af (CX xs) prog fu d):=by kernel_rfl
abbrev J6:FuncId:=115
theorem Qo {xs:FuncId->Option (List PV->Option A4)} (fu d:Nat)(a0:Int):Af (CX xs) prog fu (d+1) J6 [.sc (.int .i32 a0)]=(fun (call:A7)=>Bi (decide (a0>=56320)) (some (A4.mk [.sc (.bool (decide (a0<=57343)))] [])) (some (A4.mk [.sc (.bool false)] []))) (Af (CX xs) prog fu d):=by kernel_rfl
abbrev Fm:FuncId:=114
noncomputable def Bb (fu:Nat)(call:A7)(Cd:ByteArray)(B7:Int)(nn:Nat)(y0 y1:Int)(y2:ByteArray)(y3:Int):Option A4:=My CB prog fu call 114 Tryd.f114 (Is Tryd.f114) [.pbox [.sc (.string Cd),.sc (.int .i64 B7)]] [.r,.r,.l,.r,.l] nn ⟨lk [(0,(.ptr 120000 0)),(4,(.sc (.int .i32 y0))),(6,(.sc (.int .i64 y1)))],Kn [(120000,(.st [(.sc (.string y2)),(.sc (.int .i64 y3))]))]⟩
theorem Ex (fu:Nat)(call:A7)(Cd:ByteArray)(B7:Int)(nn:Nat)(y0 y1:Int)(y2:ByteArray)(y3:Int):Bb fu call Cd B7 (nn+1) y0 y1 y2 y3=(Bi (decide (y1<4)) (Aj (call 90 [.pbox [.sc (.string y2),.sc (.int .i64 y3)]]) fun x1 x2=>Aa x1 fun x3 x4=>Aw .u8 x3 fun x5=>Ad x4<|Aa x2 fun x6 x7=>Aa x6 fun x8 x9=>Ax x8 fun Gp=>Aa x9 fun Pb Pp=>Aw .i64 Pb fun Ga=>Ad Pp<|Ad x7<|Bi (decide (x5>=48)) (Bi (decide (x5<=57)) (Ac (Se .i32 y0 4) fun L4=>Ac (wrap .u8 (x5-48)) fun Pt=>Ac (wrap .i32 Pt) fun M7=>Ac (wrap .i32 (L4+M7)) fun Lw=>Ac (wrap .i64 (Ga+1)) fun O6=>Ac (wrap .i64 (y1+1)) fun Pn=>Bb fu call Cd B7 (nn) Lw Pn Gp O6) (Bi (decide (x5>=97)) (Bi (decide (x5<=102)) (Ac (Se .i32 y0 4) fun Oc=>Ac (wrap .u8 (x5-97)) fun N6=>Ac (wrap .i32 N6) fun Qz=>Ac (wrap .i32 (Oc+Qz)) fun M0=>Ac (wrap .i32 (M0+10)) fun Qv=>Ac (wrap .i64 (Ga+1)) fun N8=>Ac (wrap .i64 (y1+1)) fun Ol=>Bb fu call Cd B7 (nn) Qv Ol Gp N8) (Bi (decide (x5>=65)) (Bi (decide (x5<=70)) (Ac (Se .i32 y0 4) fun P6=>Ac (wrap .u8 (x5-65)) fun Sm=>Ac (wrap .i32 Sm) fun Nl=>Ac (wrap .i32 (P6+Nl)) fun Q2=>Ac (wrap .i32 (Q2+10)) fun Sp=>Ac (wrap .i64 (Ga+1)) fun R9=>Ac (wrap .i64 (y1+1)) fun Sr=>Bb fu call Cd B7 (nn) Sp Sr Gp R9) (some (A4.mk [.sc (.int .i32 0),.sc (.bool false)] [[.sc (.string Gp),.sc (.int .i64 Ga)]]))) (some (A4.mk [.sc (.int .i32 0),.sc (.bool false)] [[.sc (.string Gp),.sc (.int .i64 Ga)]])))) (Bi (decide (x5>=65)) (Bi (decide (x5<=70)) (Ac (Se .i32 y0 4) fun Sy=>Ac (wrap .u8 (x5-65)) fun Tp=>Ac (wrap .i32 Tp) fun Ug=>Ac (wrap .i32 (Sy+Ug)) fun Vs=>Ac (wrap .i32 (Vs+10)) fun Wc=>Ac (wrap .i64 (Ga+1)) fun Ql=>Ac (wrap .i64 (y1+1)) fun BH=>Bb fu call Cd B7 (nn) Wc BH Gp Ql) (some (A4.mk [.sc (.int .i32 0),.sc (.bool false)] [[.sc (.string Gp),.sc (.int .i64 Ga)]]))) (some (A4.mk [.sc (.int .i32 0),.sc (.bool false)] [[.sc (.string Gp),.sc (.int .i64 Ga)]]))))) (Bi (decide (x5>=97)) (Bi (decide (x5<=102)) (Ac (Se .i32 y0 4) fun BU=>Ac (wrap .u8 (x5-97)) fun Qy=>Ac (wrap .i32 Qy) fun Pq=>Ac (wrap .i32 (BU+Pq)) fun Zb=>Ac (wrap .i32 (Zb+10)) fun Y5=>Ac (wrap .i64 (Ga+1)) fun DD=>Ac (wrap .i64 (y1+1)) fun AA=>Bb fu call Cd B7 (nn) Y5 AA Gp DD) (Bi (decide (x5>=65)) (Bi (decide (x5<=70)) (Ac (Se .i32 y0 4) fun DH=>Ac (wrap .u8 (x5-65)) fun Zm=>Ac (wrap .i32 Zm) fun Y2=>Ac (wrap .i32 (DH+Y2)) fun Z1=>Ac (wrap .i32 (Z1+10)) fun AC=>Ac (wrap .i64 (Ga+1)) fun EV=>Ac (wrap .i64 (y1+1)) fun DV=>Bb fu call Cd B7 (nn) AC DV Gp EV) (some (A4.mk [.sc (.int .i32 0),.sc (.bool false)] [[.sc (.string Gp),.sc (.int .i64 Ga)]]))) (some (A4.mk [.sc (.int .i32 0),.sc (.bool false)] [[.sc (.string Gp),.sc (.int .i64 Ga)]])))) (Bi (decide (x5>=65)) (Bi (decide (x5<=70)) (Ac (Se .i32 y0 4) fun NQ=>Ac (wrap .u8 (x5-65)) fun MC=>Ac (wrap .i32 MC) fun KE=>Ac (wrap .i32 (NQ+KE)) fun KM=>Ac (wrap .i32 (KM+10)) fun NW=>Ac (wrap .i64 (Ga+1)) fun LT=>Ac (wrap .i64 (y1+1)) fun MR=>Bb fu call Cd B7 (nn) NW MR Gp LT) (some (A4.mk [.sc (.int .i32 0),.sc (.bool false)] [[.sc (.string Gp),.sc (.int .i64 Ga)]]))) (some (A4.mk [.sc (.int .i32 0),.sc (.bool false)] [[.sc (.string Gp),.sc (.int .i64 Ga)]]))))) (some (A4.mk [.sc (.int .i32 y0),.sc (.bool true)] [[.sc (.string y2),.sc (.int .i64 y3)]]))):=by kernel_rfl
theorem Jm {xs:FuncId->Option (List PV->Option A4)} (fu d:Nat)(Cd:ByteArray)(B7:Int):Af (CX xs) prog fu (d+1) Fm [.pbox [.sc (.string Cd),.sc (.int .i64 B7)]]=(fun (call:A7)=>Bb fu call Cd B7 (fu) 0 0 (Cd) (B7)) (Af (CX xs) prog fu d):=by kernel_rfl
abbrev Fd:FuncId:=105
theorem Iw {xs:FuncId->Option (List PV->Option A4)} (fu d:Nat)(Cd:ByteArray)(B7:Int):Af (CX xs) prog fu (d+1) Fd [.pbox [.sc (.string Cd),.sc (.int .i64 B7)]]=(fun (call:A7)=>Aj (call 114 [.pbox [.sc (.string Cd),.sc (.int .i64 B7)]]) fun x1 x2=>Aa x1 fun x3 x4=>Aw .i32 x3 fun x5=>Aa x4 fun x6 x7=>Ap x6 fun x8=>Ad x7<|Aa x2 fun x9 Gp=>Aa x9 fun Pb Pp=>Ax Pb fun Ga=>Aa Pp fun L4 Pt=>Aw .i64 L4 fun M7=>Ad Pt<|Ad Gp<|Bi (!x8) (some (A4.mk [.sc (.int .i32 0),.sc (.bool false)] [[.sc (.string Ga),.sc (.int .i64 M7)]])) (Aj (call 115 [.sc (.int .i32 x5)]) fun Lw O6=>Ad O6<|Aa Lw fun Pn Oc=>Ap Pn fun N6=>Ad Oc<|Bi N6 (some (A4.mk [.sc (.int .i32 0),.sc (.bool false)] [[.sc (.string Ga),.sc (.int .i64 M7)]])) (Bi (decide (x5<55296)) (some (A4.mk [.sc (.int .i32 x5),.sc (.bool true)] [[.sc (.string Ga),.sc (.int .i64 M7)]])) (Bi (decide (x5>56319)) (some (A4.mk [.sc (.int .i32 x5),.sc (.bool true)] [[.sc (.string Ga),.sc (.int .i64 M7)]])) (Aj (call 67 [.pbox [.sc (.string Ga),.sc (.int .i64 M7)],.sc (.string (ByteArray.mk #[92,117]))]) fun Qz M0=>Aa Qz fun Qv N8=>Ap Qv fun Ol=>Ad N8<|Aa M0 fun P6 Sm=>Aa P6 fun Nl Q2=>Ax Nl fun Sp=>Aa Q2 fun R9 Sr=>Aw .i64 R9 fun Sy=>Ad Sr<|Ad Sm<|Bi (!Ol) (some (A4.mk [.sc (.int .i32 0),.sc (.bool false)] [[.sc (.string Sp),.sc (.int .i64 Sy)]])) (Aj (call 114 [.pbox [.sc (.string Sp),.sc (.int .i64 Sy)]]) fun Tp Ug=>Aa Tp fun Vs Wc=>Aw .i32 Vs fun Ql=>Aa Wc fun BH BU=>Ap BH fun Qy=>Ad BU<|Aa Ug fun Pq Zb=>Aa Pq fun Y5 DD=>Ax Y5 fun AA=>Aa DD fun DH Zm=>Aw .i64 DH fun Y2=>Ad Zm<|Ad Zb<|Bi (!Qy) (some (A4.mk [.sc (.int .i32 0),.sc (.bool false)] [[.sc (.string AA),.sc (.int .i64 Y2)]])) (Aj (call 115 [.sc (.int .i32 Ql)]) fun Z1 AC=>Ad AC<|Aa Z1 fun EV DV=>Ap EV fun NQ=>Ad DV<|Bi (!NQ) (some (A4.mk [.sc (.int .i32 0),.sc (.bool false)] [[.sc (.string AA),.sc (.int .i64 Y2)]])) (Ac (wrap .i32 (x5-55296)) fun MC=>Ac (Se .i32 MC 10) fun KE=>Ac (wrap .i32 (65536+KE)) fun KM=>Ac (wrap .i32 (Ql-56320)) fun NW=>Ac (wrap .i32 (KM+NW)) fun LT=>some (A4.mk [.sc (.int .i32 LT),.sc (.bool true)] [[.sc (.string AA),.sc (.int .i64 Y2)]]))))))))) (Af (CX xs) prog fu d):=by kernel_rfl
abbrev Et:FuncId:=88
theorem H1 {xs:FuncId->Option (List PV->Option A4)} (fu d:Nat)(Cd:ByteArray)(B7:Int):Af (CX xs) prog fu (d+1) Et [.pbox [.sc (.string Cd),.sc (.int .i64 B7)]]=(fun (call:A7)=>Aj (call 67 [.pbox [.sc (.string Cd),.sc (.int .i64 B7)],.sc (.string (ByteArray.mk #[117]))]) fun x1 x2=>Aa x1 fun x3 x4=>Ap x3 fun x5=>Ad x4<|Aa x2 fun x6 x7=>Aa x6 fun x8 x9=>Ax x8 fun Gp=>Aa x9 fun Pb Pp=>Aw .i64 Pb fun Ga=>Ad Pp<|Ad x7<|Bi x5 (Aj (call 105 [.pbox [.sc (.string Gp),.sc (.int .i64 Ga)]]) fun L4 Pt=>Aa L4 fun M7 Lw=>Aw .i32 M7 fun O6=>Aa Lw fun Pn Oc=>Ap Pn fun N6=>Ad Oc<|Aa Pt fun Qz M0=>Aa Qz fun Qv N8=>Ax Qv fun Ol=>Aa N8 fun P6 Sm=>Aw .i64 P6 fun Nl=>Ad Sm<|Ad M0<|some (A4.mk [.sc (.int .i32 O6),.sc (.bool N6)] [[.sc (.string Ol),.sc (.int .i64 Nl)]])) (Aj (call 90 [.pbox [.sc (.string Gp),.sc (.int .i64 Ga)]]) fun Q2 Sp=>Aa Q2 fun R9 Sr=>Aw .u8 R9 fun Sy=>Ad Sr<|Aa Sp fun Tp Ug=>Aa Tp fun Vs Wc=>Ax Vs fun Ql=>Aa Wc fun BH BU=>Aw .i64 BH fun Qy=>Ad BU<|Ad Ug<|Ac (wrap .i32 Sy) fun Pq=>Bi (Pq==34) (Ac (wrap .i64 (Qy+1)) fun Zb=>some (A4.mk [.sc (.int .i32 Pq),.sc (.bool true)] [[.sc (.string Ql),.sc (.int .i64 Zb)]])) (Bi (Pq==92) (Ac (wrap .i64 (Qy+1)) fun Y5=>some (A4.mk [.sc (.int .i32 Pq),.sc (.bool true)] [[.sc (.string Ql),.sc (.int .i64 Y5)]])) (Bi (Pq==47) (Ac (wrap .i64 (Qy+1)) fun DD=>some (A4.mk [.sc (.int .i32 Pq),.sc (.bool true)] [[.sc (.string Ql),.sc (.int .i64 DD)]])) (Bi (Pq==98) (Ac (wrap .i64 (Qy+1)) fun AA=>some (A4.mk [.sc (.int .i32 8),.sc (.bool true)] [[.sc (.string Ql),.sc (.int .i64 AA)]])) (Bi (Pq==102) (Ac (wrap .i64 (Qy+1)) fun DH=>some (A4.mk [.sc (.int .i32 12),.sc (.bool true)] [[.sc (.string Ql),.sc (.int .i64 DH)]])) (Bi (Pq==110) (Ac (wrap .i64 (Qy+1)) fun Zm=>some (A4.mk [.sc (.int .i32 10),.sc (.bool true)] [[.sc (.string Ql),.sc (.int .i64 Zm)]])) (Bi (Pq==114) (Ac (wrap .i64 (Qy+1)) fun Y2=>some (A4.mk [.sc (.int .i32 13),.sc (.bool true)] [[.sc (.string Ql),.sc (.int .i64 Y2)]])) (Bi (Pq==116) (Ac (wrap .i64 (Qy+1)) fun Z1=>some (A4.mk [.sc (.int .i32 9),.sc (.bool true)] [[.sc (.string Ql),.sc (.int .i64 Z1)]])) (some (A4.mk [.sc (.int .i32 0),.sc (.bool false)] [[.sc (.string Ql),.sc (.int .i64 Qy)]]))))))))))) (Af (CX xs) prog fu d):=by kernel_rfl
end
section
open Go.Proofs.Tryd (prog)
open Go.IntKind (wrap)
def C3 (t:ByteArray)(r:List Int):Prop:=∃pre,E1 t=pre++r
theorem C3.all (t:ByteArray):C3 t (E1 t):=⟨[],rfl⟩
theorem C3.len {t:ByteArray}{r:List Int}(h:C3 t r):r.length<=t.size:=by
 obtain⟨pre,h⟩:=h;have:=congrArg List.length h;rw[Hi,List.length_append] at this;omega
theorem C3.app {t:ByteArray}{a r:List Int}(h:C3 t (a++r)):C3 t r:=by
 obtain⟨pre,h⟩:=h;exact⟨pre++a,by rw[h,List.append_assoc]⟩
theorem C3.tail {t:ByteArray}{c:Int}{r:List Int}(h:C3 t (c::r)):C3 t r:=C3.app (a:=[c]) h
theorem C3.drop {t:ByteArray}{r:List Int}(h:C3 t r)(k:Nat):C3 t (r.drop k):=by
 rw[←List.take_append_drop k r] at h;exact h.app
def Bp (t:ByteArray)(r:List Int):Nat:=t.size-r.length
theorem C3.eq {t:ByteArray}{r:List Int}(h:C3 t r):r=(E1 t).drop (Bp t r):=by
 have hl:=h.len;obtain⟨pre,h⟩:=h
 have e:Bp t r=pre.length:=by
  have:=congrArg List.length h;rw[Hi,List.length_append] at this;unfold Bp;omega
 rw[e,h,List.drop_left]
theorem C3.B {t:ByteArray}{r:List Int}(h:C3 t r):Ds r:=by
 obtain⟨pre,h⟩:=h;exact fun x hx=>MZ t x (by rw[h];exact List.mem_append_right _ hx)
theorem C3.at {t:ByteArray}{c:Int}{r:List Int}(h:C3 t (c::r)):∃b:UInt8,(Array.toList t.data)[Bp t (c::r)]?=some b∧(b.toNat:Int)=c:=by
 have he:=h.eq
 have:(E1 t)[Bp t (c::r)]?=some c:=by
  have:=congrArg (fun l=>l[0]?) he
  rw[List.getElem?_drop] at this;exact this.symm
 unfold E1 at this;rw[List.getElem?_map] at this;obtain⟨b,hb,rfl⟩:=Option.map_eq_some_iff.1 this;exact⟨b,hb,rfl⟩
theorem Jq {t:ByteArray}{c:Int}{r:List Int}(h:C3 t (c::r)):Bp t r=Bp t (c::r)+1:=by
 have:=h.len;unfold Bp;rw[UR] at this ⊢;omega
theorem Rd (t:ByteArray):Bp t []=t.size:=rfl
abbrev Bv (t:ByteArray)(r:List Int):List PV:=[.sc (.string t),.sc (.int .i64 (Bp t r:Int))]
def FO:List Int->Int
 |[]=>0
 |c::_=>c
section
variable {fu d:Nat} {xs:FuncId->Option (List PV->Option A4)}
theorem J5 {t:ByteArray}{r:List Int}(h:C3 t r):Af (CX xs) prog fu (d+1) Gj [.pbox (Bv t r)]=some ⟨[.sc (.int .u8 (FO r))],[Bv t r]⟩:=by
 rw[K2];cases r with
 |nil=>
  show _=some (A4.mk [.sc (.int .u8 0)] [[.sc (.string t),.sc (.int .i64 (Bp t []:Int))]]);rw[Rd];have e:decide ((t.size:Int)<(t.size:Int))=false:=by simp
  simp only[Ez,e]
 |cons c r=>
  have hl:=h.len;obtain⟨b,hb,rfl⟩:=h.at
  have hp:Bp t ((b.toNat:Int)::r)<t.size:=by
   unfold Bp;rw[UR] at hl ⊢;omega
  have e:decide ((Bp t ((b.toNat:Int)::r):Int)<(t.size:Int))=true:=by simp;omega
  have e2:decide ((0:Int)<=(Bp t ((b.toNat:Int)::r):Int))=true:=by simp
  rw[←Pu (Bp t ((b.toNat:Int)::r))] at hb;simp only[Ez,e,e2,hb,FO]
theorem Uu {s:ByteArray}{a:Nat}:s.extract a s.size=Ab ((E1 s).drop a):=by
 rw[←G9 (s.extract a s.size)]
 congr 1
 unfold E1;rw[ByteArray.data_extract,Array.toList_extract,List.extract_eq_take_drop,←List.map_drop,Zzf];rw[List.length_drop];exact Nat.le_refl _
theorem Sl {s:ByteArray}{n:Nat}:s.extract 0 n=Ab ((E1 s).take n):=by
 rw[←G9 (s.extract 0 n)]
 congr 1
 unfold E1;rw[ByteArray.data_extract,Array.toList_extract,List.extract_eq_take_drop,Nat.sub_zero,List.drop_zero,List.map_take]
theorem Afx {a w:List Int}(ha:Ds a)(hw:Ds w):Af (CX xs) prog fu (d+1) Er [.sc (.string (Ab a)),.sc (.string (Ab w))]=some ⟨[.sc (.bool (w.isPrefixOf a))],[]⟩:=by
 rw[Lp,Av,Av];by_cases hl:w.length<=a.length
 ·have e1:decide ((a.length:Int)>=(w.length:Int))=true:=by simp;omega
  have e2:decide (Int.toNat (w.length:Int)<=a.length)=true:=by rw[Pu];simp;exact hl
  have e3:(Ab a).extract 0 (Int.toNat (w.length:Int))=Ab (a.take w.length):=by
   rw[Pu,Sl,C9 ha]
  have e4:(Array.toList (Ab (a.take w.length)).data==Array.toList (Ab w).data)=w.isPrefixOf a:=by
   rw[Bool.eq_iff_iff,List.isPrefixOf_iff_prefix,beq_iff_eq];constructor
   ·intro h
    have h2:Ab (a.take w.length)=Ab w:=by
     cases hx:Ab (a.take w.length);cases hy:Ab w;rw[hx,hy] at h;exact congrArg ByteArray.mk (Array.toList_inj.1 h)
    have h3:=congrArg E1 h2;rw[C9 hw,C9 (fun x hx=>ha x (List.mem_of_mem_take hx))] at h3
    exact List.prefix_iff_eq_take.2 h3.symm
   ·intro h;rw[←List.prefix_iff_eq_take.1 h]
  simp only[Ez,e1,e2,e3,e4]
 ·have e1:decide ((a.length:Int)>=(w.length:Int))=false:=by simp;omega
  have e4:w.isPrefixOf a=false:=by
   rw[Bool.eq_false_iff,ne_eq,List.isPrefixOf_iff_prefix];exact fun h=>hl h.length_le
  simp only[Ez,e1,e4]
theorem Arj {a w:List Int}(ha:Ds a)(hw:Ds w):Af (CX xs) prog fu (d+2) I2 [.sc (.string (Ab a)),.sc (.string (Ab w))]=some ⟨[.sc (.bool (w.isPrefixOf a))],[]⟩:=by
 rw[Oz];have e:Af (CX xs) prog fu (d+1) Er [.sc (.string (Ab a)),.sc (.string (Ab w))]=_:=Afx ha hw;simp only[Ez,e]
theorem Nv {t:ByteArray}{r w:List Int}(h:C3 t r)(ht:t.size<=1000000)(hw:Ds w)(hw2:w.length<=100):Af (CX xs) prog fu (d+3) Fs [.pbox (Bv t r),.sc (.string (Ab w))]=some (match Ao w r with|some r'=>⟨[.sc (.bool true)],[Bv t r']⟩|none=>⟨[.sc (.bool false)],[Bv t r]⟩):=by
 have hl:=h.len;have he:=h.eq;have hp:Bp t r<=t.size:=Nat.sub_le _ _;have hh:=Arj (fu:=fu) (d:=d) (xs:=xs) h.B hw;have e1:decide ((0:Int)<=(Bp t r:Int))=true:=by simp
 have e2:(decide (Int.toNat (Bp t r:Int)<=t.size)&&decide (t.size<=t.size))=true:=by
  rw[Pu];simp;exact hp
 have e3:t.extract (Int.toNat (Bp t r:Int)) t.size=Ab r:=by rw[Pu,Uu,←he]
 rw[Kh];unfold Ao;by_cases hq:w.isPrefixOf r=true
 ·rw[Fa hq];rw[hq] at hh
  have hwl:w.length<=r.length:=by
   have:=List.IsPrefix.length_le (List.isPrefixOf_iff_prefix.1 hq);exact this
  have e4:wrap .i64 ((Bp t r:Int)+((Ab w).size:Int))=(Bp t (r.drop w.length):Int):=by
   rw[Av,Bj (by omega) (by omega)]
   unfold Bp;rw[List.length_drop];omega
  simp only[Ez,e1,e2,e3,hh,e4,Db]
 ·rw[D1 hq];have Jt:w.isPrefixOf r=false:=Bool.eq_false_iff.2 hq;rw[Jt] at hh;simp only[Ez,e1,e2,e3,hh,Dw]
theorem Acy (x:Int):Af (CX xs) prog fu (d+1) J6 [.sc (.int .i32 x)]=some ⟨[.sc (.bool (DJ x))],[]⟩:=by
 rw[Qo];unfold DJ;by_cases h:56320<=x
 ·have e:decide (x>=56320)=true:=by simp;omega
  have e2:decide (56320<=x)=true:=by simp;omega
  simp only[Ez,e,e2,Bool.true_and]
 ·have e:decide (x>=56320)=false:=by simp;omega
  have e2:decide (56320<=x)=false:=by simp;omega
  simp only[Ez,e,e2,ZG]
def Ac7 (t:ByteArray)(o:PR Int):A4:=⟨[.sc (.int .i32 (o.1.getD 0)),.sc (.bool o.1.isSome)],[Bv t o.2]⟩
theorem Z2 (c:Int):(48<=c∧c<=57∧MA c=some (c-48))∨(97<=c∧c<=102∧MA c=some (c-87))∨(65<=c∧c<=70∧MA c=some (c-55))∨(¬(48<=c∧c<=57)∧¬(97<=c∧c<=102)∧¬(65<=c∧c<=70)∧MA c=none):=by
 unfold MA;by_cases h1:48<=c∧c<=57
 ·exact .inl ⟨h1.1,h1.2,Fa h1⟩
 ·by_cases h2:97<=c∧c<=102
  ·exact .inr (.inl ⟨h2.1,h2.2,by rw[D1 h1,Fa h2]⟩)
  ·by_cases h3:65<=c∧c<=70
   ·exact .inr (.inr (.inl ⟨h3.1,h3.2,by rw[D1 h1,D1 h2,Fa h3]⟩))
   ·exact .inr (.inr (.inr ⟨h1,h2,h3,by rw[D1 h1,D1 h2,D1 h3]⟩))
theorem Ed {x:Int}(h1: -2147483648<=x)(h2:x<=2147483647):wrap .i32 x=x:=by
 have:=IntWalk.i32_in x (by omega)
 exact this
theorem Ao0 {x:Int}(h0:0<=x)(h1:x<65536):Se .i32 x 4=x*16:=by
 show wrap .i32 (x*2 ^ (min (4:Int).toNat IntKind.i32.bits))=_;rw[show min (4:Int).toNat IntKind.i32.bits=4 from rfl]
 exact Ed (by omega) (by omega)
theorem Rn {t s0:ByteArray}{p0:Int}(ht:t.size<=1000000):∀(n:Nat)(nn:Nat)(x:Int)(r:List Int),n<=4->n+1<=nn->0<=x->x<16 ^ (4-n)->C3 t r ->
  Bb fu (Af (CX xs) prog fu (d+1)) s0 p0 nn x ((4-n:Nat):Int) t (Bp t r:Int)=some (Ac7 t (O4 n x r))
 |0,nn,x,r,_,Pj,h0,h1,h=>by
  obtain⟨k,rfl⟩:∃k,nn=k+1:=⟨nn-1,by omega⟩
  rw[Ex];simp only[Ez,show decide (((4-0:Nat):Int)<4)=false from rfl]
  rfl
 |n+1,nn,x,r,hn,Pj,h0,h1,h=>by
  obtain⟨k,rfl⟩:∃k,nn=k+1:=⟨nn-1,by omega⟩
  have pk:=J5 (fu:=fu) (d:=d) (xs:=xs) h;have hl:=h.len
  have hx:x<4096:=by
   have:n+1=1∨n+1=2∨n+1=3∨n+1=4:=by omega
   rcases this with e|e|e|e<;>rw[e] at h1<;>simp at h1<;>omega
  have Mv:∀v,0<=v->v<=15->x*16+v<16 ^ (4-n):=by
   intro v hv0 hv1;have e:4-n=(4-(n+1))+1:=by omega
   rw[e,Int.pow_succ];omega
  have e4:decide (((4-(n+1):Nat):Int)<4)=true:=by simp;omega
  have e5:wrap .i64 (((4-(n+1):Nat):Int)+1)=((4-n:Nat):Int):=by rw[Bj (by omega) (by omega)];omega
  have sh:=Ao0 h0 (by omega)
  rw[Ex];cases r with
  |nil=>
   have pk2:Af (CX xs) prog fu (d+1) 90 [.pbox (Bv t [])]=some ⟨[.sc (.int .u8 0)],[Bv t []]⟩:=pk
   try unfold Ac
   repeat first
    |((with_reducible first|apply A0|apply Ar|apply Ay|apply At|apply A1|apply Dp|apply As|apply A3|apply Az);· first|with_reducible rfl|(simp (disch:=omega) only[gT,e4,pk2,Int.reduceGE,decide_false,decide_true]<;>first|with_reducible rfl|omega)|omega)
    |(with_reducible apply A2;· first|with_reducible rfl|(simp (disch:=omega) only[gF,e4,pk2,Int.reduceGE,decide_false,decide_true]<;>omega))
   try simp (disch:=omega) only[e4,pk2,Int.reduceGE,decide_false,decide_true]
   rfl
  |cons c r=>
   have hc:=h.B c (by simp)
   have hp:=Jq h
   have e6:wrap .i64 ((Bp t (c::r):Int)+1)=(Bp t r:Int):=by
    rw[hp,Bj (by unfold Bp;omega) (by unfold Bp;omega)];omega
   have pk2:Af (CX xs) prog fu (d+1) 90 [.pbox (Bv t (c::r))]=some ⟨[.sc (.int .u8 c)],[Bv t (c::r)]⟩:=pk;unfold O4;rcases Z2 c with⟨g1,g2,g3⟩|⟨g1,g2,g3⟩|⟨g1,g2,g3⟩|⟨g1,g2,g3,g4⟩
   ·rw[g3];have ih:=Rn (s0:=s0) (p0:=p0) ht n k (x*16+(c-48)) r (by omega) (by omega) (by omega) (Mv _ (by omega) (by omega)) h.tail
    have w1:wrap .u8 (c-48)=c-48:=Vu (by omega) (by omega)
    have w2:wrap .i32 (c-48)=c-48:=Ed (by omega) (by omega)
    have w3:wrap .i32 (x*16+(c-48))=x*16+(c-48):=Ed (by omega) (by omega)
    try unfold Ac
    repeat first
     |((with_reducible first|apply A0|apply Ar|apply Ay|apply At|apply A1|apply Dp|apply As|apply A3|apply Az);· first|with_reducible rfl|(simp (disch:=omega) only[gT,e4,pk2,sh,w1,w2,w3,e5,e6,ih]<;>first|with_reducible rfl|omega)|omega)
     |(with_reducible apply A2;· first|with_reducible rfl|(simp (disch:=omega) only[gF,e4,pk2,sh,w1,w2,w3,e5,e6,ih]<;>omega))
    try simp (disch:=omega) only[e4,pk2,sh,w1,w2,w3,e5,e6,ih]
   ·rw[g3];have ih:=Rn (s0:=s0) (p0:=p0) ht n k (x*16+(c-87)) r (by omega) (by omega) (by omega) (Mv _ (by omega) (by omega)) h.tail
    have w1:wrap .u8 (c-97)=c-97:=Vu (by omega) (by omega)
    have w2:wrap .i32 (c-97)=c-97:=Ed (by omega) (by omega)
    have w3:wrap .i32 (x*16+(c-97))=x*16+(c-97):=Ed (by omega) (by omega)
    have w4:wrap .i32 (x*16+(c-97)+10)=x*16+(c-87):=by rw[Ed (by omega) (by omega)];omega
    try unfold Ac
    repeat first
     |((with_reducible first|apply A0|apply Ar|apply Ay|apply At|apply A1|apply Dp|apply As|apply A3|apply Az);· first|with_reducible rfl|(simp (disch:=omega) only[gT,e4,pk2,sh,w1,w2,w3,w4,e5,e6,ih]<;>first|with_reducible rfl|omega)|omega)
     |(with_reducible apply A2;· first|with_reducible rfl|(simp (disch:=omega) only[gF,e4,pk2,sh,w1,w2,w3,w4,e5,e6,ih]<;>omega))
    try simp (disch:=omega) only[e4,pk2,sh,w1,w2,w3,w4,e5,e6,ih]
   ·rw[g3];have ih:=Rn (s0:=s0) (p0:=p0) ht n k (x*16+(c-55)) r (by omega) (by omega) (by omega) (Mv _ (by omega) (by omega)) h.tail
    have w1:wrap .u8 (c-65)=c-65:=Vu (by omega) (by omega)
    have w2:wrap .i32 (c-65)=c-65:=Ed (by omega) (by omega)
    have w3:wrap .i32 (x*16+(c-65))=x*16+(c-65):=Ed (by omega) (by omega)
    have w4:wrap .i32 (x*16+(c-65)+10)=x*16+(c-55):=by rw[Ed (by omega) (by omega)];omega
    try unfold Ac
    repeat first
     |((with_reducible first|apply A0|apply Ar|apply Ay|apply At|apply A1|apply Dp|apply As|apply A3|apply Az);· first|with_reducible rfl|(simp (disch:=omega) only[gT,e4,pk2,sh,w1,w2,w3,w4,e5,e6,ih]<;>first|with_reducible rfl|omega)|omega)
     |(with_reducible apply A2;· first|with_reducible rfl|(simp (disch:=omega) only[gF,e4,pk2,sh,w1,w2,w3,w4,e5,e6,ih]<;>omega))
    try simp (disch:=omega) only[e4,pk2,sh,w1,w2,w3,w4,e5,e6,ih]
   ·rw[g4];by_cases k1:48<=c
    ·by_cases k2:97<=c
     ·skip
      try unfold Ac
      repeat first
       |((with_reducible first|apply A0|apply Ar|apply Ay|apply At|apply A1|apply Dp|apply As|apply A3|apply Az);· first|with_reducible rfl|(simp (disch:=omega) only[gT,e4,pk2]<;>first|with_reducible rfl|omega)|omega)
       |(with_reducible apply A2;· first|with_reducible rfl|(simp (disch:=omega) only[gF,e4,pk2]<;>omega))
      try simp (disch:=omega) only[e4,pk2]
      rfl
     ·by_cases k3:65<=c
      ·skip
       try unfold Ac
       repeat first
        |((with_reducible first|apply A0|apply Ar|apply Ay|apply At|apply A1|apply Dp|apply As|apply A3|apply Az);· first|with_reducible rfl|(simp (disch:=omega) only[gT,e4,pk2]<;>first|with_reducible rfl|omega)|omega)
        |(with_reducible apply A2;· first|with_reducible rfl|(simp (disch:=omega) only[gF,e4,pk2]<;>omega))
       try simp (disch:=omega) only[e4,pk2]
       rfl
      ·skip
       try unfold Ac
       repeat first
        |((with_reducible first|apply A0|apply Ar|apply Ay|apply At|apply A1|apply Dp|apply As|apply A3|apply Az);· first|with_reducible rfl|(simp (disch:=omega) only[gT,e4,pk2]<;>first|with_reducible rfl|omega)|omega)
        |(with_reducible apply A2;· first|with_reducible rfl|(simp (disch:=omega) only[gF,e4,pk2]<;>omega))
       try simp (disch:=omega) only[e4,pk2]
       rfl
    ·skip
     try unfold Ac
     repeat first
      |((with_reducible first|apply A0|apply Ar|apply Ay|apply At|apply A1|apply Dp|apply As|apply A3|apply Az);· first|with_reducible rfl|(simp (disch:=omega) only[gT,e4,pk2]<;>first|with_reducible rfl|omega)|omega)
      |(with_reducible apply A2;· first|with_reducible rfl|(simp (disch:=omega) only[gF,e4,pk2]<;>omega))
     try simp (disch:=omega) only[e4,pk2]
     rfl
theorem Afh {t:ByteArray}{r:List Int}(Gr:10<=fu)(h:C3 t r)(ht:t.size<=1000000):Af (CX xs) prog fu (d+2) Fm [.pbox (Bv t r)]=some (Ac7 t (O4 4 0 r)):=by
 rw[Jm];exact Rn ht 4 fu 0 r (by omega) (by omega) (by omega) (by decide) h
theorem F1:∀(n:Nat)(x:Int)(l:List Int)(y:Int)(r:List Int),O4 n x l=(some y,r)->0<=x->0<=y∧y<(x+1)*16 ^ n
 |0,x,l,y,r,h,h0=>by
  cases h;omega
 |n+1,x,[],y,r,h,h0=>by cases h
 |n+1,x,c::l,y,r,h,h0=>by
  unfold O4 at h;rcases Z2 c with⟨g1,g2,g3⟩|⟨g1,g2,g3⟩|⟨g1,g2,g3⟩|⟨g1,g2,g3,g4⟩
  ·rw[g3] at h;have:=F1 n _ l y r h (by omega)
   have e:(x*16+(c-48)+1)*16 ^ n<=(x+1)*16 ^ (n+1):=by
    rw[Int.pow_succ,Int.mul_comm (16 ^ n) 16,←Int.mul_assoc];exact Int.mul_le_mul_of_nonneg_right (by omega) (Int.pow_nonneg (by omega))
   omega
  ·rw[g3] at h;have:=F1 n _ l y r h (by omega)
   have e:(x*16+(c-87)+1)*16 ^ n<=(x+1)*16 ^ (n+1):=by
    rw[Int.pow_succ,Int.mul_comm (16 ^ n) 16,←Int.mul_assoc];exact Int.mul_le_mul_of_nonneg_right (by omega) (Int.pow_nonneg (by omega))
   omega
  ·rw[g3] at h;have:=F1 n _ l y r h (by omega)
   have e:(x*16+(c-55)+1)*16 ^ n<=(x+1)*16 ^ (n+1):=by
    rw[Int.pow_succ,Int.mul_comm (16 ^ n) 16,←Int.mul_assoc];exact Int.mul_le_mul_of_nonneg_right (by omega) (Int.pow_nonneg (by omega))
   omega
  ·rw[g4] at h;cases h
theorem Rt {t:ByteArray}:∀(n:Nat)(x:Int)(l:List Int),C3 t l->C3 t (O4 n x l).2
 |0,x,l,h=>h
 |n+1,x,[],h=>h
 |n+1,x,c::l,h=>by
  unfold O4;cases MA c with
  |none=>exact h
  |some v=>exact Rt n _ l h.tail
theorem UZ (l:List Int):ZF l=List.isPrefixOf [92,117] l:=by
 match l with
 |[]=>rfl
 |[a]=>
  unfold ZF;split
  ·rename_i e;cases e
  ·simp[List.isPrefixOf]
 |a::b::r=>
  unfold ZF;split
  ·rename_i e;cases e;rfl
  ·rename_i h
   symm
   rw[Bool.eq_false_iff];intro hp;simp[List.isPrefixOf] at hp;exact h r (by rw[←hp.1,←hp.2])
theorem Ah2 {x:Int}(h0:0<=x)(h1:x<2097152):Se .i32 x 10=x*1024:=by
 show wrap .i32 (x*2 ^ (min (10:Int).toNat IntKind.i32.bits))=_;rw[show min (10:Int).toNat IntKind.i32.bits=10 from rfl]
 exact Ed (by omega) (by omega)
theorem Ags {t:ByteArray}{r:List Int}(Gr:10<=fu)(h:C3 t r)(ht:t.size<=1000000):Af (CX xs) prog fu (d+4) Fd [.pbox (Bv t r)]=some (Ac7 t (Ls r)):=by
 have hx:=Afh (d:=d+1) (xs:=xs) Gr h ht;have hs:=Rt 4 0 r h;have hb:=F1 4 0 r;rw[Iw];unfold Ls;rcases hq:O4 4 0 r with⟨o,r1⟩;rw[hq] at hx hs;simp only at hs;cases o with
 |none=>
  have Mv:Af (CX xs) prog fu (d+3) 114 [.pbox (Bv t r)]=some ⟨[.sc (.int .i32 0),.sc (.bool false)],[Bv t r1]⟩:=hx
  try unfold Ac
  repeat first
   |((with_reducible first|apply A0|apply Ar|apply Ay|apply At|apply A1|apply Dp|apply As|apply A3|apply Az);· first|with_reducible rfl|(simp (disch:=omega) only[gT,Mv,Dw]<;>first|with_reducible rfl|omega)|omega)
   |(with_reducible apply A2;· first|with_reducible rfl|(simp (disch:=omega) only[gF,Mv,Dw]<;>omega))
  try simp (disch:=omega) only[Mv,Dw]
  rfl
 |some x=>
  have Mv:Af (CX xs) prog fu (d+3) 114 [.pbox (Bv t r)]=some ⟨[.sc (.int .i32 x),.sc (.bool true)],[Bv t r1]⟩:=hx;have bx:=hb x r1 hq (by omega)
  have lw:∀x,Af (CX xs) prog fu (d+3) 115 [.sc (.int .i32 x)]=some ⟨[.sc (.bool (DJ x))],[]⟩:=fun x=>Acy (d:=d+2) x
  cases hl:DJ x
  ·simp only[hl,Bool.false_eq_true,if_false];by_cases c1:x<55296
   ·rw[Fa (Or.inl c1)]
    try unfold Ac
    repeat first
     |((with_reducible first|apply A0|apply Ar|apply Ay|apply At|apply A1|apply Dp|apply As|apply A3|apply Az);· first|with_reducible rfl|(simp (disch:=omega) only[gT,Mv,lw,hl,Db]<;>first|with_reducible rfl|omega)|omega)
     |(with_reducible apply A2;· first|with_reducible rfl|(simp (disch:=omega) only[gF,Mv,lw,hl,Db]<;>omega))
    try simp (disch:=omega) only[Mv,lw,hl,Db]
    rfl
   ·by_cases c2:56319<x
    ·rw[Fa (Or.inr c2)]
     try unfold Ac
     repeat first
      |((with_reducible first|apply A0|apply Ar|apply Ay|apply At|apply A1|apply Dp|apply As|apply A3|apply Az);· first|with_reducible rfl|(simp (disch:=omega) only[gT,Mv,lw,hl,Db]<;>first|with_reducible rfl|omega)|omega)
      |(with_reducible apply A2;· first|with_reducible rfl|(simp (disch:=omega) only[gF,Mv,lw,hl,Db]<;>omega))
     try simp (disch:=omega) only[Mv,lw,hl,Db]
     rfl
    ·rw[D1 (by omega)]
     have ha:=Nv (fu:=fu) (d:=d) (xs:=xs) hs ht (w:=[92,117]) (fun x hx=>by simp at hx;rcases hx with rfl|rfl<;>omega) (by decide)
     unfold Ao at ha;rw[←UZ] at ha;cases hB:ZF r1
     ·rw[hB,D1 (by simp)] at ha
      simp only[Bool.false_eq_true,if_false];have Hz:Af (CX xs) prog fu (d+3) 67 [.pbox (Bv t r1),.sc (.string (ByteArray.mk #[(92:UInt8),(117:UInt8)]))]=some ⟨[.sc (.bool false)],[Bv t r1]⟩:=ha
      try unfold Ac
      repeat first
       |((with_reducible first|apply A0|apply Ar|apply Ay|apply At|apply A1|apply Dp|apply As|apply A3|apply Az);· first|with_reducible rfl|(simp (disch:=omega) only[gT,Mv,lw,hl,Hz,Db,Dw]<;>first|with_reducible rfl|omega)|omega)
       |(with_reducible apply A2;· first|with_reducible rfl|(simp (disch:=omega) only[gF,Mv,lw,hl,Hz,Db,Dw]<;>omega))
      try simp (disch:=omega) only[Mv,lw,hl,Hz,Db,Dw]
      rfl
     ·rw[hB,Fa rfl] at ha;simp only[if_true];have Hz:Af (CX xs) prog fu (d+3) 67 [.pbox (Bv t r1),.sc (.string (ByteArray.mk #[(92:UInt8),(117:UInt8)]))]=some ⟨[.sc (.bool true)],[Bv t (r1.drop 2)]⟩:=ha;have hy:=Afh (d:=d+1) (xs:=xs) Gr (hs.drop 2) ht;have SF:=F1 4 0 (r1.drop 2);unfold OM;rcases Jt:O4 4 0 (r1.drop 2) with⟨o2,r2⟩;rw[Jt] at hy;cases o2 with
      |none=>
       have UB:Af (CX xs) prog fu (d+3) 114 [.pbox (Bv t (r1.drop 2))]=some ⟨[.sc (.int .i32 0),.sc (.bool false)],[Bv t r2]⟩:=hy
       try unfold Ac
       repeat first
        |((with_reducible first|apply A0|apply Ar|apply Ay|apply At|apply A1|apply Dp|apply As|apply A3|apply Az);· first|with_reducible rfl|(simp (disch:=omega) only[gT,Mv,lw,hl,Hz,UB,Db,Dw]<;>first|with_reducible rfl|omega)|omega)
        |(with_reducible apply A2;· first|with_reducible rfl|(simp (disch:=omega) only[gF,Mv,lw,hl,Hz,UB,Db,Dw]<;>omega))
       try simp (disch:=omega) only[Mv,lw,hl,Hz,UB,Db,Dw]
       rfl
      |some y=>
       have UB:Af (CX xs) prog fu (d+3) 114 [.pbox (Bv t (r1.drop 2))]=some ⟨[.sc (.int .i32 y),.sc (.bool true)],[Bv t r2]⟩:=hy;have by_:=SF y r2 Jt (by omega)
       cases M6:DJ y
       ·simp only[Bool.false_eq_true,if_false]
        try unfold Ac
        repeat first
         |((with_reducible first|apply A0|apply Ar|apply Ay|apply At|apply A1|apply Dp|apply As|apply A3|apply Az);· first|with_reducible rfl|(simp (disch:=omega) only[gT,Mv,lw,hl,M6,Hz,UB,Db,Dw]<;>first|with_reducible rfl|omega)|omega)
         |(with_reducible apply A2;· first|with_reducible rfl|(simp (disch:=omega) only[gF,Mv,lw,hl,M6,Hz,UB,Db,Dw]<;>omega))
        try simp (disch:=omega) only[Mv,lw,hl,M6,Hz,UB,Db,Dw]
        rfl
       ·simp only[if_true]
        have ly:56320<=y∧y<=57343:=by
         unfold DJ at M6
         simpa using M6
        have w1:wrap .i32 (x-55296)=x-55296:=Ed (by omega) (by omega)
        have w2:=Ah2 (x:=x-55296) (by omega) (by omega)
        have w3:wrap .i32 (65536+(x-55296)*1024)=65536+(x-55296)*1024:=Ed (by omega) (by omega)
        have w4:wrap .i32 (y-56320)=y-56320:=Ed (by omega) (by omega)
        have w5:wrap .i32 (65536+(x-55296)*1024+(y-56320))=65536+(x-55296)*1024+(y-56320):=Ed (by omega) (by omega)
        try unfold Ac
        repeat first
         |((with_reducible first|apply A0|apply Ar|apply Ay|apply At|apply A1|apply Dp|apply As|apply A3|apply Az);· first|with_reducible rfl|(simp (disch:=omega) only[gT,Mv,lw,hl,M6,Hz,UB,w1,w2,w3,w4,w5,Db,Dw]<;>first|with_reducible rfl|omega)|omega)
         |(with_reducible apply A2;· first|with_reducible rfl|(simp (disch:=omega) only[gF,Mv,lw,hl,M6,Hz,UB,w1,w2,w3,w4,w5,Db,Dw]<;>omega))
        try simp (disch:=omega) only[Mv,lw,hl,M6,Hz,UB,w1,w2,w3,w4,w5,Db,Dw]
        rfl
  ·simp only[if_true]
   try unfold Ac
   repeat first
    |((with_reducible first|apply A0|apply Ar|apply Ay|apply At|apply A1|apply Dp|apply As|apply A3|apply Az);· first|with_reducible rfl|(simp (disch:=omega) only[gT,Mv,lw,hl,Db]<;>first|with_reducible rfl|omega)|omega)
    |(with_reducible apply A2;· first|with_reducible rfl|(simp (disch:=omega) only[gF,Mv,lw,hl,Db]<;>omega))
   try simp (disch:=omega) only[Mv,lw,hl,Db]
   rfl
theorem CK (c:Int):(c=34∧P5 c=some 34)∨(c=92∧P5 c=some 92)∨(c=47∧P5 c=some 47)∨(c=98∧P5 c=some 8)∨(c=102∧P5 c=some 12)∨(c=110∧P5 c=some 10)∨(c=114∧P5 c=some 13)∨(c=116∧P5 c=some 9) ∨
  ((c≠34∧c≠92∧c≠47∧c≠98∧c≠102∧c≠110∧c≠114∧c≠116)∧P5 c=none):=by
 by_cases h1:c=34
 ·subst h1;exact .inl ⟨rfl,rfl⟩
 by_cases h2:c=92
 ·subst h2;exact .inr (.inl ⟨rfl,rfl⟩)
 by_cases h3:c=47
 ·subst h3;exact .inr (.inr (.inl ⟨rfl,rfl⟩))
 by_cases h4:c=98
 ·subst h4;exact .inr (.inr (.inr (.inl ⟨rfl,rfl⟩)))
 by_cases h5:c=102
 ·subst h5;exact .inr (.inr (.inr (.inr (.inl ⟨rfl,rfl⟩))))
 by_cases h6:c=110
 ·subst h6;exact .inr (.inr (.inr (.inr (.inr (.inl ⟨rfl,rfl⟩)))))
 by_cases h7:c=114
 ·subst h7;exact .inr (.inr (.inr (.inr (.inr (.inr (.inl ⟨rfl,rfl⟩))))))
 by_cases h8:c=116
 ·subst h8;exact .inr (.inr (.inr (.inr (.inr (.inr (.inr (.inl ⟨rfl,rfl⟩)))))))
 refine .inr (.inr (.inr (.inr (.inr (.inr (.inr (.inr ⟨⟨h1,h2,h3,h4,h5,h6,h7,h8⟩,?_⟩)))))));unfold P5;rw[D1 (by omega),D1 h4,D1 h5,D1 h6,D1 h7,D1 h8]
theorem Ao5 {t:ByteArray}{r:List Int}(Gr:10<=fu)(h:C3 t r)(ht:t.size<=1000000):Af (CX xs) prog fu (d+5) Et [.pbox (Bv t r)]=some (Ac7 t (La r)):=by
 have ha:=Nv (fu:=fu) (d:=d+1) (xs:=xs) h ht (w:=[117]) (fun x hx=>by simp at hx;omega) (by decide)
 have hl:=h.len;rw[H1];cases r with
 |nil=>
  have Hz:Af (CX xs) prog fu (d+4) 67 [.pbox (Bv t []),.sc (.string (ByteArray.mk #[(117:UInt8)]))]=some ⟨[.sc (.bool false)],[Bv t []]⟩:=ha;have pk:Af (CX xs) prog fu (d+4) 90 [.pbox (Bv t [])]=some ⟨[.sc (.int .u8 0)],[Bv t []]⟩:=J5 (d:=d+3) h;have w0:wrap .i32 0=0:=rfl
  try unfold Ac
  repeat first
   |((with_reducible first|apply A0|apply Ar|apply Ay|apply At|apply A1|apply Dp|apply As|apply A3|apply Az);· first|with_reducible rfl|(simp (disch:=omega) only[gT,Hz,pk,w0,Int.reduceBEq]<;>first|with_reducible rfl|omega)|omega)
   |(with_reducible apply A2;· first|with_reducible rfl|(simp (disch:=omega) only[gF,Hz,pk,w0,Int.reduceBEq]<;>omega))
  try simp (disch:=omega) only[Hz,pk,w0,Int.reduceBEq]
  rfl
 |cons c r=>
  have hc:=h.B c (by simp)
  have hp:=Jq h
  have e6:wrap .i64 ((Bp t (c::r):Int)+1)=(Bp t r:Int):=by
   rw[hp,Bj (by unfold Bp;omega) (by unfold Bp;omega)];omega
  have w0:wrap .i32 c=c:=Ed (by omega) (by omega)
  have pk:Af (CX xs) prog fu (d+4) 90 [.pbox (Bv t (c::r))]=some ⟨[.sc (.int .u8 c)],[Bv t (c::r)]⟩:=J5 (d:=d+3) h;have he:La (c::r)=if c=117 then Ls r else match P5 c with|some x=>(some x,r)|none=>(none,c::r):=rfl
  rw[he];unfold Ao at ha;by_cases hu:c=117
  ·subst hu;rw[Fa rfl];have Hz:Af (CX xs) prog fu (d+4) 67 [.pbox (Bv t (117::r)),.sc (.string (ByteArray.mk #[(117:UInt8)]))]=some ⟨[.sc (.bool true)],[Bv t r]⟩:=ha;have hcd:Af (CX xs) prog fu (d+4) 105 [.pbox (Bv t r)]=some ⟨[.sc (.int .i32 ((Ls r).1.getD 0)),.sc (.bool (Ls r).1.isSome)],[Bv t (Ls r).2]⟩:=Ags Gr h.tail ht
   try unfold Ac
   repeat first
    |((with_reducible first|apply A0|apply Ar|apply Ay|apply At|apply A1|apply Dp|apply As|apply A3|apply Az);· first|with_reducible rfl|(simp (disch:=omega) only[gT,Hz,hcd]<;>first|with_reducible rfl|omega)|omega)
    |(with_reducible apply A2;· first|with_reducible rfl|(simp (disch:=omega) only[gF,Hz,hcd]<;>omega))
   try simp (disch:=omega) only[Hz,hcd]
   rfl
  ·rw[D1 hu]
   have hb:(List.isPrefixOf [117] (c::r))=false:=by
    rw[Bool.eq_false_iff];intro hp;simp[List.isPrefixOf] at hp;exact hu hp.symm
   rw[hb,D1 (by simp)] at ha
   have Hz:Af (CX xs) prog fu (d+4) 67 [.pbox (Bv t (c::r)),.sc (.string (ByteArray.mk #[(117:UInt8)]))]=some ⟨[.sc (.bool false)],[Bv t (c::r)]⟩:=ha;rcases CK c with⟨rfl,g⟩|⟨rfl,g⟩|⟨rfl,g⟩|⟨rfl,g⟩|⟨rfl,g⟩|⟨rfl,g⟩|⟨rfl,g⟩|⟨rfl,g⟩|⟨g1,g⟩
   ·rw[g]
    try unfold Ac
    repeat first
     |((with_reducible first|apply A0|apply Ar|apply Ay|apply At|apply A1|apply Dp|apply As|apply A3|apply Az);· first|with_reducible rfl|(simp (disch:=omega) only[gT,Hz,pk,w0,e6,Int.reduceBEq]<;>first|with_reducible rfl|omega)|omega)
     |(with_reducible apply A2;· first|with_reducible rfl|(simp (disch:=omega) only[gF,Hz,pk,w0,e6,Int.reduceBEq]<;>omega))
    try simp (disch:=omega) only[Hz,pk,w0,e6,Int.reduceBEq]
    rfl
   ·rw[g]
    try unfold Ac
    repeat first
     |((with_reducible first|apply A0|apply Ar|apply Ay|apply At|apply A1|apply Dp|apply As|apply A3|apply Az);· first|with_reducible rfl|(simp (disch:=omega) only[gT,Hz,pk,w0,e6,Int.reduceBEq]<;>first|with_reducible rfl|omega)|omega)
     |(with_reducible apply A2;· first|with_reducible rfl|(simp (disch:=omega) only[gF,Hz,pk,w0,e6,Int.reduceBEq]<;>omega))
    try simp (disch:=omega) only[Hz,pk,w0,e6,Int.reduceBEq]
    rfl
   ·rw[g]
    try unfold Ac
    repeat first
     |((with_reducible first|apply A0|apply Ar|apply Ay|apply At|apply A1|apply Dp|apply As|apply A3|apply Az);· first|with_reducible rfl|(simp (disch:=omega) only[gT,Hz,pk,w0,e6,Int.reduceBEq]<;>first|with_reducible rfl|omega)|omega)
     |(with_reducible apply A2;· first|with_reducible rfl|(simp (disch:=omega) only[gF,Hz,pk,w0,e6,Int.reduceBEq]<;>omega))
    try simp (disch:=omega) only[Hz,pk,w0,e6,Int.reduceBEq]
    rfl
   ·rw[g]
    try unfold Ac
    repeat first
     |((with_reducible first|apply A0|apply Ar|apply Ay|apply At|apply A1|apply Dp|apply As|apply A3|apply Az);· first|with_reducible rfl|(simp (disch:=omega) only[gT,Hz,pk,w0,e6,Int.reduceBEq]<;>first|with_reducible rfl|omega)|omega)
     |(with_reducible apply A2;· first|with_reducible rfl|(simp (disch:=omega) only[gF,Hz,pk,w0,e6,Int.reduceBEq]<;>omega))
    try simp (disch:=omega) only[Hz,pk,w0,e6,Int.reduceBEq]
    rfl
   ·rw[g]
    try unfold Ac
    repeat first
     |((with_reducible first|apply A0|apply Ar|apply Ay|apply At|apply A1|apply Dp|apply As|apply A3|apply Az);· first|with_reducible rfl|(simp (disch:=omega) only[gT,Hz,pk,w0,e6,Int.reduceBEq]<;>first|with_reducible rfl|omega)|omega)
     |(with_reducible apply A2;· first|with_reducible rfl|(simp (disch:=omega) only[gF,Hz,pk,w0,e6,Int.reduceBEq]<;>omega))
    try simp (disch:=omega) only[Hz,pk,w0,e6,Int.reduceBEq]
    rfl
   ·rw[g]
    try unfold Ac
    repeat first
     |((with_reducible first|apply A0|apply Ar|apply Ay|apply At|apply A1|apply Dp|apply As|apply A3|apply Az);· first|with_reducible rfl|(simp (disch:=omega) only[gT,Hz,pk,w0,e6,Int.reduceBEq]<;>first|with_reducible rfl|omega)|omega)
     |(with_reducible apply A2;· first|with_reducible rfl|(simp (disch:=omega) only[gF,Hz,pk,w0,e6,Int.reduceBEq]<;>omega))
    try simp (disch:=omega) only[Hz,pk,w0,e6,Int.reduceBEq]
    rfl
   ·rw[g]
    try unfold Ac
    repeat first
     |((with_reducible first|apply A0|apply Ar|apply Ay|apply At|apply A1|apply Dp|apply As|apply A3|apply Az);· first|with_reducible rfl|(simp (disch:=omega) only[gT,Hz,pk,w0,e6,Int.reduceBEq]<;>first|with_reducible rfl|omega)|omega)
     |(with_reducible apply A2;· first|with_reducible rfl|(simp (disch:=omega) only[gF,Hz,pk,w0,e6,Int.reduceBEq]<;>omega))
    try simp (disch:=omega) only[Hz,pk,w0,e6,Int.reduceBEq]
    rfl
   ·rw[g]
    try unfold Ac
    repeat first
     |((with_reducible first|apply A0|apply Ar|apply Ay|apply At|apply A1|apply Dp|apply As|apply A3|apply Az);· first|with_reducible rfl|(simp (disch:=omega) only[gT,Hz,pk,w0,e6,Int.reduceBEq]<;>first|with_reducible rfl|omega)|omega)
     |(with_reducible apply A2;· first|with_reducible rfl|(simp (disch:=omega) only[gF,Hz,pk,w0,e6,Int.reduceBEq]<;>omega))
    try simp (disch:=omega) only[Hz,pk,w0,e6,Int.reduceBEq]
    rfl
   ·rw[g];obtain⟨n1,n2,n3,n4,n5,n6,n7,n8⟩:=g1;have m1:(c==(34:Int))=false:=by simp[n1]
    have m2:(c==(92:Int))=false:=by simp[n2]
    have m3:(c==(47:Int))=false:=by simp[n3]
    have m4:(c==(98:Int))=false:=by simp[n4]
    have m5:(c==(102:Int))=false:=by simp[n5]
    have m6:(c==(110:Int))=false:=by simp[n6]
    have m7:(c==(114:Int))=false:=by simp[n7]
    have m8:(c==(116:Int))=false:=by simp[n8]
    try unfold Ac
    repeat first
     |((with_reducible first|apply A0|apply Ar|apply Ay|apply At|apply A1|apply Dp|apply As|apply A3|apply Az);· first|with_reducible rfl|(simp (disch:=omega) only[gT,Hz,pk,w0,e6,m1,m2,m3,m4,m5,m6,m7,m8]<;>first|with_reducible rfl|omega)|omega)
     |(with_reducible apply A2;· first|with_reducible rfl|(simp (disch:=omega) only[gF,Hz,pk,w0,e6,m1,m2,m3,m4,m5,m6,m7,m8]<;>omega))
    try simp (disch:=omega) only[Hz,pk,w0,e6,m1,m2,m3,m4,m5,m6,m7,m8]
    rfl
theorem M9 {t:ByteArray}{l:List Int}(h:C3 t l):C3 t (La l).2:=by
 have Anp:∀l,C3 t l->C3 t (Ls l).2:=by
  intro l h;have h1:=Rt 4 0 l h;unfold Ls;rcases hq:O4 4 0 l with⟨o,r⟩;rw[hq] at h1;cases o with
  |none=>exact h1
  |some x=>
   simp only;split
   ·exact h1
   split
   ·exact h1
   split
   ·have h2:=Rt 4 0 (r.drop 2) (C3.drop h1 2);unfold OM;rcases Jt:O4 4 0 (r.drop 2) with⟨o2,r2⟩;rw[Jt] at h2;cases o2 with
    |none=>exact h2
    |some y=>
     simp only;split<;>exact h2
   ·exact h1
 cases l with
 |nil=>exact h
 |cons c r=>
  have he:La (c::r)=if c=117 then Ls r else match P5 c with|some x=>(some x,r)|none=>(none,c::r):=rfl
  rw[he];split
  ·exact Anp r h.tail
  ·cases P5 c with
   |none=>exact h
   |some x=>exact h.tail
end
end
section
open Go.Proofs.Tryd (prog)
open Go.IntKind (wrap)
set_option maxRecDepth 20000
open Go Go.RowKit
theorem D4.refl (w:World)(b o n:Nat):D4 w w b o n:=⟨rfl,rfl,rfl,Nat.le_refl _,Fz.refl _ _,fun _ _ _=>rfl,fun _ _=>rfl,fun _ _=>rfl⟩
theorem D4.trans {w w' w'':World}{b o n:Nat}(h:D4 w w' b o n)(k:D4 w' w'' b o n):D4 w w'' b o n:=
 ⟨k.os.trans h.os,k.tape.trans h.tape,k.output.trans h.output,Nat.le_trans h.size k.size,h.grow.trans k.grow,fun i hi D8=>(k.other i (Nat.lt_of_lt_of_le hi h.size) D8).trans (h.other i hi D8),fun j hj=>(k.cells j hj).trans (h.cells j hj),fun j hj=>(k.frz j hj).trans (h.frz j hj)⟩
theorem D4.below {w w' w'':World}{b o n:Nat}(h:D4 w w' b o n)(k:Below w.heap.size w' w'')(hb:b<w.heap.size):D4 w w'' b o n:=
 ⟨k.os.trans h.os,k.tape.trans h.tape,k.output.trans h.output,Nat.le_trans h.size k.size,h.grow.trans (Fz.same (k.block b hb)),fun i hi D8=>(k.block i hi).trans (h.other i hi D8),fun j hj=>(k.cell (p:=⟨b,j,none⟩) hb).trans (h.cells j hj),fun j hj=>(k.frozen (p:=⟨b,j,none⟩) hb).trans (h.frz j hj)⟩
theorem D4.drew {w w':World}{b o n:Nat}(h:D4 w w' b o n):D4 w w'.drew b o n:=⟨h.os,h.tape,h.output,h.size,h.grow,h.other,h.cells,h.frz⟩
theorem D4.setCell (w:World)(b o n j:Nat)(v:Value)(hj:o<=j)(hj2:j<o+n)(hb:b<w.heap.size):D4 w (w.setCell ⟨b,j,none⟩ v) b o n:=by
 have hw:De b w (w.setCell ⟨b,j,none⟩ v):=De.setCells b [v] j w;refine⟨hw.os,hw.tape,hw.output,Nat.le_of_eq hw.size.symm,hw.grow b,fun k hk D8=>hw.other k D8,fun i hi=>?_,fun i _=>hw.frz i⟩
 exact World.cell?_setCell_other _ _ _ _ (by intro e;injection e;omega)
theorem Q9 {T e:TypeId}{B c:Nat}{bs:List Value}{W W':World}{b o n:Nat}(h:Lib.IsBuilderF T e B c bs W)(hk:D4 W W' b o n)(hb:b<B):Lib.IsBuilderF T e B c bs W':=by
 have key:∀p,Lib.BuilderAtF T e B c p bs W->Lib.BuilderAtF T e B c p bs W':=by
  intro p h;have B2:=h.lt;obtain⟨hB,v,hv,E2,D8⟩:=h;refine⟨hB,v,(hk.other c B2 (by omega)).trans hv,E2.kept (row:=some b) ⟨hk.os,hk.tape,hk.output,hk.size,fun k Iy Ak9=>hk.other k Iy (fun e=>Ak9 (by rw[e]))⟩ ?_,D8⟩
  rcases E2.2 with⟨rfl,_⟩|⟨g,cap,cur,fz,rfl,hg,_⟩
  ·exact .inl rfl
  ·refine .inr (fun e=>?_)
   simp[Value.ownBlock] at e;omega
 exact h.imp (key _) (key _)
def GR:Qi:=⟨fun _=>False,fun _=>True,fun _ _ _ _=>trivial⟩
def noR:FuncId->Option (List PV->Option A4):=fun _=>none
theorem Agw:BV GR prog (CX noR):=by
 intro f g args res h _;have h':(bif Q8.any (Nat.beq f) then none else (none:Option (List PV->Option A4)))=some g:=h;cases hb:Q8.any (Nat.beq f)<;>rw[hb] at h'<;>cases h'
theorem ngR:NoNG prog:=by
 have h:(prog.funcs.toList.all fun fn=> !(fn.name == "runtime.NumGoroutine"))=true:=by kernel_rfl
 intro f fn hf;have:=List.all_eq_true.1 h fn (Array.mem_toList_iff.2 (Array.mem_of_getElem? hf))
 simpa using this
theorem mxR:prog.follows .mixedOrders=true:=by kernel_rfl
structure Rg (w:World) (b o:Nat) (t:ByteArray) (r:List Int):Prop where
 lt:b<w.heap.size
 c0:w.cell? ⟨b,o,none⟩=some (.string t)
 c1:w.cell? ⟨b,o+1,none⟩=some (.int .i64 (Bp t r:Int))
 f0:w.frozen? ⟨b,o,none⟩=false
 f1:w.frozen? ⟨b,o+1,none⟩=false
theorem EM {f:FuncId}{t:ByteArray}{r r':List Int}{args vals:List PV}{us rs:List Value}{d:Nat}(e:Af (CX noR) prog 2000 d f (.pbox (Bv t r)::args)=some ⟨vals,[Bv t r']⟩) (ha:Bc Yn args us)(hr:Bc Yn vals rs)
  {w:World} {b o:Nat} (h:Rg w b o t r):Calls prog f (.pointer (some ⟨b,o,none⟩)::us).toArray w fun e w'=>e=.returned (Gc rs)∧Rg w' b o t r'∧D4 w w' b o 2:=by
 have hs:Cx GR prog f (.pbox ([Value.string t,.int .i64 (Bp t r:Int)].map .sc)::args) ⟨vals,[[Value.string t,.int .i64 (Bp t r':Int)].map .sc]⟩:=G2 ngR mxR Agw d f _ _ e;refine (BA hs ha hr (w:=w) (b:=b) (o:=o) trivial (fun _ h=>h.elim) h.lt ?_ ?_).mono ?_
 ·intro j v hv
  match j,hv with
  |0,hv=>cases hv;exact h.c0
  |1,hv=>cases hv;exact h.c1
 ·intro j hj
  match j,hj with
  |0,_=>exact h.f0
  |1,_=>exact h.f1
 ·rintro e w' ⟨rfl,_,h4,h5,hk⟩
  exact⟨rfl,⟨Nat.lt_of_lt_of_le h.lt hk.size,h4 0 _ rfl,h4 1 _ rfl,h5 0 (Nat.zero_lt_succ _),h5 1 (Nat.succ_lt_succ (Nat.zero_lt_succ _))⟩,hk⟩
theorem F6 {t:ByteArray}{r w0:List Int}(hS:C3 t r)(ht:t.size<=1000000)(hw:Ds w0)(hw2:w0.length<=100){w:World}{b o:Nat}(h:Rg w b o t r):
  Calls prog 67 #[.pointer (some ⟨b,o,none⟩),.string (Ab w0)] w fun e w'=>e=.returned (.bool (Ao w0 r).isSome)∧Rg w' b o t ((Ao w0 r).getD r)∧D4 w w' b o 2:=by
 have e:=Nv (fu:=2000) (d:=0) (xs:=noR) hS ht hw hw2;cases hq:Ao w0 r with
 |none=>
  rw[hq] at e;exact EM (us:=[.string (Ab w0)]) (rs:=[.bool false]) e ⟨.inl rfl,trivial⟩ ⟨.inl rfl,trivial⟩ h
 |some r'=>
  rw[hq] at e;exact EM (us:=[.string (Ab w0)]) (rs:=[.bool true]) e ⟨.inl rfl,trivial⟩ ⟨.inl rfl,trivial⟩ h
theorem SN {t:ByteArray}{r:List Int}(hS:C3 t r)(ht:t.size<=1000000){w:World}{b o:Nat}(h:Rg w b o t r):
  Calls prog 88 #[.pointer (some ⟨b,o,none⟩)] w fun e w'=>e=.returned (.tuple #[.int .i32 ((La r).1.getD 0),.bool (La r).1.isSome])∧Rg w' b o t (La r).2∧D4 w w' b o 2:=by
 have e:=Ao5 (fu:=2000) (d:=0) (xs:=noR) (by omega) hS ht
 exact EM (us:=[]) (rs:=[.int .i32 ((La r).1.getD 0),.bool (La r).1.isSome]) e trivial ⟨.inl rfl,.inl rfl,trivial⟩ h
end
section
open Go.Proofs.Tryd (prog)
open Go.IntKind (wrap)
set_option maxRecDepth 1000000
open Go Go.RowKit Go.Lib
def Ayx (o:Option (List Int)):Value:=.tuple #[.string (Ab (o.getD [])),.bool o.isSome]
theorem Rg.below {B:Nat}{w w':World}{b o:Nat}{t:ByteArray}{r:List Int}(h:Rg w b o t r)(hb:Below B w w')(hB:b<B):Rg w' b o t r:=
 ⟨Nat.lt_of_lt_of_le h.lt hb.size,(hb.cell (p:=⟨b,o,none⟩) hB).trans h.c0,(hb.cell (p:=⟨b,o+1,none⟩) hB).trans h.c1,(hb.frozen (p:=⟨b,o,none⟩) hB).trans h.f0,(hb.frozen (p:=⟨b,o+1,none⟩) hB).trans h.f1⟩
theorem ZD {l:List Int}(h:Ds l):(La l).2.length<=l.length:=by
 have h1:C3 (Ab l) l:=⟨[],by rw[C9 h];rfl⟩
 have:=(M9 h1).len
 rwa [Av] at this
theorem DF {l r:List Int}{x:Int}(h:Ls l=(some x,r)):0<=x∧x<=1114111:=by
 have hb:=F1 4 0 l;unfold Ls at h;rcases hq:O4 4 0 l with⟨o,r1⟩;rw[hq] at h;cases o with
 |none=>cases h
 |some y=>
  have by_:=hb y r1 hq (by omega)
  simp only at h;split at h
  ·cases h
  split at h
  ·cases h;omega
  split at h
  ·have Gl:=F1 4 0 (r1.drop 2);unfold OM at h;rcases Jt:O4 4 0 (r1.drop 2) with⟨o2,r2⟩;rw[Jt] at h;cases o2 with
   |none=>cases h
   |some z=>
    have bz:=Gl z r2 Jt (by omega)
    simp only at h;split at h
    ·rename_i hz
     have lz:56320<=z∧z<=57343:=by
      unfold DJ at hz
      simpa using hz
     cases h;omega
    ·cases h
  ·cases h
theorem FU {l r:List Int}{x:Int}(h:La l=(some x,r)):0<=x∧x<=1114111:=by
 cases l with
 |nil=>cases h
 |cons c l=>
  have he:La (c::l)=if c=117 then Ls l else match P5 c with|some x=>(some x,l)|none=>(none,c::l):=rfl
  rw[he] at h;split at h
  ·exact DF h
  ·rcases CK c with⟨rfl,g⟩|⟨rfl,g⟩|⟨rfl,g⟩|⟨rfl,g⟩|⟨rfl,g⟩|⟨rfl,g⟩|⟨rfl,g⟩|⟨rfl,g⟩|⟨g1,g⟩<;>rw[g] at h<;>cases h<;>omega
set_option maxHeartbeats 4000000 in
theorem FT {t:ByteArray}{r:List Int}(hS:C3 t r)(ht:t.size<=1000000){w:World}{b o:Nat}(h:Rg w b o t r):
    Calls prog 68 #[.pointer (some ⟨b,o,none⟩)] w fun e w'=>e=.returned (Ayx (El r).1)∧Rg w' b o t (El r).2∧D4 w w' b o 2:=by
  have mixed:prog.follows Departure.mixedOrders=true:=by kernel_rfl
  have hac:=F6 hS ht (w0:=[34]) (fun x hx=>by simp at hx;omega) (by decide) h
  go_enter Tryd.func68,Tryd.ntmps68
  go_wp2_with (go_at_call 67;refine hac.mono ?_)
  rintro e W1 ⟨rfl,h1,k1⟩
  cases hq:Ao [34] r with
  |none=>
    rw[hq] at h1
    go_wp2
    go_ret2
    have e:El r=(none,r):=by
      cases r with
      |nil=>rfl
      |cons c l=>
        have hc:c≠34:=by
          rintro rfl
          unfold Ao at hq
          rw[Fa (by simp[List.isPrefixOf])] at hq
          cases hq
        show (if c=34 then _ else (none,c::l))=_
        rw[D1 hc]
    rw[e]
    exact⟨rfl,h1,k1⟩
  |some r1=>
    rw[hq] at h1
    have Y1:r=34::r1:=by
      unfold Ao at hq
      split at hq
      · rename_i hp
        obtain⟨s,hs⟩:=List.isPrefixOf_iff_prefix.1 hp
        rw[←hs] at hq ⊢
        cases hq
        rfl
      · cases hq
    subst Y1
    have e:El (34::r1)=Ix (r1.length+1) [] r1:=by
      show (if (34:Int)=34 then Ix (r1.length+1) [] r1 else (none,34::r1))=_
      exact Fa rfl
    have RL:C3 t r1:=hS.tail
    have h2:Rg (W1.alloc (.cells #[.pointer none,.slice none 0 0] 53)) b o t r1:=by
      have hb:Below W1.heap.size W1 (W1.alloc (.cells #[.pointer none,.slice none 0 0] 53)):=(Below.refl _ W1).alloc (Nat.le_refl _) _
      exact⟨Nat.lt_of_lt_of_le h1.lt hb.size,(hb.cell (p:=⟨b,o,none⟩) h1.lt).trans h1.c0,(hb.cell (p:=⟨b,o+1,none⟩) h1.lt).trans h1.c1,(hb.frozen (p:=⟨b,o,none⟩) h1.lt).trans h1.f0,(hb.frozen (p:=⟨b,o+1,none⟩) h1.lt).trans h1.f1⟩
    have k2:D4 w (W1.alloc (.cells #[.pointer none,.slice none 0 0] 53)) b o 2:=k1.below ((Below.refl _ W1).alloc (Nat.le_refl _) _ |>.mono k1.size) h.lt
    have hB1:b<W1.heap.size:=h1.lt
    have hw1:w.heap.size<=W1.heap.size:=k1.size
    go_wp2
    go_loopw [] (fun wr=>∃(n:Nat) (out l:List Int),Ix (r1.length+1) [] r1=Ix n out l∧l.length<n∧Ds out∧out.length+4*l.length<=4*t.size∧C3 t l∧Rg wr b o t l∧D4 w wr b o 2∧W1.heap.size<=wr.heap.size∧Lib.IsBuilderF 53 5 W1.heap.size W1.heap.size (JK out) wr) (fun wr=>match wr.cell? ⟨b,o+1,none⟩ with|some (.int _ p)=>t.size-p.toNat|_=>0)
    case atStart=>
      exact⟨r1.length+1,[],r1,rfl,Nat.lt_succ_self _,(fun x hx=>by cases hx),(by have:=RL.len;simp;omega),RL,h2,k2,((Below.refl W1.heap.size W1).alloc (Nat.le_refl _) _).size,Lib.IsBuilderF.of (Lib.fresh_isBuilder 53 5 W1)⟩
    case round=>
      obtain⟨n,out,l,Ey,hn,hoB,hol,hSl,hat,hk,hws,hI⟩:=hrel
      obtain⟨B2,hc0,Y6,hf0,hf1⟩:=hat
      cases l with
      |nil=>
        rw[Rd] at Y6
        go_wp2
        go_region_o
        go_wp2
        go_ret2
        rw[e,Ey]
        obtain⟨m,rfl⟩:∃m,n=m+1:=⟨n-1,by omega⟩
        exact⟨rfl,⟨B2,hc0,Y6,hf0,hf1⟩,hk.drew⟩
      |cons c l=>
        obtain⟨m,rfl⟩:∃m,n=m+1:=⟨n-1,by omega⟩
        obtain⟨bb,hbb,rfl⟩:=hSl.at
        have hll:=hSl.len
        have Q0:Bp t ((bb.toNat:Int)::l)<t.size:=by
          unfold Bp
          rw[UR] at hll ⊢
          omega
        have OQ:=Jq hSl
        have GB:t[Bp t ((bb.toNat:Int)::l)]'(Q0)=bb:=by
          rw[Array.getElem?_toList,Array.getElem?_eq_getElem Q0] at hbb
          exact Option.some.inj hbb
        have hcb:=bb.toNat_lt
        generalize hp:Bp t ((bb.toNat:Int)::l)=p at *
        have A5b:(p:Int)<t.size:=by omega
        have kw:D4 wr (wr.setCell ⟨b,o+1,none⟩ (.int .i64 ((p:Int)+1))).drew.drew b o 2:=((D4.setCell wr b o 2 (o+1) _ (by omega) (by omega) B2).drew).drew
        have D3:=hk.trans kw
        have KU:=Q9 hI kw hB1
        have DC:Rg (wr.setCell ⟨b,o+1,none⟩ (.int .i64 ((p:Int)+1))).drew.drew b o t l:=by
          refine⟨Nat.lt_of_lt_of_le B2 kw.size,?_,?_,?_,?_⟩
          · exact (World.cell?_setCell_other _ _ _ _ (by intro e;injection e;omega)).trans hc0
          · have:(Bp t l:Int)=(p:Int)+1:=by omega
            rw[this]
            exact World.cell?_setCell_same _ _ _ Y6
          · exact (World.frozen?_setCell _ _ _ _).trans hf0
          · exact (World.frozen?_setCell _ _ _ _).trans hf1
        have Aek:W1.heap.size<=(wr.setCell ⟨b,o+1,none⟩ (.int .i64 ((p:Int)+1))).drew.drew.heap.size:=Nat.le_trans hws kw.size
        have UN:Ix (m+1) out ((bb.toNat:Int)::l)=if (bb.toNat:Int)<32 then (none,(bb.toNat:Int)::l) else if (bb.toNat:Int)=34 then (some out,l) else if (bb.toNat:Int)=92 then
            (match La l with
             |(some x,r')=>Ix m (out++Lib.encodeRuneZ x) r'
             |(none,r')=>(none,r')) else Ix m (out++[(bb.toNat:Int)]) l:=rfl
        rw[UN] at Ey
        have A29:(JK out).length+4<=140737488355328:=by
          rw[List.length_map]
          omega
        by_cases Amo:(bb.toNat:Int)<32
        · rw[Fa Amo] at Ey
          go_wp2
          go_region_o
          go_wp2
          go_region_o
          go_wp2
          go_ret2
          rw[e,Ey]
          exact⟨rfl,⟨B2,hc0,by rw[hp];exact Y6,hf0,hf1⟩,hk.drew.drew⟩
        · rw[D1 Amo] at Ey
          by_cases Aon:(bb.toNat:Int)=34
          · rw[Fa Aon] at Ey
            go_wp2
            go_region_o
            go_wp2
            go_region_o
            go_wp2_with (go_at_call 25;refine (Any.Builder_String_any_k Yz Oe W1.heap.size W1.heap.size (out.map fun n=>n.toNat.toUInt8) _ (by rw[←Te hoB];exact KU) Aek).mono ?_)
            rintro e2 W3 ⟨rfl,_,b3,_⟩
            go_wp2
            go_ret2
            rw[e,Ey]
            exact⟨rfl,DC.below b3 hB1,D3.below (b3.mono hw1) h.lt⟩
          · rw[D1 Aon] at Ey
            by_cases Aom:(bb.toNat:Int)=92
            · rw[Fa Aom] at Ey
              have Df:=SN hSl.tail ht DC
              go_wp2
              go_region_o
              go_wp2
              go_region_o
              go_wp2_with (go_at_call 88;refine Df.mono ?_)
              rintro e2 W3 ⟨rfl,TL,k3⟩
              have Iq:=D3.trans k3
              have hI3:=Q9 KU k3 hB1
              have Ap9:=Nat.le_trans Aek k3.size
              have hel:=ZD (l:=l) hSl.tail.B
              have Pf:=M9 hSl.tail
              rcases hqe:La l with⟨oe,le⟩
              rw[hqe] at TL Ey hel Pf
              cases oe with
              |none=>
                go_wp2
                go_ret2
                rw[e,Ey]
                exact⟨rfl,TL,Iq⟩
              |some x=>
                have Ir:=FU hqe
                go_wp2_with (go_at_call 89;refine (Any.Builder_WriteRune_k NH Oe W1.heap.size W1.heap.size _ x (by omega) (by omega) _ hI3 (by omega) Ap9).mono ?_)
                rintro e3 W4 ⟨rfl,i4,b4,_⟩
                go_wp2
                have Aml:=TL.below b4 hB1
                have hrl:=Lib.encodeRuneZ_length x
                refine⟨⟨m,out++Lib.encodeRuneZ x,le,Ey,by simp at hn hel;omega,Kf hoB (fun y hy=>by have:=Lib.encodeRuneZ_byte x y hy;omega),by simp at hol hel ⊢;omega,Pf,Aml,Iq.below (b4.mono hw1) h.lt,Nat.le_trans Ap9 b4.size,by rw[EH];exact Or.inr i4⟩,?_⟩
                have Vl:=Pf.len
                have DE:Bp t l<=Bp t le:=by unfold Bp;omega
                have hp4:Bp t le<=t.size:=Nat.sub_le _ _
                simp only[Aml.c1,Y6,Pu]
                omega
            · rw[D1 Aom] at Ey
              go_wp2
              go_region_o
              go_wp2
              go_region_o
              go_wp2_with (go_at_call 24;refine (Any.Builder_WriteByte_k Wq Oe W1.heap.size W1.heap.size _ _ _ KU (by omega) Aek).mono ?_)
              rintro e2 W3 ⟨rfl,i3,b3,_⟩
              go_wp2
              have TL:=DC.below b3 hB1
              refine⟨⟨m,out++[(bb.toNat:Int)],l,Ey,by simp at hn;omega,Kf hoB (fun x hx=>by simp at hx;omega),by simp at hol ⊢;omega,hSl.tail,TL,D3.below (b3.mono hw1) h.lt,Nat.le_trans Aek b3.size,by rw[EH];exact Or.inr i3⟩,?_⟩
              simp only[TL.c1,Y6,Pu]
              omega
end
section
open Go.Proofs.Tryd (prog)
open Go.IntKind (wrap)
set_option maxRecDepth 100000
open Go Go.RowKit
theorem Wt {t:ByteArray}:∀(n:Nat)(out l:List Int),C3 t l->C3 t (Ix n out l).2
  |0,_,_,h=>h
  |_+1,_,[],h=>h
  |n+1,out,c::l,h=>by
    have e:Ix (n+1) out (c::l)=if c<32 then (none,c::l) else if c=34 then (some out,l) else if c=92 then
        (match La l with
         |(some x,r')=>Ix n (out++Lib.encodeRuneZ x) r'
         |(none,r')=>(none,r')) else Ix n (out++[c]) l:=rfl
    rw[e]
    split
    · exact h
    split
    · exact h.tail
    split
    · have h2:=M9 h.tail
      rcases hq:La l with⟨o,r⟩
      rw[hq] at h2
      cases o with
      |none=>exact h2
      |some x=>exact Wt n _ r h2
    · exact Wt n _ l h.tail
theorem F3 {t:ByteArray}{l:List Int}(h:C3 t l):C3 t (El l).2:=by
 cases l with
 |nil=>exact h
 |cons c l=>
  have e:El (c::l)=if c=34 then Ix (l.length+1) [] l else (none,c::l):=rfl
  rw[e];split
  ·exact Wt _ _ _ h.tail
  ·exact h
theorem UY {w w':World}{Y:Nat->Prop}{bt:Ss}{vs vs':List Value}{us:List Value}{b o:Nat}{a c:Value}(hi:Ins w Y bt [.pbox (vs.map .sc)] us) (hb:bt 0 0=some (b,o)) (hk:D4 w w' b o vs.length)(hl:vs'.length=vs.length)
  (hc:∀j v,vs'[j]?=some v->w'.cell? ⟨b,o+j,none⟩=some v) (hf:∀j,j<vs.length->w'.frozen? ⟨b,o+j,none⟩=false):
  Out w w' Y bt [.pbox (vs.map .sc)] (fun _=>none) ⟨[.sc a,.sc c],[vs'.map .sc]⟩ [a,c] where
 os:=hk.os
 tape:=hk.tape
 output:=hk.output
 ext:=⟨hk.size,fun k h D8=>hk.other k h (fun e=>D8 (by rw[e];exact⟨0,0,o,hb⟩)),fun k h=>by
  by_cases e:k=b
  ·rw[e];exact hk.grow
  ·exact Fz.same (hk.other k h e)⟩
 rng:=fun k j h hn=>by
  by_cases e:k=b
  ·subst e
   have hj:j<o∨o+vs.length<=j:=by
    rcases Nat.lt_or_ge j o with h1|h1
    ·exact .inl h1
    ·rcases Nat.lt_or_ge j (o+vs.length) with h2|h2
     ·exact absurd ⟨0,_,rfl,.inr ⟨o,vs.map .sc,hb,h1,.inl ⟨rfl,by rw[List.length_map];exact h2⟩⟩⟩ hn
     ·exact .inr h2
   exact⟨hk.cells j hj,hk.frz j hj⟩
  ·have:=hk.other k h e;exact⟨by unfold World.cell?;simp only[this],by unfold World.frozen?;simp only[this]⟩
 vals:=⟨Aq.sc a,Aq.sc c,trivial⟩
 outs:=⟨⟨b,o,hb,by rw[List.length_map,List.length_map,hl],vs',Oj,hc,fun k h=>hf k (by rw[List.length_map,hl] at h;exact h)⟩,rfl⟩
 fresh:=fun j b o h=>by cases h
 inj:=fun j j' b o o' h=>by cases h
theorem TU (G:Qi)(args:List PV)(res:A4)(h:Aab args=some res):Cx G prog 68 args res:=by
 refine⟨⟨_,Tryd.func68,by kernel_rfl⟩,fun w Y bt us hi _ _=>?_⟩
 unfold Aab at h;split at h
 rotate_left
 ·cases h
 rename_i t p;cases hq:(decide (0<=p)&&decide (p<=t.size)&&Nat.ble t.size 1000000)
 ·rw[hq] at h;cases h
 rw[hq,cond_true] at h;simp only[Bool.and_eq_true,decide_eq_true_eq] at hq;obtain⟨⟨Gf,Ca⟩,hm⟩:=hq;have hm:=Nat.le_of_ble_eq_true hm;obtain⟨p,rfl⟩:=Int.eq_ofNat_of_zero_le Gf;rw[Pu] at h;have hS:C3 t ((E1 t).drop p):=(C3.all t).drop p
 have YG:(Bp t ((E1 t).drop p):Int)=(p:Int):=by
  unfold Bp;rw[List.length_drop,Hi];omega
 have ps:=hi.args
 match us,ps with
 |[u1],ps=>
  obtain⟨b,o,hb,rfl,_,vs,Vq,Cn,UI⟩:=ps.1;have M3:=Ot (vs:=[.string t,.int .i64 (p:Int)]) Vq;subst M3;have hat:Rg w b o t ((E1 t).drop p):=⟨hi.lt b ⟨0,0,o,hb⟩,Cn 0 _ rfl,by rw[YG];exact Cn 1 _ rfl,UI 0 (Nat.zero_lt_succ _),UI 1 (Nat.succ_lt_succ (Nat.zero_lt_succ _))⟩
  refine (FT hS hm hat).mono ?_
  rintro e w' ⟨rfl,DC,hk⟩
  rcases hx:El ((E1 t).drop p) with⟨o2,r2⟩;rw[hx] at h DC
  have Z6:r2.length<=t.size:=by
   have:=F3 hS;rw[hx] at this;exact this.len
  have Am9:(Bp t r2:Int)=(t.size:Int)-r2.length:=by
   unfold Bp;omega
  have Qt:∀a c:Value,Out w w' Y bt [.pbox ([Value.string t,.int .i64 (p:Int)].map .sc)] (fun _=>none) ⟨[.sc a,.sc c],[[Value.string t,.int .i64 ((t.size:Int)-r2.length)].map .sc]⟩ [a,c]:=by
   intro a c;refine UY hi hb hk rfl ?_ ?_
   ·intro j v hv
    match j,hv with
    |0,hv=>cases hv;exact DC.c0
    |1,hv=>cases hv;rw[←Am9];exact DC.c1
   ·intro j hj
    match j,hj with
    |0,_=>exact DC.f0
    |1,_=>exact DC.f1
  cases o2 with
  |none=>
   cases h;exact⟨[.string ⟨#[]⟩,.bool false],fun _=>none,rfl,Qt _ _⟩
  |some s=>
   cases h;exact⟨[.string (Ab s),.bool true],fun _=>none,rfl,Qt _ _⟩
 |[],ps=>exact ps.elim
 |_::_::_,ps=>exact ps.2.elim
end
section
open Go.Proofs.Tryd (prog)
open Go.IntKind (wrap)
set_option maxRecDepth 100000
abbrev I4:FuncId:=27
theorem Ja {p:Option (List PV->Option A4)} (fu d:Nat)(a0:ByteArray)(a1:Int):Af (CP p) prog fu (d+1) I4 [.sc (.string a0),.sc (.int .u8 a1)]=(fun (call:A7)=>Aj (call 40 [.sc (.string a0),.sc (.int .u8 a1)]) fun x1 x2=>Ad x2<|Aa x1 fun x3 x4=>Aw .i64 x3 fun x5=>Ad x4<|some (A4.mk [.sc (.int .i64 x5)] [])) (Af (CP p) prog fu d):=by kernel_rfl
abbrev E5:FuncId:=50
noncomputable def Cz (fu:Nat)(call:A7)(Cd:ByteArray)(B7:Int)(nn:Nat)(y0:ByteArray)(y1:Int):Option A4:=My CB prog fu call 50 Tryd.f50 (Is Tryd.f50) [.pbox [.sc (.string Cd),.sc (.int .i64 B7)]] [.l] nn ⟨lk [(0,(.ptr 64000 0))],Kn [(64000,(.st [(.sc (.string y0)),(.sc (.int .i64 y1))]))]⟩
theorem Ei (fu:Nat)(call:A7)(Cd:ByteArray)(B7:Int)(nn:Nat)(y0:ByteArray)(y1:Int):Cz fu call Cd B7 (nn+1) y0 y1=(Bi (decide (y1<(↑(ByteArray.size y0):Int))) (Bl (decide (0<=y1))<|Dg ((Array.toList (ByteArray.data y0))[Int.toNat y1]?) fun x1=>Aj (call 27 [.sc (.string (ByteArray.mk #[32,9,10,13])),.sc (.int .u8 (↑(UInt8.toNat x1):Int))]) fun x2 x3=>Ad x3<|Aa x2 fun x4 x5=>Aw .i64 x4 fun x6=>Ad x5<|Bi (decide (x6>=0)) (Ac (wrap .i64 (y1+1)) fun x7=>Cz fu call Cd B7 (nn) (y0) x7) (some (A4.mk [] [[.sc (.string y0),.sc (.int .i64 y1)]]))) (some (A4.mk [] [[.sc (.string y0),.sc (.int .i64 y1)]]))):=by kernel_rfl
theorem Im {p:Option (List PV->Option A4)} (fu d:Nat)(Cd:ByteArray)(B7:Int):Af (CP p) prog fu (d+1) E5 [.pbox [.sc (.string Cd),.sc (.int .i64 B7)]]=(fun (call:A7)=>Cz fu call Cd B7 (fu) (Cd) (B7)) (Af (CP p) prog fu d):=by kernel_rfl
abbrev Eu:FuncId:=107
noncomputable def Cp (fu:Nat)(call:A7)(Cd:ByteArray)(B7:Int)(nn:Nat)(y0:Int)(y1:ByteArray)(y2:Int):Option A4:=My CB prog fu call 107 Tryd.f107 (Is Tryd.f107) [.pbox [.sc (.string Cd),.sc (.int .i64 B7)]] [.r,.r,.l,.l] nn ⟨lk [(0,(.ptr 58000 0)),(3,(.sc (.int .i64 y0)))],Kn [(58000,(.st [(.sc (.string y1)),(.sc (.int .i64 y2))]))]⟩
theorem Ef (fu:Nat)(call:A7)(Cd:ByteArray)(B7:Int)(nn:Nat)(y0:Int)(y1:ByteArray)(y2:Int):Cp fu call Cd B7 (nn+1) y0 y1 y2=(Aj (call 90 [.pbox [.sc (.string y1),.sc (.int .i64 y2)]]) fun x1 x2=>Aa x1 fun x3 x4=>Aw .u8 x3 fun x5=>Ad x4<|Aa x2 fun x6 x7=>Aa x6 fun x8 x9=>Ax x8 fun Gp=>Aa x9 fun Pb Pp=>Aw .i64 Pb fun Ga=>Ad Pp<|Ad x7<|Bi (decide (x5>=48)) (Aj (call 90 [.pbox [.sc (.string Gp),.sc (.int .i64 Ga)]]) fun L4 Pt=>Aa L4 fun M7 Lw=>Aw .u8 M7 fun O6=>Ad Lw<|Aa Pt fun Pn Oc=>Aa Pn fun N6 Qz=>Ax N6 fun M0=>Aa Qz fun Qv N8=>Aw .i64 Qv fun Ol=>Ad N8<|Ad Oc<|Bi (decide (O6<=57)) (Ac (wrap .i64 (Ol+1)) fun P6=>Cp fu call Cd B7 (nn) (y0) M0 P6) (some (A4.mk [.sc (.bool (decide (Ol>y0)))] [[.sc (.string M0),.sc (.int .i64 Ol)]]))) (some (A4.mk [.sc (.bool (decide (Ga>y0)))] [[.sc (.string Gp),.sc (.int .i64 Ga)]]))):=by kernel_rfl
theorem Hu {p:Option (List PV->Option A4)} (fu d:Nat)(Cd:ByteArray)(B7:Int):Af (CP p) prog fu (d+1) Eu [.pbox [.sc (.string Cd),.sc (.int .i64 B7)]]=(fun (call:A7)=>Cp fu call Cd B7 (fu) (B7) (Cd) (B7)) (Af (CP p) prog fu d):=by kernel_rfl
abbrev Ev:FuncId:=92
theorem Ag {p:Option (List PV->Option A4)} (fu d:Nat)(Cd:ByteArray)(B7:Int):Af (CP p) prog fu (d+1) Ev [.pbox [.sc (.string Cd),.sc (.int .i64 B7)]]=(fun (call:A7)=>Aj (call 67 [.pbox [.sc (.string Cd),.sc (.int .i64 B7)],.sc (.string (ByteArray.mk #[45]))]) fun x1 x2=>Aa x1 fun x3 x4=>Ap x3 fun x5=>Ad x4<|Aa x2 fun x6 x7=>Aa x6 fun x8 x9=>Ax x8 fun Gp=>Aa x9 fun Pb Pp=>Aw .i64 Pb fun Ga=>Ad Pp<|Ad x7<|Aj (call 67 [.pbox [.sc (.string Gp),.sc (.int .i64 Ga)],.sc (.string (ByteArray.mk #[48]))]) fun L4 Pt=>Aa L4 fun M7 Lw=>Ap M7 fun O6=>Ad Lw<|Aa Pt fun Pn Oc=>Aa Pn fun N6 Qz=>Ax N6 fun M0=>Aa Qz fun Qv N8=>Aw .i64 Qv fun Ol=>Ad N8<|Ad Oc<|Bi (!O6) (Aj (call 107 [.pbox [.sc (.string M0),.sc (.int .i64 Ol)]]) fun P6 Sm=>Aa P6 fun Nl Q2=>Ap Nl fun Sp=>Ad Q2<|Aa Sm fun R9 Sr=>Aa R9 fun Sy Tp=>Ax Sy fun Ug=>Aa Tp fun Vs Wc=>Aw .i64 Vs fun Ql=>Ad Wc<|Ad Sr<|Bi (!Sp) (some (A4.mk [.sc (.bool false)] [[.sc (.string Ug),.sc (.int .i64 Ql)]])) (Aj (call 67 [.pbox [.sc (.string Ug),.sc (.int .i64 Ql)],.sc (.string (ByteArray.mk #[46]))]) fun BH BU=>Aa BH fun Qy Pq=>Ap Qy fun Zb=>Ad Pq<|Aa BU fun Y5 DD=>Aa Y5 fun AA DH=>Ax AA fun Zm=>Aa DH fun Y2 Z1=>Aw .i64 Y2 fun AC=>Ad Z1<|Ad DD<|Bi Zb (Aj (call 107 [.pbox [.sc (.string Zm),.sc (.int .i64 AC)]]) fun EV DV=>Aa EV fun NQ MC=>Ap NQ fun KE=>Ad MC<|Aa DV fun KM NW=>Aa KM fun LT MR=>Ax LT fun UM=>Aa MR fun x63 ZH=>Aw .i64 x63 fun UA=>Ad ZH<|Ad NW<|Bi (!KE) (some (A4.mk [.sc (.bool false)] [[.sc (.string UM),.sc (.int .i64 UA)]])) (Aj (call 67 [.pbox [.sc (.string UM),.sc (.int .i64 UA)],.sc (.string (ByteArray.mk #[101]))]) fun ZQ UJ=>Aa ZQ fun YZ x69=>Ap YZ fun UO=>Ad x69<|Aa UJ fun UE QN=>Aa UE fun UK UH=>Ax UK fun WZ=>Aa UH fun x76 x77=>Aw .i64 x76 fun x78=>Ad x77<|Ad QN<|Bi UO (Aj (call 67 [.pbox [.sc (.string WZ),.sc (.int .i64 x78)],.sc (.string (ByteArray.mk #[43]))]) fun x79 x80=>Aa x79 fun x81 x82=>Ap x81 fun x83=>Ad x82<|Aa x80 fun x84 x85=>Aa x84 fun x86 x87=>Ax x86 fun x88=>Aa x87 fun x89 x90=>Aw .i64 x89 fun x91=>Ad x90<|Ad x85<|Bi (!x83) (Aj (call 67 [.pbox [.sc (.string x88),.sc (.int .i64 x91)],.sc (.string (ByteArray.mk #[45]))]) fun x92 x93=>Aa x92 fun x94 x95=>Ap x94 fun x96=>Ad x95<|Aa x93 fun YL x98=>Aa YL fun x99 U8=>Ax x99 fun EA=>Aa U8 fun Zf FC=>Aw .i64 Zf fun DX=>Ad FC<|Ad x98<|Aj (call 107 [.pbox [.sc (.string EA),.sc (.int .i64 DX)]]) fun EI Zr=>Aa EI fun Zq KS=>Ap Zq fun LW=>Ad KS<|Aa Zr fun HL LB=>Aa HL fun RX NF=>Ax RX fun MB=>Aa NF fun RI KN=>Aw .i64 RI fun KO=>Ad KN<|Ad LB<|some (A4.mk [.sc (.bool LW)] [[.sc (.string MB),.sc (.int .i64 KO)]])) (Aj (call 107 [.pbox [.sc (.string x88),.sc (.int .i64 x91)]]) fun IC KC=>Aa IC fun JY NL=>Ap JY fun MD=>Ad NL<|Aa KC fun NJ LU=>Aa NJ fun MY GA=>Ax MY fun GT=>Aa GA fun JN Zv=>Aw .i64 JN fun HM=>Ad Zv<|Ad LU<|some (A4.mk [.sc (.bool MD)] [[.sc (.string GT),.sc (.int .i64 HM)]]))) (Aj (call 67 [.pbox [.sc (.string WZ),.sc (.int .i64 x78)],.sc (.string (ByteArray.mk #[69]))]) fun LM LE=>Aa LM fun GS MK=>Ap GS fun KW=>Ad MK<|Aa LE fun LI MS=>Aa LI fun TV OE=>Ax TV fun HU=>Aa OE fun RJ KZ=>Aw .i64 RJ fun FF=>Ad KZ<|Ad MS<|Bi KW (Aj (call 67 [.pbox [.sc (.string HU),.sc (.int .i64 FF)],.sc (.string (ByteArray.mk #[43]))]) fun QP NM=>Aa QP fun JE JX=>Ap JE fun JG=>Ad JX<|Aa NM fun IA GY=>Aa IA fun ZJ WD=>Ax ZJ fun MP=>Aa WD fun WA WY=>Aw .i64 WA fun TI=>Ad WY<|Ad GY<|Bi (!JG) (Aj (call 67 [.pbox [.sc (.string MP),.sc (.int .i64 TI)],.sc (.string (ByteArray.mk #[45]))]) fun Aj9 Ale=>Aa Aj9 fun Aio Ai1=>Ap Aio fun Aoj=>Ad Ai1<|Aa Ale fun Aiz Adf=>Aa Aiz fun Aju Agb=>Ax Aju fun Aef=>Aa Agb fun Ahp Ak7=>Aw .i64 Ahp fun Ai6=>Ad Ak7<|Ad Adf<|Aj (call 107 [.pbox [.sc (.string Aef),.sc (.int .i64 Ai6)]]) fun Alg Ahq=>Aa Alg fun Ajq Agy=>Ap Ajq fun Ahn=>Ad Agy<|Aa Ahq fun Ak3 Abi=>Aa Ak3 fun Alf Ahu=>Ax Alf fun Adw=>Aa Ahu fun Aix Agl=>Aw .i64 Aix fun Aiq=>Ad Agl<|Ad Abi<|some (A4.mk [.sc (.bool Ahn)] [[.sc (.string Adw),.sc (.int .i64 Aiq)]])) (Aj (call 107 [.pbox [.sc (.string MP),.sc (.int .i64 TI)]]) fun Aij Ai2=>Aa Aij fun Alo Ai5=>Ap Alo fun Aht=>Ad Ai5<|Aa Ai2 fun Alh Abz=>Aa Alh fun Agu Aig=>Ax Agu fun Ad2=>Aa Aig fun Aie Ah7=>Aw .i64 Aie fun Ai4=>Ad Ah7<|Ad Abz<|some (A4.mk [.sc (.bool Aht)] [[.sc (.string Ad2),.sc (.int .i64 Ai4)]]))) (some (A4.mk [.sc (.bool true)] [[.sc (.string HU),.sc (.int .i64 FF)]]))))) (Aj (call 67 [.pbox [.sc (.string Zm),.sc (.int .i64 AC)],.sc (.string (ByteArray.mk #[101]))]) fun Aku Af9=>Aa Aku fun Ai8 Ahd=>Ap Ai8 fun Ahv=>Ad Ahd<|Aa Af9 fun Aii Acn=>Aa Aii fun Agc Agf=>Ax Agc fun WE=>Aa Agf fun Akw Aje=>Aw .i64 Akw fun Acd=>Ad Aje<|Ad Acn<|Bi Ahv (Aj (call 67 [.pbox [.sc (.string WE),.sc (.int .i64 Acd)],.sc (.string (ByteArray.mk #[43]))]) fun Ah5 Agp=>Aa Ah5 fun Ag6 Ajb=>Ap Ag6 fun Aiv=>Ad Ajb<|Aa Agp fun Ah8 Akq=>Aa Ah8 fun Ako Ak2=>Ax Ako fun Adg=>Aa Ak2 fun Ait Ai7=>Aw .i64 Ait fun Ada=>Ad Ai7<|Ad Akq<|Bi (!Aiv) (Aj (call 67 [.pbox [.sc (.string Adg),.sc (.int .i64 Ada)],.sc (.string (ByteArray.mk #[45]))]) fun Agi Ajz=>Aa Agi fun Aim Ajo=>Ap Aim fun Ao3=>Ad Ajo<|Aa Ajz fun Aj4 Aj3=>Aa Aj4 fun Akp Akz=>Ax Akp fun Agx=>Aa Akz fun Ajn Ahc=>Aw .i64 Ajn fun Ajp=>Ad Ahc<|Ad Aj3<|Aj (call 107 [.pbox [.sc (.string Agx),.sc (.int .i64 Ajp)]]) fun Ag1 Aia=>Aa Ag1 fun Aj2 Ahj=>Ap Aj2 fun Ahw=>Ad Ahj<|Aa Aia fun Agm Ahb=>Aa Agm fun Ah0 Ahg=>Ax Ah0 fun Ajv=>Aa Ahg fun Ag8 Ad1=>Aw .i64 Ag8 fun Ag5=>Ad Ad1<|Ad Ahb<|some (A4.mk [.sc (.bool Ahw)] [[.sc (.string Ajv),.sc (.int .i64 Ag5)]])) (Aj (call 107 [.pbox [.sc (.string Adg),.sc (.int .i64 Ada)]]) fun Agq Adh=>Aa Agq fun Aj5 Agn=>Ap Aj5 fun Aif=>Ad Agn<|Aa Adh fun Aiw Aj0=>Aa Aiw fun Alj Aji=>Ax Alj fun Ah1=>Aa Aji fun Ahh Aca=>Aw .i64 Ahh fun Agg=>Ad Aca<|Ad Aj0<|some (A4.mk [.sc (.bool Aif)] [[.sc (.string Ah1),.sc (.int .i64 Agg)]]))) (Aj (call 67 [.pbox [.sc (.string WE),.sc (.int .i64 Acd)],.sc (.string (ByteArray.mk #[69]))]) fun Ajc Ab7=>Aa Ajc fun Ake Ajy=>Ap Ake fun Ai0=>Ad Ajy<|Aa Ab7 fun Ah6 Ag3=>Aa Ah6 fun Akf Akx=>Ax Akf fun Acw=>Aa Akx fun Ajt Aa9=>Aw .i64 Ajt fun Adl=>Ad Aa9<|Ad Ag3<|Bi Ai0 (Aj (call 67 [.pbox [.sc (.string Acw),.sc (.int .i64 Adl)],.sc (.string (ByteArray.mk #[43]))]) fun Ahl Ac4=>Aa Ahl fun Akl Ahz=>Ap Akl fun Af7=>Ad Ahz<|Aa Ac4 fun Aln Aih=>Aa Aln fun Agk Aha=>Ax Agk fun Acf=>Aa Aha fun Af5 Ac3=>Aw .i64 Af5 fun Adx=>Ad Ac3<|Ad Aih<|Bi (!Af7) (Aj (call 67 [.pbox [.sc (.string Acf),.sc (.int .i64 Adx)],.sc (.string (ByteArray.mk #[45]))]) fun Aga Ack=>Aa Aga fun Alc Ala=>Ap Alc fun Amv=>Ad Ala<|Aa Ack fun Ahs Aj1=>Aa Ahs fun Aib Alb=>Ax Aib fun Ak6=>Aa Alb fun Agz Ac8=>Aw .i64 Agz fun Aja=>Ad Ac8<|Ad Aj1<|Aj (call 107 [.pbox [.sc (.string Ak6),.sc (.int .i64 Aja)]]) fun Ag2 Ad9=>Aa Ag2 fun Awh Awy=>Ap Awh fun Avv=>Ad Awy<|Aa Ad9 fun Arf Auq=>Aa Arf fun A1b Auo=>Ax A1b fun Auk=>Aa Auo fun Asu Azp=>Aw .i64 Asu fun Az3=>Ad Azp<|Ad Auq<|some (A4.mk [.sc (.bool Avv)] [[.sc (.string Auk),.sc (.int .i64 Az3)]])) (Aj (call 107 [.pbox [.sc (.string Acf),.sc (.int .i64 Adx)]]) fun Are Azu=>Aa Are fun Aso Ari=>Ap Aso fun Ayt=>Ad Ari<|Aa Azu fun Atm Axh=>Aa Atm fun A08 Azs=>Ax A08 fun Ayu=>Aa Azs fun A0m Ayy=>Aw .i64 A0m fun At0=>Ad Ayy<|Ad Axh<|some (A4.mk [.sc (.bool Ayt)] [[.sc (.string Ayu),.sc (.int .i64 At0)]]))) (some (A4.mk [.sc (.bool true)] [[.sc (.string Acw),.sc (.int .i64 Adl)]])))))) (Aj (call 67 [.pbox [.sc (.string M0),.sc (.int .i64 Ol)],.sc (.string (ByteArray.mk #[46]))]) fun A0z A0n=>Aa A0z fun Ayn Avk=>Ap Ayn fun Azr=>Ad Avk<|Aa A0n fun Asi Av8=>Aa Asi fun Azl Ayc=>Ax Azl fun Anh=>Aa Ayc fun Ar0 Azf=>Aw .i64 Ar0 fun Aoy=>Ad Azf<|Ad Av8<|Bi Azr (Aj (call 107 [.pbox [.sc (.string Anh),.sc (.int .i64 Aoy)]]) fun Aw0 Azq=>Aa Aw0 fun Aup Aue=>Ap Aup fun Asc=>Ad Aue<|Aa Azq fun Awo Aus=>Aa Awo fun A18 Awq=>Ax A18 fun Ao4=>Aa Awq fun A0f Asr=>Aw .i64 A0f fun Aqg=>Ad Asr<|Ad Aus<|Bi (!Asc) (some (A4.mk [.sc (.bool false)] [[.sc (.string Ao4),.sc (.int .i64 Aqg)]])) (Aj (call 67 [.pbox [.sc (.string Ao4),.sc (.int .i64 Aqg)],.sc (.string (ByteArray.mk #[101]))]) fun Asp Arn=>Aa Asp fun Ax8 Asm=>Ap Ax8 fun A1u=>Ad Asm<|Aa Arn fun Avc Aw1=>Aa Avc fun A0b Avt=>Ax A0b fun Ank=>Aa Avt fun Awk Avs=>Aw .i64 Awk fun Anw=>Ad Avs<|Ad Aw1<|Bi A1u (Aj (call 67 [.pbox [.sc (.string Ank),.sc (.int .i64 Anw)],.sc (.string (ByteArray.mk #[43]))]) fun Avd A2f=>Aa Avd fun Awa As7=>Ap Awa fun Awm=>Ad As7<|Aa A2f fun Awb A2d=>Aa Awb fun A2j Asn=>Ax A2j fun Ane=>Aa Asn fun Azm Aud=>Aw .i64 Azm fun Amq=>Ad Aud<|Ad A2d<|Bi (!Awm) (Aj (call 67 [.pbox [.sc (.string Ane),.sc (.int .i64 Amq)],.sc (.string (ByteArray.mk #[45]))]) fun Azx Axg=>Aa Azx fun Axu At2=>Ap Axu fun A4x=>Ad At2<|Aa Axg fun Axm Aw3=>Aa Axm fun Ard A00=>Ax Ard fun Atz=>Aa A00 fun Azn Atd=>Aw .i64 Azn fun Auh=>Ad Atd<|Ad Aw3<|Aj (call 107 [.pbox [.sc (.string Atz),.sc (.int .i64 Auh)]]) fun A05 Ar5=>Aa A05 fun Arg Ax6=>Ap Arg fun Ava=>Ad Ax6<|Aa Ar5 fun A2i A2h=>Aa A2i fun A1e Ath=>Ax A1e fun Asq=>Aa Ath fun Ar2 Ave=>Aw .i64 Ar2 fun Axb=>Ad Ave<|Ad A2h<|some (A4.mk [.sc (.bool Ava)] [[.sc (.string Asq),.sc (.int .i64 Axb)]])) (Aj (call 107 [.pbox [.sc (.string Ane),.sc (.int .i64 Amq)]]) fun Azi Asd=>Aa Azi fun A1n A0y=>Ap A1n fun Au5=>Ad A0y<|Aa Asd fun Axo Ars=>Aa Axo fun Av5 A1r=>Ax Av5 fun A0c=>Aa A1r fun Awn Ayd=>Aw .i64 Awn fun Atr=>Ad Ayd<|Ad Ars<|some (A4.mk [.sc (.bool Au5)] [[.sc (.string A0c),.sc (.int .i64 Atr)]]))) (Aj (call 67 [.pbox [.sc (.string Ank),.sc (.int .i64 Anw)],.sc (.string (ByteArray.mk #[69]))]) fun A06 Aws=>Aa A06 fun Axe A0g=>Ap Axe fun Avy=>Ad A0g<|Aa Aws fun Aza Azk=>Aa Aza fun A0j A1t=>Ax A0j fun Ani=>Aa A1t fun A1c Az5=>Aw .i64 A1c fun Aob=>Ad Az5<|Ad Azk<|Bi Avy (Aj (call 67 [.pbox [.sc (.string Ani),.sc (.int .i64 Aob)],.sc (.string (ByteArray.mk #[43]))]) fun A2g A0s=>Aa A2g fun Awe Au6=>Ap Awe fun Ayf=>Ad Au6<|Aa A0s fun At4 Awi=>Aa At4 fun Atl Aww=>Ax Atl fun Apj=>Aa Aww fun Ayb Awc=>Aw .i64 Ayb fun Apa=>Ad Awc<|Ad Awi<|Bi (!Ayf) (Aj (call 67 [.pbox [.sc (.string Apj),.sc (.int .i64 Apa)],.sc (.string (ByteArray.mk #[45]))]) fun Az0 Avx=>Aa Az0 fun A0w Auc=>Ap A0w fun A4t=>Ad Auc<|Aa Avx fun Aru Au3=>Aa Aru fun Au0 As1=>Ax Au0 fun A02=>Aa As1 fun Axy Atj=>Aw .i64 Axy fun Ats=>Ad Atj<|Ad Au3<|Aj (call 107 [.pbox [.sc (.string A02),.sc (.int .i64 Ats)]]) fun Ax9 Asl=>Aa Ax9 fun Axl Azc=>Ap Axl fun Auw=>Ad Azc<|Aa Asl fun Avj Axk=>Aa Avj fun Asv Av6=>Ax Asv fun Avi=>Aa Av6 fun Ay8 Aur=>Aw .i64 Ay8 fun Aq9=>Ad Aur<|Ad Axk<|some (A4.mk [.sc (.bool Auw)] [[.sc (.string Avi),.sc (.int .i64 Aq9)]])) (Aj (call 107 [.pbox [.sc (.string Apj),.sc (.int .i64 Apa)]]) fun Azg A1j=>Aa Azg fun Axx Ar9=>Ap Axx fun Avr=>Ad Ar9<|Aa A1j fun Atv Axw=>Aa Atv fun Avg Ay0=>Ax Avg fun At6=>Aa Ay0 fun Awu Ax0=>Aw .i64 Awu fun Ash=>Ad Ax0<|Ad Axw<|some (A4.mk [.sc (.bool Avr)] [[.sc (.string At6),.sc (.int .i64 Ash)]]))) (some (A4.mk [.sc (.bool true)] [[.sc (.string Ani),.sc (.int .i64 Aob)]]))))) (Aj (call 67 [.pbox [.sc (.string Anh),.sc (.int .i64 Aoy)],.sc (.string (ByteArray.mk #[101]))]) fun As9 Aui=>Aa As9 fun Awp Ay1=>Ap Awp fun A0d=>Ad Ay1<|Aa Aui fun A2a A0a=>Aa A2a fun Axi Asx=>Ax Axi fun Anm=>Aa Asx fun Axc Aw2=>Aw .i64 Axc fun And=>Ad Aw2<|Ad A0a<|Bi A0d (Aj (call 67 [.pbox [.sc (.string Anm),.sc (.int .i64 And)],.sc (.string (ByteArray.mk #[43]))]) fun Aua A0r=>Aa Aua fun Asa Awd=>Ap Asa fun Atq=>Ad Awd<|Aa A0r fun Ax7 Ax5=>Aa Ax7 fun Au2 Aty=>Ax Au2 fun Am7=>Aa Aty fun Arp Az7=>Aw .i64 Arp fun Aou=>Ad Az7<|Ad Ax5<|Bi (!Atq) (Aj (call 67 [.pbox [.sc (.string Am7),.sc (.int .i64 Aou)],.sc (.string (ByteArray.mk #[45]))]) fun Ay9 Ayl=>Aa Ay9 fun Ara A1h=>Ap Ara fun A4i=>Ad A1h<|Aa Ayl fun A04 Az4=>Aa A04 fun Awl Auy=>Ax Awl fun Au9=>Aa Auy fun Ayh Av2=>Aw .i64 Ayh fun Arh=>Ad Av2<|Ad Az4<|Aj (call 107 [.pbox [.sc (.string Au9),.sc (.int .i64 Arh)]]) fun Atw Azt=>Aa Atw fun Aun Arr=>Ap Aun fun Asj=>Ad Arr<|Aa Azt fun Atn Ar6=>Aa Atn fun Ayp Av9=>Ax Ayp fun Aro=>Aa Av9 fun Arx Ayq=>Aw .i64 Arx fun A1g=>Ad Ayq<|Ad Ar6<|some (A4.mk [.sc (.bool Asj)] [[.sc (.string Aro),.sc (.int .i64 A1g)]])) (Aj (call 107 [.pbox [.sc (.string Am7),.sc (.int .i64 Aou)]]) fun Axp Aut=>Aa Axp fun A0p A1v=>Ap A0p fun Av7=>Ad A1v<|Aa Aut fun Axj A2b=>Aa Axj fun Atb Azo=>Ax Atb fun Auf=>Aa Azo fun Azd Arw=>Aw .i64 Azd fun Aw4=>Ad Arw<|Ad A2b<|some (A4.mk [.sc (.bool Av7)] [[.sc (.string Auf),.sc (.int .i64 Aw4)]]))) (Aj (call 67 [.pbox [.sc (.string Anm),.sc (.int .i64 And)],.sc (.string (ByteArray.mk #[69]))]) fun Awt Ay6=>Aa Awt fun Atu A0h=>Ap Atu fun Arv=>Ad A0h<|Aa Ay6 fun A1y Ayi=>Aa A1y fun Azj Ayz=>Ax Azj fun Am4=>Aa Ayz fun Ax3 A0o=>Aw .i64 Ax3 fun Am6=>Ad A0o<|Ad Ayi<|Bi Arv (Aj (call 67 [.pbox [.sc (.string Am4),.sc (.int .i64 Am6)],.sc (.string (ByteArray.mk #[43]))]) fun Aw7 Axs=>Aa Aw7 fun Ar8 A0k=>Ap Ar8 fun Ayo=>Ad A0k<|Aa Axs fun Ar1 A1s=>Aa Ar1 fun A1p Ax4=>Ax A1p fun Anb=>Aa Ax4 fun As5 Axd=>Aw .i64 As5 fun Ap6=>Ad Axd<|Ad A1s<|Bi (!Ayo) (Aj (call 67 [.pbox [.sc (.string Anb),.sc (.int .i64 Ap6)],.sc (.string (ByteArray.mk #[45]))]) fun Avp Ati=>Aa Avp fun A1a Avw=>Ap A1a fun A5i=>Ad Avw<|Aa Ati fun Ate Atx=>Aa Ate fun Aub A19=>Ax Aub fun Art=>Aa A19 fun Ay2 Awg=>Aw .i64 Ay2 fun Av3=>Ad Awg<|Ad Atx<|Aj (call 107 [.pbox [.sc (.string Art),.sc (.int .i64 Av3)]]) fun A0v Azz=>Aa A0v fun At3 Awr=>Ap At3 fun Aw8=>Ad Awr<|Aa Azz fun Aul A0q=>Aa Aul fun A2m A1w=>Ax A2m fun Azh=>Aa A1w fun Auj Awz=>Aw .i64 Auj fun Aya=>Ad Awz<|Ad A0q<|some (A4.mk [.sc (.bool Aw8)] [[.sc (.string Azh),.sc (.int .i64 Aya)]])) (Aj (call 107 [.pbox [.sc (.string Anb),.sc (.int .i64 Ap6)]]) fun Ase Atf=>Aa Ase fun Awx Awj=>Ap Awx fun Ar3=>Ad Awj<|Aa Atf fun Aw9 Az1=>Aa Aw9 fun Axq A1i=>Ax Axq fun A16=>Aa A1i fun A0e Ask=>Aw .i64 A0e fun Avo=>Ad Ask<|Ad Az1<|some (A4.mk [.sc (.bool Ar3)] [[.sc (.string A16),.sc (.int .i64 Avo)]]))) (some (A4.mk [.sc (.bool true)] [[.sc (.string Am4),.sc (.int .i64 Am6)]])))))) (Af (CP p) prog fu d):=by kernel_rfl
abbrev Ik:FuncId:=91
noncomputable def Cy (fu:Nat)(call:A7)(Cd:ByteArray)(B7 a1:Int)(nn:Nat)(y0:Int)(y1:ByteArray)(y2:Int):Option A4:=My CB prog fu call 91 Tryd.f91 (Is Tryd.f91) [.pbox [.sc (.string Cd),.sc (.int .i64 B7)],.sc (.int .i64 a1)] [.r,.r,.r,.r,.l] nn ⟨lk [(0,(.ptr 64000 0)),(1,(.sc (.int .i64 y0)))],Kn [(64000,(.st [(.sc (.string y1)),(.sc (.int .i64 y2))]))]⟩
theorem Hg (fu:Nat)(call:A7)(Cd:ByteArray)(B7 a1:Int)(nn:Nat)(y0:Int)(y1:ByteArray)(y2:Int):Cy fu call Cd B7 a1 (nn+1) y0 y1 y2=(Aj (call 69 [.pbox [.sc (.string y1),.sc (.int .i64 y2)],.sc (.int .i64 y0)]) fun Vs Wc=>Aa Vs fun Ql BH=>Gw Ql fun BU=>Aa BU fun Qy Pq=>Aw .i64 Qy fun Zb=>Aa Pq fun Y5 DD=>Ax Y5 fun AA=>Aa DD fun DH Zm=>Ap DH fun Y2=>Ad Zm<|Aa BH fun Z1 AC=>Aw .i64 Z1 fun EV=>Ad AC<|Aa Wc fun DV NQ=>Aa DV fun MC KE=>Ax MC fun KM=>Aa KE fun NW LT=>Aw .i64 NW fun MR=>Ad LT<|Ad NQ<|Bi (EV != 0) (some (A4.mk [.sc (.int .i64 EV)] [[.sc (.string KM),.sc (.int .i64 MR)]])) (Aj (call 50 [.pbox [.sc (.string KM),.sc (.int .i64 MR)]]) fun UM x63=>Ad UM<|Aa x63 fun ZH UA=>Aa ZH fun ZQ UJ=>Ax ZQ fun YZ=>Aa UJ fun x69 UO=>Aw .i64 x69 fun UE=>Ad UO<|Ad UA<|Aj (call 67 [.pbox [.sc (.string YZ),.sc (.int .i64 UE)],.sc (.string (ByteArray.mk #[93]))]) fun QN UK=>Aa QN fun UH WZ=>Ap UH fun x76=>Ad WZ<|Aa UK fun x77 x78=>Aa x77 fun x79 x80=>Ax x79 fun x81=>Aa x80 fun x82 x83=>Aw .i64 x82 fun x84=>Ad x83<|Ad x78<|Bi x76 (some (A4.mk [.sc (.int .i64 0)] [[.sc (.string x81),.sc (.int .i64 x84)]])) (Aj (call 67 [.pbox [.sc (.string x81),.sc (.int .i64 x84)],.sc (.string (ByteArray.mk #[44]))]) fun x85 x86=>Aa x85 fun x87 x88=>Ap x87 fun x89=>Ad x88<|Aa x86 fun x90 x91=>Aa x90 fun x92 x93=>Ax x92 fun x94=>Aa x93 fun x95 x96=>Aw .i64 x95 fun YL=>Ad x96<|Ad x91<|Bi (!x89) (some (A4.mk [.sc (.int .i64 2)] [[.sc (.string x94),.sc (.int .i64 YL)]])) (Aj (call 50 [.pbox [.sc (.string x94),.sc (.int .i64 YL)]]) fun x98 x99=>Ad x98<|Aa x99 fun U8 EA=>Aa U8 fun Zf FC=>Ax Zf fun DX=>Aa FC fun EI Zr=>Aw .i64 EI fun Zq=>Ad Zr<|Ad EA<|Cy fu call Cd B7 a1 (nn) (y0) DX Zq)))):=by kernel_rfl
theorem Ij {p:Option (List PV->Option A4)} (fu d:Nat)(Cd:ByteArray)(B7 a1:Int):Af (CP p) prog fu (d+1) Ik [.pbox [.sc (.string Cd),.sc (.int .i64 B7)],.sc (.int .i64 a1)]=(fun (call:A7)=>Aj (call 67 [.pbox [.sc (.string Cd),.sc (.int .i64 B7)],.sc (.string (ByteArray.mk #[91]))]) fun x1 x2=>Aa x1 fun x3 x4=>Ap x3 fun x5=>Ad x4<|Aa x2 fun x6 x7=>Aa x6 fun x8 x9=>Ax x8 fun Gp=>Aa x9 fun Pb Pp=>Aw .i64 Pb fun Ga=>Ad Pp<|Ad x7<|Bi (!x5) (some (A4.mk [.sc (.int .i64 2)] [[.sc (.string Gp),.sc (.int .i64 Ga)]])) (Aj (call 50 [.pbox [.sc (.string Gp),.sc (.int .i64 Ga)]]) fun L4 Pt=>Ad L4<|Aa Pt fun M7 Lw=>Aa M7 fun O6 Pn=>Ax O6 fun Oc=>Aa Pn fun N6 Qz=>Aw .i64 N6 fun M0=>Ad Qz<|Ad Lw<|Aj (call 67 [.pbox [.sc (.string Oc),.sc (.int .i64 M0)],.sc (.string (ByteArray.mk #[93]))]) fun Qv N8=>Aa Qv fun Ol P6=>Ap Ol fun Sm=>Ad P6<|Aa N8 fun Nl Q2=>Aa Nl fun Sp R9=>Ax Sp fun Sr=>Aa R9 fun Sy Tp=>Aw .i64 Sy fun Ug=>Ad Tp<|Ad Q2<|Bi Sm (some (A4.mk [.sc (.int .i64 0)] [[.sc (.string Sr),.sc (.int .i64 Ug)]])) (Cy fu call Cd B7 a1 (fu) (a1) Sr Ug))) (Af (CP p) prog fu d):=by kernel_rfl
abbrev H0:FuncId:=51
noncomputable def Cr (fu:Nat)(call:A7)(Cd:ByteArray)(B7 a1:Int)(nn:Nat)(y0:Int)(y1:ByteArray)(y2:Int):Option A4:=My CB prog fu call 51 Tryd.f51 (Is Tryd.f51) [.pbox [.sc (.string Cd),.sc (.int .i64 B7)],.sc (.int .i64 a1),.sc (Value.map none)] [.r,.r,.r,.r,.l] nn ⟨lk [(0,(.ptr 128000 0)),(1,(.sc (.int .i64 y0))),(2,(.sc (Value.map none)))],Kn [(128000,(.st [(.sc (.string y1)),(.sc (.int .i64 y2))]))]⟩
theorem G4 (fu:Nat)(call:A7)(Cd:ByteArray)(B7 a1:Int)(nn:Nat)(y0:Int)(y1:ByteArray)(y2:Int):Cr fu call Cd B7 a1 (nn+1) y0 y1 y2=(Aj (call 68 [.pbox [.sc (.string y1),.sc (.int .i64 y2)]]) fun Vs Wc=>Aa Vs fun Ql BH=>Ax Ql fun BU=>Aa BH fun Qy Pq=>Ap Qy fun Zb=>Ad Pq<|Aa Wc fun Y5 DD=>Aa Y5 fun AA DH=>Ax AA fun Zm=>Aa DH fun Y2 Z1=>Aw .i64 Y2 fun AC=>Ad Z1<|Ad DD<|Bi (!Zb) (some (A4.mk [.sc (.int .i64 2)] [[.sc (.string Zm),.sc (.int .i64 AC)]])) (Aj (call 50 [.pbox [.sc (.string Zm),.sc (.int .i64 AC)]]) fun EV DV=>Ad EV<|Aa DV fun NQ MC=>Aa NQ fun KE KM=>Ax KE fun NW=>Aa KM fun LT MR=>Aw .i64 LT fun UM=>Ad MR<|Ad MC<|Aj (call 67 [.pbox [.sc (.string NW),.sc (.int .i64 UM)],.sc (.string (ByteArray.mk #[58]))]) fun x63 ZH=>Aa x63 fun UA ZQ=>Ap UA fun UJ=>Ad ZQ<|Aa ZH fun YZ x69=>Aa YZ fun UO UE=>Ax UO fun QN=>Aa UE fun UK UH=>Aw .i64 UK fun WZ=>Ad UH<|Ad x69<|Bi (!UJ) (some (A4.mk [.sc (.int .i64 2)] [[.sc (.string QN),.sc (.int .i64 WZ)]])) (Aj (call 50 [.pbox [.sc (.string QN),.sc (.int .i64 WZ)]]) fun x76 x77=>Ad x76<|Aa x77 fun x78 x79=>Aa x78 fun x80 x81=>Ax x80 fun x82=>Aa x81 fun x83 x84=>Aw .i64 x83 fun x85=>Ad x84<|Ad x79<|Aj (call 69 [.pbox [.sc (.string x82),.sc (.int .i64 x85)],.sc (.int .i64 y0)]) fun x86 x87=>Aa x86 fun x88 x89=>Gw x88 fun x90=>Aa x90 fun x91 x92=>Aw .i64 x91 fun x93=>Aa x92 fun x94 x95=>Ax x94 fun x96=>Aa x95 fun YL x98=>Ap YL fun x99=>Ad x98<|Aa x89 fun U8 EA=>Aw .i64 U8 fun Zf=>Ad EA<|Aa x87 fun FC DX=>Aa FC fun EI Zr=>Ax EI fun Zq=>Aa Zr fun KS LW=>Aw .i64 KS fun HL=>Ad LW<|Ad DX<|Bi (Zf != 0) (some (A4.mk [.sc (.int .i64 Zf)] [[.sc (.string Zq),.sc (.int .i64 HL)]])) (Aj (call 50 [.pbox [.sc (.string Zq),.sc (.int .i64 HL)]]) fun LB RX=>Ad LB<|Aa RX fun NF MB=>Aa NF fun RI KN=>Ax RI fun KO=>Aa KN fun IC KC=>Aw .i64 IC fun JY=>Ad KC<|Ad MB<|Aj (call 67 [.pbox [.sc (.string KO),.sc (.int .i64 JY)],.sc (.string (ByteArray.mk #[125]))]) fun NL MD=>Aa NL fun NJ LU=>Ap NJ fun MY=>Ad LU<|Aa MD fun GA GT=>Aa GA fun JN Zv=>Ax JN fun HM=>Aa Zv fun LM LE=>Aw .i64 LM fun GS=>Ad LE<|Ad GT<|Bi MY (some (A4.mk [.sc (.int .i64 0)] [[.sc (.string HM),.sc (.int .i64 GS)]])) (Aj (call 67 [.pbox [.sc (.string HM),.sc (.int .i64 GS)],.sc (.string (ByteArray.mk #[44]))]) fun MK KW=>Aa MK fun LI MS=>Ap LI fun TV=>Ad MS<|Aa KW fun OE HU=>Aa OE fun RJ KZ=>Ax RJ fun FF=>Aa KZ fun QP NM=>Aw .i64 QP fun JE=>Ad NM<|Ad HU<|Bi (!TV) (some (A4.mk [.sc (.int .i64 2)] [[.sc (.string FF),.sc (.int .i64 JE)]])) (Aj (call 50 [.pbox [.sc (.string FF),.sc (.int .i64 JE)]]) fun JX JG=>Ad JX<|Aa JG fun IA GY=>Aa IA fun ZJ WD=>Ax ZJ fun MP=>Aa WD fun WA WY=>Aw .i64 WA fun TI=>Ad WY<|Ad GY<|Cr fu call Cd B7 a1 (nn) (y0) MP TI)))))):=by kernel_rfl
theorem H5 {p:Option (List PV->Option A4)} (fu d:Nat)(Cd:ByteArray)(B7 a1:Int):Af (CP p) prog fu (d+1) H0 [.pbox [.sc (.string Cd),.sc (.int .i64 B7)],.sc (.int .i64 a1),.sc (Value.map none)]=(fun (call:A7)=>Aj (call 67 [.pbox [.sc (.string Cd),.sc (.int .i64 B7)],.sc (.string (ByteArray.mk #[123]))]) fun x1 x2=>Aa x1 fun x3 x4=>Ap x3 fun x5=>Ad x4<|Aa x2 fun x6 x7=>Aa x6 fun x8 x9=>Ax x8 fun Gp=>Aa x9 fun Pb Pp=>Aw .i64 Pb fun Ga=>Ad Pp<|Ad x7<|Bi (!x5) (some (A4.mk [.sc (.int .i64 2)] [[.sc (.string Gp),.sc (.int .i64 Ga)]])) (Aj (call 50 [.pbox [.sc (.string Gp),.sc (.int .i64 Ga)]]) fun L4 Pt=>Ad L4<|Aa Pt fun M7 Lw=>Aa M7 fun O6 Pn=>Ax O6 fun Oc=>Aa Pn fun N6 Qz=>Aw .i64 N6 fun M0=>Ad Qz<|Ad Lw<|Aj (call 67 [.pbox [.sc (.string Oc),.sc (.int .i64 M0)],.sc (.string (ByteArray.mk #[125]))]) fun Qv N8=>Aa Qv fun Ol P6=>Ap Ol fun Sm=>Ad P6<|Aa N8 fun Nl Q2=>Aa Nl fun Sp R9=>Ax Sp fun Sr=>Aa R9 fun Sy Tp=>Aw .i64 Sy fun Ug=>Ad Tp<|Ad Q2<|Bi Sm (some (A4.mk [.sc (.int .i64 0)] [[.sc (.string Sr),.sc (.int .i64 Ug)]])) (Cr fu call Cd B7 a1 (fu) (a1) Sr Ug))) (Af (CP p) prog fu d):=by kernel_rfl
abbrev Ic:FuncId:=69
theorem Bz {p:Option (List PV->Option A4)} (fu d:Nat)(Cd:ByteArray)(B7 a1:Int):Af (CP p) prog fu (d+1) Ic [.pbox [.sc (.string Cd),.sc (.int .i64 B7)],.sc (.int .i64 a1)]=(fun (call:A7)=>Aj (call 90 [.pbox [.sc (.string Cd),.sc (.int .i64 B7)]]) fun x1 x2=>Aa x1 fun x3 x4=>Aw .u8 x3 fun x5=>Ad x4<|Aa x2 fun x6 x7=>Aa x6 fun x8 x9=>Ax x8 fun Gp=>Aa x9 fun Pb Pp=>Aw .i64 Pb fun Ga=>Ad Pp<|Ad x7<|Bi (x5==123) (Bi (decide (a1>8)) (some (A4.mk [.agg [.sc (.int .i64 0),.sc (.string (ByteArray.mk #[])),.sc (.bool false)],.sc (.int .i64 5)] [[.sc (.string Gp),.sc (.int .i64 Ga)]])) (Bi (x5==123) (Ac (wrap .i64 (a1+1)) fun L4=>Aj (call 51 [.pbox [.sc (.string Gp),.sc (.int .i64 Ga)],.sc (.int .i64 L4),.sc (Value.map none)]) fun Pt M7=>Aa Pt fun Lw O6=>Aw .i64 Lw fun Pn=>Ad O6<|Aa M7 fun Oc N6=>Aa Oc fun Qz M0=>Ax Qz fun Qv=>Aa M0 fun N8 Ol=>Aw .i64 N8 fun P6=>Ad Ol<|Ad N6<|some (A4.mk [.agg [.sc (.int .i64 6),.sc (.string (ByteArray.mk #[])),.sc (.bool false)],.sc (.int .i64 Pn)] [[.sc (.string Qv),.sc (.int .i64 P6)]])) (Bi (x5==91) (Ac (wrap .i64 (a1+1)) fun Sm=>Aj (call 91 [.pbox [.sc (.string Gp),.sc (.int .i64 Ga)],.sc (.int .i64 Sm)]) fun Nl Q2=>Aa Nl fun Sp R9=>Aw .i64 Sp fun Sr=>Ad R9<|Aa Q2 fun Sy Tp=>Aa Sy fun Ug Vs=>Ax Ug fun Wc=>Aa Vs fun Ql BH=>Aw .i64 Ql fun BU=>Ad BH<|Ad Tp<|some (A4.mk [.agg [.sc (.int .i64 5),.sc (.string (ByteArray.mk #[])),.sc (.bool false)],.sc (.int .i64 Sr)] [[.sc (.string Wc),.sc (.int .i64 BU)]])) (Bi (x5==34) (Aj (call 68 [.pbox [.sc (.string Gp),.sc (.int .i64 Ga)]]) fun Qy Pq=>Aa Qy fun Zb Y5=>Ax Zb fun DD=>Aa Y5 fun AA DH=>Ap AA fun Zm=>Ad DH<|Aa Pq fun Y2 Z1=>Aa Y2 fun AC EV=>Ax AC fun DV=>Aa EV fun NQ MC=>Aw .i64 NQ fun KE=>Ad MC<|Ad Z1<|Bi Zm (some (A4.mk [.agg [.sc (.int .i64 4),.sc (.string DD),.sc (.bool false)],.sc (.int .i64 0)] [[.sc (.string DV),.sc (.int .i64 KE)]])) (some (A4.mk [.agg [.sc (.int .i64 0),.sc (.string (ByteArray.mk #[])),.sc (.bool false)],.sc (.int .i64 2)] [[.sc (.string DV),.sc (.int .i64 KE)]]))) (Aj (call 67 [.pbox [.sc (.string Gp),.sc (.int .i64 Ga)],.sc (.string (ByteArray.mk #[116,114,117,101]))]) fun KM NW=>Aa KM fun LT MR=>Ap LT fun UM=>Ad MR<|Aa NW fun x63 ZH=>Aa x63 fun UA ZQ=>Ax UA fun UJ=>Aa ZQ fun YZ x69=>Aw .i64 YZ fun UO=>Ad x69<|Ad ZH<|Bi UM (some (A4.mk [.agg [.sc (.int .i64 2),.sc (.string (ByteArray.mk #[])),.sc (.bool true)],.sc (.int .i64 0)] [[.sc (.string UJ),.sc (.int .i64 UO)]])) (Aj (call 67 [.pbox [.sc (.string UJ),.sc (.int .i64 UO)],.sc (.string (ByteArray.mk #[102,97,108,115,101]))]) fun UE QN=>Aa UE fun UK UH=>Ap UK fun WZ=>Ad UH<|Aa QN fun x76 x77=>Aa x76 fun x78 x79=>Ax x78 fun x80=>Aa x79 fun x81 x82=>Aw .i64 x81 fun x83=>Ad x82<|Ad x77<|Bi WZ (some (A4.mk [.agg [.sc (.int .i64 2),.sc (.string (ByteArray.mk #[])),.sc (.bool false)],.sc (.int .i64 0)] [[.sc (.string x80),.sc (.int .i64 x83)]])) (Aj (call 67 [.pbox [.sc (.string x80),.sc (.int .i64 x83)],.sc (.string (ByteArray.mk #[110,117,108,108]))]) fun x84 x85=>Aa x84 fun x86 x87=>Ap x86 fun x88=>Ad x87<|Aa x85 fun x89 x90=>Aa x89 fun x91 x92=>Ax x91 fun x93=>Aa x92 fun x94 x95=>Aw .i64 x94 fun x96=>Ad x95<|Ad x90<|Bi x88 (some (A4.mk [.agg [.sc (.int .i64 1),.sc (.string (ByteArray.mk #[])),.sc (.bool false)],.sc (.int .i64 0)] [[.sc (.string x93),.sc (.int .i64 x96)]])) (Aj (call 92 [.pbox [.sc (.string x93),.sc (.int .i64 x96)]]) fun YL x98=>Aa YL fun x99 U8=>Ap x99 fun EA=>Ad U8<|Aa x98 fun Zf FC=>Aa Zf fun DX EI=>Ax DX fun Zr=>Aa EI fun Zq KS=>Aw .i64 Zq fun LW=>Ad KS<|Ad FC<|Bi EA (some (A4.mk [.agg [.sc (.int .i64 3),.sc (.string (ByteArray.mk #[])),.sc (.bool false)],.sc (.int .i64 0)] [[.sc (.string Zr),.sc (.int .i64 LW)]])) (some (A4.mk [.agg [.sc (.int .i64 0),.sc (.string (ByteArray.mk #[])),.sc (.bool false)],.sc (.int .i64 2)] [[.sc (.string Zr),.sc (.int .i64 LW)]])))))))))) (Bi (x5==91) (Bi (decide (a1>8)) (some (A4.mk [.agg [.sc (.int .i64 0),.sc (.string (ByteArray.mk #[])),.sc (.bool false)],.sc (.int .i64 5)] [[.sc (.string Gp),.sc (.int .i64 Ga)]])) (Bi (x5==123) (Ac (wrap .i64 (a1+1)) fun HL=>Aj (call 51 [.pbox [.sc (.string Gp),.sc (.int .i64 Ga)],.sc (.int .i64 HL),.sc (Value.map none)]) fun LB RX=>Aa LB fun NF MB=>Aw .i64 NF fun RI=>Ad MB<|Aa RX fun KN KO=>Aa KN fun IC KC=>Ax IC fun JY=>Aa KC fun NL MD=>Aw .i64 NL fun NJ=>Ad MD<|Ad KO<|some (A4.mk [.agg [.sc (.int .i64 6),.sc (.string (ByteArray.mk #[])),.sc (.bool false)],.sc (.int .i64 RI)] [[.sc (.string JY),.sc (.int .i64 NJ)]])) (Bi (x5==91) (Ac (wrap .i64 (a1+1)) fun LU=>Aj (call 91 [.pbox [.sc (.string Gp),.sc (.int .i64 Ga)],.sc (.int .i64 LU)]) fun MY GA=>Aa MY fun GT JN=>Aw .i64 GT fun Zv=>Ad JN<|Aa GA fun HM LM=>Aa HM fun LE GS=>Ax LE fun MK=>Aa GS fun KW LI=>Aw .i64 KW fun MS=>Ad LI<|Ad LM<|some (A4.mk [.agg [.sc (.int .i64 5),.sc (.string (ByteArray.mk #[])),.sc (.bool false)],.sc (.int .i64 Zv)] [[.sc (.string MK),.sc (.int .i64 MS)]])) (Bi (x5==34) (Aj (call 68 [.pbox [.sc (.string Gp),.sc (.int .i64 Ga)]]) fun TV OE=>Aa TV fun HU RJ=>Ax HU fun KZ=>Aa RJ fun FF QP=>Ap FF fun NM=>Ad QP<|Aa OE fun JE JX=>Aa JE fun JG IA=>Ax JG fun GY=>Aa IA fun ZJ WD=>Aw .i64 ZJ fun MP=>Ad WD<|Ad JX<|Bi NM (some (A4.mk [.agg [.sc (.int .i64 4),.sc (.string KZ),.sc (.bool false)],.sc (.int .i64 0)] [[.sc (.string GY),.sc (.int .i64 MP)]])) (some (A4.mk [.agg [.sc (.int .i64 0),.sc (.string (ByteArray.mk #[])),.sc (.bool false)],.sc (.int .i64 2)] [[.sc (.string GY),.sc (.int .i64 MP)]]))) (Aj (call 67 [.pbox [.sc (.string Gp),.sc (.int .i64 Ga)],.sc (.string (ByteArray.mk #[116,114,117,101]))]) fun WA WY=>Aa WA fun TI Aj9=>Ap TI fun Ale=>Ad Aj9<|Aa WY fun Aio Ai1=>Aa Aio fun Aoj Aiz=>Ax Aoj fun Adf=>Aa Aiz fun Aju Agb=>Aw .i64 Aju fun Aef=>Ad Agb<|Ad Ai1<|Bi Ale (some (A4.mk [.agg [.sc (.int .i64 2),.sc (.string (ByteArray.mk #[])),.sc (.bool true)],.sc (.int .i64 0)] [[.sc (.string Adf),.sc (.int .i64 Aef)]])) (Aj (call 67 [.pbox [.sc (.string Adf),.sc (.int .i64 Aef)],.sc (.string (ByteArray.mk #[102,97,108,115,101]))]) fun Ahp Ak7=>Aa Ahp fun Ai6 Alg=>Ap Ai6 fun Ahq=>Ad Alg<|Aa Ak7 fun Ajq Agy=>Aa Ajq fun Ahn Ak3=>Ax Ahn fun Abi=>Aa Ak3 fun Alf Ahu=>Aw .i64 Alf fun Adw=>Ad Ahu<|Ad Agy<|Bi Ahq (some (A4.mk [.agg [.sc (.int .i64 2),.sc (.string (ByteArray.mk #[])),.sc (.bool false)],.sc (.int .i64 0)] [[.sc (.string Abi),.sc (.int .i64 Adw)]])) (Aj (call 67 [.pbox [.sc (.string Abi),.sc (.int .i64 Adw)],.sc (.string (ByteArray.mk #[110,117,108,108]))]) fun Aix Agl=>Aa Aix fun Aiq Aij=>Ap Aiq fun Ai2=>Ad Aij<|Aa Agl fun Alo Ai5=>Aa Alo fun Aht Alh=>Ax Aht fun Abz=>Aa Alh fun Agu Aig=>Aw .i64 Agu fun Ad2=>Ad Aig<|Ad Ai5<|Bi Ai2 (some (A4.mk [.agg [.sc (.int .i64 1),.sc (.string (ByteArray.mk #[])),.sc (.bool false)],.sc (.int .i64 0)] [[.sc (.string Abz),.sc (.int .i64 Ad2)]])) (Aj (call 92 [.pbox [.sc (.string Abz),.sc (.int .i64 Ad2)]]) fun Aie Ah7=>Aa Aie fun Ai4 Aku=>Ap Ai4 fun Af9=>Ad Aku<|Aa Ah7 fun Ai8 Ahd=>Aa Ai8 fun Ahv Aii=>Ax Ahv fun Acn=>Aa Aii fun Agc Agf=>Aw .i64 Agc fun WE=>Ad Agf<|Ad Ahd<|Bi Af9 (some (A4.mk [.agg [.sc (.int .i64 3),.sc (.string (ByteArray.mk #[])),.sc (.bool false)],.sc (.int .i64 0)] [[.sc (.string Acn),.sc (.int .i64 WE)]])) (some (A4.mk [.agg [.sc (.int .i64 0),.sc (.string (ByteArray.mk #[])),.sc (.bool false)],.sc (.int .i64 2)] [[.sc (.string Acn),.sc (.int .i64 WE)]])))))))))) (Bi (x5==123) (Ac (wrap .i64 (a1+1)) fun Akw=>Aj (call 51 [.pbox [.sc (.string Gp),.sc (.int .i64 Ga)],.sc (.int .i64 Akw),.sc (Value.map none)]) fun Aje Acd=>Aa Aje fun Ah5 Agp=>Aw .i64 Ah5 fun Ag6=>Ad Agp<|Aa Acd fun Ajb Aiv=>Aa Ajb fun Ah8 Akq=>Ax Ah8 fun Ako=>Aa Akq fun Ak2 Adg=>Aw .i64 Ak2 fun Ait=>Ad Adg<|Ad Aiv<|some (A4.mk [.agg [.sc (.int .i64 6),.sc (.string (ByteArray.mk #[])),.sc (.bool false)],.sc (.int .i64 Ag6)] [[.sc (.string Ako),.sc (.int .i64 Ait)]])) (Bi (x5==91) (Ac (wrap .i64 (a1+1)) fun Ai7=>Aj (call 91 [.pbox [.sc (.string Gp),.sc (.int .i64 Ga)],.sc (.int .i64 Ai7)]) fun Ada Agi=>Aa Ada fun Ajz Aim=>Aw .i64 Ajz fun Ajo=>Ad Aim<|Aa Agi fun Ao3 Aj4=>Aa Ao3 fun Aj3 Akp=>Ax Aj3 fun Akz=>Aa Akp fun Agx Ajn=>Aw .i64 Agx fun Ahc=>Ad Ajn<|Ad Aj4<|some (A4.mk [.agg [.sc (.int .i64 5),.sc (.string (ByteArray.mk #[])),.sc (.bool false)],.sc (.int .i64 Ajo)] [[.sc (.string Akz),.sc (.int .i64 Ahc)]])) (Bi (x5==34) (Aj (call 68 [.pbox [.sc (.string Gp),.sc (.int .i64 Ga)]]) fun Ajp Ag1=>Aa Ajp fun Aia Aj2=>Ax Aia fun Ahj=>Aa Aj2 fun Ahw Agm=>Ap Ahw fun Ahb=>Ad Agm<|Aa Ag1 fun Ah0 Ahg=>Aa Ah0 fun Ajv Ag8=>Ax Ajv fun Ad1=>Aa Ag8 fun Ag5 Agq=>Aw .i64 Ag5 fun Adh=>Ad Agq<|Ad Ahg<|Bi Ahb (some (A4.mk [.agg [.sc (.int .i64 4),.sc (.string Ahj),.sc (.bool false)],.sc (.int .i64 0)] [[.sc (.string Ad1),.sc (.int .i64 Adh)]])) (some (A4.mk [.agg [.sc (.int .i64 0),.sc (.string (ByteArray.mk #[])),.sc (.bool false)],.sc (.int .i64 2)] [[.sc (.string Ad1),.sc (.int .i64 Adh)]]))) (Aj (call 67 [.pbox [.sc (.string Gp),.sc (.int .i64 Ga)],.sc (.string (ByteArray.mk #[116,114,117,101]))]) fun Aj5 Agn=>Aa Aj5 fun Aif Aiw=>Ap Aif fun Aj0=>Ad Aiw<|Aa Agn fun Alj Aji=>Aa Alj fun Ah1 Ahh=>Ax Ah1 fun Aca=>Aa Ahh fun Agg Ajc=>Aw .i64 Agg fun Ab7=>Ad Ajc<|Ad Aji<|Bi Aj0 (some (A4.mk [.agg [.sc (.int .i64 2),.sc (.string (ByteArray.mk #[])),.sc (.bool true)],.sc (.int .i64 0)] [[.sc (.string Aca),.sc (.int .i64 Ab7)]])) (Aj (call 67 [.pbox [.sc (.string Aca),.sc (.int .i64 Ab7)],.sc (.string (ByteArray.mk #[102,97,108,115,101]))]) fun Ake Ajy=>Aa Ake fun Ai0 Ah6=>Ap Ai0 fun Ag3=>Ad Ah6<|Aa Ajy fun Akf Akx=>Aa Akf fun Acw Ajt=>Ax Acw fun Aa9=>Aa Ajt fun Adl Ahl=>Aw .i64 Adl fun Ac4=>Ad Ahl<|Ad Akx<|Bi Ag3 (some (A4.mk [.agg [.sc (.int .i64 2),.sc (.string (ByteArray.mk #[])),.sc (.bool false)],.sc (.int .i64 0)] [[.sc (.string Aa9),.sc (.int .i64 Ac4)]])) (Aj (call 67 [.pbox [.sc (.string Aa9),.sc (.int .i64 Ac4)],.sc (.string (ByteArray.mk #[110,117,108,108]))]) fun Akl Ahz=>Aa Akl fun Af7 Aln=>Ap Af7 fun Aih=>Ad Aln<|Aa Ahz fun Agk Aha=>Aa Agk fun Acf Af5=>Ax Acf fun Ac3=>Aa Af5 fun Adx Aga=>Aw .i64 Adx fun Ack=>Ad Aga<|Ad Aha<|Bi Aih (some (A4.mk [.agg [.sc (.int .i64 1),.sc (.string (ByteArray.mk #[])),.sc (.bool false)],.sc (.int .i64 0)] [[.sc (.string Ac3),.sc (.int .i64 Ack)]])) (Aj (call 92 [.pbox [.sc (.string Ac3),.sc (.int .i64 Ack)]]) fun Alc Ala=>Aa Alc fun Amv Ahs=>Ap Amv fun Aj1=>Ad Ahs<|Aa Ala fun Aib Alb=>Aa Aib fun Ak6 Agz=>Ax Ak6 fun Ac8=>Aa Agz fun Aja Ag2=>Aw .i64 Aja fun Ad9=>Ad Ag2<|Ad Alb<|Bi Aj1 (some (A4.mk [.agg [.sc (.int .i64 3),.sc (.string (ByteArray.mk #[])),.sc (.bool false)],.sc (.int .i64 0)] [[.sc (.string Ac8),.sc (.int .i64 Ad9)]])) (some (A4.mk [.agg [.sc (.int .i64 0),.sc (.string (ByteArray.mk #[])),.sc (.bool false)],.sc (.int .i64 2)] [[.sc (.string Ac8),.sc (.int .i64 Ad9)]]))))))))))) (Af (CP p) prog fu d):=by kernel_rfl
end
section
open Go.Proofs.Tryd (prog)
open Go.IntKind (wrap)
theorem Ahi:∀n:Fin 256,decide (Lib.indexByte [32,9,10,13] (n.val:Int).toNat.toUInt8>=0)=TF (n.val:Int):=by decide +kernel
theorem Ano {c:Int}(h0:0<=c)(h1:c<=255):decide (Lib.indexByte [32,9,10,13] c.toNat.toUInt8>=0)=TF c:=by
 obtain⟨n,rfl⟩:=Int.eq_ofNat_of_zero_le h0;exact Ahi ⟨n,by omega⟩
theorem Bo {t:ByteArray}:∀{l:List Int},C3 t l->C3 t (Bd l)
 |[],h=>h
 |c::l,h=>by
  unfold Bd;split
  ·exact Bo h.tail
  ·exact h
theorem Np:∀(l:List Int),(Bd l).length<=l.length
 |[]=>Nat.le_refl _
 |c::l=>by
  unfold Bd;split
  ·exact Nat.le_succ_of_le (Np l)
  ·exact Nat.le_refl _
section
variable {fu d:Nat}
theorem Amp (s:ByteArray)(c:Int):Af C0 prog fu (d+2) I4 [.sc (.string s),.sc (.int .u8 c)]=some ⟨[.sc (.int .i64 (Lib.indexByte s.data.toList c.toNat.toUInt8))],[]⟩:=by
 have e:Af C0 prog fu (d+1) 40 [.sc (.string s),.sc (.int .u8 c)]=some ⟨[.sc (.int .i64 (Lib.indexByte s.data.toList c.toNat.toUInt8))],[]⟩:=rfl;rw[Ja];simp only[Ez,e]
theorem CC {t s0:ByteArray}{p0:Int}(ht:t.size<=1000000):∀(r:List Int)(nn:Nat),r.length+1<=nn->C3 t r ->
  Cz fu (Af C0 prog fu (d+2)) s0 p0 nn t (Bp t r:Int)=some ⟨[],[Bv t (Bd r)]⟩
 |[],nn,Pj,h=>by
  obtain⟨k,rfl⟩:∃k,nn=k+1:=⟨nn-1,by omega⟩
  have e:decide ((Bp t []:Int)<(t.size:Int))=false:=by simp[Rd]
  rw[Ei];simp only[Ez,e];rfl
 |c::r,nn,Pj,h=>by
  obtain⟨k,rfl⟩:∃k,nn=k+1:=⟨nn-1,by omega⟩
  have ih:=CC (s0:=s0) (p0:=p0) ht r k (by simp at Pj;omega) h.tail
  have hc:=h.B c (by simp)
  have hl:=h.len;have hp:=Jq h
  have e6:wrap .i64 ((Bp t (c::r):Int)+1)=(Bp t r:Int):=by
   rw[hp,Bj (by unfold Bp;omega) (by unfold Bp;omega)];omega
  have Q0:Bp t (c::r)<t.size:=by
   unfold Bp;rw[UR] at hl ⊢;omega
  obtain⟨b,hb,rfl⟩:=h.at;have e:decide ((Bp t ((b.toNat:Int)::r):Int)<(t.size:Int))=true:=by simp;omega
  have e2:decide ((0:Int)<=(Bp t ((b.toNat:Int)::r):Int))=true:=by simp
  rw[←Pu (Bp t ((b.toNat:Int)::r))] at hb;have ix:Af C0 prog fu (d+2) 27 [.sc (.string (ByteArray.mk #[(32:UInt8),(9:UInt8),(10:UInt8),(13:UInt8)])),.sc (.int .u8 (b.toNat:Int))]=some ⟨[.sc (.int .i64 (Lib.indexByte [32,9,10,13] (b.toNat:Int).toNat.toUInt8))],[]⟩:=Amp _ _;have hw:=Ano hc.1 hc.2;rw[Ei];cases hq:TF (b.toNat:Int)
  ·rw[hq] at hw
   have es:Bd ((b.toNat:Int)::r)=(b.toNat:Int)::r:=by
    show (if TF _=true then _ else _)=_
    rw[hq];rfl
   rw[es];simp only[Ez,e,e2,hb,ix,hw]
  ·rw[hq] at hw
   have es:Bd ((b.toNat:Int)::r)=Bd r:=by
    show (if TF _=true then _ else _)=_
    rw[hq];rfl
   rw[es];simp only[Ez,e,e2,hb,ix,hw,e6,ih]
theorem Md {t:ByteArray}{r:List Int}(h:C3 t r)(ht:t.size<=1000000)(Gr:t.size+1<=fu):Af C0 prog fu (d+3) E5 [.pbox (Bv t r)]=some ⟨[],[Bv t (Bd r)]⟩:=by
 rw[Im];exact CC ht r fu (by have:=h.len;omega) h
theorem CE {t:ByteArray}:∀{l:List Int},C3 t l->C3 t (Ip l)
 |[],h=>h
 |c::l,h=>by
  unfold Ip;split
  ·exact CE h.tail
  ·exact h
theorem BZ:∀(l:List Int),(Ip l).length<=l.length
 |[]=>Nat.le_refl _
 |c::l=>by
  unfold Ip;split
  ·exact Nat.le_succ_of_le (BZ l)
  ·exact Nat.le_refl _
theorem Uc {t s0:ByteArray}{p0 y0:Int}(ht:t.size<=1000000):∀(r:List Int)(nn:Nat),r.length+1<=nn->C3 t r ->
  Cp fu (Af C0 prog fu (d+1)) s0 p0 nn y0 t (Bp t r:Int)=some ⟨[.sc (.bool (decide ((Bp t (Ip r):Int)>y0)))],[Bv t (Ip r)]⟩
 |[],nn,Pj,h=>by
  obtain⟨k,rfl⟩:∃k,nn=k+1:=⟨nn-1,by omega⟩
  have pk:Af C0 prog fu (d+1) 90 [.pbox (Bv t [])]=some ⟨[.sc (.int .u8 0)],[Bv t []]⟩:=J5 (xs:=xs0) h;have e:decide ((0:Int)>=48)=false:=rfl;rw[Ef];simp only[Ez,pk,e];rfl
 |c::r,nn,Pj,h=>by
  obtain⟨k,rfl⟩:∃k,nn=k+1:=⟨nn-1,by omega⟩
  have ih:=Uc (s0:=s0) (p0:=p0) (y0:=y0) ht r k (by simp at Pj;omega) h.tail
  have hc:=h.B c (by simp)
  have hl:=h.len;have hp:=Jq h
  have e6:wrap .i64 ((Bp t (c::r):Int)+1)=(Bp t r:Int):=by
   rw[hp,Bj (by unfold Bp;omega) (by unfold Bp;omega)];omega
  have pk:Af C0 prog fu (d+1) 90 [.pbox (Bv t (c::r))]=some ⟨[.sc (.int .u8 c)],[Bv t (c::r)]⟩:=J5 (xs:=xs0) h;have ed:Ip (c::r)=if SO c=true then Ip r else c::r:=rfl
  rw[Ef,ed];by_cases h1:48<=c
  ·have e1:decide (c>=48)=true:=by simp;omega
   by_cases h2:c<=57
   ·have e2:decide (c<=57)=true:=by simp;omega
    have e3:SO c=true:=by simp[SO];omega
    rw[Fa e3];simp only[Ez,pk,e1,e2,e6,ih]
   ·have e2:decide (c<=57)=false:=by simp;omega
    have e3:¬SO c=true:=by simp[SO];omega
    rw[D1 e3];simp only[Ez,pk,e1,e2]
  ·have e1:decide (c>=48)=false:=by simp;omega
   have e3:¬SO c=true:=by simp[SO];omega
   rw[D1 e3];simp only[Ez,pk,e1]
def Ap3 (t:ByteArray)(r:List Int)(o:Option (List Int)):A4:=⟨[.sc (.bool o.isSome)],[Bv t (o.getD r)]⟩
theorem Dj {t:ByteArray}{r:List Int}(h:C3 t r)(ht:t.size<=1000000)(Gr:t.size+1<=fu):Af C0 prog fu (d+2) Eu [.pbox (Bv t r)]=some (Ap3 t r (Cc r)):=by
 rw[Hu];refine (Uc ht r fu (by have:=h.len;omega) h).trans ?_
 cases r with
 |nil=>
  have e:decide ((Bp t (Ip []):Int)>(Bp t []:Int))=false:=by simp[Ip]
  rw[e];rfl
 |cons c r=>
  have hl:=h.len;have hp:=Jq h;have ed:Ip (c::r)=if SO c=true then Ip r else c::r:=rfl
  have eg:Cc (c::r)=if SO c=true then some (Ip r) else none:=rfl
  rw[ed,eg];have hd:=BZ r;by_cases q:SO c=true
  ·rw[Fa q,Fa q]
   have e:decide ((Bp t (Ip r):Int)>(Bp t (c::r):Int))=true:=by
    rw[UR] at hl;simp only[gt_iff_lt,decide_eq_true_eq];unfold Bp;rw[UR];omega
   rw[e];rfl
  ·rw[D1 q,D1 q];have e:decide ((Bp t (c::r):Int)>(Bp t (c::r):Int))=false:=by simp
   rw[e];rfl
theorem NX {t:ByteArray}{r:List Int}(c:UInt8)(h:C3 t r)(ht:t.size<=1000000):Af C0 prog fu (d+3) 67 [.pbox (Bv t r),.sc (.string (ByteArray.mk #[c]))]=some (Ap3 t r (Ao [(c.toNat:Int)] r)):=by
 have hc:=c.toNat_lt;have e:=Nv (fu:=fu) (d:=d) (xs:=xs0) h ht (w:=[(c.toNat:Int)]) (fun x hx=>by simp at hx;omega) (show 1<=100 by decide)
 have e2:Ab [(c.toNat:Int)]=ByteArray.mk #[c]:=by
  show ByteArray.mk #[((c.toNat:Int)).toNat.toUInt8]=_;rw[Pu];simp
 rw[e2] at e;refine e.trans ?_;cases Ao [(c.toNat:Int)] r<;>rfl
theorem Fb (c:Int):∀r:List Int,Ao [c] r=match r with|[]=>none|x::r'=>if x=c then some r' else none
 |[]=>rfl
 |x::r=>by
  unfold Ao;by_cases h:x=c
  ·subst h;rw[Fa (by simp[List.isPrefixOf])]
   simp
  ·rw[D1 (by simp[List.isPrefixOf];exact fun e=>h e.symm)]
   simp[h]
theorem An {t:ByteArray}{w r r':List Int}(h:C3 t r)(e:Ao w r=some r'):C3 t r':=by
 unfold Ao at e;split at e
 ·cases e;exact h.drop _
 ·cases e
theorem S9 (c:Int)(r:List Int):VU c r=(Ao [c] r).getD r:=by
 rw[Fb];cases r with
 |nil=>rfl
 |cons x r=>
  show (if x=c then r else x::r)=_
  split<;>simp_all
theorem CH (r:List Int):Ac2 r=match Ao [48] r with|some q=>some q|none=>Cc r:=by
 rw[Fb];cases r with
 |nil=>rfl
 |cons x r=>
  show (if x=48 then some r else Cc (x::r))=_
  by_cases h:x=48
  ·rw[Fa h];simp[h]
  ·rw[D1 h];simp[h]
theorem Qd (r:List Int):V7 r=match Ao [46] r with|some q=>(Cc q).bind Qn|none=>Qn r:=by
 rw[Fb];cases r with
 |nil=>rfl
 |cons x r=>
  show (if x=46 then (Cc r).bind Qn else Qn (x::r))=_
  by_cases h:x=46
  ·rw[Fa h];simp[h]
  ·rw[D1 h];simp[h]
def J8 (r:List Int):Option (List Int):=match Ao [43] r with|some q=>Cc q|none=>Cc ((Ao [45] r).getD r)
theorem Abk (r:List Int):(match r with|43::r'=>Cc r'|r=>Cc (VU 45 r))=J8 r:=by
 unfold J8;rw[Fb 43,←S9];split
 ·simp
 ·rename_i D8;cases r with
  |nil=>rfl
  |cons x r=>
   by_cases h:x=43
   ·exact absurd (by rw[h]) (D8 r)
   ·simp[h]
theorem Lt (r:List Int):Qn r=match Ao [101] r with|some q=>J8 q|none=>match Ao [69] r with|some q=>J8 q|none=>some r:=by
 rw[Fb,Fb];cases r with
 |nil=>rfl
 |cons x r=>
  have e:Qn (x::r)=if x=101∨x=69 then J8 r else some (x::r):=by
   rw[←Abk];rfl
  rw[e];by_cases h:x=101
  ·rw[Fa (Or.inl h)];simp[h]
  ·by_cases h2:x=69
   ·rw[Fa (Or.inr h2)];simp[h2]
   ·rw[D1 (by omega)];simp[h,h2]
theorem Cs {t:ByteArray}{r r':List Int}(h:C3 t r)(e:Cc r=some r'):C3 t r':=by
 cases r with
 |nil=>cases e
 |cons c r=>
  have eg:Cc (c::r)=if SO c=true then some (Ip r) else none:=rfl
  rw[eg] at e;split at e
  ·cases e;exact CE h.tail
  ·cases e
theorem Ce {t:ByteArray}{r:List Int}{o:Option (List Int)} (h:C3 t r)(ho:∀q,o=some q->C3 t q):C3 t (o.getD r):=by
 cases o with
 |none=>exact h
 |some q=>exact ho q rfl
end
end
section
open Go.Proofs.Tryd (prog)
open Go.IntKind (wrap)
section
variable {fu d:Nat}
theorem Dv {t:ByteArray}{r:List Int}(c:UInt8)(n:Int)(hn:(c.toNat:Int)=n) (h:C3 t r)(ht:t.size<=1000000)(hq:Ao [n] r=none):Af C0 prog fu (d+3) 67 [.pbox (Bv t r),.sc (.string (ByteArray.mk #[c]))]=some ⟨[.sc (.bool false)],[Bv t r]⟩:=by
 subst hn;have e:=NX (fu:=fu) (d:=d) c h ht;rw[hq] at e;exact e
theorem Cq {t:ByteArray}{r q:List Int}(c:UInt8)(n:Int)(hn:(c.toNat:Int)=n) (h:C3 t r)(ht:t.size<=1000000)(hq:Ao [n] r=some q):Af C0 prog fu (d+3) 67 [.pbox (Bv t r),.sc (.string (ByteArray.mk #[c]))]=some ⟨[.sc (.bool true)],[Bv t q]⟩:=by
 subst hn;have e:=NX (fu:=fu) (d:=d) c h ht;rw[hq] at e;exact e
theorem Jd {t:ByteArray}{r:List Int}(c:UInt8)(n:Int)(hn:(c.toNat:Int)=n) (h:C3 t r)(ht:t.size<=1000000):Af C0 prog fu (d+3) 67 [.pbox (Bv t r),.sc (.string (ByteArray.mk #[c]))]=some ⟨[.sc (.bool (Ao [n] r).isSome)],[Bv t ((Ao [n] r).getD r)]⟩:=by
 subst hn;exact NX (fu:=fu) (d:=d) c h ht
set_option maxHeartbeats 2000000 in
theorem WR {t:ByteArray}{r:List Int}(h:C3 t r)(ht:t.size<=1000000)(Gr:t.size+1<=fu):∃r',C3 t r'∧Af C0 prog fu (d+4) Ev [.pbox (Bv t r)]=some ⟨[.sc (.bool (E0 r).isSome)],[Bv t r']⟩∧∀q,E0 r=some q->r'=q:=by
 have a0:=Jd (fu:=fu) (d:=d) 45 45 rfl h ht;have RL:C3 t ((Ao [45] r).getD r):=Ce h fun q e=>An h e
 have Sq:E0 r=(Ac2 ((Ao [45] r).getD r)).bind V7:=by rw[←S9];rfl
 generalize (Ao [45] r).getD r=r1 at a0 RL Sq;generalize (Ao [45] r).isSome=b0 at a0;rw[CH] at Sq;rcases hz:Ao [48] r1 with _|r2
 ·have Fo:=Dv (fu:=fu) (d:=d) 48 48 rfl RL ht hz;rw[hz] at Sq;have KF:=Dj (d:=d+1) RL ht Gr;rcases hzd:Cc r1 with _|r2
  ·simp only[hzd] at KF Sq;have K0:Af C0 prog fu (d+3) 107 [.pbox (Bv t r1)]=some ⟨[.sc (.bool false)],[Bv t r1]⟩:=KF;have hn:E0 r=none:=Sq;refine⟨r1,RL,?_,?_⟩
   ·rw[hn,Ag]
    try unfold Ac
    repeat first
     |((with_reducible first|apply A0|apply Ar|apply Ay|apply At|apply A1|apply As|apply A3|apply Az);· first|with_reducible rfl|(simp (disch:=omega) only[gT,a0,Fo,K0,Db,Dw]<;>first|with_reducible rfl|omega)|omega)
     |(with_reducible apply A2;· first|with_reducible rfl|(simp (disch:=omega) only[gF,a0,Fo,K0,Db,Dw]<;>omega))
    try simp (disch:=omega) only[a0,Fo,K0,Db,Dw]
    try rfl
   ·rw[hn];intro q e;cases e
  ·simp only[hzd] at KF Sq;have K0:Af C0 prog fu (d+3) 107 [.pbox (Bv t r1)]=some ⟨[.sc (.bool true)],[Bv t r2]⟩:=KF;have Qu:=Cs RL hzd;have Za:E0 r=V7 r2:=Sq;rw[Qd] at Za;rcases hdt:Ao [46] r2 with _|r3
   ·have F4:=Dv (fu:=fu) (d:=d) 46 46 rfl Qu ht hdt;rw[hdt] at Za;have Jy:E0 r=Qn r2:=Za;rw[Lt] at Jy;rcases he:Ao [101] r2 with _|r5
    ·have Ge:=Dv (fu:=fu) (d:=d) 101 101 rfl Qu ht he;rw[he] at Jy;rcases hE:Ao [69] r2 with _|r5
     ·have K3:=Dv (fu:=fu) (d:=d) 69 69 rfl Qu ht hE;have hn:E0 r=some r2:=by rw[Jy,hE]
      refine⟨r2,Qu,?_,?_⟩
      ·rw[hn,Ag]
       try unfold Ac
       repeat first
        |((with_reducible first|apply A0|apply Ar|apply Ay|apply At|apply A1|apply As|apply A3|apply Az);· first|with_reducible rfl|(simp (disch:=omega) only[gT,a0,Fo,K0,F4,Ge,K3,Db,Dw]<;>first|with_reducible rfl|omega)|omega)
        |(with_reducible apply A2;· first|with_reducible rfl|(simp (disch:=omega) only[gF,a0,Fo,K0,F4,Ge,K3,Db,Dw]<;>omega))
       try simp (disch:=omega) only[a0,Fo,K0,F4,Ge,K3,Db,Dw]
       try rfl
      ·rw[hn];intro q e;cases e;rfl
     ·have K3:=Cq (fu:=fu) (d:=d) 69 69 rfl Qu ht hE;have Hl:=An Qu hE;rw[hE] at Jy;simp only at Jy;rcases hp:Ao [43] r5 with _|r6
      ·have Gf:=Dv (fu:=fu) (d:=d) 43 43 rfl Hl ht hp;have Ca:=Jd (fu:=fu) (d:=d) 45 45 rfl Hl ht;have Fg:C3 t ((Ao [45] r5).getD r5):=Ce Hl fun q e=>An Hl e
       have hn:E0 r=Cc ((Ao [45] r5).getD r5):=by rw[Jy];unfold J8;rw[hp]
       generalize (Ao [45] r5).getD r5=r6 at Ca Fg hn;generalize (Ao [45] r5).isSome=b1 at Ca;have hg:Af C0 prog fu (d+3) 107 [.pbox (Bv t r6)]=some ⟨[.sc (.bool (Cc r6).isSome)],[Bv t ((Cc r6).getD r6)]⟩:=Dj (d:=d+1) Fg ht Gr;refine⟨(Cc r6).getD r6,Ce Fg fun q e=>Cs Fg e,?_,?_⟩
       ·rw[hn,Ag]
        try unfold Ac
        repeat first
         |((with_reducible first|apply A0|apply Ar|apply Ay|apply At|apply A1|apply As|apply A3|apply Az);· first|with_reducible rfl|(simp (disch:=omega) only[gT,a0,Fo,K0,F4,Ge,K3,Gf,Ca,hg,Db,Dw]<;>first|with_reducible rfl|omega)|omega)
         |(with_reducible apply A2;· first|with_reducible rfl|(simp (disch:=omega) only[gF,a0,Fo,K0,F4,Ge,K3,Gf,Ca,hg,Db,Dw]<;>omega))
        try simp (disch:=omega) only[a0,Fo,K0,F4,Ge,K3,Gf,Ca,hg,Db,Dw]
        try rfl
       ·rw[hn];intro q e;rw[e];rfl
      ·have Gf:=Cq (fu:=fu) (d:=d) 43 43 rfl Hl ht hp;have Fg:=An Hl hp;have hn:E0 r=Cc r6:=by rw[Jy];unfold J8;rw[hp]
       have hg:Af C0 prog fu (d+3) 107 [.pbox (Bv t r6)]=some ⟨[.sc (.bool (Cc r6).isSome)],[Bv t ((Cc r6).getD r6)]⟩:=Dj (d:=d+1) Fg ht Gr;refine⟨(Cc r6).getD r6,Ce Fg fun q e=>Cs Fg e,?_,?_⟩
       ·rw[hn,Ag]
        try unfold Ac
        repeat first
         |((with_reducible first|apply A0|apply Ar|apply Ay|apply At|apply A1|apply As|apply A3|apply Az);· first|with_reducible rfl|(simp (disch:=omega) only[gT,a0,Fo,K0,F4,Ge,K3,Gf,hg,Db,Dw]<;>first|with_reducible rfl|omega)|omega)
         |(with_reducible apply A2;· first|with_reducible rfl|(simp (disch:=omega) only[gF,a0,Fo,K0,F4,Ge,K3,Gf,hg,Db,Dw]<;>omega))
        try simp (disch:=omega) only[a0,Fo,K0,F4,Ge,K3,Gf,hg,Db,Dw]
        try rfl
       ·rw[hn];intro q e;rw[e];rfl
    ·have Ge:=Cq (fu:=fu) (d:=d) 101 101 rfl Qu ht he;have Hl:=An Qu he;rw[he] at Jy;simp only at Jy;rcases hp:Ao [43] r5 with _|r6
     ·have Gf:=Dv (fu:=fu) (d:=d) 43 43 rfl Hl ht hp;have Ca:=Jd (fu:=fu) (d:=d) 45 45 rfl Hl ht;have Fg:C3 t ((Ao [45] r5).getD r5):=Ce Hl fun q e=>An Hl e
      have hn:E0 r=Cc ((Ao [45] r5).getD r5):=by rw[Jy];unfold J8;rw[hp]
      generalize (Ao [45] r5).getD r5=r6 at Ca Fg hn;generalize (Ao [45] r5).isSome=b1 at Ca;have hg:Af C0 prog fu (d+3) 107 [.pbox (Bv t r6)]=some ⟨[.sc (.bool (Cc r6).isSome)],[Bv t ((Cc r6).getD r6)]⟩:=Dj (d:=d+1) Fg ht Gr;refine⟨(Cc r6).getD r6,Ce Fg fun q e=>Cs Fg e,?_,?_⟩
      ·rw[hn,Ag]
       try unfold Ac
       repeat first
        |((with_reducible first|apply A0|apply Ar|apply Ay|apply At|apply A1|apply As|apply A3|apply Az);· first|with_reducible rfl|(simp (disch:=omega) only[gT,a0,Fo,K0,F4,Ge,Gf,Ca,hg,Db,Dw]<;>first|with_reducible rfl|omega)|omega)
        |(with_reducible apply A2;· first|with_reducible rfl|(simp (disch:=omega) only[gF,a0,Fo,K0,F4,Ge,Gf,Ca,hg,Db,Dw]<;>omega))
       try simp (disch:=omega) only[a0,Fo,K0,F4,Ge,Gf,Ca,hg,Db,Dw]
       try rfl
      ·rw[hn];intro q e;rw[e];rfl
     ·have Gf:=Cq (fu:=fu) (d:=d) 43 43 rfl Hl ht hp;have Fg:=An Hl hp;have hn:E0 r=Cc r6:=by rw[Jy];unfold J8;rw[hp]
      have hg:Af C0 prog fu (d+3) 107 [.pbox (Bv t r6)]=some ⟨[.sc (.bool (Cc r6).isSome)],[Bv t ((Cc r6).getD r6)]⟩:=Dj (d:=d+1) Fg ht Gr;refine⟨(Cc r6).getD r6,Ce Fg fun q e=>Cs Fg e,?_,?_⟩
      ·rw[hn,Ag]
       try unfold Ac
       repeat first
        |((with_reducible first|apply A0|apply Ar|apply Ay|apply At|apply A1|apply As|apply A3|apply Az);· first|with_reducible rfl|(simp (disch:=omega) only[gT,a0,Fo,K0,F4,Ge,Gf,hg,Db,Dw]<;>first|with_reducible rfl|omega)|omega)
        |(with_reducible apply A2;· first|with_reducible rfl|(simp (disch:=omega) only[gF,a0,Fo,K0,F4,Ge,Gf,hg,Db,Dw]<;>omega))
       try simp (disch:=omega) only[a0,Fo,K0,F4,Ge,Gf,hg,Db,Dw]
       try rfl
      ·rw[hn];intro q e;rw[e];rfl
   ·have F4:=Cq (fu:=fu) (d:=d) 46 46 rfl Qu ht hdt;have hS3:=An Qu hdt;rw[hdt] at Za;have Za:E0 r=(Cc r3).bind Qn:=Za;have hd1:=Dj (d:=d+1) hS3 ht Gr;rcases AH:Cc r3 with _|r4
    ·rw[AH] at hd1 Za;have Km:Af C0 prog fu (d+3) 107 [.pbox (Bv t r3)]=some ⟨[.sc (.bool false)],[Bv t r3]⟩:=hd1;have hn:E0 r=none:=Za;refine⟨r3,hS3,?_,?_⟩
     ·rw[hn,Ag]
      try unfold Ac
      repeat first
       |((with_reducible first|apply A0|apply Ar|apply Ay|apply At|apply A1|apply As|apply A3|apply Az);· first|with_reducible rfl|(simp (disch:=omega) only[gT,a0,Fo,K0,F4,Km,Db,Dw]<;>first|with_reducible rfl|omega)|omega)
       |(with_reducible apply A2;· first|with_reducible rfl|(simp (disch:=omega) only[gF,a0,Fo,K0,F4,Km,Db,Dw]<;>omega))
      try simp (disch:=omega) only[a0,Fo,K0,F4,Km,Db,Dw]
      try rfl
     ·rw[hn];intro q e;cases e
    ·rw[AH] at hd1 Za;have Km:Af C0 prog fu (d+3) 107 [.pbox (Bv t r3)]=some ⟨[.sc (.bool true)],[Bv t r4]⟩:=hd1;have Vt:=Cs hS3 AH;have Jy:E0 r=Qn r4:=Za;rw[Lt] at Jy;rcases he:Ao [101] r4 with _|r5
     ·have Ge:=Dv (fu:=fu) (d:=d) 101 101 rfl Vt ht he;rw[he] at Jy;rcases hE:Ao [69] r4 with _|r5
      ·have K3:=Dv (fu:=fu) (d:=d) 69 69 rfl Vt ht hE;have hn:E0 r=some r4:=by rw[Jy,hE]
       refine⟨r4,Vt,?_,?_⟩
       ·rw[hn,Ag]
        try unfold Ac
        repeat first
         |((with_reducible first|apply A0|apply Ar|apply Ay|apply At|apply A1|apply As|apply A3|apply Az);· first|with_reducible rfl|(simp (disch:=omega) only[gT,a0,Fo,K0,F4,Km,Ge,K3,Db,Dw]<;>first|with_reducible rfl|omega)|omega)
         |(with_reducible apply A2;· first|with_reducible rfl|(simp (disch:=omega) only[gF,a0,Fo,K0,F4,Km,Ge,K3,Db,Dw]<;>omega))
        try simp (disch:=omega) only[a0,Fo,K0,F4,Km,Ge,K3,Db,Dw]
        try rfl
       ·rw[hn];intro q e;cases e;rfl
      ·have K3:=Cq (fu:=fu) (d:=d) 69 69 rfl Vt ht hE;have Hl:=An Vt hE;rw[hE] at Jy;simp only at Jy;rcases hp:Ao [43] r5 with _|r6
       ·have Gf:=Dv (fu:=fu) (d:=d) 43 43 rfl Hl ht hp;have Ca:=Jd (fu:=fu) (d:=d) 45 45 rfl Hl ht;have Fg:C3 t ((Ao [45] r5).getD r5):=Ce Hl fun q e=>An Hl e
        have hn:E0 r=Cc ((Ao [45] r5).getD r5):=by rw[Jy];unfold J8;rw[hp]
        generalize (Ao [45] r5).getD r5=r6 at Ca Fg hn;generalize (Ao [45] r5).isSome=b1 at Ca;have hg:Af C0 prog fu (d+3) 107 [.pbox (Bv t r6)]=some ⟨[.sc (.bool (Cc r6).isSome)],[Bv t ((Cc r6).getD r6)]⟩:=Dj (d:=d+1) Fg ht Gr;refine⟨(Cc r6).getD r6,Ce Fg fun q e=>Cs Fg e,?_,?_⟩
        ·rw[hn,Ag]
         try unfold Ac
         repeat first
          |((with_reducible first|apply A0|apply Ar|apply Ay|apply At|apply A1|apply As|apply A3|apply Az);· first|with_reducible rfl|(simp (disch:=omega) only[gT,a0,Fo,K0,F4,Km,Ge,K3,Gf,Ca,hg,Db,Dw]<;>first|with_reducible rfl|omega)|omega)
          |(with_reducible apply A2;· first|with_reducible rfl|(simp (disch:=omega) only[gF,a0,Fo,K0,F4,Km,Ge,K3,Gf,Ca,hg,Db,Dw]<;>omega))
         try simp (disch:=omega) only[a0,Fo,K0,F4,Km,Ge,K3,Gf,Ca,hg,Db,Dw]
         try rfl
        ·rw[hn];intro q e;rw[e];rfl
       ·have Gf:=Cq (fu:=fu) (d:=d) 43 43 rfl Hl ht hp;have Fg:=An Hl hp;have hn:E0 r=Cc r6:=by rw[Jy];unfold J8;rw[hp]
        have hg:Af C0 prog fu (d+3) 107 [.pbox (Bv t r6)]=some ⟨[.sc (.bool (Cc r6).isSome)],[Bv t ((Cc r6).getD r6)]⟩:=Dj (d:=d+1) Fg ht Gr;refine⟨(Cc r6).getD r6,Ce Fg fun q e=>Cs Fg e,?_,?_⟩
        ·rw[hn,Ag]
         try unfold Ac
         repeat first
          |((with_reducible first|apply A0|apply Ar|apply Ay|apply At|apply A1|apply As|apply A3|apply Az);· first|with_reducible rfl|(simp (disch:=omega) only[gT,a0,Fo,K0,F4,Km,Ge,K3,Gf,hg,Db,Dw]<;>first|with_reducible rfl|omega)|omega)
          |(with_reducible apply A2;· first|with_reducible rfl|(simp (disch:=omega) only[gF,a0,Fo,K0,F4,Km,Ge,K3,Gf,hg,Db,Dw]<;>omega))
         try simp (disch:=omega) only[a0,Fo,K0,F4,Km,Ge,K3,Gf,hg,Db,Dw]
         try rfl
        ·rw[hn];intro q e;rw[e];rfl
     ·have Ge:=Cq (fu:=fu) (d:=d) 101 101 rfl Vt ht he;have Hl:=An Vt he;rw[he] at Jy;simp only at Jy;rcases hp:Ao [43] r5 with _|r6
      ·have Gf:=Dv (fu:=fu) (d:=d) 43 43 rfl Hl ht hp;have Ca:=Jd (fu:=fu) (d:=d) 45 45 rfl Hl ht;have Fg:C3 t ((Ao [45] r5).getD r5):=Ce Hl fun q e=>An Hl e
       have hn:E0 r=Cc ((Ao [45] r5).getD r5):=by rw[Jy];unfold J8;rw[hp]
       generalize (Ao [45] r5).getD r5=r6 at Ca Fg hn;generalize (Ao [45] r5).isSome=b1 at Ca;have hg:Af C0 prog fu (d+3) 107 [.pbox (Bv t r6)]=some ⟨[.sc (.bool (Cc r6).isSome)],[Bv t ((Cc r6).getD r6)]⟩:=Dj (d:=d+1) Fg ht Gr;refine⟨(Cc r6).getD r6,Ce Fg fun q e=>Cs Fg e,?_,?_⟩
       ·rw[hn,Ag]
        try unfold Ac
        repeat first
         |((with_reducible first|apply A0|apply Ar|apply Ay|apply At|apply A1|apply As|apply A3|apply Az);· first|with_reducible rfl|(simp (disch:=omega) only[gT,a0,Fo,K0,F4,Km,Ge,Gf,Ca,hg,Db,Dw]<;>first|with_reducible rfl|omega)|omega)
         |(with_reducible apply A2;· first|with_reducible rfl|(simp (disch:=omega) only[gF,a0,Fo,K0,F4,Km,Ge,Gf,Ca,hg,Db,Dw]<;>omega))
        try simp (disch:=omega) only[a0,Fo,K0,F4,Km,Ge,Gf,Ca,hg,Db,Dw]
        try rfl
       ·rw[hn];intro q e;rw[e];rfl
      ·have Gf:=Cq (fu:=fu) (d:=d) 43 43 rfl Hl ht hp;have Fg:=An Hl hp;have hn:E0 r=Cc r6:=by rw[Jy];unfold J8;rw[hp]
       have hg:Af C0 prog fu (d+3) 107 [.pbox (Bv t r6)]=some ⟨[.sc (.bool (Cc r6).isSome)],[Bv t ((Cc r6).getD r6)]⟩:=Dj (d:=d+1) Fg ht Gr;refine⟨(Cc r6).getD r6,Ce Fg fun q e=>Cs Fg e,?_,?_⟩
       ·rw[hn,Ag]
        try unfold Ac
        repeat first
         |((with_reducible first|apply A0|apply Ar|apply Ay|apply At|apply A1|apply As|apply A3|apply Az);· first|with_reducible rfl|(simp (disch:=omega) only[gT,a0,Fo,K0,F4,Km,Ge,Gf,hg,Db,Dw]<;>first|with_reducible rfl|omega)|omega)
         |(with_reducible apply A2;· first|with_reducible rfl|(simp (disch:=omega) only[gF,a0,Fo,K0,F4,Km,Ge,Gf,hg,Db,Dw]<;>omega))
        try simp (disch:=omega) only[a0,Fo,K0,F4,Km,Ge,Gf,hg,Db,Dw]
        try rfl
       ·rw[hn];intro q e;rw[e];rfl
 ·have Fo:=Cq (fu:=fu) (d:=d) 48 48 rfl RL ht hz;rw[hz] at Sq;have Qu:=An RL hz;have Za:E0 r=V7 r2:=Sq;rw[Qd] at Za;rcases hdt:Ao [46] r2 with _|r3
  ·have F4:=Dv (fu:=fu) (d:=d) 46 46 rfl Qu ht hdt;rw[hdt] at Za;have Jy:E0 r=Qn r2:=Za;rw[Lt] at Jy;rcases he:Ao [101] r2 with _|r5
   ·have Ge:=Dv (fu:=fu) (d:=d) 101 101 rfl Qu ht he;rw[he] at Jy;rcases hE:Ao [69] r2 with _|r5
    ·have K3:=Dv (fu:=fu) (d:=d) 69 69 rfl Qu ht hE;have hn:E0 r=some r2:=by rw[Jy,hE]
     refine⟨r2,Qu,?_,?_⟩
     ·rw[hn,Ag]
      try unfold Ac
      repeat first
       |((with_reducible first|apply A0|apply Ar|apply Ay|apply At|apply A1|apply As|apply A3|apply Az);· first|with_reducible rfl|(simp (disch:=omega) only[gT,a0,Fo,F4,Ge,K3,Db,Dw]<;>first|with_reducible rfl|omega)|omega)
       |(with_reducible apply A2;· first|with_reducible rfl|(simp (disch:=omega) only[gF,a0,Fo,F4,Ge,K3,Db,Dw]<;>omega))
      try simp (disch:=omega) only[a0,Fo,F4,Ge,K3,Db,Dw]
      try rfl
     ·rw[hn];intro q e;cases e;rfl
    ·have K3:=Cq (fu:=fu) (d:=d) 69 69 rfl Qu ht hE;have Hl:=An Qu hE;rw[hE] at Jy;simp only at Jy;rcases hp:Ao [43] r5 with _|r6
     ·have Gf:=Dv (fu:=fu) (d:=d) 43 43 rfl Hl ht hp;have Ca:=Jd (fu:=fu) (d:=d) 45 45 rfl Hl ht;have Fg:C3 t ((Ao [45] r5).getD r5):=Ce Hl fun q e=>An Hl e
      have hn:E0 r=Cc ((Ao [45] r5).getD r5):=by rw[Jy];unfold J8;rw[hp]
      generalize (Ao [45] r5).getD r5=r6 at Ca Fg hn;generalize (Ao [45] r5).isSome=b1 at Ca;have hg:Af C0 prog fu (d+3) 107 [.pbox (Bv t r6)]=some ⟨[.sc (.bool (Cc r6).isSome)],[Bv t ((Cc r6).getD r6)]⟩:=Dj (d:=d+1) Fg ht Gr;refine⟨(Cc r6).getD r6,Ce Fg fun q e=>Cs Fg e,?_,?_⟩
      ·rw[hn,Ag]
       try unfold Ac
       repeat first
        |((with_reducible first|apply A0|apply Ar|apply Ay|apply At|apply A1|apply As|apply A3|apply Az);· first|with_reducible rfl|(simp (disch:=omega) only[gT,a0,Fo,F4,Ge,K3,Gf,Ca,hg,Db,Dw]<;>first|with_reducible rfl|omega)|omega)
        |(with_reducible apply A2;· first|with_reducible rfl|(simp (disch:=omega) only[gF,a0,Fo,F4,Ge,K3,Gf,Ca,hg,Db,Dw]<;>omega))
       try simp (disch:=omega) only[a0,Fo,F4,Ge,K3,Gf,Ca,hg,Db,Dw]
       try rfl
      ·rw[hn];intro q e;rw[e];rfl
     ·have Gf:=Cq (fu:=fu) (d:=d) 43 43 rfl Hl ht hp;have Fg:=An Hl hp;have hn:E0 r=Cc r6:=by rw[Jy];unfold J8;rw[hp]
      have hg:Af C0 prog fu (d+3) 107 [.pbox (Bv t r6)]=some ⟨[.sc (.bool (Cc r6).isSome)],[Bv t ((Cc r6).getD r6)]⟩:=Dj (d:=d+1) Fg ht Gr;refine⟨(Cc r6).getD r6,Ce Fg fun q e=>Cs Fg e,?_,?_⟩
      ·rw[hn,Ag]
       try unfold Ac
       repeat first
        |((with_reducible first|apply A0|apply Ar|apply Ay|apply At|apply A1|apply As|apply A3|apply Az);· first|with_reducible rfl|(simp (disch:=omega) only[gT,a0,Fo,F4,Ge,K3,Gf,hg,Db,Dw]<;>first|with_reducible rfl|omega)|omega)
        |(with_reducible apply A2;· first|with_reducible rfl|(simp (disch:=omega) only[gF,a0,Fo,F4,Ge,K3,Gf,hg,Db,Dw]<;>omega))
       try simp (disch:=omega) only[a0,Fo,F4,Ge,K3,Gf,hg,Db,Dw]
       try rfl
      ·rw[hn];intro q e;rw[e];rfl
   ·have Ge:=Cq (fu:=fu) (d:=d) 101 101 rfl Qu ht he;have Hl:=An Qu he;rw[he] at Jy;simp only at Jy;rcases hp:Ao [43] r5 with _|r6
    ·have Gf:=Dv (fu:=fu) (d:=d) 43 43 rfl Hl ht hp;have Ca:=Jd (fu:=fu) (d:=d) 45 45 rfl Hl ht;have Fg:C3 t ((Ao [45] r5).getD r5):=Ce Hl fun q e=>An Hl e
     have hn:E0 r=Cc ((Ao [45] r5).getD r5):=by rw[Jy];unfold J8;rw[hp]
     generalize (Ao [45] r5).getD r5=r6 at Ca Fg hn;generalize (Ao [45] r5).isSome=b1 at Ca;have hg:Af C0 prog fu (d+3) 107 [.pbox (Bv t r6)]=some ⟨[.sc (.bool (Cc r6).isSome)],[Bv t ((Cc r6).getD r6)]⟩:=Dj (d:=d+1) Fg ht Gr;refine⟨(Cc r6).getD r6,Ce Fg fun q e=>Cs Fg e,?_,?_⟩
     ·rw[hn,Ag]
      try unfold Ac
      repeat first
       |((with_reducible first|apply A0|apply Ar|apply Ay|apply At|apply A1|apply As|apply A3|apply Az);· first|with_reducible rfl|(simp (disch:=omega) only[gT,a0,Fo,F4,Ge,Gf,Ca,hg,Db,Dw]<;>first|with_reducible rfl|omega)|omega)
       |(with_reducible apply A2;· first|with_reducible rfl|(simp (disch:=omega) only[gF,a0,Fo,F4,Ge,Gf,Ca,hg,Db,Dw]<;>omega))
      try simp (disch:=omega) only[a0,Fo,F4,Ge,Gf,Ca,hg,Db,Dw]
      try rfl
     ·rw[hn];intro q e;rw[e];rfl
    ·have Gf:=Cq (fu:=fu) (d:=d) 43 43 rfl Hl ht hp;have Fg:=An Hl hp;have hn:E0 r=Cc r6:=by rw[Jy];unfold J8;rw[hp]
     have hg:Af C0 prog fu (d+3) 107 [.pbox (Bv t r6)]=some ⟨[.sc (.bool (Cc r6).isSome)],[Bv t ((Cc r6).getD r6)]⟩:=Dj (d:=d+1) Fg ht Gr;refine⟨(Cc r6).getD r6,Ce Fg fun q e=>Cs Fg e,?_,?_⟩
     ·rw[hn,Ag]
      try unfold Ac
      repeat first
       |((with_reducible first|apply A0|apply Ar|apply Ay|apply At|apply A1|apply As|apply A3|apply Az);· first|with_reducible rfl|(simp (disch:=omega) only[gT,a0,Fo,F4,Ge,Gf,hg,Db,Dw]<;>first|with_reducible rfl|omega)|omega)
       |(with_reducible apply A2;· first|with_reducible rfl|(simp (disch:=omega) only[gF,a0,Fo,F4,Ge,Gf,hg,Db,Dw]<;>omega))
      try simp (disch:=omega) only[a0,Fo,F4,Ge,Gf,hg,Db,Dw]
      try rfl
     ·rw[hn];intro q e;rw[e];rfl
  ·have F4:=Cq (fu:=fu) (d:=d) 46 46 rfl Qu ht hdt;have hS3:=An Qu hdt;rw[hdt] at Za;have Za:E0 r=(Cc r3).bind Qn:=Za;have hd1:=Dj (d:=d+1) hS3 ht Gr;rcases AH:Cc r3 with _|r4
   ·rw[AH] at hd1 Za;have Km:Af C0 prog fu (d+3) 107 [.pbox (Bv t r3)]=some ⟨[.sc (.bool false)],[Bv t r3]⟩:=hd1;have hn:E0 r=none:=Za;refine⟨r3,hS3,?_,?_⟩
    ·rw[hn,Ag]
     try unfold Ac
     repeat first
      |((with_reducible first|apply A0|apply Ar|apply Ay|apply At|apply A1|apply As|apply A3|apply Az);· first|with_reducible rfl|(simp (disch:=omega) only[gT,a0,Fo,F4,Km,Db,Dw]<;>first|with_reducible rfl|omega)|omega)
      |(with_reducible apply A2;· first|with_reducible rfl|(simp (disch:=omega) only[gF,a0,Fo,F4,Km,Db,Dw]<;>omega))
     try simp (disch:=omega) only[a0,Fo,F4,Km,Db,Dw]
     try rfl
    ·rw[hn];intro q e;cases e
   ·rw[AH] at hd1 Za;have Km:Af C0 prog fu (d+3) 107 [.pbox (Bv t r3)]=some ⟨[.sc (.bool true)],[Bv t r4]⟩:=hd1;have Vt:=Cs hS3 AH;have Jy:E0 r=Qn r4:=Za;rw[Lt] at Jy;rcases he:Ao [101] r4 with _|r5
    ·have Ge:=Dv (fu:=fu) (d:=d) 101 101 rfl Vt ht he;rw[he] at Jy;rcases hE:Ao [69] r4 with _|r5
     ·have K3:=Dv (fu:=fu) (d:=d) 69 69 rfl Vt ht hE;have hn:E0 r=some r4:=by rw[Jy,hE]
      refine⟨r4,Vt,?_,?_⟩
      ·rw[hn,Ag]
       try unfold Ac
       repeat first
        |((with_reducible first|apply A0|apply Ar|apply Ay|apply At|apply A1|apply As|apply A3|apply Az);· first|with_reducible rfl|(simp (disch:=omega) only[gT,a0,Fo,F4,Km,Ge,K3,Db,Dw]<;>first|with_reducible rfl|omega)|omega)
        |(with_reducible apply A2;· first|with_reducible rfl|(simp (disch:=omega) only[gF,a0,Fo,F4,Km,Ge,K3,Db,Dw]<;>omega))
       try simp (disch:=omega) only[a0,Fo,F4,Km,Ge,K3,Db,Dw]
       try rfl
      ·rw[hn];intro q e;cases e;rfl
     ·have K3:=Cq (fu:=fu) (d:=d) 69 69 rfl Vt ht hE;have Hl:=An Vt hE;rw[hE] at Jy;simp only at Jy;rcases hp:Ao [43] r5 with _|r6
      ·have Gf:=Dv (fu:=fu) (d:=d) 43 43 rfl Hl ht hp;have Ca:=Jd (fu:=fu) (d:=d) 45 45 rfl Hl ht;have Fg:C3 t ((Ao [45] r5).getD r5):=Ce Hl fun q e=>An Hl e
       have hn:E0 r=Cc ((Ao [45] r5).getD r5):=by rw[Jy];unfold J8;rw[hp]
       generalize (Ao [45] r5).getD r5=r6 at Ca Fg hn;generalize (Ao [45] r5).isSome=b1 at Ca;have hg:Af C0 prog fu (d+3) 107 [.pbox (Bv t r6)]=some ⟨[.sc (.bool (Cc r6).isSome)],[Bv t ((Cc r6).getD r6)]⟩:=Dj (d:=d+1) Fg ht Gr;refine⟨(Cc r6).getD r6,Ce Fg fun q e=>Cs Fg e,?_,?_⟩
       ·rw[hn,Ag]
        try unfold Ac
        repeat first
         |((with_reducible first|apply A0|apply Ar|apply Ay|apply At|apply A1|apply As|apply A3|apply Az);· first|with_reducible rfl|(simp (disch:=omega) only[gT,a0,Fo,F4,Km,Ge,K3,Gf,Ca,hg,Db,Dw]<;>first|with_reducible rfl|omega)|omega)
         |(with_reducible apply A2;· first|with_reducible rfl|(simp (disch:=omega) only[gF,a0,Fo,F4,Km,Ge,K3,Gf,Ca,hg,Db,Dw]<;>omega))
        try simp (disch:=omega) only[a0,Fo,F4,Km,Ge,K3,Gf,Ca,hg,Db,Dw]
        try rfl
       ·rw[hn];intro q e;rw[e];rfl
      ·have Gf:=Cq (fu:=fu) (d:=d) 43 43 rfl Hl ht hp;have Fg:=An Hl hp;have hn:E0 r=Cc r6:=by rw[Jy];unfold J8;rw[hp]
       have hg:Af C0 prog fu (d+3) 107 [.pbox (Bv t r6)]=some ⟨[.sc (.bool (Cc r6).isSome)],[Bv t ((Cc r6).getD r6)]⟩:=Dj (d:=d+1) Fg ht Gr;refine⟨(Cc r6).getD r6,Ce Fg fun q e=>Cs Fg e,?_,?_⟩
       ·rw[hn,Ag]
        try unfold Ac
        repeat first
         |((with_reducible first|apply A0|apply Ar|apply Ay|apply At|apply A1|apply As|apply A3|apply Az);· first|with_reducible rfl|(simp (disch:=omega) only[gT,a0,Fo,F4,Km,Ge,K3,Gf,hg,Db,Dw]<;>first|with_reducible rfl|omega)|omega)
         |(with_reducible apply A2;· first|with_reducible rfl|(simp (disch:=omega) only[gF,a0,Fo,F4,Km,Ge,K3,Gf,hg,Db,Dw]<;>omega))
        try simp (disch:=omega) only[a0,Fo,F4,Km,Ge,K3,Gf,hg,Db,Dw]
        try rfl
       ·rw[hn];intro q e;rw[e];rfl
    ·have Ge:=Cq (fu:=fu) (d:=d) 101 101 rfl Vt ht he;have Hl:=An Vt he;rw[he] at Jy;simp only at Jy;rcases hp:Ao [43] r5 with _|r6
     ·have Gf:=Dv (fu:=fu) (d:=d) 43 43 rfl Hl ht hp;have Ca:=Jd (fu:=fu) (d:=d) 45 45 rfl Hl ht;have Fg:C3 t ((Ao [45] r5).getD r5):=Ce Hl fun q e=>An Hl e
      have hn:E0 r=Cc ((Ao [45] r5).getD r5):=by rw[Jy];unfold J8;rw[hp]
      generalize (Ao [45] r5).getD r5=r6 at Ca Fg hn;generalize (Ao [45] r5).isSome=b1 at Ca;have hg:Af C0 prog fu (d+3) 107 [.pbox (Bv t r6)]=some ⟨[.sc (.bool (Cc r6).isSome)],[Bv t ((Cc r6).getD r6)]⟩:=Dj (d:=d+1) Fg ht Gr;refine⟨(Cc r6).getD r6,Ce Fg fun q e=>Cs Fg e,?_,?_⟩
      ·rw[hn,Ag]
       try unfold Ac
       repeat first
        |((with_reducible first|apply A0|apply Ar|apply Ay|apply At|apply A1|apply As|apply A3|apply Az);· first|with_reducible rfl|(simp (disch:=omega) only[gT,a0,Fo,F4,Km,Ge,Gf,Ca,hg,Db,Dw]<;>first|with_reducible rfl|omega)|omega)
        |(with_reducible apply A2;· first|with_reducible rfl|(simp (disch:=omega) only[gF,a0,Fo,F4,Km,Ge,Gf,Ca,hg,Db,Dw]<;>omega))
       try simp (disch:=omega) only[a0,Fo,F4,Km,Ge,Gf,Ca,hg,Db,Dw]
       try rfl
      ·rw[hn];intro q e;rw[e];rfl
     ·have Gf:=Cq (fu:=fu) (d:=d) 43 43 rfl Hl ht hp;have Fg:=An Hl hp;have hn:E0 r=Cc r6:=by rw[Jy];unfold J8;rw[hp]
      have hg:Af C0 prog fu (d+3) 107 [.pbox (Bv t r6)]=some ⟨[.sc (.bool (Cc r6).isSome)],[Bv t ((Cc r6).getD r6)]⟩:=Dj (d:=d+1) Fg ht Gr;refine⟨(Cc r6).getD r6,Ce Fg fun q e=>Cs Fg e,?_,?_⟩
      ·rw[hn,Ag]
       try unfold Ac
       repeat first
        |((with_reducible first|apply A0|apply Ar|apply Ay|apply At|apply A1|apply As|apply A3|apply Az);· first|with_reducible rfl|(simp (disch:=omega) only[gT,a0,Fo,F4,Km,Ge,Gf,hg,Db,Dw]<;>first|with_reducible rfl|omega)|omega)
        |(with_reducible apply A2;· first|with_reducible rfl|(simp (disch:=omega) only[gF,a0,Fo,F4,Km,Ge,Gf,hg,Db,Dw]<;>omega))
       try simp (disch:=omega) only[a0,Fo,F4,Km,Ge,Gf,hg,Db,Dw]
       try rfl
      ·rw[hn];intro q e;rw[e];rfl
end
end
section
open Go.Proofs.Tryd (prog)
open Go.IntKind (wrap)
theorem C3.trans {t:ByteArray}{r q:List Int}(h:C3 t r)(k:C3 (Ab r) q):C3 t q:=by
 obtain⟨pre,k⟩:=k;rw[C9 h.B] at k;rw[k] at h;exact h.app
theorem C3.self {l:List Int}(h:Ds l):C3 (Ab l) l:=⟨[],by rw[C9 h];rfl⟩
theorem C3.le {l q:List Int}(h:C3 (Ab l) q):q.length<=l.length:=by
 have:=h.len
 rwa [Av] at this
def LY (t:ByteArray)(l:List Int)(x:JR (JV × List Int)) (res:A4):Prop:=
 match x with
 |.ok (v,q)=>C3 (Ab l) q∧res=⟨[.agg [.sc (.int .i64 v.1),.sc (.string (Ab v.2.1)),.sc (.bool v.2.2)],.sc (.int .i64 0)],[Bv t q]⟩
 |.error e=>e≠0∧∃c1 c2 c3 q,C3 t q∧res=⟨[.agg [.sc (.int .i64 c1),.sc (.string c2),.sc (.bool c3)],.sc (.int .i64 e)],[Bv t q]⟩
def Apk (t:ByteArray)(l:List Int)(x:JR (List Int)) (res:A4):Prop:=
 match x with
 |.ok q=>C3 (Ab l) q∧res=⟨[.sc (.int .i64 0)],[Bv t q]⟩
 |.error e=>e≠0∧∃q,C3 t q∧res=⟨[.sc (.int .i64 e)],[Bv t q]⟩
theorem UW {α:Type}(a b:Int)(K8:a≠b)(A B:List Int->α)(C:α)(x:List Int):
  (match Ao [a] x with|some r=>A r|none=>match Ao [b] x with|some r=>B r|none=>C)=(match x with|[]=>C|y::r=>if y=a then A r else if y=b then B r else C):=by
 rw[Fb,Fb];cases x with
 |nil=>rfl
 |cons y r=>
  by_cases h:y=a
  ·simp[h]
  ·by_cases h2:y=b
   ·subst h2;simp[h]
   ·simp[h,h2]
theorem XT (V:List Int->JR (JV × List Int)) (n:Nat)(l:List Int):CO V (n+1) l=match V l with
  |.error e=>.error e
  |.ok (_,r)=>match Ao [93] (Bd r) with
   |some r'=>.ok r'
   |none=>match Ao [44] (Bd r) with
    |some r'=>CO V n (Bd r')
    |none=>.error 2:=by
 show (match V l with | .error e=>_ | .ok (_,r)=>_)=_
 cases V l with
 |error e=>rfl
 |ok x=>
  obtain⟨v,r⟩:=x;simp only;rw[UW 93 44 (by decide) (fun r'=>Except.ok r') (fun r'=>CO V n (Bd r')) (Except.error 2)]
  cases Bd r with
  |nil=>rfl
  |cons y r=>
   by_cases h:y=93
   ·subst h;rfl
   ·by_cases h2:y=44
    ·subst h2;rfl
    ·simp only[D1 h,D1 h2];split
     ·rename_i e;injection e with e1 _;exact absurd e1 h
     ·rename_i e;injection e with e1 _;exact absurd e1 h2
     ·rfl
section
variable {fu d:Nat}
theorem Aad {t s0:ByteArray}{p0 D0 D:Int}(ht:t.size<=1000000)(Gr:t.size+1<=fu)(V:List Int->JR (JV × List Int)) (HV:∀r,C3 t r->∃res,Af C0 prog fu (d+3) 69 [.pbox (Bv t r),.sc (.int .i64 D)]=some res∧LY t r (V r) res):∀(n nn:Nat)(l:List Int),l.length+1<=n->l.length+1<=nn->C3 t l ->
  ∃res,Cy fu (Af C0 prog fu (d+3)) s0 p0 D0 nn D t (Bp t l:Int)=some res∧Apk t l (CO V n l) res:=by
 intro n
 induction n with
 |zero=>intro nn l h1;omega
 |succ n ih=>
  intro nn l hn Pj h;obtain⟨k,rfl⟩:∃k,nn=k+1:=⟨nn-1,by omega⟩
  obtain⟨rv,ev,hv⟩:=HV l h;rw[XT,Hg];cases hV:V l with
  |error e=>
   rw[hV] at hv;obtain⟨he,c1,c2,c3,q,hq,rfl⟩:=hv;have hb:(e != (0:Int))=true:=by simp[he]
   refine⟨⟨[.sc (.int .i64 e)],[Bv t q]⟩,?_,he,q,hq,rfl⟩
   try unfold Ac
   repeat first
    |((with_reducible first|apply A0|apply Ar|apply Ay|apply At|apply A1|apply I0|apply As|apply A3|apply Az);· first|with_reducible rfl|(simp (disch:=omega) only[gT,ev,hb]<;>first|with_reducible rfl|omega)|omega)
    |(with_reducible apply A2;· first|with_reducible rfl|(simp (disch:=omega) only[gF,ev,hb]<;>omega))
   try simp (disch:=omega) only[ev,hb]
  |ok x=>
   obtain⟨v,q⟩:=x;rw[hV] at hv;obtain⟨hq,rfl⟩:=hv;have hqt:=h.trans hq;have hs:=Md (fu:=fu) (d:=d) hqt ht Gr;have Po:Af C0 prog fu (d+3) 50 [.pbox (Bv t q)]=some ⟨[],[Bv t (Bd q)]⟩:=hs;have hqs:=Bo hqt;have Aph:=Bo hq;have hb:((0:Int) != (0:Int))=false:=rfl;simp only;cases h1:Ao [93] (Bd q) with
   |some r'=>
    have a1:=Cq (fu:=fu) (d:=d) 93 93 rfl hqs ht h1;refine⟨⟨[.sc (.int .i64 0)],[Bv t r']⟩,?_,An Aph h1,rfl⟩
    try unfold Ac
    repeat first
     |((with_reducible first|apply A0|apply Ar|apply Ay|apply At|apply A1|apply I0|apply As|apply A3|apply Az);· first|with_reducible rfl|(simp (disch:=omega) only[gT,ev,hb,Po,a1]<;>first|with_reducible rfl|omega)|omega)
     |(with_reducible apply A2;· first|with_reducible rfl|(simp (disch:=omega) only[gF,ev,hb,Po,a1]<;>omega))
    try simp (disch:=omega) only[ev,hb,Po,a1]
   |none=>
    have a1:=Dv (fu:=fu) (d:=d) 93 93 rfl hqs ht h1;cases h2:Ao [44] (Bd q) with
    |none=>
     have a2:=Dv (fu:=fu) (d:=d) 44 44 rfl hqs ht h2;refine⟨⟨[.sc (.int .i64 2)],[Bv t (Bd q)]⟩,?_,by decide,Bd q,hqs,rfl⟩
     try unfold Ac
     repeat first
      |((with_reducible first|apply A0|apply Ar|apply Ay|apply At|apply A1|apply I0|apply As|apply A3|apply Az);· first|with_reducible rfl|(simp (disch:=omega) only[gT,ev,hb,Po,a1,a2,Dw]<;>first|with_reducible rfl|omega)|omega)
      |(with_reducible apply A2;· first|with_reducible rfl|(simp (disch:=omega) only[gF,ev,hb,Po,a1,a2,Dw]<;>omega))
     try simp (disch:=omega) only[ev,hb,Po,a1,a2,Dw]
    |some r'=>
     have a2:=Cq (fu:=fu) (d:=d) 44 44 rfl hqs ht h2;have hr:=An hqs h2;have Z6:=An Aph h2;have FI:Af C0 prog fu (d+3) 50 [.pbox (Bv t r')]=some ⟨[],[Bv t (Bd r')]⟩:=Md (fu:=fu) (d:=d) hr ht Gr
     have hlr:(Bd r').length+1<=l.length:=by
      have e1:=hq.le;have e2:=Np q;have e3:=Np r'
      have e4:r'.length+1<=(Bd q).length:=by
       rw[Fb] at h2
       revert h2
       cases Bd q with
       |nil=>intro h2;cases h2
       |cons y s=>
        intro h2;simp only at h2;split at h2
        ·cases h2;simp
        ·cases h2
      omega
     obtain⟨res,e5,h5⟩:=ih k (Bd r') (by omega) (by omega) (Bo hr)
     refine⟨res,?_,?_⟩
     ·skip
      try unfold Ac
      repeat first
       |((with_reducible first|apply A0|apply Ar|apply Ay|apply At|apply A1|apply I0|apply As|apply A3|apply Az);· first|with_reducible rfl|(simp (disch:=omega) only[gT,ev,hb,Po,a1,a2,FI,Db]<;>first|with_reducible rfl|omega)|omega)
       |(with_reducible apply A2;· first|with_reducible rfl|(simp (disch:=omega) only[gF,ev,hb,Po,a1,a2,FI,Db]<;>omega))
      try simp (disch:=omega) only[ev,hb,Po,a1,a2,FI,Db]
      exact e5
     ·simp only;have hup:C3 (Ab l) (Bd r'):=Bo Z6
      revert h5
      cases CO V n (Bd r') with
      |error e=>exact id
      |ok q2=>exact fun h5=>⟨hup.trans h5.1,h5.2⟩
end
end
section
open Go.Proofs.Tryd (prog)
open Go.IntKind (wrap)
set_option maxRecDepth 100000
theorem HK {c:Int}{x r:List Int}(h:Ao [c] x=some r):r.length+1<=x.length:=by
 rw[Fb] at h
 revert h
 cases x with
 |nil=>intro h;cases h
 |cons y s=>
  intro h;simp only at h;split at h
  ·cases h;simp
  ·cases h
theorem Wi (V:List Int->JR (JV × List Int)) (kp:Bool)(n:Nat)(ms:List (List Int × JV)) (l:List Int):Pd V kp (n+1) ms l=match El l with
  |(none,_)=>.error 2
  |(some nm,r)=>if (kp&&ms.any fun m=>m.1==nm)=true then .error 10 else match Ao [58] (Bd r) with
   |none=>.error 2
   |some r1=>match V (Bd r1) with
    |.error e=>.error e
    |.ok (v,r2)=>match Ao [125] (Bd r2) with
     |some r3=>.ok (ms++[(nm,v)],r3)
     |none=>match Ao [44] (Bd r2) with
      |some r3=>Pd V kp n (ms++[(nm,v)]) (Bd r3)
      |none=>.error 2:=by
 show (match Akg V (fun nm=>kp&&ms.any fun m=>m.1==nm) l with | .error e=>_ | .ok (m,r)=>_)=_
 unfold Akg Z5;rcases El l with⟨o,r⟩;cases o with
 |none=>rfl
 |some nm=>
  simp only;by_cases hd:(kp&&ms.any fun m=>m.1==nm)=true
  rotate_left
  ·simp only[D1 hd];rw[Fb];cases Bd r with
   |nil=>rfl
   |cons y s=>
    by_cases h:y=58
    ·subst h;simp only[if_true];cases V (Bd s) with
     |error e=>rfl
     |ok x=>
      obtain⟨v,r2⟩:=x;simp only;rw[Fb,Fb];cases Bd r2 with
      |nil=>rfl
      |cons y s=>
       by_cases h:y=125
       ·subst h;simp
       ·by_cases h2:y=44
        ·subst h2;simp
        ·simp only[D1 h,D1 h2];split
         ·rename_i e;injection e with e1 _;exact absurd e1 h
         ·rename_i e;injection e with e1 _;exact absurd e1 h2
         ·rfl
    ·simp only[D1 h];split
     ·rename_i e;split at e
      ·rename_i e2;injection e2 with e1 _;exact absurd e1 h
      ·cases e;rfl
     ·rename_i e;split at e
      ·rename_i e2;injection e2 with e1 _;exact absurd e1 h
      ·cases e
  ·simp only[Fa hd]
def Ao1 {α:Type}(t:ByteArray)(l:List Int)(x:JR (α × List Int)) (res:A4):Prop:=
 match x with
 |.ok (_,q)=>C3 (Ab l) q∧res=⟨[.sc (.int .i64 0)],[Bv t q]⟩
 |.error e=>e≠0∧∃q,C3 t q∧res=⟨[.sc (.int .i64 e)],[Bv t q]⟩
section
variable {fu d:Nat}
theorem Aex {t:ByteArray}{r:List Int}(h:C3 t r)(ht:t.size<=1000000):Af C0 prog fu (d+1) 68 [.pbox (Bv t r)]=some ⟨[.sc (.string (Ab ((El r).1.getD []))),.sc (.bool (El r).1.isSome)],[Bv t (El r).2]⟩:=by
 have e0:Af C0 prog fu (d+1) 68 [.pbox (Bv t r)]=Aab [.pbox (Bv t r)]:=rfl;have hl:=h.len
 have e1:(decide ((0:Int)<=(Bp t r:Int))&&decide ((Bp t r:Int)<=t.size)&&Nat.ble t.size 1000000)=true:=by
  simp only[Bool.and_eq_true,decide_eq_true_eq,Nat.ble_eq];unfold Bp;omega
 have e2:(E1 t).drop (Bp t r:Int).toNat=r:=by rw[Pu];exact h.eq.symm
 have hq:=(F3 h).len;rw[e0];unfold Aab;simp only[e1,cond_true,e2];rcases hx:El r with⟨o,q⟩;rw[hx] at hq;have e3:(t.size:Int)-q.length=(Bp t q:Int):=by unfold Bp;simp only at hq;omega
 cases o with
 |none=>simp only[e3];rfl
 |some s=>simp only[e3];rfl
theorem Apx {t:ByteArray}{D:Int}(ht:t.size<=1000000)(Gr:t.size+1<=fu)(V:List Int->JR (JV × List Int)) (HV:∀r,C3 t r->∃res,Af C0 prog fu (d+3) 69 [.pbox (Bv t r),.sc (.int .i64 D)]=some res∧LY t r (V r) res) {l:List Int}(h:C3 t (91::l)):
  ∃res,Af C0 prog fu (d+4) 91 [.pbox (Bv t (91::l)),.sc (.int .i64 D)]=some res∧Apk t l (TY V l) res:=by
 have a0:=Cq (fu:=fu) (d:=d) (q:=l) 91 91 rfl h ht (by rw[Fb];rfl)
 have hs:Af C0 prog fu (d+3) 50 [.pbox (Bv t l)]=some ⟨[],[Bv t (Bd l)]⟩:=Md (fu:=fu) (d:=d) h.tail ht Gr;have hS:=Bo h.tail;have Qu:=Bo (C3.self h.tail.B)
 have eA:TY V l=match Ao [93] (Bd l) with|some r=>.ok r|none=>CO V ((Bd l).length+1) (Bd l):=by
  unfold TY;rw[Fb];cases Bd l with
  |nil=>rfl
  |cons y s=>
   by_cases hy:y=93
   ·subst hy;rfl
   ·simp only[D1 hy];split
    ·rename_i e;injection e with e1 _;exact absurd e1 hy
    ·rfl
 have er:=Ij (p:=none) fu (d+3) t (Bp t (91::l):Int) D;rw[eA];cases h1:Ao [93] (Bd l) with
 |some r=>
  have a1:=Cq (fu:=fu) (d:=d) 93 93 rfl hS ht h1;refine⟨⟨[.sc (.int .i64 0)],[Bv t r]⟩,er.trans ?_,An Qu h1,rfl⟩
  try unfold Ac
  repeat first
   |((with_reducible first|apply A0|apply Ar|apply Ay|apply At|apply A1|apply As|apply A3|apply Az);· first|with_reducible rfl|(simp (disch:=omega) only[gT,a0,hs,a1,Db]<;>first|with_reducible rfl|omega)|omega)
   |(with_reducible apply A2;· first|with_reducible rfl|(simp (disch:=omega) only[gF,a0,hs,a1,Db]<;>omega))
  try simp (disch:=omega) only[a0,hs,a1,Db]
 |none=>
  have a1:=Dv (fu:=fu) (d:=d) 93 93 rfl hS ht h1;obtain⟨res,e5,h5⟩:=Aad (fu:=fu) (d:=d) (s0:=t) (p0:=(Bp t (91::l):Int)) (D0:=D) ht Gr V HV ((Bd l).length+1) fu (Bd l) (Nat.le_refl _) (by have:=hS.len;omega) hS
  refine⟨res,er.trans ?_,?_⟩
  ·skip
   try unfold Ac
   repeat first
    |((with_reducible first|apply A0|apply Ar|apply Ay|apply At|apply A1|apply As|apply A3|apply Az);· first|with_reducible rfl|(simp (disch:=omega) only[gT,a0,hs,a1,Db]<;>first|with_reducible rfl|omega)|omega)
    |(with_reducible apply A2;· first|with_reducible rfl|(simp (disch:=omega) only[gF,a0,hs,a1,Db]<;>omega))
   try simp (disch:=omega) only[a0,hs,a1,Db]
   exact e5
  ·simp only
   revert h5
   cases CO V ((Bd l).length+1) (Bd l) with
   |error e=>exact id
   |ok q2=>exact fun h5=>⟨Qu.trans h5.1,h5.2⟩
end
end
section
open Go.Proofs.Tryd (prog)
open Go.IntKind (wrap)
set_option maxRecDepth 100000
section
variable {fu d:Nat}
theorem YB {t s0:ByteArray}{p0 D0 D:Int}(ht:t.size<=1000000)(Gr:t.size+1<=fu)(V:List Int->JR (JV × List Int)) (HV:∀r,C3 t r->∃res,Af C0 prog fu (d+3) 69 [.pbox (Bv t r),.sc (.int .i64 D)]=some res∧LY t r (V r) res):∀(n nn:Nat)(ms:List (List Int × JV)) (l:List Int),l.length+1<=n->l.length+1<=nn->C3 t l ->
  ∃res,Cr fu (Af C0 prog fu (d+3)) s0 p0 D0 nn D t (Bp t l:Int)=some res∧Ao1 t l (Pd V false n ms l) res:=by
 intro n
 induction n with
 |zero=>intro nn ms l h1;omega
 |succ n ih=>
  intro nn ms l hn Pj h;obtain⟨k,rfl⟩:∃k,nn=k+1:=⟨nn-1,by omega⟩
  have er:Af C0 prog fu (d+3) 68 [.pbox (Bv t l)]=_:=Aex (d:=d+2) h ht;have FJ:=F3 h;have DB:=F3 (C3.self h.B);rw[Wi,G4];rcases hx:El l with⟨o,q⟩;rw[hx] at er FJ DB;cases o with
  |none=>
   have er2:Af C0 prog fu (d+3) 68 [.pbox (Bv t l)]=some ⟨[.sc (.string (Ab [])),.sc (.bool false)],[Bv t q]⟩:=er;refine⟨⟨[.sc (.int .i64 2)],[Bv t q]⟩,?_,by decide,q,FJ,rfl⟩
   try unfold Ac
   repeat first
    |((with_reducible first|apply A0|apply Ar|apply Ay|apply At|apply A1|apply I0|apply As|apply A3|apply Az);· first|with_reducible rfl|(simp (disch:=omega) only[gT,er2,Dw]<;>first|with_reducible rfl|omega)|omega)
    |(with_reducible apply A2;· first|with_reducible rfl|(simp (disch:=omega) only[gF,er2,Dw]<;>omega))
   try simp (disch:=omega) only[er2,Dw]
  |some nm=>
   have er2:Af C0 prog fu (d+3) 68 [.pbox (Bv t l)]=some ⟨[.sc (.string (Ab nm)),.sc (.bool true)],[Bv t q]⟩:=er;simp only at FJ DB;have Po:Af C0 prog fu (d+3) 50 [.pbox (Bv t q)]=some ⟨[],[Bv t (Bd q)]⟩:=Md (fu:=fu) (d:=d) FJ ht Gr;have Pc:=Bo FJ;have Jt:=Bo DB;simp only[ZG,Bool.false_eq_true,if_false];cases h1:Ao [58] (Bd q) with
   |none=>
    have a1:=Dv (fu:=fu) (d:=d) 58 58 rfl Pc ht h1;refine⟨⟨[.sc (.int .i64 2)],[Bv t (Bd q)]⟩,?_,by decide,Bd q,Pc,rfl⟩
    try unfold Ac
    repeat first
     |((with_reducible first|apply A0|apply Ar|apply Ay|apply At|apply A1|apply I0|apply As|apply A3|apply Az);· first|with_reducible rfl|(simp (disch:=omega) only[gT,er2,Po,a1,Db,Dw]<;>first|with_reducible rfl|omega)|omega)
     |(with_reducible apply A2;· first|with_reducible rfl|(simp (disch:=omega) only[gF,er2,Po,a1,Db,Dw]<;>omega))
    try simp (disch:=omega) only[er2,Po,a1,Db,Dw]
   |some r1=>
    have a1:=Cq (fu:=fu) (d:=d) 58 58 rfl Pc ht h1;have Y1:=An Pc h1;have Z6:=An Jt h1;have FI:Af C0 prog fu (d+3) 50 [.pbox (Bv t r1)]=some ⟨[],[Bv t (Bd r1)]⟩:=Md (fu:=fu) (d:=d) Y1 ht Gr;have hv1:=Bo Y1;have hv2:=Bo Z6;obtain⟨rv,ev,hv⟩:=HV (Bd r1) hv1;simp only;cases hV:V (Bd r1) with
    |error e=>
     rw[hV] at hv;obtain⟨he,c1,c2,c3,q3,hq3,rfl⟩:=hv;have hb:(e != (0:Int))=true:=by simp[he]
     refine⟨⟨[.sc (.int .i64 e)],[Bv t q3]⟩,?_,he,q3,hq3,rfl⟩
     try unfold Ac
     repeat first
      |((with_reducible first|apply A0|apply Ar|apply Ay|apply At|apply A1|apply I0|apply As|apply A3|apply Az);· first|with_reducible rfl|(simp (disch:=omega) only[gT,er2,Po,a1,FI,ev,hb,Db]<;>first|with_reducible rfl|omega)|omega)
      |(with_reducible apply A2;· first|with_reducible rfl|(simp (disch:=omega) only[gF,er2,Po,a1,FI,ev,hb,Db]<;>omega))
     try simp (disch:=omega) only[er2,Po,a1,FI,ev,hb,Db]
    |ok x=>
     obtain⟨v,r2⟩:=x;rw[hV] at hv;obtain⟨hq3,rfl⟩:=hv;have hb:((0:Int) != (0:Int))=false:=rfl;have hw1:=hv1.trans hq3;have hw2:=hv2.trans hq3;have CS:Af C0 prog fu (d+3) 50 [.pbox (Bv t r2)]=some ⟨[],[Bv t (Bd r2)]⟩:=Md (fu:=fu) (d:=d) hw1 ht Gr;have KF:=Bo hw1;have K0:=Bo hw2;simp only;cases h2:Ao [125] (Bd r2) with
     |some r3=>
      have a2:=Cq (fu:=fu) (d:=d) 125 125 rfl KF ht h2;refine⟨⟨[.sc (.int .i64 0)],[Bv t r3]⟩,?_,An K0 h2,rfl⟩
      try unfold Ac
      repeat first
       |((with_reducible first|apply A0|apply Ar|apply Ay|apply At|apply A1|apply I0|apply As|apply A3|apply Az);· first|with_reducible rfl|(simp (disch:=omega) only[gT,er2,Po,a1,FI,ev,hb,CS,a2,Db]<;>first|with_reducible rfl|omega)|omega)
       |(with_reducible apply A2;· first|with_reducible rfl|(simp (disch:=omega) only[gF,er2,Po,a1,FI,ev,hb,CS,a2,Db]<;>omega))
      try simp (disch:=omega) only[er2,Po,a1,FI,ev,hb,CS,a2,Db]
     |none=>
      have a2:=Dv (fu:=fu) (d:=d) 125 125 rfl KF ht h2;cases h3:Ao [44] (Bd r2) with
      |none=>
       have a3:=Dv (fu:=fu) (d:=d) 44 44 rfl KF ht h3;refine⟨⟨[.sc (.int .i64 2)],[Bv t (Bd r2)]⟩,?_,by decide,Bd r2,KF,rfl⟩
       try unfold Ac
       repeat first
        |((with_reducible first|apply A0|apply Ar|apply Ay|apply At|apply A1|apply I0|apply As|apply A3|apply Az);· first|with_reducible rfl|(simp (disch:=omega) only[gT,er2,Po,a1,FI,ev,hb,CS,a2,a3,Db,Dw]<;>first|with_reducible rfl|omega)|omega)
        |(with_reducible apply A2;· first|with_reducible rfl|(simp (disch:=omega) only[gF,er2,Po,a1,FI,ev,hb,CS,a2,a3,Db,Dw]<;>omega))
       try simp (disch:=omega) only[er2,Po,a1,FI,ev,hb,CS,a2,a3,Db,Dw]
      |some r3=>
       have a3:=Cq (fu:=fu) (d:=d) 44 44 rfl KF ht h3;have hy1:=An KF h3;have UB:=An K0 h3;have hs5:Af C0 prog fu (d+3) 50 [.pbox (Bv t r3)]=some ⟨[],[Bv t (Bd r3)]⟩:=Md (fu:=fu) (d:=d) hy1 ht Gr
       have hlr:(Bd r3).length+1<=l.length:=by
        have e1:=K0.le;have e2:=Np r3;have e3:=HK h3;omega
       obtain⟨res,e5,h5⟩:=ih k (ms++[(nm,v)]) (Bd r3) (by omega) (by omega) (Bo hy1)
       refine⟨res,?_,?_⟩
       ·skip
        try unfold Ac
        repeat first
         |((with_reducible first|apply A0|apply Ar|apply Ay|apply At|apply A1|apply I0|apply As|apply A3|apply Az);· first|with_reducible rfl|(simp (disch:=omega) only[gT,er2,Po,a1,FI,ev,hb,CS,a2,a3,hs5,Db]<;>first|with_reducible rfl|omega)|omega)
         |(with_reducible apply A2;· first|with_reducible rfl|(simp (disch:=omega) only[gF,er2,Po,a1,FI,ev,hb,CS,a2,a3,hs5,Db]<;>omega))
        try simp (disch:=omega) only[er2,Po,a1,FI,ev,hb,CS,a2,a3,hs5,Db]
        exact e5
       ·simp only;have hup:C3 (Ab l) (Bd r3):=Bo UB
        revert h5
        cases Pd V false n (ms++[(nm,v)]) (Bd r3) with
        |error e=>exact id
        |ok q2=>exact fun h5=>⟨hup.trans h5.1,h5.2⟩
theorem Aps {t:ByteArray}{D:Int}(ht:t.size<=1000000)(Gr:t.size+1<=fu)(V:List Int->JR (JV × List Int)) (HV:∀r,C3 t r->∃res,Af C0 prog fu (d+3) 69 [.pbox (Bv t r),.sc (.int .i64 D)]=some res∧LY t r (V r) res) {l:List Int}(h:C3 t (123::l)):
  ∃res,Af C0 prog fu (d+4) 51 [.pbox (Bv t (123::l)),.sc (.int .i64 D),.sc (.map none)]=some res∧Ao1 t l (Q4 V false l) res:=by
 have a0:=Cq (fu:=fu) (d:=d) (q:=l) 123 123 rfl h ht (by rw[Fb];rfl)
 have hs:Af C0 prog fu (d+3) 50 [.pbox (Bv t l)]=some ⟨[],[Bv t (Bd l)]⟩:=Md (fu:=fu) (d:=d) h.tail ht Gr;have hS:=Bo h.tail;have Qu:=Bo (C3.self h.tail.B)
 have eA:Q4 V false l=match Ao [125] (Bd l) with|some r=>.ok ([],r)|none=>Pd V false ((Bd l).length+1) [] (Bd l):=by
  unfold Q4;rw[Fb];cases Bd l with
  |nil=>rfl
  |cons y s=>
   by_cases hy:y=125
   ·subst hy;rfl
   ·simp only[D1 hy];split
    ·rename_i e;injection e with e1 _;exact absurd e1 hy
    ·rfl
 have er:=H5 (p:=none) fu (d+3) t (Bp t (123::l):Int) D;rw[eA];cases h1:Ao [125] (Bd l) with
 |some r=>
  have a1:=Cq (fu:=fu) (d:=d) 125 125 rfl hS ht h1;refine⟨⟨[.sc (.int .i64 0)],[Bv t r]⟩,er.trans ?_,An Qu h1,rfl⟩
  try unfold Ac
  repeat first
   |((with_reducible first|apply A0|apply Ar|apply Ay|apply At|apply A1|apply I0|apply As|apply A3|apply Az);· first|with_reducible rfl|(simp (disch:=omega) only[gT,a0,hs,a1,Db]<;>first|with_reducible rfl|omega)|omega)
   |(with_reducible apply A2;· first|with_reducible rfl|(simp (disch:=omega) only[gF,a0,hs,a1,Db]<;>omega))
  try simp (disch:=omega) only[a0,hs,a1,Db]
 |none=>
  have a1:=Dv (fu:=fu) (d:=d) 125 125 rfl hS ht h1;obtain⟨res,e5,h5⟩:=YB (fu:=fu) (d:=d) (s0:=t) (p0:=(Bp t (123::l):Int)) (D0:=D) ht Gr V HV ((Bd l).length+1) fu [] (Bd l) (Nat.le_refl _) (by have:=hS.len;omega) hS
  refine⟨res,er.trans ?_,?_⟩
  ·skip
   try unfold Ac
   repeat first
    |((with_reducible first|apply A0|apply Ar|apply Ay|apply At|apply A1|apply I0|apply As|apply A3|apply Az);· first|with_reducible rfl|(simp (disch:=omega) only[gT,a0,hs,a1,Db]<;>first|with_reducible rfl|omega)|omega)
    |(with_reducible apply A2;· first|with_reducible rfl|(simp (disch:=omega) only[gF,a0,hs,a1,Db]<;>omega))
   try simp (disch:=omega) only[a0,hs,a1,Db]
   exact e5
  ·simp only
   revert h5
   cases Pd V false ((Bd l).length+1) [] (Bd l) with
   |error e=>exact id
   |ok q2=>exact fun h5=>⟨Qu.trans h5.1,h5.2⟩
end
end
section
open Go.Proofs.Tryd (prog)
open Go.IntKind (wrap)
set_option maxRecDepth 100000
def Af6 (l:List Int):JR (JV × List Int):=
 match Ao [116,114,117,101] l with
 |some r=>.ok ((2,[],true),r)
 |none=>match Ao [102,97,108,115,101] l with
  |some r=>.ok ((2,[],false),r)
  |none=>match Ao [110,117,108,108] l with
   |some r=>.ok ((1,[],false),r)
   |none=>match E0 l with
    |some r=>.ok ((3,[],false),r)
    |none=>.error 2
theorem BS (k:Nat){l:List Int}(h1:FO l≠123)(h2:FO l≠91)(h3:FO l≠34):E8 k l=Af6 l:=by
 unfold E8;split
 ·exact absurd rfl h1
 ·exact absurd rfl h2
 ·exact absurd rfl h3
 ·rfl
theorem WJ {l r:List Int}(h:Ds l)(e:E0 l=some r):C3 (Ab l) r:=by
 have h0:=C3.self h;have e0:E0 l=(Ac2 (VU 45 l)).bind V7:=rfl;rw[e0,S9,CH] at e;have h1:C3 (Ab l) ((Ao [45] l).getD l):=Ce h0 fun q e=>An h0 e
 have hE:∀x q,C3 (Ab l) x->Qn x=some q->C3 (Ab l) q:=by
  have hT:∀x q,C3 (Ab l) x->J8 x=some q->C3 (Ab l) q:=by
   intro x q hx e;unfold J8 at e;split at e
   ·rename_i hw;exact Cs (An hx hw) e
   ·exact Cs (Ce hx fun q e=>An hx e) e
  intro x q hx e;rw[Lt] at e;split at e
  ·rename_i hw;exact hT _ _ (An hx hw) e
  ·split at e
   ·rename_i hw;exact hT _ _ (An hx hw) e
   ·cases e;exact hx
 have hF:∀x q,C3 (Ab l) x->V7 x=some q->C3 (Ab l) q:=by
  intro x q hx e;rw[Qd] at e;split at e
  ·rename_i hw;obtain⟨y,hy,e⟩:=Option.bind_eq_some_iff.1 e;exact hE _ _ (Cs (An hx hw) hy) e
  ·exact hE _ _ hx e
 obtain⟨y,hy,e⟩:=Option.bind_eq_some_iff.1 e;split at hy
 ·rename_i hw;cases hy;exact hF _ _ (An h1 hw) e
 ·exact hF _ _ (Cs h1 hy) e
section
variable {fu d:Nat}
theorem Ajd {t:ByteArray}{r:List Int}(w:List Int)(lit:ByteArray)(hw:Ab w=lit)(hB:Ds w)(hl:w.length<=100)(h:C3 t r)(ht:t.size<=1000000):Af C0 prog fu (d+3) 67 [.pbox (Bv t r),.sc (.string lit)]=some ⟨[.sc (.bool (Ao w r).isSome)],[Bv t ((Ao w r).getD r)]⟩:=by
 subst hw;have e:=Nv (fu:=fu) (d:=d) (xs:=xs0) h ht (w:=w) hB hl;refine e.trans ?_;cases Ao w r<;>rfl
theorem YC {t:ByteArray}(ht:t.size<=1000000)(Gr:t.size+1<=fu){D:Int}{l:List Int}(h:C3 t l)(h1:FO l≠123)(h2:FO l≠91)(h3:FO l≠34):∃res,Af C0 prog fu (d+5) 69 [.pbox (Bv t l),.sc (.int .i64 D)]=some res∧LY t l (Af6 l) res:=by
 have er:=Bz (p:=none) fu (d+4) t (Bp t l:Int) D;have pk:Af C0 prog fu (d+4) 90 [.pbox (Bv t l)]=some ⟨[.sc (.int .u8 (FO l))],[Bv t l]⟩:=J5 (xs:=xs0) (d:=d+3) h;have b1:(FO l==(123:Int))=false:=by simp[h1]
 have b2:(FO l==(91:Int))=false:=by simp[h2]
 have b3:(FO l==(34:Int))=false:=by simp[h3]
 have WW:=C3.self h.B;have a1:=Ajd (fu:=fu) (d:=d+1) [116,114,117,101] (ByteArray.mk #[(116:UInt8),(114:UInt8),(117:UInt8),(101:UInt8)]) rfl (fun x hx=>by simp at hx;omega) (by decide) h ht
 have a2:=Ajd (fu:=fu) (d:=d+1) [102,97,108,115,101] (ByteArray.mk #[(102:UInt8),(97:UInt8),(108:UInt8),(115:UInt8),(101:UInt8)]) rfl (fun x hx=>by simp at hx;omega) (by decide) h ht
 have a3:=Ajd (fu:=fu) (d:=d+1) [110,117,108,108] (ByteArray.mk #[(110:UInt8),(117:UInt8),(108:UInt8),(108:UInt8)]) rfl (fun x hx=>by simp at hx;omega) (by decide) h ht
 obtain⟨rn,hrn,en,hn⟩:=WR (fu:=fu) (d:=d) h ht Gr;have en2:Af C0 prog fu (d+4) 92 [.pbox (Bv t l)]=some ⟨[.sc (.bool (E0 l).isSome)],[Bv t rn]⟩:=en;unfold Af6;cases q1:Ao [116,114,117,101] l with
 |some r=>
  rw[q1] at a1;have a1':Af C0 prog fu (d+4) 67 [.pbox (Bv t l),.sc (.string (ByteArray.mk #[(116:UInt8),(114:UInt8),(117:UInt8),(101:UInt8)]))]=some ⟨[.sc (.bool true)],[Bv t r]⟩:=a1;refine⟨_,er.trans ?_,An WW q1,rfl⟩
  try unfold Ac
  repeat first
   |((with_reducible first|apply A0|apply Ar|apply Ay|apply At|apply A1|apply As|apply A3|apply Az);· first|with_reducible rfl|(simp (disch:=omega) only[gT,pk,b1,b2,b3,a1']<;>first|with_reducible rfl|omega)|omega)
   |(with_reducible apply A2;· first|with_reducible rfl|(simp (disch:=omega) only[gF,pk,b1,b2,b3,a1']<;>omega))
  try simp (disch:=omega) only[pk,b1,b2,b3,a1']
  rfl
 |none=>
  rw[q1] at a1;have a1':Af C0 prog fu (d+4) 67 [.pbox (Bv t l),.sc (.string (ByteArray.mk #[(116:UInt8),(114:UInt8),(117:UInt8),(101:UInt8)]))]=some ⟨[.sc (.bool false)],[Bv t l]⟩:=a1;cases q2:Ao [102,97,108,115,101] l with
  |some r=>
   rw[q2] at a2;have a2':Af C0 prog fu (d+4) 67 [.pbox (Bv t l),.sc (.string (ByteArray.mk #[(102:UInt8),(97:UInt8),(108:UInt8),(115:UInt8),(101:UInt8)]))]=some ⟨[.sc (.bool true)],[Bv t r]⟩:=a2;refine⟨_,er.trans ?_,An WW q2,rfl⟩
   try unfold Ac
   repeat first
    |((with_reducible first|apply A0|apply Ar|apply Ay|apply At|apply A1|apply As|apply A3|apply Az);· first|with_reducible rfl|(simp (disch:=omega) only[gT,pk,b1,b2,b3,a1',a2']<;>first|with_reducible rfl|omega)|omega)
    |(with_reducible apply A2;· first|with_reducible rfl|(simp (disch:=omega) only[gF,pk,b1,b2,b3,a1',a2']<;>omega))
   try simp (disch:=omega) only[pk,b1,b2,b3,a1',a2']
   rfl
  |none=>
   rw[q2] at a2;have a2':Af C0 prog fu (d+4) 67 [.pbox (Bv t l),.sc (.string (ByteArray.mk #[(102:UInt8),(97:UInt8),(108:UInt8),(115:UInt8),(101:UInt8)]))]=some ⟨[.sc (.bool false)],[Bv t l]⟩:=a2;cases q3:Ao [110,117,108,108] l with
   |some r=>
    rw[q3] at a3;have a3':Af C0 prog fu (d+4) 67 [.pbox (Bv t l),.sc (.string (ByteArray.mk #[(110:UInt8),(117:UInt8),(108:UInt8),(108:UInt8)]))]=some ⟨[.sc (.bool true)],[Bv t r]⟩:=a3;refine⟨_,er.trans ?_,An WW q3,rfl⟩
    try unfold Ac
    repeat first
     |((with_reducible first|apply A0|apply Ar|apply Ay|apply At|apply A1|apply As|apply A3|apply Az);· first|with_reducible rfl|(simp (disch:=omega) only[gT,pk,b1,b2,b3,a1',a2',a3']<;>first|with_reducible rfl|omega)|omega)
     |(with_reducible apply A2;· first|with_reducible rfl|(simp (disch:=omega) only[gF,pk,b1,b2,b3,a1',a2',a3']<;>omega))
    try simp (disch:=omega) only[pk,b1,b2,b3,a1',a2',a3']
    rfl
   |none=>
    rw[q3] at a3;have a3':Af C0 prog fu (d+4) 67 [.pbox (Bv t l),.sc (.string (ByteArray.mk #[(110:UInt8),(117:UInt8),(108:UInt8),(108:UInt8)]))]=some ⟨[.sc (.bool false)],[Bv t l]⟩:=a3;cases q4:E0 l with
    |some r=>
     rw[q4] at en2;have:=hn r q4;subst this;have en3:Af C0 prog fu (d+4) 92 [.pbox (Bv t l)]=some ⟨[.sc (.bool true)],[Bv t rn]⟩:=en2;refine⟨_,er.trans ?_,WJ h.B q4,rfl⟩
     try unfold Ac
     repeat first
      |((with_reducible first|apply A0|apply Ar|apply Ay|apply At|apply A1|apply As|apply A3|apply Az);· first|with_reducible rfl|(simp (disch:=omega) only[gT,pk,b1,b2,b3,a1',a2',a3',en3]<;>first|with_reducible rfl|omega)|omega)
      |(with_reducible apply A2;· first|with_reducible rfl|(simp (disch:=omega) only[gF,pk,b1,b2,b3,a1',a2',a3',en3]<;>omega))
     try simp (disch:=omega) only[pk,b1,b2,b3,a1',a2',a3',en3]
     rfl
    |none=>
     rw[q4] at en2;have en3:Af C0 prog fu (d+4) 92 [.pbox (Bv t l)]=some ⟨[.sc (.bool false)],[Bv t rn]⟩:=en2;refine⟨_,er.trans ?_,by decide,0,⟨#[]⟩,false,rn,hrn,rfl⟩
     try unfold Ac
     repeat first
      |((with_reducible first|apply A0|apply Ar|apply Ay|apply At|apply A1|apply As|apply A3|apply Az);· first|with_reducible rfl|(simp (disch:=omega) only[gT,pk,b1,b2,b3,a1',a2',a3',en3]<;>first|with_reducible rfl|omega)|omega)
      |(with_reducible apply A2;· first|with_reducible rfl|(simp (disch:=omega) only[gF,pk,b1,b2,b3,a1',a2',a3',en3]<;>omega))
     try simp (disch:=omega) only[pk,b1,b2,b3,a1',a2',a3',en3]
theorem Aa3 (k:Nat)(r:List Int):E8 k (34::r)=match El (34::r) with|(some s,q)=>.ok ((4,s,false),q)|(none,_)=>.error 2:=by
 have e:E8 k (34::r)=match Z5 (34::r) with|none=>.error 2|some (s,r')=>.ok ((4,s,false),r'):=by
  cases k<;>rfl
 rw[e];unfold Z5;rcases El (34::r) with⟨o,q⟩;cases o<;>rfl
theorem JZ {t:ByteArray}(ht:t.size<=1000000)(k:Nat){D:Int}{l:List Int}(h:C3 t (34::l)):∃res,Af C0 prog fu (d+5) 69 [.pbox (Bv t (34::l)),.sc (.int .i64 D)]=some res∧LY t (34::l) (E8 k (34::l)) res:=by
 have er:=Bz (p:=none) fu (d+4) t (Bp t (34::l):Int) D;have pk:Af C0 prog fu (d+4) 90 [.pbox (Bv t (34::l))]=some ⟨[.sc (.int .u8 34)],[Bv t (34::l)]⟩:=J5 (xs:=xs0) (d:=d+3) h;have Ey:Af C0 prog fu (d+4) 68 [.pbox (Bv t (34::l))]=_:=Aex (d:=d+3) h ht;have FJ:=F3 h;have DB:=F3 (C3.self h.B);have b1:((34:Int)==(123:Int))=false:=rfl;have b2:((34:Int)==(91:Int))=false:=rfl;have b3:((34:Int)==(34:Int))=true:=rfl;rw[Aa3];rcases hx:El (34::l) with⟨o,q⟩;rw[hx] at Ey FJ DB;cases o with
 |none=>
  have NY:Af C0 prog fu (d+4) 68 [.pbox (Bv t (34::l))]=some ⟨[.sc (.string (Ab [])),.sc (.bool false)],[Bv t q]⟩:=Ey;refine⟨_,er.trans ?_,by decide,0,⟨#[]⟩,false,q,FJ,rfl⟩
  try unfold Ac
  repeat first
   |((with_reducible first|apply A0|apply Ar|apply Ay|apply At|apply A1|apply As|apply A3|apply Az);· first|with_reducible rfl|(simp (disch:=omega) only[gT,pk,b1,b2,b3,NY]<;>first|with_reducible rfl|omega)|omega)
   |(with_reducible apply A2;· first|with_reducible rfl|(simp (disch:=omega) only[gF,pk,b1,b2,b3,NY]<;>omega))
  try simp (disch:=omega) only[pk,b1,b2,b3,NY]
 |some s=>
  have NY:Af C0 prog fu (d+4) 68 [.pbox (Bv t (34::l))]=some ⟨[.sc (.string (Ab s)),.sc (.bool true)],[Bv t q]⟩:=Ey;refine⟨_,er.trans ?_,DB,rfl⟩
  try unfold Ac
  repeat first
   |((with_reducible first|apply A0|apply Ar|apply Ay|apply At|apply A1|apply As|apply A3|apply Az);· first|with_reducible rfl|(simp (disch:=omega) only[gT,pk,b1,b2,b3,NY]<;>first|with_reducible rfl|omega)|omega)
   |(with_reducible apply A2;· first|with_reducible rfl|(simp (disch:=omega) only[gF,pk,b1,b2,b3,NY]<;>omega))
  try simp (disch:=omega) only[pk,b1,b2,b3,NY]
theorem Afo {t:ByteArray}(ht:t.size<=1000000)(Gr:t.size+1<=fu):∀(k:Nat)(D:Int),D+k=9->1<=D->∀l,C3 t l->∃res,Af C0 prog fu (d+2*k+5) 69 [.pbox (Bv t l),.sc (.int .i64 D)]=some res∧LY t l (E8 k l) res:=by
 intro k
 induction k with
 |zero=>
  intro D hD h1 l h;by_cases g1:FO l=123
  ·cases l with
   |nil=>cases g1
   |cons c l=>
    have g2:c=123:=g1;subst g2;have er:=Bz (p:=none) fu (d+4) t (Bp t (123::l):Int) D;have pk:Af C0 prog fu (d+4) 90 [.pbox (Bv t (123::l))]=some ⟨[.sc (.int .u8 123)],[Bv t (123::l)]⟩:=J5 (xs:=xs0) (d:=d+3) h;have b1:((123:Int)==(123:Int))=true:=rfl;have b2:decide (D>8)=true:=by simp;omega
    refine⟨_,er.trans ?_,(by decide:(5:Int)≠0),0,⟨#[]⟩,false,123::l,h,rfl⟩
    try unfold Ac
    repeat first
     |((with_reducible first|apply A0|apply Ar|apply Ay|apply At|apply A1|apply As|apply A3|apply Az);· first|with_reducible rfl|(simp (disch:=omega) only[gT,pk,b1,b2]<;>first|with_reducible rfl|omega)|omega)
     |(with_reducible apply A2;· first|with_reducible rfl|(simp (disch:=omega) only[gF,pk,b1,b2]<;>omega))
    try simp (disch:=omega) only[pk,b1,b2]
  ·by_cases g2:FO l=91
   ·cases l with
    |nil=>cases g2
    |cons c l=>
     have g3:c=91:=g2;subst g3;have er:=Bz (p:=none) fu (d+4) t (Bp t (91::l):Int) D;have pk:Af C0 prog fu (d+4) 90 [.pbox (Bv t (91::l))]=some ⟨[.sc (.int .u8 91)],[Bv t (91::l)]⟩:=J5 (xs:=xs0) (d:=d+3) h;have b0:((91:Int)==(123:Int))=false:=rfl;have b1:((91:Int)==(91:Int))=true:=rfl;have b2:decide (D>8)=true:=by simp;omega
     refine⟨_,er.trans ?_,(by decide:(5:Int)≠0),0,⟨#[]⟩,false,91::l,h,rfl⟩
     try unfold Ac
     repeat first
      |((with_reducible first|apply A0|apply Ar|apply Ay|apply At|apply A1|apply As|apply A3|apply Az);· first|with_reducible rfl|(simp (disch:=omega) only[gT,pk,b0,b1,b2]<;>first|with_reducible rfl|omega)|omega)
      |(with_reducible apply A2;· first|with_reducible rfl|(simp (disch:=omega) only[gF,pk,b0,b1,b2]<;>omega))
     try simp (disch:=omega) only[pk,b0,b1,b2]
   ·by_cases g3:FO l=34
    ·cases l with
     |nil=>cases g3
     |cons c l=>
      have g4:c=34:=g3;subst g4;exact JZ ht 0 h
    ·rw[BS 0 g1 g2 g3];exact YC ht Gr h g1 g2 g3
 |succ k ih=>
  intro D hD h1 l h;have HV:=ih (D+1) (by omega) (by omega)
  by_cases g1:FO l=123
  ·cases l with
   |nil=>cases g1
   |cons c l=>
    have g2:c=123:=g1;subst g2;have er:=Bz (p:=none) fu (d+2*(k+1)+4) t (Bp t (123::l):Int) D;have pk:Af C0 prog fu (d+2*(k+1)+4) 90 [.pbox (Bv t (123::l))]=some ⟨[.sc (.int .u8 123)],[Bv t (123::l)]⟩:=J5 (xs:=xs0) (d:=d+2*(k+1)+3) h;have b1:((123:Int)==(123:Int))=true:=rfl;have b2:decide (D>8)=false:=by simp;omega
    have w1:wrap .i64 (D+1)=D+1:=Bj (by omega) (by omega)
    obtain⟨res,e5,h5⟩:=Aps (fu:=fu) (d:=d+2*k+2) (D:=D+1) ht Gr (E8 k) HV h;have e6:Af C0 prog fu (d+2*(k+1)+4) 51 [.pbox (Bv t (123::l)),.sc (.int .i64 (D+1)),.sc (.map none)]=some res:=e5;have ev:E8 (k+1) (123::l)=match Q4 (E8 k) false l with | .error e=>.error e | .ok (_,r')=>.ok ((6,[],false),r'):=rfl
    rw[ev];cases ho:Q4 (E8 k) false l with
    |error e=>
     rw[ho] at h5;obtain⟨he,q,hq,rfl⟩:=h5;refine⟨_,er.trans ?_,he,6,⟨#[]⟩,false,q,hq,rfl⟩
     try unfold Ac
     repeat first
      |((with_reducible first|apply A0|apply Ar|apply Ay|apply At|apply A1|apply As|apply A3|apply Az);· first|with_reducible rfl|(simp (disch:=omega) only[gT,pk,b1,b2,w1,e6]<;>first|with_reducible rfl|omega)|omega)
      |(with_reducible apply A2;· first|with_reducible rfl|(simp (disch:=omega) only[gF,pk,b1,b2,w1,e6]<;>omega))
     try simp (disch:=omega) only[pk,b1,b2,w1,e6]
    |ok x=>
     obtain⟨ms,q⟩:=x;rw[ho] at h5;obtain⟨hq,rfl⟩:=h5;refine⟨_,er.trans ?_,(C3.self h.B).tail.trans hq,rfl⟩
     try unfold Ac
     repeat first
      |((with_reducible first|apply A0|apply Ar|apply Ay|apply At|apply A1|apply As|apply A3|apply Az);· first|with_reducible rfl|(simp (disch:=omega) only[gT,pk,b1,b2,w1,e6]<;>first|with_reducible rfl|omega)|omega)
      |(with_reducible apply A2;· first|with_reducible rfl|(simp (disch:=omega) only[gF,pk,b1,b2,w1,e6]<;>omega))
     try simp (disch:=omega) only[pk,b1,b2,w1,e6]
     rfl
  ·by_cases g2:FO l=91
   ·cases l with
    |nil=>cases g2
    |cons c l=>
     have g3:c=91:=g2;subst g3;have er:=Bz (p:=none) fu (d+2*(k+1)+4) t (Bp t (91::l):Int) D;have pk:Af C0 prog fu (d+2*(k+1)+4) 90 [.pbox (Bv t (91::l))]=some ⟨[.sc (.int .u8 91)],[Bv t (91::l)]⟩:=J5 (xs:=xs0) (d:=d+2*(k+1)+3) h;have b0:((91:Int)==(123:Int))=false:=rfl;have b1:((91:Int)==(91:Int))=true:=rfl;have b2:decide (D>8)=false:=by simp;omega
     have w1:wrap .i64 (D+1)=D+1:=Bj (by omega) (by omega)
     obtain⟨res,e5,h5⟩:=Apx (fu:=fu) (d:=d+2*k+2) (D:=D+1) ht Gr (E8 k) HV h;have e6:Af C0 prog fu (d+2*(k+1)+4) 91 [.pbox (Bv t (91::l)),.sc (.int .i64 (D+1))]=some res:=e5;have ev:E8 (k+1) (91::l)=match TY (E8 k) l with | .error e=>.error e | .ok r'=>.ok ((5,[],false),r'):=rfl
     rw[ev];cases ho:TY (E8 k) l with
     |error e=>
      rw[ho] at h5;obtain⟨he,q,hq,rfl⟩:=h5;refine⟨_,er.trans ?_,he,5,⟨#[]⟩,false,q,hq,rfl⟩
      try unfold Ac
      repeat first
       |((with_reducible first|apply A0|apply Ar|apply Ay|apply At|apply A1|apply As|apply A3|apply Az);· first|with_reducible rfl|(simp (disch:=omega) only[gT,pk,b0,b1,b2,w1,e6]<;>first|with_reducible rfl|omega)|omega)
       |(with_reducible apply A2;· first|with_reducible rfl|(simp (disch:=omega) only[gF,pk,b0,b1,b2,w1,e6]<;>omega))
      try simp (disch:=omega) only[pk,b0,b1,b2,w1,e6]
     |ok q=>
      rw[ho] at h5;obtain⟨hq,rfl⟩:=h5;refine⟨_,er.trans ?_,(C3.self h.B).tail.trans hq,rfl⟩
      try unfold Ac
      repeat first
       |((with_reducible first|apply A0|apply Ar|apply Ay|apply At|apply A1|apply As|apply A3|apply Az);· first|with_reducible rfl|(simp (disch:=omega) only[gT,pk,b0,b1,b2,w1,e6]<;>first|with_reducible rfl|omega)|omega)
       |(with_reducible apply A2;· first|with_reducible rfl|(simp (disch:=omega) only[gF,pk,b0,b1,b2,w1,e6]<;>omega))
      try simp (disch:=omega) only[pk,b0,b1,b2,w1,e6]
      rfl
   ·by_cases g3:FO l=34
    ·cases l with
     |nil=>cases g3
     |cons c l=>
      have g4:c=34:=g3;subst g4;exact JZ (d:=d+2*(k+1)) ht (k+1) h
    ·rw[BS (k+1) g1 g2 g3];exact YC (d:=d+2*(k+1)) ht Gr h g1 g2 g3
end
end
section
open Go.Proofs.Tryd (prog)
open Go.IntKind (wrap)
set_option maxRecDepth 1000000
open Go.Shelf Go.RowKit Go.Lib
theorem LQ (G:Qi)(args:List PV)(res:A4)(h:GL args=some res):Cx G prog 66 args res:=by
 refine⟨⟨_,Tryd.func66,by kernel_rfl⟩,fun w Y bt us hi _ _=>?_⟩
 unfold GL at h;split at h
 rotate_left
 ·cases h
 rename_i s p;cases hq:(Nat.ble p.size 1000&&p.data.toList.all (fun b=>decide (b.toNat<128))&&decide (s.size<=1000000000))
 ·rw[hq] at h;cases h
 rw[hq,cond_true] at h;cases h;rw[Bool.and_eq_true,Bool.and_eq_true] at hq;obtain⟨⟨h1,h2⟩,h3⟩:=hq;have h1:=Nat.le_of_ble_eq_true h1;have h3:=of_decide_eq_true h3;have ps:=hi.args
 match us,ps with
 |[u1,u2],ps=>
  obtain⟨⟨_,p1⟩,⟨_,p2⟩,_⟩:=ps;have e1:u1=.string s:=Aq.val (show Aq w _ (.sc (.string s)) u1 from p1)
  have e2:u2=.string p:=Aq.val (show Aq w _ (.sc (.string p)) u2 from p2)
  subst e1 e2;refine (Any.strings_Trim_laid ML (by kernel_rfl) s p w (by omega) (by omega) (ascii_of_all h2)).mono ?_
  rintro e w' ⟨rfl,hb⟩
  exact⟨[.string ⟨(Lib.trimS s.data.toList p.data.toList).toArray⟩],fun _=>none,rfl,Le hb rfl⟩
 |[],ps=>exact ps.elim
 |[_],ps=>exact ps.2.elim
 |_::_::_::_,ps=>exact ps.2.2.elim
end
section
open Go.Proofs.Tryd (prog)
open Go.IntKind (wrap)
set_option maxRecDepth 1000000
open Go.Shelf Go.RowKit Go.Lib
def Apc:Go.Shelf.Ren:=⟨fun|196=>33|259=>49|n=>n,fun|0=>0|3=>3|4=>4|5=>5|9=>9|12=>12|46=>56|53=>46|119=>86|138=>88|139=>89|n=>n,fun|3=>0|4=>1|n=>n⟩
theorem laysVS:Lays.n196 prog Apc:={
 mixed:=by kernel_rfl
 f196:=Tryd.func33.trans (congrArg some (by kernel_rfl))
 f259:=Tryd.func49.trans (congrArg some (by kernel_rfl))
 t0:=Tryd.underlying0
 a0:=Tryd.isAgg0
 z0:=Tryd.sizeOf0
 v0:=Tryd.zeroValue0
 t3:=Tryd.underlying3
 a3:=Tryd.isAgg3
 z3:=Tryd.sizeOf3
 v3:=Tryd.zeroValue3
 t4:=Tryd.underlying4
 a4:=Tryd.isAgg4
 z4:=Tryd.sizeOf4
 v4:=Tryd.zeroValue4
 t5:=Tryd.underlying5
 a5:=Tryd.isAgg5
 z5:=Tryd.sizeOf5
 v5:=Tryd.zeroValue5
 t9:=Tryd.underlying9
 a9:=Tryd.isAgg9
 z9:=Tryd.sizeOf9
 v9:=Tryd.zeroValue9
 t12:=Tryd.underlying12
 a12:=Tryd.isAgg12
 z12:=Tryd.sizeOf12
 v12:=Tryd.zeroValue12
 t46:=Tryd.underlying56
 a46:=Tryd.isAgg56
 z46:=Tryd.sizeOf56
 v46:=Tryd.zeroValue56
 t53:=Tryd.underlying46
 a53:=Tryd.isAgg46
 z53:=Tryd.sizeOf46
 v53:=Tryd.zeroValue46
 t119:=Tryd.underlying86
 a119:=Tryd.isAgg86
 z119:=Tryd.sizeOf86
 t138:=Tryd.underlying88
 a138:=Tryd.isAgg88
 z138:=Tryd.sizeOf88
 v138:=Tryd.zeroValue88
 t139:=Tryd.underlying89
 a139:=Tryd.isAgg89
 z139:=Tryd.sizeOf89
 v139:=Tryd.zeroValue89
 g3:=by kernel_rfl
 g4:=by kernel_rfl }
def gU:Qi:=⟨fun b=>b=0∨b=1,fun w=>0<w.heap.size∧1<w.heap.size∧Lib.Utf8Tabs 0 1 w,fun w w' h ⟨s1,s2,h1,h2⟩=>by
 have e1:=h _ (.inl rfl) s1;have e2:=h _ (.inr rfl) s2
 have hs:∀b,b<w.heap.size->w'.heap[b]?=w.heap[b]?->b<w'.heap.size:=by
  intro b hb he;rw[Array.getElem?_eq_getElem hb] at he;rcases Nat.lt_or_ge b w'.heap.size with q|q
  ·exact q
  ·rw[Array.getElem?_eq_none q] at he;cases he
 refine⟨hs _ s1 e1,hs _ s2 e2,fun c hc=>?_,fun i hi=>?_⟩
 ·have:=h1 c hc;unfold World.cell? at this ⊢;simp only[e1] at this ⊢;exact this
 ·obtain⟨a,b⟩:=h2 i hi;unfold World.cell? at a b ⊢;simp only[e2] at a b ⊢;exact⟨a,b⟩⟩
theorem IU (args:List PV)(res:A4)(h:OC args=some res):Cx gU prog 33 args res:=by
 refine⟨⟨_,Tryd.func33,by kernel_rfl⟩,fun w Y bt us hi hok _=>?_⟩
 unfold OC at h;split at h
 rotate_left
 ·cases h
 rename_i s;cases hq:decide (s.size<=9223372036854775807)
 ·rw[hq] at h;cases h
 rw[hq] at h;cases h;have hs:=of_decide_eq_true hq;have ps:=hi.args
 match us,ps with
 |[u],ps=>
  have hu:u=.string s:=by
   have:Aq w _ (.sc (.string s)) u:=ps.1.2;exact this.val
  subst hu;refine (Any.utf8_ValidString laysVS s w hs hok.2.2).mono ?_
  rintro e w' ⟨rfl,hb⟩
  exact⟨[.bool (Lib.validD s.data.toList)],fun _=>none,rfl,Le hb rfl⟩
 |[],ps=>exact ps.elim
 |_::_::_,ps=>exact ps.2.elim
theorem Aes {p:Option (List PV->Option A4)} (hp:∀g,p=some g->∀args res,g args=some res->Cx gU prog 19 args res):BV gU prog (CP p):=by
 intro f g args res hx hg;have hx0:(bif Q8.any (Nat.beq f) then none else VH p f)=some g:=hx;cases hb:Q8.any (Nat.beq f)
 rotate_left
 ·rw[hb,cond_true] at hx0;cases hx0
 rw[hb,cond_false] at hx0;unfold VH at hx0;cases hP:Nat.beq f 19
 rotate_left
 ·rw[hP,cond_true] at hx0;rw[Nat.eq_of_beq_eq_true hP];exact hp g hx0 args res hg
 rw[hP,cond_false] at hx0;have Nz:XK f=some g:=hx0;unfold XK at Nz;cases h1:Nat.beq f 33
 rotate_left
 ·rw[h1,cond_true] at Nz;cases Nz;rw[Nat.eq_of_beq_eq_true h1];exact IU args res hg
 rw[h1,cond_false] at Nz;cases h6:Nat.beq f 40
 rotate_left
 ·rw[h6,cond_true] at Nz;cases Nz;rw[Nat.eq_of_beq_eq_true h6];exact RP gU args res hg
 rw[h6,cond_false] at Nz;cases h7:Nat.beq f 99
 rotate_left
 ·rw[h7,cond_true] at Nz;cases Nz;rw[Nat.eq_of_beq_eq_true h7];exact QK gU args res hg
 rw[h7,cond_false] at Nz;cases hA:Nat.beq f 66
 rotate_left
 ·rw[hA,cond_true] at Nz;cases Nz;rw[Nat.eq_of_beq_eq_true hA];exact LQ gU args res hg
 rw[hA,cond_false] at Nz;cases h8:Nat.beq f 12
 rotate_left
 ·rw[h8,cond_true] at Nz;cases Nz;rw[Nat.eq_of_beq_eq_true h8];exact TQ gU args res hg
 rw[h8,cond_false] at Nz;cases h9:Nat.beq f 68
 rotate_left
 ·rw[h9,cond_true] at Nz;cases Nz;rw[Nat.eq_of_beq_eq_true h9];exact TU gU args res hg
 rw[h9,cond_false] at Nz;cases h3:Nat.beq f 1000000
 ·rw[h3,cond_false] at Nz;cases Nz
 ·rw[h3,cond_true] at Nz;cases Nz;cases hg
theorem Ajl:BV gU prog C0:=Aes (fun _ h=>by cases h)
end
section
open Go.Proofs.Tryd (prog)
open Go.IntKind (wrap)
open Go Go.RowKit
def Nn (v:JV):Value:=.agg #[.int .i64 v.1,.string (Ab v.2.1),.bool v.2.2]
def G8:Nat->List (List Int × JV)->List MapEntry
 |_,[]=>[]
 |i,m::r=>{ key:=.string (Ab m.1),val:=Nn m.2,born:=i }::G8 (i+1) r
theorem AD:∀(i:Nat)(a b:List (List Int × JV)),G8 i (a++b)=G8 i a++G8 (i+a.length) b
 |_,[],_=>rfl
 |i,m::r,b=>by
  show _::G8 (i+1) (r++b)=_;rw[AD (i+1) r b];show _=_::(G8 (i+1) r++G8 (i+(r.length+1)) b);rw[show i+1+r.length=i+(r.length+1) by omega]
def I3 (nm:List Int)(ms:List (List Int × JV)):Option JV:=(ms.find? fun m=>m.1==nm).map (·.2)
theorem Uq {a b:List Int}(ha:Ds a)(hb:Ds b)(h:Ab a=Ab b):a=b:=by
 have:=congrArg E1 h
 rwa [C9 ha,C9 hb] at this
theorem VI (a b:ByteArray):(a==b)=decide (a=b):=by
 have e:(a==b)=(a.data==b.data):=by
  cases a;cases b;rfl
 rw[e,Bool.eq_iff_iff,beq_iff_eq,decide_eq_true_iff];constructor
 ·intro h;cases a;cases b;exact congrArg ByteArray.mk h
 ·intro h;rw[h]
theorem Nc {nm:List Int}(hn:Ds nm):∀(ms:List (List Int × JV)) (i j:Nat),(∀m∈ms,Ds m.1)->∃r,Instr.findNow .string (.string (Ab nm)) (G8 i ms) j=some r∧(match I3 nm ms with|none=>r=none|some v=>∃k,r=some (k,Nn v))
 |[],_,_,_=>⟨none,rfl,rfl⟩
 |m::r,i,j,hB=>by
  by_cases h:m.1=nm
  ·refine⟨some (j,Nn m.2),?_,?_⟩
   ·show (match Instr.sameNow .string (.string (Ab nm)) (.string (Ab m.1)) with|some true=>some (some (j,Nn m.2))|some false=>Instr.findNow .string (.string (Ab nm)) (G8 (i+1) r) (j+1)|none=>none)=_
    have e:Instr.sameNow .string (.string (Ab nm)) (.string (Ab m.1))=some true:=by
     show some (Ab nm==Ab m.1)=some true;rw[h,VI];simp
    rw[e]
   ·have e:I3 nm (m::r)=some m.2:=by
     unfold I3;rw[List.find?_cons_of_pos (by simp[h])]
     rfl
    rw[e];exact⟨j,rfl⟩
  ·obtain⟨q,hq,hl⟩:=Nc hn r (i+1) (j+1) fun m hm=>hB m (List.mem_cons_of_mem _ hm)
   refine⟨q,?_,?_⟩
   ·show (match Instr.sameNow .string (.string (Ab nm)) (.string (Ab m.1)) with|some true=>some (some (j,Nn m.2))|some false=>Instr.findNow .string (.string (Ab nm)) (G8 (i+1) r) (j+1)|none=>none)=_
    have e:Instr.sameNow .string (.string (Ab nm)) (.string (Ab m.1))=some false:=by
     show some (Ab nm==Ab m.1)=some false;have:Ab nm≠Ab m.1:=fun e=>h (Uq hn (hB m (List.mem_cons_self ..)) e).symm
     rw[VI];simp[this]
    rw[e];exact hq
   ·have e:I3 nm (m::r)=I3 nm r:=by
     unfold I3;rw[List.find?_cons_of_neg (by simp[h])]
    rw[e];exact hl
def Ya (w:World)(b:Nat)(ms:List (List Int × JV)):Prop:=w.heap[b]?=some (.map (G8 0 ms).toArray ms.length)
theorem Wa {w:World}{b:Nat}{ms:List (List Int × JV)} (h:Ya w b ms):(getObj b).run prog w=.ok (.map (G8 0 ms).toArray ms.length) w:=by
 simp[getObj,Sem.run,show w.heap[b]?=_ from h]
def GZ (nm:List Int)(ms:List (List Int × JV)):Value:=match I3 nm ms with|some v=>Nn v|none=>Nn (0,[],false)
theorem Xl {w:World}{b:Nat}{ms:List (List Int × JV)} (h:Ya w b ms)(hB:∀m∈ms,Ds m.1){nm:List Int}(hn:Ds nm)(ok:Bool):(Instr.lookup 68 (.map (some b)) (.string (Ab nm)) ok).run prog w=.ok (if ok then .tuple #[GZ nm ms,.bool (I3 nm ms).isSome] else GZ nm ms) w:=by
 have hu:=run_underlying (w:=w) Tryd.underlying68;have hk:=run_underlying (w:=w) Tryd.underlying9;have hck:∀c (n:Nat),(Instr.checkKey c (n+1) 9 (.string (Ab nm))).run prog w=.ok () w:=fun c n=>by simp[Instr.checkKey,hk]
 have hc:∀c,(Instr.checkKey c 10000 9 (.string (Ab nm))).run prog w=.ok () w:=fun c=>hck c 9999
 obtain⟨r,hr,hl⟩:=Nc hn ms 0 0 hB;have hz:(zeroValue 95).run prog w=.ok (Nn (0,[],false)) w:=Tryd.zeroValue95 w;unfold GZ;cases hq:I3 nm ms with
 |none=>
  rw[hq] at hl;simp only at hl;subst hl;cases ok<;>simp[Instr.lookup,hu,hk,Wa h,hc,Instr.findKey,hr,hz]<;>rfl
 |some v=>
  rw[hq] at hl;obtain⟨k,hl⟩:=hl;subst hl;cases ok<;>simp[Instr.lookup,hu,hk,Wa h,hc,Instr.findKey,hr]
theorem LG {w:World}{b:Nat}{ms:List (List Int × JV)} (h:Ya w b ms)(hB:∀m∈ms,Ds m.1){nm:List Int}(hn:Ds nm)(CQ:I3 nm ms=none)(v:JV):(Instr.mapUpdate 68 (.map (some b)) (.string (Ab nm)) (Nn v)).run prog w=.ok () { w with heap:=w.heap.setIfInBounds b (.map (G8 0 (ms++[(nm,v)])).toArray (ms++[(nm,v)]).length) }:=by
 have hu:=run_underlying (w:=w) Tryd.underlying68;have hk:=run_underlying (w:=w) Tryd.underlying9;have hck:∀c (n:Nat),(Instr.checkKey c (n+1) 9 (.string (Ab nm))).run prog w=.ok () w:=fun c n=>by simp[Instr.checkKey,hk]
 have hc:∀c,(Instr.checkKey c 10000 9 (.string (Ab nm))).run prog w=.ok () w:=fun c=>hck c 9999
 obtain⟨r,hr,hl⟩:=Nc hn ms 0 0 hB;rw[CQ] at hl;simp only at hl;subst hl
 have e:G8 0 (ms++[(nm,v)])=G8 0 ms++[{ key:=.string (Ab nm),val:=Nn v,born:=ms.length }]:=by
  rw[AD];show _++[_]=_;rw[Nat.zero_add]
 have hs:∀o,(setObj b o).run prog w=.ok () { w with heap:=w.heap.setIfInBounds b o }:=fun o=>by
  simp[setObj,Sem.run,show w.heap[b]?=_ from h]
 rw[e];simp[Instr.mapUpdate,hu,hk,Wa h,hc,Instr.findKey,hr,hs]
end
section
open Go.Proofs.Tryd (prog)
open Go.IntKind (wrap)
set_option maxRecDepth 20000
open Go Go.RowKit
structure I8 (w:World) (b:Nat):Prop where
 ok:gU.ok w
 bl:∀k,gU.bl k->k<w.heap.size∧k≠b
theorem Xs {f:FuncId}{t:ByteArray}{r r':List Int}{args vals:List PV}{us rs:List Value}{fu d:Nat}(e:Af C0 prog fu d f (.pbox (Bv t r)::args)=some ⟨vals,[Bv t r']⟩) (ha:Bc Yn args us)(hr:Bc Yn vals rs)
  {w:World} {b o:Nat} (hU:I8 w b) (h:Rg w b o t r):Calls prog f (.pointer (some ⟨b,o,none⟩)::us).toArray w fun e w'=>e=.returned (Gc rs)∧Rg w' b o t r'∧D4 w w' b o 2:=by
 have hs:Cx gU prog f (.pbox ([Value.string t,.int .i64 (Bp t r:Int)].map .sc)::args) ⟨vals,[[Value.string t,.int .i64 (Bp t r':Int)].map .sc]⟩:=G2 ngR mxR Ajl d f _ _ e;refine (BA hs ha hr (w:=w) (b:=b) (o:=o) hU.ok hU.bl h.lt ?_ ?_).mono ?_
 ·intro j v hv
  match j,hv with
  |0,hv=>cases hv;exact h.c0
  |1,hv=>cases hv;exact h.c1
 ·intro j hj
  match j,hj with
  |0,_=>exact h.f0
  |1,_=>exact h.f1
 ·rintro e w' ⟨rfl,_,h4,h5,hk⟩
  exact⟨rfl,⟨Nat.lt_of_lt_of_le h.lt hk.size,h4 0 _ rfl,h4 1 _ rfl,h5 0 (Nat.zero_lt_succ _),h5 1 (Nat.succ_lt_succ (Nat.zero_lt_succ _))⟩,hk⟩
theorem Gt {t:ByteArray}{r:List Int}(hS:C3 t r)(ht:t.size<=1000000){w:World}{b o:Nat}(hU:I8 w b)(h:Rg w b o t r):
  Calls prog 50 #[.pointer (some ⟨b,o,none⟩)] w fun e w'=>e=.returned (.tuple #[])∧Rg w' b o t (Bd r)∧D4 w w' b o 2:=by
 have e:=Md (fu:=1000001) (d:=0) hS ht (by omega)
 exact Xs (us:=[]) (rs:=[]) e trivial trivial hU h
def Agh (t:ByteArray)(r r':List Int)(e:Ending):Prop:=
 match E8 8 r with
 |.ok (v,q)=>r'=q∧C3 (Ab r) q∧e=.returned (.tuple #[Nn v,.int .i64 0])
 |.error er=>er≠0∧C3 t r'∧∃u:JV,e=.returned (.tuple #[Nn u,.int .i64 er])
theorem SU {t:ByteArray}{r:List Int}(hS:C3 t r)(ht:t.size<=1000000){w:World}{b o:Nat}(hU:I8 w b)(h:Rg w b o t r):
  Calls prog 69 #[.pointer (some ⟨b,o,none⟩),.int .i64 1] w fun e w'=>∃r',Rg w' b o t r'∧D4 w w' b o 2 ∧
   Agh t r r' e:=by
 unfold Agh;obtain⟨res,e,hr⟩:=Afo (fu:=1000001) (d:=0) ht (by omega) 8 1 (by omega) (by omega) r hS
 cases hv:E8 8 r with
 |error er=>
  rw[hv] at hr;obtain⟨he,c1,c2,c3,q,hq,rfl⟩:=hr;refine (Xs (us:=[.int .i64 1]) (rs:=[.agg #[.int .i64 c1,.string c2,.bool c3],.int .i64 er]) e ⟨.inl rfl,trivial⟩ ⟨.inr ⟨[.int .i64 c1,.string c2,.bool c3],rfl,rfl⟩,.inl rfl,trivial⟩ hU h).mono ?_
  rintro e w' ⟨rfl,ha,hk⟩
  exact⟨q,ha,hk,he,hq,(c1,E1 c2,c3),by unfold Nn;simp only[G9];rfl⟩
 |ok x=>
  obtain⟨v,q⟩:=x;rw[hv] at hr;obtain⟨hq,rfl⟩:=hr;refine (Xs (us:=[.int .i64 1]) (rs:=[Nn v,.int .i64 0]) e ⟨.inl rfl,trivial⟩ ⟨.inr ⟨[.int .i64 v.1,.string (Ab v.2.1),.bool v.2.2],rfl,rfl⟩,.inl rfl,trivial⟩ hU h).mono ?_
  rintro e w' ⟨rfl,ha,hk⟩
  exact⟨q,ha,hk,rfl,hq,rfl⟩
end
section
open Go.Proofs.Tryd (prog)
open Go.IntKind (wrap)
set_option maxRecDepth 1000000
open Go Go.RowKit Go.Lib
theorem I8.keep {w w':World}{b o n:Nat}(h:I8 w b)(k:D4 w w' b o n):I8 w' b:=
 ⟨gU.stable w w' (fun j hj hl=>k.other j hl (h.bl j hj).2) h.ok,fun j hj=>⟨Nat.lt_of_lt_of_le (h.bl j hj).1 k.size,(h.bl j hj).2⟩⟩
theorem Ya.keep {w w':World}{b mb o n:Nat}{ms:List (List Int × JV)} (h:Ya w mb ms)(k:D4 w w' b o n)(D8:mb≠b):Ya w' mb ms:=by
 have B2:mb<w.heap.size:=(Array.getElem?_eq_some_iff.1 h).1;exact (k.other mb B2 D8).trans h
structure Dk (w w':World) (b mb:Nat):Prop where
 os:w'.os=w.os
 tape:w'.tape=w.tape
 output:w'.output=w.output
 size:w.heap.size<=w'.heap.size
 other:∀k,k<w.heap.size->k≠b->k≠mb->w'.heap[k]?=w.heap[k]?
theorem Dk.of {w w':World}{b mb o n:Nat}(k:D4 w w' b o n):Dk w w' b mb:=⟨k.os,k.tape,k.output,k.size,fun j hj hb _=>k.other j hj hb⟩
theorem I8.below {w w':World}{b:Nat}(h:I8 w b)(k:Below w.heap.size w w'):I8 w' b:=
 ⟨gU.stable w w' (fun j _ hl=>k.block j hl) h.ok,fun j hj=>⟨Nat.lt_of_lt_of_le (h.bl j hj).1 k.size,(h.bl j hj).2⟩⟩
theorem Ya.below {w w':World}{mb:Nat}{ms:List (List Int × JV)} (h:Ya w mb ms)(k:Below w.heap.size w w'):Ya w' mb ms:=by
 have B2:mb<w.heap.size:=(Array.getElem?_eq_some_iff.1 h).1;exact (k.block mb B2).trans h
theorem Dk.trans {w w' w'':World}{b mb:Nat}(h:Dk w w' b mb)(k:Dk w' w'' b mb):Dk w w'' b mb:=
 ⟨k.os.trans h.os,k.tape.trans h.tape,k.output.trans h.output,Nat.le_trans h.size k.size,fun i hi h1 h2=>(k.other i (Nat.lt_of_lt_of_le hi h.size) h1 h2).trans (h.other i hi h1 h2)⟩
theorem LL:∀(n:Nat)(out l s q:List Int),Ds out->Ds l->Ix n out l=(some s,q)->Ds s
  |0,_,_,_,_,_,_,h=>by cases h
  |_+1,_,[],_,_,_,_,h=>by cases h
  |n+1,out,c::l,s,q,ho,hl,h=>by
    have e:Ix (n+1) out (c::l)=if c<32 then (none,c::l) else if c=34 then (some out,l) else if c=92 then
        (match La l with
         |(some x,r')=>Ix n (out++Lib.encodeRuneZ x) r'
         |(none,r')=>(none,r')) else Ix n (out++[c]) l:=rfl
    have M6:=Bm hl
    rw[e] at h
    split at h
    · cases h
    split at h
    · cases h;exact ho
    split at h
    · have h2:=M9 (C3.self M6.2)
      rcases hq:La l with⟨o,r⟩
      rw[hq] at h2 h
      cases o with
      |none=>cases h
      |some x=>exact LL n _ r s q (Kf ho (fun y hy=>by have:=Lib.encodeRuneZ_byte x y hy;omega)) (by have:=h2.B;exact this) h
    · exact LL n _ l s q (Kf ho (fun y hy=>by simp at hy;omega)) M6.2 h
theorem PN {l s q:List Int}(hl:Ds l)(h:El l=(some s,q)):Ds s:=by
 cases l with
 |nil=>cases h
 |cons c l=>
  have e:El (c::l)=if c=34 then Ix (l.length+1) [] l else (none,c::l):=rfl
  rw[e] at h;split at h
  ·exact LL _ _ _ _ _ (fun x hx=>by cases hx) (Bm hl).2 h
  ·cases h
theorem Dk.below {w w':World}{b mb:Nat}(k:Below w.heap.size w w'):Dk w w' b mb:=⟨k.os,k.tape,k.output,k.size,fun i hi _ _=>k.block i hi⟩
theorem Abh {P:Program}{t k e:TypeId}(hu:P.underlying t=some (.map k e)) (mb:Nat)(w:World):(binOp .neq t (.map (some mb)) (.map none)).run P w=.ok (.bool true) w:=by
 have h:∀d,(Op.equalIn (d+1) t (.map (some mb)) (.map none)).run P w=.ok false w:=fun d=>by
  simp[Op.equalIn,run_underlying hu]
 simp only[binOp];simp[Op.equal,Op.maxDepth,h 9999]
theorem WK (nm:List Int)(ms:List (List Int × JV)):(ms.any fun m=>m.1==nm)=(I3 nm ms).isSome:=by
 unfold I3
 induction ms with
 |nil=>rfl
 |cons m r ih=>
  by_cases h:m.1=nm
  ·rw[List.find?_cons_of_pos (by simp[h])]
   simp[h]
  ·rw[List.find?_cons_of_neg (by simp[h]),←ih]
   simp[h]
theorem To (V:List Int->JR (JV × List Int)) (kp:Bool)(l:List Int):Q4 V kp l=match Ao [125] (Bd l) with|some r=>.ok ([],r)|none=>Pd V kp ((Bd l).length+1) [] (Bd l):=by
 unfold Q4;rw[Fb];cases Bd l with
 |nil=>rfl
 |cons y s=>
  by_cases hy:y=125
  ·subst hy;rfl
  ·simp only[D1 hy];split
   ·rename_i e;injection e with e1 _;exact absurd e1 hy
   ·rfl
theorem Yj {W:World}{mb b:Nat}{ob:Obj}(D8:mb≠b):({ W with heap:=W.heap.setIfInBounds mb ob }:World).heap[b]?=W.heap[b]?:=Array.getElem?_setIfInBounds_ne D8
theorem Rg.put {W:World}{b o mb:Nat}{t:ByteArray}{r:List Int}{ob:Obj}(h:Rg W b o t r)(D8:mb≠b):Rg { W with heap:=W.heap.setIfInBounds mb ob } b o t r:=by
 have e:=Yj (W:=W) (ob:=ob) D8;refine⟨by simpa using h.lt,(World.cell?_of_block e).trans h.c0,(World.cell?_of_block e).trans h.c1,?_,?_⟩
 ·have:=h.f0;unfold World.frozen? at this ⊢;simp only[e] at this ⊢;exact this
 ·have:=h.f1;unfold World.frozen? at this ⊢;simp only[e] at this ⊢;exact this
theorem I8.put {W:World}{b mb:Nat}{ob:Obj}(h:I8 W b)(hmU:¬gU.bl mb):I8 { W with heap:=W.heap.setIfInBounds mb ob } b:=
 ⟨gU.stable W _ (fun j hj _=>Yj (fun e=>hmU (e ▸ hj))) h.ok,fun j hj=>⟨by simpa using (h.bl j hj).1,(h.bl j hj).2⟩⟩
theorem Dk.put {W:World}{b mb:Nat}{ob:Obj}:Dk W { W with heap:=W.heap.setIfInBounds mb ob } b mb:=
 ⟨rfl,rfl,rfl,by simp,fun k _ _ h=>Yj (fun e=>h e.symm)⟩
theorem Ya.put {W:World}{mb n:Nat}{ms ms':List (List Int × JV)} (h:Ya W mb ms)(hn:ms'.length=n):Ya { W with heap:=W.heap.setIfInBounds mb (.map (G8 0 ms').toArray n) } mb ms':=by
 have B2:mb<W.heap.size:=(Array.getElem?_eq_some_iff.1 h).1;subst hn;exact Array.getElem?_setIfInBounds_self_of_lt B2
def RoP (w':World)(mb:Nat)(l r':List Int)(e:Ending):Prop:=
 match Ao [123] l with
 |some l'=>(match Q4 (E8 8) true l' with
  |.ok (ms,q)=>r'=q∧e=.returned (.int .i64 0)∧Ya w' mb ms
  |.error er=>er≠0∧e=.returned (.int .i64 er))
 |none=>e=.returned (.int .i64 2)
set_option maxHeartbeats 4000000 in
theorem Abv {t:ByteArray}{l:List Int}(hS:C3 t l)(ht:t.size<=1000000){w:World}{b o mb:Nat}(hU:I8 w b)(h:Rg w b o t l)(hM:Ya w mb []) (ER:mb≠b)(hmU:¬gU.bl mb):
  Calls prog 51 #[.pointer (some ⟨b,o,none⟩),.int .i64 1,.map (some mb)] w fun e w'=>Dk w w' b mb∧∃r',C3 t r'∧Rg w' b o t r' ∧
   RoP w' mb l r' e:=by
 have mixed:prog.follows Departure.mixedOrders=true:=by kernel_rfl
 have hac:=F6 hS ht (w0:=[123]) (fun x hx=>by simp at hx;omega) (by decide) h
 go_enter Tryd.func51,Tryd.ntmps51
 go_wp2_with (go_at_call 67;refine hac.mono ?_)
 rintro e W1 ⟨rfl,h1,k1⟩
 cases hq:Ao [123] l with
 |none=>
  rw[hq] at h1
  go_wp2
  go_ret
  exact⟨Dk.of k1,l,hS,h1,by unfold RoP;rw[hq];rfl⟩
 |some l'=>
  rw[hq] at h1;have RL:=An hS hq;have hsk:=Gt RL ht (hU.keep k1) h1
  go_wp2_with (go_at_call 50;refine hsk.mono ?_)
  rintro e W2 ⟨rfl,h2,k2⟩
  have Qu:=Bo RL;have Av4:=F6 Qu ht (w0:=[125]) (fun x hx=>by simp at hx;omega) (by decide) h2
  go_wp2_with (go_at_call 67;refine Av4.mono ?_)
  rintro e W3 ⟨rfl,h3,k3⟩
  cases Jt:Ao [125] (Bd l') with
  |some r3=>
   rw[Jt] at h3
   go_wp2
   go_ret
   refine⟨((Dk.of k1).trans (Dk.of k2)).trans (Dk.of k3),r3,An Qu Jt,h3,?_⟩;unfold RoP;rw[hq];simp only;rw[To,Jt];exact⟨rfl,rfl,((hM.keep k1 ER).keep k2 ER).keep k3 ER⟩
  |none=>
   rw[Jt] at h3
   have hRo:∀w' r' e,(match Pd (E8 8) true ((Bd l').length+1) [] (Bd l') with
     |.ok (ms,q)=>r'=q∧e=.returned (.int .i64 0)∧Ya w' mb ms
     |.error er=>er≠0∧e=.returned (.int .i64 er))->RoP w' mb l r' e:=by
    intro w' r' e h;unfold RoP;rw[hq];simp only;rw[To,Jt];exact h
   have hU3:=((hU.keep k1).keep k2).keep k3;have hM3:=((hM.keep k1 ER).keep k2 ER).keep k3 ER;have Iq:Dk w W3 b mb:=((Dk.of k1).trans (Dk.of k2)).trans (Dk.of k3)
   go_wp2
   go_loopw [] (fun wr=>∃(n:Nat) (ms:List (List Int × JV)) (x:List Int),Pd (E8 8) true ((Bd l').length+1) [] (Bd l')=Pd (E8 8) true n ms x∧x.length<n∧C3 t x∧Rg wr b o t x∧Ya wr mb ms∧(∀m∈ms,Ds m.1)∧I8 wr b∧Dk w wr b mb) (fun wr=>match wr.cell? ⟨b,o+1,none⟩ with|some (.int _ p)=>t.size-p.toNat|_=>0)
   case atStart=>
    exact⟨_,[],Bd l',rfl,Nat.lt_succ_self _,Qu,h3,hM3,(fun m hm=>by cases hm),hU3,Iq⟩
   case round=>
    obtain⟨n,ms,x,Ey,hn,hSx,hat,hMx,hBx,hUx,hkx⟩:=hrel;have UF:Calls prog 68 #[.pointer (some ⟨b,o,none⟩)] wr fun e w'=>e=.returned (.tuple #[.string (Ab ((El x).1.getD [])),.bool (El x).1.isSome])∧Rg w' b o t (El x).2∧D4 wr w' b o 2:=FT hSx ht hat
    go_wp2_with (go_at_call 68;refine UF.mono ?_)
    rintro e W4 ⟨rfl,h4,k4⟩
    obtain⟨m,rfl⟩:∃m,n=m+1:=⟨n-1,by omega⟩
    rw[Wi (E8 8) true m ms x] at Ey;have O7:Dk w W4 b mb:=hkx.trans (Dk.of k4);have Vt:=F3 hSx;rcases hx:El x with⟨o4,q4⟩;rw[hx] at h4 Ey Vt;cases o4 with
    |none=>
     go_wp2
     go_ret
     exact⟨O7,q4,Vt,h4,hRo _ _ _ (by rw[Ey];exact⟨by decide,rfl⟩)⟩
    |some nm=>
     have Zs:=PN hSx.B hx;have hM4:=hMx.keep k4 ER;have hlk:=Xl hM4 hBx Zs true;simp only[Bool.true_and,WK] at Ey;cases hl:I3 nm ms with
     |some v=>
      rw[hl] at hlk Ey;have hvm:GZ nm ms=.agg #[.int .i64 v.1,.string (Ab v.2.1),.bool v.2.2]:=by unfold GZ;rw[hl];rfl
      rw[hvm] at hlk
      go_wp2
      go_ret
      have Mk:=fun ob=>(Below.refl W4.heap.size W4).alloc (Nat.le_refl _) ob
      exact⟨O7.trans (Dk.below (Mk _)),q4,Vt,h4.below (Mk _) h4.lt,hRo _ _ _ (by rw[Ey];exact⟨by decide,rfl⟩)⟩
     |none=>
      rw[hl] at hlk Ey;have hvm:GZ nm ms=.agg #[.int .i64 0,.string ⟨#[]⟩,.bool false]:=by unfold GZ;rw[hl];rfl
      rw[hvm] at hlk;have Mk:Below W4.heap.size W4 (W4.alloc (.cells #[.int .i64 0,.string ⟨#[]⟩,.bool false] 95)):=(Below.refl W4.heap.size W4).alloc (Nat.le_refl _) _;have h5:=h4.below Mk h4.lt;have hM5:=hM4.below Mk;have hU5:=(hUx.keep k4).below Mk;have NS:=O7.trans (Dk.below (b:=b) (mb:=mb) Mk);have Ajh:=Gt Vt ht hU5 h5
      go_wp2_with (go_at_call 50;refine Ajh.mono ?_)
      rintro e W6 ⟨rfl,h6,k6⟩
      have Fg:=Bo Vt;have A1q:=F6 Fg ht (w0:=[58]) (fun x hx=>by simp at hx;omega) (by decide) h6
      go_wp2_with (go_at_call 67;refine A1q.mono ?_)
      rintro e W7 ⟨rfl,h7,k7⟩
      have hk7:=(NS.trans (Dk.of k6)).trans (Dk.of k7);cases hq7:Ao [58] (Bd q4) with
      |none=>
       rw[hq7] at h7
       go_wp2
       go_ret
       exact⟨hk7,Bd q4,Fg,h7,hRo _ _ _ (by rw[Ey];simp only[Option.isSome_none,Bool.false_eq_true,if_false,hq7];exact⟨by decide,rfl⟩)⟩
      |some r7=>
       rw[hq7] at h7;have hS7:=An Fg hq7;have hU7:=(hU5.keep k6).keep k7;have hM7:=(hM5.keep k6 ER).keep k7 ER;have A09:=Gt hS7 ht hU7 h7
       go_wp2_with (go_at_call 50;refine A09.mono ?_)
       rintro e W8 ⟨rfl,h8,k8⟩
       have hS8:=Bo hS7;have hvc:=SU hS8 ht (hU7.keep k8) h8
       go_wp2_with (go_at_call 69;refine hvc.mono ?_)
       rintro e W9 ⟨r9,h9,k9,hv9⟩
       have hk9:=(hk7.trans (Dk.of k8)).trans (Dk.of k9)
       have RZ:Pd (E8 8) true ((Bd l').length+1) [] (Bd l')=match E8 8 (Bd r7) with
         |.error e=>.error e
         |.ok (v,r2)=>match Ao [125] (Bd r2) with
          |some r3=>.ok (ms++[(nm,v)],r3)
          |none=>match Ao [44] (Bd r2) with
           |some r3=>Pd (E8 8) true m (ms++[(nm,v)]) (Bd r3)
           |none=>.error 2:=by
        rw[Ey];simp only[Option.isSome_none,Bool.false_eq_true,if_false,hq7]
        all_goals (rcases E8 8 (Bd r7) with e|⟨v,r2⟩;rfl;simp only;cases Ao [125] (Bd r2)<;>cases Ao [44] (Bd r2)<;>rfl)
       unfold Agh at hv9;cases hv:E8 8 (Bd r7) with
       |error er=>
        rw[hv] at hv9 RZ;obtain⟨he,hs9,u,rfl⟩:=hv9;unfold Nn;have hbe:(er != (0:Int))=true:=by simp[he]
        go_wp2
        go_ret
        have MU:=fun ob=>(Below.refl W9.heap.size W9).alloc (Nat.le_refl _) ob
        exact⟨hk9.trans (Dk.below (MU _)),r9,hs9,h9.below (MU _) h9.lt,hRo _ _ _ (by rw[RZ];exact⟨he,rfl⟩)⟩
       |ok x9=>
        obtain⟨v9,q9⟩:=x9;rw[hv] at hv9 RZ;obtain⟨rfl,hq9,rfl⟩:=hv9;unfold Nn;have MU:Below W9.heap.size W9 (W9.alloc (.cells #[.int .i64 v9.1,.string (Ab v9.2.1),.bool v9.2.2] 95)):=(Below.refl W9.heap.size W9).alloc (Nat.le_refl _) _;have h10:=h9.below MU h9.lt;have Aol:=((hM7.keep k8 ER).keep k9 ER).below MU;have Auz:=((hU7.keep k8).keep k9).below MU;have Ata:=hk9.trans (Dk.below (b:=b) (mb:=mb) MU);have hup:=LG Aol hBx Zs hl v9;unfold Nn at hup;have D8:=Abh Tryd.underlying68 mb;have hS9:=hS8.trans hq9;have h11:=h10.put (mb:=mb) (ob:=.map (G8 0 (ms++[(nm,v9)])).toArray (ms.length+1)) ER;have Aoq:=Auz.put (ob:=.map (G8 0 (ms++[(nm,v9)])).toArray (ms.length+1)) hmU;have hln:(ms++[(nm,v9)]).length=ms.length+1:=by simp
        rw[hln] at hup;have Am0:=Aol.put (ms':=ms++[(nm,v9)]) hln;have Aum:=Ata.trans (Dk.put (b:=b) (ob:=.map (G8 0 (ms++[(nm,v9)])).toArray (ms.length+1)));have Am8:=Gt hS9 ht Aoq h11
        go_wp2_with (go_at_call 50;refine Am8.mono ?_)
        rintro e W12 ⟨rfl,h12,k12⟩
        have XM:=Bo hS9;have Anr:=F6 XM ht (w0:=[125]) (fun x hx=>by simp at hx;omega) (by decide) h12
        go_wp2_with (go_at_call 67;refine Anr.mono ?_)
        rintro e W13 ⟨rfl,h13,k13⟩
        have Aqa:=(Aum.trans (Dk.of k12)).trans (Dk.of k13);cases QY:Ao [125] (Bd r9) with
        |some r13=>
         rw[QY] at h13
         go_wp2
         go_ret
         exact⟨Aqa,r13,An XM QY,h13,hRo _ _ _ (by rw[RZ];simp only;rw[QY];exact⟨rfl,rfl,(Am0.keep k12 ER).keep k13 ER⟩)⟩
        |none=>
         rw[QY] at h13;have Aoh:=F6 XM ht (w0:=[44]) (fun x hx=>by simp at hx;omega) (by decide) h13
         go_wp2_with (go_at_call 67;refine Aoh.mono ?_)
         rintro e W14 ⟨rfl,h14,k14⟩
         have Aov:=Aqa.trans (Dk.of k14);cases RK:Ao [44] (Bd r9) with
         |none=>
          rw[RK] at h14
          go_wp2
          go_ret
          exact⟨Aov,Bd r9,XM,h14,hRo _ _ _ (by rw[RZ];simp only;rw[QY];simp only;rw[RK];exact⟨by decide,rfl⟩)⟩
         |some r14=>
          rw[RK] at h14;have Ap7:=An XM RK;have Aoa:=((Aoq.keep k12).keep k13).keep k14;have Arq:=((Am0.keep k12 ER).keep k13 ER).keep k14 ER;have Ap1:=Gt Ap7 ht Aoa h14
          go_wp2_with (go_at_call 50;refine Ap1.mono ?_)
          rintro e W15 ⟨rfl,h15,k15⟩
          have Ayw:=Bo Ap7
          have hlr:(Bd r14).length+1<=x.length:=by
           have DB:=F3 (C3.self hSx.B);rw[hx] at DB;have g1:=(Bo (An (Bo DB) hq7));have g2:=((Bo (g1.trans hq9))).le;have g3:=Np r14;have g4:=HK RK;omega
          have hxl:=hSx.len
          go_wp2
          refine⟨⟨m,ms++[(nm,v9)],Bd r14,by rw[RZ];simp only[QY,RK],by omega,Ayw,h15,Arq.keep k15 ER,fun y hy=>?_,Aoa.keep k15,Aov.trans (Dk.of k15)⟩,?_⟩
          ·rcases List.mem_append.1 hy with hy|hy
           ·exact hBx y hy
           ·simp at hy;subst hy;exact Zs
          ·have DE:Bp t x<Bp t (Bd r14):=by unfold Bp;omega
           have hp4:Bp t (Bd r14)<=t.size:=Nat.sub_le _ _;simp only[h15.c1,hat.c1,Pu];omega
end
section
open Go.IntKind (wrap)
def Ba (c:Int):List Int->List (List Int)
 |[]=>[[]]
 |x::r=>if x=c then []::Ba c r else match Ba c r with
  |h::t=>(x::h)::t
  |[]=>[[x]]
theorem Og (c:Int)(l:List Int):Ba c l≠[]:=by
 cases l with
 |nil=>simp[Ba]
 |cons x r=>
  unfold Ba;split
  ·simp
  ·cases Ba c r<;>simp
def B4 (c:Int)(l:List Int):List Int:=l.takeWhile (fun x=>x != c)
theorem Ux (c:Int):∀(l:List Int),Ba c l=if (B4 c l).length<l.length then B4 c l::Ba c (l.drop ((B4 c l).length+1)) else [l]
 |[]=>rfl
 |x::r=>by
  by_cases h:x=c
  ·subst h;have e:B4 x (x::r)=[]:=by unfold B4;rw[List.takeWhile_cons_of_neg (by simp)]
   have e2:Ba x (x::r)=[]::Ba x r:=by
    show (if x=x then []::Ba x r else _)=_
    rw[Fa rfl]
   rw[e,Fa (by simp),e2]
   rfl
  ·have e:B4 c (x::r)=x::B4 c r:=by unfold B4;rw[List.takeWhile_cons_of_pos (by simp[h])]
   have e2:Ba c (x::r)=match Ba c r with|a::t=>(x::a)::t|[]=>[[x]]:=by
    show (if x=c then []::Ba c r else _)=_
    rw[D1 h]
   rw[e,e2,Ux c r];by_cases g:(B4 c r).length<r.length
   ·rw[Fa g,Fa (by simp;omega)]
    rfl
   ·rw[D1 g,D1 (by simp;omega)]
def EG (x:Int):Bool:=decide (48<=x)&&decide (x<=57)
def ltB (x:Int):Bool:=(decide (97<=x)&&decide (x<=122))||EG x
def Tj (l:List Int):Bool:=decide (1<=l.length)&&decide (l.length<=63) && !(l.head?==some 45) && !(l.getLast?==some 45)&&l.all (fun x=>ltB x||x==45)
def Yq (l:List Int):Int:=
 if 100<l.length then 8 else if (Ba 46 l).all Tj=false then 2 else if ((Ba 46 l).getLastD []).all EG=true then 2 else 0
def JB (l:List Int):Int:=l.foldl (fun n x=>10*n+(x-48)) 0
def Oa (l:List Int):Bool:=decide (1<=l.length)&&decide (l.length<=5) && !(l.head?==some 48)&&l.all EG
def dfl (s:Bool):Int:=if s=true then 443 else 80
def PF (s:Bool)(r:List Int):Int:=
 let nm:=B4 58 r
 if Yq nm≠0 then Yq nm else if nm.length=r.length then 0 else
  if Oa (r.drop (nm.length+1))=true∧JB (r.drop (nm.length+1))<=65535∧JB (r.drop (nm.length+1))≠dfl s then 0 else 2
def Fy (l:List Int):Int:=
 if [104,116,116,112,115,58,47,47].isPrefixOf l=true then PF true (l.drop 8)
 else if [104,116,116,112,58,47,47].isPrefixOf l=true then PF false (l.drop 7) else 2
end
section
open Go.Proofs.Tryd (prog)
open Go.IntKind (wrap)
set_option maxRecDepth 100000
abbrev Lc:FuncId:=62
theorem Lo {p:Option (List PV->Option A4)} (fu d:Nat)(a0 a1:ByteArray):Af (CP p) prog fu (d+1) Lc [.sc (.string a0),.sc (.string a1)]=(fun (call:A7)=>Aj (call 77 [.sc (.string a0),.sc (.string a1)]) fun x1 x2=>Ad x2<|Aa x1 fun x3 x4=>Ap x3 fun x5=>Ad x4<|Bi (!x5) (some (A4.mk [.sc (.string a0),.sc (.bool false)] [])) (Bl (decide (Int.toNat (↑(ByteArray.size a1):Int)<=ByteArray.size a0)&&decide (ByteArray.size a0<=ByteArray.size a0))<|Ac (ByteArray.extract a0 (Int.toNat (↑(ByteArray.size a1):Int)) (ByteArray.size a0)) fun x6=>some (A4.mk [.sc (.string x6),.sc (.bool true)] []))) (Af (CP p) prog fu d):=by kernel_rfl
abbrev Jb:FuncId:=44
theorem Pa {p:Option (List PV->Option A4)} (fu d:Nat)(a0 a1:ByteArray):Af (CP p) prog fu (d+1) Jb [.sc (.string a0),.sc (.string a1)]=(fun (call:A7)=>Aj (call 62 [.sc (.string a0),.sc (.string a1)]) fun x1 x2=>Ad x2<|Aa x1 fun x3 x4=>Ax x3 fun x5=>Aa x4 fun x6 x7=>Ap x6 fun x8=>Ad x7<|some (A4.mk [.sc (.string x5),.sc (.bool x8)] [])) (Af (CP p) prog fu d):=by kernel_rfl
abbrev Sb:FuncId:=63
theorem R2 {p:Option (List PV->Option A4)} (fu d:Nat)(a0 a1:ByteArray):Af (CP p) prog fu (d+1) Sb [.sc (.string a0),.sc (.string a1)]=(fun (call:A7)=>Aj (call 78 [.sc (.string a0),.sc (.string a1)]) fun x1 x2=>Ad x2<|Aa x1 fun x3 x4=>Aw .i64 x3 fun x5=>Ad x4<|Bi (decide (x5>=0)) (Bl (decide (0<=x5))<|Bl (decide (Int.toNat x5<=ByteArray.size a0))<|Ac (ByteArray.extract a0 0 x5.toNat) fun x6=>Ac (wrap .i64 (x5+(↑(ByteArray.size a1):Int))) fun x7=>Bl (decide (0<=x7))<|Bl (decide (Int.toNat x7<=ByteArray.size a0)&&decide (ByteArray.size a0<=ByteArray.size a0))<|Ac (ByteArray.extract a0 x7.toNat (ByteArray.size a0)) fun x8=>some (A4.mk [.sc (.string x6),.sc (.string x8),.sc (.bool true)] [])) (some (A4.mk [.sc (.string a0),.sc (.string (ByteArray.mk #[])),.sc (.bool false)] []))) (Af (CP p) prog fu d):=by kernel_rfl
abbrev Pk:FuncId:=45
theorem Y8 {p:Option (List PV->Option A4)} (fu d:Nat)(a0 a1:ByteArray):Af (CP p) prog fu (d+1) Pk [.sc (.string a0),.sc (.string a1)]=(fun (call:A7)=>Aj (call 63 [.sc (.string a0),.sc (.string a1)]) fun x1 x2=>Ad x2<|Aa x1 fun x3 x4=>Ax x3 fun x5=>Aa x4 fun x6 x7=>Ax x6 fun x8=>Aa x7 fun x9 Gp=>Ap x9 fun Pb=>Ad Gp<|some (A4.mk [.sc (.string x5),.sc (.string x8),.sc (.bool Pb)] [])) (Af (CP p) prog fu d):=by kernel_rfl
abbrev Mu:FuncId:=100
theorem Vm {p:Option (List PV->Option A4)} (fu d:Nat)(a0 a1:ByteArray):Af (CP p) prog fu (d+1) Mu [.sc (.string a0),.sc (.string a1)]=(fun (call:A7)=>Aj (call 78 [.sc (.string a0),.sc (.string a1)]) fun x1 x2=>Ad x2<|Aa x1 fun x3 x4=>Aw .i64 x3 fun x5=>Ad x4<|some (A4.mk [.sc (.int .i64 x5)] [])) (Af (CP p) prog fu d):=by kernel_rfl
abbrev I5:FuncId:=78
theorem O5 {p:Option (List PV->Option A4)} (fu d:Nat)(a0 a1:ByteArray):Af (CP p) prog fu (d+1) I5 [.sc (.string a0),.sc (.string a1)]=(fun (call:A7)=>Bi ((↑(ByteArray.size a1):Int)==0) (some (A4.mk [.sc (.int .i64 0)] [])) (Bi (Array.toList (ByteArray.data a1)==Array.toList (ByteArray.data a0)) (some (A4.mk [.sc (.int .i64 0)] [])) (Bi ((↑(ByteArray.size a1):Int)==1) (Dg ((Array.toList (ByteArray.data a1))[0]?) fun x1=>Aj (call 40 [.sc (.string a0),.sc (.int .u8 (↑(UInt8.toNat x1):Int))]) fun x2 x3=>Ad x3<|Aa x2 fun x4 x5=>Aw .i64 x4 fun x6=>Ad x5<|some (A4.mk [.sc (.int .i64 x6)] [])) (Bi (decide ((↑(ByteArray.size a1):Int)>=(↑(ByteArray.size a0):Int))) (some (A4.mk [.sc (.int .i64 (-1))] [])) (none))))) (Af (CP p) prog fu d):=by kernel_rfl
abbrev Qx:FuncId:=79
noncomputable def Dz (fu:Nat)(call:A7)(a0 a1:ByteArray)(a2 a3:Int)(nn:Nat)(y0 y1:ByteArray)(y2 y3:Int)(y4:Nat)(y5:Int)(y6:List PV):Option A4:=My CB prog fu call 79 Tryd.f79 (Is Tryd.f79) [.sc (.string a0),.sc (.string a1),.sc (.int .i64 a2),.sc (.int .i64 a3)] [.r,.r,.r,.r,.r,.r,.r,.r,.l,.l] nn ⟨lk [(0,(.sc (.string y0))),(1,(.sc (.string y1))),(2,(.sc (.int .i64 y2))),(3,(.sc (.int .i64 y3))),(9,(.view 9 1 0 y4)),(10,(.sc (.int .i64 y5)))],Kn [(9,(.ar false y6))]⟩
theorem M1 (fu:Nat)(call:A7)(a0 a1:ByteArray)(a2 a3:Int)(nn:Nat)(y0 y1:ByteArray)(y2 y3:Int)(y4:Nat)(y5:Int)(y6:List PV):Dz fu call a0 a1 a2 a3 (nn+1) y0 y1 y2 y3 y4 y5 y6=(Bi (decide (y5<y3)) (Aj (call 100 [.sc (.string y0),.sc (.string y1)]) fun Pn Oc=>Ad Oc<|Aa Pn fun N6 Qz=>Aw .i64 N6 fun M0=>Ad Qz<|Bi (decide (M0<0)) (Bl (decide (0<=y5)&&decide (y5<(↑y4:Int)))<|Bl (decide (0+Int.toNat y5*1+1<=y6.length))<|Ac (Co y6 [.sc (.string y0)] (0+Int.toNat y5*1)) fun Qv=>Ac (wrap .i64 (y5+1)) fun N8=>Bl (decide (0<=N8))<|Bl (decide (Int.toNat N8<=y4))<|Ac (Int.toNat N8-0) fun Ol=>Bl (decide (Ol*1<=Qv.length))<|some (A4.mk [.own 1 Ol (List.take (Ol*1) Qv)] [])) (Ac (wrap .i64 (M0+y2)) fun P6=>Bl (decide (0<=P6))<|Bl (decide (Int.toNat P6<=ByteArray.size y0))<|Ac (ByteArray.extract y0 0 P6.toNat) fun Sm=>Bl (decide (0<=y5)&&decide (y5<(↑y4:Int)))<|Bl (decide (0+Int.toNat y5*1+1<=y6.length))<|Ac (Co y6 [.sc (.string Sm)] (0+Int.toNat y5*1)) fun Nl=>Ac (wrap .i64 (M0+(↑(ByteArray.size y1):Int))) fun Q2=>Bl (decide (0<=Q2))<|Bl (decide (Int.toNat Q2<=ByteArray.size y0)&&decide (ByteArray.size y0<=ByteArray.size y0))<|Ac (ByteArray.extract y0 Q2.toNat (ByteArray.size y0)) fun Sp=>Ac (wrap .i64 (y5+1)) fun R9=>Dz fu call a0 a1 a2 a3 (nn) Sp (y1) (y2) (y3) (y4) R9 Nl)) (Bl (decide (0<=y5)&&decide (y5<(↑y4:Int)))<|Bl (decide (0+Int.toNat y5*1+1<=y6.length))<|Ac (Co y6 [.sc (.string y0)] (0+Int.toNat y5*1)) fun Sr=>Ac (wrap .i64 (y5+1)) fun Sy=>Bl (decide (0<=Sy))<|Bl (decide (Int.toNat Sy<=y4))<|Ac (Int.toNat Sy-0) fun Tp=>Bl (decide (Tp*1<=Sr.length))<|some (A4.mk [.own 1 Tp (List.take (Tp*1) Sr)] []))):=by kernel_rfl
theorem Qm {p:Option (List PV->Option A4)} (fu d:Nat)(a0 a1:ByteArray)(a2 a3:Int):Af (CP p) prog fu (d+1) Qx [.sc (.string a0),.sc (.string a1),.sc (.int .i64 a2),.sc (.int .i64 a3)]=(fun (call:A7)=>Bi (a3==0) (some (A4.mk [.own 1 0 []] [])) (Bi (Array.toList (ByteArray.data a1)==Array.toList (ByteArray.data (ByteArray.mk #[]))) (Aj (call 98 [.sc (.string a0),.sc (.int .i64 a3)]) fun x1 x2=>Ad x2<|Aa x1 fun x3 x4=>FM 1 x3 fun x5 x6=>Ad x4<|Bl (decide (x5*1<=x6.length))<|some (A4.mk [.own 1 x5 (List.take (x5*1) x6)] [])) (Bi (decide (a3<0)) (Aj (call 99 [.sc (.string a0),.sc (.string a1)]) fun x7 x8=>Ad x8<|Aa x7 fun x9 Gp=>Aw .i64 x9 fun Pb=>Ad Gp<|Ac (wrap .i64 (Pb+1)) fun Pp=>Ac (wrap .i64 ((↑(ByteArray.size a0):Int)+1)) fun Ga=>Ac (if Ga<Pp then Ga else Pp) fun L4=>Bl (decide (0<=L4)&&decide (L4<=L4)&&decide (L4*16<=1099511627776)&&decide (L4<=1099511627776))<|Ac (wrap .i64 (L4-1)) fun Pt=>Dz fu call a0 a1 a2 a3 (fu) (a0) (a1) (a2) Pt L4.toNat 0 (Mg L4.toNat [.sc (.string (ByteArray.mk #[]))])) (Ac (wrap .i64 ((↑(ByteArray.size a0):Int)+1)) fun M7=>Ac (if M7<a3 then M7 else a3) fun Lw=>Bl (decide (0<=Lw)&&decide (Lw<=Lw)&&decide (Lw*16<=1099511627776)&&decide (Lw<=1099511627776))<|Ac (wrap .i64 (Lw-1)) fun O6=>Dz fu call a0 a1 a2 a3 (fu) (a0) (a1) (a2) O6 Lw.toNat 0 (Mg Lw.toNat [.sc (.string (ByteArray.mk #[]))]))))) (Af (CP p) prog fu d):=by kernel_rfl
abbrev Mx:FuncId:=64
theorem U3 {p:Option (List PV->Option A4)} (fu d:Nat)(a0 a1:ByteArray):Af (CP p) prog fu (d+1) Mx [.sc (.string a0),.sc (.string a1)]=(fun (call:A7)=>Aj (call 79 [.sc (.string a0),.sc (.string a1),.sc (.int .i64 0),.sc (.int .i64 (-1))]) fun x1 x2=>Ad x2<|Aa x1 fun x3 x4=>FM 1 x3 fun x5 x6=>Ad x4<|Bl (decide (x5*1<=x6.length))<|some (A4.mk [.own 1 x5 (List.take (x5*1) x6)] [])) (Af (CP p) prog fu d):=by kernel_rfl
abbrev Kv:FuncId:=65
noncomputable def A9 (fu:Nat)(call:A7)(a0:ByteArray)(nn:Nat)(y0:ByteArray)(y1 y2:Int):Option A4:=My CB prog fu call 65 Tryd.f65 (Is Tryd.f65) [.sc (.string a0)] [.r,.r,.l,.r,.l] nn ⟨lk [(0,(.sc (.string y0))),(16,(.sc (.int .i64 y1))),(17,(.sc (.int .i64 y2)))],Kn []⟩
theorem Ii (fu:Nat)(call:A7)(a0:ByteArray)(nn:Nat)(y0:ByteArray)(y1 y2:Int):A9 fu call a0 (nn+1) y0 y1 y2=(Bi (decide (y2<y1)) (Bl (decide (0<=y2))<|Dg ((Array.toList (ByteArray.data y0))[Int.toNat y2]?) fun x1=>Bi (decide (97<=(↑(UInt8.toNat x1):Int))) (Bi (decide ((↑(UInt8.toNat x1):Int)<=122)) (Bi ((↑(UInt8.toNat x1):Int)==45) (Bi (decide (y2>0)) (Ac (wrap .i64 ((↑(ByteArray.size y0):Int)-1)) fun x2=>Ac (wrap .i64 (y2+1)) fun x3=>A9 fu call a0 (nn) (y0) (y1) x3) (Ac (wrap .i64 (y2+1)) fun x4=>A9 fu call a0 (nn) (y0) (y1) x4)) (Ac (wrap .i64 (y2+1)) fun x5=>A9 fu call a0 (nn) (y0) (y1) x5)) (Bi (decide (48<=(↑(UInt8.toNat x1):Int))) (Bi ((↑(UInt8.toNat x1):Int)==45) (Bi (decide (y2>0)) (Ac (wrap .i64 ((↑(ByteArray.size y0):Int)-1)) fun x6=>Bi (!decide ((↑(UInt8.toNat x1):Int)<=57)) (Bi (!decide (y2<x6)) (some (A4.mk [.sc (.bool false)] [])) (Ac (wrap .i64 (y2+1)) fun x7=>A9 fu call a0 (nn) (y0) (y1) x7)) (Ac (wrap .i64 (y2+1)) fun x8=>A9 fu call a0 (nn) (y0) (y1) x8)) (Bi (!decide ((↑(UInt8.toNat x1):Int)<=57)) (some (A4.mk [.sc (.bool false)] [])) (Ac (wrap .i64 (y2+1)) fun x9=>A9 fu call a0 (nn) (y0) (y1) x9))) (Bi (!decide ((↑(UInt8.toNat x1):Int)<=57)) (some (A4.mk [.sc (.bool false)] [])) (Ac (wrap .i64 (y2+1)) fun Gp=>A9 fu call a0 (nn) (y0) (y1) Gp))) (Bi ((↑(UInt8.toNat x1):Int)==45) (Bi (decide (y2>0)) (Ac (wrap .i64 ((↑(ByteArray.size y0):Int)-1)) fun Pb=>Bi (!decide (y2<Pb)) (some (A4.mk [.sc (.bool false)] [])) (Ac (wrap .i64 (y2+1)) fun Pp=>A9 fu call a0 (nn) (y0) (y1) Pp)) (some (A4.mk [.sc (.bool false)] []))) (some (A4.mk [.sc (.bool false)] []))))) (Bi (decide (48<=(↑(UInt8.toNat x1):Int))) (Bi ((↑(UInt8.toNat x1):Int)==45) (Bi (decide (y2>0)) (Ac (wrap .i64 ((↑(ByteArray.size y0):Int)-1)) fun Ga=>Bi (!decide ((↑(UInt8.toNat x1):Int)<=57)) (Bi (!decide (y2<Ga)) (some (A4.mk [.sc (.bool false)] [])) (Ac (wrap .i64 (y2+1)) fun L4=>A9 fu call a0 (nn) (y0) (y1) L4)) (Ac (wrap .i64 (y2+1)) fun Pt=>A9 fu call a0 (nn) (y0) (y1) Pt)) (Bi (!decide ((↑(UInt8.toNat x1):Int)<=57)) (some (A4.mk [.sc (.bool false)] [])) (Ac (wrap .i64 (y2+1)) fun M7=>A9 fu call a0 (nn) (y0) (y1) M7))) (Bi (!decide ((↑(UInt8.toNat x1):Int)<=57)) (some (A4.mk [.sc (.bool false)] [])) (Ac (wrap .i64 (y2+1)) fun Lw=>A9 fu call a0 (nn) (y0) (y1) Lw))) (Bi ((↑(UInt8.toNat x1):Int)==45) (Bi (decide (y2>0)) (Ac (wrap .i64 ((↑(ByteArray.size y0):Int)-1)) fun O6=>Bi (!decide (y2<O6)) (some (A4.mk [.sc (.bool false)] [])) (Ac (wrap .i64 (y2+1)) fun Pn=>A9 fu call a0 (nn) (y0) (y1) Pn)) (some (A4.mk [.sc (.bool false)] []))) (some (A4.mk [.sc (.bool false)] []))))) (some (A4.mk [.sc (.bool true)] []))):=by kernel_rfl
theorem Rw {p:Option (List PV->Option A4)} (fu d:Nat)(a0:ByteArray):Af (CP p) prog fu (d+1) Kv [.sc (.string a0)]=(fun (call:A7)=>Bi (decide ((↑(ByteArray.size a0):Int)<1)) (some (A4.mk [.sc (.bool false)] [])) (Bi (decide ((↑(ByteArray.size a0):Int)>63)) (some (A4.mk [.sc (.bool false)] [])) (A9 fu call a0 (fu) (a0) ((↑(ByteArray.size a0):Int)) 0))) (Af (CP p) prog fu d):=by kernel_rfl
abbrev Mt:FuncId:=46
noncomputable def F8 (fu:Nat)(call:A7)(a0:ByteArray)(nn y0 y1:Nat)(y2 y3:Int)(y4:List PV):Option A4:=My CB prog fu call 46 Tryd.f46 (Is Tryd.f46) [.sc (.string a0)] [.r,.r,.r,.l,.r,.l] nn ⟨lk [(3,(.view 3 1 0 y0)),(11,(.view 3 1 0 y1)),(12,(.sc (.int .i64 y2))),(13,(.sc (.int .i64 y3)))],Kn [(3,(.ar false y4))]⟩
theorem J0 (fu:Nat)(call:A7)(a0:ByteArray)(nn y0 y1:Nat)(y2 y3:Int)(y4:List PV):F8 fu call a0 (nn+1) y0 y1 y2 y3 y4=(Bi (decide (y3<y2)) (Bl (decide (0<=y3)&&decide (y3<(↑y1:Int)))<|Ax (List.getD y4 (0+Int.toNat y3*1) .top) fun x7=>Aj (call 65 [.sc (.string x7)]) fun x8 x9=>Ad x9<|Aa x8 fun Gp Pb=>Ap Gp fun Pp=>Ad Pb<|Bi (!Pp) (some (A4.mk [.sc (.int .i64 2)] [])) (Ac (wrap .i64 (y3+1)) fun Ga=>F8 fu call a0 (nn) (y0) (y1) (y2) Ga (y4))) (Ac (wrap .i64 ((↑y0:Int)-1)) fun L4=>Bl (decide (0<=L4)&&decide (L4<(↑y0:Int)))<|Ax (List.getD y4 (0+Int.toNat L4*1) .top) fun Pt=>Aj (call 66 [.sc (.string Pt),.sc (.string (ByteArray.mk #[48,49,50,51,52,53,54,55,56,57]))]) fun M7 Lw=>Ad Lw<|Aa M7 fun O6 Pn=>Ax O6 fun Oc=>Ad Pn<|Bi (Array.toList (ByteArray.data Oc)==Array.toList (ByteArray.data (ByteArray.mk #[]))) (some (A4.mk [.sc (.int .i64 2)] [])) (some (A4.mk [.sc (.int .i64 0)] [])))):=by kernel_rfl
theorem U4 {p:Option (List PV->Option A4)} (fu d:Nat)(a0:ByteArray):Af (CP p) prog fu (d+1) Mt [.sc (.string a0)]=(fun (call:A7)=>Bi (decide ((↑(ByteArray.size a0):Int)>100)) (some (A4.mk [.sc (.int .i64 8)] [])) (Aj (call 64 [.sc (.string a0),.sc (.string (ByteArray.mk #[46]))]) fun x1 x2=>Ad x2<|Aa x1 fun x3 x4=>FM 1 x3 fun x5 x6=>Ad x4<|F8 fu call a0 (fu) x5 x5 ((↑x5:Int)) 0 x6)) (Af (CP p) prog fu d):=by kernel_rfl
abbrev Ih:FuncId:=47
theorem N9 {p:Option (List PV->Option A4)} (fu d:Nat)(a0:Bool):Af (CP p) prog fu (d+1) Ih [.sc (.bool a0)]=(fun (call:A7)=>Bi (a0) (some (A4.mk [.sc (.int .i64 443)] [])) (some (A4.mk [.sc (.int .i64 80)] []))) (Af (CP p) prog fu d):=by kernel_rfl
abbrev Kd:FuncId:=48
noncomputable def Eo (fu:Nat)(call:A7)(a0:ByteArray)(nn:Nat)(y0:ByteArray)(y1 y2 y3:Int):Option A4:=My CB prog fu call 48 Tryd.f48 (Is Tryd.f48) [.sc (.string a0)] [.r,.r,.r,.l,.r,.l] nn ⟨lk [(0,(.sc (.string y0))),(4,(.sc (.int .i64 y1))),(21,(.sc (.int .i64 y2))),(22,(.sc (.int .i64 y3)))],Kn []⟩
theorem Hp (fu:Nat)(call:A7)(a0:ByteArray)(nn:Nat)(y0:ByteArray)(y1 y2 y3:Int):Eo fu call a0 (nn+1) y0 y1 y2 y3=(Bi (decide (y3<y2)) (Bl (decide (0<=y3))<|Dg ((Array.toList (ByteArray.data y0))[Int.toNat y3]?) fun x2=>Bi (decide ((↑(UInt8.toNat x2):Int)<48)) (some (A4.mk [.sc (.int .i64 0),.sc (.bool false)] [])) (Bi (decide ((↑(UInt8.toNat x2):Int)>57)) (some (A4.mk [.sc (.int .i64 0),.sc (.bool false)] [])) (Ac (wrap .i64 (10*y1)) fun x3=>Ac (wrap .u8 ((↑(UInt8.toNat x2):Int)-48)) fun x4=>Ac (wrap .i64 x4) fun x5=>Ac (wrap .i64 (x3+x5)) fun x6=>Ac (wrap .i64 (y3+1)) fun x7=>Eo fu call a0 (nn) (y0) x6 (y2) x7))) (some (A4.mk [.sc (.int .i64 y1),.sc (.bool (decide (y1<=65535)))] []))):=by kernel_rfl
theorem Qf {p:Option (List PV->Option A4)} (fu d:Nat)(a0:ByteArray):Af (CP p) prog fu (d+1) Kd [.sc (.string a0)]=(fun (call:A7)=>Bi (decide ((↑(ByteArray.size a0):Int)<1)) (some (A4.mk [.sc (.int .i64 0),.sc (.bool false)] [])) (Bi (decide ((↑(ByteArray.size a0):Int)>5)) (some (A4.mk [.sc (.int .i64 0),.sc (.bool false)] [])) (Dg ((Array.toList (ByteArray.data a0))[0]?) fun x1=>Bi ((↑(UInt8.toNat x1):Int)==48) (some (A4.mk [.sc (.int .i64 0),.sc (.bool false)] [])) (Eo fu call a0 (fu) (a0) 0 ((↑(ByteArray.size a0):Int)) 0)))) (Af (CP p) prog fu d):=by kernel_rfl
abbrev N4:FuncId:=32
theorem V4 {p:Option (List PV->Option A4)} (fu d:Nat)(a0:ByteArray):Af (CP p) prog fu (d+1) N4 [.sc (.string a0)]=(fun (call:A7)=>Aj (call 44 [.sc (.string a0),.sc (.string (ByteArray.mk #[104,116,116,112,115,58,47,47]))]) fun x1 x2=>Ad x2<|Aa x1 fun x3 x4=>Ax x3 fun x5=>Aa x4 fun x6 x7=>Ap x6 fun x8=>Ad x7<|Bi (!x8) (Aj (call 44 [.sc (.string a0),.sc (.string (ByteArray.mk #[104,116,116,112,58,47,47]))]) fun x9 Gp=>Ad Gp<|Aa x9 fun Pb Pp=>Ax Pb fun Ga=>Aa Pp fun L4 Pt=>Ap L4 fun M7=>Ad Pt<|Bi (!M7) (some (A4.mk [.agg [.sc (.bool false),.sc (.string (ByteArray.mk #[])),.sc (.int .i64 0)],.sc (.int .i64 2)] [])) (Aj (call 45 [.sc (.string Ga),.sc (.string (ByteArray.mk #[58]))]) fun Lw O6=>Ad O6<|Aa Lw fun Pn Oc=>Ax Pn fun N6=>Aa Oc fun Qz M0=>Ax Qz fun Qv=>Aa M0 fun N8 Ol=>Ap N8 fun P6=>Ad Ol<|Aj (call 46 [.sc (.string N6)]) fun Sm Nl=>Ad Nl<|Aa Sm fun Q2 Sp=>Aw .i64 Q2 fun R9=>Ad Sp<|Bi (R9 != 0) (some (A4.mk [.agg [.sc (.bool false),.sc (.string (ByteArray.mk #[])),.sc (.int .i64 0)],.sc (.int .i64 R9)] [])) (Aj (call 47 [.sc (.bool x8)]) fun Sr Sy=>Ad Sy<|Aa Sr fun Tp Ug=>Aw .i64 Tp fun Vs=>Ad Ug<|Bi P6 (Aj (call 48 [.sc (.string Qv)]) fun Wc Ql=>Ad Ql<|Aa Wc fun BH BU=>Aw .i64 BH fun Qy=>Aa BU fun Pq Zb=>Ap Pq fun Y5=>Ad Zb<|Bi (!Y5) (some (A4.mk [.agg [.sc (.bool false),.sc (.string (ByteArray.mk #[])),.sc (.int .i64 0)],.sc (.int .i64 2)] [])) (Bi (Qy==Vs) (some (A4.mk [.agg [.sc (.bool false),.sc (.string (ByteArray.mk #[])),.sc (.int .i64 0)],.sc (.int .i64 2)] [])) (some (A4.mk [.agg [.sc (.bool x8),.sc (.string N6),.sc (.int .i64 Qy)],.sc (.int .i64 0)] [])))) (some (A4.mk [.agg [.sc (.bool x8),.sc (.string N6),.sc (.int .i64 Vs)],.sc (.int .i64 0)] []))))) (Aj (call 45 [.sc (.string x5),.sc (.string (ByteArray.mk #[58]))]) fun DD AA=>Ad AA<|Aa DD fun DH Zm=>Ax DH fun Y2=>Aa Zm fun Z1 AC=>Ax Z1 fun EV=>Aa AC fun DV NQ=>Ap DV fun MC=>Ad NQ<|Aj (call 46 [.sc (.string Y2)]) fun KE KM=>Ad KM<|Aa KE fun NW LT=>Aw .i64 NW fun MR=>Ad LT<|Bi (MR != 0) (some (A4.mk [.agg [.sc (.bool false),.sc (.string (ByteArray.mk #[])),.sc (.int .i64 0)],.sc (.int .i64 MR)] [])) (Aj (call 47 [.sc (.bool x8)]) fun UM x63=>Ad x63<|Aa UM fun ZH UA=>Aw .i64 ZH fun ZQ=>Ad UA<|Bi MC (Aj (call 48 [.sc (.string EV)]) fun UJ YZ=>Ad YZ<|Aa UJ fun x69 UO=>Aw .i64 x69 fun UE=>Aa UO fun QN UK=>Ap QN fun UH=>Ad UK<|Bi (!UH) (some (A4.mk [.agg [.sc (.bool false),.sc (.string (ByteArray.mk #[])),.sc (.int .i64 0)],.sc (.int .i64 2)] [])) (Bi (UE==ZQ) (some (A4.mk [.agg [.sc (.bool false),.sc (.string (ByteArray.mk #[])),.sc (.int .i64 0)],.sc (.int .i64 2)] [])) (some (A4.mk [.agg [.sc (.bool x8),.sc (.string Y2),.sc (.int .i64 UE)],.sc (.int .i64 0)] [])))) (some (A4.mk [.agg [.sc (.bool x8),.sc (.string Y2),.sc (.int .i64 ZQ)],.sc (.int .i64 0)] []))))) (Af (CP p) prog fu d):=by kernel_rfl
abbrev Gx:FuncId:=15
noncomputable def B8 (fu:Nat)(call:A7)(a0:ByteArray)(nn:Nat)(y0:ByteArray)(y1:Nat)(y2:List PV):Option A4:=My CB prog fu call 15 Tryd.f15 (Is Tryd.f15) [.sc (.string a0)] [.r,.r,.r,.l,.l] nn ⟨lk [(0,(.sc (.string y0))),(4,(.view 4 1 0 y1))],Kn [(4,(.ar false y2))]⟩
noncomputable def B6 (fu:Nat)(call:A7)(a0:ByteArray)(m0 nn:Nat)(y0:ByteArray)(y1:Nat)(y2 y3:Int)(y4 y5:Int)(y6:List PV):Option A4:=My CB prog fu call 15 Tryd.f15 (Is Tryd.f15) [.sc (.string a0)] [.r,.r,.r,.l,.l,.i m0,.r,.l,.r,.r,.l,.r,.l] nn ⟨lk [(0,(.sc (.string y0))),(4,(.view 4 1 0 y1)),(5,(.sc (.int .i64 y2))),(6,(.sc (.int .u32 y3))),(28,(.sc (.int .i64 y4))),(29,(.sc (.int .i64 y5)))],Kn [(4,(.ar false y6))]⟩
noncomputable def B9 (fu:Nat)(call:A7)(a0:ByteArray)(m0 nn:Nat)(y0:ByteArray)(y1:Nat)(y2:Int)(y3 y4:Nat)(y5 y6:Int)(y7 y8:List PV):Option A4:=My CB prog fu call 15 Tryd.f15 (Is Tryd.f15) [.sc (.string a0)] [.r,.r,.r,.l,.l,.i m0,.r,.l,.r,.r,.r,.r,.l,.r,.l] nn ⟨lk [(0,(.sc (.string y0))),(4,(.view 4 1 0 y1)),(5,(.sc (.int .i64 y2))),(9,(.ptr 9 0)),(58,(.view 9 1 y3 y4)),(59,(.sc (.int .i64 y5))),(60,(.sc (.int .i64 y6)))],Kn [(4,(.ar false y7)),(9,(.ar false y8))]⟩
theorem Fw (fu:Nat)(call:A7)(a0:ByteArray)(nn:Nat)(y0:ByteArray)(y1:Nat)(y2:List PV):B8 fu call a0 (nn+1) y0 y1 y2=(Bi (decide ((↑(ByteArray.size y0):Int)>0)) (Ac (if (↑(ByteArray.size y0):Int)<4 then (↑(ByteArray.size y0):Int) else 4) fun x5=>B6 fu call a0 nn (fu) (y0) (y1) x5 0 x5 0 (y2)) (Bl (decide (y1*1<=y2.length))<|some (A4.mk [.own 1 y1 (List.take (y1*1) y2),.sc (.int .i64 0)] []))):=by kernel_rfl
theorem F0 (fu:Nat)(call:A7)(a0:ByteArray)(m0 nn:Nat)(y0:ByteArray)(y1:Nat)(y2 y3:Int)(y4 y5:Int)(y6:List PV):B6 fu call a0 m0 (nn+1) y0 y1 y2 y3 y4 y5 y6=(Bi (decide (y5<y4)) (Bl (decide (0<=y5))<|Dg ((Array.toList (ByteArray.data y0))[Int.toNat y5]?) fun x6=>Aj (call 27 [.sc (.string (ByteArray.mk #[65,66,67,68,69,70,71,72,73,74,75,76,77,78,79,80,81,82,83,84,85,86,87,88,89,90,97,98,99,100,101,102,103,104,105,106,107,108,109,110,111,112,113,114,115,116,117,118,119,120,121,122,48,49,50,51,52,53,54,55,56,57,45,95])),.sc (.int .u8 (↑(UInt8.toNat x6):Int))]) fun x7 x8=>Ad x8<|Aa x7 fun x9 Gp=>Aw .i64 x9 fun Pb=>Ad Gp<|Bi (decide (Pb<0)) (some (A4.mk [.own 1 0 [],.sc (.int .i64 2)] [])) (Ac (wrap .u32 Pb) fun Pp=>Ac (wrap .i64 (6*y5)) fun Ga=>Ac (wrap .i64 (18-Ga)) fun L4=>Bl (decide (0<=L4))<|Ac (Se .u32 Pp L4) fun Pt=>Ac (ior .u32 y3 Pt) fun M7=>Ac (wrap .i64 (y5+1)) fun Lw=>B6 fu call a0 m0 (nn) (y0) (y1) (y2) M7 (y4) Lw (y6))) (Ac (WV .u32 y3 16) fun O6=>Ac (wrap .u8 O6) fun Pn=>Ac (WV .u32 y3 8) fun Oc=>Ac (wrap .u8 Oc) fun N6=>Ac (wrap .u8 y3) fun Qz=>Ac (wrap .i64 (y2-1)) fun M0=>Bl (decide (0<=M0))<|Bl (decide (Int.toNat M0<=3)&&true)<|Ac (0+Int.toNat M0*1) fun Qv=>Ac (3-Int.toNat M0) fun N8=>B9 fu call a0 m0 (fu) (y0) (y1) (y2) Qv N8 ((↑N8:Int)) 0 (y6) ([.sc (.int .u8 Pn),.sc (.int .u8 N6),.sc (.int .u8 Qz)]))):=by kernel_rfl
theorem Fv (fu:Nat)(call:A7)(a0:ByteArray)(m0 nn:Nat)(y0:ByteArray)(y1:Nat)(y2:Int)(y3 y4:Nat)(y5 y6:Int)(y7 y8:List PV):B9 fu call a0 m0 (nn+1) y0 y1 y2 y3 y4 y5 y6 y7 y8=(Bi (decide (y6<y5)) (Bl (decide (0<=y6)&&decide (y6<(↑y4:Int)))<|Aw .u8 (List.getD y8 (y3+Int.toNat y6*1) .top) fun Ol=>Bi (Ol != 0) (some (A4.mk [.own 1 0 [],.sc (.int .i64 2)] [])) (Ac (wrap .i64 (y6+1)) fun P6=>B9 fu call a0 m0 (nn) (y0) (y1) (y2) (y3) (y4) (y5) P6 (y7) (y8))) (Ac (wrap .i64 (y2-1)) fun Sm=>Bl (decide (3<=y8.length)&&true)<|Bl (decide (0<=Sm))<|Bl (decide (Int.toNat Sm<=3))<|Ac (Int.toNat Sm-0) fun Nl=>Bl (decide (0+Nl*1<=y8.length))<|Bl (decide (y1*1<=y7.length)&&decide (List.length (List.take (Nl*1) (List.drop 0 y8))=Nl*1)&&decide ((y1+Nl)*1<=1099511627776)&&decide (y1+Nl<=1099511627776))<|Ac (y1+Nl) fun Q2=>Ac (List.take (y1*1) y7++List.take (Nl*1) (List.drop 0 y8)) fun Sp=>Bl (decide (0<=y2))<|Bl (decide (Int.toNat y2<=ByteArray.size y0)&&decide (ByteArray.size y0<=ByteArray.size y0))<|Ac (ByteArray.extract y0 y2.toNat (ByteArray.size y0)) fun R9=>B8 fu call a0 (m0) R9 Q2 Sp)):=by kernel_rfl
theorem Li {p:Option (List PV->Option A4)} (fu d:Nat)(a0:ByteArray):Af (CP p) prog fu (d+1) Gx [.sc (.string a0)]=(fun (call:A7)=>Ac (Int.tmod (↑(ByteArray.size a0):Int) 4) fun x1=>Bi (x1==1) (some (A4.mk [.own 1 0 [],.sc (.int .i64 2)] [])) (Ac (wrap .i64 (Int.tdiv (↑(ByteArray.size a0):Int) 4)) fun x2=>Ac (wrap .i64 (x2*3)) fun x3=>Ac (wrap .i64 (x3+2)) fun x4=>Bl (decide (0<=x4)&&decide (x4*1<=1099511627776)&&decide (x4<=1099511627776))<|B8 fu call a0 (fu) (a0) 0 ([]))) (Af (CP p) prog fu d):=by kernel_rfl
end
end Go.Proofs.YtodnjibebeghjaaDoor.Pv
