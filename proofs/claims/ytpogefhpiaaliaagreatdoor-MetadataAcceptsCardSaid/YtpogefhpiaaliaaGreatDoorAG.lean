/-
  The proof of MetadataAccepts, part 7.
-/
import Derived.Test.YtpogefhpiaaliaaGreatDoorAF
import Derived.Test.YtpogefhpiaaliaaGreatDoorRows
import Derived.Lib.BytesEntry
import Derived.Lib.Bytealg
import Derived.Lib.Walk
import Derived.WalkKit
import Derived.WalkMore
import Derived.Shelf.Unicode.ValidAny
import Derived.Lib.LaidU8T
set_option linter.unusedSimpArgs false
set_option linter.unusedVariables false
namespace Go.Proofs.YtpogefhpiaaliaaGreatDoor.Pv
open Go.IntKind (wrap)
open Go.Proofs.Tryz (prog)
set_option maxRecDepth 1000000
noncomputable section
section
open Go Go.RowKit
abbrev Aso:Code:=sA (sB (sR (sL (sR (sR (sR WL))))))
theorem Aus:∃o1 o2:Oper,Aso=.seq (.region 5 #[o1] false) (.region 6 #[o2] false)/\(o1.op=.assign (.tmp 30)/\o1.dst=some 11/\o1.guard=none)/\(o2.op=.assign (.tmp 31)/\o2.dst=some 12/\o2.guard=none):=
 ⟨_,_,rfl,⟨rfl,rfl,rfl⟩,⟨rfl,rfl,rfl⟩⟩
theorem Ap0{F:Fence}{n:Nat}{P:Program}{o:Oper}{x:Operand}{a:Act}{w:World}{next:Act->World->Prop}{Q:Exit->Act->World->Prop}(hF:∀f,F.fn f)(ho:o.op=.assign x)(h:next (a.put o.dst (a.eval x)) w):o.wpIn F n P a w next Q:=by
 refine⟨fun f _=>hF f,?_⟩;have e:o.semAt F.round a.eval=execOp a.eval o:=Oper.semAt_eq _ _ _ (by intro c hc;rw[ho] at hc;cases hc)
 rw[e]
 have r:(execOp a.eval o).run P w=.ok (.value (a.eval x)) w:=by
  unfold execOp;rw[ho];simp
 rw[r];exact h
theorem Alp{F:Fence}{n:Nat}{P:Program}{o:Oper}{x:Operand}{id:Nat}{a:Act}{w:World}{Q:Exit->Act->World->Prop}(hF:∀f,F.fn f)(ho:o.op=.assign x)(hg:o.guard=none)(h:Q .normal (a.put o.dst (a.eval x)) w):(Code.region id #[o] false).wpIn F n P Q a w:=by refine wpIn_region ?_;show wpOpsIn F n P #[o] Q [0] a w;unfold wpOpsIn;simp only[List.getElem?_toArray,List.getElem?_cons_zero,Region.wanted,hg,if_true];exact Ap0 hF ho h
theorem Gg{a:Act}{i j:Nat}{v:Value}(h:i≠j):(a.put (some i) v).tmps.getD j undef=a.tmps.getD j undef:=by show (a.tmps.setIfInBounds i v).getD j undef=_;simp[Array.getD_eq_getD_getElem?,Array.getElem?_setIfInBounds_ne h]
theorem IH{a:Act}{i:Nat}{v:Value}(h:i<a.tmps.size):(a.put (some i) v).tmps.getD i undef=v:=by show (a.tmps.setIfInBounds i v).getD i undef=_;simp[Array.getD_eq_getD_getElem?,h]
def sgA(a:Act)(args:Array Value):Act:=
 let r:Act:={ tmps:=((#[30,31]:Array Tmp).zip args).foldl (fun t (p,v)=>t.setIfInBounds p v) a.tmps,defers:=[] }
 let r1:=r.put (some 11) (r.eval (.tmp 30))
 r1.put (some 12) (r1.eval (.tmp 31))
theorem Auv{a:Act}{x y:Value}(hs:a.tmps.size=48):(sgA a #[x,y]).defers=[]/\(sgA a #[x,y]).tmps.size=48/\(sgA a #[x,y]).tmps.getD 5 undef=a.tmps.getD 5 undef/\(sgA a #[x,y]).tmps.getD 6 undef=a.tmps.getD 6 undef/\(sgA a #[x,y]).tmps.getD 10 undef=a.tmps.getD 10 undef /\
  (sgA a #[x,y]).tmps.getD 11 undef=x/\(sgA a #[x,y]).tmps.getD 12 undef=y:=by
 obtain⟨b,hb⟩:∃b:Act,({ tmps:=a.tmps,defers:=[] }:Act)=b:=⟨_,rfl⟩
 have TY:b.tmps.size=48:=by rw[<-hb];exact hs
 have e:sgA a #[x,y]=(((b.put (some 30) x).put (some 31) y).put (some 11) (((b.put (some 30) x).put (some 31) y).eval (.tmp 30))).put (some 12) ((((b.put (some 30) x).put (some 31) y).put (some 11) (((b.put (some 30) x).put (some 31) y).eval (.tmp 30))).eval (.tmp 31)):=by
  rw[<-hb];have z:((#[30,31]:Array Tmp).zip #[x,y]) = #[(30,x),(31,y)]:=by simp
  unfold sgA;rw[z];simp[Act.put]
 have ev:∀(c:Act) (t:Nat),c.eval (.tmp t)=c.tmps.getD t undef:=fun c t=>rfl;have e30:((b.put (some 30) x).put (some 31) y).eval (.tmp 30)=x:=by rw[ev,Gg (by decide),IH (by omega)]
 rw[e,e30];have e31:(((b.put (some 30) x).put (some 31) y).put (some 11) x).eval (.tmp 31)=y:=by rw[ev,Gg (by decide),IH (by rw[I1];omega)]
 rw[e31];have hd:b.defers=[]:=by rw[<-hb]
 have ht:b.tmps=a.tmps:=by rw[<-hb]
 refine⟨by simp only[Ln,hd],by simp only[I1,TY],?_,?_,?_,?_,?_⟩
 ·rw[Gg (by decide),Gg (by decide),Gg (by decide),Gg (by decide),ht]
 ·rw[Gg (by decide),Gg (by decide),Gg (by decide),Gg (by decide),ht]
 ·rw[Gg (by decide),Gg (by decide),Gg (by decide),Gg (by decide),ht]
 ·rw[Gg (by decide),IH (by simp only[I1];omega)]
 ·rw[IH (by simp only[I1];omega)]
theorem Axy{w w4 w5:World}{Y:Nat->Prop}{seed leaf:Int}{h:Nat}{c:Ab}{n:Nat}{a4 a5:Act}{b5 o5 b6 o6 b8 o8 b10 o10 e0:Nat}{chv:Value}(hh:h<=4)(Zx:0<=leaf)(NK:leaf<((2 ^ h:Nat):Int))(hp:A71 w w4 Y seed h leaf c n a4 b5 o5 b6 o6 b8 o8 b10 o10 e0 chv)(K9:a4.tmps.size=48)(hw5:w5=(w4.alloc (.cells #[.int .u64 seed] 37)).alloc (.cells #[.int .i64 h] 3))(WZ:a5=a4.put (some 29) (.func (.func 113) #[] #[.pointer (some ⟨w4.heap.size+1,0,none⟩),.pointer (some ⟨w4.heap.size,0,none⟩)])){K:Act->World->Prop}{Q:Exit->Act->World->Prop}(hK:∀Z B,OU w4 (w4.heap.size+2) seed leaf h b10 o10 e0 chv Z (List.range h) B->B.heap[w4.heap.size+2]?=some (.deferred (some []))->K { a5 with defers:={ target:=.collected (w4.heap.size+2),args:= #[] }::a5.defers } B):
  (Code.block 0 (.rangeFunc (.tmp 29) #[30,31] Aso Akq)).wpIn Fence.wide 0 prog (Exit.then K Q) a5 w5:=by
 have BF:w5.heap.size=w4.heap.size+2:=by rw[hw5,World.size_alloc,World.size_alloc]
 have hold:∀b,b<w4.heap.size->w5.heap[b]?=w4.heap[b]?:=fun b hb=>by
  rw[hw5];exact (Below.heap_alloc _ _ _ (by simp;omega)).trans (Below.heap_alloc _ _ _ hb)
 have hB1:w5.heap[w4.heap.size+1]?=some (.cells #[.int .i64 h] 3):=by
  rw[hw5];have:=World.alloc_heap_new (w4.alloc (.cells #[.int .u64 seed] 37)) (.cells #[.int .i64 h] 3);rwa [World.size_alloc] at this
 have hB0:w5.heap[w4.heap.size]?=some (.cells #[.int .u64 seed] 37):=by
  rw[hw5];exact (Below.heap_alloc _ _ _ (by simp)).trans (World.alloc_heap_new w4 _)
 have A2n:a5.tmps.size=48:=by rw[WZ,I1];exact K9
 have g5:a5.tmps.getD 5 undef=.pointer (some ⟨b5,o5,none⟩):=by rw[WZ,Gg (by decide)];exact hp.t5
 have g6:a5.tmps.getD 6 undef=.pointer (some ⟨b6,o6,none⟩):=by rw[WZ,Gg (by decide)];exact hp.t6
 have g10:a5.tmps.getD 10 undef=.pointer (some ⟨b10,o10,none⟩):=by rw[WZ,Gg (by decide)];exact hp.t10
 have g29:a5.eval (.tmp 29)=.func (.func 113) #[] #[.pointer (some ⟨w4.heap.size+1,0,none⟩),.pointer (some ⟨w4.heap.size,0,none⟩)]:=by
  show a5.tmps.getD 29 undef=_;rw[WZ,IH (by omega)]
 have nD:w4.heap.size+2≠e0:=by have:=hp.le;omega
 have nD1:w4.heap.size+2+1≠e0:=by have:=hp.le;omega
 have YT:=Azr (seed:=seed) (h:=h) (Bh:=w4.heap.size+1) (Bs:=w4.heap.size) hh
 refine wpIn_block (Aou (Z0:=fun b=>b<w4.heap.size) g29 (enters_of Tryz.func113 (by kernel_rfl) rfl) YT (fun b hb=>by omega) (fun W hW hk=>?_) (fun pre x args Z A B hm h1 h2=>Arf hm h1 h2) (fun pre x args Z A hm=>Aub hm)
  (OU w4 (w4.heap.size+2) seed leaf h b10 o10 e0 chv) (A2v w4 (w4.heap.size+2) seed leaf h b10 o10 e0 chv) ?_ ?_ ?_ (sgA a5) ?_ ?_ ?_ ?_)
 ·have k1:=hk (w4.heap.size+1) (by omega);have k0:=hk w4.heap.size (by omega);refine⟨(World.cell?_of_block (a:=⟨w4.heap.size+1,0,none⟩) k1).trans ?_,(World.cell?_of_block (a:=⟨w4.heap.size,0,none⟩) k0).trans ?_,by omega,by omega,?_,?_⟩
  ·unfold World.cell?;rw[hB1];rfl
  ·unfold World.cell?;rw[hB0];rfl
  ·rintro (h1|h1|h1)<;>omega
  ·rintro (h1|h1|h1)<;>omega
 ·intro Z pre A B hI hs;rw[BF] at hs;exact hI.stay hp.l10 nD nD1 (by omega) hs
 ·rintro c' Z pre A B ⟨h1,pre',h2,hI⟩ hs
  rw[BF] at hs;exact⟨h1,pre',h2,hI.stay hp.l10 nD nD1 (by omega) hs⟩
 ·intro W hW Hm;have e:∀b,b<w4.heap.size->W.heap[b]?=w4.heap[b]?:=fun b hb=>(Hm.same b (by omega)).trans (hold b hb);have o5:w5.os=w4.os/\w5.tape=w4.tape/\w5.output=w4.output:=by rw[hw5];exact⟨rfl,rfl,rfl⟩
  obtain⟨v2,p1,p2⟩:=hp.p0;refine⟨Hm.os.trans o5.1,Hm.tape.trans o5.2.1,Hm.output.trans o5.2.2,by omega,fun b hb=>.inl hb,fun b hb=>by rcases hb with hb|hb|hb<;>omega,fun b hb _ _=>e b hb,by unfold bsz;rw[e b10 hp.l10];exact Da _,(World.cell?_of_block (e b10 hp.l10)).trans hp.c10,(World.cell?_of_block (e b10 hp.l10)).trans hp.c11,fun k hk=>by rw[frozen?_of_block (e b10 hp.l10)];exact hp.f10 k hk,(fun x hx=>by cases hx),v2,(World.cell?_of_block (e b10 hp.l10)).trans p1,?_,?_⟩
  ·rcases p2 with p2|⟨x,cap,q1,q2,q3,q4⟩
   ·exact .inl ⟨rfl,p2⟩
   ·have hb:bsz W e0=bsz w4 e0:=by unfold bsz;rw[e e0 q3]
    rcases Nat.eq_zero_or_pos cap with q0|q0
    ·subst q0;exact .inl ⟨rfl,_,q1⟩
    exact .inr ⟨e0,x,cap,q0,q1,Nat.zero_le _,by rw[hb];exact q2,by omega,.inr rfl,fun j y hj=>(by cases hj),fun j hj hjb=>by rw[frozen?_of_block (e e0 q3)];exact q4 j hj (by rw[<-hb];exact hjb)⟩
  ·intro pb po k cap' hc0 hv;rcases p2 with⟨ad,p2⟩|⟨x,cap,q1,q2,q3,q4⟩
   ·rw[p2] at hv;cases hv;omega
   ·rw[q1] at hv;cases hv;exact .inl q3
 ·intro pre x args Z A K' hm hk;obtain⟨o1,o2,e,⟨a1,a2,a3⟩,⟨c1,c2,c3⟩⟩:=Aus;refine Rh e (wpIn_seq (Alp (fun _=>trivial) a1 a3 ?_));show (Code.region 6 #[o2] false).wpIn _ _ _ _ _ _;refine Alp (fun _=>trivial) c1 c3 ?_;rw[a2,c2];exact hk
 ·intro Z pre x args A hZ1 hZ2 hI hm;rw[BF] at hZ1 hZ2 ⊢;obtain⟨hx,_,bb,oo,cc,F1,_⟩:=id hm;have sp:=Auv (a:=a5) (x:=.int .i64 x) (y:=.slice (some ⟨bb,oo,none⟩) (2 ^ (h-x):Nat) cc) A2n;rw[<-F1] at sp;refine Are hh Zx NK hI hm ⟨sp.1,sp.2.1,sp.2.2.1.trans g5,sp.2.2.2.1.trans g6,sp.2.2.2.2.1.trans g10,?_,?_⟩ hp.c5 hp.c6 hp.l5 hp.l6 hp.l10 hp.n5 hp.n6 hp.m5 hp.m6 hp.m10 nD nD1 (by omega) hZ1 hZ2
  ·rw[sp.2.2.2.2.2.1,F1];rfl
  ·rw[sp.2.2.2.2.2.2,F1];rfl
 ·intro Z xs B hS hI _;subst hS;have:=hI.lt h (by simp);omega
 ·rintro c' Z xs B ⟨k,hk⟩ ⟨rfl,pre,Ahr,hI⟩ hdf
  have hrg:pre=List.range h:=by
   rw[Ahr,List.range_succ] at hk;have:=List.append_inj' hk rfl;have h2:h=k:=by simpa using this.2
   rw[this.1,h2]
  subst hrg;rw[BF] at hdf ⊢;refine wpIn_exit ?_;simp only[Exit.inBlock,if_true];exact hK Z B hI hdf
end
section
open Go Go.RowKit
theorem A3e:WL=.seq (sL WL) (.seq (sL (sR WL)) (.seq (sL (sR (sR WL))) (.seq (.seq (.region 4 (Id (sL (sL (sR (sR (sR WL)))))) false) (.block 0 (.rangeFunc (.tmp 29) #[30,31] Aso Akq))) (.seq (.region 9 (Id (sL (sR (sR (sR (sR WL)))))) false) .ret)))):=by kernel_rfl
theorem A77:∃ty pos aft x,(Id (sL (sL (sR (sR (sR WL))))))[2]?=some { dst:=some 29,op:=.call { callee:=.value (.func 70),args:= #[.tmp 27,.tmp 28],argTypes:=x },type:=ty,pos:=pos,after:=aft,guard:=none }:=
 ⟨_,_,_,_,rfl⟩
theorem PT{P:Program}{ops:Array Oper}{Q Q':Exit->Act->World->Prop}{n id:Nat}{ds:List Deferred}{a:Act}{w:World}(h:wpOpsIn (WF none) n P ops Q' (List.range ops.size) a w)(hq:∀e a w,TD ds Q' e a w->Q e a w):(Code.region id ops false).wpIn Fence.wide n P Q (Wc ds a) w:=
 wpIn_mono (wpIn_region (F:=Fence.wide) (BA _ h)) hq
abbrev Bav(seed h leaf m:Int):St:=
  ⟨lk [(0,Af seed),(3,Af m),(5,.ptr 5 0),(6,.ptr 6 0),(8,.ptr 8 0),(9,Au 0)],
   B3 [(5,.st [Au h]),(6,.st [Au leaf]),(8,.st [Au 0,.view 104 1 0 0,.view 152 1 0 0]),(104,.ar false []),(152,.ar false [])]⟩
abbrev Baq(seed h leaf m:Int)(n:Nat)(c:Ab):St:=
  ⟨lk [(0,Af seed),(3,Af m),(5,.ptr 5 0),(6,.ptr 6 0),(8,.ptr 8 0),(9,Au 0),(10,.ptr 10 0)],
   B3 [(5,.st [Au h]),(6,.st [Au leaf]),(8,.st [Au 0,.view 104 1 0 0,.view 152 1 0 0]),(104,.ar false []),(152,.ar false []),(10,.st [Au leaf,.view 106 1 0 n,.view 154 1 0 0]),(106,.ar false c),(154,.ar false [])]⟩
abbrev A38(leaf:Int)(n1 n2:Nat)(c1 c2:Ab):St:=⟨lk [(8,.ptr 96000 0),(9,Au 0)],B3 [(96000,.st [Au leaf,.lst false 1 n1 c1,.lst false 1 n2 c2])]⟩
theorem Aj3{h leaf:Int}(hb:WQ h leaf=false):Dz h=false/\Ip leaf h=false/\∃H:Nat,h=H/\H<=4/\0<=leaf/\leaf<((2 ^ H:Nat):Int):=by
 unfold WQ at hb;rw[Bool.or_eq_false_iff] at hb;refine⟨hb.1,hb.2,h.toNat,?_⟩;have h1:=hb.1;have h2:=hb.2;unfold Dz at h1;unfold Ip at h2;rw[Bool.or_eq_false_iff,GK,GK] at h1 h2;have h3:h=(h.toNat:Int):=by omega
 have h4:=A0z (h:=h.toNat) (by omega);rw[<-h3] at h4;rw[h4] at h2;exact⟨h3,by omega,by omega,by omega⟩
theorem Axs{G:Ze}{seed h leaf m:Int}(hb:WQ h leaf=false):Dr G prog 36 [Af seed,Au h,Au leaf,Af m]
  ⟨[.agg [Au leaf,.lst false 1 18 (Ac .u64 (Ng seed leaf m)),.lst false 1 h.toNat (Ac .u64 ((List.range h.toNat).map fun k=>Cw seed k (H7 leaf k)))],Au 0],[]⟩:=by
 obtain⟨hhi,hou,H,rfl,hh,Zx,NK⟩:=Aj3 hb;refine A29 ⟨_,Tryz.func36,rfl⟩ fun w Y hY=>?_;have hk0:Aji prog 48 0 Tryz.f36.params.toList [Af seed,Au H,Au leaf,Af m] (fun tms bs=>some (tms,bs))=some ([(0,Af seed),(1,Au H),(2,Au leaf),(3,Af m)],[]):=by kernel_rfl
 have FN:Ins w Y EO [Af seed,Au H,Au leaf,Af m] [.int .u64 seed,.int .i64 H,.int .i64 leaf,.int .u64 m]:=
  ⟨hY,fun b _=>Ti b,fun b x=>(Ti b x).elim,fun _ _ _ _ _ _ _ x=>(by cases x),fun _ _ x=>(by cases x),⟨.inl trivial,Bd.sc _⟩,⟨.inl trivial,Bd.sc _⟩,⟨.inl trivial,Bd.sc _⟩,⟨.inl trivial,Bd.sc _⟩,trivial⟩
 obtain⟨tms,bs,Fc,Hm⟩:=OP FN hk0;cases Fc;obtain⟨h8,β0,UW⟩:=Hm rfl (by simp);refine callsIn_wide.1 (callsIn_of_wp_marks (F:=Fence.wide) (n:=0) Tryz.func36 rfl trivial ?_ rfl);have t1:({ tmps:= #[Value.int .u64 seed,.int .i64 H,.int .i64 leaf,.int .u64 m]++Array.replicate (Tryz.f36.ntmps-(#[Value.int .u64 seed,.int .i64 H,.int .i64 leaf,.int .u64 m]).size) undef,defers:=[] }:Act)={ tmps:=[Value.int .u64 seed,.int .i64 H,.int .i64 leaf,.int .u64 m].toArray++Array.replicate (48-[Value.int .u64 seed,.int .i64 H,.int .i64 leaf,.int .u64 m].toArray.size) undef,defers:=[] }:=by kernel_rfl
 rw[t1];show WL.wpIn _ _ _ _ _ _;generalize ({ tmps:=[Value.int .u64 seed,.int .i64 H,.int .i64 leaf,.int .u64 m].toArray++Array.replicate (48-[Value.int .u64 seed,.int .i64 H,.int .i64 leaf,.int .u64 m].toArray.size) undef,defers:=[] }:Act)=a0 at UW ⊢;have hXn:∀b,¬(HU EO [Af seed,Au H,Au leaf,Af m] h8).X b:=Ti;refine Rh A3e (wpIn_seq (wpIn_wide.2 (D8 (Kk _ _) IF Ci UW (A4q cl seed H leaf m) ?_)));intro a1 w1 β1 RC;have eh:cl 67 [Au H]=_:=AM (xs:=noX) (fu:=2000) (d:=7) (H:Int);have eo:cl 68 [Au leaf,Au H]=_:=Vl (xs:=noX) (fu:=2000) (d:=7) leaf H (by omega);have es:cl 69 [Af seed,Au leaf,Af m]=_:=Axv (xs:=noX) (fu:=2000) (d:=1) (by omega) seed leaf m
 refine wpIn_seq (wpIn_wide.2 (D8 (Kk _ _) IF Ci RC (L:=873) (t:=0) (s1:=Bav seed H leaf m) ?_ ?_))
 ·refine (A19 cl seed H leaf m).trans ?_;simp only[Bz,Bx,eh,eo,hhi,hou]
 intro a2 w2 β2 XT;refine wpIn_seq (wpIn_wide.2 (D8 (Kk _ _) IF Ci XT (L:=1897) (t:=0) (s1:=Baq seed H leaf m 18 (Ac .u64 (Ng seed leaf m))) ?_ ?_))
 ·refine (A2o cl seed H leaf m).trans ?_;simp only[Bz,Bx,es]
 intro a3 w3 β3 hs3;refine wpIn_seq (wpIn_seq (wpIn_region ?_));have hl:List.range (Id (sL (sL (sR (sR (sR WL)))))).size=[0,1]++[2]:=by kernel_rfl
 rw[hl];refine H3 (ro:=none) (C:=CB) (call:=cl) (r:=((0:Nat),An2 seed H leaf m 18 (Ac .u64 (Ng seed leaf m)))) (Kk _ _) Ci ?_ [0,1] (List.take 2 (Id (sL (sL (sR (sR (sR WL)))))).toList) (by kernel_rfl) ?_ (by kernel_rfl) hs3 (A14 cl seed H leaf m 18 _)
 rotate_left
 ·intro j i hj
  match j,hj with
  |0,hj=>cases hj;rfl
  |1,hj=>cases hj;rfl
 intro s' a4 w4 β4 Xr hs4;obtain⟨β5,s5,hk5,BF⟩:=Cm hs4 Xr;cases hk5;obtain⟨b5,o5,b6,o6,b8,o8,b10,o10,e0,chv,hp⟩:=Asy (l:=Ng seed leaf m) (n:=18) (by omega) (by simp[Ng]) hXn BF;obtain⟨ty,pos,aft,x,ho⟩:=A77;rw[wpOpsIn_cons];unfold wpOpIn;rw[ho];simp only[Region.wanted,if_true];refine⟨fun _ _=>trivial,?_⟩
 rw[show Oper.semAt (WF none).round a4.eval { dst:=some 29,op:=.call { callee:=.value (.func 70),args:= #[.tmp 27,.tmp 28],argTypes:=x },type:=ty,pos:=pos,after:=aft,guard:=none }=execOp a4.eval { dst:=some 29,op:=.call { callee:=.value (.func 70),args:= #[.tmp 27,.tmp 28],argTypes:=x },type:=ty,pos:=pos,after:=aft,guard:=none } from rfl,
  LG (o:={ dst:=some 29,op:=.call { callee:=.value (.func 70),args:= #[.tmp 27,.tmp 28],argTypes:=x },type:=ty,pos:=pos,after:=aft,guard:=none }) rfl rfl ngT Tryz.func70 rfl]
 have e27:a4.eval (.tmp 27)=.int .u64 seed:=hp.t27;have e28:a4.eval (.tmp 28)=.int .i64 H:=hp.t28;simp only[List.map_toArray,Sn,List.map_nil,e27,e28];refine⟨(fun h=>by cases h),(Aye seed H _ w4).mono ?_⟩
 rintro e w5 ⟨rfl,hw5⟩
 refine Axy (w:=w) (Y:=Y) hh Zx NK hp BF.tsz hw5 rfl ?_;intro Z B hRI hdf;obtain⟨a5,WZ⟩:∃a5,a4.put (some 29) (.func (.func 113) #[] #[.pointer (some ⟨w4.heap.size+1,0,none⟩),.pointer (some ⟨w4.heap.size,0,none⟩)])=a5:=⟨_,rfl⟩
 rw[WZ];have hd5:a5.defers=[]:=by rw[<-WZ,Ln];exact BF.dfr
 have hz5:a5.tmps.size=48:=by rw[<-WZ,I1];exact BF.tsz
 have ea:({ a5 with defers:={ target:=.collected (w4.heap.size+2),args:= #[] }::a5.defers }:Act)=Wc [{ target:=.collected (w4.heap.size+2),args:= #[] }] a5:=by unfold Wc;rw[hd5];rfl
 rw[ea];have hsB:w4.heap.size<=B.heap.size:=by have:=hRI.size;omega
 have hkB:∀b,b<w4.heap.size->b≠b10->b≠e0->B.heap[b]?=w4.heap[b]?:=hRI.keep;have h8B:=hkB b8 hp.l8 hp.n8 hp.m8
 obtain⟨XB,βB,hXB,hB⟩:=A1v (Y:=Y) (a:=a5) (b8:=b8) (o8:=o8) (n1:=18) (c1:=Ac .u64 (Ng seed leaf m)) hRI hd5 hz5 (by rw[<-WZ,Gg (by decide)];exact hp.t8) (by rw[<-WZ,Gg (by decide)];exact hp.t9) (by rw[<-WZ,Gg (by decide)];exact hp.t10)
  (fun j hj=>by rw[World.cell?_of_block (a:=⟨b8,o8+j,none⟩) h8B];exact hp.c8 j hj) (fun j hj=>by rw[frozen?_of_block h8B];exact hp.f8 j hj) (Jp hp.l8 hsB) (Jp hp.l10 hsB) hp.n8 hp.y8 hp.y10 (hp.ch B hsB hkB) hp.one
  (fun pb hpb=>by
   rcases hpb with hpb|hpb
   ·have:=hp.l8;exact⟨by omega,fun hy=>by have:=hY pb hy;have:=BF.fr.step.size;omega⟩
   ·rw[hpb];exact⟨fun e=>hp.m8 e.symm,hp.ye⟩)
  (fun b hb=>by have:=hY b hb;have:=BF.fr.step.size;omega)
 rw[List.length_range] at hB;refine wpIn_seq (PT (Q':=fun e a' w'=>e=.normal/\∃β',Cj 48 B XB Y β' (A38 leaf 18 H (Ac .u64 (Ng seed leaf m)) (Ac .u64 ((List.range H).map fun k=>Cw seed k (H7 leaf k)))) a' w') ?_ ?_)
 ·have hl9:List.range (Id (sL (sR (sR (sR (sR WL)))))).size=[0,1,2]++[]:=by kernel_rfl
  rw[hl9];refine H3 (ro:=none) (C:=CB) (call:=cl) (r:=((0:Nat),A38 leaf 18 H (Ac .u64 (Ng seed leaf m)) (Ac .u64 ((List.range H).map fun k=>Cw seed k (H7 leaf k))))) (Kk _ _) Ci ?_ [0,1,2] (Id (sL (sR (sR (sR (sR WL)))))).toList (by kernel_rfl) ?_ (by kernel_rfl) hB (A36 cl leaf 18 H _ _)
  rotate_left
  ·intro j i hj
   match j,hj with
   |0,hj=>cases hj;rfl
   |1,hj=>cases hj;rfl
   |2,hj=>cases hj;rfl
  intro s6 a6 w6 β6 hk6 hs6;obtain⟨β7,s7,hk7,hs7⟩:=Cm hs6 hk6;cases hk7;exact⟨rfl,β7,hs7⟩
 ·rintro e a7 w7 ⟨a6,rfl,rfl,β6,hz⟩
  refine wpIn_ret ?_
  have hD':w7.heap[w4.heap.size+2]?=some (.deferred (some [])):=by
   have Cr:=hRI.size;have hl8:=hp.l8;rw[hz.fr.step.keep (w4.heap.size+2) (by omega) fun hx=>by have:=hXB _ hx;omega]
   exact hdf
  show LeavesInM _ _ _ _ _ _ (a6.defers++[{ target:=.collected (w4.heap.size+2),args:= #[] }]) .returning w7;rw[hz.dfr];refine⟨by simp,.inl ⟨_,_,rfl,run_takeDeferred hD',?_⟩⟩;have YP:=BF.fr
  have hu:Cj 48 w (HU EO [Af seed,Au H,Au leaf,Af m] h8) Y β6 (A38 leaf 18 H (Ac .u64 (Ng seed leaf m)) (Ac .u64 ((List.range H).map fun k=>Cw seed k (H7 leaf k)))) a6 w7:=
   hz.unbase (fun _ h=>h) hY (fun b hx=>by rw[hXB b hx];exact hp.g8) (fun i ⟨p,h1,h2⟩=>by
    match i,h1 with
    |0,h1=>cases h1;cases h2
    |1,h1=>cases h1;cases h2
    |2,h1=>cases h1;cases h2
    |3,h1=>cases h1;cases h2) (hRI.os.trans YP.os) (hRI.tape.trans YP.tape) (hRI.output.trans YP.output) (Nat.le_trans YP.step.size hsB) (fun b hb=>by
    have h1:=hp.g10;have h2:=hp.ge;have h3:=YP.step.size;exact (hkB b (by omega) (by omega) (by omega)).trans (YP.step.keep b hb (hXn b)))
  have hv:=hu.same (RN (y:=none) hD') fun b hb=>World.putObj_heap_other (by have:=YP.step.size;omega)
  obtain⟨_,v,r1,vs,own,r2,r3⟩:=FB (C:=CS) (f:=36) (fn:=Tryz.f36) FN (res:=⟨[.agg [Au leaf,.lst false 1 18 (Ac .u64 (Ng seed leaf m)),.lst false 1 H (Ac .u64 ((List.range H).map fun k=>Cw seed k (H7 leaf k)))],Au 0],[]⟩) (A1x seed H leaf m leaf 18 H _ _) hv;exact⟨v,r1,vs,own,r2,r3⟩
end
section
open Go Go.RowKit
theorem Dr.any{G:Ze}{P:Program}{f:FuncId}{args:Ab}{r:Dt}(h:Dr G1 P f args r):Dr G P f args r:=
 ⟨h.1,fun w Y bt us FN _ _=>h.2 w Y bt us FN trivial fun _ hb=>hb.elim⟩
theorem A40{G:Ze}{seed h leaf m:Int}(hb:WQ h leaf=true):Dr G prog 36 [Af seed,Au h,Au leaf,Af m]
  ⟨[.agg [Au 0,.lst false 1 0 [],.lst false 1 0 []],Au 9],[]⟩:=by
 refine Dr.any (UR ngT IF Ci Tryz.func36 rfl ((A2s cl seed h leaf m).trans ?_));have eh:cl 67 [Au h]=_:=AM (xs:=noX) (fu:=2000) (d:=7) h;unfold WQ at hb;cases hhi:Dz h
 ·rw[hhi,Bool.false_or] at hb
  have h0:0<=h:=by
   unfold Dz at hhi;rw[Bool.or_eq_false_iff,GK] at hhi;omega
  have eo:cl 68 [Au leaf,Au h]=_:=Vl (xs:=noX) (fu:=2000) (d:=7) leaf h h0;simp only[Bz,Bx,eh,eo,hhi,hb]
 ·simp only[Bz,Bx,eh,hhi]
theorem Aoj{G:Ze}{args:Ab}{r:Dt}(h:A37 args=some r):Dr G prog 36 args r:=by
 unfold A37 at h;split at h
 ·rename_i seed hh leaf m;cases h;cases hb:WQ hh leaf
  ·have l18:(Ng seed leaf m).length=18:=by simp[Ng]
   have:=Axs (G:=G) (seed:=seed) (m:=m) hb;unfold tkL tkC tkP tkE;rw[hb];simp only[Bool.false_eq_true,if_false,l18,List.length_map,List.length_range];exact this
  ·have:=A40 (G:=G) (seed:=seed) (m:=m) hb;unfold tkL tkC tkP tkE;rw[hb];exact this
 ·cases h
end
section
open Go Go.RowKit
abbrev stC:Code:=VR Tryz.f29
abbrev bwC:Code:=VR Tryz.f93
abbrev bwL:Code:=sB (sB (sR bwC))
abbrev bwX:Code:=sB (sL (sR bwL))
abbrev A6d:Code:=sB (sR (sL (sR (sR stC))))
abbrev Amx:Code:=sA A6d
abbrev Adu:Code:=sF A6d
abbrev Axg(N:Nat)(call:Bq)(c:Code)(L:Nat)(s:St):Option (Nat × St):=
 Ph CB prog 2000 N call c L (fun _=>L) L (fun s=>Kg N L s fun s'=>some (0,s')) (fun id s=>Kg N L s fun s'=>some (id+2,s')) (fun s=>Kg N L s fun s'=>some (1,s')) s
section
variable {N:Nat}{w0:World}{X0:Gt}{Y:Nat->Prop}{β:Bt}{s s1:St}{a:Act}{w:World}
theorem XK{G:Ze}(Lg:RO prog G w0 X0)(hm:prog.follows .mixedOrders=true){call:Bq}(Dn:∀f args res,call f args=some res->Dr G prog f args res){c:Code}{L t:Nat}{Q:Exit->Act->World->Prop}(h:Cj N w0 X0 Y β s a w)(hk:Axg N call c L s=some (t,s1))(hQ:∀a' w' β' e,Cj N w0 X0 Y β' s1 a' w'->(t=0/\e=.normal)\/(t=1/\e=.ret)\/(∃id,t=id+2/\e=.exit id)->Q e a' w'):c.wp prog Q a w:=by
 refine JR Lg Dn hm c h hk (fun s' a' w' β' h1 h2=>?_) (fun id s' a' w' β' h1 h2=>?_) (fun s' a' w' β' h1 h2=>?_)
 ·obtain⟨β1,s2,h3,h4⟩:=Cm h2 h1;cases h3;exact hQ _ _ _ _ h4 (.inl ⟨rfl,rfl⟩)
 ·obtain⟨β1,s2,h3,h4⟩:=Cm h2 h1;cases h3;exact hQ _ _ _ _ h4 (.inr (.inr ⟨id,rfl,rfl⟩))
 ·obtain⟨β1,s2,h3,h4⟩:=Cm h2 h1;cases h3;exact hQ _ _ _ _ h4 (.inr (.inl ⟨rfl,rfl⟩))
theorem QU{G:Ze}(Lg:RO prog G w0 X0)(hm:prog.follows .mixedOrders=true){call:Bq}(Dn:∀f args res,call f args=some res->Dr G prog f args res){ro:Option Nat}{n:Nat}{c:Code}(ho:okR c=true){L t:Nat}{Q:Exit->Act->World->Prop}(JM:∀a w,¬Q .outgrown a w)(h:Cj N w0 X0 Y β s a w)(hk:Axg N call c L s=some (t,s1))(hQ:∀a' w' β' e,Cj N w0 X0 Y β' s1 a' w'->(t=0/\e=.normal)\/(t=1/\e=.ret)\/(∃id,t=id+2/\e=.exit id)->Q e a' w'):c.wpIn (WF ro) n prog Q a w:=by
 refine QO Lg Dn hm c ho JM h hk (fun s' a' w' β' h1 h2=>?_) (fun id s' a' w' β' h1 h2=>?_) (fun s' a' w' β' h1 h2=>?_)
 ·obtain⟨β1,s2,h3,h4⟩:=Cm h2 h1;cases h3;exact hQ _ _ _ _ h4 (.inl ⟨rfl,rfl⟩)
 ·obtain⟨β1,s2,h3,h4⟩:=Cm h2 h1;cases h3;exact hQ _ _ _ _ h4 (.inr (.inr ⟨id,rfl,rfl⟩))
 ·obtain⟨β1,s2,h3,h4⟩:=Cm h2 h1;cases h3;exact hQ _ _ _ _ h4 (.inr (.inl ⟨rfl,rfl⟩))
end
end
theorem A4f(call:Bq)(v i x lf model now:Int)(n n1 n2:Nat)(c c1 c2:Ab):RF 28 call (sL stC) 106 ⟨lk [(0,.agg [Au v,Au i,Au x,.lst false 3 n c,Au lf,.lst false 1 n1 c1,.lst false 1 n2 c2]),(1,Af model),(2,Au now)],B3 []⟩=(
 some (0,⟨lk [(1,(Af (model))),(3,(.ptr 3 0)),(5,(.ptr 5 0)),(6,(.ptr 6 0))],B3 [(3,(.st [(Au (v)),(Au (i)),(Au (x)),(.lst false 3 (n) (c)),(Au (lf)),(.lst false 1 (n1) (c1)),(.lst false 1 (n2) (c2))])),(5,(.st [(Au (now))])),(6,(.st [(Au ((0:Int)))]))]⟩)):=by kernel_rfl
theorem A3b(call:Bq)(v i x lf model now:Int)(n n1 n2:Nat)(c c1 c2:Ab):RF 28 call (sL (sR stC)) 224 ⟨lk [(1,Af model),(3,.ptr 3 0),(5,.ptr 5 0),(6,.ptr 6 0)],B3 [(3,.st [Au v,Au i,Au x,.lst false 3 n c,Au lf,.lst false 1 n1 c1,.lst false 1 n2 c2]),(5,.st [Au now]),(6,.st [Au 0])]⟩=(
 Bj (call (52:Nat) [PV.agg [PV.sc (Value.int IntKind.i64 v),PV.sc (Value.int IntKind.i64 i),PV.sc (Value.int IntKind.i64 x),PV.lst false (3:Nat) n c,PV.sc (Value.int IntKind.i64 lf),PV.lst false (1:Nat) n1 c1,PV.lst false (1:Nat) n2 c2],PV.sc (Value.int IntKind.u64 model)]) fun x1 x2=>
 Ar (x2) <|
 Av (x1) fun x3 x4=>
 Dl (x3) fun x5=>
 Av (x5) fun x6 x7=>
 Be (IntKind.u64) (x6) fun x8=>
 Av (x7) fun x9 x10=>
 Ow ((3:Nat)) (x9) fun x11 x12 x13=>
 Av (x10) fun x14 x15=>
 Ow ((2:Nat)) (x14) fun x16 x17 x18=>
 Ar (x15) <|
 Av (x4) fun x19 x20=>
 Cg (x19) fun x21=>
 Ar (x20) <|
 some (0,⟨lk [(5,(.ptr 5 0)),(6,(.ptr 6 0)),(7,(.ptr 7 0))],B3 [(5,(.st [(Au (now))])),(6,(.st [(Au ((0:Int)))])),(7,(.st [(Af (x8)),(.lst false 3 (x12) (x13)),(.lst false 2 (x17) (x18))]))]⟩)):=by kernel_rfl
theorem A25(call:Bq)(mo now:Int)(n1 n2:Nat)(c1 c2:Ab):M4 CB prog 28 call (Id (sL (sL (sR (sR stC))))) (List.take 2 (Id (sL (sL (sR (sR stC))))).toList) ⟨lk [(5,.ptr 5 0),(6,.ptr 6 0),(7,.ptr 7 0)],B3 [(5,.st [Au now]),(6,.st [Au 0]),(7,.st [Af mo,.lst false 3 n1 c1,.lst false 2 n2 c2])]⟩ (fun s=>Kg 28 262240 s fun s'=>some (0,s'))=(
 some (0,⟨lk [(5,(.ptr 5 0)),(6,(.ptr 6 0)),(18,(.lst false 2 (n2) (c2)))],B3 [(5,(.st [(Au (now))])),(6,(.st [(Au ((0:Int)))]))]⟩)):=by kernel_rfl
theorem A1y(call:Bq)(v5 v6:Value)(kd t:Int):RF 28 call Amx 1120 ⟨lk [(5,.sc v5),(6,.sc v6),(21,.agg [Au kd,Au t])],B3 []⟩=(
 some (0,⟨lk [(5,(.sc (v5))),(6,(.sc (v6))),(10,(.ptr 10 0))],B3 [(10,(.st [(Au (kd)),(Au (t))]))]⟩)):=by kernel_rfl
theorem Avc(call:Bq)(now kd t:Int):Axg 28 call Adu 64 ⟨lk [(5,.iptr [Au now] 0),(6,.ptr 56000 0),(10,.iptr [Au kd,Au t] 0)],B3 [(56000,.st [Au 0])]⟩=(
  Az (decide (t<=now))
   (
   some (1,⟨lk [(6,(.ptr 56000 0))],B3 [(56000,(.st [(Au (kd))]))]⟩))
   (
   some (0,⟨lk [(6,(.ptr 56000 0))],B3 [(56000,(.st [(Au ((0:Int)))]))]⟩))):=by kernel_rfl
theorem A2e(call:Bq)(k:Int):M4 CB prog 28 call (Id (sL (sR (sR (sR stC))))) (Id (sL (sR (sR (sR stC))))).toList ⟨lk [(6,.ptr 56000 0)],B3 [(56000,.st [Au k])]⟩ (fun s=>Kg 28 64 s fun s'=>some (0,s'))=(
 some (0,⟨lk [(6,(.ptr 56000 0))],B3 [(56000,(.st [(Au ((0:Int)))]))]⟩)):=by kernel_rfl
theorem A2r(v i x lf model now k:Int)(n n1 n2:Nat)(c c1 c2:Ab):Ahi CS prog 29 Tryz.f29 [.agg [Au v,Au i,Au x,.lst false 3 n c,Au lf,.lst false 1 n1 c1,.lst false 1 n2 c2],Af model,Au now] ⟨lk [(6,.ptr 56000 0)],B3 [(56000,.st [Au k])]⟩=(
 some (Dt.mk [PV.sc (Value.int IntKind.i64 k)] [])):=by kernel_rfl
theorem A2p(call:Bq)(yv:Value)(n:Nat)(c:Ab):RF 19 call (sL bwC) 11 ⟨lk [(0,.sc yv),(1,.iptr [.lst false 2 n c] 0)],B3 []⟩=(
 Aa (wrap IntKind.i64 ((↑n:Int)-(1:Int))) fun x1=>
 some (0,⟨lk [(0,(.sc (yv))),(1,(.iptr ([PV.lst false (2:Nat) n c]) ((0:Nat)))),(3,(Au (x1)))],B3 []⟩)):=by kernel_rfl
theorem Ase(call:Bq)(yv:Value)(n:Nat)(c:Ab)(i:Int):RF 19 call (sL bwL) 11 ⟨lk [(0,.sc yv),(1,.iptr [.lst false 2 n c] 0),(3,Au i)],B3 []⟩=(
  Az (decide (i>=(0:Int)))
   (
   some (0,⟨lk [(0,(.sc (yv))),(1,(.iptr ([PV.lst false (2:Nat) n c]) ((0:Nat)))),(3,(Au (i)))],B3 []⟩))
   (
   some (1,⟨lk [(0,(.sc (yv))),(1,(.iptr ([PV.lst false (2:Nat) n c]) ((0:Nat)))),(3,(Au (i)))],B3 []⟩))):=by kernel_rfl
theorem A3x(call:Bq)(yv:Value)(n:Nat)(c:Ab)(i:Int):M4 CB prog 19 call (Id (sL bwX)) (List.take 6 (Id (sL bwX)).toList) ⟨lk [(0,.sc yv),(1,.iptr [.lst false 2 n c] 0),(3,Au i)],B3 []⟩ (fun s=>Kg 19 71691 s fun s'=>some (0,s'))=(
 As (decide ((0:Int)<=i)&&decide (i<(↑n:Int))) <|
 Be (IntKind.i64) (List.getD c (Int.toNat i*(2:Nat)) PV.top) fun x1=>
 Be (IntKind.i64) (List.getD c (Int.toNat i*(2:Nat)+(1:Nat)) PV.top) fun x2=>
 some (0,⟨lk [(0,(.sc (yv))),(1,(.iptr ([PV.lst false (2:Nat) n c]) ((0:Nat)))),(3,(Au (i))),(11,(.sc (yv))),(12,(Au (i))),(16,(.agg [(Au (x1)),(Au (x2))]))],B3 []⟩)):=by kernel_rfl
theorem Asz(call:Bq)(yv:Value)(n:Nat)(c:Ab)(i:Int)(e:Bool):M4 CB prog 19 call (Id (sL bwX)) (List.drop 7 (Id (sL bwX)).toList) ⟨lk [(0,.sc yv),(1,.iptr [.lst false 2 n c] 0),(3,Au i),(17,.sc (.bool e))],B3 []⟩ (fun s=>Kg 19 262155 s fun s'=>some (0,s'))=(
 some (0,⟨lk [(0,(.sc (yv))),(1,(.iptr ([PV.lst false (2:Nat) n c]) ((0:Nat)))),(3,(Au (i))),(18,(.sc (.bool (!e))))],B3 []⟩)):=by kernel_rfl
theorem Atx(call:Bq)(yv:Value)(n:Nat)(c:Ab)(i:Int)(q:Bool):Axg 19 call (sR bwX) 11 ⟨lk [(0,.sc yv),(1,.iptr [.lst false 2 n c] 0),(3,Au i),(18,.sc (.bool q))],B3 []⟩=(
  Az (q)
   (
   some (1,⟨lk [(0,(.sc (yv))),(1,(.iptr ([PV.lst false (2:Nat) n c]) ((0:Nat)))),(3,(Au (i)))],B3 []⟩))
   (
   some (0,⟨lk [(0,(.sc (yv))),(1,(.iptr ([PV.lst false (2:Nat) n c]) ((0:Nat)))),(3,(Au (i)))],B3 []⟩))):=by kernel_rfl
theorem A3i(call:Bq)(yv:Value)(n:Nat)(c:Ab)(i:Int):RF 19 call (sR (sR bwL)) 11 ⟨lk [(0,.sc yv),(1,.iptr [.lst false 2 n c] 0),(3,Au i)],B3 []⟩=(
 Aa (wrap IntKind.i64 (i-(1:Int))) fun x1=>
 some (0,⟨lk [(0,(.sc (yv))),(1,(.iptr ([PV.lst false (2:Nat) n c]) ((0:Nat)))),(3,(Au (x1)))],B3 []⟩)):=by kernel_rfl
section
open Go Go.RowKit
theorem V3.trans{Z Z1 Z2:Nat->Prop}{A B C:World}(h:V3 Z Z1 A B)(g:V3 Z1 Z2 B C):V3 Z Z2 A C:=
 ⟨g.os.trans h.os,g.tape.trans h.tape,g.output.trans h.output,Nat.le_trans h.size g.size,fun b hb hn=>(g.keep b (Jp hb h.size) fun h1=>(h.new b h1).elim hn fun h2=>by omega).trans (h.keep b hb hn),
  fun b hb=>g.sub b (h.sub b hb),fun b hb=>(g.new b hb).elim (h.new b) fun h1=>.inr (Nat.le_trans h.size h1),g.lt,fun b hb=>Nat.le_trans (h.bs b hb) (g.bs b (Jp hb h.size))⟩
def A1d{α:Type}(P:Program)(gf:Nat)(lb:Array Value)(M:List α->α->Array Value->(Nat->Prop)->World->Prop)(S Sp:List α->Prop)(Pre:(Nat->Prop)->World->Prop):Prop:=
 ∀(l:Nat) (J Jx:(Nat->Prop)->List α->World->Prop) (W:World) (Z0:Nat->Prop),(∀b,Z0 b->b<W.heap.size)->Pre Z0 W ->
  (∀Z pre A B,J Z pre A->Pr (fun b=>b<A.heap.size) A B->J Z pre B)->(∀Z pre A B,Jx Z pre A->Pr (fun b=>b<A.heap.size) A B->Jx Z pre B) ->
  (∀Z pre x args A,J Z pre A->M pre x args Z A->YieldAt Fence.wide 0 P l args A fun e B=>∃Z',V3 Z Z' A B /\
   ((e=.returned (.bool true)/\J Z' (pre++[x]) B)\/(e=.returned (.bool false)/\Jx Z' (pre++[x]) B))) ->
  J Z0 [] W ->
  Calls P gf (#[.func (.yield l) #[] #[]]++lb) W fun e B=>(∃v,e=.returned v)/\∃Z xs,(S xs/\J Z xs B)\/(Sp xs/\Jx Z xs B)
theorem Akx{α:Type}{P:Program}{n:Nat}{g:Operand}{ps:Array Tmp}{assign body:Code}{Q:Exit->Act->World->Prop}{a:Act}{w:World}{gf:Nat}{lb:Array Value}(hg:a.eval g=.func (.func gf) #[] lb)(eg:∀args w,(callFunc gf args).run P w=.ok (.enter gf args) w){M:List α->α->Array Value->(Nat->Prop)->World->Prop}{S Sp:List α->Prop}{Pre:(Nat->Prop)->World->Prop}(hit:A1d P gf lb M S Sp Pre){Z0:Nat->Prop}(hZ0:∀b,Z0 b->b<w.heap.size)(Auh:∀W:World,W.heap.size=w.heap.size+2->(∀b,b<w.heap.size->W.heap[b]?=w.heap[b]?)->Pre (fun b=>Z0 b\/b=w.heap.size\/b=w.heap.size+1) W)(QQ:∀pre x args Z A,M pre x args Z A->args.size=ps.size)(I:(Nat->Prop)->List α->World->Prop)(Ix:Code->(Nat->Prop)->List α->World->Prop)(hI:∀Z pre A B,I Z pre A->Pr (fun b=>b<A.heap.size/\b≠w.heap.size/\b≠w.heap.size+1) A B->I Z pre B)(hIx:∀c Z pre A B,Ix c Z pre A->Pr (fun b=>b<A.heap.size/\b≠w.heap.size/\b≠w.heap.size+1) A B->Ix c Z pre B)(h0:∀W,W.heap.size=w.heap.size+2->Pr (fun b=>b<w.heap.size) w W->I (fun b=>Z0 b\/b=w.heap.size\/b=w.heap.size+1) [] W)(Nn:(Nat->Prop)->List α->α->Act->World->Prop)(hN:∀Z pre x a' A B,Nn Z pre x a' A->Pr (fun b=>b<A.heap.size/\b≠w.heap.size/\b≠w.heap.size+1) A B->Nn Z pre x a' B)(NA:∀Z pre x args A (K:Act->World->Prop),Z w.heap.size->Z (w.heap.size+1)->I Z pre A->M pre x args Z A->(∀Z1 a' A1,V3 Z Z1 A A1->A1.heap[w.heap.size]?=A.heap[w.heap.size]?->A1.heap[w.heap.size+1]?=A.heap[w.heap.size+1]?->Nn Z1 pre x a' A1->K a' A1) ->
   assign.wpIn (Fence.wide.inRound (w.heap.size+1)) 0 P (Exit.then K (fun _ _ _=>False)) { tmps:=(ps.zip args).foldl (fun t (p,v)=>t.setIfInBounds p v) a.tmps,defers:=[] } A)(Aht:∀Z pre x a' A,Z w.heap.size->Z (w.heap.size+1)->Nn Z pre x a' A->body.wpIn (Fence.wide.inRound (w.heap.size+1)) 0 P (OL w.heap.size I Ix Z (pre++[x]) A) a' A)(Ag3:∀Z xs B,S xs->I Z xs B->B.heap[w.heap.size]?=some (.deferred (some []))->Q .normal { a with defers:={ target:=.collected w.heap.size,args:= #[] }::a.defers } B)(Agf:∀c Z xs B,Sp xs->Ix c Z xs B->B.heap[w.heap.size]?=some (.deferred (some []))->c.wpIn Fence.wide n P Q { a with defers:={ target:=.collected w.heap.size,args:= #[] }::a.defers } B):
  (Code.rangeFunc g ps assign body).wpIn Fence.wide n P Q a w:=by
 refine wpIn_rangeFunc ?_;intro fn hfn;obtain⟨rec,Z8⟩:∃rec:LoopState->Option Code->Loop,rec=fun st pe=>{ state:=st,pending:=pe,fn,tmps:=a.tmps,params:=ps,assign,body,defers:=w.heap.size }:=⟨_,rfl⟩
 obtain⟨D,hD⟩:∃D,w.heap.size=D:=⟨_,rfl⟩
 rw[hD] at hI hIx h0 hN NA Aht Ag3 Agf hZ0 Auh;obtain⟨W1,hW1⟩:∃W1,(w.alloc (.deferred (some []))).alloc (.loop (rec .ready none))=W1:=⟨_,rfl⟩
 have RC:W1.heap.size=D+2:=by rw[<-hW1,World.size_alloc,World.size_alloc,hD]
 have hL1:W1.heap[D+1]?=some (.loop (rec .ready none)):=by
  rw[<-hW1,<-hD];have:=World.alloc_heap_new (w.alloc (.deferred (some []))) (.loop (rec .ready none));rwa [World.size_alloc] at this
 have hK1:W1.heap[D]?=some (.deferred (some [])):=by
  rw[<-hW1,<-hD];exact (Below.heap_alloc _ _ _ (by simp)).trans (World.alloc_heap_new w _)
 have Hm:Pr (fun b=>b<D) w W1:=by
  rw[<-hW1,<-hD];exact⟨rfl,rfl,rfl,by simp;omega,fun b hb=>(Below.heap_alloc _ _ _ (by simp;omega)).trans (Below.heap_alloc _ _ _ hb)⟩
 refine⟨D+1,[{ target:=.collected D,args:= #[] }],W1,{ target:=.fn (.func gf) lb,args:= #[.func (.yield (D+1)) #[] #[]] },W1,gf,
  #[.func (.yield (D+1)) #[] #[]]++lb,W1,?_,?_,fun _ _=>trivial,?_,(fun h=>by cases h),?_⟩
 ·rw[<-hW1,Z8,<-hD];exact run_enterLoop_outer _ _ _ _ _
 ·simp only[resolve,hg];simp[go_sem]
 ·simp[invoke,go_sem,eg]
 ·have put:∀{A:World} (o:Obj),Pr (fun b=>b<A.heap.size/\b≠D/\b≠D+1) A (A.putObj (D+1) o):=fun o=>
   ⟨rfl,rfl,rfl,by simp,fun b hb=>World.putObj_heap_other hb.2.2⟩
  refine callsIn_wide.2 (Calls.mono (hit (D+1)
   (fun Z pre A=>(Z D/\Z (D+1))/\I Z pre A/\A.heap[D+1]?=some (.loop (rec .ready none))/\A.heap[D]?=some (.deferred (some [])))
   (fun Z pre A=>(Z D/\Z (D+1))/\∃c,Ix c Z pre A/\A.heap[D+1]?=some (.loop (rec .done (some c)))/\A.heap[D]?=some (.deferred (some [])))
   W1 (fun b=>Z0 b\/b=D\/b=D+1) (fun b hb=>by rw[RC];exact hb.elim (fun h=>by have:=hZ0 b h;omega) fun h=>by omega) (Auh W1 RC (fun b hb=>Hm.same b hb)) ?_ ?_ ?_ ?_) ?_)
  ·rintro Z pre A B ⟨hz,hi,hl,hk⟩ hs
   exact⟨hz,hI Z pre A B hi (hs.sub fun _ h=>h.1),(hs.same _ (Array.getElem?_eq_some_iff.1 hl).1).trans hl,(hs.same _ (Array.getElem?_eq_some_iff.1 hk).1).trans hk⟩
  ·rintro Z pre A B ⟨hz,c,hi,hl,hk⟩ hs
   exact⟨hz,c,hIx c Z pre A B hi (hs.sub fun _ h=>h.1),(hs.same _ (Array.getElem?_eq_some_iff.1 hl).1).trans hl,(hs.same _ (Array.getElem?_eq_some_iff.1 hk).1).trans hk⟩
  ·rintro Z0' pre x args A0 ⟨hz0,hi,Zx,hk0⟩ hm
   have hy:=run_yield (P:=P) (args:=args) Zx (by rw[Z8];exact QQ pre x args Z0' A0 hm)
   rw[Z8] at hy;refine⟨fn,_,assign,body,hy,roundIn_of_wpIn hfn (NA Z0' pre x args A0 _ hz0.1 hz0.2 hi hm ?_)⟩;intro Z a' A ht0 k0 k1 hn;have hz:Z D/\Z (D+1):=⟨ht0.sub _ hz0.1,ht0.sub _ hz0.2⟩
   have hl:=k1.trans Zx;have hk:=k0.trans hk0;have Cr:D+1<A.heap.size:=(Array.getElem?_eq_some_iff.1 hl).1;refine⟨_,run_beginRound hl (by rw[Z8]),?_⟩;obtain⟨A2,hA2⟩:∃A2,A.putObj (D+1) (.loop { rec .ready none with state:=.busy })=A2:=⟨_,rfl⟩
   rw[hA2];have SQ:A2.heap[D+1]?=some (.loop { rec .ready none with state:=.busy }):=by rw[<-hA2];exact World.putObj_heap_same Cr
   have Hv:A2.heap[D]?=some (.deferred (some [])):=by rw[<-hA2];exact (World.putObj_heap_other (by omega)).trans hk
   have hz2:A2.heap.size=A.heap.size:=by rw[<-hA2];simp
   have hn2:Nn Z pre x a' A2:=by rw[<-hA2];exact hN Z pre x a' A _ hn (put _)
   refine wpIn_mono (Aht Z pre x a' A2 hz.1 hz.2 hn2) ?_
   have fin:∀(jump:Option Code) (W3:World) (Z':Nat->Prop),V3 Z Z' A2 W3->W3.heap[D]?=A2.heap[D]?->W3.heap[D+1]?=A2.heap[D+1]? ->
     (Instr.endRound (D+1) jump).run P W3=.ok (.bool jump.isNone) (W3.putObj (D+1) (.loop (rec (if jump.isNone then .ready else .done) jump))) /\
     (W3.putObj (D+1) (.loop (rec (if jump.isNone then .ready else .done) jump))).heap[D+1]?=some (.loop (rec (if jump.isNone then .ready else .done) jump)) /\
     (W3.putObj (D+1) (.loop (rec (if jump.isNone then .ready else .done) jump))).heap[D]?=some (.deferred (some [])) /\
     V3 Z Z' A (W3.putObj (D+1) (.loop (rec (if jump.isNone then .ready else .done) jump))):=fun jump W3 Z' ht e1 e2=>by
    have hl3:=e2.trans SQ;have:=run_endRound (P:=P) jump hl3;rw[Z8] at this ⊢;refine⟨this,World.putObj_heap_same (Array.getElem?_eq_some_iff.1 hl3).1,(World.putObj_heap_other (by omega)).trans (e1.trans Hv),?_⟩;have hA:A2.os=A.os/\A2.tape=A.tape/\A2.output=A.output:=by rw[<-hA2];exact⟨rfl,rfl,rfl⟩
    refine⟨ht.os.trans hA.1,ht.tape.trans hA.2.1,ht.output.trans hA.2.2,by have:=ht.size;simp;omega,fun b hb hn=>?_,ht.sub,fun b hb=>by have:=ht.new b hb;rw[hz2] at this;exact this,fun b hb=>by simpa using ht.lt b hb,fun b hb=>?_⟩
    ·have Gu:b≠D+1:=fun e=>hn (e ▸ hz.2);rw[World.putObj_heap_other Gu,ht.keep b (by omega) hn,<-hA2,World.putObj_heap_other Gu]
    ·by_cases Gu:b=D+1
     ·subst Gu;unfold bsz;rw[hl];exact Nat.zero_le _
     ·have h5:=ht.bs b (by omega);have h6:bsz A2 b=bsz A b:=by unfold bsz;rw[<-hA2,World.putObj_heap_other Gu]
      have h7:∀o,bsz (W3.putObj (D+1) o) b=bsz W3 b:=fun o=>by unfold bsz;rw[World.putObj_heap_other Gu]
      rw[h7,<-h6];exact h5
   rintro e a3 W3 ⟨Z',ht,e1,e2,hp⟩
   cases e with
   |normal=>
    obtain⟨hr,hl4,Xr,ht4⟩:=fin none W3 Z' ht e1 e2;exact⟨_,_,hr,Z',ht0.trans ht4,.inl ⟨rfl,⟨ht.sub _ hz.1,ht.sub _ hz.2⟩,hI Z' _ _ _ hp (put _),hl4,Xr⟩⟩
   |ret=>
    obtain⟨hr,hl4,Xr,ht4⟩:=fin (some .ret) W3 Z' ht e1 e2;exact⟨_,_,hr,Z',ht0.trans ht4,.inr ⟨rfl,⟨ht.sub _ hz.1,ht.sub _ hz.2⟩,.ret,hIx _ Z' _ _ _ hp (put _),hl4,Xr⟩⟩
   |exit id=>
    obtain⟨hr,hl4,Xr,ht4⟩:=fin (some (.exit id)) W3 Z' ht e1 e2;exact⟨_,_,hr,Z',ht0.trans ht4,.inr ⟨rfl,⟨ht.sub _ hz.1,ht.sub _ hz.2⟩,.exit id,hIx _ Z' _ _ _ hp (put _),hl4,Xr⟩⟩
   |goto t=>
    obtain⟨hr,hl4,Xr,ht4⟩:=fin (some (.goto t)) W3 Z' ht e1 e2;exact⟨_,_,hr,Z',ht0.trans ht4,.inr ⟨rfl,⟨ht.sub _ hz.1,ht.sub _ hz.2⟩,.goto t,hIx _ Z' _ _ _ hp (put _),hl4,Xr⟩⟩
   |panic ch=>exact hp.elim
   |outgrown=>exact hp.elim
  ·exact⟨⟨.inr (.inl rfl),.inr (.inr rfl)⟩,h0 W1 RC Hm,hL1,hK1⟩
  ·rintro e W2 ⟨⟨v,rfl⟩,Z,xs,(⟨hS,hz,hi,hl,hk⟩|⟨hSp,hz,c,hi,hl,hk⟩)⟩
   ·exact⟨none,_,by have:=run_endLoop (P:=P) hl (by rw[Z8];simp);rw[Z8] at this;exact this,Ag3 Z xs _ hS (hI Z _ _ _ hi (put _)) ((World.putObj_heap_other (by omega)).trans hk)⟩
   ·exact⟨some c,_,by have:=run_endLoop (P:=P) hl (by rw[Z8];simp);rw[Z8] at this;exact this,Agf c Z xs _ hSp (hIx c Z _ _ _ hi (put _)) ((World.putObj_heap_other (by omega)).trans hk)⟩
end
section
open Go Go.RowKit
def prC(p:Int × Int):Ab:=[Au p.1,Au p.2]
def Ll(l:List (Int × Int)):Ab:=l.flatMap prC
theorem Aco(p:Int × Int):(prC p).length=2:=rfl
theorem Aom(l:List (Int × Int)):(Ll l).length=l.length*2:=Xw Aco l
theorem At3{l:List (Int × Int)}{i:Nat}{p:Int × Int}(h:l[i]?=some p):(Ll l).getD (i*2) .top=Au p.1/\(Ll l).getD (i*2+1) .top=Au p.2:=
 ⟨H4 Aco h (j:=0) (by omega),H4 Aco h (j:=1) (by omega)⟩
theorem A34:bwC=.seq (sL bwC) (.block 0 (.loop bwL)):=by kernel_rfl
theorem Av4:bwL=.seq (sL bwL) (.seq (.block 1 bwX) (sR (sR bwL))):=by kernel_rfl
theorem A22:bwX=.seq (.region 3 (Id (sL bwX)) false) (sR bwX):=by kernel_rfl
theorem A70:∃ty pos aft x,(Id (sL bwX))[6]?=some { dst:=some 17,op:=.call { callee:=.value (.tmp 11),args:= #[.tmp 12,.tmp 16],argTypes:=x },type:=ty,pos:=pos,after:=aft,guard:=none }:=
 ⟨_,_,_,_,rfl⟩
abbrev bwS(yv:Value)(l:List (Int × Int))(i:Int):St:=⟨lk [(0,.sc yv),(1,.iptr [.lst false 2 l.length (Ll l)] 0),(3,Au i)],B3 []⟩
abbrev Auu(yv:Value)(l:List (Int × Int))(i kd t:Int):St:=⟨lk [(0,.sc yv),(1,.iptr [.lst false 2 l.length (Ll l)] 0),(3,Au i),(11,.sc yv),(12,Au i),(16,.agg [Au kd,Au t])],B3 []⟩
abbrev Bcl(yv:Value)(l:List (Int × Int))(i:Int)(e:Bool):St:=⟨lk [(0,.sc yv),(1,.iptr [.lst false 2 l.length (Ll l)] 0),(3,Au i),(17,.sc (.bool e))],B3 []⟩
abbrev A58(yv:Value)(l:List (Int × Int))(i:Int)(e:Bool):St:=⟨lk [(0,.sc yv),(1,.iptr [.lst false 2 l.length (Ll l)] 0),(3,Au i),(18,.sc (.bool e))],B3 []⟩
def bwM(l:List (Int × Int))(pre:Cc)(i:Nat)(args:Array Value)(Z:Nat->Prop)(A:World):Prop:=
 (∀j,i<j->j<l.length->j∈pre)/\∃p,l[i]?=some p/\args = #[.int .i64 i,.agg #[.int .i64 p.1,.int .i64 p.2]]
theorem Atb{l:List (Int × Int)}{pre:Cc}{i:Nat}{args:Array Value}{Z:Nat->Prop}{A:World}(hm:bwM l pre i args Z A):args.size=2:=by obtain⟨_,p,_,h⟩:=hm;rw[h];rfl
theorem Cj.stayA{N:Nat}{w0 w:World}{X0:Gt}{Y:Nat->Prop}{β:Bt}{s:St}{a:Act}(h:Cj N w0 X0 Y β s a w)(hx:∀b,¬X0.X b):Pr (fun b=>b<w0.heap.size) w0 w:=
 ⟨h.fr.os,h.fr.tape,h.fr.output,h.fr.step.size,fun b hb=>h.fr.step.keep b hb (hx b)⟩
theorem A0p(b:Nat):¬noL.X b:=fun h=>h
theorem hp0{id:Nat}{bx:Cb}:B3 [] id=some bx->False:=fun h=>by cases h
theorem Bad{β:Bt}{b:Nat}:¬JO (B3 []) β b:=fun ⟨_,_,h,_⟩=>(h:Db none).elim
section
variable {l:List (Int × Int)}{y:Nat}{w0:World}{X0:Gt}{Z:Nat->Prop}{β:Bt}{a:Act}{w:World}
theorem Axo{yv:Value}{i kd t:Int}(hs:Cj 19 w0 X0 Z β (Auu yv l i kd t) a w):
  a.tmps.getD 11 undef=yv/\a.tmps.getD 12 undef=.int .i64 i/\a.tmps.getD 16 undef=.agg #[.int .i64 kd,.int .i64 t]:=by
 refine⟨Ny (hs.tms 11 (by decide)),Ny (hs.tms 12 (by decide)),?_⟩;obtain⟨vs,h1,h2⟩:=(show ∃vs,a.tmps.getD 16 undef=.agg ⟨vs⟩/\Ca (Cz w (D4 (B3 []) β Z) β) [Au kd,Au t] vs from hs.tms 16 (by decide))
 match vs,h2 with
 |[u,v],⟨k1,k2,_⟩=>
  have e1:=Bd.val (w:=w) k1;have e2:=Bd.val (w:=w) k2;rw[h1,<-e1,<-e2]
theorem All{yv:Value}{i kd t:Int}{Z':Nat->Prop}{B:World}(b:Bool)(hs:Cj 19 w0 X0 Z β (Auu yv l i kd t) a w)(ht:V3 Z Z' w B):
  Cj 19 B (Aqd (Auu yv l i kd t) β) Z' β (Bcl yv l i b) (a.put (some 17) (.bool b)) B:=by
 have h1:=(hs.rebase ht (fun id c (e:(B3 [] id:Option Cb)=some (.st c))=>hp0 e)).put (d:=some 17) (v:=.sc (.bool b)) (val:=.bool b) rfl (Bd.sc _) (by simp[Cn,C2,Ba]);refine h1.pick _ _ ?_ ?_ ?_ ?_ (fun _ h=>h.elim)
 ·intro q hq;simp only[B7,Im,or_false] at hq;rcases hq with rfl|rfl|rfl|rfl<;>rfl
 ·intro q hq;cases hq
 ·intro q hq id B6;simp only[B7,Im,or_false] at hq;rcases hq with rfl|rfl|rfl|rfl<;>simp[Cn,C2,Ba] at B6
 ·intro q hq;cases hq
theorem ZY{J Jx:(Nat->Prop)->Cc->World->Prop}(hJ:∀Z pre A B,J Z pre A->Pr (fun b=>b<A.heap.size) A B->J Z pre B)(hJx:∀Z pre A B,Jx Z pre A->Pr (fun b=>b<A.heap.size) A B->Jx Z pre B)(hY:∀Z pre x args A,J Z pre A->bwM l pre x args Z A->YieldAt Fence.wide 0 prog y args A fun e B=>∃Z',V3 Z Z' A B/\((e=.returned (.bool true)/\J Z' (pre++[x]) B)\/(e=.returned (.bool false)/\Jx Z' (pre++[x]) B)))(hl:l.length<=100000){Q:Exit->Act->World->Prop}(Ac2:∀e a' w',e=.exit 0\/e=.ret->a'.defers=[]->(∃Z xs,((∀j,j<l.length->j∈xs)/\J Z xs w')\/Jx Z xs w')->Q e a' w'):
  ∀(k nn:Nat),k<=l.length->k<nn->∀{w0:World} {X0:Gt} {Z:Nat->Prop} {β:Bt} {a:Act} {w:World} {pre:Cc},
   Cj 19 w0 X0 Z β (bwS (.func (.yield y) #[] #[]) l ((k:Int)-1)) a w->(∀b,¬X0.X b)->(∀j,k<=j->j<l.length->j∈pre)->J Z pre w0->Code.roundsIn Fence.wide 0 prog bwL Q nn a w
 |_,0,_,h=>by omega
 |0,nn+1,hk,hn=>by
  intro hs hd Ahr hj;rename_i w0 X0 Z β a w pre;rw[roundsIn_succ];refine Rh Av4 (wpIn_seq (wpIn_wide.2 (D8 (Kk _ _) IF Ci hs (t:=1) (L:=11) (s1:=bwS (.func (.yield y) #[] #[]) l (((0:Nat):Int)-1)) ?_ ?_)))
  ·exact (Ase cl _ l.length (Ll l) _).trans (D6 _ _ _ (by omega))
  ·intro a' w' β' h';exact Ac2 _ a' w' (.inl rfl) h'.dfr ⟨Z,pre,.inl ⟨fun j hj2=>Ahr j (by omega) hj2,hJ Z pre _ _ hj (h'.stayA hd)⟩⟩
 |k+1,nn+1,hk,hn=>by
  intro hs hd Ahr hj;rename_i w0 X0 Z β a w pre;rw[roundsIn_succ];have ek:(((k+1:Nat):Int)-1)=(k:Int):=by omega
  rw[ek] at hs;refine Rh Av4 (wpIn_seq (wpIn_wide.2 (D8 (Kk _ _) IF Ci hs (t:=0) (L:=11) (s1:=bwS (.func (.yield y) #[] #[]) l (k:Int)) ?_ ?_)))
  ·exact (Ase cl _ l.length (Ll l) _).trans (IU _ _ _ (by omega))
  intro a1 w1 β1 RC;show (Code.seq (.block 1 bwX) (sR (sR bwL))).wpIn Fence.wide 0 prog _ a1 w1;refine wpIn_seq (wpIn_block (Rh A22 (wpIn_seq (wpIn_region ?_))));have hli:List.range (Id (sL bwX)).size=[0,1,2,3,4,5]++[6,7]:=by kernel_rfl
  rw[hli];have Cr:k<l.length:=by omega
  have hp:=List.getElem?_eq_getElem Cr;generalize l[k]=p at hp;obtain⟨g0,g1⟩:=At3 hp;refine H3 (ro:=none) (C:=CB) (call:=cl) (r:=((0:Nat),Auu (.func (.yield y) #[] #[]) l k p.1 p.2)) (Kk _ _) Ci ?_ [0,1,2,3,4,5] (List.take 6 (Id (sL bwX)).toList) (by kernel_rfl) ?_ (by kernel_rfl) RC ((A3x cl _ l.length (Ll l) k).trans ?_)
  rotate_left
  ·intro j i hj
   match j,hj with
   |0,hj=>cases hj;rfl
   |1,hj=>cases hj;rfl
   |2,hj=>cases hj;rfl
   |3,hj=>cases hj;rfl
   |4,hj=>cases hj;rfl
   |5,hj=>cases hj;rfl
  ·simp(disch:=omega)only[Bz,Bx,H6,g0,g1]
  intro s' a2 w2 β2 Hv XT;obtain⟨β3,s3,X3,hs3⟩:=Cm XT Hv;cases X3;obtain⟨v11,v12,v16⟩:=Axo hs3;have hjw:J Z pre w2:=hJ Z _ _ _ hj (hs3.stayA hd);have hm:bwM l pre k #[.int .i64 k,.agg #[.int .i64 p.1,.int .i64 p.2]] Z w2:=⟨fun j h1 h2=>Ahr j (by omega) h2,p,hp,rfl⟩
  obtain⟨fn,tmps,assign,body,hy,hR⟩:=hY Z _ k _ w2 hjw hm;obtain⟨ty,pos,aft,x,ho⟩:=A70;rw[wpOpsIn_cons];unfold wpOpIn;rw[ho];simp only[Region.wanted,if_true]
  have run:(execOp a2.eval { dst:=some 17,op:=.call { callee:=.value (.tmp 11),args:= #[.tmp 12,.tmp 16],argTypes:=x },type:=ty,pos:=pos,after:=aft,guard:=none }).run prog w2=.ok (.round y fn tmps assign body) w2:=by
   have e11:a2.eval (.tmp 11)=.func (.yield y) #[] #[]:=v11;have e12:a2.eval (.tmp 12)=.int .i64 k:=v12;have e16:a2.eval (.tmp 16)=.agg #[.int .i64 p.1,.int .i64 p.2]:=v16;refine Abh rfl rfl e11 ?_;rw[<-hy];simp only[List.map_toArray,Sn,List.map_nil,e12,e16]
  refine⟨fun _ _=>trivial,?_⟩;rw[show Oper.semAt (WF none).round a2.eval { dst:=some 17,op:=.call { callee:=.value (.tmp 11),args:= #[.tmp 12,.tmp 16],argTypes:=x },type:=ty,pos:=pos,after:=aft,guard:=none }=execOp a2.eval { dst:=some 17,op:=.call { callee:=.value (.tmp 11),args:= #[.tmp 12,.tmp 16],argTypes:=x },type:=ty,pos:=pos,after:=aft,guard:=none } from rfl,run];refine⟨(fun h=>by cases h),(PO hR).mono ?_⟩
  rintro e B ⟨Z',ht,he⟩
  have H9:∀b,¬(Aqd (Auu (.func (.yield y) #[] #[]) l k p.1 p.2) β3).X b:=fun b hb=>Bad hb;rcases he with⟨rfl,hj2⟩|⟨rfl,hj2⟩
  ·have h4:=All true hs3 ht;show wpOpsIn _ _ _ _ _ ([7]++[]) _ _;refine H3 (ro:=none) (C:=CB) (call:=cl) (r:=((0:Nat),A58 (.func (.yield y) #[] #[]) l k (!true))) (Kk _ _) Ci ?_ [7] (List.drop 7 (Id (sL bwX)).toList) (by kernel_rfl) ?_ (by kernel_rfl) h4 (Asz cl _ l.length (Ll l) k true)
   rotate_left
   ·intro j i hj
    match j,hj with
    |0,hj=>cases hj;rfl
   intro s' a5 w5 β5 hk5 BF;obtain⟨β6,s6,hk6,hs6⟩:=Cm BF hk5;cases hk6;show (sR bwX).wpIn Fence.wide 0 prog _ a5 w5;refine wpIn_wide.2 (XK (Kk _ _) IF Ci hs6 (t:=0) (L:=11) (s1:=bwS (.func (.yield y) #[] #[]) l k) (Atx cl _ l.length (Ll l) k false) ?_)
   rintro a' w' β' e' h' (⟨_,rfl⟩|⟨h1,_⟩|⟨id,h1,_⟩)
   ·show (sR (sR bwL)).wpIn Fence.wide 0 prog _ a' w';refine wpIn_wide.2 (D8 (Kk _ _) IF Ci h' (t:=0) (L:=11) (s1:=bwS (.func (.yield y) #[] #[]) l ((k:Int)-1)) ?_ ?_)
    ·have wk:wrap .i64 ((k:Int)-1)=(k:Int)-1:=Ag (by omega) (by omega);refine (A3i cl _ l.length (Ll l) k).trans ?_;simp only[Bz,Bx,wk]
    ·intro a7 w7 β7 h7
     exact ZY hJ hJx hY hl Ac2 k nn (by omega) (by omega) h7 H9 (fun j h1 h2=>B4.2 (by
      rcases Mh k j with h3|h3
      ·exact .inl (Ahr j (by omega) h2)
      ·exact .inr (M0.2 (by omega)))) hj2
   ·cases h1
   ·omega
  ·have h4:=All false hs3 ht;show wpOpsIn _ _ _ _ _ ([7]++[]) _ _;refine H3 (ro:=none) (C:=CB) (call:=cl) (r:=((0:Nat),A58 (.func (.yield y) #[] #[]) l k (!false))) (Kk _ _) Ci ?_ [7] (List.drop 7 (Id (sL bwX)).toList) (by kernel_rfl) ?_ (by kernel_rfl) h4 (Asz cl _ l.length (Ll l) k false)
   rotate_left
   ·intro j i hj
    match j,hj with
    |0,hj=>cases hj;rfl
   intro s' a5 w5 β5 hk5 BF;obtain⟨β6,s6,hk6,hs6⟩:=Cm BF hk5;cases hk6;show (sR bwX).wpIn Fence.wide 0 prog _ a5 w5;refine wpIn_wide.2 (XK (Kk _ _) IF Ci hs6 (t:=1) (L:=11) (s1:=bwS (.func (.yield y) #[] #[]) l k) (Atx cl _ l.length (Ll l) k true) ?_)
   rintro a' w' β' e' h' (⟨h1,_⟩|⟨_,rfl⟩|⟨id,h1,rfl⟩)
   ·cases h1
   ·exact Ac2 _ a' w' (.inr rfl) h'.dfr ⟨Z',_,.inr (hJx Z' _ _ _ hj2 (h'.stayA H9))⟩
   ·omega
end
end
section
open Go Go.RowKit Go.Shelf
def A7a(S0:Nat)(l:List (Int × Int))(Z0:Nat->Prop)(W:World):Prop:=YL W Z0 ⟨S0,0,none⟩ [.lst false 2 l.length (Ll l)]/\S0<W.heap.size/\¬Z0 S0
theorem Axi{S0:Nat}{l:List (Int × Int)}(hl:l.length<=100000):A1d prog 93 #[.pointer (some ⟨S0,0,none⟩)] (bwM l) (fun xs=>∀j,j<l.length->j∈xs) (fun _=>True) (A7a S0 l):=by
 intro y J Jx W Z0 hZ hP hJ hJx hY h0;obtain⟨p1,p2,p3⟩:=hP;refine callsIn_wide.1 (callsIn_of_wp (F:=Fence.wide) (n:=0) Tryz.func93 rfl trivial ?_ rfl);show bwC.wpIn _ _ _ _ _ _;have t1:(({ tmps:=(#[Value.func (.yield y) #[] #[]] ++ #[Value.pointer (some ⟨S0,0,none⟩)])++Array.replicate (Tryz.f93.ntmps-(#[Value.func (.yield y) #[] #[]] ++ #[Value.pointer (some ⟨S0,0,none⟩)]).size) undef,defers:=[] }:Act))={ tmps:=(Value.func (.yield y) #[] #[]::Value.pointer (some ⟨S0,0,none⟩)::List.replicate 17 undef).toArray,defers:=[] }:=by kernel_rfl
 rw[t1]
 have i0:Cj 19 W noL Z0 (fun _=>none) ⟨lk [(0,.sc (.func (.yield y) #[] #[])),(1,.iptr [.lst false 2 l.length (Ll l)] 0)],B3 []⟩ { tmps:=(Value.func (.yield y) #[] #[]::Value.pointer (some ⟨S0,0,none⟩)::List.replicate 17 undef).toArray,defers:=[] } W:=by
  refine Cj.init _ _ rfl (by simp) ?_ ?_ ?_ hZ
  ·intro q hq;simp only[B7,Im,or_false] at hq;rcases hq with rfl|rfl<;>simp
  ·intro q hq;simp only[B7,Im,or_false] at hq;rcases hq with rfl|rfl
   ·exact Bd.sc _
   ·exact⟨⟨S0,0,none⟩,rfl,rfl,p2,p3,p1⟩
  ·intro q hq;simp only[B7,Im,or_false] at hq;rcases hq with rfl|rfl<;>rfl
 generalize ({ tmps:=(Value.func (.yield y) #[] #[]::Value.pointer (some ⟨S0,0,none⟩)::List.replicate 17 undef).toArray,defers:=[] }:Act)=a0 at i0 ⊢;refine Rh A34 (wpIn_seq (wpIn_wide.2 (D8 (Kk _ _) IF Ci i0 (L:=11) (t:=0) (s1:=bwS (.func (.yield y) #[] #[]) l ((l.length:Int)-1)) ?_ ?_)))
 ·have wk:wrap .i64 ((l.length:Int)-1)=(l.length:Int)-1:=Ag (by omega) (by omega);refine (A2p cl _ l.length (Ll l)).trans ?_;simp only[Bz,Bx,wk]
 intro a1 w1 β1 h1;refine wpIn_block (wpIn_loop_rounds (l.length+1) (ZY hJ hJx hY hl ?_ l.length (l.length+1) (Da _) (by omega) h1 A0p (fun j h1 h2=>by omega) h0))
 rintro e a5 w5 he h5 ⟨Z,xs,h6⟩
 have h7:∃Z xs,((∀j,j<l.length->j∈xs)/\J Z xs w5)\/(True/\Jx Z xs w5):=⟨Z,xs,h6.imp (fun x=>x) fun x=>⟨trivial,x⟩⟩
 rcases he with rfl|rfl
 ·exact⟨h5,_,results_none rfl _ _ _,⟨_,rfl⟩,h7⟩
 ·exact⟨h5,_,results_none rfl _ _ _,⟨_,rfl⟩,h7⟩
set_option maxHeartbeats 2000000 in
theorem Ay1(ad:Option Addr)(n c:Int)(m:Nat)(w:World)(k q:Nat):CallsIn Fence.wide m prog 53 #[.slice ad k q] w fun e w'=>
  e=.returned (.func (.func 93) #[] #[.pointer (some ⟨w.heap.size,0,none⟩)])/\w'=w.alloc (.cells #[.slice ad k q] 59):=by
 refine callsIn_of_wp Tryz.func53 rfl trivial ?_ rfl;simp only[Tryz.ntmps53,List.size_toArray,He,Ud,Nat.reduceAdd,Nat.reduceSub,Array.replicate_succ,Array.replicate_zero,List.push_toArray,List.append_toArray,UG,Zzp]
 gi_wp2
 go_ret
 exact⟨rfl,rfl⟩
end
section
open Go Go.RowKit
structure RU(wS:World)(D b6 o6:Nat)(v:Int)(Z:Nat->Prop)(A:World):Prop where
 os:A.os=wS.os
 tape:A.tape=wS.tape
 output:A.output=wS.output
 size:D+2<=A.heap.size
 zlt:∀b,Z b->b<A.heap.size
 z6:Z b6
 zn:∀b,Z b->b=b6\/D<=b
 keep:∀b,b<D->b≠b6->A.heap[b]?=wS.heap[b]?
 bs:bsz wS b6<=bsz A b6
 c6:A.cell? ⟨b6,o6,none⟩=some (.int .i64 v)
 f6:A.frozen? ⟨b6,o6,none⟩=false
theorem RU.stay{wS:World}{D b6 o6:Nat}{v:Int}{Z:Nat->Prop}{A B:World}(hI:RU wS D b6 o6 v Z A)(l6:b6<D)(hs:Pr (fun b=>b<A.heap.size/\b≠D/\b≠D+1) A B):RU wS D b6 o6 v Z B:=by
 have hz:=hI.size;have e:∀b,b<D->B.heap[b]?=A.heap[b]?:=fun b hb=>hs.same b ⟨by omega,by omega,by omega⟩;have hb6:bsz B b6=bsz A b6:=by unfold bsz;rw[e b6 l6]
 exact⟨hs.os.trans hI.os,hs.tape.trans hI.tape,hs.output.trans hI.output,Nat.le_trans hI.size hs.size,fun b hb=>Jp (hI.zlt b hb) hs.size,hI.z6,hI.zn,fun b hb hn=>(e b hb).trans (hI.keep b hb hn),by rw[hb6];exact hI.bs,
  (World.cell?_of_block (e b6 l6)).trans hI.c6,by rw[frozen?_of_block (e b6 l6)];exact hI.f6⟩
def A2m(l:List (Int × Int))(now:Int)(pre:Cc):Prop:=∀j∈pre,∀p,l[j]?=some p->now<p.2
structure Ay0(v5 v6:Value)(D:Nat)(kd t:Int)(a:Act)(A:World):Prop where
 dfr:a.defers=[]
 size:a.tmps.size=28
 t5:a.tmps.getD 5 undef=v5
 t6:a.tmps.getD 6 undef=v6
 t10:∃b o,a.tmps.getD 10 undef=.pointer (some ⟨b,o,none⟩)/\D+2<=b/\b<A.heap.size/\A.cell? ⟨b,o,none⟩=some (.int .i64 kd)/\A.cell? ⟨b,o+1,none⟩=some (.int .i64 t)
theorem Ay0.stay{v5 v6:Value}{D:Nat}{kd t:Int}{a:Act}{A B:World}(h:Ay0 v5 v6 D kd t a A)(hs:Pr (fun b=>b<A.heap.size/\b≠D/\b≠D+1) A B):Ay0 v5 v6 D kd t a B:=by obtain⟨b,o,h1,h2,h3,h4,h5⟩:=h.t10;have e:B.heap[b]?=A.heap[b]?:=hs.same b ⟨h3,by omega,by omega⟩;exact⟨h.dfr,h.size,h.t5,h.t6,b,o,h1,h2,Jp h3 hs.size,(World.cell?_of_block e).trans h4,(World.cell?_of_block (a:=⟨b,o+1,none⟩) e).trans h5⟩
def A3m(wS:World)(D b6 o6:Nat)(v5 v6:Value)(l:List (Int × Int))(now:Int)(Z:Nat->Prop)(pre:Cc)(x:Nat)(a:Act)(A:World):Prop:=
 RU wS D b6 o6 0 Z A/\A2m l now pre/\(∀j,x<j->j<l.length->j∈pre)/\∃p,l[x]?=some p/\Ay0 v5 v6 D p.1 p.2 a A
def stI(wS:World)(D b6 o6:Nat)(l:List (Int × Int))(now:Int)(Z:Nat->Prop)(pre:Cc)(A:World):Prop:=RU wS D b6 o6 0 Z A/\A2m l now pre
def A1u(wS:World)(D b6 o6:Nat)(l:List (Int × Int))(now:Int)(c:Code)(Z:Nat->Prop)(xs:Cc)(B:World):Prop:=
 c=.ret/\∃pre x p,A2m l now pre/\(∀j,x<j->j<l.length->j∈pre)/\l[x]?=some p/\p.2<=now/\RU wS D b6 o6 p.1 Z B
theorem Aqj{wS:World}{D b6 o6:Nat}{v5 v6:Value}{l:List (Int × Int)}{now:Int}{Z:Nat->Prop}{pre:Cc}{x:Nat}{args:Array Value}{A:World}{a:Act}{K:Act->World->Prop}(l6:b6<D)(hI:stI wS D b6 o6 l now Z pre A)(hm:bwM l pre x args Z A)(hd:a.tmps.size=28)(h5:a.tmps.getD 5 undef=v5)(h6:a.tmps.getD 6 undef=v6)(hK:∀Z1 a' A1,V3 Z Z1 A A1->A1.heap[D]?=A.heap[D]?->A1.heap[D+1]?=A.heap[D+1]?->A3m wS D b6 o6 v5 v6 l now Z1 pre x a' A1->K a' A1):
  Amx.wpIn (Fence.wide.inRound (D+1)) 0 prog (Exit.then K (fun _ _ _=>False)) { tmps:=((#[20,21]:Array Tmp).zip args).foldl (fun t (p,v)=>t.setIfInBounds p v) a.tmps,defers:=[] } A:=by
 obtain⟨hI1,hI2⟩:=hI;obtain⟨WP,p,hp,rfl⟩:=hm;obtain⟨b0,YA⟩:∃b0:Act,({ tmps:=a.tmps,defers:=[] }:Act)=b0:=⟨_,rfl⟩
 have TY:b0.tmps.size=28:=by rw[<-YA];exact hd
 have ez:((#[20,21]:Array Tmp).zip #[Value.int .i64 (x:Int),.agg #[.int .i64 p.1,.int .i64 p.2]]) = #[(20,Value.int .i64 (x:Int)),(21,.agg #[.int .i64 p.1,.int .i64 p.2])]:=by simp
 have ea:({ tmps:=((#[20,21]:Array Tmp).zip #[Value.int .i64 (x:Int),.agg #[.int .i64 p.1,.int .i64 p.2]]).foldl (fun t (p,v)=>t.setIfInBounds p v) a.tmps,defers:=[] }:Act)=(b0.put (some 20) (.int .i64 (x:Int))).put (some 21) (.agg #[.int .i64 p.1,.int .i64 p.2]):=by
  rw[ez,<-YA];simp[Act.put]
 rw[ea];have hd0:b0.defers=[]:=by rw[<-YA]
 have ht0:b0.tmps=a.tmps:=by rw[<-YA]
 obtain⟨a1,ha1⟩:∃a1,(b0.put (some 20) (.int .i64 (x:Int))).put (some 21) (.agg #[.int .i64 p.1,.int .i64 p.2])=a1:=⟨_,rfl⟩
 rw[ha1];have z1:a1.defers=[]:=by rw[<-ha1];simp only[Ln,hd0]
 have z2:a1.tmps.size=28:=by rw[<-ha1];simp only[I1,TY]
 have z5:a1.tmps.getD 5 undef=v5:=by rw[<-ha1,Gg (by decide),Gg (by decide),ht0];exact h5
 have z6:a1.tmps.getD 6 undef=v6:=by rw[<-ha1,Gg (by decide),Gg (by decide),ht0];exact h6
 have z21:a1.tmps.getD 21 undef=.agg #[.int .i64 p.1,.int .i64 p.2]:=by rw[<-ha1,IH (by simp only[I1,TY];decide)]
 have i0:Cj 28 A noL (fun _=>False) (fun _=>none) ⟨lk [(5,.sc v5),(6,.sc v6),(21,.agg [Au p.1,Au p.2])],B3 []⟩ a1 A:=by
  refine Cj.init _ _ z1 z2 ?_ ?_ ?_ (fun _ h=>h.elim)
  ·intro q hq;simp only[B7,Im,or_false] at hq;rcases hq with rfl|rfl|rfl<;>simp
  ·intro q hq;simp only[B7,Im,or_false] at hq;rcases hq with rfl|rfl|rfl
   ·rw[z5];exact Bd.sc _
   ·rw[z6];exact Bd.sc _
   ·exact⟨[.int .i64 p.1,.int .i64 p.2],z21,Bd.sc _,Bd.sc _,trivial⟩
  ·intro q hq;simp only[B7,Im,or_false] at hq;rcases hq with rfl|rfl|rfl<;>rfl
 refine IX (ro:=some (D+1)) (Kk _ _) IF Ci (by kernel_rfl) (fun _ _ h=>h) i0 (t:=0) (L:=1120) (s1:=⟨lk [(5,.sc v5),(6,.sc v6),(10,.ptr 10 0)],B3 [(10,.st [Au p.1,Au p.2])]⟩) (A1y cl v5 v6 p.1 p.2) ?_;intro a2 w2 β2 h2;have K9:=hI1.size;have Hm:=h2.stayA A0p;have keep:∀b,b<A.heap.size->w2.heap[b]?=A.heap[b]?:=Hm.same;obtain⟨b10,o10,e10,t10,l10,k10,_⟩:=h2.var (i:=10) (id:=10) (by decide) rfl rfl;obtain⟨v0,q0,r0⟩:=k10 0 _ rfl;obtain⟨v1,q1,r1⟩:=k10 1 _ rfl;have r0:=Bd.val r0;have r1:=Bd.val r1;subst r0 r1;have g10:A.heap.size<=b10:=(h2.ownd b10 ⟨10,o10,by trivial,e10⟩).elim (fun h=>h.elim) (fun h=>h)
 refine hK (fun b=>Z b\/(A.heap.size<=b/\b<w2.heap.size)) a2 w2 ⟨h2.fr.os,h2.fr.tape,h2.fr.output,h2.fr.step.size,fun b hb _=>keep b hb,fun b hb=>.inl hb,fun b hb=>hb.imp (fun h=>h) (·.1),fun b hb=>hb.elim (fun h=>Jp (hI1.zlt b h) h2.fr.step.size) (·.2),h2.fr.step.bs⟩ (keep D (by omega)) (keep (D+1) (by omega)) ⟨?_,hI2,WP,p,hp,⟨h2.dfr,h2.tsz,Ny (h2.tms 5 (by decide)),Ny (h2.tms 6 (by decide)),b10,o10,t10,by omega,l10,q0,q1⟩⟩;have k6:=keep b6 (by omega)
 exact⟨h2.fr.os.trans hI1.os,h2.fr.tape.trans hI1.tape,h2.fr.output.trans hI1.output,Nat.le_trans K9 h2.fr.step.size,fun b hb=>hb.elim (fun h=>Jp (hI1.zlt b h) h2.fr.step.size) (·.2),.inl hI1.z6,fun b hb=>hb.elim (hI1.zn b) (fun h=>.inr (by omega)),fun b hb hn=>(keep b (by omega)).trans (hI1.keep b hb hn),
  Nat.le_trans hI1.bs (h2.fr.step.bs b6 (by omega)),(World.cell?_of_block k6).trans hI1.c6,by rw[frozen?_of_block k6];exact hI1.f6⟩
theorem Alv{B:World}{Y:Nat->Prop}{a:Act}{l:List (Nat × PV)}{b6 o6:Nat}{v:Int}(hd:a.defers=[])(K9:a.tmps.size=28)(Cr:∀q∈l,q.1<28)(c6:B.cell? ⟨b6,o6,none⟩=some (.int .i64 v))(f6:B.frozen? ⟨b6,o6,none⟩=false)(l6:b6<B.heap.size)(y6:¬Y b6)(hY:∀b,Y b->b<B.heap.size)(hv:∀(β:Bt),β 56000=some (b6,o6)->(∀b,D4 (B3 [(56000,.st [Au v])]) β Y b->b=b6\/Y b)->∀q∈l,Fe B (D4 (B3 [(56000,.st [Au v])]) β Y) β q.2 (a.tmps.getD q.1 undef))(hr:∀q∈l,∀id∈Cn q.2,id=56000):
  ∃X0 β,(∀b,X0.X b->b=b6)/\X0.pt 0=some (b6,o6)/\X0.pn 0/\(∀i,X0.pn i->i=0)/\Cj 28 B X0 Y β ⟨lk l,B3 [(56000,.st [Au v])]⟩ a B:=by
 obtain⟨β,hβ⟩:∃β:Bt,β=fun id=>if id=56000 then some (b6,o6) else none:=⟨_,rfl⟩
 have e1:β 56000=some (b6,o6):=by rw[hβ];rfl
 have Zx:∀id bx,B3 [(56000,Cb.st [Au v])] id=some bx->id=56000/\bx=.st [Au v]:=by
  intro id bx e;rcases Vr [(56000,Cb.st [Au v])] id with h1|⟨p,hp,h1,h2⟩
  ·rw[h1] at e;cases e
  ·rw[h2] at e;cases e;simp only[B7,Im,or_false] at hp;subst hp;exact⟨h1.symm,rfl⟩
 have hX:∀b,JO (B3 [(56000,Cb.st [Au v])]) β b->b=b6:=by
  rintro b' ⟨id,o',hl,hb⟩
  cases hh:B3 [(56000,Cb.st [Au v])] id with
  |none=>rw[hh] at hl;exact hl.elim
  |some bx=>
   obtain⟨rfl,_⟩:=Zx id bx hh;rw[e1] at hb;cases hb;rfl
 have hA:∀b,D4 (B3 [(56000,Cb.st [Au v])]) β Y b->b=b6\/Y b:=fun b hb=>hb.imp (hX b) (fun x=>x);refine⟨_,β,hX,e1,rfl,fun i hi=>hi,Cj.make l [(56000,.st [Au v])] a (fun i=>i=0) (fun i hi=>by omega) hd K9 Cr (hv β e1 hA) ?_ ?_ ?_ ?_ ?_ ?_ ?_ ?_ hY⟩
 ·intro id bx e;obtain⟨rfl,rfl⟩:=Zx id bx e;refine⟨b6,o6,e1,fun j c hj=>?_,fun j hj=>?_⟩
  ·match j,hj with
   |0,hj=>cases hj;exact⟨_,c6,Bd.sc _⟩
  ·match j,hj with
   |0,_=>exact f6
 ·intro id id' b1 o1 o2 g1 g2 g3 g4
  have B6:∀i,Db (B3 [(56000,Cb.st [Au v])] i)->i=56000:=by
   intro i hi;cases hh:B3 [(56000,Cb.st [Au v])] i with
   |none=>rw[hh] at hi;exact hi.elim
   |some bx=>exact (Zx i bx hh).1
  rw[B6 id g1,B6 id' g2]
 ·intro id b1 o1 g1 g2;cases hh:B3 [(56000,Cb.st [Au v])] id with
  |none=>exact absurd hh g1
  |some bx=>
   obtain⟨rfl,_⟩:=Zx id bx hh;rw[e1] at g2;cases g2;exact l6
 ·intro p hp id B6;rw[hr p hp id B6];simp[B3]
 ·intro id cells e c hc i hi;obtain⟨rfl,e'⟩:=Zx id _ e;cases e';simp only[B7,Im,or_false] at hc;subst hc;simp[Ba] at hi
 ·intro i hi;subst hi;simp[B3,Ef]
 ·intro id c e;obtain⟨rfl,_⟩:=Zx id _ e;exact⟨0,rfl,rfl⟩
 ·intro b hy hx;rw[hX b hx] at hy;exact y6 hy
theorem Anj{wS:World}{D b6 o6:Nat}{v v':Int}{Z:Nat->Prop}{A w':World}{X0:Gt}{β':Bt}{a':Act}(l6:b6<D)(hI:RU wS D b6 o6 v Z A)(hx1:X0.pt 0=some (b6,o6))(hx2:X0.pn 0)(hX:∀b,X0.X b->b=b6)(hs:Cj 28 A X0 (fun _=>False) β' ⟨lk [(6,.ptr 56000 0)],B3 [(56000,.st [Au v'])]⟩ a' w'):
  V3 Z (fun b=>Z b\/(A.heap.size<=b/\b<w'.heap.size)) A w'/\w'.heap[D]?=A.heap[D]?/\w'.heap[D+1]?=A.heap[D+1]?/\RU wS D b6 o6 v' (fun b=>Z b\/(A.heap.size<=b/\b<w'.heap.size)) w':=by
 have K9:=hI.size;have Hm:=hs.fr.step;have same:∀b,b<A.heap.size->b≠b6->w'.heap[b]?=A.heap[b]?:=fun b hb hn=>Hm.keep b hb fun hx=>hn (hX b hx);have hp:β' 56000=some (b6,o6):=(hs.pin 0 hx2).2.trans hx1;obtain⟨b,o,g1,g2,g3⟩:=(show ∃b o,β' 56000=some (b,o)/\_/\_ from hs.box 56000 _ (rfl:_=some (Cb.st [Au v'])))
 rw[hp] at g1;cases g1;obtain⟨v0,q0,r0⟩:=g2 0 _ rfl;have r0:=Bd.val r0;subst r0
 refine⟨⟨hs.fr.os,hs.fr.tape,hs.fr.output,Hm.size,fun b hb hn=>same b hb fun e=>hn (e ▸ hI.z6),fun b hb=>.inl hb,fun b hb=>hb.imp (fun x=>x) (·.1),fun b hb=>hb.elim (fun h1=>Jp (hI.zlt b h1) Hm.size) (·.2),Hm.bs⟩,
  same D (by omega) (by omega),same (D+1) (by omega) (by omega),?_⟩
 exact⟨hs.fr.os.trans hI.os,hs.fr.tape.trans hI.tape,hs.fr.output.trans hI.output,by have:=Hm.size;omega,fun b hb=>hb.elim (fun h1=>Jp (hI.zlt b h1) Hm.size) (·.2),.inl hI.z6,fun b hb=>hb.elim (hI.zn b) (fun h=>.inr (by omega)),fun b hb hn=>(same b (by omega) hn).trans (hI.keep b hb hn),Nat.le_trans hI.bs (Hm.bs b6 (by omega)),q0,g3 0 (Nat.zero_lt_succ _)⟩
theorem Arr{wS:World}{D b5 o5 b6 o6:Nat}{l:List (Int × Int)}{now:Int}{Z:Nat->Prop}{pre:Cc}{x:Nat}{a:Act}{A:World}(l5:b5<D)(l6:b6<D)(n5:b5≠b6)(h5:wS.cell? ⟨b5,o5,none⟩=some (.int .i64 now))(hn:A3m wS D b6 o6 (.pointer (some ⟨b5,o5,none⟩)) (.pointer (some ⟨b6,o6,none⟩)) l now Z pre x a A):
  Adu.wpIn (WF (some (D+1))) 0 prog (OL D (stI wS D b6 o6 l now) (A1u wS D b6 o6 l now) Z (pre++[x]) A) a A:=by
 obtain⟨hI,A7p,Ahr,p,hp,hN⟩:=hn;obtain⟨b10,o10,t10,g10,l10,c0,c1⟩:=hN.t10;have K9:=hI.size
 obtain⟨X0,β,hX,hx1,hx2,_,hs⟩:=Alv (B:=A) (Y:=fun _=>False) (a:=a) (l:=[(5,.iptr [Au now] 0),(6,.ptr 56000 0),(10,.iptr [Au p.1,Au p.2] 0)]) (b6:=b6) (o6:=o6) (v:=0) hN.dfr hN.size (by
   intro q hq;simp only[B7,Im,or_false] at hq;rcases hq with rfl|rfl|rfl<;>simp) hI.c6 hI.f6 (by omega) (fun h=>h) (fun _ h=>h.elim) (by
   intro β e1 hA q hq;simp only[B7,Im,or_false] at hq;rcases hq with rfl|rfl|rfl
   ·refine⟨⟨b5,o5,none⟩,hN.t5,rfl,by show b5<_;omega,fun hb=>?_,fun j c hj=>?_⟩
    ·rcases hA _ hb with h1|h1
     ·exact n5 h1
     ·exact h1
    ·match j,hj with
     |0,hj=>cases hj;exact⟨_,(World.cell?_of_block (a:=⟨b5,o5,none⟩) (hI.keep b5 l5 n5)).trans h5,rfl,Bd.sc _⟩
   ·exact⟨b6,o6,e1,hN.t6⟩
   ·refine⟨⟨b10,o10,none⟩,t10,rfl,l10,fun hb=>?_,fun j c hj=>?_⟩
    ·rcases hA _ hb with h1|h1
     ·have h1:b10=b6:=h1;omega
     ·exact h1
    ·match j,hj with
     |0,hj=>cases hj;exact⟨_,c0,rfl,Bd.sc _⟩
     |1,hj=>cases hj;exact⟨_,c1,rfl,Bd.sc _⟩) (by
   intro q hq id B6;simp only[B7,Im,or_false] at hq;rcases hq with rfl|rfl|rfl<;>simp[Cn,C2,Ba] at B6
   exact B6)
 have JM:∀a w,¬OL D (stI wS D b6 o6 l now) (A1u wS D b6 o6 l now) Z (pre++[x]) A .outgrown a w:=fun a w ⟨_,_,_,_,hf⟩=>hf;by_cases FC:p.2<=now
 ·refine QU (Kk _ _) IF Ci (by kernel_rfl) JM hs (t:=1) (L:=64) (s1:=⟨lk [(6,.ptr 56000 0)],B3 [(56000,.st [Au p.1])]⟩) ((Avc cl now p.1 p.2).trans (IU _ _ _ FC)) ?_
  rintro a' w' β' e' h' (⟨h1,_⟩|⟨_,rfl⟩|⟨id,h1,_⟩)
  ·cases h1
  ·obtain⟨k1,k2,k3,k4⟩:=Anj l6 hI hx1 hx2 hX h';exact⟨_,k1,k2,k3,rfl,pre,x,p,A7p,Ahr,hp,FC,k4⟩
  ·omega
 ·refine QU (Kk _ _) IF Ci (by kernel_rfl) JM hs (t:=0) (L:=64) (s1:=⟨lk [(6,.ptr 56000 0)],B3 [(56000,.st [Au 0])]⟩) ((Avc cl now p.1 p.2).trans (D6 _ _ _ FC)) ?_
  rintro a' w' β' e' h' (⟨_,rfl⟩|⟨h1,_⟩|⟨id,h1,_⟩)
  ·obtain⟨k1,k2,k3,k4⟩:=Anj l6 hI hx1 hx2 hX h';refine⟨_,k1,k2,k3,k4,fun j hj q hq=>?_⟩;rcases B4.1 hj with h1|h1
   ·exact A7p j h1 q hq
   ·rw[M0.1 h1,hp] at hq;cases hq;omega
  ·cases h1
  ·omega
end
def En.cells(e:En):Ab:=[Af e.k,.lst false 3 e.na e.an,.lst false 2 e.ns e.st]
theorem En.cells_len(e:En):e.cells.length=3:=rfl
def Pf(l:List En):Ab:=l.flatMap En.cells
def En.fit(e:En):Prop:=e.an.length=e.na*3/\e.st.length=e.ns*2/\e.na<=1000/\e.ns<=1000
theorem At2{l:List En}{i:Nat}{e:En}(h:l[i]?=some e):(Pf l).getD (i*3) .top=Af e.k/\(Pf l).getD (i*3+1) .top=.lst false 3 e.na e.an/\(Pf l).getD (i*3+2) .top=.lst false 2 e.ns e.st:=
 ⟨H4 En.cells_len h (j:=0) (by omega),H4 En.cells_len h (j:=1) (by omega),H4 En.cells_len h (j:=2) (by omega)⟩
theorem Ah7{c:Ab}{es:List En}(h:BE c=some es):c=Pf es/\∀e∈es,e.fit:=by
 fun_induction BE c generalizing es with
 |case1=>cases h;exact⟨rfl,fun e he=>by cases he⟩
 |case2 k na an ns st r hb ih=>
  simp only[G6] at hb;obtain⟨⟨⟨b1,b2⟩,b3⟩,b4⟩:=hb;cases hr:BE r with
  |none=>rw[hr] at h;cases h
  |some es'=>
   rw[hr] at h;cases h;obtain⟨h1,h2⟩:=ih hr;refine⟨by rw[h1];rfl,fun e he=>?_⟩
   rcases B7.1 he with rfl|he
   ·exact⟨Ez b1,Ez b2,Ya b3,Ya b4⟩
   ·exact h2 e he
 |case3=>cases h
 |case4=>cases h
theorem Aeg{st:Ab}{l:List (Int × Int)}(h:Tt st=some l):st=Ll l:=by
 fun_induction Tt st generalizing l with
 |case1=>cases h;rfl
 |case2 k t r ih=>
  cases hr:Tt r with
  |none=>rw[hr] at h;cases h
  |some l'=>
   rw[hr] at h;cases h;rw[ih hr];rfl
 |case3=>cases h
section
variable {xs:FuncId->Option (Ab->Option Dt)}{fu d:Nat}
theorem A2f{n:Nat}{c:Ab}(h:c.length=n*3)(hn:n<=1000):Aq (CX xs) prog fu (d+1) 71 [.lst false 3 n c]=some ⟨[.lst false 3 n c],[]⟩:=by
 refine (Qb fu d n c).trans ?_;have t:List.take (n*3) c=c:=Hg (by omega);by_cases h0:0<n
 ·simp(disch:=omega)only[Bz,Bx,UG,Ck,Er,h,t]
 ·obtain rfl:n=0:=by omega
  have:c=[]:=List.length_eq_zero_iff.1 (by omega);subst this;simp(disch:=omega)only[Bz,Bx,UG,Ck,Er,Ud,Nat.zero_mul,List.take_nil]
theorem A3h{n:Nat}{c:Ab}(h:c.length=n*2)(hn:n<=1000):Aq (CX xs) prog fu (d+1) 72 [.lst false 2 n c]=some ⟨[.lst false 2 n c],[]⟩:=by
 refine (Qc fu d n c).trans ?_;have t:List.take (n*2) c=c:=Hg (by omega);by_cases h0:0<n
 ·simp(disch:=omega)only[Bz,Bx,UG,Ck,Er,h,t]
 ·obtain rfl:n=0:=by omega
  have:c=[]:=List.length_eq_zero_iff.1 (by omega);subst this;simp(disch:=omega)only[Bz,Bx,UG,Ck,Er,Ud,Nat.zero_mul,List.take_nil]
theorem A2w{e:En}(h:e.fit):Aq (CX xs) prog fu (d+2) 37 [.agg e.cells]=some ⟨[.agg e.cells],[]⟩:=by refine (R3 fu (d+1) e.k e.na e.an e.ns e.st).trans ?_;have a:=A2f (xs:=xs) (fu:=fu) (d:=d) h.1 h.2.2.1;have s:=A3h (xs:=xs) (fu:=fu) (d:=d) h.2.1 h.2.2.2;simp only[Bz,Bx,a,s];rfl
def en0:En:=⟨0,0,[],0,[]⟩
def Zp(model:Int)(es:List En):En:=(es.find? fun e=>e.k==model).getD en0
theorem As6(model:Int)(es:List En):(Zp model es).st=Ak6 model es:=by unfold Zp Ak6;cases es.find? fun e=>e.k==model<;>rfl
theorem Ap9{model:Int}{es:List En}(h:∀e∈es,e.fit):(Zp model es).fit:=by
 unfold Zp;cases hf:es.find? fun e=>e.k==model with
 |none=>exact⟨rfl,rfl,by decide,by decide⟩
 |some e=>exact h e (List.mem_of_find?_eq_some hf)
theorem Avm{C7 Ch D0 AZ a1:Int}{Po Pp Px:Nat}{BD BJ AK:Ab}{es:List En}(hn:es.length<=1000)(hf:∀e∈es,e.fit){model:Int}:∀(r:List En)(i nn:Nat),es.drop i=r->r.length<nn ->
  ∃b,Kb fu (Aq (CX xs) prog fu (d+2)) C7 Ch D0 Po BD AZ Pp BJ Px AK a1 nn model es.length (Pf es) (es.length:Int) (i:Int) 0 0 0 [] []=some ⟨[.agg (Zp model r).cells,.sc (.bool b)],[]⟩
 |_,_,0,_,h=>by omega
 |[],i,nn+1,hr,M6=>by
  have hi:=drop_nil hr;refine⟨false,?_⟩;rw[Rt];simp(disch:=omega)only[Bz,Bx];rfl
 |e::r,i,nn+1,hr,M6=>by
  obtain⟨Cr,h1,h2⟩:=C8 hr;obtain⟨g0,g1,g2⟩:=At2 h1;have g2':(Pf es).getD (i*3+1+1) .top=.lst false 2 e.ns e.st:=g2;rw[Rt];by_cases hk:e.k=model
  ·refine⟨true,?_⟩;have q:(e.k==model)=true:=by simp[hk]
   have cp:=A2w (xs:=xs) (fu:=fu) (d:=d) (hf e (List.mem_of_getElem? h1));have fe:Zp model (e::r)=e:=by unfold Zp;rw[List.find?_cons_of_pos (by simpa using hk)];rfl
   rw[fe];simp only[En.cells] at cp;simp(disch:=omega)only[Bz,Bx,H6,g0,g1,g2',q,cp];rfl
  ·have q:(e.k==model)=false:=by simp[hk]
   have w:wrap .i64 ((i:Int)+1)=((i+1:Nat):Int):=by rw[Ag (by omega) (by omega)];omega
   obtain⟨b,ih⟩:=Avm (C7:=C7) (Ch:=Ch) (D0:=D0) (AZ:=AZ) (a1:=a1) (Po:=Po) (Pp:=Pp) (Px:=Px) (BD:=BD) (BJ:=BJ) (AK:=AK) hn hf (model:=model) r (i+1) nn h2 (by simp only[He] at M6;omega)
   have fe:Zp model (e::r)=Zp model r:=by unfold Zp;rw[List.find?_cons_of_neg (by simpa using hk)]
   refine⟨b,?_⟩;rw[fe,<-ih];simp(disch:=omega)only[Bz,Bx,H6,g0,g1,g2',q,w]
theorem A3f{es:List En}(hn:es.length<=1000)(Bo:1000<fu)(hf:∀e∈es,e.fit)(v i x lf model:Int)(n1 n2:Nat)(c1 c2:Ab):
  ∃b,Aq (CX xs) prog fu (d+3) 52 [.agg [Au v,Au i,Au x,.lst false 3 es.length (Pf es),Au lf,.lst false 1 n1 c1,.lst false 1 n2 c2],Af model]=some ⟨[.agg (Zp model es).cells,.sc (.bool b)],[]⟩:=by
 obtain⟨b,h⟩:=Avm (xs:=xs) (fu:=fu) (d:=d) (C7:=v) (Ch:=i) (D0:=x) (AZ:=lf) (a1:=model) (Po:=es.length) (Pp:=n1) (Px:=n2) (BD:=Pf es) (BJ:=c1) (AK:=c2) hn hf (model:=model) es 0 fu rfl (by omega);exact⟨b,(KD fu (d+2) v i x es.length (Pf es) lf n1 c1 n2 c2 model).trans h⟩
end
section
open Go Go.RowKit
theorem Ah5{now:Int}{l:List (Int × Int)}(h:∀p∈l,now<p.2):Iq now l=0:=by
 unfold Iq
 have:l.reverse.find? (fun p=>decide (p.2<=now))=none:=by
  rw[List.find?_eq_none];intro p hp;have:=h p (List.mem_reverse.1 hp);simp only[GU];omega
 rw[this]
theorem Ao2{now:Int}{l:List (Int × Int)}{x:Nat}{p:Int × Int}(h:l[x]?=some p)(FC:p.2<=now)(hn:∀j,x<j->∀q,l[j]?=some q->now<q.2):Iq now l=p.1:=by
 unfold Iq;have Cr:=(List.getElem?_eq_some_iff.1 h).1
 have e:l=l.take x++p::l.drop (x+1):=by
  have:l[x]=p:=(List.getElem?_eq_some_iff.1 h).2;rw[<-this,List.getElem_cons_drop,List.take_append_drop]
 have h1:(l.drop (x+1)).reverse.find? (fun p=>decide (p.2<=now))=none:=by
  rw[List.find?_eq_none];intro q hq;obtain⟨j,hj⟩:=List.mem_iff_getElem?.1 (List.mem_reverse.1 hq);rw[List.getElem?_drop] at hj;have:=hn (x+1+j) (by omega) q hj;simp only[GU];omega
 have h2:l.reverse.find? (fun p=>decide (p.2<=now))=some p:=by
  rw[e,List.reverse_append,List.reverse_cons,List.find?_append,List.find?_append,h1];simp[FC]
 rw[h2]
theorem Ayl{w4 w5:World}{Y:Nat->Prop}{now:Int}{l:List (Int × Int)}{a4 a5:Act}{b5 o5 b6 o6:Nat}{sv:Value}(hl:l.length<=100000)(t5:a4.tmps.getD 5 undef=.pointer (some ⟨b5,o5,none⟩))(t6:a4.tmps.getD 6 undef=.pointer (some ⟨b6,o6,none⟩))(l5:b5<w4.heap.size)(l6:b6<w4.heap.size)(n5:b5≠b6)(c5:w4.cell? ⟨b5,o5,none⟩=some (.int .i64 now))(c6:w4.cell? ⟨b6,o6,none⟩=some (.int .i64 0))(f6:w4.frozen? ⟨b6,o6,none⟩=false)(hsv:Bd w4 (fun b=>b=b6) (.lst false 2 l.length (Ll l)) sv)(RC:sv.oneCell'=true)(K9:a4.tmps.size=28)(hw5:w5=w4.alloc (.cells #[sv] 59))(WZ:a5=a4.put (some 19) (.func (.func 93) #[] #[.pointer (some ⟨w4.heap.size,0,none⟩)])){K:Act->World->Prop}{Q:Exit->Act->World->Prop}(hK0:∀Z B,RU w5 (w4.heap.size+1) b6 o6 (Iq now l) Z B->Iq now l=0->B.heap[w4.heap.size+1]?=some (.deferred (some []))->K { a5 with defers:={ target:=.collected (w4.heap.size+1),args:= #[] }::a5.defers } B)(hK1:∀Z B,RU w5 (w4.heap.size+1) b6 o6 (Iq now l) Z B->B.heap[w4.heap.size+1]?=some (.deferred (some []))->Q .ret { a5 with defers:={ target:=.collected (w4.heap.size+1),args:= #[] }::a5.defers } B):
  (Code.block 0 (.rangeFunc (.tmp 19) #[20,21] Amx Adu)).wpIn Fence.wide 0 prog (Exit.then K Q) a5 w5:=by
 have BF:w5.heap.size=w4.heap.size+1:=by rw[hw5,World.size_alloc]
 have hold:∀b,b<w4.heap.size->w5.heap[b]?=w4.heap[b]?:=fun b hb=>by rw[hw5];exact Below.heap_alloc _ _ _ hb
 have hB0:w5.heap[w4.heap.size]?=some (.cells #[sv] 59):=by rw[hw5];exact World.alloc_heap_new w4 _
 have A2n:a5.tmps.size=28:=by rw[WZ,I1];exact K9
 have g5:a5.tmps.getD 5 undef=.pointer (some ⟨b5,o5,none⟩):=by rw[WZ,Gg (by decide)];exact t5
 have g6:a5.tmps.getD 6 undef=.pointer (some ⟨b6,o6,none⟩):=by rw[WZ,Gg (by decide)];exact t6
 have g19:a5.eval (.tmp 19)=.func (.func 93) #[] #[.pointer (some ⟨w4.heap.size,0,none⟩)]:=by
  show a5.tmps.getD 19 undef=_;rw[WZ,IH (by omega)]
 have YT:=Axi (S0:=w4.heap.size) (l:=l) hl
 refine wpIn_block (Akx (Z0:=fun b=>b=b6) g19 (enters_of Tryz.func93 (by kernel_rfl) rfl) YT (fun b hb=>by omega) (fun W hW hk=>?_) (fun pre x args Z A hm=>Atb hm)
  (stI w5 (w4.heap.size+1) b6 o6 l now) (A1u w5 (w4.heap.size+1) b6 o6 l now) ?_ ?_ ?_ (A3m w5 (w4.heap.size+1) b6 o6 (.pointer (some ⟨b5,o5,none⟩)) (.pointer (some ⟨b6,o6,none⟩)) l now) ?_ ?_ ?_ ?_ ?_)
 ·have hkk:∀b,b<w4.heap.size->W.heap[b]?=w4.heap[b]?:=fun b hb=>(hk b (by omega)).trans (hold b hb);have k0:=hk w4.heap.size (by omega);refine⟨fun j c hj=>?_,by omega,by rintro (h|h|h)<;>omega⟩
  match j,hj with
  |0,hj=>
   cases hj;refine⟨sv,(World.cell?_of_block (a:=⟨w4.heap.size,0,none⟩) k0).trans ?_,RC,?_⟩
   ·unfold World.cell?;rw[hB0];rfl
   ·refine hsv.step (w':=W) ⟨by omega,fun b hb _=>hkk b hb,fun b hb=>?_⟩ fun b hb h=>?_
    ·unfold bsz;rw[hkk b hb];exact Da _
    ·rcases h with h|h|h
     ·exact h
     ·omega
     ·omega
 ·intro Z pre A B hI hs;rw[BF] at hs;exact⟨hI.1.stay (by omega) hs,hI.2⟩
 ·rintro c' Z pre A B ⟨h1,pre',x,p,q1,q2,q3,q4,hI⟩ hs
  rw[BF] at hs;exact⟨h1,pre',x,p,q1,q2,q3,q4,hI.stay (by omega) hs⟩
 ·intro W hW Hm;have e:∀b,b<w4.heap.size+1->W.heap[b]?=w5.heap[b]?:=fun b hb=>Hm.same b (by omega);have e6:=(e b6 (by omega)).trans (hold b6 l6);refine⟨⟨Hm.os,Hm.tape,Hm.output,by omega,fun b hb=>by rcases hb with hb|hb|hb<;>omega,.inl rfl,fun b hb=>by rcases hb with hb|hb|hb<;>omega,fun b hb _=>e b hb,by unfold bsz;rw[e b6 (by omega)];exact Da _,(World.cell?_of_block e6).trans c6,by rw[frozen?_of_block e6];exact f6⟩,fun j hj=>by cases hj⟩
 ·intro Z pre x a' A B hn hs;rw[BF] at hs;obtain⟨h1,h2,h3,p,h4,h5⟩:=hn;exact⟨h1.stay (by omega) hs,h2,h3,p,h4,h5.stay hs⟩
 ·intro Z pre x args A K' hZ1 hZ2 hI hm hk;rw[BF] at hk ⊢;exact Aqj (by omega) hI hm A2n g5 g6 hk
 ·intro Z pre x a' A hZ1 hZ2 hn;rw[BF];exact Arr (by omega) (by omega) n5 ((World.cell?_of_block (hold b5 l5)).trans c5) hn
 ·intro Z xs B hS hI hdf
  have h0:Iq now l=0:=Ah5 fun p hp=>by
   obtain⟨j,hj⟩:=List.mem_iff_getElem?.1 hp;exact hI.2 j (hS j (List.getElem?_eq_some_iff.1 hj).1) p hj
  rw[BF] at hdf ⊢;exact hK0 Z B (by rw[h0];exact hI.1) h0 hdf
 ·rintro c' Z xs B _ ⟨rfl,pre,x,p,q1,q2,q3,q4,hI⟩ hdf
  have hp:Iq now l=p.1:=Ao2 q3 q4 fun j hj q hq=>q1 j (q2 j hj (List.getElem?_eq_some_iff.1 hq).1) q hq;rw[BF] at hdf ⊢;refine wpIn_ret ?_;exact hK1 Z B (by rw[hp];exact hI) hdf
theorem A4b:stC=.seq (sL stC) (.seq (sL (sR stC)) (.seq (.seq (.region 2 (Id (sL (sL (sR (sR stC))))) false) (.block 0 (.rangeFunc (.tmp 19) #[20,21] Amx Adu))) (.seq (.region 6 (Id (sL (sR (sR (sR stC))))) false) .ret))):=by kernel_rfl
theorem A62:∃ty pos aft x,(Id (sL (sL (sR (sR stC)))))[2]?=some { dst:=some 19,op:=.call { callee:=.value (.func 53),args:= #[.tmp 18],argTypes:=x },type:=ty,pos:=pos,after:=aft,guard:=none }:=
 ⟨_,_,_,_,rfl⟩
abbrev XN(v i x lf model now:Int)(n n1 n2:Nat)(c c1 c2:Ab):Ab:=[.agg [Au v,Au i,Au x,.lst false 3 n c,Au lf,.lst false 1 n1 c1,.lst false 1 n2 c2],Af model,Au now]
abbrev Bam(now:Int)(e:En):St:=⟨lk [(5,.ptr 5 0),(6,.ptr 6 0),(7,.ptr 7 0)],B3 [(5,.st [Au now]),(6,.st [Au 0]),(7,.st [Af e.k,.lst false 3 e.na e.an,.lst false 2 e.ns e.st])]⟩
abbrev A6i(now:Int)(n:Nat)(c:Ab):St:=⟨lk [(5,.ptr 5 0),(6,.ptr 6 0),(18,.lst false 2 n c)],B3 [(5,.st [Au now]),(6,.st [Au 0])]⟩
abbrev Avd(k:Int):St:=⟨lk [(6,.ptr 56000 0)],B3 [(56000,.st [Au k])]⟩
theorem Agx{G:Ze}{P:Program}{f:FuncId}{args:Ab}{vals:Ab}(hf:∃fn,P.funcs[f]?=some fn/\fn.body.isSome=true)(F1:∀(i:Nat)(p:PV),args[i]?=some p->KM p=false)(htr:∀(w:World)(A:Nat->Prop)(bt:QS)(us:List Value),Sl w A bt 0 args us->Ca (Zg w A) args us)(ho0:∀(w:World)(A:Nat->Prop)(bt:QS)(own:Bt),GZ w A own bt (V4 vals) 0 args [])(h:∀(w:World)(Y:Nat->Prop)(us:List Value),Ins w Y EO args us->Calls P f us.toArray w fun e w'=>∃vs own,e=.returned (Nv vs)/\Out w w' Y EO args own ⟨vals,[]⟩ vs):Dr G P f args ⟨vals,[]⟩:=by
 refine⟨hf,fun w Y bt us FN _ _=>?_⟩
 have hl:∀i q,bt i 0≠some q:=by
  intro i q e;obtain⟨p,h1,h2⟩:=FN.l0 i q e;rw[F1 i p h1] at h2;cases h2
 have ht:=htr w _ bt us FN.args;have Bbo:Ins w Y EO args us:=⟨FN.Ylt,fun b _=>Ti b,fun b x=>(Ti b x).elim,fun _ _ _ _ _ _ _ x=>(by cases x),fun _ _ x=>(by cases x),JC (ht.mono fun p v hp=>Abq (fun b _ hb=>hb.elim (fun x=>(Ti b x).elim) .inr) hp)⟩
 refine (h w Y us Bbo).mono ?_
 rintro e w' ⟨vs,own,rfl,ho⟩
 have hA:TK bt own Y=TK EO own Y:=by
  funext b
  apply propext;constructor
  ·rintro (h1|⟨i,o,h1⟩|h1)
   ·exact .inl h1
   ·exact absurd h1 (hl i _)
   ·exact .inr (.inr h1)
  ·rintro (h1|⟨i,o,h1⟩|h1)
   ·exact .inl h1
   ·cases h1
   ·exact .inr (.inr h1)
 refine⟨vs,own,rfl,ho.os,ho.tape,ho.output,ho.ext.weaken (fun b _ hb=>absurd hb (Ti b)),fun b j hb _=>ho.rng b j hb ?_,by rw[hA];exact ho.vals,ho0 _ _ _ _,fun j b o hj=>⟨(ho.fresh j b o hj).1,fun Cr=>?_⟩,ho.inj⟩
 ·rintro⟨i,p,_,⟨k,o,h1,_⟩|⟨o,ps,h1,_⟩⟩
  ·cases h1
  ·cases h1
 ·obtain⟨⟨i,k,o',h1⟩,_⟩:=(ho.fresh j b o hj).2 Cr;cases h1
theorem Bd.slice_form{w:World}{A:Nat->Prop}{z:Bool}{es n:Nat}{c:Ab}{v:Value}(h:Bd w A (.lst z es n c) v):∃ad k q,v=.slice ad k q:=by generalize hp:PV.lst z es n c=p at h;cases h<;>first|exact⟨_,_,_,rfl⟩|cases hp
theorem Aw8{G:Ze}{v i x lf model now:Int}{n1 n2:Nat}{c1 c2:Ab}{es:List En}{l:List (Int × Int)}(hn:es.length<=1000)(hf:∀e∈es,e.fit)(Hm:Ak6 model es=Ll l):Dr G prog 29 (XN v i x lf model now es.length n1 n2 (Pf es) c1 c2) ⟨[Au (Iq now l)],[]⟩:=by
 refine Agx ⟨_,Tryz.func29,rfl⟩ ?_ ?_ (fun _ _ _ _=>rfl) ?_
 ·intro i p h
  match i,h with
  |0,h=>cases h;rfl
  |1,h=>cases h;rfl
  |2,h=>cases h;rfl
 ·intro w A bt us hp
  match us,hp with
  |[u0,u1,u2],⟨⟨vs,e,_,h0⟩,h1,h2,_⟩=>
   refine⟨⟨vs,e,?_⟩,⟨trivial,h1.2⟩,⟨trivial,h2.2⟩,trivial⟩
   match vs,h0 with
   |[v0,v1,v2,v3,v4,v5,v6],⟨k0,k1,k2,k3,k4,k5,k6,_⟩=>exact⟨⟨trivial,k0⟩,⟨trivial,k1⟩,⟨trivial,k2⟩,⟨trivial,k3⟩,⟨trivial,k4⟩,⟨trivial,k5⟩,⟨trivial,k6⟩,trivial⟩
 intro w Y us FN;have hY:=FN.Ylt;have hk0:Aji prog 28 0 Tryz.f29.params.toList (XN v i x lf model now es.length n1 n2 (Pf es) c1 c2) (fun tms bs=>some (tms,bs))=some ([(0,.agg [Au v,Au i,Au x,.lst false 3 es.length (Pf es),Au lf,.lst false 1 n1 c1,.lst false 1 n2 c2]),(1,Af model),(2,Au now)],[]):=by kernel_rfl
 have hus:us.length=3:=by
  match us,FN.args with
  |[u0,u1,u2],_=>rfl
 obtain⟨tms,bs,Fc,A26⟩:=OP FN hk0;cases Fc;obtain⟨h8,β0,UW⟩:=A26 rfl (by omega);refine callsIn_wide.1 (callsIn_of_wp_marks (F:=Fence.wide) (n:=0) Tryz.func29 rfl trivial ?_ rfl);show stC.wpIn _ _ _ _ { tmps:=us.toArray++Array.replicate (28-us.toArray.size) undef,defers:=[] } _;generalize ({ tmps:=us.toArray++Array.replicate (28-us.toArray.size) undef,defers:=[] }:Act)=a0 at UW ⊢;have hXn:∀b,¬(HU EO (XN v i x lf model now es.length n1 n2 (Pf es) c1 c2) h8).X b:=Ti;obtain⟨bq,el⟩:=A3f (xs:=noX) (fu:=2000) (d:=5) (es:=es) hn (by omega) hf v i x lf model n1 n2 c1 c2;have el:cl 52 _=_:=el;simp only[En.cells] at el;have Ap7:=Ap9 (model:=model) hf;have hfs:(Zp model es).st=Ll l:=(As6 model es).trans Hm;generalize Zp model es=E at el Ap7 hfs
 have hns:E.ns=l.length:=by
  have h1:=Ap7.2.1;rw[hfs,Aom] at h1;omega
 refine Rh A4b (wpIn_seq (wpIn_wide.2 (D8 (Kk _ _) IF Ci UW (A4f cl v i x lf model now es.length n1 n2 (Pf es) c1 c2) ?_)));intro a1 w1 β1 RC;refine wpIn_seq (wpIn_wide.2 (D8 (Kk _ _) IF Ci RC (L:=224) (t:=0) (s1:=Bam now E) ?_ ?_))
 ·refine (A3b cl v i x lf model now es.length n1 n2 (Pf es) c1 c2).trans ?_;simp only[Bz,Bx,el]
 intro a2 w2 β2 XT;refine wpIn_seq (wpIn_seq (wpIn_region ?_));have hli:List.range (Id (sL (sL (sR (sR stC))))).size=[0,1]++[2]:=by kernel_rfl
 rw[hli];refine H3 (ro:=none) (C:=CB) (call:=cl) (r:=((0:Nat),A6i now E.ns E.st)) (Kk _ _) Ci ?_ [0,1] (List.take 2 (Id (sL (sL (sR (sR stC))))).toList) (by kernel_rfl) ?_ (by kernel_rfl) XT (A25 cl E.k now E.na E.ns E.an E.st)
 rotate_left
 ·intro j i hj
  match j,hj with
  |0,hj=>cases hj;rfl
  |1,hj=>cases hj;rfl
 intro s' a4 w4 β4 Xr hs4;obtain⟨β5,s5,hk5,BF⟩:=Cm hs4 Xr;cases hk5;obtain⟨b5,o5,e5,t5,l5,k5,f5⟩:=BF.var (i:=5) (id:=5) (by decide) rfl rfl;obtain⟨b6,o6,e6,t6,l6,k6,f6⟩:=BF.var (i:=6) (id:=6) (by decide) rfl rfl;obtain⟨v5,q5,r5⟩:=k5 0 _ rfl;obtain⟨v6,q6,r6⟩:=k6 0 _ rfl;have r5:=Bd.val r5;have r6:=Bd.val r6;subst r5 r6;have own6:w.heap.size<=b6/\¬Y b6:=⟨(BF.ownd b6 ⟨6,o6,by trivial,e6⟩).elim (fun h=>absurd h (hXn b6)) (fun h=>h),fun hy=>BF.Yx b6 hy ⟨6,o6,by trivial,e6⟩⟩
 have n56:b5≠b6:=fun e=>by
  subst e;have:=BF.inj 5 6 b5 o5 o6 (by trivial) (by trivial) e5 e6;cases this
 have h18:Bd w4 (D4 (A6i now E.ns E.st).hp β5 Y) (.lst false 2 E.ns E.st) (a4.tmps.getD 18 undef):=BF.tms 18 (by decide);rw[hfs,hns] at h18
 have A6t:Bd w4 (fun b=>b=b6) (.lst false 2 l.length (Ll l)) (a4.tmps.getD 18 undef):=h18.step ⟨Da _,fun _ _ _=>rfl,fun _ _=>Da _⟩ fun b _ hb=>by
  have hb:b=b6:=hb;subst hb;exact .inl ⟨6,o6,by trivial,e6⟩
 obtain⟨ad,kk,qq,TB⟩:=Bd.slice_form h18;have H2:l.length<=100000:=by have:=Ap7.2.2.2;omega
 obtain⟨ty,pos,aft,xx,ho⟩:=A62;rw[wpOpsIn_cons];unfold wpOpIn;rw[ho];simp only[Region.wanted,if_true];refine⟨fun _ _=>trivial,?_⟩
 rw[show Oper.semAt (WF none).round a4.eval { dst:=some 19,op:=.call { callee:=.value (.func 53),args:= #[.tmp 18],argTypes:=xx },type:=ty,pos:=pos,after:=aft,guard:=none }=execOp a4.eval { dst:=some 19,op:=.call { callee:=.value (.func 53),args:= #[.tmp 18],argTypes:=xx },type:=ty,pos:=pos,after:=aft,guard:=none } from rfl,
  LG (o:={ dst:=some 19,op:=.call { callee:=.value (.func 53),args:= #[.tmp 18],argTypes:=xx },type:=ty,pos:=pos,after:=aft,guard:=none }) rfl rfl ngT Tryz.func53 rfl]
 have e18:a4.eval (.tmp 18)=.slice ad kk qq:=TB;simp only[List.map_toArray,Sn,List.map_nil,e18];refine⟨(fun h=>by cases h),(Ay1 ad 0 0 _ w4 kk qq).mono ?_⟩
 rintro e w5 ⟨rfl,hw5⟩
 have Bf3:w5.heap.size=w4.heap.size+1:=by rw[hw5,World.size_alloc]
 have o5w:w5.os=w4.os/\w5.tape=w4.tape/\w5.output=w4.output:=by rw[hw5];exact⟨rfl,rfl,rfl⟩
 have hold:∀b,b<w4.heap.size->w5.heap[b]?=w4.heap[b]?:=fun b hb=>by rw[hw5];exact Below.heap_alloc _ _ _ hb
 obtain⟨a5,WZ⟩:∃a5,a4.put (some 19) (.func (.func 93) #[] #[.pointer (some ⟨w4.heap.size,0,none⟩)])=a5:=⟨_,rfl⟩
 have hd5:a5.defers=[]:=by rw[<-WZ,Ln];exact BF.dfr
 have hz5:a5.tmps.size=28:=by rw[<-WZ,I1];exact BF.tsz
 have t6':a5.tmps.getD 6 undef=.pointer (some ⟨b6,o6,none⟩):=by rw[<-WZ,Gg (by decide)];exact t6
 have ea:({ a5 with defers:={ target:=.collected (w4.heap.size+1),args:= #[] }::a5.defers }:Act)=Wc [{ target:=.collected (w4.heap.size+1),args:= #[] }] a5:=by unfold Wc;rw[hd5];rfl
 have YP:=BF.fr;have hw4:=YP.step.size
 have mk:∀{Z B},RU w5 (w4.heap.size+1) b6 o6 (Iq now l) Z B->∃X0 β,(∀b,X0.X b->b=b6)/\Cj 28 B X0 Y β (Avd (Iq now l)) a5 B:=by
  intro Z B hI
  obtain⟨X0,β,h1,_,_,_,h2⟩:=Alv (B:=B) (Y:=Y) (a:=a5) (l:=[(6,.ptr 56000 0)]) (b6:=b6) (o6:=o6) (v:=Iq now l) hd5 hz5 (by
   intro q hq;simp only[B7,Im,or_false] at hq;subst hq;simp) hI.c6 hI.f6 (by have:=hI.size;omega) own6.2 (fun b hb=>by have:=hY b hb;have:=hI.size;omega) (by
   intro β e1 hA q hq;simp only[B7,Im,or_false] at hq;subst hq;exact⟨b6,o6,e1,t6'⟩) (by
   intro q hq id B6;simp only[B7,Im,or_false] at hq;subst hq;simp[Cn,C2,Ba] at B6;exact B6)
  exact⟨X0,β,h1,h2⟩
 have leave:∀{Z B XB β6 a6 w7},RU w5 (w4.heap.size+1) b6 o6 (Iq now l) Z B->B.heap[w4.heap.size+1]?=some (.deferred (some []))->(∀b,XB.X b->b=b6)->Cj 28 B XB Y β6 (Avd (Iq now l)) a6 w7 ->
   bodyPostM Fence.wide 0 prog Tryz.f29 (fun e w'=>∃vs own,e=.returned (Nv vs)/\Out w w' Y EO (XN v i x lf model now es.length n1 n2 (Pf es) c1 c2) own ⟨[Au (Iq now l)],[]⟩ vs) .ret (Wc [{ target:=.collected (w4.heap.size+1),args:= #[] }] a6) w7:=by
  intro Z B XB β6 a6 w7 hI hdf hXB hz;have K9:=hI.size
  have hD':w7.heap[w4.heap.size+1]?=some (.deferred (some [])):=by
   rw[hz.fr.step.keep (w4.heap.size+1) (by omega) fun hx=>by have:=hXB _ hx;omega]
   exact hdf
  show LeavesInM _ _ _ _ _ _ (a6.defers++[{ target:=.collected (w4.heap.size+1),args:= #[] }]) .returning w7;rw[hz.dfr];refine⟨by simp,.inl ⟨_,_,rfl,run_takeDeferred hD',?_⟩⟩
  have hu:Cj 28 w (HU EO (XN v i x lf model now es.length n1 n2 (Pf es) c1 c2) h8) Y β6 (Avd (Iq now l)) a6 w7:=
   hz.unbase (fun _ h=>h) hY (fun b hx=>by rw[hXB b hx];exact own6.1) (fun k ⟨p,h1,h2⟩=>by
    match k,h1 with
    |0,h1=>cases h1;cases h2
    |1,h1=>cases h1;cases h2
    |2,h1=>cases h1;cases h2) (hI.os.trans (o5w.1.trans YP.os)) (hI.tape.trans (o5w.2.1.trans YP.tape)) (hI.output.trans (o5w.2.2.trans YP.output)) (by omega) (fun b hb=>(hI.keep b (by omega) (by omega)).trans ((hold b (by omega)).trans (YP.step.keep b hb (hXn b))))
  have hv:=hu.same (RN (y:=none) hD') fun b hb=>World.putObj_heap_other (by omega);obtain⟨_,vv,r1,vs,own,r2,r3⟩:=FB (C:=CS) (f:=29) (fn:=Tryz.f29) FN (res:=⟨[Au (Iq now l)],[]⟩) (A2r v i x lf model now (Iq now l) es.length n1 n2 (Pf es) c1 c2) hv;exact⟨vv,r1,vs,own,r2,r3⟩
 rw[TB] at A6t;refine Ayl (Y:=Y) (sv:=.slice ad kk qq) H2 t5 t6 l5 l6 n56 q5 q6 (f6 0 (Nat.zero_lt_succ _)) A6t rfl BF.tsz hw5 rfl ?_ ?_
 ·intro Z B hI h0 hdf;rw[WZ,ea];obtain⟨XB,βB,hXB,hB⟩:=mk hI;refine wpIn_seq (PT (Q':=fun e a' w'=>e=.normal/\∃β',Cj 28 B XB Y β' (Avd (Iq now l)) a' w') ?_ ?_)
  ·have hl9:List.range (Id (sL (sR (sR (sR stC))))).size=[0]++[]:=by kernel_rfl
   rw[hl9];rw[h0] at hB ⊢;refine H3 (ro:=none) (C:=CB) (call:=cl) (r:=((0:Nat),Avd 0)) (Kk _ _) Ci ?_ [0] (Id (sL (sR (sR (sR stC))))).toList (by kernel_rfl) ?_ (by kernel_rfl) hB (A2e cl 0)
   rotate_left
   ·intro j i hj
    match j,hj with
    |0,hj=>cases hj;rfl
   intro s6 a6 w6 β6 hk6 hs6;obtain⟨β7,s7,hk7,hs7⟩:=Cm hs6 hk6;cases hk7;exact⟨rfl,β7,hs7⟩
  ·rintro e a7 w7 ⟨a6,rfl,rfl,β6,hz⟩
   exact wpIn_ret (leave hI hdf hXB hz)
 ·intro Z B hI hdf;rw[WZ,ea];obtain⟨XB,βB,hXB,hB⟩:=mk hI;exact leave hI hdf hXB hB
theorem Ajy{G:Ze}{args:Ab}{r:Dt}(h:Ami args=some r):Dr G prog 29 args r:=by
 unfold Ami at h;split at h
 ·rename_i v i x n c lf n1 c1 n2 c2 model now;cases hb:(Nat.beq c.length (n*3)&&Nat.ble n 1000)
  ·rw[hb,cond_false] at h;cases h
  rw[hb,cond_true] at h;simp only[G6] at hb;cases he:BE c with
  |none=>rw[he] at h;cases h
  |some es=>
   rw[he] at h;simp only at h;cases hp:Tt (Ak6 model es) with
   |none=>rw[hp] at h;cases h
   |some l=>
    rw[hp] at h;cases h;obtain⟨rfl,hf⟩:=Ah7 he;have hl:(Pf es).length=es.length*3:=Xw En.cells_len es;have hn:n=es.length:=by have:=Ez hb.1;omega
    subst hn;exact Aw8 (Ya hb.2) hf (Aeg hp)
 ·cases h
end
section
open Go.RowKit
theorem Ab5{w w':World}{Y:Nat->Prop}{bt:QS}{args:Ab}{v:Value}(hb:Below w.heap.size w w')(ho:GZ w' (TK bt (fun _=>none) Y) (fun _=>none) bt (V4 [.sc v]) 0 args []):
  Out w w' Y bt args (fun _=>none) ⟨[.sc v],[]⟩ [v] where
 os:=hb.os
 tape:=hb.tape
 output:=hb.output
 ext:=⟨hb.size,fun b h _=>hb.block b h,fun b h=>by unfold bsz;rw[hb.block b h];exact Da _⟩
 rng:=fun b j h _=>⟨by unfold World.cell?;simp only[hb.block b h],by unfold World.frozen?;simp only[hb.block b h]⟩
 vals:=⟨Bd.sc v,trivial⟩
 outs:=ho
 fresh:=fun j b o h=>by cases h
 inj:=fun j j' b o o' h=>by cases h
theorem RA{P:Program}{w:World}{A:Nat->Prop}{bt:Bt}{z:Bool}{n:Nat}{c:Ab}{u:Value}{l:List UInt8}(h:Aim w A bt (.lst z 1 n c) u)(hl:bytesOf c=some l)(hn:c.length=n):
  (Extern.Bytes.bytesOf u).run P w=.ok ⟨l.toArray⟩ w:=by
 obtain⟨ns,rfl,rfl⟩:=DF hl;have ht:Bd w A (.lst z 1 n (ns.map fun n=>.sc (.int .u8 n))) u:=h.2;generalize hc:(ns.map fun n=>PV.sc (.int .u8 n))=c at ht;cases ht with
 |lnil=>
  have:ns=[]:=by simpa using hc
  subst this;rfl
 |lemp=>
  have:ns=[]:=by simpa using hc
  subst this;rfl
 |lst _ _ _ a cap f hs hb hA hn' hcell h1 hr=>
  subst hc;rw[List.length_map] at hn;subst hn;show (Extern.Bytes.loadBytes a ns.length .empty).run P w=_;rw[Lib.run_loadBytesX w ns a .empty fun j x hj=>?_]
  ·simp[Lib.bytesOf,Nat.toUInt8]
  ·have e:(ns.map fun n=>PV.sc (.int .u8 n))[j]?=some (.sc (.int .u8 x)):=by rw[List.getElem?_map,hj];rfl
   rw[hcell j _ e,(hr j _ e).val]
theorem Aeo(u1 u2:Value)(a b:List UInt8)(w:World)(h1:(Extern.Bytes.bytesOf u1).run prog w=.ok ⟨a.toArray⟩ w)(h2:(Extern.Bytes.bytesOf u2).run prog w=.ok ⟨b.toArray⟩ w):
  Calls prog 148 #[u1,u2] w fun e w'=>e=.returned (.int .i64 (Lib.compareBytes a b))/\w'=w:=by
 have hr:(Extern.BytealgCompare.compare #[u1,u2]).run prog w=.ok (.int .i64 (Lib.compareBytes a b)) w:=by
  change Sem.run prog (do pure (goInt (Extern.BytealgCompare.cmp (<-Extern.Bytes.bytesOf u1) (<-Extern.Bytes.bytesOf u2)))) w=_;simp only[Sem.run_bind,Sem.run_pure,Result.andThen,h1,h2];rw[Lib.cmp_eq];rfl
 go_enter Tryz.func148,Tryz.ntmps148
 go_wp2
 rw[run_callFunc_extern Tryz.func149 (by kernel_rfl) (by kernel_rfl) (by kernel_rfl) (e:=Extern.BytealgCompare.compare) (by kernel_rfl),hr];simp only[Result.andThen];rw[Oper.upon_value]
 go_wp2
 go_ret
 exact⟨rfl,rfl⟩
theorem YU(G:Ze)(args:Ab)(res:Dt)(h:EE args=some res):Dr G prog 148 args res:=by
 refine⟨⟨_,Tryz.func148,by kernel_rfl⟩,fun w Y bt us hi _ _=>?_⟩;unfold EE at h;split at h
 rotate_left
 ·cases h
 rename_i z n c z' m c';cases hq:(Nat.beq c.length n&&Nat.beq c'.length m)
 ·rw[hq] at h;cases h
 rw[hq] at h;simp only[G6] at hq;have hn:=Ez hq.1;have hm:=Ez hq.2;simp only[cond_true] at h;split at h
 rotate_left
 ·cases h
 rename_i a b ha hb;cases h;have ps:=hi.args
 match us,ps with
 |[u1,u2],ps=>
  refine (Aeo u1 u2 a b w (RA ps.1 ha hn) (RA ps.2.1 hb hm)).mono ?_
  rintro e w' ⟨rfl,rfl⟩
  exact⟨[.int .i64 (Lib.compareBytes a b)],fun _=>none,rfl,Ab5 (Below.refl _ _) rfl⟩
 |[],ps=>exact ps.elim
 |[_],ps=>exact ps.2.elim
 |_::_::_::_,ps=>exact ps.2.2.elim
end
section
open Go.Shelf Go.RowKit Go.Lib
def A67:Go.Shelf.Ren:=⟨fun|196=>126|259=>145|n=>n,fun|0=>0|3=>3|4=>4|5=>5|9=>9|12=>12|46=>75|53=>37|119=>194|138=>196|139=>197|n=>n,fun|3=>0|4=>1|n=>n⟩
theorem laysVS:Lays.n196 prog A67:={
 mixed:=by kernel_rfl
 f196:=Tryz.func126.trans (congrArg some (by kernel_rfl))
 f259:=Tryz.func145.trans (congrArg some (by kernel_rfl))
 t0:=Tryz.underlying0
 a0:=Tryz.isAgg0
 z0:=Tryz.sizeOf0
 v0:=Tryz.zeroValue0
 t3:=Tryz.underlying3
 a3:=Tryz.isAgg3
 z3:=Tryz.sizeOf3
 v3:=Tryz.zeroValue3
 t4:=Tryz.underlying4
 a4:=Tryz.isAgg4
 z4:=Tryz.sizeOf4
 v4:=Tryz.zeroValue4
 t5:=Tryz.underlying5
 a5:=Tryz.isAgg5
 z5:=Tryz.sizeOf5
 v5:=Tryz.zeroValue5
 t9:=Tryz.underlying9
 a9:=Tryz.isAgg9
 z9:=Tryz.sizeOf9
 v9:=Tryz.zeroValue9
 t12:=Tryz.underlying12
 a12:=Tryz.isAgg12
 z12:=Tryz.sizeOf12
 v12:=Tryz.zeroValue12
 t46:=Tryz.underlying75
 a46:=Tryz.isAgg75
 z46:=Tryz.sizeOf75
 v46:=Tryz.zeroValue75
 t53:=Tryz.underlying37
 a53:=Tryz.isAgg37
 z53:=Tryz.sizeOf37
 v53:=Tryz.zeroValue37
 t119:=Tryz.underlying194
 a119:=Tryz.isAgg194
 z119:=Tryz.sizeOf194
 t138:=Tryz.underlying196
 a138:=Tryz.isAgg196
 z138:=Tryz.sizeOf196
 v138:=Tryz.zeroValue196
 t139:=Tryz.underlying197
 a139:=Tryz.isAgg197
 z139:=Tryz.sizeOf197
 v139:=Tryz.zeroValue197
 g3:=by kernel_rfl
 g4:=by kernel_rfl }
def gU:Ze:=⟨fun b=>b=0\/b=1,fun w=>0<w.heap.size/\1<w.heap.size/\Lib.Utf8Tabs 0 1 w,fun w w' h ⟨s1,s2,h1,h2⟩=>by
 have e1:=h _ (.inl rfl) s1;have e2:=h _ (.inr rfl) s2
 have hs:∀b,b<w.heap.size->w'.heap[b]?=w.heap[b]?->b<w'.heap.size:=by
  intro b hb he;rw[Array.getElem?_eq_getElem hb] at he;rcases Mh b w'.heap.size with q|q
  ·exact q
  ·rw[Array.getElem?_eq_none q] at he;cases he
 refine⟨hs _ s1 e1,hs _ s2 e2,fun c hc=>?_,fun i hi=>?_⟩
 ·have:=h1 c hc;unfold World.cell? at this ⊢;simp only[e1] at this ⊢;exact this
 ·obtain⟨a,b⟩:=h2 i hi;unfold World.cell? at a b ⊢;simp only[e2] at a b ⊢;exact⟨a,b⟩⟩
theorem Ah1(args:Ab)(res:Dt)(h:VT args=some res):Dr gU prog 126 args res:=by
 refine⟨⟨_,Tryz.func126,by kernel_rfl⟩,fun w Y bt us hi hok _=>?_⟩;unfold VT at h;split at h
 rotate_left
 ·cases h
 rename_i s;cases hq:decide (s.size<=9223372036854775807)
 ·rw[hq] at h;cases h
 rw[hq] at h;cases h;have hs:=of_decide_eq_true hq;have ps:=hi.args
 match us,ps with
 |[u],ps=>
  have hu:u=.string s:=by
   have:Bd w _ (.sc (.string s)) u:=ps.1.2;exact this.val
  subst hu;refine (Any.utf8_ValidString laysVS s w hs hok.2.2).mono ?_
  rintro e w' ⟨rfl,hb⟩
  exact⟨[.bool (Lib.validD s.data.toList)],fun _=>none,rfl,Ab5 hb rfl⟩
 |[],ps=>exact ps.elim
 |_::_::_,ps=>exact ps.2.elim
theorem extU:Am8 gU prog C0:=by
 intro f g args res hx hg;have hx0:(bif MH.any (Nat.beq f) then none else M9 f)=some g:=hx;cases hb:MH.any (Nat.beq f)
 rotate_left
 ·rw[hb,cond_true] at hx0;cases hx0
 rw[hb,cond_false] at hx0;have Zy:M9 f=some g:=hx0;unfold M9 at Zy;cases h1:Nat.beq f 126
 rotate_left
 ·rw[h1,cond_true] at Zy;cases Zy;rw[Ez h1];exact Ah1 args res hg
 rw[h1,cond_false] at Zy;cases h2:Nat.beq f 148
 rotate_left
 ·rw[h2,cond_true] at Zy;cases Zy;rw[Ez h2];exact YU gU args res hg
 rw[h2,cond_false] at Zy;cases h4:Nat.beq f 36
 rotate_left
 ·rw[h4,cond_true] at Zy;cases Zy;rw[Ez h4];exact Aoj hg
 rw[h4,cond_false] at Zy;cases h5:Nat.beq f 29
 rotate_left
 ·rw[h5,cond_true] at Zy;cases Zy;rw[Ez h5];exact Ajy hg
 rw[h5,cond_false] at Zy;cases h3:Nat.beq f 1000000
 ·rw[h3,cond_false] at Zy;cases Zy
 ·rw[h3,cond_true] at Zy;cases Zy;cases hg
end
end
end Go.Proofs.YtpogefhpiaaliaaGreatDoor.Pv
