/-
  The proof of MetadataDecodes, part 7.
-/
import Derived.Test.YtpogefhpiaaliaaGreatDoorDF
import Derived.Test.YtpogefhpiaaliaaGreatDoorRows
import Derived.Lib.BytesEntry
import Derived.Lib.Bytealg
import Derived.Lib.Walk
import Derived.WalkKit
import Derived.WalkMore
import Derived.Shelf.Unicode.ValidAny
import Derived.Lib.LaidU8T
set_option linter.unusedSimpArgs false
set_option linter.unusedVariables false
namespace Go.Proofs.YtpogefhpiaaliaaGreatDoor.Pv
open Go.IntKind (wrap)
open Go.Proofs.Tryz (prog)
set_option maxRecDepth 1000000
noncomputable section
section
open Go Go.RowKit
theorem A2l:TH=.seq (sL TH) (.seq (sL (sR TH)) (.seq (sL (sR (sR TH))) (.seq (.seq (.region 4 (H5 (sL (sL (sR (sR (sR TH)))))) false) (.block 0 (.rangeFunc (.tmp 29) #[30,31] Aro Aki))) (.seq (.region 9 (H5 (sL (sR (sR (sR (sR TH)))))) false) .ret)))):=by kernel_rfl
theorem A5c:∃ty pos aft x,(H5 (sL (sL (sR (sR (sR TH))))))[2]?=some { dst:=some 29,op:=.call { callee:=.value (.func 70),args:= #[.tmp 27,.tmp 28],argTypes:=x },type:=ty,pos:=pos,after:=aft,guard:=none }:=
 ⟨_,_,_,_,rfl⟩
theorem QS{P:Program}{ops:Array Oper}{Q Q':Exit->Act->World->Prop}{n id:Nat}{ds:List Deferred}{a:Act}{w:World}(h:wpOpsIn (WF none) n P ops Q' (List.range ops.size) a w)(hq:∀e a w,TD ds Q' e a w->Q e a w):(Code.region id ops false).wpIn Fence.wide n P Q (V3 ds a) w:=
 wpIn_mono (wpIn_region (F:=Fence.wide) (Zl _ h)) hq
abbrev Ba1(seed h leaf m:Int):St:=
  ⟨lk [(0,Af seed),(3,Af m),(5,.ptr 5 0),(6,.ptr 6 0),(8,.ptr 8 0),(9,At 0)],
   B0 [(5,.st [At h]),(6,.st [At leaf]),(8,.st [At 0,.view 104 1 0 0,.view 152 1 0 0]),(104,.ar false []),(152,.ar false [])]⟩
abbrev A9a(seed h leaf m:Int)(n:Nat)(c:Ab):St:=
  ⟨lk [(0,Af seed),(3,Af m),(5,.ptr 5 0),(6,.ptr 6 0),(8,.ptr 8 0),(9,At 0),(10,.ptr 10 0)],
   B0 [(5,.st [At h]),(6,.st [At leaf]),(8,.st [At 0,.view 104 1 0 0,.view 152 1 0 0]),(104,.ar false []),(152,.ar false []),(10,.st [At leaf,.view 106 1 0 n,.view 154 1 0 0]),(106,.ar false c),(154,.ar false [])]⟩
abbrev A2m(leaf:Int)(n1 n2:Nat)(c1 c2:Ab):St:=⟨lk [(8,.ptr 96000 0),(9,At 0)],B0 [(96000,.st [At leaf,.lst false 1 n1 c1,.lst false 1 n2 c2])]⟩
theorem Ai3{h leaf:Int}(hb:UN h leaf=false):D1 h=false/\Js leaf h=false/\∃H:Nat,h=H/\H<=4/\0<=leaf/\leaf<((2 ^ H:Nat):Int):=by
 unfold UN at hb;rw[Bool.or_eq_false_iff] at hb;refine⟨hb.1,hb.2,h.toNat,?_⟩;have h1:=hb.1;have h2:=hb.2;unfold D1 at h1;unfold Js at h2;rw[Bool.or_eq_false_iff,SP,SP] at h1 h2;have h3:h=(h.toNat:Int):=by omega
 have h4:=Az2 (h:=h.toNat) (by omega);rw[<-h3] at h4;rw[h4] at h2;exact⟨h3,by omega,by omega,by omega⟩
theorem Axv{G:Zg}{seed h leaf m:Int}(hb:UN h leaf=false):Do G prog 36 [Af seed,At h,At leaf,Af m]
  ⟨[.agg [At leaf,.lst false 1 18 (Ac .u64 (M8 seed leaf m)),.lst false 1 h.toNat (Ac .u64 ((List.range h.toNat).map fun k=>Cs seed k (H3 leaf k)))],At 0],[]⟩:=by
 obtain⟨hhi,hou,H,rfl,hh,Zk,MQ⟩:=Ai3 hb;refine A4g ⟨_,Tryz.func36,rfl⟩ fun w Y hY=>?_;have hk0:Aih prog 48 0 Tryz.f36.params.toList [Af seed,At H,At leaf,Af m] (fun tms bs=>some (tms,bs))=some ([(0,Af seed),(1,At H),(2,At leaf),(3,Af m)],[]):=by kernel_rfl
 have EN:Ins w Y CK [Af seed,At H,At leaf,Af m] [.int .u64 seed,.int .i64 H,.int .i64 leaf,.int .u64 m]:=
  ⟨hY,fun b _=>Sx b,fun b x=>(Sx b x).elim,fun _ _ _ _ _ _ _ x=>(by cases x),fun _ _ x=>(by cases x),⟨.inl trivial,Bd.sc _⟩,⟨.inl trivial,Bd.sc _⟩,⟨.inl trivial,Bd.sc _⟩,⟨.inl trivial,Bd.sc _⟩,trivial⟩
 obtain⟨tms,bs,E9,Hc⟩:=NK EN hk0;cases E9;obtain⟨h8,β0,TU⟩:=Hc rfl (by simp);refine callsIn_wide.1 (callsIn_of_wp_marks (F:=Fence.wide) (n:=0) Tryz.func36 rfl trivial ?_ rfl);have t1:({ tmps:= #[Value.int .u64 seed,.int .i64 H,.int .i64 leaf,.int .u64 m]++Array.replicate (Tryz.f36.ntmps-(#[Value.int .u64 seed,.int .i64 H,.int .i64 leaf,.int .u64 m]).size) undef,defers:=[] }:Act)={ tmps:=[Value.int .u64 seed,.int .i64 H,.int .i64 leaf,.int .u64 m].toArray++Array.replicate (48-[Value.int .u64 seed,.int .i64 H,.int .i64 leaf,.int .u64 m].toArray.size) undef,defers:=[] }:=by kernel_rfl
 rw[t1];show TH.wpIn _ _ _ _ _ _;generalize ({ tmps:=[Value.int .u64 seed,.int .i64 H,.int .i64 leaf,.int .u64 m].toArray++Array.replicate (48-[Value.int .u64 seed,.int .i64 H,.int .i64 leaf,.int .u64 m].toArray.size) undef,defers:=[] }:Act)=a0 at TU ⊢;have hXn:∀b,¬(HK CK [Af seed,At H,At leaf,Af m] h8).X b:=Sx;refine Q5 A2l (wpIn_seq (wpIn_wide.2 (D6 (J7 _ _) GT Ch TU (A3p cl seed H leaf m) ?_)));intro a1 w1 β1 PI;have eh:cl 67 [At H]=_:=Zz (xs:=noX) (fu:=2000) (d:=7) (H:Int);have eo:cl 68 [At leaf,At H]=_:=Vp (xs:=noX) (fu:=2000) (d:=7) leaf H (by omega);have es:cl 69 [Af seed,At leaf,Af m]=_:=Aw4 (xs:=noX) (fu:=2000) (d:=1) (by omega) seed leaf m
 refine wpIn_seq (wpIn_wide.2 (D6 (J7 _ _) GT Ch PI (L:=873) (t:=0) (s1:=Ba1 seed H leaf m) ?_ ?_))
 ·refine (A1x cl seed H leaf m).trans ?_;simp only[B4,B3,eh,eo,hhi,hou]
 intro a2 w2 β2 TL;refine wpIn_seq (wpIn_wide.2 (D6 (J7 _ _) GT Ch TL (L:=1897) (t:=0) (s1:=A9a seed H leaf m 18 (Ac .u64 (M8 seed leaf m))) ?_ ?_))
 ·refine (A1u cl seed H leaf m).trans ?_;simp only[B4,B3,es]
 intro a3 w3 β3 hs3;refine wpIn_seq (wpIn_seq (wpIn_region ?_));have hl:List.range (H5 (sL (sL (sR (sR (sR TH)))))).size=[0,1]++[2]:=by kernel_rfl
 rw[hl];refine Hu (ro:=none) (C:=CB) (call:=cl) (r:=((0:Nat),Apx seed H leaf m 18 (Ac .u64 (M8 seed leaf m)))) (J7 _ _) Ch ?_ [0,1] (List.take 2 (H5 (sL (sL (sR (sR (sR TH)))))).toList) (by kernel_rfl) ?_ (by kernel_rfl) hs3 (A13 cl seed H leaf m 18 _)
 rotate_left
 ·intro j i hj
  match j,hj with
  |0,hj=>cases hj;rfl
  |1,hj=>cases hj;rfl
 intro s' a4 w4 β4 Xq hs4;obtain⟨β5,s5,hk5,Zx⟩:=Ck hs4 Xq;cases hk5;obtain⟨b5,o5,b6,o6,b8,o8,b10,o10,e0,chv,hp⟩:=Ar6 (l:=M8 seed leaf m) (n:=18) (by omega) (by simp[M8]) hXn Zx;obtain⟨ty,pos,aft,x,ho⟩:=A5c;rw[wpOpsIn_cons];unfold wpOpIn;rw[ho];simp only[Region.wanted,if_true];refine⟨fun _ _=>trivial,?_⟩
 rw[show Oper.semAt (WF none).round a4.eval { dst:=some 29,op:=.call { callee:=.value (.func 70),args:= #[.tmp 27,.tmp 28],argTypes:=x },type:=ty,pos:=pos,after:=aft,guard:=none }=execOp a4.eval { dst:=some 29,op:=.call { callee:=.value (.func 70),args:= #[.tmp 27,.tmp 28],argTypes:=x },type:=ty,pos:=pos,after:=aft,guard:=none } from rfl,
  KM (o:={ dst:=some 29,op:=.call { callee:=.value (.func 70),args:= #[.tmp 27,.tmp 28],argTypes:=x },type:=ty,pos:=pos,after:=aft,guard:=none }) rfl rfl ngT Tryz.func70 rfl]
 have e27:a4.eval (.tmp 27)=.int .u64 seed:=hp.t27;have e28:a4.eval (.tmp 28)=.int .i64 H:=hp.t28;simp only[List.map_toArray,Sf,List.map_nil,e27,e28];refine⟨(fun h=>by cases h),(Ayz seed H _ w4).mono ?_⟩
 rintro e w5 ⟨rfl,hw5⟩
 refine Awr (w:=w) (Y:=Y) hh Zk MQ hp Zx.tsz hw5 rfl ?_;intro Z B hRI hdf;obtain⟨a5,VO⟩:∃a5,a4.put (some 29) (.func (.func 113) #[] #[.pointer (some ⟨w4.heap.size+1,0,none⟩),.pointer (some ⟨w4.heap.size,0,none⟩)])=a5:=⟨_,rfl⟩
 rw[VO];have hd5:a5.defers=[]:=by rw[<-VO,Lg];exact Zx.dfr
 have hz5:a5.tmps.size=48:=by rw[<-VO,Ip];exact Zx.tsz
 have ea:({ a5 with defers:={ target:=.collected (w4.heap.size+2),args:= #[] }::a5.defers }:Act)=V3 [{ target:=.collected (w4.heap.size+2),args:= #[] }] a5:=by unfold V3;rw[hd5];rfl
 rw[ea];have hsB:w4.heap.size<=B.heap.size:=by have:=hRI.size;omega
 have hkB:∀b,b<w4.heap.size->b≠b10->b≠e0->B.heap[b]?=w4.heap[b]?:=hRI.keep;have h8B:=hkB b8 hp.l8 hp.n8 hp.m8
 obtain⟨XB,βB,hXB,hB⟩:=A1b (Y:=Y) (a:=a5) (b8:=b8) (o8:=o8) (n1:=18) (c1:=Ac .u64 (M8 seed leaf m)) hRI hd5 hz5 (by rw[<-VO,Ge (by decide)];exact hp.t8) (by rw[<-VO,Ge (by decide)];exact hp.t9) (by rw[<-VO,Ge (by decide)];exact hp.t10)
  (fun j hj=>by rw[World.cell?_of_block (a:=⟨b8,o8+j,none⟩) h8B];exact hp.c8 j hj) (fun j hj=>by rw[frozen?_of_block h8B];exact hp.f8 j hj) (Jm hp.l8 hsB) (Jm hp.l10 hsB) hp.n8 hp.y8 hp.y10 (hp.ch B hsB hkB) hp.one
  (fun pb hpb=>by
   rcases hpb with hpb|hpb
   ·have:=hp.l8;exact⟨by omega,fun hy=>by have:=hY pb hy;have:=Zx.fr.step.size;omega⟩
   ·rw[hpb];exact⟨fun e=>hp.m8 e.symm,hp.ye⟩)
  (fun b hb=>by have:=hY b hb;have:=Zx.fr.step.size;omega)
 rw[List.length_range] at hB;refine wpIn_seq (QS (Q':=fun e a' w'=>e=.normal/\∃β',Cj 48 B XB Y β' (A2m leaf 18 H (Ac .u64 (M8 seed leaf m)) (Ac .u64 ((List.range H).map fun k=>Cs seed k (H3 leaf k)))) a' w') ?_ ?_)
 ·have hl9:List.range (H5 (sL (sR (sR (sR (sR TH)))))).size=[0,1,2]++[]:=by kernel_rfl
  rw[hl9];refine Hu (ro:=none) (C:=CB) (call:=cl) (r:=((0:Nat),A2m leaf 18 H (Ac .u64 (M8 seed leaf m)) (Ac .u64 ((List.range H).map fun k=>Cs seed k (H3 leaf k))))) (J7 _ _) Ch ?_ [0,1,2] (H5 (sL (sR (sR (sR (sR TH)))))).toList (by kernel_rfl) ?_ (by kernel_rfl) hB (A10 cl leaf 18 H _ _)
  rotate_left
  ·intro j i hj
   match j,hj with
   |0,hj=>cases hj;rfl
   |1,hj=>cases hj;rfl
   |2,hj=>cases hj;rfl
  intro s6 a6 w6 β6 hk6 hs6;obtain⟨β7,s7,hk7,hs7⟩:=Ck hs6 hk6;cases hk7;exact⟨rfl,β7,hs7⟩
 ·rintro e a7 w7 ⟨a6,rfl,rfl,β6,hz⟩
  refine wpIn_ret ?_
  have hD':w7.heap[w4.heap.size+2]?=some (.deferred (some [])):=by
   have Cq:=hRI.size;have hl8:=hp.l8;rw[hz.fr.step.keep (w4.heap.size+2) (by omega) fun hx=>by have:=hXB _ hx;omega]
   exact hdf
  show LeavesInM _ _ _ _ _ _ (a6.defers++[{ target:=.collected (w4.heap.size+2),args:= #[] }]) .returning w7;rw[hz.dfr];refine⟨by simp,.inl ⟨_,_,rfl,run_takeDeferred hD',?_⟩⟩;have YQ:=Zx.fr
  have hu:Cj 48 w (HK CK [Af seed,At H,At leaf,Af m] h8) Y β6 (A2m leaf 18 H (Ac .u64 (M8 seed leaf m)) (Ac .u64 ((List.range H).map fun k=>Cs seed k (H3 leaf k)))) a6 w7:=
   hz.unbase (fun _ h=>h) hY (fun b hx=>by rw[hXB b hx];exact hp.g8) (fun i ⟨p,h1,h2⟩=>by
    match i,h1 with
    |0,h1=>cases h1;cases h2
    |1,h1=>cases h1;cases h2
    |2,h1=>cases h1;cases h2
    |3,h1=>cases h1;cases h2) (hRI.os.trans YQ.os) (hRI.tape.trans YQ.tape) (hRI.output.trans YQ.output) (Nat.le_trans YQ.step.size hsB) (fun b hb=>by
    have h1:=hp.g10;have h2:=hp.ge;have h3:=YQ.step.size;exact (hkB b (by omega) (by omega) (by omega)).trans (YQ.step.keep b hb (hXn b)))
  have hv:=hu.same (QJ (y:=none) hD') fun b hb=>World.putObj_heap_other (by have:=YQ.step.size;omega)
  obtain⟨_,v,r1,vs,own,r2,r3⟩:=EK (C:=CS) (f:=36) (fn:=Tryz.f36) EN (res:=⟨[.agg [At leaf,.lst false 1 18 (Ac .u64 (M8 seed leaf m)),.lst false 1 H (Ac .u64 ((List.range H).map fun k=>Cs seed k (H3 leaf k)))],At 0],[]⟩) (A1h seed H leaf m leaf 18 H _ _) hv;exact⟨v,r1,vs,own,r2,r3⟩
end
section
open Go Go.RowKit
theorem Do.any{G:Zg}{P:Program}{f:FuncId}{args:Ab}{r:D0}(h:Do G1 P f args r):Do G P f args r:=
 ⟨h.1,fun w Y bt us EN _ _=>h.2 w Y bt us EN trivial fun _ hb=>hb.elim⟩
theorem A2c{G:Zg}{seed h leaf m:Int}(hb:UN h leaf=true):Do G prog 36 [Af seed,At h,At leaf,Af m]
  ⟨[.agg [At 0,.lst false 1 0 [],.lst false 1 0 []],At 9],[]⟩:=by
 refine Do.any (WC ngT GT Ch Tryz.func36 rfl ((A2j cl seed h leaf m).trans ?_));have eh:cl 67 [At h]=_:=Zz (xs:=noX) (fu:=2000) (d:=7) h;unfold UN at hb;cases hhi:D1 h
 ·rw[hhi,Bool.false_or] at hb
  have h0:0<=h:=by
   unfold D1 at hhi;rw[Bool.or_eq_false_iff,SP] at hhi;omega
  have eo:cl 68 [At leaf,At h]=_:=Vp (xs:=noX) (fu:=2000) (d:=7) leaf h h0;simp only[B4,B3,eh,eo,hhi,hb]
 ·simp only[B4,B3,eh,hhi]
theorem Anw{G:Zg}{args:Ab}{r:D0}(h:A4f args=some r):Do G prog 36 args r:=by
 unfold A4f at h;split at h
 ·rename_i seed hh leaf m;cases h;cases hb:UN hh leaf
  ·have l18:(M8 seed leaf m).length=18:=by simp[M8]
   have:=Axv (G:=G) (seed:=seed) (m:=m) hb;unfold tkL tkC tkP tkE;rw[hb];simp only[Bool.false_eq_true,if_false,l18,List.length_map,List.length_range];exact this
  ·have:=A2c (G:=G) (seed:=seed) (m:=m) hb;unfold tkL tkC tkP tkE;rw[hb];exact this
 ·cases h
end
section
open Go Go.RowKit
abbrev stC:Code:=WP Tryz.f29
abbrev bwC:Code:=WP Tryz.f93
abbrev bwL:Code:=sB (sB (sR bwC))
abbrev bwX:Code:=sB (sL (sR bwL))
abbrev A6w:Code:=sB (sR (sL (sR (sR stC))))
abbrev Alx:Code:=sA A6w
abbrev Ab3:Code:=sF A6w
abbrev Ay3(N:Nat)(call:Bp)(c:Code)(L:Nat)(s:St):Option (Nat × St):=
 Pm CB prog 2000 N call c L (fun _=>L) L (fun s=>Ke N L s fun s'=>some (0,s')) (fun id s=>Ke N L s fun s'=>some (id+2,s')) (fun s=>Ke N L s fun s'=>some (1,s')) s
section
variable {N:Nat}{w0:World}{X0:Gn}{Y:Nat->Prop}{β:Bt}{s s1:St}{a:Act}{w:World}
theorem VI{G:Zg}(Ks:QL prog G w0 X0)(hm:prog.follows .mixedOrders=true){call:Bp}(Dl:∀f args res,call f args=some res->Do G prog f args res){c:Code}{L t:Nat}{Q:Exit->Act->World->Prop}(h:Cj N w0 X0 Y β s a w)(hk:Ay3 N call c L s=some (t,s1))(hQ:∀a' w' β' e,Cj N w0 X0 Y β' s1 a' w'->(t=0/\e=.normal)\/(t=1/\e=.ret)\/(∃id,t=id+2/\e=.exit id)->Q e a' w'):c.wp prog Q a w:=by
 refine HL Ks Dl hm c h hk (fun s' a' w' β' h1 h2=>?_) (fun id s' a' w' β' h1 h2=>?_) (fun s' a' w' β' h1 h2=>?_)
 ·obtain⟨β1,s2,h3,h4⟩:=Ck h2 h1;cases h3;exact hQ _ _ _ _ h4 (.inl ⟨rfl,rfl⟩)
 ·obtain⟨β1,s2,h3,h4⟩:=Ck h2 h1;cases h3;exact hQ _ _ _ _ h4 (.inr (.inr ⟨id,rfl,rfl⟩))
 ·obtain⟨β1,s2,h3,h4⟩:=Ck h2 h1;cases h3;exact hQ _ _ _ _ h4 (.inr (.inl ⟨rfl,rfl⟩))
theorem QI{G:Zg}(Ks:QL prog G w0 X0)(hm:prog.follows .mixedOrders=true){call:Bp}(Dl:∀f args res,call f args=some res->Do G prog f args res){ro:Option Nat}{n:Nat}{c:Code}(ho:okR c=true){L t:Nat}{Q:Exit->Act->World->Prop}(HR:∀a w,¬Q .outgrown a w)(h:Cj N w0 X0 Y β s a w)(hk:Ay3 N call c L s=some (t,s1))(hQ:∀a' w' β' e,Cj N w0 X0 Y β' s1 a' w'->(t=0/\e=.normal)\/(t=1/\e=.ret)\/(∃id,t=id+2/\e=.exit id)->Q e a' w'):c.wpIn (WF ro) n prog Q a w:=by
 refine PD Ks Dl hm c ho HR h hk (fun s' a' w' β' h1 h2=>?_) (fun id s' a' w' β' h1 h2=>?_) (fun s' a' w' β' h1 h2=>?_)
 ·obtain⟨β1,s2,h3,h4⟩:=Ck h2 h1;cases h3;exact hQ _ _ _ _ h4 (.inl ⟨rfl,rfl⟩)
 ·obtain⟨β1,s2,h3,h4⟩:=Ck h2 h1;cases h3;exact hQ _ _ _ _ h4 (.inr (.inr ⟨id,rfl,rfl⟩))
 ·obtain⟨β1,s2,h3,h4⟩:=Ck h2 h1;cases h3;exact hQ _ _ _ _ h4 (.inr (.inl ⟨rfl,rfl⟩))
end
end
theorem A3n(call:Bp)(v i x lf model now:Int)(n n1 n2:Nat)(c c1 c2:Ab):QB 28 call (sL stC) 106 ⟨lk [(0,.agg [At v,At i,At x,.lst false 3 n c,At lf,.lst false 1 n1 c1,.lst false 1 n2 c2]),(1,Af model),(2,At now)],B0 []⟩=(
 some (0,⟨lk [(1,(Af (model))),(3,(.ptr 3 0)),(5,(.ptr 5 0)),(6,(.ptr 6 0))],B0 [(3,(.st [(At (v)),(At (i)),(At (x)),(.lst false 3 (n) (c)),(At (lf)),(.lst false 1 (n1) (c1)),(.lst false 1 (n2) (c2))])),(5,(.st [(At (now))])),(6,(.st [(At ((0:Int)))]))]⟩)):=by kernel_rfl
theorem A3x(call:Bp)(v i x lf model now:Int)(n n1 n2:Nat)(c c1 c2:Ab):QB 28 call (sL (sR stC)) 224 ⟨lk [(1,Af model),(3,.ptr 3 0),(5,.ptr 5 0),(6,.ptr 6 0)],B0 [(3,.st [At v,At i,At x,.lst false 3 n c,At lf,.lst false 1 n1 c1,.lst false 1 n2 c2]),(5,.st [At now]),(6,.st [At 0])]⟩=(
 Bk (call (52:Nat) [PV.agg [PV.sc (Value.int IntKind.i64 v),PV.sc (Value.int IntKind.i64 i),PV.sc (Value.int IntKind.i64 x),PV.lst false (3:Nat) n c,PV.sc (Value.int IntKind.i64 lf),PV.lst false (1:Nat) n1 c1,PV.lst false (1:Nat) n2 c2],PV.sc (Value.int IntKind.u64 model)]) fun x1 x2=>
 Aq (x2) <|
 Av (x1) fun x3 x4=>
 Dr (x3) fun x5=>
 Av (x5) fun x6 x7=>
 Be (IntKind.u64) (x6) fun x8=>
 Av (x7) fun x9 x10=>
 Pq ((3:Nat)) (x9) fun x11 x12 x13=>
 Av (x10) fun x14 x15=>
 Pq ((2:Nat)) (x14) fun x16 x17 x18=>
 Aq (x15) <|
 Av (x4) fun x19 x20=>
 Cg (x19) fun x21=>
 Aq (x20) <|
 some (0,⟨lk [(5,(.ptr 5 0)),(6,(.ptr 6 0)),(7,(.ptr 7 0))],B0 [(5,(.st [(At (now))])),(6,(.st [(At ((0:Int)))])),(7,(.st [(Af (x8)),(.lst false 3 (x12) (x13)),(.lst false 2 (x17) (x18))]))]⟩)):=by kernel_rfl
theorem A1c(call:Bp)(mo now:Int)(n1 n2:Nat)(c1 c2:Ab):Mw CB prog 28 call (H5 (sL (sL (sR (sR stC))))) (List.take 2 (H5 (sL (sL (sR (sR stC))))).toList) ⟨lk [(5,.ptr 5 0),(6,.ptr 6 0),(7,.ptr 7 0)],B0 [(5,.st [At now]),(6,.st [At 0]),(7,.st [Af mo,.lst false 3 n1 c1,.lst false 2 n2 c2])]⟩ (fun s=>Ke 28 262240 s fun s'=>some (0,s'))=(
 some (0,⟨lk [(5,(.ptr 5 0)),(6,(.ptr 6 0)),(18,(.lst false 2 (n2) (c2)))],B0 [(5,(.st [(At (now))])),(6,(.st [(At ((0:Int)))]))]⟩)):=by kernel_rfl
theorem A2a(call:Bp)(v5 v6:Value)(kd t:Int):QB 28 call Alx 1120 ⟨lk [(5,.sc v5),(6,.sc v6),(21,.agg [At kd,At t])],B0 []⟩=(
 some (0,⟨lk [(5,(.sc (v5))),(6,(.sc (v6))),(10,(.ptr 10 0))],B0 [(10,(.st [(At (kd)),(At (t))]))]⟩)):=by kernel_rfl
theorem As5(call:Bp)(now kd t:Int):Ay3 28 call Ab3 64 ⟨lk [(5,.iptr [At now] 0),(6,.ptr 56000 0),(10,.iptr [At kd,At t] 0)],B0 [(56000,.st [At 0])]⟩=(
  A3 (decide (t<=now))
   (
   some (1,⟨lk [(6,(.ptr 56000 0))],B0 [(56000,(.st [(At (kd))]))]⟩))
   (
   some (0,⟨lk [(6,(.ptr 56000 0))],B0 [(56000,(.st [(At ((0:Int)))]))]⟩))):=by kernel_rfl
theorem A3t(call:Bp)(k:Int):Mw CB prog 28 call (H5 (sL (sR (sR (sR stC))))) (H5 (sL (sR (sR (sR stC))))).toList ⟨lk [(6,.ptr 56000 0)],B0 [(56000,.st [At k])]⟩ (fun s=>Ke 28 64 s fun s'=>some (0,s'))=(
 some (0,⟨lk [(6,(.ptr 56000 0))],B0 [(56000,(.st [(At ((0:Int)))]))]⟩)):=by kernel_rfl
theorem A4d(v i x lf model now k:Int)(n n1 n2:Nat)(c c1 c2:Ab):Afy CS prog 29 Tryz.f29 [.agg [At v,At i,At x,.lst false 3 n c,At lf,.lst false 1 n1 c1,.lst false 1 n2 c2],Af model,At now] ⟨lk [(6,.ptr 56000 0)],B0 [(56000,.st [At k])]⟩=(
 some (D0.mk [PV.sc (Value.int IntKind.i64 k)] [])):=by kernel_rfl
theorem A19(call:Bp)(yv:Value)(n:Nat)(c:Ab):QB 19 call (sL bwC) 11 ⟨lk [(0,.sc yv),(1,.iptr [.lst false 2 n c] 0)],B0 []⟩=(
 Aa (wrap IntKind.i64 ((↑n:Int)-(1:Int))) fun x1=>
 some (0,⟨lk [(0,(.sc (yv))),(1,(.iptr ([PV.lst false (2:Nat) n c]) ((0:Nat)))),(3,(At (x1)))],B0 []⟩)):=by kernel_rfl
theorem As1(call:Bp)(yv:Value)(n:Nat)(c:Ab)(i:Int):QB 19 call (sL bwL) 11 ⟨lk [(0,.sc yv),(1,.iptr [.lst false 2 n c] 0),(3,At i)],B0 []⟩=(
  A3 (decide (i>=(0:Int)))
   (
   some (0,⟨lk [(0,(.sc (yv))),(1,(.iptr ([PV.lst false (2:Nat) n c]) ((0:Nat)))),(3,(At (i)))],B0 []⟩))
   (
   some (1,⟨lk [(0,(.sc (yv))),(1,(.iptr ([PV.lst false (2:Nat) n c]) ((0:Nat)))),(3,(At (i)))],B0 []⟩))):=by kernel_rfl
theorem A2q(call:Bp)(yv:Value)(n:Nat)(c:Ab)(i:Int):Mw CB prog 19 call (H5 (sL bwX)) (List.take 6 (H5 (sL bwX)).toList) ⟨lk [(0,.sc yv),(1,.iptr [.lst false 2 n c] 0),(3,At i)],B0 []⟩ (fun s=>Ke 19 71691 s fun s'=>some (0,s'))=(
 As (decide ((0:Int)<=i)&&decide (i<(↑n:Int))) <|
 Be (IntKind.i64) (List.getD c (Int.toNat i*(2:Nat)) PV.top) fun x1=>
 Be (IntKind.i64) (List.getD c (Int.toNat i*(2:Nat)+(1:Nat)) PV.top) fun x2=>
 some (0,⟨lk [(0,(.sc (yv))),(1,(.iptr ([PV.lst false (2:Nat) n c]) ((0:Nat)))),(3,(At (i))),(11,(.sc (yv))),(12,(At (i))),(16,(.agg [(At (x1)),(At (x2))]))],B0 []⟩)):=by kernel_rfl
theorem Aqw(call:Bp)(yv:Value)(n:Nat)(c:Ab)(i:Int)(e:Bool):Mw CB prog 19 call (H5 (sL bwX)) (List.drop 7 (H5 (sL bwX)).toList) ⟨lk [(0,.sc yv),(1,.iptr [.lst false 2 n c] 0),(3,At i),(17,.sc (.bool e))],B0 []⟩ (fun s=>Ke 19 262155 s fun s'=>some (0,s'))=(
 some (0,⟨lk [(0,(.sc (yv))),(1,(.iptr ([PV.lst false (2:Nat) n c]) ((0:Nat)))),(3,(At (i))),(18,(.sc (.bool (!e))))],B0 []⟩)):=by kernel_rfl
theorem Asy(call:Bp)(yv:Value)(n:Nat)(c:Ab)(i:Int)(q:Bool):Ay3 19 call (sR bwX) 11 ⟨lk [(0,.sc yv),(1,.iptr [.lst false 2 n c] 0),(3,At i),(18,.sc (.bool q))],B0 []⟩=(
  A3 (q)
   (
   some (1,⟨lk [(0,(.sc (yv))),(1,(.iptr ([PV.lst false (2:Nat) n c]) ((0:Nat)))),(3,(At (i)))],B0 []⟩))
   (
   some (0,⟨lk [(0,(.sc (yv))),(1,(.iptr ([PV.lst false (2:Nat) n c]) ((0:Nat)))),(3,(At (i)))],B0 []⟩))):=by kernel_rfl
theorem A36(call:Bp)(yv:Value)(n:Nat)(c:Ab)(i:Int):QB 19 call (sR (sR bwL)) 11 ⟨lk [(0,.sc yv),(1,.iptr [.lst false 2 n c] 0),(3,At i)],B0 []⟩=(
 Aa (wrap IntKind.i64 (i-(1:Int))) fun x1=>
 some (0,⟨lk [(0,(.sc (yv))),(1,(.iptr ([PV.lst false (2:Nat) n c]) ((0:Nat)))),(3,(At (x1)))],B0 []⟩)):=by kernel_rfl
section
open Go Go.RowKit
theorem Ug.trans{Z Z1 Z2:Nat->Prop}{A B C:World}(h:Ug Z Z1 A B)(g:Ug Z1 Z2 B C):Ug Z Z2 A C:=
 ⟨g.os.trans h.os,g.tape.trans h.tape,g.output.trans h.output,Nat.le_trans h.size g.size,fun b hb hn=>(g.keep b (Jm hb h.size) fun h1=>(h.new b h1).elim hn fun h2=>by omega).trans (h.keep b hb hn),
  fun b hb=>g.sub b (h.sub b hb),fun b hb=>(g.new b hb).elim (h.new b) fun h1=>.inr (Nat.le_trans h.size h1),g.lt,fun b hb=>Nat.le_trans (h.bs b hb) (g.bs b (Jm hb h.size))⟩
def Azh{α:Type}(P:Program)(gf:Nat)(lb:Array Value)(M:List α->α->Array Value->(Nat->Prop)->World->Prop)(S Sp:List α->Prop)(Pre:(Nat->Prop)->World->Prop):Prop:=
 ∀(l:Nat) (J Jx:(Nat->Prop)->List α->World->Prop) (W:World) (Z0:Nat->Prop),(∀b,Z0 b->b<W.heap.size)->Pre Z0 W ->
  (∀Z pre A B,J Z pre A->O7 (fun b=>b<A.heap.size) A B->J Z pre B)->(∀Z pre A B,Jx Z pre A->O7 (fun b=>b<A.heap.size) A B->Jx Z pre B) ->
  (∀Z pre x args A,J Z pre A->M pre x args Z A->YieldAt Fence.wide 0 P l args A fun e B=>∃Z',Ug Z Z' A B /\
   ((e=.returned (.bool true)/\J Z' (pre++[x]) B)\/(e=.returned (.bool false)/\Jx Z' (pre++[x]) B))) ->
  J Z0 [] W ->
  Calls P gf (#[.func (.yield l) #[] #[]]++lb) W fun e B=>(∃v,e=.returned v)/\∃Z xs,(S xs/\J Z xs B)\/(Sp xs/\Jx Z xs B)
theorem Aiy{α:Type}{P:Program}{n:Nat}{g:Operand}{ps:Array Tmp}{assign body:Code}{Q:Exit->Act->World->Prop}{a:Act}{w:World}{gf:Nat}{lb:Array Value}(hg:a.eval g=.func (.func gf) #[] lb)(eg:∀args w,(callFunc gf args).run P w=.ok (.enter gf args) w){M:List α->α->Array Value->(Nat->Prop)->World->Prop}{S Sp:List α->Prop}{Pre:(Nat->Prop)->World->Prop}(hit:Azh P gf lb M S Sp Pre){Z0:Nat->Prop}(hZ0:∀b,Z0 b->b<w.heap.size)(Aux:∀W:World,W.heap.size=w.heap.size+2->(∀b,b<w.heap.size->W.heap[b]?=w.heap[b]?)->Pre (fun b=>Z0 b\/b=w.heap.size\/b=w.heap.size+1) W)(PX:∀pre x args Z A,M pre x args Z A->args.size=ps.size)(I:(Nat->Prop)->List α->World->Prop)(Ix:Code->(Nat->Prop)->List α->World->Prop)(hI:∀Z pre A B,I Z pre A->O7 (fun b=>b<A.heap.size/\b≠w.heap.size/\b≠w.heap.size+1) A B->I Z pre B)(hIx:∀c Z pre A B,Ix c Z pre A->O7 (fun b=>b<A.heap.size/\b≠w.heap.size/\b≠w.heap.size+1) A B->Ix c Z pre B)(h0:∀W,W.heap.size=w.heap.size+2->O7 (fun b=>b<w.heap.size) w W->I (fun b=>Z0 b\/b=w.heap.size\/b=w.heap.size+1) [] W)(Nn:(Nat->Prop)->List α->α->Act->World->Prop)(hN:∀Z pre x a' A B,Nn Z pre x a' A->O7 (fun b=>b<A.heap.size/\b≠w.heap.size/\b≠w.heap.size+1) A B->Nn Z pre x a' B)(JU:∀Z pre x args A (K:Act->World->Prop),Z w.heap.size->Z (w.heap.size+1)->I Z pre A->M pre x args Z A->(∀Z1 a' A1,Ug Z Z1 A A1->A1.heap[w.heap.size]?=A.heap[w.heap.size]?->A1.heap[w.heap.size+1]?=A.heap[w.heap.size+1]?->Nn Z1 pre x a' A1->K a' A1) ->
   assign.wpIn (Fence.wide.inRound (w.heap.size+1)) 0 P (Exit.then K (fun _ _ _=>False)) { tmps:=(ps.zip args).foldl (fun t (p,v)=>t.setIfInBounds p v) a.tmps,defers:=[] } A)(Ahq:∀Z pre x a' A,Z w.heap.size->Z (w.heap.size+1)->Nn Z pre x a' A->body.wpIn (Fence.wide.inRound (w.heap.size+1)) 0 P (MX w.heap.size I Ix Z (pre++[x]) A) a' A)(Ae7:∀Z xs B,S xs->I Z xs B->B.heap[w.heap.size]?=some (.deferred (some []))->Q .normal { a with defers:={ target:=.collected w.heap.size,args:= #[] }::a.defers } B)(Ag0:∀c Z xs B,Sp xs->Ix c Z xs B->B.heap[w.heap.size]?=some (.deferred (some []))->c.wpIn Fence.wide n P Q { a with defers:={ target:=.collected w.heap.size,args:= #[] }::a.defers } B):
  (Code.rangeFunc g ps assign body).wpIn Fence.wide n P Q a w:=by
 refine wpIn_rangeFunc ?_;intro fn hfn;obtain⟨rec,AG⟩:∃rec:LoopState->Option Code->Loop,rec=fun st pe=>{ state:=st,pending:=pe,fn,tmps:=a.tmps,params:=ps,assign,body,defers:=w.heap.size }:=⟨_,rfl⟩
 obtain⟨D,hD⟩:∃D,w.heap.size=D:=⟨_,rfl⟩
 rw[hD] at hI hIx h0 hN JU Ahq Ae7 Ag0 hZ0 Aux;obtain⟨W1,hW1⟩:∃W1,(w.alloc (.deferred (some []))).alloc (.loop (rec .ready none))=W1:=⟨_,rfl⟩
 have PI:W1.heap.size=D+2:=by rw[<-hW1,World.size_alloc,World.size_alloc,hD]
 have hL1:W1.heap[D+1]?=some (.loop (rec .ready none)):=by
  rw[<-hW1,<-hD];have:=World.alloc_heap_new (w.alloc (.deferred (some []))) (.loop (rec .ready none));rwa [World.size_alloc] at this
 have hK1:W1.heap[D]?=some (.deferred (some [])):=by
  rw[<-hW1,<-hD];exact (Below.heap_alloc _ _ _ (by simp)).trans (World.alloc_heap_new w _)
 have Hc:O7 (fun b=>b<D) w W1:=by
  rw[<-hW1,<-hD];exact⟨rfl,rfl,rfl,by simp;omega,fun b hb=>(Below.heap_alloc _ _ _ (by simp;omega)).trans (Below.heap_alloc _ _ _ hb)⟩
 refine⟨D+1,[{ target:=.collected D,args:= #[] }],W1,{ target:=.fn (.func gf) lb,args:= #[.func (.yield (D+1)) #[] #[]] },W1,gf,
  #[.func (.yield (D+1)) #[] #[]]++lb,W1,?_,?_,fun _ _=>trivial,?_,(fun h=>by cases h),?_⟩
 ·rw[<-hW1,AG,<-hD];exact run_enterLoop_outer _ _ _ _ _
 ·simp only[resolve,hg];simp[go_sem]
 ·simp[invoke,go_sem,eg]
 ·have put:∀{A:World} (o:Obj),O7 (fun b=>b<A.heap.size/\b≠D/\b≠D+1) A (A.putObj (D+1) o):=fun o=>
   ⟨rfl,rfl,rfl,by simp,fun b hb=>World.putObj_heap_other hb.2.2⟩
  refine callsIn_wide.2 (Calls.mono (hit (D+1)
   (fun Z pre A=>(Z D/\Z (D+1))/\I Z pre A/\A.heap[D+1]?=some (.loop (rec .ready none))/\A.heap[D]?=some (.deferred (some [])))
   (fun Z pre A=>(Z D/\Z (D+1))/\∃c,Ix c Z pre A/\A.heap[D+1]?=some (.loop (rec .done (some c)))/\A.heap[D]?=some (.deferred (some [])))
   W1 (fun b=>Z0 b\/b=D\/b=D+1) (fun b hb=>by rw[PI];exact hb.elim (fun h=>by have:=hZ0 b h;omega) fun h=>by omega) (Aux W1 PI (fun b hb=>Hc.same b hb)) ?_ ?_ ?_ ?_) ?_)
  ·rintro Z pre A B ⟨hz,hi,hl,hk⟩ hs
   exact⟨hz,hI Z pre A B hi (hs.sub fun _ h=>h.1),(hs.same _ (Array.getElem?_eq_some_iff.1 hl).1).trans hl,(hs.same _ (Array.getElem?_eq_some_iff.1 hk).1).trans hk⟩
  ·rintro Z pre A B ⟨hz,c,hi,hl,hk⟩ hs
   exact⟨hz,c,hIx c Z pre A B hi (hs.sub fun _ h=>h.1),(hs.same _ (Array.getElem?_eq_some_iff.1 hl).1).trans hl,(hs.same _ (Array.getElem?_eq_some_iff.1 hk).1).trans hk⟩
  ·rintro Z0' pre x args A0 ⟨hz0,hi,Zk,hk0⟩ hm
   have hy:=run_yield (P:=P) (args:=args) Zk (by rw[AG];exact PX pre x args Z0' A0 hm)
   rw[AG] at hy;refine⟨fn,_,assign,body,hy,roundIn_of_wpIn hfn (JU Z0' pre x args A0 _ hz0.1 hz0.2 hi hm ?_)⟩;intro Z a' A ht0 k0 k1 hn;have hz:Z D/\Z (D+1):=⟨ht0.sub _ hz0.1,ht0.sub _ hz0.2⟩
   have hl:=k1.trans Zk;have hk:=k0.trans hk0;have Cq:D+1<A.heap.size:=(Array.getElem?_eq_some_iff.1 hl).1;refine⟨_,run_beginRound hl (by rw[AG]),?_⟩;obtain⟨A2,hA2⟩:∃A2,A.putObj (D+1) (.loop { rec .ready none with state:=.busy })=A2:=⟨_,rfl⟩
   rw[hA2];have RQ:A2.heap[D+1]?=some (.loop { rec .ready none with state:=.busy }):=by rw[<-hA2];exact World.putObj_heap_same Cq
   have Hl:A2.heap[D]?=some (.deferred (some [])):=by rw[<-hA2];exact (World.putObj_heap_other (by omega)).trans hk
   have hz2:A2.heap.size=A.heap.size:=by rw[<-hA2];simp
   have hn2:Nn Z pre x a' A2:=by rw[<-hA2];exact hN Z pre x a' A _ hn (put _)
   refine wpIn_mono (Ahq Z pre x a' A2 hz.1 hz.2 hn2) ?_
   have fin:∀(jump:Option Code) (W3:World) (Z':Nat->Prop),Ug Z Z' A2 W3->W3.heap[D]?=A2.heap[D]?->W3.heap[D+1]?=A2.heap[D+1]? ->
     (Instr.endRound (D+1) jump).run P W3=.ok (.bool jump.isNone) (W3.putObj (D+1) (.loop (rec (if jump.isNone then .ready else .done) jump))) /\
     (W3.putObj (D+1) (.loop (rec (if jump.isNone then .ready else .done) jump))).heap[D+1]?=some (.loop (rec (if jump.isNone then .ready else .done) jump)) /\
     (W3.putObj (D+1) (.loop (rec (if jump.isNone then .ready else .done) jump))).heap[D]?=some (.deferred (some [])) /\
     Ug Z Z' A (W3.putObj (D+1) (.loop (rec (if jump.isNone then .ready else .done) jump))):=fun jump W3 Z' ht e1 e2=>by
    have hl3:=e2.trans RQ;have:=run_endRound (P:=P) jump hl3;rw[AG] at this ⊢;refine⟨this,World.putObj_heap_same (Array.getElem?_eq_some_iff.1 hl3).1,(World.putObj_heap_other (by omega)).trans (e1.trans Hl),?_⟩;have hA:A2.os=A.os/\A2.tape=A.tape/\A2.output=A.output:=by rw[<-hA2];exact⟨rfl,rfl,rfl⟩
    refine⟨ht.os.trans hA.1,ht.tape.trans hA.2.1,ht.output.trans hA.2.2,by have:=ht.size;simp;omega,fun b hb hn=>?_,ht.sub,fun b hb=>by have:=ht.new b hb;rw[hz2] at this;exact this,fun b hb=>by simpa using ht.lt b hb,fun b hb=>?_⟩
    ·have Gz:b≠D+1:=fun e=>hn (e ▸ hz.2);rw[World.putObj_heap_other Gz,ht.keep b (by omega) hn,<-hA2,World.putObj_heap_other Gz]
    ·by_cases Gz:b=D+1
     ·subst Gz;unfold bsz;rw[hl];exact Nat.zero_le _
     ·have h5:=ht.bs b (by omega);have h6:bsz A2 b=bsz A b:=by unfold bsz;rw[<-hA2,World.putObj_heap_other Gz]
      have h7:∀o,bsz (W3.putObj (D+1) o) b=bsz W3 b:=fun o=>by unfold bsz;rw[World.putObj_heap_other Gz]
      rw[h7,<-h6];exact h5
   rintro e a3 W3 ⟨Z',ht,e1,e2,hp⟩
   cases e with
   |normal=>
    obtain⟨hr,hl4,Xq,ht4⟩:=fin none W3 Z' ht e1 e2;exact⟨_,_,hr,Z',ht0.trans ht4,.inl ⟨rfl,⟨ht.sub _ hz.1,ht.sub _ hz.2⟩,hI Z' _ _ _ hp (put _),hl4,Xq⟩⟩
   |ret=>
    obtain⟨hr,hl4,Xq,ht4⟩:=fin (some .ret) W3 Z' ht e1 e2;exact⟨_,_,hr,Z',ht0.trans ht4,.inr ⟨rfl,⟨ht.sub _ hz.1,ht.sub _ hz.2⟩,.ret,hIx _ Z' _ _ _ hp (put _),hl4,Xq⟩⟩
   |exit id=>
    obtain⟨hr,hl4,Xq,ht4⟩:=fin (some (.exit id)) W3 Z' ht e1 e2;exact⟨_,_,hr,Z',ht0.trans ht4,.inr ⟨rfl,⟨ht.sub _ hz.1,ht.sub _ hz.2⟩,.exit id,hIx _ Z' _ _ _ hp (put _),hl4,Xq⟩⟩
   |goto t=>
    obtain⟨hr,hl4,Xq,ht4⟩:=fin (some (.goto t)) W3 Z' ht e1 e2;exact⟨_,_,hr,Z',ht0.trans ht4,.inr ⟨rfl,⟨ht.sub _ hz.1,ht.sub _ hz.2⟩,.goto t,hIx _ Z' _ _ _ hp (put _),hl4,Xq⟩⟩
   |panic ch=>exact hp.elim
   |outgrown=>exact hp.elim
  ·exact⟨⟨.inr (.inl rfl),.inr (.inr rfl)⟩,h0 W1 PI Hc,hL1,hK1⟩
  ·rintro e W2 ⟨⟨v,rfl⟩,Z,xs,(⟨hS,hz,hi,hl,hk⟩|⟨hSp,hz,c,hi,hl,hk⟩)⟩
   ·exact⟨none,_,by have:=run_endLoop (P:=P) hl (by rw[AG];simp);rw[AG] at this;exact this,Ae7 Z xs _ hS (hI Z _ _ _ hi (put _)) ((World.putObj_heap_other (by omega)).trans hk)⟩
   ·exact⟨some c,_,by have:=run_endLoop (P:=P) hl (by rw[AG];simp);rw[AG] at this;exact this,Ag0 c Z xs _ hSp (hIx c Z _ _ _ hi (put _)) ((World.putObj_heap_other (by omega)).trans hk)⟩
end
section
open Go Go.RowKit
def prC(p:Int × Int):Ab:=[At p.1,At p.2]
def Lo(l:List (Int × Int)):Ab:=l.flatMap prC
theorem Ac9(p:Int × Int):(prC p).length=2:=rfl
theorem An7(l:List (Int × Int)):(Lo l).length=l.length*2:=Xk Ac9 l
theorem At6{l:List (Int × Int)}{i:Nat}{p:Int × Int}(h:l[i]?=some p):(Lo l).getD (i*2) .top=At p.1/\(Lo l).getD (i*2+1) .top=At p.2:=
 ⟨Hv Ac9 h (j:=0) (by omega),Hv Ac9 h (j:=1) (by omega)⟩
theorem A1w:bwC=.seq (sL bwC) (.block 0 (.loop bwL)):=by kernel_rfl
theorem As4:bwL=.seq (sL bwL) (.seq (.block 1 bwX) (sR (sR bwL))):=by kernel_rfl
theorem A18:bwX=.seq (.region 3 (H5 (sL bwX)) false) (sR bwX):=by kernel_rfl
theorem A78:∃ty pos aft x,(H5 (sL bwX))[6]?=some { dst:=some 17,op:=.call { callee:=.value (.tmp 11),args:= #[.tmp 12,.tmp 16],argTypes:=x },type:=ty,pos:=pos,after:=aft,guard:=none }:=
 ⟨_,_,_,_,rfl⟩
abbrev bwS(yv:Value)(l:List (Int × Int))(i:Int):St:=⟨lk [(0,.sc yv),(1,.iptr [.lst false 2 l.length (Lo l)] 0),(3,At i)],B0 []⟩
abbrev Arm(yv:Value)(l:List (Int × Int))(i kd t:Int):St:=⟨lk [(0,.sc yv),(1,.iptr [.lst false 2 l.length (Lo l)] 0),(3,At i),(11,.sc yv),(12,At i),(16,.agg [At kd,At t])],B0 []⟩
abbrev Baz(yv:Value)(l:List (Int × Int))(i:Int)(e:Bool):St:=⟨lk [(0,.sc yv),(1,.iptr [.lst false 2 l.length (Lo l)] 0),(3,At i),(17,.sc (.bool e))],B0 []⟩
abbrev A6n(yv:Value)(l:List (Int × Int))(i:Int)(e:Bool):St:=⟨lk [(0,.sc yv),(1,.iptr [.lst false 2 l.length (Lo l)] 0),(3,At i),(18,.sc (.bool e))],B0 []⟩
def bwM(l:List (Int × Int))(pre:Cc)(i:Nat)(args:Array Value)(Z:Nat->Prop)(A:World):Prop:=
 (∀j,i<j->j<l.length->j∈pre)/\∃p,l[i]?=some p/\args = #[.int .i64 i,.agg #[.int .i64 p.1,.int .i64 p.2]]
theorem Aqj{l:List (Int × Int)}{pre:Cc}{i:Nat}{args:Array Value}{Z:Nat->Prop}{A:World}(hm:bwM l pre i args Z A):args.size=2:=by obtain⟨_,p,_,h⟩:=hm;rw[h];rfl
theorem Cj.stayA{N:Nat}{w0 w:World}{X0:Gn}{Y:Nat->Prop}{β:Bt}{s:St}{a:Act}(h:Cj N w0 X0 Y β s a w)(hx:∀b,¬X0.X b):O7 (fun b=>b<w0.heap.size) w0 w:=
 ⟨h.fr.os,h.fr.tape,h.fr.output,h.fr.step.size,fun b hb=>h.fr.step.keep b hb (hx b)⟩
theorem A0w(b:Nat):¬noL.X b:=fun h=>h
theorem hp0{id:Nat}{bx:Cb}:B0 [] id=some bx->False:=fun h=>by cases h
theorem A9n{β:Bt}{b:Nat}:¬GY (B0 []) β b:=fun ⟨_,_,h,_⟩=>(h:C8 none).elim
section
variable {l:List (Int × Int)}{y:Nat}{w0:World}{X0:Gn}{Z:Nat->Prop}{β:Bt}{a:Act}{w:World}
theorem Awh{yv:Value}{i kd t:Int}(hs:Cj 19 w0 X0 Z β (Arm yv l i kd t) a w):
  a.tmps.getD 11 undef=yv/\a.tmps.getD 12 undef=.int .i64 i/\a.tmps.getD 16 undef=.agg #[.int .i64 kd,.int .i64 t]:=by
 refine⟨Ni (hs.tms 11 (by decide)),Ni (hs.tms 12 (by decide)),?_⟩;obtain⟨vs,h1,h2⟩:=(show ∃vs,a.tmps.getD 16 undef=.agg ⟨vs⟩/\B9 (Cx w (D2 (B0 []) β Z) β) [At kd,At t] vs from hs.tms 16 (by decide))
 match vs,h2 with
 |[u,v],⟨k1,k2,_⟩=>
  have e1:=Bd.val (w:=w) k1;have e2:=Bd.val (w:=w) k2;rw[h1,<-e1,<-e2]
theorem Ak4{yv:Value}{i kd t:Int}{Z':Nat->Prop}{B:World}(b:Bool)(hs:Cj 19 w0 X0 Z β (Arm yv l i kd t) a w)(ht:Ug Z Z' w B):
  Cj 19 B (Ant (Arm yv l i kd t) β) Z' β (Baz yv l i b) (a.put (some 17) (.bool b)) B:=by
 have h1:=(hs.rebase ht (fun id c (e:(B0 [] id:Option Cb)=some (.st c))=>hp0 e)).put (d:=some 17) (v:=.sc (.bool b)) (val:=.bool b) rfl (Bd.sc _) (by simp[Cn,C3,A9]);refine h1.pick _ _ ?_ ?_ ?_ ?_ (fun _ h=>h.elim)
 ·intro q hq;simp only[B6,Ie,or_false] at hq;rcases hq with rfl|rfl|rfl|rfl<;>rfl
 ·intro q hq;cases hq
 ·intro q hq id B5;simp only[B6,Ie,or_false] at hq;rcases hq with rfl|rfl|rfl|rfl<;>simp[Cn,C3,A9] at B5
 ·intro q hq;cases hq
theorem Aac{J Jx:(Nat->Prop)->Cc->World->Prop}(hJ:∀Z pre A B,J Z pre A->O7 (fun b=>b<A.heap.size) A B->J Z pre B)(hJx:∀Z pre A B,Jx Z pre A->O7 (fun b=>b<A.heap.size) A B->Jx Z pre B)(hY:∀Z pre x args A,J Z pre A->bwM l pre x args Z A->YieldAt Fence.wide 0 prog y args A fun e B=>∃Z',Ug Z Z' A B/\((e=.returned (.bool true)/\J Z' (pre++[x]) B)\/(e=.returned (.bool false)/\Jx Z' (pre++[x]) B)))(hl:l.length<=100000){Q:Exit->Act->World->Prop}(Acy:∀e a' w',e=.exit 0\/e=.ret->a'.defers=[]->(∃Z xs,((∀j,j<l.length->j∈xs)/\J Z xs w')\/Jx Z xs w')->Q e a' w'):
  ∀(k nn:Nat),k<=l.length->k<nn->∀{w0:World} {X0:Gn} {Z:Nat->Prop} {β:Bt} {a:Act} {w:World} {pre:Cc},
   Cj 19 w0 X0 Z β (bwS (.func (.yield y) #[] #[]) l ((k:Int)-1)) a w->(∀b,¬X0.X b)->(∀j,k<=j->j<l.length->j∈pre)->J Z pre w0->Code.roundsIn Fence.wide 0 prog bwL Q nn a w
 |_,0,_,h=>by omega
 |0,nn+1,hk,hn=>by
  intro hs hd Aho hj;rename_i w0 X0 Z β a w pre;rw[roundsIn_succ];refine Q5 As4 (wpIn_seq (wpIn_wide.2 (D6 (J7 _ _) GT Ch hs (t:=1) (L:=11) (s1:=bwS (.func (.yield y) #[] #[]) l (((0:Nat):Int)-1)) ?_ ?_)))
  ·exact (As1 cl _ l.length (Lo l) _).trans (Ef _ _ _ (by omega))
  ·intro a' w' β' h';exact Acy _ a' w' (.inl rfl) h'.dfr ⟨Z,pre,.inl ⟨fun j hj2=>Aho j (by omega) hj2,hJ Z pre _ _ hj (h'.stayA hd)⟩⟩
 |k+1,nn+1,hk,hn=>by
  intro hs hd Aho hj;rename_i w0 X0 Z β a w pre;rw[roundsIn_succ];have ek:(((k+1:Nat):Int)-1)=(k:Int):=by omega
  rw[ek] at hs;refine Q5 As4 (wpIn_seq (wpIn_wide.2 (D6 (J7 _ _) GT Ch hs (t:=0) (L:=11) (s1:=bwS (.func (.yield y) #[] #[]) l (k:Int)) ?_ ?_)))
  ·exact (As1 cl _ l.length (Lo l) _).trans (HM _ _ _ (by omega))
  intro a1 w1 β1 PI;show (Code.seq (.block 1 bwX) (sR (sR bwL))).wpIn Fence.wide 0 prog _ a1 w1;refine wpIn_seq (wpIn_block (Q5 A18 (wpIn_seq (wpIn_region ?_))));have hli:List.range (H5 (sL bwX)).size=[0,1,2,3,4,5]++[6,7]:=by kernel_rfl
  rw[hli];have Cq:k<l.length:=by omega
  have hp:=List.getElem?_eq_getElem Cq;generalize l[k]=p at hp;obtain⟨g0,g1⟩:=At6 hp;refine Hu (ro:=none) (C:=CB) (call:=cl) (r:=((0:Nat),Arm (.func (.yield y) #[] #[]) l k p.1 p.2)) (J7 _ _) Ch ?_ [0,1,2,3,4,5] (List.take 6 (H5 (sL bwX)).toList) (by kernel_rfl) ?_ (by kernel_rfl) PI ((A2q cl _ l.length (Lo l) k).trans ?_)
  rotate_left
  ·intro j i hj
   match j,hj with
   |0,hj=>cases hj;rfl
   |1,hj=>cases hj;rfl
   |2,hj=>cases hj;rfl
   |3,hj=>cases hj;rfl
   |4,hj=>cases hj;rfl
   |5,hj=>cases hj;rfl
  ·simp(disch:=omega)only[B4,B3,H0,g0,g1]
  intro s' a2 w2 β2 Hl TL;obtain⟨β3,s3,Xn,hs3⟩:=Ck TL Hl;cases Xn;obtain⟨v11,v12,v16⟩:=Awh hs3;have hjw:J Z pre w2:=hJ Z _ _ _ hj (hs3.stayA hd);have hm:bwM l pre k #[.int .i64 k,.agg #[.int .i64 p.1,.int .i64 p.2]] Z w2:=⟨fun j h1 h2=>Aho j (by omega) h2,p,hp,rfl⟩
  obtain⟨fn,tmps,assign,body,hy,hR⟩:=hY Z _ k _ w2 hjw hm;obtain⟨ty,pos,aft,x,ho⟩:=A78;rw[wpOpsIn_cons];unfold wpOpIn;rw[ho];simp only[Region.wanted,if_true]
  have run:(execOp a2.eval { dst:=some 17,op:=.call { callee:=.value (.tmp 11),args:= #[.tmp 12,.tmp 16],argTypes:=x },type:=ty,pos:=pos,after:=aft,guard:=none }).run prog w2=.ok (.round y fn tmps assign body) w2:=by
   have e11:a2.eval (.tmp 11)=.func (.yield y) #[] #[]:=v11;have e12:a2.eval (.tmp 12)=.int .i64 k:=v12;have e16:a2.eval (.tmp 16)=.agg #[.int .i64 p.1,.int .i64 p.2]:=v16;refine Aah rfl rfl e11 ?_;rw[<-hy];simp only[List.map_toArray,Sf,List.map_nil,e12,e16]
  refine⟨fun _ _=>trivial,?_⟩;rw[show Oper.semAt (WF none).round a2.eval { dst:=some 17,op:=.call { callee:=.value (.tmp 11),args:= #[.tmp 12,.tmp 16],argTypes:=x },type:=ty,pos:=pos,after:=aft,guard:=none }=execOp a2.eval { dst:=some 17,op:=.call { callee:=.value (.tmp 11),args:= #[.tmp 12,.tmp 16],argTypes:=x },type:=ty,pos:=pos,after:=aft,guard:=none } from rfl,run];refine⟨(fun h=>by cases h),(PS hR).mono ?_⟩
  rintro e B ⟨Z',ht,he⟩
  have H2:∀b,¬(Ant (Arm (.func (.yield y) #[] #[]) l k p.1 p.2) β3).X b:=fun b hb=>A9n hb;rcases he with⟨rfl,hj2⟩|⟨rfl,hj2⟩
  ·have h4:=Ak4 true hs3 ht;show wpOpsIn _ _ _ _ _ ([7]++[]) _ _;refine Hu (ro:=none) (C:=CB) (call:=cl) (r:=((0:Nat),A6n (.func (.yield y) #[] #[]) l k (!true))) (J7 _ _) Ch ?_ [7] (List.drop 7 (H5 (sL bwX)).toList) (by kernel_rfl) ?_ (by kernel_rfl) h4 (Aqw cl _ l.length (Lo l) k true)
   rotate_left
   ·intro j i hj
    match j,hj with
    |0,hj=>cases hj;rfl
   intro s' a5 w5 β5 hk5 Zx;obtain⟨β6,s6,hk6,hs6⟩:=Ck Zx hk5;cases hk6;show (sR bwX).wpIn Fence.wide 0 prog _ a5 w5;refine wpIn_wide.2 (VI (J7 _ _) GT Ch hs6 (t:=0) (L:=11) (s1:=bwS (.func (.yield y) #[] #[]) l k) (Asy cl _ l.length (Lo l) k false) ?_)
   rintro a' w' β' e' h' (⟨_,rfl⟩|⟨h1,_⟩|⟨id,h1,_⟩)
   ·show (sR (sR bwL)).wpIn Fence.wide 0 prog _ a' w';refine wpIn_wide.2 (D6 (J7 _ _) GT Ch h' (t:=0) (L:=11) (s1:=bwS (.func (.yield y) #[] #[]) l ((k:Int)-1)) ?_ ?_)
    ·have wk:wrap .i64 ((k:Int)-1)=(k:Int)-1:=Ag (by omega) (by omega);refine (A36 cl _ l.length (Lo l) k).trans ?_;simp only[B4,B3,wk]
    ·intro a7 w7 β7 h7
     exact Aac hJ hJx hY hl Acy k nn (by omega) (by omega) h7 H2 (fun j h1 h2=>Bz.2 (by
      rcases Mi k j with h3|h3
      ·exact .inl (Aho j (by omega) h2)
      ·exact .inr (Mv.2 (by omega)))) hj2
   ·cases h1
   ·omega
  ·have h4:=Ak4 false hs3 ht;show wpOpsIn _ _ _ _ _ ([7]++[]) _ _;refine Hu (ro:=none) (C:=CB) (call:=cl) (r:=((0:Nat),A6n (.func (.yield y) #[] #[]) l k (!false))) (J7 _ _) Ch ?_ [7] (List.drop 7 (H5 (sL bwX)).toList) (by kernel_rfl) ?_ (by kernel_rfl) h4 (Aqw cl _ l.length (Lo l) k false)
   rotate_left
   ·intro j i hj
    match j,hj with
    |0,hj=>cases hj;rfl
   intro s' a5 w5 β5 hk5 Zx;obtain⟨β6,s6,hk6,hs6⟩:=Ck Zx hk5;cases hk6;show (sR bwX).wpIn Fence.wide 0 prog _ a5 w5;refine wpIn_wide.2 (VI (J7 _ _) GT Ch hs6 (t:=1) (L:=11) (s1:=bwS (.func (.yield y) #[] #[]) l k) (Asy cl _ l.length (Lo l) k true) ?_)
   rintro a' w' β' e' h' (⟨h1,_⟩|⟨_,rfl⟩|⟨id,h1,rfl⟩)
   ·cases h1
   ·exact Acy _ a' w' (.inr rfl) h'.dfr ⟨Z',_,.inr (hJx Z' _ _ _ hj2 (h'.stayA H2))⟩
   ·omega
end
end
section
open Go Go.RowKit Go.Shelf
def A5r(S0:Nat)(l:List (Int × Int))(Z0:Nat->Prop)(W:World):Prop:=YO W Z0 ⟨S0,0,none⟩ [.lst false 2 l.length (Lo l)]/\S0<W.heap.size/\¬Z0 S0
theorem Axx{S0:Nat}{l:List (Int × Int)}(hl:l.length<=100000):Azh prog 93 #[.pointer (some ⟨S0,0,none⟩)] (bwM l) (fun xs=>∀j,j<l.length->j∈xs) (fun _=>True) (A5r S0 l):=by
 intro y J Jx W Z0 hZ hP hJ hJx hY h0;obtain⟨p1,p2,p3⟩:=hP;refine callsIn_wide.1 (callsIn_of_wp (F:=Fence.wide) (n:=0) Tryz.func93 rfl trivial ?_ rfl);show bwC.wpIn _ _ _ _ _ _;have t1:(({ tmps:=(#[Value.func (.yield y) #[] #[]] ++ #[Value.pointer (some ⟨S0,0,none⟩)])++Array.replicate (Tryz.f93.ntmps-(#[Value.func (.yield y) #[] #[]] ++ #[Value.pointer (some ⟨S0,0,none⟩)]).size) undef,defers:=[] }:Act))={ tmps:=(Value.func (.yield y) #[] #[]::Value.pointer (some ⟨S0,0,none⟩)::List.replicate 17 undef).toArray,defers:=[] }:=by kernel_rfl
 rw[t1]
 have i0:Cj 19 W noL Z0 (fun _=>none) ⟨lk [(0,.sc (.func (.yield y) #[] #[])),(1,.iptr [.lst false 2 l.length (Lo l)] 0)],B0 []⟩ { tmps:=(Value.func (.yield y) #[] #[]::Value.pointer (some ⟨S0,0,none⟩)::List.replicate 17 undef).toArray,defers:=[] } W:=by
  refine Cj.init _ _ rfl (by simp) ?_ ?_ ?_ hZ
  ·intro q hq;simp only[B6,Ie,or_false] at hq;rcases hq with rfl|rfl<;>simp
  ·intro q hq;simp only[B6,Ie,or_false] at hq;rcases hq with rfl|rfl
   ·exact Bd.sc _
   ·exact⟨⟨S0,0,none⟩,rfl,rfl,p2,p3,p1⟩
  ·intro q hq;simp only[B6,Ie,or_false] at hq;rcases hq with rfl|rfl<;>rfl
 generalize ({ tmps:=(Value.func (.yield y) #[] #[]::Value.pointer (some ⟨S0,0,none⟩)::List.replicate 17 undef).toArray,defers:=[] }:Act)=a0 at i0 ⊢;refine Q5 A1w (wpIn_seq (wpIn_wide.2 (D6 (J7 _ _) GT Ch i0 (L:=11) (t:=0) (s1:=bwS (.func (.yield y) #[] #[]) l ((l.length:Int)-1)) ?_ ?_)))
 ·have wk:wrap .i64 ((l.length:Int)-1)=(l.length:Int)-1:=Ag (by omega) (by omega);refine (A19 cl _ l.length (Lo l)).trans ?_;simp only[B4,B3,wk]
 intro a1 w1 β1 h1;refine wpIn_block (wpIn_loop_rounds (l.length+1) (Aac hJ hJx hY hl ?_ l.length (l.length+1) (C9 _) (by omega) h1 A0w (fun j h1 h2=>by omega) h0))
 rintro e a5 w5 he h5 ⟨Z,xs,h6⟩
 have h7:∃Z xs,((∀j,j<l.length->j∈xs)/\J Z xs w5)\/(True/\Jx Z xs w5):=⟨Z,xs,h6.imp (fun x=>x) fun x=>⟨trivial,x⟩⟩
 rcases he with rfl|rfl
 ·exact⟨h5,_,results_none rfl _ _ _,⟨_,rfl⟩,h7⟩
 ·exact⟨h5,_,results_none rfl _ _ _,⟨_,rfl⟩,h7⟩
set_option maxHeartbeats 2000000 in
theorem Ayb(ad:Option Addr)(n c:Int)(m:Nat)(w:World)(k q:Nat):CallsIn Fence.wide m prog 53 #[.slice ad k q] w fun e w'=>
  e=.returned (.func (.func 93) #[] #[.pointer (some ⟨w.heap.size,0,none⟩)])/\w'=w.alloc (.cells #[.slice ad k q] 59):=by
 refine callsIn_of_wp Tryz.func53 rfl trivial ?_ rfl;simp only[Tryz.ntmps53,List.size_toArray,G7,Vx,Nat.reduceAdd,Nat.reduceSub,Array.replicate_succ,Array.replicate_zero,List.push_toArray,List.append_toArray,SR,Zzp]
 gi_wp2
 go_ret
 exact⟨rfl,rfl⟩
end
section
open Go Go.RowKit
structure RI(wS:World)(D b6 o6:Nat)(v:Int)(Z:Nat->Prop)(A:World):Prop where
 os:A.os=wS.os
 tape:A.tape=wS.tape
 output:A.output=wS.output
 size:D+2<=A.heap.size
 zlt:∀b,Z b->b<A.heap.size
 z6:Z b6
 zn:∀b,Z b->b=b6\/D<=b
 keep:∀b,b<D->b≠b6->A.heap[b]?=wS.heap[b]?
 bs:bsz wS b6<=bsz A b6
 c6:A.cell? ⟨b6,o6,none⟩=some (.int .i64 v)
 f6:A.frozen? ⟨b6,o6,none⟩=false
theorem RI.stay{wS:World}{D b6 o6:Nat}{v:Int}{Z:Nat->Prop}{A B:World}(hI:RI wS D b6 o6 v Z A)(l6:b6<D)(hs:O7 (fun b=>b<A.heap.size/\b≠D/\b≠D+1) A B):RI wS D b6 o6 v Z B:=by
 have hz:=hI.size;have e:∀b,b<D->B.heap[b]?=A.heap[b]?:=fun b hb=>hs.same b ⟨by omega,by omega,by omega⟩;have hb6:bsz B b6=bsz A b6:=by unfold bsz;rw[e b6 l6]
 exact⟨hs.os.trans hI.os,hs.tape.trans hI.tape,hs.output.trans hI.output,Nat.le_trans hI.size hs.size,fun b hb=>Jm (hI.zlt b hb) hs.size,hI.z6,hI.zn,fun b hb hn=>(e b hb).trans (hI.keep b hb hn),by rw[hb6];exact hI.bs,
  (World.cell?_of_block (e b6 l6)).trans hI.c6,by rw[frozen?_of_block (e b6 l6)];exact hI.f6⟩
def A2i(l:List (Int × Int))(now:Int)(pre:Cc):Prop:=∀j∈pre,∀p,l[j]?=some p->now<p.2
structure Awi(v5 v6:Value)(D:Nat)(kd t:Int)(a:Act)(A:World):Prop where
 dfr:a.defers=[]
 size:a.tmps.size=28
 t5:a.tmps.getD 5 undef=v5
 t6:a.tmps.getD 6 undef=v6
 t10:∃b o,a.tmps.getD 10 undef=.pointer (some ⟨b,o,none⟩)/\D+2<=b/\b<A.heap.size/\A.cell? ⟨b,o,none⟩=some (.int .i64 kd)/\A.cell? ⟨b,o+1,none⟩=some (.int .i64 t)
theorem Awi.stay{v5 v6:Value}{D:Nat}{kd t:Int}{a:Act}{A B:World}(h:Awi v5 v6 D kd t a A)(hs:O7 (fun b=>b<A.heap.size/\b≠D/\b≠D+1) A B):Awi v5 v6 D kd t a B:=by obtain⟨b,o,h1,h2,h3,h4,h5⟩:=h.t10;have e:B.heap[b]?=A.heap[b]?:=hs.same b ⟨h3,by omega,by omega⟩;exact⟨h.dfr,h.size,h.t5,h.t6,b,o,h1,h2,Jm h3 hs.size,(World.cell?_of_block e).trans h4,(World.cell?_of_block (a:=⟨b,o+1,none⟩) e).trans h5⟩
def A4j(wS:World)(D b6 o6:Nat)(v5 v6:Value)(l:List (Int × Int))(now:Int)(Z:Nat->Prop)(pre:Cc)(x:Nat)(a:Act)(A:World):Prop:=
 RI wS D b6 o6 0 Z A/\A2i l now pre/\(∀j,x<j->j<l.length->j∈pre)/\∃p,l[x]?=some p/\Awi v5 v6 D p.1 p.2 a A
def stI(wS:World)(D b6 o6:Nat)(l:List (Int × Int))(now:Int)(Z:Nat->Prop)(pre:Cc)(A:World):Prop:=RI wS D b6 o6 0 Z A/\A2i l now pre
def A3l(wS:World)(D b6 o6:Nat)(l:List (Int × Int))(now:Int)(c:Code)(Z:Nat->Prop)(xs:Cc)(B:World):Prop:=
 c=.ret/\∃pre x p,A2i l now pre/\(∀j,x<j->j<l.length->j∈pre)/\l[x]?=some p/\p.2<=now/\RI wS D b6 o6 p.1 Z B
theorem Apo{wS:World}{D b6 o6:Nat}{v5 v6:Value}{l:List (Int × Int)}{now:Int}{Z:Nat->Prop}{pre:Cc}{x:Nat}{args:Array Value}{A:World}{a:Act}{K:Act->World->Prop}(l6:b6<D)(hI:stI wS D b6 o6 l now Z pre A)(hm:bwM l pre x args Z A)(hd:a.tmps.size=28)(h5:a.tmps.getD 5 undef=v5)(h6:a.tmps.getD 6 undef=v6)(hK:∀Z1 a' A1,Ug Z Z1 A A1->A1.heap[D]?=A.heap[D]?->A1.heap[D+1]?=A.heap[D+1]?->A4j wS D b6 o6 v5 v6 l now Z1 pre x a' A1->K a' A1):
  Alx.wpIn (Fence.wide.inRound (D+1)) 0 prog (Exit.then K (fun _ _ _=>False)) { tmps:=((#[20,21]:Array Tmp).zip args).foldl (fun t (p,v)=>t.setIfInBounds p v) a.tmps,defers:=[] } A:=by
 obtain⟨hI1,hI2⟩:=hI;obtain⟨SX,p,hp,rfl⟩:=hm;obtain⟨b0,XC⟩:∃b0:Act,({ tmps:=a.tmps,defers:=[] }:Act)=b0:=⟨_,rfl⟩
 have UP:b0.tmps.size=28:=by rw[<-XC];exact hd
 have ez:((#[20,21]:Array Tmp).zip #[Value.int .i64 (x:Int),.agg #[.int .i64 p.1,.int .i64 p.2]]) = #[(20,Value.int .i64 (x:Int)),(21,.agg #[.int .i64 p.1,.int .i64 p.2])]:=by simp
 have ea:({ tmps:=((#[20,21]:Array Tmp).zip #[Value.int .i64 (x:Int),.agg #[.int .i64 p.1,.int .i64 p.2]]).foldl (fun t (p,v)=>t.setIfInBounds p v) a.tmps,defers:=[] }:Act)=(b0.put (some 20) (.int .i64 (x:Int))).put (some 21) (.agg #[.int .i64 p.1,.int .i64 p.2]):=by
  rw[ez,<-XC];simp[Act.put]
 rw[ea];have hd0:b0.defers=[]:=by rw[<-XC]
 have ht0:b0.tmps=a.tmps:=by rw[<-XC]
 obtain⟨a1,ha1⟩:∃a1,(b0.put (some 20) (.int .i64 (x:Int))).put (some 21) (.agg #[.int .i64 p.1,.int .i64 p.2])=a1:=⟨_,rfl⟩
 rw[ha1];have z1:a1.defers=[]:=by rw[<-ha1];simp only[Lg,hd0]
 have z2:a1.tmps.size=28:=by rw[<-ha1];simp only[Ip,UP]
 have z5:a1.tmps.getD 5 undef=v5:=by rw[<-ha1,Ge (by decide),Ge (by decide),ht0];exact h5
 have z6:a1.tmps.getD 6 undef=v6:=by rw[<-ha1,Ge (by decide),Ge (by decide),ht0];exact h6
 have z21:a1.tmps.getD 21 undef=.agg #[.int .i64 p.1,.int .i64 p.2]:=by rw[<-ha1,IB (by simp only[Ip,UP];decide)]
 have i0:Cj 28 A noL (fun _=>False) (fun _=>none) ⟨lk [(5,.sc v5),(6,.sc v6),(21,.agg [At p.1,At p.2])],B0 []⟩ a1 A:=by
  refine Cj.init _ _ z1 z2 ?_ ?_ ?_ (fun _ h=>h.elim)
  ·intro q hq;simp only[B6,Ie,or_false] at hq;rcases hq with rfl|rfl|rfl<;>simp
  ·intro q hq;simp only[B6,Ie,or_false] at hq;rcases hq with rfl|rfl|rfl
   ·rw[z5];exact Bd.sc _
   ·rw[z6];exact Bd.sc _
   ·exact⟨[.int .i64 p.1,.int .i64 p.2],z21,Bd.sc _,Bd.sc _,trivial⟩
  ·intro q hq;simp only[B6,Ie,or_false] at hq;rcases hq with rfl|rfl|rfl<;>rfl
 refine JC (ro:=some (D+1)) (J7 _ _) GT Ch (by kernel_rfl) (fun _ _ h=>h) i0 (t:=0) (L:=1120) (s1:=⟨lk [(5,.sc v5),(6,.sc v6),(10,.ptr 10 0)],B0 [(10,.st [At p.1,At p.2])]⟩) (A2a cl v5 v6 p.1 p.2) ?_;intro a2 w2 β2 h2;have Kz:=hI1.size;have Hc:=h2.stayA A0w;have keep:∀b,b<A.heap.size->w2.heap[b]?=A.heap[b]?:=Hc.same;obtain⟨b10,o10,e10,t10,l10,k10,_⟩:=h2.var (i:=10) (id:=10) (by decide) rfl rfl;obtain⟨v0,q0,r0⟩:=k10 0 _ rfl;obtain⟨v1,q1,r1⟩:=k10 1 _ rfl;have r0:=Bd.val r0;have r1:=Bd.val r1;subst r0 r1;have g10:A.heap.size<=b10:=(h2.ownd b10 ⟨10,o10,by trivial,e10⟩).elim (fun h=>h.elim) (fun h=>h)
 refine hK (fun b=>Z b\/(A.heap.size<=b/\b<w2.heap.size)) a2 w2 ⟨h2.fr.os,h2.fr.tape,h2.fr.output,h2.fr.step.size,fun b hb _=>keep b hb,fun b hb=>.inl hb,fun b hb=>hb.imp (fun h=>h) (·.1),fun b hb=>hb.elim (fun h=>Jm (hI1.zlt b h) h2.fr.step.size) (·.2),h2.fr.step.bs⟩ (keep D (by omega)) (keep (D+1) (by omega)) ⟨?_,hI2,SX,p,hp,⟨h2.dfr,h2.tsz,Ni (h2.tms 5 (by decide)),Ni (h2.tms 6 (by decide)),b10,o10,t10,by omega,l10,q0,q1⟩⟩;have k6:=keep b6 (by omega)
 exact⟨h2.fr.os.trans hI1.os,h2.fr.tape.trans hI1.tape,h2.fr.output.trans hI1.output,Nat.le_trans Kz h2.fr.step.size,fun b hb=>hb.elim (fun h=>Jm (hI1.zlt b h) h2.fr.step.size) (·.2),.inl hI1.z6,fun b hb=>hb.elim (hI1.zn b) (fun h=>.inr (by omega)),fun b hb hn=>(keep b (by omega)).trans (hI1.keep b hb hn),
  Nat.le_trans hI1.bs (h2.fr.step.bs b6 (by omega)),(World.cell?_of_block k6).trans hI1.c6,by rw[frozen?_of_block k6];exact hI1.f6⟩
theorem Ald{B:World}{Y:Nat->Prop}{a:Act}{l:List (Nat × PV)}{b6 o6:Nat}{v:Int}(hd:a.defers=[])(Kz:a.tmps.size=28)(Cq:∀q∈l,q.1<28)(c6:B.cell? ⟨b6,o6,none⟩=some (.int .i64 v))(f6:B.frozen? ⟨b6,o6,none⟩=false)(l6:b6<B.heap.size)(y6:¬Y b6)(hY:∀b,Y b->b<B.heap.size)(hv:∀(β:Bt),β 56000=some (b6,o6)->(∀b,D2 (B0 [(56000,.st [At v])]) β Y b->b=b6\/Y b)->∀q∈l,Fc B (D2 (B0 [(56000,.st [At v])]) β Y) β q.2 (a.tmps.getD q.1 undef))(hr:∀q∈l,∀id∈Cn q.2,id=56000):
  ∃X0 β,(∀b,X0.X b->b=b6)/\X0.pt 0=some (b6,o6)/\X0.pn 0/\(∀i,X0.pn i->i=0)/\Cj 28 B X0 Y β ⟨lk l,B0 [(56000,.st [At v])]⟩ a B:=by
 obtain⟨β,hβ⟩:∃β:Bt,β=fun id=>if id=56000 then some (b6,o6) else none:=⟨_,rfl⟩
 have e1:β 56000=some (b6,o6):=by rw[hβ];rfl
 have Zk:∀id bx,B0 [(56000,Cb.st [At v])] id=some bx->id=56000/\bx=.st [At v]:=by
  intro id bx e;rcases Vf [(56000,Cb.st [At v])] id with h1|⟨p,hp,h1,h2⟩
  ·rw[h1] at e;cases e
  ·rw[h2] at e;cases e;simp only[B6,Ie,or_false] at hp;subst hp;exact⟨h1.symm,rfl⟩
 have hX:∀b,GY (B0 [(56000,Cb.st [At v])]) β b->b=b6:=by
  rintro b' ⟨id,o',hl,hb⟩
  cases hh:B0 [(56000,Cb.st [At v])] id with
  |none=>rw[hh] at hl;exact hl.elim
  |some bx=>
   obtain⟨rfl,_⟩:=Zk id bx hh;rw[e1] at hb;cases hb;rfl
 have hA:∀b,D2 (B0 [(56000,Cb.st [At v])]) β Y b->b=b6\/Y b:=fun b hb=>hb.imp (hX b) (fun x=>x);refine⟨_,β,hX,e1,rfl,fun i hi=>hi,Cj.make l [(56000,.st [At v])] a (fun i=>i=0) (fun i hi=>by omega) hd Kz Cq (hv β e1 hA) ?_ ?_ ?_ ?_ ?_ ?_ ?_ ?_ hY⟩
 ·intro id bx e;obtain⟨rfl,rfl⟩:=Zk id bx e;refine⟨b6,o6,e1,fun j c hj=>?_,fun j hj=>?_⟩
  ·match j,hj with
   |0,hj=>cases hj;exact⟨_,c6,Bd.sc _⟩
  ·match j,hj with
   |0,_=>exact f6
 ·intro id id' b1 o1 o2 g1 g2 g3 g4
  have B5:∀i,C8 (B0 [(56000,Cb.st [At v])] i)->i=56000:=by
   intro i hi;cases hh:B0 [(56000,Cb.st [At v])] i with
   |none=>rw[hh] at hi;exact hi.elim
   |some bx=>exact (Zk i bx hh).1
  rw[B5 id g1,B5 id' g2]
 ·intro id b1 o1 g1 g2;cases hh:B0 [(56000,Cb.st [At v])] id with
  |none=>exact absurd hh g1
  |some bx=>
   obtain⟨rfl,_⟩:=Zk id bx hh;rw[e1] at g2;cases g2;exact l6
 ·intro p hp id B5;rw[hr p hp id B5];simp[B0]
 ·intro id cells e c hc i hi;obtain⟨rfl,e'⟩:=Zk id _ e;cases e';simp only[B6,Ie,or_false] at hc;subst hc;simp[A9] at hi
 ·intro i hi;subst hi;simp[B0,Ec]
 ·intro id c e;obtain⟨rfl,_⟩:=Zk id _ e;exact⟨0,rfl,rfl⟩
 ·intro b hy hx;rw[hX b hx] at hy;exact y6 hy
theorem Akz{wS:World}{D b6 o6:Nat}{v v':Int}{Z:Nat->Prop}{A w':World}{X0:Gn}{β':Bt}{a':Act}(l6:b6<D)(hI:RI wS D b6 o6 v Z A)(hx1:X0.pt 0=some (b6,o6))(hx2:X0.pn 0)(hX:∀b,X0.X b->b=b6)(hs:Cj 28 A X0 (fun _=>False) β' ⟨lk [(6,.ptr 56000 0)],B0 [(56000,.st [At v'])]⟩ a' w'):
  Ug Z (fun b=>Z b\/(A.heap.size<=b/\b<w'.heap.size)) A w'/\w'.heap[D]?=A.heap[D]?/\w'.heap[D+1]?=A.heap[D+1]?/\RI wS D b6 o6 v' (fun b=>Z b\/(A.heap.size<=b/\b<w'.heap.size)) w':=by
 have Kz:=hI.size;have Hc:=hs.fr.step;have same:∀b,b<A.heap.size->b≠b6->w'.heap[b]?=A.heap[b]?:=fun b hb hn=>Hc.keep b hb fun hx=>hn (hX b hx);have hp:β' 56000=some (b6,o6):=(hs.pin 0 hx2).2.trans hx1;obtain⟨b,o,g1,g2,g3⟩:=(show ∃b o,β' 56000=some (b,o)/\_/\_ from hs.box 56000 _ (rfl:_=some (Cb.st [At v'])))
 rw[hp] at g1;cases g1;obtain⟨v0,q0,r0⟩:=g2 0 _ rfl;have r0:=Bd.val r0;subst r0
 refine⟨⟨hs.fr.os,hs.fr.tape,hs.fr.output,Hc.size,fun b hb hn=>same b hb fun e=>hn (e ▸ hI.z6),fun b hb=>.inl hb,fun b hb=>hb.imp (fun x=>x) (·.1),fun b hb=>hb.elim (fun h1=>Jm (hI.zlt b h1) Hc.size) (·.2),Hc.bs⟩,
  same D (by omega) (by omega),same (D+1) (by omega) (by omega),?_⟩
 exact⟨hs.fr.os.trans hI.os,hs.fr.tape.trans hI.tape,hs.fr.output.trans hI.output,by have:=Hc.size;omega,fun b hb=>hb.elim (fun h1=>Jm (hI.zlt b h1) Hc.size) (·.2),.inl hI.z6,fun b hb=>hb.elim (hI.zn b) (fun h=>.inr (by omega)),fun b hb hn=>(same b (by omega) hn).trans (hI.keep b hb hn),Nat.le_trans hI.bs (Hc.bs b6 (by omega)),q0,g3 0 (Nat.zero_lt_succ _)⟩
theorem Asu{wS:World}{D b5 o5 b6 o6:Nat}{l:List (Int × Int)}{now:Int}{Z:Nat->Prop}{pre:Cc}{x:Nat}{a:Act}{A:World}(l5:b5<D)(l6:b6<D)(n5:b5≠b6)(h5:wS.cell? ⟨b5,o5,none⟩=some (.int .i64 now))(hn:A4j wS D b6 o6 (.pointer (some ⟨b5,o5,none⟩)) (.pointer (some ⟨b6,o6,none⟩)) l now Z pre x a A):
  Ab3.wpIn (WF (some (D+1))) 0 prog (MX D (stI wS D b6 o6 l now) (A3l wS D b6 o6 l now) Z (pre++[x]) A) a A:=by
 obtain⟨hI,A62,Aho,p,hp,hN⟩:=hn;obtain⟨b10,o10,t10,g10,l10,c0,c1⟩:=hN.t10;have Kz:=hI.size
 obtain⟨X0,β,hX,hx1,hx2,_,hs⟩:=Ald (B:=A) (Y:=fun _=>False) (a:=a) (l:=[(5,.iptr [At now] 0),(6,.ptr 56000 0),(10,.iptr [At p.1,At p.2] 0)]) (b6:=b6) (o6:=o6) (v:=0) hN.dfr hN.size (by
   intro q hq;simp only[B6,Ie,or_false] at hq;rcases hq with rfl|rfl|rfl<;>simp) hI.c6 hI.f6 (by omega) (fun h=>h) (fun _ h=>h.elim) (by
   intro β e1 hA q hq;simp only[B6,Ie,or_false] at hq;rcases hq with rfl|rfl|rfl
   ·refine⟨⟨b5,o5,none⟩,hN.t5,rfl,by show b5<_;omega,fun hb=>?_,fun j c hj=>?_⟩
    ·rcases hA _ hb with h1|h1
     ·exact n5 h1
     ·exact h1
    ·match j,hj with
     |0,hj=>cases hj;exact⟨_,(World.cell?_of_block (a:=⟨b5,o5,none⟩) (hI.keep b5 l5 n5)).trans h5,rfl,Bd.sc _⟩
   ·exact⟨b6,o6,e1,hN.t6⟩
   ·refine⟨⟨b10,o10,none⟩,t10,rfl,l10,fun hb=>?_,fun j c hj=>?_⟩
    ·rcases hA _ hb with h1|h1
     ·have h1:b10=b6:=h1;omega
     ·exact h1
    ·match j,hj with
     |0,hj=>cases hj;exact⟨_,c0,rfl,Bd.sc _⟩
     |1,hj=>cases hj;exact⟨_,c1,rfl,Bd.sc _⟩) (by
   intro q hq id B5;simp only[B6,Ie,or_false] at hq;rcases hq with rfl|rfl|rfl<;>simp[Cn,C3,A9] at B5
   exact B5)
 have HR:∀a w,¬MX D (stI wS D b6 o6 l now) (A3l wS D b6 o6 l now) Z (pre++[x]) A .outgrown a w:=fun a w ⟨_,_,_,_,hf⟩=>hf;by_cases ET:p.2<=now
 ·refine QI (J7 _ _) GT Ch (by kernel_rfl) HR hs (t:=1) (L:=64) (s1:=⟨lk [(6,.ptr 56000 0)],B0 [(56000,.st [At p.1])]⟩) ((As5 cl now p.1 p.2).trans (HM _ _ _ ET)) ?_
  rintro a' w' β' e' h' (⟨h1,_⟩|⟨_,rfl⟩|⟨id,h1,_⟩)
  ·cases h1
  ·obtain⟨k1,k2,k3,k4⟩:=Akz l6 hI hx1 hx2 hX h';exact⟨_,k1,k2,k3,rfl,pre,x,p,A62,Aho,hp,ET,k4⟩
  ·omega
 ·refine QI (J7 _ _) GT Ch (by kernel_rfl) HR hs (t:=0) (L:=64) (s1:=⟨lk [(6,.ptr 56000 0)],B0 [(56000,.st [At 0])]⟩) ((As5 cl now p.1 p.2).trans (Ef _ _ _ ET)) ?_
  rintro a' w' β' e' h' (⟨_,rfl⟩|⟨h1,_⟩|⟨id,h1,_⟩)
  ·obtain⟨k1,k2,k3,k4⟩:=Akz l6 hI hx1 hx2 hX h';refine⟨_,k1,k2,k3,k4,fun j hj q hq=>?_⟩;rcases Bz.1 hj with h1|h1
   ·exact A62 j h1 q hq
   ·rw[Mv.1 h1,hp] at hq;cases hq;omega
  ·cases h1
  ·omega
end
def En.cells(e:En):Ab:=[Af e.k,.lst false 3 e.na e.an,.lst false 2 e.ns e.st]
theorem En.cells_len(e:En):e.cells.length=3:=rfl
def Oq(l:List En):Ab:=l.flatMap En.cells
def En.fit(e:En):Prop:=e.an.length=e.na*3/\e.st.length=e.ns*2/\e.na<=1000/\e.ns<=1000
theorem Ar1{l:List En}{i:Nat}{e:En}(h:l[i]?=some e):(Oq l).getD (i*3) .top=Af e.k/\(Oq l).getD (i*3+1) .top=.lst false 3 e.na e.an/\(Oq l).getD (i*3+2) .top=.lst false 2 e.ns e.st:=
 ⟨Hv En.cells_len h (j:=0) (by omega),Hv En.cells_len h (j:=1) (by omega),Hv En.cells_len h (j:=2) (by omega)⟩
theorem Aeo{c:Ab}{es:List En}(h:AM c=some es):c=Oq es/\∀e∈es,e.fit:=by
 fun_induction AM c generalizing es with
 |case1=>cases h;exact⟨rfl,fun e he=>by cases he⟩
 |case2 k na an ns st r hb ih=>
  simp only[G8] at hb;obtain⟨⟨⟨b1,b2⟩,b3⟩,b4⟩:=hb;cases hr:AM r with
  |none=>rw[hr] at h;cases h
  |some es'=>
   rw[hr] at h;cases h;obtain⟨h1,h2⟩:=ih hr;refine⟨by rw[h1];rfl,fun e he=>?_⟩
   rcases B6.1 he with rfl|he
   ·exact⟨Et b1,Et b2,Xx b3,Xx b4⟩
   ·exact h2 e he
 |case3=>cases h
 |case4=>cases h
theorem Adv{st:Ab}{l:List (Int × Int)}(h:Tg st=some l):st=Lo l:=by
 fun_induction Tg st generalizing l with
 |case1=>cases h;rfl
 |case2 k t r ih=>
  cases hr:Tg r with
  |none=>rw[hr] at h;cases h
  |some l'=>
   rw[hr] at h;cases h;rw[ih hr];rfl
 |case3=>cases h
section
variable {xs:FuncId->Option (Ab->Option D0)}{fu d:Nat}
theorem A3e{n:Nat}{c:Ab}(h:c.length=n*3)(hn:n<=1000):Ar (CX xs) prog fu (d+1) 71 [.lst false 3 n c]=some ⟨[.lst false 3 n c],[]⟩:=by
 refine (P0 fu d n c).trans ?_;have t:List.take (n*3) c=c:=Gv (by omega);by_cases h0:0<n
 ·simp(disch:=omega)only[B4,B3,SR,Cm,Es,h,t]
 ·obtain rfl:n=0:=by omega
  have:c=[]:=List.length_eq_zero_iff.1 (by omega);subst this;simp(disch:=omega)only[B4,B3,SR,Cm,Es,Vx,Nat.zero_mul,List.take_nil]
theorem A16{n:Nat}{c:Ab}(h:c.length=n*2)(hn:n<=1000):Ar (CX xs) prog fu (d+1) 72 [.lst false 2 n c]=some ⟨[.lst false 2 n c],[]⟩:=by
 refine (P1 fu d n c).trans ?_;have t:List.take (n*2) c=c:=Gv (by omega);by_cases h0:0<n
 ·simp(disch:=omega)only[B4,B3,SR,Cm,Es,h,t]
 ·obtain rfl:n=0:=by omega
  have:c=[]:=List.length_eq_zero_iff.1 (by omega);subst this;simp(disch:=omega)only[B4,B3,SR,Cm,Es,Vx,Nat.zero_mul,List.take_nil]
theorem A26{e:En}(h:e.fit):Ar (CX xs) prog fu (d+2) 37 [.agg e.cells]=some ⟨[.agg e.cells],[]⟩:=by refine (Rm fu (d+1) e.k e.na e.an e.ns e.st).trans ?_;have a:=A3e (xs:=xs) (fu:=fu) (d:=d) h.1 h.2.2.1;have s:=A16 (xs:=xs) (fu:=fu) (d:=d) h.2.1 h.2.2.2;simp only[B4,B3,a,s];rfl
def en0:En:=⟨0,0,[],0,[]⟩
def X1(model:Int)(es:List En):En:=(es.find? fun e=>e.k==model).getD en0
theorem Ary(model:Int)(es:List En):(X1 model es).st=Aix model es:=by unfold X1 Aix;cases es.find? fun e=>e.k==model<;>rfl
theorem Apq{model:Int}{es:List En}(h:∀e∈es,e.fit):(X1 model es).fit:=by
 unfold X1;cases hf:es.find? fun e=>e.k==model with
 |none=>exact⟨rfl,rfl,by decide,by decide⟩
 |some e=>exact h e (List.mem_of_find?_eq_some hf)
theorem Au8{C7 Ci Dw AH a1:Int}{Ol O6 Oh:Nat}{AJ AD Zm:Ab}{es:List En}(hn:es.length<=1000)(hf:∀e∈es,e.fit){model:Int}:∀(r:List En)(i nn:Nat),es.drop i=r->r.length<nn ->
  ∃b,J0 fu (Ar (CX xs) prog fu (d+2)) C7 Ci Dw Ol AJ AH O6 AD Oh Zm a1 nn model es.length (Oq es) (es.length:Int) (i:Int) 0 0 0 [] []=some ⟨[.agg (X1 model r).cells,.sc (.bool b)],[]⟩
 |_,_,0,_,h=>by omega
 |[],i,nn+1,hr,Mz=>by
  have hi:=drop_nil hr;refine⟨false,?_⟩;rw[Ri];simp(disch:=omega)only[B4,B3];rfl
 |e::r,i,nn+1,hr,Mz=>by
  obtain⟨Cq,h1,h2⟩:=Dc hr;obtain⟨g0,g1,g2⟩:=Ar1 h1;have g2':(Oq es).getD (i*3+1+1) .top=.lst false 2 e.ns e.st:=g2;rw[Ri];by_cases hk:e.k=model
  ·refine⟨true,?_⟩;have q:(e.k==model)=true:=by simp[hk]
   have cp:=A26 (xs:=xs) (fu:=fu) (d:=d) (hf e (List.mem_of_getElem? h1));have fe:X1 model (e::r)=e:=by unfold X1;rw[List.find?_cons_of_pos (by simpa using hk)];rfl
   rw[fe];simp only[En.cells] at cp;simp(disch:=omega)only[B4,B3,H0,g0,g1,g2',q,cp];rfl
  ·have q:(e.k==model)=false:=by simp[hk]
   have w:wrap .i64 ((i:Int)+1)=((i+1:Nat):Int):=by rw[Ag (by omega) (by omega)];omega
   obtain⟨b,ih⟩:=Au8 (C7:=C7) (Ci:=Ci) (Dw:=Dw) (AH:=AH) (a1:=a1) (Ol:=Ol) (O6:=O6) (Oh:=Oh) (AJ:=AJ) (AD:=AD) (Zm:=Zm) hn hf (model:=model) r (i+1) nn h2 (by simp only[G7] at Mz;omega)
   have fe:X1 model (e::r)=X1 model r:=by unfold X1;rw[List.find?_cons_of_neg (by simpa using hk)]
   refine⟨b,?_⟩;rw[fe,<-ih];simp(disch:=omega)only[B4,B3,H0,g0,g1,g2',q,w]
theorem A2w{es:List En}(hn:es.length<=1000)(Bn:1000<fu)(hf:∀e∈es,e.fit)(v i x lf model:Int)(n1 n2:Nat)(c1 c2:Ab):
  ∃b,Ar (CX xs) prog fu (d+3) 52 [.agg [At v,At i,At x,.lst false 3 es.length (Oq es),At lf,.lst false 1 n1 c1,.lst false 1 n2 c2],Af model]=some ⟨[.agg (X1 model es).cells,.sc (.bool b)],[]⟩:=by
 obtain⟨b,h⟩:=Au8 (xs:=xs) (fu:=fu) (d:=d) (C7:=v) (Ci:=i) (Dw:=x) (AH:=lf) (a1:=model) (Ol:=es.length) (O6:=n1) (Oh:=n2) (AJ:=Oq es) (AD:=c1) (Zm:=c2) hn hf (model:=model) es 0 fu rfl (by omega);exact⟨b,(KX fu (d+2) v i x es.length (Oq es) lf n1 c1 n2 c2 model).trans h⟩
end
section
open Go Go.RowKit
theorem Agb{now:Int}{l:List (Int × Int)}(h:∀p∈l,now<p.2):Ih now l=0:=by
 unfold Ih
 have:l.reverse.find? (fun p=>decide (p.2<=now))=none:=by
  rw[List.find?_eq_none];intro p hp;have:=h p (List.mem_reverse.1 hp);simp only[MR];omega
 rw[this]
theorem Apn{now:Int}{l:List (Int × Int)}{x:Nat}{p:Int × Int}(h:l[x]?=some p)(ET:p.2<=now)(hn:∀j,x<j->∀q,l[j]?=some q->now<q.2):Ih now l=p.1:=by
 unfold Ih;have Cq:=(List.getElem?_eq_some_iff.1 h).1
 have e:l=l.take x++p::l.drop (x+1):=by
  have:l[x]=p:=(List.getElem?_eq_some_iff.1 h).2;rw[<-this,List.getElem_cons_drop,List.take_append_drop]
 have h1:(l.drop (x+1)).reverse.find? (fun p=>decide (p.2<=now))=none:=by
  rw[List.find?_eq_none];intro q hq;obtain⟨j,hj⟩:=List.mem_iff_getElem?.1 (List.mem_reverse.1 hq);rw[List.getElem?_drop] at hj;have:=hn (x+1+j) (by omega) q hj;simp only[MR];omega
 have h2:l.reverse.find? (fun p=>decide (p.2<=now))=some p:=by
  rw[e,List.reverse_append,List.reverse_cons,List.find?_append,List.find?_append,h1];simp[ET]
 rw[h2]
theorem Awe{w4 w5:World}{Y:Nat->Prop}{now:Int}{l:List (Int × Int)}{a4 a5:Act}{b5 o5 b6 o6:Nat}{sv:Value}(hl:l.length<=100000)(t5:a4.tmps.getD 5 undef=.pointer (some ⟨b5,o5,none⟩))(t6:a4.tmps.getD 6 undef=.pointer (some ⟨b6,o6,none⟩))(l5:b5<w4.heap.size)(l6:b6<w4.heap.size)(n5:b5≠b6)(c5:w4.cell? ⟨b5,o5,none⟩=some (.int .i64 now))(c6:w4.cell? ⟨b6,o6,none⟩=some (.int .i64 0))(f6:w4.frozen? ⟨b6,o6,none⟩=false)(hsv:Bd w4 (fun b=>b=b6) (.lst false 2 l.length (Lo l)) sv)(PI:sv.oneCell'=true)(Kz:a4.tmps.size=28)(hw5:w5=w4.alloc (.cells #[sv] 59))(VO:a5=a4.put (some 19) (.func (.func 93) #[] #[.pointer (some ⟨w4.heap.size,0,none⟩)])){K:Act->World->Prop}{Q:Exit->Act->World->Prop}(hK0:∀Z B,RI w5 (w4.heap.size+1) b6 o6 (Ih now l) Z B->Ih now l=0->B.heap[w4.heap.size+1]?=some (.deferred (some []))->K { a5 with defers:={ target:=.collected (w4.heap.size+1),args:= #[] }::a5.defers } B)(hK1:∀Z B,RI w5 (w4.heap.size+1) b6 o6 (Ih now l) Z B->B.heap[w4.heap.size+1]?=some (.deferred (some []))->Q .ret { a5 with defers:={ target:=.collected (w4.heap.size+1),args:= #[] }::a5.defers } B):
  (Code.block 0 (.rangeFunc (.tmp 19) #[20,21] Alx Ab3)).wpIn Fence.wide 0 prog (Exit.then K Q) a5 w5:=by
 have Zx:w5.heap.size=w4.heap.size+1:=by rw[hw5,World.size_alloc]
 have hold:∀b,b<w4.heap.size->w5.heap[b]?=w4.heap[b]?:=fun b hb=>by rw[hw5];exact Below.heap_alloc _ _ _ hb
 have hB0:w5.heap[w4.heap.size]?=some (.cells #[sv] 59):=by rw[hw5];exact World.alloc_heap_new w4 _
 have A34:a5.tmps.size=28:=by rw[VO,Ip];exact Kz
 have g5:a5.tmps.getD 5 undef=.pointer (some ⟨b5,o5,none⟩):=by rw[VO,Ge (by decide)];exact t5
 have g6:a5.tmps.getD 6 undef=.pointer (some ⟨b6,o6,none⟩):=by rw[VO,Ge (by decide)];exact t6
 have g19:a5.eval (.tmp 19)=.func (.func 93) #[] #[.pointer (some ⟨w4.heap.size,0,none⟩)]:=by
  show a5.tmps.getD 19 undef=_;rw[VO,IB (by omega)]
 have YK:=Axx (S0:=w4.heap.size) (l:=l) hl
 refine wpIn_block (Aiy (Z0:=fun b=>b=b6) g19 (enters_of Tryz.func93 (by kernel_rfl) rfl) YK (fun b hb=>by omega) (fun W hW hk=>?_) (fun pre x args Z A hm=>Aqj hm)
  (stI w5 (w4.heap.size+1) b6 o6 l now) (A3l w5 (w4.heap.size+1) b6 o6 l now) ?_ ?_ ?_ (A4j w5 (w4.heap.size+1) b6 o6 (.pointer (some ⟨b5,o5,none⟩)) (.pointer (some ⟨b6,o6,none⟩)) l now) ?_ ?_ ?_ ?_ ?_)
 ·have hkk:∀b,b<w4.heap.size->W.heap[b]?=w4.heap[b]?:=fun b hb=>(hk b (by omega)).trans (hold b hb);have k0:=hk w4.heap.size (by omega);refine⟨fun j c hj=>?_,by omega,by rintro (h|h|h)<;>omega⟩
  match j,hj with
  |0,hj=>
   cases hj;refine⟨sv,(World.cell?_of_block (a:=⟨w4.heap.size,0,none⟩) k0).trans ?_,PI,?_⟩
   ·unfold World.cell?;rw[hB0];rfl
   ·refine hsv.step (w':=W) ⟨by omega,fun b hb _=>hkk b hb,fun b hb=>?_⟩ fun b hb h=>?_
    ·unfold bsz;rw[hkk b hb];exact C9 _
    ·rcases h with h|h|h
     ·exact h
     ·omega
     ·omega
 ·intro Z pre A B hI hs;rw[Zx] at hs;exact⟨hI.1.stay (by omega) hs,hI.2⟩
 ·rintro c' Z pre A B ⟨h1,pre',x,p,q1,q2,q3,q4,hI⟩ hs
  rw[Zx] at hs;exact⟨h1,pre',x,p,q1,q2,q3,q4,hI.stay (by omega) hs⟩
 ·intro W hW Hc;have e:∀b,b<w4.heap.size+1->W.heap[b]?=w5.heap[b]?:=fun b hb=>Hc.same b (by omega);have e6:=(e b6 (by omega)).trans (hold b6 l6);refine⟨⟨Hc.os,Hc.tape,Hc.output,by omega,fun b hb=>by rcases hb with hb|hb|hb<;>omega,.inl rfl,fun b hb=>by rcases hb with hb|hb|hb<;>omega,fun b hb _=>e b hb,by unfold bsz;rw[e b6 (by omega)];exact C9 _,(World.cell?_of_block e6).trans c6,by rw[frozen?_of_block e6];exact f6⟩,fun j hj=>by cases hj⟩
 ·intro Z pre x a' A B hn hs;rw[Zx] at hs;obtain⟨h1,h2,h3,p,h4,h5⟩:=hn;exact⟨h1.stay (by omega) hs,h2,h3,p,h4,h5.stay hs⟩
 ·intro Z pre x args A K' hZ1 hZ2 hI hm hk;rw[Zx] at hk ⊢;exact Apo (by omega) hI hm A34 g5 g6 hk
 ·intro Z pre x a' A hZ1 hZ2 hn;rw[Zx];exact Asu (by omega) (by omega) n5 ((World.cell?_of_block (hold b5 l5)).trans c5) hn
 ·intro Z xs B hS hI hdf
  have h0:Ih now l=0:=Agb fun p hp=>by
   obtain⟨j,hj⟩:=List.mem_iff_getElem?.1 hp;exact hI.2 j (hS j (List.getElem?_eq_some_iff.1 hj).1) p hj
  rw[Zx] at hdf ⊢;exact hK0 Z B (by rw[h0];exact hI.1) h0 hdf
 ·rintro c' Z xs B _ ⟨rfl,pre,x,p,q1,q2,q3,q4,hI⟩ hdf
  have hp:Ih now l=p.1:=Apn q3 q4 fun j hj q hq=>q1 j (q2 j hj (List.getElem?_eq_some_iff.1 hq).1) q hq;rw[Zx] at hdf ⊢;refine wpIn_ret ?_;exact hK1 Z B (by rw[hp];exact hI) hdf
theorem A1g:stC=.seq (sL stC) (.seq (sL (sR stC)) (.seq (.seq (.region 2 (H5 (sL (sL (sR (sR stC))))) false) (.block 0 (.rangeFunc (.tmp 19) #[20,21] Alx Ab3))) (.seq (.region 6 (H5 (sL (sR (sR (sR stC))))) false) .ret))):=by kernel_rfl
theorem A59:∃ty pos aft x,(H5 (sL (sL (sR (sR stC)))))[2]?=some { dst:=some 19,op:=.call { callee:=.value (.func 53),args:= #[.tmp 18],argTypes:=x },type:=ty,pos:=pos,after:=aft,guard:=none }:=
 ⟨_,_,_,_,rfl⟩
abbrev WE(v i x lf model now:Int)(n n1 n2:Nat)(c c1 c2:Ab):Ab:=[.agg [At v,At i,At x,.lst false 3 n c,At lf,.lst false 1 n1 c1,.lst false 1 n2 c2],Af model,At now]
abbrev A9w(now:Int)(e:En):St:=⟨lk [(5,.ptr 5 0),(6,.ptr 6 0),(7,.ptr 7 0)],B0 [(5,.st [At now]),(6,.st [At 0]),(7,.st [Af e.k,.lst false 3 e.na e.an,.lst false 2 e.ns e.st])]⟩
abbrev A5a(now:Int)(n:Nat)(c:Ab):St:=⟨lk [(5,.ptr 5 0),(6,.ptr 6 0),(18,.lst false 2 n c)],B0 [(5,.st [At now]),(6,.st [At 0])]⟩
abbrev Aqx(k:Int):St:=⟨lk [(6,.ptr 56000 0)],B0 [(56000,.st [At k])]⟩
theorem Ag3{G:Zg}{P:Program}{f:FuncId}{args:Ab}{vals:Ab}(hf:∃fn,P.funcs[f]?=some fn/\fn.body.isSome=true)(Fz:∀(i:Nat)(p:PV),args[i]?=some p->KZ p=false)(htr:∀(w:World)(A:Nat->Prop)(bt:PA)(us:List Value),Rs w A bt 0 args us->B9 (Xz w A) args us)(ho0:∀(w:World)(A:Nat->Prop)(bt:PA)(own:Bt),GR w A own bt (Vu vals) 0 args [])(h:∀(w:World)(Y:Nat->Prop)(us:List Value),Ins w Y CK args us->Calls P f us.toArray w fun e w'=>∃vs own,e=.returned (Nj vs)/\Out w w' Y CK args own ⟨vals,[]⟩ vs):Do G P f args ⟨vals,[]⟩:=by
 refine⟨hf,fun w Y bt us EN _ _=>?_⟩
 have hl:∀i q,bt i 0≠some q:=by
  intro i q e;obtain⟨p,h1,h2⟩:=EN.l0 i q e;rw[Fz i p h1] at h2;cases h2
 have ht:=htr w _ bt us EN.args;have Bb3:Ins w Y CK args us:=⟨EN.Ylt,fun b _=>Sx b,fun b x=>(Sx b x).elim,fun _ _ _ _ _ _ _ x=>(by cases x),fun _ _ x=>(by cases x),IQ (ht.mono fun p v hp=>Aaq (fun b _ hb=>hb.elim (fun x=>(Sx b x).elim) .inr) hp)⟩
 refine (h w Y us Bb3).mono ?_
 rintro e w' ⟨vs,own,rfl,ho⟩
 have hA:VV bt own Y=VV CK own Y:=by
  funext b
  apply propext;constructor
  ·rintro (h1|⟨i,o,h1⟩|h1)
   ·exact .inl h1
   ·exact absurd h1 (hl i _)
   ·exact .inr (.inr h1)
  ·rintro (h1|⟨i,o,h1⟩|h1)
   ·exact .inl h1
   ·cases h1
   ·exact .inr (.inr h1)
 refine⟨vs,own,rfl,ho.os,ho.tape,ho.output,ho.ext.weaken (fun b _ hb=>absurd hb (Sx b)),fun b j hb _=>ho.rng b j hb ?_,by rw[hA];exact ho.vals,ho0 _ _ _ _,fun j b o hj=>⟨(ho.fresh j b o hj).1,fun Cq=>?_⟩,ho.inj⟩
 ·rintro⟨i,p,_,⟨k,o,h1,_⟩|⟨o,ps,h1,_⟩⟩
  ·cases h1
  ·cases h1
 ·obtain⟨⟨i,k,o',h1⟩,_⟩:=(ho.fresh j b o hj).2 Cq;cases h1
theorem Bd.slice_form{w:World}{A:Nat->Prop}{z:Bool}{es n:Nat}{c:Ab}{v:Value}(h:Bd w A (.lst z es n c) v):∃ad k q,v=.slice ad k q:=by generalize hp:PV.lst z es n c=p at h;cases h<;>first|exact⟨_,_,_,rfl⟩|cases hp
theorem Awy{G:Zg}{v i x lf model now:Int}{n1 n2:Nat}{c1 c2:Ab}{es:List En}{l:List (Int × Int)}(hn:es.length<=1000)(hf:∀e∈es,e.fit)(Hc:Aix model es=Lo l):Do G prog 29 (WE v i x lf model now es.length n1 n2 (Oq es) c1 c2) ⟨[At (Ih now l)],[]⟩:=by
 refine Ag3 ⟨_,Tryz.func29,rfl⟩ ?_ ?_ (fun _ _ _ _=>rfl) ?_
 ·intro i p h
  match i,h with
  |0,h=>cases h;rfl
  |1,h=>cases h;rfl
  |2,h=>cases h;rfl
 ·intro w A bt us hp
  match us,hp with
  |[u0,u1,u2],⟨⟨vs,e,_,h0⟩,h1,h2,_⟩=>
   refine⟨⟨vs,e,?_⟩,⟨trivial,h1.2⟩,⟨trivial,h2.2⟩,trivial⟩
   match vs,h0 with
   |[v0,v1,v2,v3,v4,v5,v6],⟨k0,k1,k2,k3,k4,k5,k6,_⟩=>exact⟨⟨trivial,k0⟩,⟨trivial,k1⟩,⟨trivial,k2⟩,⟨trivial,k3⟩,⟨trivial,k4⟩,⟨trivial,k5⟩,⟨trivial,k6⟩,trivial⟩
 intro w Y us EN;have hY:=EN.Ylt;have hk0:Aih prog 28 0 Tryz.f29.params.toList (WE v i x lf model now es.length n1 n2 (Oq es) c1 c2) (fun tms bs=>some (tms,bs))=some ([(0,.agg [At v,At i,At x,.lst false 3 es.length (Oq es),At lf,.lst false 1 n1 c1,.lst false 1 n2 c2]),(1,Af model),(2,At now)],[]):=by kernel_rfl
 have hus:us.length=3:=by
  match us,EN.args with
  |[u0,u1,u2],_=>rfl
 obtain⟨tms,bs,E9,A3s⟩:=NK EN hk0;cases E9;obtain⟨h8,β0,TU⟩:=A3s rfl (by omega);refine callsIn_wide.1 (callsIn_of_wp_marks (F:=Fence.wide) (n:=0) Tryz.func29 rfl trivial ?_ rfl);show stC.wpIn _ _ _ _ { tmps:=us.toArray++Array.replicate (28-us.toArray.size) undef,defers:=[] } _;generalize ({ tmps:=us.toArray++Array.replicate (28-us.toArray.size) undef,defers:=[] }:Act)=a0 at TU ⊢;have hXn:∀b,¬(HK CK (WE v i x lf model now es.length n1 n2 (Oq es) c1 c2) h8).X b:=Sx;obtain⟨bq,el⟩:=A2w (xs:=noX) (fu:=2000) (d:=5) (es:=es) hn (by omega) hf v i x lf model n1 n2 c1 c2;have el:cl 52 _=_:=el;simp only[En.cells] at el;have Aps:=Apq (model:=model) hf;have hfs:(X1 model es).st=Lo l:=(Ary model es).trans Hc;generalize X1 model es=E at el Aps hfs
 have hns:E.ns=l.length:=by
  have h1:=Aps.2.1;rw[hfs,An7] at h1;omega
 refine Q5 A1g (wpIn_seq (wpIn_wide.2 (D6 (J7 _ _) GT Ch TU (A3n cl v i x lf model now es.length n1 n2 (Oq es) c1 c2) ?_)));intro a1 w1 β1 PI;refine wpIn_seq (wpIn_wide.2 (D6 (J7 _ _) GT Ch PI (L:=224) (t:=0) (s1:=A9w now E) ?_ ?_))
 ·refine (A3x cl v i x lf model now es.length n1 n2 (Oq es) c1 c2).trans ?_;simp only[B4,B3,el]
 intro a2 w2 β2 TL;refine wpIn_seq (wpIn_seq (wpIn_region ?_));have hli:List.range (H5 (sL (sL (sR (sR stC))))).size=[0,1]++[2]:=by kernel_rfl
 rw[hli];refine Hu (ro:=none) (C:=CB) (call:=cl) (r:=((0:Nat),A5a now E.ns E.st)) (J7 _ _) Ch ?_ [0,1] (List.take 2 (H5 (sL (sL (sR (sR stC))))).toList) (by kernel_rfl) ?_ (by kernel_rfl) TL (A1c cl E.k now E.na E.ns E.an E.st)
 rotate_left
 ·intro j i hj
  match j,hj with
  |0,hj=>cases hj;rfl
  |1,hj=>cases hj;rfl
 intro s' a4 w4 β4 Xq hs4;obtain⟨β5,s5,hk5,Zx⟩:=Ck hs4 Xq;cases hk5;obtain⟨b5,o5,e5,t5,l5,k5,f5⟩:=Zx.var (i:=5) (id:=5) (by decide) rfl rfl;obtain⟨b6,o6,e6,t6,l6,k6,f6⟩:=Zx.var (i:=6) (id:=6) (by decide) rfl rfl;obtain⟨v5,q5,r5⟩:=k5 0 _ rfl;obtain⟨v6,q6,r6⟩:=k6 0 _ rfl;have r5:=Bd.val r5;have r6:=Bd.val r6;subst r5 r6;have own6:w.heap.size<=b6/\¬Y b6:=⟨(Zx.ownd b6 ⟨6,o6,by trivial,e6⟩).elim (fun h=>absurd h (hXn b6)) (fun h=>h),fun hy=>Zx.Yx b6 hy ⟨6,o6,by trivial,e6⟩⟩
 have n56:b5≠b6:=fun e=>by
  subst e;have:=Zx.inj 5 6 b5 o5 o6 (by trivial) (by trivial) e5 e6;cases this
 have h18:Bd w4 (D2 (A5a now E.ns E.st).hp β5 Y) (.lst false 2 E.ns E.st) (a4.tmps.getD 18 undef):=Zx.tms 18 (by decide);rw[hfs,hns] at h18
 have A7s:Bd w4 (fun b=>b=b6) (.lst false 2 l.length (Lo l)) (a4.tmps.getD 18 undef):=h18.step ⟨C9 _,fun _ _ _=>rfl,fun _ _=>C9 _⟩ fun b _ hb=>by
  have hb:b=b6:=hb;subst hb;exact .inl ⟨6,o6,by trivial,e6⟩
 obtain⟨ad,kk,qq,SD⟩:=Bd.slice_form h18;have Hr:l.length<=100000:=by have:=Aps.2.2.2;omega
 obtain⟨ty,pos,aft,xx,ho⟩:=A59;rw[wpOpsIn_cons];unfold wpOpIn;rw[ho];simp only[Region.wanted,if_true];refine⟨fun _ _=>trivial,?_⟩
 rw[show Oper.semAt (WF none).round a4.eval { dst:=some 19,op:=.call { callee:=.value (.func 53),args:= #[.tmp 18],argTypes:=xx },type:=ty,pos:=pos,after:=aft,guard:=none }=execOp a4.eval { dst:=some 19,op:=.call { callee:=.value (.func 53),args:= #[.tmp 18],argTypes:=xx },type:=ty,pos:=pos,after:=aft,guard:=none } from rfl,
  KM (o:={ dst:=some 19,op:=.call { callee:=.value (.func 53),args:= #[.tmp 18],argTypes:=xx },type:=ty,pos:=pos,after:=aft,guard:=none }) rfl rfl ngT Tryz.func53 rfl]
 have e18:a4.eval (.tmp 18)=.slice ad kk qq:=SD;simp only[List.map_toArray,Sf,List.map_nil,e18];refine⟨(fun h=>by cases h),(Ayb ad 0 0 _ w4 kk qq).mono ?_⟩
 rintro e w5 ⟨rfl,hw5⟩
 have Bfb:w5.heap.size=w4.heap.size+1:=by rw[hw5,World.size_alloc]
 have o5w:w5.os=w4.os/\w5.tape=w4.tape/\w5.output=w4.output:=by rw[hw5];exact⟨rfl,rfl,rfl⟩
 have hold:∀b,b<w4.heap.size->w5.heap[b]?=w4.heap[b]?:=fun b hb=>by rw[hw5];exact Below.heap_alloc _ _ _ hb
 obtain⟨a5,VO⟩:∃a5,a4.put (some 19) (.func (.func 93) #[] #[.pointer (some ⟨w4.heap.size,0,none⟩)])=a5:=⟨_,rfl⟩
 have hd5:a5.defers=[]:=by rw[<-VO,Lg];exact Zx.dfr
 have hz5:a5.tmps.size=28:=by rw[<-VO,Ip];exact Zx.tsz
 have t6':a5.tmps.getD 6 undef=.pointer (some ⟨b6,o6,none⟩):=by rw[<-VO,Ge (by decide)];exact t6
 have ea:({ a5 with defers:={ target:=.collected (w4.heap.size+1),args:= #[] }::a5.defers }:Act)=V3 [{ target:=.collected (w4.heap.size+1),args:= #[] }] a5:=by unfold V3;rw[hd5];rfl
 have YQ:=Zx.fr;have hw4:=YQ.step.size
 have mk:∀{Z B},RI w5 (w4.heap.size+1) b6 o6 (Ih now l) Z B->∃X0 β,(∀b,X0.X b->b=b6)/\Cj 28 B X0 Y β (Aqx (Ih now l)) a5 B:=by
  intro Z B hI
  obtain⟨X0,β,h1,_,_,_,h2⟩:=Ald (B:=B) (Y:=Y) (a:=a5) (l:=[(6,.ptr 56000 0)]) (b6:=b6) (o6:=o6) (v:=Ih now l) hd5 hz5 (by
   intro q hq;simp only[B6,Ie,or_false] at hq;subst hq;simp) hI.c6 hI.f6 (by have:=hI.size;omega) own6.2 (fun b hb=>by have:=hY b hb;have:=hI.size;omega) (by
   intro β e1 hA q hq;simp only[B6,Ie,or_false] at hq;subst hq;exact⟨b6,o6,e1,t6'⟩) (by
   intro q hq id B5;simp only[B6,Ie,or_false] at hq;subst hq;simp[Cn,C3,A9] at B5;exact B5)
  exact⟨X0,β,h1,h2⟩
 have leave:∀{Z B XB β6 a6 w7},RI w5 (w4.heap.size+1) b6 o6 (Ih now l) Z B->B.heap[w4.heap.size+1]?=some (.deferred (some []))->(∀b,XB.X b->b=b6)->Cj 28 B XB Y β6 (Aqx (Ih now l)) a6 w7 ->
   bodyPostM Fence.wide 0 prog Tryz.f29 (fun e w'=>∃vs own,e=.returned (Nj vs)/\Out w w' Y CK (WE v i x lf model now es.length n1 n2 (Oq es) c1 c2) own ⟨[At (Ih now l)],[]⟩ vs) .ret (V3 [{ target:=.collected (w4.heap.size+1),args:= #[] }] a6) w7:=by
  intro Z B XB β6 a6 w7 hI hdf hXB hz;have Kz:=hI.size
  have hD':w7.heap[w4.heap.size+1]?=some (.deferred (some [])):=by
   rw[hz.fr.step.keep (w4.heap.size+1) (by omega) fun hx=>by have:=hXB _ hx;omega]
   exact hdf
  show LeavesInM _ _ _ _ _ _ (a6.defers++[{ target:=.collected (w4.heap.size+1),args:= #[] }]) .returning w7;rw[hz.dfr];refine⟨by simp,.inl ⟨_,_,rfl,run_takeDeferred hD',?_⟩⟩
  have hu:Cj 28 w (HK CK (WE v i x lf model now es.length n1 n2 (Oq es) c1 c2) h8) Y β6 (Aqx (Ih now l)) a6 w7:=
   hz.unbase (fun _ h=>h) hY (fun b hx=>by rw[hXB b hx];exact own6.1) (fun k ⟨p,h1,h2⟩=>by
    match k,h1 with
    |0,h1=>cases h1;cases h2
    |1,h1=>cases h1;cases h2
    |2,h1=>cases h1;cases h2) (hI.os.trans (o5w.1.trans YQ.os)) (hI.tape.trans (o5w.2.1.trans YQ.tape)) (hI.output.trans (o5w.2.2.trans YQ.output)) (by omega) (fun b hb=>(hI.keep b (by omega) (by omega)).trans ((hold b (by omega)).trans (YQ.step.keep b hb (hXn b))))
  have hv:=hu.same (QJ (y:=none) hD') fun b hb=>World.putObj_heap_other (by omega);obtain⟨_,vv,r1,vs,own,r2,r3⟩:=EK (C:=CS) (f:=29) (fn:=Tryz.f29) EN (res:=⟨[At (Ih now l)],[]⟩) (A4d v i x lf model now (Ih now l) es.length n1 n2 (Oq es) c1 c2) hv;exact⟨vv,r1,vs,own,r2,r3⟩
 rw[SD] at A7s;refine Awe (Y:=Y) (sv:=.slice ad kk qq) Hr t5 t6 l5 l6 n56 q5 q6 (f6 0 (Nat.zero_lt_succ _)) A7s rfl Zx.tsz hw5 rfl ?_ ?_
 ·intro Z B hI h0 hdf;rw[VO,ea];obtain⟨XB,βB,hXB,hB⟩:=mk hI;refine wpIn_seq (QS (Q':=fun e a' w'=>e=.normal/\∃β',Cj 28 B XB Y β' (Aqx (Ih now l)) a' w') ?_ ?_)
  ·have hl9:List.range (H5 (sL (sR (sR (sR stC))))).size=[0]++[]:=by kernel_rfl
   rw[hl9];rw[h0] at hB ⊢;refine Hu (ro:=none) (C:=CB) (call:=cl) (r:=((0:Nat),Aqx 0)) (J7 _ _) Ch ?_ [0] (H5 (sL (sR (sR (sR stC))))).toList (by kernel_rfl) ?_ (by kernel_rfl) hB (A3t cl 0)
   rotate_left
   ·intro j i hj
    match j,hj with
    |0,hj=>cases hj;rfl
   intro s6 a6 w6 β6 hk6 hs6;obtain⟨β7,s7,hk7,hs7⟩:=Ck hs6 hk6;cases hk7;exact⟨rfl,β7,hs7⟩
  ·rintro e a7 w7 ⟨a6,rfl,rfl,β6,hz⟩
   exact wpIn_ret (leave hI hdf hXB hz)
 ·intro Z B hI hdf;rw[VO,ea];obtain⟨XB,βB,hXB,hB⟩:=mk hI;exact leave hI hdf hXB hB
theorem Ais{G:Zg}{args:Ab}{r:D0}(h:Amw args=some r):Do G prog 29 args r:=by
 unfold Amw at h;split at h
 ·rename_i v i x n c lf n1 c1 n2 c2 model now;cases hb:(Nat.beq c.length (n*3)&&Nat.ble n 1000)
  ·rw[hb,cond_false] at h;cases h
  rw[hb,cond_true] at h;simp only[G8] at hb;cases he:AM c with
  |none=>rw[he] at h;cases h
  |some es=>
   rw[he] at h;simp only at h;cases hp:Tg (Aix model es) with
   |none=>rw[hp] at h;cases h
   |some l=>
    rw[hp] at h;cases h;obtain⟨rfl,hf⟩:=Aeo he;have hl:(Oq es).length=es.length*3:=Xk En.cells_len es;have hn:n=es.length:=by have:=Et hb.1;omega
    subst hn;exact Awy (Xx hb.2) hf (Adv hp)
 ·cases h
end
section
open Go.RowKit
theorem Abc{w w':World}{Y:Nat->Prop}{bt:PA}{args:Ab}{v:Value}(hb:Below w.heap.size w w')(ho:GR w' (VV bt (fun _=>none) Y) (fun _=>none) bt (Vu [.sc v]) 0 args []):
  Out w w' Y bt args (fun _=>none) ⟨[.sc v],[]⟩ [v] where
 os:=hb.os
 tape:=hb.tape
 output:=hb.output
 ext:=⟨hb.size,fun b h _=>hb.block b h,fun b h=>by unfold bsz;rw[hb.block b h];exact C9 _⟩
 rng:=fun b j h _=>⟨by unfold World.cell?;simp only[hb.block b h],by unfold World.frozen?;simp only[hb.block b h]⟩
 vals:=⟨Bd.sc v,trivial⟩
 outs:=ho
 fresh:=fun j b o h=>by cases h
 inj:=fun j j' b o o' h=>by cases h
theorem PR{P:Program}{w:World}{A:Nat->Prop}{bt:Bt}{z:Bool}{n:Nat}{c:Ab}{u:Value}{l:List UInt8}(h:Ael w A bt (.lst z 1 n c) u)(hl:bytesOf c=some l)(hn:c.length=n):
  (Extern.Bytes.bytesOf u).run P w=.ok ⟨l.toArray⟩ w:=by
 obtain⟨ns,rfl,rfl⟩:=DZ hl;have ht:Bd w A (.lst z 1 n (ns.map fun n=>.sc (.int .u8 n))) u:=h.2;generalize hc:(ns.map fun n=>PV.sc (.int .u8 n))=c at ht;cases ht with
 |lnil=>
  have:ns=[]:=by simpa using hc
  subst this;rfl
 |lemp=>
  have:ns=[]:=by simpa using hc
  subst this;rfl
 |lst _ _ _ a cap f hs hb hA hn' hcell h1 hr=>
  subst hc;rw[List.length_map] at hn;subst hn;show (Extern.Bytes.loadBytes a ns.length .empty).run P w=_;rw[Lib.run_loadBytesX w ns a .empty fun j x hj=>?_]
  ·simp[Lib.bytesOf,Nat.toUInt8]
  ·have e:(ns.map fun n=>PV.sc (.int .u8 n))[j]?=some (.sc (.int .u8 x)):=by rw[List.getElem?_map,hj];rfl
   rw[hcell j _ e,(hr j _ e).val]
theorem Ac7(u1 u2:Value)(a b:List UInt8)(w:World)(h1:(Extern.Bytes.bytesOf u1).run prog w=.ok ⟨a.toArray⟩ w)(h2:(Extern.Bytes.bytesOf u2).run prog w=.ok ⟨b.toArray⟩ w):
  Calls prog 148 #[u1,u2] w fun e w'=>e=.returned (.int .i64 (Lib.compareBytes a b))/\w'=w:=by
 have hr:(Extern.BytealgCompare.compare #[u1,u2]).run prog w=.ok (.int .i64 (Lib.compareBytes a b)) w:=by
  change Sem.run prog (do pure (goInt (Extern.BytealgCompare.cmp (<-Extern.Bytes.bytesOf u1) (<-Extern.Bytes.bytesOf u2)))) w=_;simp only[Sem.run_bind,Sem.run_pure,Result.andThen,h1,h2];rw[Lib.cmp_eq];rfl
 go_enter Tryz.func148,Tryz.ntmps148
 go_wp2
 rw[run_callFunc_extern Tryz.func149 (by kernel_rfl) (by kernel_rfl) (by kernel_rfl) (e:=Extern.BytealgCompare.compare) (by kernel_rfl),hr];simp only[Result.andThen];rw[Oper.upon_value]
 go_wp2
 go_ret
 exact⟨rfl,rfl⟩
theorem YL(G:Zg)(args:Ab)(res:D0)(h:DV args=some res):Do G prog 148 args res:=by
 refine⟨⟨_,Tryz.func148,by kernel_rfl⟩,fun w Y bt us hi _ _=>?_⟩;unfold DV at h;split at h
 rotate_left
 ·cases h
 rename_i z n c z' m c';cases hq:(Nat.beq c.length n&&Nat.beq c'.length m)
 ·rw[hq] at h;cases h
 rw[hq] at h;simp only[G8] at hq;have hn:=Et hq.1;have hm:=Et hq.2;simp only[cond_true] at h;split at h
 rotate_left
 ·cases h
 rename_i a b ha hb;cases h;have ps:=hi.args
 match us,ps with
 |[u1,u2],ps=>
  refine (Ac7 u1 u2 a b w (PR ps.1 ha hn) (PR ps.2.1 hb hm)).mono ?_
  rintro e w' ⟨rfl,rfl⟩
  exact⟨[.int .i64 (Lib.compareBytes a b)],fun _=>none,rfl,Abc (Below.refl _ _) rfl⟩
 |[],ps=>exact ps.elim
 |[_],ps=>exact ps.2.elim
 |_::_::_::_,ps=>exact ps.2.2.elim
end
section
open Go.Shelf Go.RowKit Go.Lib
def A68:Go.Shelf.Ren:=⟨fun|196=>126|259=>145|n=>n,fun|0=>0|3=>3|4=>4|5=>5|9=>9|12=>12|46=>75|53=>37|119=>194|138=>196|139=>197|n=>n,fun|3=>0|4=>1|n=>n⟩
theorem laysVS:Lays.n196 prog A68:={
 mixed:=by kernel_rfl
 f196:=Tryz.func126.trans (congrArg some (by kernel_rfl))
 f259:=Tryz.func145.trans (congrArg some (by kernel_rfl))
 t0:=Tryz.underlying0
 a0:=Tryz.isAgg0
 z0:=Tryz.sizeOf0
 v0:=Tryz.zeroValue0
 t3:=Tryz.underlying3
 a3:=Tryz.isAgg3
 z3:=Tryz.sizeOf3
 v3:=Tryz.zeroValue3
 t4:=Tryz.underlying4
 a4:=Tryz.isAgg4
 z4:=Tryz.sizeOf4
 v4:=Tryz.zeroValue4
 t5:=Tryz.underlying5
 a5:=Tryz.isAgg5
 z5:=Tryz.sizeOf5
 v5:=Tryz.zeroValue5
 t9:=Tryz.underlying9
 a9:=Tryz.isAgg9
 z9:=Tryz.sizeOf9
 v9:=Tryz.zeroValue9
 t12:=Tryz.underlying12
 a12:=Tryz.isAgg12
 z12:=Tryz.sizeOf12
 v12:=Tryz.zeroValue12
 t46:=Tryz.underlying75
 a46:=Tryz.isAgg75
 z46:=Tryz.sizeOf75
 v46:=Tryz.zeroValue75
 t53:=Tryz.underlying37
 a53:=Tryz.isAgg37
 z53:=Tryz.sizeOf37
 v53:=Tryz.zeroValue37
 t119:=Tryz.underlying194
 a119:=Tryz.isAgg194
 z119:=Tryz.sizeOf194
 t138:=Tryz.underlying196
 a138:=Tryz.isAgg196
 z138:=Tryz.sizeOf196
 v138:=Tryz.zeroValue196
 t139:=Tryz.underlying197
 a139:=Tryz.isAgg197
 z139:=Tryz.sizeOf197
 v139:=Tryz.zeroValue197
 g3:=by kernel_rfl
 g4:=by kernel_rfl }
def gU:Zg:=⟨fun b=>b=0\/b=1,fun w=>0<w.heap.size/\1<w.heap.size/\Lib.Utf8Tabs 0 1 w,fun w w' h ⟨s1,s2,h1,h2⟩=>by
 have e1:=h _ (.inl rfl) s1;have e2:=h _ (.inr rfl) s2
 have hs:∀b,b<w.heap.size->w'.heap[b]?=w.heap[b]?->b<w'.heap.size:=by
  intro b hb he;rw[Array.getElem?_eq_getElem hb] at he;rcases Mi b w'.heap.size with q|q
  ·exact q
  ·rw[Array.getElem?_eq_none q] at he;cases he
 refine⟨hs _ s1 e1,hs _ s2 e2,fun c hc=>?_,fun i hi=>?_⟩
 ·have:=h1 c hc;unfold World.cell? at this ⊢;simp only[e1] at this ⊢;exact this
 ·obtain⟨a,b⟩:=h2 i hi;unfold World.cell? at a b ⊢;simp only[e2] at a b ⊢;exact⟨a,b⟩⟩
theorem Agc(args:Ab)(res:D0)(h:UD args=some res):Do gU prog 126 args res:=by
 refine⟨⟨_,Tryz.func126,by kernel_rfl⟩,fun w Y bt us hi hok _=>?_⟩;unfold UD at h;split at h
 rotate_left
 ·cases h
 rename_i s;cases hq:decide (s.size<=9223372036854775807)
 ·rw[hq] at h;cases h
 rw[hq] at h;cases h;have hs:=of_decide_eq_true hq;have ps:=hi.args
 match us,ps with
 |[u],ps=>
  have hu:u=.string s:=by
   have:Bd w _ (.sc (.string s)) u:=ps.1.2;exact this.val
  subst hu;refine (Any.utf8_ValidString laysVS s w hs hok.2.2).mono ?_
  rintro e w' ⟨rfl,hb⟩
  exact⟨[.bool (Lib.validD s.data.toList)],fun _=>none,rfl,Abc hb rfl⟩
 |[],ps=>exact ps.elim
 |_::_::_,ps=>exact ps.2.elim
theorem extU:Amt gU prog C0:=by
 intro f g args res hx hg;have hx0:(bif MN.any (Nat.beq f) then none else Mm f)=some g:=hx;cases hb:MN.any (Nat.beq f)
 rotate_left
 ·rw[hb,cond_true] at hx0;cases hx0
 rw[hb,cond_false] at hx0;have Zj:Mm f=some g:=hx0;unfold Mm at Zj;cases h1:Nat.beq f 126
 rotate_left
 ·rw[h1,cond_true] at Zj;cases Zj;rw[Et h1];exact Agc args res hg
 rw[h1,cond_false] at Zj;cases h2:Nat.beq f 148
 rotate_left
 ·rw[h2,cond_true] at Zj;cases Zj;rw[Et h2];exact YL gU args res hg
 rw[h2,cond_false] at Zj;cases h4:Nat.beq f 36
 rotate_left
 ·rw[h4,cond_true] at Zj;cases Zj;rw[Et h4];exact Anw hg
 rw[h4,cond_false] at Zj;cases h5:Nat.beq f 29
 rotate_left
 ·rw[h5,cond_true] at Zj;cases Zj;rw[Et h5];exact Ais hg
 rw[h5,cond_false] at Zj;cases h3:Nat.beq f 1000000
 ·rw[h3,cond_false] at Zj;cases Zj
 ·rw[h3,cond_true] at Zj;cases Zj;cases hg
end
end
end Go.Proofs.YtpogefhpiaaliaaGreatDoor.Pv
