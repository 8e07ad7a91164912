/-
  The proof of CertificatePaths, part 7.
-/
import Derived.Test.YtdjihiphpgkfmaaGreatDoorPF
import Derived.Test.YtdjihiphpgkfmaaGreatDoorRows
import Derived.Lib.BytesEntry
import Derived.Lib.Bytealg
import Derived.Lib.Walk
import Derived.WalkKit
import Derived.WalkMore
import Derived.Shelf.Unicode.ValidAny
import Derived.Lib.LaidU8T
set_option linter.unusedSimpArgs false
set_option linter.unusedVariables false
namespace Go.Proofs.YtdjihiphpgkfmaaGreatDoor.Pv
section
open Go.IntKind (wrap)
set_option maxRecDepth 20000
open Go Go.RowKit
theorem Aq6:JW=.seq (sL JW) (.seq (sL (sR JW)) (.seq (sL (sR (sR JW))) (.seq (.seq (.region 4 (Nl (sL (sL (sR (sR (sR JW)))))) false) (.block 0 (.rangeFunc (.tmp 29) #[30,31] Aiz Abm))) (.seq (.region 9 (Nl (sL (sR (sR (sR (sR JW)))))) false) .ret)))):=by kernel_rfl
theorem At6:∃ty pos aft x,(Nl (sL (sL (sR (sR (sR JW))))))[2]?=some { dst:=some 29,op:=.call { callee:=.value (.func 77),args:= #[.tmp 27,.tmp 28],argTypes:=x },type:=ty,pos:=pos,after:=aft,guard:=none }:=
 ⟨_,_,_,_,rfl⟩
theorem WX {P:Program}{ops:Array Oper}{Q Q':Exit->Act->World->Prop}{n id:Nat}{ds:List Deferred}{a:Act}{w:World}(h:wpOpsIn (WF none) n P ops Q' (List.range ops.size) a w) (hq:∀e a w,TD ds Q' e a w->Q e a w):(Code.region id ops false).wpIn Fence.wide n P Q (Uq ds a) w:=
 wpIn_mono (wpIn_region (F:=Fence.wide) (Us _ h)) hq
abbrev A3a (seed h leaf m:Int):St:=
  ⟨lk [(0,.sc (.int .u64 seed)),(3,.sc (.int .u64 m)),(5,.ptr 5 0),(6,.ptr 6 0),(8,.ptr 8 0),(9,.sc (.int .i64 0))],
   B7 [(5,.st [.sc (.int .i64 h)]),(6,.st [.sc (.int .i64 leaf)]),(8,.st [.sc (.int .i64 0),.view 104 1 0 0,.view 152 1 0 0]),(104,.ar false []),(152,.ar false [])]⟩
abbrev A42 (seed h leaf m:Int)(n:Nat)(c:List PV):St:=
  ⟨lk [(0,.sc (.int .u64 seed)),(3,.sc (.int .u64 m)),(5,.ptr 5 0),(6,.ptr 6 0),(8,.ptr 8 0),(9,.sc (.int .i64 0)),(10,.ptr 10 0)],
   B7 [(5,.st [.sc (.int .i64 h)]),(6,.st [.sc (.int .i64 leaf)]),(8,.st [.sc (.int .i64 0),.view 104 1 0 0,.view 152 1 0 0]),(104,.ar false []),(152,.ar false []),(10,.st [.sc (.int .i64 leaf),.view 106 1 0 n,.view 154 1 0 0]),(106,.ar false c),(154,.ar false [])]⟩
abbrev Ars (leaf:Int)(n1 n2:Nat)(c1 c2:List PV):St:=⟨lk [(8,.ptr 96000 0),(9,.sc (.int .i64 0))],B7 [(96000,.st [.sc (.int .i64 leaf),.lst false 1 n1 c1,.lst false 1 n2 c2])]⟩
theorem Aaf {h leaf:Int}(hb:KK h leaf=false):Dh h=false∧Io leaf h=false∧∃H:Nat,h=H∧H<=4∧0<=leaf∧leaf<((2 ^ H:Nat):Int):=by
 unfold KK at hb;rw [Bool.or_eq_false_iff] at hb;refine ⟨hb.1,hb.2,h.toNat,?_⟩;have h1:=hb.1;have h2:=hb.2;unfold Dh at h1;unfold Io at h2;rw [Bool.or_eq_false_iff,decide_eq_false_iff_not,decide_eq_false_iff_not] at h1 h2;have h3:h=(h.toNat:Int):=by omega
 have h4:=Ann (h:=h.toNat) (by omega)
 rw [←h3] at h4;rw [h4] at h2;exact ⟨h3,by omega,by omega,by omega⟩
theorem Alx {G:Vq}{seed h leaf m:Int}(hb:KK h leaf=false):C9 G Tryz.prog 37 [.sc (.int .u64 seed),.sc (.int .i64 h),.sc (.int .i64 leaf),.sc (.int .u64 m)]
  ⟨[.agg [.sc (.int .i64 leaf),.lst false 1 18 (Af .u64 (I3 seed leaf m)),.lst false 1 h.toNat (Af .u64 ((List.range h.toNat).map fun k=>B6 seed k (Fx leaf k)))],.sc (.int .i64 0)],[]⟩:=by
 obtain ⟨hhi,hou,H,rfl,hh,hl0,hl1⟩:=Aaf hb;refine Aqy ⟨_,Tryz.func37,rfl⟩ fun w Y hY=>?_
 have hk0:Ad8 Tryz.prog 48 0 Tryz.f37.params.toList [.sc (.int .u64 seed),.sc (.int .i64 H),.sc (.int .i64 leaf),.sc (.int .u64 m)] (fun tms bs=>some (tms,bs))=some ([(0,.sc (.int .u64 seed)),(1,.sc (.int .i64 H)),(2,.sc (.int .i64 leaf)),(3,.sc (.int .u64 m))],[]):=by kernel_rfl
 have hin:Ins w Y OV [.sc (.int .u64 seed),.sc (.int .i64 H),.sc (.int .i64 leaf),.sc (.int .u64 m)] [.int .u64 seed,.int .i64 H,.int .i64 leaf,.int .u64 m]:=
  ⟨hY,fun b _=>W6 b,fun b x=>(W6 b x).elim,fun _ _ _ _ _ _ _ x=>(by cases x),fun _ _ x=>(by cases x),⟨.inl trivial,A7.sc _⟩,⟨.inl trivial,A7.sc _⟩,⟨.inl trivial,A7.sc _⟩,⟨.inl trivial,A7.sc _⟩,trivial⟩
 obtain ⟨tms,bs,hk1,hst⟩:=RQ hin hk0;cases hk1;obtain ⟨h8,β0,hs0⟩:=hst rfl (by simp)
 refine callsIn_wide.1 (callsIn_of_wp_marks (F:=Fence.wide) (n:=0) Tryz.func37 rfl trivial ?_ rfl);have t1:({ tmps:= #[Value.int .u64 seed,.int .i64 H,.int .i64 leaf,.int .u64 m]++Array.replicate (Tryz.f37.ntmps-(#[Value.int .u64 seed,.int .i64 H,.int .i64 leaf,.int .u64 m]).size) undef,defers:=[] }:Act)={ tmps:=[Value.int .u64 seed,.int .i64 H,.int .i64 leaf,.int .u64 m].toArray++Array.replicate (48-[Value.int .u64 seed,.int .i64 H,.int .i64 leaf,.int .u64 m].toArray.size) undef,defers:=[] }:=by kernel_rfl
 rw [t1];show JW.wpIn _ _ _ _ _ _;generalize ({ tmps:=[Value.int .u64 seed,.int .i64 H,.int .i64 leaf,.int .u64 m].toArray++Array.replicate (48-[Value.int .u64 seed,.int .i64 H,.int .i64 leaf,.int .u64 m].toArray.size) undef,defers:=[] }:Act)=a0 at hs0 ⊢;have hXn:∀b,¬(LV OV [.sc (.int .u64 seed),.sc (.int .i64 H),.sc (.int .i64 leaf),.sc (.int .u64 m)] h8).X b:=W6;refine DI Aq6 (wpIn_seq (wpIn_wide.2 (Ee (Qu _ _) PG Dg hs0 (Aos cl seed H leaf m) ?_)));intro a1 w1 β1 hs1;have eh:cl Kn [.sc (.int .i64 H)]=_:=Uo (xs:=noX) (fu:=2000) (d:=7) (H:Int);have eo:cl Hw [.sc (.int .i64 leaf),.sc (.int .i64 H)]=_:=P2 (xs:=noX) (fu:=2000) (d:=7) leaf H (by omega)
 have es:cl Qf [.sc (.int .u64 seed),.sc (.int .i64 leaf),.sc (.int .u64 m)]=_:=Ak4 (xs:=noX) (fu:=2000) (d:=1) (by omega) seed leaf m
 refine wpIn_seq (wpIn_wide.2 (Ee (Qu _ _) PG Dg hs1 (L:=873) (t:=0) (s1:=A3a seed H leaf m) ?_ ?_))
 ·refine (Ar4 cl seed H leaf m).trans ?_;simp only [Bx,eh,eo,hhi,hou]
 intro a2 w2 β2 hs2;refine wpIn_seq (wpIn_wide.2 (Ee (Qu _ _) PG Dg hs2 (L:=1897) (t:=0) (s1:=A42 seed H leaf m 18 (Af .u64 (I3 seed leaf m))) ?_ ?_))
 ·refine (Ap9 cl seed H leaf m).trans ?_;simp only [Bx,es]
 intro a3 w3 β3 hs3;refine wpIn_seq (wpIn_seq (wpIn_region ?_));have hl:List.range (Nl (sL (sL (sR (sR (sR JW)))))).size=[0,1]++[2]:=by kernel_rfl
 rw [hl];refine Mz (ro:=none) (C:=CB) (call:=cl) (r:=((0:Nat),Afz seed H leaf m 18 (Af .u64 (I3 seed leaf m)))) (Qu _ _) Dg ?_ [0,1] (List.take 2 (Nl (sL (sL (sR (sR (sR JW)))))).toList) (by kernel_rfl) ?_ (by kernel_rfl) hs3 (Aso cl seed H leaf m 18 _)
 rotate_left
 ·intro j i hj
  match j,hj with
  |0,hj=>cases hj;rfl
  |1,hj=>cases hj;rfl
 intro s' a4 w4 β4 hk4 hs4;obtain ⟨β5,s5,hk5,hs5⟩:=Do hs4 hk4;cases hk5;obtain ⟨b5,o5,b6,o6,b8,o8,b10,o10,e0,chv,hp⟩:=Ah4 (l:=I3 seed leaf m) (n:=18) (by omega) (by simp [I3]) hXn hs5
 obtain ⟨ty,pos,aft,x,ho⟩:=At6;rw [wpOpsIn_cons];unfold wpOpIn;rw [ho];simp only [Region.wanted,if_true];refine ⟨fun _ _=>trivial,?_⟩
 rw [show Oper.semAt (WF none).round a4.eval { dst:=some 29,op:=.call { callee:=.value (.func 77),args:= #[.tmp 27,.tmp 28],argTypes:=x },type:=ty,pos:=pos,after:=aft,guard:=none }=execOp a4.eval { dst:=some 29,op:=.call { callee:=.value (.func 77),args:= #[.tmp 27,.tmp 28],argTypes:=x },type:=ty,pos:=pos,after:=aft,guard:=none } from rfl,
  JN (o:={ dst:=some 29,op:=.call { callee:=.value (.func 77),args:= #[.tmp 27,.tmp 28],argTypes:=x },type:=ty,pos:=pos,after:=aft,guard:=none }) rfl rfl ngT Tryz.func77 rfl]
 have e27:a4.eval (.tmp 27)=.int .u64 seed:=hp.t27;have e28:a4.eval (.tmp 28)=.int .i64 H:=hp.t28;simp only [List.map_toArray,Zzw,List.map_nil,e27,e28];refine ⟨(fun h=>by cases h),(Alr seed H _ w4).mono ?_⟩
 rintro e w5 ⟨rfl,hw5⟩
 refine Al1 (w:=w) (Y:=Y) hh hl0 hl1 hp hs5.tsz hw5 rfl ?_;intro Z B hRI hdf;obtain ⟨a5,ha5⟩:∃a5,a4.put (some 29) (.func (.func 107) #[] #[.pointer (some ⟨w4.heap.size+1,0,none⟩),.pointer (some ⟨w4.heap.size,0,none⟩)])=a5:=⟨_,rfl⟩;rw [ha5];have hd5:a5.defers=[]:=by rw [←ha5,Mn];exact hs5.dfr
 have hz5:a5.tmps.size=48:=by rw [←ha5,I2];exact hs5.tsz
 have ea:({ a5 with defers:={ target:=.collected (w4.heap.size+2),args:= #[] }::a5.defers }:Act)=Uq [{ target:=.collected (w4.heap.size+2),args:= #[] }] a5:=by unfold Uq;rw [hd5];rfl
 rw [ea];have hsB:w4.heap.size<=B.heap.size:=by have:=hRI.size;omega
 have hkB:∀b,b<w4.heap.size->b≠b10->b≠e0->B.heap[b]?=w4.heap[b]?:=hRI.keep;have h8B:=hkB b8 hp.l8 hp.n8 hp.m8
 obtain ⟨XB,βB,hXB,hB⟩:=An9 (Y:=Y) (a:=a5) (b8:=b8) (o8:=o8) (n1:=18) (c1:=Af .u64 (I3 seed leaf m)) hRI hd5 hz5 (by rw [←ha5,Gk (by decide)];exact hp.t8) (by rw [←ha5,Gk (by decide)];exact hp.t9) (by rw [←ha5,Gk (by decide)];exact hp.t10)
  (fun j hj=>by rw [World.cell?_of_block (a:=⟨b8,o8+j,none⟩) h8B];exact hp.c8 j hj) (fun j hj=>by rw [frozen?_of_block h8B];exact hp.f8 j hj) (Nat.lt_of_lt_of_le hp.l8 hsB) (Nat.lt_of_lt_of_le hp.l10 hsB) hp.n8 hp.y8 hp.y10 (hp.ch B hsB hkB) hp.one
  (fun pb hpb=>by
   rcases hpb with hpb|hpb
   ·have:=hp.l8;exact ⟨by omega,fun hy=>by have:=hY pb hy;have:=hs5.fr.step.size;omega⟩
   ·rw [hpb];exact ⟨fun e=>hp.m8 e.symm,hp.ye⟩)
  (fun b hb=>by have:=hY b hb;have:=hs5.fr.step.size;omega)
 rw [List.length_range] at hB;refine wpIn_seq (WX (Q':=fun e a' w'=>e=.normal∧∃β',B4 48 B XB Y β' (Ars leaf 18 H (Af .u64 (I3 seed leaf m)) (Af .u64 ((List.range H).map fun k=>B6 seed k (Fx leaf k)))) a' w') ?_ ?_)
 ·have hl9:List.range (Nl (sL (sR (sR (sR (sR JW)))))).size=[0,1,2]++[]:=by kernel_rfl
  rw [hl9];refine Mz (ro:=none) (C:=CB) (call:=cl) (r:=((0:Nat),Ars leaf 18 H (Af .u64 (I3 seed leaf m)) (Af .u64 ((List.range H).map fun k=>B6 seed k (Fx leaf k))))) (Qu _ _) Dg ?_ [0,1,2] (Nl (sL (sR (sR (sR (sR JW)))))).toList (by kernel_rfl) ?_ (by kernel_rfl) hB (Ap8 cl leaf 18 H _ _)
  rotate_left
  ·intro j i hj
   match j,hj with
   |0,hj=>cases hj;rfl
   |1,hj=>cases hj;rfl
   |2,hj=>cases hj;rfl
  intro s6 a6 w6 β6 hk6 hs6;obtain ⟨β7,s7,hk7,hs7⟩:=Do hs6 hk6;cases hk7;exact ⟨rfl,β7,hs7⟩
 ·rintro e a7 w7 ⟨a6,rfl,rfl,β6,hz⟩
  refine wpIn_ret ?_
  have hD':w7.heap[w4.heap.size+2]?=some (.deferred (some [])):=by
   have hlt:=hRI.size;have hl8:=hp.l8;rw [hz.fr.step.keep (w4.heap.size+2) (by omega) fun hx=>by have:=hXB _ hx;omega]
   exact hdf
  show LeavesInM _ _ _ _ _ _ (a6.defers++[{ target:=.collected (w4.heap.size+2),args:= #[] }]) .returning w7;rw [hz.dfr];refine ⟨by simp,.inl ⟨_,_,rfl,run_takeDeferred hD',?_⟩⟩
  have hfr:=hs5.fr
  have hu:B4 48 w (LV OV [.sc (.int .u64 seed),.sc (.int .i64 H),.sc (.int .i64 leaf),.sc (.int .u64 m)] h8) Y β6 (Ars leaf 18 H (Af .u64 (I3 seed leaf m)) (Af .u64 ((List.range H).map fun k=>B6 seed k (Fx leaf k)))) a6 w7:=
   hz.unbase (fun _ h=>h) hY (fun b hx=>by rw [hXB b hx];exact hp.g8) (fun i ⟨p,h1,h2⟩=>by
    match i,h1 with
    |0,h1=>cases h1;cases h2
    |1,h1=>cases h1;cases h2
    |2,h1=>cases h1;cases h2
    |3,h1=>cases h1;cases h2) (hRI.os.trans hfr.os) (hRI.tape.trans hfr.tape) (hRI.output.trans hfr.output) (Nat.le_trans hfr.step.size hsB) (fun b hb=>by
    have h1:=hp.g10;have h2:=hp.ge;have h3:=hfr.step.size;exact (hkB b (by omega) (by omega) (by omega)).trans (hfr.step.keep b hb (hXn b)))
  have hv:=hu.same (WD (y:=none) hD') fun b hb=>World.putObj_heap_other (by have:=hfr.step.size;omega)
  obtain ⟨_,v,r1,vs,own,r2,r3⟩:=GA (C:=CS) (f:=37) (fn:=Tryz.f37) hin (res:=⟨[.agg [.sc (.int .i64 leaf),.lst false 1 18 (Af .u64 (I3 seed leaf m)),.lst false 1 H (Af .u64 ((List.range H).map fun k=>B6 seed k (Fx leaf k)))],.sc (.int .i64 0)],[]⟩) (Aph seed H leaf m leaf 18 H _ _) hv
  exact ⟨v,r1,vs,own,r2,r3⟩
end
section
open Go.IntKind (wrap)
set_option maxRecDepth 20000
open Go Go.RowKit
theorem C9.any {G:Vq}{P:Program}{f:FuncId}{args:List PV}{r:A0}(h:C9 G1 P f args r):C9 G P f args r:=
 ⟨h.1,fun w Y bt us hin _ _=>h.2 w Y bt us hin trivial fun _ hb=>hb.elim⟩
theorem Arm {G:Vq}{seed h leaf m:Int}(hb:KK h leaf=true):C9 G Tryz.prog 37 [.sc (.int .u64 seed),.sc (.int .i64 h),.sc (.int .i64 leaf),.sc (.int .u64 m)]
  ⟨[.agg [.sc (.int .i64 0),.lst false 1 0 [],.lst false 1 0 []],.sc (.int .i64 9)],[]⟩:=by
 refine C9.any (LC ngT PG Dg Tryz.func37 rfl ((Ar6 cl seed h leaf m).trans ?_));have eh:cl Kn [.sc (.int .i64 h)]=_:=Uo (xs:=noX) (fu:=2000) (d:=7) h;unfold KK at hb;cases hhi:Dh h
 ·rw [hhi,Bool.false_or] at hb
  have h0:0<=h:=by
   unfold Dh at hhi;rw [Bool.or_eq_false_iff,decide_eq_false_iff_not] at hhi;omega
  have eo:cl Hw [.sc (.int .i64 leaf),.sc (.int .i64 h)]=_:=P2 (xs:=noX) (fu:=2000) (d:=7) leaf h h0;simp only [Bx,eh,eo,hhi,hb]
 ·simp only [Bx,eh,hhi]
theorem Af6 {G:Vq}{args:List PV}{r:A0}(h:Aqs args=some r):C9 G Tryz.prog 37 args r:=by
 unfold Aqs at h;split at h
 ·rename_i seed hh leaf m;cases h;cases hb:KK hh leaf
  ·have l18:(I3 seed leaf m).length=18:=by simp [I3]
   have:=Alx (G:=G) (seed:=seed) (m:=m) hb;unfold tkL tkC tkP tkE;rw [hb];simp only [Bool.false_eq_true,if_false,l18,List.length_map,List.length_range];exact this
  ·have:=Arm (G:=G) (seed:=seed) (m:=m) hb;unfold tkL tkC tkP tkE;rw [hb];exact this
 ·cases h
end
section
open Go.IntKind (wrap)
open Go.RowKit
theorem PP {w w':World}{Y:Nat->Prop}{bt:IY}{args:List PV}{v:Value}(hb:Below w.heap.size w w')(ho:CH w' (SR bt (fun _=>none) Y) (fun _=>none) bt (R2 [.sc v]) 0 args []):
  Out w w' Y bt args (fun _=>none) ⟨[.sc v],[]⟩ [v] where
 os:=hb.os
 tape:=hb.tape
 output:=hb.output
 ext:=⟨hb.size,fun b h _=>hb.block b h,fun b h=>by unfold bsz;rw [hb.block b h];exact Nat.le_refl _⟩
 rng:=fun b j h _=>⟨by unfold World.cell?;simp only [hb.block b h],by unfold World.frozen?;simp only [hb.block b h]⟩
 vals:=⟨A7.sc v,trivial⟩
 outs:=ho
 fresh:=fun j b o h=>by cases h
 inj:=fun j j' b o o' h=>by cases h
theorem GH {P:Program}{w:World}{A:Nat->Prop}{bt:Bt}{z:Bool}{n:Nat}{c:List PV}{u:Value}{l:List UInt8}(h:VS w A bt (.lst z 1 n c) u) (hl:bytesOf c=some l)(hn:c.length=n):
  (Extern.Bytes.bytesOf u).run P w=.ok ⟨l.toArray⟩ w:=by
 obtain ⟨ns,rfl,rfl⟩:=Wz hl;have ht:A7 w A (.lst z 1 n (ns.map fun n=>.sc (.int .u8 n))) u:=h.2
 generalize hc:(ns.map fun n=>PV.sc (.int .u8 n))=c at ht
 cases ht with
 |lnil=>
  have:ns=[]:=by simpa using hc
  subst this;rfl
 |lemp=>
  have:ns=[]:=by simpa using hc
  subst this;rfl
 |lst _ _ _ a cap f hs hb hA hn' hcell h1 hr=>
  subst hc;rw [List.length_map] at hn;subst hn;show (Extern.Bytes.loadBytes a ns.length .empty).run P w=_;rw [Lib.run_loadBytesX w ns a .empty fun j x hj=>?_]
  ·simp [Lib.bytesOf,Nat.toUInt8]
  ·have e:(ns.map fun n=>PV.sc (.int .u8 n))[j]?=some (.sc (.int .u8 x)):=by rw [List.getElem?_map,hj];rfl
   rw [hcell j _ e,(hr j _ e).val]
set_option maxRecDepth 1000000 in
theorem UD (u1 u2:Value)(a b:List UInt8)(w:World)(h1:(Extern.Bytes.bytesOf u1).run Tryz.prog w=.ok ⟨a.toArray⟩ w) (h2:(Extern.Bytes.bytesOf u2).run Tryz.prog w=.ok ⟨b.toArray⟩ w):
  Calls Tryz.prog 133 #[u1,u2] w fun e w'=>e=.returned (.int .i64 (Lib.compareBytes a b))∧w'=w:=by
 have hr:(Extern.BytealgCompare.compare #[u1,u2]).run Tryz.prog w=.ok (.int .i64 (Lib.compareBytes a b)) w:=by
  change Sem.run Tryz.prog (do pure (goInt (Extern.BytealgCompare.cmp (←Extern.Bytes.bytesOf u1) (←Extern.Bytes.bytesOf u2)))) w=_
  simp only [Sem.run_bind,Sem.run_pure,Result.andThen,h1,h2];rw [Lib.cmp_eq];rfl
 go_enter Tryz.func133,Tryz.ntmps133
 go_wp2
 rw [run_callFunc_extern Tryz.func134 (by kernel_rfl) (by kernel_rfl) (by kernel_rfl) (e:=Extern.BytealgCompare.compare) (by kernel_rfl),hr]
 simp only [Result.andThen];rw [Oper.upon_value]
 go_wp2
 go_ret
 exact ⟨rfl,rfl⟩
theorem OG (G:Vq)(args:List PV)(res:A0)(h:Wp args=some res):C9 G Tryz.prog 133 args res:=by
 refine ⟨⟨_,Tryz.func133,by kernel_rfl⟩,fun w Y bt us hi _ _=>?_⟩
 unfold Wp at h;split at h
 rotate_left
 ·cases h
 rename_i z n c z' m c';cases hq:(Nat.beq c.length n&&Nat.beq c'.length m)
 ·rw [hq] at h;cases h
 rw [hq] at h;simp only [Bool.and_eq_true] at hq;have hn:=Nat.eq_of_beq_eq_true hq.1;have hm:=Nat.eq_of_beq_eq_true hq.2;simp only [cond_true] at h;split at h
 rotate_left
 ·cases h
 rename_i a b ha hb;cases h;have ps:=hi.args
 match us,ps with
 |[u1,u2],ps=>
  refine (UD u1 u2 a b w (GH ps.1 ha hn) (GH ps.2.1 hb hm)).mono ?_
  rintro e w' ⟨rfl,rfl⟩
  exact ⟨[.int .i64 (Lib.compareBytes a b)],fun _=>none,rfl,PP (Below.refl _ _) rfl⟩
 |[],ps=>exact ps.elim
 |[_],ps=>exact ps.2.elim
 |_::_::_::_,ps=>exact ps.2.2.elim
end
section
open Go.IntKind (wrap)
set_option maxRecDepth 1000000
open Go.Shelf Go.RowKit Go.Lib
def Atd:Go.Shelf.Ren:=⟨fun|196=>56|259=>93|n=>n,fun|0=>0|3=>3|4=>4|5=>5|9=>9|12=>12|46=>76|53=>22|119=>136|138=>138|139=>139|n=>n,fun|3=>0|4=>1|n=>n⟩
theorem laysVS:Lays.n196 Tryz.prog Atd:={
 mixed:=by kernel_rfl
 f196:=Tryz.func56.trans (congrArg some (by kernel_rfl))
 f259:=Tryz.func93.trans (congrArg some (by kernel_rfl))
 t0:=Tryz.underlying0
 a0:=Tryz.isAgg0
 z0:=Tryz.sizeOf0
 v0:=Tryz.zeroValue0
 t3:=Tryz.underlying3
 a3:=Tryz.isAgg3
 z3:=Tryz.sizeOf3
 v3:=Tryz.zeroValue3
 t4:=Tryz.underlying4
 a4:=Tryz.isAgg4
 z4:=Tryz.sizeOf4
 v4:=Tryz.zeroValue4
 t5:=Tryz.underlying5
 a5:=Tryz.isAgg5
 z5:=Tryz.sizeOf5
 v5:=Tryz.zeroValue5
 t9:=Tryz.underlying9
 a9:=Tryz.isAgg9
 z9:=Tryz.sizeOf9
 v9:=Tryz.zeroValue9
 t12:=Tryz.underlying12
 a12:=Tryz.isAgg12
 z12:=Tryz.sizeOf12
 v12:=Tryz.zeroValue12
 t46:=Tryz.underlying76
 a46:=Tryz.isAgg76
 z46:=Tryz.sizeOf76
 v46:=Tryz.zeroValue76
 t53:=Tryz.underlying22
 a53:=Tryz.isAgg22
 z53:=Tryz.sizeOf22
 v53:=Tryz.zeroValue22
 t119:=Tryz.underlying136
 a119:=Tryz.isAgg136
 z119:=Tryz.sizeOf136
 t138:=Tryz.underlying138
 a138:=Tryz.isAgg138
 z138:=Tryz.sizeOf138
 v138:=Tryz.zeroValue138
 t139:=Tryz.underlying139
 a139:=Tryz.isAgg139
 z139:=Tryz.sizeOf139
 v139:=Tryz.zeroValue139
 g3:=by kernel_rfl
 g4:=by kernel_rfl }
def gU:Vq:=⟨fun b=>b=0∨b=1,fun w=>0<w.heap.size∧1<w.heap.size∧Lib.Utf8Tabs 0 1 w,fun w w' h ⟨s1,s2,h1,h2⟩=>by
 have e1:=h _ (.inl rfl) s1;have e2:=h _ (.inr rfl) s2
 have hs:∀b,b<w.heap.size->w'.heap[b]?=w.heap[b]?->b<w'.heap.size:=by
  intro b hb he;rw [Array.getElem?_eq_getElem hb] at he;rcases Nat.lt_or_ge b w'.heap.size with q|q
  ·exact q
  ·rw [Array.getElem?_eq_none q] at he;cases he
 refine ⟨hs _ s1 e1,hs _ s2 e2,fun c hc=>?_,fun i hi=>?_⟩
 ·have:=h1 c hc;unfold World.cell? at this ⊢;simp only [e1] at this ⊢;exact this
 ·obtain ⟨a,b⟩:=h2 i hi;unfold World.cell? at a b ⊢;simp only [e2] at a b ⊢;exact ⟨a,b⟩⟩
theorem XO (args:List PV)(res:A0)(h:ML args=some res):C9 gU Tryz.prog 56 args res:=by
 refine ⟨⟨_,Tryz.func56,by kernel_rfl⟩,fun w Y bt us hi hok _=>?_⟩
 unfold ML at h;split at h
 rotate_left
 ·cases h
 rename_i s;cases hq:decide (s.size<=9223372036854775807)
 ·rw [hq] at h;cases h
 rw [hq] at h;cases h;have hs:=of_decide_eq_true hq;have ps:=hi.args
 match us,ps with
 |[u],ps=>
  have hu:u=.string s:=by
   have:A7 w _ (.sc (.string s)) u:=ps.1.2;exact this.val
  subst hu;refine (Any.utf8_ValidString laysVS s w hs hok.2.2).mono ?_
  rintro e w' ⟨rfl,hb⟩
  exact ⟨[.bool (Lib.validD s.data.toList)],fun _=>none,rfl,PP hb rfl⟩
 |[],ps=>exact ps.elim
 |_::_::_,ps=>exact ps.2.elim
theorem extU:Acw gU Tryz.prog C0:=by
 intro f g args res hx hg;have hx0:(bif BQ.any (Nat.beq f) then none else Kd f)=some g:=hx;cases hb:BQ.any (Nat.beq f)
 rotate_left
 ·rw [hb,cond_true] at hx0;cases hx0
 rw [hb,cond_false] at hx0;have hx':Kd f=some g:=hx0;unfold Kd at hx';cases h1:Nat.beq f 56
 rotate_left
 ·rw [h1,cond_true] at hx';cases hx';rw [Nat.eq_of_beq_eq_true h1];exact XO args res hg
 rw [h1,cond_false] at hx';cases h2:Nat.beq f 133
 rotate_left
 ·rw [h2,cond_true] at hx';cases hx';rw [Nat.eq_of_beq_eq_true h2];exact OG gU args res hg
 rw [h2,cond_false] at hx';cases h4:Nat.beq f 37
 rotate_left
 ·rw [h4,cond_true] at hx';cases hx';rw [Nat.eq_of_beq_eq_true h4];exact Af6 hg
 rw [h4,cond_false] at hx';cases h3:Nat.beq f 1000000
 ·rw [h3,cond_false] at hx';cases hx'
 ·rw [h3,cond_true] at hx';cases hx';cases hg
end
end Go.Proofs.YtdjihiphpgkfmaaGreatDoor.Pv
