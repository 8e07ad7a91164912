/-
  The proof of AccountPlays, part 6.
-/
import Derived.Test.YtcgfahlefkfghaaPE
import Derived.Lib.SliceRun
set_option linter.unusedSimpArgs false
set_option linter.unusedVariables false
namespace Go.Proofs.Ytcgfahlefkfghaa.Pv
section
open Go.Proofs.Try (prog)
open Go.IntKind (wrap)
open Go.RowKit Go.Lib
theorem Ai0 {w:World}{es vb vo r vc:Nat}{vs:List Value}(Ls:vs.length=r*es)(Fq:∀j v,vs[j]?=some v->w.cell? ⟨vb,vo+j,none⟩=some v) (FN:∀v∈vs,v.oneCell'=true):
  Pv.Src prog w (fun _=>False) es (.slice (some ⟨vb,vo,none⟩) r vc) r (vs.map .sc) vs where
 len:=fun w'=>by simp[Builtin.lenOf]
 cells:=fun w' hw=>by
  refine Pv.run_first_slice (w:=w') (.inr ⟨_,rfl,Ls,fun j v hj=>?_⟩)
  have hv:=Fq j v hj;rw[Addr.add_lit,World.cell?_of_block (w:=w) (hw vb (block_lt_of_cell hv))];exact hv
 part:=fun k hk=>by
  refine run_firstCells_some w es k ⟨vb,vo,none⟩ r vc _ (by rw[List.length_take,Ls];exact Nat.min_eq_left (Nat.mul_le_mul_right es hk)) fun j v hj=>?_
  rw[List.getElem?_take] at hj;split at hj
  ·rw[Addr.add_lit];exact Fq j v hj
  ·cases hj
 one:=FN
 rep:=by
  clear Fq FN Ls
  induction vs with
  |nil=>trivial
  |cons v vs ih=>exact⟨.sc v,ih⟩
theorem Adk {W:World}{κ o cap:Nat}(hc:∀j,j<11->(W.cell? ⟨κ,o+j,none⟩).isSome=true) (hf:∀j,W.frozen? ⟨κ,j,none⟩=false)(ty:TypeId):
  (Builtin.clear_ #[46] ty #[.slice (some ⟨κ,o,none⟩) 1 cap]).run prog W=.ok (.tuple #[]) (W.setCells κ o Yr.toList):=by
 obtain⟨i0,T0,LZ,Nt,RW⟩:=info_parts DM
 have Lx:=run_storeCells_cells (P:=prog) κ o Yr.toList 0 W (by simpa using hc) (fun j _=>by simpa using hf (o+(0+j))) (by
  intro v hv;simp only[List.mem_cons,List.not_mem_nil,or_false] at hv;rcases hv with rfl|rfl|rfl|rfl|rfl|rfl|rfl|rfl|rfl|rfl|rfl<;>rfl)
 simp only[Nat.add_zero] at Lx;have hzc:(Builtin.zeroCells (Value.agg Yr).cells 1).toList=Yr.toList:=by kernel_rfl
 simp[Builtin.clear_,run_underlying Sb,zeroValue,typeInfo,T0,LZ,hzc] at Lx ⊢;simp[Lx]
theorem Ag5 {w:World}{S:Nat->Prop}{b:Nat}{cells:List PV}(h:Wv w S ⟨b,0,none⟩ cells):∃vs:List Value,Ba (fun p v=>As w S p v) cells vs∧(∀j v,vs[j]?=some v->w.cell? ⟨b,j,none⟩=some v)∧∀v∈vs,v.oneCell'=true:=by
 suffices H:∀(cells:List PV) (o:Nat),(∀(j:Nat) c,cells[j]?=some c->∃v,w.cell? ⟨b,o+j,none⟩=some v∧v.oneCell'=true∧As w S c v)->∃vs:List Value,Ba (fun p v=>As w S p v) cells vs∧(∀j v,vs[j]?=some v->w.cell? ⟨b,o+j,none⟩=some v)∧∀v∈vs,v.oneCell'=true by
  obtain⟨vs,h1,h2,h3⟩:=H cells 0 (fun j c hj=>by
   obtain⟨v,a1,a2,a3⟩:=h j c hj;rw[B8] at a1;exact⟨v,a1,a2,a3⟩)
  exact⟨vs,h1,fun j v hj=>by have:=h2 j v hj;rwa [Cn] at this,h3⟩
 intro cells
 induction cells with
 |nil=>intro o _;exact⟨[],trivial,fun j v hj=>(by cases hj),fun v hv=>(by cases hv)⟩
 |cons c cs ih=>
  intro o h;obtain⟨v,a1,a2,a3⟩:=h 0 c rfl
  obtain⟨vs,b1,b2,b3⟩:=ih (o+1) (fun j c hj=>by
   obtain⟨v,a1,a2,a3⟩:=h (j+1) c hj;rw[show o+(j+1)=o+1+j by omega] at a1
   exact⟨v,a1,a2,a3⟩)
  refine⟨v::vs,⟨a3,b1⟩,fun j u hj=>?_,fun u hu=>?_⟩
  ·cases j with
   |zero=>cases hj;exact a1
   |succ j=>rw[show o+(j+1)=o+1+j by omega];exact b2 j u hj
  ·rcases List.mem_cons.1 hu with rfl|hu
   ·exact a2
   ·exact b3 u hu
set_option maxHeartbeats 1000000 in
set_option maxRecDepth 100000 in
theorem Aed {w:World}{κ r k:Nat}{vs:List Value}(Ls:vs.length=(r+1)*11) (Fq:∀j v,vs[j]?=some v->w.cell? ⟨κ,j,none⟩=some v) (h1:∀v∈vs,v.oneCell'=true)(hc:∀j,j<(r+2)*11->(w.cell? ⟨κ,j,none⟩).isSome=true) (hf:∀j,w.frozen? ⟨κ,j,none⟩=false)(hk:k<=r)(hm:r<=1000):
  Calls prog 38 #[.slice (some ⟨κ,0,none⟩) (r+1) (r+2),.int .i64 k,.int .i64 ((k:Int)+1)] w fun e w'=>e=.returned (.slice (some ⟨κ,0,none⟩) r (r+2)) ∧
   w'=(w.drew.setCells κ (k*11) (vs.drop ((k+1)*11))).setCells κ (r*11) Yr.toList:=by
 have mixed:prog.follows Departure.mixedOrders=true:=by kernel_rfl
 obtain⟨i0,T0,LZ,Nt,RW⟩:=info_parts DM;have TK:(vs.drop ((k+1)*11)).length=(r-k)*11:=by rw[List.length_drop,Ls];omega
 have M8:=Ai0 (w:=w.drew) (vb:=κ) (vo:=(k+1)*11) (r:=r-k) (vc:=r+1-k) (es:=11) TK (fun j v hj=>by rw[List.getElem?_drop] at hj;exact Fq _ v hj) (fun v hv=>h1 v (List.mem_of_mem_drop hv))
 have Ll:∀ty,(Builtin.append_ #[46,46] ty #[.slice (some ⟨κ,0,none⟩) k (r+2),.slice (some ⟨κ,(k+1)*11,none⟩) (r-k) (r+1-k)]).run prog w.drew=.ok (.slice (some ⟨κ,0,none⟩) r (r+2)) (w.drew.setCells κ (k*11) (vs.drop ((k+1)*11))):=fun ty=>by
  have h:=Pv.append_room_run (P:=prog) (w:=w.drew) (t:=46) (tx:=46) (ty:=ty) (ts:=[]) (b:=κ) (ob:=0) (n:=k) (cap:=r+2) Sb Sb (fun k=>by simp) T0 (by rw[Nt];exact M8) (by rw[TK,Nt])
   (fun j hj=>by rw[Nt];exact hc _ (by omega)) (fun j hj=>hf _) (by omega)
  rw[Nt,Cn,show k+(r-k)=r by omega] at h
  exact h
 have FQ:¬((k:Int)=(k:Int)+1):=by omega
 have AO:(k:Int)<=(r:Int)+2:=by omega
 have hq3:(k:Int)+1<=(r:Int)+1:=by omega
 have By0:r+1-(k+1)=r-k:=by omega
 have hq4:¬(r+2=k+1):=by omega
 have hq6:(0:Int)<=(k:Int)+1:=by omega
 have hq5:¬(r+2=r):=by omega
 go_enter Try.func38,Try.ntmps38
 go_wp2
 go_region_law_o? (refine Ks rfl _ _ 46 46 rfl _ _ (by simp[Act.eval,Act.put]) (by simp[Act.eval,Act.put]) (Ll _) ?_)
 obtain⟨W1,FM⟩:∃W1,W1=w.drew.setCells κ (k*11) (vs.drop ((k+1)*11)):=⟨_,rfl⟩;rw[←FM];have gw:=Bf.setCells κ (vs.drop ((k+1)*11)) (k*11) w.drew;rw[←FM] at gw;have c1:∀j,j<(r+2)*11->(W1.cell? ⟨κ,j,none⟩).isSome=true:=fun j hj=>by rw[FM];exact H0 _ _ _ _ _ (hc j hj)
 have N1:=Adk (W:=W1) (κ:=κ) (o:=r*11) (cap:=2) (fun j hj=>c1 _ (by omega)) (fun j=>(gw.frz j).trans (hf j))
 have hX:Hid (W1=w.drew.setCells κ (k*11) (vs.drop ((k+1)*11))):=FM;clear Ll M8 TK Fq h1 hc hf c1 FM
 go_wp2
 go_ret
 refine⟨rfl,?_⟩;have hX':W1=w.drew.setCells κ (k*11) (vs.drop ((k+1)*11)):=hX;rw[hX']
theorem Aix (l:List Sd):∀c∈Cf l,M0 c:=by
 intro c hc;obtain⟨s,_,hs⟩:=List.mem_flatMap.1 hc;simp only[Sd.cells,List.mem_cons,List.not_mem_nil,or_false] at hs;rcases hs with rfl|rfl|rfl|rfl|rfl|rfl|rfl|rfl|rfl|rfl|rfl<;>trivial
theorem Aj4 {w:World}{S:Nat->Prop}{κ r k sz:Nat}{l:List Sd}{vs:List Value}(row:Nu w S κ sz (Cf l)) (hl:l.length=r+1)(hk:k<=r)(L8:(r+1)*11<=sz) (hS:S κ)(hv:Ba (fun p v=>As w S p v) (Cf l) vs) (h1:∀v∈vs,v.oneCell'=true):
  Nu ((w.setCells κ (k*11) (vs.drop ((k+1)*11))).setCells κ (r*11) Yr.toList) S κ sz (Cf (l.eraseIdx k)):=by
 have L:(Cf l).length=(r+1)*11:=by rw[G7,hl]
 have Nj:Ba (fun p v=>M0 p∧As w S p v) (Cf l) vs:=hv.mono_mem fun a ha b h=>⟨Aix l a ha,h⟩
 have e:Cf (l.eraseIdx k)=(Cf l).take (k*11)++(Cf l).drop ((k+1)*11):=by
  rw[List.eraseIdx_eq_take_drop_succ];unfold Cf;rw[List.flatMap_append]
  congr 1
  ·exact (Rg (f:=Sd.cells) (k:=11) (fun _=>rfl) l k).symm
  ·exact (On (f:=Sd.cells) (k:=11) (fun _=>rfl) l (k+1)).symm
 have l1:((Cf l).take (k*11)).length=k*11:=by rw[List.length_take,L];omega
 have l2:((Cf l).drop ((k+1)*11)).length=(r-k)*11:=by rw[List.length_drop,L];omega
 have row1:=row.put (cells':=(Cf l).take (k*11)++(Cf l).drop ((k+1)*11)++(Cf l).drop (r*11)) (o:=k*11) (ps:=(Cf l).drop ((k+1)*11)) (vs:=vs.drop ((k+1)*11)) hS (Nj.drop _) (fun v hv=>h1 v (List.mem_of_mem_drop hv)) (by omega)
  (fun j c hj hc=>by
   rw[List.getElem?_append_left (by rw[AV];omega),List.getElem?_append_left (by omega),List.getElem?_take,J8 hj] at hc
   exact hc)
  (fun j hj=>by rw[List.getElem?_append_left (by rw[AV];omega),List.getElem?_append_right (by omega),l1,Nat.add_sub_cancel_left])
  (fun j c hj hc=>by
   rw[List.getElem?_append_right (by rw[AV];omega),List.getElem?_drop,AV,l1,l2] at hc
   rw[←hc]
   congr 1
   omega)
 have hz:Yr.toList.length=11:=rfl;have hzv:Ba (fun p v=>M0 p∧As (w.setCells κ (k*11) (vs.drop ((k+1)*11))) S p v) (Yr.toList.map PV.sc) Yr.toList:=⟨⟨trivial,.sc _⟩,⟨trivial,.sc _⟩,⟨trivial,.sc _⟩,⟨trivial,.sc _⟩,⟨trivial,.sc _⟩,⟨trivial,.sc _⟩,⟨trivial,.sc _⟩,⟨trivial,.sc _⟩,⟨trivial,.sc _⟩,⟨trivial,.sc _⟩,⟨trivial,.sc _⟩,trivial⟩
 have row2:=row1.put (cells':=((Cf l).take (k*11)++(Cf l).drop ((k+1)*11))++Yr.toList.map PV.sc) (o:=r*11) (ps:=Yr.toList.map PV.sc) (vs:=Yr.toList) hS hzv (by
   intro v hv;simp only[List.mem_cons,List.not_mem_nil,or_false] at hv;rcases hv with rfl|rfl|rfl|rfl|rfl|rfl|rfl|rfl|rfl|rfl|rfl<;>rfl) (by show r*11+11<=_;omega)
  (fun j c hj hc=>by
   rw[List.getElem?_append_left (by rw[AV];omega)] at hc ⊢
   exact hc)
  (fun j hj=>by rw[List.getElem?_append_right (by rw[AV];omega),AV,l1,l2];congr 1;omega)
  (fun j c hj hc=>by
   have Nk:r*11+11<=j:=hj;rw[List.getElem?_append_right (by rw[AV];omega),AV,l1,l2] at hc
   have:=(List.getElem?_eq_some_iff.1 hc).1;rw[List.length_map,hz] at this;omega)
 rw[e];exact⟨row2.lt,row2.sz,row2.fz,fun j c hj=>row2.rd j c (by rw[List.getElem?_append_left (List.getElem?_eq_some_iff.1 hj).1];exact hj)⟩
set_option maxHeartbeats 1000000 in
set_option maxRecDepth 100000 in
theorem Ad8 {w:World}{Y:Nat->Prop}{ls:List Cw}{base:Option Addr}{n c i k:Nat}{a:Cw}{nm:ByteArray}{p0:Option Addr}{m0 k0:Nat}(hB:RY w Y ls n c base)
  (JV:∀W,Ce (fun _=>False) w W->Calls prog 37 #[.slice base n c,.string nm,.slice p0 m0 k0] W fun e W'=>e=.returned (.tuple #[.int .i64 i,.int .i64 k,.bool true])∧Ce (fun _=>False) W W')
  (hi:ls[i]?=some a) (hk:k<a.cr.length):
  Calls prog 16 #[.slice base n c,.string nm,.slice p0 m0 k0] w
   fun e w'=>∃u,e=.returned (.tuple #[u,.int .i64 0])∧Ce (fun _=>False) w w'∧As w' Y (.lst false 3 n (Az (ls.set i { a with cr:=a.cr.eraseIdx k }))) u:=by
 have mixed:prog.follows Departure.mixedOrders=true:=by kernel_rfl
 have U0:=(List.getElem?_eq_some_iff.1 hi).1;have CZ:=hB.nl;have ham:=(hB.sm a (List.mem_of_getElem? hi)).1;obtain⟨r,hr⟩:∃r,a.cr.length=r+1:=⟨a.cr.length-1,by omega⟩
 have T0:(i:Int)<(n:Int):=by omega
 go_enter Try.func16,Try.ntmps16
 go_wp2_with (go_at_call 37;refine (JV _ ?hO).mono ?_)
 case hO=>exact Ce.refl _ _
 intro e W1 he Yl;subst he;dsimp only;have TF:=hB.adv Yl
 go_wp2_with (go_at_call 30;refine TF.copy.mono ?_)
 rintro e W3 ⟨bs,he,hC3⟩
 subst he;dsimp only;have hC:=hC3.cop;have ebi:bs[i]?=some (bs[i]'(by rw[hC.len];exact U0)):=List.getElem?_eq_getElem _
 obtain⟨bp,hbp⟩:∃bp,bs[i]'(by rw[hC.len];exact U0)=bp:=⟨_,rfl⟩
 rw[hbp] at ebi;obtain⟨_,_,d2,d3⟩:=hC.cell i a bp hi ebi;obtain⟨κ,kc⟩:=bp;obtain rfl:kc=a.cr.length+1:=hC3.room i a _ hi ebi;clear hbp d3;dsimp only at d2;have row3:=hC.row i a _ hi ebi;dsimp only at row3;rw[hr] at row3 d2;have hbm:=List.mem_of_getElem? ebi;have Hu:κ≠W1.heap.size:=(hC.blk _ hbm).2;have hSκ:Js W1.heap.size bs Y κ:=.inr (.inl ⟨_,hbm,rfl⟩)
 have Bb9:∀W,Ce (fun _=>False) W3 W->Calls prog 38 #[.slice (some ⟨κ,0,none⟩) (r+1) (r+1+1),.int .i64 k,.int .i64 ((k:Int)+1)] W fun e W'=>e=.returned (.slice (some ⟨κ,0,none⟩) r (r+1+1))∧Ce (fun x=>x=κ) W W'∧Nu W' (Js W1.heap.size bs Y) κ ((r+1+1)*11) (Cf (a.cr.eraseIdx k)):=fun W hW=>by
  have row:=row3.adv hW (fun h=>h) (fun _ _ h=>h.elim) (fun _ _ h=>h)
  obtain⟨vs,hv,Fq,hv1⟩:=Ag5 row.rd;have Ls:vs.length=(r+1)*11:=by rw[←hv.len,G7,hr]
  refine (Aed Ls Fq hv1 (fun j hj=>row.cellAt hj) row.fz (by omega) (by omega)).mono ?_
  rintro e W' ⟨rfl,rfl⟩
  have rowd:=row.adv (Ce.drew W) (fun h=>h) (fun _ _ h=>h.elim) (fun _ _ h=>h)
  refine⟨rfl,((Ce.drew W).weak (E':=fun x=>x=κ) fun _ _ h=>h.elim).trans ((Ce.wrote (Bf.setCells _ _ _ _)).trans (Ce.wrote (Bf.setCells _ _ _ _)) fun _ _ h=>h) (fun _ _ h=>h),?_⟩
  exact Aj4 rowd hr (by omega) (by omega) hSκ (hv.mono fun _ _ h=>h.step ((Ce.drew W).st.weaken fun _ _ h=>h.elim) fun _ _ h=>h) hv1
 have hmr:(a.cr.eraseIdx k).length=r:=by rw[List.length_eraseIdx,J8 hk,hr];rfl
 have hkw:IntKind.i64.wrap ((k:Int)+1)=(k:Int)+1:=by rw[IntKind.wrap_i64];omega
 clear JV
 go_wp2_with (go_at_call 38;refine (Bb9 _ ?hW).mono ?_)
 case hW=>exact Ce.refl _ _
 rintro e W4 ⟨he4,hA4,hR4⟩
 subst he4;dsimp only;have d24:=d2;rw[←hA4.cell hC.lt (fun h=>Hu h.symm)] at d24
 have f24:=hC.fzB (i*3+2);rw[←hA4.frz hC.lt (fun h=>Hu h.symm)] at f24
 have nB:¬W1.heap.size=κ:=fun h=>Hu h.symm
 have gw:=Bf.setCell W1.heap.size (i*3+2) (.slice (some ⟨κ,0,none⟩) r (r+1+1)) W4;have l4:W1.heap.size<W4.heap.size:=Nat.lt_of_lt_of_le hC.lt hA4.size
 have hF:=hC.set (wr':=W4.setCell ⟨W1.heap.size,i*3+2,none⟩ (.slice (some ⟨κ,0,none⟩) r (r+1+1))) (a':={ a with cr:=a.cr.eraseIdx k }) hi ebi rfl rfl (by show (a.cr.eraseIdx k).length<=a.cr.length+1;omega)
  ((hA4.weak (E':=fun x=>x=W1.heap.size∨x=κ) fun _ _ h=>.inr h).trans (Ce.wrote gw) fun _ _ h=>.inl h) (gw.bs.trans ((hA4.bs hC.lt nB).trans hC.szB)) (fun j=>(gw.frz j).trans ((hA4.frz hC.lt nB).trans (hC.fzB j)))
  (fun j hj=>(World.cell?_setCell_other _ _ _ _ (by intro e;simp only[Addr.mk.injEq] at e;omega)).trans (hA4.cell hC.lt nB))
  (by
   rw[World.cell?_setCell_same _ _ _ d24];show _=some (Value.slice _ (a.cr.eraseIdx k).length (a.cr.length+1));rw[hmr,hr])
  (by
   show Nu _ _ κ ((a.cr.length+1)*11) _;rw[hr];exact hR4.adv (Ce.wrote gw) Hu (fun _ _ h=>.inl h) (fun _ _ h=>h))
 have ht:=hF.tree (Y:=Y) TF.y (by rw[List.length_set];omega) (fun _ h=>h)
 rw[List.length_set,CZ] at ht
 go_wp2
 go_ret2
 exact⟨_,rfl,Yl.trans hF.kept (fun _ _ h=>h),ht⟩
end
section
open Go.Proofs.Try (prog)
open Go.IntKind (wrap)
open Go.RowKit Go.Lib
theorem NX {w:World}{Y:Nat->Prop}{ls:List Cw}{n c:Nat}{base p0:Option Addr}{k0:Nat}{id:List Int}(hB:RY w Y ls n c base)(hT:As w Y (.lst false 1 id.length (Am .u8 id)) (.slice p0 id.length k0)) {vs:List Value}(hv:JS (Wp id 0 ls)=vs.map .sc):
  ∀W,Ce (fun _=>False) w W->Calls prog 23 #[.slice base n c,.slice p0 id.length k0] W fun e W'=>e=.returned (Eo vs)∧Ce (fun _=>False) W W':=fun W hW=>by
 have hB':=hB.adv hW
 have q:Ag (CX noZ) prog 3000 3 23 [.lst false 3 n (Az ls),.lst false 1 id.length (Am .u8 id)]=some ⟨vs.map .sc,[]⟩:=by
  rw[←hv,←hB.nl];exact Aej (xs:=noZ) (fu:=3000) (d:=0) (by have:=hB.n1;have:=hB.nl;omega) (fun a ha=>(hB.sm a ha).1) (by omega)
 exact MO q hB'.y ⟨S3 hB'.tr,S3 (hT.step (hW.st.weaken fun _ _ h=>h.elim) fun _ _ h=>h),trivial⟩
theorem GY {w:World}{Y:Nat->Prop}{ls:List Cw}{n c:Nat}{base:Option Addr}{nm:ByteArray}(hB:RY w Y ls n c base){vs:List Value}(hv:Gs (X8 nm 0 ls)=vs.map .sc):
  ∀W,Ce (fun _=>False) w W->Calls prog 14 #[.slice base n c,.string nm] W fun e W'=>e=.returned (Eo vs)∧Ce (fun _=>False) W W':=fun W hW=>by
 have hB':=hB.adv hW
 have q:Ag (CX noZ) prog 3000 1 14 [.lst false 3 n (Az ls),.sc (.string nm)]=some ⟨vs.map .sc,[]⟩:=by
  rw[←hv,←hB.nl];exact Xf (xs:=noZ) (fu:=3000) (d:=0) (by have:=hB.n1;have:=hB.nl;omega) (by have:=hB.n1;have:=hB.nl;omega)
 exact MO q hB'.y ⟨S3 hB'.tr,WA _,trivial⟩
theorem Wt {w:World}{Y:Nat->Prop}{ls:List Cw}{n c:Nat}{base p0:Option Addr}{k0:Nat}{nm:ByteArray}{id:List Int}(hB:RY w Y ls n c base)(hT:As w Y (.lst false 1 id.length (Am .u8 id)) (.slice p0 id.length k0)) {vs:List Value}(hv:YP ls nm id=vs.map .sc):
  ∀W,Ce (fun _=>False) w W->Calls prog 37 #[.slice base n c,.string nm,.slice p0 id.length k0] W fun e W'=>e=.returned (Eo vs)∧Ce (fun _=>False) W W':=fun W hW=>by
 have hB':=hB.adv hW
 have q:Ag (CX noZ) prog 3000 3 37 [.lst false 3 n (Az ls),.sc (.string nm),.lst false 1 id.length (Am .u8 id)]=some ⟨vs.map .sc,[]⟩:=by
  rw[←hv,←hB.nl];exact Aps (xs:=noZ) (fu:=3000) (d:=0) (by have:=hB.n1;have:=hB.nl;omega) (fun a ha=>(hB.sm a ha).1) (by omega)
 exact MO q hB'.y ⟨S3 hB'.tr,WA _,S3 (hT.step (hW.st.weaken fun _ _ h=>h.elim) fun _ _ h=>h),trivial⟩
abbrev Z7 (w:World)(code:Int)(e:Ending)(w':World):Prop:=e=.returned (.tuple #[.slice none 0 0,.int .i64 code])∧Ce (fun _=>False) w w'
section
variable {w:World} {Y:Nat->Prop} {ls:List Cw} {base:Option Addr} {n c i:Nat} {a:Cw} {x:Sd} {nm us:ByteArray} {p0 p7:Option Addr} {k0 k7:Nat}
set_option maxHeartbeats 1000000 in
set_option maxRecDepth 100000 in
theorem Aan (h:nm.size<1∨32<nm.size):Calls prog 11 #[.slice base n c,.string nm,.string us,.agg #[.slice p0 x.id.length k0,.int .i64 x.ht,.int .u64 x.root,.int .u64 x.model,.int .i64 x.fmt,.bool x.sh,.int .u64 x.used,.slice p7 x.rg.length k7,.bool x.sus,.int .i64 x.since,.int .i64 x.last]] w (Z7 w 9):=by
 by_cases h1:nm.size<1
 ·have Tj:(nm.size:Int)<1:=by omega
  go_enter Try.func11,Try.ntmps11
  go_wp2
  go_ret2
  exact⟨rfl,Ce.new (E1.alloc _ _ _)⟩
 ·have Tj:¬(nm.size:Int)<1:=by omega
  have RP:(32:Int)<(nm.size:Int):=by omega
  go_enter Try.func11,Try.ntmps11
  go_wp2
  go_ret2
  exact⟨rfl,Ce.new (E1.alloc _ _ _)⟩
set_option maxHeartbeats 1000000 in
set_option maxRecDepth 100000 in
theorem YU (CR:1<=nm.size)(RX:nm.size<=32)(h:x.id.length≠176):Calls prog 11 #[.slice base n c,.string nm,.string us,.agg #[.slice p0 x.id.length k0,.int .i64 x.ht,.int .u64 x.root,.int .u64 x.model,.int .i64 x.fmt,.bool x.sh,.int .u64 x.used,.slice p7 x.rg.length k7,.bool x.sus,.int .i64 x.since,.int .i64 x.last]] w (Z7 w 4):=by
 have Tj:¬(nm.size:Int)<1:=by omega
 have RP:¬(32:Int)<(nm.size:Int):=by omega
 have h3':¬((x.id.length:Int)=176):=by omega
 go_enter Try.func11,Try.ntmps11
 go_wp2
 go_ret2
 exact⟨rfl,Ce.new (E1.alloc _ _ _)⟩
set_option maxHeartbeats 1000000 in
set_option maxRecDepth 100000 in
theorem Akj {z1 z2:Int}(CR:1<=nm.size)(RX:nm.size<=32)(Bb:x.id.length=176)
  (GM:∀W,Ce (fun _=>False) w W->Calls prog 23 #[.slice base n c,.slice p0 176 k0] W fun e W'=>e=.returned (.tuple #[.int .i64 z1,.int .i64 z2,.bool true])∧Ce (fun _=>False) W W'):
  Calls prog 11 #[.slice base n c,.string nm,.string us,.agg #[.slice p0 x.id.length k0,.int .i64 x.ht,.int .u64 x.root,.int .u64 x.model,.int .i64 x.fmt,.bool x.sh,.int .u64 x.used,.slice p7 x.rg.length k7,.bool x.sus,.int .i64 x.since,.int .i64 x.last]] w (Z7 w 10):=by
 rw[Bb];have Tj:¬(nm.size:Int)<1:=by omega
 have RP:¬(32:Int)<(nm.size:Int):=by omega
 go_enter Try.func11,Try.ntmps11
 go_wp2_with (go_at_call 23;refine (GM _ ?hO).mono ?_)
 case hO=>exact Ce.new (E1.alloc _ _ _)
 intro e W1 he Yl;subst he;dsimp only;have g1:=(Ce.new (E1.alloc w _ _)).trans Yl fun _ _ h=>h
 go_wp2
 go_ret2
 exact⟨rfl,g1⟩
set_option maxHeartbeats 1000000 in
set_option maxRecDepth 100000 in
theorem Ag9 (hB:RY w Y ls n c base)(CR:1<=nm.size)(RX:nm.size<=32)(Bb:x.id.length=176)
  (GM:∀W,Ce (fun _=>False) w W->Calls prog 23 #[.slice base n c,.slice p0 176 k0] W fun e W'=>e=.returned (.tuple #[.int .i64 0,.int .i64 0,.bool false])∧Ce (fun _=>False) W W')
  (NW:∀W,Ce (fun _=>False) w W->Calls prog 14 #[.slice base n c,.string nm] W fun e W'=>e=.returned (.tuple #[.int .i64 i,.bool true])∧Ce (fun _=>False) W W')
  (hi:ls[i]?=some a) (hk:4<=a.cr.length):
  Calls prog 11 #[.slice base n c,.string nm,.string us,.agg #[.slice p0 x.id.length k0,.int .i64 x.ht,.int .u64 x.root,.int .u64 x.model,.int .i64 x.fmt,.bool x.sh,.int .u64 x.used,.slice p7 x.rg.length k7,.bool x.sus,.int .i64 x.since,.int .i64 x.last]] w (Z7 w 12):=by
 rw[Bb];have U0:=(List.getElem?_eq_some_iff.1 hi).1;have CZ:=hB.nl;obtain⟨b,o,c',hv,hnc,hb,hYb,hR⟩:=Wu hB.tr (by omega)
 cases hv;obtain⟨c0,c1,p2,k2,c2,t2⟩:=Za hR hi;have Tj:¬(nm.size:Int)<1:=by omega
 have RP:¬(32:Int)<(nm.size:Int):=by omega
 have T0:(i:Int)<(n:Int):=by omega
 have Yq:(4:Int)<=(a.cr.length:Int):=by omega
 go_enter Try.func11,Try.ntmps11
 go_wp2_with (go_at_call 23;refine (GM _ ?hO).mono ?_)
 case hO=>exact Ce.new (E1.alloc _ _ _)
 intro e W1 he Yl;subst he;dsimp only;have g1:=(Ce.new (E1.alloc w _ _)).trans Yl fun _ _ h=>h
 go_wp2_with (go_at_call 14;refine (NW _ ?hF).mono ?_)
 case hF=>exact g1
 rintro e W2 ⟨he,hA2⟩
 subst he;dsimp only;have g2:=g1.trans hA2 fun _ _ h=>h
 have c22:=c2;rw[←g2.cell hb fun h=>h] at c22
 go_wp2
 go_ret2
 exact⟨rfl,g2⟩
set_option maxHeartbeats 1000000 in
set_option maxRecDepth 100000 in
theorem Ab7 (CR:1<=nm.size)(RX:nm.size<=32)(Bb:x.id.length=176)
  (GM:∀W,Ce (fun _=>False) w W->Calls prog 23 #[.slice base n c,.slice p0 176 k0] W fun e W'=>e=.returned (.tuple #[.int .i64 0,.int .i64 0,.bool false])∧Ce (fun _=>False) W W')
  (NW:∀W,Ce (fun _=>False) w W->Calls prog 14 #[.slice base n c,.string nm] W fun e W'=>e=.returned (.tuple #[.int .i64 0,.bool false])∧Ce (fun _=>False) W W')
  (hk:16<=n):
  Calls prog 11 #[.slice base n c,.string nm,.string us,.agg #[.slice p0 x.id.length k0,.int .i64 x.ht,.int .u64 x.root,.int .u64 x.model,.int .i64 x.fmt,.bool x.sh,.int .u64 x.used,.slice p7 x.rg.length k7,.bool x.sus,.int .i64 x.since,.int .i64 x.last]] w (Z7 w 12):=by
 rw[Bb];have Tj:¬(nm.size:Int)<1:=by omega
 have RP:¬(32:Int)<(nm.size:Int):=by omega
 have Yq:(16:Int)<=(n:Int):=by omega
 go_enter Try.func11,Try.ntmps11
 go_wp2_with (go_at_call 23;refine (GM _ ?hO).mono ?_)
 case hO=>exact Ce.new (E1.alloc _ _ _)
 intro e W1 he Yl;subst he;dsimp only;have g1:=(Ce.new (E1.alloc w _ _)).trans Yl fun _ _ h=>h
 go_wp2_with (go_at_call 14;refine (NW _ ?hF).mono ?_)
 case hF=>exact g1
 rintro e W2 ⟨he,hA2⟩
 subst he;dsimp only;have g2:=g1.trans hA2 fun _ _ h=>h
 go_wp2
 go_ret2
 exact⟨rfl,g2⟩
set_option maxHeartbeats 1000000 in
set_option maxRecDepth 100000 in
theorem Ael {z1:Int}
  (JV:∀W,Ce (fun _=>False) w W->Calls prog 37 #[.slice base n c,.string nm,.slice p0 x.id.length k0] W fun e W'=>e=.returned (.tuple #[.int .i64 z1,.int .i64 0,.bool false])∧Ce (fun _=>False) W W'):
  Calls prog 18 #[.slice base n c,.string nm,.agg #[.slice p0 x.id.length k0,.int .i64 x.ht,.int .u64 x.root,.int .u64 x.model,.int .i64 x.fmt,.bool x.sh,.int .u64 x.used,.slice p7 x.rg.length k7,.bool x.sus,.int .i64 x.since,.int .i64 x.last]] w (Z7 w 11):=by
 go_enter Try.func18,Try.ntmps18
 go_wp2_with (go_at_call 37;refine (JV _ ?hO).mono ?_)
 case hO=>exact Ce.new (E1.alloc _ _ _)
 intro e W1 he Yl;subst he;dsimp only;have g1:=(Ce.new (E1.alloc w _ _)).trans Yl fun _ _ h=>h
 go_wp2
 go_ret2
 exact⟨rfl,g1⟩
set_option maxHeartbeats 1000000 in
set_option maxRecDepth 100000 in
theorem Agp {z1:Int}{m0:Nat}
  (JV:∀W,Ce (fun _=>False) w W->Calls prog 37 #[.slice base n c,.string nm,.slice p0 m0 k0] W fun e W'=>e=.returned (.tuple #[.int .i64 z1,.int .i64 0,.bool false])∧Ce (fun _=>False) W W'):
  Calls prog 16 #[.slice base n c,.string nm,.slice p0 m0 k0] w (Z7 w 11):=by
 go_enter Try.func16,Try.ntmps16
 go_wp2_with (go_at_call 37;refine (JV _ ?hO).mono ?_)
 case hO=>exact Ce.refl _ _
 intro e W1 he Yl;subst he;dsimp only
 go_wp2
 go_ret2
 exact⟨rfl,Yl⟩
end
end
section
open Go.Proofs.Try (prog)
open Go.IntKind (wrap)
open Go.RowKit Go.Lib
theorem XK {w w':World}{Y:Nat->Prop}{args:List PV}{p:PV}{u:Value}{z:Int}(hp:M0 p)(g:Ce (fun _=>False) w w') (ht:As w' Y p u)(ho:Gz w' (Nn Nv (fun _=>none) Y) (fun _=>none) Nv (Jd [p,.sc (.int .i64 z)]) 0 args []):
  VY w w' Y Nv args (fun _=>none) ⟨[p,.sc (.int .i64 z)],[]⟩ [u,.int .i64 z] where
 os:=g.os
 tape:=g.tape
 output:=g.output
 ext:=g.st.weaken fun _ _ h=>h.elim
 rng:=fun b j hb _=>⟨g.cell hb fun h=>h,g.frz hb fun h=>h⟩
 vals:=by
  have hA:∀b,Nn Nv (fun _=>none) Y b->Y b:=by
   rintro b (⟨j,o,h⟩|⟨i,o,h⟩|h)
   ·cases h
   ·cases h
   ·exact h
  have ht':As w' (Nn Nv (fun _=>none) Y) p u:=ht.step (Bw.refl _ _) fun b _ h=>hA b h
  refine⟨?_,As.sc _,trivial⟩;cases p<;>first|exact ht'|exact hp.elim
 outs:=ho
 fresh:=fun j b o h=>by cases h
 inj:=fun j j' b o o' h=>by cases h
theorem Qt {G:Glo}{P:Program}{f:FuncId}{args:List PV}{vals:List PV}(hf:∃fn,P.funcs[f]?=some fn∧fn.body.isSome=true) (Eg:∀(i:Nat)(p:PV),args[i]?=some p->Xu p=false)
  (htr:∀(w:World)(A:Nat->Prop)(bt:V6)(us:List Value),K1 w A bt 0 args us->Ba (Ke w A) args us)
  (ho0:∀(w:World)(A:Nat->Prop)(bt:V6)(own:Bt),Gz w A own bt (Jd vals) 0 args [])
  (h:∀(w:World)(Y:Nat->Prop)(us:List Value),(∀b,Y b->b<w.heap.size)->Ba (Ke w Y) args us->Calls P f us.toArray w fun e w'=>∃vs own,e=.returned (Eo vs)∧VY w w' Y Nv args own ⟨vals,[]⟩ vs):Do G P f args ⟨vals,[]⟩:=by
 refine⟨hf,fun w Y bt us U0 _ _=>?_⟩
 have hl:∀i q,bt i 0≠some q:=by
  intro i q e;obtain⟨p,h1,h2⟩:=U0.l0 i q e;rw[Eg i p h1] at h2;cases h2
 have ht:=htr w _ bt us U0.args;refine (h w Y us U0.Ylt (ht.mono fun p v hp=>HG (fun b _ hb=>.inr hb) hp)).mono ?_
 rintro e w' ⟨vs,own,rfl,ho⟩
 have hA:Nn bt own Y=Nn Nv own Y:=by
  funext b
  apply propext;constructor
  ·rintro (h1|⟨i,o,h1⟩|h1)
   ·exact .inl h1
   ·exact absurd h1 (hl i _)
   ·exact .inr (.inr h1)
  ·rintro (h1|⟨i,o,h1⟩|h1)
   ·exact .inl h1
   ·cases h1
   ·exact .inr (.inr h1)
 refine⟨vs,own,rfl,⟨ho.os,ho.tape,ho.output,ho.ext.weaken fun b _ hb=>(V5 b hb).elim,fun b j hb _=>ho.rng b j hb Aka,by rw[hA];exact ho.vals,ho0 _ _ _ _,fun j b o hj=>?_,ho.inj⟩⟩
 obtain⟨h1,h2⟩:=ho.fresh j b o hj;refine⟨h1,fun Bp=>?_⟩
 obtain⟨⟨i,k,o',h3⟩,_⟩:=h2 Bp;cases h3
theorem Id {w:World}{A:Nat->Prop}{bt:Bt}{p:PV}{u:Value}(hp:M0 p)(h:FR w A bt p u):Ke w A p u:=by
 cases p with
 |sc v=>exact⟨trivial,h.2⟩
 |lst z es n c=>exact⟨trivial,h.2⟩
 |_=>exact hp.elim
theorem EO {w:World}{A:Nat->Prop}{own:Bt}:∀{cs:List PV}{vs:List Value}{j:Nat},(∀c∈cs,M0 c)->Et w A own j cs vs->Ba (fun c v=>M0 c∧As w A c v) cs vs
 |[],[],_,_,_=>trivial
 |c::cs,v::vs,j,hT,h=>by
  have hc:=hT c (by simp)
  refine⟨⟨hc,?_⟩,EO (fun x hx=>hT x (by simp[hx])) h.2⟩
  have h1:=h.1;cases c<;>first|exact h1|exact hc.elim
 |[],_::_,_,_,h=>h.elim
 |_::_,[],_,_,h=>h.elim
theorem PE {w:World}{A:Nat->Prop}{bt:Bt}{cs:List PV}{u:Value}(hT:∀c∈cs,M0 c)(h:FR w A bt (.agg cs) u):Ke w A (.agg cs) u:=by
 obtain⟨vs,rfl,_,h3⟩:=h;exact⟨vs,rfl,EO hT h3⟩
theorem Ae2 (x:Sd):∀c∈x.cells,M0 c:=by
 intro c hc;simp only[Sd.cells,List.mem_cons,List.not_mem_nil,or_false] at hc;rcases hc with rfl|rfl|rfl|rfl|rfl|rfl|rfl|rfl|rfl|rfl|rfl<;>trivial
theorem JX {w:World}{Y:Nat->Prop}{args:List PV}{L:List Cw}(ho:∀(w:World)(A:Nat->Prop)(bt:V6)(own:Bt),Gz w A own bt (Jd (P8 (L,0)).vals) 0 args []) {e:Ending}{w':World}
  (h:∃u,e=.returned (.tuple #[u,.int .i64 0])∧Ce (fun _=>False) w w'∧As w' Y (.lst false 3 L.length (Az L)) u):∃vs own,e=.returned (Eo vs)∧VY w w' Y Nv args own (P8 (L,0)) vs:=by
 obtain⟨u,rfl,g,ht⟩:=h;exact⟨[u,.int .i64 0],fun _=>none,rfl,XK trivial g ht (ho _ _ _ _)⟩
theorem Qn {w:World}{Y:Nat->Prop}{args:List PV}{z:Int}(ho:∀(w:World)(A:Nat->Prop)(bt:V6)(own:Bt),Gz w A own bt (Jd (P8 ([],z)).vals) 0 args []) {e:Ending}{w':World}
  (h:Z7 w z e w'):∃vs own,e=.returned (Eo vs)∧VY w w' Y Nv args own (P8 ([],z)) vs:=by
 obtain⟨rfl,g⟩:=h;exact⟨[.slice none 0 0,.int .i64 z],fun _=>none,rfl,XK trivial g (.lnil false 3) (ho _ _ _ _)⟩
theorem Abg {G:Glo}{l:List Cw}{nm us:ByteArray}{x:Sd}(hl:l.length<=1000)(hs:∀a∈l,a.sm)(hx:x.sm):
  Do G prog 11 [.lst false 3 l.length (Az l),.sc (.string nm),.sc (.string us),.agg x.cells] (P8 (AH l nm us x)):=by
 refine Qt ⟨_,Try.func11,rfl⟩ ?_ ?_ (fun _ _ _ _=>rfl) ?_
 ·intro i p h
  match i,h with
  |0,h=>cases h;rfl
  |1,h=>cases h;rfl
  |2,h=>cases h;rfl
  |3,h=>cases h;rfl
  |_+4,h=>cases h
 ·intro w A bt uv h
  match uv,h with
  |[u0,u1,u2,u3],h=>exact⟨Id trivial h.1,Id trivial h.2.1,Id trivial h.2.2.1,PE (Ae2 x) h.2.2.2.1,trivial⟩
  |[],h=>exact h.elim
  |[_],h=>exact h.2.elim
  |[_,_],h=>exact h.2.2.elim
  |[_,_,_],h=>exact h.2.2.2.elim
  |_::_::_::_::_::_,h=>exact h.2.2.2.2.elim
 ·intro w Y uv hY h
  match uv,h with
  |[u0,u1,u2,u3],h=>
   obtain⟨h0,h1,h2,h3,_⟩:=h;obtain⟨base,c,rfl⟩:=Qq h0.2;obtain rfl:u1=.string nm:=h1.2.val;obtain rfl:u2=.string us:=h2.2.val;obtain⟨vs,rfl,hv⟩:=h3;obtain⟨p0,k0,p7,k7,rfl,hV⟩:=KB hv;have hB:RY w Y l l.length c base:=⟨rfl,hs,hl,h0.2,hY⟩;show Calls prog 11 #[.slice base l.length c,.string nm,.string us,.agg #[.slice p0 x.id.length k0,.int .i64 x.ht,.int .u64 x.root,.int .u64 x.model,.int .i64 x.fmt,.bool x.sh,.int .u64 x.used,.slice p7 x.rg.length k7,.bool x.sus,.int .i64 x.since,.int .i64 x.last]] w _;unfold AH;by_cases c1:nm.size<1∨32<nm.size
   ·rw[J8 c1];exact (Aan c1).mono fun e w' h=>Qn (by intros;rfl) h
   rw[Mr c1];by_cases c2:x.id.length≠176
   ·rw[J8 c2];exact (YU (by omega) (by omega) c2).mono fun e w' h=>Qn (by intros;rfl) h
   rw[Mr c2];have Bb:x.id.length=176:=Classical.not_not.1 c2;cases c3:Wp x.id 0 l with
   |some z=>
    rw[J8 (show (some z).isSome=true from rfl)]
    obtain⟨z1,z2⟩:=z;have ho:=NX hB hV.t0 (vs:=[.int .i64 z1,.int .i64 z2,.bool true]) (by rw[c3];rfl)
    rw[Bb] at ho;exact (Akj (by omega) (by omega) Bb ho).mono fun e w' h=>Qn (by intros;rfl) h
   |none=>
    rw[Mr (show ¬(none:Option (Nat × Nat)).isSome=true by simp)]
    have ho:=NX hB hV.t0 (vs:=[.int .i64 0,.int .i64 0,.bool false]) (by rw[c3];rfl)
    rw[Bb] at ho;cases c4:X8 nm 0 l with
    |none=>
     have hf:=GY hB (vs:=[.int .i64 0,.bool false]) (by rw[c4];rfl)
     dsimp only;by_cases c5:16<=l.length
     ·rw[J8 c5];exact (Ab7 (by omega) (by omega) Bb ho hf c5).mono fun e w' h=>Qn (by intros;rfl) h
     ·rw[Mr c5];refine (Ajw hB hV hx (by omega) (by omega) Bb ho hf (by omega)).mono fun e w' h=>JX (by intros;rfl) ?_
      rw[AV];exact h
    |some i=>
     obtain⟨_,_,a,h3,_⟩:=Qj c4;rw[Nat.sub_zero] at h3;have hf:=GY hB (vs:=[.int .i64 i,.bool true]) (by rw[c4];rfl)
     dsimp only;rw[h3];dsimp only;by_cases c5:4<=a.cr.length
     ·rw[J8 c5];exact (Ag9 hB (by omega) (by omega) Bb ho hf h3 c5).mono fun e w' h=>Qn (by intros;rfl) h
     ·rw[Mr c5];refine (ZF hB hV hx (by omega) (by omega) Bb ho hf h3 (by omega)).mono fun e w' h=>JX (by intros;rfl) ?_
      rw[List.length_set];exact h
  |[],h=>exact h.elim
  |[_],h=>exact h.2.elim
  |[_,_],h=>exact h.2.2.elim
  |[_,_,_],h=>exact h.2.2.2.elim
  |_::_::_::_::_::_,h=>exact h.2.2.2.2.elim
theorem HQ (l:List Cw)(nm:ByteArray)(id:List Int):(∃i k a,MR l nm id=some (i,k,a)∧l[i]?=some a∧k<a.cr.length∧YP l nm id=[Value.int .i64 i,.int .i64 k,.bool true].map .sc)∨(MR l nm id=none∧∃z:Int,YP l nm id=[Value.int .i64 z,.int .i64 0,.bool false].map .sc):=by
 unfold MR YP;cases h:X8 nm 0 l with
 |none=>exact .inr ⟨rfl,0,rfl⟩
 |some i=>
  obtain⟨_,_,a,h3,_⟩:=Qj h;rw[Nat.sub_zero] at h3;dsimp only;rw[h3];dsimp only;cases hp:KQ id 0 a.cr with
  |none=>exact .inr ⟨rfl,i,rfl⟩
  |some k=>
   have:=(KC hp).2;exact .inl ⟨i,k,a,rfl,h3,by omega,rfl⟩
theorem XZ {G:Glo}{l:List Cw}{nm:ByteArray}{x:Sd}(hl:l.length<=1000)(hs:∀a∈l,a.sm)(hx:x.sm):
  Do G prog 18 [.lst false 3 l.length (Az l),.sc (.string nm),.agg x.cells] (P8 (FY l nm x)):=by
 refine Qt ⟨_,Try.func18,rfl⟩ ?_ ?_ (fun _ _ _ _=>rfl) ?_
 ·intro i p h
  match i,h with
  |0,h=>cases h;rfl
  |1,h=>cases h;rfl
  |2,h=>cases h;rfl
  |_+3,h=>cases h
 ·intro w A bt us h
  match us,h with
  |[u0,u1,u3],h=>exact⟨Id trivial h.1,Id trivial h.2.1,PE (Ae2 x) h.2.2.1,trivial⟩
  |[],h=>exact h.elim
  |[_],h=>exact h.2.elim
  |[_,_],h=>exact h.2.2.elim
  |_::_::_::_::_,h=>exact h.2.2.2.elim
 ·intro w Y us hY h
  match us,h with
  |[u0,u1,u3],h=>
   obtain⟨h0,h1,h3,_⟩:=h;obtain⟨base,c,rfl⟩:=Qq h0.2;obtain rfl:u1=.string nm:=h1.2.val;obtain⟨vs,rfl,hv⟩:=h3;obtain⟨p0,k0,p7,k7,rfl,hV⟩:=KB hv;have hB:RY w Y l l.length c base:=⟨rfl,hs,hl,h0.2,hY⟩;show Calls prog 18 #[.slice base l.length c,.string nm,.agg #[.slice p0 x.id.length k0,.int .i64 x.ht,.int .u64 x.root,.int .u64 x.model,.int .i64 x.fmt,.bool x.sh,.int .u64 x.used,.slice p7 x.rg.length k7,.bool x.sus,.int .i64 x.since,.int .i64 x.last]] w _;unfold FY;rcases HQ l nm x.id with⟨i,k,a,e1,e2,e3,e4⟩|⟨e1,z,e4⟩
   ·rw[e1];dsimp only;refine (Ads hB hV hx (Wt hB hV.t0 e4) e2 e3).mono fun e w' h=>JX (by intros;rfl) ?_
    rw[List.length_set];exact h
   ·rw[e1];exact (Ael (Wt hB hV.t0 e4)).mono fun e w' h=>Qn (by intros;rfl) h
  |[],h=>exact h.elim
  |[_],h=>exact h.2.elim
  |[_,_],h=>exact h.2.2.elim
  |_::_::_::_::_,h=>exact h.2.2.2.elim
theorem ZE {G:Glo}{l:List Cw}{nm:ByteArray}{id:List Int}(hl:l.length<=1000)(hs:∀a∈l,a.sm):
  Do G prog 16 [.lst false 3 l.length (Az l),.sc (.string nm),.lst false 1 id.length (Am .u8 id)] (P8 (FZ l nm id)):=by
 refine Qt ⟨_,Try.func16,rfl⟩ ?_ ?_ (fun _ _ _ _=>rfl) ?_
 ·intro i p h
  match i,h with
  |0,h=>cases h;rfl
  |1,h=>cases h;rfl
  |2,h=>cases h;rfl
  |_+3,h=>cases h
 ·intro w A bt us h
  match us,h with
  |[u0,u1,u3],h=>exact⟨Id trivial h.1,Id trivial h.2.1,Id trivial h.2.2.1,trivial⟩
  |[],h=>exact h.elim
  |[_],h=>exact h.2.elim
  |[_,_],h=>exact h.2.2.elim
  |_::_::_::_::_,h=>exact h.2.2.2.elim
 ·intro w Y us hY h
  match us,h with
  |[u0,u1,u3],h=>
   obtain⟨h0,h1,h3,_⟩:=h;obtain⟨base,c,rfl⟩:=Qq h0.2;obtain rfl:u1=.string nm:=h1.2.val;obtain⟨p0,k0,rfl⟩:=Qq h3.2;have hB:RY w Y l l.length c base:=⟨rfl,hs,hl,h0.2,hY⟩;show Calls prog 16 #[.slice base l.length c,.string nm,.slice p0 id.length k0] w _;unfold FZ;rcases HQ l nm id with⟨i,k,a,e1,e2,e3,e4⟩|⟨e1,z,e4⟩
   ·rw[e1];dsimp only;refine (Ad8 hB (Wt hB h3.2 e4) e2 e3).mono fun e w' h=>JX (by intros;rfl) ?_
    rw[List.length_set];exact h
   ·rw[e1];exact (Agp (Wt hB h3.2 e4)).mono fun e w' h=>Qn (by intros;rfl) h
  |[],h=>exact h.elim
  |[_],h=>exact h.2.elim
  |[_,_],h=>exact h.2.2.elim
  |_::_::_::_::_,h=>exact h.2.2.2.elim
theorem WG {s:List PV}{x:Sd}(h:L0 s=some [x]):s=x.cells∧x.sm:=by
 obtain⟨e,hs⟩:=Yp _ (Nat.le_refl _) h;refine⟨by rw[e];simp[Cf],hs x (by simp)⟩
theorem SL {G:Glo}{args:List PV}{r:A2}(h:Aeg args=some r):Do G prog 11 args r:=by
 unfold Aeg at h;split at h
 ·rename_i n c nm us s;split at h
  ·rename_i l x h1 h2;cases hq:(Nat.beq l.length n&&Nat.ble n 1000)<;>rw[hq] at h
   ·cases h
   ·cases h;rw[Bool.and_eq_true] at hq;obtain⟨e,hs⟩:=Qx _ (Nat.le_refl _) h1;obtain⟨rfl,hx⟩:=WG h2;obtain rfl:=Nat.eq_of_beq_eq_true hq.1;rw[e];exact Abg (Nat.le_of_ble_eq_true hq.2) hs hx
  ·cases h
 ·cases h
theorem SD {G:Glo}{args:List PV}{r:A2}(h:Af5 args=some r):Do G prog 18 args r:=by
 unfold Af5 at h;split at h
 ·rename_i n c nm s;split at h
  ·rename_i l x h1 h2;cases hq:(Nat.beq l.length n&&Nat.ble n 1000)<;>rw[hq] at h
   ·cases h
   ·cases h;rw[Bool.and_eq_true] at hq;obtain⟨e,hs⟩:=Qx _ (Nat.le_refl _) h1;obtain⟨rfl,hx⟩:=WG h2;obtain rfl:=Nat.eq_of_beq_eq_true hq.1;rw[e];exact XZ (Nat.le_of_ble_eq_true hq.2) hs hx
  ·cases h
 ·cases h
theorem SQ {G:Glo}{args:List PV}{r:A2}(h:Ae3 args=some r):Do G prog 16 args r:=by
 unfold Ae3 at h;split at h
 ·rename_i n c nm k i;split at h
  ·rename_i l id h1 h2;cases hq:(Nat.beq l.length n&&Nat.ble n 1000&&Nat.beq id.length k&&Nat.ble k 1000000)<;>rw[hq] at h
   ·cases h
   ·cases h;simp only[Bool.and_eq_true] at hq;obtain⟨⟨⟨q1,q2⟩,q3⟩,q4⟩:=hq;obtain⟨e,hs⟩:=Qx _ (Nat.le_refl _) h1;obtain rfl:=Nat.eq_of_beq_eq_true q1;obtain rfl:=Nat.eq_of_beq_eq_true q3;rw[e,KX h2];exact ZE (Nat.le_of_ble_eq_true q2) hs
  ·cases h
 ·cases h
end
section
open Go.Proofs.Try (prog)
open Go.IntKind (wrap)
theorem extA (G:Glo):ExtOk G prog C0:=by
 intro f g args res hx hg;have hx0:(bif Wh.any (Nat.beq f) then none else Ih f)=some g:=hx;cases hb:Wh.any (Nat.beq f)
 rotate_left
 ·rw[hb,cond_true] at hx0;cases hx0
 rw[hb,cond_false] at hx0;have Um:Ih f=some g:=hx0;unfold Ih at Um;cases h2:Nat.beq f 36
 rotate_left
 ·rw[h2,cond_true] at Um;cases Um;rw[Nat.eq_of_beq_eq_true h2];exact GO G args res hg
 rw[h2,cond_false] at Um;cases h4:Nat.beq f 46
 rotate_left
 ·rw[h4,cond_true] at Um;cases Um;rw[Nat.eq_of_beq_eq_true h4];exact ZC G args res hg
 rw[h4,cond_false] at Um;cases h5:Nat.beq f 11
 rotate_left
 ·rw[h5,cond_true] at Um;cases Um;rw[Nat.eq_of_beq_eq_true h5];exact SL hg
 rw[h5,cond_false] at Um;cases h6:Nat.beq f 18
 rotate_left
 ·rw[h6,cond_true] at Um;cases Um;rw[Nat.eq_of_beq_eq_true h6];exact SD hg
 rw[h6,cond_false] at Um;cases h7:Nat.beq f 16
 rotate_left
 ·rw[h7,cond_true] at Um;cases Um;rw[Nat.eq_of_beq_eq_true h7];exact SQ hg
 rw[h7,cond_false] at Um;cases h3:Nat.beq f 1000000
 ·rw[h3,cond_false] at Um;cases Um
 ·rw[h3,cond_true] at Um;cases Um;cases hg
end
end Go.Proofs.Ytcgfahlefkfghaa.Pv
