/-
  The proof of AccountShape, part 5.
-/
import Derived.Test.YtcgfahlefkfghaaSD
import Derived.Test.YtcgfahlefkfghaaRows
import Derived.Shelf.RegionOpenPlain
import Derived.Lib.Overlaps
import Derived.Lib.AppendZerosOnto
import Derived.Lib.Walk
import Derived.Lib.SliceRun
import Derived.Laws.Externs
import Derived.Laws.IdiomCopy
import Derived.Laws.NewBlocks
import Derived.WalkKit
import Derived.WalkMore
import Derived.Laws.MakeOwn
set_option linter.unusedSimpArgs false
set_option linter.unusedVariables false
namespace Go.Proofs.Ytcgfahlefkfghaa.Pv
section
open Go.Proofs.Try (prog)
open Go.IntKind (wrap)
open Go.RowKit Go.Lib
theorem ER:(prog.info? 79).map (fun i=>(i.zero,i.size,i.bytes))=some (some (.agg #[.int .i64 0,.int .i64 0]),2,16):=by kernel_rfl
theorem Qu:prog.underlying 31=some (.slice 79):=by kernel_rfl
theorem Aiy:prog.underlying 3=some (.int .i64):=by kernel_rfl
set_option maxHeartbeats 4000000 in
set_option maxRecDepth 100000 in
theorem TW (b off n c i vb voff vc:Nat)(cs vs:List Value)(w:World)(hi:i<n)(Iw:n+1<=c)(Aoy:n<=100000)(hvb:vb≠b)
  (Lp:cs.length=n*2)(I9:vs.length=2)
  (P0:∀j v,cs[j]?=some v->w.cell? ⟨b,off+j,none⟩=some v) (VK:∀j,j<(n+1)*2->(w.cell? ⟨b,off+j,none⟩).isSome=true) (N1:∀j,j<(n+1)*2->w.frozen? ⟨b,off+j,none⟩=false)
  (Ex:∀j v,vs[j]?=some v->w.cell? ⟨vb,voff+j,none⟩=some v) (h1c:∀v∈cs,v.oneCell'=true)(Z9:∀v∈vs,v.oneCell'=true)
  (tA tB:TypeId)(kA kB:Nat)(hsa:w.shape? vb=some (tA,kA)) (hsb:w.shape? b=some (tB,kB)) (hkB:kB≠0)(hfa:w.frozen? ⟨vb,voff,none⟩=false)(hfe:w.frozen? ⟨vb,kA,none⟩=false):
  Calls prog 46 #[.slice (some ⟨b,off,none⟩) n c,.int .i64 i,.slice (some ⟨vb,voff,none⟩) 1 vc] w fun e w'=>
   e=.returned (.slice (some ⟨b,off,none⟩) (n+1) c)∧w'=(w.drew.setCells b (off+(i+1)*2) (cs.drop (i*2))).setCells b (off+i*2) vs:=by
 obtain⟨i0,Qf,GC,K5,LA⟩:=info_parts ER;have hz2:¬((i:Int)=(n:Int)):=by omega
 have hov:∀lb cb,(callFunc 57 #[.slice (some ⟨vb,voff,none⟩) 1 vc,.slice (some ⟨b,off+(i+1)*2,none⟩) lb cb]).run prog w=.ok (.value (.bool false)) w:=fun lb cb=>by
  rw[run_callFunc_extern Try.func57 (by kernel_rfl) (by kernel_rfl) (by kernel_rfl) (e:=Extern.SlicesOverlaps.overlaps #[31,31] #[4]) (by kernel_rfl),
   Lib.run_overlaps_apart w 31 4 79 Qu 2 (fun w=>by simp[sizeOf,typeInfo,Qf,K5]) ⟨vb,voff,none⟩ ⟨b,off+(i+1)*2,none⟩ 1 vc lb cb hvb tA tB kA kB hsa hsb hkB hfa hfe]
  rfl
 have NA:(cs.drop (i*2)).length=(n-i)*2:=by rw[List.length_drop,Lp];omega
 have hw1:IntKind.i64.wrap ((i:Int)+1)=(i:Int)+1:=by rw[IntKind.wrap_i64];omega
 have hw2:IntKind.i64.wrap ((n:Int)+1)=(n:Int)+1:=by rw[IntKind.wrap_i64];omega
 have mixed:prog.follows Departure.mixedOrders=true:=by kernel_rfl
 have Er:(0:Int)<=(i:Int)+1:=by omega
 have hin:i<=n:=by omega
 have htn:((i:Int)+1).toNat=i+1:=by omega
 have Im:¬(c=i+1):=by omega
 have FH:(i:Int)<=(n:Int)+1:=by omega
 have hb4:¬(c=i):=by omega
 have Amd:∀ty dc sc,(Builtin.copy_ #[31,31] ty #[.slice (some ⟨b,off+(i+1)*2,none⟩) (n-i) dc,.slice (some ⟨b,off+i*2,none⟩) (n+1-i) sc]).run prog w.drew=.ok (goInt ((n-i:Nat):Int)) (w.drew.setCells b (off+(i+1)*2) (cs.drop (i*2))):=fun ty dc sc=>
  P5 w.drew _ _ ty 79 i0 b (off+(i+1)*2) (n-i) dc ⟨b,off+i*2,none⟩ (n+1-i) sc (n-i) (cs.drop (i*2)) Qu Qf (by simp only[Nat.min_def];split<;>omega) (by rw[K5];exact NA)
   (fun j v hj=>by rw[Addr.add_lit,Nat.add_assoc];exact P0 (i*2+j) v (by rwa [List.getElem?_drop] at hj))
   (fun j hj=>by rw[Nat.add_assoc];exact VK _ (by omega)) (fun j hj=>by rw[Nat.add_assoc];exact N1 _ (by omega)) (fun v hv=>h1c v (List.mem_of_mem_drop hv))
 obtain⟨W1,Z8⟩:∃W1,W1=w.drew.setCells b (off+(i+1)*2) (cs.drop (i*2)):=⟨_,rfl⟩
 have Aw8:∀k,k<(n+1)*2->(W1.cell? ⟨b,off+k,none⟩).isSome=true:=fun k hk=>by
  rw[Z8];exact Gk b _ _ _ _ (VK k hk)
 have Aur:∀(W:World),(∀x,W.cell? x=W1.cell? x)->(∀x,W.frozen? x=W1.frozen? x)->∀ty dc,(Builtin.copy_ #[31,31] ty #[.slice (some ⟨b,off+i*2,none⟩) (n+1-i) dc,.slice (some ⟨vb,voff,none⟩) 1 vc]).run prog W=.ok (goInt 1) (W.setCells b (off+i*2) vs):=fun W hWc hWf ty dc=>
  P5 W _ _ ty 79 i0 b (off+i*2) (n+1-i) dc ⟨vb,voff,none⟩ 1 vc 1 vs Qu Qf (by simp only[Nat.min_def];split<;>omega) (by rw[I9,K5])
   (fun j v hj=>by
    rw[Addr.add_lit,hWc,Z8,World.cell?_setCells_out b _ _ _ _ (fun h _=>absurd h hvb)]
    exact Ex j v hj)
   (fun j hj=>by rw[hWc,Nat.add_assoc];exact Aw8 _ (by omega)) (fun j hj=>by rw[hWf,Z8,World.frozen?_setCells,Nat.add_assoc];exact N1 _ (by omega)) Z9
 rw[←Z8] at Amd
 go_enter Try.func46,Try.ntmps46
 go_wp2_with (simp only[hov])
 go_region_law_o (refine Ok rfl _ _ 31 31 rfl _ _ (by simp[Act.eval,Act.put]) (by simp[Act.eval,Act.put]) (Amd _ _ _) ?_)
 go_wp2_with (at_builtin;refine H9 _ rfl _ _ 31 31 rfl _ _ rfl rfl (Aur _ (fun _=>rfl) (fun _=>rfl) _ _) ?_)
 go_ret
 first|exact⟨rfl,rfl⟩|exact⟨rfl,by rw[Z8]⟩
theorem WY {w:World}{vb voff vc:Nat}{vs:List Value}(I9:vs.length=2)(Ex:∀j v,vs[j]?=some v->w.cell? ⟨vb,voff+j,none⟩=some v) (Z9:∀v∈vs,v.oneCell'=true):
  Pv.Src prog w (fun _=>False) 2 (.slice (some ⟨vb,voff,none⟩) 1 vc) 1 (vs.map .sc) vs where
 len:=fun w'=>by simp[Builtin.lenOf]
 cells:=fun w' hw=>by
  refine Pv.run_first_slice (w:=w') (.inr ⟨_,rfl,by omega,fun j v hj=>?_⟩)
  have hv:=Ex j v hj;rw[Addr.add_lit,World.cell?_of_block (w:=w) (hw vb (block_lt_of_cell hv))];exact hv
 part:=fun k hk=>by
  refine run_firstCells_some w 2 k ⟨vb,voff,none⟩ 1 vc _ (by rw[List.length_take];omega) fun j v hj=>?_
  rw[List.getElem?_take] at hj;split at hj
  ·rw[Addr.add_lit];exact Ex j v hj
  ·cases hj
 one:=Z9
 rep:=by
  clear Ex Z9 I9
  induction vs with
  |nil=>trivial
  |cons v vs ih=>exact⟨.sc v,ih⟩
set_option maxHeartbeats 4000000 in
set_option maxRecDepth 100000 in
theorem FJ (b off n c vb voff vc:Nat)(vs:List Value)(w:World)(Iw:n+1<=c)
  (I9:vs.length=2)(VK:∀j,j<2->(w.cell? ⟨b,off+n*2+j,none⟩).isSome=true) (N1:∀j,j<2->w.frozen? ⟨b,off+n*2+j,none⟩=false)
  (Ex:∀j v,vs[j]?=some v->w.cell? ⟨vb,voff+j,none⟩=some v) (Z9:∀v∈vs,v.oneCell'=true):
  Calls prog 46 #[.slice (some ⟨b,off,none⟩) n c,.int .i64 n,.slice (some ⟨vb,voff,none⟩) 1 vc] w fun e w'=>
   e=.returned (.slice (some ⟨b,off,none⟩) (n+1) c)∧w'=w.setCells b (off+n*2) vs:=by
 obtain⟨i0,Qf,GC,K5,LA⟩:=info_parts ER;have Ko:=WY (vc:=vc) I9 Ex Z9;rw[←K5] at Ko VK N1 ⊢
 have hr:∀ty,(Builtin.append_ #[31,31] ty #[.slice (some ⟨b,off,none⟩) n c,.slice (some ⟨vb,voff,none⟩) 1 vc]).run prog w=_:=fun ty=>
  Pv.append_room_run (P:=prog) (w:=w) (t:=31) (tx:=31) (ty:=ty) (ts:=[]) (b:=b) (ob:=off) (n:=n) (cap:=c) Qu Qu (fun k=>by simp) Qf Ko (by rw[I9,K5]) (fun k hk=>VK k (by rw[K5];omega)) (fun k hk=>N1 k (by rw[K5];omega)) Iw
 have mixed:prog.follows Departure.mixedOrders=true:=by kernel_rfl
 go_enter Try.func46,Try.ntmps46
 go_wp2_with (at_builtin;refine Lib.wpList_append_run _ rfl _ _ _ _ rfl _ _ rfl rfl _ _ (hr _) ?_)
 go_ret
 exact⟨rfl,by rw[K5]⟩
set_option maxHeartbeats 4000000 in
set_option maxRecDepth 100000 in
theorem FA (base:Option Addr)(n c vb voff vc:Nat)(cs vs:List Value)(w:World)(hnc:n<=c)(Iw:c<n+1)(Aoy:n<=100000)
  (Lp:cs.length=n*2)(I9:vs.length=2)(P0:(base=none∧cs=[])∨∃p,base=some p∧∀j v,cs[j]?=some v->w.cell? (p.add j)=some v)
  (Ex:∀j v,vs[j]?=some v->w.cell? ⟨vb,voff+j,none⟩=some v) (Z9:∀v∈vs,v.oneCell'=true):
  Calls prog 46 #[.slice base n c,.int .i64 n,.slice (some ⟨vb,voff,none⟩) 1 vc] w fun e w'=>
   e=.returned (.slice (some ⟨w.heap.size,0,none⟩) (n+1) (grownCap w (n+1) c 79)) ∧
   w'=w.drew.alloc (.cells (cs.toArray++vs.toArray++Builtin.zeroCells #[.int .i64 0,.int .i64 0] (grownCap w (n+1) c 79-(n+1))) 79):=by
 obtain⟨i0,Qf,GC,K5,LA⟩:=info_parts ER;have Ko:=WY (vc:=vc) I9 Ex Z9;rw[←K5] at Ko
 have hr:∀ty,(Builtin.append_ #[31,31] ty #[.slice base n c,.slice (some ⟨vb,voff,none⟩) 1 vc]).run prog w=_:=fun ty=>
  Pv.append_grow_run (P:=prog) (w:=w) (t:=31) (tx:=31) (ty:=ty) (ts:=[]) (ad:=base) (n:=n) (cap:=c) (olds:=cs) Qu Qu (fun k=>by simp) Qf GC Ko (by
   rcases P0 with h|⟨p,h,g⟩
   ·exact .inl h
   ·exact .inr ⟨p,h,by rw[K5];exact Lp,g⟩) Iw (by rw[LA];omega) (by omega)
 have Rq:base=none->n=0:=by
  rintro rfl
  rcases P0 with⟨_,rfl⟩|⟨p,h,_⟩
  ·simp at Lp;omega
  ·cases h
 have mixed:prog.follows Departure.mixedOrders=true:=by kernel_rfl
 clear P0
 go_enter Try.func46,Try.ntmps46
 cases base with
 |none=>
  have h0:=Rq rfl;subst h0
  go_wp2_with (at_builtin;refine Lib.wpList_append_run _ rfl _ _ _ _ rfl _ _ rfl rfl _ _ (hr _) ?_)
  go_ret
  exact⟨rfl,rfl⟩
 |some a=>
  go_wp2_with (at_builtin;refine Lib.wpList_append_run _ rfl _ _ _ _ rfl _ _ rfl rfl _ _ (hr _) ?_)
  go_ret
  exact⟨rfl,rfl⟩
set_option maxHeartbeats 4000000 in
set_option maxRecDepth 100000 in
theorem Ab1 (b off n c i vb voff vc:Nat)(cs vs:List Value)(w:World)(hi:i<n)(hnc:n<=c)(Iw:c<n+1)(Aoy:n<=100000)
  (Lp:cs.length=n*2)(I9:vs.length=2)
  (P0:∀j v,cs[j]?=some v->w.cell? ⟨b,off+j,none⟩=some v)
  (Ex:∀j v,vs[j]?=some v->w.cell? ⟨vb,voff+j,none⟩=some v) (h1c:∀v∈cs,v.oneCell'=true)(Z9:∀v∈vs,v.oneCell'=true):
  Calls prog 46 #[.slice (some ⟨b,off,none⟩) n c,.int .i64 i,.slice (some ⟨vb,voff,none⟩) 1 vc] w fun e w'=>
   e=.returned (.slice (some ⟨w.heap.size,0,none⟩) (n+1) (grownCap w (n+1) c 79)) ∧
   w'=(((w.alloc (.cells ((cs.take (i*2)).toArray++Builtin.zeroCells #[.int .i64 0,.int .i64 0] (n+1-i)++Builtin.zeroCells #[.int .i64 0,.int .i64 0] (grownCap w (n+1) c 79-(n+1))) 79)).drew.setCells w.heap.size (i*2) vs).drew).setCells w.heap.size ((i+1)*2) (cs.drop (i*2)):=by
 obtain⟨i0,Qf,GC,K5,LA⟩:=info_parts ER;have hz2:¬((i:Int)=(n:Int)):=by omega
 have hz3:(c:Int)<(n:Int)+1:=by omega
 have hbw:b<w.heap.size:=block_lt_of_cell (P0 0 _ (List.getElem?_eq_getElem (by omega)))
 have hvw:vb<w.heap.size:=block_lt_of_cell (Ex 0 _ (List.getElem?_eq_getElem (by omega)))
 have hkk:(n:Int)+1-(i:Int)=((n+1-i:Nat):Int):=by omega
 have hik:i+(n+1-i)=n+1:=by omega
 have hold:(Builtin.firstCells i0.size i (.slice (some ⟨b,off,none⟩) i c)).run prog w.drew=.ok (cs.take (i*2)).toArray w.drew:=by
  rw[K5]
  exact run_firstCells_some w.drew 2 i ⟨b,off,none⟩ i c (cs.take (i*2)) (by rw[List.length_take];omega) (fun j v hj=>by
   rw[Addr.add_lit];rw[List.getElem?_take] at hj;split at hj
   ·exact P0 j v hj
   ·cases hj)
 have hrz:∀ty,(Builtin.append_ #[31,3] ty #[.slice (some ⟨b,off,none⟩) i c,.int .i64 ((n:Int)+1-(i:Int))]).run prog w =
   .ok (.slice (some ⟨w.heap.size,0,none⟩) (n+1) (grownCap w (n+1) c 79)) (w.drew.alloc (.cells ((cs.take (i*2)).toArray++Builtin.zeroCells #[.int .i64 0,.int .i64 0] (n+1-i)++Builtin.zeroCells #[.int .i64 0,.int .i64 0] (grownCap w (n+1) c 79-(n+1))) 79)):=fun ty=>by
  have h:=Lib.run_append_grow_zeros w 31 3 ty 79 i0 _ .i64 .i64 Qu Aiy Qf GC (some ⟨b,off,none⟩) i c (cs.take (i*2)) hold (n+1-i) (by omega) (by omega) (by omega) (by omega) (by rw[LA];omega) (by rw[LA,hik];exact growslice_fits Iw (by omega))
  rw[hik] at h;rw[hkk];exact h
 obtain⟨G,hG⟩:∃G,G=grownCap w (n+1) c 79:=⟨_,rfl⟩;obtain⟨ROW,JK⟩:∃ROW:Array Value,ROW=(cs.take (i*2)).toArray++Builtin.zeroCells #[.int .i64 0,.int .i64 0] (n+1-i)++Builtin.zeroCells #[.int .i64 0,.int .i64 0] (G-(n+1)):=⟨_,rfl⟩;rw[←hG] at hrz ⊢;rw[←JK] at hrz ⊢
 have hRl:(n+1)*2<=ROW.size:=by
  rw[JK];simp[Builtin.zeroCells];omega
 obtain⟨W1,Z8⟩:∃W1,W1=w.drew.alloc (.cells ROW 79):=⟨_,rfl⟩;rw[←Z8] at hrz
 have hN:∀j,j<(n+1)*2->(W1.cell? ⟨w.heap.size,j,none⟩).isSome=true:=fun j hj=>by
  rw[Z8,World.cell?_alloc_at (w:=w.drew) ROW _ w.heap.size j rfl,Array.getElem?_eq_getElem (by omega)];rfl
 have hNf:∀j,W1.frozen? ⟨w.heap.size,j,none⟩=false:=fun j=>by rw[Z8];exact World.frozen?_alloc_at (w:=w.drew) ROW _ w.heap.size j rfl
 have hOb:∀j v,w.cell? ⟨b,j,none⟩=some v->W1.cell? ⟨b,j,none⟩=some v:=fun j v h=>by rw[Z8,World.cell?_alloc_past (w:=w.drew) _ b j hbw];exact h
 have hOv:∀j v,w.cell? ⟨vb,j,none⟩=some v->W1.cell? ⟨vb,j,none⟩=some v:=fun j v h=>by rw[Z8,World.cell?_alloc_past (w:=w.drew) _ vb j hvw];exact h
 have Atg:∀(W:World),(∀x,W.cell? x=W1.cell? x)->(∀x,W.frozen? x=W1.frozen? x)->∀ty dc,(Builtin.copy_ #[31,31] ty #[.slice (some ⟨w.heap.size,i*2,none⟩) (n+1-i) dc,.slice (some ⟨vb,voff,none⟩) 1 vc]).run prog W=.ok (goInt 1) (W.setCells w.heap.size (i*2) vs):=fun W hWc hWf ty dc=>
  P5 W _ _ ty 79 i0 w.heap.size (i*2) (n+1-i) dc ⟨vb,voff,none⟩ 1 vc 1 vs Qu Qf (by simp only[Nat.min_def];split<;>omega) (by rw[I9,K5])
   (fun j v hj=>by rw[Addr.add_lit,hWc];exact hOv _ v (Ex j v hj))
   (fun j hj=>by rw[hWc];exact hN _ (by omega)) (fun j hj=>by rw[hWf];exact hNf _) Z9
 have hGn:n+1<=G:=by rw[hG];exact grownCap_ge w _ _ _
 have A0c:G<=9223372036854775807:=by
  have:=grownCap_le_maxLen w (n+1) c 79 (by unfold maxLen;omega)
  rw[←hG] at this;unfold maxLen at this;omega
 have hGi:¬(G=i):=by omega
 have A0d:¬(G=i+1):=by omega
 have hci:¬(c=i):=by omega
 have hbN:b≠w.heap.size:=by omega
 have NA:(cs.drop (i*2)).length=(n-i)*2:=by rw[List.length_drop,Lp];omega
 have Aoo:∀(W:World),(∀x,W.cell? x=(W1.setCells w.heap.size (i*2) vs).cell? x)->(∀x,W.frozen? x=(W1.setCells w.heap.size (i*2) vs).frozen? x)->∀ty dc sc,(Builtin.copy_ #[31,31] ty #[.slice (some ⟨w.heap.size,(i+1)*2,none⟩) (n-i) dc,.slice (some ⟨b,off+i*2,none⟩) (n-i) sc]).run prog W=.ok (goInt ((n-i:Nat):Int)) (W.setCells w.heap.size ((i+1)*2) (cs.drop (i*2))):=fun W hWc hWf ty dc sc=>
  P5 W _ _ ty 79 i0 w.heap.size ((i+1)*2) (n-i) dc ⟨b,off+i*2,none⟩ (n-i) sc (n-i) (cs.drop (i*2)) Qu Qf (by simp only[Nat.min_def];split<;>omega) (by rw[K5];exact NA)
   (fun j v hj=>by
    rw[Addr.add_lit,hWc,World.cell?_setCells_out _ _ _ _ _ (fun h _=>absurd h hbN),Nat.add_assoc]
    exact hOb _ v (P0 (i*2+j) v (by rwa [List.getElem?_drop] at hj)))
   (fun j hj=>by rw[hWc];exact Gk _ _ _ _ _ (hN _ (by omega)))
   (fun j hj=>by rw[hWf,World.frozen?_setCells];exact hNf _) (fun v hv=>h1c v (List.mem_of_mem_drop hv))
 subst Z8;have hE1:∀x,((w.alloc (.cells ROW 79)).drew).cell? x=(w.drew.alloc (.cells ROW 79)).cell? x:=fun x=>rfl
 have hE2:∀x,((w.alloc (.cells ROW 79)).drew).frozen? x=(w.drew.alloc (.cells ROW 79)).frozen? x:=fun x=>rfl
 have hF1:∀x,(((w.alloc (.cells ROW 79)).drew.setCells w.heap.size (i*2) vs).drew).cell? x=((w.drew.alloc (.cells ROW 79)).setCells w.heap.size (i*2) vs).cell? x:=fun x=>rfl
 have hF2:∀x,(((w.alloc (.cells ROW 79)).drew.setCells w.heap.size (i*2) vs).drew).frozen? x=((w.drew.alloc (.cells ROW 79)).setCells w.heap.size (i*2) vs).frozen? x:=fun x=>rfl
 have hw1:IntKind.i64.wrap ((i:Int)+1)=(i:Int)+1:=by rw[IntKind.wrap_i64];omega
 have hw2:IntKind.i64.wrap ((n:Int)+1)=(n:Int)+1:=by rw[IntKind.wrap_i64];omega
 have hw3:IntKind.i64.wrap ((n:Int)+1-(i:Int))=(n:Int)+1-(i:Int):=by rw[IntKind.wrap_i64];omega
 have Er:(0:Int)<=(i:Int)+1:=by omega
 have hin:i<=n:=by omega
 have htn:((i:Int)+1).toNat=i+1:=by omega
 have FH:(i:Int)<=(n:Int):=by omega
 have mixed:prog.follows Departure.mixedOrders=true:=by kernel_rfl
 clear hkk hik hold JK hG hRl
 go_enter Try.func46,Try.ntmps46
 go_wp2_with (first
  |(at_builtin;refine Lib.wpList_append_run _ rfl _ _ _ _ rfl _ _ rfl rfl _ _ (hrz _) ?_)
  |(at_builtin;refine H9 _ rfl _ _ 31 31 rfl _ _ rfl rfl (Atg _ hE1 hE2 _ _) ?_)
  |(at_builtin;refine H9 _ rfl _ _ 31 31 rfl _ _ rfl rfl (Aoo _ (fun _=>rfl) (fun _=>rfl) _ _ _) ?_))
 go_region_law_o (refine Ok rfl _ _ 31 31 rfl (.slice (some ⟨w.heap.size,(i+1)*2,none⟩) (n-i) (G-(i+1))) (.slice (some ⟨b,off+i*2,none⟩) (n-i) (c-i)) (by simp[Act.eval,Act.put]) (by simp[Act.eval,Act.put]) (Aoo _ hF1 hF2 3 (G-(i+1)) (c-i)) ?_)
 go_wp2
 go_ret
 exact⟨rfl,rfl⟩
end
section
open Go.Proofs.Try (prog)
open Go.IntKind (wrap)
open Go.RowKit Go.Lib
structure D7 (w w':World):Prop where
 os:w'.os=w.os
 tape:w'.tape=w.tape
 output:w'.output=w.output
 old:∀k,k<w.heap.size->w'.heap[k]?=w.heap[k]?
 size:w'.heap.size=w.heap.size+1
 frz:∀j,w'.frozen? ⟨w.heap.size,j,none⟩=false
theorem D7.alloc (w:World)(c:Array Value)(e:TypeId):D7 w (w.alloc (.cells c e)):=
 ⟨rfl,rfl,rfl,fun b hb=>Below.heap_alloc w _ b hb,by show (w.heap.push _).size=_;simp,fun j=>World.frozen?_alloc_at (w:=w) c e w.heap.size j rfl⟩
theorem D7.allocD (w:World)(c:Array Value)(e:TypeId):D7 w (w.drew.alloc (.cells c e)):=by
 have h:=D7.alloc w.drew c e;exact⟨h.os,h.tape,h.output,h.old,h.size,h.frz⟩
theorem D7.wrote {w w' w'':World}(h:D7 w w')(g:Ay w.heap.size w' w''):D7 w w'':=
 ⟨g.os.trans h.os,g.tape.trans h.tape,g.output.trans h.output,fun k hk=>(g.other k (by omega)).trans (h.old k hk),g.size.trans h.size,fun j=>(g.frz j).trans (h.frz j)⟩
theorem Ay.drew (b:Nat)(w:World):Ay b w w.drew:=⟨rfl,rfl,rfl,rfl,fun _ _=>rfl,rfl,fun _=>rfl⟩
theorem Aap {w:World}{A:Nat->Prop}{a:Addr}:∀{cs:List Value},Se w A a (cs.map .sc)->∀j v,cs[j]?=some v->w.cell? (a.add j)=some v∧v.oneCell'=true:=by
 intro cs h j v hj;obtain⟨u,h1,h2,h3⟩:=h j (.sc v) (by rw[List.getElem?_map,hj];rfl)
 cases h3;exact⟨h1,h2⟩
theorem FN {w:World}{A:Nat->Prop}{a:Addr}{cs:List Value}(h:∀j v,cs[j]?=some v->w.cell? (a.add j)=some v) (h1:∀v∈cs,v.oneCell'=true):Se w A a (cs.map .sc):=by
 intro j p hp;rw[List.getElem?_map] at hp;cases hv:cs[j]? with
 |none=>rw[hv] at hp;cases hp
 |some v=>
  rw[hv] at hp;cases hp;exact⟨v,h j v hv,h1 v (List.mem_of_getElem? hv),.sc v⟩
theorem OT:∀{c:List PV},c.all Y4=true->∃cs:List Value,c=cs.map .sc
 |[],_=>⟨[],rfl⟩
 |p::c,h=>by
  simp only[List.all_cons,Bool.and_eq_true] at h;obtain⟨cs,rfl⟩:=OT h.2;have hp:=h.1;unfold Y4 at hp;split at hp
  ·exact⟨_::cs,rfl⟩
  ·cases hp
def S5 (q:Nat × Nat):Bt:=fun j=>match j with|0=>some q|_=>none
def Qo (i:Nat)(cs vs:List Value):List Value:=cs.take (i*2)++vs++cs.drop (i*2)
theorem HM {i n j:Nat}{cs vs:List Value}{v:Value}(hi:i<=n)(hc:cs.length=n*2)(hv:vs.length=2)(h:(Qo i cs vs)[j]?=some v):
  (j<i*2∧cs[j]?=some v)∨(i*2<=j∧j<i*2+2∧vs[j-i*2]?=some v)∨((i+1)*2<=j∧(cs.drop (i*2))[j-(i+1)*2]?=some v):=by
 unfold Qo at h;have lt:(cs.take (i*2)).length=i*2:=by rw[List.length_take];omega
 by_cases h1:j<i*2
 ·rw[Zzv,List.getElem?_append_left (by omega),List.getElem?_take,Lw h1] at h
  exact .inl ⟨h1,h⟩
 ·by_cases h2:j<i*2+2
  ·rw[Zzv,List.getElem?_append_right (by omega),lt,List.getElem?_append_left (by omega)] at h
   exact .inr (.inl ⟨by omega,h2,h⟩)
  ·rw[List.getElem?_append_right (by simp;omega)] at h
   refine .inr (.inr ⟨by omega,?_⟩)
   rw[Yb,lt,hv] at h;rw[←h]
   congr 1
   omega
section
variable {w w':World} {Y:Nat->Prop} {bt:Th} {args:List PV} {L vs:List Value} {n cap b o vb vo:Nat} {x1:PV} {x0:PV}
theorem UT (hb:bt 0 1=some (b,o)) (hv:bt 2 0=some (vb,vo)) (Gh:vb≠b)(Rm:b<w.heap.size)(I9:vb<w.heap.size)(hw:Ay b w w')
  (Aad:∀j,j<o->w'.cell? ⟨b,j,none⟩=w.cell? ⟨b,j,none⟩)(hn:n<=cap)(hF:Fit w 2 b (o+cap*2)) (N1:∀j,o<=j->j<bsz w b->w.frozen? ⟨b,j,none⟩=false)
  (hL:∀j v,L[j]?=some v->w'.cell? ⟨b,o+j,none⟩=some v) (h1:∀v∈L,v.oneCell'=true)
  (Ex:∀j v,vs[j]?=some v->w.cell? ⟨vb,vo+j,none⟩=some v) (h2:∀v∈vs,v.oneCell'=true)(hvf:∀j,vo<=j->j<bsz w vb->w.frozen? ⟨vb,j,none⟩=false)
  (e0:∀ps,x0 ≠ .pbox ps)(e0':∀ps,x0 ≠ .tup ps)(e1:∀ps,x1 ≠ .pbox ps)(e1':∀ps,x1 ≠ .tup ps){q:List PV}:
  QN w w' Y bt [x0,x1,.tup q] (S5 (b,o)) ⟨[.own 2 n (L.map .sc)],[vs.map .sc]⟩ [.slice (some ⟨b,o,none⟩) n cap] where
 os:=hw.os
 tape:=hw.tape
 output:=hw.output
 ext:=⟨by rw[hw.size];exact Nat.le_refl _,fun k _ hk=>hw.other k (fun e=>hk (e ▸ ⟨0,1,o,hb⟩)),fun k _=>hw.grow k⟩
 rng:=fun k j hk hX=>by
  by_cases e:k=b
  ·subst e
   have hj:j<o:=by
    refine Nat.lt_of_not_le fun Vl=>hX ⟨0,x0,rfl,Or.inl ⟨0,o,hb,Vl⟩⟩
   exact⟨Aad j hj,hw.frz j⟩
  ·exact⟨by unfold World.cell?;simp only[hw.other k e],by unfold World.frozen?;simp only[hw.other k e]⟩
 vals:=⟨.inr ⟨b,o,cap,rfl,rfl,hn,hF.step (hw.grow b),by rw[hw.size];exact Rm,FN (fun j v hj=>by rw[Bq];exact hL j v hj) h1,fun j hj Kw=>by rw[hw.frz];exact N1 j hj (by rw[hw.bs] at Kw;exact Kw)⟩,trivial⟩
 outs:=by
  have hbk:w'.heap[vb]?=w.heap[vb]?:=hw.other vb Gh;have We:bsz w' vb=bsz w vb:=by unfold bsz;rw[hbk]
  have h:F1 w' (Ky bt (S5 (b,o)) Y) (S5 (b,o)) bt 1 2 [.tup q] [vs.map .sc]:=by
   refine⟨.inr ⟨vb,vo,hv,FN (fun j v hj=>?_) h2,fun j hj Kw=>?_⟩,rfl⟩
   ·rw[Bq,World.cell?_of_block (w:=w) hbk];exact Ex j v hj
   ·rw[World.frozen?_of_block (w:=w) hbk];exact hvf j hj (by rw[We] at Kw;exact Kw)
  have h':F1 w' (Ky bt (S5 (b,o)) Y) (S5 (b,o)) bt 1 1 [x1,.tup q] [vs.map .sc]:=by
   unfold F1;cases x1<;>first|exact h|exact absurd rfl (e1 _)|exact absurd rfl (e1' _)
  show F1 w' (Ky bt (S5 (b,o)) Y) (S5 (b,o)) bt 1 0 [x0,x1,.tup q] [vs.map .sc];unfold F1;cases x0<;>first|exact h'|exact absurd rfl (e0 _)|exact absurd rfl (e0' _)
 fresh:=fun j k y h=>by
  cases j with
  |zero=>
   cases h;refine⟨by rw[hw.size];exact Rm,fun _=>⟨⟨0,0,o,hb⟩,fun x hx=>⟨0,x0,rfl,Or.inl ⟨0,o,hb,hx⟩⟩⟩⟩
  |succ j=>cases h
 inj:=fun j j' k y y' h h'=>by
  cases j with
  |zero=>cases j' with
   |zero=>rfl
   |succ j'=>cases h'
  |succ j=>cases h
theorem Afp (hv:bt 2 0=some (vb,vo)) (I9:vb<w.heap.size)(hw:D7 w w')
  (hn:n<=cap)(hF:cap*2<=bsz w' w.heap.size)
  (hL:∀j v,L[j]?=some v->w'.cell? ⟨w.heap.size,j,none⟩=some v) (h1:∀v∈L,v.oneCell'=true)
  (Ex:∀j v,vs[j]?=some v->w.cell? ⟨vb,vo+j,none⟩=some v) (h2:∀v∈vs,v.oneCell'=true)(hvf:∀j,vo<=j->j<bsz w vb->w.frozen? ⟨vb,j,none⟩=false)
  (e0:∀ps,x0 ≠ .pbox ps)(e0':∀ps,x0 ≠ .tup ps)(e1:∀ps,x1 ≠ .pbox ps)(e1':∀ps,x1 ≠ .tup ps){q:List PV}:
  QN w w' Y bt [x0,x1,.tup q] (S5 (w.heap.size,0)) ⟨[.own 2 n (L.map .sc)],[vs.map .sc]⟩ [.slice (some ⟨w.heap.size,0,none⟩) n cap] where
 os:=hw.os
 tape:=hw.tape
 output:=hw.output
 ext:=⟨by rw[hw.size];omega,fun k hk _=>hw.old k hk,fun k hk=>Gd.same (hw.old k hk)⟩
 rng:=fun k j hk _=>⟨by unfold World.cell?;simp only[hw.old k hk],by unfold World.frozen?;simp only[hw.old k hk]⟩
 vals:=⟨.inr ⟨w.heap.size,0,cap,rfl,rfl,hn,⟨by omega,.inr (hw.frz _)⟩,by rw[hw.size];omega,FN (fun j v hj=>by rw[Bq,Fv];exact hL j v hj) h1,fun j _ _=>hw.frz j⟩,trivial⟩
 outs:=by
  have hbk:w'.heap[vb]?=w.heap[vb]?:=hw.old vb I9;have We:bsz w' vb=bsz w vb:=by unfold bsz;rw[hbk]
  have h:F1 w' (Ky bt (S5 (w.heap.size,0)) Y) (S5 (w.heap.size,0)) bt 1 2 [.tup q] [vs.map .sc]:=by
   refine⟨.inr ⟨vb,vo,hv,FN (fun j v hj=>?_) h2,fun j hj Kw=>?_⟩,rfl⟩
   ·rw[Bq,World.cell?_of_block (w:=w) hbk];exact Ex j v hj
   ·rw[World.frozen?_of_block (w:=w) hbk];exact hvf j hj (by rw[We] at Kw;exact Kw)
  have h':F1 w' (Ky bt (S5 (w.heap.size,0)) Y) (S5 (w.heap.size,0)) bt 1 1 [x1,.tup q] [vs.map .sc]:=by
   unfold F1;cases x1<;>first|exact h|exact absurd rfl (e1 _)|exact absurd rfl (e1' _)
  show F1 w' (Ky bt (S5 (w.heap.size,0)) Y) (S5 (w.heap.size,0)) bt 1 0 [x0,x1,.tup q] [vs.map .sc];unfold F1;cases x0<;>first|exact h'|exact absurd rfl (e0 _)|exact absurd rfl (e0' _)
 fresh:=fun j k y h=>by
  cases j with
  |zero=>cases h;exact⟨by rw[hw.size];omega,fun hlt=>absurd hlt (Nat.lt_irrefl _)⟩
  |succ j=>cases h
 inj:=fun j j' k y y' h h'=>by
  cases j with
  |zero=>cases j' with
   |zero=>rfl
   |succ j'=>cases h'
  |succ j=>cases h
end
theorem QZ (G:Glo)(args:List PV)(res:Bb)(h:ZR args=some res):C1 G prog 46 args res:=by
 refine⟨⟨_,Try.func46,by kernel_rfl⟩,fun w Y bt us hi _ _=>?_⟩
 unfold ZR at h;split at h
 rotate_left
 ·cases h
 rename_i n c i f l;cases hq:(Nat.beq c.length (n*2)&&decide (0<=i)&&decide (i<=n)&&Nat.ble n 100000&&c.all Y4)
 ·rw[hq] at h;cases h
 rw[hq] at h;simp only[Bool.and_eq_true,decide_eq_true_eq] at hq;obtain⟨⟨⟨⟨hc,h0⟩,h1⟩,hn⟩,Jy⟩:=hq;have hc:=Nat.eq_of_beq_eq_true hc;have hn:=Nat.le_of_ble_eq_true hn;simp only[cond_true] at h;cases h;obtain⟨k,rfl⟩:=Int.eq_ofNat_of_zero_le h0;have hk:k<=n:=by omega
 obtain⟨cs,rfl⟩:=OT Jy;rw[List.length_map] at hc
 have eL:List.take (Int.toNat (k:Int)*2) (cs.map PV.sc)++(PV.sc (.int .i64 f)::PV.sc (.int .i64 l)::List.drop (Int.toNat (k:Int)*2) (cs.map PV.sc))=(Qo k cs [.int .i64 f,.int .i64 l]).map .sc:=by
  unfold Qo;rw[S3,List.map_append,List.map_append,List.map_take,List.map_drop,Zzv];rfl
 rw[eL];clear h0 h1 Jy eL;obtain⟨vs,Adx⟩:∃vs:List Value,vs=[.int .i64 f,.int .i64 l]:=⟨_,rfl⟩;have I9:vs.length=2:=by rw[Adx];rfl
 have RI:∀v∈vs,v.oneCell'=true:=by
  intro v hv;rw[Adx] at hv;rcases List.mem_cons.1 hv with rfl|hv
  ·rfl
  ·rw[List.mem_singleton] at hv;subst hv;rfl
 have evm:[PV.sc (.int .i64 f),PV.sc (.int .i64 l)]=vs.map .sc:=by rw[Adx];rfl
 rw[←Adx];have ps:=hi.args;rw[evm] at ps ⊢
 match us,ps with
 |[u0,u1,u2],ps=>
  obtain⟨⟨_,p0⟩,⟨_,p1⟩,⟨es2,n2,c2,e2,p2⟩,_⟩:=ps;simp only[List.cons.injEq,PV.own.injEq,and_true] at e2;obtain⟨rfl,rfl,rfl⟩:=e2;have hu1:u1=.int .i64 k:=An.val (show An w _ (.sc (.int .i64 k)) u1 from p1)
  subst hu1;rcases p2 with⟨_,hz,_⟩|⟨vb,vo,vc,hvb,rfl,hvn,hvF,Ahw,hvR,hvf⟩
  ·cases hz
  have hvr:=Aap hvR
  have Ex:∀j v,vs[j]?=some v->w.cell? ⟨vb,vo+j,none⟩=some v:=fun j v hj=>by
   have:=(hvr j v hj).1
   rwa [Bq] at this
  have fin_new:∀(u0:Value) (w':World) (cap:Nat),D7 w w'->n+1<=cap->cap*2<=bsz w' w.heap.size->(∀j v,(Qo k cs vs)[j]?=some v->w'.cell? ⟨w.heap.size,j,none⟩=some v)->(∀v∈Qo k cs vs,v.oneCell'=true) ->
    ∃us own,Ending.returned (Value.slice (some ⟨w.heap.size,0,none⟩) (n+1) cap)=.returned (Dy us)∧QN w w' Y bt [.own 2 n (cs.map .sc),.sc (.int .i64 k),.tup [.own 2 1 (vs.map .sc)]] own ⟨[.own 2 (n+1) ((Qo k cs vs).map .sc)],[vs.map .sc]⟩ us:=by
   intro u0 w' cap hw Qb hF hL h1;exact⟨_,_,rfl,Afp hvb Ahw hw Qb hF hL h1 Ex RI hvf (by simp) (by simp) (by simp) (by simp)⟩
  have one:(∀v∈cs,v.oneCell'=true)->∀v∈Qo k cs vs,v.oneCell'=true:=by
   intro Z5 v hv;unfold Qo at hv;rcases List.mem_append.1 hv with hv|hv
   ·rcases List.mem_append.1 hv with hv|hv
    ·exact Z5 v (List.mem_of_mem_take hv)
    ·exact RI v hv
   ·exact Z5 v (List.mem_of_mem_drop hv)
  have grow_end:∀(base:Option Addr) (cap0:Nat),n<=cap0->cap0<n+1->k=n->((base=none∧cs=[])∨∃p,base=some p∧∀j v,cs[j]?=some v->w.cell? (p.add j)=some v)->(∀v∈cs,v.oneCell'=true) ->
    Calls prog 46 #[.slice base n cap0,.int .i64 k,.slice (some ⟨vb,vo,none⟩) 1 vc] w fun e w'=>
     ∃us own,e=.returned (Dy us)∧QN w w' Y bt [.own 2 n (cs.map .sc),.sc (.int .i64 k),.tup [.own 2 1 (vs.map .sc)]] own ⟨[.own 2 (n+1) ((Qo k cs vs).map .sc)],[vs.map .sc]⟩ us:=by
   intro base cap0 Z5 hc2 hkn hb NP;subst hkn;refine (FA base k cap0 vb vo vc cs vs w Z5 hc2 hn hc I9 hb Ex RI).mono ?_
   rintro e w' ⟨rfl,rfl⟩
   obtain⟨G,hG⟩:∃G,G=grownCap w (k+1) cap0 79:=⟨_,rfl⟩;rw[←hG];have hGn:k+1<=G:=by rw[hG];exact grownCap_ge w _ _ _
   have eI:Qo k cs vs=cs++vs:=by
    unfold Qo;rw[Qq (by omega),List.drop_of_length_le (by omega),List.append_nil]
   refine fin_new undef _ G (D7.allocD w _ _) hGn ?_ (fun j v hj=>?_) (one NP)
   ·have:bsz (w.drew.alloc (.cells (cs.toArray++vs.toArray++Builtin.zeroCells #[.int .i64 0,.int .i64 0] (G-(k+1))) 79)) w.heap.size=_:=(Cx.alloc w.drew _ _).bsz;rw[this];simp[Builtin.zeroCells];omega
   ·rw[eI] at hj;have hlt:=I6 hj;rw[World.cell?_alloc_at (w:=w.drew) _ _ w.heap.size j rfl,Array.getElem?_append_left (by simpa using hlt)]
    simpa using hj
  rcases p0 with⟨_,rfl,hc0,ad,rfl⟩|⟨b,o,cap,hb,rfl,QA,hF,Aas,hR,N1⟩
  ·have P0:cs=[]:=by simpa using hc0
   subst P0;have hk0:k=0:=by omega
   refine grow_end ad 0 (Nat.le_refl _) (by omega) hk0 ?_ (by simp)
   cases ad with
   |none=>exact .inl ⟨rfl,rfl⟩
   |some p=>exact .inr ⟨p,rfl,fun j v hj=>by cases hj⟩
  have hr:=Aap hR
  have WN:∀j v,cs[j]?=some v->w.cell? ⟨b,o+j,none⟩=some v:=fun j v hj=>by
   have:=(hr j v hj).1
   rwa [Bq] at this
  have Z5:∀v∈cs,v.oneCell'=true:=fun v hv=>by
   obtain⟨j,hj⟩:=List.mem_iff_getElem?.1 hv;exact (hr j v hj).2
  have Gh:vb≠b:=by
   rintro rfl
   have:=(hi.inj 0 1 2 0 vb o vo hb hvb).1;omega
  have J1:∀j,j<cap*2->(w.cell? ⟨b,o+j,none⟩).isSome=true:=fun j hj=>Ff (by have:=hF.1;omega)
  have hfr:∀j,j<cap*2->w.frozen? ⟨b,o+j,none⟩=false:=fun j hj=>N1 _ (by omega) (by have:=hF.1;omega)
  by_cases Iw:n+1<=cap
  ·-- in Fg
   have hX:cap*2<=bsz w b:=by have:=hF.1;omega
   have hwB:∀w':World,Ay b w w'->(∀j,j<o->w'.cell? ⟨b,j,none⟩=w.cell? ⟨b,j,none⟩)->(∀j v,(Qo k cs vs)[j]?=some v->w'.cell? ⟨b,o+j,none⟩=some v) ->
     ∃us own,Ending.returned (Value.slice (some ⟨b,o,none⟩) (n+1) cap)=.returned (Dy us)∧QN w w' Y bt [.own 2 n (cs.map .sc),.sc (.int .i64 k),.tup [.own 2 1 (vs.map .sc)]] own ⟨[.own 2 (n+1) ((Qo k cs vs).map .sc)],[vs.map .sc]⟩ us:=by
    intro w' hw Aad hL;exact⟨_,_,rfl,UT hb hvb Gh Aas Ahw hw Aad Iw hF N1 hL (one Z5) Ex RI hvf (by simp) (by simp) (by simp) (by simp)⟩
   by_cases hkn:k=n
   ·subst hkn
    have eI:Qo k cs vs=cs++vs:=by
     unfold Qo;rw[Qq (by omega),List.drop_of_length_le (by omega),List.append_nil]
    refine (FJ b o k cap vb vo vc vs w Iw I9 (fun j hj=>by rw[Nat.add_assoc];exact J1 _ (by omega)) (fun j hj=>by rw[Nat.add_assoc];exact hfr _ (by omega)) Ex RI).mono ?_
    rintro e w' ⟨rfl,rfl⟩
    refine hwB _ (Ay.setCells b _ _ w) (fun j hj=>World.cell?_setCells_out b _ _ w ⟨b,j,none⟩ (fun _ _=>.inl (by show j<o+k*2;omega))) (fun j v hj=>?_)
    rw[eI] at hj;by_cases hlt:j<cs.length
    ·rw[List.getElem?_append_left hlt] at hj;rw[World.cell?_setCells_out b _ _ w ⟨b,o+j,none⟩ (fun _ _=>.inl (by show o+j<o+k*2;omega))]
     exact WN j v hj
    ·rw[List.getElem?_append_right (by omega)] at hj
     have hl:=I6 hj;have:=World.cell?_setCells_in b vs (o+k*2) w (fun t ht=>by rw[Nat.add_assoc];exact J1 _ (by omega)) (j-cs.length) hl
     rw[show o+k*2+(j-cs.length)=o+j by omega] at this
     rw[this,←hj,List.getElem?_eq_getElem hl]
   ·have Hj:k<n:=by omega
    have VJ:∀q:Nat,q<w.heap.size->∃t,w.shape? q=some (t,bsz w q)∨bsz w q=0:=by
     intro q hq;unfold World.shape? bsz;cases w.heap[q]? with
     |none=>exact⟨0,.inr rfl⟩
     |some x=>cases x<;>first|exact⟨_,.inl rfl⟩|exact⟨0,.inr rfl⟩
    obtain⟨tA,hA⟩:=VJ vb Ahw;obtain⟨tB,hB⟩:=VJ b Aas;have Azk:=hvF.1
    have hvE:w.frozen? ⟨vb,bsz w vb,none⟩=false:=by
     rcases hvF.2 with h|h
     ·omega
     ·exact h
    have hA:w.shape? vb=some (tA,bsz w vb):=hA.resolve_right (by omega)
    have hB:w.shape? b=some (tB,bsz w b):=hB.resolve_right (by omega)
    refine (TW b o n cap k vb vo vc cs vs w Hj Iw hn Gh hc I9 WN (fun j hj=>J1 j (by omega)) (fun j hj=>hfr j (by omega)) Ex Z5 RI tA tB _ _ hA hB (by omega) (hvf vo (Nat.le_refl _) (by omega)) hvE).mono ?_
    rintro e w' ⟨rfl,rfl⟩
    have NA:(cs.drop (k*2)).length=(n-k)*2:=by rw[List.length_drop,hc];omega
    have hw1:=(Ay.drew b w).trans (Ay.setCells b (cs.drop (k*2)) (o+(k+1)*2) w.drew);refine hwB _ (hw1.trans (Ay.setCells b vs (o+k*2) _)) (fun j hj=>?_) (fun j v hj=>?_)
    ·rw[World.cell?_setCells_out b _ _ _ ⟨b,j,none⟩ (fun _ _=>.inl (by show j<o+k*2;omega)),World.cell?_setCells_out b _ _ _ ⟨b,j,none⟩ (fun _ _=>.inl (by show j<o+(k+1)*2;omega))]
     rfl
    ·have hs1:∀t,t<cap*2->((w.drew.setCells b (o+(k+1)*2) (cs.drop (k*2))).cell? ⟨b,o+t,none⟩).isSome=true:=fun t ht=>Gk b _ _ _ _ (J1 t ht)
     rcases HM hk hc I9 hj with⟨h1,h2⟩|⟨h1,h2,h3⟩|⟨h1,h2⟩
     ·rw[World.cell?_setCells_out b _ _ _ ⟨b,o+j,none⟩ (fun _ _=>.inl (by show o+j<o+k*2;omega)),World.cell?_setCells_out b _ _ _ ⟨b,o+j,none⟩ (fun _ _=>.inl (by show o+j<o+(k+1)*2;omega))]
      exact WN j v h2
     ·have hl:=I6 h3;have:=World.cell?_setCells_in b vs (o+k*2) (w.drew.setCells b (o+(k+1)*2) (cs.drop (k*2))) (fun t ht=>by rw[Nat.add_assoc];exact hs1 _ (by omega)) (j-k*2) hl
      rw[show o+k*2+(j-k*2)=o+j by omega] at this
      rw[this,←h3,List.getElem?_eq_getElem hl]
     ·have hl:=I6 h2;rw[World.cell?_setCells_out b _ _ _ ⟨b,o+j,none⟩ (fun _ _=>.inr (by show o+k*2+vs.length<=o+j;omega))]
      have:=World.cell?_setCells_in b (cs.drop (k*2)) (o+(k+1)*2) w.drew (fun t ht=>by rw[Nat.add_assoc];exact J1 _ (by omega)) (j-(k+1)*2) hl
      rw[show o+(k+1)*2+(j-(k+1)*2)=o+j by omega] at this
      rw[this,←h2,List.getElem?_eq_getElem hl]
  ·by_cases hkn:k=n
   ·exact grow_end _ cap QA (by omega) hkn (.inr ⟨_,rfl,fun j v hj=>by rw[Bq];exact WN j v hj⟩) Z5
   ·refine (Ab1 b o n cap k vb vo vc cs vs w (by omega) QA (by omega) hn hc I9 WN Ex Z5 RI).mono ?_
    rintro e w' ⟨rfl,rfl⟩
    obtain⟨G,hG⟩:∃G,G=grownCap w (n+1) cap 79:=⟨_,rfl⟩;rw[←hG];have hGn:n+1<=G:=by rw[hG];exact grownCap_ge w _ _ _
    obtain⟨ROW,JK⟩:∃ROW:Array Value,ROW=(cs.take (k*2)).toArray++Builtin.zeroCells #[.int .i64 0,.int .i64 0] (n+1-k)++Builtin.zeroCells #[.int .i64 0,.int .i64 0] (G-(n+1)):=⟨_,rfl⟩;rw[←JK]
    have hRl:ROW.size=G*2:=by
     rw[JK];simp[Builtin.zeroCells];omega
    have hR0:∀(j:Nat) v,j<k*2->cs[j]?=some v->ROW[j]?=some v:=by
     intro j v hj hv;rw[JK,Array.getElem?_append_left (by simp;omega),Array.getElem?_append_left (by simp;omega)]
     simp only[List.getElem?_toArray];rw[List.getElem?_take,Lw hj];exact hv
    clear JK;obtain⟨W0,hW0⟩:∃W0,W0=w.alloc (.cells ROW 79):=⟨_,rfl⟩;have hN0:D7 w W0:=by rw[hW0];exact D7.alloc w ROW _
    have hB0:bsz W0 w.heap.size=G*2:=by rw[hW0,(Cx.alloc w ROW 79).bsz,hRl]
    have hC0:∀j,W0.cell? ⟨w.heap.size,j,none⟩=ROW[j]?:=fun j=>by rw[hW0];exact (Cx.alloc w ROW 79).cell j
    rw[←hW0];have NA:(cs.drop (k*2)).length=(n-k)*2:=by rw[List.length_drop,hc];omega
    have Ast:∀j,j<G*2->(W0.cell? ⟨w.heap.size,j,none⟩).isSome=true:=fun j hj=>Ff (by omega)
    obtain⟨W1,Z8⟩:∃W1,W1=(W0.drew.setCells w.heap.size (k*2) vs).drew:=⟨_,rfl⟩;have hw1:Ay w.heap.size W0 W1:=by rw[Z8];exact ((Ay.drew _ W0).trans (Ay.setCells _ vs (k*2) W0.drew)).trans (Ay.drew _ _)
    have hC1:∀j,W1.cell? ⟨w.heap.size,j,none⟩=(W0.drew.setCells w.heap.size (k*2) vs).cell? ⟨w.heap.size,j,none⟩:=fun j=>by rw[Z8];rfl
    have Avs:∀j,j<G*2->(W1.cell? ⟨w.heap.size,j,none⟩).isSome=true:=fun j hj=>Ff (by rw[hw1.bs];omega)
    rw[←Z8];have hw2:=hw1.trans (Ay.setCells w.heap.size (cs.drop (k*2)) ((k+1)*2) W1);refine fin_new undef _ G (hN0.wrote hw2) hGn (by rw[hw2.bs,hB0];exact Nat.le_refl _) (fun j v hj=>?_) (one Z5)
    rcases HM hk hc I9 hj with⟨h1,h2⟩|⟨h1,h2,h3⟩|⟨h1,h2⟩
    ·rw[World.cell?_setCells_out _ _ _ _ ⟨w.heap.size,j,none⟩ (fun _ _=>.inl (by show j<(k+1)*2;omega)),hC1,World.cell?_setCells_out _ _ _ _ ⟨w.heap.size,j,none⟩ (fun _ _=>.inl (by show j<k*2;omega))]
     show W0.cell? _=_;rw[hC0];exact hR0 j v h1 h2
    ·have hl:=I6 h3;rw[World.cell?_setCells_out _ _ _ _ ⟨w.heap.size,j,none⟩ (fun _ _=>.inl (by show j<(k+1)*2;omega)),hC1]
     have:=World.cell?_setCells_in w.heap.size vs (k*2) W0.drew (fun t ht=>Ast _ (by omega)) (j-k*2) hl
     rw[show k*2+(j-k*2)=j by omega] at this
     rw[this,←h3,List.getElem?_eq_getElem hl]
    ·have hl:=I6 h2;have:=World.cell?_setCells_in w.heap.size (cs.drop (k*2)) ((k+1)*2) W1 (fun t ht=>Avs _ (by omega)) (j-(k+1)*2) hl
     rw[show (k+1)*2+(j-(k+1)*2)=j by omega] at this
     rw[this,←h2,List.getElem?_eq_getElem hl]
 |[],ps=>exact ps.elim
 |[_],ps=>exact ps.2.elim
 |[_,_],ps=>exact ps.2.2.elim
 |_::_::_::_::_,ps=>exact ps.2.2.2.elim
end
section
open Go.IntKind (wrap)
open Go.RowKit Go.Lib
structure B1 (E:Nat->Prop) (w w':World):Prop where
 os:w'.os=w.os
 tape:w'.tape=w.tape
 output:w'.output=w.output
 st:Bh E w w'
theorem B1.refl (E:Nat->Prop)(w:World):B1 E w w:=⟨rfl,rfl,rfl,Bh.refl _ _⟩
theorem B1.trans {E E':Nat->Prop}{w w' w'':World}(h:B1 E w w')(g:B1 E' w' w'')(hE:∀b,b<w.heap.size->E' b->E b):B1 E w w'':=
 ⟨g.os.trans h.os,g.tape.trans h.tape,g.output.trans h.output,h.st.trans g.st hE⟩
theorem B1.weak {E E':Nat->Prop}{w w':World}(h:B1 E w w')(hE:∀b,b<w.heap.size->E b->E' b):B1 E' w w':=⟨h.os,h.tape,h.output,h.st.weaken hE⟩
theorem B1.wrote {b:Nat}{w w':World}(h:Ay b w w'):B1 (· = b) w w':=
 ⟨h.os,h.tape,h.output,⟨by rw[h.size];exact Nat.le_refl _,fun k _ hk=>h.other k hk,fun k _=>h.grow k⟩⟩
theorem B1.new {w w':World}(h:D7 w w'):B1 (fun _=>False) w w':=
 ⟨h.os,h.tape,h.output,⟨by rw[h.size];omega,fun k hk _=>h.old k hk,fun k hk=>Gd.same (h.old k hk)⟩⟩
theorem B1.drew (w:World):B1 (fun _=>False) w w.drew:=⟨rfl,rfl,rfl,⟨Nat.le_refl _,fun _ _ _=>rfl,fun _ _=>Gd.refl _ _⟩⟩
theorem B1.out {w w':World}{Y:Nat->Prop}{args:List PV}{own:Bt}{r:Bb}{vs:List Value}(h:QN w w' Y K0 args own r vs):B1 (fun _=>False) w w':=
 ⟨h.os,h.tape,h.output,h.ext.weaken fun b _ hb=>Tf b hb⟩
theorem B1.same {E:Nat->Prop}{w w':World}(h:B1 E w w'){b:Nat}(hb:b<w.heap.size)(hE:¬E b):w'.heap[b]?=w.heap[b]?:=h.st.keep b hb hE
theorem B1.cell {E:Nat->Prop}{w w':World}(h:B1 E w w'){b j:Nat}(hb:b<w.heap.size)(hE:¬E b):w'.cell? ⟨b,j,none⟩=w.cell? ⟨b,j,none⟩:=World.cell?_of_block (h.same hb hE)
theorem B1.frz {E:Nat->Prop}{w w':World}(h:B1 E w w'){b j:Nat}(hb:b<w.heap.size)(hE:¬E b):w'.frozen? ⟨b,j,none⟩=w.frozen? ⟨b,j,none⟩:=World.frozen?_of_block (h.same hb hE)
theorem B1.bs {E:Nat->Prop}{w w':World}(h:B1 E w w'){b:Nat}(hb:b<w.heap.size)(hE:¬E b):bsz w' b=bsz w b:=by unfold bsz;rw[h.same hb hE]
theorem B1.size {E:Nat->Prop}{w w':World}(h:B1 E w w'):w.heap.size<=w'.heap.size:=h.st.size
structure K6 (w:World) (S:Nat->Prop) (b sz:Nat) (cells:List PV):Prop where
 lt:b<w.heap.size
 sz:bsz w b=sz
 fz:∀j,w.frozen? ⟨b,j,none⟩=false
 rd:Se w S ⟨b,0,none⟩ cells
theorem Se.adv {w w':World}{S S' E:Nat->Prop}{a:Addr}{cells:List PV}(h:Se w S a cells)(g:B1 E w w')(ha:a.block<w.heap.size)(hb:¬E a.block)(hE:∀x,x<w.heap.size->E x->S x)(hS:∀x,x<w.heap.size->S' x->S x):Se w' S' a cells:=by
 intro j c hj;obtain⟨v,h1,h2,h3⟩:=h j c hj;refine⟨v,?_,h2,h3.step (g.st.weaken hE) hS⟩;rw[World.cell?_of_block (w:=w) (by rw[D9];exact g.same ha hb)]
 exact h1
theorem K6.adv {w w':World}{S S' E:Nat->Prop}{b sz:Nat}{cells:List PV}(h:K6 w S b sz cells)(g:B1 E w w')(hb:¬E b)(hE:∀x,x<w.heap.size->E x->S x)(hS:∀x,x<w.heap.size->S' x->S x):K6 w' S' b sz cells:=
 ⟨Nat.lt_of_lt_of_le h.lt g.size,(g.bs h.lt hb).trans h.sz,fun j=>(g.frz h.lt hb).trans (h.fz j),h.rd.adv g h.lt hb hE hS⟩
theorem K6.cellAt {w:World}{S:Nat->Prop}{b sz:Nat}{cells:List PV}(h:K6 w S b sz cells){j:Nat}(hj:j<sz):(w.cell? ⟨b,j,none⟩).isSome=true:=Ff (by rw[h.sz];exact hj)
theorem K6.app {w:World}{S:Nat->Prop}{b sz o:Nat}{cells ps:List PV}{vs:List Value}(h:K6 w S b sz cells)(ho:cells.length=o)(hS:S b)(hv:Av (fun p v=>Ku p∧An w S p v) ps vs) (h1:∀v∈vs,v.oneCell'=true)(Ady:o+ps.length<=sz):K6 (w.setCells b o vs) S b sz (cells++ps):=by
 have g:=Ay.setCells b vs o w;have ga:=(B1.wrote g).weak (E':=S) fun x _ e=>e ▸ hS
 have hl:=hv.len;refine⟨by rw[g.size];exact h.lt,g.bs.trans h.sz,fun j=>(g.frz j).trans (h.fz j),fun j c hj=>?_⟩
 rw[Bq,Fv];by_cases hlt:j<o
 ·rw[List.getElem?_append_left (by omega)] at hj
  obtain⟨v,a1,a2,a3⟩:=h.rd j c hj;rw[Bq,Fv] at a1;refine⟨v,?_,a2,a3.step ga.st fun _ _ x=>x⟩
  rw[World.cell?_setCells_out b _ _ _ ⟨b,j,none⟩ (fun _ _=>.inl hlt)]
  exact a1
 ·rw[List.getElem?_append_right (by omega),ho] at hj
  have hjl:=(List.getElem?_eq_some_iff.1 hj).1;have hvj:vs[j-o]?=some (vs[j-o]'(by omega)):=List.getElem?_eq_getElem _
  have:=World.cell?_setCells_in b vs o w (fun t ht=>h.cellAt (by omega)) (j-o) (by omega)
  rw[show o+(j-o)=j by omega] at this
  exact⟨_,this,h1 _ (List.getElem_mem _),(hv.at_ hj hvj).2.step ga.st fun _ _ x=>x⟩
theorem Se.tree {w:World}{S:Nat->Prop}{a:Addr}{es n cap:Nat}{cells:List PV}(h:Se w S a cells)(hs:a.spot=none)(hb:a.block<w.heap.size)(hS:¬S a.block)(hn:n<=cap):An w S (.lst false es n cells) (.slice (some a) n cap):=by
 refine .lst es n cells a cap (fun j=>(w.cell? (a.add j)).getD undef) hs hb hS hn (fun j c hj=>?_) (fun j c hj=>?_) fun j c hj=>?_<;>obtain⟨v,h1,h2,h3⟩:=h j c hj
 ·rw[h1];rfl
 ·rw[h1];exact h2
 ·rw[h1];exact h3
theorem MK {w:World}{A S:Nat->Prop}{q:Option (Nat × Nat)} {u:Value}{es n:Nat}{c:List PV}(h:E3 w A q (.own es n c) u) (hA:∀x,x<w.heap.size->S x->A x)(hq:∀b o,q=some (b,o)->¬S b):An w S (.lst false es n c) u∧u.oneCell'=true:=by
 rcases h with⟨_,rfl,rfl,ad,rfl⟩|⟨b,o,cap,hb,rfl,hn,_,hlt,hr,_⟩
 ·cases ad with
  |none=>exact⟨.lnil false es,rfl⟩
  |some a=>exact⟨.lemp es a 0,rfl⟩
 ·exact⟨(hr.weak hA).tree rfl hlt (hq b o hb) hn,rfl⟩
def Hn (B:Nat)(bs:List (Nat × Nat)) (ex:Nat->Prop)(x:Nat):Prop:=x=B∨(∃p∈bs,p.1=x)∨ex x
structure Tu (w wr:World) (ex:Nat->Prop) (B cap:Nat) (done:List Cv) (bs:List (Nat × Nat)):Prop where
 kept:B1 (fun _=>False) w wr
 lo:w.heap.size<=B
 lt:B<wr.heap.size
 szB:bsz wr B=cap*3
 fzB:∀j,wr.frozen? ⟨B,j,none⟩=false
 len:bs.length=done.length
 blk:∀p∈bs,w.heap.size<=p.1∧p.1≠B
 nd:(bs.map Prod.fst).Nodup
 cell:∀(k:Nat) (a:Cv) (p:Nat × Nat),done[k]?=some a->bs[k]?=some p->wr.cell? ⟨B,k*3,none⟩=some (.string a.nm)∧wr.cell? ⟨B,k*3+1,none⟩=some (.string a.us)∧wr.cell? ⟨B,k*3+2,none⟩=some (.slice (some ⟨p.1,0,none⟩) a.cr.length p.2)∧a.cr.length<=p.2
 row:∀(k:Nat) (a:Cv) (p:Nat × Nat),done[k]?=some a->bs[k]?=some p->K6 wr (Hn B bs ex) p.1 (p.2*11) (Dg a.cr)
 exq:∀b,ex b->b≠B∧∀p∈bs,p.1≠b
section
variable {w wr wr':World} {ex ex' E:Nat->Prop} {B cap:Nat} {done:List Cv} {bs:List (Nat × Nat)}
theorem Tu.blkLt (h:Tu w wr ex B cap done bs){p:Nat × Nat}(hp:p∈bs):p.1<wr.heap.size:=by
 obtain⟨k,hk⟩:=List.mem_iff_getElem?.1 hp;have hlt:=(List.getElem?_eq_some_iff.1 hk).1;have GK:k<done.length:=by rw[←h.len];exact hlt
 exact (h.row k _ p (List.getElem?_eq_getElem GK) hk).lt
theorem Tu.adv (h:Tu w wr ex B cap done bs)(g:B1 E wr wr')(hE:∀b,b<wr.heap.size->E b->ex b∧w.heap.size<=b)(hex:∀b,b<wr.heap.size->ex' b->ex b):Tu w wr' ex' B cap done bs:=by
 have nB:¬E B:=fun x=>(h.exq B (hE B h.lt x).1).1 rfl
 have nb:∀p∈bs,¬E p.1:=fun p hp x=>(h.exq p.1 (hE _ (h.blkLt hp) x).1).2 p hp rfl
 refine⟨h.kept.trans g fun b hb x=>?_,h.lo,Nat.lt_of_lt_of_le h.lt g.size,(g.bs h.lt nB).trans h.szB,fun j=>(g.frz h.lt nB).trans (h.fzB j),h.len,h.blk,h.nd,fun k a p hk hp=>?_,fun k a p hk hp=>?_,fun b hb=>?_⟩
 ·have:=(hE b (Nat.lt_of_lt_of_le hb h.kept.size) x).2;omega
 ·rw[g.cell h.lt nB,g.cell h.lt nB,g.cell h.lt nB];exact h.cell k a p hk hp
 ·refine (h.row k a p hk hp).adv g (nb p (List.mem_of_getElem? hp)) (fun x hx e=>.inr (.inr (hE x hx e).1)) fun x hx e=>?_
  rcases e with e|e|e
  ·exact .inl e
  ·exact .inr (.inl e)
  ·exact .inr (.inr (hex x hx e))
 ·by_cases hlt:b<wr.heap.size
  ·exact h.exq b (hex b hlt hb)
  ·refine⟨fun e=>hlt (e ▸ h.lt),fun p hp e=>hlt (e ▸ h.blkLt hp)⟩
theorem Tu.push (h:Tu w wr ex B cap done bs)(g:B1 (fun x=>x=B) wr wr') {a:Cv}{κ kc:Nat}(hκ:w.heap.size<=κ)(hx:ex κ∨wr.heap.size<=κ)(hkc:a.cr.length<=kc)
  (hs:bsz wr' B=cap*3)(hf:∀j,wr'.frozen? ⟨B,j,none⟩=false)(hold:∀j,j<done.length*3->wr'.cell? ⟨B,j,none⟩=wr.cell? ⟨B,j,none⟩)
  (c0:wr'.cell? ⟨B,done.length*3,none⟩=some (.string a.nm)) (c1:wr'.cell? ⟨B,done.length*3+1,none⟩=some (.string a.us)) (c2:wr'.cell? ⟨B,done.length*3+2,none⟩=some (.slice (some ⟨κ,0,none⟩) a.cr.length kc))
  (hr:K6 wr' (Hn B (bs++[(κ,kc)]) ex') κ (kc*11) (Dg a.cr)) (hex:∀b,ex' b->ex b∧b≠κ):Tu w wr' ex' B cap (done++[a]) (bs++[(κ,kc)]):=by
 have nb:∀p∈bs,¬p.1=B:=fun p hp=>(h.blk p hp).2
 have κB:κ≠B:=by
  rintro rfl
  rcases hx with hx|hx
  ·exact (h.exq _ hx).1 rfl
  ·exact Nat.lt_irrefl _ (Nat.lt_of_lt_of_le h.lt hx)
 have κb:∀p∈bs,p.1≠κ:=by
  rintro p hp rfl
  rcases hx with hx|hx
  ·exact (h.exq _ hx).2 p hp rfl
  ·exact Nat.lt_irrefl _ (Nat.lt_of_lt_of_le (h.blkLt hp) hx)
 have at_:∀k (a':Cv) (p:Nat × Nat),(done++[a])[k]?=some a'->(bs++[(κ,kc)])[k]?=some p->(k<done.length∧done[k]?=some a'∧bs[k]?=some p)∨(k=done.length∧a'=a∧p=(κ,kc)):=by
  intro k a' p hk hp;by_cases hlt:k<done.length
  ·rw[List.getElem?_append_left hlt] at hk;rw[List.getElem?_append_left (by rw[h.len];exact hlt)] at hp
   exact .inl ⟨hlt,hk,hp⟩
  ·have hl:k<(done++[a]).length:=(List.getElem?_eq_some_iff.1 hk).1;have:k=done.length:=by simp at hl;omega
   subst this;rw[List.getElem?_append_right (Nat.le_refl _),Nat.sub_self] at hk;rw[List.getElem?_append_right (by rw[h.len];exact Nat.le_refl _),h.len,Nat.sub_self] at hp
   cases hk;cases hp;exact .inr ⟨rfl,rfl,rfl⟩
 refine⟨h.kept.trans g fun b hb x=>?_,h.lo,Nat.lt_of_lt_of_le h.lt g.size,hs,hf,by simp[h.len],fun p hp=>?_,?_,fun k a' p hk hp=>?_,fun k a' p hk hp=>?_,fun b hb=>?_⟩
 ·have:=h.lo;have:=h.kept.size;omega
 ·rcases List.mem_append.1 hp with hp|hp
  ·exact h.blk p hp
  ·rw[List.mem_singleton] at hp;subst hp;exact⟨hκ,κB⟩
 ·rw[List.map_append,List.nodup_append];refine⟨h.nd,by simp,fun x hx1 y hy=>?_⟩
  obtain⟨p,hp,rfl⟩:=List.mem_map.1 hx1;simp only[List.map_cons,List.map_nil,List.mem_singleton] at hy;subst hy;exact κb p hp
 ·rcases at_ k a' p hk hp with⟨hlt,hk,hp⟩|⟨rfl,rfl,rfl⟩
  ·rw[hold _ (by omega),hold _ (by omega),hold _ (by omega)]
   exact h.cell k a' p hk hp
  ·exact⟨c0,c1,c2,hkc⟩
 ·rcases at_ k a' p hk hp with⟨hlt,hk,hp⟩|⟨rfl,rfl,rfl⟩
  ·refine (h.row k a' p hk hp).adv g (nb p (List.mem_of_getElem? hp)) (fun x hx e=>.inl e) fun x hx1 e=>?_
   ·rcases e with e|⟨q,hq,rfl⟩|e
    ·exact .inl e
    ·rcases List.mem_append.1 hq with hq|hq
     ·exact .inr (.inl ⟨q,hq,rfl⟩)
     ·rw[List.mem_singleton] at hq;subst hq;rcases hx with hx|hx
      ·exact .inr (.inr hx)
      ·exact absurd hx1 (Nat.not_lt.2 hx)
    ·exact .inr (.inr (hex x e).1)
  ·exact hr
 ·obtain⟨h1,h2⟩:=hex b hb;refine⟨(h.exq b h1).1,fun p hp=>?_⟩
  rcases List.mem_append.1 hp with hp|hp
  ·exact (h.exq b h1).2 p hp
  ·rw[List.mem_singleton] at hp;subst hp;exact fun e=>h2 e.symm
theorem Tu.set (h:Tu w wr ex B cap done bs){i:Nat}{a a':Cv}{p:Nat × Nat}(hi:done[i]?=some a) (hp:bs[i]?=some p) (hn:a'.nm=a.nm)(hu:a'.us=a.us)(hl:a'.cr.length<=p.2)(g:B1 (fun x=>x=B∨x=p.1) wr wr')
  (hs:bsz wr' B=cap*3)(hf:∀j,wr'.frozen? ⟨B,j,none⟩=false)(hold:∀j,j≠i*3+2->wr'.cell? ⟨B,j,none⟩=wr.cell? ⟨B,j,none⟩)
  (c2:wr'.cell? ⟨B,i*3+2,none⟩=some (.slice (some ⟨p.1,0,none⟩) a'.cr.length p.2)) (hr:K6 wr' (Hn B bs ex) p.1 (p.2*11) (Dg a'.cr)):Tu w wr' ex B cap (done.set i a') bs:=by
 have hlt:=(List.getElem?_eq_some_iff.1 hi).1;have Zt:=List.mem_of_getElem? hp
 have at_:∀k (x:Cv),(done.set i a')[k]?=some x->(k=i∧x=a')∨(k≠i∧done[k]?=some x):=by
  intro k x hk;rw[List.getElem?_set] at hk;by_cases e:i=k
  ·rw[Lw e,Lw (e ▸ hlt)] at hk;cases hk;exact .inl ⟨e.symm,rfl⟩
  ·rw[Lz e] at hk;exact .inr ⟨fun x=>e x.symm,hk⟩
 refine⟨h.kept.trans g fun b hb x=>?_,h.lo,Nat.lt_of_lt_of_le h.lt g.size,hs,hf,by rw[List.length_set];exact h.len,h.blk,h.nd,fun k x q hk hq=>?_,fun k x q hk hq=>?_,h.exq⟩
 ·have:=h.lo;have:=(h.blk p Zt).1;omega
 ·rcases at_ k x hk with⟨rfl,rfl⟩|⟨Gh,hk⟩
  ·rw[hp] at hq;cases hq;obtain⟨h1,h2,h3,h4⟩:=h.cell k a p hi hp;rw[hold _ (by omega),hold _ (by omega),hn,hu]
   exact⟨h1,h2,c2,hl⟩
  ·rw[hold _ (by omega),hold _ (by omega),hold _ (by omega)]
   exact h.cell k x q hk hq
 ·rcases at_ k x hk with⟨rfl,rfl⟩|⟨Gh,hk⟩
  ·rw[hp] at hq;cases hq;exact hr
  ·have hqm:=List.mem_of_getElem? hq;refine (h.row k x q hk hq).adv g ?_ (fun y hy e=>?_) (fun y hy e=>e)
   ·rintro (e|e)
    ·exact (h.blk q hqm).2 e
    ·have e1:(bs.map Prod.fst)[k]?=some q.1:=by rw[List.getElem?_map,hq];rfl
     have e2:(bs.map Prod.fst)[i]?=some p.1:=by rw[List.getElem?_map,hp];rfl
     have Hj:=(List.getElem?_eq_some_iff.1 e1).1;exact Gh (((List.getElem?_inj Hj h.nd).1 (by rw[e1,e2,e])))
   ·rcases e with e|e
    ·exact .inl e
    ·exact .inr (.inl ⟨p,Zt,e.symm⟩)
theorem Tu.tree {Y:Nat->Prop}(h:Tu w wr ex B cap done bs)(hY:∀x,Y x->x<w.heap.size)(hc:done.length<=cap)(hx:∀x,Y x->ex x):An wr Y (.lst false 3 done.length (Cq done)) (.slice (some ⟨B,0,none⟩) done.length cap):=by
 have nY:∀x,w.heap.size<=x->¬Y x:=fun x hx y=>by have:=hY x y;omega
 refine Se.tree (fun j c hj=>?_) rfl h.lt (nY _ h.lo) hc
 have hjl:j<done.length*3:=by rw[←KG];exact (List.getElem?_eq_some_iff.1 hj).1
 have hk:j / 3<done.length:=by omega
 have hd:done[j / 3]?=some done[j / 3]:=List.getElem?_eq_getElem hk;generalize done[j / 3]=a at hd;have hb:bs[j / 3]?=some (bs[j / 3]'(by rw[h.len];exact hk)):=List.getElem?_eq_getElem _
 generalize bs[j / 3]'(by rw[h.len];exact hk)=p at hb
 obtain⟨h1,h2,h3,h4⟩:=h.cell _ a p hd hb;have hr:=h.row _ a p hd hb;have hg:=H6 hd (j:=j % 3) (by omega)
 rw[show j / 3*3+j % 3=j by omega,List.getD_eq_getElem?_getD,hj] at hg
 simp only[Option.getD_some] at hg;rw[Bq,Fv];have hm:j % 3=0∨j % 3=1∨j % 3=2:=by omega
 rcases hm with hm|hm|hm<;>rw[hm] at hg
 ·rw[show j=j / 3*3 by omega]
  exact⟨_,h1,rfl,by rw[hg];exact .sc _⟩
 ·rw[show j=j / 3*3+1 by omega]
  exact⟨_,h2,rfl,by rw[hg];exact .sc _⟩
 ·rw[show j=j / 3*3+2 by omega]
  refine⟨_,h3,rfl,?_⟩;rw[hg];exact (hr.rd.weak fun x _ y=>.inr (.inr (hx x y))).tree rfl hr.lt (nY _ (h.blk p (List.mem_of_getElem? hb)).1) h4
end
end
section
open Go.Proofs.Try (prog)
open Go.IntKind (wrap)
open Go.RowKit Go.Lib
def GA:Glo:=⟨fun _=>False,fun _=>True,fun _ _ _ _=>trivial⟩
def noZ:FuncId->Option (List PV->Option Bb):=fun _=>none
theorem Ah8:ExtOk GA prog (CX noZ):=by
 intro f g args res h _;have h':(bif Tk.any (Nat.beq f) then none else (none:Option (List PV->Option Bb)))=some g:=h;cases hb:Tk.any (Nat.beq f)<;>rw[hb] at h'<;>cases h'
theorem ngA:NoNG prog:=by
 have h:(prog.funcs.toList.all fun fn=> !(fn.name == "runtime.NumGoroutine"))=true:=by kernel_rfl
 intro f fn hf;have:=List.all_eq_true.1 h fn (Array.mem_toList_iff.2 (Array.mem_of_getElem? hf))
 simpa using this
theorem mxA:prog.follows .mixedOrders=true:=by kernel_rfl
theorem BT {f:FuncId}{args:List PV}{res:Bb}{fu d:Nat}(hq:Af (CX noZ) prog fu d f args=some res) {S:Nat->Prop}{W:World}{us:List Value}(hS:∀x,S x->x<W.heap.size)(h:Av (Id W S) args us):
  Calls prog f us.toArray W fun e W'=>∃vs own,e=.returned (Dy vs)∧QN W W' S K0 args own res vs:=
 (Of ngA mxA Ah8 d f args res hq).2 W S K0 us (Y7 hS h) trivial fun _ hb=>hb.elim
theorem Ni {w:World}{S:Nat->Prop}{z:Bool}{es n:Nat}{c:List PV}{v:Value}(h:An w S (.lst z es n c) v):∃p k,v=.slice p n k:=by
 cases h<;>exact⟨_,_,rfl⟩
theorem Si {w:World}{S:Nat->Prop}{z:Bool}{es n:Nat}{c:List PV}{v:Value}(h:An w S (.lst z es n c) v) (hn:0<n):∃b o k,v=.slice (some ⟨b,o,none⟩) n k∧n<=k∧b<w.heap.size∧¬S b∧Se w S ⟨b,o,none⟩ c:=by
 cases h with
 |lnil=>omega
 |lemp=>omega
 |lst _ _ _ a cap f hs hb hA hn' hc h1 hr=>
  obtain⟨b,o,s⟩:=a;cases hs;exact⟨b,o,cap,rfl,hn',hb,hA,fun j c hj=>⟨_,hc j c hj,h1 j c hj,hr j c hj⟩⟩
structure AA (w:World) (S:Nat->Prop) (c:Sd) (p0:Option Addr) (k0:Nat) (p7:Option Addr) (k7:Nat):Prop where
 t0:An w S (.lst false 1 c.id.length (Aq .u8 c.id)) (.slice p0 c.id.length k0)
 t7:An w S (.lst false 2 c.rg.length (Km c.rg)) (.slice p7 c.rg.length k7)
def Oo (c:Sd)(p0:Option Addr)(k0:Nat)(p7:Option Addr)(k7:Nat):List Value:=[.slice p0 c.id.length k0,.int .i64 c.ht,.int .u64 c.root,.int .u64 c.model,.int .i64 c.fmt,.bool c.sh,.int .u64 c.used,.slice p7 c.rg.length k7,.bool c.sus,.int .i64 c.since,.int .i64 c.last]
theorem AA.adv {w w':World}{S S' E:Nat->Prop}{c:Sd}{p0 p7:Option Addr}{k0 k7:Nat}(h:AA w S c p0 k0 p7 k7)(g:B1 E w w')(hE:∀x,x<w.heap.size->E x->S x)(hS:∀x,x<w.heap.size->S' x->S x):AA w' S' c p0 k0 p7 k7:=
 ⟨h.t0.step (g.st.weaken hE) hS,h.t7.step (g.st.weaken hE) hS⟩
theorem Sy {w:World}{S:Nat->Prop}{c:Sd}{p0 p7:Option Addr}{k0 k7:Nat}(h:AA w S c p0 k0 p7 k7):Av (fun p v=>Ku p∧An w S p v) c.cells (Oo c p0 k0 p7 k7):=
 ⟨⟨trivial,h.t0⟩,⟨trivial,.sc _⟩,⟨trivial,.sc _⟩,⟨trivial,.sc _⟩,⟨trivial,.sc _⟩,⟨trivial,.sc _⟩,⟨trivial,.sc _⟩,⟨trivial,h.t7⟩,⟨trivial,.sc _⟩,⟨trivial,.sc _⟩,⟨trivial,.sc _⟩,trivial⟩
theorem Ns (c:Sd)(p0 p7:Option Addr)(k0 k7:Nat):∀v∈Oo c p0 k0 p7 k7,v.oneCell'=true:=by
 intro v hv;simp only[Oo,List.mem_cons,List.not_mem_nil,or_false] at hv;rcases hv with rfl|rfl|rfl|rfl|rfl|rfl|rfl|rfl|rfl|rfl|rfl<;>rfl
theorem FY {w:World}{S:Nat->Prop}{c:Sd}{vs:List Value}(h:Av (fun p v=>Ku p∧An w S p v) c.cells vs):∃p0 k0 p7 k7,vs=Oo c p0 k0 p7 k7∧AA w S c p0 k0 p7 k7:=by
 match vs,h with
 |[v0,v1,v2,v3,v4,v5,v6,v7,v8,v9,v10],h=>
  obtain⟨h0,h1,h2,h3,h4,h5,h6,h7,h8,h9,h10,_⟩:=h;obtain⟨p0,k0,rfl⟩:=Ni h0.2;obtain⟨p7,k7,rfl⟩:=Ni h7.2;rw[h1.2.val,h2.2.val,h3.2.val,h4.2.val,h5.2.val,h6.2.val,h8.2.val,h9.2.val,h10.2.val];exact⟨p0,k0,p7,k7,rfl,h0.2,h7.2⟩
theorem Nc {S:Nat->Prop}{W:World}{c:Sd}{p0 p7:Option Addr}{k0 k7:Nat}(hS:∀x,S x->x<W.heap.size)(h1:c.id.length<=1000000)(h2:c.rg.length<=1000000)(hu:AA W S c p0 k0 p7 k7):
  Calls prog 31 #[.agg ⟨Oo c p0 k0 p7 k7⟩] W fun e W'=>∃q0 l0 q7 l7,e=.returned (.agg ⟨Oo c q0 l0 q7 l7⟩)∧B1 (fun _=>False) W W'∧AA W' S c q0 l0 q7 l7:=by
 have hq:Af (CX noZ) prog 1000 2 31 [.agg c.cells]=_:=Q2 (xs:=noZ) (fu:=1000) (d:=0) (c:=c) h1 h2;refine (BT hq (us:=[.agg ⟨Oo c p0 k0 p7 k7⟩]) hS ⟨⟨_,rfl,Sy hu⟩,trivial⟩).mono ?_
 rintro e W' ⟨vs,own,rfl,ho⟩
 match vs,ho.vals,ho with
 |[u],hv,ho=>
  obtain⟨vs,rfl,hc⟩:=hv.1
  have cell:∀{es n:Nat} {cc:List PV} {j:Nat} {v:Value},E3 W' (Ky K0 own S) (own j) (.own es n cc) v->Ku (.lst false es n cc)∧An W' S (.lst false es n cc) v:=by
   intro es n cc j v h;refine⟨trivial,(MK h (fun x _ hx=>.inr (.inr hx)) fun b o hb hs=>?_).1⟩
   have f:=(ho.fresh j b o hb).2 (hS b hs);obtain⟨i,k,o',hf⟩:=f.1;cases hf
  match vs,hc with
  |[v0,v1,v2,v3,v4,v5,v6,v7,v8,v9,v10],hc=>
   obtain⟨c0,c1,c2,c3,c4,c5,c6,c7,c8,c9,c10,_⟩:=hc;have sc:∀{x u:Value},An W' (Ky K0 own S) (.sc x) u->Ku (.sc x)∧An W' S (.sc x) u:=fun {x u} h=>by rw[h.val];exact⟨trivial,.sc _⟩
   obtain⟨q0,l0,q7,l7,e,hV⟩:=FY (w:=W') (S:=S) (c:=c) (vs:=[v0,v1,v2,v3,v4,v5,v6,v7,v8,v9,v10]) ⟨cell c0,sc c1,sc c2,sc c3,sc c4,sc c5,sc c6,cell c7,sc c8,sc c9,sc c10,trivial⟩;exact⟨q0,l0,q7,l7,by rw[e];rfl,B1.out ho,hV⟩
theorem Adg {l:List Sd}{i:Nat}{c:Sd}(h:l[i]?=some c) {j:Nat}{p:PV}(hj:c.cells[j]?=some p):(Dg l)[i*11+j]?=some p:=by
 have hl:j<11:=(List.getElem?_eq_some_iff.1 hj).1;have hi:=(List.getElem?_eq_some_iff.1 h).1;have g:=Dl h hl;have hlt:i*11+j<(Dg l).length:=by rw[Nd];omega
 rw[List.getD_eq_getElem?_getD,List.getD_eq_getElem?_getD,hj,List.getElem?_eq_getElem hlt] at g;rw[List.getElem?_eq_getElem hlt];exact congrArg some g
theorem Zu {l:List Cv}{i:Nat}{c:Cv}(h:l[i]?=some c) {j:Nat}{p:PV}(hj:c.cells[j]?=some p):(Cq l)[i*3+j]?=some p:=by
 have hl:j<3:=(List.getElem?_eq_some_iff.1 hj).1;have hi:=(List.getElem?_eq_some_iff.1 h).1;have g:=H6 h hl;have hlt:i*3+j<(Cq l).length:=by rw[KG];omega
 rw[List.getD_eq_getElem?_getD,List.getD_eq_getElem?_getD,hj,List.getElem?_eq_getElem hlt] at g;rw[List.getElem?_eq_getElem hlt];exact congrArg some g
theorem HK {w:World}{S:Nat->Prop}{b o:Nat}{l:List Sd}(h:Se w S ⟨b,o,none⟩ (Dg l)) {i:Nat}{c:Sd}(hi:l[i]?=some c):∃p0 k0 p7 k7,(∀j v,(Oo c p0 k0 p7 k7)[j]?=some v->w.cell? ⟨b,o+i*11+j,none⟩=some v)∧AA w S c p0 k0 p7 k7:=by
 have at_:∀(j:Nat) (hj:j<11),∃v,w.cell? ⟨b,o+i*11+j,none⟩=some v∧An w S (c.cells[j]'(by exact hj)) v:=by
  intro j hj;obtain⟨v,h1,_,h2⟩:=h (i*11+j) (c.cells[j]'(by exact hj)) (Adg hi (List.getElem?_eq_getElem hj))
  rw[Bq,←Nat.add_assoc] at h1;exact⟨v,h1,h2⟩
 obtain⟨v0,a0,t0⟩:=at_ 0 (by omega)
 obtain⟨v1,a1,t1⟩:=at_ 1 (by omega)
 obtain⟨v2,a2,t2⟩:=at_ 2 (by omega)
 obtain⟨v3,a3,t3⟩:=at_ 3 (by omega)
 obtain⟨v4,a4,t4⟩:=at_ 4 (by omega)
 obtain⟨v5,a5,t5⟩:=at_ 5 (by omega)
 obtain⟨v6,a6,t6⟩:=at_ 6 (by omega)
 obtain⟨v7,a7,t7⟩:=at_ 7 (by omega)
 obtain⟨v8,a8,t8⟩:=at_ 8 (by omega)
 obtain⟨v9,a9,t9⟩:=at_ 9 (by omega)
 obtain⟨v10,a10,t10⟩:=at_ 10 (by omega)
 obtain⟨p0,k0,p7,k7,e,hV⟩:=FY (w:=w) (S:=S) (c:=c) (vs:=[v0,v1,v2,v3,v4,v5,v6,v7,v8,v9,v10]) ⟨⟨trivial,t0⟩,⟨trivial,t1⟩,⟨trivial,t2⟩,⟨trivial,t3⟩,⟨trivial,t4⟩,⟨trivial,t5⟩,⟨trivial,t6⟩,⟨trivial,t7⟩,⟨trivial,t8⟩,⟨trivial,t9⟩,⟨trivial,t10⟩,trivial⟩;refine⟨p0,k0,p7,k7,?_,hV⟩;rw[←e];intro j v hj
 match j,hj with
 |0,hj=>cases hj;exact a0
 |1,hj=>cases hj;exact a1
 |2,hj=>cases hj;exact a2
 |3,hj=>cases hj;exact a3
 |4,hj=>cases hj;exact a4
 |5,hj=>cases hj;exact a5
 |6,hj=>cases hj;exact a6
 |7,hj=>cases hj;exact a7
 |8,hj=>cases hj;exact a8
 |9,hj=>cases hj;exact a9
 |10,hj=>cases hj;exact a10
 |_+11,hj=>cases hj
theorem Uv {w:World}{S:Nat->Prop}{b o:Nat}{l:List Cv}(h:Se w S ⟨b,o,none⟩ (Cq l)) {i:Nat}{a:Cv}(hi:l[i]?=some a):w.cell? ⟨b,o+i*3,none⟩=some (.string a.nm)∧w.cell? ⟨b,o+i*3+1,none⟩=some (.string a.us) ∧
  ∃p k,w.cell? ⟨b,o+i*3+2,none⟩=some (.slice p a.cr.length k)∧An w S (.lst false 11 a.cr.length (Dg a.cr)) (.slice p a.cr.length k):=by
 obtain⟨v0,h0,_,t0⟩:=h (i*3) _ (Zu hi (j:=0) rfl);obtain⟨v1,h1,_,t1⟩:=h (i*3+1) _ (Zu hi (j:=1) rfl);obtain⟨v2,h2,_,t2⟩:=h (i*3+2) _ (Zu hi (j:=2) rfl);rw[Bq] at h0;rw[Bq,←Nat.add_assoc] at h1 h2;rw[t0.val] at h0;rw[t1.val] at h1;obtain⟨p,k,rfl⟩:=Ni t2;exact⟨h0,h1,p,k,h2,t2⟩
end
section
open Go.Proofs.Try (prog)
open Go.IntKind (wrap)
open Go.RowKit Go.Lib
theorem QH:(prog.info? 48).map (fun i=>(i.zero,i.size,i.bytes))=some (some (.agg #[.string ⟨#[]⟩,.string ⟨#[]⟩,.slice none 0 0]),3,56):=by kernel_rfl
theorem EL:prog.underlying 27=some (.slice 48):=by kernel_rfl
abbrev Uz:Array Value:= #[.slice none 0 0,.int .i64 0,.int .u64 0,.int .u64 0,.int .i64 0,.bool false,.int .u64 0,.slice none 0 0,.bool false,.int .i64 0,.int .i64 0]
theorem Xz:(prog.info? 33).map (fun i=>(i.zero,i.size,i.bytes))=some (some (.agg Uz),11,120):=by kernel_rfl
theorem Oq:prog.underlying 46=some (.slice 33):=by kernel_rfl
theorem Ag3 (n:Nat)(hn:n<=1000)(w:World):Sem.run prog (Instr.makeSlice 27 (.int .i64 0) (.int .i64 ((n:Int)+1))) w=.ok (.slice (some ⟨w.heap.size,0,none⟩) 0 (n+1)) (w.alloc (.cells (madeCells #[.string ⟨#[]⟩,.string ⟨#[]⟩,.slice none 0 0] ((n+1)*3)) 48)):=by
 obtain⟨i0,Qf,GC,K5,LA⟩:=info_parts QH;have h:=run_make (P:=prog) w 27 48 i0 _ EL Qf GC .i64 .i64 0 ((n:Int)+1) (by omega) (by omega) (by rw[LA];omega) (by omega)
 refine Eq.trans h ?_;rw[K5];rfl
theorem An0 (n:Nat)(hn:n<=1000)(w:World):Sem.run prog (Instr.makeSlice 46 (.int .i64 0) (.int .i64 ((n:Int)+1))) w=.ok (.slice (some ⟨w.heap.size,0,none⟩) 0 (n+1)) (w.alloc (.cells (madeCells Uz ((n+1)*11)) 33)):=by
 obtain⟨i0,Qf,GC,K5,LA⟩:=info_parts Xz;have h:=run_make (P:=prog) w 46 33 i0 _ Oq Qf GC .i64 .i64 0 ((n:Int)+1) (by omega) (by omega) (by rw[LA];omega) (by omega)
 refine Eq.trans h ?_;rw[K5];rfl
theorem DY {w:World}{es vb vc:Nat}{vs:List Value}(I9:vs.length=es)(R2:0<es)(Ex:∀j v,vs[j]?=some v->w.cell? ⟨vb,j,none⟩=some v) (Z9:∀v∈vs,v.oneCell'=true):
  Pv.Src prog w (fun _=>False) es (.slice (some ⟨vb,0,none⟩) 1 vc) 1 (vs.map .sc) vs where
 len:=fun w'=>by simp[Builtin.lenOf]
 cells:=fun w' hw=>by
  refine Pv.run_first_slice (w:=w') (.inr ⟨_,rfl,by omega,fun j v hj=>?_⟩)
  have hv:=Ex j v hj;rw[Addr.add_lit,Fv,World.cell?_of_block (w:=w) (hw vb (block_lt_of_cell hv))];exact hv
 part:=fun k hk=>by
  refine run_firstCells_some w es k ⟨vb,0,none⟩ 1 vc _ (by rw[List.length_take,I9];exact Nat.min_eq_left (Nat.le_trans (Nat.mul_le_mul_right es hk) (by omega))) fun j v hj=>?_
  rw[List.getElem?_take] at hj;split at hj
  ·rw[Addr.add_lit,Fv];exact Ex j v hj
  ·cases hj
 one:=Z9
 rep:=by
  clear Ex Z9 I9
  induction vs with
  |nil=>trivial
  |cons v vs ih=>exact⟨.sc v,ih⟩
theorem XM {W:World}{κ q cap vb vc:Nat}{vs:List Value}(I9:vs.length=11)(Z9:∀v∈vs,v.oneCell'=true)(Ex:∀j v,vs[j]?=some v->W.cell? ⟨vb,j,none⟩=some v)
  (hc:∀j,j<cap*11->(W.cell? ⟨κ,j,none⟩).isSome=true) (hf:∀j,W.frozen? ⟨κ,j,none⟩=false)(hq:q<cap)(ty:TypeId):
  (Builtin.append_ #[46,46] ty #[.slice (some ⟨κ,0,none⟩) q cap,.slice (some ⟨vb,0,none⟩) 1 vc]).run prog W=.ok (.slice (some ⟨κ,0,none⟩) (q+1) cap) (W.setCells κ (q*11) vs):=by
 obtain⟨i0,Qf,GC,K5,LA⟩:=info_parts Xz;have hs:=DY (vc:=vc) I9 (by omega) Ex Z9
 have h:=Pv.append_room_run (P:=prog) (w:=W) (t:=46) (tx:=46) (ty:=ty) (ts:=[]) (b:=κ) (ob:=0) (n:=q) (cap:=cap) Oq Oq (fun k=>by simp) Qf (by rw[K5];exact hs) (by rw[I9,K5])
  (fun k hk=>by rw[K5];exact hc _ (by omega)) (fun k hk=>hf _) (by omega)
 rw[K5,Fv] at h;exact h
theorem PB {W:World}{κ q cap vb vc:Nat}{vs:List Value}(I9:vs.length=3)(Z9:∀v∈vs,v.oneCell'=true)(Ex:∀j v,vs[j]?=some v->W.cell? ⟨vb,j,none⟩=some v)
  (hc:∀j,j<cap*3->(W.cell? ⟨κ,j,none⟩).isSome=true) (hf:∀j,W.frozen? ⟨κ,j,none⟩=false)(hq:q<cap)(ty:TypeId):
  (Builtin.append_ #[27,27] ty #[.slice (some ⟨κ,0,none⟩) q cap,.slice (some ⟨vb,0,none⟩) 1 vc]).run prog W=.ok (.slice (some ⟨κ,0,none⟩) (q+1) cap) (W.setCells κ (q*3) vs):=by
 obtain⟨i0,Qf,GC,K5,LA⟩:=info_parts QH;have hs:=DY (vc:=vc) I9 (by omega) Ex Z9
 have h:=Pv.append_room_run (P:=prog) (w:=W) (t:=27) (tx:=27) (ty:=ty) (ts:=[]) (b:=κ) (ob:=0) (n:=q) (cap:=cap) EL EL (fun k=>by simp) Qf (by rw[K5];exact hs) (by rw[I9,K5])
  (fun k hk=>by rw[K5];exact hc _ (by omega)) (fun k hk=>hf _) (by omega)
 rw[K5,Fv] at h;exact h
structure FV (w wi:World) (Y:Nat->Prop) (X κ B cap:Nat) (done:List Cv) (bs:List (Nat × Nat)) (a:Cv) (q:Nat) (p2:Option Addr) (k2:Nat):Prop where
 cop:Tu w wi (fun x=>x=X∨x=κ∨Y x) B cap done bs
 row:K6 wi (Hn B bs (fun x=>x=X∨x=κ∨Y x)) κ ((a.cr.length+1)*11) (Dg (a.cr.take q))
 x0:wi.cell? ⟨X,0,none⟩=some (.string a.nm)
 x1:wi.cell? ⟨X,1,none⟩=some (.string a.us)
 x2:wi.cell? ⟨X,2,none⟩=some (.slice p2 a.cr.length k2)
 xf:∀j,wi.frozen? ⟨X,j,none⟩=false
 xw:w.heap.size<=X
 xk:X≠κ
 kw:w.heap.size<=κ
 xl:X<wi.heap.size
theorem FV.next {w wi W:World}{Y:Nat->Prop}{X κ B cap q k2:Nat}{done:List Cv}{bs:List (Nat × Nat)} {a:Cv}{p2:Option Addr}{x:Sd}{p0 p7:Option Addr}{k0 k7:Nat}(h:FV w wi Y X κ B cap done bs a q p2 k2)(g:B1 (fun _=>False) wi W) (hx:a.cr[q]?=some x)
  (hV:AA W (Hn B bs (fun x=>x=X∨x=κ∨Y x)) x p0 k0 p7 k7):FV w (W.setCells κ (q*11) (Oo x p0 k0 p7 k7)) Y X κ B cap done bs a (q+1) p2 k2:=by
 have hq:=(List.getElem?_eq_some_iff.1 hx).1;have g3:B1 (fun y=>y=κ) wi (W.setCells κ (q*11) (Oo x p0 k0 p7 k7)):=(g.weak (E':=fun y=>y=κ) fun _ _ h=>h.elim).trans (B1.wrote (Ay.setCells _ _ _ _)) fun _ _ h=>h
 have row2:=h.row.adv g (fun h=>h) (fun _ _ h=>h.elim) (fun _ _ h=>h)
 have lq:(Dg (a.cr.take q)).length=q*11:=by rw[Nd,List.length_take];omega
 have row3:=row2.app lq (.inr (.inr (.inr (.inl rfl)))) (Sy hV) (Ns _ _ _ _ _) (by show q*11+11<=_;omega)
 have e:Dg (a.cr.take (q+1))=Dg (a.cr.take q)++x.cells:=by
  rw[List.take_add_one,hx];unfold Dg;rw[List.flatMap_append];simp
 refine⟨h.cop.adv g3 (fun y _ e=>⟨.inr (.inl e),e ▸ h.kw⟩) (fun _ _ h=>h),by rw[e];exact row3,?_,?_,?_,fun j=>?_,h.xw,h.xk,h.kw,Nat.lt_of_lt_of_le h.xl g3.size⟩
 ·rw[g3.cell h.xl h.xk];exact h.x0
 ·rw[g3.cell h.xl h.xk];exact h.x1
 ·rw[g3.cell h.xl h.xk];exact h.x2
 ·rw[g3.frz h.xl h.xk];exact h.xf j
theorem XW (z:Array Value)(n:Nat):(madeCells z n).size=n:=size_madeCells ..
theorem FV.start {w wr:World}{Y:Nat->Prop}{B cap k2:Nat}{done:List Cv}{bs:List (Nat × Nat)} {a:Cv}{p2:Option Addr}(h:Tu w wr Y B cap done bs)(t1 t2:TypeId):
  FV w ((wr.alloc (.cells #[.string a.nm,.string a.us,.slice p2 a.cr.length k2] t1)).alloc (.cells (madeCells Uz ((a.cr.length+1)*11)) t2)) Y wr.heap.size (wr.heap.size+1) B cap done bs a 0 p2 k2:=by
 have gA:=Cx.alloc wr #[.string a.nm,.string a.us,.slice p2 a.cr.length k2] t1;have nA:=D7.alloc wr #[.string a.nm,.string a.us,.slice p2 a.cr.length k2] t1;obtain⟨W,hW⟩:∃W,W=wr.alloc (.cells #[.string a.nm,.string a.us,.slice p2 a.cr.length k2] t1):=⟨_,rfl⟩;rw[←hW] at gA nA ⊢;have gB:=Cx.alloc W (madeCells Uz ((a.cr.length+1)*11)) t2;have nB:=D7.alloc W (madeCells Uz ((a.cr.length+1)*11)) t2;have hs:=nA.size;have hB:=B1.new nB;have g:=(B1.new nA).trans hB fun _ _ h=>h
 have hk:=h.kept.size;have nf:¬((fun _:Nat=>False) wr.heap.size):=fun h=>h
 have hB0:bsz (W.alloc (.cells (madeCells Uz ((a.cr.length+1)*11)) t2)) (wr.heap.size+1)=(a.cr.length+1)*11:=by rw[←hs,gB.bsz,XW]
 have hB1:∀j,(W.alloc (.cells (madeCells Uz ((a.cr.length+1)*11)) t2)).frozen? ⟨wr.heap.size+1,j,none⟩=false:=by rw[←hs];exact nB.frz
 refine⟨h.adv g (fun _ _ h=>h.elim) fun b hb e=>?_,⟨by rw[nB.size,hs];omega,hB0,hB1,?_⟩,?_,?_,?_,fun j=>?_,hk,by omega,by omega,by rw[nB.size];omega⟩
 ·rcases e with e|e|e
  ·omega
  ·omega
  ·exact e
 ·intro j c hj;rw[List.take_zero] at hj;cases hj
 ·rw[hB.cell (by omega) nf,gA.cell];rfl
 ·rw[hB.cell (by omega) nf,gA.cell];rfl
 ·rw[hB.cell (by omega) nf,gA.cell];rfl
 ·rw[hB.frz (by omega) nf];exact nA.frz j
theorem FV.done {w wi:World}{Y:Nat->Prop}{X κ B cap k2:Nat}{done:List Cv}{bs:List (Nat × Nat)} {a:Cv}{p2:Option Addr}{v:Value}{t:TypeId}(h:FV w wi Y X κ B cap done bs a a.cr.length p2 k2)(hY:∀x,Y x->x<w.heap.size)(hl:done.length<cap)
  {vs:List Value} (Ex:vs=[.string a.nm,.string a.us,.slice (some ⟨κ,0,none⟩) a.cr.length (a.cr.length+1)]):
  Tu w (((wi.setCell ⟨X,2,none⟩ v).alloc (.cells ⟨vs⟩ t)).setCells B (done.length*3) vs) Y B cap (done++[a]) (bs++[(κ,a.cr.length+1)]):=by
 have row:=h.row;rw[List.take_length] at row;have gs:B1 (fun y=>y=X) wi (wi.setCell ⟨X,2,none⟩ v):=B1.wrote (Ay.setCell _ _ _ _)
 obtain⟨W,hW⟩:∃W,W=(wi.setCell ⟨X,2,none⟩ v).alloc (.cells ⟨vs⟩ t):=⟨_,rfl⟩;have hnw:=D7.alloc (wi.setCell ⟨X,2,none⟩ v) ⟨vs⟩ t;rw[←hW] at hnw ⊢;have g2:B1 (fun y=>y=X) wi W:=gs.trans (B1.new hnw) (fun _ _ h=>h.elim)
 have hXB:¬B=X:=fun e=>(h.cop.exq X (.inl rfl)).1 e.symm
 have hκB:¬κ=B:=(h.cop.exq κ (.inr (.inl rfl))).1;have hκX:¬κ=X:=fun e=>h.xk e.symm
 have hc2:=h.cop.adv g2 (fun b _ e=>⟨.inl e,e ▸ h.xw⟩) (fun _ _ h=>h)
 have row2:=row.adv g2 hκX (fun x _ e=>.inr (.inr (.inl e))) (fun _ _ h=>h)
 have hw:=Ay.setCells B vs (done.length*3) W;have gw:=B1.wrote hw;have I9:vs.length=3:=by rw[Ex];rfl
 have cin:=fun j (hj:j<vs.length)=>World.cell?_setCells_in B vs (done.length*3) W (fun t ht=>Ff (by rw[hc2.szB];omega)) j hj
 refine hc2.push gw h.kw (.inl (.inr (.inl rfl))) (by omega) (hw.bs.trans hc2.szB) (fun j=>(hw.frz j).trans (hc2.fzB j)) (fun j hj=>World.cell?_setCells_out B _ _ _ ⟨B,j,none⟩ (fun _ _=>.inl hj)) ?_ ?_ ?_ ?_ fun b hb=>⟨.inr (.inr hb),?_⟩
 ·have:=cin 0 (by omega)
  rw[Nat.add_zero] at this;rw[this];subst Ex;rfl
 ·rw[cin 1 (by omega)];subst Ex;rfl
 ·rw[cin 2 (by omega)];subst Ex;rfl
 ·refine row2.adv gw hκB (fun x _ e=>.inl e) fun x _ e=>?_
  rcases e with e|⟨p,hp,rfl⟩|e
  ·exact .inl e
  ·rcases List.mem_append.1 hp with hp|hp
   ·exact .inr (.inl ⟨p,hp,rfl⟩)
   ·rw[List.mem_singleton] at hp;subst hp;exact .inr (.inr (.inr (.inl rfl)))
  ·exact .inr (.inr (.inr (.inr e)))
 ·have:=hY b hb;have:=h.kw;omega
set_option maxHeartbeats 1000000 in
set_option maxRecDepth 100000 in
theorem MQ {w:World}{Y:Nat->Prop}{ls:List Cv}{base:Option Addr}{n c:Nat}(Zk:ls.length=n)(hls:∀a∈ls,a.sm)(hn:n<=1000)(hT:An w Y (.lst false 3 n (Cq ls)) (.slice base n c)) (hY:∀x,Y x->x<w.heap.size):
  Calls prog 30 #[.slice base n c] w fun e w'=>∃bs,e=.returned (.slice (some ⟨w.heap.size,0,none⟩) n (n+1))∧Tu w w' Y w.heap.size (n+1) ls bs∧∀(k:Nat) (a:Cv) (p:Nat × Nat),ls[k]?=some a->bs[k]?=some p->p.2=a.cr.length+1:=by
 have mixed:prog.follows Departure.mixedOrders=true:=by kernel_rfl
 have mk:=Ag3 n hn w
 go_enter Try.func30,Try.ntmps30
 go_wp2
 go_loopw [3,15] (fun nx i wr=>∃(k:Nat) (bs:List (Nat × Nat)),k<=n∧i=.int .i64 k∧nx=.slice (some ⟨w.heap.size,0,none⟩) k (n+1)∧Tu w wr Y w.heap.size (n+1) (ls.take k) bs∧∀(k:Nat) (a:Cv) (p:Nat × Nat),ls[k]?=some a->bs[k]?=some p->p.2=a.cr.length+1) (fun _ i _=>n-(Go.RowKit.intOf i).toNat)
 case atStart=>
  refine⟨0,[],Nat.zero_le _,rfl,rfl,?_,fun k a p _ h=>by cases h⟩
  have hg:=Cx.alloc w (madeCells #[Value.string ⟨#[]⟩,.string ⟨#[]⟩,.slice none 0 0] ((n+1)*3)) 48;have hN:=D7.alloc w (madeCells #[Value.string ⟨#[]⟩,.string ⟨#[]⟩,.slice none 0 0] ((n+1)*3)) 48;refine⟨B1.new hN,Nat.le_refl _,by rw[hN.size];omega,by rw[hg.bsz,size_madeCells],hN.frz,rfl,fun p hp=>(by cases hp),by simp,fun k a p h=>(by cases h),fun k a p h=>(by cases h),fun b hb=>⟨fun e=>?_,fun p hp=>(by cases hp)⟩⟩
  have:=hY b hb;omega
 case round=>
  obtain⟨k,bs,hk,rfl,rfl,hC,Iw⟩:=hrel;obtain⟨w1,hw1⟩:∃w1,w1=wr:=⟨_,rfl⟩;subst hw1;by_cases hkn:k<n
  ·have Asw:(k:Int)<(n:Int):=by omega
   obtain⟨b,o,c',hv,hnc,hb,hYb,hR⟩:=Si hT (by omega)
   cases hv;have hka:ls[k]?=some (ls[k]'(by omega)):=List.getElem?_eq_getElem _
   obtain⟨a,ha⟩:∃a,ls[k]'(by omega)=a:=⟨_,rfl⟩
   rw[ha] at hka;have ham:=hls a (List.mem_of_getElem? hka);have hm:a.cr.length<=1000:=ham.1;obtain⟨c0,c1,p2,k2,c2,t2⟩:=Uv hR hka;rw[←hC.kept.cell hb (fun h=>h)] at c0 c1 c2
   have mk2:=An0 a.cr.length ham.1;clear hR hT
   go_wp2
   go_loopw [6,27] (fun kp i wi=>∃q:Nat,q<=a.cr.length∧i=.int .i64 q∧kp=.slice (some ⟨w1.heap.size+1,0,none⟩) q (a.cr.length+1)∧FV w wi Y w1.heap.size (w1.heap.size+1) w.heap.size (n+1) (ls.take k) bs a q p2 k2) (fun _ i _=>a.cr.length-(Go.RowKit.intOf i).toNat)
   case atStart=>
    exact⟨0,Nat.zero_le _,rfl,rfl,FV.start hC _ _⟩
   case round=>
    obtain⟨q,hq,rfl,rfl,hI⟩:=hrel;have x0:=hI.x0;have x1:=hI.x1;have x2:=hI.x2;have xf:=hI.xf;by_cases hqm:q<a.cr.length
    ·have Ase:(q:Int)<(a.cr.length:Int):=by omega
     obtain⟨b2,o2,k2',hv2,hmc,Im,Azj,hR2⟩:=Si t2 (by omega)
     cases hv2;have hxa:a.cr[q]?=some (a.cr[q]'(by omega)):=List.getElem?_eq_getElem _
     obtain⟨x,hx⟩:∃x,a.cr[q]'(by omega)=x:=⟨_,rfl⟩
     rw[hx] at hxa;have Wh:=ham.2 x (List.mem_of_getElem? hxa);obtain⟨p0,k0,p7,k7,hd,hV⟩:=HK hR2 hxa;have dd:∀j v,(Oo x p0 k0 p7 k7)[j]?=some v->wr.cell? ⟨b2,o2+q*11+j,none⟩=some v:=fun j v hj=>by rw[hI.cop.kept.cell Im (fun h=>h)];exact hd j v hj
     have d0:wr.cell? ⟨b2,o2+q*11,none⟩=some (.slice p0 x.id.length k0):=dd 0 _ rfl;have d1:=dd 1 _ rfl;have d2:=dd 2 _ rfl;have d3:=dd 3 _ rfl;have d4:=dd 4 _ rfl;have d5:=dd 5 _ rfl;have d6:=dd 6 _ rfl;have d7:=dd 7 _ rfl;have d8:=dd 8 _ rfl;have d9:=dd 9 _ rfl;have d10:=dd 10 _ rfl;clear dd
     have hYS:∀y,y<w.heap.size->Hn w.heap.size bs (fun x=>x=w1.heap.size∨x=w1.heap.size+1∨Y x) y->Y y:=by
      rintro y hy (e|⟨p,hp,e⟩|e|e|e)
      ·omega
      ·have:=(hI.cop.blk p hp).1;omega
      ·have:=hI.xw;omega
      ·have:=hI.kw;omega
      ·exact e
     have hSW:∀y,Hn w.heap.size bs (fun x=>x=w1.heap.size∨x=w1.heap.size+1∨Y x) y->y<wr.heap.size:=by
      rintro y (e|⟨p,hp,rfl⟩|e|e|e)
      ·rw[e];exact hI.cop.lt
      ·exact hI.cop.blkLt hp
      ·rw[e];exact hI.xl
      ·rw[e];exact hI.row.lt
      ·exact Nat.lt_of_lt_of_le (hY y e) hI.cop.kept.size
     have hcp:∀W,B1 (fun _=>False) wr W->Calls prog 31 #[.agg #[.slice p0 x.id.length k0,.int .i64 x.ht,.int .u64 x.root,.int .u64 x.model,.int .i64 x.fmt,.bool x.sh,.int .u64 x.used,.slice p7 x.rg.length k7,.bool x.sus,.int .i64 x.since,.int .i64 x.last]] W fun e W'=>∃q0 l0 q7 l7,e=.returned (.agg #[.slice q0 x.id.length l0,.int .i64 x.ht,.int .u64 x.root,.int .u64 x.model,.int .i64 x.fmt,.bool x.sh,.int .u64 x.used,.slice q7 x.rg.length l7,.bool x.sus,.int .i64 x.since,.int .i64 x.last])∧B1 (fun _=>False) W W'∧AA W' (Hn w.heap.size bs (fun x=>x=w1.heap.size∨x=w1.heap.size+1∨Y x)) x q0 l0 q7 l7:=fun W hW=>
      Nc (fun y hy=>Nat.lt_of_lt_of_le (hSW y hy) hW.size) Wh.1 (Nat.le_trans Wh.2 (by omega)) (hV.adv (hI.cop.kept.trans hW fun _ _ h=>h) (fun _ _ h=>h.elim) hYS)
     go_wp2_with (go_at_call 31;refine (hcp _ (B1.new (D7.alloc _ _ _))).mono ?_)
     intro e W1 q0 l0 q7 l7 he Vd hV1;subst he;dsimp only;have g1:B1 (fun _=>False) wr W1:=(B1.new (D7.alloc wr _ _)).trans Vd (fun _ _ h=>h)
     have g2:=g1.trans (B1.new (D7.alloc W1 #[Value.slice q0 x.id.length l0,.int .i64 x.ht,.int .u64 x.root,.int .u64 x.model,.int .i64 x.fmt,.bool x.sh,.int .u64 x.used,.slice q7 x.rg.length l7,.bool x.sus,.int .i64 x.since,.int .i64 x.last] 33)) (fun _ _ h=>h)
     have hgw:=Cx.alloc W1 #[Value.slice q0 x.id.length l0,.int .i64 x.ht,.int .u64 x.root,.int .u64 x.model,.int .i64 x.fmt,.bool x.sh,.int .u64 x.used,.slice q7 x.rg.length l7,.bool x.sus,.int .i64 x.since,.int .i64 x.last] 33;have row2:=hI.row.adv g2 (fun h=>h) (fun _ _ h=>h.elim) (fun _ _ h=>h)
     have I5:=XM (vb:=W1.heap.size) (vc:=1) (vs:=Oo x q0 l0 q7 l7) rfl (Ns _ _ _ _ _) (fun j v hj=>by rw[hgw.cell j,List.getElem?_toArray];exact hj) (fun j hj=>row2.cellAt hj) row2.fz (by omega:q<a.cr.length+1)
     go_wp2_with (at_builtin;refine Lib.wpList_append_run _ rfl _ _ _ _ rfl _ _ rfl rfl _ _ (I5 _) ?_)
     refine⟨⟨q+1,by omega,rfl,rfl,hI.next g2 hxa (hV1.adv (B1.new (D7.alloc _ _ _)) (fun _ _ h=>h.elim) (fun _ _ h=>h))⟩,?_⟩
     simp only[Go.RowKit.intOf];omega
    ·have Ase:¬(q:Int)<(a.cr.length:Int):=by omega
     obtain rfl:q=a.cr.length:=by omega
     have row:=hI.row;rw[List.take_length] at row;have gs:B1 (fun y=>y=w1.heap.size) wr (wr.setCell ⟨w1.heap.size,2,none⟩ (.slice (some ⟨w1.heap.size+1,0,none⟩) a.cr.length (a.cr.length+1))):=B1.wrote (Ay.setCell _ _ _ _)
     have hgw:=Cx.alloc (wr.setCell ⟨w1.heap.size,2,none⟩ (.slice (some ⟨w1.heap.size+1,0,none⟩) a.cr.length (a.cr.length+1))) #[Value.string a.nm,.string a.us,.slice (some ⟨w1.heap.size+1,0,none⟩) a.cr.length (a.cr.length+1)] 48;have hnw:=D7.alloc (wr.setCell ⟨w1.heap.size,2,none⟩ (.slice (some ⟨w1.heap.size+1,0,none⟩) a.cr.length (a.cr.length+1))) #[Value.string a.nm,.string a.us,.slice (some ⟨w1.heap.size+1,0,none⟩) a.cr.length (a.cr.length+1)] 48;have g2:=gs.trans (B1.new hnw) (fun _ _ h=>h.elim)
     have hBX:¬w.heap.size=w1.heap.size:=fun e=>(hI.cop.exq _ (.inl rfl)).1 e.symm
     have I5:=PB (W:=(wr.setCell ⟨w1.heap.size,2,none⟩ (.slice (some ⟨w1.heap.size+1,0,none⟩) a.cr.length (a.cr.length+1))).alloc (.cells #[Value.string a.nm,.string a.us,.slice (some ⟨w1.heap.size+1,0,none⟩) a.cr.length (a.cr.length+1)] 48)) (κ:=w.heap.size) (q:=k) (cap:=n+1) (vb:=wr.heap.size) (vc:=1) (vs:=[Value.string a.nm,.string a.us,.slice (some ⟨w1.heap.size+1,0,none⟩) a.cr.length (a.cr.length+1)]) rfl (by
       intro v hv;simp only[List.mem_cons,List.not_mem_nil,or_false] at hv
       rcases hv with rfl|rfl|rfl<;>rfl) (fun j v hj=>by
        have:=hgw.cell j;rw[World.size_setCell] at this;rw[this,List.getElem?_toArray];exact hj) (fun j hj=>by rw[g2.cell hI.cop.lt hBX];exact Ff (by rw[hI.cop.szB];exact hj)) (fun j=>by rw[g2.frz hI.cop.lt hBX];exact hI.cop.fzB j) (by omega)
     go_wp2_with (at_builtin;refine Lib.wpList_append_run _ rfl _ _ _ _ rfl _ _ rfl rfl _ _ (I5 _) ?_)
     have hlt:(ls.take k).length=k:=by rw[List.length_take];omega
     have hD:=hI.done (v:=.slice (some ⟨w1.heap.size+1,0,none⟩) a.cr.length (a.cr.length+1)) (t:=48) hY (by omega) rfl
     rw[hlt] at hD;have etk:ls.take (k+1)=ls.take k++[a]:=by rw[List.take_add_one,hka];rfl
     refine⟨⟨k+1,bs++[(w1.heap.size+1,a.cr.length+1)],by omega,rfl,rfl,by rw[etk];exact hD,?_⟩,?_⟩
     ·intro k' a' p Hj hp;have Rm:=hI.cop.len;by_cases GK:k'<bs.length
      ·rw[List.getElem?_append_left GK] at hp;exact Iw k' a' p Hj hp
      ·have:=(List.getElem?_eq_some_iff.1 hp).1;have ek:k'=k:=by simp at this;omega
       subst ek;rw[List.getElem?_append_right (by omega),Rm,hlt,Nat.sub_self] at hp
       cases hp;rw[hka] at Hj;cases Hj;rfl
     ·simp only[Go.RowKit.intOf];omega
  ·have Asw:¬(k:Int)<(n:Int):=by omega
   obtain rfl:k=n:=by omega
   rw[Qq (by omega)] at hC
   go_wp2
   go_ret
   exact⟨rfl,bs,hC,fun k a p q h1 h2=>Iw k a (p,q) h1 h2⟩
end
section
open Go.Proofs.Try (prog)
open Go.IntKind (wrap)
open Go.RowKit Go.Lib
theorem EV {f:FuncId}{args:List PV}{vs:List Value}{fu d:Nat}(hq:Af (CX noZ) prog fu d f args=some ⟨vs.map .sc,[]⟩) {S:Nat->Prop}{W:World}{us:List Value}(hS:∀x,S x->x<W.heap.size)(h:Av (Id W S) args us):
  Calls prog f us.toArray W fun e W'=>e=.returned (Dy vs)∧B1 (fun _=>False) W W':=by
 refine (BT hq hS h).mono ?_
 rintro e W' ⟨xs,own,rfl,ho⟩
 refine⟨?_,B1.out ho⟩
 have key:∀(vs xs:List Value) (j:Nat),JY W' (Ky K0 own S) own W.heap.size j (vs.map .sc) xs->xs=vs:=by
  intro vs
  induction vs with
  |nil=>intro xs j h;cases xs with|nil=>rfl|cons _ _=>exact h.elim
  |cons v vs ih=>
   intro xs j h;cases xs with
   |nil=>exact h.elim
   |cons x xs=>
    have h1:An W' (Ky K0 own S) (.sc v) x:=h.1;rw[h1.val,ih xs _ h.2]
 rw[key vs xs 0 ho.vals]
theorem On {w:World}{S:Nat->Prop}{z:Bool}{es n:Nat}{c:List PV}{v:Value}(h:An w S (.lst z es n c) v):Id w S (.lst z es n c) v:=⟨trivial,h⟩
theorem OL {w:World}{S:Nat->Prop}(v:Value):Id w S (.sc v) v:=⟨trivial,.sc v⟩
theorem M3 {P:Program}{ops:Array Oper}{o:Oper}{a:Act}{w:World}{K:Act->World->Prop}{Q:Exit->Act->World->Prop}{E:Prop}(hg:o.guard=none){c:Call}{f:FuncId}(ho:o.op=.call c)(hc:c.callee=.value (.func f)) (H1:NoNG P){fn:Func}(hf:P.funcs[f]?=some fn) (hb:fn.body.isSome=true)
  {us:Array Value} (PM:c.args.map a.eval=us) {post:Ending->World->Prop} (h:Calls P f us w post) (hk:∀e w',post e w'->∃v,e=.returned v∧K (a.put o.dst v) w'):
  if Region.wanted o (yielded ops a.tmps)=true then Oper.wp P o a w K Q else E:=by
 have hw:Region.wanted o (yielded ops a.tmps)=true:=by simp[Region.wanted,hg]
 rw[Lw hw];unfold Oper.wp;rw[Xr ho hc H1 hf hb,PM];refine h.mono ?_;intro e w' hp;obtain⟨v,rfl,hK⟩:=hk e w' hp;exact hK
theorem H2 {P:Program}{ops:Array Oper}{o:Oper}{a:Act}{w:World}{K:Act->World->Prop}{Q:Exit->Act->World->Prop}{E:Prop}
  (hg:o.guard=none)(d x:Operand)(dT sT:TypeId)(QW:o.op=Op.call { callee:=Callee.builtin Builtin.append,args:= #[d,x],argTypes:= #[dT,sT] })
  (v u:Value)(hd:a.eval d=v)(hx:a.eval x=u){v':Value}{w':World}(hr:(Builtin.append_ #[dT,sT] o.type #[v,u]).run P w=.ok v' w') (hK:K (a.put o.dst v') w'):
  if Region.wanted o (yielded ops a.tmps)=true then Oper.wp P o a w K Q else E:=by
 have hw:Region.wanted o (yielded ops a.tmps)=true:=by simp[Region.wanted,hg]
 rw[Lw hw];unfold Oper.wp;simp[execOp,QW,resolve,invoke,builtin,hd,hx,hr,Result.andThen];exact hK
structure LE (w:World) (Y:Nat->Prop) (ls:List Cv) (n c:Nat) (base:Option Addr):Prop where
 nl:ls.length=n
 sm:∀a∈ls,a.sm
 n1:n<=1000
 tr:An w Y (.lst false 3 n (Cq ls)) (.slice base n c)
 y:∀x,Y x->x<w.heap.size
theorem LE.adv {w w':World}{Y:Nat->Prop}{ls:List Cv}{n c:Nat}{base:Option Addr}(h:LE w Y ls n c base)(g:B1 (fun _=>False) w w'):LE w' Y ls n c base:=
 ⟨h.nl,h.sm,h.n1,h.tr.step (g.st.weaken fun _ _ h=>h.elim) fun _ _ h=>h,fun x hx=>Nat.lt_of_lt_of_le (h.y x hx) g.size⟩
structure Asi (w wr:World) (Y:Nat->Prop) (n:Nat) (ls:List Cv) (bs:List (Nat × Nat)):Prop where
 cop:Tu w wr Y w.heap.size (n+1) ls bs
 room:∀(k:Nat) (a:Cv) (p:Nat × Nat),ls[k]?=some a->bs[k]?=some p->p.2=a.cr.length+1
theorem LE.copy {w:World}{Y:Nat->Prop}{ls:List Cv}{n c:Nat}{base:Option Addr}(h:LE w Y ls n c base):
  Calls prog 30 #[.slice base n c] w fun e w'=>∃bs,e=.returned (.slice (some ⟨w.heap.size,0,none⟩) n (n+1))∧Asi w w' Y n ls bs:=by
 refine (MQ h.nl h.sm h.n1 h.tr h.y).mono ?_
 rintro e w' ⟨bs,h1,h2,h3⟩
 exact⟨bs,h1,h2,h3⟩
def Par (W:World)(X:Nat)(vs:List Value):Prop:=X<W.heap.size∧∀j v,vs[j]?=some v->W.cell? ⟨X,j,none⟩=some v
theorem Par.adv {W W':World}{X:Nat}{vs:List Value}{E:Nat->Prop}(h:Par W X vs)(g:B1 E W W')(hE:¬E X):Par W' X vs:=⟨Nat.lt_of_lt_of_le h.1 g.size,fun j v hj=>by rw[g.cell h.1 hE];exact h.2 j v hj⟩
theorem Par.new (w:World)(vs:List Value)(t:TypeId):Par (w.alloc (.cells ⟨vs⟩ t)) w.heap.size vs:=by
 have g:=Cx.alloc w ⟨vs⟩ t;exact⟨by rw[g.size];omega,fun j v hj=>by rw[g.cell];simpa using hj⟩
theorem Tu.grow {w W:World}{Y:Nat->Prop}{B cap i:Nat}{ls:List Cv}{bs:List (Nat × Nat)} {a:Cv}{bp:Nat × Nat}{x:Sd}{p0 p7:Option Addr}{k0 k7:Nat}(h:Tu w W Y B cap ls bs)(hi:ls[i]?=some a) (hb:bs[i]?=some bp) (hm:a.cr.length<bp.2)(hil:i<cap)
  (hV:AA W (Hn B bs Y) x p0 k0 p7 k7):Tu w ((W.setCells bp.1 (a.cr.length*11) (Oo x p0 k0 p7 k7)).setCell ⟨B,i*3+2,none⟩ (.slice (some ⟨bp.1,0,none⟩) (a.cr.length+1) bp.2)) Y B cap (ls.set i { a with cr:=a.cr++[x] }) bs:=by
 have hbm:=List.mem_of_getElem? hb;have Gh:bp.1≠B:=(h.blk bp hbm).2;have AY:¬B=bp.1:=fun e=>Gh e.symm
 have We:Hn B bs Y bp.1:=.inr (.inl ⟨bp,hbm,rfl⟩);have row6:=(h.row i a bp hi hb).app (Nd _) We (Sy hV) (Ns _ _ _ _ _) (by show a.cr.length*11+11<=_;omega)
 have g1:=Ay.setCells bp.1 (Oo x p0 k0 p7 k7) (a.cr.length*11) W;obtain⟨W6,hW6⟩:∃W6,W6=W.setCells bp.1 (a.cr.length*11) (Oo x p0 k0 p7 k7):=⟨_,rfl⟩;rw[←hW6] at row6 g1 ⊢;have a1:=B1.wrote g1;have l6:B<W6.heap.size:=Nat.lt_of_lt_of_le h.lt a1.size;have g2:=Ay.setCell B (i*3+2) (.slice (some ⟨bp.1,0,none⟩) (a.cr.length+1) bp.2) W6
 have e:Dg (a.cr++[x])=Dg a.cr++x.cells:=by
  unfold Dg;rw[List.flatMap_append];simp
 have s6:bsz W6 B=cap*3:=(a1.bs h.lt AY).trans h.szB;refine h.set (a':={ a with cr:=a.cr++[x] }) hi hb rfl rfl (by show (a.cr++[x]).length<=_;simp;omega) ((a1.weak (E':=fun y=>y=B∨y=bp.1) fun y _ e=>.inr e).trans (B1.wrote g2) fun y _ e=>.inl e) (g2.bs.trans s6) (fun j=>(g2.frz j).trans ((a1.frz h.lt AY).trans (h.fzB j))) (fun j hj=>?_) ?_ ?_
 ·rw[World.cell?_setCell_other _ _ _ _ (by intro e;simp only[Addr.mk.injEq] at e;omega)]
  exact a1.cell h.lt AY
 ·obtain⟨v,hv⟩:=Option.isSome_iff_exists.1 (Ff (w:=W6) (b:=B) (j:=i*3+2) (by omega))
  rw[World.cell?_setCell_same _ _ _ hv];simp
 ·show K6 _ _ _ _ (Dg (a.cr++[x]));rw[e];exact row6.adv (B1.wrote g2) Gh (fun y _ e=>.inl e) (fun _ _ h=>h)
set_option maxHeartbeats 1000000 in
set_option maxRecDepth 100000 in
theorem RA {w:World}{Y:Nat->Prop}{ls:List Cv}{base:Option Addr}{n c i:Nat}{a:Cv}{x:Sd}{nm us:ByteArray}{p0 p7:Option Addr}{k0 k7:Nat}(hB:LE w Y ls n c base)(hV:AA w Y x p0 k0 p7 k7)(hx:x.sm)(hn1:1<=nm.size)(hn2:nm.size<=32)(hid:x.id.length=176)
  (AR:∀W,B1 (fun _=>False) w W->Calls prog 23 #[.slice base n c,.slice p0 176 k0] W fun e W'=>e=.returned (.tuple #[.int .i64 0,.int .i64 0,.bool false])∧B1 (fun _=>False) W W')
  (IH:∀W,B1 (fun _=>False) w W->Calls prog 14 #[.slice base n c,.string nm] W fun e W'=>e=.returned (.tuple #[.int .i64 i,.bool true])∧B1 (fun _=>False) W W')
  (hi:ls[i]?=some a) (hk:a.cr.length<4):
  Calls prog 11 #[.slice base n c,.string nm,.string us,.agg #[.slice p0 x.id.length k0,.int .i64 x.ht,.int .u64 x.root,.int .u64 x.model,.int .i64 x.fmt,.bool x.sh,.int .u64 x.used,.slice p7 x.rg.length k7,.bool x.sus,.int .i64 x.since,.int .i64 x.last]] w
   fun e w'=>∃u,e=.returned (.tuple #[u,.int .i64 0])∧B1 (fun _=>False) w w'∧An w' Y (.lst false 3 n (Cq (ls.set i { a with cr:=a.cr++[x] }))) u:=by
 have mixed:prog.follows Departure.mixedOrders=true:=by kernel_rfl
 rw[hid];have hin:=(List.getElem?_eq_some_iff.1 hi).1;have Zk:=hB.nl;obtain⟨b,o,c',hv,hnc,hb,hYb,hR⟩:=Si hB.tr (by omega)
 cases hv;obtain⟨c0,c1,p2,k2,c2,t2⟩:=Uv hR hi;have hzn:¬((nm.size:Int)<1):=by omega
 have Avf:¬((32:Int)<(nm.size:Int)):=by omega
 go_enter Try.func11,Try.ntmps11
 go_wp2_with (go_at_call 23;refine (AR _ ?hO).mono ?_)
 case hO=>exact B1.new (D7.alloc _ _ _)
 have pr0:=Par.new w [Value.slice p0 176 k0,.int .i64 x.ht,.int .u64 x.root,.int .u64 x.model,.int .i64 x.fmt,.bool x.sh,.int .u64 x.used,.slice p7 x.rg.length k7,.bool x.sus,.int .i64 x.since,.int .i64 x.last] 33;intro e W1 he Vd;subst he;dsimp only;have g1:=(B1.new (D7.alloc w _ _)).trans Vd fun _ _ h=>h
 have pr1:=pr0.adv Vd fun h=>h
 go_wp2_with (go_at_call 14;refine (IH _ ?hF).mono ?_)
 case hF=>exact g1
 rintro e W2 ⟨he,hA2⟩
 subst he;dsimp only;have g2:=g1.trans hA2 fun _ _ h=>h
 have pr2:=pr1.adv hA2 fun h=>h
 have c22:=c2;rw[←g2.cell hb fun h=>h] at c22
 have OE:=hB.adv g2;have Qf:(i:Int)<(n:Int):=by omega
 have Ue:¬((4:Int)<=(a.cr.length:Int)):=by omega
 go_wp2_with (go_at_call 30;refine OE.copy.mono ?_)
 intro e W3 he bs VV;subst he;dsimp only;have hC:=VV.cop;have pr3:=pr2.adv hC.kept fun h=>h
 have ebi:bs[i]?=some (bs[i]'(by rw[hC.len];exact hin)):=List.getElem?_eq_getElem _
 obtain⟨bp,hbp⟩:∃bp,bs[i]'(by rw[hC.len];exact hin)=bp:=⟨_,rfl⟩
 rw[hbp] at ebi;obtain⟨_,_,d2,d3⟩:=hC.cell i a bp hi ebi;obtain⟨κ,kc⟩:=bp;obtain rfl:kc=a.cr.length+1:=VV.room i a _ hi ebi;clear hbp;dsimp only at d2;have fB:=hC.fzB
 have hS3:∀y,Hn W2.heap.size bs Y y->y<W3.heap.size:=by
  rintro y (e|⟨p,hp,rfl⟩|e)
  ·rw[e];exact hC.lt
  ·exact hC.blkLt hp
  ·exact Nat.lt_of_lt_of_le (OE.y y e) hC.kept.size
 have hV3:AA W3 (Hn W2.heap.size bs Y) x p0 k0 p7 k7:=(hV.adv g2 (fun _ _ h=>h.elim) (fun _ _ h=>h)).adv hC.kept (fun _ _ h=>h.elim) (by
  rintro y hy (e|⟨p,hp,e⟩|e)
  ·omega
  ·have:=(hC.blk p hp).1;omega
  ·exact e)
 have hcp:∀W,B1 (fun _=>False) W3 W->Calls prog 31 #[.agg #[.slice p0 176 k0,.int .i64 x.ht,.int .u64 x.root,.int .u64 x.model,.int .i64 x.fmt,.bool x.sh,.int .u64 x.used,.slice p7 x.rg.length k7,.bool x.sus,.int .i64 x.since,.int .i64 x.last]] W fun e W'=>∃q0 l0 q7 l7,e=.returned (.agg #[.slice q0 176 l0,.int .i64 x.ht,.int .u64 x.root,.int .u64 x.model,.int .i64 x.fmt,.bool x.sh,.int .u64 x.used,.slice q7 x.rg.length l7,.bool x.sus,.int .i64 x.since,.int .i64 x.last])∧B1 (fun _=>False) W W'∧AA W' (Hn W2.heap.size bs Y) x q0 l0 q7 l7:=fun W hW=>by
  have h:=Nc (fun y hy=>Nat.lt_of_lt_of_le (hS3 y hy) hW.size) hx.1 (Nat.le_trans hx.2 (by omega)) (hV3.adv hW (fun _ _ h=>h.elim) (fun _ _ h=>h))
  simp only[Oo,hid] at h;exact h
 have p00:=pr3.2 0 _ rfl;have p01:=pr3.2 1 _ rfl;have p02:=pr3.2 2 _ rfl;have p03:=pr3.2 3 _ rfl;have p04:=pr3.2 4 _ rfl;have p05:=pr3.2 5 _ rfl;have p06:=pr3.2 6 _ rfl;have p07:=pr3.2 7 _ rfl;have p08:=pr3.2 8 _ rfl;have p09:=pr3.2 9 _ rfl;have p10:=pr3.2 10 _ rfl
 go_wp2
 go_region_law_o (first|(refine M3 rfl rfl rfl ngA Try.func31 rfl (by simp[Act.eval,Act.put]) (hcp _ ?hW) ?_;(case hW=>exact B1.drew W3);rintro e W4 ⟨q0,l0,q7,l7,he4,UG,hV4⟩;refine⟨_,he4,?_⟩;have gA4:B1 (fun _=>False) W3 W4:=(B1.drew W3).trans UG (fun _ _ h=>h);have d24:=d2;rw[←gA4.cell hC.lt (fun h=>h)] at d24;have Ati:W2.heap.size<W4.heap.size:=Nat.lt_of_lt_of_le hC.lt gA4.size)|(have gn:=B1.new (D7.alloc W4 #[Value.slice q0 176 l0,.int .i64 x.ht,.int .u64 x.root,.int .u64 x.model,.int .i64 x.fmt,.bool x.sh,.int .u64 x.used,.slice q7 x.rg.length l7,.bool x.sus,.int .i64 x.since,.int .i64 x.last] 33);have hgw:=Cx.alloc W4 #[Value.slice q0 176 l0,.int .i64 x.ht,.int .u64 x.root,.int .u64 x.model,.int .i64 x.fmt,.bool x.sh,.int .u64 x.used,.slice q7 x.rg.length l7,.bool x.sus,.int .i64 x.since,.int .i64 x.last] 33;have hC5:=(hC.adv gA4 (fun _ _ h=>h.elim) (fun _ _ h=>h)).adv gn (fun _ _ h=>h.elim) (fun _ _ h=>h);have row5:=hC5.row i a _ hi ebi;have I5:=XM (vb:=W4.heap.size) (vc:=1) (vs:=Oo x q0 l0 q7 l7) rfl (Ns _ _ _ _ _) (fun j v hj=>by rw[hgw.cell j,List.getElem?_toArray];rw[Oo,hid] at hj;exact hj) (fun j hj=>row5.cellAt hj) row5.fz (by omega:a.cr.length<a.cr.length+1);have hG:=hC5.grow hi ebi (Nat.lt_succ_self _) (by omega) (hV4.adv gn (fun _ _ h=>h.elim) (fun _ _ h=>h));have a6:=B1.wrote (Ay.setCells κ (Oo x q0 l0 q7 l7) (a.cr.length*11) (W4.alloc (.cells #[Value.slice q0 176 l0,.int .i64 x.ht,.int .u64 x.root,.int .u64 x.model,.int .i64 x.fmt,.bool x.sh,.int .u64 x.used,.slice q7 x.rg.length l7,.bool x.sus,.int .i64 x.since,.int .i64 x.last] 33)));have VT:¬W2.heap.size=κ:=fun e=>(hC.blk _ (List.mem_of_getElem? ebi)).2 e.symm;have d26:=d24;rw[←gn.cell (Nat.lt_of_lt_of_le hC.lt gA4.size) (fun h=>h),←a6.cell hC5.lt VT] at d26;have f26:=hC5.fzB (i*3+2);rw[←a6.frz hC5.lt VT] at f26;refine H2 rfl _ _ 46 46 rfl _ _ (by simp[Act.eval,Act.put]) (by simp[Act.eval,Act.put]) (I5 _) ?_))
 all_goals go_wp2
 all_goals go_ret2
 all_goals
  have ht:=hG.tree (Y:=Y) OE.y (by rw[List.length_set];omega) (fun _ h=>h)
  rw[List.length_set,Zk] at ht;exact⟨_,rfl,g2.trans hG.kept (fun _ _ h=>h),ht⟩
end
section
open Go.Proofs.Try (prog)
open Go.IntKind (wrap)
open Go.RowKit Go.Lib
theorem Ae4 {W:World}{vb vc:Nat}{vs:List Value}(I9:vs.length=11)(Z9:∀v∈vs,v.oneCell'=true)(Ex:∀j v,vs[j]?=some v->W.cell? ⟨vb,j,none⟩=some v) (ty:TypeId):
  (Builtin.append_ #[46,46] ty #[.slice none 0 0,.slice (some ⟨vb,0,none⟩) 1 vc]).run prog W=.ok (.slice (some ⟨W.heap.size,0,none⟩) 1 (grownCap W 1 0 33)) (W.drew.alloc (.cells (vs.toArray++Builtin.zeroCells Uz (grownCap W 1 0 33-1)) 33)):=by
 obtain⟨i0,Qf,GC,K5,LA⟩:=info_parts Xz;have hs:=DY (vc:=vc) I9 (by omega) Ex Z9
 have h:=Pv.append_grow_run (P:=prog) (w:=W) (t:=46) (tx:=46) (ty:=ty) (ts:=[]) (ad:=none) (n:=0) (cap:=0) (olds:=[]) Oq Oq (fun k=>by simp) Qf GC (by rw[K5];exact hs) (.inl ⟨rfl,rfl⟩) (by omega) (by rw[LA];omega) (by omega)
 rw[show (Value.agg Uz).cells=Uz from rfl] at h
 simpa using h
theorem Tu.fresh {w W W7:World}{Y:Nat->Prop}{B cap κ G:Nat}{done:List Cv}{bs:List (Nat × Nat)} {a:Cv}(h:Tu w W Y B cap done bs)(hl:done.length<cap)(g:B1 (fun x=>x=B) W W7) (hs:bsz W7 B=cap*3)(hf:∀j,W7.frozen? ⟨B,j,none⟩=false)
  (hold:∀j,j<done.length*3->W7.cell? ⟨B,j,none⟩=W.cell? ⟨B,j,none⟩)(c0:W7.cell? ⟨B,done.length*3,none⟩=some (.string a.nm)) (c1:W7.cell? ⟨B,done.length*3+1,none⟩=some (.string a.us)) (hκ:W.heap.size<=κ)(hG:a.cr.length<=G)
  (hr:K6 W7 (Hn B (bs++[(κ,G)]) Y) κ (G*11) (Dg a.cr)) (hY:∀x,Y x->x<w.heap.size):Tu w (W7.setCell ⟨B,done.length*3+2,none⟩ (.slice (some ⟨κ,0,none⟩) a.cr.length G)) Y B cap (done++[a]) (bs++[(κ,G)]):=by
 have gw:=Ay.setCell B (done.length*3+2) (.slice (some ⟨κ,0,none⟩) a.cr.length G) W7;have ga:=B1.wrote gw;have other:∀j,j≠done.length*3+2->(W7.setCell ⟨B,done.length*3+2,none⟩ (.slice (some ⟨κ,0,none⟩) a.cr.length G)).cell? ⟨B,j,none⟩=W7.cell? ⟨B,j,none⟩:=fun j hj=>World.cell?_setCell_other _ _ _ _ (by intro e;simp only[Addr.mk.injEq] at e;omega)
 have hBκ:¬κ=B:=by
  rintro rfl
  have:=h.lt;omega
 refine h.push (g.trans ga fun _ _ h=>h) (Nat.le_trans h.kept.size hκ) (.inr hκ) hG (gw.bs.trans hs) (fun j=>(gw.frz j).trans (hf j)) (fun j hj=>(other j (by omega)).trans (hold j hj)) ((other _ (by omega)).trans c0) ((other _ (by omega)).trans c1) ?_ (hr.adv ga hBκ (fun x _ e=>.inl e) (fun _ _ h=>h)) fun b hb=>⟨hb,?_⟩
 ·obtain⟨v,hv⟩:=Option.isSome_iff_exists.1 (Ff (w:=W7) (b:=B) (j:=done.length*3+2) (by omega))
  exact World.cell?_setCell_same _ _ _ hv
 ·have:=hY b hb;have:=h.kept.size;omega
theorem Afn {W:World}{S S':Nat->Prop}{x:Sd}{p0 p7:Option Addr}{k0 k7 G:Nat}{T:TypeId}(hV:AA W S x p0 k0 p7 k7)(hG:1<=G)(hS:∀y,y<W.heap.size->S' y->S y):
  K6 (W.drew.alloc (.cells ((Oo x p0 k0 p7 k7).toArray++Builtin.zeroCells Uz (G-1)) T)) S' W.heap.size (G*11) (Dg [x]):=by
 have hn:=D7.allocD W ((Oo x p0 k0 p7 k7).toArray++Builtin.zeroCells Uz (G-1)) T;have hg:=Cx.alloc W.drew ((Oo x p0 k0 p7 k7).toArray++Builtin.zeroCells Uz (G-1)) T;have ha:=B1.new hn;refine⟨by rw[hn.size];omega,?_,hn.frz,fun j c hj=>?_⟩
 ·have:=hg.bsz;refine Eq.trans this ?_;simp[Builtin.zeroCells,Oo];omega
 ·have Jy:=Sy hV;have e:Dg [x]=x.cells:=by simp[Dg]
  rw[e] at hj;have hjl:=(List.getElem?_eq_some_iff.1 hj).1;have I9:j<(Oo x p0 k0 p7 k7).length:=hjl;have hvj:(Oo x p0 k0 p7 k7)[j]?=some ((Oo x p0 k0 p7 k7)[j]'(by omega)):=List.getElem?_eq_getElem _
  refine⟨_,?_,Ns _ _ _ _ _ _ (List.mem_of_getElem? hvj),(Jy.at_ hj hvj).2.step (ha.st.weaken fun _ _ h=>h.elim) hS⟩
  rw[Bq,Fv];refine (hg.cell j).trans ?_;rw[Array.getElem?_append_left (by simpa using I9)]
  simp
theorem ZQ {B z G:Nat}{bs:List (Nat × Nat)} {Y:Nat->Prop}{y:Nat}(hy:y<z)(h:Hn B (bs++[(z,G)]) Y y):Hn B bs Y y:=by
 rcases h with e|⟨p,hp,e⟩|e
 ·exact .inl e
 ·rcases List.mem_append.1 hp with hp|hp
  ·exact .inr (.inl ⟨p,hp,e⟩)
  ·rw[List.mem_singleton] at hp;subst hp;exact absurd hy (by rw[←e];exact Nat.lt_irrefl _)
 ·exact .inr (.inr e)
set_option maxHeartbeats 1000000 in
set_option maxRecDepth 100000 in
theorem Ae5 {w:World}{Y:Nat->Prop}{ls:List Cv}{base:Option Addr}{n c:Nat}{x:Sd}{nm us:ByteArray}{p0 p7:Option Addr}{k0 k7:Nat}(hB:LE w Y ls n c base)(hV:AA w Y x p0 k0 p7 k7)(hx:x.sm)(hn1:1<=nm.size)(hn2:nm.size<=32)(hid:x.id.length=176)
  (AR:∀W,B1 (fun _=>False) w W->Calls prog 23 #[.slice base n c,.slice p0 176 k0] W fun e W'=>e=.returned (.tuple #[.int .i64 0,.int .i64 0,.bool false])∧B1 (fun _=>False) W W')
  (IH:∀W,B1 (fun _=>False) w W->Calls prog 14 #[.slice base n c,.string nm] W fun e W'=>e=.returned (.tuple #[.int .i64 0,.bool false])∧B1 (fun _=>False) W W')
  (hk:n<16):
  Calls prog 11 #[.slice base n c,.string nm,.string us,.agg #[.slice p0 x.id.length k0,.int .i64 x.ht,.int .u64 x.root,.int .u64 x.model,.int .i64 x.fmt,.bool x.sh,.int .u64 x.used,.slice p7 x.rg.length k7,.bool x.sus,.int .i64 x.since,.int .i64 x.last]] w
   fun e w'=>∃u,e=.returned (.tuple #[u,.int .i64 0])∧B1 (fun _=>False) w w'∧An w' Y (.lst false 3 (n+1) (Cq (ls++[⟨nm,us,[x]⟩]))) u:=by
 have mixed:prog.follows Departure.mixedOrders=true:=by kernel_rfl
 rw[hid];have Zk:=hB.nl;have hzn:¬((nm.size:Int)<1):=by omega
 have Avf:¬((32:Int)<(nm.size:Int)):=by omega
 go_enter Try.func11,Try.ntmps11
 go_wp2_with (go_at_call 23;refine (AR _ ?hO).mono ?_)
 case hO=>exact B1.new (D7.alloc _ _ _)
 have pr0:=Par.new w [Value.slice p0 176 k0,.int .i64 x.ht,.int .u64 x.root,.int .u64 x.model,.int .i64 x.fmt,.bool x.sh,.int .u64 x.used,.slice p7 x.rg.length k7,.bool x.sus,.int .i64 x.since,.int .i64 x.last] 33;intro e W1 he Vd;subst he;dsimp only;have g1:=(B1.new (D7.alloc w _ _)).trans Vd fun _ _ h=>h
 have pr1:=pr0.adv Vd fun h=>h
 go_wp2_with (go_at_call 14;refine (IH _ ?hF).mono ?_)
 case hF=>exact g1
 rintro e W2 ⟨he,hA2⟩
 subst he;dsimp only;have g2:=g1.trans hA2 fun _ _ h=>h
 have pr2:=pr1.adv hA2 fun h=>h
 have OE:=hB.adv g2;have Ue:¬((16:Int)<=(n:Int)):=by omega
 go_wp2_with (go_at_call 30;refine OE.copy.mono ?_)
 intro e W3 he bs VV;subst he;dsimp only;have hC:=VV.cop;have pr3:=pr2.adv hC.kept fun h=>h
 have nA:=D7.alloc W3 #[Value.string nm,.string us,.slice none 0 0] 48;have gA:=Cx.alloc W3 #[Value.string nm,.string us,.slice none 0 0] 48;have gn:=B1.new nA
 have I5:=PB (W:=W3.alloc (.cells #[Value.string nm,.string us,.slice none 0 0] 48)) (κ:=W2.heap.size) (q:=n) (cap:=n+1) (vb:=W3.heap.size) (vc:=1) (vs:=[Value.string nm,.string us,.slice none 0 0]) rfl (by
  intro v hv;simp only[List.mem_cons,List.not_mem_nil,or_false] at hv;rcases hv with rfl|rfl|rfl<;>rfl) (fun j v hj=>by rw[gA.cell j,List.getElem?_toArray];exact hj) (fun j hj=>by rw[gn.cell hC.lt (fun h=>h)];exact Ff (by rw[hC.szB];exact hj)) (fun j=>by rw[gn.frz hC.lt (fun h=>h)];exact hC.fzB j) (by omega)
 have gw:=Ay.setCells W2.heap.size [Value.string nm,.string us,.slice none 0 0] (n*3) (W3.alloc (.cells #[Value.string nm,.string us,.slice none 0 0] 48));have cin:=fun j (hj:j<3)=>World.cell?_setCells_in W2.heap.size [Value.string nm,.string us,.slice none 0 0] (n*3) (W3.alloc (.cells #[Value.string nm,.string us,.slice none 0 0] 48)) (fun t ht=>by rw[gn.cell hC.lt (fun h=>h)];exact Ff (by rw[hC.szB];simp at ht;omega)) j hj
 have cout:∀j,j<n*3->((W3.alloc (.cells #[Value.string nm,.string us,.slice none 0 0] 48)).setCells W2.heap.size (n*3) [Value.string nm,.string us,.slice none 0 0]).cell? ⟨W2.heap.size,j,none⟩=W3.cell? ⟨W2.heap.size,j,none⟩:=fun j hj=>by
  rw[World.cell?_setCells_out _ _ _ _ ⟨W2.heap.size,j,none⟩ (fun _ _=>.inl hj)]
  exact gn.cell hC.lt (fun h=>h)
 go_wp2_with (at_builtin;refine Lib.wpList_append_run _ rfl _ _ _ _ rfl _ _ rfl rfl _ _ (I5 _) ?_)
 obtain⟨W6,hW6⟩:∃W6,W6=(W3.alloc (.cells #[Value.string nm,.string us,.slice none 0 0] 48)).setCells W2.heap.size (n*3) [Value.string nm,.string us,.slice none 0 0]:=⟨_,rfl⟩;rw[←hW6] at gw cin cout ⊢;have e0:=cin 0 (by omega)
 have e1:=cin 1 (by omega)
 have e2:=cin 2 (by omega)
 rw[Nat.add_zero] at e0;have a6:B1 (fun x=>x=W2.heap.size) W3 W6:=(gn.weak (E':=fun x=>x=W2.heap.size) fun _ _ h=>h.elim).trans (B1.wrote gw) fun _ _ h=>h
 have l6:W2.heap.size<W6.heap.size:=Nat.lt_of_lt_of_le hC.lt a6.size;have s6:bsz W6 W2.heap.size=(n+1)*3:=gw.bs.trans ((gn.bs hC.lt (fun h=>h)).trans hC.szB)
 have f6:∀j,W6.frozen? ⟨W2.heap.size,j,none⟩=false:=fun j=>(gw.frz j).trans ((gn.frz hC.lt (fun h=>h)).trans (hC.fzB j))
 have hwX:¬w.heap.size=W2.heap.size:=by
  have h1:=Vd.size;have h2:=hA2.size;rw[(D7.alloc w _ _).size] at h1;omega
 have pr6:=pr3.adv a6 hwX;have p00:=pr6.2 0 _ rfl;have p01:=pr6.2 1 _ rfl;have p02:=pr6.2 2 _ rfl;have p03:=pr6.2 3 _ rfl;have p04:=pr6.2 4 _ rfl;have p05:=pr6.2 5 _ rfl;have p06:=pr6.2 6 _ rfl;have p07:=pr6.2 7 _ rfl;have p08:=pr6.2 8 _ rfl;have p09:=pr6.2 9 _ rfl;have p10:=pr6.2 10 _ rfl
 have hS6:∀y,Hn W2.heap.size bs Y y->y<W6.heap.size:=by
  rintro y (e|⟨p,hp,rfl⟩|e)
  ·rw[e];exact l6
  ·exact Nat.lt_of_lt_of_le (hC.blkLt hp) a6.size
  ·exact Nat.lt_of_lt_of_le (OE.y y e) (Nat.le_trans hC.kept.size a6.size)
 have hV6:AA W6 (Hn W2.heap.size bs Y) x p0 k0 p7 k7:=((hV.adv g2 (fun _ _ h=>h.elim) (fun _ _ h=>h)).adv hC.kept (S':=Hn W2.heap.size bs Y) (fun _ _ h=>h.elim) (by
  rintro y hy (e|⟨p,hp,e⟩|e)
  ·omega
  ·have:=(hC.blk p hp).1;omega
  ·exact e)).adv a6 (fun _ _ e=>.inl e) (fun _ _ h=>h)
 have hcp:∀W,B1 (fun _=>False) W6 W->Calls prog 31 #[.agg #[.slice p0 176 k0,.int .i64 x.ht,.int .u64 x.root,.int .u64 x.model,.int .i64 x.fmt,.bool x.sh,.int .u64 x.used,.slice p7 x.rg.length k7,.bool x.sus,.int .i64 x.since,.int .i64 x.last]] W fun e W'=>∃q0 l0 q7 l7,e=.returned (.agg #[.slice q0 176 l0,.int .i64 x.ht,.int .u64 x.root,.int .u64 x.model,.int .i64 x.fmt,.bool x.sh,.int .u64 x.used,.slice q7 x.rg.length l7,.bool x.sus,.int .i64 x.since,.int .i64 x.last])∧B1 (fun _=>False) W W'∧AA W' (Hn W2.heap.size bs Y) x q0 l0 q7 l7:=fun W hW=>by
  have h:=Nc (fun y hy=>Nat.lt_of_lt_of_le (hS6 y hy) hW.size) hx.1 (Nat.le_trans hx.2 (by omega)) (hV6.adv hW (fun _ _ h=>h.elim) (fun _ _ h=>h))
  simp only[Oo,hid] at h;exact h
 clear hW6 I5 gA nA VV AR IH;have hnn:(n:Int)<(n:Int)+1:=by omega
 go_wp2
 go_region_law_o (first|(refine M3 rfl rfl rfl ngA Try.func31 rfl (by simp[Act.eval,Act.put]) (hcp _ ?hW) ?_;(case hW=>exact B1.drew W6);rintro e W4 ⟨q0,l0,q7,l7,he4,UG,hV4⟩;refine⟨_,he4,?_⟩;have gA4:B1 (fun _=>False) W6 W4:=(B1.drew W6).trans UG (fun _ _ h=>h);have d24:=e2;rw[←gA4.cell l6 (fun h=>h)] at d24;have Ati:W2.heap.size<W4.heap.size:=Nat.lt_of_lt_of_le l6 gA4.size)|(have gn4:=B1.new (D7.alloc W4 #[Value.slice q0 176 l0,.int .i64 x.ht,.int .u64 x.root,.int .u64 x.model,.int .i64 x.fmt,.bool x.sh,.int .u64 x.used,.slice q7 x.rg.length l7,.bool x.sus,.int .i64 x.since,.int .i64 x.last] 33);have hgw:=Cx.alloc W4 #[Value.slice q0 176 l0,.int .i64 x.ht,.int .u64 x.root,.int .u64 x.model,.int .i64 x.fmt,.bool x.sh,.int .u64 x.used,.slice q7 x.rg.length l7,.bool x.sus,.int .i64 x.since,.int .i64 x.last] 33;have I5:=Ae4 (vb:=W4.heap.size) (vc:=1) (vs:=Oo x q0 l0 q7 l7) rfl (Ns _ _ _ _ _) (fun j v hj=>by rw[hgw.cell j,List.getElem?_toArray];rw[Oo,hid] at hj;exact hj);have hV5:=hV4.adv gn4 (fun _ _ h=>h.elim) (fun _ _ h=>h);have g5:=gA4.trans gn4 fun _ _ h=>h;obtain⟨W5,hW5⟩:∃W5,W5=W4.alloc (.cells #[Value.slice q0 176 l0,.int .i64 x.ht,.int .u64 x.root,.int .u64 x.model,.int .i64 x.fmt,.bool x.sh,.int .u64 x.used,.slice q7 x.rg.length l7,.bool x.sus,.int .i64 x.since,.int .i64 x.last] 33):=⟨_,rfl⟩;rw[←hW5] at I5 hV5 g5 ⊢;obtain⟨G,hG⟩:∃G,G=grownCap W5 1 0 33:=⟨_,rfl⟩;have hG1:1<=G:=(by rw[hG];exact grownCap_ge W5 _ _ _);rw[←hG] at I5;have row7:=Afn (S':=Hn W2.heap.size (bs++[(W5.heap.size,G)]) Y) (T:=33) hV5 hG1 (fun y hy e=>ZQ hy e);have g7:=g5.trans (B1.new (D7.allocD W5 ((Oo x q0 l0 q7 l7).toArray++Builtin.zeroCells Uz (G-1)) 33)) fun _ _ h=>h;obtain⟨W7,hW7⟩:∃W7,W7=W5.drew.alloc (.cells ((Oo x q0 l0 q7 l7).toArray++Builtin.zeroCells Uz (G-1)) 33):=⟨_,rfl⟩;rw[←hW7] at I5 row7 g7;have d27:=e2;rw[←g7.cell l6 (fun h=>h)] at d27;have f27:=f6 (n*3+2);rw[←g7.frz l6 (fun h=>h)] at f27;have hF:=hC.fresh (W7:=W7) (a:=⟨nm,us,[x]⟩) (κ:=W5.heap.size) (G:=G) (by omega) ((a6.trans g7 fun _ _ h=>h.elim)) ((g7.bs l6 (fun h=>h)).trans s6) (fun j=>(g7.frz l6 (fun h=>h)).trans (f6 j)) (fun j hj=>by rw[g7.cell l6 (fun h=>h)];exact cout j (by omega)) (by rw[g7.cell l6 (fun h=>h),Zk];exact e0) (by rw[g7.cell l6 (fun h=>h),Zk];exact e1) (Nat.le_trans a6.size g5.size) hG1 row7 OE.y;rw[Zk] at hF;clear hW5 hW7 row7 hG;refine H2 rfl _ _ 46 46 rfl _ _ (by simp[Act.eval,Act.put]) (by simp[Act.eval,Act.put]) (I5 _) ?_))
 all_goals go_wp2
 all_goals go_ret2
 all_goals
  have ht:=hF.tree (Y:=Y) OE.y (by simp;omega) (fun _ h=>h)
  have ea:Cq (ls++[⟨nm,us,[x]⟩])=List.flatMap Cv.cells ls++Cv.cells ⟨nm,us,[x]⟩:=by unfold Cq;rw[List.flatMap_append];simp
  rw[Yb,Zk,ea] at ht;exact⟨_,rfl,g2.trans hF.kept (fun _ _ h=>h),ht⟩
end
section
open Go.Proofs.Try (prog)
open Go.IntKind (wrap)
open Go.RowKit Go.Lib
theorem K6.put {w:World}{S:Nat->Prop}{b sz o:Nat}{cells cells' ps:List PV}{vs:List Value}(h:K6 w S b sz cells)(hS:S b)(hv:Av (fun p v=>Ku p∧An w S p v) ps vs) (h1:∀v∈vs,v.oneCell'=true)(Ady:o+ps.length<=sz)
  (Aad:∀(j:Nat) c,j<o->cells'[j]?=some c->cells[j]?=some c) (Atn:∀j,j<ps.length->cells'[o+j]?=ps[j]?) (Amb:∀(j:Nat) c,o+ps.length<=j->cells'[j]?=some c->cells[j]?=some c):K6 (w.setCells b o vs) S b sz cells':=by
 have g:=Ay.setCells b vs o w;have ga:=(B1.wrote g).weak (E':=S) fun x _ e=>e ▸ hS
 have hl:=hv.len;refine⟨by rw[g.size];exact h.lt,g.bs.trans h.sz,fun j=>(g.frz j).trans (h.fz j),fun j c hj=>?_⟩
 rw[Bq,Fv];by_cases Qz:j<o
 ·obtain⟨v,a1,a2,a3⟩:=h.rd j c (Aad j c Qz hj);rw[Bq,Fv] at a1;refine⟨v,?_,a2,a3.step ga.st fun _ _ x=>x⟩
  rw[World.cell?_setCells_out b _ _ _ ⟨b,j,none⟩ (fun _ _=>.inl Qz)]
  exact a1
 ·by_cases PP:j<o+ps.length
  ·have hm:=Atn (j-o) (by omega)
   rw[show o+(j-o)=j by omega,hj] at hm
   have hvj:vs[j-o]?=some (vs[j-o]'(by omega)):=List.getElem?_eq_getElem _
   have:=World.cell?_setCells_in b vs o w (fun t ht=>h.cellAt (by omega)) (j-o) (by omega)
   rw[show o+(j-o)=j by omega] at this
   exact⟨_,this,h1 _ (List.mem_of_getElem? hvj),(hv.at_ hm.symm hvj).2.step ga.st fun _ _ x=>x⟩
  ·obtain⟨v,a1,a2,a3⟩:=h.rd j c (Amb j c (by omega) hj)
   rw[Bq,Fv] at a1;refine⟨v,?_,a2,a3.step ga.st fun _ _ x=>x⟩
   rw[World.cell?_setCells_out b _ _ _ ⟨b,j,none⟩ (fun _ _=>.inr (by show o+vs.length<=j;omega))]
   exact a1
theorem KE {l:List Sd}{k:Nat}{x:Sd}(hk:k<l.length){j:Nat}:(j<k*11∨k*11+11<=j->(Dg (l.set k x))[j]?=(Dg l)[j]?)∧(∀t,t<11->(Dg (l.set k x))[k*11+t]?=x.cells[t]?):=by
 have e1:Dg l=Dg (l.take k)++(Dg [l[k]]++Dg (l.drop (k+1))):=by
  unfold Dg;rw[←List.flatMap_append,←List.flatMap_append,List.singleton_append,List.getElem_cons_drop,List.take_append_drop]
 have e2:Dg (l.set k x)=Dg (l.take k)++(Dg [x]++Dg (l.drop (k+1))):=by
  rw[List.set_eq_take_append_cons_drop,Lw hk];unfold Dg;rw[List.flatMap_append,List.flatMap_cons];simp
 have l1:(Dg (l.take k)).length=k*11:=by rw[Nd,List.length_take];omega
 have l2:∀y:Sd,(Dg [y]).length=11:=fun y=>Nd [y]
 rw[e1,e2];refine⟨fun h=>?_,fun t ht=>?_⟩
 ·by_cases hj:j<k*11
  ·rw[List.getElem?_append_left (by omega),List.getElem?_append_left (by omega)]
  ·have lx:=l2 x;have lk:=l2 l[k];rw[List.getElem?_append_right (by omega),List.getElem?_append_right (by omega),List.getElem?_append_right (by omega),List.getElem?_append_right (by omega),l2,l2]
 ·rw[List.getElem?_append_right (by omega),List.getElem?_append_left (by rw[l2];omega),l1,Nat.add_sub_cancel_left]
  have:Dg [x]=x.cells:=by simp[Dg]
  rw[this]
theorem Tu.repl {w W:World}{Y:Nat->Prop}{B cap i k:Nat}{ls:List Cv}{bs:List (Nat × Nat)} {a:Cv}{bp:Nat × Nat}{x:Sd}{p0 p7:Option Addr}{k0 k7:Nat}(h:Tu w W Y B cap ls bs)(hi:ls[i]?=some a) (hb:bs[i]?=some bp) (hk:k<a.cr.length)
  (hV:AA W (Hn B bs Y) x p0 k0 p7 k7):Tu w (W.setCells bp.1 (k*11) (Oo x p0 k0 p7 k7)) Y B cap (ls.set i { a with cr:=a.cr.set k x }) bs:=by
 have hbm:=List.mem_of_getElem? hb;have AY:¬B=bp.1:=fun e=>(h.blk bp hbm).2 e.symm
 have We:Hn B bs Y bp.1:=.inr (.inl ⟨bp,hbm,rfl⟩);obtain⟨_,_,d2,d3⟩:=h.cell i a bp hi hb;have row:=h.row i a bp hi hb;have sg:=fun j=>KE (l:=a.cr) (x:=x) hk (j:=j)
 have row6:=row.put (cells':=Dg (a.cr.set k x)) (o:=k*11) We (Sy hV) (Ns _ _ _ _ _) (by show k*11+11<=_;omega) (fun j c hj hc=>by rw[←(sg j).1 (.inl hj)];exact hc) (fun j hj=>(sg j).2 j hj) (fun j c hj hc=>by rw[←(sg j).1 (.inr hj)];exact hc)
 have g1:=Ay.setCells bp.1 (Oo x p0 k0 p7 k7) (k*11) W;have a1:=B1.wrote g1;refine h.set (a':={ a with cr:=a.cr.set k x }) hi hb rfl rfl (by show (a.cr.set k x).length<=_;rw[List.length_set];exact d3) (a1.weak (E':=fun y=>y=B∨y=bp.1) fun y _ e=>.inr e) ((a1.bs h.lt AY).trans h.szB) (fun j=>(a1.frz h.lt AY).trans (h.fzB j)) (fun j hj=>a1.cell h.lt AY) ?_ row6
 rw[a1.cell h.lt AY,d2];show _=some (Value.slice _ (a.cr.set k x).length _);rw[List.length_set]
set_option maxHeartbeats 1000000 in
set_option maxRecDepth 100000 in
theorem Aag {w:World}{Y:Nat->Prop}{ls:List Cv}{base:Option Addr}{n c i k:Nat}{a:Cv}{x:Sd}{nm:ByteArray}{p0 p7:Option Addr}{k0 k7:Nat}(hB:LE w Y ls n c base)(hV:AA w Y x p0 k0 p7 k7)(hx:x.sm)
  (EA:∀W,B1 (fun _=>False) w W->Calls prog 37 #[.slice base n c,.string nm,.slice p0 x.id.length k0] W fun e W'=>e=.returned (.tuple #[.int .i64 i,.int .i64 k,.bool true])∧B1 (fun _=>False) W W')
  (hi:ls[i]?=some a) (hk:k<a.cr.length):
  Calls prog 18 #[.slice base n c,.string nm,.agg #[.slice p0 x.id.length k0,.int .i64 x.ht,.int .u64 x.root,.int .u64 x.model,.int .i64 x.fmt,.bool x.sh,.int .u64 x.used,.slice p7 x.rg.length k7,.bool x.sus,.int .i64 x.since,.int .i64 x.last]] w
   fun e w'=>∃u,e=.returned (.tuple #[u,.int .i64 0])∧B1 (fun _=>False) w w'∧An w' Y (.lst false 3 n (Cq (ls.set i { a with cr:=a.cr.set k x }))) u:=by
 have mixed:prog.follows Departure.mixedOrders=true:=by kernel_rfl
 have hin:=(List.getElem?_eq_some_iff.1 hi).1;have Zk:=hB.nl;have Qf:(i:Int)<(n:Int):=by omega
 have hk0:(k:Int)<(a.cr.length:Int):=by omega
 go_enter Try.func18,Try.ntmps18
 go_wp2_with (go_at_call 37;refine (EA _ ?hO).mono ?_)
 case hO=>exact B1.new (D7.alloc _ _ _)
 have pr0:=Par.new w [Value.slice p0 x.id.length k0,.int .i64 x.ht,.int .u64 x.root,.int .u64 x.model,.int .i64 x.fmt,.bool x.sh,.int .u64 x.used,.slice p7 x.rg.length k7,.bool x.sus,.int .i64 x.since,.int .i64 x.last] 33;intro e W1 he Vd;subst he;dsimp only;have g1:=(B1.new (D7.alloc w _ _)).trans Vd fun _ _ h=>h
 have pr1:=pr0.adv Vd fun h=>h
 have OE:=hB.adv g1
 go_wp2_with (go_at_call 30;refine OE.copy.mono ?_)
 rintro e W3 ⟨bs,he,VV⟩
 subst he;dsimp only;have hC:=VV.cop;have pr3:=pr1.adv hC.kept fun h=>h
 have ebi:bs[i]?=some (bs[i]'(by rw[hC.len];exact hin)):=List.getElem?_eq_getElem _
 obtain⟨bp,hbp⟩:∃bp,bs[i]'(by rw[hC.len];exact hin)=bp:=⟨_,rfl⟩
 rw[hbp] at ebi;obtain⟨_,_,d2,d3⟩:=hC.cell i a bp hi ebi;obtain⟨κ,kc⟩:=bp;obtain rfl:kc=a.cr.length+1:=VV.room i a _ hi ebi;clear hbp;dsimp only at d2
 have hS3:∀y,Hn W1.heap.size bs Y y->y<W3.heap.size:=by
  rintro y (e|⟨p,hp,rfl⟩|e)
  ·rw[e];exact hC.lt
  ·exact hC.blkLt hp
  ·exact Nat.lt_of_lt_of_le (OE.y y e) hC.kept.size
 have hV3:AA W3 (Hn W1.heap.size bs Y) x p0 k0 p7 k7:=(hV.adv g1 (fun _ _ h=>h.elim) (fun _ _ h=>h)).adv hC.kept (fun _ _ h=>h.elim) (by
  rintro y hy (e|⟨p,hp,e⟩|e)
  ·omega
  ·have:=(hC.blk p hp).1;omega
  ·exact e)
 have hcp:∀W,B1 (fun _=>False) W3 W->Calls prog 31 #[.agg #[.slice p0 x.id.length k0,.int .i64 x.ht,.int .u64 x.root,.int .u64 x.model,.int .i64 x.fmt,.bool x.sh,.int .u64 x.used,.slice p7 x.rg.length k7,.bool x.sus,.int .i64 x.since,.int .i64 x.last]] W fun e W'=>∃q0 l0 q7 l7,e=.returned (.agg #[.slice q0 x.id.length l0,.int .i64 x.ht,.int .u64 x.root,.int .u64 x.model,.int .i64 x.fmt,.bool x.sh,.int .u64 x.used,.slice q7 x.rg.length l7,.bool x.sus,.int .i64 x.since,.int .i64 x.last])∧B1 (fun _=>False) W W'∧AA W' (Hn W1.heap.size bs Y) x q0 l0 q7 l7:=fun W hW=>
  Nc (fun y hy=>Nat.lt_of_lt_of_le (hS3 y hy) hW.size) hx.1 (Nat.le_trans hx.2 (by omega)) (hV3.adv hW (fun _ _ h=>h.elim) (fun _ _ h=>h))
 have p00:=pr3.2 0 _ rfl;have p01:=pr3.2 1 _ rfl;have p02:=pr3.2 2 _ rfl;have p03:=pr3.2 3 _ rfl;have p04:=pr3.2 4 _ rfl;have p05:=pr3.2 5 _ rfl;have p06:=pr3.2 6 _ rfl;have p07:=pr3.2 7 _ rfl;have p08:=pr3.2 8 _ rfl;have p09:=pr3.2 9 _ rfl;have p10:=pr3.2 10 _ rfl;have row3:=hC.row i a _ hi ebi;dsimp only at row3;have hyk:a.cr[k]?=some a.cr[k]:=List.getElem?_eq_getElem hk;obtain⟨y0,yk0,y7,yk7,hcy,_⟩:=HK row3.rd hyk;simp only[Fv] at hcy;clear EA VV
 go_wp2
 go_region_law_o (refine M3 rfl rfl rfl ngA Try.func31 rfl (by simp[Act.eval,Act.put]) (hcp _ ?hW) ?_;(case hW=>exact B1.drew W3);rintro e W4 ⟨q0,l0,q7,l7,he4,UG,hV4⟩;refine⟨_,he4,?_⟩;have gA4:B1 (fun _=>False) W3 W4:=(B1.drew W3).trans UG (fun _ _ h=>h);have d24:=d2;rw[←gA4.cell hC.lt (fun h=>h)] at d24;have hC4:=hC.adv gA4 (ex':=Y) (fun _ _ h=>h.elim) (fun _ _ h=>h);have hR:=hC4.repl hi ebi hk hV4;have f4:=(hC4.row i a _ hi ebi).fz;have Wn:∀j v,(Oo a.cr[k] y0 yk0 y7 yk7)[j]?=some v->W4.cell? ⟨κ,k*11+j,none⟩=some v:=fun j v hj=>(by rw[gA4.cell row3.lt (fun h=>h)];exact hcy j v hj);have y00:W4.cell? ⟨κ,k*11,none⟩=_:=Wn 0 _ rfl;have y01:=Wn 1 _ rfl;have y02:=Wn 2 _ rfl;have y03:=Wn 3 _ rfl;have y04:=Wn 4 _ rfl;have y05:=Wn 5 _ rfl;have y06:=Wn 6 _ rfl;have y07:=Wn 7 _ rfl;have y08:=Wn 8 _ rfl;have y09:=Wn 9 _ rfl;have E1:=Wn 10 _ rfl;clear Wn)
 all_goals go_wp2
 all_goals go_ret2
 all_goals
  simp only[Oo,World.setCells,Nat.add_assoc,Nat.reduceAdd] at hR;have ht:=hR.tree (Y:=Y) OE.y (by rw[List.length_set];omega) (fun _ h=>h)
  rw[List.length_set,Zk] at ht;exact⟨_,rfl,g1.trans hR.kept (fun _ _ h=>h),ht⟩
end
section
open Go.Proofs.Try (prog)
open Go.IntKind (wrap)
open Go.RowKit Go.Lib
theorem Adz {w:World}{es vb vo r vc:Nat}{vs:List Value}(I9:vs.length=r*es)(Ex:∀j v,vs[j]?=some v->w.cell? ⟨vb,vo+j,none⟩=some v) (Z9:∀v∈vs,v.oneCell'=true):
  Pv.Src prog w (fun _=>False) es (.slice (some ⟨vb,vo,none⟩) r vc) r (vs.map .sc) vs where
 len:=fun w'=>by simp[Builtin.lenOf]
 cells:=fun w' hw=>by
  refine Pv.run_first_slice (w:=w') (.inr ⟨_,rfl,I9,fun j v hj=>?_⟩)
  have hv:=Ex j v hj;rw[Addr.add_lit,World.cell?_of_block (w:=w) (hw vb (block_lt_of_cell hv))];exact hv
 part:=fun k hk=>by
  refine run_firstCells_some w es k ⟨vb,vo,none⟩ r vc _ (by rw[List.length_take,I9];exact Nat.min_eq_left (Nat.mul_le_mul_right es hk)) fun j v hj=>?_
  rw[List.getElem?_take] at hj;split at hj
  ·rw[Addr.add_lit];exact Ex j v hj
  ·cases hj
 one:=Z9
 rep:=by
  clear Ex Z9 I9
  induction vs with
  |nil=>trivial
  |cons v vs ih=>exact⟨.sc v,ih⟩
theorem XI {W:World}{κ o cap:Nat}(hc:∀j,j<11->(W.cell? ⟨κ,o+j,none⟩).isSome=true) (hf:∀j,W.frozen? ⟨κ,j,none⟩=false)(ty:TypeId):
  (Builtin.clear_ #[46] ty #[.slice (some ⟨κ,o,none⟩) 1 cap]).run prog W=.ok (.tuple #[]) (W.setCells κ o Uz.toList):=by
 obtain⟨i0,Qf,GC,K5,LA⟩:=info_parts Xz
 have Jp:=run_storeCells_cells (P:=prog) κ o Uz.toList 0 W (by simpa using hc) (fun j _=>by simpa using hf (o+(0+j))) (by
  intro v hv;simp only[List.mem_cons,List.not_mem_nil,or_false] at hv;rcases hv with rfl|rfl|rfl|rfl|rfl|rfl|rfl|rfl|rfl|rfl|rfl<;>rfl)
 simp only[Nat.add_zero] at Jp;have hzc:(Builtin.zeroCells (Value.agg Uz).cells 1).toList=Uz.toList:=by kernel_rfl
 simp[Builtin.clear_,run_underlying Oq,zeroValue,typeInfo,Qf,GC,hzc] at Jp ⊢;simp[Jp]
theorem YI {w:World}{S:Nat->Prop}{b:Nat}{cells:List PV}(h:Se w S ⟨b,0,none⟩ cells):∃vs:List Value,Av (fun p v=>An w S p v) cells vs∧(∀j v,vs[j]?=some v->w.cell? ⟨b,j,none⟩=some v)∧∀v∈vs,v.oneCell'=true:=by
 suffices H:∀(cells:List PV) (o:Nat),(∀(j:Nat) c,cells[j]?=some c->∃v,w.cell? ⟨b,o+j,none⟩=some v∧v.oneCell'=true∧An w S c v)->∃vs:List Value,Av (fun p v=>An w S p v) cells vs∧(∀j v,vs[j]?=some v->w.cell? ⟨b,o+j,none⟩=some v)∧∀v∈vs,v.oneCell'=true by
  obtain⟨vs,h1,h2,h3⟩:=H cells 0 (fun j c hj=>by
   obtain⟨v,a1,a2,a3⟩:=h j c hj;rw[Bq] at a1;exact⟨v,a1,a2,a3⟩)
  exact⟨vs,h1,fun j v hj=>by have:=h2 j v hj;rwa [Fv] at this,h3⟩
 intro cells
 induction cells with
 |nil=>intro o _;exact⟨[],trivial,fun j v hj=>(by cases hj),fun v hv=>(by cases hv)⟩
 |cons c cs ih=>
  intro o h;obtain⟨v,a1,a2,a3⟩:=h 0 c rfl
  obtain⟨vs,b1,b2,b3⟩:=ih (o+1) (fun j c hj=>by
   obtain⟨v,a1,a2,a3⟩:=h (j+1) c hj;rw[show o+(j+1)=o+1+j by omega] at a1
   exact⟨v,a1,a2,a3⟩)
  refine⟨v::vs,⟨a3,b1⟩,fun j u hj=>?_,fun u hu=>?_⟩
  ·cases j with
   |zero=>cases hj;exact a1
   |succ j=>rw[show o+(j+1)=o+1+j by omega];exact b2 j u hj
  ·rcases List.mem_cons.1 hu with rfl|hu
   ·exact a2
   ·exact b3 u hu
set_option maxHeartbeats 1000000 in
set_option maxRecDepth 100000 in
theorem XO {w:World}{κ r k:Nat}{vs:List Value}(I9:vs.length=(r+1)*11) (Ex:∀j v,vs[j]?=some v->w.cell? ⟨κ,j,none⟩=some v) (h1:∀v∈vs,v.oneCell'=true)(hc:∀j,j<(r+2)*11->(w.cell? ⟨κ,j,none⟩).isSome=true) (hf:∀j,w.frozen? ⟨κ,j,none⟩=false)(hk:k<=r)(hm:r<=1000):
  Calls prog 38 #[.slice (some ⟨κ,0,none⟩) (r+1) (r+2),.int .i64 k,.int .i64 ((k:Int)+1)] w fun e w'=>e=.returned (.slice (some ⟨κ,0,none⟩) r (r+2)) ∧
   w'=(w.drew.setCells κ (k*11) (vs.drop ((k+1)*11))).setCells κ (r*11) Uz.toList:=by
 have mixed:prog.follows Departure.mixedOrders=true:=by kernel_rfl
 obtain⟨i0,Qf,GC,K5,LA⟩:=info_parts Xz;have NA:(vs.drop ((k+1)*11)).length=(r-k)*11:=by rw[List.length_drop,I9];omega
 have Ko:=Adz (w:=w.drew) (vb:=κ) (vo:=(k+1)*11) (r:=r-k) (vc:=r+1-k) (es:=11) NA (fun j v hj=>by rw[List.getElem?_drop] at hj;exact Ex _ v hj) (fun v hv=>h1 v (List.mem_of_mem_drop hv))
 have I5:∀ty,(Builtin.append_ #[46,46] ty #[.slice (some ⟨κ,0,none⟩) k (r+2),.slice (some ⟨κ,(k+1)*11,none⟩) (r-k) (r+1-k)]).run prog w.drew=.ok (.slice (some ⟨κ,0,none⟩) r (r+2)) (w.drew.setCells κ (k*11) (vs.drop ((k+1)*11))):=fun ty=>by
  have h:=Pv.append_room_run (P:=prog) (w:=w.drew) (t:=46) (tx:=46) (ty:=ty) (ts:=[]) (b:=κ) (ob:=0) (n:=k) (cap:=r+2) Oq Oq (fun k=>by simp) Qf (by rw[K5];exact Ko) (by rw[NA,K5])
   (fun j hj=>by rw[K5];exact hc _ (by omega)) (fun j hj=>hf _) (by omega)
  rw[K5,Fv,show k+(r-k)=r by omega] at h
  exact h
 have AH:¬((k:Int)=(k:Int)+1):=by omega
 have Wv:(k:Int)<=(r:Int)+2:=by omega
 have hq3:(k:Int)+1<=(r:Int)+1:=by omega
 have A0l:r+1-(k+1)=r-k:=by omega
 have hq4:¬(r+2=k+1):=by omega
 have hq6:(0:Int)<=(k:Int)+1:=by omega
 have hq5:¬(r+2=r):=by omega
 go_enter Try.func38,Try.ntmps38
 go_wp2
 go_region_law_o? (refine H2 rfl _ _ 46 46 rfl _ _ (by simp[Act.eval,Act.put]) (by simp[Act.eval,Act.put]) (I5 _) ?_)
 obtain⟨W1,Z8⟩:∃W1,W1=w.drew.setCells κ (k*11) (vs.drop ((k+1)*11)):=⟨_,rfl⟩;rw[←Z8];have gw:=Ay.setCells κ (vs.drop ((k+1)*11)) (k*11) w.drew;rw[←Z8] at gw;have c1:∀j,j<(r+2)*11->(W1.cell? ⟨κ,j,none⟩).isSome=true:=fun j hj=>by rw[Z8];exact Gk _ _ _ _ _ (hc j hj)
 have Lp:=XI (W:=W1) (κ:=κ) (o:=r*11) (cap:=2) (fun j hj=>c1 _ (by omega)) (fun j=>(gw.frz j).trans (hf j))
 have hX:Hid (W1=w.drew.setCells κ (k*11) (vs.drop ((k+1)*11))):=Z8;clear I5 Ko NA Ex h1 hc hf c1 Z8
 go_wp2
 go_ret
 refine⟨rfl,?_⟩;have hX':W1=w.drew.setCells κ (k*11) (vs.drop ((k+1)*11)):=hX;rw[hX']
theorem Aei (l:List Sd):∀c∈Dg l,Ku c:=by
 intro c hc;obtain⟨s,_,hs⟩:=List.mem_flatMap.1 hc;simp only[Sd.cells,List.mem_cons,List.not_mem_nil,or_false] at hs;rcases hs with rfl|rfl|rfl|rfl|rfl|rfl|rfl|rfl|rfl|rfl|rfl<;>trivial
theorem Aev {w:World}{S:Nat->Prop}{κ r k sz:Nat}{l:List Sd}{vs:List Value}(row:K6 w S κ sz (Dg l)) (hl:l.length=r+1)(hk:k<=r)(J1:(r+1)*11<=sz) (hS:S κ)(hv:Av (fun p v=>An w S p v) (Dg l) vs) (h1:∀v∈vs,v.oneCell'=true):
  K6 ((w.setCells κ (k*11) (vs.drop ((k+1)*11))).setCells κ (r*11) Uz.toList) S κ sz (Dg (l.eraseIdx k)):=by
 have L:(Dg l).length=(r+1)*11:=by rw[Nd,hl]
 have Kv:Av (fun p v=>Ku p∧An w S p v) (Dg l) vs:=hv.mono_mem fun a ha b h=>⟨Aei l a ha,h⟩
 have e:Dg (l.eraseIdx k)=(Dg l).take (k*11)++(Dg l).drop ((k+1)*11):=by
  rw[List.eraseIdx_eq_take_drop_succ];unfold Dg;rw[List.flatMap_append]
  congr 1
  ·exact (Xc (f:=Sd.cells) (k:=11) (fun _=>rfl) l k).symm
  ·exact (Sv (f:=Sd.cells) (k:=11) (fun _=>rfl) l (k+1)).symm
 have l1:((Dg l).take (k*11)).length=k*11:=by rw[List.length_take,L];omega
 have l2:((Dg l).drop ((k+1)*11)).length=(r-k)*11:=by rw[List.length_drop,L];omega
 have row1:=row.put (cells':=(Dg l).take (k*11)++(Dg l).drop ((k+1)*11)++(Dg l).drop (r*11)) (o:=k*11) (ps:=(Dg l).drop ((k+1)*11)) (vs:=vs.drop ((k+1)*11)) hS (Kv.drop _) (fun v hv=>h1 v (List.mem_of_mem_drop hv)) (by omega)
  (fun j c hj hc=>by
   rw[List.getElem?_append_left (by rw[Yb];omega),List.getElem?_append_left (by omega),List.getElem?_take,Lw hj] at hc
   exact hc)
  (fun j hj=>by rw[List.getElem?_append_left (by rw[Yb];omega),List.getElem?_append_right (by omega),l1,Nat.add_sub_cancel_left])
  (fun j c hj hc=>by
   rw[List.getElem?_append_right (by rw[Yb];omega),List.getElem?_drop,Yb,l1,l2] at hc
   rw[←hc]
   congr 1
   omega)
 have hz:Uz.toList.length=11:=rfl;have hzv:Av (fun p v=>Ku p∧An (w.setCells κ (k*11) (vs.drop ((k+1)*11))) S p v) (Uz.toList.map PV.sc) Uz.toList:=⟨⟨trivial,.sc _⟩,⟨trivial,.sc _⟩,⟨trivial,.sc _⟩,⟨trivial,.sc _⟩,⟨trivial,.sc _⟩,⟨trivial,.sc _⟩,⟨trivial,.sc _⟩,⟨trivial,.sc _⟩,⟨trivial,.sc _⟩,⟨trivial,.sc _⟩,⟨trivial,.sc _⟩,trivial⟩
 have row2:=row1.put (cells':=((Dg l).take (k*11)++(Dg l).drop ((k+1)*11))++Uz.toList.map PV.sc) (o:=r*11) (ps:=Uz.toList.map PV.sc) (vs:=Uz.toList) hS hzv (by
   intro v hv;simp only[List.mem_cons,List.not_mem_nil,or_false] at hv;rcases hv with rfl|rfl|rfl|rfl|rfl|rfl|rfl|rfl|rfl|rfl|rfl<;>rfl) (by show r*11+11<=_;omega)
  (fun j c hj hc=>by
   rw[List.getElem?_append_left (by rw[Yb];omega)] at hc ⊢
   exact hc)
  (fun j hj=>by rw[List.getElem?_append_right (by rw[Yb];omega),Yb,l1,l2];congr 1;omega)
  (fun j c hj hc=>by
   have Kw:r*11+11<=j:=hj;rw[List.getElem?_append_right (by rw[Yb];omega),Yb,l1,l2] at hc
   have:=(List.getElem?_eq_some_iff.1 hc).1;rw[List.length_map,hz] at this;omega)
 rw[e];exact⟨row2.lt,row2.sz,row2.fz,fun j c hj=>row2.rd j c (by rw[List.getElem?_append_left (List.getElem?_eq_some_iff.1 hj).1];exact hj)⟩
set_option maxHeartbeats 1000000 in
set_option maxRecDepth 100000 in
theorem XP {w:World}{Y:Nat->Prop}{ls:List Cv}{base:Option Addr}{n c i k:Nat}{a:Cv}{nm:ByteArray}{p0:Option Addr}{m0 k0:Nat}(hB:LE w Y ls n c base)
  (EA:∀W,B1 (fun _=>False) w W->Calls prog 37 #[.slice base n c,.string nm,.slice p0 m0 k0] W fun e W'=>e=.returned (.tuple #[.int .i64 i,.int .i64 k,.bool true])∧B1 (fun _=>False) W W')
  (hi:ls[i]?=some a) (hk:k<a.cr.length):
  Calls prog 16 #[.slice base n c,.string nm,.slice p0 m0 k0] w
   fun e w'=>∃u,e=.returned (.tuple #[u,.int .i64 0])∧B1 (fun _=>False) w w'∧An w' Y (.lst false 3 n (Cq (ls.set i { a with cr:=a.cr.eraseIdx k }))) u:=by
 have mixed:prog.follows Departure.mixedOrders=true:=by kernel_rfl
 have hin:=(List.getElem?_eq_some_iff.1 hi).1;have Zk:=hB.nl;have ham:=(hB.sm a (List.mem_of_getElem? hi)).1;obtain⟨r,hr⟩:∃r,a.cr.length=r+1:=⟨a.cr.length-1,by omega⟩
 have Qf:(i:Int)<(n:Int):=by omega
 go_enter Try.func16,Try.ntmps16
 go_wp2_with (go_at_call 37;refine (EA _ ?hO).mono ?_)
 case hO=>exact B1.refl _ _
 intro e W1 he Vd;subst he;dsimp only;have OE:=hB.adv Vd
 go_wp2_with (go_at_call 30;refine OE.copy.mono ?_)
 rintro e W3 ⟨bs,he,VV⟩
 subst he;dsimp only;have hC:=VV.cop;have ebi:bs[i]?=some (bs[i]'(by rw[hC.len];exact hin)):=List.getElem?_eq_getElem _
 obtain⟨bp,hbp⟩:∃bp,bs[i]'(by rw[hC.len];exact hin)=bp:=⟨_,rfl⟩
 rw[hbp] at ebi;obtain⟨_,_,d2,d3⟩:=hC.cell i a bp hi ebi;obtain⟨κ,kc⟩:=bp;obtain rfl:kc=a.cr.length+1:=VV.room i a _ hi ebi;clear hbp d3;dsimp only at d2;have row3:=hC.row i a _ hi ebi;dsimp only at row3;rw[hr] at row3 d2;have hbm:=List.mem_of_getElem? ebi;have Gh:κ≠W1.heap.size:=(hC.blk _ hbm).2;have hSκ:Hn W1.heap.size bs Y κ:=.inr (.inl ⟨_,hbm,rfl⟩)
 have Aui:∀W,B1 (fun _=>False) W3 W->Calls prog 38 #[.slice (some ⟨κ,0,none⟩) (r+1) (r+1+1),.int .i64 k,.int .i64 ((k:Int)+1)] W fun e W'=>e=.returned (.slice (some ⟨κ,0,none⟩) r (r+1+1))∧B1 (fun x=>x=κ) W W'∧K6 W' (Hn W1.heap.size bs Y) κ ((r+1+1)*11) (Dg (a.cr.eraseIdx k)):=fun W hW=>by
  have row:=row3.adv hW (fun h=>h) (fun _ _ h=>h.elim) (fun _ _ h=>h)
  obtain⟨vs,hv,Ex,RI⟩:=YI row.rd;have I9:vs.length=(r+1)*11:=by rw[←hv.len,Nd,hr]
  refine (XO I9 Ex RI (fun j hj=>row.cellAt hj) row.fz (by omega) (by omega)).mono ?_
  rintro e W' ⟨rfl,rfl⟩
  have rowd:=row.adv (B1.drew W) (fun h=>h) (fun _ _ h=>h.elim) (fun _ _ h=>h)
  refine⟨rfl,((B1.drew W).weak (E':=fun x=>x=κ) fun _ _ h=>h.elim).trans ((B1.wrote (Ay.setCells _ _ _ _)).trans (B1.wrote (Ay.setCells _ _ _ _)) fun _ _ h=>h) (fun _ _ h=>h),?_⟩
  exact Aev rowd hr (by omega) (by omega) hSκ (hv.mono fun _ _ h=>h.step ((B1.drew W).st.weaken fun _ _ h=>h.elim) fun _ _ h=>h) RI
 have hmr:(a.cr.eraseIdx k).length=r:=by rw[List.length_eraseIdx,Lw hk,hr];rfl
 have hkw:IntKind.i64.wrap ((k:Int)+1)=(k:Int)+1:=by rw[IntKind.wrap_i64];omega
 clear EA
 go_wp2_with (go_at_call 38;refine (Aui _ ?hW).mono ?_)
 case hW=>exact B1.refl _ _
 rintro e W4 ⟨he4,UG,hR4⟩
 subst he4;dsimp only;have d24:=d2;rw[←UG.cell hC.lt (fun h=>Gh h.symm)] at d24
 have f24:=hC.fzB (i*3+2);rw[←UG.frz hC.lt (fun h=>Gh h.symm)] at f24
 have nB:¬W1.heap.size=κ:=fun h=>Gh h.symm
 have gw:=Ay.setCell W1.heap.size (i*3+2) (.slice (some ⟨κ,0,none⟩) r (r+1+1)) W4;have l4:W1.heap.size<W4.heap.size:=Nat.lt_of_lt_of_le hC.lt UG.size
 have hF:=hC.set (wr':=W4.setCell ⟨W1.heap.size,i*3+2,none⟩ (.slice (some ⟨κ,0,none⟩) r (r+1+1))) (a':={ a with cr:=a.cr.eraseIdx k }) hi ebi rfl rfl (by show (a.cr.eraseIdx k).length<=a.cr.length+1;omega)
  ((UG.weak (E':=fun x=>x=W1.heap.size∨x=κ) fun _ _ h=>.inr h).trans (B1.wrote gw) fun _ _ h=>.inl h) (gw.bs.trans ((UG.bs hC.lt nB).trans hC.szB)) (fun j=>(gw.frz j).trans ((UG.frz hC.lt nB).trans (hC.fzB j)))
  (fun j hj=>(World.cell?_setCell_other _ _ _ _ (by intro e;simp only[Addr.mk.injEq] at e;omega)).trans (UG.cell hC.lt nB))
  (by
   rw[World.cell?_setCell_same _ _ _ d24];show _=some (Value.slice _ (a.cr.eraseIdx k).length (a.cr.length+1));rw[hmr,hr])
  (by
   show K6 _ _ κ ((a.cr.length+1)*11) _;rw[hr];exact hR4.adv (B1.wrote gw) Gh (fun _ _ h=>.inl h) (fun _ _ h=>h))
 have ht:=hF.tree (Y:=Y) OE.y (by rw[List.length_set];omega) (fun _ h=>h)
 rw[List.length_set,Zk] at ht
 go_wp2
 go_ret2
 exact⟨_,rfl,Vd.trans hF.kept (fun _ _ h=>h),ht⟩
end
section
open Go.Proofs.Try (prog)
open Go.IntKind (wrap)
open Go.RowKit Go.Lib
theorem JH {w:World}{Y:Nat->Prop}{ls:List Cv}{n c:Nat}{base p0:Option Addr}{k0:Nat}{id:List Int}(hB:LE w Y ls n c base)(hT:An w Y (.lst false 1 id.length (Aq .u8 id)) (.slice p0 id.length k0)) {vs:List Value}(hv:Ad3 (AZ id 0 ls)=vs.map .sc):
  ∀W,B1 (fun _=>False) w W->Calls prog 23 #[.slice base n c,.slice p0 id.length k0] W fun e W'=>e=.returned (Dy vs)∧B1 (fun _=>False) W W':=fun W hW=>by
 have hB':=hB.adv hW
 have q:Af (CX noZ) prog 3000 3 23 [.lst false 3 n (Cq ls),.lst false 1 id.length (Aq .u8 id)]=some ⟨vs.map .sc,[]⟩:=by
  rw[←hv,←hB.nl];exact Akv (xs:=noZ) (fu:=3000) (d:=0) (by have:=hB.n1;have:=hB.nl;omega) (fun a ha=>(hB.sm a ha).1) (by omega)
 exact EV q hB'.y ⟨On hB'.tr,On (hT.step (hW.st.weaken fun _ _ h=>h.elim) fun _ _ h=>h),trivial⟩
theorem DP {w:World}{Y:Nat->Prop}{ls:List Cv}{n c:Nat}{base:Option Addr}{nm:ByteArray}(hB:LE w Y ls n c base){vs:List Value}(hv:Nr (BL nm 0 ls)=vs.map .sc):
  ∀W,B1 (fun _=>False) w W->Calls prog 14 #[.slice base n c,.string nm] W fun e W'=>e=.returned (Dy vs)∧B1 (fun _=>False) W W':=fun W hW=>by
 have hB':=hB.adv hW
 have q:Af (CX noZ) prog 3000 1 14 [.lst false 3 n (Cq ls),.sc (.string nm)]=some ⟨vs.map .sc,[]⟩:=by
  rw[←hv,←hB.nl];exact P3 (xs:=noZ) (fu:=3000) (d:=0) (by have:=hB.n1;have:=hB.nl;omega) (by have:=hB.n1;have:=hB.nl;omega)
 exact EV q hB'.y ⟨On hB'.tr,OL _,trivial⟩
theorem Ts {w:World}{Y:Nat->Prop}{ls:List Cv}{n c:Nat}{base p0:Option Addr}{k0:Nat}{nm:ByteArray}{id:List Int}(hB:LE w Y ls n c base)(hT:An w Y (.lst false 1 id.length (Aq .u8 id)) (.slice p0 id.length k0)) {vs:List Value}(hv:SX ls nm id=vs.map .sc):
  ∀W,B1 (fun _=>False) w W->Calls prog 37 #[.slice base n c,.string nm,.slice p0 id.length k0] W fun e W'=>e=.returned (Dy vs)∧B1 (fun _=>False) W W':=fun W hW=>by
 have hB':=hB.adv hW
 have q:Af (CX noZ) prog 3000 3 37 [.lst false 3 n (Cq ls),.sc (.string nm),.lst false 1 id.length (Aq .u8 id)]=some ⟨vs.map .sc,[]⟩:=by
  rw[←hv,←hB.nl];exact Ahq (xs:=noZ) (fu:=3000) (d:=0) (by have:=hB.n1;have:=hB.nl;omega) (fun a ha=>(hB.sm a ha).1) (by omega)
 exact EV q hB'.y ⟨On hB'.tr,OL _,On (hT.step (hW.st.weaken fun _ _ h=>h.elim) fun _ _ h=>h),trivial⟩
abbrev V9 (w:World)(code:Int)(e:Ending)(w':World):Prop:=e=.returned (.tuple #[.slice none 0 0,.int .i64 code])∧B1 (fun _=>False) w w'
section
variable {w:World} {Y:Nat->Prop} {ls:List Cv} {base:Option Addr} {n c i:Nat} {a:Cv} {x:Sd} {nm us:ByteArray} {p0 p7:Option Addr} {k0 k7:Nat}
set_option maxHeartbeats 1000000 in
set_option maxRecDepth 100000 in
theorem TY (h:nm.size<1∨32<nm.size):Calls prog 11 #[.slice base n c,.string nm,.string us,.agg #[.slice p0 x.id.length k0,.int .i64 x.ht,.int .u64 x.root,.int .u64 x.model,.int .i64 x.fmt,.bool x.sh,.int .u64 x.used,.slice p7 x.rg.length k7,.bool x.sus,.int .i64 x.since,.int .i64 x.last]] w (V9 w 9):=by
 by_cases h1:nm.size<1
 ·have Qz:(nm.size:Int)<1:=by omega
  go_enter Try.func11,Try.ntmps11
  go_wp2
  go_ret2
  exact⟨rfl,B1.new (D7.alloc _ _ _)⟩
 ·have Qz:¬(nm.size:Int)<1:=by omega
  have PP:(32:Int)<(nm.size:Int):=by omega
  go_enter Try.func11,Try.ntmps11
  go_wp2
  go_ret2
  exact⟨rfl,B1.new (D7.alloc _ _ _)⟩
set_option maxHeartbeats 1000000 in
set_option maxRecDepth 100000 in
theorem UE (hn1:1<=nm.size)(hn2:nm.size<=32)(h:x.id.length≠176):Calls prog 11 #[.slice base n c,.string nm,.string us,.agg #[.slice p0 x.id.length k0,.int .i64 x.ht,.int .u64 x.root,.int .u64 x.model,.int .i64 x.fmt,.bool x.sh,.int .u64 x.used,.slice p7 x.rg.length k7,.bool x.sus,.int .i64 x.since,.int .i64 x.last]] w (V9 w 4):=by
 have Qz:¬(nm.size:Int)<1:=by omega
 have PP:¬(32:Int)<(nm.size:Int):=by omega
 have h3':¬((x.id.length:Int)=176):=by omega
 go_enter Try.func11,Try.ntmps11
 go_wp2
 go_ret2
 exact⟨rfl,B1.new (D7.alloc _ _ _)⟩
set_option maxHeartbeats 1000000 in
set_option maxRecDepth 100000 in
theorem Ads {z1 z2:Int}(hn1:1<=nm.size)(hn2:nm.size<=32)(hid:x.id.length=176)
  (AR:∀W,B1 (fun _=>False) w W->Calls prog 23 #[.slice base n c,.slice p0 176 k0] W fun e W'=>e=.returned (.tuple #[.int .i64 z1,.int .i64 z2,.bool true])∧B1 (fun _=>False) W W'):
  Calls prog 11 #[.slice base n c,.string nm,.string us,.agg #[.slice p0 x.id.length k0,.int .i64 x.ht,.int .u64 x.root,.int .u64 x.model,.int .i64 x.fmt,.bool x.sh,.int .u64 x.used,.slice p7 x.rg.length k7,.bool x.sus,.int .i64 x.since,.int .i64 x.last]] w (V9 w 10):=by
 rw[hid];have Qz:¬(nm.size:Int)<1:=by omega
 have PP:¬(32:Int)<(nm.size:Int):=by omega
 go_enter Try.func11,Try.ntmps11
 go_wp2_with (go_at_call 23;refine (AR _ ?hO).mono ?_)
 case hO=>exact B1.new (D7.alloc _ _ _)
 intro e W1 he Vd;subst he;dsimp only;have g1:=(B1.new (D7.alloc w _ _)).trans Vd fun _ _ h=>h
 go_wp2
 go_ret2
 exact⟨rfl,g1⟩
set_option maxHeartbeats 1000000 in
set_option maxRecDepth 100000 in
theorem Abp (hB:LE w Y ls n c base)(hn1:1<=nm.size)(hn2:nm.size<=32)(hid:x.id.length=176)
  (AR:∀W,B1 (fun _=>False) w W->Calls prog 23 #[.slice base n c,.slice p0 176 k0] W fun e W'=>e=.returned (.tuple #[.int .i64 0,.int .i64 0,.bool false])∧B1 (fun _=>False) W W')
  (IH:∀W,B1 (fun _=>False) w W->Calls prog 14 #[.slice base n c,.string nm] W fun e W'=>e=.returned (.tuple #[.int .i64 i,.bool true])∧B1 (fun _=>False) W W')
  (hi:ls[i]?=some a) (hk:4<=a.cr.length):
  Calls prog 11 #[.slice base n c,.string nm,.string us,.agg #[.slice p0 x.id.length k0,.int .i64 x.ht,.int .u64 x.root,.int .u64 x.model,.int .i64 x.fmt,.bool x.sh,.int .u64 x.used,.slice p7 x.rg.length k7,.bool x.sus,.int .i64 x.since,.int .i64 x.last]] w (V9 w 12):=by
 rw[hid];have hin:=(List.getElem?_eq_some_iff.1 hi).1;have Zk:=hB.nl;obtain⟨b,o,c',hv,hnc,hb,hYb,hR⟩:=Si hB.tr (by omega)
 cases hv;obtain⟨c0,c1,p2,k2,c2,t2⟩:=Uv hR hi;have Qz:¬(nm.size:Int)<1:=by omega
 have PP:¬(32:Int)<(nm.size:Int):=by omega
 have Qf:(i:Int)<(n:Int):=by omega
 have Ue:(4:Int)<=(a.cr.length:Int):=by omega
 go_enter Try.func11,Try.ntmps11
 go_wp2_with (go_at_call 23;refine (AR _ ?hO).mono ?_)
 case hO=>exact B1.new (D7.alloc _ _ _)
 intro e W1 he Vd;subst he;dsimp only;have g1:=(B1.new (D7.alloc w _ _)).trans Vd fun _ _ h=>h
 go_wp2_with (go_at_call 14;refine (IH _ ?hF).mono ?_)
 case hF=>exact g1
 rintro e W2 ⟨he,hA2⟩
 subst he;dsimp only;have g2:=g1.trans hA2 fun _ _ h=>h
 have c22:=c2;rw[←g2.cell hb fun h=>h] at c22
 go_wp2
 go_ret2
 exact⟨rfl,g2⟩
set_option maxHeartbeats 1000000 in
set_option maxRecDepth 100000 in
theorem Aa1 (hn1:1<=nm.size)(hn2:nm.size<=32)(hid:x.id.length=176)
  (AR:∀W,B1 (fun _=>False) w W->Calls prog 23 #[.slice base n c,.slice p0 176 k0] W fun e W'=>e=.returned (.tuple #[.int .i64 0,.int .i64 0,.bool false])∧B1 (fun _=>False) W W')
  (IH:∀W,B1 (fun _=>False) w W->Calls prog 14 #[.slice base n c,.string nm] W fun e W'=>e=.returned (.tuple #[.int .i64 0,.bool false])∧B1 (fun _=>False) W W')
  (hk:16<=n):
  Calls prog 11 #[.slice base n c,.string nm,.string us,.agg #[.slice p0 x.id.length k0,.int .i64 x.ht,.int .u64 x.root,.int .u64 x.model,.int .i64 x.fmt,.bool x.sh,.int .u64 x.used,.slice p7 x.rg.length k7,.bool x.sus,.int .i64 x.since,.int .i64 x.last]] w (V9 w 12):=by
 rw[hid];have Qz:¬(nm.size:Int)<1:=by omega
 have PP:¬(32:Int)<(nm.size:Int):=by omega
 have Ue:(16:Int)<=(n:Int):=by omega
 go_enter Try.func11,Try.ntmps11
 go_wp2_with (go_at_call 23;refine (AR _ ?hO).mono ?_)
 case hO=>exact B1.new (D7.alloc _ _ _)
 intro e W1 he Vd;subst he;dsimp only;have g1:=(B1.new (D7.alloc w _ _)).trans Vd fun _ _ h=>h
 go_wp2_with (go_at_call 14;refine (IH _ ?hF).mono ?_)
 case hF=>exact g1
 rintro e W2 ⟨he,hA2⟩
 subst he;dsimp only;have g2:=g1.trans hA2 fun _ _ h=>h
 go_wp2
 go_ret2
 exact⟨rfl,g2⟩
set_option maxHeartbeats 1000000 in
set_option maxRecDepth 100000 in
theorem YT {z1:Int}
  (EA:∀W,B1 (fun _=>False) w W->Calls prog 37 #[.slice base n c,.string nm,.slice p0 x.id.length k0] W fun e W'=>e=.returned (.tuple #[.int .i64 z1,.int .i64 0,.bool false])∧B1 (fun _=>False) W W'):
  Calls prog 18 #[.slice base n c,.string nm,.agg #[.slice p0 x.id.length k0,.int .i64 x.ht,.int .u64 x.root,.int .u64 x.model,.int .i64 x.fmt,.bool x.sh,.int .u64 x.used,.slice p7 x.rg.length k7,.bool x.sus,.int .i64 x.since,.int .i64 x.last]] w (V9 w 11):=by
 go_enter Try.func18,Try.ntmps18
 go_wp2_with (go_at_call 37;refine (EA _ ?hO).mono ?_)
 case hO=>exact B1.new (D7.alloc _ _ _)
 intro e W1 he Vd;subst he;dsimp only;have g1:=(B1.new (D7.alloc w _ _)).trans Vd fun _ _ h=>h
 go_wp2
 go_ret2
 exact⟨rfl,g1⟩
set_option maxHeartbeats 1000000 in
set_option maxRecDepth 100000 in
theorem Aao {z1:Int}{m0:Nat}
  (EA:∀W,B1 (fun _=>False) w W->Calls prog 37 #[.slice base n c,.string nm,.slice p0 m0 k0] W fun e W'=>e=.returned (.tuple #[.int .i64 z1,.int .i64 0,.bool false])∧B1 (fun _=>False) W W'):
  Calls prog 16 #[.slice base n c,.string nm,.slice p0 m0 k0] w (V9 w 11):=by
 go_enter Try.func16,Try.ntmps16
 go_wp2_with (go_at_call 37;refine (EA _ ?hO).mono ?_)
 case hO=>exact B1.refl _ _
 intro e W1 he Vd;subst he;dsimp only
 go_wp2
 go_ret2
 exact⟨rfl,Vd⟩
end
end
section
open Go.Proofs.Try (prog)
open Go.IntKind (wrap)
open Go.RowKit Go.Lib
theorem OH {w w':World}{Y:Nat->Prop}{args:List PV}{p:PV}{u:Value}{z:Int}(hp:Ku p)(g:B1 (fun _=>False) w w') (ht:An w' Y p u)(ho:F1 w' (Ky K0 (fun _=>none) Y) (fun _=>none) K0 (He [p,.sc (.int .i64 z)]) 0 args []):
  QN w w' Y K0 args (fun _=>none) ⟨[p,.sc (.int .i64 z)],[]⟩ [u,.int .i64 z] where
 os:=g.os
 tape:=g.tape
 output:=g.output
 ext:=g.st.weaken fun _ _ h=>h.elim
 rng:=fun b j hb _=>⟨g.cell hb fun h=>h,g.frz hb fun h=>h⟩
 vals:=by
  have hA:∀b,Ky K0 (fun _=>none) Y b->Y b:=by
   rintro b (⟨j,o,h⟩|⟨i,o,h⟩|h)
   ·cases h
   ·cases h
   ·exact h
  have ht':An w' (Ky K0 (fun _=>none) Y) p u:=ht.step (Bh.refl _ _) fun b _ h=>hA b h
  refine⟨?_,An.sc _,trivial⟩;cases p<;>first|exact ht'|exact hp.elim
 outs:=ho
 fresh:=fun j b o h=>by cases h
 inj:=fun j j' b o o' h=>by cases h
theorem M4 {G:Glo}{P:Program}{f:FuncId}{args:List PV}{vals:List PV}(hf:∃fn,P.funcs[f]?=some fn∧fn.body.isSome=true) (Dp:∀(i:Nat)(p:PV),args[i]?=some p->S8 p=false)
  (htr:∀(w:World)(A:Nat->Prop)(bt:Th)(us:List Value),I0 w A bt 0 args us->Av (Id w A) args us)
  (ho0:∀(w:World)(A:Nat->Prop)(bt:Th)(own:Bt),F1 w A own bt (He vals) 0 args [])
  (h:∀(w:World)(Y:Nat->Prop)(us:List Value),(∀b,Y b->b<w.heap.size)->Av (Id w Y) args us->Calls P f us.toArray w fun e w'=>∃vs own,e=.returned (Dy vs)∧QN w w' Y K0 args own ⟨vals,[]⟩ vs):C1 G P f args ⟨vals,[]⟩:=by
 refine⟨hf,fun w Y bt us hin _ _=>?_⟩
 have hl:∀i q,bt i 0≠some q:=by
  intro i q e;obtain⟨p,h1,h2⟩:=hin.l0 i q e;rw[Dp i p h1] at h2;cases h2
 have ht:=htr w _ bt us hin.args;refine (h w Y us hin.Ylt (ht.mono fun p v hp=>CK (fun b _ hb=>.inr hb) hp)).mono ?_
 rintro e w' ⟨vs,own,rfl,ho⟩
 have hA:Ky bt own Y=Ky K0 own Y:=by
  funext b
  apply propext;constructor
  ·rintro (h1|⟨i,o,h1⟩|h1)
   ·exact .inl h1
   ·exact absurd h1 (hl i _)
   ·exact .inr (.inr h1)
  ·rintro (h1|⟨i,o,h1⟩|h1)
   ·exact .inl h1
   ·cases h1
   ·exact .inr (.inr h1)
 refine⟨vs,own,rfl,⟨ho.os,ho.tape,ho.output,ho.ext.weaken fun b _ hb=>(Tf b hb).elim,fun b j hb _=>ho.rng b j hb Afh,by rw[hA];exact ho.vals,ho0 _ _ _ _,fun j b o hj=>?_,ho.inj⟩⟩
 obtain⟨h1,h2⟩:=ho.fresh j b o hj;refine⟨h1,fun hlt=>?_⟩
 obtain⟨⟨i,k,o',h3⟩,_⟩:=h2 hlt;cases h3
theorem Gw {w:World}{A:Nat->Prop}{bt:Bt}{p:PV}{u:Value}(hp:Ku p)(h:AD w A bt p u):Id w A p u:=by
 cases p with
 |sc v=>exact⟨trivial,h.2⟩
 |lst z es n c=>exact⟨trivial,h.2⟩
 |_=>exact hp.elim
theorem Zq {w:World}{A:Nat->Prop}{own:Bt}:∀{cs:List PV}{vs:List Value}{j:Nat},(∀c∈cs,Ku c)->Dx w A own j cs vs->Av (fun c v=>Ku c∧An w A c v) cs vs
 |[],[],_,_,_=>trivial
 |c::cs,v::vs,j,hT,h=>by
  have hc:=hT c (by simp)
  refine⟨⟨hc,?_⟩,Zq (fun x hx=>hT x (by simp[hx])) h.2⟩
  have h1:=h.1;cases c<;>first|exact h1|exact hc.elim
 |[],_::_,_,_,h=>h.elim
 |_::_,[],_,_,h=>h.elim
theorem HV {w:World}{A:Nat->Prop}{bt:Bt}{cs:List PV}{u:Value}(hT:∀c∈cs,Ku c)(h:AD w A bt (.agg cs) u):Id w A (.agg cs) u:=by
 obtain⟨vs,rfl,_,h3⟩:=h;exact⟨vs,rfl,Zq hT h3⟩
theorem XX (x:Sd):∀c∈x.cells,Ku c:=by
 intro c hc;simp only[Sd.cells,List.mem_cons,List.not_mem_nil,or_false] at hc;rcases hc with rfl|rfl|rfl|rfl|rfl|rfl|rfl|rfl|rfl|rfl|rfl<;>trivial
theorem FL {w:World}{Y:Nat->Prop}{args:List PV}{L:List Cv}(ho:∀(w:World)(A:Nat->Prop)(bt:Th)(own:Bt),F1 w A own bt (He (R6 (L,0)).vals) 0 args []) {e:Ending}{w':World}
  (h:∃u,e=.returned (.tuple #[u,.int .i64 0])∧B1 (fun _=>False) w w'∧An w' Y (.lst false 3 L.length (Cq L)) u):∃vs own,e=.returned (Dy vs)∧QN w w' Y K0 args own (R6 (L,0)) vs:=by
 obtain⟨u,rfl,g,ht⟩:=h;exact⟨[u,.int .i64 0],fun _=>none,rfl,OH trivial g ht (ho _ _ _ _)⟩
theorem Nm {w:World}{Y:Nat->Prop}{args:List PV}{z:Int}(ho:∀(w:World)(A:Nat->Prop)(bt:Th)(own:Bt),F1 w A own bt (He (R6 ([],z)).vals) 0 args []) {e:Ending}{w':World}
  (h:V9 w z e w'):∃vs own,e=.returned (Dy vs)∧QN w w' Y K0 args own (R6 ([],z)) vs:=by
 obtain⟨rfl,g⟩:=h;exact⟨[.slice none 0 0,.int .i64 z],fun _=>none,rfl,OH trivial g (.lnil false 3) (ho _ _ _ _)⟩
theorem RN {G:Glo}{l:List Cv}{nm us:ByteArray}{x:Sd}(hl:l.length<=1000)(hs:∀a∈l,a.sm)(hx:x.sm):
  C1 G prog 11 [.lst false 3 l.length (Cq l),.sc (.string nm),.sc (.string us),.agg x.cells] (R6 (Ry l nm us x)):=by
 refine M4 ⟨_,Try.func11,rfl⟩ ?_ ?_ (fun _ _ _ _=>rfl) ?_
 ·intro i p h
  match i,h with
  |0,h=>cases h;rfl
  |1,h=>cases h;rfl
  |2,h=>cases h;rfl
  |3,h=>cases h;rfl
  |_+4,h=>cases h
 ·intro w A bt uv h
  match uv,h with
  |[u0,u1,u2,u3],h=>exact⟨Gw trivial h.1,Gw trivial h.2.1,Gw trivial h.2.2.1,HV (XX x) h.2.2.2.1,trivial⟩
  |[],h=>exact h.elim
  |[_],h=>exact h.2.elim
  |[_,_],h=>exact h.2.2.elim
  |[_,_,_],h=>exact h.2.2.2.elim
  |_::_::_::_::_::_,h=>exact h.2.2.2.2.elim
 ·intro w Y uv hY h
  match uv,h with
  |[u0,u1,u2,u3],h=>
   obtain⟨h0,h1,h2,h3,_⟩:=h;obtain⟨base,c,rfl⟩:=Ni h0.2;obtain rfl:u1=.string nm:=h1.2.val;obtain rfl:u2=.string us:=h2.2.val;obtain⟨vs,rfl,hv⟩:=h3;obtain⟨p0,k0,p7,k7,rfl,hV⟩:=FY hv;have hB:LE w Y l l.length c base:=⟨rfl,hs,hl,h0.2,hY⟩;show Calls prog 11 #[.slice base l.length c,.string nm,.string us,.agg #[.slice p0 x.id.length k0,.int .i64 x.ht,.int .u64 x.root,.int .u64 x.model,.int .i64 x.fmt,.bool x.sh,.int .u64 x.used,.slice p7 x.rg.length k7,.bool x.sus,.int .i64 x.since,.int .i64 x.last]] w _;unfold Ry;by_cases c1:nm.size<1∨32<nm.size
   ·rw[Lw c1];exact (TY c1).mono fun e w' h=>Nm (by intros;rfl) h
   rw[Lz c1];by_cases c2:x.id.length≠176
   ·rw[Lw c2];exact (UE (by omega) (by omega) c2).mono fun e w' h=>Nm (by intros;rfl) h
   rw[Lz c2];have hid:x.id.length=176:=Classical.not_not.1 c2;cases c3:AZ x.id 0 l with
   |some z=>
    rw[Lw (show (some z).isSome=true from rfl)]
    obtain⟨z1,z2⟩:=z;have ho:=JH hB hV.t0 (vs:=[.int .i64 z1,.int .i64 z2,.bool true]) (by rw[c3];rfl)
    rw[hid] at ho;exact (Ads (by omega) (by omega) hid ho).mono fun e w' h=>Nm (by intros;rfl) h
   |none=>
    rw[Lz (show ¬(none:Option (Nat × Nat)).isSome=true by simp)]
    have ho:=JH hB hV.t0 (vs:=[.int .i64 0,.int .i64 0,.bool false]) (by rw[c3];rfl)
    rw[hid] at ho;cases c4:BL nm 0 l with
    |none=>
     have hf:=DP hB (vs:=[.int .i64 0,.bool false]) (by rw[c4];rfl)
     dsimp only;by_cases c5:16<=l.length
     ·rw[Lw c5];exact (Aa1 (by omega) (by omega) hid ho hf c5).mono fun e w' h=>Nm (by intros;rfl) h
     ·rw[Lz c5];refine (Ae5 hB hV hx (by omega) (by omega) hid ho hf (by omega)).mono fun e w' h=>FL (by intros;rfl) ?_
      rw[Yb];exact h
    |some i=>
     obtain⟨_,_,a,h3,_⟩:=Vf c4;rw[Nat.sub_zero] at h3;have hf:=DP hB (vs:=[.int .i64 i,.bool true]) (by rw[c4];rfl)
     dsimp only;rw[h3];dsimp only;by_cases c5:4<=a.cr.length
     ·rw[Lw c5];exact (Abp hB (by omega) (by omega) hid ho hf h3 c5).mono fun e w' h=>Nm (by intros;rfl) h
     ·rw[Lz c5];refine (RA hB hV hx (by omega) (by omega) hid ho hf h3 (by omega)).mono fun e w' h=>FL (by intros;rfl) ?_
      rw[List.length_set];exact h
  |[],h=>exact h.elim
  |[_],h=>exact h.2.elim
  |[_,_],h=>exact h.2.2.elim
  |[_,_,_],h=>exact h.2.2.2.elim
  |_::_::_::_::_::_,h=>exact h.2.2.2.2.elim
theorem BN (l:List Cv)(nm:ByteArray)(id:List Int):(∃i k a,VZ l nm id=some (i,k,a)∧l[i]?=some a∧k<a.cr.length∧SX l nm id=[Value.int .i64 i,.int .i64 k,.bool true].map .sc)∨(VZ l nm id=none∧∃z:Int,SX l nm id=[Value.int .i64 z,.int .i64 0,.bool false].map .sc):=by
 unfold VZ SX;cases h:BL nm 0 l with
 |none=>exact .inr ⟨rfl,0,rfl⟩
 |some i=>
  obtain⟨_,_,a,h3,_⟩:=Vf h;rw[Nat.sub_zero] at h3;dsimp only;rw[h3];dsimp only;cases hp:QJ id 0 a.cr with
  |none=>exact .inr ⟨rfl,i,rfl⟩
  |some k=>
   have:=(YR hp).2;exact .inl ⟨i,k,a,rfl,h3,by omega,rfl⟩
theorem RP {G:Glo}{l:List Cv}{nm:ByteArray}{x:Sd}(hl:l.length<=1000)(hs:∀a∈l,a.sm)(hx:x.sm):
  C1 G prog 18 [.lst false 3 l.length (Cq l),.sc (.string nm),.agg x.cells] (R6 (Aiz l nm x)):=by
 refine M4 ⟨_,Try.func18,rfl⟩ ?_ ?_ (fun _ _ _ _=>rfl) ?_
 ·intro i p h
  match i,h with
  |0,h=>cases h;rfl
  |1,h=>cases h;rfl
  |2,h=>cases h;rfl
  |_+3,h=>cases h
 ·intro w A bt us h
  match us,h with
  |[u0,u1,u3],h=>exact⟨Gw trivial h.1,Gw trivial h.2.1,HV (XX x) h.2.2.1,trivial⟩
  |[],h=>exact h.elim
  |[_],h=>exact h.2.elim
  |[_,_],h=>exact h.2.2.elim
  |_::_::_::_::_,h=>exact h.2.2.2.elim
 ·intro w Y us hY h
  match us,h with
  |[u0,u1,u3],h=>
   obtain⟨h0,h1,h3,_⟩:=h;obtain⟨base,c,rfl⟩:=Ni h0.2;obtain rfl:u1=.string nm:=h1.2.val;obtain⟨vs,rfl,hv⟩:=h3;obtain⟨p0,k0,p7,k7,rfl,hV⟩:=FY hv;have hB:LE w Y l l.length c base:=⟨rfl,hs,hl,h0.2,hY⟩;show Calls prog 18 #[.slice base l.length c,.string nm,.agg #[.slice p0 x.id.length k0,.int .i64 x.ht,.int .u64 x.root,.int .u64 x.model,.int .i64 x.fmt,.bool x.sh,.int .u64 x.used,.slice p7 x.rg.length k7,.bool x.sus,.int .i64 x.since,.int .i64 x.last]] w _;unfold Aiz;rcases BN l nm x.id with⟨i,k,a,e1,e2,e3,e4⟩|⟨e1,z,e4⟩
   ·rw[e1];dsimp only;refine (Aag hB hV hx (Ts hB hV.t0 e4) e2 e3).mono fun e w' h=>FL (by intros;rfl) ?_
    rw[List.length_set];exact h
   ·rw[e1];exact (YT (Ts hB hV.t0 e4)).mono fun e w' h=>Nm (by intros;rfl) h
  |[],h=>exact h.elim
  |[_],h=>exact h.2.elim
  |[_,_],h=>exact h.2.2.elim
  |_::_::_::_::_,h=>exact h.2.2.2.elim
theorem RG {G:Glo}{l:List Cv}{nm:ByteArray}{id:List Int}(hl:l.length<=1000)(hs:∀a∈l,a.sm):
  C1 G prog 16 [.lst false 3 l.length (Cq l),.sc (.string nm),.lst false 1 id.length (Aq .u8 id)] (R6 (Ah3 l nm id)):=by
 refine M4 ⟨_,Try.func16,rfl⟩ ?_ ?_ (fun _ _ _ _=>rfl) ?_
 ·intro i p h
  match i,h with
  |0,h=>cases h;rfl
  |1,h=>cases h;rfl
  |2,h=>cases h;rfl
  |_+3,h=>cases h
 ·intro w A bt us h
  match us,h with
  |[u0,u1,u3],h=>exact⟨Gw trivial h.1,Gw trivial h.2.1,Gw trivial h.2.2.1,trivial⟩
  |[],h=>exact h.elim
  |[_],h=>exact h.2.elim
  |[_,_],h=>exact h.2.2.elim
  |_::_::_::_::_,h=>exact h.2.2.2.elim
 ·intro w Y us hY h
  match us,h with
  |[u0,u1,u3],h=>
   obtain⟨h0,h1,h3,_⟩:=h;obtain⟨base,c,rfl⟩:=Ni h0.2;obtain rfl:u1=.string nm:=h1.2.val;obtain⟨p0,k0,rfl⟩:=Ni h3.2;have hB:LE w Y l l.length c base:=⟨rfl,hs,hl,h0.2,hY⟩;show Calls prog 16 #[.slice base l.length c,.string nm,.slice p0 id.length k0] w _;unfold Ah3;rcases BN l nm id with⟨i,k,a,e1,e2,e3,e4⟩|⟨e1,z,e4⟩
   ·rw[e1];dsimp only;refine (XP hB (Ts hB h3.2 e4) e2 e3).mono fun e w' h=>FL (by intros;rfl) ?_
    rw[List.length_set];exact h
   ·rw[e1];exact (Aao (Ts hB h3.2 e4)).mono fun e w' h=>Nm (by intros;rfl) h
  |[],h=>exact h.elim
  |[_],h=>exact h.2.elim
  |[_,_],h=>exact h.2.2.elim
  |_::_::_::_::_,h=>exact h.2.2.2.elim
theorem PT {s:List PV}{x:Sd}(h:Ks s=some [x]):s=x.cells∧x.sm:=by
 obtain⟨e,hs⟩:=U7 _ (Nat.le_refl _) h;refine⟨by rw[e];simp[Dg],hs x (by simp)⟩
theorem MN {G:Glo}{args:List PV}{r:Bb}(h:Aay args=some r):C1 G prog 11 args r:=by
 unfold Aay at h;split at h
 ·rename_i n c nm us s;split at h
  ·rename_i l x h1 h2;cases hq:(Nat.beq l.length n&&Nat.ble n 1000)<;>rw[hq] at h
   ·cases h
   ·cases h;rw[Bool.and_eq_true] at hq;obtain⟨e,hs⟩:=Nj _ (Nat.le_refl _) h1;obtain⟨rfl,hx⟩:=PT h2;obtain rfl:=Nat.eq_of_beq_eq_true hq.1;rw[e];exact RN (Nat.le_of_ble_eq_true hq.2) hs hx
  ·cases h
 ·cases h
theorem MA {G:Glo}{args:List PV}{r:Bb}(h:Ail args=some r):C1 G prog 18 args r:=by
 unfold Ail at h;split at h
 ·rename_i n c nm s;split at h
  ·rename_i l x h1 h2;cases hq:(Nat.beq l.length n&&Nat.ble n 1000)<;>rw[hq] at h
   ·cases h
   ·cases h;rw[Bool.and_eq_true] at hq;obtain⟨e,hs⟩:=Nj _ (Nat.le_refl _) h1;obtain⟨rfl,hx⟩:=PT h2;obtain rfl:=Nat.eq_of_beq_eq_true hq.1;rw[e];exact RP (Nat.le_of_ble_eq_true hq.2) hs hx
  ·cases h
 ·cases h
theorem LT {G:Glo}{args:List PV}{r:Bb}(h:Aho args=some r):C1 G prog 16 args r:=by
 unfold Aho at h;split at h
 ·rename_i n c nm k i;split at h
  ·rename_i l id h1 h2;cases hq:(Nat.beq l.length n&&Nat.ble n 1000&&Nat.beq id.length k&&Nat.ble k 1000000)<;>rw[hq] at h
   ·cases h
   ·cases h;simp only[Bool.and_eq_true] at hq;obtain⟨⟨⟨q1,q2⟩,q3⟩,q4⟩:=hq;obtain⟨e,hs⟩:=Nj _ (Nat.le_refl _) h1;obtain rfl:=Nat.eq_of_beq_eq_true q1;obtain rfl:=Nat.eq_of_beq_eq_true q3;rw[e,EB h2];exact RG (Nat.le_of_ble_eq_true q2) hs
  ·cases h
 ·cases h
end
section
open Go.Proofs.Try (prog)
open Go.IntKind (wrap)
theorem extA (G:Glo):ExtOk G prog C0:=by
 intro f g args res hx hg;have hx0:(bif Tk.any (Nat.beq f) then none else Hu f)=some g:=hx;cases hb:Tk.any (Nat.beq f)
 rotate_left
 ·rw[hb,cond_true] at hx0;cases hx0
 rw[hb,cond_false] at hx0;have Qp:Hu f=some g:=hx0;unfold Hu at Qp;cases h2:Nat.beq f 36
 rotate_left
 ·rw[h2,cond_true] at Qp;cases Qp;rw[Nat.eq_of_beq_eq_true h2];exact AO G args res hg
 rw[h2,cond_false] at Qp;cases h4:Nat.beq f 46
 rotate_left
 ·rw[h4,cond_true] at Qp;cases Qp;rw[Nat.eq_of_beq_eq_true h4];exact QZ G args res hg
 rw[h4,cond_false] at Qp;cases h5:Nat.beq f 11
 rotate_left
 ·rw[h5,cond_true] at Qp;cases Qp;rw[Nat.eq_of_beq_eq_true h5];exact MN hg
 rw[h5,cond_false] at Qp;cases h6:Nat.beq f 18
 rotate_left
 ·rw[h6,cond_true] at Qp;cases Qp;rw[Nat.eq_of_beq_eq_true h6];exact MA hg
 rw[h6,cond_false] at Qp;cases h7:Nat.beq f 16
 rotate_left
 ·rw[h7,cond_true] at Qp;cases Qp;rw[Nat.eq_of_beq_eq_true h7];exact LT hg
 rw[h7,cond_false] at Qp;cases h3:Nat.beq f 1000000
 ·rw[h3,cond_false] at Qp;cases Qp
 ·rw[h3,cond_true] at Qp;cases Qp;cases hg
end
end Go.Proofs.Ytcgfahlefkfghaa.Pv
