/-
  The proof of MetadataBack, part 7.
-/
import Derived.Test.YtpogefhpiaaliaaGreatDoorKF
import Derived.Test.YtpogefhpiaaliaaGreatDoorRows
import Derived.Lib.BytesEntry
import Derived.Lib.Bytealg
import Derived.Lib.Walk
import Derived.WalkKit
import Derived.WalkMore
import Derived.Shelf.Unicode.ValidAny
import Derived.Lib.LaidU8T
set_option linter.unusedSimpArgs false
set_option linter.unusedVariables false
namespace Go.Proofs.YtpogefhpiaaliaaGreatDoor.Pv
section
open Go.Proofs.Tryz (prog)
open Go.IntKind (wrap)
set_option maxRecDepth 20000
open Go Go.RowKit
theorem Acl {now:Int}{l:List (Int × Int)} (h:∀p∈l,now<p.2):Hg now l=0:=by
 unfold Hg
 have:l.reverse.find? (fun p=>decide (p.2<=now))=none:=by
  rw[List.find?_eq_none];intro p hp;have:=h p (List.mem_reverse.1 hp);simp only[decide_eq_true_eq];omega
 rw[this]
theorem Al4 {now:Int}{l:List (Int × Int)} {x:Nat}{p:Int × Int}(h:l[x]?=some p) (AK:p.2<=now)(hn:∀j,x<j->∀q,l[j]?=some q->now<q.2):Hg now l=p.1:=by
 unfold Hg;have Cc:=(List.getElem?_eq_some_iff.1 h).1
 have e:l=l.take x++p::l.drop (x+1):=by
  have:l[x]=p:=(List.getElem?_eq_some_iff.1 h).2;rw[←this,List.getElem_cons_drop,List.take_append_drop]
 have h1:(l.drop (x+1)).reverse.find? (fun p=>decide (p.2<=now))=none:=by
  rw[List.find?_eq_none];intro q hq;obtain⟨j,hj⟩:=List.mem_iff_getElem?.1 (List.mem_reverse.1 hq);rw[List.getElem?_drop] at hj;have:=hn (x+1+j) (by omega) q hj
  simp only[decide_eq_true_eq];omega
 have h2:l.reverse.find? (fun p=>decide (p.2<=now))=some p:=by
  rw[e,List.reverse_append,List.reverse_cons,List.find?_append,List.find?_append,h1];simp[AK]
 rw[h2]
theorem Awk {w4 w5:World}{Y:Nat->Prop}{now:Int}{l:List (Int × Int)} {a4 a5:Act}{b5 o5 b6 o6:Nat}{sv:Value}(hl:l.length<=100000)
  (t5:a4.tmps.getD 5 undef=.pointer (some ⟨b5,o5,none⟩)) (t6:a4.tmps.getD 6 undef=.pointer (some ⟨b6,o6,none⟩)) (l5:b5<w4.heap.size)(l6:b6<w4.heap.size)(n5:b5≠b6)(c5:w4.cell? ⟨b5,o5,none⟩=some (.int .i64 now)) (c6:w4.cell? ⟨b6,o6,none⟩=some (.int .i64 0)) (f6:w4.frozen? ⟨b6,o6,none⟩=false)
  (hsv:A4 w4 (fun b=>b=b6) (.lst false 2 l.length (Kd l)) sv) (KQ:sv.oneCell'=true)(Lw:a4.tmps.size=28)(hw5:w5=w4.alloc (.cells #[sv] 59))
  (RP:a5=a4.put (some 19) (.func (.func 93) #[] #[.pointer (some ⟨w4.heap.size,0,none⟩)])) {K:Act->World->Prop}{Q:Exit->Act->World->Prop}
  (hK0:∀Z B,OC w5 (w4.heap.size+1) b6 o6 (Hg now l) Z B->Hg now l=0->B.heap[w4.heap.size+1]?=some (.deferred (some []))->K { a5 with defers:={ target:=.collected (w4.heap.size+1),args:= #[] }::a5.defers } B)
  (hK1:∀Z B,OC w5 (w4.heap.size+1) b6 o6 (Hg now l) Z B->B.heap[w4.heap.size+1]?=some (.deferred (some []))->Q .ret { a5 with defers:={ target:=.collected (w4.heap.size+1),args:= #[] }::a5.defers } B):
  (Code.block 0 (.rangeFunc (.tmp 19) #[20,21] Ajk Aar)).wpIn Fence.wide 0 prog (Exit.then K Q) a5 w5:=by
 have We:w5.heap.size=w4.heap.size+1:=by rw[hw5,World.size_alloc]
 have hold:∀b,b<w4.heap.size->w5.heap[b]?=w4.heap[b]?:=fun b hb=>by rw[hw5];exact Below.heap_alloc _ _ _ hb
 have hB0:w5.heap[w4.heap.size]?=some (.cells #[sv] 59):=by rw[hw5];exact World.alloc_heap_new w4 _
 have Azp:a5.tmps.size=28:=by rw[RP,Hq];exact Lw
 have g5:a5.tmps.getD 5 undef=.pointer (some ⟨b5,o5,none⟩):=by rw[RP,Fm (by decide)];exact t5
 have g6:a5.tmps.getD 6 undef=.pointer (some ⟨b6,o6,none⟩):=by rw[RP,Fm (by decide)];exact t6
 have g19:a5.eval (.tmp 19)=.func (.func 93) #[] #[.pointer (some ⟨w4.heap.size,0,none⟩)]:=by
  show a5.tmps.getD 19 undef=_;rw[RP,EH (by omega)]
 have VK:=Aws (S0:=w4.heap.size) (l:=l) hl
 refine wpIn_block (Ahp (Z0:=fun b=>b=b6) g19 (enters_of Tryz.func93 (by kernel_rfl) rfl) VK (fun b hb=>by omega) (fun W hW hk=>?_) (fun pre x args Z A hm=>An3 hm)
  (stI w5 (w4.heap.size+1) b6 o6 l now) (A01 w5 (w4.heap.size+1) b6 o6 l now) ?_ ?_ ?_ (A0p w5 (w4.heap.size+1) b6 o6 (.pointer (some ⟨b5,o5,none⟩)) (.pointer (some ⟨b6,o6,none⟩)) l now) ?_ ?_ ?_ ?_ ?_)
 ·have hkk:∀b,b<w4.heap.size->W.heap[b]?=w4.heap[b]?:=fun b hb=>(hk b (by omega)).trans (hold b hb)
  have k0:=hk w4.heap.size (by omega)
  refine⟨fun j c hj=>?_,by omega,by rintro (h|h|h)<;>omega⟩
  match j,hj with
  |0,hj=>
   cases hj;refine⟨sv,(World.cell?_of_block (a:=⟨w4.heap.size,0,none⟩) k0).trans ?_,KQ,?_⟩
   ·unfold World.cell?;rw[hB0];rfl
   ·refine hsv.step (w':=W) ⟨by omega,fun b hb _=>hkk b hb,fun b hb=>?_⟩ fun b hb h=>?_
    ·unfold bsz;rw[hkk b hb];exact Nat.le_refl _
    ·rcases h with h|h|h
     ·exact h
     ·omega
     ·omega
 ·intro Z pre A B hI hs;rw[We] at hs;exact⟨hI.1.stay (by omega) hs,hI.2⟩
 ·rintro c' Z pre A B ⟨h1,pre',x,p,q1,q2,q3,q4,hI⟩ hs
  rw[We] at hs;exact⟨h1,pre',x,p,q1,q2,q3,q4,hI.stay (by omega) hs⟩
 ·intro W hW Gv;have e:∀b,b<w4.heap.size+1->W.heap[b]?=w5.heap[b]?:=fun b hb=>Gv.same b (by omega)
  have e6:=(e b6 (by omega)).trans (hold b6 l6)
  refine⟨⟨Gv.os,Gv.tape,Gv.output,by omega,fun b hb=>by rcases hb with hb|hb|hb<;>omega,.inl rfl,fun b hb=>by rcases hb with hb|hb|hb<;>omega,fun b hb _=>e b hb,by unfold bsz;rw[e b6 (by omega)];exact Nat.le_refl _,(World.cell?_of_block e6).trans c6,by rw[frozen?_of_block e6];exact f6⟩,fun j hj=>by cases hj⟩
 ·intro Z pre x a' A B hn hs;rw[We] at hs;obtain⟨h1,h2,h3,p,h4,h5⟩:=hn;exact⟨h1.stay (by omega) hs,h2,h3,p,h4,h5.stay hs⟩
 ·intro Z pre x args A K' hZ1 hZ2 hI hm hk;rw[We] at hk ⊢;exact Al6 (by omega) hI hm Azp g5 g6 hk
 ·intro Z pre x a' A hZ1 hZ2 hn;rw[We];exact An6 (by omega) (by omega) n5 ((World.cell?_of_block (hold b5 l5)).trans c5) hn
 ·intro Z xs B hS hI hdf
  have h0:Hg now l=0:=Acl fun p hp=>by
   obtain⟨j,hj⟩:=List.mem_iff_getElem?.1 hp;exact hI.2 j (hS j (List.getElem?_eq_some_iff.1 hj).1) p hj
  rw[We] at hdf ⊢;exact hK0 Z B (by rw[h0];exact hI.1) h0 hdf
 ·rintro c' Z xs B _ ⟨rfl,pre,x,p,q1,q2,q3,q4,hI⟩ hdf
  have hp:Hg now l=p.1:=Al4 q3 q4 fun j hj q hq=>q1 j (q2 j hj (List.getElem?_eq_some_iff.1 hq).1) q hq
  rw[We] at hdf ⊢;refine wpIn_ret ?_;exact hK1 Z B (by rw[hp];exact hI) hdf
theorem A08:stC=.seq (sL stC) (.seq (sL (sR stC)) (.seq (.seq (.region 2 (G4 (sL (sL (sR (sR stC))))) false) (.block 0 (.rangeFunc (.tmp 19) #[20,21] Ajk Aar))) (.seq (.region 6 (G4 (sL (sR (sR (sR stC))))) false) .ret))):=by kernel_rfl
theorem A3n:∃ty pos aft x,(G4 (sL (sL (sR (sR stC)))))[2]?=some { dst:=some 19,op:=.call { callee:=.value (.func 53),args:= #[.tmp 18],argTypes:=x },type:=ty,pos:=pos,after:=aft,guard:=none }:=
 ⟨_,_,_,_,rfl⟩
abbrev QD (v i x lf model now:Int)(n n1 n2:Nat)(c c1 c2:List PV):List PV:=[.agg [.sc (.int .i64 v),.sc (.int .i64 i),.sc (.int .i64 x),.lst false 3 n c,.sc (.int .i64 lf),.lst false 1 n1 c1,.lst false 1 n2 c2],.sc (.int .u64 model),.sc (.int .i64 now)]
abbrev A7q (now:Int)(e:En):St:=⟨lk [(5,.ptr 5 0),(6,.ptr 6 0),(7,.ptr 7 0)],Bu [(5,.st [.sc (.int .i64 now)]),(6,.st [.sc (.int .i64 0)]),(7,.st [.sc (.int .u64 e.k),.lst false 3 e.na e.an,.lst false 2 e.ns e.st])]⟩
abbrev A3g (now:Int)(n:Nat)(c:List PV):St:=⟨lk [(5,.ptr 5 0),(6,.ptr 6 0),(18,.lst false 2 n c)],Bu [(5,.st [.sc (.int .i64 now)]),(6,.st [.sc (.int .i64 0)])]⟩
abbrev Aq4 (k:Int):St:=⟨lk [(6,.ptr 56000 0)],Bu [(56000,.st [.sc (.int .i64 k)])]⟩
theorem Ae5 {G:U7}{P:Program}{f:FuncId}{args:List PV}{vals:List PV}(hf:∃fn,P.funcs[f]?=some fn∧fn.body.isSome=true) (Ey:∀(i:Nat)(p:PV),args[i]?=some p->FY p=false)
  (htr:∀(w:World)(A:Nat->Prop)(bt:MG)(us:List Value),Ph w A bt 0 args us->Bw (Vc w A) args us)
  (ho0:∀(w:World)(A:Nat->Prop)(bt:MG)(own:Bt),CC w A own bt (Sc vals) 0 args [])
  (h:∀(w:World)(Y:Nat->Prop)(us:List Value),Ins w Y Y4 args us->Calls P f us.toArray w fun e w'=>∃vs own,e=.returned (Ly vs)∧Out w w' Y Y4 args own ⟨vals,[]⟩ vs):Da G P f args ⟨vals,[]⟩:=by
 refine⟨hf,fun w Y bt us Zq _ _=>?_⟩
 have hl:∀i q,bt i 0≠some q:=by
  intro i q e;obtain⟨p,h1,h2⟩:=Zq.l0 i q e;rw[Ey i p h1] at h2;cases h2
 have ht:=htr w _ bt us Zq.args;have A9o:Ins w Y Y4 args us:=⟨Zq.Ylt,fun b _=>Qd b,fun b x=>(Qd b x).elim,fun _ _ _ _ _ _ _ x=>(by cases x),fun _ _ x=>(by cases x),ED (ht.mono fun p v hp=>XP (fun b _ hb=>hb.elim (fun x=>(Qd b x).elim) .inr) hp)⟩
 refine (h w Y us A9o).mono ?_
 rintro e w' ⟨vs,own,rfl,ho⟩
 have hA:SU bt own Y=SU Y4 own Y:=by
  funext b
  apply propext;constructor
  ·rintro (h1|⟨i,o,h1⟩|h1)
   ·exact .inl h1
   ·exact absurd h1 (hl i _)
   ·exact .inr (.inr h1)
  ·rintro (h1|⟨i,o,h1⟩|h1)
   ·exact .inl h1
   ·cases h1
   ·exact .inr (.inr h1)
 refine⟨vs,own,rfl,ho.os,ho.tape,ho.output,ho.ext.weaken (fun b _ hb=>absurd hb (Qd b)),fun b j hb _=>ho.rng b j hb ?_,by rw[hA];exact ho.vals,ho0 _ _ _ _,fun j b o hj=>⟨(ho.fresh j b o hj).1,fun Cc=>?_⟩,ho.inj⟩
 ·rintro⟨i,p,_,⟨k,o,h1,_⟩|⟨o,ps,h1,_⟩⟩
  ·cases h1
  ·cases h1
 ·obtain⟨⟨i,k,o',h1⟩,_⟩:=(ho.fresh j b o hj).2 Cc;cases h1
theorem A4.slice_form {w:World}{A:Nat->Prop}{z:Bool}{es n:Nat}{c:List PV}{v:Value}(h:A4 w A (.lst z es n c) v):∃ad k q,v=.slice ad k q:=by
 generalize hp:PV.lst z es n c=p at h;cases h<;>first|exact⟨_,_,_,rfl⟩|cases hp
theorem Awa {G:U7}{v i x lf model now:Int}{n1 n2:Nat}{c1 c2:List PV}{es:List En}{l:List (Int × Int)} (hn:es.length<=1000)(hf:∀e∈es,e.fit)(Gv:Aih model es=Kd l):Da G prog 29 (QD v i x lf model now es.length n1 n2 (Nl es) c1 c2) ⟨[.sc (.int .i64 (Hg now l))],[]⟩:=by
 refine Ae5 ⟨_,Tryz.func29,rfl⟩ ?_ ?_ (fun _ _ _ _=>rfl) ?_
 ·intro i p h
  match i,h with
  |0,h=>cases h;rfl
  |1,h=>cases h;rfl
  |2,h=>cases h;rfl
 ·intro w A bt us hp
  match us,hp with
  |[u0,u1,u2],⟨⟨vs,e,_,h0⟩,h1,h2,_⟩=>
   refine⟨⟨vs,e,?_⟩,⟨trivial,h1.2⟩,⟨trivial,h2.2⟩,trivial⟩
   match vs,h0 with
   |[v0,v1,v2,v3,v4,v5,v6],⟨k0,k1,k2,k3,k4,k5,k6,_⟩=>exact⟨⟨trivial,k0⟩,⟨trivial,k1⟩,⟨trivial,k2⟩,⟨trivial,k3⟩,⟨trivial,k4⟩,⟨trivial,k5⟩,⟨trivial,k6⟩,trivial⟩
 intro w Y us Zq;have hY:=Zq.Ylt;have hk0:Agm prog 28 0 Tryz.f29.params.toList (QD v i x lf model now es.length n1 n2 (Nl es) c1 c2) (fun tms bs=>some (tms,bs))=some ([(0,.agg [.sc (.int .i64 v),.sc (.int .i64 i),.sc (.int .i64 x),.lst false 3 es.length (Nl es),.sc (.int .i64 lf),.lst false 1 n1 c1,.lst false 1 n2 c2]),(1,.sc (.int .u64 model)),(2,.sc (.int .i64 now))],[]):=by kernel_rfl
 have hus:us.length=3:=by
  match us,Zq.args with
  |[u0,u1,u2],_=>rfl
 obtain⟨tms,bs,Eb,Ay8⟩:=IB Zq hk0;cases Eb;obtain⟨h8,β0,TU⟩:=Ay8 rfl (by omega)
 refine callsIn_wide.1 (callsIn_of_wp_marks (F:=Fence.wide) (n:=0) Tryz.func29 rfl trivial ?_ rfl);show stC.wpIn _ _ _ _ { tmps:=us.toArray++Array.replicate (28-us.toArray.size) undef,defers:=[] } _;generalize ({ tmps:=us.toArray++Array.replicate (28-us.toArray.size) undef,defers:=[] }:Act)=a0 at TU ⊢;have hXn:∀b,¬(EM Y4 (QD v i x lf model now es.length n1 n2 (Nl es) c1 c2) h8).X b:=Qd;obtain⟨bq,el⟩:=Ayw (xs:=noX) (fu:=2000) (d:=5) (es:=es) hn (by omega) hf v i x lf model n1 n2 c1 c2
 have el:cl M8 _=_:=el;simp only[En.cells] at el;have Al1:=Amb (model:=model) hf;have hfs:(Uv model es).st=Kd l:=(Aq1 model es).trans Gv;generalize Uv model es=E at el Al1 hfs
 have hns:E.ns=l.length:=by
  have h1:=Al1.2.1;rw[hfs,Ak7] at h1;omega
 refine O3 A08 (wpIn_seq (wpIn_wide.2 (Dj (I1 _ _) DW B0 TU (A1m cl v i x lf model now es.length n1 n2 (Nl es) c1 c2) ?_)));intro a1 w1 β1 KQ;refine wpIn_seq (wpIn_wide.2 (Dj (I1 _ _) DW B0 KQ (L:=224) (t:=0) (s1:=A7q now E) ?_ ?_))
 ·refine (A1c cl v i x lf model now es.length n1 n2 (Nl es) c1 c2).trans ?_;simp only[Cu,el]
 intro a2 w2 β2 PN;refine wpIn_seq (wpIn_seq (wpIn_region ?_));have hli:List.range (G4 (sL (sL (sR (sR stC))))).size=[0,1]++[2]:=by kernel_rfl
 rw[hli];refine Gs (ro:=none) (C:=CB) (call:=cl) (r:=((0:Nat),A3g now E.ns E.st)) (I1 _ _) B0 ?_ [0,1] (List.take 2 (G4 (sL (sL (sR (sR stC))))).toList) (by kernel_rfl) ?_ (by kernel_rfl) PN (Azn cl E.k now E.na E.ns E.an E.st)
 rotate_left
 ·intro j i hj
  match j,hj with
  |0,hj=>cases hj;rfl
  |1,hj=>cases hj;rfl
 intro s' a4 w4 β4 T8 hs4;obtain⟨β5,s5,WS,We⟩:=B6 hs4 T8;cases WS;obtain⟨b5,o5,e5,t5,l5,k5,f5⟩:=We.var (i:=5) (id:=5) (by decide) rfl rfl
 obtain⟨b6,o6,e6,t6,l6,k6,f6⟩:=We.var (i:=6) (id:=6) (by decide) rfl rfl
 obtain⟨v5,q5,r5⟩:=k5 0 _ rfl;obtain⟨v6,q6,r6⟩:=k6 0 _ rfl;have r5:=A4.val r5;have r6:=A4.val r6;subst r5 r6;have own6:w.heap.size<=b6∧¬Y b6:=⟨(We.ownd b6 ⟨6,o6,by trivial,e6⟩).elim (fun h=>absurd h (hXn b6)) (fun h=>h),fun hy=>We.Yx b6 hy ⟨6,o6,by trivial,e6⟩⟩
 have n56:b5≠b6:=fun e=>by
  subst e;have:=We.inj 5 6 b5 o5 o6 (by trivial) (by trivial) e5 e6
  cases this
 have h18:A4 w4 (De (A3g now E.ns E.st).hp β5 Y) (.lst false 2 E.ns E.st) (a4.tmps.getD 18 undef):=We.tms 18 (by decide)
 rw[hfs,hns] at h18
 have A48:A4 w4 (fun b=>b=b6) (.lst false 2 l.length (Kd l)) (a4.tmps.getD 18 undef):=h18.step ⟨Nat.le_refl _,fun _ _ _=>rfl,fun _ _=>Nat.le_refl _⟩ fun b _ hb=>by
  have hb:b=b6:=hb;subst hb;exact .inl ⟨6,o6,by trivial,e6⟩
 obtain⟨ad,kk,qq,OO⟩:=A4.slice_form h18;have Ha:l.length<=100000:=by have:=Al1.2.2.2;omega
 obtain⟨ty,pos,aft,xx,ho⟩:=A3n;rw[wpOpsIn_cons];unfold wpOpIn;rw[ho];simp only[Region.wanted,if_true];refine⟨fun _ _=>trivial,?_⟩
 rw[show Oper.semAt (WF none).round a4.eval { dst:=some 19,op:=.call { callee:=.value (.func 53),args:= #[.tmp 18],argTypes:=xx },type:=ty,pos:=pos,after:=aft,guard:=none }=execOp a4.eval { dst:=some 19,op:=.call { callee:=.value (.func 53),args:= #[.tmp 18],argTypes:=xx },type:=ty,pos:=pos,after:=aft,guard:=none } from rfl,
  GC (o:={ dst:=some 19,op:=.call { callee:=.value (.func 53),args:= #[.tmp 18],argTypes:=xx },type:=ty,pos:=pos,after:=aft,guard:=none }) rfl rfl ngT Tryz.func53 rfl]
 have e18:a4.eval (.tmp 18)=.slice ad kk qq:=OO;simp only[List.map_toArray,VN,List.map_nil,e18];refine⟨(fun h=>by cases h),(Auu ad 0 0 _ w4 kk qq).mono ?_⟩
 rintro e w5 ⟨rfl,hw5⟩
 have Bbx:w5.heap.size=w4.heap.size+1:=by rw[hw5,World.size_alloc]
 have o5w:w5.os=w4.os∧w5.tape=w4.tape∧w5.output=w4.output:=by rw[hw5];exact⟨rfl,rfl,rfl⟩
 have hold:∀b,b<w4.heap.size->w5.heap[b]?=w4.heap[b]?:=fun b hb=>by rw[hw5];exact Below.heap_alloc _ _ _ hb
 obtain⟨a5,RP⟩:∃a5,a4.put (some 19) (.func (.func 93) #[] #[.pointer (some ⟨w4.heap.size,0,none⟩)])=a5:=⟨_,rfl⟩;have hd5:a5.defers=[]:=by rw[←RP,Kj];exact We.dfr
 have hz5:a5.tmps.size=28:=by rw[←RP,Hq];exact We.tsz
 have t6':a5.tmps.getD 6 undef=.pointer (some ⟨b6,o6,none⟩):=by rw[←RP,Fm (by decide)];exact t6
 have ea:({ a5 with defers:={ target:=.collected (w4.heap.size+1),args:= #[] }::a5.defers }:Act)=Sw [{ target:=.collected (w4.heap.size+1),args:= #[] }] a5:=by unfold Sw;rw[hd5];rfl
 have UT:=We.fr;have hw4:=UT.step.size
 have mk:∀{Z B},OC w5 (w4.heap.size+1) b6 o6 (Hg now l) Z B->∃X0 β,(∀b,X0.X b->b=b6)∧B3 28 B X0 Y β (Aq4 (Hg now l)) a5 B:=by
  intro Z B hI
  obtain⟨X0,β,h1,_,_,_,h2⟩:=Aix (B:=B) (Y:=Y) (a:=a5) (l:=[(6,.ptr 56000 0)]) (b6:=b6) (o6:=o6) (v:=Hg now l) hd5 hz5 (by
   intro q hq;simp only[List.mem_cons,List.not_mem_nil,or_false] at hq;subst hq;simp) hI.c6 hI.f6 (by have:=hI.size;omega) own6.2 (fun b hb=>by have:=hY b hb;have:=hI.size;omega) (by
   intro β e1 hA q hq;simp only[List.mem_cons,List.not_mem_nil,or_false] at hq;subst hq;exact⟨b6,o6,e1,t6'⟩) (by
   intro q hq id Br;simp only[List.mem_cons,List.not_mem_nil,or_false] at hq;subst hq;simp[B8,Cl,Az] at Br;exact Br)
  exact⟨X0,β,h1,h2⟩
 have leave:∀{Z B XB β6 a6 w7},OC w5 (w4.heap.size+1) b6 o6 (Hg now l) Z B->B.heap[w4.heap.size+1]?=some (.deferred (some []))->(∀b,XB.X b->b=b6)->B3 28 B XB Y β6 (Aq4 (Hg now l)) a6 w7 ->
   bodyPostM Fence.wide 0 prog Tryz.f29 (fun e w'=>∃vs own,e=.returned (Ly vs)∧Out w w' Y Y4 (QD v i x lf model now es.length n1 n2 (Nl es) c1 c2) own ⟨[.sc (.int .i64 (Hg now l))],[]⟩ vs) .ret (Sw [{ target:=.collected (w4.heap.size+1),args:= #[] }] a6) w7:=by
  intro Z B XB β6 a6 w7 hI hdf hXB hz;have Lw:=hI.size
  have hD':w7.heap[w4.heap.size+1]?=some (.deferred (some [])):=by
   rw[hz.fr.step.keep (w4.heap.size+1) (by omega) fun hx=>by have:=hXB _ hx;omega]
   exact hdf
  show LeavesInM _ _ _ _ _ _ (a6.defers++[{ target:=.collected (w4.heap.size+1),args:= #[] }]) .returning w7;rw[hz.dfr];refine⟨by simp,.inl ⟨_,_,rfl,run_takeDeferred hD',?_⟩⟩
  have hu:B3 28 w (EM Y4 (QD v i x lf model now es.length n1 n2 (Nl es) c1 c2) h8) Y β6 (Aq4 (Hg now l)) a6 w7:=
   hz.unbase (fun _ h=>h) hY (fun b hx=>by rw[hXB b hx];exact own6.1) (fun k ⟨p,h1,h2⟩=>by
    match k,h1 with
    |0,h1=>cases h1;cases h2
    |1,h1=>cases h1;cases h2
    |2,h1=>cases h1;cases h2) (hI.os.trans (o5w.1.trans UT.os)) (hI.tape.trans (o5w.2.1.trans UT.tape)) (hI.output.trans (o5w.2.2.trans UT.output)) (by omega) (fun b hb=>(hI.keep b (by omega) (by omega)).trans ((hold b (by omega)).trans (UT.step.keep b hb (hXn b))))
  have hv:=hu.same (KW (y:=none) hD') fun b hb=>World.putObj_heap_other (by omega)
  obtain⟨_,vv,r1,vs,own,r2,r3⟩:=Zt (C:=CS) (f:=29) (fn:=Tryz.f29) Zq (res:=⟨[.sc (.int .i64 (Hg now l))],[]⟩) (A1p v i x lf model now (Hg now l) es.length n1 n2 (Nl es) c1 c2) hv;exact⟨vv,r1,vs,own,r2,r3⟩
 rw[OO] at A48;refine Awk (Y:=Y) (sv:=.slice ad kk qq) Ha t5 t6 l5 l6 n56 q5 q6 (f6 0 (Nat.zero_lt_succ _)) A48 rfl We.tsz hw5 rfl ?_ ?_
 ·intro Z B hI h0 hdf;rw[RP,ea];obtain⟨XB,βB,hXB,hB⟩:=mk hI;refine wpIn_seq (MD (Q':=fun e a' w'=>e=.normal∧∃β',B3 28 B XB Y β' (Aq4 (Hg now l)) a' w') ?_ ?_)
  ·have hl9:List.range (G4 (sL (sR (sR (sR stC))))).size=[0]++[]:=by kernel_rfl
   rw[hl9];rw[h0] at hB ⊢;refine Gs (ro:=none) (C:=CB) (call:=cl) (r:=((0:Nat),Aq4 0)) (I1 _ _) B0 ?_ [0] (G4 (sL (sR (sR (sR stC))))).toList (by kernel_rfl) ?_ (by kernel_rfl) hB (Az0 cl 0)
   rotate_left
   ·intro j i hj
    match j,hj with
    |0,hj=>cases hj;rfl
   intro s6 a6 w6 β6 hk6 hs6;obtain⟨β7,s7,hk7,hs7⟩:=B6 hs6 hk6;cases hk7;exact⟨rfl,β7,hs7⟩
  ·rintro e a7 w7 ⟨a6,rfl,rfl,β6,hz⟩
   exact wpIn_ret (leave hI hdf hXB hz)
 ·intro Z B hI hdf;rw[RP,ea];obtain⟨XB,βB,hXB,hB⟩:=mk hI;exact leave hI hdf hXB hB
theorem Aib {G:U7}{args:List PV}{r:A5}(h:Ajb args=some r):Da G prog 29 args r:=by
 unfold Ajb at h;split at h
 ·rename_i v i x n c lf n1 c1 n2 c2 model now;cases hb:(Nat.beq c.length (n*3)&&Nat.ble n 1000)
  ·rw[hb,cond_false] at h;cases h
  rw[hb,cond_true] at h;simp only[Bool.and_eq_true] at hb;cases he:Wi c with
  |none=>rw[he] at h;cases h
  |some es=>
   rw[he] at h;simp only at h;cases hp:Q1 (Aih model es) with
   |none=>rw[hp] at h;cases h
   |some l=>
    rw[hp] at h;cases h;obtain⟨rfl,hf⟩:=Aen he;have hl:(Nl es).length=es.length*3:=Ug En.cells_len es;have hn:n=es.length:=by have:=Nat.eq_of_beq_eq_true hb.1;omega
    subst hn;exact Awa (Nat.le_of_ble_eq_true hb.2) hf (ZW hp)
 ·cases h
end
section
open Go.Proofs.Tryz (prog)
open Go.IntKind (wrap)
open Go.RowKit
theorem WK {w w':World}{Y:Nat->Prop}{bt:MG}{args:List PV}{v:Value}(hb:Below w.heap.size w w')(ho:CC w' (SU bt (fun _=>none) Y) (fun _=>none) bt (Sc [.sc v]) 0 args []):
  Out w w' Y bt args (fun _=>none) ⟨[.sc v],[]⟩ [v] where
 os:=hb.os
 tape:=hb.tape
 output:=hb.output
 ext:=⟨hb.size,fun b h _=>hb.block b h,fun b h=>by unfold bsz;rw[hb.block b h];exact Nat.le_refl _⟩
 rng:=fun b j h _=>⟨by unfold World.cell?;simp only[hb.block b h],by unfold World.frozen?;simp only[hb.block b h]⟩
 vals:=⟨A4.sc v,trivial⟩
 outs:=ho
 fresh:=fun j b o h=>by cases h
 inj:=fun j j' b o o' h=>by cases h
theorem MS {P:Program}{w:World}{A:Nat->Prop}{bt:Bt}{z:Bool}{n:Nat}{c:List PV}{u:Value}{l:List UInt8}(h:Ab7 w A bt (.lst z 1 n c) u) (hl:bytesOf c=some l)(hn:c.length=n):
  (Extern.Bytes.bytesOf u).run P w=.ok ⟨l.toArray⟩ w:=by
 obtain⟨ns,rfl,rfl⟩:=Y7 hl;have ht:A4 w A (.lst z 1 n (ns.map fun n=>.sc (.int .u8 n))) u:=h.2
 generalize hc:(ns.map fun n=>PV.sc (.int .u8 n))=c at ht
 cases ht with
 |lnil=>
  have:ns=[]:=by simpa using hc
  subst this;rfl
 |lemp=>
  have:ns=[]:=by simpa using hc
  subst this;rfl
 |lst _ _ _ a cap f hs hb hA hn' hcell h1 hr=>
  subst hc;rw[List.length_map] at hn;subst hn;show (Extern.Bytes.loadBytes a ns.length .empty).run P w=_;rw[Lib.run_loadBytesX w ns a .empty fun j x hj=>?_]
  ·simp[Lib.bytesOf,Nat.toUInt8]
  ·have e:(ns.map fun n=>PV.sc (.int .u8 n))[j]?=some (.sc (.int .u8 x)):=by rw[List.getElem?_map,hj];rfl
   rw[hcell j _ e,(hr j _ e).val]
set_option maxRecDepth 1000000 in
theorem Aax (u1 u2:Value)(a b:List UInt8)(w:World)(h1:(Extern.Bytes.bytesOf u1).run prog w=.ok ⟨a.toArray⟩ w) (h2:(Extern.Bytes.bytesOf u2).run prog w=.ok ⟨b.toArray⟩ w):
  Calls prog 148 #[u1,u2] w fun e w'=>e=.returned (.int .i64 (Lib.compareBytes a b))∧w'=w:=by
 have hr:(Extern.BytealgCompare.compare #[u1,u2]).run prog w=.ok (.int .i64 (Lib.compareBytes a b)) w:=by
  change Sem.run prog (do pure (goInt (Extern.BytealgCompare.cmp (←Extern.Bytes.bytesOf u1) (←Extern.Bytes.bytesOf u2)))) w=_
  simp only[Sem.run_bind,Sem.run_pure,Result.andThen,h1,h2];rw[Lib.cmp_eq];rfl
 go_enter Tryz.func148,Tryz.ntmps148
 go_wp2
 rw[run_callFunc_extern Tryz.func149 (by kernel_rfl) (by kernel_rfl) (by kernel_rfl) (e:=Extern.BytealgCompare.compare) (by kernel_rfl),hr]
 simp only[Result.andThen];rw[Oper.upon_value]
 go_wp2
 go_ret
 exact⟨rfl,rfl⟩
theorem UR (G:U7)(args:List PV)(res:A5)(h:Yw args=some res):Da G prog 148 args res:=by
 refine⟨⟨_,Tryz.func148,by kernel_rfl⟩,fun w Y bt us hi _ _=>?_⟩
 unfold Yw at h;split at h
 rotate_left
 ·cases h
 rename_i z n c z' m c';cases hq:(Nat.beq c.length n&&Nat.beq c'.length m)
 ·rw[hq] at h;cases h
 rw[hq] at h;simp only[Bool.and_eq_true] at hq;have hn:=Nat.eq_of_beq_eq_true hq.1;have hm:=Nat.eq_of_beq_eq_true hq.2;simp only[cond_true] at h;split at h
 rotate_left
 ·cases h
 rename_i a b ha hb;cases h;have ps:=hi.args
 match us,ps with
 |[u1,u2],ps=>
  refine (Aax u1 u2 a b w (MS ps.1 ha hn) (MS ps.2.1 hb hm)).mono ?_
  rintro e w' ⟨rfl,rfl⟩
  exact⟨[.int .i64 (Lib.compareBytes a b)],fun _=>none,rfl,WK (Below.refl _ _) rfl⟩
 |[],ps=>exact ps.elim
 |[_],ps=>exact ps.2.elim
 |_::_::_::_,ps=>exact ps.2.2.elim
end
section
open Go.Proofs.Tryz (prog)
open Go.IntKind (wrap)
set_option maxRecDepth 1000000
open Go.Shelf Go.RowKit Go.Lib
def A3p:Go.Shelf.Ren:=⟨fun|196=>126|259=>145|n=>n,fun|0=>0|3=>3|4=>4|5=>5|9=>9|12=>12|46=>75|53=>37|119=>194|138=>196|139=>197|n=>n,fun|3=>0|4=>1|n=>n⟩
theorem laysVS:Lays.n196 prog A3p:={
 mixed:=by kernel_rfl
 f196:=Tryz.func126.trans (congrArg some (by kernel_rfl))
 f259:=Tryz.func145.trans (congrArg some (by kernel_rfl))
 t0:=Tryz.underlying0
 a0:=Tryz.isAgg0
 z0:=Tryz.sizeOf0
 v0:=Tryz.zeroValue0
 t3:=Tryz.underlying3
 a3:=Tryz.isAgg3
 z3:=Tryz.sizeOf3
 v3:=Tryz.zeroValue3
 t4:=Tryz.underlying4
 a4:=Tryz.isAgg4
 z4:=Tryz.sizeOf4
 v4:=Tryz.zeroValue4
 t5:=Tryz.underlying5
 a5:=Tryz.isAgg5
 z5:=Tryz.sizeOf5
 v5:=Tryz.zeroValue5
 t9:=Tryz.underlying9
 a9:=Tryz.isAgg9
 z9:=Tryz.sizeOf9
 v9:=Tryz.zeroValue9
 t12:=Tryz.underlying12
 a12:=Tryz.isAgg12
 z12:=Tryz.sizeOf12
 v12:=Tryz.zeroValue12
 t46:=Tryz.underlying75
 a46:=Tryz.isAgg75
 z46:=Tryz.sizeOf75
 v46:=Tryz.zeroValue75
 t53:=Tryz.underlying37
 a53:=Tryz.isAgg37
 z53:=Tryz.sizeOf37
 v53:=Tryz.zeroValue37
 t119:=Tryz.underlying194
 a119:=Tryz.isAgg194
 z119:=Tryz.sizeOf194
 t138:=Tryz.underlying196
 a138:=Tryz.isAgg196
 z138:=Tryz.sizeOf196
 v138:=Tryz.zeroValue196
 t139:=Tryz.underlying197
 a139:=Tryz.isAgg197
 z139:=Tryz.sizeOf197
 v139:=Tryz.zeroValue197
 g3:=by kernel_rfl
 g4:=by kernel_rfl }
def gU:U7:=⟨fun b=>b=0∨b=1,fun w=>0<w.heap.size∧1<w.heap.size∧Lib.Utf8Tabs 0 1 w,fun w w' h ⟨s1,s2,h1,h2⟩=>by
 have e1:=h _ (.inl rfl) s1;have e2:=h _ (.inr rfl) s2
 have hs:∀b,b<w.heap.size->w'.heap[b]?=w.heap[b]?->b<w'.heap.size:=by
  intro b hb he;rw[Array.getElem?_eq_getElem hb] at he;rcases Nat.lt_or_ge b w'.heap.size with q|q
  ·exact q
  ·rw[Array.getElem?_eq_none q] at he;cases he
 refine⟨hs _ s1 e1,hs _ s2 e2,fun c hc=>?_,fun i hi=>?_⟩
 ·have:=h1 c hc;unfold World.cell? at this ⊢;simp only[e1] at this ⊢;exact this
 ·obtain⟨a,b⟩:=h2 i hi;unfold World.cell? at a b ⊢;simp only[e2] at a b ⊢;exact⟨a,b⟩⟩
theorem Ae3 (args:List PV)(res:A5)(h:RU args=some res):Da gU prog 126 args res:=by
 refine⟨⟨_,Tryz.func126,by kernel_rfl⟩,fun w Y bt us hi hok _=>?_⟩
 unfold RU at h;split at h
 rotate_left
 ·cases h
 rename_i s;cases hq:decide (s.size<=9223372036854775807)
 ·rw[hq] at h;cases h
 rw[hq] at h;cases h;have hs:=of_decide_eq_true hq;have ps:=hi.args
 match us,ps with
 |[u],ps=>
  have hu:u=.string s:=by
   have:A4 w _ (.sc (.string s)) u:=ps.1.2;exact this.val
  subst hu;refine (Any.utf8_ValidString laysVS s w hs hok.2.2).mono ?_
  rintro e w' ⟨rfl,hb⟩
  exact⟨[.bool (Lib.validD s.data.toList)],fun _=>none,rfl,WK hb rfl⟩
 |[],ps=>exact ps.elim
 |_::_::_,ps=>exact ps.2.elim
theorem extU:Ajv gU prog C0:=by
 intro f g args res hx hg;have hx0:(bif FF.any (Nat.beq f) then none else Pq f)=some g:=hx;cases hb:FF.any (Nat.beq f)
 rotate_left
 ·rw[hb,cond_true] at hx0;cases hx0
 rw[hb,cond_false] at hx0;have AV:Pq f=some g:=hx0;unfold Pq at AV;cases h1:Nat.beq f 126
 rotate_left
 ·rw[h1,cond_true] at AV;cases AV;rw[Nat.eq_of_beq_eq_true h1];exact Ae3 args res hg
 rw[h1,cond_false] at AV;cases h2:Nat.beq f 148
 rotate_left
 ·rw[h2,cond_true] at AV;cases AV;rw[Nat.eq_of_beq_eq_true h2];exact UR gU args res hg
 rw[h2,cond_false] at AV;cases h4:Nat.beq f 36
 rotate_left
 ·rw[h4,cond_true] at AV;cases AV;rw[Nat.eq_of_beq_eq_true h4];exact Amu hg
 rw[h4,cond_false] at AV;cases h5:Nat.beq f 29
 rotate_left
 ·rw[h5,cond_true] at AV;cases AV;rw[Nat.eq_of_beq_eq_true h5];exact Aib hg
 rw[h5,cond_false] at AV;cases h3:Nat.beq f 1000000
 ·rw[h3,cond_false] at AV;cases AV
 ·rw[h3,cond_true] at AV;cases AV;cases hg
end
end Go.Proofs.YtpogefhpiaaliaaGreatDoor.Pv
