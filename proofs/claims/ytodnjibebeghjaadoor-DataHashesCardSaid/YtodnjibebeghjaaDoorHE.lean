/-
  The proof of DataHashes, part 5.
-/
import Derived.Test.YtodnjibebeghjaaDoorHD
import Derived.Test.YtodnjibebeghjaaDoorRows
import Derived.Laws.ResultCell
set_option linter.unusedSimpArgs false
set_option linter.unusedVariables false
namespace Go.Proofs.YtodnjibebeghjaaDoor.Pv
section
open Go.Proofs.Tryd (prog)
open Go.IntKind (wrap)
set_option maxRecDepth 1000000
open Go Go.RowKit Go.Lib
theorem Jr.keep {w w':World}{b o n:Nat}(h:Jr w b)(k:D9 w w' b o n):Jr w' b:=
 ⟨gU.stable w w' (fun j hj hl=>k.other j hl (h.bl j hj).2) h.ok,fun j hj=>⟨Nat.lt_of_lt_of_le (h.bl j hj).1 k.size,(h.bl j hj).2⟩⟩
theorem AD.keep {w w':World}{b mb o n:Nat}{ms:List (List Int × JV)} (h:AD w mb ms)(k:D9 w w' b o n)(Ee:mb≠b):AD w' mb ms:=by
 have B4:mb<w.heap.size:=(Array.getElem?_eq_some_iff.1 h).1;exact (k.other mb B4 Ee).trans h
structure Dj (w w':World) (b mb:Nat):Prop where
 os:w'.os=w.os
 tape:w'.tape=w.tape
 output:w'.output=w.output
 size:w.heap.size<=w'.heap.size
 other:∀k,k<w.heap.size->k≠b->k≠mb->w'.heap[k]?=w.heap[k]?
theorem Dj.of {w w':World}{b mb o n:Nat}(k:D9 w w' b o n):Dj w w' b mb:=⟨k.os,k.tape,k.output,k.size,fun j hj hb _=>k.other j hj hb⟩
theorem Jr.below {w w':World}{b:Nat}(h:Jr w b)(k:Below w.heap.size w w'):Jr w' b:=
 ⟨gU.stable w w' (fun j _ hl=>k.block j hl) h.ok,fun j hj=>⟨Nat.lt_of_lt_of_le (h.bl j hj).1 k.size,(h.bl j hj).2⟩⟩
theorem AD.below {w w':World}{mb:Nat}{ms:List (List Int × JV)} (h:AD w mb ms)(k:Below w.heap.size w w'):AD w' mb ms:=by
 have B4:mb<w.heap.size:=(Array.getElem?_eq_some_iff.1 h).1;exact (k.block mb B4).trans h
theorem Dj.trans {w w' w'':World}{b mb:Nat}(h:Dj w w' b mb)(k:Dj w' w'' b mb):Dj w w'' b mb:=
 ⟨k.os.trans h.os,k.tape.trans h.tape,k.output.trans h.output,Nat.le_trans h.size k.size,fun i hi h1 h2=>(k.other i (Nat.lt_of_lt_of_le hi h.size) h1 h2).trans (h.other i hi h1 h2)⟩
theorem QW:∀(n:Nat)(out l s q:List Int),Dq out->Dq l->Jd n out l=(some s,q)->Dq s
  |0,_,_,_,_,_,_,h=>by cases h
  |_+1,_,[],_,_,_,_,h=>by cases h
  |n+1,out,c::l,s,q,ho,hl,h=>by
    have e:Jd (n+1) out (c::l)=if c<32 then (none,c::l) else if c=34 then (some out,l) else if c=92 then
        (match Lv l with
         |(some x,r')=>Jd n (out++Lib.encodeRuneZ x) r'
         |(none,r')=>(none,r')) else Jd n (out++[c]) l:=rfl
    have On:=C7 hl
    rw[e] at h
    split at h
    · cases h
    split at h
    · cases h;exact ho
    split at h
    · have h2:=O7 (Cz.self On.2)
      rcases hq:Lv l with⟨o,r⟩
      rw[hq] at h2 h
      cases o with
      |none=>cases h
      |some x=>exact QW n _ r s q (Kc ho (fun y hy=>by have:=Lib.encodeRuneZ_byte x y hy;omega)) (by have:=h2.B;exact this) h
    · exact QW n _ l s q (Kc ho (fun y hy=>by simp at hy;omega)) On.2 h
theorem RW {l s q:List Int}(hl:Dq l)(h:Eo l=(some s,q)):Dq s:=by
 cases l with
 |nil=>cases h
 |cons c l=>
  have e:Eo (c::l)=if c=34 then Jd (l.length+1) [] l else (none,c::l):=rfl
  rw[e] at h;split at h
  ·exact QW _ _ _ _ _ (fun x hx=>by cases hx) (C7 hl).2 h
  ·cases h
theorem Dj.below {w w':World}{b mb:Nat}(k:Below w.heap.size w w'):Dj w w' b mb:=⟨k.os,k.tape,k.output,k.size,fun i hi _ _=>k.block i hi⟩
theorem Agf {P:Program}{t k e:TypeId}(hu:P.underlying t=some (.map k e)) (mb:Nat)(w:World):(binOp .neq t (.map (some mb)) (.map none)).run P w=.ok (.bool true) w:=by
 have h:∀d,(Op.equalIn (d+1) t (.map (some mb)) (.map none)).run P w=.ok false w:=fun d=>by
  simp[Op.equalIn,run_underlying hu]
 simp only[binOp];simp[Op.equal,Op.maxDepth,h 9999]
theorem Abb (nm:List Int)(ms:List (List Int × JV)):(ms.any fun m=>m.1==nm)=(Js nm ms).isSome:=by
 unfold Js
 induction ms with
 |nil=>rfl
 |cons m r ih=>
  by_cases h:m.1=nm
  ·rw[List.find?_cons_of_pos (by simp[h])]
   simp[h]
  ·rw[List.find?_cons_of_neg (by simp[h]),←ih]
   simp[h]
theorem Vn (V:List Int->JR (JV × List Int)) (kp:Bool)(l:List Int):S7 V kp l=match Ap [125] (Bd l) with|some r=>.ok ([],r)|none=>Qq V kp ((Bd l).length+1) [] (Bd l):=by
 unfold S7;rw[Fg];cases Bd l with
 |nil=>rfl
 |cons y s=>
  by_cases hy:y=125
  ·subst hy;rfl
  ·simp only[Dz hy];split
   ·rename_i e;injection e with e1 _;exact absurd e1 hy
   ·rfl
theorem Zh {W:World}{mb b:Nat}{ob:Obj}(Ee:mb≠b):({ W with heap:=W.heap.setIfInBounds mb ob }:World).heap[b]?=W.heap[b]?:=Array.getElem?_setIfInBounds_ne Ee
theorem Sr.put {W:World}{b o mb:Nat}{t:ByteArray}{r:List Int}{ob:Obj}(h:Sr W b o t r)(Ee:mb≠b):Sr { W with heap:=W.heap.setIfInBounds mb ob } b o t r:=by
 have e:=Zh (W:=W) (ob:=ob) Ee;refine⟨by simpa using h.lt,(World.cell?_of_block e).trans h.c0,(World.cell?_of_block e).trans h.c1,?_,?_⟩
 ·have:=h.f0;unfold World.frozen? at this ⊢;simp only[e] at this ⊢;exact this
 ·have:=h.f1;unfold World.frozen? at this ⊢;simp only[e] at this ⊢;exact this
theorem Jr.put {W:World}{b mb:Nat}{ob:Obj}(h:Jr W b)(hmU:¬gU.bl mb):Jr { W with heap:=W.heap.setIfInBounds mb ob } b:=
 ⟨gU.stable W _ (fun j hj _=>Zh (fun e=>hmU (e ▸ hj))) h.ok,fun j hj=>⟨by simpa using (h.bl j hj).1,(h.bl j hj).2⟩⟩
theorem Dj.put {W:World}{b mb:Nat}{ob:Obj}:Dj W { W with heap:=W.heap.setIfInBounds mb ob } b mb:=
 ⟨rfl,rfl,rfl,by simp,fun k _ _ h=>Zh (fun e=>h e.symm)⟩
theorem AD.put {W:World}{mb n:Nat}{ms ms':List (List Int × JV)} (h:AD W mb ms)(hn:ms'.length=n):AD { W with heap:=W.heap.setIfInBounds mb (.map (Hg 0 ms').toArray n) } mb ms':=by
 have B4:mb<W.heap.size:=(Array.getElem?_eq_some_iff.1 h).1;subst hn;exact Array.getElem?_setIfInBounds_self_of_lt B4
def RoP (w':World)(mb:Nat)(l r':List Int)(e:Ending):Prop:=
 match Ap [123] l with
 |some l'=>(match S7 (Fh 8) true l' with
  |.ok (ms,q)=>r'=q∧e=.returned (.int .i64 0)∧AD w' mb ms
  |.error er=>er≠0∧e=.returned (.int .i64 er))
 |none=>e=.returned (.int .i64 2)
set_option maxHeartbeats 4000000 in
theorem Af1 {t:ByteArray}{l:List Int}(hS:Cz t l)(ht:t.size<=1000000){w:World}{b o mb:Nat}(hU:Jr w b)(h:Sr w b o t l)(hM:AD w mb []) (JB:mb≠b)(hmU:¬gU.bl mb):
  Calls prog 51 #[.pointer (some ⟨b,o,none⟩),.int .i64 1,.map (some mb)] w fun e w'=>Dj w w' b mb∧∃r',Cz t r'∧Sr w' b o t r' ∧
   RoP w' mb l r' e:=by
 have mixed:prog.follows Departure.mixedOrders=true:=by kernel_rfl
 have hac:=Gc hS ht (w0:=[123]) (fun x hx=>by simp at hx;omega) (by decide) h
 go_enter Tryd.func51,Tryd.ntmps51
 go_wp2_with (go_at_call 67;refine hac.mono ?_)
 rintro e W1 ⟨rfl,h1,k1⟩
 cases hq:Ap [123] l with
 |none=>
  rw[hq] at h1
  go_wp2
  go_ret
  exact⟨Dj.of k1,l,hS,h1,by unfold RoP;rw[hq];rfl⟩
 |some l'=>
  rw[hq] at h1;have VO:=Ao hS hq;have hsk:=G0 VO ht (hU.keep k1) h1
  go_wp2_with (go_at_call 50;refine hsk.mono ?_)
  rintro e W2 ⟨rfl,h2,k2⟩
  have Rm:=Bm VO;have Aut:=Gc Rm ht (w0:=[125]) (fun x hx=>by simp at hx;omega) (by decide) h2
  go_wp2_with (go_at_call 67;refine Aut.mono ?_)
  rintro e W3 ⟨rfl,h3,k3⟩
  cases J5:Ap [125] (Bd l') with
  |some r3=>
   rw[J5] at h3
   go_wp2
   go_ret
   refine⟨((Dj.of k1).trans (Dj.of k2)).trans (Dj.of k3),r3,Ao Rm J5,h3,?_⟩;unfold RoP;rw[hq];simp only;rw[Vn,J5];exact⟨rfl,rfl,((hM.keep k1 JB).keep k2 JB).keep k3 JB⟩
  |none=>
   rw[J5] at h3
   have hRo:∀w' r' e,(match Qq (Fh 8) true ((Bd l').length+1) [] (Bd l') with
     |.ok (ms,q)=>r'=q∧e=.returned (.int .i64 0)∧AD w' mb ms
     |.error er=>er≠0∧e=.returned (.int .i64 er))->RoP w' mb l r' e:=by
    intro w' r' e h;unfold RoP;rw[hq];simp only;rw[Vn,J5];exact h
   have hU3:=((hU.keep k1).keep k2).keep k3;have hM3:=((hM.keep k1 JB).keep k2 JB).keep k3 JB;have I2:Dj w W3 b mb:=((Dj.of k1).trans (Dj.of k2)).trans (Dj.of k3)
   go_wp2
   go_loopw [] (fun wr=>∃(n:Nat) (ms:List (List Int × JV)) (x:List Int),Qq (Fh 8) true ((Bd l').length+1) [] (Bd l')=Qq (Fh 8) true n ms x∧x.length<n∧Cz t x∧Sr wr b o t x∧AD wr mb ms∧(∀m∈ms,Dq m.1)∧Jr wr b∧Dj w wr b mb) (fun wr=>match wr.cell? ⟨b,o+1,none⟩ with|some (.int _ p)=>t.size-p.toNat|_=>0)
   case atStart=>
    exact⟨_,[],Bd l',rfl,Nat.lt_succ_self _,Rm,h3,hM3,(fun m hm=>by cases hm),hU3,I2⟩
   case round=>
    obtain⟨n,ms,x,E8,hn,hSx,hat,hMx,hBx,hUx,hkx⟩:=Alk;have XP:Calls prog 68 #[.pointer (some ⟨b,o,none⟩)] wr fun e w'=>e=.returned (.tuple #[.string (Ac ((Eo x).1.getD [])),.bool (Eo x).1.isSome])∧Sr w' b o t (Eo x).2∧D9 wr w' b o 2:=LG hSx ht hat
    go_wp2_with (go_at_call 68;refine XP.mono ?_)
    rintro e W4 ⟨rfl,h4,k4⟩
    obtain⟨m,rfl⟩:∃m,n=m+1:=⟨n-1,by omega⟩
    rw[Ye (Fh 8) true m ms x] at E8;have Qw:Dj w W4 b mb:=hkx.trans (Dj.of k4);have Xt:=Ge hSx;rcases hx:Eo x with⟨o4,q4⟩;rw[hx] at h4 E8 Xt;cases o4 with
    |none=>
     go_wp2
     go_ret
     exact⟨Qw,q4,Xt,h4,hRo _ _ _ (by rw[E8];exact⟨by decide,rfl⟩)⟩
    |some nm=>
     have BS:=RW hSx.B hx;have hM4:=hMx.keep k4 JB;have hlk:=Zj hM4 hBx BS true;simp only[Bool.true_and,Abb] at E8;cases hl:Js nm ms with
     |some v=>
      rw[hl] at hlk E8;have hvm:LI nm ms=.agg #[.int .i64 v.1,.string (Ac v.2.1),.bool v.2.2]:=by unfold LI;rw[hl];rfl
      rw[hvm] at hlk
      go_wp2
      go_ret
      have Nt:=fun ob=>(Below.refl W4.heap.size W4).alloc (Nat.le_refl _) ob
      exact⟨Qw.trans (Dj.below (Nt _)),q4,Xt,h4.below (Nt _) h4.lt,hRo _ _ _ (by rw[E8];exact⟨by decide,rfl⟩)⟩
     |none=>
      rw[hl] at hlk E8;have hvm:LI nm ms=.agg #[.int .i64 0,.string ⟨#[]⟩,.bool false]:=by unfold LI;rw[hl];rfl
      rw[hvm] at hlk;have Nt:Below W4.heap.size W4 (W4.alloc (.cells #[.int .i64 0,.string ⟨#[]⟩,.bool false] 95)):=(Below.refl W4.heap.size W4).alloc (Nat.le_refl _) _;have h5:=h4.below Nt h4.lt;have hM5:=hM4.below Nt;have hU5:=(hUx.keep k4).below Nt;have PE:=Qw.trans (Dj.below (b:=b) (mb:=mb) Nt);have Akz:=G0 Xt ht hU5 h5
      go_wp2_with (go_at_call 50;refine Akz.mono ?_)
      rintro e W6 ⟨rfl,h6,k6⟩
      have Fo:=Bm Xt;have A0l:=Gc Fo ht (w0:=[58]) (fun x hx=>by simp at hx;omega) (by decide) h6
      go_wp2_with (go_at_call 67;refine A0l.mono ?_)
      rintro e W7 ⟨rfl,h7,k7⟩
      have hk7:=(PE.trans (Dj.of k6)).trans (Dj.of k7);cases hq7:Ap [58] (Bd q4) with
      |none=>
       rw[hq7] at h7
       go_wp2
       go_ret
       exact⟨hk7,Bd q4,Fo,h7,hRo _ _ _ (by rw[E8];simp only[Option.isSome_none,Bool.false_eq_true,if_false,hq7];exact⟨by decide,rfl⟩)⟩
      |some r7=>
       rw[hq7] at h7;have hS7:=Ao Fo hq7;have hU7:=(hU5.keep k6).keep k7;have hM7:=(hM5.keep k6 JB).keep k7 JB;have Az1:=G0 hS7 ht hU7 h7
       go_wp2_with (go_at_call 50;refine Az1.mono ?_)
       rintro e W8 ⟨rfl,h8,k8⟩
       have hS8:=Bm hS7;have hvc:=VE hS8 ht (hU7.keep k8) h8
       go_wp2_with (go_at_call 69;refine hvc.mono ?_)
       rintro e W9 ⟨r9,h9,k9,hv9⟩
       have hk9:=(hk7.trans (Dj.of k8)).trans (Dj.of k9)
       have UV:Qq (Fh 8) true ((Bd l').length+1) [] (Bd l')=match Fh 8 (Bd r7) with
         |.error e=>.error e
         |.ok (v,r2)=>match Ap [125] (Bd r2) with
          |some r3=>.ok (ms++[(nm,v)],r3)
          |none=>match Ap [44] (Bd r2) with
           |some r3=>Qq (Fh 8) true m (ms++[(nm,v)]) (Bd r3)
           |none=>.error 2:=by
        rw[E8];simp only[Option.isSome_none,Bool.false_eq_true,if_false,hq7];rcases Fh 8 (Bd r7) with e|⟨v,r2⟩
        ·rfl
        ·simp only;cases Ap [125] (Bd r2)<;>cases Ap [44] (Bd r2)<;>rfl
       unfold Alw at hv9;cases hv:Fh 8 (Bd r7) with
       |error er=>
        rw[hv] at hv9 UV;obtain⟨he,hs9,u,rfl⟩:=hv9;unfold O9;have hbe:(er != (0:Int))=true:=by simp[he]
        go_wp2
        go_ret
        have QN:=fun ob=>(Below.refl W9.heap.size W9).alloc (Nat.le_refl _) ob
        exact⟨hk9.trans (Dj.below (QN _)),r9,hs9,h9.below (QN _) h9.lt,hRo _ _ _ (by rw[UV];exact⟨he,rfl⟩)⟩
       |ok x9=>
        obtain⟨v9,q9⟩:=x9;rw[hv] at hv9 UV;obtain⟨rfl,hq9,rfl⟩:=hv9;unfold O9;have QN:Below W9.heap.size W9 (W9.alloc (.cells #[.int .i64 v9.1,.string (Ac v9.2.1),.bool v9.2.2] 95)):=(Below.refl W9.heap.size W9).alloc (Nat.le_refl _) _;have h10:=h9.below QN h9.lt;have Ask:=((hM7.keep k8 JB).keep k9 JB).below QN;have Axp:=((hU7.keep k8).keep k9).below QN;have Ayy:=hk9.trans (Dj.below (b:=b) (mb:=mb) QN);have hup:=QR Ask hBx BS hl v9;unfold O9 at hup;have Ee:=Agf Tryd.underlying68 mb;have hS9:=hS8.trans hq9;have h11:=h10.put (mb:=mb) (ob:=.map (Hg 0 (ms++[(nm,v9)])).toArray (ms.length+1)) JB;have Ap6:=Axp.put (ob:=.map (Hg 0 (ms++[(nm,v9)])).toArray (ms.length+1)) hmU;have hln:(ms++[(nm,v9)]).length=ms.length+1:=by simp
        rw[hln] at hup;have Aot:=Ask.put (ms':=ms++[(nm,v9)]) hln;have Ax3:=Ayy.trans (Dj.put (b:=b) (ob:=.map (Hg 0 (ms++[(nm,v9)])).toArray (ms.length+1)));have Apw:=G0 hS9 ht Ap6 h11
        go_wp2_with (go_at_call 50;refine Apw.mono ?_)
        rintro e W12 ⟨rfl,h12,k12⟩
        have ZL:=Bm hS9;have Ao2:=Gc ZL ht (w0:=[125]) (fun x hx=>by simp at hx;omega) (by decide) h12
        go_wp2_with (go_at_call 67;refine Ao2.mono ?_)
        rintro e W13 ⟨rfl,h13,k13⟩
        have Ao5:=(Ax3.trans (Dj.of k12)).trans (Dj.of k13);cases UR:Ap [125] (Bd r9) with
        |some r13=>
         rw[UR] at h13
         go_wp2
         go_ret
         exact⟨Ao5,r13,Ao ZL UR,h13,hRo _ _ _ (by rw[UV];simp only;rw[UR];exact⟨rfl,rfl,(Aot.keep k12 JB).keep k13 JB⟩)⟩
        |none=>
         rw[UR] at h13;have Ari:=Gc ZL ht (w0:=[44]) (fun x hx=>by simp at hx;omega) (by decide) h13
         go_wp2_with (go_at_call 67;refine Ari.mono ?_)
         rintro e W14 ⟨rfl,h14,k14⟩
         have Ar3:=Ao5.trans (Dj.of k14);cases WX:Ap [44] (Bd r9) with
         |none=>
          rw[WX] at h14
          go_wp2
          go_ret
          exact⟨Ar3,Bd r9,ZL,h14,hRo _ _ _ (by rw[UV];simp only;rw[UR];simp only;rw[WX];exact⟨by decide,rfl⟩)⟩
         |some r14=>
          rw[WX] at h14;have Aqh:=Ao ZL WX;have Aqr:=((Ap6.keep k12).keep k13).keep k14;have Az5:=((Aot.keep k12 JB).keep k13 JB).keep k14 JB;have Apv:=G0 Aqh ht Aqr h14
          go_wp2_with (go_at_call 50;refine Apv.mono ?_)
          rintro e W15 ⟨rfl,h15,k15⟩
          have Aye:=Bm Aqh
          have hlr:(Bd r14).length+1<=x.length:=by
           have HO:=Ge (Cz.self hSx.B);rw[hx] at HO;have g1:=(Bm (Ao (Bm HO) hq7));have g2:=((Bm (g1.trans hq9))).le;have g3:=Pw r14;have g4:=KJ WX;omega
          have hxl:=hSx.len
          go_wp2
          refine⟨⟨m,ms++[(nm,v9)],Bd r14,by rw[UV];simp only[UR,WX],by omega,Aye,h15,Az5.keep k15 JB,fun y hy=>?_,Aqr.keep k15,Ar3.trans (Dj.of k15)⟩,?_⟩
          ·rcases List.mem_append.1 hy with hy|hy
           ·exact hBx y hy
           ·simp at hy;subst hy;exact BS
          ·have GC:Bp t x<Bp t (Bd r14):=by unfold Bp;omega
           have hp4:Bp t (Bd r14)<=t.size:=Nat.sub_le _ _;simp only[h15.c1,hat.c1,Oj];omega
end
section
open Go.IntKind (wrap)
def A9 (c:Int):List Int->List (List Int)
 |[]=>[[]]
 |x::r=>if x=c then []::A9 c r else match A9 c r with
  |h::t=>(x::h)::t
  |[]=>[[x]]
theorem P5 (c:Int)(l:List Int):A9 c l≠[]:=by
 cases l with
 |nil=>simp[A9]
 |cons x r=>
  unfold A9;split
  ·simp
  ·cases A9 c r<;>simp
def B5 (c:Int)(l:List Int):List Int:=l.takeWhile (fun x=>x != c)
theorem Vt (c:Int):∀(l:List Int),A9 c l=if (B5 c l).length<l.length then B5 c l::A9 c (l.drop ((B5 c l).length+1)) else [l]
 |[]=>rfl
 |x::r=>by
  by_cases h:x=c
  ·subst h;have e:B5 x (x::r)=[]:=by unfold B5;rw[List.takeWhile_cons_of_neg (by simp)]
   have e2:A9 x (x::r)=[]::A9 x r:=by
    show (if x=x then []::A9 x r else _)=_
    rw[E7 rfl]
   rw[e,E7 (by simp),e2]
   rfl
  ·have e:B5 c (x::r)=x::B5 c r:=by unfold B5;rw[List.takeWhile_cons_of_pos (by simp[h])]
   have e2:A9 c (x::r)=match A9 c r with|a::t=>(x::a)::t|[]=>[[x]]:=by
    show (if x=c then []::A9 c r else _)=_
    rw[Dz h]
   rw[e,e2,Vt c r];by_cases g:(B5 c r).length<r.length
   ·rw[E7 g,E7 (by simp;omega)]
    rfl
   ·rw[Dz g,Dz (by simp;omega)]
def IZ (x:Int):Bool:=decide (48<=x)&&decide (x<=57)
def ltB (x:Int):Bool:=(decide (97<=x)&&decide (x<=122))||IZ x
def Vi (l:List Int):Bool:=decide (1<=l.length)&&decide (l.length<=63) && !(l.head?==some 45) && !(l.getLast?==some 45)&&l.all (fun x=>ltB x||x==45)
def AB (l:List Int):Int:=
 if 100<l.length then 8 else if (A9 46 l).all Vi=false then 2 else if ((A9 46 l).getLastD []).all IZ=true then 2 else 0
def KN (l:List Int):Int:=l.foldl (fun n x=>10*n+(x-48)) 0
def Pe (l:List Int):Bool:=decide (1<=l.length)&&decide (l.length<=5) && !(l.head?==some 48)&&l.all IZ
def dfl (s:Bool):Int:=if s=true then 443 else 80
def TD (s:Bool)(r:List Int):Int:=
 let nm:=B5 58 r
 if AB nm≠0 then AB nm else if nm.length=r.length then 0 else
  if Pe (r.drop (nm.length+1))=true∧KN (r.drop (nm.length+1))<=65535∧KN (r.drop (nm.length+1))≠dfl s then 0 else 2
def F2 (l:List Int):Int:=
 if [104,116,116,112,115,58,47,47].isPrefixOf l=true then TD true (l.drop 8)
 else if [104,116,116,112,58,47,47].isPrefixOf l=true then TD false (l.drop 7) else 2
end
section
open Go.Proofs.Tryd (prog)
open Go.IntKind (wrap)
set_option maxRecDepth 100000
abbrev L6:FuncId:=62
theorem Mj {p:Option (List PV->Option Ay)} (fu d:Nat)(a0 a1:ByteArray):Ae (CP p) prog fu (d+1) L6 [.sc (.string a0),.sc (.string a1)]=(fun (call:Ax)=>Ah (call 77 [.sc (.string a0),.sc (.string a1)]) fun x1 x2=>Ad x2<|Aa x1 fun x3 x4=>Aq x3 fun x5=>Ad x4<|Bh (!x5) (some (Ay.mk [.sc (.string a0),.sc (.bool false)] [])) (Bi (decide (Int.toNat (↑(ByteArray.size a1):Int)<=ByteArray.size a0)&&decide (ByteArray.size a0<=ByteArray.size a0))<|Ab (ByteArray.extract a0 (Int.toNat (↑(ByteArray.size a1):Int)) (ByteArray.size a0)) fun x6=>some (Ay.mk [.sc (.string x6),.sc (.bool true)] []))) (Ae (CP p) prog fu d):=by kernel_rfl
abbrev Jn:FuncId:=44
theorem Qy {p:Option (List PV->Option Ay)} (fu d:Nat)(a0 a1:ByteArray):Ae (CP p) prog fu (d+1) Jn [.sc (.string a0),.sc (.string a1)]=(fun (call:Ax)=>Ah (call 62 [.sc (.string a0),.sc (.string a1)]) fun x1 x2=>Ad x2<|Aa x1 fun x3 x4=>Az x3 fun x5=>Aa x4 fun x6 x7=>Aq x6 fun x8=>Ad x7<|some (Ay.mk [.sc (.string x5),.sc (.bool x8)] [])) (Ae (CP p) prog fu d):=by kernel_rfl
abbrev Tx:FuncId:=63
theorem Ty {p:Option (List PV->Option Ay)} (fu d:Nat)(a0 a1:ByteArray):Ae (CP p) prog fu (d+1) Tx [.sc (.string a0),.sc (.string a1)]=(fun (call:Ax)=>Ah (call 78 [.sc (.string a0),.sc (.string a1)]) fun x1 x2=>Ad x2<|Aa x1 fun x3 x4=>Ak .i64 x3 fun x5=>Ad x4<|Bh (decide (x5>=0)) (Bi (decide (0<=x5))<|Bi (decide (Int.toNat x5<=ByteArray.size a0))<|Ab (ByteArray.extract a0 0 x5.toNat) fun x6=>Ab (wrap .i64 (x5+(↑(ByteArray.size a1):Int))) fun x7=>Bi (decide (0<=x7))<|Bi (decide (Int.toNat x7<=ByteArray.size a0)&&decide (ByteArray.size a0<=ByteArray.size a0))<|Ab (ByteArray.extract a0 x7.toNat (ByteArray.size a0)) fun x8=>some (Ay.mk [.sc (.string x6),.sc (.string x8),.sc (.bool true)] [])) (some (Ay.mk [.sc (.string a0),.sc (.string (ByteArray.mk #[])),.sc (.bool false)] []))) (Ae (CP p) prog fu d):=by kernel_rfl
abbrev Q3:FuncId:=45
theorem CV {p:Option (List PV->Option Ay)} (fu d:Nat)(a0 a1:ByteArray):Ae (CP p) prog fu (d+1) Q3 [.sc (.string a0),.sc (.string a1)]=(fun (call:Ax)=>Ah (call 63 [.sc (.string a0),.sc (.string a1)]) fun x1 x2=>Ad x2<|Aa x1 fun x3 x4=>Az x3 fun x5=>Aa x4 fun x6 x7=>Az x6 fun x8=>Aa x7 fun x9 Fv=>Aq x9 fun Lr=>Ad Fv<|some (Ay.mk [.sc (.string x5),.sc (.string x8),.sc (.bool Lr)] [])) (Ae (CP p) prog fu d):=by kernel_rfl
abbrev N5:FuncId:=100
theorem Wj {p:Option (List PV->Option Ay)} (fu d:Nat)(a0 a1:ByteArray):Ae (CP p) prog fu (d+1) N5 [.sc (.string a0),.sc (.string a1)]=(fun (call:Ax)=>Ah (call 78 [.sc (.string a0),.sc (.string a1)]) fun x1 x2=>Ad x2<|Aa x1 fun x3 x4=>Ak .i64 x3 fun x5=>Ad x4<|some (Ay.mk [.sc (.int .i64 x5)] [])) (Ae (CP p) prog fu d):=by kernel_rfl
abbrev Ji:FuncId:=78
theorem Qu {p:Option (List PV->Option Ay)} (fu d:Nat)(a0 a1:ByteArray):Ae (CP p) prog fu (d+1) Ji [.sc (.string a0),.sc (.string a1)]=(fun (call:Ax)=>Bh ((↑(ByteArray.size a1):Int)==0) (some (Ay.mk [.sc (.int .i64 0)] [])) (Bh (Array.toList (ByteArray.data a1)==Array.toList (ByteArray.data a0)) (some (Ay.mk [.sc (.int .i64 0)] [])) (Bh ((↑(ByteArray.size a1):Int)==1) (Dk ((Array.toList (ByteArray.data a1))[0]?) fun x1=>Ah (call 40 [.sc (.string a0),.sc (.int .u8 (↑(UInt8.toNat x1):Int))]) fun x2 x3=>Ad x3<|Aa x2 fun x4 x5=>Ak .i64 x4 fun x6=>Ad x5<|some (Ay.mk [.sc (.int .i64 x6)] [])) (Bh (decide ((↑(ByteArray.size a1):Int)>=(↑(ByteArray.size a0):Int))) (some (Ay.mk [.sc (.int .i64 (-1))] [])) (none))))) (Ae (CP p) prog fu d):=by kernel_rfl
abbrev Rk:FuncId:=79
noncomputable def D5 (fu:Nat)(call:Ax)(a0 a1:ByteArray)(a2 a3:Int)(nn:Nat)(y0 y1:ByteArray)(y2 y3:Int)(y4:Nat)(y5:Int)(y6:List PV):Option Ay:=Is CB prog fu call 79 Tryd.f79 (F4 Tryd.f79) [.sc (.string a0),.sc (.string a1),.sc (.int .i64 a2),.sc (.int .i64 a3)] [.r,.r,.r,.r,.r,.r,.r,.r,.l,.l] nn ⟨lk [(0,(.sc (.string y0))),(1,(.sc (.string y1))),(2,(.sc (.int .i64 y2))),(3,(.sc (.int .i64 y3))),(9,(.view 9 1 0 y4)),(10,(.sc (.int .i64 y5)))],Jh [(9,(.ar false y6))]⟩
theorem N9 (fu:Nat)(call:Ax)(a0 a1:ByteArray)(a2 a3:Int)(nn:Nat)(y0 y1:ByteArray)(y2 y3:Int)(y4:Nat)(y5:Int)(y6:List PV):D5 fu call a0 a1 a2 a3 (nn+1) y0 y1 y2 y3 y4 y5 y6=(Bh (decide (y5<y3)) (Ah (call 100 [.sc (.string y0),.sc (.string y1)]) fun L4 Ml=>Ad Ml<|Aa L4 fun Mi N6=>Ak .i64 Mi fun K4=>Ad N6<|Bh (decide (K4<0)) (Bi (decide (0<=y5)&&decide (y5<(↑y4:Int)))<|Bi (decide (0+Int.toNat y5*1+1<=y6.length))<|Ab (B8 y6 [.sc (.string y0)] (0+Int.toNat y5*1)) fun Nq=>Ab (wrap .i64 (y5+1)) fun L1=>Bi (decide (0<=L1))<|Bi (decide (Int.toNat L1<=y4))<|Ab (Int.toNat L1-0) fun L5=>Bi (decide (L5*1<=Nq.length))<|some (Ay.mk [.own 1 L5 (List.take (L5*1) Nq)] [])) (Ab (wrap .i64 (K4+y2)) fun Mk=>Bi (decide (0<=Mk))<|Bi (decide (Int.toNat Mk<=ByteArray.size y0))<|Ab (ByteArray.extract y0 0 Mk.toNat) fun Oi=>Bi (decide (0<=y5)&&decide (y5<(↑y4:Int)))<|Bi (decide (0+Int.toNat y5*1+1<=y6.length))<|Ab (B8 y6 [.sc (.string Oi)] (0+Int.toNat y5*1)) fun Me=>Ab (wrap .i64 (K4+(↑(ByteArray.size y1):Int))) fun Oa=>Bi (decide (0<=Oa))<|Bi (decide (Int.toNat Oa<=ByteArray.size y0)&&decide (ByteArray.size y0<=ByteArray.size y0))<|Ab (ByteArray.extract y0 Oa.toNat (ByteArray.size y0)) fun Om=>Ab (wrap .i64 (y5+1)) fun Oc=>D5 fu call a0 a1 a2 a3 (nn) Om (y1) (y2) (y3) (y4) Oc Me)) (Bi (decide (0<=y5)&&decide (y5<(↑y4:Int)))<|Bi (decide (0+Int.toNat y5*1+1<=y6.length))<|Ab (B8 y6 [.sc (.string y0)] (0+Int.toNat y5*1)) fun M9=>Ab (wrap .i64 (y5+1)) fun Ol=>Bi (decide (0<=Ol))<|Bi (decide (Int.toNat Ol<=y4))<|Ab (Int.toNat Ol-0) fun Pj=>Bi (decide (Pj*1<=M9.length))<|some (Ay.mk [.own 1 Pj (List.take (Pj*1) M9)] []))):=by kernel_rfl
theorem Rf {p:Option (List PV->Option Ay)} (fu d:Nat)(a0 a1:ByteArray)(a2 a3:Int):Ae (CP p) prog fu (d+1) Rk [.sc (.string a0),.sc (.string a1),.sc (.int .i64 a2),.sc (.int .i64 a3)]=(fun (call:Ax)=>Bh (a3==0) (some (Ay.mk [.own 1 0 []] [])) (Bh (Array.toList (ByteArray.data a1)==Array.toList (ByteArray.data (ByteArray.mk #[]))) (Ah (call 98 [.sc (.string a0),.sc (.int .i64 a3)]) fun x1 x2=>Ad x2<|Aa x1 fun x3 x4=>NY 1 x3 fun x5 x6=>Ad x4<|Bi (decide (x5*1<=x6.length))<|some (Ay.mk [.own 1 x5 (List.take (x5*1) x6)] [])) (Bh (decide (a3<0)) (Ah (call 99 [.sc (.string a0),.sc (.string a1)]) fun x7 x8=>Ad x8<|Aa x7 fun x9 Fv=>Ak .i64 x9 fun Lr=>Ad Fv<|Ab (wrap .i64 (Lr+1)) fun L3=>Ab (wrap .i64 ((↑(ByteArray.size a0):Int)+1)) fun Ff=>Ab (if Ff<L3 then Ff else L3) fun Je=>Bi (decide (0<=Je)&&decide (Je<=Je)&&decide (Je*16<=1099511627776)&&decide (Je<=1099511627776))<|Ab (wrap .i64 (Je-1)) fun Mb=>D5 fu call a0 a1 a2 a3 (fu) (a0) (a1) (a2) Mb Je.toNat 0 (Nh Je.toNat [.sc (.string (ByteArray.mk #[]))])) (Ab (wrap .i64 ((↑(ByteArray.size a0):Int)+1)) fun K2=>Ab (if K2<a3 then K2 else a3) fun I4=>Bi (decide (0<=I4)&&decide (I4<=I4)&&decide (I4*16<=1099511627776)&&decide (I4<=1099511627776))<|Ab (wrap .i64 (I4-1)) fun Lw=>D5 fu call a0 a1 a2 a3 (fu) (a0) (a1) (a2) Lw I4.toNat 0 (Nh I4.toNat [.sc (.string (ByteArray.mk #[]))]))))) (Ae (CP p) prog fu d):=by kernel_rfl
abbrev N4:FuncId:=64
theorem Ww {p:Option (List PV->Option Ay)} (fu d:Nat)(a0 a1:ByteArray):Ae (CP p) prog fu (d+1) N4 [.sc (.string a0),.sc (.string a1)]=(fun (call:Ax)=>Ah (call 79 [.sc (.string a0),.sc (.string a1),.sc (.int .i64 0),.sc (.int .i64 (-1))]) fun x1 x2=>Ad x2<|Aa x1 fun x3 x4=>NY 1 x3 fun x5 x6=>Ad x4<|Bi (decide (x5*1<=x6.length))<|some (Ay.mk [.own 1 x5 (List.take (x5*1) x6)] [])) (Ae (CP p) prog fu d):=by kernel_rfl
abbrev Le:FuncId:=65
noncomputable def A8 (fu:Nat)(call:Ax)(a0:ByteArray)(nn:Nat)(y0:ByteArray)(y1 y2:Int):Option Ay:=Is CB prog fu call 65 Tryd.f65 (F4 Tryd.f65) [.sc (.string a0)] [.r,.r,.l,.r,.l] nn ⟨lk [(0,(.sc (.string y0))),(16,(.sc (.int .i64 y1))),(17,(.sc (.int .i64 y2)))],Jh []⟩
theorem Ix (fu:Nat)(call:Ax)(a0:ByteArray)(nn:Nat)(y0:ByteArray)(y1 y2:Int):A8 fu call a0 (nn+1) y0 y1 y2=(Bh (decide (y2<y1)) (Bi (decide (0<=y2))<|Dk ((Array.toList (ByteArray.data y0))[Int.toNat y2]?) fun x1=>Bh (decide (97<=(↑(UInt8.toNat x1):Int))) (Bh (decide ((↑(UInt8.toNat x1):Int)<=122)) (Bh ((↑(UInt8.toNat x1):Int)==45) (Bh (decide (y2>0)) (Ab (wrap .i64 ((↑(ByteArray.size y0):Int)-1)) fun x2=>Ab (wrap .i64 (y2+1)) fun x3=>A8 fu call a0 (nn) (y0) (y1) x3) (Ab (wrap .i64 (y2+1)) fun x4=>A8 fu call a0 (nn) (y0) (y1) x4)) (Ab (wrap .i64 (y2+1)) fun x5=>A8 fu call a0 (nn) (y0) (y1) x5)) (Bh (decide (48<=(↑(UInt8.toNat x1):Int))) (Bh ((↑(UInt8.toNat x1):Int)==45) (Bh (decide (y2>0)) (Ab (wrap .i64 ((↑(ByteArray.size y0):Int)-1)) fun x6=>Bh (!decide ((↑(UInt8.toNat x1):Int)<=57)) (Bh (!decide (y2<x6)) (some (Ay.mk [.sc (.bool false)] [])) (Ab (wrap .i64 (y2+1)) fun x7=>A8 fu call a0 (nn) (y0) (y1) x7)) (Ab (wrap .i64 (y2+1)) fun x8=>A8 fu call a0 (nn) (y0) (y1) x8)) (Bh (!decide ((↑(UInt8.toNat x1):Int)<=57)) (some (Ay.mk [.sc (.bool false)] [])) (Ab (wrap .i64 (y2+1)) fun x9=>A8 fu call a0 (nn) (y0) (y1) x9))) (Bh (!decide ((↑(UInt8.toNat x1):Int)<=57)) (some (Ay.mk [.sc (.bool false)] [])) (Ab (wrap .i64 (y2+1)) fun Fv=>A8 fu call a0 (nn) (y0) (y1) Fv))) (Bh ((↑(UInt8.toNat x1):Int)==45) (Bh (decide (y2>0)) (Ab (wrap .i64 ((↑(ByteArray.size y0):Int)-1)) fun Lr=>Bh (!decide (y2<Lr)) (some (Ay.mk [.sc (.bool false)] [])) (Ab (wrap .i64 (y2+1)) fun L3=>A8 fu call a0 (nn) (y0) (y1) L3)) (some (Ay.mk [.sc (.bool false)] []))) (some (Ay.mk [.sc (.bool false)] []))))) (Bh (decide (48<=(↑(UInt8.toNat x1):Int))) (Bh ((↑(UInt8.toNat x1):Int)==45) (Bh (decide (y2>0)) (Ab (wrap .i64 ((↑(ByteArray.size y0):Int)-1)) fun Ff=>Bh (!decide ((↑(UInt8.toNat x1):Int)<=57)) (Bh (!decide (y2<Ff)) (some (Ay.mk [.sc (.bool false)] [])) (Ab (wrap .i64 (y2+1)) fun Je=>A8 fu call a0 (nn) (y0) (y1) Je)) (Ab (wrap .i64 (y2+1)) fun Mb=>A8 fu call a0 (nn) (y0) (y1) Mb)) (Bh (!decide ((↑(UInt8.toNat x1):Int)<=57)) (some (Ay.mk [.sc (.bool false)] [])) (Ab (wrap .i64 (y2+1)) fun K2=>A8 fu call a0 (nn) (y0) (y1) K2))) (Bh (!decide ((↑(UInt8.toNat x1):Int)<=57)) (some (Ay.mk [.sc (.bool false)] [])) (Ab (wrap .i64 (y2+1)) fun I4=>A8 fu call a0 (nn) (y0) (y1) I4))) (Bh ((↑(UInt8.toNat x1):Int)==45) (Bh (decide (y2>0)) (Ab (wrap .i64 ((↑(ByteArray.size y0):Int)-1)) fun Lw=>Bh (!decide (y2<Lw)) (some (Ay.mk [.sc (.bool false)] [])) (Ab (wrap .i64 (y2+1)) fun L4=>A8 fu call a0 (nn) (y0) (y1) L4)) (some (Ay.mk [.sc (.bool false)] []))) (some (Ay.mk [.sc (.bool false)] []))))) (some (Ay.mk [.sc (.bool true)] []))):=by kernel_rfl
theorem Sk {p:Option (List PV->Option Ay)} (fu d:Nat)(a0:ByteArray):Ae (CP p) prog fu (d+1) Le [.sc (.string a0)]=(fun (call:Ax)=>Bh (decide ((↑(ByteArray.size a0):Int)<1)) (some (Ay.mk [.sc (.bool false)] [])) (Bh (decide ((↑(ByteArray.size a0):Int)>63)) (some (Ay.mk [.sc (.bool false)] [])) (A8 fu call a0 (fu) (a0) ((↑(ByteArray.size a0):Int)) 0))) (Ae (CP p) prog fu d):=by kernel_rfl
abbrev N2:FuncId:=46
noncomputable def Gg (fu:Nat)(call:Ax)(a0:ByteArray)(nn y0 y1:Nat)(y2 y3:Int)(y4:List PV):Option Ay:=Is CB prog fu call 46 Tryd.f46 (F4 Tryd.f46) [.sc (.string a0)] [.r,.r,.r,.l,.r,.l] nn ⟨lk [(3,(.view 3 1 0 y0)),(11,(.view 3 1 0 y1)),(12,(.sc (.int .i64 y2))),(13,(.sc (.int .i64 y3)))],Jh [(3,(.ar false y4))]⟩
theorem Kx (fu:Nat)(call:Ax)(a0:ByteArray)(nn y0 y1:Nat)(y2 y3:Int)(y4:List PV):Gg fu call a0 (nn+1) y0 y1 y2 y3 y4=(Bh (decide (y3<y2)) (Bi (decide (0<=y3)&&decide (y3<(↑y1:Int)))<|Az (List.getD y4 (0+Int.toNat y3*1) .top) fun x7=>Ah (call 65 [.sc (.string x7)]) fun x8 x9=>Ad x9<|Aa x8 fun Fv Lr=>Aq Fv fun L3=>Ad Lr<|Bh (!L3) (some (Ay.mk [.sc (.int .i64 2)] [])) (Ab (wrap .i64 (y3+1)) fun Ff=>Gg fu call a0 (nn) (y0) (y1) (y2) Ff (y4))) (Ab (wrap .i64 ((↑y0:Int)-1)) fun Je=>Bi (decide (0<=Je)&&decide (Je<(↑y0:Int)))<|Az (List.getD y4 (0+Int.toNat Je*1) .top) fun Mb=>Ah (call 66 [.sc (.string Mb),.sc (.string (ByteArray.mk #[48,49,50,51,52,53,54,55,56,57]))]) fun K2 I4=>Ad I4<|Aa K2 fun Lw L4=>Az Lw fun Ml=>Ad L4<|Bh (Array.toList (ByteArray.data Ml)==Array.toList (ByteArray.data (ByteArray.mk #[]))) (some (Ay.mk [.sc (.int .i64 2)] [])) (some (Ay.mk [.sc (.int .i64 0)] [])))):=by kernel_rfl
theorem Wk {p:Option (List PV->Option Ay)} (fu d:Nat)(a0:ByteArray):Ae (CP p) prog fu (d+1) N2 [.sc (.string a0)]=(fun (call:Ax)=>Bh (decide ((↑(ByteArray.size a0):Int)>100)) (some (Ay.mk [.sc (.int .i64 8)] [])) (Ah (call 64 [.sc (.string a0),.sc (.string (ByteArray.mk #[46]))]) fun x1 x2=>Ad x2<|Aa x1 fun x3 x4=>NY 1 x3 fun x5 x6=>Ad x4<|Gg fu call a0 (fu) x5 x5 ((↑x5:Int)) 0 x6)) (Ae (CP p) prog fu d):=by kernel_rfl
abbrev Ii:FuncId:=47
theorem Pm {p:Option (List PV->Option Ay)} (fu d:Nat)(a0:Bool):Ae (CP p) prog fu (d+1) Ii [.sc (.bool a0)]=(fun (call:Ax)=>Bh (a0) (some (Ay.mk [.sc (.int .i64 443)] [])) (some (Ay.mk [.sc (.int .i64 80)] []))) (Ae (CP p) prog fu d):=by kernel_rfl
abbrev Kg:FuncId:=48
noncomputable def Ey (fu:Nat)(call:Ax)(a0:ByteArray)(nn:Nat)(y0:ByteArray)(y1 y2 y3:Int):Option Ay:=Is CB prog fu call 48 Tryd.f48 (F4 Tryd.f48) [.sc (.string a0)] [.r,.r,.r,.l,.r,.l] nn ⟨lk [(0,(.sc (.string y0))),(4,(.sc (.int .i64 y1))),(21,(.sc (.int .i64 y2))),(22,(.sc (.int .i64 y3)))],Jh []⟩
theorem Ht (fu:Nat)(call:Ax)(a0:ByteArray)(nn:Nat)(y0:ByteArray)(y1 y2 y3:Int):Ey fu call a0 (nn+1) y0 y1 y2 y3=(Bh (decide (y3<y2)) (Bi (decide (0<=y3))<|Dk ((Array.toList (ByteArray.data y0))[Int.toNat y3]?) fun x2=>Bh (decide ((↑(UInt8.toNat x2):Int)<48)) (some (Ay.mk [.sc (.int .i64 0),.sc (.bool false)] [])) (Bh (decide ((↑(UInt8.toNat x2):Int)>57)) (some (Ay.mk [.sc (.int .i64 0),.sc (.bool false)] [])) (Ab (wrap .i64 (10*y1)) fun x3=>Ab (wrap .u8 ((↑(UInt8.toNat x2):Int)-48)) fun x4=>Ab (wrap .i64 x4) fun x5=>Ab (wrap .i64 (x3+x5)) fun x6=>Ab (wrap .i64 (y3+1)) fun x7=>Ey fu call a0 (nn) (y0) x6 (y2) x7))) (some (Ay.mk [.sc (.int .i64 y1),.sc (.bool (decide (y1<=65535)))] []))):=by kernel_rfl
theorem Ry {p:Option (List PV->Option Ay)} (fu d:Nat)(a0:ByteArray):Ae (CP p) prog fu (d+1) Kg [.sc (.string a0)]=(fun (call:Ax)=>Bh (decide ((↑(ByteArray.size a0):Int)<1)) (some (Ay.mk [.sc (.int .i64 0),.sc (.bool false)] [])) (Bh (decide ((↑(ByteArray.size a0):Int)>5)) (some (Ay.mk [.sc (.int .i64 0),.sc (.bool false)] [])) (Dk ((Array.toList (ByteArray.data a0))[0]?) fun x1=>Bh ((↑(UInt8.toNat x1):Int)==48) (some (Ay.mk [.sc (.int .i64 0),.sc (.bool false)] [])) (Ey fu call a0 (fu) (a0) 0 ((↑(ByteArray.size a0):Int)) 0)))) (Ae (CP p) prog fu d):=by kernel_rfl
abbrev Pp:FuncId:=32
theorem Z6 {p:Option (List PV->Option Ay)} (fu d:Nat)(a0:ByteArray):Ae (CP p) prog fu (d+1) Pp [.sc (.string a0)]=(fun (call:Ax)=>Ah (call 44 [.sc (.string a0),.sc (.string (ByteArray.mk #[104,116,116,112,115,58,47,47]))]) fun x1 x2=>Ad x2<|Aa x1 fun x3 x4=>Az x3 fun x5=>Aa x4 fun x6 x7=>Aq x6 fun x8=>Ad x7<|Bh (!x8) (Ah (call 44 [.sc (.string a0),.sc (.string (ByteArray.mk #[104,116,116,112,58,47,47]))]) fun x9 Fv=>Ad Fv<|Aa x9 fun Lr L3=>Az Lr fun Ff=>Aa L3 fun Je Mb=>Aq Je fun K2=>Ad Mb<|Bh (!K2) (some (Ay.mk [.agg [.sc (.bool false),.sc (.string (ByteArray.mk #[])),.sc (.int .i64 0)],.sc (.int .i64 2)] [])) (Ah (call 45 [.sc (.string Ff),.sc (.string (ByteArray.mk #[58]))]) fun I4 Lw=>Ad Lw<|Aa I4 fun L4 Ml=>Az L4 fun Mi=>Aa Ml fun N6 K4=>Az N6 fun Nq=>Aa K4 fun L1 L5=>Aq L1 fun Mk=>Ad L5<|Ah (call 46 [.sc (.string Mi)]) fun Oi Me=>Ad Me<|Aa Oi fun Oa Om=>Ak .i64 Oa fun Oc=>Ad Om<|Bh (Oc != 0) (some (Ay.mk [.agg [.sc (.bool false),.sc (.string (ByteArray.mk #[])),.sc (.int .i64 0)],.sc (.int .i64 Oc)] [])) (Ah (call 47 [.sc (.bool x8)]) fun M9 Ol=>Ad Ol<|Aa M9 fun Pj Q7=>Ak .i64 Pj fun Se=>Ad Q7<|Bh Mk (Ah (call 48 [.sc (.string Nq)]) fun S1 Pu=>Ad Pu<|Aa S1 fun AZ BA=>Ak .i64 AZ fun Qm=>Aa BA fun Qj Zo=>Aq Qj fun Xh=>Ad Zo<|Bh (!Xh) (some (Ay.mk [.agg [.sc (.bool false),.sc (.string (ByteArray.mk #[])),.sc (.int .i64 0)],.sc (.int .i64 2)] [])) (Bh (Qm==Se) (some (Ay.mk [.agg [.sc (.bool false),.sc (.string (ByteArray.mk #[])),.sc (.int .i64 0)],.sc (.int .i64 2)] [])) (some (Ay.mk [.agg [.sc (.bool x8),.sc (.string Mi),.sc (.int .i64 Qm)],.sc (.int .i64 0)] [])))) (some (Ay.mk [.agg [.sc (.bool x8),.sc (.string Mi),.sc (.int .i64 Se)],.sc (.int .i64 0)] []))))) (Ah (call 45 [.sc (.string x5),.sc (.string (ByteArray.mk #[58]))]) fun BP AY=>Ad AY<|Aa BP fun BH X6=>Az BH fun Xl=>Aa X6 fun AX BC=>Az AX fun CU=>Aa BC fun Z7 GI=>Aq Z7 fun JJ=>Ad GI<|Ah (call 46 [.sc (.string Xl)]) fun EN EU=>Ad EU<|Aa EN fun GW IL=>Ak .i64 GW fun HT=>Ad IL<|Bh (HT != 0) (some (Ay.mk [.agg [.sc (.bool false),.sc (.string (ByteArray.mk #[])),.sc (.int .i64 0)],.sc (.int .i64 HT)] [])) (Ah (call 47 [.sc (.bool x8)]) fun NZ TG=>Ad TG<|Aa NZ fun PQ OB=>Ak .i64 PQ fun PN=>Ad OB<|Bh JJ (Ah (call 48 [.sc (.string CU)]) fun OD PU=>Ad PU<|Aa OD fun SU OH=>Ak .i64 SU fun NU=>Aa OH fun LX NW=>Aq LX fun NV=>Ad NW<|Bh (!NV) (some (Ay.mk [.agg [.sc (.bool false),.sc (.string (ByteArray.mk #[])),.sc (.int .i64 0)],.sc (.int .i64 2)] [])) (Bh (NU==PN) (some (Ay.mk [.agg [.sc (.bool false),.sc (.string (ByteArray.mk #[])),.sc (.int .i64 0)],.sc (.int .i64 2)] [])) (some (Ay.mk [.agg [.sc (.bool x8),.sc (.string Xl),.sc (.int .i64 NU)],.sc (.int .i64 0)] [])))) (some (Ay.mk [.agg [.sc (.bool x8),.sc (.string Xl),.sc (.int .i64 PN)],.sc (.int .i64 0)] []))))) (Ae (CP p) prog fu d):=by kernel_rfl
abbrev G3:FuncId:=15
noncomputable def Ca (fu:Nat)(call:Ax)(a0:ByteArray)(nn:Nat)(y0:ByteArray)(y1:Nat)(y2:List PV):Option Ay:=Is CB prog fu call 15 Tryd.f15 (F4 Tryd.f15) [.sc (.string a0)] [.r,.r,.r,.l,.l] nn ⟨lk [(0,(.sc (.string y0))),(4,(.view 4 1 0 y1))],Jh [(4,(.ar false y2))]⟩
noncomputable def B7 (fu:Nat)(call:Ax)(a0:ByteArray)(m0 nn:Nat)(y0:ByteArray)(y1:Nat)(y2 y3:Int)(y4 y5:Int)(y6:List PV):Option Ay:=Is CB prog fu call 15 Tryd.f15 (F4 Tryd.f15) [.sc (.string a0)] [.r,.r,.r,.l,.l,.i m0,.r,.l,.r,.r,.l,.r,.l] nn ⟨lk [(0,(.sc (.string y0))),(4,(.view 4 1 0 y1)),(5,(.sc (.int .i64 y2))),(6,(.sc (.int .u32 y3))),(28,(.sc (.int .i64 y4))),(29,(.sc (.int .i64 y5)))],Jh [(4,(.ar false y6))]⟩
noncomputable def B9 (fu:Nat)(call:Ax)(a0:ByteArray)(m0 nn:Nat)(y0:ByteArray)(y1:Nat)(y2:Int)(y3 y4:Nat)(y5 y6:Int)(y7 y8:List PV):Option Ay:=Is CB prog fu call 15 Tryd.f15 (F4 Tryd.f15) [.sc (.string a0)] [.r,.r,.r,.l,.l,.i m0,.r,.l,.r,.r,.r,.r,.l,.r,.l] nn ⟨lk [(0,(.sc (.string y0))),(4,(.view 4 1 0 y1)),(5,(.sc (.int .i64 y2))),(9,(.ptr 9 0)),(58,(.view 9 1 y3 y4)),(59,(.sc (.int .i64 y5))),(60,(.sc (.int .i64 y6)))],Jh [(4,(.ar false y7)),(9,(.ar false y8))]⟩
theorem F1 (fu:Nat)(call:Ax)(a0:ByteArray)(nn:Nat)(y0:ByteArray)(y1:Nat)(y2:List PV):Ca fu call a0 (nn+1) y0 y1 y2=(Bh (decide ((↑(ByteArray.size y0):Int)>0)) (Ab (if (↑(ByteArray.size y0):Int)<4 then (↑(ByteArray.size y0):Int) else 4) fun x5=>B7 fu call a0 nn (fu) (y0) (y1) x5 0 x5 0 (y2)) (Bi (decide (y1*1<=y2.length))<|some (Ay.mk [.own 1 y1 (List.take (y1*1) y2),.sc (.int .i64 0)] []))):=by kernel_rfl
theorem F6 (fu:Nat)(call:Ax)(a0:ByteArray)(m0 nn:Nat)(y0:ByteArray)(y1:Nat)(y2 y3:Int)(y4 y5:Int)(y6:List PV):B7 fu call a0 m0 (nn+1) y0 y1 y2 y3 y4 y5 y6=(Bh (decide (y5<y4)) (Bi (decide (0<=y5))<|Dk ((Array.toList (ByteArray.data y0))[Int.toNat y5]?) fun x6=>Ah (call 27 [.sc (.string (ByteArray.mk #[65,66,67,68,69,70,71,72,73,74,75,76,77,78,79,80,81,82,83,84,85,86,87,88,89,90,97,98,99,100,101,102,103,104,105,106,107,108,109,110,111,112,113,114,115,116,117,118,119,120,121,122,48,49,50,51,52,53,54,55,56,57,45,95])),.sc (.int .u8 (↑(UInt8.toNat x6):Int))]) fun x7 x8=>Ad x8<|Aa x7 fun x9 Fv=>Ak .i64 x9 fun Lr=>Ad Fv<|Bh (decide (Lr<0)) (some (Ay.mk [.own 1 0 [],.sc (.int .i64 2)] [])) (Ab (wrap .u32 Lr) fun L3=>Ab (wrap .i64 (6*y5)) fun Ff=>Ab (wrap .i64 (18-Ff)) fun Je=>Bi (decide (0<=Je))<|Ab (Gz .u32 L3 Je) fun Mb=>Ab (JL .u32 y3 Mb) fun K2=>Ab (wrap .i64 (y5+1)) fun I4=>B7 fu call a0 m0 (nn) (y0) (y1) (y2) K2 (y4) I4 (y6))) (Ab (ME .u32 y3 16) fun Lw=>Ab (wrap .u8 Lw) fun L4=>Ab (ME .u32 y3 8) fun Ml=>Ab (wrap .u8 Ml) fun Mi=>Ab (wrap .u8 y3) fun N6=>Ab (wrap .i64 (y2-1)) fun K4=>Bi (decide (0<=K4))<|Bi (decide (Int.toNat K4<=3)&&true)<|Ab (0+Int.toNat K4*1) fun Nq=>Ab (3-Int.toNat K4) fun L1=>B9 fu call a0 m0 (fu) (y0) (y1) (y2) Nq L1 ((↑L1:Int)) 0 (y6) ([.sc (.int .u8 L4),.sc (.int .u8 Mi),.sc (.int .u8 N6)]))):=by kernel_rfl
theorem F0 (fu:Nat)(call:Ax)(a0:ByteArray)(m0 nn:Nat)(y0:ByteArray)(y1:Nat)(y2:Int)(y3 y4:Nat)(y5 y6:Int)(y7 y8:List PV):B9 fu call a0 m0 (nn+1) y0 y1 y2 y3 y4 y5 y6 y7 y8=(Bh (decide (y6<y5)) (Bi (decide (0<=y6)&&decide (y6<(↑y4:Int)))<|Ak .u8 (List.getD y8 (y3+Int.toNat y6*1) .top) fun L5=>Bh (L5 != 0) (some (Ay.mk [.own 1 0 [],.sc (.int .i64 2)] [])) (Ab (wrap .i64 (y6+1)) fun Mk=>B9 fu call a0 m0 (nn) (y0) (y1) (y2) (y3) (y4) (y5) Mk (y7) (y8))) (Ab (wrap .i64 (y2-1)) fun Oi=>Bi (decide (3<=y8.length)&&true)<|Bi (decide (0<=Oi))<|Bi (decide (Int.toNat Oi<=3))<|Ab (Int.toNat Oi-0) fun Me=>Bi (decide (0+Me*1<=y8.length))<|Bi (decide (y1*1<=y7.length)&&decide (List.length (List.take (Me*1) (List.drop 0 y8))=Me*1)&&decide ((y1+Me)*1<=1099511627776)&&decide (y1+Me<=1099511627776))<|Ab (y1+Me) fun Oa=>Ab (List.take (y1*1) y7++List.take (Me*1) (List.drop 0 y8)) fun Om=>Bi (decide (0<=y2))<|Bi (decide (Int.toNat y2<=ByteArray.size y0)&&decide (ByteArray.size y0<=ByteArray.size y0))<|Ab (ByteArray.extract y0 y2.toNat (ByteArray.size y0)) fun Oc=>Ca fu call a0 (m0) Oc Oa Om)):=by kernel_rfl
theorem Mp {p:Option (List PV->Option Ay)} (fu d:Nat)(a0:ByteArray):Ae (CP p) prog fu (d+1) G3 [.sc (.string a0)]=(fun (call:Ax)=>Ab (Int.tmod (↑(ByteArray.size a0):Int) 4) fun x1=>Bh (x1==1) (some (Ay.mk [.own 1 0 [],.sc (.int .i64 2)] [])) (Ab (wrap .i64 (Int.tdiv (↑(ByteArray.size a0):Int) 4)) fun x2=>Ab (wrap .i64 (x2*3)) fun x3=>Ab (wrap .i64 (x3+2)) fun x4=>Bi (decide (0<=x4)&&decide (x4*1<=1099511627776)&&decide (x4<=1099511627776))<|Ca fu call a0 (fu) (a0) 0 ([]))) (Ae (CP p) prog fu d):=by kernel_rfl
end
section
open Go.Proofs.Tryd (prog)
open Go.IntKind (wrap)
set_option maxRecDepth 100000
theorem ZO {a b:Int}(ha:0<=a∧a<=255)(hb:0<=b∧b<=255):(a.toNat.toUInt8==b.toNat.toUInt8)=decide (a=b):=by
 rw[Bool.eq_iff_iff,beq_iff_eq,decide_eq_true_iff];constructor
 ·intro h;have:=congrArg UInt8.toNat h;have e1:a.toNat.toUInt8.toNat=a.toNat % 256:=by rw[Nat.toUInt8,UInt8.toNat_ofNat']
  have e2:b.toNat.toUInt8.toNat=b.toNat % 256:=by rw[Nat.toUInt8,UInt8.toNat_ofNat']
  rw[e1,e2] at this;omega
 ·rintro rfl;rfl
theorem Zr {c:Int}(hc:0<=c∧c<=255):((c.toNat.toUInt8.toNat:Nat):Int)=c:=by
 rw[Nat.toUInt8,UInt8.toNat_ofNat'];omega
theorem YW {c x:Int}(r:List Int)(e:x≠c):B5 c (x::r)=x::B5 c r:=by unfold B5;rw[List.takeWhile_cons_of_pos (by simp[e])]
theorem SK {c:Int}(r:List Int):B5 c (c::r)=[]:=by unfold B5;rw[List.takeWhile_cons_of_neg (by simp)]
theorem S4 (c:Int)(l:List Int):B5 c l=l.take (B5 c l).length:=by
 have h:B5 c l <+: l:=List.takeWhile_prefix _;exact List.prefix_iff_eq_take.1 h
theorem SC (c:Int)(l:List Int):(B5 c l).length<=l.length:=by
 have h:B5 c l <+: l:=List.takeWhile_prefix _;exact h.length_le
theorem Aeh (c:Int)(l:List Int)(h:¬(B5 c l).length<l.length):B5 c l=l:=by
 have:=SC c l;rw[S4 c l,Zzf (by omega)]
def Ut (c:Int)(l:List Int):Int:=if (B5 c l).length<l.length then ((B5 c l).length:Int) else -1
theorem TM {c:Int}(hc:0<=c∧c<=255):∀{l:List Int},Dq l->Lib.indexByte (l.map fun n=>n.toNat.toUInt8) c.toNat.toUInt8=Ut c l
 |[],_=>rfl
 |x::r,h=>by
  obtain⟨hx,hr⟩:=C7 h;have ih:=TM hc hr;show (if (x.toNat.toUInt8==c.toNat.toUInt8)=true then (0:Int) else if (Lib.indexByte (r.map fun n=>n.toNat.toUInt8) c.toNat.toUInt8 == -1)=true then -1 else Lib.indexByte (r.map fun n=>n.toNat.toUInt8) c.toNat.toUInt8+1)=_
  rw[ZO hx hc,ih];by_cases e:x=c
  ·subst e;unfold Ut;rw[SK];simp
  ·unfold Ut;rw[YW r e];simp only[decide_eq_true_eq,e,if_false,PG];by_cases g:(B5 c r).length<r.length
   ·simp only[E7 g,E7 (show (B5 c r).length+1<r.length+1 by omega)]
    rw[Dz (show ¬(((((B5 c r).length:Int)) == -1)=true) by rw[beq_iff_eq];omega)]
    omega
   ·simp only[Dz g,Dz (show ¬(B5 c r).length+1<r.length+1 by omega)]
    rfl
theorem DL {c:Int}(hc:0<=c∧c<=255):∀{l:List Int},Dq l->(l.map fun n=>n.toNat.toUInt8).count c.toNat.toUInt8+1=(A9 c l).length
 |[],_=>rfl
 |x::r,h=>by
  obtain⟨hx,hr⟩:=C7 h;have ih:=DL hc hr;rw[List.map_cons,List.count_cons,ZO hx hc];unfold A9;by_cases e:x=c
  ·rw[E7 e,E7 (by simp[e]),PG,←ih]
  ·rw[Dz e,Dz (by simp[e])]
   cases hs:A9 c r with
   |nil=>exact absurd hs (P5 c r)
   |cons a t=>
    rw[hs] at ih
    simpa using ih
theorem Uv (c:Int):∀(l:List Int),(A9 c l).length<=l.length+1
 |[]=>Nat.le_refl _
 |x::r=>by
  have ih:=Uv c r;unfold A9;split
  ·simp;omega
  ·cases hs:A9 c r with
   |nil=>simp
   |cons a t=>rw[hs] at ih;simp at ih ⊢;omega
theorem DZ (c:Int)(l:List Int):1<=(A9 c l).length:=by
 have:=P5 c l;cases hs:A9 c l with
 |nil=>exact absurd hs this
 |cons a t=>simp
theorem RN {a:List PV}{n:Nat}{x y:PV}{r:List PV}(h:a.length=n):(a++x::r).set n y=a++y::r:=by
 subst h
 induction a with
 |nil=>rfl
 |cons z a ih=>simp[ih]
theorem dle (n:Nat):decide (n<=n)=true:=by simp
section
variable {fu d:Nat} {p:Option (List PV->Option Ay)}
theorem TB {c:Int}(hc:0<=c∧c<=255){l:List Int}(hl:Dq l):Ae (CP p) prog fu (d+2) Ji [.sc (.string (Ac l)),.sc (.string (Ac [c]))]=some ⟨[.sc (.int .i64 (Ut c l))],[]⟩:=by
 have e:Ae (CP p) prog fu (d+1) 40 [.sc (.string (Ac l)),.sc (.int .u8 c)]=some ⟨[.sc (.int .i64 (Lib.indexByte (Ac l).data.toList c.toNat.toUInt8))],[]⟩:=rfl;have e0:(Ac l).data.toList=l.map fun n=>n.toNat.toUInt8:=rfl
 rw[e0,TM hc hl] at e;have h0:((((Ac [c]).size:Nat):Int)==0)=false:=by rw[Aw];rfl
 have h1:((((Ac [c]).size:Nat):Int)==1)=true:=by rw[Aw];rfl
 have h2:(Array.toList (Ac [c]).data)[0]?=some c.toNat.toUInt8:=rfl;have h3:=Zr hc;rw[Qu];by_cases g:[c]=l
 ·subst g;have h4:(Array.toList (Ac [c]).data==Array.toList (Ac [c]).data)=true:=by simp
  have h5:Ut c [c]=0:=by unfold Ut;rw[SK];rfl
  simp only[Ej,h0,h4,h5]
 ·have h4:(Array.toList (Ac [c]).data==Array.toList (Ac l).data)=false:=by
   rw[Bool.eq_false_iff,ne_eq,beq_iff_eq];intro q;apply g
   have q2:Ac [c]=Ac l:=by
    cases hx:Ac [c];cases hy:Ac l;rw[hx,hy] at q;exact congrArg ByteArray.mk (Array.toList_inj.1 q)
   have q3:=congrArg D1 q2
   rwa [C9 hl,C9 (fun x hx=>by simp at hx;omega)] at q3
  simp only[Ej,h0,h4,h1,h2,h3,e]
theorem Aa7 {c:Int}(hc:0<=c∧c<=255){l:List Int}(hl:Dq l):Ae (CP p) prog fu (d+3) N5 [.sc (.string (Ac l)),.sc (.string (Ac [c]))]=some ⟨[.sc (.int .i64 (Ut c l))],[]⟩:=by
 have e:Ae (CP p) prog fu (d+2) 78 [.sc (.string (Ac l)),.sc (.string (Ac [c]))]=_:=TB (fu:=fu) (d:=d) (p:=p) hc hl;rw[Wj];simp only[Ej,e]
theorem KE {l:List Int}(hl:Dq l)(n:Nat):(Ac l).extract 0 n=Ac (l.take n):=by rw[Tg,C9 hl]
theorem Xi {l:List Int}(hl:Dq l)(n:Nat):(Ac l).extract n l.length=Ac (l.drop n):=by
 have:=Vz (s:=Ac l) (a:=n)
 rwa [Aw,C9 hl] at this
theorem Aqz {c:Int}(hc:0<=c∧c<=255){l:List Int}(hl:Dq l)(hs:l.length<=1000000):Ae (CP p) prog fu (d+4) Q3 [.sc (.string (Ac l)),.sc (.string (Ac [c]))]=some ⟨[.sc (.string (Ac (B5 c l))),.sc (.string (Ac (l.drop ((B5 c l).length+1)))),.sc (.bool (decide ((B5 c l).length<l.length)))],[]⟩:=by
 have e:Ae (CP p) prog fu (d+2) 78 [.sc (.string (Ac l)),.sc (.string (Ac [c]))]=_:=TB (fu:=fu) (d:=d) (p:=p) hc hl
 have e2:Ae (CP p) prog fu (d+3) 63 [.sc (.string (Ac l)),.sc (.string (Ac [c]))]=some ⟨[.sc (.string (Ac (B5 c l))),.sc (.string (Ac (l.drop ((B5 c l).length+1)))),.sc (.bool (decide ((B5 c l).length<l.length)))],[]⟩:=by
  refine (Ty (p:=p) fu (d+2) _ _).trans ?_;by_cases g:(B5 c l).length<l.length
  ·have hi:Ut c l=(B5 c l).length:=by unfold Ut;rw[E7 g]
   rw[hi] at e;have a1:decide (((B5 c l).length:Int)>=0)=true:=by simp
   have a2:decide ((0:Int)<=((B5 c l).length:Int))=true:=by simp
   have a3:decide (Int.toNat ((B5 c l).length:Int)<=l.length)=true:=by simp;omega
   have a4:(Ac l).extract 0 (Int.toNat ((B5 c l).length:Int))=Ac (B5 c l):=by
    rw[Oj,KE hl,←S4]
   have a5:wrap .i64 (((B5 c l).length:Int)+(([c].length:Nat):Int))=(((B5 c l).length+1:Nat):Int):=by
    rw[Bc (by simp;omega) (by simp;omega)];simp
   have a6:decide ((0:Int)<=(((B5 c l).length+1:Nat):Int))=true:=by simp;omega
   have a7:decide (Int.toNat (((B5 c l).length+1:Nat):Int)<=l.length)=true:=by simp;omega
   have a8:(Ac l).extract (Int.toNat (((B5 c l).length+1:Nat):Int)) l.length=Ac (l.drop ((B5 c l).length+1)):=by
    rw[Oj,Xi hl]
   have a9:decide ((B5 c l).length<l.length)=true:=by simpa using g
   simp only[Ej,e,Aw,dle,a1,a2,a3,a4,a5,a6,a7,a8,a9]
  ·have hi:Ut c l = -1:=by unfold Ut;rw[Dz g]
   rw[hi] at e;have a1:decide ((-1:Int)>=0)=false:=rfl;have a9:decide ((B5 c l).length<l.length)=false:=by simpa using g
   have a10:l.drop ((B5 c l).length+1)=[]:=List.drop_eq_nil_of_le (by omega)
   have a11:(ByteArray.mk #[])=Ac []:=rfl;rw[a9,a10,Aeh c l g];simp only[Ej,e,a1,a11]
 rw[CV];simp only[Ej,e2]
theorem Ag3 {l w:List Int}(hl:Dq l)(hw:Dq w):Ae (CP p) prog fu (d+4) Jn [.sc (.string (Ac l)),.sc (.string (Ac w))]=some ⟨[.sc (.string (Ac (if w.isPrefixOf l=true then l.drop w.length else l))),.sc (.bool (w.isPrefixOf l))],[]⟩:=by
 have e:Ae (CP p) prog fu (d+2) 77 [.sc (.string (Ac l)),.sc (.string (Ac w))]=some ⟨[.sc (.bool (w.isPrefixOf l))],[]⟩:=Ag9 (xs:=RG p) (fu:=fu) (d:=d+1) hl hw
 have e2:Ae (CP p) prog fu (d+3) 62 [.sc (.string (Ac l)),.sc (.string (Ac w))]=some ⟨[.sc (.string (Ac (if w.isPrefixOf l=true then l.drop w.length else l))),.sc (.bool (w.isPrefixOf l))],[]⟩:=by
  refine (Mj (p:=p) fu (d+2) _ _).trans ?_;cases hp:w.isPrefixOf l
  ·rw[hp] at e;simp only[Ej,e,D2,Bool.false_eq_true,if_false]
  ·rw[hp] at e;have Wv:w.length<=l.length:=(List.isPrefixOf_iff_prefix.1 hp).length_le;have a1:decide (Int.toNat ((w.length:Nat):Int)<=l.length)=true:=by simp;omega
   have a2:(Ac l).extract (Int.toNat ((w.length:Nat):Int)) l.length=Ac (l.drop w.length):=by rw[Oj,Xi hl]
   simp only[Ej,e,Aw,dle,a1,a2,Db,if_true]
 rw[Qy];simp only[Ej,e2]
def BI (x:List Int):PV:=.sc (.string (Ac x))
theorem PX {c:Int}(hc:0<=c∧c<=255){a0 a1:ByteArray}{a2 a3:Int}{N:Nat}(hN:N<=1000000):∀(nn:Nat)(r:List Int)(done:List (List Int)),r.length+1<=nn->r.length<=1000000->Dq r->done.length+(A9 c r).length=N ->
  D5 fu (Ae (CP p) prog fu (d+3)) a0 a1 a2 a3 nn (Ac r) (Ac [c]) 0 ((N:Int)-1) N (done.length:Int) (done.map BI++List.replicate (A9 c r).length (.sc (.string ⟨#[]⟩)))=some ⟨[.own 1 N ((done++A9 c r).map BI)],[]⟩:=by
 intro nn
 induction nn with
 |zero=>intro r done h;omega
 |succ k ih=>
  intro r done hk hr6 hr hn;have e:Ae (CP p) prog fu (d+3) 100 [.sc (.string (Ac r)),.sc (.string (Ac [c]))]=_:=Aa7 (fu:=fu) (d:=d) (p:=p) hc hr;rw[N9];have E8:=Vt c r;by_cases g:(B5 c r).length<r.length
  ·rw[E7 g] at E8;have hi:Ut c r=(B5 c r).length:=by unfold Ut;rw[E7 g]
   rw[hi] at e;have hp:=DZ c (r.drop ((B5 c r).length+1));have On:(A9 c r).length=(A9 c (r.drop ((B5 c r).length+1))).length+1:=by rw[E8];simp
   have a0:decide ((done.length:Int)<(N:Int)-1)=true:=by simp;omega
   have a1:decide (((B5 c r).length:Int)<0)=false:=by simp
   have a2:wrap .i64 (((B5 c r).length:Int)+0)=((B5 c r).length:Int):=by rw[Bc (by omega) (by omega)];omega
   have a3:decide ((0:Int)<=((B5 c r).length:Int))=true:=by simp
   have a4:decide (Int.toNat ((B5 c r).length:Int)<=r.length)=true:=by simp;omega
   have a5:(Ac r).extract 0 (Int.toNat ((B5 c r).length:Int))=Ac (B5 c r):=by rw[Oj,KE hr,←S4]
   have a6:(decide ((0:Int)<=(done.length:Int))&&decide ((done.length:Int)<(N:Int)))=true:=by simp;omega
   have a7:decide (0+Int.toNat (done.length:Int)*1+1<=List.length (done.map BI++List.replicate (A9 c r).length (PV.sc (.string ⟨#[]⟩))))=true:=by simp;omega
   have a8:B8 (done.map BI++List.replicate (A9 c r).length (PV.sc (.string ⟨#[]⟩))) [PV.sc (.string (Ac (B5 c r)))] (0+Int.toNat (done.length:Int)*1)=(done++[B5 c r]).map BI++List.replicate (A9 c (r.drop ((B5 c r).length+1))).length (PV.sc (.string ⟨#[]⟩)):=by
    rw[Y3 (by simp;omega),On,List.replicate_succ,Oj,Zzd,Nat.mul_one,RN (by simp)]
    simp[BI]
   have a9:wrap .i64 (((B5 c r).length:Int)+(([c].length:Nat):Int))=(((B5 c r).length+1:Nat):Int):=by
    rw[Bc (by simp;omega) (by simp;omega)];simp
   have b1:decide ((0:Int)<=(((B5 c r).length+1:Nat):Int))=true:=by simp;omega
   have b2:decide (Int.toNat (((B5 c r).length+1:Nat):Int)<=r.length)=true:=by simp;omega
   have b3:(Ac r).extract (Int.toNat (((B5 c r).length+1:Nat):Int)) r.length=Ac (r.drop ((B5 c r).length+1)):=by rw[Oj,Xi hr]
   have b4:wrap .i64 ((done.length:Int)+1)=(((done++[B5 c r]).length:Nat):Int):=by
    rw[Bc (by omega) (by omega)];simp
   have hd:=ih (r.drop ((B5 c r).length+1)) (done++[B5 c r]) (by simp;omega) (by simp;omega) ((fun x hx=>hr x (List.mem_of_mem_drop hx))) (by simp;omega)
   simp only[Ej,e,Aw,dle,a0,a1,a2,a3,a4,a5,a6,a7,a8,a9,b1,b2,b3,b4];rw[hd,E8];simp
  ·rw[Dz g] at E8;have On:(A9 c r).length=1:=by rw[E8];rfl
   have a0:decide ((done.length:Int)<(N:Int)-1)=false:=by simp;omega
   have a6:(decide ((0:Int)<=(done.length:Int))&&decide ((done.length:Int)<(N:Int)))=true:=by simp;omega
   have a7:decide (0+Int.toNat (done.length:Int)*1+1<=List.length (done.map BI++List.replicate (A9 c r).length (PV.sc (.string ⟨#[]⟩))))=true:=by simp;omega
   have a8:B8 (done.map BI++List.replicate (A9 c r).length (PV.sc (.string ⟨#[]⟩))) [PV.sc (.string (Ac r))] (0+Int.toNat (done.length:Int)*1)=(done++[r]).map BI:=by
    rw[Y3 (by simp;omega),On,show List.replicate 1 (PV.sc (Value.string ⟨#[]⟩))=[PV.sc (.string ⟨#[]⟩)] from rfl,Oj,Zzd,Nat.mul_one,RN (by simp)]
    simp[BI]
   have b4:wrap .i64 ((done.length:Int)+1)=(N:Int):=by
    rw[Bc (by omega) (by omega)];omega
   have b5:decide ((0:Int)<=(N:Int))=true:=by simp
   have b6:decide (Int.toNat (N:Int)<=N)=true:=by simp
   have b7:Int.toNat (N:Int)-0=N:=by simp
   have b8:decide (N*1<=List.length ((done++[r]).map BI))=true:=by simp;omega
   have b9:List.take (N*1) ((done++[r]).map BI)=(done++[r]).map BI:=Zzf (by simp;omega)
   simp only[Ej,a0,a6,a7,a8,b4,b5,b6,b7,b8,b9];rw[E8]
theorem Afi {c:Int}(hc:0<=c∧c<=255){l:List Int}(hl:Dq l)(hs:l.length<=999999)(Ev:l.length+1<=fu):Ae (CP p) prog fu (d+5) N4 [.sc (.string (Ac l)),.sc (.string (Ac [c]))]=some ⟨[.own 1 (A9 c l).length ((A9 c l).map BI)],[]⟩:=by
 have e:Ae (CP p) prog fu (d+4) 79 [.sc (.string (Ac l)),.sc (.string (Ac [c])),.sc (.int .i64 0),.sc (.int .i64 (-1))]=some ⟨[.own 1 (A9 c l).length ((A9 c l).map BI)],[]⟩:=by
  refine (Rf (p:=p) fu (d+3) _ _ _ _).trans ?_;have hn:=Uv c l;have hp:=DZ c l;have hcn:=DL hc hl
  have e1:Ae (CP p) prog fu (d+3) 99 [.sc (.string (Ac l)),.sc (.string (Ac [c]))]=some ⟨[.sc (.int .i64 (((A9 c l).length:Int)-1))],[]⟩:=by
   have:Ae (CP p) prog fu (d+3) 99 [.sc (.string (Ac l)),.sc (.string (Ac [c]))]=some ⟨[.sc (.int .i64 (Lib.countByte (Ac l).data.toList c.toNat.toUInt8))],[]⟩:=rfl;rw[this]
   have e0:(Lib.countByte (Ac l).data.toList c.toNat.toUInt8:Int)=((A9 c l).length:Int)-1:=by
    have:Lib.countByte (Ac l).data.toList c.toNat.toUInt8+1=(A9 c l).length:=hcn;omega
   rw[e0]
  have a1:(((-1:Int))==0)=false:=rfl;have a2:(Array.toList (Ac [c]).data==Array.toList (ByteArray.mk #[]).data)=false:=rfl;have a3:decide ((-1:Int)<0)=true:=rfl;have a4:wrap .i64 (((A9 c l).length:Int)-1+1)=(A9 c l).length:=by rw[Bc (by omega) (by omega)];omega
  have a5:wrap .i64 ((l.length:Int)+1)=l.length+1:=by rw[Bc (by omega) (by omega)]
  have a6:(if ((l.length:Int)+1)<((A9 c l).length:Int) then ((l.length:Int)+1) else ((A9 c l).length:Int))=(A9 c l).length:=by rw[Dz (by omega)]
  have a7:decide ((0:Int)<=((A9 c l).length:Int))=true:=by simp
  have b7:decide (((A9 c l).length:Int)<=((A9 c l).length:Int))=true:=by simp
  have c7:decide (((A9 c l).length:Int)*16<=1099511627776)=true:=by simp;omega
  have d7:decide (((A9 c l).length:Int)<=1099511627776)=true:=by simp;omega
  have a8:wrap .i64 (((A9 c l).length:Int)-1)=((A9 c l).length:Int)-1:=Bc (by omega) (by omega)
  have a9:Nh (A9 c l).length [PV.sc (.string ⟨#[]⟩)]=List.replicate (A9 c l).length (PV.sc (.string ⟨#[]⟩)):=by
   unfold Nh
   induction (A9 c l).length with
   |zero=>rfl
   |succ k ih=>rw[List.replicate_succ,List.flatten_cons,ih];rfl
  have a10:Int.toNat ((A9 c l).length:Int)=(A9 c l).length:=Oj _;have hd:=PX (fu:=fu) (d:=d) (p:=p) hc (a0:=Ac l) (a1:=Ac [c]) (a2:=0) (a3:= -1) (N:=(A9 c l).length) (by omega) fu l [] Ev (by omega) hl (by simp)
  simp only[Ej,e1,Aw,dle,a1,a2,a3,a4,a5,a6,a7,b7,c7,d7,a8,a9,a10];exact hd
 have b1:decide ((A9 c l).length*1<=List.length ((A9 c l).map BI))=true:=by simp
 have b2:List.take ((A9 c l).length*1) ((A9 c l).map BI)=(A9 c l).map BI:=Zzf (by simp)
 rw[Ww];simp only[Ej,e,b1,b2]
end
end
section
open Go.Proofs.Tryd (prog)
open Go.IntKind (wrap)
set_option maxRecDepth 100000
theorem IK:∀n:Fin 256,Lib.indexByte BU.data.toList (n.val:Int).toNat.toUInt8=if Bs (n.val:Int)<64 then Bs (n.val:Int) else -1:=by decide +kernel
theorem Abk {c:Int}(hc:0<=c∧c<=255):Lib.indexByte BU.data.toList c.toNat.toUInt8=if Bs c<64 then Bs c else -1:=by
 obtain⟨n,rfl⟩:=Int.eq_ofNat_of_zero_le hc.1;exact IK ⟨n,by omega⟩
theorem Asw {y v:Int}(k:Nat)(hk:k<=18)(h0:0<=y)(hm:y % ((2 ^ (k+6):Nat):Int)=0) (hy:y<16777216)(hv0:0<=v)(hv:v<64):JL .u32 y (Gz .u32 (wrap .u32 v) (k:Int))=y+v*((2 ^ k:Nat):Int):=by
 obtain⟨y,rfl⟩:=Int.eq_ofNat_of_zero_le h0;obtain⟨v,rfl⟩:=Int.eq_ofNat_of_zero_le hv0
 have e1:wrap .u32 (v:Int)=v:=by
  simp only[wrap,IntKind.bits,IntKind.signed,Zzs,Bool.false_eq_true,if_false];omega
 have A79:2 ^ k<=2 ^ 18:=Nat.pow_le_pow_right (by omega) hk
 have hvk:v*2 ^ k<2 ^ k*64:=by
  rw[Nat.mul_comm];exact Nat.mul_lt_mul_of_pos_left (by omega) (Nat.pos_of_ne_zero (by simp))
 have e2:Gz .u32 (v:Int) (k:Int)=((v*2 ^ k:Nat):Int):=by
  show wrap .u32 ((v:Int)*2 ^ (min (k:Int).toNat IntKind.u32.bits))=_
  have:min (k:Int).toNat IntKind.u32.bits=k:=by
   rw[Oj];exact Nat.min_eq_left (by show k<=32;omega)
  rw[this];have:(v:Int)*2 ^ k=((v*2 ^ k:Nat):Int):=by simp
  rw[this];simp only[wrap,IntKind.bits,IntKind.signed,Zzs,Bool.false_eq_true,if_false];omega
 rw[e1,e2];have e3:=Amv y (v*2 ^ k) (by omega) (by omega)
 refine e3.trans ?_
 have hd:y=y / 2 ^ (k+6)*2 ^ (k+6):=by
  have:y % 2 ^ (k+6)=0:=by exact_mod_cast hm
  have:=Nat.div_add_mod y (2 ^ (k+6));rw[Nat.mul_comm] at this;omega
 have B4:v*2 ^ k<2 ^ (k+6):=by rw[Nat.pow_add];exact hvk
 have:=Nat.shiftLeft_add_eq_or_of_lt B4 (y / 2 ^ (k+6));rw[Nat.shiftLeft_eq,←hd] at this;rw[←this];simp
section
variable {fu d:Nat} {p:Option (List PV->Option Ay)}
theorem Ah4 {c:Int}(hc:0<=c∧c<=255):Ae (CP p) prog fu (d+2) 27 [.sc (.string BU),.sc (.int .u8 c)]=some ⟨[.sc (.int .i64 (if Bs c<64 then Bs c else -1))],[]⟩:=by
 have e:Ae (CP p) prog fu (d+1) 40 [.sc (.string BU),.sc (.int .u8 c)]=some ⟨[.sc (.int .i64 (Lib.indexByte BU.data.toList c.toNat.toUInt8))],[]⟩:=rfl;rw[Abk hc] at e;refine (Jo (p:=p) fu (d+1) _ _).trans ?_;simp only[Ej,e]
theorem J1 {a0:ByteArray}{m0 nn:Nat}{l:List Int}{y1:Nat}{y6:List PV}{i n:Nat}{y3 c:Int}(Z2:i<n)(hn:n<=4)(hl:Dq l)(hc:l[i]?=some c) (h0:0<=y3)(hm:y3 % ((2 ^ (24-6*i):Nat):Int)=0) (hy:y3<16777216):
  B7 fu (Ae (CP p) prog fu (d+2)) a0 m0 (nn+1) (Ac l) y1 (n:Int) y3 (n:Int) (i:Int) y6=if Bs c<64 then B7 fu (Ae (CP p) prog fu (d+2)) a0 m0 nn (Ac l) y1 (n:Int) (y3+Bs c*((2 ^ (18-6*i):Nat):Int)) (n:Int) ((i+1:Nat):Int) y6 else some ⟨[.own 1 0 [],.sc (.int .i64 2)],[]⟩:=by
 have hcB:=hl c (List.mem_of_getElem? hc);have hv:=Lu c;have e:=Ah4 (fu:=fu) (d:=d) (p:=p) hcB;have a1:decide ((i:Int)<(n:Int))=true:=by simp;omega
 have a2:decide ((0:Int)<=(i:Int))=true:=by simp
 have a3:(Array.toList (Ac l).data)[Int.toNat (i:Int)]?=some c.toNat.toUInt8:=by
  rw[Oj];show (l.map fun n=>n.toNat.toUInt8)[i]?=_
  rw[List.getElem?_map,hc];rfl
 have a4:=Zr hcB;have ea:(ByteArray.mk #[(65:UInt8),(66:UInt8),(67:UInt8),(68:UInt8),(69:UInt8),(70:UInt8),(71:UInt8),(72:UInt8),(73:UInt8),(74:UInt8),(75:UInt8),(76:UInt8),(77:UInt8),(78:UInt8),(79:UInt8),(80:UInt8),(81:UInt8),(82:UInt8),(83:UInt8),(84:UInt8),(85:UInt8),(86:UInt8),(87:UInt8),(88:UInt8),(89:UInt8),(90:UInt8),(97:UInt8),(98:UInt8),(99:UInt8),(100:UInt8),(101:UInt8),(102:UInt8),(103:UInt8),(104:UInt8),(105:UInt8),(106:UInt8),(107:UInt8),(108:UInt8),(109:UInt8),(110:UInt8),(111:UInt8),(112:UInt8),(113:UInt8),(114:UInt8),(115:UInt8),(116:UInt8),(117:UInt8),(118:UInt8),(119:UInt8),(120:UInt8),(121:UInt8),(122:UInt8),(48:UInt8),(49:UInt8),(50:UInt8),(51:UInt8),(52:UInt8),(53:UInt8),(54:UInt8),(55:UInt8),(56:UInt8),(57:UInt8),(45:UInt8),(95:UInt8)])=BU:=rfl;rw[F6,ea];by_cases hv6:Bs c<64
 ·rw[E7 hv6] at e;have b1:decide (Bs c<0)=false:=by simp;omega
  have b2:wrap .i64 (6*(i:Int))=6*(i:Int):=Bc (by omega) (by omega)
  have b3:wrap .i64 (18-6*(i:Int))=((18-6*i:Nat):Int):=by rw[Bc (by omega) (by omega)];omega
  have b4:decide ((0:Int)<=((18-6*i:Nat):Int))=true:=by simp
  have b5:=Asw (y:=y3) (v:=Bs c) (18-6*i) (by omega) h0 (by rw[show 18-6*i+6=24-6*i by omega];exact hm) hy hv.1 hv6
  have b6:wrap .i64 ((i:Int)+1)=((i+1:Nat):Int):=by rw[Bc (by omega) (by omega)];omega
  rw[E7 hv6];simp only[Ej,a1,a2,a3,a4,e,b1,b2,b3,b4,b5,b6]
 ·rw[Dz hv6] at e;have b1:decide ((-1:Int)<0)=true:=rfl;rw[Dz hv6];simp only[Ej,a1,a2,a3,a4,e,b1]
theorem Aq6 {y:Int}(h0:0<=y)(hy:y<16777216):wrap .u8 (ME .u32 y 16)=y / 65536 % 256:=by
 show wrap .u8 (y.fdiv (2 ^ (min (16:Int).toNat IntKind.u32.bits)))=_;have:(2:Int) ^ (min (16:Int).toNat IntKind.u32.bits)=65536:=by decide
 rw[this,Int.fdiv_eq_ediv_of_nonneg _ (by omega)]
 simp only[wrap,IntKind.bits,IntKind.signed,Zzs,Bool.false_eq_true,if_false];omega
theorem A0u {y:Int}(h0:0<=y)(hy:y<16777216):wrap .u8 (ME .u32 y 8)=y / 256 % 256:=by
 show wrap .u8 (y.fdiv (2 ^ (min (8:Int).toNat IntKind.u32.bits)))=_;have:(2:Int) ^ (min (8:Int).toNat IntKind.u32.bits)=256:=by decide
 rw[this,Int.fdiv_eq_ediv_of_nonneg _ (by omega)]
 simp only[wrap,IntKind.bits,IntKind.signed,Zzs,Bool.false_eq_true,if_false];omega
theorem Az9 {y:Int}(h0:0<=y)(hy:y<16777216):wrap .u8 y=y % 256:=by
 simp only[wrap,IntKind.bits,IntKind.signed,Zzs,Bool.false_eq_true,if_false];omega
theorem RJ {a0:ByteArray}{m0 nn:Nat}{s:ByteArray}{y1:Nat}{y6:List PV}{n:Nat}{y3:Int}(hn:2<=n)(hn4:n<=4)(h0:0<=y3)(hy:y3<16777216):
  B7 fu (Ae (CP p) prog fu (d+2)) a0 m0 (nn+1) s y1 (n:Int) y3 (n:Int) (n:Int) y6=B9 fu (Ae (CP p) prog fu (d+2)) a0 m0 fu s y1 (n:Int) (n-1) (4-n) ((4-n:Nat):Int) 0 y6 [.sc (.int .u8 (y3 / 65536 % 256)),.sc (.int .u8 (y3 / 256 % 256)),.sc (.int .u8 (y3 % 256))]:=by
 have a1:decide ((n:Int)<(n:Int))=false:=by simp
 have e1:=Aq6 h0 hy;have e2:=A0u h0 hy;have e3:=Az9 h0 hy;have b1:wrap .i64 ((n:Int)-1)=((n-1:Nat):Int):=by rw[Bc (by omega) (by omega)];omega
 have b2:decide ((0:Int)<=((n-1:Nat):Int))=true:=by simp
 have b3:decide (Int.toNat ((n-1:Nat):Int)<=3)=true:=by simp;omega
 have b4:0+Int.toNat ((n-1:Nat):Int)*1=n-1:=by rw[Oj];omega
 have b5:3-Int.toNat ((n-1:Nat):Int)=4-n:=by rw[Oj];omega
 rw[F6];simp only[Ej,a1,e1,e2,e3,b1,b2,b3,b4,b5]
end
end
section
open Go.Proofs.Tryd (prog)
open Go.IntKind (wrap)
set_option maxRecDepth 100000
section
variable {fu d:Nat} {p:Option (List PV->Option Ay)}
abbrev grp (A B C:Int):List PV:=[.sc (.int .u8 A),.sc (.int .u8 B),.sc (.int .u8 C)]
abbrev A3q:Option Ay:=some ⟨[.own 1 0 [],.sc (.int .i64 2)],[]⟩
theorem Aim {call:Ax}{a0 s:ByteArray}{m0 nn y1:Nat}{n i j:Nat}{y7:List PV}{A B C X:Int}(hij:i<j)(hj:j<=4)(h:List.getD (grp A B C) (n+i) .top=.sc (.int .u8 X)) {q:Int}:
  B9 fu call a0 m0 (nn+1) s y1 q n j (j:Int) (i:Int) y7 (grp A B C)=if X=0 then B9 fu call a0 m0 nn s y1 q n j (j:Int) ((i+1:Nat):Int) y7 (grp A B C) else A3q:=by
 have a1:decide ((i:Int)<(j:Int))=true:=by simp;omega
 have a2:(decide ((0:Int)<=(i:Int))&&decide ((i:Int)<(j:Int)))=true:=by simp;omega
 have a2':decide ((0:Int)<=(i:Int))=true:=by simp
 have a3:List.getD (grp A B C) (n+Int.toNat (i:Int)*1) PV.top=.sc (.int .u8 X):=by rw[Oj,Nat.mul_one];exact h
 have a4:wrap .i64 ((i:Int)+1)=((i+1:Nat):Int):=by rw[Bc (by omega) (by omega)];omega
 rw[F0];by_cases hx:X=0
 ·subst hx;have a5:((0:Int) != 0)=false:=rfl;rw[E7 rfl];simp only[Ej,a1,a2,a2',a3,a4,a5]
 ·have a5:(X != 0)=true:=by simp[hx]
  rw[Dz hx];simp only[Ej,a1,a2,a2',a3,a5]
theorem RF {call:Ax}{a0:ByteArray}{m0 nn:Nat}{n j:Nat}{l acc:List Int}{A B C:Int}(hn:2<=n)(hn4:n<=4)(hl:Dq l)(hnl:n<=l.length)(AO:acc.length<=1000000){st:Nat}:
  B9 fu call a0 m0 (nn+1) (Ac l) acc.length (n:Int) st j (j:Int) (j:Int) (Dv .u8 acc) (grp A B C)=Ca fu call a0 m0 (Ac (l.drop n)) (acc++[A,B,C].take (n-1)).length (Dv .u8 (acc++[A,B,C].take (n-1))):=by
 have a1:decide ((j:Int)<(j:Int))=false:=by simp
 have a2:wrap .i64 ((n:Int)-1)=((n-1:Nat):Int):=by rw[Bc (by omega) (by omega)];omega
 have a3:(decide (3<=List.length (grp A B C))&&true)=true:=rfl;have a4:decide ((0:Int)<=((n-1:Nat):Int))=true:=by simp
 have a5:decide (Int.toNat ((n-1:Nat):Int)<=3)=true:=by simp;omega
 have a6:Int.toNat ((n-1:Nat):Int)-0=n-1:=by rw[Oj];omega
 have a7:decide (0+(n-1)*1<=List.length (grp A B C))=true:=by simp;omega
 have a8:decide (acc.length*1<=List.length (Dv .u8 acc))=true:=by rw[Ky];simp
 have a9:decide (List.length (List.take ((n-1)*1) (List.drop 0 (grp A B C)))=(n-1)*1)=true:=by simp;omega
 have b1:decide ((acc.length+(n-1))*1<=1099511627776)=true:=by simp;omega
 have b2:decide (acc.length+(n-1)<=1099511627776)=true:=by simp;omega
 have b3:List.take (acc.length*1) (Dv .u8 acc)++List.take ((n-1)*1) (List.drop 0 (grp A B C))=Dv .u8 (acc++[A,B,C].take (n-1)):=by
  have e0:Dv .u8 (acc++[A,B,C].take (n-1))=Dv .u8 acc++Dv .u8 ([A,B,C].take (n-1)):=List.flatMap_append;rw[Zzf (by rw[Ky];omega),e0,List.drop_zero,Nat.mul_one]
  congr 1
  match n,hn,hn4 with
  |2,_,_=>rfl
  |3,_,_=>rfl
  |4,_,_=>rfl
 have b4:decide ((0:Int)<=(n:Int))=true:=by simp
 have b5:decide (Int.toNat (n:Int)<=l.length)=true:=by simp;omega
 have b6:(Ac l).extract (Int.toNat (n:Int)) l.length=Ac (l.drop n):=by rw[Oj,Xi hl]
 have b7:acc.length+(n-1)=(acc++[A,B,C].take (n-1)).length:=by simp;omega
 rw[F0];simp only[Ej,Aw,dle,a1,a2,a3,a4,a5,a6,a7,a8,a9,b1,b2,b3,b4,b5,b6];rw[b7]
theorem Abs {a0:ByteArray}(Ev:10<=fu):∀(m:Nat)(l acc:List Int)(nn:Nat),l.length<=4*m->m+1<=nn->Dq l->l.length % 4≠1->acc.length+l.length<=1000000 ->
  Ca fu (Ae (CP p) prog fu (d+2)) a0 nn (Ac l) acc.length (Dv .u8 acc)=some (match Nc l with|none=>⟨[.own 1 0 [],.sc (.int .i64 2)],[]⟩|some b=>⟨[.own 1 (acc++b).length (Dv .u8 (acc++b)),.sc (.int .i64 0)],[]⟩):=by
 obtain⟨fu,rfl⟩:∃k,fu=k+10:=⟨fu-10,by omega⟩
 have zero:∀(acc:List Int) (nn:Nat),acc.length<=1000000->Ca (fu+10) (Ae (CP p) prog (fu+10) (d+2)) a0 (nn+1) (Ac []) acc.length (Dv .u8 acc)=some ⟨[.own 1 acc.length (Dv .u8 acc),.sc (.int .i64 0)],[]⟩:=by
  intro acc nn h;have a1:decide ((((Ac []).size:Nat):Int)>0)=false:=rfl;have a2:decide (acc.length*1<=List.length (Dv .u8 acc))=true:=by rw[Ky];simp
  have a3:List.take (acc.length*1) (Dv .u8 acc)=Dv .u8 acc:=Zzf (by rw[Ky];omega)
  rw[F1];simp only[Ej,a1,a2,a3]
 intro m
 induction m with
 |zero=>
  intro l acc nn hl Q8 hB h1 AO;have:l=[]:=List.eq_nil_of_length_eq_zero (by omega)
  subst this;obtain⟨k,rfl⟩:∃k,nn=k+1:=⟨nn-1,by omega⟩
  rw[zero acc k (by omega)]
  simp[Nc]
 |succ m ih=>
  intro l acc nn hl Q8 hB h1 AO;obtain⟨k,rfl⟩:∃k,nn=k+1:=⟨nn-1,by omega⟩
  have head:∀(n:Nat),l.length>0->n=min l.length 4->Ca (fu+10) (Ae (CP p) prog (fu+10) (d+2)) a0 (k+1) (Ac l) acc.length (Dv .u8 acc)=B7 (fu+10) (Ae (CP p) prog (fu+10) (d+2)) a0 k (fu+10) (Ac l) acc.length (n:Int) 0 (n:Int) 0 (Dv .u8 acc):=by
   intro n hp hn;have a1:decide (((l.length:Nat):Int)>0)=true:=by simp;omega
   have a2:(if ((l.length:Nat):Int)<4 then ((l.length:Nat):Int) else 4)=(n:Int):=by split<;>omega
   rw[F1];simp only[Ej,Aw,a1,a2]
  match l,hl,hB,h1,AO,head with
  |[],_,_,_,AO,_=>
   rw[zero acc k (by simpa using AO)]
   simp[Nc]
  |[x],_,_,h1,_,_=>exact absurd rfl h1
  |[a,b],_,hB,_,AO,head=>
   have va:=Lu a;have vb:=Lu b;rw[head 2 (by simp) rfl,show (0:Int)=((0:Nat):Int) from rfl]
   rw[J1 (c:=a) (by omega) (by omega) hB rfl (by simp) (by simp) (by simp)]
   unfold Nc;by_cases ha:Bs a<64
   ·rw[E7 ha,J1 (c:=b) (by omega) (by omega) hB rfl (by simp<;>omega) (by simp<;>omega) (by simp<;>omega)]
    by_cases hb:Bs b<64
    ·rw[E7 hb,RJ (by omega) (by omega) (by simp<;>omega) (by simp<;>omega)]
     rw[show (0:Int)=((0:Nat):Int) from rfl]
     rw[Aim (X:=(((0:Nat):Int)+Bs a*((2 ^ (18-6*0):Nat):Int)+Bs b*((2 ^ (18-6*1):Nat):Int)) / 256 % 256) (by omega) (by omega) rfl]
     by_cases hz:Bs b % 16=0
     ·rw[E7 (by simp<;>omega)]
      rw[Aim (X:=(((0:Nat):Int)+Bs a*((2 ^ (18-6*0):Nat):Int)+Bs b*((2 ^ (18-6*1):Nat):Int)) % 256) (by omega) (by omega) rfl]
      rw[E7 (by simp<;>omega),RF (by omega) (by omega) hB (by simp) (by omega)]
      rw[E7 ⟨ha,hb,hz⟩];have hr:=ih [] (acc++[Bs a*4+Bs b / 16]) k (by simp) (by omega) (fun x hx=>by cases hx) (by simp) (by simp at AO ⊢;omega)
      have e:(((0:Nat):Int)+Bs a*((2 ^ (18-6*0):Nat):Int)+Bs b*((2 ^ (18-6*1):Nat):Int)) / 65536 % 256=Bs a*4+Bs b / 16:=by simp;omega
      rw[e];refine hr.trans ?_;simp[Nc]
     ·rw[Dz (by simp<;>omega),Dz (fun h=>hz h.2.2)]
    ·rw[Dz hb,Dz (fun h=>hb h.2.1)]
   ·rw[Dz ha,Dz (fun h=>ha h.1)]
  |[a,b,c],_,hB,_,AO,head=>
   have va:=Lu a;have vb:=Lu b;have vc:=Lu c;rw[head 3 (by simp) rfl,show (0:Int)=((0:Nat):Int) from rfl]
   rw[J1 (c:=a) (by omega) (by omega) hB rfl (by simp) (by simp) (by simp)]
   unfold Nc;by_cases ha:Bs a<64
   ·rw[E7 ha,J1 (c:=b) (by omega) (by omega) hB rfl (by simp<;>omega) (by simp<;>omega) (by simp<;>omega)]
    by_cases hb:Bs b<64
    ·rw[E7 hb,J1 (c:=c) (by omega) (by omega) hB rfl (by simp<;>omega) (by simp<;>omega) (by simp<;>omega)]
     by_cases hc:Bs c<64
     ·rw[E7 hc,RJ (by omega) (by omega) (by simp<;>omega) (by simp<;>omega)]
      rw[show (0:Int)=((0:Nat):Int) from rfl]
      rw[Aim (X:=(((0:Nat):Int)+Bs a*((2 ^ (18-6*0):Nat):Int)+Bs b*((2 ^ (18-6*1):Nat):Int)+Bs c*((2 ^ (18-6*2):Nat):Int)) % 256) (by omega) (by omega) rfl]
      by_cases hz:Bs c % 4=0
      ·rw[E7 (by simp<;>omega),RF (by omega) (by omega) hB (by simp) (by omega)]
       rw[E7 ⟨ha,hb,hc,hz⟩];have hr:=ih [] (acc++[Bs a*4+Bs b / 16,Bs b % 16*16+Bs c / 4]) k (by simp) (by omega) (fun x hx=>by cases hx) (by simp) (by simp at AO ⊢;omega)
       have e:(((0:Nat):Int)+Bs a*((2 ^ (18-6*0):Nat):Int)+Bs b*((2 ^ (18-6*1):Nat):Int)+Bs c*((2 ^ (18-6*2):Nat):Int)) / 65536 % 256=Bs a*4+Bs b / 16:=by simp;omega
       have e2:(((0:Nat):Int)+Bs a*((2 ^ (18-6*0):Nat):Int)+Bs b*((2 ^ (18-6*1):Nat):Int)+Bs c*((2 ^ (18-6*2):Nat):Int)) / 256 % 256=Bs b % 16*16+Bs c / 4:=by simp;omega
       rw[e,e2];refine hr.trans ?_;simp[Nc]
      ·rw[Dz (by simp<;>omega),Dz (fun h=>hz h.2.2.2)]
     ·rw[Dz hc,Dz (fun h=>hc h.2.2.1)]
    ·rw[Dz hb,Dz (fun h=>hb h.2.1)]
   ·rw[Dz ha,Dz (fun h=>ha h.1)]
  |a::b::c::e::t,hl,hB,h1,AO,head=>
   have va:=Lu a;have vb:=Lu b;have vc:=Lu c;have ve:=Lu e;rw[head 4 (by simp) (by simp<;>omega),show (0:Int)=((0:Nat):Int) from rfl]
   rw[J1 (c:=a) (by omega) (by omega) hB rfl (by simp) (by simp) (by simp)]
   unfold Nc;by_cases ha:Bs a<64
   ·rw[E7 ha,J1 (c:=b) (by omega) (by omega) hB rfl (by simp<;>omega) (by simp<;>omega) (by simp<;>omega)]
    by_cases hb:Bs b<64
    ·rw[E7 hb,J1 (c:=c) (by omega) (by omega) hB rfl (by simp<;>omega) (by simp<;>omega) (by simp<;>omega)]
     by_cases hc:Bs c<64
     ·rw[E7 hc,J1 (c:=e) (by omega) (by omega) hB rfl (by simp<;>omega) (by simp<;>omega) (by simp<;>omega)]
      by_cases he:Bs e<64
      ·rw[E7 he,RJ (by omega) (by omega) (by simp<;>omega) (by simp<;>omega)]
       rw[show (0:Int)=((4-4:Nat):Int) from rfl,RF (by omega) (by omega) hB (by simp) (by omega)]
       rw[E7 ⟨ha,hb,hc,he⟩];have hr:=ih t (acc++[Bs a*4+Bs b / 16,Bs b % 16*16+Bs c / 4,Bs c % 4*64+Bs e]) k (by simp at hl;omega) (by omega) (fun x hx=>hB x (by simp[hx])) (by simp at h1;omega) (by simp at AO ⊢;omega)
       have e1:(((4-4:Nat):Int)+Bs a*((2 ^ (18-6*0):Nat):Int)+Bs b*((2 ^ (18-6*1):Nat):Int)+Bs c*((2 ^ (18-6*2):Nat):Int)+Bs e*((2 ^ (18-6*3):Nat):Int)) / 65536 % 256=Bs a*4+Bs b / 16:=by simp;omega
       have e2:(((4-4:Nat):Int)+Bs a*((2 ^ (18-6*0):Nat):Int)+Bs b*((2 ^ (18-6*1):Nat):Int)+Bs c*((2 ^ (18-6*2):Nat):Int)+Bs e*((2 ^ (18-6*3):Nat):Int)) / 256 % 256=Bs b % 16*16+Bs c / 4:=by simp;omega
       have e3:(((4-4:Nat):Int)+Bs a*((2 ^ (18-6*0):Nat):Int)+Bs b*((2 ^ (18-6*1):Nat):Int)+Bs c*((2 ^ (18-6*2):Nat):Int)+Bs e*((2 ^ (18-6*3):Nat):Int)) % 256=Bs c % 4*64+Bs e:=by simp;omega
       rw[e1,e2,e3];refine hr.trans ?_;cases Nc t<;>simp
      ·rw[Dz he,Dz (fun h=>he h.2.2.2)]
     ·rw[Dz hc,Dz (fun h=>hc h.2.2.1)]
    ·rw[Dz hb,Dz (fun h=>hb h.2.1)]
   ·rw[Dz ha,Dz (fun h=>ha h.1)]
theorem Aab:∀{l:List Int},l.length % 4=1->Nc l=none
 |[],h=>by simp at h
 |[_],_=>rfl
 |[_,_],h=>by simp at h
 |[_,_,_],h=>by simp at h
 |p::q::r::s::t,h=>by
  have:=Aab (l:=t) (by simp at h;omega)
  unfold Nc;rw[this];simp
theorem Am5 {l:List Int}(hB:Dq l)(hl:l.length<=1000000)(Ev:10<=fu)(CQ:l.length<=fu):Ae (CP p) prog fu (d+3) G3 [.sc (.string (Ac l))]=some (match Nc l with|none=>⟨[.own 1 0 [],.sc (.int .i64 2)],[]⟩|some b=>⟨[.own 1 b.length (Dv .u8 b),.sc (.int .i64 0)],[]⟩):=by
 rw[Mp];have a0:Int.tmod ((l.length:Nat):Int) 4=((l.length % 4:Nat):Int):=by rw[Int.tmod_eq_emod_of_nonneg (by omega)];omega
 by_cases h1:l.length % 4=1
 ·have a1:(((l.length % 4:Nat):Int)==1)=true:=by rw[h1];rfl
  rw[Aab h1];simp only[Ej,Aw,a0,a1]
 ·have a1:(((l.length % 4:Nat):Int)==1)=false:=by simp;omega
  have a2:Int.tdiv ((l.length:Nat):Int) 4=((l.length / 4:Nat):Int):=by rw[Int.tdiv_eq_ediv_of_nonneg (by omega)];omega
  have a3:wrap .i64 ((l.length / 4:Nat):Int)=((l.length / 4:Nat):Int):=Bc (by omega) (by omega)
  have a4:wrap .i64 (((l.length / 4:Nat):Int)*3)=((l.length / 4:Nat):Int)*3:=Bc (by omega) (by omega)
  have a5:wrap .i64 (((l.length / 4:Nat):Int)*3+2)=((l.length / 4:Nat):Int)*3+2:=Bc (by omega) (by omega)
  have a6:decide ((0:Int)<=((l.length / 4:Nat):Int)*3+2)=true:=by simp;omega
  have a7:decide ((((l.length / 4:Nat):Int)*3+2)*1<=1099511627776)=true:=by simp;omega
  have a8:decide (((l.length / 4:Nat):Int)*3+2<=1099511627776)=true:=by simp;omega
  have hd:=Abs (d:=d) (p:=p) (a0:=Ac l) Ev (l.length / 4+1) l [] fu (by omega) (by omega) hB h1 (by simp<;>omega)
  simp only[Ej,Aw,a0,a1,a2,a3,a4,a5,a6,a7,a8];refine hd.trans ?_;cases Nc l<;>simp
end
end
section
open Go.Proofs.Tryd (prog)
open Go.IntKind (wrap)
set_option maxRecDepth 100000
theorem dT {q:Prop} [Decidable q] (h:q):decide q=true:=decide_eq_true h
theorem dF {q:Prop} [Decidable q] (h:¬q):decide q=false:=decide_eq_false h
theorem bT {q:Prop} [Decidable q] (h:q):(!decide q)=false:=by simp[h]
theorem bF {q:Prop} [Decidable q] (h:¬q):(!decide q)=true:=by simp[h]
def UM (n i:Nat)(c:Int):Bool:=ltB c||(c==45&&decide (0<i)&&decide (i+1<n))
def Un (n:Nat):Nat->List Int->Bool
 |_,[]=>true
 |i,c::r=>UM n i c&&Un n (i+1) r
theorem DH (n i:Nat)(c:Int)(r:List Int):Un n i (c::r)=(UM n i c&&Un n (i+1) r):=rfl
theorem Abh:ltB 45=false:=rfl
theorem RU (n:Nat):∀(r:List Int)(i:Nat),i+r.length=n->Un n i r=(r.all (fun x=>ltB x||x==45) && !(decide (i=0)&&r.head?==some 45) && !(r.getLast?==some 45))
 |[],i,_=>by simp[Un]
 |[c],i,h=>by
  simp only[PG,List.length_nil] at h;unfold Un UM;by_cases hc:c=45
  ·subst hc;have:¬i+1<n:=by omega
   simp[Un,Abh,this]
  ·have hcb:(c==45)=false:=by simp[hc]
   simp[Un,hcb]
 |c::x::r,i,h=>by
  have ih:=RU n (x::r) (i+1) (by simp at h ⊢;omega)
  have hl:(c::x::r).getLast?=(x::r).getLast?:=by simp
  unfold Un;rw[ih,hl];have h1:i+1<n:=by simp at h;omega
  unfold UM;by_cases hc:c=45
  ·subst hc;by_cases hi:i=0
   ·subst hi;simp[Abh]
   ·have:0<i:=by omega
    simp[Abh,h1,hi,this]
  ·have hcb:(c==45)=false:=by simp[hc]
   simp[hcb,Bool.and_assoc]
theorem Aft {l:List Int}(h1:1<=l.length)(h2:l.length<=63):Vi l=Un l.length 0 l:=by
 rw[RU _ l 0 (by simp)]
 unfold Vi;rw[dT h1,dT h2];cases l.all (fun x=>ltB x||x==45)<;>cases (l.head?==some 45)<;>cases (l.getLast?==some 45)<;>rfl
section
variable {fu d:Nat} {p:Option (List PV->Option Ay)}
theorem LH {call:Ax}{a0:ByteArray}{l:List Int}(hB:Dq l)(hs:l.length<=63):∀(r:List Int)(i nn:Nat),l.drop i=r->r.length+1<=nn ->
  A8 fu call a0 nn (Ac l) (l.length:Int) (i:Int)=some ⟨[.sc (.bool (Un l.length i r))],[]⟩
 |[],i,nn,hd,hn=>by
  obtain⟨k,rfl⟩:∃k,nn=k+1:=⟨nn-1,by omega⟩
  have hi:=drop_nil hd;have a1:decide ((i:Int)<(l.length:Int))=false:=by simp;omega
  rw[Ix];simp only[Ej,a1];rfl
 |c::r,i,nn,hd,hn=>by
  obtain⟨k,rfl⟩:∃k,nn=k+1:=⟨nn-1,by omega⟩
  obtain⟨hi,hc,K5⟩:=P8 hd;have ih:=LH (call:=call) (a0:=a0) hB hs r (i+1) k K5 (by simp at hn;omega)
  have hcB:=hB c (List.mem_of_getElem? hc);have a1:decide ((i:Int)<(l.length:Int))=true:=by simp;omega
  have a2:decide ((0:Int)<=(i:Int))=true:=by simp
  have a3:(Array.toList (Ac l).data)[Int.toNat (i:Int)]?=some c.toNat.toUInt8:=by
   rw[Oj];show (l.map fun n=>n.toNat.toUInt8)[i]?=_
   rw[List.getElem?_map,hc];rfl
  have a4:=Zr hcB;have a5:wrap .i64 ((i:Int)+1)=((i+1:Nat):Int):=by rw[Bc (by omega) (by omega)];omega
  have a6:wrap .i64 ((l.length:Int)-1)=(l.length:Int)-1:=Bc (by omega) (by omega)
  have good:UM l.length i c=true->(A8 fu call a0 k (Ac l) (l.length:Int) ((i+1:Nat):Int)=some ⟨[.sc (.bool (Un l.length i (c::r)))],[]⟩):=by
   intro h;rw[ih,DH,h,Bool.true_and]
  have bad:UM l.length i c=false->some (Ay.mk [PV.sc (.bool false)] [])=some ⟨[.sc (.bool (Un l.length i (c::r)))],[]⟩:=by
   intro h;rw[DH,h,Zzs]
  rw[Ix];by_cases hA:97<=c∧c<=122
  ·have q1:=dT hA.1;have q2:=dT hA.2;have q3:(c==45)=false:=by simp;omega
   have q4:=dT (q:=(48:Int)<=c) (by omega)
   have q5:=bF (q:=c<=57) (by omega)
   simp only[Ej,a1,a2,a3,a4,a5,a6,Aw,q1,q2,q3,q4,q5];exact good (by unfold UM ltB;simp[hA])
  by_cases hD:48<=c∧c<=57
  ·have q1:=dF (q:=(97:Int)<=c) (by omega)
   have q2:=dT (q:=c<=122) (by omega)
   have q3:(c==45)=false:=by simp;omega
   have q4:=dT hD.1;have q5:=bT hD.2;simp only[Ej,a1,a2,a3,a4,a5,a6,Aw,q1,q2,q3,q4,q5];exact good (by unfold UM ltB IZ;simp[hD])
  have B4:ltB c=false:=by
   unfold ltB IZ;simp;exact⟨fun h=>by omega,fun h=>by omega⟩
  by_cases hM:c=45
  ·subst hM;have q1:decide ((97:Int)<=45)=false:=rfl;have q2:decide ((45:Int)<=122)=true:=rfl;have q3:((45:Int)==45)=true:=rfl;have q4:decide ((48:Int)<=45)=false:=rfl;have q5:(!decide ((45:Int)<=57))=false:=rfl;by_cases h0:0<i
   ·have q6:=dT (q:=(i:Int)>0) (by omega)
    by_cases h1:i+1<l.length
    ·have q7:=bT (q:=(i:Int)<(l.length:Int)-1) (by omega)
     simp only[Ej,a1,a2,a3,a4,a5,a6,Aw,q1,q2,q3,q4,q5,q6,q7];exact good (by unfold UM;simp[h0,h1])
    ·have q7:=bF (q:=(i:Int)<(l.length:Int)-1) (by omega)
     simp only[Ej,a1,a2,a3,a4,a5,a6,Aw,q1,q2,q3,q4,q5,q6,q7];exact bad (by unfold UM;simp[h1,B4])
   ·have q6:=dF (q:=(i:Int)>0) (by omega)
    simp only[Ej,a1,a2,a3,a4,a5,a6,Aw,q1,q2,q3,q4,q5,q6];exact bad (by unfold UM;simp[h0,B4])
  have q3:(c==45)=false:=by simp[hM]
  have XA:UM l.length i c=false:=by unfold UM;simp[B4,hM]
  by_cases h97:97<=c
  ·have q1:=dT h97;have q2:=dF (q:=c<=122) (by omega)
   have q4:=dT (q:=(48:Int)<=c) (by omega)
   have q5:=bF (q:=c<=57) (by omega)
   simp only[Ej,a1,a2,a3,a4,a5,a6,Aw,q1,q2,q3,q4,q5];exact bad XA
  ·have q1:=dF h97;have q2:=dT (q:=c<=122) (by omega)
   by_cases h48:48<=c
   ·have q4:=dT h48;have q5:=bF (q:=c<=57) (by omega)
    simp only[Ej,a1,a2,a3,a4,a5,a6,Aw,q1,q2,q3,q4,q5];exact bad XA
   ·have q4:=dF h48;have q5:=bT (q:=c<=57) (by omega)
    simp only[Ej,a1,a2,a3,a4,a5,a6,Aw,q1,q2,q3,q4,q5];exact bad XA
theorem Afh {l:List Int}(hB:Dq l)(Ev:100<=fu):Ae (CP p) prog fu (d+1) Le [.sc (.string (Ac l))]=some ⟨[.sc (.bool (Vi l))],[]⟩:=by
 rw[Sk];by_cases h1:1<=l.length
 ·by_cases h2:l.length<=63
  ·have a1:decide (((l.length:Nat):Int)<1)=false:=by simp;omega
   have a2:decide (((l.length:Nat):Int)>63)=false:=by simp;omega
   rw[Aft h1 h2];simp only[Ej,Aw,a1,a2];exact LH hB h2 l 0 fu rfl (by omega)
  ·have a1:decide (((l.length:Nat):Int)<1)=false:=by simp;omega
   have a2:decide (((l.length:Nat):Int)>63)=true:=by simp;omega
   have e:Vi l=false:=by unfold Vi;simp[h2]
   rw[e];simp only[Ej,Aw,a1,a2]
 ·have a1:decide (((l.length:Nat):Int)<1)=true:=by simp;omega
  have e:Vi l=false:=by unfold Vi;simp[h1]
  rw[e];simp only[Ej,Aw,a1]
theorem Aat (l cs:List UInt8):(Lib.trimS l cs==[])=l.all (cs.contains ·):=by
 have key:∀(q:UInt8->Bool) (m:List UInt8),m.dropWhile q=[]↔m.all q=true:=by
  intro q m
  induction m with
  |nil=>simp
  |cons x m ih=>
   by_cases hx:q x=true
   ·rw[List.dropWhile_cons_of_pos hx,ih];simp[hx]
   ·rw[List.dropWhile_cons_of_neg hx];simp[hx]
 unfold Lib.trimS Lib.trimLeftS Lib.trimRightS;rw[Bool.eq_iff_iff,beq_iff_eq,key,List.all_reverse,←key,key,List.all_eq_true]
 have h2:∀(q:UInt8->Bool) (m:List UInt8),(m.dropWhile q).all q=true↔m.all q=true:=by
  intro q m
  induction m with
  |nil=>simp
  |cons x m ih=>
   by_cases hx:q x=true
   ·rw[List.dropWhile_cons_of_pos hx,ih];simp[hx]
   ·rw[List.dropWhile_cons_of_neg hx]
 rw[←List.all_eq_true,h2,List.all_reverse]
def Pt:ByteArray:=⟨#[48,49,50,51,52,53,54,55,56,57]⟩
theorem Aj6:∀n:Fin 256,Pt.data.toList.contains (n.val:Int).toNat.toUInt8=IZ (n.val:Int):=by decide +kernel
theorem Ajj {l:List Int}(h:Dq l):((l.map fun n=>n.toNat.toUInt8).all (Pt.data.toList.contains ·))=l.all IZ:=by
 induction l with
 |nil=>rfl
 |cons c r ih=>
  obtain⟨hc,hr⟩:=C7 h;obtain⟨n,rfl⟩:=Int.eq_ofNat_of_zero_le hc.1;rw[List.map_cons,List.all_cons,List.all_cons,ih hr]
  congr 1
  exact Aj6 ⟨n,by omega⟩
theorem Ah5 {l:List Int}(hB:Dq l)(hs:l.length<=1000000):∃x,Ae (CP p) prog fu (d+1) 66 [.sc (.string (Ac l)),.sc (.string Pt)]=some ⟨[.sc (.string x)],[]⟩∧(Array.toList x.data==Array.toList (ByteArray.mk #[]).data)=l.all IZ:=by
 refine⟨⟨(Lib.trimS (Ac l).data.toList Pt.data.toList).toArray⟩,?_,?_⟩
 ·have e:Ae (CP p) prog fu (d+1) 66 [.sc (.string (Ac l)),.sc (.string Pt)]=LN [.sc (.string (Ac l)),.sc (.string Pt)]:=rfl;rw[e];unfold LN
  have:(Nat.ble Pt.size 1000&&Pt.data.toList.all (fun b=>decide (b.toNat<128))&&decide ((Ac l).size<=1000000000))=true:=by
   rw[Aw];have h1:(Nat.ble Pt.size 1000&&Pt.data.toList.all (fun b=>decide (b.toNat<128)))=true:=by decide +kernel
   rw[h1,dT (q:=l.length<=1000000000) (by omega)]
   rfl
  simp only[this,cond_true]
 ·show (Lib.trimS (Ac l).data.toList Pt.data.toList==[])=_;rw[Aat];exact Ajj hB
theorem Zi (c:Int):∀{l:List Int},Dq l->∀x∈A9 c l,Dq x∧x.length<=l.length
 |[],_,x,hx=>by simp[A9] at hx;subst hx;exact⟨(fun y hy=>nomatch hy),Nat.le_refl _⟩
 |a::r,h,x,hx=>by
  obtain⟨ha,hr⟩:=C7 h;have ih:=Zi c hr;unfold A9 at hx;split at hx
  ·rcases List.mem_cons.1 hx with rfl|hx
   ·exact⟨(fun y hy=>nomatch hy),Nat.zero_le _⟩
   ·exact⟨(ih x hx).1,Nat.le_succ_of_le (ih x hx).2⟩
  ·cases hs:A9 c r with
   |nil=>exact absurd hs (P5 c r)
   |cons b t=>
    rw[hs] at hx ih;rcases List.mem_cons.1 hx with rfl|hx
    ·obtain⟨q1,q2⟩:=ih b (by simp)
     refine⟨fun y hy=>?_,by simp;omega⟩
     rcases List.mem_cons.1 hy with rfl|hy
     ·exact ha
     ·exact q1 y hy
    ·exact⟨(ih x (by simp[hx])).1,Nat.le_succ_of_le (ih x (by simp[hx])).2⟩
theorem LY {a0:ByteArray}(Ev:200<=fu){ls:List (List Int)} (hB:∀x∈ls,Dq x∧x.length<=1000)(h0:ls≠[]) (hN:ls.length<=1000):∀(r:List (List Int)) (i nn:Nat),ls.drop i=r->r.length+1<=nn ->
  Gg fu (Ae (CP p) prog fu (d+1)) a0 nn ls.length ls.length (ls.length:Int) (i:Int) (ls.map BI)=some ⟨[.sc (.int .i64 (if r.all Vi=false then 2 else if (ls.getLastD []).all IZ=true then 2 else 0))],[]⟩
 |[],i,nn,hd,hn=>by
  obtain⟨k,rfl⟩:∃k,nn=k+1:=⟨nn-1,by omega⟩
  have hi:=drop_nil hd;have UL:0<ls.length:=List.length_pos_iff.2 h0;have a1:decide ((i:Int)<(ls.length:Int))=false:=by simp;omega
  have a2:wrap .i64 ((ls.length:Int)-1)=((ls.length-1:Nat):Int):=by rw[Bc (by omega) (by omega)];omega
  have a3:decide ((0:Int)<=((ls.length-1:Nat):Int))=true:=by simp
  have a4:decide (((ls.length-1:Nat):Int)<(ls.length:Int))=true:=by simp;omega
  have SH:ls.getLastD []=ls[ls.length-1]'(by omega):=by
   rw[List.getLastD_eq_getLast?,List.getLast?_eq_getElem?,List.getElem?_eq_getElem (by omega)]
   rfl
  have a5:List.getD (ls.map BI) (0+Int.toNat ((ls.length-1:Nat):Int)*1) PV.top=.sc (.string (Ac (ls.getLastD []))):=by
   rw[Oj,Zzd,Nat.mul_one,List.getD_eq_getElem?_getD,List.getElem?_map,List.getElem?_eq_getElem (by omega),SH]
   rfl
  have hm:=hB (ls.getLastD []) (by rw[SH];exact List.getElem_mem _)
  obtain⟨x,e,hx⟩:=Ah5 (fu:=fu) (d:=d) (p:=p) hm.1 (by omega)
  have e2:Ae (CP p) prog fu (d+1) 66 [.sc (.string (Ac (ls.getLastD []))),.sc (.string (ByteArray.mk #[(48:UInt8),(49:UInt8),(50:UInt8),(51:UInt8),(52:UInt8),(53:UInt8),(54:UInt8),(55:UInt8),(56:UInt8),(57:UInt8)]))]=some ⟨[.sc (.string x)],[]⟩:=e;rw[Kx];cases hq:(ls.getLastD []).all IZ
  ·rw[hq] at hx;simp only[Ej,a1,a2,a3,a4,a5,e2,hx,List.all_nil,Bool.true_eq_false,if_false,Bool.false_eq_true]
  ·rw[hq] at hx;simp only[Ej,a1,a2,a3,a4,a5,e2,hx,List.all_nil,Bool.true_eq_false,if_false,if_true]
 |x::r,i,nn,hd,hn=>by
  obtain⟨k,rfl⟩:∃k,nn=k+1:=⟨nn-1,by omega⟩
  obtain⟨hi,hc,K5⟩:=P8 hd;have ih:=LY (a0:=a0) Ev hB h0 hN r (i+1) k K5 (by simp at hn;omega)
  have hm:=hB x (List.mem_of_getElem? hc);have e:Ae (CP p) prog fu (d+1) 65 [.sc (.string (Ac x))]=_:=Afh (fu:=fu) (d:=d) (p:=p) hm.1 (by omega)
  have a1:decide ((i:Int)<(ls.length:Int))=true:=by simp;omega
  have a2:decide ((0:Int)<=(i:Int))=true:=by simp
  have a5:List.getD (ls.map BI) (0+Int.toNat (i:Int)*1) PV.top=.sc (.string (Ac x)):=by
   rw[Oj,Zzd,Nat.mul_one,List.getD_eq_getElem?_getD,List.getElem?_map,hc];rfl
  have a6:wrap .i64 ((i:Int)+1)=((i+1:Nat):Int):=by rw[Bc (by omega) (by omega)];omega
  rw[Kx];cases hq:Vi x
  ·rw[hq] at e;have:((x::r).all Vi=false):=by simp[hq]
   rw[E7 this];simp only[Ej,a1,a2,a5,e,D2]
  ·rw[hq] at e;have:(x::r).all Vi=r.all Vi:=by simp[hq]
   rw[this];simp only[Ej,a1,a2,a5,e,Db,a6];exact ih
theorem Aiy {l:List Int}(hB:Dq l)(hs:l.length<=1000000)(Ev:200<=fu):Ae (CP p) prog fu (d+6) N2 [.sc (.string (Ac l))]=some ⟨[.sc (.int .i64 (AB l))],[]⟩:=by
 rw[Wk];unfold AB;by_cases h:100<l.length
 ·have a1:decide (((l.length:Nat):Int)>100)=true:=by simp;omega
  rw[E7 h];simp only[Ej,Aw,a1]
 ·have a1:decide (((l.length:Nat):Int)>100)=false:=by simp;omega
  have e:Ae (CP p) prog fu (d+5) 64 [.sc (.string (Ac l)),.sc (.string (ByteArray.mk #[(46:UInt8)]))]=_:=Afi (fu:=fu) (d:=d) (p:=p) (c:=46) (by omega) hB (by omega) (by omega)
  have hn:=Uv 46 l;have hd:=LY (a0:=Ac l) (fu:=fu) (d:=d+4) (p:=p) (by omega) (ls:=A9 46 l) (fun x hx=>⟨(Zi 46 hB x hx).1,by have:=(Zi 46 hB x hx).2;omega⟩) (P5 46 l) (by omega) (A9 46 l) 0 fu rfl (by omega)
  rw[Dz h];simp only[Ej,Aw,a1,e];exact hd
theorem Aey (s:Bool):Ae (CP p) prog fu (d+1) Ii [.sc (.bool s)]=some ⟨[.sc (.int .i64 (dfl s))],[]⟩:=by
 rw[Pm];cases s<;>simp only[Ej]<;>rfl
theorem SZ (c:Int):IZ c=true↔48<=c∧c<=57:=by unfold IZ;simp
theorem FC {call:Ax}{a0:ByteArray}{l:List Int}(hB:Dq l)(hs:l.length<=5):∀(r:List Int)(i nn:Nat)(n:Int),l.drop i=r->r.length+1<=nn->0<=n->n<10 ^ i ->
  Ey fu call a0 nn (Ac l) n (l.length:Int) (i:Int)=some (if r.all IZ=true then ⟨[.sc (.int .i64 (r.foldl (fun n x=>10*n+(x-48)) n)),.sc (.bool (decide (r.foldl (fun n x=>10*n+(x-48)) n<=65535)))],[]⟩ else ⟨[.sc (.int .i64 0),.sc (.bool false)],[]⟩)
 |[],i,nn,n,hd,hn,h0,h1=>by
  obtain⟨k,rfl⟩:∃k,nn=k+1:=⟨nn-1,by omega⟩
  have hi:=drop_nil hd;have a1:decide ((i:Int)<(l.length:Int))=false:=by simp;omega
  rw[Ht];simp only[Ej,a1];rfl
 |c::r,i,nn,n,hd,hn,h0,h1=>by
  obtain⟨k,rfl⟩:∃k,nn=k+1:=⟨nn-1,by omega⟩
  obtain⟨hi,hc,K5⟩:=P8 hd;have hcB:=hB c (List.mem_of_getElem? hc)
  have hp:(10:Int) ^ i<=10 ^ 4:=by
   have h:=Nat.pow_le_pow_right (n:=10) (by omega) (show i<=4 by omega)
   exact_mod_cast h
  have hp2:(10:Int) ^ (i+1)=10 ^ i*10:=Int.pow_succ ..;have a1:decide ((i:Int)<(l.length:Int))=true:=by simp;omega
  have a2:decide ((0:Int)<=(i:Int))=true:=by simp
  have a3:(Array.toList (Ac l).data)[Int.toNat (i:Int)]?=some c.toNat.toUInt8:=by
   rw[Oj];show (l.map fun n=>n.toNat.toUInt8)[i]?=_
   rw[List.getElem?_map,hc];rfl
  have a4:=Zr hcB;rw[Ht];by_cases hq:48<=c∧c<=57
  ·have q1:=dF (q:=c<48) (by omega)
   have q2:=dF (q:=c>57) (by omega)
   have a5:wrap .i64 (10*n)=10*n:=Bc (by omega) (by omega)
   have a6:wrap .u8 (c-48)=c-48:=Xj (by omega) (by omega)
   have a7:wrap .i64 (c-48)=c-48:=Bc (by omega) (by omega)
   have a8:wrap .i64 (10*n+(c-48))=10*n+(c-48):=Bc (by omega) (by omega)
   have a9:wrap .i64 ((i:Int)+1)=((i+1:Nat):Int):=by rw[Bc (by omega) (by omega)];omega
   have ih:=FC (call:=call) (a0:=a0) hB hs r (i+1) k (10*n+(c-48)) K5 (by simp at hn;omega) (by omega) (by omega)
   have e:(c::r).all IZ=r.all IZ:=by rw[List.all_cons,(SZ c).2 hq,Bool.true_and]
   simp only[Ej,a1,a2,a3,a4,q1,q2,a5,a6,a7,a8,a9];rw[ih,e];rfl
  ·have e:(c::r).all IZ=false:=by
    have:IZ c=false:=by
     cases hb:IZ c
     ·rfl
     ·exact absurd ((SZ c).1 hb) hq
    rw[List.all_cons,this,Zzs]
   rw[e];by_cases h48:c<48
   ·have q1:=dT h48;simp only[Ej,a1,a2,a3,a4,q1,Bool.false_eq_true,if_false]
   ·have q1:=dF h48;have q2:=dT (q:=c>57) (by omega)
    simp only[Ej,a1,a2,a3,a4,q1,q2,Bool.false_eq_true,if_false]
theorem Ald {l:List Int}(hB:Dq l)(Ev:100<=fu):Ae (CP p) prog fu (d+1) Kg [.sc (.string (Ac l))]=some (if Pe l=true then ⟨[.sc (.int .i64 (KN l)),.sc (.bool (decide (KN l<=65535)))],[]⟩ else ⟨[.sc (.int .i64 0),.sc (.bool false)],[]⟩):=by
 rw[Ry];by_cases h1:1<=l.length
 ·by_cases h2:l.length<=5
  ·have a1:decide (((l.length:Nat):Int)<1)=false:=by simp;omega
   have a2:decide (((l.length:Nat):Int)>5)=false:=by simp;omega
   cases l with
   |nil=>simp at h1
   |cons c r=>
    have hcB:=hB c (by simp)
    have a3:(Array.toList (Ac (c::r)).data)[0]?=some c.toNat.toUInt8:=rfl;have a4:=Zr hcB;by_cases h0:c=48
    ·subst h0;have e:Pe (48::r)=false:=by unfold Pe;simp
     have q:((48:Int)==48)=true:=rfl;rw[e];simp only[Ej,Aw,a1,a2,a3,a4,q,Bool.false_eq_true,if_false]
    ·have q:(c==48)=false:=by simp[h0]
     have e:Pe (c::r)=(c::r).all IZ:=by
      unfold Pe;rw[dT h1,dT h2];simp[h0]
     have hl:=FC (call:=Ae (CP p) prog fu d) (fu:=fu) (a0:=Ac (c::r)) hB h2 (c::r) 0 fu 0 rfl (by omega) (by omega) (by decide)
     rw[e];simp only[Ej,Aw,a1,a2,a3,a4,q];exact hl
  ·have a1:decide (((l.length:Nat):Int)<1)=false:=by simp;omega
   have a2:decide (((l.length:Nat):Int)>5)=true:=by simp;omega
   have e:Pe l=false:=by unfold Pe;simp[h2]
   rw[e];simp only[Ej,Aw,a1,a2,Bool.false_eq_true,if_false]
 ·have a1:decide (((l.length:Nat):Int)<1)=true:=by simp;omega
  have e:Pe l=false:=by unfold Pe;simp[h1]
  rw[e];simp only[Ej,Aw,a1,Bool.false_eq_true,if_false]
theorem Ahy {l:List Int}(hB:Dq l)(hs:l.length<=1000000)(Ev:200<=fu):∃o1 o2 o3,Ae (CP p) prog fu (d+7) Pp [.sc (.string (Ac l))]=some ⟨[.agg [.sc (.bool o1),.sc (.string o2),.sc (.int .i64 o3)],.sc (.int .i64 (F2 l))],[]⟩:=by
  have hsp:=Ag3 (fu:=fu) (d:=d+2) (p:=p) hB (w:=[104,116,116,112,115,58,47,47]) (fun x hx=>by simp at hx;omega)
  have Sd:=Ag3 (fu:=fu) (d:=d+2) (p:=p) hB (w:=[104,116,116,112,58,47,47]) (fun x hx=>by simp at hx;omega)
  have e1:Ae (CP p) prog fu (d+6) 44 [.sc (.string (Ac l)),.sc (.string (ByteArray.mk #[(104:UInt8),(116:UInt8),(116:UInt8),(112:UInt8),(115:UInt8),(58:UInt8),(47:UInt8),(47:UInt8)]))]=_:=hsp
  have e2:Ae (CP p) prog fu (d+6) 44 [.sc (.string (Ac l)),.sc (.string (ByteArray.mk #[(104:UInt8),(116:UInt8),(116:UInt8),(112:UInt8),(58:UInt8),(47:UInt8),(47:UInt8)]))]=_:=Sd
  have tail:∀(s:Bool) (r:List Int),Dq r->r.length<=1000000->∃o1 o2 o3,(Ah (Ae (CP p) prog fu (d+6) 45 [PV.sc (Value.string (Ac r)),PV.sc (Value.string (ByteArray.mk #[(58:UInt8)]))]) fun I4 Lw=>
    Ad (Lw) <|
    Aa (I4) fun L4 Ml=>
    Az (L4) fun Mi=>
    Aa (Ml) fun N6 K4=>
    Az (N6) fun Nq=>
    Aa (K4) fun L1 L5=>
    Aq (L1) fun Mk=>
    Ad (L5) <|
    Ah (Ae (CP p) prog fu (d+6) 46 [PV.sc (Value.string Mi)]) fun Oi Me=>
    Ad (Me) <|
    Aa (Oi) fun Oa Om=>
    Ak (IntKind.i64) (Oa) fun Oc=>
    Ad (Om) <|
    Bh (Oc != (0:Int))
     (
     some (Ay.mk [PV.agg [PV.sc (Value.bool false),PV.sc (Value.string (ByteArray.mk #[])),PV.sc (Value.int IntKind.i64 (0:Int))],PV.sc (Value.int IntKind.i64 Oc)] []))
     (
     Ah (Ae (CP p) prog fu (d+6) 47 [PV.sc (Value.bool s)]) fun M9 Ol=>
     Ad (Ol) <|
     Aa (M9) fun Pj Q7=>
     Ak (IntKind.i64) (Pj) fun Se=>
     Ad (Q7) <|
     Bh (Mk)
      (
      Ah (Ae (CP p) prog fu (d+6) 48 [PV.sc (Value.string Nq)]) fun S1 Pu=>
      Ad (Pu) <|
      Aa (S1) fun AZ BA=>
      Ak (IntKind.i64) (AZ) fun Qm=>
      Aa (BA) fun Qj Zo=>
      Aq (Qj) fun Xh=>
      Ad (Zo) <|
      Bh (!Xh)
       (
       some (Ay.mk [PV.agg [PV.sc (Value.bool false),PV.sc (Value.string (ByteArray.mk #[])),PV.sc (Value.int IntKind.i64 (0:Int))],PV.sc (Value.int IntKind.i64 (2:Int))] []))
       (
       Bh (Qm==Se)
        (
        some (Ay.mk [PV.agg [PV.sc (Value.bool false),PV.sc (Value.string (ByteArray.mk #[])),PV.sc (Value.int IntKind.i64 (0:Int))],PV.sc (Value.int IntKind.i64 (2:Int))] []))
        (
        some (Ay.mk [PV.agg [PV.sc (Value.bool s),PV.sc (Value.string Mi),PV.sc (Value.int IntKind.i64 Qm)],PV.sc (Value.int IntKind.i64 (0:Int))] []))))
      (
      some (Ay.mk [PV.agg [PV.sc (Value.bool s),PV.sc (Value.string Mi),PV.sc (Value.int IntKind.i64 Se)],PV.sc (Value.int IntKind.i64 (0:Int))] []))))=some ⟨[.agg [.sc (.bool o1),.sc (.string o2),.sc (.int .i64 o3)],.sc (.int .i64 (TD s r))],[]⟩:=by
    intro s r hr hrl
    have c1:Ae (CP p) prog fu (d+6) 45 [.sc (.string (Ac r)),.sc (.string (ByteArray.mk #[(58:UInt8)]))]=_:=Aqz (fu:=fu) (d:=d+2) (p:=p) (c:=58) (by omega) hr hrl
    have Nt:=SC 58 r
    have hbB:Dq (B5 58 r):=by rw[S4];exact fun x hx=>hr x (List.mem_of_mem_take hx)
    have hdB:Dq (r.drop ((B5 58 r).length+1)):=fun x hx=>hr x (List.mem_of_mem_drop hx)
    have c2:Ae (CP p) prog fu (d+6) 46 [.sc (.string (Ac (B5 58 r)))]=_:=Aiy (fu:=fu) (d:=d) (p:=p) hbB (by omega) Ev
    have c3:Ae (CP p) prog fu (d+6) 47 [.sc (.bool s)]=_:=Aey (fu:=fu) (d:=d+5) (p:=p) s
    have c4:Ae (CP p) prog fu (d+6) 48 [.sc (.string (Ac (r.drop ((B5 58 r).length+1))))]=_:=Ald (fu:=fu) (d:=d+5) (p:=p) hdB (by omega)
    unfold TD
    by_cases hh:AB (B5 58 r)=0
    · have b1:(AB (B5 58 r) != 0)=false:=by simp[hh]
      simp only[ne_eq,hh,not_true_eq_false,if_false]
      by_cases hw:(B5 58 r).length<r.length
      · rw[dT hw] at c1
        rw[Dz (show ¬(B5 58 r).length=r.length by omega)]
        by_cases hp:Pe (r.drop ((B5 58 r).length+1))=true
        · rw[E7 hp] at c4
          by_cases hv:KN (r.drop ((B5 58 r).length+1))<=65535
          · rw[dT hv] at c4
            by_cases hdp:KN (r.drop ((B5 58 r).length+1))=dfl s
            · have b2:(KN (r.drop ((B5 58 r).length+1))==dfl s)=true:=by simp[hdp]
              rw[Dz (by rintro⟨_,_,h⟩;exact h hdp)]
              exact⟨_,_,_,by simp only[Ej,c1,c2,hh,c3,c4,b2,Db,show ((0:Int) != 0)=false from rfl];rfl⟩
            · have b2:(KN (r.drop ((B5 58 r).length+1))==dfl s)=false:=by simp[hdp]
              rw[E7 ⟨hp,hv,hdp⟩]
              exact⟨_,_,_,by simp only[Ej,c1,c2,hh,c3,c4,b2,Db,show ((0:Int) != 0)=false from rfl];rfl⟩
          · rw[dF hv] at c4
            rw[Dz (by rintro⟨_,h,_⟩;exact hv h)]
            exact⟨_,_,_,by simp only[Ej,c1,c2,hh,c3,c4,D2,show ((0:Int) != 0)=false from rfl];rfl⟩
        · rw[Dz hp] at c4
          rw[Dz (by rintro⟨h,_,_⟩;exact hp h)]
          exact⟨_,_,_,by simp only[Ej,c1,c2,hh,c3,c4,D2,show ((0:Int) != 0)=false from rfl];rfl⟩
      · rw[dF hw] at c1
        rw[E7 (show (B5 58 r).length=r.length by omega)]
        exact⟨_,_,_,by simp only[Ej,c1,c2,hh,c3,show ((0:Int) != 0)=false from rfl];rfl⟩
    · have b1:(AB (B5 58 r) != 0)=true:=by simp[hh]
      simp only[ne_eq,hh,not_false_eq_true,if_true]
      exact⟨_,_,_,by simp only[Ej,c1,c2,b1];rfl⟩
  have er:=Z6 (p:=p) fu (d+6) (Ac l)
  unfold F2
  cases h1:List.isPrefixOf [104,116,116,112,115,58,47,47] l
  · rw[h1] at e1
    simp only[Bool.false_eq_true,if_false] at e1 ⊢
    cases h2:List.isPrefixOf [104,116,116,112,58,47,47] l
    · rw[h2] at e2
      simp only[Bool.false_eq_true,if_false] at e2 ⊢
      exact⟨_,_,_,er.trans (by simp only[Ej,e1,e2,D2];rfl)⟩
    · rw[h2] at e2
      simp only[if_true] at e2 ⊢
      obtain⟨o1,o2,o3,ht⟩:=tail false (l.drop 7) (fun x hx=>hB x (List.mem_of_mem_drop hx)) (by simp;omega)
      refine⟨o1,o2,o3,er.trans ?_⟩
      simp only[Xw,GZ,Xu,Xs,IB,HA,IJ,e1,e2,D2,Db]
      exact ht
  · rw[h1] at e1
    simp only[if_true] at e1 ⊢
    obtain⟨o1,o2,o3,ht⟩:=tail true (l.drop 8) (fun x hx=>hB x (List.mem_of_mem_drop hx)) (by simp;omega)
    refine⟨o1,o2,o3,er.trans ?_⟩
    simp only[Xw,GZ,Xu,Xs,IB,HA,IJ,e1,D2,Db]
    exact ht
end
end
section
open Go.Proofs.Tryd (prog)
open Go.IntKind (wrap)
set_option maxRecDepth 1000000
open Go Go.RowKit Go.Lib
def RtP (w':World)(l:List Int)(e:Ending):Prop:=
 match OU 8 l with
 |.ok ms=>∃mb,e=.returned (.tuple #[.map (some mb),.int .i64 0])∧AD w' mb ms
 |.error er=>er≠0∧∃m,e=.returned (.tuple #[m,.int .i64 er])
theorem EB (l:List Int):OU 8 l=match Ap [123] (Bd l) with
  |some r=>(match S7 (Fh 8) true r with
   |.error e=>.error e
   |.ok (ms,r')=>if Bd r'=[] then .ok ms else .error 2)
  |none=>.error 2:=by
 unfold OU;rw[Fg];cases Bd l with
 |nil=>rfl
 |cons y s=>
  by_cases hy:y=123
  ·subst hy;rfl
  ·simp only[Dz hy];split
   ·rename_i e;injection e with e1 _;exact absurd e1 hy
   ·rfl
theorem Dj.toBelow {w w':World}{b mb B:Nat}(k:Dj w w' b mb)(hb:B<=b)(JB:B<=mb)(hB:B<=w.heap.size):Below B w w':=
 ⟨k.os,k.tape,k.output,k.size,fun i hi=>k.other i (by omega) (by omega) (by omega)⟩
theorem AQ {w:World}(hU:gU.ok w)(hUl:∀k,gU.bl k->k<w.heap.size){w':World}(hb:Below w.heap.size w w'){b:Nat}(TU:w.heap.size<=b):Jr w' b:=
 ⟨gU.stable w w' (fun j _ hl=>hb.block j hl) hU,fun k hk=>⟨Nat.lt_of_lt_of_le (hUl k hk) hb.size,by have:=hUl k hk;omega⟩⟩
set_option maxHeartbeats 4000000 in
theorem Afw {t:ByteArray}(ht:t.size<=1000000){w:World}(hU:gU.ok w)(hUl:∀k,gU.bl k->k<w.heap.size):
  Calls prog 34 #[.string t] w fun e w'=>Below w.heap.size w w'∧RtP w' (D1 t) e:=by
 have mixed:prog.follows Departure.mixedOrders=true:=by kernel_rfl
 have OJ:=@run_makeMap prog;have Ec:Below w.heap.size w (w.alloc (.cells #[.string t,.int .i64 0] 92)):=(Below.refl _ w).alloc (Nat.le_refl _) _;have Gw:Below w.heap.size w ((w.alloc (.cells #[.string t,.int .i64 0] 92)).alloc (.map #[] 0)):=Ec.alloc Ec.size _;have XR:(w.alloc (.cells #[.string t,.int .i64 0] 92)).heap.size=w.heap.size+1:=Array.size_push _
 have h2:Sr ((w.alloc (.cells #[.string t,.int .i64 0] 92)).alloc (.map #[] 0)) w.heap.size 0 t (D1 t):=by
  have hg:((w.alloc (.cells #[.string t,.int .i64 0] 92)).alloc (.map #[] 0)).heap[w.heap.size]?=some (.cells #[.string t,.int .i64 0] 92):=by
   show ((w.heap.push _).push _)[w.heap.size]?=_;rw[Array.getElem?_push_lt (by simp)]
   simp
  have hp:Bp t (D1 t)=0:=by unfold Bp;rw[Es];omega
  refine⟨?_,?_,?_,?_,?_⟩
  ·show w.heap.size<((w.heap.push _).push _).size;rw[Array.size_push,Array.size_push];omega
  ·unfold World.cell?;simp only[hg];rfl
  ·unfold World.cell?;simp only[hg,hp];rfl
  ·unfold World.frozen?;simp only[hg];rfl
  ·unfold World.frozen?;simp only[hg];rfl
 have hM2:AD ((w.alloc (.cells #[.string t,.int .i64 0] 92)).alloc (.map #[] 0)) (w.heap.size+1) []:=by
  show ((w.heap.push _).push (Obj.map #[] 0))[w.heap.size+1]?=some (.map #[] 0);have:w.heap.size+1=(w.heap.push (Obj.cells #[.string t,.int .i64 0] 92)).size:=by simp
  rw[this];exact Array.getElem?_push_size
 have hU2:=AQ hU hUl Gw (Nat.le_refl _);have hmU:¬gU.bl (w.heap.size+1):=fun h=>by have:=hUl _ h;omega
 have hS:=Cz.all t;have hsk:=G0 hS ht hU2 h2
 go_enter Tryd.func34,Tryd.ntmps34
 go_wp2_with (go_at_call 50;refine hsk.mono ?_)
 rintro e W3 ⟨rfl,h3,k3⟩
 have hS3:=Bm hS;have hM3:=hM2.keep k3 (by omega)
 have hU3:=hU2.keep k3;have hro:=Af1 hS3 ht hU3 h3 hM3 (by omega) hmU
 have I2:Below w.heap.size w W3:=Gw.trans ((Dj.of (mb:=w.heap.size+1) k3).toBelow (Nat.le_refl _) (by omega) Gw.size)
 go_wp2_with (go_at_call 51;refine hro.mono ?_)
 rintro e W4 ⟨k4,r4,Xt,h4,JS⟩
 have Qw:Below w.heap.size w W4:=I2.trans (k4.toBelow (Nat.le_refl _) (by omega) I2.size)
 have hU4:Jr W4 w.heap.size:=AQ hU hUl Qw (Nat.le_refl _)
 have YM:∀W e,(match Ap [123] (Bd (D1 t)) with
  |some r=>(match S7 (Fh 8) true r with
   |.error er=>er≠0∧∃m,e=.returned (.tuple #[m,.int .i64 er])
   |.ok (ms,r')=>if Bd r'=[] then ∃mb,e=.returned (.tuple #[.map (some mb),.int .i64 0])∧AD W mb ms else ∃m,e=.returned (.tuple #[m,.int .i64 2]))
  |none=>∃m,e=.returned (.tuple #[m,.int .i64 2]))->RtP W (D1 t) e:=by
  intro W e;unfold RtP;rw[EB];cases Ap [123] (Bd (D1 t)) with
  |none=>exact fun h=>⟨by decide,h⟩
  |some r=>
   cases hob:S7 (Fh 8) true r with
   |error er=>simp only[hob];exact id
   |ok x=>
    obtain⟨ms,r'⟩:=x;simp only[hob];by_cases g:Bd r'=[]
    ·simp only[E7 g];exact id
    ·simp only[Dz g];exact fun h=>⟨by decide,h⟩
 unfold RoP at JS;cases hq:Ap [123] (Bd (D1 t)) with
 |none=>
  rw[hq] at JS YM;subst JS
  go_wp2
  go_ret2
  exact⟨Qw,YM _ _ ⟨_,rfl⟩⟩
 |some r=>
  rw[hq] at JS YM;simp only at JS YM;cases ho:S7 (Fh 8) true r with
  |error er=>
   rw[ho] at JS YM;obtain⟨he,rfl⟩:=JS;have hbe:(er != (0:Int))=true:=by simp[he]
   go_wp2
   go_ret2
   exact⟨Qw,YM _ _ ⟨he,_,rfl⟩⟩
  |ok x=>
   obtain⟨ms,r'⟩:=x;rw[ho] at JS YM;obtain⟨rfl,rfl,hM4⟩:=JS;have Akz:=G0 Xt ht hU4 h4
   go_wp2_with (go_at_call 50;refine Akz.mono ?_)
   rintro e W5 ⟨rfl,h5,k5⟩
   have PE:Below w.heap.size w W5:=Qw.trans ((Dj.of (mb:=w.heap.size+1) k5).toBelow (Nat.le_refl _) (by omega) Qw.size)
   have hM5:=hM4.keep k5 (by omega)
   obtain⟨B4,VJ,BD,hf0,hf1⟩:=h5;have Hq:=Bm Xt;have hl5:=Hq.len;cases hx:Bd r4 with
   |nil=>
    rw[hx] at BD YM;rw[So] at BD
    go_wp2
    go_region_o
    go_wp2
    go_ret2
    exact⟨PE.drew,YM _ _ (by rw[E7 trivial];exact⟨_,rfl,hM5⟩)⟩
   |cons c q=>
    rw[hx] at BD YM hl5
    have A78:(Bp t (c::q):Int)<t.size:=by
     unfold Bp;rw[PG] at hl5 ⊢;omega
    have Ayq:¬(c::q=[]):=by simp
    go_wp2
    go_region_o
    go_wp2
    go_ret2
    exact⟨PE.drew,YM _ _ (by rw[Dz Ayq];exact⟨_,rfl⟩)⟩
end
section
open Go.Proofs.Tryd (prog)
open Go.IntKind (wrap)
set_option maxRecDepth 1000000
open Go Go.RowKit Go.Lib
def Oo:List Int:=[116,121,112,101]
def Va:List Int:=[99,104,97,108,108,101,110,103,101]
def nmO:List Int:=[111,114,105,103,105,110]
def Cf (nm:List Int)(ms:List (List Int × JV)):JV:=(Js nm ms).getD (0,[],false)
theorem Zl {w:World}{b:Nat}{ms:List (List Int × JV)} (h:AD w b ms)(hB:∀m∈ms,Dq m.1){nm:List Int}(hn:Dq nm):(Instr.lookup 68 (.map (some b)) (.string (Ac nm)) false).run prog w=.ok (.agg #[.int .i64 (Cf nm ms).1,.string (Ac (Cf nm ms).2.1),.bool (Cf nm ms).2.2]) w:=by
 have:=Zj h hB hn false;rw[this];unfold LI Cf;cases Js nm ms<;>rfl
theorem al4 (w:World)(o0 x1 x2 x3:Obj):((((w.alloc o0).alloc x1).alloc x2).alloc x3).drew.heap[w.heap.size]?=some o0∧((((w.alloc o0).alloc x1).alloc x2).alloc x3).drew.heap[w.heap.size+1]?=some x1∧((((w.alloc o0).alloc x1).alloc x2).alloc x3).drew.heap[w.heap.size+1+1]?=some x2∧((((w.alloc o0).alloc x1).alloc x2).alloc x3).drew.heap[w.heap.size+1+1+1]?=some x3:=by
 show ((((w.heap.push o0).push x1).push x2).push x3)[w.heap.size]?=some o0∧((((w.heap.push o0).push x1).push x2).push x3)[w.heap.size+1]?=some x1∧((((w.heap.push o0).push x1).push x2).push x3)[w.heap.size+1+1]?=some x2∧((((w.heap.push o0).push x1).push x2).push x3)[w.heap.size+1+1+1]?=some x3;refine⟨?_,?_,?_,?_⟩
 ·rw[Array.getElem?_push_lt (by simp;omega),Array.getElem_push_lt (by simp;omega),Array.getElem_push_lt (by simp),Array.getElem_push_eq]
 ·have:w.heap.size+1=(w.heap.push o0).size:=by simp
  rw[Array.getElem?_push_lt (by simp),Array.getElem_push_lt (by simp)]
  simp only[this,Array.getElem_push_eq]
 ·have:w.heap.size+1+1=((w.heap.push o0).push x1).size:=by simp
  rw[Array.getElem?_push_lt (by simp)]
  simp only[this,Array.getElem_push_eq]
 ·have:w.heap.size+1+1+1=(((w.heap.push o0).push x1).push x2).size:=by simp
  rw[this];exact Array.getElem?_push_size
theorem al2 (w:World)(x1 x2:Obj):((w.alloc x1).alloc x2).drew.heap[w.heap.size]?=some x1∧((w.alloc x1).alloc x2).drew.heap[w.heap.size+1]?=some x2:=by
 show ((w.heap.push x1).push x2)[w.heap.size]?=some x1∧((w.heap.push x1).push x2)[w.heap.size+1]?=some x2;refine⟨?_,?_⟩
 ·simp[Array.getElem?_push]
 ·have:w.heap.size+1=(w.heap.push x1).size:=by simp
  rw[this];exact Array.getElem?_push_size
def nmX:List Int:=[99,114,111,115,115,79,114,105,103,105,110]
def nmP:List Int:=[116,111,112,79,114,105,103,105,110]
def WR (v:JV):Obj:=.cells #[.int .i64 v.1,.string (Ac v.2.1),.bool v.2.2] 95
def cd0:Obj:=.cells #[.int .i64 0,.slice none 0 0,.string ⟨#[]⟩,.bool false,.string ⟨#[]⟩] 36
def tyC:List Int:=[112,97,115,115,107,101,121,46,99,114,101,97,116,101]
def tyG:List Int:=[112,97,115,115,107,101,121,46,103,101,116]
abbrev CD:=Int × List Int × List Int × Bool × List Int
def Wx (k:Int)(C O X P:JV):JR CD:=
 match Nc C.2.1 with
 |none=>.error 2
 |some b=>if b.length<1∨64<b.length then .error 9 else if F2 O.2.1≠0 then .error (F2 O.2.1) else if X.2.2=true∧F2 P.2.1≠0 then .error (F2 P.2.1) else .ok (k,b,O.2.1,X.2.2,P.2.1)
def He (T C O X P:JV):JR CD:=
 if T.1≠4∨C.1≠4∨O.1≠4 then .error 4
 else if X.1≠0∧X.1≠2 then .error 4
 else if (X.2.2=true∧P.1≠4)∨(X.2.2=false∧P.1≠0) then .error 4
 else if T.2.1=tyC then Wx 1 C O X P else if T.2.1=tyG then Wx 2 C O X P else .error 3
def To (w:World)(a:Addr)(b:List Int):Prop:=a.spot=none∧a.block<w.heap.size∧∀j x,b[j]?=some x->w.cell? (a.add j)=some (.int .u8 x)
def ItP (w w':World)(r:JR CD)(e:Ending):Prop:=
 match r with
 |.ok (k,b,o,x,p)=>∃ad cap,e=.returned (.tuple #[.agg #[.int .i64 k,.slice (some ad) b.length cap,.string (Ac o),.bool x,.string (Ac p)],.int .i64 0])∧b.length<=cap∧w.heap.size<=ad.block∧To w' ad b
 |.error er=>er≠0∧e=.returned (.tuple #[.agg #[.int .i64 0,.slice none 0 0,.string ⟨#[]⟩,.bool false,.string ⟨#[]⟩],.int .i64 er])
def DbP (w w':World)(s:List Int)(e:Ending):Prop:=
 match Nc s with
 |none=>∃ad cap,e=.returned (.tuple #[.slice ad 0 cap,.int .i64 2])
 |some b=>∃ad cap,e=.returned (.tuple #[.slice ad b.length cap,.int .i64 0])∧(b≠[]->∃a,ad=some a∧b.length<=cap∧w.heap.size<=a.block∧To w' a b)
theorem Yf {w:World}{b:Nat}{v:JV}(h:w.heap[b]?=some (WR v)):w.cell? ⟨b,0,none⟩=some (.int .i64 v.1)∧w.cell? ⟨b,1,none⟩=some (.string (Ac v.2.1))∧w.cell? ⟨b,2,none⟩=some (.bool v.2.2):=by
 refine⟨?_,?_,?_⟩<;>(unfold World.cell?;simp only[h];rfl)
theorem Aa8 {w:World}{b:Nat}(h:w.heap[b]?=some cd0):(w.cell? ⟨b,0,none⟩=some (.int .i64 0)∧w.cell? ⟨b,1,none⟩=some (.slice none 0 0)∧w.cell? ⟨b,2,none⟩=some (.string ⟨#[]⟩)∧w.cell? ⟨b,3,none⟩=some (.bool false)∧w.cell? ⟨b,4,none⟩=some (.string ⟨#[]⟩))∧w.frozen? ⟨b,0,none⟩=false∧w.frozen? ⟨b,1,none⟩=false∧w.frozen? ⟨b,2,none⟩=false∧w.frozen? ⟨b,3,none⟩=false∧w.frozen? ⟨b,4,none⟩=false:=by
 refine⟨⟨?_,?_,?_,?_,?_⟩,?_,?_,?_,?_,?_⟩<;>first|(unfold World.cell?;simp only[h];rfl)|(unfold World.frozen?;simp only[h];rfl)
theorem VY (s:ByteArray):s.toList=s.data.toList:=by
 have h:∀(n i:Nat) (r:List UInt8),n=s.size-i->ByteArray.toList.loop s i r=r.reverse++s.data.toList.drop i:=by
  intro n
  induction n with
  |zero=>
   intro i r hn;unfold ByteArray.toList.loop;rw[Dz (by omega),List.drop_eq_nil_of_le (by rw[←Lib.size_eq];omega),List.append_nil]
  |succ n ih=>
   intro i r hn;have hi:i<s.size:=by omega
   unfold ByteArray.toList.loop;rw[E7 hi,ih (i+1) _ (by omega),List.reverse_cons,List.append_assoc]
   congr 1
   have hl:i<s.data.toList.length:=by rw[←Lib.size_eq];exact hi
   rw[List.drop_eq_getElem_cons hl]
   have e:s.get! i=s.data.toList[i]:=by
    show s.data[i]!=_;rw[getElem!_pos s.data i hi];rfl
   rw[e];rfl
 have:=h _ 0 [] rfl;exact this
theorem AF {a b:List Int}(ha:Dq a)(hb:Dq b):((Ac a).toList==b.map fun n=>n.toNat.toUInt8)=decide (a=b):=by
 rw[VY,Bool.eq_iff_iff,beq_iff_eq,decide_eq_true_iff];constructor
 ·intro h;have e:Ac a=Ac b:=congrArg (fun l:List UInt8=>(⟨l.toArray⟩:ByteArray)) (show (Ac a).data.toList=(Ac b).data.toList from h)
  exact V3 ha hb e
 ·rintro rfl;rfl
def Axt (w:World)(vT vC vO:JV)(s4 s5 s6:Value)(wx:World):Prop:=
 ∃bT bC bO,s4=.pointer (some ⟨bT,0,none⟩)∧s5=.pointer (some ⟨bC,0,none⟩)∧s6=.pointer (some ⟨bO,0,none⟩)∧w.heap.size<bT∧w.heap.size<bC∧w.heap.size<bO∧wx.heap[w.heap.size]?=some cd0∧wx.heap[bT]?=some (WR vT)∧wx.heap[bC]?=some (WR vC)∧wx.heap[bO]?=some (WR vO)∧Below w.heap.size w wx
def Az3 (w wc:World)(vX vP:JV)(s7 s8:Value)(wx:World):Prop:=
 ∃bX bP,s7=.pointer (some ⟨bX,0,none⟩)∧s8=.pointer (some ⟨bP,0,none⟩)∧wc.heap.size<=bX∧wc.heap.size<=bP∧wx.heap[bX]?=some (WR vX)∧wx.heap[bP]?=some (WR vP)∧Below wc.heap.size wc wx
theorem Abw {w:World}{b:Nat}{x0 x1 x2 x3 x4:Value}(h:w.heap[b]?=some (.cells #[x0,x1,x2,x3,x4] 36)):(w.cell? ⟨b,0,none⟩=some x0∧w.cell? ⟨b,1,none⟩=some x1∧w.cell? ⟨b,2,none⟩=some x2∧w.cell? ⟨b,3,none⟩=some x3∧w.cell? ⟨b,4,none⟩=some x4)∧w.frozen? ⟨b,0,none⟩=false∧w.frozen? ⟨b,1,none⟩=false∧w.frozen? ⟨b,2,none⟩=false∧w.frozen? ⟨b,3,none⟩=false∧w.frozen? ⟨b,4,none⟩=false:=by
 refine⟨⟨?_,?_,?_,?_,?_⟩,?_,?_,?_,?_,?_⟩<;>first|(unfold World.cell?;simp only[h];rfl)|(unfold World.frozen?;simp only[h];rfl)
theorem GF {w:World}{b:Nat}{x0 x1 x2 x3 x4:Value}(h0:w.cell? ⟨b,0,none⟩=some x0)(h1:w.cell? ⟨b,1,none⟩=some x1)(h2:w.cell? ⟨b,2,none⟩=some x2)(h3:w.cell? ⟨b,3,none⟩=some x3)(h4:w.cell? ⟨b,4,none⟩=some x4):(loadVar 36 ⟨b,0,none⟩).run prog w=.ok (.agg #[x0,x1,x2,x3,x4]) w:=by
 have hf:∀j,j<5->w.cell? ((⟨b,0,none⟩:Addr).add j)=some (([x0,x1,x2,x3,x4][j]?).getD undef):=by
  intro j hj;rw[D3,Zzd]
  match j,hj with
  |0,_=>exact h0
  |1,_=>exact h1
  |2,_=>exact h2
  |3,_=>exact h3
  |4,_=>exact h4
 simp only[loadVar,Sem.run_bind,Tryd.isAgg36,Result.andThen_ok,if_true,Tryd.sizeOf36,run_loadCells w _ 5 _ hf];rfl
theorem Eb {w:World}{b i j:Nat}{v:Value}(h:i≠j):(w.setCell ⟨b,j,none⟩ v).cell? ⟨b,i,none⟩=w.cell? ⟨b,i,none⟩:=World.cell?_setCell_other _ _ _ _ (fun e=>h (by injection e with _ e2;exact e2.symm))
theorem U8 (w:World)(b:Nat)(x0 x1 x2 x3 x4:Value)(h:(w.cell? ⟨b,0,none⟩).isSome=true∧(w.cell? ⟨b,1,none⟩).isSome=true∧(w.cell? ⟨b,2,none⟩).isSome=true∧(w.cell? ⟨b,3,none⟩).isSome=true∧(w.cell? ⟨b,4,none⟩).isSome=true):(loadVar 36 ⟨b,0,none⟩).run prog (((((w.setCell ⟨b,0,none⟩ x0).setCell ⟨b,1,none⟩ x1).setCell ⟨b,2,none⟩ x2).setCell ⟨b,3,none⟩ x3).setCell ⟨b,4,none⟩ x4)=.ok (.agg #[x0,x1,x2,x3,x4]) (((((w.setCell ⟨b,0,none⟩ x0).setCell ⟨b,1,none⟩ x1).setCell ⟨b,2,none⟩ x2).setCell ⟨b,3,none⟩ x3).setCell ⟨b,4,none⟩ x4):=by
 obtain⟨g0,g1,g2,g3,g4⟩:=h;obtain⟨y0,g0⟩:=Option.isSome_iff_exists.1 g0;obtain⟨y1,g1⟩:=Option.isSome_iff_exists.1 g1;obtain⟨y2,g2⟩:=Option.isSome_iff_exists.1 g2;obtain⟨y3,g3⟩:=Option.isSome_iff_exists.1 g3;obtain⟨y4,g4⟩:=Option.isSome_iff_exists.1 g4;apply GF
 ·rw[Eb (by decide),Eb (by decide),Eb (by decide),Eb (by decide)]
  exact World.cell?_setCell_same _ _ _ g0
 ·rw[Eb (by decide),Eb (by decide),Eb (by decide)]
  exact World.cell?_setCell_same _ _ _ ((Eb (by decide)).trans g1)
 ·rw[Eb (by decide),Eb (by decide)]
  exact World.cell?_setCell_same _ _ _ ((Eb (by decide)).trans ((Eb (by decide)).trans g2))
 ·rw[Eb (by decide)]
  exact World.cell?_setCell_same _ _ _ ((Eb (by decide)).trans ((Eb (by decide)).trans ((Eb (by decide)).trans g3)))
 ·exact World.cell?_setCell_same _ _ _ ((Eb (by decide)).trans ((Eb (by decide)).trans ((Eb (by decide)).trans ((Eb (by decide)).trans g4))))
theorem Hd {B:Nat}{a w:World}(h:Below B a w){b:Nat}(hb:B<=b)(x0 x1 x2 x3 x4:Value):Below B a (((((w.setCell ⟨b,0,none⟩ x0).setCell ⟨b,1,none⟩ x1).setCell ⟨b,2,none⟩ x2).setCell ⟨b,3,none⟩ x3).setCell ⟨b,4,none⟩ x4):=
 ((((h.setCell (p:=⟨b,0,none⟩) hb x0).setCell (p:=⟨b,1,none⟩) hb x1).setCell (p:=⟨b,2,none⟩) hb x2).setCell (p:=⟨b,3,none⟩) hb x3).setCell (p:=⟨b,4,none⟩) hb x4
theorem G4 {R:Ending->World->Prop}{a:Act}{W:World}{v:Value}{b:Nat}(h2:a.tmps.getD 2 undef=.pointer (some ⟨b,0,none⟩)) (hd:a.defers=[]) (hl:(loadVar 36 ⟨b,0,none⟩).run prog W=.ok v W) (hR:R (.returned (.tuple #[v,a.tmps.getD 3 undef])) W):bodyPost prog Tryd.f35 R .ret a W:=by
 refine bodyPost_ret ?_ hd hR;rw[results_cell_tmp rfl,h2];have e:(asAddr (.pointer (some ⟨b,0,none⟩))).run prog W=.ok ⟨b,0,none⟩ W:=rfl;rw[e,Result.andThen_ok,hl,Result.andThen_ok]
theorem To.below {w w':World}{a:Addr}{b:List Int}{B:Nat}(h:To w a b)(k:Below B w w')(ha:a.block<B):To w' a b:=
 ⟨h.1,Nat.lt_of_lt_of_le h.2.1 k.size,fun j x hx=>(k.cell (p:=a.add j) (by rw[Ea];exact ha)).trans (h.2.2 j x hx)⟩
theorem To.set {w:World}{a:Addr}{b:List Int}{b0 j:Nat}{v:Value}(h:To w a b)(Ee:a.block≠b0):To (w.setCell ⟨b0,j,none⟩ v) a b:=
 ⟨h.1,by rw[World.size_setCell];exact h.2.1,fun i x hx=>(World.cell?_setCell_other _ _ _ _ (fun e=>Ee (by rw[←Ea a i,←e]))).trans (h.2.2 i x hx)⟩
theorem To.set5 {w:World}{a:Addr}{b:List Int}{b0:Nat}{x0 x1 x2 x3 x4:Value}(h:To w a b)(Ee:a.block≠b0):To (((((w.setCell ⟨b0,0,none⟩ x0).setCell ⟨b0,1,none⟩ x1).setCell ⟨b0,2,none⟩ x2).setCell ⟨b0,3,none⟩ x3).setCell ⟨b0,4,none⟩ x4) a b:=
 ((((h.set Ee).set Ee).set Ee).set Ee).set Ee
def RC (w:World)(b:Nat):Prop:=(w.cell? ⟨b,0,none⟩=some (.int .i64 0)∧w.cell? ⟨b,1,none⟩=some (.slice none 0 0)∧w.cell? ⟨b,2,none⟩=some (.string ⟨#[]⟩)∧w.cell? ⟨b,3,none⟩=some (.bool false)∧w.cell? ⟨b,4,none⟩=some (.string ⟨#[]⟩))∧w.frozen? ⟨b,0,none⟩=false∧w.frozen? ⟨b,1,none⟩=false∧w.frozen? ⟨b,2,none⟩=false∧w.frozen? ⟨b,3,none⟩=false∧w.frozen? ⟨b,4,none⟩=false
theorem RC.below {w w':World}{b B:Nat}(h:RC w b)(k:Below B w w')(hb:b<B):RC w' b:=by
 have e:∀j,w'.cell? ⟨b,j,none⟩=w.cell? ⟨b,j,none⟩:=fun j=>k.cell (p:=⟨b,j,none⟩) hb
 have f:∀j,w'.frozen? ⟨b,j,none⟩=w.frozen? ⟨b,j,none⟩:=fun j=>k.frozen (p:=⟨b,j,none⟩) hb
 unfold RC;rw[e,e,e,e,e,f,f,f,f,f];exact h
theorem RC.some {w:World}{b:Nat}(h:RC w b):(w.cell? ⟨b,0,none⟩).isSome=true∧(w.cell? ⟨b,1,none⟩).isSome=true∧(w.cell? ⟨b,2,none⟩).isSome=true∧(w.cell? ⟨b,3,none⟩).isSome=true∧(w.cell? ⟨b,4,none⟩).isSome=true:=by
 obtain⟨⟨h0,h1,h2,h3,h4⟩,_⟩:=h;rw[h0,h1,h2,h3,h4];exact⟨rfl,rfl,rfl,rfl,rfl⟩
theorem Aeq {w:World}{b:Nat}{v:Value}{x:Obj}(hb:b<w.heap.size)(h:∃x0 x1 x2 x3 x4,v=.agg #[x0,x1,x2,x3,x4]∧w.cell? ⟨b,0,none⟩=some x0∧w.cell? ⟨b,1,none⟩=some x1∧w.cell? ⟨b,2,none⟩=some x2∧w.cell? ⟨b,3,none⟩=some x3∧w.cell? ⟨b,4,none⟩=some x4):(loadVar 36 ⟨b,0,none⟩).run prog (w.alloc x)=.ok v (w.alloc x):=by
 obtain⟨x0,x1,x2,x3,x4,rfl,h0,h1,h2,h3,h4⟩:=h;have k:Below w.heap.size w (w.alloc x):=(Below.refl _ w).alloc (Nat.le_refl _) _;exact GF ((k.cell (p:=⟨b,0,none⟩) hb).trans h0) ((k.cell (p:=⟨b,1,none⟩) hb).trans h1) ((k.cell (p:=⟨b,2,none⟩) hb).trans h2) ((k.cell (p:=⟨b,3,none⟩) hb).trans h3) ((k.cell (p:=⟨b,4,none⟩) hb).trans h4)
theorem Kw (w:World)(b:Nat)(hb:b<w.heap.size)(x0 x1 x2 x3 x4:Value)(x:Obj)(h:RC w b):(loadVar 36 ⟨b,0,none⟩).run prog ((((((w.setCell ⟨b,0,none⟩ x0).setCell ⟨b,1,none⟩ x1).setCell ⟨b,2,none⟩ x2).setCell ⟨b,3,none⟩ x3).setCell ⟨b,4,none⟩ x4).alloc x)=.ok (.agg #[x0,x1,x2,x3,x4]) ((((((w.setCell ⟨b,0,none⟩ x0).setCell ⟨b,1,none⟩ x1).setCell ⟨b,2,none⟩ x2).setCell ⟨b,3,none⟩ x3).setCell ⟨b,4,none⟩ x4).alloc x):=by
 refine Aeq (by simp only[World.size_setCell];exact hb) ⟨x0,x1,x2,x3,x4,rfl,?_⟩
 obtain⟨⟨g0,g1,g2,g3,g4⟩,_⟩:=h;refine⟨?_,?_,?_,?_,?_⟩
 ·rw[Eb (by decide),Eb (by decide),Eb (by decide),Eb (by decide)]
  exact World.cell?_setCell_same _ _ _ g0
 ·rw[Eb (by decide),Eb (by decide),Eb (by decide)]
  exact World.cell?_setCell_same _ _ _ ((Eb (by decide)).trans g1)
 ·rw[Eb (by decide),Eb (by decide)]
  exact World.cell?_setCell_same _ _ _ ((Eb (by decide)).trans ((Eb (by decide)).trans g2))
 ·rw[Eb (by decide)]
  exact World.cell?_setCell_same _ _ _ ((Eb (by decide)).trans ((Eb (by decide)).trans ((Eb (by decide)).trans g3)))
 ·exact World.cell?_setCell_same _ _ _ ((Eb (by decide)).trans ((Eb (by decide)).trans ((Eb (by decide)).trans ((Eb (by decide)).trans g4))))
theorem F5 {B:Nat}{a w:World}(h:Below B a w){b:Nat}(hb:B<=b)(hB:B<=w.heap.size)(x0 x1 x2 x3 x4:Value)(x:Obj):Below B a ((((((w.setCell ⟨b,0,none⟩ x0).setCell ⟨b,1,none⟩ x1).setCell ⟨b,2,none⟩ x2).setCell ⟨b,3,none⟩ x3).setCell ⟨b,4,none⟩ x4).alloc x):=
 have k:=Hd h hb x0 x1 x2 x3 x4
 k.alloc (by simp only[World.size_setCell];exact hB) _
theorem To.set5al {w:World}{a:Addr}{b:List Int}{b0:Nat}{x0 x1 x2 x3 x4:Value}{x:Obj}(h:To w a b)(Ee:a.block≠b0):To ((((((w.setCell ⟨b0,0,none⟩ x0).setCell ⟨b0,1,none⟩ x1).setCell ⟨b0,2,none⟩ x2).setCell ⟨b0,3,none⟩ x3).setCell ⟨b0,4,none⟩ x4).alloc x) a b:=
 have q:=h.set5 (x0:=x0) (x1:=x1) (x2:=x2) (x3:=x3) (x4:=x4) Ee
 q.below ((Below.refl _ _).alloc (Nat.le_refl _) _) q.2.1
theorem al1 (w:World)(x:Obj):(w.alloc x).heap[w.heap.size]?=some x:=Array.getElem?_push_size
def okW (w:World):Prop:=gU.ok w∧∀k,gU.bl k->k<w.heap.size
theorem okW.below {w w':World}(h:okW w)(k:Below w.heap.size w w'):okW w':=⟨gU.stable w w' (fun j hj hl=>k.block j hl) h.1,fun j hj=>Nat.lt_of_lt_of_le (h.2 j hj) k.size⟩
set_option maxHeartbeats 8000000 in
theorem Ad3 (Art:∀(W:World)(s:List Int),okW W->Dq s->s.length<=1000000->Calls prog 15 #[.string (Ac s)] W fun e w'=>Below W.heap.size W w'∧DbP W w' s e)
  (Ad8:∀(W:World)(s:List Int),okW W->Dq s->s.length<=1000000->Calls prog 32 #[.string (Ac s)] W fun e w'=>Below W.heap.size W w'∧∃o1 o2 o3,e=.returned (.tuple #[.agg #[.bool o1,.string o2,.int .i64 o3],.int .i64 (F2 s)]))
  {ms:List (List Int × JV)} (hB:∀m∈ms,Dq m.1) (hB2:∀m∈ms,Dq m.2.2.1∧m.2.2.1.length<=1000000) {mb:Nat} {w:World} (hU:okW w) (hM:AD w mb ms):
  Calls prog 35 #[.map (some mb)] w fun e w'=>Below w.heap.size w w'∧ItP w w' (He (Cf Oo ms) (Cf Va ms) (Cf nmO ms) (Cf nmX ms) (Cf nmP ms)) e:=by
 have hgB:∀nm,Dq (Cf nm ms).2.1∧(Cf nm ms).2.1.length<=1000000:=by
  intro nm;unfold Cf Js;cases hq:ms.find? fun m=>m.1==nm with
  |none=>exact⟨(fun x hx=>nomatch hx),Nat.zero_le _⟩
  |some m=>exact hB2 m (List.mem_of_find?_eq_some hq)
 obtain⟨hTB,hTL⟩:=hgB Oo;obtain⟨hCB,hCL⟩:=hgB Va;obtain⟨hOB,hOL⟩:=hgB nmO;obtain⟨hXB,hXL⟩:=hgB nmX;obtain⟨hPB,hPL⟩:=hgB nmP;clear hgB;have mixed:prog.follows Departure.mixedOrders=true:=by kernel_rfl
 have key:∀{W:World},AD W mb ms->(Instr.lookup 68 (.map (some mb)) (.string ⟨#[116,121,112,101]⟩) false).run prog W=.ok (.agg #[.int .i64 (Cf Oo ms).1,.string (Ac (Cf Oo ms).2.1),.bool (Cf Oo ms).2.2]) W∧(Instr.lookup 68 (.map (some mb)) (.string ⟨#[99,104,97,108,108,101,110,103,101]⟩) false).run prog W=.ok (.agg #[.int .i64 (Cf Va ms).1,.string (Ac (Cf Va ms).2.1),.bool (Cf Va ms).2.2]) W∧(Instr.lookup 68 (.map (some mb)) (.string ⟨#[111,114,105,103,105,110]⟩) false).run prog W=.ok (.agg #[.int .i64 (Cf nmO ms).1,.string (Ac (Cf nmO ms).2.1),.bool (Cf nmO ms).2.2]) W:=
  fun h=>⟨Zl h hB (nm:=Oo) (fun x hx=>by simp[Oo] at hx;omega),Zl h hB (nm:=Va) (fun x hx=>by simp[Va] at hx;omega),Zl h hB (nm:=nmO) (fun x hx=>by simp[nmO] at hx;omega)⟩
 have key2:∀{W:World},AD W mb ms->(Instr.lookup 68 (.map (some mb)) (.string ⟨#[99,114,111,115,115,79,114,105,103,105,110]⟩) false).run prog W=.ok (.agg #[.int .i64 (Cf nmX ms).1,.string (Ac (Cf nmX ms).2.1),.bool (Cf nmX ms).2.2]) W∧(Instr.lookup 68 (.map (some mb)) (.string ⟨#[116,111,112,79,114,105,103,105,110]⟩) false).run prog W=.ok (.agg #[.int .i64 (Cf nmP ms).1,.string (Ac (Cf nmP ms).2.1),.bool (Cf nmP ms).2.2]) W:=
  fun h=>⟨Zl h hB (nm:=nmX) (fun x hx=>by simp[nmX] at hx;omega),Zl h hB (nm:=nmP) (fun x hx=>by simp[nmP] at hx;omega)⟩
 have b0:Below w.heap.size w (w.alloc (.cells #[.int .i64 0,.slice none 0 0,.string ⟨#[]⟩,.bool false,.string ⟨#[]⟩] 36)):=(Below.refl _ w).alloc (Nat.le_refl _) _;have b1:=b0.alloc b0.size (.cells #[.int .i64 0,.string ⟨#[]⟩,.bool false] 95);have b2:=b1.alloc b1.size (.cells #[.int .i64 0,.string ⟨#[]⟩,.bool false] 95);have b3:=b2.alloc b2.size (.cells #[.int .i64 0,.string ⟨#[]⟩,.bool false] 95);obtain⟨k0,k1,k2⟩:=key (hM.below b0.drew);obtain⟨l0,l1,l2⟩:=key (hM.below b1.drew);obtain⟨m0,m1,m2⟩:=key (hM.below b2.drew);obtain⟨n0,n1,n2⟩:=key (hM.below b3.drew)
 have bb:∀x1 x2 x3,Below w.heap.size w ((((w.alloc (.cells #[.int .i64 0,.slice none 0 0,.string ⟨#[]⟩,.bool false,.string ⟨#[]⟩] 36)).alloc x1).alloc x2).alloc x3).drew:=fun x1 x2 x3=>by
  have c1:=b0.alloc b0.size x1;have c2:=c1.alloc c1.size x2;exact (c2.alloc c2.size x3).drew
 obtain⟨_,p1,q1⟩:=key (hM.below (bb (.cells #[.int .i64 (Cf Oo ms).1,.string (Ac (Cf Oo ms).2.1),.bool (Cf Oo ms).2.2] 95) (.cells #[.int .i64 0,.string ⟨#[]⟩,.bool false] 95) (.cells #[.int .i64 0,.string ⟨#[]⟩,.bool false] 95)));obtain⟨_,p2,q2⟩:=key (hM.below (bb (.cells #[.int .i64 0,.string ⟨#[]⟩,.bool false] 95) (.cells #[.int .i64 (Cf Oo ms).1,.string (Ac (Cf Oo ms).2.1),.bool (Cf Oo ms).2.2] 95) (.cells #[.int .i64 0,.string ⟨#[]⟩,.bool false] 95)));obtain⟨_,p3,q3⟩:=key (hM.below (bb (.cells #[.int .i64 0,.string ⟨#[]⟩,.bool false] 95) (.cells #[.int .i64 0,.string ⟨#[]⟩,.bool false] 95) (.cells #[.int .i64 (Cf Oo ms).1,.string (Ac (Cf Oo ms).2.1),.bool (Cf Oo ms).2.2] 95)))
 obtain⟨_,_,q4⟩:=key (hM.below (bb (.cells #[.int .i64 (Cf Oo ms).1,.string (Ac (Cf Oo ms).2.1),.bool (Cf Oo ms).2.2] 95) (.cells #[.int .i64 (Cf Va ms).1,.string (Ac (Cf Va ms).2.1),.bool (Cf Va ms).2.2] 95) (.cells #[.int .i64 0,.string ⟨#[]⟩,.bool false] 95)));obtain⟨_,_,q5⟩:=key (hM.below (bb (.cells #[.int .i64 (Cf Oo ms).1,.string (Ac (Cf Oo ms).2.1),.bool (Cf Oo ms).2.2] 95) (.cells #[.int .i64 0,.string ⟨#[]⟩,.bool false] 95) (.cells #[.int .i64 (Cf Va ms).1,.string (Ac (Cf Va ms).2.1),.bool (Cf Va ms).2.2] 95)));obtain⟨_,_,q6⟩:=key (hM.below (bb (.cells #[.int .i64 (Cf Va ms).1,.string (Ac (Cf Va ms).2.1),.bool (Cf Va ms).2.2] 95) (.cells #[.int .i64 (Cf Oo ms).1,.string (Ac (Cf Oo ms).2.1),.bool (Cf Oo ms).2.2] 95) (.cells #[.int .i64 0,.string ⟨#[]⟩,.bool false] 95)))
 obtain⟨_,_,q7⟩:=key (hM.below (bb (.cells #[.int .i64 (Cf Va ms).1,.string (Ac (Cf Va ms).2.1),.bool (Cf Va ms).2.2] 95) (.cells #[.int .i64 0,.string ⟨#[]⟩,.bool false] 95) (.cells #[.int .i64 (Cf Oo ms).1,.string (Ac (Cf Oo ms).2.1),.bool (Cf Oo ms).2.2] 95)));obtain⟨_,_,q8⟩:=key (hM.below (bb (.cells #[.int .i64 0,.string ⟨#[]⟩,.bool false] 95) (.cells #[.int .i64 (Cf Oo ms).1,.string (Ac (Cf Oo ms).2.1),.bool (Cf Oo ms).2.2] 95) (.cells #[.int .i64 (Cf Va ms).1,.string (Ac (Cf Va ms).2.1),.bool (Cf Va ms).2.2] 95)));obtain⟨_,_,q9⟩:=key (hM.below (bb (.cells #[.int .i64 0,.string ⟨#[]⟩,.bool false] 95) (.cells #[.int .i64 (Cf Va ms).1,.string (Ac (Cf Va ms).2.1),.bool (Cf Va ms).2.2] 95) (.cells #[.int .i64 (Cf Oo ms).1,.string (Ac (Cf Oo ms).2.1),.bool (Cf Oo ms).2.2] 95)))
 have TU:∀x1 x2 x3,Below w.heap.size w ((((w.alloc cd0).alloc x1).alloc x2).alloc x3).drew:=bb;clear key bb;generalize Cf Oo ms=vT at *
 generalize Cf Va ms=vC at *
 generalize Cf nmO ms=vO at *
 generalize Cf nmX ms=vX at *
 generalize Cf nmP ms=vP at *
 go_enter Tryd.func35,Tryd.ntmps35
 go_upto_region 1 with fail
 go_cut [4,5,6] (fun s4 s5 s6 wx=>Axt w vT vC vO s4 s5 s6 wx)
 case first=>
  go_region_o
  all_goals (go_wp2_with fail;go_meet;(refine⟨_,_,_,rfl,rfl,rfl,by omega,by omega,by omega,?_,?_,?_,?_,TU _ _ _⟩<;>first|exact (al4 _ _ _ _ _).1|exact (al4 _ _ _ _ _).2.1|exact (al4 _ _ _ _ _).2.2.1|exact (al4 _ _ _ _ _).2.2.2))
 case rest=>
  rename World=>w2
  obtain⟨bT,bC,bO,rfl,rfl,rfl,hbT,hbC,hbO,hc,hT,hC,hO,hbw⟩:=Akd;clear k0 k1 k2 l0 l1 l2 m0 m1 m2 n0 n1 n2 p1 p2 p3 q1 q2 q3 q4 q5 q6 q7 q8 q9;have hMc:=hM.below hbw;have d1:Below w2.heap.size w2 (w2.alloc (.cells #[.int .i64 0,.string ⟨#[]⟩,.bool false] 95)):=(Below.refl _ w2).alloc (Nat.le_refl _) _;have d2:=d1.alloc d1.size (.cells #[.int .i64 0,.string ⟨#[]⟩,.bool false] 95)
  have dd:∀x1 x2,Below w2.heap.size w2 ((w2.alloc x1).alloc x2).drew:=fun x1 x2=>by
   have c1:Below w2.heap.size w2 (w2.alloc x1):=(Below.refl _ w2).alloc (Nat.le_refl _) _;exact (c1.alloc c1.size x2).drew
  obtain⟨k0,k1⟩:=key2 (hMc.below (Below.refl w2.heap.size w2).drew);obtain⟨l0,l1⟩:=key2 (hMc.below d1.drew);obtain⟨m0,m1⟩:=key2 (hMc.below d2.drew);obtain⟨_,p1⟩:=key2 (hMc.below (dd (.cells #[.int .i64 vX.1,.string (Ac vX.2.1),.bool vX.2.2] 95) (.cells #[.int .i64 0,.string ⟨#[]⟩,.bool false] 95)));obtain⟨_,p2⟩:=key2 (hMc.below (dd (.cells #[.int .i64 0,.string ⟨#[]⟩,.bool false] 95) (.cells #[.int .i64 vX.1,.string (Ac vX.2.1),.bool vX.2.2] 95)));clear key2
  go_upto_region 2 with fail
  go_cut [7,8] (fun s7 s8 wx=>Az3 w w2 vX vP s7 s8 wx)
  case first=>
   go_region_o
   all_goals (go_wp2_with fail;go_meet;(refine⟨_,_,rfl,rfl,by omega,by omega,?_,?_,dd _ _⟩<;>first|exact (al2 _ _ _).1|exact (al2 _ _ _).2))
  case rest=>
   clear k0 k1 l0 l1 m0 m1 p1 p2;obtain⟨bX,bP,rfl,rfl,hbX,hbP,hX,hP,MW⟩:=Akd
   rename World=>wd
   have hwc:w.heap.size<w2.heap.size:=by
    rcases Nat.lt_or_ge w.heap.size w2.heap.size with q|q
    ·exact q
    ·rw[Array.getElem?_eq_none q] at hc;cases hc
   have B4:∀{b:Nat} {o:Obj},w2.heap[b]?=some o->b<w2.heap.size:=fun {b o} h=>by
    rcases Nat.lt_or_ge b w2.heap.size with q|q
    ·exact q
    ·rw[Array.getElem?_eq_none q] at h;cases h
   obtain⟨⟨c0,c1,c2,c3,c4⟩,f0,f1,f2,f3,f4⟩:=Aa8 ((MW.block _ (B4 hc)).trans hc);have hrc:RC wd w.heap.size:=⟨⟨c0,c1,c2,c3,c4⟩,f0,f1,f2,f3,f4⟩;have XU:=hrc.some;obtain⟨T0,T1,T2⟩:=Yf ((MW.block _ (B4 hT)).trans hT);obtain⟨C0,C1,C2⟩:=Yf ((MW.block _ (B4 hC)).trans hC);obtain⟨O0,O1,O2⟩:=Yf ((MW.block _ (B4 hO)).trans hO);obtain⟨X0,X1,X2⟩:=Yf hX;obtain⟨P0,P1,P2⟩:=Yf hP;have hbd:Below w.heap.size w wd:=hbw.trans ((MW).mono hbw.size);by_cases hT4:vT.1=4
   rotate_left
   ·have hq:(vT.1 != 4)=true:=by simp[hT4]
    have hI:He vT vC vO vX vP=.error 4:=by unfold He;rw[E7 (.inl hT4)]
    go_wp2
    (try simp only[Exit.inBlock,Exit.then])
    exact G4 (b:=w.heap.size) rfl rfl (U8 wd w.heap.size _ _ _ _ _ XU) ⟨Hd hbd (Nat.le_refl _) _ _ _ _ _,by rw[hI];exact⟨by decide,rfl⟩⟩
   by_cases hC4:vC.1=4
   rotate_left
   ·have hq:(vC.1 != 4)=true:=by simp[hC4]
    have hI:He vT vC vO vX vP=.error 4:=by unfold He;rw[E7 (.inr (.inl hC4))]
    go_wp2
    (try simp only[Exit.inBlock,Exit.then])
    exact G4 (b:=w.heap.size) rfl rfl (U8 wd w.heap.size _ _ _ _ _ XU) ⟨Hd hbd (Nat.le_refl _) _ _ _ _ _,by rw[hI];exact⟨by decide,rfl⟩⟩
   by_cases hO4:vO.1=4
   rotate_left
   ·have hq:(vO.1 != 4)=true:=by simp[hO4]
    have hI:He vT vC vO vX vP=.error 4:=by unfold He;rw[E7 (.inr (.inr hO4))]
    go_wp2
    (try simp only[Exit.inBlock,Exit.then])
    exact G4 (b:=w.heap.size) rfl rfl (U8 wd w.heap.size _ _ _ _ _ XU) ⟨Hd hbd (Nat.le_refl _) _ _ _ _ _,by rw[hI];exact⟨by decide,rfl⟩⟩
   have Xp:He vT vC vO vX vP=if vX.1≠0∧vX.1≠2 then .error 4
    else if (vX.2.2=true∧vP.1≠4)∨(vX.2.2=false∧vP.1≠0) then .error 4
    else if vT.2.1=tyC then Wx 1 vC vO vX vP else if vT.2.1=tyG then Wx 2 vC vO vX vP else .error 3:=by
    unfold He;rw[Dz (by rintro (h|h|h)<;>first|exact h hT4|exact h hC4|exact h hO4)]
   go_upto_region 5 with fail
   go_cut [47] (fun s47 wx=>∃q:Bool,s47=.bool q∧(q=true↔(vX.1≠0∧vX.1≠2))∧wx=wd)
   case first=>
    by_cases h0:vX.1=0
    ·have h1:(vX.1 != 0)=false:=by simp[h0]
     go_wp2_with fail
     go_meet
     exact⟨false,rfl,by simp[h0],rfl⟩
    ·have h1:(vX.1 != 0)=true:=by simp[h0]
     by_cases h2:vX.1=2
     ·have h3:(vX.1 != 2)=false:=by simp[h2]
      go_wp2_with fail
      go_meet
      exact⟨false,rfl,by simp[h2],rfl⟩
     ·have h3:(vX.1 != 2)=true:=by simp[h2]
      go_wp2_with fail
      go_meet
      exact⟨true,rfl,by simp[h0,h2],rfl⟩
   case rest=>
    obtain⟨q5,rfl,hq5,hwe⟩:=Akd;subst hwe;cases q5 with
    |true=>
     have hx1:=hq5.1 rfl;have hI:He vT vC vO vX vP=.error 4:=by rw[Xp,E7 hx1]
     go_wp2
     (try simp only[Exit.inBlock,Exit.then])
     exact G4 (b:=w.heap.size) rfl rfl (U8 wc w.heap.size _ _ _ _ _ XU) ⟨Hd hbd (Nat.le_refl _) _ _ _ _ _,by rw[hI];exact⟨by decide,rfl⟩⟩
    |false=>
     have hx1:¬(vX.1≠0∧vX.1≠2):=fun h=>Bool.noConfusion (hq5.2 h)
     rw[Dz hx1] at Xp
     go_upto_region 7 with fail
     go_cut [65] (fun s65 wx=>∃q:Bool,s65=.bool q∧(q=true↔((vX.2.2=true∧vP.1≠4)∨(vX.2.2=false∧vP.1≠0)))∧wx=wc)
     case first=>
      cases DS:vX.2.2 with
      |true=>
       rw[DS] at X2;by_cases h4:vP.1=4
       ·have h1:(vP.1 != 4)=false:=by simp[h4]
        go_wp2_with fail
        go_meet
        exact⟨false,rfl,by simp[h4,DS],rfl⟩
       ·have h1:(vP.1 != 4)=true:=by simp[h4]
        go_wp2_with fail
        go_meet
        exact⟨true,rfl,by simp[h4,DS],rfl⟩
      |false=>
       rw[DS] at X2;by_cases h4:vP.1=0
       ·have h1:(vP.1 != 0)=false:=by simp[h4]
        go_wp2_with fail
        go_meet
        exact⟨false,rfl,by simp[h4,DS],rfl⟩
       ·have h1:(vP.1 != 0)=true:=by simp[h4]
        go_wp2_with fail
        go_meet
        exact⟨true,rfl,by simp[h4,DS],rfl⟩
     case rest=>
      obtain⟨q7,rfl,hq7,hwe⟩:=Akd;subst hwe;cases q7 with
      |true=>
       have Oq:=hq7.1 rfl;have hI:He vT vC vO vX vP=.error 4:=by rw[Xp,E7 Oq]
       go_wp2
       (try simp only[Exit.inBlock,Exit.then])
       exact G4 (b:=w.heap.size) rfl rfl (U8 wc w.heap.size _ _ _ _ _ XU) ⟨Hd hbd (Nat.le_refl _) _ _ _ _ _,by rw[hI];exact⟨by decide,rfl⟩⟩
      |false=>
       have Oq:¬((vX.2.2=true∧vP.1≠4)∨(vX.2.2=false∧vP.1≠0)):=fun h=>Bool.noConfusion (hq7.2 h)
       rw[Dz Oq] at Xp;clear hq5 hq7 hx1 Oq;have hwd:w.heap.size<wc.heap.size:=Nat.lt_of_lt_of_le hwc MW.size;have A8t:bT<wc.heap.size:=Nat.lt_of_lt_of_le (B4 hT) MW.size;have A67:bC<wc.heap.size:=Nat.lt_of_lt_of_le (B4 hC) MW.size;have hbC:((Ac vT.2.1).toList==[112,97,115,115,107,101,121,46,99,114,101,97,116,101])=decide (vT.2.1=tyC):=AF hTB (b:=tyC) (fun x hx=>by simp[tyC] at hx;omega)
       have hbG:((Ac vT.2.1).toList==[112,97,115,115,107,101,121,46,103,101,116])=decide (vT.2.1=tyG):=AF hTB (b:=tyG) (fun x hx=>by simp[tyG] at hx;omega)
       by_cases hTc:vT.2.1=tyC
       rotate_left
       ·rw[decide_eq_false hTc] at hbC;rw[Dz hTc] at Xp;by_cases hTg:vT.2.1=tyG
        rotate_left
        ·rw[decide_eq_false hTg] at hbG;have hI:He vT vC vO vX vP=.error 3:=by rw[Xp,Dz hTg]
         go_wp2
         (try simp only[Exit.inBlock,Exit.then])
         exact G4 (b:=w.heap.size) rfl rfl (Kw wc w.heap.size hwd _ _ _ _ _ _ hrc) ⟨F5 hbd (Nat.le_refl _) hbd.size _ _ _ _ _ _,by rw[hI];exact⟨by decide,rfl⟩⟩
        ·rw[decide_eq_true hTg] at hbG;rw[E7 hTg] at Xp;clear hTg hTc;have hbA:=hbd.alloc hbd.size (.cells #[.int .i64 2,.slice none 0 0,.string (Ac vO.2.1),.bool vX.2.2,.string (Ac vP.2.1)] 36);have hsA:(wc.alloc (.cells #[.int .i64 2,.slice none 0 0,.string (Ac vO.2.1),.bool vX.2.2,.string (Ac vP.2.1)] 36)).heap.size=wc.heap.size+1:=Array.size_push _;have hkA:=al1 wc (.cells #[.int .i64 2,.slice none 0 0,.string (Ac vO.2.1),.bool vX.2.2,.string (Ac vP.2.1)] 36);have hrA:=hrc.below ((Below.refl wc.heap.size wc).alloc (Nat.le_refl _) (.cells #[.int .i64 2,.slice none 0 0,.string (Ac vO.2.1),.bool vX.2.2,.string (Ac vP.2.1)] 36)) hwd
         go_wp2_with (go_at_call 15;refine (Art _ vC.2.1 (hU.below hbA) hCB hCL).mono ?_)
         rintro e W3 ⟨Rg,GC⟩
         have Tc:Below w.heap.size w W3:=hbA.trans (Rg.mono hbA.size);have SY:=hrA.below Rg (by rw[hsA];omega)
         have hm3:=SY.some;obtain⟨⟨r30,r31,r32,r33,r34⟩,s30,s31,s32,s33,s34⟩:=SY;have JT:wc.heap.size+1<=W3.heap.size:=by have:=Rg.size;rw[hsA] at this;exact this
         have I2:=(Rg.block _ (by rw[hsA];omega)).trans hkA
         obtain⟨⟨k0,k1,k2,k3,k4⟩,kf0,kf1,kf2,kf3,kf4⟩:=Abw I2;unfold DbP at GC;cases VT:Nc vC.2.1 with
         |none=>
          rw[VT] at GC;obtain⟨ad,capN,rfl⟩:=GC;have hI:He vT vC vO vX vP=.error 2:=by rw[Xp];unfold Wx;rw[VT]
          go_wp2
          (try simp only[Exit.inBlock,Exit.then])
          exact G4 (b:=w.heap.size) rfl rfl (U8 W3 w.heap.size _ _ _ _ _ hm3) ⟨Hd Tc (Nat.le_refl _) _ _ _ _ _,by rw[hI];exact⟨by decide,rfl⟩⟩
         |some b=>
          rw[VT] at GC;obtain⟨ad,cap,rfl,Nt⟩:=GC;by_cases Ec:b.length<1
          ·have hI:He vT vC vO vX vP=.error 9:=by rw[Xp];unfold Wx;rw[VT];simp only;rw[E7 (.inl Ec)]
           have Q0:(b.length:Int)<1:=by omega
           go_wp2
           (try simp only[Exit.inBlock,Exit.then])
           exact G4 (b:=w.heap.size) rfl rfl (U8 W3 w.heap.size _ _ _ _ _ hm3) ⟨Hd Tc (Nat.le_refl _) _ _ _ _ _,by rw[hI];exact⟨by decide,rfl⟩⟩
          by_cases Gw:64<b.length
          ·have hI:He vT vC vO vX vP=.error 9:=by rw[Xp];unfold Wx;rw[VT];simp only;rw[E7 (.inr Gw)]
           have Q0:¬(b.length:Int)<1:=by omega
           have J5:(b.length:Int)>64:=by omega
           go_wp2
           (try simp only[Exit.inBlock,Exit.then])
           exact G4 (b:=w.heap.size) rfl rfl (U8 W3 w.heap.size _ _ _ _ _ hm3) ⟨Hd Tc (Nat.le_refl _) _ _ _ _ _,by rw[hI];exact⟨by decide,rfl⟩⟩
          have Q0:¬(b.length:Int)<1:=by omega
          have J5:¬(b.length:Int)>64:=by omega
          obtain⟨a,rfl,hac,haw,hla⟩:=Nt (by rintro rfl;exact Ec (by decide))
          have Ay5:wc.heap.size+1<=a.block:=by rw[hsA] at haw;exact haw
          have OZ:He vT vC vO vX vP=if F2 vO.2.1≠0 then .error (F2 vO.2.1) else if vX.2.2=true∧F2 vP.2.1≠0 then .error (F2 vP.2.1) else .ok (2,b,vO.2.1,vX.2.2,vP.2.1):=by
           rw[Xp];unfold Wx;rw[VT];simp only;rw[Dz (by omega)]
          have Wz:Below w.heap.size w (W3.setCell ⟨wc.heap.size,1,none⟩ (.slice (some a) b.length cap)):=Tc.setCell (p:=⟨wc.heap.size,1,none⟩) (Nat.le_of_lt hwd) _;have Amb:Below wc.heap.size W3 (W3.setCell ⟨wc.heap.size,1,none⟩ (.slice (some a) b.length cap)):=(Below.refl wc.heap.size W3).setCell (p:=⟨wc.heap.size,1,none⟩) (Nat.le_refl _) _;have JS:=(show RC W3 w.heap.size from ⟨⟨r30,r31,r32,r33,r34⟩,s30,s31,s32,s33,s34⟩).below Amb hwd
          have Akt:=hla.set (b0:=wc.heap.size) (j:=1) (v:=.slice (some a) b.length cap) (by omega)
          have IV:(W3.setCell ⟨wc.heap.size,1,none⟩ (.slice (some a) b.length cap)).heap.size=W3.heap.size:=World.size_setCell ..;have j0:(W3.setCell ⟨wc.heap.size,1,none⟩ (.slice (some a) b.length cap)).cell? ⟨wc.heap.size,0,none⟩=some (.int .i64 2):=(Eb (by decide)).trans k0
          have j1:(W3.setCell ⟨wc.heap.size,1,none⟩ (.slice (some a) b.length cap)).cell? ⟨wc.heap.size,1,none⟩=some (.slice (some a) b.length cap):=World.cell?_setCell_same _ _ _ k1;have j2:(W3.setCell ⟨wc.heap.size,1,none⟩ (.slice (some a) b.length cap)).cell? ⟨wc.heap.size,2,none⟩=some (.string (Ac vO.2.1)):=(Eb (by decide)).trans k2
          have j3:(W3.setCell ⟨wc.heap.size,1,none⟩ (.slice (some a) b.length cap)).cell? ⟨wc.heap.size,3,none⟩=some (.bool vX.2.2):=(Eb (by decide)).trans k3
          have j4:(W3.setCell ⟨wc.heap.size,1,none⟩ (.slice (some a) b.length cap)).cell? ⟨wc.heap.size,4,none⟩=some (.string (Ac vP.2.1)):=(Eb (by decide)).trans k4
          go_wp2_with (go_at_call 32;refine (Ad8 _ vO.2.1 (hU.below Wz) hOB hOL).mono ?_)
          rintro e W5 ⟨JH,o1,o2,o3,rfl⟩
          have hs5:W3.heap.size<=W5.heap.size:=by have:=JH.size;rw[IV] at this;exact this
          have Uk:Below w.heap.size w W5:=Wz.trans (JH.mono Wz.size);have hr5:=JS.below JH (by rw[IV];omega)
          have Aji:=hr5;obtain⟨⟨r50,r51,r52,r53,r54⟩,s50,s51,s52,s53,s54⟩:=Aji;have hw5:w.heap.size<W5.heap.size:=by omega
          have hc5:wc.heap.size<W5.heap.size:=by omega
          have OK:=Akt.below JH (by rw[IV];exact hla.2.1)
          have J4:wc.heap.size<(W3.setCell ⟨wc.heap.size,1,none⟩ (.slice (some a) b.length cap)).heap.size:=by rw[IV];omega
          have i0:=(JH.cell (p:=⟨wc.heap.size,0,none⟩) J4).trans j0;have i1:=(JH.cell (p:=⟨wc.heap.size,1,none⟩) J4).trans j1;have i2:=(JH.cell (p:=⟨wc.heap.size,2,none⟩) J4).trans j2;have i3:=(JH.cell (p:=⟨wc.heap.size,3,none⟩) J4).trans j3;have i4:=(JH.cell (p:=⟨wc.heap.size,4,none⟩) J4).trans j4;have hbL:=(Below.refl W5.heap.size W5).alloc (Nat.le_refl _) (.cells #[.bool o1,.string o2,.int .i64 o3] 65);have RH:Below w.heap.size w (W5.alloc (.cells #[.bool o1,.string o2,.int .i64 o3] 65)):=Uk.alloc Uk.size _;by_cases ho:F2 vO.2.1=0
          rotate_left
          ·have hoB:(F2 vO.2.1 != 0)=true:=by simp[ho]
           have hI:He vT vC vO vX vP=.error (F2 vO.2.1):=by rw[OZ,E7 ho]
           go_wp2
           (try simp only[Exit.inBlock,Exit.then])
           exact G4 (b:=w.heap.size) rfl rfl (Kw W5 w.heap.size hw5 _ _ _ _ _ _ hr5) ⟨F5 Uk (Nat.le_refl _) Uk.size _ _ _ _ _ _,by rw[hI];exact⟨ho,rfl⟩⟩
          have hoB:(F2 vO.2.1 != 0)=false:=by simp[ho]
          rw[Dz (by simp[ho])] at OZ
          have Abg:=OK.below hbL (by have:=OK.2.1;exact this)
          cases DS:vX.2.2 with
          |false=>
           rw[DS] at i3;have hI:He vT vC vO vX vP=.ok (2,b,vO.2.1,false,vP.2.1):=by rw[OZ,Dz (by simp[DS]),DS]
           go_wp2
           (try simp only[Exit.inBlock,Exit.then])
           exact G4 (b:=w.heap.size) rfl rfl (Kw W5 w.heap.size hw5 _ _ _ _ _ _ hr5) ⟨F5 Uk (Nat.le_refl _) Uk.size _ _ _ _ _ _,by rw[hI];exact⟨a,cap,rfl,hac,by omega,OK.set5al (by omega)⟩⟩
          |true=>
           rw[DS] at i3
           go_wp2_with (go_at_call 32;refine (Ad8 _ vP.2.1 (hU.below RH) hPB hPL).mono ?_)
           rintro e W7 ⟨hb7,p1,p2,p3,rfl⟩
           have hsL:(W5.alloc (.cells #[.bool o1,.string o2,.int .i64 o3] 65)).heap.size=W5.heap.size+1:=Array.size_push _;have Vj:Below w.heap.size w W7:=RH.trans (hb7.mono RH.size);have hr7:=(hr5.below hbL hw5).below hb7 (by rw[hsL];omega)
           have Am6:=hr7;obtain⟨⟨r70,r71,r72,r73,r74⟩,s70,s71,s72,s73,s74⟩:=Am6;have ON:=Abg.below hb7 (by have:=Abg.2.1;exact this)
           have Vh:=(hbL.trans (hb7.mono hbL.size));have l0:=(Vh.cell (p:=⟨wc.heap.size,0,none⟩) (show wc.heap.size<W5.heap.size by omega)).trans i0
           have l1:=(Vh.cell (p:=⟨wc.heap.size,1,none⟩) (show wc.heap.size<W5.heap.size by omega)).trans i1
           have l2:=(Vh.cell (p:=⟨wc.heap.size,2,none⟩) (show wc.heap.size<W5.heap.size by omega)).trans i2
           have l3:=(Vh.cell (p:=⟨wc.heap.size,3,none⟩) (show wc.heap.size<W5.heap.size by omega)).trans i3
           have l4:=(Vh.cell (p:=⟨wc.heap.size,4,none⟩) (show wc.heap.size<W5.heap.size by omega)).trans i4
           have hs7:=Vh.size;have hw7:w.heap.size<W7.heap.size:=by omega
           have hc7:wc.heap.size<W7.heap.size:=by omega
           have hbM:=(Below.refl W7.heap.size W7).alloc (Nat.le_refl _) (.cells #[.bool p1,.string p2,.int .i64 p3] 65);have A2n:Below w.heap.size w (W7.alloc (.cells #[.bool p1,.string p2,.int .i64 p3] 65)):=Vj.alloc Vj.size _;by_cases hp:F2 vP.2.1=0
           rotate_left
           ·have hoB:(F2 vP.2.1 != 0)=true:=by simp[hp]
            have hI:He vT vC vO vX vP=.error (F2 vP.2.1):=by rw[OZ,E7 ⟨DS,hp⟩]
            go_wp2
            (try simp only[Exit.inBlock,Exit.then])
            exact G4 (b:=w.heap.size) rfl rfl (Kw W7 w.heap.size hw7 _ _ _ _ _ _ hr7) ⟨F5 Vj (Nat.le_refl _) Vj.size _ _ _ _ _ _,by rw[hI];exact⟨hp,rfl⟩⟩
           have hpB:(F2 vP.2.1 != 0)=false:=by simp[hp]
           have Awy:=ON.below hbM (by have:=ON.2.1;exact this)
           have hI:He vT vC vO vX vP=.ok (2,b,vO.2.1,true,vP.2.1):=by rw[OZ,Dz (by simp[hp]),DS]
           go_wp2
           (try simp only[Exit.inBlock,Exit.then])
           exact G4 (b:=w.heap.size) rfl rfl (Kw W7 w.heap.size hw7 _ _ _ _ _ _ hr7) ⟨F5 Vj (Nat.le_refl _) Vj.size _ _ _ _ _ _,by rw[hI];exact⟨a,cap,rfl,hac,by omega,ON.set5al (by omega)⟩⟩
       ·rw[decide_eq_true hTc] at hbC;rw[E7 hTc] at Xp;clear hTc hbG;have hbA:=hbd.alloc hbd.size (.cells #[.int .i64 1,.slice none 0 0,.string (Ac vO.2.1),.bool vX.2.2,.string (Ac vP.2.1)] 36);have hsA:(wc.alloc (.cells #[.int .i64 1,.slice none 0 0,.string (Ac vO.2.1),.bool vX.2.2,.string (Ac vP.2.1)] 36)).heap.size=wc.heap.size+1:=Array.size_push _;have hkA:=al1 wc (.cells #[.int .i64 1,.slice none 0 0,.string (Ac vO.2.1),.bool vX.2.2,.string (Ac vP.2.1)] 36);have hrA:=hrc.below ((Below.refl wc.heap.size wc).alloc (Nat.le_refl _) (.cells #[.int .i64 1,.slice none 0 0,.string (Ac vO.2.1),.bool vX.2.2,.string (Ac vP.2.1)] 36)) hwd
        go_wp2_with (go_at_call 15;refine (Art _ vC.2.1 (hU.below hbA) hCB hCL).mono ?_)
        rintro e W3 ⟨Rg,GC⟩
        have Tc:Below w.heap.size w W3:=hbA.trans (Rg.mono hbA.size);have SY:=hrA.below Rg (by rw[hsA];omega)
        have hm3:=SY.some;obtain⟨⟨r30,r31,r32,r33,r34⟩,s30,s31,s32,s33,s34⟩:=SY;have JT:wc.heap.size+1<=W3.heap.size:=by have:=Rg.size;rw[hsA] at this;exact this
        have I2:=(Rg.block _ (by rw[hsA];omega)).trans hkA
        obtain⟨⟨k0,k1,k2,k3,k4⟩,kf0,kf1,kf2,kf3,kf4⟩:=Abw I2;unfold DbP at GC;cases VT:Nc vC.2.1 with
        |none=>
         rw[VT] at GC;obtain⟨ad,capN,rfl⟩:=GC;have hI:He vT vC vO vX vP=.error 2:=by rw[Xp];unfold Wx;rw[VT]
         go_wp2
         (try simp only[Exit.inBlock,Exit.then])
         exact G4 (b:=w.heap.size) rfl rfl (U8 W3 w.heap.size _ _ _ _ _ hm3) ⟨Hd Tc (Nat.le_refl _) _ _ _ _ _,by rw[hI];exact⟨by decide,rfl⟩⟩
        |some b=>
         rw[VT] at GC;obtain⟨ad,cap,rfl,Nt⟩:=GC;by_cases Ec:b.length<1
         ·have hI:He vT vC vO vX vP=.error 9:=by rw[Xp];unfold Wx;rw[VT];simp only;rw[E7 (.inl Ec)]
          have Q0:(b.length:Int)<1:=by omega
          go_wp2
          (try simp only[Exit.inBlock,Exit.then])
          exact G4 (b:=w.heap.size) rfl rfl (U8 W3 w.heap.size _ _ _ _ _ hm3) ⟨Hd Tc (Nat.le_refl _) _ _ _ _ _,by rw[hI];exact⟨by decide,rfl⟩⟩
         by_cases Gw:64<b.length
         ·have hI:He vT vC vO vX vP=.error 9:=by rw[Xp];unfold Wx;rw[VT];simp only;rw[E7 (.inr Gw)]
          have Q0:¬(b.length:Int)<1:=by omega
          have J5:(b.length:Int)>64:=by omega
          go_wp2
          (try simp only[Exit.inBlock,Exit.then])
          exact G4 (b:=w.heap.size) rfl rfl (U8 W3 w.heap.size _ _ _ _ _ hm3) ⟨Hd Tc (Nat.le_refl _) _ _ _ _ _,by rw[hI];exact⟨by decide,rfl⟩⟩
         have Q0:¬(b.length:Int)<1:=by omega
         have J5:¬(b.length:Int)>64:=by omega
         obtain⟨a,rfl,hac,haw,hla⟩:=Nt (by rintro rfl;exact Ec (by decide))
         have Ay5:wc.heap.size+1<=a.block:=by rw[hsA] at haw;exact haw
         have OZ:He vT vC vO vX vP=if F2 vO.2.1≠0 then .error (F2 vO.2.1) else if vX.2.2=true∧F2 vP.2.1≠0 then .error (F2 vP.2.1) else .ok (1,b,vO.2.1,vX.2.2,vP.2.1):=by
          rw[Xp];unfold Wx;rw[VT];simp only;rw[Dz (by omega)]
         have Wz:Below w.heap.size w (W3.setCell ⟨wc.heap.size,1,none⟩ (.slice (some a) b.length cap)):=Tc.setCell (p:=⟨wc.heap.size,1,none⟩) (Nat.le_of_lt hwd) _;have Amb:Below wc.heap.size W3 (W3.setCell ⟨wc.heap.size,1,none⟩ (.slice (some a) b.length cap)):=(Below.refl wc.heap.size W3).setCell (p:=⟨wc.heap.size,1,none⟩) (Nat.le_refl _) _;have JS:=(show RC W3 w.heap.size from ⟨⟨r30,r31,r32,r33,r34⟩,s30,s31,s32,s33,s34⟩).below Amb hwd
         have Akt:=hla.set (b0:=wc.heap.size) (j:=1) (v:=.slice (some a) b.length cap) (by omega)
         have IV:(W3.setCell ⟨wc.heap.size,1,none⟩ (.slice (some a) b.length cap)).heap.size=W3.heap.size:=World.size_setCell ..;have j0:(W3.setCell ⟨wc.heap.size,1,none⟩ (.slice (some a) b.length cap)).cell? ⟨wc.heap.size,0,none⟩=some (.int .i64 1):=(Eb (by decide)).trans k0
         have j1:(W3.setCell ⟨wc.heap.size,1,none⟩ (.slice (some a) b.length cap)).cell? ⟨wc.heap.size,1,none⟩=some (.slice (some a) b.length cap):=World.cell?_setCell_same _ _ _ k1;have j2:(W3.setCell ⟨wc.heap.size,1,none⟩ (.slice (some a) b.length cap)).cell? ⟨wc.heap.size,2,none⟩=some (.string (Ac vO.2.1)):=(Eb (by decide)).trans k2
         have j3:(W3.setCell ⟨wc.heap.size,1,none⟩ (.slice (some a) b.length cap)).cell? ⟨wc.heap.size,3,none⟩=some (.bool vX.2.2):=(Eb (by decide)).trans k3
         have j4:(W3.setCell ⟨wc.heap.size,1,none⟩ (.slice (some a) b.length cap)).cell? ⟨wc.heap.size,4,none⟩=some (.string (Ac vP.2.1)):=(Eb (by decide)).trans k4
         go_wp2_with (go_at_call 32;refine (Ad8 _ vO.2.1 (hU.below Wz) hOB hOL).mono ?_)
         rintro e W5 ⟨JH,o1,o2,o3,rfl⟩
         have hs5:W3.heap.size<=W5.heap.size:=by have:=JH.size;rw[IV] at this;exact this
         have Uk:Below w.heap.size w W5:=Wz.trans (JH.mono Wz.size);have hr5:=JS.below JH (by rw[IV];omega)
         have Aji:=hr5;obtain⟨⟨r50,r51,r52,r53,r54⟩,s50,s51,s52,s53,s54⟩:=Aji;have hw5:w.heap.size<W5.heap.size:=by omega
         have hc5:wc.heap.size<W5.heap.size:=by omega
         have OK:=Akt.below JH (by rw[IV];exact hla.2.1)
         have J4:wc.heap.size<(W3.setCell ⟨wc.heap.size,1,none⟩ (.slice (some a) b.length cap)).heap.size:=by rw[IV];omega
         have i0:=(JH.cell (p:=⟨wc.heap.size,0,none⟩) J4).trans j0;have i1:=(JH.cell (p:=⟨wc.heap.size,1,none⟩) J4).trans j1;have i2:=(JH.cell (p:=⟨wc.heap.size,2,none⟩) J4).trans j2;have i3:=(JH.cell (p:=⟨wc.heap.size,3,none⟩) J4).trans j3;have i4:=(JH.cell (p:=⟨wc.heap.size,4,none⟩) J4).trans j4;have hbL:=(Below.refl W5.heap.size W5).alloc (Nat.le_refl _) (.cells #[.bool o1,.string o2,.int .i64 o3] 65);have RH:Below w.heap.size w (W5.alloc (.cells #[.bool o1,.string o2,.int .i64 o3] 65)):=Uk.alloc Uk.size _;by_cases ho:F2 vO.2.1=0
         rotate_left
         ·have hoB:(F2 vO.2.1 != 0)=true:=by simp[ho]
          have hI:He vT vC vO vX vP=.error (F2 vO.2.1):=by rw[OZ,E7 ho]
          go_wp2
          (try simp only[Exit.inBlock,Exit.then])
          exact G4 (b:=w.heap.size) rfl rfl (Kw W5 w.heap.size hw5 _ _ _ _ _ _ hr5) ⟨F5 Uk (Nat.le_refl _) Uk.size _ _ _ _ _ _,by rw[hI];exact⟨ho,rfl⟩⟩
         have hoB:(F2 vO.2.1 != 0)=false:=by simp[ho]
         rw[Dz (by simp[ho])] at OZ
         have Abg:=OK.below hbL (by have:=OK.2.1;exact this)
         cases DS:vX.2.2 with
         |false=>
          rw[DS] at i3;have hI:He vT vC vO vX vP=.ok (1,b,vO.2.1,false,vP.2.1):=by rw[OZ,Dz (by simp[DS]),DS]
          go_wp2
          (try simp only[Exit.inBlock,Exit.then])
          exact G4 (b:=w.heap.size) rfl rfl (Kw W5 w.heap.size hw5 _ _ _ _ _ _ hr5) ⟨F5 Uk (Nat.le_refl _) Uk.size _ _ _ _ _ _,by rw[hI];exact⟨a,cap,rfl,hac,by omega,OK.set5al (by omega)⟩⟩
         |true=>
          rw[DS] at i3
          go_wp2_with (go_at_call 32;refine (Ad8 _ vP.2.1 (hU.below RH) hPB hPL).mono ?_)
          rintro e W7 ⟨hb7,p1,p2,p3,rfl⟩
          have hsL:(W5.alloc (.cells #[.bool o1,.string o2,.int .i64 o3] 65)).heap.size=W5.heap.size+1:=Array.size_push _;have Vj:Below w.heap.size w W7:=RH.trans (hb7.mono RH.size);have hr7:=(hr5.below hbL hw5).below hb7 (by rw[hsL];omega)
          have Am6:=hr7;obtain⟨⟨r70,r71,r72,r73,r74⟩,s70,s71,s72,s73,s74⟩:=Am6;have ON:=Abg.below hb7 (by have:=Abg.2.1;exact this)
          have Vh:=(hbL.trans (hb7.mono hbL.size));have l0:=(Vh.cell (p:=⟨wc.heap.size,0,none⟩) (show wc.heap.size<W5.heap.size by omega)).trans i0
          have l1:=(Vh.cell (p:=⟨wc.heap.size,1,none⟩) (show wc.heap.size<W5.heap.size by omega)).trans i1
          have l2:=(Vh.cell (p:=⟨wc.heap.size,2,none⟩) (show wc.heap.size<W5.heap.size by omega)).trans i2
          have l3:=(Vh.cell (p:=⟨wc.heap.size,3,none⟩) (show wc.heap.size<W5.heap.size by omega)).trans i3
          have l4:=(Vh.cell (p:=⟨wc.heap.size,4,none⟩) (show wc.heap.size<W5.heap.size by omega)).trans i4
          have hs7:=Vh.size;have hw7:w.heap.size<W7.heap.size:=by omega
          have hc7:wc.heap.size<W7.heap.size:=by omega
          have hbM:=(Below.refl W7.heap.size W7).alloc (Nat.le_refl _) (.cells #[.bool p1,.string p2,.int .i64 p3] 65);have A2n:Below w.heap.size w (W7.alloc (.cells #[.bool p1,.string p2,.int .i64 p3] 65)):=Vj.alloc Vj.size _;by_cases hp:F2 vP.2.1=0
          rotate_left
          ·have hoB:(F2 vP.2.1 != 0)=true:=by simp[hp]
           have hI:He vT vC vO vX vP=.error (F2 vP.2.1):=by rw[OZ,E7 ⟨DS,hp⟩]
           go_wp2
           (try simp only[Exit.inBlock,Exit.then])
           exact G4 (b:=w.heap.size) rfl rfl (Kw W7 w.heap.size hw7 _ _ _ _ _ _ hr7) ⟨F5 Vj (Nat.le_refl _) Vj.size _ _ _ _ _ _,by rw[hI];exact⟨hp,rfl⟩⟩
          have hpB:(F2 vP.2.1 != 0)=false:=by simp[hp]
          have Awy:=ON.below hbM (by have:=ON.2.1;exact this)
          have hI:He vT vC vO vX vP=.ok (1,b,vO.2.1,true,vP.2.1):=by rw[OZ,Dz (by simp[hp]),DS]
          go_wp2
          (try simp only[Exit.inBlock,Exit.then])
          exact G4 (b:=w.heap.size) rfl rfl (Kw W7 w.heap.size hw7 _ _ _ _ _ _ hr7) ⟨F5 Vj (Nat.le_refl _) Vj.size _ _ _ _ _ _,by rw[hI];exact⟨a,cap,rfl,hac,by omega,ON.set5al (by omega)⟩⟩
end
section
open Go.Proofs.Tryd (prog)
open Go.IntKind (wrap)
set_option maxRecDepth 1000000
open Go Go.RowKit Go.Lib
def JP (L:Nat)(s:List Int):Prop:=Dq s∧s.length<=4*L
theorem Yt:∀(n:Nat)(out l s q:List Int),Dq l->Jd n out l=(some s,q)->s.length<=out.length+4*l.length
  |0,_,_,_,_,_,h=>by cases h
  |_+1,_,[],_,_,_,h=>by cases h
  |n+1,out,c::l,s,q,hl,h=>by
    have e:Jd (n+1) out (c::l)=if c<32 then (none,c::l) else if c=34 then (some out,l) else if c=92 then
        (match Lv l with
         |(some x,r')=>Jd n (out++Lib.encodeRuneZ x) r'
         |(none,r')=>(none,r')) else Jd n (out++[c]) l:=rfl
    have On:=C7 hl
    rw[e] at h
    split at h
    · cases h
    split at h
    · cases h;simp
    split at h
    · have h2:=O7 (Cz.self On.2)
      rcases hq:Lv l with⟨o,r⟩
      rw[hq] at h2 h
      cases o with
      |none=>cases h
      |some x=>
        have:=Yt n _ r s q h2.B h
        have h3:=Lib.encodeRuneZ_length x
        have h4:r.length<=l.length:=h2.le
        simp at this ⊢
        omega
    · have:=Yt n _ l s q On.2 h
      simp at this ⊢
      omega
theorem NQ {l s q:List Int}(hl:Dq l)(h:Eo l=(some s,q)):JP l.length s:=by
 refine⟨RW hl h,?_⟩;cases l with
 |nil=>cases h
 |cons c l=>
  have e:Eo (c::l)=if c=34 then Jd (l.length+1) [] l else (none,c::l):=rfl
  rw[e] at h;split at h
  ·have:=Yt _ _ _ _ _ (C7 hl).2 h;simp at this ⊢;omega
  ·cases h
theorem JP.mono {L M:Nat}{s:List Int}(h:JP L s)(hm:L<=M):JP M s:=⟨h.1,by have:=h.2;omega⟩
theorem JP.nil (L:Nat):JP L []:=⟨(fun x hx=>nomatch hx),Nat.zero_le _⟩
theorem YV {l r:List Int}{v:JV}(hl:Dq l)(hs:l.length<=1000000)(h:Fh 8 l=.ok (v,r)):Cz (Ac l) r:=by
 obtain⟨res,_,hr⟩:=Ah2 (fu:=1000001) (d:=0) (t:=Ac l) (by rw[Aw];exact hs) (by rw[Aw];omega) 8 1 (by omega) (by omega) l (Cz.self hl)
 rw[h] at hr;exact hr.1
theorem Agd:∀{k:Nat}{l r:List Int}{v:JV},Dq l->Fh k l=.ok (v,r)->JP l.length v.2.1:=by
 intro k l r v hl h;unfold Fh at h;split at h
 ·split at h
  ·cases h
  ·split at h
   ·cases h
   ·cases h;exact JP.nil _
 ·split at h
  ·cases h
  ·split at h
   ·cases h
   ·cases h;exact JP.nil _
 ·rename_i r0;unfold EM at h;rcases hq:Eo (34::r0) with⟨o,q⟩;rw[hq] at h;cases o with
  |none=>cases h
  |some s=>cases h;exact NQ hl hq
 ·repeat' split at h
  all_goals first|(cases h;exact JP.nil _)|cases h
theorem Ad2 {L:Nat}(hL:L<=1000000):∀(n:Nat)(ms:List (List Int × JV)) (l r:List Int)(ms':List (List Int × JV)),Dq l->l.length<=L->(∀m∈ms,JP L m.1∧JP L m.2.2.1)->Qq (Fh 8) true n ms l=.ok (ms',r)->∀m∈ms',JP L m.1∧JP L m.2.2.1:=by
 intro n
 induction n with
 |zero=>intro ms l r ms' _ _ _ h;cases h
 |succ n ih=>
  intro ms l r ms' hl hs hm h;rw[Ye] at h;rcases hx:Eo l with⟨o,q⟩;rw[hx] at h;cases o with
  |none=>cases h
  |some nm=>
   have BS:=NQ hl hx;have hq:=Ge (Cz.self hl);rw[hx] at hq;simp only at h;split at h
   ·cases h
   cases h1:Ap [58] (Bd q) with
   |none=>rw[h1] at h;cases h
   |some r1=>
    rw[h1] at h;have BB:=Bm (Ao (Bm hq) h1);simp only at h;cases hv:Fh 8 (Bd r1) with
    |error e=>rw[hv] at h;cases h
    |ok x=>
     obtain⟨v,r2⟩:=x;rw[hv] at h;have Wv:=BB.le;have hvo:=Agd BB.B hv;have EZ:=BB.trans (YV BB.B (by omega) hv)
     have K7:∀m∈ms++[(nm,v)],JP L m.1∧JP L m.2.2.1:=by
      intro m Hv;rcases List.mem_append.1 Hv with Hv|Hv
      ·exact hm m Hv
      ·simp at Hv;subst Hv;exact⟨BS.mono hs,hvo.mono (by omega)⟩
     simp only at h;cases h2:Ap [125] (Bd r2) with
     |some r3=>rw[h2] at h;cases h;exact K7
     |none=>
      rw[h2] at h;simp only at h;cases h3:Ap [44] (Bd r2) with
      |none=>rw[h3] at h;cases h
      |some r3=>
       rw[h3] at h;have SY:=Bm (Ao (Bm EZ) h3);exact ih _ _ _ _ SY.B (by have:=SY.le;omega) K7 h
theorem Adn {l:List Int}{ms:List (List Int × JV)} (hl:Dq l)(hs:l.length<=1000000)(h:OU 8 l=.ok ms):∀m∈ms,JP l.length m.1∧JP l.length m.2.2.1:=by
 rw[EB] at h;have h0:=Bm (Cz.self hl);cases h1:Ap [123] (Bd l) with
 |none=>rw[h1] at h;cases h
 |some r=>
  rw[h1] at h;have hr:=Ao h0 h1;simp only at h;rw[Vn] at h;have EZ:=Bm hr;cases h2:Ap [125] (Bd r) with
  |some r'=>
   rw[h2] at h;simp only at h;split at h
   ·cases h;exact fun m hm=>by cases hm
   ·cases h
  |none=>
   rw[h2] at h;simp only at h;cases h3:Qq (Fh 8) true ((Bd r).length+1) [] (Bd r) with
   |error e=>rw[h3] at h;cases h
   |ok x=>
    obtain⟨ms',r'⟩:=x;rw[h3] at h;simp only at h;split at h
    ·cases h;exact Ad2 hs _ _ _ _ _ EZ.B EZ.le (fun m hm=>by cases hm) h3
    ·cases h
def RR (ms:List (List Int × JV)):JR CD:=He (Cf Oo ms) (Cf Va ms) (Cf nmO ms) (Cf nmX ms) (Cf nmP ms)
def Lt (t:ByteArray):JR CD:=
 if 1024<t.size then .error 8 else if Lib.validD t.data.toList=false then .error 6 else match OU 8 (D1 t) with
  |.error e=>.error e
  |.ok ms=>RR ms
theorem Adx {G:R0}{P:Program}{f:FuncId}{args vals:List PV}{us rs:List Value}(hs:Cy G P f args ⟨vals,[]⟩) (ha:Bb Yo args us)(hr:Bb Yo vals rs)
  {w:World} (hG:G.ok w) (hGl:∀k,G.bl k->k<w.heap.size):Calls P f us.toArray w fun e w'=>e=.returned (Gq rs)∧Below w.heap.size w w':=by
 have hi:Ins w (fun _=>False) LP args us:=⟨fun _ h=>h.elim,fun _ h=>h.elim,fun k h=>absurd h (Ms k),fun i j i' j' b o o' h=>(by cases h),fun i q h=>(by cases h),Sq ha⟩
 refine (hs.2 w _ _ _ hi hG (fun k hk=>⟨hGl k hk,Ms k⟩)).mono ?_
 rintro e w' ⟨ws,own,rfl,out⟩
 have hv:=Zu hr out.vals;subst hv;exact⟨rfl,out.os,out.tape,out.output,out.ext.size,fun k hk=>out.ext.keep k hk (Ms k)⟩
theorem WP (W:World)(s:List Int)(hW:okW W)(hB:Dq s)(hs:s.length<=1000000):Calls prog 32 #[.string (Ac s)] W fun e w'=>Below W.heap.size W w'∧∃o1 o2 o3,e=.returned (.tuple #[.agg #[.bool o1,.string o2,.int .i64 o3],.int .i64 (F2 s)]):=by
 obtain⟨o1,o2,o3,e⟩:=Ahy (fu:=1000001) (d:=0) (p:=none) hB hs (by omega)
 have hsd:Cy gU prog 32 [.sc (.string (Ac s))] ⟨[.agg ([Value.bool o1,.string o2,.int .i64 o3].map .sc),.sc (.int .i64 (F2 s))],[]⟩:=G6 ngR mxR Alb 7 _ _ _ e;refine (Adx (us:=[.string (Ac s)]) (rs:=[.agg #[.bool o1,.string o2,.int .i64 o3],.int .i64 (F2 s)]) hsd ⟨.inl rfl,trivial⟩ ⟨.inr ⟨_,rfl,rfl⟩,.inl rfl,trivial⟩ hW.1 hW.2).mono ?_
 rintro e w' ⟨rfl,hb⟩
 exact⟨hb,o1,o2,o3,rfl⟩
theorem UA (W:World)(s:List Int)(hW:okW W)(hB:Dq s)(hs:s.length<=1000000):Calls prog 15 #[.string (Ac s)] W fun e w'=>Below W.heap.size W w'∧DbP W w' s e:=by
 have e:=Am5 (fu:=1000001) (d:=0) (p:=none) hB hs (by omega) (by omega)
 have hi:Ins W (fun _=>False) LP [.sc (.string (Ac s))] [.string (Ac s)]:=⟨fun _ h=>h.elim,fun _ h=>h.elim,fun k h=>absurd h (Ms k),fun i j i' j' b o o' h=>(by cases h),fun i q h=>(by cases h),Sq (show Bb Yo [.sc (.string (Ac s))] [.string (Ac s)] from ⟨.inl rfl,trivial⟩)⟩
 have hsd:Cy gU prog 15 [.sc (.string (Ac s))] _:=G6 ngR mxR Alb 3 _ _ _ e;refine (hsd.2 W _ _ _ hi hW.1 (fun k hk=>⟨hW.2 k hk,Ms k⟩)).mono ?_
 rintro e w' ⟨ws,own,rfl,out⟩
 refine⟨⟨out.os,out.tape,out.output,out.ext.size,fun k hk=>out.ext.keep k hk (Ms k)⟩,?_⟩
 have hv:=out.vals;have YE:=out.fresh;generalize hA:AA LP own (fun _=>False)=A at hv
 unfold DbP;cases hd:Nc s with
 |none=>
  rw[hd] at hv
  match ws,hv with
  |[u1,u2],hv=>
   obtain⟨h1,h2,_⟩:=hv;have e2:u2=.int .i64 2:=Ar.val (show Ar w' A (.sc (.int .i64 2)) u2 from h2)
   rcases (show Fd w' A (own 0) (.own 1 0 []) u1 from h1) with⟨_,_,_,ad,rfl⟩|⟨b,o,cap,ho,rfl,h⟩
   ·rw[e2];exact⟨ad,0,rfl⟩
   ·rw[e2];exact⟨_,cap,rfl⟩
  |[],hv=>exact hv.elim
  |[_],hv=>exact hv.2.elim
  |_::_::_::_,hv=>exact hv.2.2.elim
 |some b=>
  rw[hd] at hv
  match ws,hv with
  |[u1,u2],hv=>
   obtain⟨h1,h2,_⟩:=hv;have e2:u2=.int .i64 0:=Ar.val (show Ar w' A (.sc (.int .i64 0)) u2 from h2)
   rw[e2];rcases (show Fd w' A (own 0) (.own 1 b.length (Dv .u8 b)) u1 from h1) with⟨_,hn,_,ad,rfl⟩|⟨bb,o,cap,ho,rfl,hc,hf,B4,hr,hz⟩
   ·have CY:b=[]:=List.eq_nil_of_length_eq_zero hn;subst CY;exact⟨ad,0,rfl,fun h=>absurd rfl h⟩
   ·refine⟨some ⟨bb,o,none⟩,cap,rfl,fun _=>⟨⟨bb,o,none⟩,rfl,hc,?_,rfl,B4,fun j x hx=>?_⟩⟩
    ·have:=(YE 0 bb o ho).2;rcases Nat.lt_or_ge bb W.heap.size with q|q
     ·obtain⟨⟨i,k,o',h⟩,_⟩:=this q;cases h
     ·exact q
    ·have hj:(Dv .u8 b)[j]?=some (.sc (.int .u8 x)):=by
      rw[Mw,List.getElem?_map,hx];rfl
     obtain⟨v,hv1,_,hv2⟩:=hr j _ hj;rw[hv1];exact congrArg some hv2.val
  |[],hv=>exact hv.elim
  |[_],hv=>exact hv.2.elim
  |_::_::_::_,hv=>exact hv.2.2.elim
def PaP (w w':World)(t:ByteArray)(e:Ending):Prop:=ItP w w' (Lt t) e
theorem LA {R:Ending->World->Prop}{a:Act}{W:World}{v:Value}{b:Nat}(h2:a.tmps.getD 2 undef=.pointer (some ⟨b,0,none⟩)) (hd:a.defers=[]) (hl:(loadVar 36 ⟨b,0,none⟩).run prog W=.ok v W) (hR:R (.returned (.tuple #[v,a.tmps.getD 3 undef])) W):bodyPost prog Tryd.f19 R .ret a W:=by
 refine bodyPost_ret ?_ hd hR;rw[results_cell_tmp rfl,h2];have e:(asAddr (.pointer (some ⟨b,0,none⟩))).run prog W=.ok ⟨b,0,none⟩ W:=rfl;rw[e,Result.andThen_ok,hl,Result.andThen_ok]
def VsP (w w':World)(t:ByteArray)(e:Ending):Prop:=e=.returned (.bool (Lib.validD t.data.toList))∧Below w.heap.size w w'
def RtQ (w w':World)(t:ByteArray)(e:Ending):Prop:=Below w.heap.size w w'∧RtP w' (D1 t) e
def ItQ (w w':World)(r:JR CD)(e:Ending):Prop:=Below w.heap.size w w'∧ItP w w' r e
set_option maxHeartbeats 4000000 in
theorem Afk {t:ByteArray}(ht:t.size<=9223372036854775807){w:World}(hU:okW w):Calls prog 19 #[.string t] w fun e w'=>Below w.heap.size w w'∧PaP w w' t e:=by
 have mixed:prog.follows Departure.mixedOrders=true:=by kernel_rfl
 have Ec:Below w.heap.size w (w.alloc (.cells #[.int .i64 0,.slice none 0 0,.string ⟨#[]⟩,.bool false,.string ⟨#[]⟩] 36)):=(Below.refl _ w).alloc (Nat.le_refl _) _;have XV:=al1 w (.cells #[.int .i64 0,.slice none 0 0,.string ⟨#[]⟩,.bool false,.string ⟨#[]⟩] 36);have XR:(w.alloc (.cells #[.int .i64 0,.slice none 0 0,.string ⟨#[]⟩,.bool false,.string ⟨#[]⟩] 36)).heap.size=w.heap.size+1:=Array.size_push _;have BB:RC (w.alloc (.cells #[.int .i64 0,.slice none 0 0,.string ⟨#[]⟩,.bool false,.string ⟨#[]⟩] 36)) w.heap.size:=Aa8 XV;have hU1:=hU.below Ec
 have hvc:Calls prog 33 #[.string t] (w.alloc (.cells #[.int .i64 0,.slice none 0 0,.string ⟨#[]⟩,.bool false,.string ⟨#[]⟩] 36)) fun e w'=>VsP (w.alloc (.cells #[.int .i64 0,.slice none 0 0,.string ⟨#[]⟩,.bool false,.string ⟨#[]⟩] 36)) w' t e:=(Any.utf8_ValidString laysVS t (w.alloc (.cells #[.int .i64 0,.slice none 0 0,.string ⟨#[]⟩,.bool false,.string ⟨#[]⟩] 36)) ht hU1.1.2.2).mono (fun _ _ h=>h)
 go_enter Tryd.func19,Tryd.ntmps19
 by_cases Dd:1024<t.size
 ·have hI:Lt t=.error 8:=by unfold Lt;rw[E7 Dd]
  have hq:(t.size:Int)>1024:=by omega
  go_wp2
  (try simp only[Exit.inBlock,Exit.then])
  obtain⟨⟨r0,r1,r2,r3,r4⟩,_⟩:=BB;exact LA (b:=w.heap.size) rfl rfl (GF r0 r1 r2 r3 r4) ⟨Ec,by unfold PaP;rw[hI];exact⟨by decide,rfl⟩⟩
 have hq:¬(t.size:Int)>1024:=by omega
 go_wp2_with (go_at_call 33;refine hvc.mono ?_)
 rintro e W2 ⟨rfl,Gw⟩
 have Afp:Below w.heap.size w W2:=Ec.trans (Gw.mono Ec.size);have EZ:=BB.below Gw (by rw[XR];omega)
 have Ra:w.heap.size+1<=W2.heap.size:=by have:=Gw.size;rw[XR] at this;exact this
 have hw2:w.heap.size<W2.heap.size:=by omega
 have hU2:=hU.below Afp;cases hvd:Lib.validD t.data.toList with
 |false=>
  have hI:Lt t=.error 6:=by unfold Lt;rw[Dz Dd,hvd,E7 rfl]
  obtain⟨⟨r0,r1,r2,r3,r4⟩,s0,s1,s2,s3,s4⟩:=id EZ
  go_wp2
  (try simp only[Exit.inBlock,Exit.then])
  exact LA (b:=w.heap.size) rfl rfl (U8 W2 w.heap.size _ _ _ _ _ EZ.some) ⟨Hd Afp (Nat.le_refl _) _ _ _ _ _,by unfold PaP;rw[hI];exact⟨by decide,rfl⟩⟩
 |true=>
  have Xp:Lt t=match OU 8 (D1 t) with | .error e=>.error e | .ok ms=>RR ms:=by unfold Lt;rw[Dz Dd,hvd,Dz (by decide)]
  have hrt:Calls prog 34 #[.string t] W2 fun e w'=>RtQ W2 w' t e:=Afw (by omega) hU2.1 hU2.2
  go_wp2_with (go_at_call 34;refine hrt.mono ?_)
  rintro e W3 ⟨Rg,GC⟩
  have Tc:Below w.heap.size w W3:=Afp.trans (Rg.mono Afp.size);have SY:=EZ.below Rg hw2;have hw3:w.heap.size<W3.heap.size:=Nat.lt_of_lt_of_le hw2 Rg.size;have hU3:=hU.below Tc;unfold RtP at GC;cases Akv:OU 8 (D1 t) with
  |error er=>
   rw[Akv] at GC Xp;obtain⟨he,m,rfl⟩:=GC;have hbe:(er != (0:Int))=true:=by simp[he]
   obtain⟨⟨r0,r1,r2,r3,r4⟩,s0,s1,s2,s3,s4⟩:=id SY
   go_wp2
   (try simp only[Exit.inBlock,Exit.then])
   exact LA (b:=w.heap.size) rfl rfl (U8 W3 w.heap.size _ _ _ _ _ SY.some) ⟨Hd Tc (Nat.le_refl _) _ _ _ _ _,by unfold PaP;rw[Xp];exact⟨he,rfl⟩⟩
  |ok ms=>
   rw[Akv] at GC Xp;obtain⟨mb,rfl,hM3⟩:=GC;have K1:(D1 t).length<=1000000:=by rw[Es];omega
   have hok:=Adn (HI t) K1 Akv;have hl4:4*(D1 t).length<=1000000:=by rw[Es];omega
   have Z2:Calls prog 35 #[.map (some mb)] W3 fun e w'=>ItQ W3 w' (RR ms) e:=Ad3 UA WP (fun m hm=>(hok m hm).1.1) (fun m hm=>⟨(hok m hm).2.1,by have:=(hok m hm).2.2;omega⟩) hU3 hM3
   go_wp2_with (go_at_call 35;refine Z2.mono ?_)
   rintro e W4 ⟨hb4,hp4⟩
   have Wz:Below w.heap.size w W4:=Tc.trans (hb4.mono Tc.size);have JS:=SY.below hb4 hw3;have hw4:w.heap.size<W4.heap.size:=Nat.lt_of_lt_of_le hw3 hb4.size;unfold ItP at hp4;cases OJ:RR ms with
   |error er=>
    rw[OJ] at hp4 Xp;obtain⟨he,rfl⟩:=hp4;have hbe:(er != (0:Int))=true:=by simp[he]
    obtain⟨⟨r0,r1,r2,r3,r4⟩,s0,s1,s2,s3,s4⟩:=id JS
    go_wp2
    (try simp only[Exit.inBlock,Exit.then])
    exact LA (b:=w.heap.size) rfl rfl (Kw W4 w.heap.size hw4 _ _ _ _ _ _ JS) ⟨F5 Wz (Nat.le_refl _) Wz.size _ _ _ _ _ _,by unfold PaP;rw[Xp];exact⟨he,rfl⟩⟩
   |ok x=>
    obtain⟨k,b,o,x,p⟩:=x;rw[OJ] at hp4 Xp;obtain⟨ad,cap,rfl,hc,hwa,hla⟩:=hp4;obtain⟨⟨r0,r1,r2,r3,r4⟩,s0,s1,s2,s3,s4⟩:=id JS
    go_wp2
    (try simp only[Exit.inBlock,Exit.then])
    exact LA (b:=w.heap.size) rfl rfl (Kw W4 w.heap.size hw4 _ _ _ _ _ _ JS) ⟨F5 Wz (Nat.le_refl _) Wz.size _ _ _ _ _ _,by unfold PaP;rw[Xp];exact⟨ad,cap,rfl,hc,by omega,hla.set5al (by omega)⟩⟩
def I6 (args:List PV):Option Ay:=
 match args with
 |[.sc (.string t)]=>bif decide (t.size<=9223372036854775807) then some (match Lt t with
  |.ok (k,b,o,x,p)=>⟨[.agg [.sc (.int .i64 k),.lst false 1 b.length (Dv .u8 b),.sc (.string (Ac o)),.sc (.bool x),.sc (.string (Ac p))],.sc (.int .i64 0)],[]⟩
  |.error e=>⟨[.agg [.sc (.int .i64 0),.lst false 1 0 [],.sc (.string ⟨#[]⟩),.sc (.bool false),.sc (.string ⟨#[]⟩)],.sc (.int .i64 e)],[]⟩) else none
 |_=>none
theorem AP {w w':World}{Y:Nat->Prop}{bt:Ud}{args vals:List PV}{vs:List Value}(hb:Below w.heap.size w w')(hv:EL w' (AA bt (fun _=>none) Y) (fun _=>none) w.heap.size 0 vals vs) (ho:Q4 w' (AA bt (fun _=>none) Y) (fun _=>none) bt (Ja vals) 0 args []):
  Out w w' Y bt args (fun _=>none) ⟨vals,[]⟩ vs where
 os:=hb.os
 tape:=hb.tape
 output:=hb.output
 ext:=⟨hb.size,fun b h _=>hb.block b h,fun b h=>Fz.same (hb.block b h)⟩
 rng:=fun b j h _=>⟨by unfold World.cell?;simp only[hb.block b h],by unfold World.frozen?;simp only[hb.block b h]⟩
 vals:=hv
 outs:=ho
 fresh:=fun j b o h=>by cases h
 inj:=fun j j' b o o' h=>by cases h
theorem KP (args:List PV)(res:Ay)(h:I6 args=some res):Cy gU prog 19 args res:=by
 refine⟨⟨_,Tryd.func19,by kernel_rfl⟩,fun w Y bt us hi hok hgl=>?_⟩
 unfold I6 at h;split at h
 rotate_left
 ·cases h
 rename_i t;cases hq:decide (t.size<=9223372036854775807)
 ·rw[hq] at h;cases h
 rw[hq,cond_true] at h;have hs:=of_decide_eq_true hq;have ps:=hi.args
 match us,ps with
 |[u],ps=>
  have hu:u=.string t:=Ar.val (show Ar w _ (.sc (.string t)) u from ps.1.2)
  subst hu;refine (Afk hs ⟨hok,fun k hk=>(hgl k hk).1⟩).mono ?_
  rintro e w' ⟨hb,hp⟩
  unfold PaP at hp;unfold ItP at hp;cases Wt:Lt t with
  |error er=>
   rw[Wt] at hp h;obtain⟨_,rfl⟩:=hp;cases h;refine⟨[.agg #[.int .i64 0,.slice none 0 0,.string ⟨#[]⟩,.bool false,.string ⟨#[]⟩],.int .i64 er],fun _=>none,rfl,AP hb ⟨⟨_,rfl,?_⟩,Ar.sc _,trivial⟩ rfl⟩
   exact⟨Ar.sc _,Ar.lnil _ _,Ar.sc _,Ar.sc _,Ar.sc _,trivial⟩
  |ok x=>
   obtain⟨k,b,o,x,p⟩:=x;rw[Wt] at hp h;obtain⟨ad,cap,rfl,hc,hwa,hla⟩:=hp;cases h;refine⟨[.agg #[.int .i64 k,.slice (some ad) b.length cap,.string (Ac o),.bool x,.string (Ac p)],.int .i64 0],fun _=>none,rfl,AP hb ⟨⟨_,rfl,?_⟩,Ar.sc _,trivial⟩ rfl⟩
   refine⟨Ar.sc _,?_,Ar.sc _,Ar.sc _,Ar.sc _,trivial⟩;refine Ar.lst 1 b.length (Dv .u8 b) ad cap (fun j=>.int .u8 (b.getD j 0)) hla.1 hla.2.1 ?_ hc ?_ ?_ ?_
   ·rintro (⟨j,o,h⟩|⟨i,o,h⟩|h)
    ·cases h
    ·have:=hi.lt ad.block ⟨i,0,o,h⟩;omega
    ·have:=hi.Ylt _ h;omega
   ·intro j c hj;rw[Mw,List.getElem?_map] at hj;obtain⟨y,hy,rfl⟩:=Option.map_eq_some_iff.1 hj;rw[hla.2.2 j y hy];simp[List.getD_eq_getElem?_getD,hy]
   ·intro j c hj;rfl
   ·intro j c hj;rw[Mw,List.getElem?_map] at hj;obtain⟨y,hy,rfl⟩:=Option.map_eq_some_iff.1 hj;have:b.getD j 0=y:=by simp[List.getD_eq_getElem?_getD,hy]
    rw[this];exact Ar.sc _
 |[],ps=>exact ps.elim
 |_::_::_,ps=>exact ps.2.elim
abbrev C1:Ft:=CP (some I6)
theorem extV:DY gU prog C1:=Ags (fun g h args res hg=>by cases h;exact KP args res hg)
end
section
open Go.Proofs.Tryd (prog)
open Go.IntKind (wrap)
set_option maxRecDepth 100000
abbrev G7:FuncId:=22
theorem Mz {p:Option (List PV->Option Ay)} (fu d:Nat)(a0:ByteArray):Ae (CP p) prog fu (d+1) G7 [.sc (.string a0)]=(fun (call:Ax)=>Bi (decide (ByteArray.size a0<=1099511627776))<|Bi (decide (0+ByteArray.size a0*1<=List.length (Eu a0)))<|Ah (call 37 [.sc (.int .i64 11),.lst false 1 (ByteArray.size a0) (List.take (ByteArray.size a0*1) (List.drop 0 (Eu a0)))]) fun x1 x2=>Ad x2<|Aa x1 fun x3 x4=>Ak .u64 x3 fun x5=>Ad x4<|some (Ay.mk [.sc (.int .u64 x5)] [])) (Ae (CP p) prog fu d):=by kernel_rfl
abbrev Li:FuncId:=21
theorem S6 {p:Option (List PV->Option Ay)} (fu d:Nat)(a0:ByteArray):Ae (CP p) prog fu (d+1) Li [.sc (.string a0)]=(fun (call:Ax)=>Bi (decide (ByteArray.size a0<=1099511627776))<|Bi (decide (0+ByteArray.size a0*1<=List.length (Eu a0)))<|Ah (call 36 [.sc (.int .i64 11),.lst false 1 (ByteArray.size a0) (List.take (ByteArray.size a0*1) (List.drop 0 (Eu a0)))]) fun x1 x2=>Ad x2<|Aa x1 fun x3 x4=>Ak .u64 x3 fun x5=>Ad x4<|some (Ay.mk [.sc (.int .u64 x5)] [])) (Ae (CP p) prog fu d):=by kernel_rfl
abbrev Mo:FuncId:=20
theorem Ma {p:Option (List PV->Option Ay)} (fu d:Nat)(Br:Int)(N8:Nat)(Bl:List PV)(Hh:ByteArray)(I0:Bool)(Oe:ByteArray)(Arb:Int)(Agy:Nat)(Ai0:List PV)(Ape:ByteArray)(Aqb:Bool)(Aro:ByteArray):Ae (CP p) prog fu (d+1) Mo [.agg [.sc (.int .i64 Br),.lst false 1 N8 Bl,.sc (.string Hh),.sc (.bool I0),.sc (.string Oe)],.agg [.sc (.int .i64 Arb),.lst false 1 Agy Ai0,.sc (.string Ape),.sc (.bool Aqb),.sc (.string Aro)]]=(fun (call:Ax)=>Bh (Br==Arb) (Bi (decide (Bl.length=N8))<|Dk (Lf Bl) fun x1=>Bi (decide (Ai0.length=Agy))<|Dk (Lf Ai0) fun x2=>Bh (Array.toList (ByteArray.data (ByteArray.mk (List.toArray x1)))==Array.toList (ByteArray.data (ByteArray.mk (List.toArray x2)))) (Bh (Array.toList (ByteArray.data Hh)==Array.toList (ByteArray.data Ape)) (Bh (I0==Aqb) (some (Ay.mk [.sc (.bool (Array.toList (ByteArray.data Oe)==Array.toList (ByteArray.data Aro)))] [])) (some (Ay.mk [.sc (.bool false)] []))) (some (Ay.mk [.sc (.bool false)] []))) (some (Ay.mk [.sc (.bool false)] []))) (some (Ay.mk [.sc (.bool false)] []))) (Ae (CP p) prog fu d):=by kernel_rfl
abbrev Qo:FuncId:=18
theorem Qr {p:Option (List PV->Option Ay)} (fu d:Nat)(Br:Int)(N8:Nat)(Bl:List PV)(Hh:ByteArray)(I0:Bool)(Oe:ByteArray):Ae (CP p) prog fu (d+1) Qo [.agg [.sc (.int .i64 Br),.lst false 1 N8 Bl,.sc (.string Hh),.sc (.bool I0),.sc (.string Oe)]]=(fun (call:Ax)=>Bh (Br==1) (Bh (decide ((↑N8:Int)<1)) (some (Ay.mk [.sc (.string (ByteArray.mk #[])),.sc (.int .i64 9)] [])) (Bh (decide ((↑N8:Int)>64)) (some (Ay.mk [.sc (.string (ByteArray.mk #[])),.sc (.int .i64 9)] [])) (Ah (call 32 [.sc (.string Hh)]) fun x1 x2=>Ad x2<|Aa x1 fun x3 x4=>Fq x3 fun x5=>Aa x5 fun x6 x7=>Aq x6 fun x8=>Aa x7 fun x9 Fv=>Az x9 fun Lr=>Aa Fv fun L3 Ff=>Ak .i64 L3 fun Je=>Ad Ff<|Aa x4 fun Mb K2=>Ak .i64 Mb fun I4=>Ad K2<|Bh (I4 != 0) (some (Ay.mk [.sc (.string (ByteArray.mk #[])),.sc (.int .i64 I4)] [])) (Bh (!Array.toList (ByteArray.data Oe)==Array.toList (ByteArray.data (ByteArray.mk #[]))) (Bh (!I0) (some (Ay.mk [.sc (.string (ByteArray.mk #[])),.sc (.int .i64 4)] [])) (Ah (call 12 [.lst false 1 N8 Bl]) fun Lw L4=>Ad L4<|Aa Lw fun Ml Mi=>Az Ml fun N6=>Ad Mi<|Bi (decide (38+ByteArray.size N6<=9223372036854775807))<|Ab (ByteArray.mk #[123,34,116,121,112,101,34,58,34]++ByteArray.mk #[112,97,115,115,107,101,121,46,99,114,101,97,116,101]++ByteArray.mk #[34,44,34,99,104,97,108,108,101,110,103,101,34,58,34]++N6) fun K4=>Bi (decide (ByteArray.size K4+12<=9223372036854775807))<|Ab (K4++ByteArray.mk #[34,44,34,111,114,105,103,105,110,34,58,34]) fun Nq=>Bi (decide (ByteArray.size Nq+ByteArray.size Hh<=9223372036854775807))<|Ab (Nq++Hh) fun L1=>Bh (!I0) (Bi (decide (ByteArray.size L1+22<=9223372036854775807))<|Ab (L1++ByteArray.mk #[34,44,34,99,114,111,115,115,79,114,105,103,105,110,34,58,102,97,108,115,101,125]) fun L5=>some (Ay.mk [.sc (.string L5),.sc (.int .i64 0)] [])) (Ah (call 32 [.sc (.string Oe)]) fun Mk Oi=>Ad Oi<|Aa Mk fun Me Oa=>Fq Me fun Om=>Aa Om fun Oc M9=>Aq Oc fun Ol=>Aa M9 fun Pj Q7=>Az Pj fun Se=>Aa Q7 fun S1 Pu=>Ak .i64 S1 fun AZ=>Ad Pu<|Aa Oa fun BA Qm=>Ak .i64 BA fun Qj=>Ad Qm<|Bh (Qj != 0) (some (Ay.mk [.sc (.string (ByteArray.mk #[])),.sc (.int .i64 Qj)] [])) (Bi (decide (ByteArray.size L1+34<=9223372036854775807))<|Ab (L1++ByteArray.mk #[34,44,34,99,114,111,115,115,79,114,105,103,105,110,34,58,116,114,117,101,44,34,116,111,112,79,114,105,103,105,110,34,58,34]) fun Zo=>Bi (decide (ByteArray.size Zo+ByteArray.size Oe<=9223372036854775807))<|Ab (Zo++Oe) fun Xh=>Bi (decide (ByteArray.size Xh+2<=9223372036854775807))<|Ab (Xh++ByteArray.mk #[34,125]) fun BP=>some (Ay.mk [.sc (.string BP),.sc (.int .i64 0)] []))))) (Ah (call 12 [.lst false 1 N8 Bl]) fun AY BH=>Ad BH<|Aa AY fun X6 Xl=>Az X6 fun AX=>Ad Xl<|Bi (decide (38+ByteArray.size AX<=9223372036854775807))<|Ab (ByteArray.mk #[123,34,116,121,112,101,34,58,34]++ByteArray.mk #[112,97,115,115,107,101,121,46,99,114,101,97,116,101]++ByteArray.mk #[34,44,34,99,104,97,108,108,101,110,103,101,34,58,34]++AX) fun BC=>Bi (decide (ByteArray.size BC+12<=9223372036854775807))<|Ab (BC++ByteArray.mk #[34,44,34,111,114,105,103,105,110,34,58,34]) fun CU=>Bi (decide (ByteArray.size CU+ByteArray.size Hh<=9223372036854775807))<|Ab (CU++Hh) fun Z7=>Bh (!I0) (Bi (decide (ByteArray.size Z7+22<=9223372036854775807))<|Ab (Z7++ByteArray.mk #[34,44,34,99,114,111,115,115,79,114,105,103,105,110,34,58,102,97,108,115,101,125]) fun GI=>some (Ay.mk [.sc (.string GI),.sc (.int .i64 0)] [])) (Ah (call 32 [.sc (.string Oe)]) fun JJ EN=>Ad EN<|Aa JJ fun EU GW=>Fq EU fun IL=>Aa IL fun HT NZ=>Aq HT fun TG=>Aa NZ fun PQ OB=>Az PQ fun PN=>Aa OB fun OD PU=>Ak .i64 OD fun SU=>Ad PU<|Aa GW fun OH NU=>Ak .i64 OH fun LX=>Ad NU<|Bh (LX != 0) (some (Ay.mk [.sc (.string (ByteArray.mk #[])),.sc (.int .i64 LX)] [])) (Bi (decide (ByteArray.size Z7+34<=9223372036854775807))<|Ab (Z7++ByteArray.mk #[34,44,34,99,114,111,115,115,79,114,105,103,105,110,34,58,116,114,117,101,44,34,116,111,112,79,114,105,103,105,110,34,58,34]) fun NW=>Bi (decide (ByteArray.size NW+ByteArray.size Oe<=9223372036854775807))<|Ab (NW++Oe) fun NV=>Bi (decide (ByteArray.size NV+2<=9223372036854775807))<|Ab (NV++ByteArray.mk #[34,125]) fun RK=>some (Ay.mk [.sc (.string RK),.sc (.int .i64 0)] [])))))))) (Bh (Br==2) (Bh (decide ((↑N8:Int)<1)) (some (Ay.mk [.sc (.string (ByteArray.mk #[])),.sc (.int .i64 9)] [])) (Bh (decide ((↑N8:Int)>64)) (some (Ay.mk [.sc (.string (ByteArray.mk #[])),.sc (.int .i64 9)] [])) (Ah (call 32 [.sc (.string Hh)]) fun TZ WS=>Ad WS<|Aa TZ fun RP WH=>Fq RP fun PH=>Aa PH fun YF ZX=>Aq YF fun ZA=>Aa ZX fun XT x85=>Az XT fun x86=>Aa x85 fun YR XW=>Ak .i64 YR fun XO=>Ad XW<|Aa WH fun x90 XS=>Ak .i64 x90 fun XY=>Ad XS<|Bh (XY != 0) (some (Ay.mk [.sc (.string (ByteArray.mk #[])),.sc (.int .i64 XY)] [])) (Bh (!Array.toList (ByteArray.data Oe)==Array.toList (ByteArray.data (ByteArray.mk #[]))) (Bh (!I0) (some (Ay.mk [.sc (.string (ByteArray.mk #[])),.sc (.int .i64 4)] [])) (Ah (call 12 [.lst false 1 N8 Bl]) fun x93 XZ=>Ad XZ<|Aa x93 fun x95 x96=>Az x95 fun VK=>Ad x96<|Bi (decide (35+ByteArray.size VK<=9223372036854775807))<|Ab (ByteArray.mk #[123,34,116,121,112,101,34,58,34]++ByteArray.mk #[112,97,115,115,107,101,121,46,103,101,116]++ByteArray.mk #[34,44,34,99,104,97,108,108,101,110,103,101,34,58,34]++VK) fun YB=>Bi (decide (ByteArray.size YB+12<=9223372036854775807))<|Ab (YB++ByteArray.mk #[34,44,34,111,114,105,103,105,110,34,58,34]) fun x99=>Bi (decide (ByteArray.size x99+ByteArray.size Hh<=9223372036854775807))<|Ab (x99++Hh) fun Tb=>Bh (!I0) (Bi (decide (ByteArray.size Tb+22<=9223372036854775807))<|Ab (Tb++ByteArray.mk #[34,44,34,99,114,111,115,115,79,114,105,103,105,110,34,58,102,97,108,115,101,125]) fun Z3=>some (Ay.mk [.sc (.string Z3),.sc (.int .i64 0)] [])) (Ah (call 32 [.sc (.string Oe)]) fun Wm Yk=>Ad Yk<|Aa Wm fun AL Qn=>Fq AL fun Xe=>Aa Xe fun Xc IG=>Aq Xc fun GB=>Aa IG fun BZ HD=>Az BZ fun KD=>Aa HD fun IA IW=>Ak .i64 IA fun LQ=>Ad IW<|Aa Qn fun GS HY=>Ak .i64 GS fun CM=>Ad HY<|Bh (CM != 0) (some (Ay.mk [.sc (.string (ByteArray.mk #[])),.sc (.int .i64 CM)] [])) (Bi (decide (ByteArray.size Tb+34<=9223372036854775807))<|Ab (Tb++ByteArray.mk #[34,44,34,99,114,111,115,115,79,114,105,103,105,110,34,58,116,114,117,101,44,34,116,111,112,79,114,105,103,105,110,34,58,34]) fun CR=>Bi (decide (ByteArray.size CR+ByteArray.size Oe<=9223372036854775807))<|Ab (CR++Oe) fun CF=>Bi (decide (ByteArray.size CF+2<=9223372036854775807))<|Ab (CF++ByteArray.mk #[34,125]) fun IP=>some (Ay.mk [.sc (.string IP),.sc (.int .i64 0)] []))))) (Ah (call 12 [.lst false 1 N8 Bl]) fun HN ID=>Ad ID<|Aa HN fun JI HB=>Az JI fun BO=>Ad HB<|Bi (decide (35+ByteArray.size BO<=9223372036854775807))<|Ab (ByteArray.mk #[123,34,116,121,112,101,34,58,34]++ByteArray.mk #[112,97,115,115,107,101,121,46,103,101,116]++ByteArray.mk #[34,44,34,99,104,97,108,108,101,110,103,101,34,58,34]++BO) fun CL=>Bi (decide (ByteArray.size CL+12<=9223372036854775807))<|Ab (CL++ByteArray.mk #[34,44,34,111,114,105,103,105,110,34,58,34]) fun CI=>Bi (decide (ByteArray.size CI+ByteArray.size Hh<=9223372036854775807))<|Ab (CI++Hh) fun Wy=>Bh (!I0) (Bi (decide (ByteArray.size Wy+22<=9223372036854775807))<|Ab (Wy++ByteArray.mk #[34,44,34,99,114,111,115,115,79,114,105,103,105,110,34,58,102,97,108,115,101,125]) fun CS=>some (Ay.mk [.sc (.string CS),.sc (.int .i64 0)] [])) (Ah (call 32 [.sc (.string Oe)]) fun IM IR=>Ad IR<|Aa IM fun CG JG=>Fq CG fun HM=>Aa HM fun JF HC=>Aq JF fun KC=>Aa HC fun GL CJ=>Az GL fun KG=>Aa CJ fun HF AK=>Ak .i64 HF fun BG=>Ad AK<|Aa JG fun HW BQ=>Ak .i64 HW fun CE=>Ad BQ<|Bh (CE != 0) (some (Ay.mk [.sc (.string (ByteArray.mk #[])),.sc (.int .i64 CE)] [])) (Bi (decide (ByteArray.size Wy+34<=9223372036854775807))<|Ab (Wy++ByteArray.mk #[34,44,34,99,114,111,115,115,79,114,105,103,105,110,34,58,116,114,117,101,44,34,116,111,112,79,114,105,103,105,110,34,58,34]) fun BX=>Bi (decide (ByteArray.size BX+ByteArray.size Oe<=9223372036854775807))<|Ab (BX++Oe) fun KZ=>Bi (decide (ByteArray.size KZ+2<=9223372036854775807))<|Ab (KZ++ByteArray.mk #[34,125]) fun MQ=>some (Ay.mk [.sc (.string MQ),.sc (.int .i64 0)] [])))))))) (some (Ay.mk [.sc (.string (ByteArray.mk #[])),.sc (.int .i64 3)] [])))) (Ae (CP p) prog fu d):=by kernel_rfl
abbrev Iq:FuncId:=8
theorem Pf {p:Option (List PV->Option Ay)} (fu d:Nat):Ae (CP p) prog fu (d+1) Iq []=(fun (call:Ax)=>Ah (call 18 [.agg [.sc (.int .i64 2),.lst false 1 2 [.sc (.int .u8 251),.sc (.int .u8 255)],.sc (.string (ByteArray.mk #[104,116,116,112,115,58,47,47,97,46,98])),.sc (.bool false),.sc (.string (ByteArray.mk #[]))]]) fun x1 x2=>Ad x2<|Aa x1 fun x3 x4=>Az x3 fun x5=>Aa x4 fun x6 x7=>Ak .i64 x6 fun x8=>Ad x7<|Ah (call 19 [.sc (.string x5)]) fun x9 Fv=>Ad Fv<|Aa x9 fun Lr L3=>Fq Lr fun Ff=>Aa Ff fun Je Mb=>Ak .i64 Je fun K2=>Aa Mb fun I4 Lw=>Sa 1 I4 fun L4 Ml Mi=>Aa Lw fun N6 K4=>Az N6 fun Nq=>Aa K4 fun L1 L5=>Aq L1 fun Mk=>Aa L5 fun Oi Me=>Az Oi fun Oa=>Ad Me<|Aa L3 fun Om Oc=>Ak .i64 Om fun M9=>Ad Oc<|Bh (x8==0) (Bh (M9==0) (Bh (Array.toList (ByteArray.data x5)==Array.toList (ByteArray.data (ByteArray.mk (List.toArray (List.append [123,34,116,121,112,101,34,58,34,112,97,115,115,107,101,121,46,103,101,116,34,44,34,99,104,97,108,108,101,110,103,101,34,58,34,45,95,56,34,44,34] [111,114,105,103,105,110,34,58,34,104,116,116,112,115,58,47,47,97,46,98,34,44,34,99,114,111,115,115,79,114,105,103,105,110,34,58,102,97,108,115,101,125]))))) (Ah (call 20 [.agg [.sc (.int .i64 2),.lst false 1 2 [.sc (.int .u8 251),.sc (.int .u8 255)],.sc (.string (ByteArray.mk #[104,116,116,112,115,58,47,47,97,46,98])),.sc (.bool false),.sc (.string (ByteArray.mk #[]))],.agg [.sc (.int .i64 K2),.lst false 1 Ml Mi,.sc (.string Nq),.sc (.bool Mk),.sc (.string Oa)]]) fun Ol Pj=>Ad Pj<|Aa Ol fun Q7 Se=>Aq Q7 fun S1=>Ad Se<|some (Ay.mk [.sc (.bool S1)] [])) (some (Ay.mk [.sc (.bool false)] []))) (some (Ay.mk [.sc (.bool false)] []))) (some (Ay.mk [.sc (.bool false)] []))) (Ae (CP p) prog fu d):=by kernel_rfl
abbrev Gk:FuncId:=7
theorem K3 {p:Option (List PV->Option Ay)} (fu d:Nat)(a0:ByteArray):Ae (CP p) prog fu (d+1) Gk [.sc (.string a0)]=(fun (call:Ax)=>Bh (decide ((↑(ByteArray.size a0):Int)>2000)) (Ah (call 8 []) fun x1 x2=>Ad x2<|Aa x1 fun x3 x4=>Aq x3 fun x5=>Ad x4<|Bh x5 (some (Ay.mk [.sc (.bool true)] [])) (Ah (call 21 [.sc (.string a0)]) fun x6 x7=>Ad x7<|Aa x6 fun x8 x9=>Ak .u64 x8 fun Fv=>Ad x9<|Ah (call 22 [.sc (.string a0)]) fun Lr L3=>Ad L3<|Aa Lr fun Ff Je=>Ak .u64 Ff fun Mb=>Ad Je<|Bh (Fv==Mb) (Ah (call 8 []) fun K2 I4=>Ad I4<|Aa K2 fun Lw L4=>Aq Lw fun Ml=>Ad L4<|some (Ay.mk [.sc (.bool Ml)] [])) (some (Ay.mk [.sc (.bool false)] [])))) (Ah (call 21 [.sc (.string a0)]) fun Mi N6=>Ad N6<|Aa Mi fun K4 Nq=>Ak .u64 K4 fun L1=>Ad Nq<|Ah (call 22 [.sc (.string a0)]) fun L5 Mk=>Ad Mk<|Aa L5 fun Oi Me=>Ak .u64 Oi fun Oa=>Ad Me<|Bh (L1==Oa) (Ah (call 8 []) fun Om Oc=>Ad Oc<|Aa Om fun M9 Ol=>Aq M9 fun Pj=>Ad Ol<|some (Ay.mk [.sc (.bool Pj)] [])) (some (Ay.mk [.sc (.bool false)] [])))) (Ae (CP p) prog fu d):=by kernel_rfl
end
section
open Go.Proofs.Tryd (prog)
open Go.IntKind (wrap)
set_option maxRecDepth 100000
def awT:List Int:=[123,34,116,121,112,101,34,58,34,112,97,115,115,107,101,121,46,103,101,116,34,44,34,99,104,97,108,108,101,110,103,101,34,58,34,45,95,56,34,44,34,111,114,105,103,105,110,34,58,34,104,116,116,112,115,58,47,47,97,46,98,34,44,34,99,114,111,115,115,79,114,105,103,105,110,34,58,102,97,108,115,101,125]
def awO:List Int:=[104,116,116,112,115,58,47,47,97,46,98]
theorem Ad4:F2 awO=0:=by decide +kernel
theorem VG:Lt (Ac awT)=.ok (2,[251,255],awO,false,[]):=by kernel_rfl
section
variable {fu d:Nat}
theorem Agh (Ev:200<=fu):Ae C1 prog fu (d+9) Iq []=some ⟨[.sc (.bool true)],[]⟩:=by
 obtain⟨o1,o2,o3,ho⟩:=Ahy (fu:=fu) (d:=d) (p:=some I6) (l:=awO) (fun x hx=>by simp[awO] at hx;omega) (by decide) Ev
 rw[Ad4] at ho;have h32:Ae C1 prog fu (d+7) 32 [.sc (.string (ByteArray.mk #[(104:UInt8),(116:UInt8),(116:UInt8),(112:UInt8),(115:UInt8),(58:UInt8),(47:UInt8),(47:UInt8),(97:UInt8),(46:UInt8),(98:UInt8)]))]=_:=ho;have h12:Ae C1 prog fu (d+7) 12 [.lst false 1 2 [.sc (.int .u8 251),.sc (.int .u8 255)]]=some ⟨[.sc (.string (Ac [45,95,56]))],[]⟩:=by kernel_rfl
 have h18:Ae C1 prog fu (d+8) 18 [.agg [.sc (.int .i64 2),.lst false 1 2 [.sc (.int .u8 251),.sc (.int .u8 255)],.sc (.string (ByteArray.mk #[(104:UInt8),(116:UInt8),(116:UInt8),(112:UInt8),(115:UInt8),(58:UInt8),(47:UInt8),(47:UInt8),(97:UInt8),(46:UInt8),(98:UInt8)])),.sc (.bool false),.sc (.string (ByteArray.mk #[]))]]=some ⟨[.sc (.string (Ac awT)),.sc (.int .i64 0)],[]⟩:=by
  refine (Qr (p:=some I6) fu (d+7) _ _ _ _ _ _).trans ?_;have a1:((2:Int)==1)=false:=rfl;have a2:((2:Int)==2)=true:=rfl;have a3:decide (((2:Nat):Int)<1)=false:=rfl;have a4:decide (((2:Nat):Int)>64)=false:=rfl;have a5:((0:Int) != 0)=false:=rfl;have a6:(!Array.toList (ByteArray.mk #[]).data==Array.toList (ByteArray.mk #[]).data)=false:=rfl;simp only[Ej,a1,a2,a3,a4,a5,a6,h32,h12,D2];show _=some (Ay.mk [.sc (.string (Ac awT)),.sc (.int .i64 0)] [])
  first|kernel_rfl|rfl
 have h19:Ae C1 prog fu (d+8) 19 [.sc (.string (Ac awT))]=some ⟨[.agg [.sc (.int .i64 2),.lst false 1 2 [.sc (.int .u8 251),.sc (.int .u8 255)],.sc (.string (Ac awO)),.sc (.bool false),.sc (.string (Ac []))],.sc (.int .i64 0)],[]⟩:=by
  have e:Ae C1 prog fu (d+8) 19 [.sc (.string (Ac awT))]=I6 [.sc (.string (Ac awT))]:=rfl;rw[e];unfold I6;have hs:decide ((Ac awT).size<=9223372036854775807)=true:=rfl;simp only[hs,cond_true,VG];rfl
 have h20:Ae C1 prog fu (d+8) 20 [.agg [.sc (.int .i64 2),.lst false 1 2 [.sc (.int .u8 251),.sc (.int .u8 255)],.sc (.string (ByteArray.mk #[(104:UInt8),(116:UInt8),(116:UInt8),(112:UInt8),(115:UInt8),(58:UInt8),(47:UInt8),(47:UInt8),(97:UInt8),(46:UInt8),(98:UInt8)])),.sc (.bool false),.sc (.string (ByteArray.mk #[]))],.agg [.sc (.int .i64 2),.lst false 1 2 [.sc (.int .u8 251),.sc (.int .u8 255)],.sc (.string (Ac awO)),.sc (.bool false),.sc (.string (Ac []))]]=some ⟨[.sc (.bool true)],[]⟩:=
  (Ma (p:=some I6) fu (d+7) _ _ _ _ _ _ _ _ _ _ _ _).trans (by kernel_rfl)
 refine (Pf (p:=some I6) fu (d+8)).trans ?_;have b1:((0:Int)==0)=true:=rfl
 have b2:(Array.toList (Ac awT).data==Array.toList (ByteArray.mk (List.toArray (List.append [(123:UInt8),(34:UInt8),(116:UInt8),(121:UInt8),(112:UInt8),(101:UInt8),(34:UInt8),(58:UInt8),(34:UInt8),(112:UInt8),(97:UInt8),(115:UInt8),(115:UInt8),(107:UInt8),(101:UInt8),(121:UInt8),(46:UInt8),(103:UInt8),(101:UInt8),(116:UInt8),(34:UInt8),(44:UInt8),(34:UInt8),(99:UInt8),(104:UInt8),(97:UInt8),(108:UInt8),(108:UInt8),(101:UInt8),(110:UInt8),(103:UInt8),(101:UInt8),(34:UInt8),(58:UInt8),(34:UInt8),(45:UInt8),(95:UInt8),(56:UInt8),(34:UInt8),(44:UInt8),(34:UInt8)] [(111:UInt8),(114:UInt8),(105:UInt8),(103:UInt8),(105:UInt8),(110:UInt8),(34:UInt8),(58:UInt8),(34:UInt8),(104:UInt8),(116:UInt8),(116:UInt8),(112:UInt8),(115:UInt8),(58:UInt8),(47:UInt8),(47:UInt8),(97:UInt8),(46:UInt8),(98:UInt8),(34:UInt8),(44:UInt8),(34:UInt8),(99:UInt8),(114:UInt8),(111:UInt8),(115:UInt8),(115:UInt8),(79:UInt8),(114:UInt8),(105:UInt8),(103:UInt8),(105:UInt8),(110:UInt8),(34:UInt8),(58:UInt8),(102:UInt8),(97:UInt8),(108:UInt8),(115:UInt8),(101:UInt8),(125:UInt8)]))).data)=true:=by kernel_rfl
 have b3:decide (0+2*1<=List.length [PV.sc (.int .u8 251),PV.sc (.int .u8 255)])=true:=rfl;have b4:List.take (2*1) (List.drop 0 [PV.sc (.int .u8 251),PV.sc (.int .u8 255)])=[PV.sc (.int .u8 251),PV.sc (.int .u8 255)]:=rfl;simp only[Ej,h18,h19,b1,b2,b3,b4,h20]
end
end
section
open Go.Proofs.Tryd (prog)
open Go.IntKind (wrap)
set_option maxRecDepth 100000
section
variable {fu d:Nat} {p:Option (List PV->Option Ay)}
theorem Za (s:ByteArray):List.take (s.size*1) (List.drop 0 (Eu s))=Dv .u8 (D1 s):=by
 rw[Vr,List.drop_zero,Zzf (by rw[Ky,Es];omega)]
theorem DM (s:ByteArray):decide (0+s.size*1<=(Eu s).length)=true:=by
 rw[Vr,Ky,Es];simp
theorem Aen {s:ByteArray}(hs:s.size<=2000)(Ev:3000<=fu):Ae (CP p) prog fu (d+6) Li [.sc (.string s)]=some ⟨[.sc (.int .u64 (Wc 11 (D1 s)))],[]⟩:=by
 have h:Ae (CP p) prog fu (d+5) 36 [.sc (.int .i64 11),.lst false 1 s.size (Dv .u8 (D1 s))]=some ⟨[.sc (.int .u64 (Wc 11 (D1 s)))],[]⟩:=by
  have:=Af3 (xs:=RG p) (fu:=fu) (d:=d) (l:=D1 s) (HI s) (by rw[Es];omega) (by omega) (by rw[Es];omega) 11
  rwa [Es] at this
 have a1:decide (s.size<=1099511627776)=true:=dT (by omega)
 rw[S6];simp only[Ej,a1,DM,Za,h]
theorem Acf {s:ByteArray}(hs:s.size<=2000)(Ev:3000<=fu):Ae (CP p) prog fu (d+6) G7 [.sc (.string s)]=some ⟨[.sc (.int .u64 (Wc 11 (D1 s)))],[]⟩:=by
 have h:Ae (CP p) prog fu (d+5) 37 [.sc (.int .i64 11),.lst false 1 s.size (Dv .u8 (D1 s))]=some ⟨[.sc (.int .u64 (Wc 11 (D1 s)))],[]⟩:=by
  have:=Ab5 (xs:=RG p) (fu:=fu) (d:=d+1) (l:=D1 s) (HI s) (by rw[Es];omega) (by omega) (by rw[Es];omega) 11
  rwa [Es] at this
 have a1:decide (s.size<=1099511627776)=true:=dT (by omega)
 rw[Mz];simp only[Ej,a1,DM,Za,h]
end
set_option maxHeartbeats 1000000 in
theorem dataHashes_plain (qs:List PV)(h:Bb (WTv prog) [9] qs):∃fu d,Ae C1 prog fu d Gk qs=some ⟨[.sc (.bool true)],[]⟩:=by
 obtain⟨q0,_,rfl,h0,g⟩:=h.cons_inv;obtain rfl:=g.nil_inv;clear h g;obtain⟨s,rfl,_⟩:=Agm (P:=prog) (by kernel_rfl) (by kernel_rfl) h0
 clear h0;obtain⟨fu,Ev⟩:∃fu,fu=30000:=⟨_,rfl⟩;refine⟨fu,10,?_⟩;refine (K3 (p:=some I6) fu 9 s).trans ?_;have aw:Ae C1 prog fu 9 8 []=_:=Agh (fu:=fu) (d:=0) (by omega)
 by_cases hn:2000<s.size
 ·have a1:=dT (q:=((s.size:Nat):Int)>2000) (by omega)
  simp only[Ej,a1,aw]
 ·have a1:=dF (q:=((s.size:Nat):Int)>2000) (by omega)
  have e1:Ae C1 prog fu 9 21 [.sc (.string s)]=_:=Aen (fu:=fu) (d:=3) (p:=some I6) (by omega) (by omega)
  have e2:Ae C1 prog fu 9 22 [.sc (.string s)]=_:=Acf (fu:=fu) (d:=3) (p:=some I6) (by omega) (by omega)
  have a2:(Wc 11 (D1 s)==Wc 11 (D1 s))=true:=by simp
  simp only[Ej,a1,e1,e2,a2,aw]
section
variable {fu:Nat}
end
end
end Go.Proofs.YtodnjibebeghjaaDoor.Pv
