/-
  The proof of DataHashes, part 5.
-/
import Derived.Test.YtodnjibebeghjaaDoorHD
import Derived.Test.YtodnjibebeghjaaDoorRows
import Derived.Laws.ResultCell
set_option linter.unusedSimpArgs false
set_option linter.unusedVariables false
namespace Go.Proofs.YtodnjibebeghjaaDoor.Pv
section
open Go.Proofs.Tryd (prog)
open Go.IntKind (wrap)
set_option maxRecDepth 1000000
open Go Go.RowKit Go.Lib
theorem Je.keep {w w':World}{b o n:Nat}(h:Je w b)(k:D9 w w' b o n):Je w' b:=
 ⟨gU.stable w w' (fun j hj hl=>k.other j hl (h.bl j hj).2) h.ok,fun j hj=>⟨Nat.lt_of_lt_of_le (h.bl j hj).1 k.size,(h.bl j hj).2⟩⟩
theorem Yj.keep {w w':World}{b mb o n:Nat}{ms:List (List Int × JV)} (h:Yj w mb ms)(k:D9 w w' b o n)(Ec:mb≠b):Yj w' mb ms:=by
 have B4:mb<w.heap.size:=(Array.getElem?_eq_some_iff.1 h).1;exact (k.other mb B4 Ec).trans h
structure Di (w w':World) (b mb:Nat):Prop where
 os:w'.os=w.os
 tape:w'.tape=w.tape
 output:w'.output=w.output
 size:w.heap.size<=w'.heap.size
 other:∀k,k<w.heap.size->k≠b->k≠mb->w'.heap[k]?=w.heap[k]?
theorem Di.of {w w':World}{b mb o n:Nat}(k:D9 w w' b o n):Di w w' b mb:=⟨k.os,k.tape,k.output,k.size,fun j hj hb _=>k.other j hj hb⟩
theorem Je.below {w w':World}{b:Nat}(h:Je w b)(k:Below w.heap.size w w'):Je w' b:=
 ⟨gU.stable w w' (fun j _ hl=>k.block j hl) h.ok,fun j hj=>⟨Nat.lt_of_lt_of_le (h.bl j hj).1 k.size,(h.bl j hj).2⟩⟩
theorem Yj.below {w w':World}{mb:Nat}{ms:List (List Int × JV)} (h:Yj w mb ms)(k:Below w.heap.size w w'):Yj w' mb ms:=by
 have B4:mb<w.heap.size:=(Array.getElem?_eq_some_iff.1 h).1;exact (k.block mb B4).trans h
theorem Di.trans {w w' w'':World}{b mb:Nat}(h:Di w w' b mb)(k:Di w' w'' b mb):Di w w'' b mb:=
 ⟨k.os.trans h.os,k.tape.trans h.tape,k.output.trans h.output,Nat.le_trans h.size k.size,fun i hi h1 h2=>(k.other i (Nat.lt_of_lt_of_le hi h.size) h1 h2).trans (h.other i hi h1 h2)⟩
theorem QM:∀(n:Nat)(out l s q:List Int),Do out->Do l->Jb n out l=(some s,q)->Do s
  |0,_,_,_,_,_,_,h=>by cases h
  |_+1,_,[],_,_,_,_,h=>by cases h
  |n+1,out,c::l,s,q,ho,hl,h=>by
    have e:Jb (n+1) out (c::l)=if c<32 then (none,c::l) else if c=34 then (some out,l) else if c=92 then
        (match Lt l with
         |(some x,r')=>Jb n (out++Lib.encodeRuneZ x) r'
         |(none,r')=>(none,r')) else Jb n (out++[c]) l:=rfl
    have On:=C5 hl
    rw[e] at h
    split at h
    · cases h
    split at h
    · cases h;exact ho
    split at h
    · have h2:=Pk (Cz.self On.2)
      rcases hq:Lt l with⟨o,r⟩
      rw[hq] at h2 h
      cases o with
      |none=>cases h
      |some x=>exact QM n _ r s q (Kd ho (fun y hy=>by have:=Lib.encodeRuneZ_byte x y hy;omega)) (by have:=h2.B;exact this) h
    · exact QM n _ l s q (Kd ho (fun y hy=>by simp at hy;omega)) On.2 h
theorem TH {l s q:List Int}(hl:Do l)(h:Er l=(some s,q)):Do s:=by
 cases l with
 |nil=>cases h
 |cons c l=>
  have e:Er (c::l)=if c=34 then Jb (l.length+1) [] l else (none,c::l):=rfl
  rw[e] at h;split at h
  ·exact QM _ _ _ _ _ (fun x hx=>by cases hx) (C5 hl).2 h
  ·cases h
theorem Di.below {w w':World}{b mb:Nat}(k:Below w.heap.size w w'):Di w w' b mb:=⟨k.os,k.tape,k.output,k.size,fun i hi _ _=>k.block i hi⟩
theorem Afb {P:Program}{t k e:TypeId}(hu:P.underlying t=some (.map k e)) (mb:Nat)(w:World):(binOp .neq t (.map (some mb)) (.map none)).run P w=.ok (.bool true) w:=by
 have h:∀d,(Op.equalIn (d+1) t (.map (some mb)) (.map none)).run P w=.ok false w:=fun d=>by
  simp[Op.equalIn,run_underlying hu]
 simp only[binOp];simp[Op.equal,Op.maxDepth,h 9999]
theorem Ab8 (nm:List Int)(ms:List (List Int × JV)):(ms.any fun m=>m.1==nm)=(Js nm ms).isSome:=by
 unfold Js
 induction ms with
 |nil=>rfl
 |cons m r ih=>
  by_cases h:m.1=nm
  ·rw[List.find?_cons_of_pos (by simp[h])]
   simp[h]
  ·rw[List.find?_cons_of_neg (by simp[h]),←ih]
   simp[h]
theorem Vi (V:List Int->JR (JV × List Int)) (kp:Bool)(l:List Int):Ss V kp l=match Ap [125] (Bd l) with|some r=>.ok ([],r)|none=>Qk V kp ((Bd l).length+1) [] (Bd l):=by
 unfold Ss;rw[Fi];cases Bd l with
 |nil=>rfl
 |cons y s=>
  by_cases hy:y=125
  ·subst hy;rfl
  ·simp only[Dz hy];split
   ·rename_i e;injection e with e1 _;exact absurd e1 hy
   ·rfl
theorem Zv {W:World}{mb b:Nat}{ob:Obj}(Ec:mb≠b):({ W with heap:=W.heap.setIfInBounds mb ob }:World).heap[b]?=W.heap[b]?:=Array.getElem?_setIfInBounds_ne Ec
theorem Tt.put {W:World}{b o mb:Nat}{t:ByteArray}{r:List Int}{ob:Obj}(h:Tt W b o t r)(Ec:mb≠b):Tt { W with heap:=W.heap.setIfInBounds mb ob } b o t r:=by
 have e:=Zv (W:=W) (ob:=ob) Ec;refine⟨by simpa using h.lt,(World.cell?_of_block e).trans h.c0,(World.cell?_of_block e).trans h.c1,?_,?_⟩
 ·have:=h.f0;unfold World.frozen? at this ⊢;simp only[e] at this ⊢;exact this
 ·have:=h.f1;unfold World.frozen? at this ⊢;simp only[e] at this ⊢;exact this
theorem Je.put {W:World}{b mb:Nat}{ob:Obj}(h:Je W b)(hmU:¬gU.bl mb):Je { W with heap:=W.heap.setIfInBounds mb ob } b:=
 ⟨gU.stable W _ (fun j hj _=>Zv (fun e=>hmU (e ▸ hj))) h.ok,fun j hj=>⟨by simpa using (h.bl j hj).1,(h.bl j hj).2⟩⟩
theorem Di.put {W:World}{b mb:Nat}{ob:Obj}:Di W { W with heap:=W.heap.setIfInBounds mb ob } b mb:=
 ⟨rfl,rfl,rfl,by simp,fun k _ _ h=>Zv (fun e=>h e.symm)⟩
theorem Yj.put {W:World}{mb n:Nat}{ms ms':List (List Int × JV)} (h:Yj W mb ms)(hn:ms'.length=n):Yj { W with heap:=W.heap.setIfInBounds mb (.map (Hj 0 ms').toArray n) } mb ms':=by
 have B4:mb<W.heap.size:=(Array.getElem?_eq_some_iff.1 h).1;subst hn;exact Array.getElem?_setIfInBounds_self_of_lt B4
def RoP (w':World)(mb:Nat)(l r':List Int)(e:Ending):Prop:=
 match Ap [123] l with
 |some l'=>(match Ss (Fg 8) true l' with
  |.ok (ms,q)=>r'=q∧e=.returned (.int .i64 0)∧Yj w' mb ms
  |.error er=>er≠0∧e=.returned (.int .i64 er))
 |none=>e=.returned (.int .i64 2)
set_option maxHeartbeats 4000000 in
theorem Agb {t:ByteArray}{l:List Int}(hS:Cz t l)(ht:t.size<=1000000){w:World}{b o mb:Nat}(hU:Je w b)(h:Tt w b o t l)(hM:Yj w mb []) (GB:mb≠b)(hmU:¬gU.bl mb):
  Calls prog 51 #[.pointer (some ⟨b,o,none⟩),.int .i64 1,.map (some mb)] w fun e w'=>Di w w' b mb∧∃r',Cz t r'∧Tt w' b o t r' ∧
   RoP w' mb l r' e:=by
 have mixed:prog.follows Departure.mixedOrders=true:=by kernel_rfl
 have hac:=Ge hS ht (w0:=[123]) (fun x hx=>by simp at hx;omega) (by decide) h
 go_enter Tryd.func51,Tryd.ntmps51
 go_wp2_with (go_at_call 67;refine hac.mono ?_)
 rintro e W1 ⟨rfl,h1,k1⟩
 cases hq:Ap [123] l with
 |none=>
  rw[hq] at h1
  go_wp2
  go_ret
  exact⟨Di.of k1,l,hS,h1,by unfold RoP;rw[hq];rfl⟩
 |some l'=>
  rw[hq] at h1;have UV:=Ao hS hq;have hsk:=Gy UV ht (hU.keep k1) h1
  go_wp2_with (go_at_call 50;refine hsk.mono ?_)
  rintro e W2 ⟨rfl,h2,k2⟩
  have Rn:=Bm UV;have Ayi:=Ge Rn ht (w0:=[125]) (fun x hx=>by simp at hx;omega) (by decide) h2
  go_wp2_with (go_at_call 67;refine Ayi.mono ?_)
  rintro e W3 ⟨rfl,h3,k3⟩
  cases J5:Ap [125] (Bd l') with
  |some r3=>
   rw[J5] at h3
   go_wp2
   go_ret
   refine⟨((Di.of k1).trans (Di.of k2)).trans (Di.of k3),r3,Ao Rn J5,h3,?_⟩;unfold RoP;rw[hq];simp only;rw[Vi,J5];exact⟨rfl,rfl,((hM.keep k1 GB).keep k2 GB).keep k3 GB⟩
  |none=>
   rw[J5] at h3
   have hRo:∀w' r' e,(match Qk (Fg 8) true ((Bd l').length+1) [] (Bd l') with
     |.ok (ms,q)=>r'=q∧e=.returned (.int .i64 0)∧Yj w' mb ms
     |.error er=>er≠0∧e=.returned (.int .i64 er))->RoP w' mb l r' e:=by
    intro w' r' e h;unfold RoP;rw[hq];simp only;rw[Vi,J5];exact h
   have hU3:=((hU.keep k1).keep k2).keep k3;have hM3:=((hM.keep k1 GB).keep k2 GB).keep k3 GB;have I1:Di w W3 b mb:=((Di.of k1).trans (Di.of k2)).trans (Di.of k3)
   go_wp2
   go_loopw [] (fun wr=>∃(n:Nat) (ms:List (List Int × JV)) (x:List Int),Qk (Fg 8) true ((Bd l').length+1) [] (Bd l')=Qk (Fg 8) true n ms x∧x.length<n∧Cz t x∧Tt wr b o t x∧Yj wr mb ms∧(∀m∈ms,Do m.1)∧Je wr b∧Di w wr b mb) (fun wr=>match wr.cell? ⟨b,o+1,none⟩ with|some (.int _ p)=>t.size-p.toNat|_=>0)
   case atStart=>
    exact⟨_,[],Bd l',rfl,Nat.lt_succ_self _,Rn,h3,hM3,(fun m hm=>by cases hm),hU3,I1⟩
   case round=>
    obtain⟨n,ms,x,E8,hn,hSx,hat,hMx,hBx,hUx,hkx⟩:=hrel;have XY:Calls prog 68 #[.pointer (some ⟨b,o,none⟩)] wr fun e w'=>e=.returned (.tuple #[.string (Ac ((Er x).1.getD [])),.bool (Er x).1.isSome])∧Tt w' b o t (Er x).2∧D9 wr w' b o 2:=MS hSx ht hat
    go_wp2_with (go_at_call 68;refine XY.mono ?_)
    rintro e W4 ⟨rfl,h4,k4⟩
    obtain⟨m,rfl⟩:∃m,n=m+1:=⟨n-1,by omega⟩
    rw[AM (Fg 8) true m ms x] at E8;have Qy:Di w W4 b mb:=hkx.trans (Di.of k4);have Xw:=Gf hSx;rcases hx:Er x with⟨o4,q4⟩;rw[hx] at h4 E8 Xw;cases o4 with
    |none=>
     go_wp2
     go_ret
     exact⟨Qy,q4,Xw,h4,hRo _ _ _ (by rw[E8];exact⟨by decide,rfl⟩)⟩
    |some nm=>
     have CY:=TH hSx.B hx;have hM4:=hMx.keep k4 GB;have hlk:=Yt hM4 hBx CY true;simp only[Bool.true_and,Ab8] at E8;cases hl:Js nm ms with
     |some v=>
      rw[hl] at hlk E8;have hvm:LC nm ms=.agg #[.int .i64 v.1,.string (Ac v.2.1),.bool v.2.2]:=by unfold LC;rw[hl];rfl
      rw[hvm] at hlk
      go_wp2
      go_ret
      have Ng:=fun ob=>(Below.refl W4.heap.size W4).alloc (Nat.le_refl _) ob
      exact⟨Qy.trans (Di.below (Ng _)),q4,Xw,h4.below (Ng _) h4.lt,hRo _ _ _ (by rw[E8];exact⟨by decide,rfl⟩)⟩
     |none=>
      rw[hl] at hlk E8;have hvm:LC nm ms=.agg #[.int .i64 0,.string ⟨#[]⟩,.bool false]:=by unfold LC;rw[hl];rfl
      rw[hvm] at hlk;have Ng:Below W4.heap.size W4 (W4.alloc (.cells #[.int .i64 0,.string ⟨#[]⟩,.bool false] 95)):=(Below.refl W4.heap.size W4).alloc (Nat.le_refl _) _;have h5:=h4.below Ng h4.lt;have hM5:=hM4.below Ng;have hU5:=(hUx.keep k4).below Ng;have PH:=Qy.trans (Di.below (b:=b) (mb:=mb) Ng);have Am5:=Gy Xw ht hU5 h5
      go_wp2_with (go_at_call 50;refine Am5.mono ?_)
      rintro e W6 ⟨rfl,h6,k6⟩
      have Fq:=Bm Xw;have A0h:=Ge Fq ht (w0:=[58]) (fun x hx=>by simp at hx;omega) (by decide) h6
      go_wp2_with (go_at_call 67;refine A0h.mono ?_)
      rintro e W7 ⟨rfl,h7,k7⟩
      have hk7:=(PH.trans (Di.of k6)).trans (Di.of k7);cases hq7:Ap [58] (Bd q4) with
      |none=>
       rw[hq7] at h7
       go_wp2
       go_ret
       exact⟨hk7,Bd q4,Fq,h7,hRo _ _ _ (by rw[E8];simp only[Option.isSome_none,Bool.false_eq_true,if_false,hq7];exact⟨by decide,rfl⟩)⟩
      |some r7=>
       rw[hq7] at h7;have hS7:=Ao Fq hq7;have hU7:=(hU5.keep k6).keep k7;have hM7:=(hM5.keep k6 GB).keep k7 GB;have Axe:=Gy hS7 ht hU7 h7
       go_wp2_with (go_at_call 50;refine Axe.mono ?_)
       rintro e W8 ⟨rfl,h8,k8⟩
       have hS8:=Bm hS7;have hvc:=XC hS8 ht (hU7.keep k8) h8
       go_wp2_with (go_at_call 69;refine hvc.mono ?_)
       rintro e W9 ⟨r9,h9,k9,hv9⟩
       have hk9:=(hk7.trans (Di.of k8)).trans (Di.of k9)
       have VY:Qk (Fg 8) true ((Bd l').length+1) [] (Bd l')=match Fg 8 (Bd r7) with
         |.error e=>.error e
         |.ok (v,r2)=>match Ap [125] (Bd r2) with
          |some r3=>.ok (ms++[(nm,v)],r3)
          |none=>match Ap [44] (Bd r2) with
           |some r3=>Qk (Fg 8) true m (ms++[(nm,v)]) (Bd r3)
           |none=>.error 2:=by
        rw[E8];simp only[Option.isSome_none,Bool.false_eq_true,if_false,hq7];rcases Fg 8 (Bd r7) with e|⟨v,r2⟩
        ·rfl
        ·simp only;cases Ap [125] (Bd r2)<;>cases Ap [44] (Bd r2)<;>rfl
       unfold Anb at hv9;cases hv:Fg 8 (Bd r7) with
       |error er=>
        rw[hv] at hv9 VY;obtain⟨he,hs9,u,rfl⟩:=hv9;unfold Ph;have hbe:(er != (0:Int))=true:=by simp[he]
        go_wp2
        go_ret
        have PG:=fun ob=>(Below.refl W9.heap.size W9).alloc (Nat.le_refl _) ob
        exact⟨hk9.trans (Di.below (PG _)),r9,hs9,h9.below (PG _) h9.lt,hRo _ _ _ (by rw[VY];exact⟨he,rfl⟩)⟩
       |ok x9=>
        obtain⟨v9,q9⟩:=x9;rw[hv] at hv9 VY;obtain⟨rfl,hq9,rfl⟩:=hv9;unfold Ph;have PG:Below W9.heap.size W9 (W9.alloc (.cells #[.int .i64 v9.1,.string (Ac v9.2.1),.bool v9.2.2] 95)):=(Below.refl W9.heap.size W9).alloc (Nat.le_refl _) _;have h10:=h9.below PG h9.lt;have Ast:=((hM7.keep k8 GB).keep k9 GB).below PG;have A12:=((hU7.keep k8).keep k9).below PG;have A3s:=hk9.trans (Di.below (b:=b) (mb:=mb) PG);have hup:=PU Ast hBx CY hl v9;unfold Ph at hup;have Ec:=Afb Tryd.underlying68 mb;have hS9:=hS8.trans hq9;have h11:=h10.put (mb:=mb) (ob:=.map (Hj 0 (ms++[(nm,v9)])).toArray (ms.length+1)) GB;have Apu:=A12.put (ob:=.map (Hj 0 (ms++[(nm,v9)])).toArray (ms.length+1)) hmU;have hln:(ms++[(nm,v9)]).length=ms.length+1:=by simp
        rw[hln] at hup;have Ark:=Ast.put (ms':=ms++[(nm,v9)]) hln;have A0i:=A3s.trans (Di.put (b:=b) (ob:=.map (Hj 0 (ms++[(nm,v9)])).toArray (ms.length+1)));have Ao2:=Gy hS9 ht Apu h11
        go_wp2_with (go_at_call 50;refine Ao2.mono ?_)
        rintro e W12 ⟨rfl,h12,k12⟩
        have YM:=Bm hS9;have Ar7:=Ge YM ht (w0:=[125]) (fun x hx=>by simp at hx;omega) (by decide) h12
        go_wp2_with (go_at_call 67;refine Ar7.mono ?_)
        rintro e W13 ⟨rfl,h13,k13⟩
        have Aqp:=(A0i.trans (Di.of k12)).trans (Di.of k13);cases VK:Ap [125] (Bd r9) with
        |some r13=>
         rw[VK] at h13
         go_wp2
         go_ret
         exact⟨Aqp,r13,Ao YM VK,h13,hRo _ _ _ (by rw[VY];simp only;rw[VK];exact⟨rfl,rfl,(Ark.keep k12 GB).keep k13 GB⟩)⟩
        |none=>
         rw[VK] at h13;have Art:=Ge YM ht (w0:=[44]) (fun x hx=>by simp at hx;omega) (by decide) h13
         go_wp2_with (go_at_call 67;refine Art.mono ?_)
         rintro e W14 ⟨rfl,h14,k14⟩
         have Apz:=Aqp.trans (Di.of k14);cases UH:Ap [44] (Bd r9) with
         |none=>
          rw[UH] at h14
          go_wp2
          go_ret
          exact⟨Apz,Bd r9,YM,h14,hRo _ _ _ (by rw[VY];simp only;rw[VK];simp only;rw[UH];exact⟨by decide,rfl⟩)⟩
         |some r14=>
          rw[UH] at h14;have Aqi:=Ao YM UH;have Aqw:=((Apu.keep k12).keep k13).keep k14;have A0g:=((Ark.keep k12 GB).keep k13 GB).keep k14 GB;have Aqj:=Gy Aqi ht Aqw h14
          go_wp2_with (go_at_call 50;refine Aqj.mono ?_)
          rintro e W15 ⟨rfl,h15,k15⟩
          have Axw:=Bm Aqi
          have hlr:(Bd r14).length+1<=x.length:=by
           have IM:=Gf (Cz.self hSx.B);rw[hx] at IM;have g1:=(Bm (Ao (Bm IM) hq7));have g2:=((Bm (g1.trans hq9))).le;have g3:=Pf r14;have g4:=MV UH;omega
          have hxl:=hSx.len
          go_wp2
          refine⟨⟨m,ms++[(nm,v9)],Bd r14,by rw[VY];simp only[VK,UH],by omega,Axw,h15,A0g.keep k15 GB,fun y hy=>?_,Aqw.keep k15,Apz.trans (Di.of k15)⟩,?_⟩
          ·rcases List.mem_append.1 hy with hy|hy
           ·exact hBx y hy
           ·simp at hy;subst hy;exact CY
          ·have HX:Bp t x<Bp t (Bd r14):=by unfold Bp;omega
           have hp4:Bp t (Bd r14)<=t.size:=Nat.sub_le _ _;simp only[h15.c1,hat.c1,Oo];omega
end
section
open Go.IntKind (wrap)
def A8 (c:Int):List Int->List (List Int)
 |[]=>[[]]
 |x::r=>if x=c then []::A8 c r else match A8 c r with
  |h::t=>(x::h)::t
  |[]=>[[x]]
theorem P8 (c:Int)(l:List Int):A8 c l≠[]:=by
 cases l with
 |nil=>simp[A8]
 |cons x r=>
  unfold A8;split
  ·simp
  ·cases A8 c r<;>simp
def B5 (c:Int)(l:List Int):List Int:=l.takeWhile (fun x=>x != c)
theorem Vz (c:Int):∀(l:List Int),A8 c l=if (B5 c l).length<l.length then B5 c l::A8 c (l.drop ((B5 c l).length+1)) else [l]
 |[]=>rfl
 |x::r=>by
  by_cases h:x=c
  ·subst h;have e:B5 x (x::r)=[]:=by unfold B5;rw[List.takeWhile_cons_of_neg (by simp)]
   have e2:A8 x (x::r)=[]::A8 x r:=by
    show (if x=x then []::A8 x r else _)=_
    rw[E7 rfl]
   rw[e,E7 (by simp),e2]
   rfl
  ·have e:B5 c (x::r)=x::B5 c r:=by unfold B5;rw[List.takeWhile_cons_of_pos (by simp[h])]
   have e2:A8 c (x::r)=match A8 c r with|a::t=>(x::a)::t|[]=>[[x]]:=by
    show (if x=c then []::A8 c r else _)=_
    rw[Dz h]
   rw[e,e2,Vz c r];by_cases g:(B5 c r).length<r.length
   ·rw[E7 g,E7 (by simp;omega)]
    rfl
   ·rw[Dz g,Dz (by simp;omega)]
def HT (x:Int):Bool:=decide (48<=x)&&decide (x<=57)
def ltB (x:Int):Bool:=(decide (97<=x)&&decide (x<=122))||HT x
def Va (l:List Int):Bool:=decide (1<=l.length)&&decide (l.length<=63) && !(l.head?==some 45) && !(l.getLast?==some 45)&&l.all (fun x=>ltB x||x==45)
def Z0 (l:List Int):Int:=
 if 100<l.length then 8 else if (A8 46 l).all Va=false then 2 else if ((A8 46 l).getLastD []).all HT=true then 2 else 0
def MI (l:List Int):Int:=l.foldl (fun n x=>10*n+(x-48)) 0
def Pj (l:List Int):Bool:=decide (1<=l.length)&&decide (l.length<=5) && !(l.head?==some 48)&&l.all HT
def dfl (s:Bool):Int:=if s=true then 443 else 80
def RQ (s:Bool)(r:List Int):Int:=
 let nm:=B5 58 r
 if Z0 nm≠0 then Z0 nm else if nm.length=r.length then 0 else
  if Pj (r.drop (nm.length+1))=true∧MI (r.drop (nm.length+1))<=65535∧MI (r.drop (nm.length+1))≠dfl s then 0 else 2
def F3 (l:List Int):Int:=
 if [104,116,116,112,115,58,47,47].isPrefixOf l=true then RQ true (l.drop 8)
 else if [104,116,116,112,58,47,47].isPrefixOf l=true then RQ false (l.drop 7) else 2
end
section
open Go.Proofs.Tryd (prog)
open Go.IntKind (wrap)
set_option maxRecDepth 100000
abbrev Me:FuncId:=62
theorem M5 {p:Option (List PV->Option Ay)} (fu d:Nat)(a0 a1:ByteArray):Ae (CP p) prog fu (d+1) Me [.sc (.string a0),.sc (.string a1)]=(fun (call:Ax)=>Ah (call 77 [.sc (.string a0),.sc (.string a1)]) fun x1 x2=>Ad x2<|Aa x1 fun x3 x4=>Aq x3 fun x5=>Ad x4<|Bh (!x5) (some (Ay.mk [.sc (.string a0),.sc (.bool false)] [])) (Bi (decide (Int.toNat (↑(ByteArray.size a1):Int)<=ByteArray.size a0)&&decide (ByteArray.size a0<=ByteArray.size a0))<|Ab (ByteArray.extract a0 (Int.toNat (↑(ByteArray.size a1):Int)) (ByteArray.size a0)) fun x6=>some (Ay.mk [.sc (.string x6),.sc (.bool true)] []))) (Ae (CP p) prog fu d):=by kernel_rfl
abbrev Ji:FuncId:=44
theorem Ql {p:Option (List PV->Option Ay)} (fu d:Nat)(a0 a1:ByteArray):Ae (CP p) prog fu (d+1) Ji [.sc (.string a0),.sc (.string a1)]=(fun (call:Ax)=>Ah (call 62 [.sc (.string a0),.sc (.string a1)]) fun x1 x2=>Ad x2<|Aa x1 fun x3 x4=>Az x3 fun x5=>Aa x4 fun x6 x7=>Aq x6 fun x8=>Ad x7<|some (Ay.mk [.sc (.string x5),.sc (.bool x8)] [])) (Ae (CP p) prog fu d):=by kernel_rfl
abbrev Ty:FuncId:=63
theorem Tm {p:Option (List PV->Option Ay)} (fu d:Nat)(a0 a1:ByteArray):Ae (CP p) prog fu (d+1) Ty [.sc (.string a0),.sc (.string a1)]=(fun (call:Ax)=>Ah (call 78 [.sc (.string a0),.sc (.string a1)]) fun x1 x2=>Ad x2<|Aa x1 fun x3 x4=>Ak .i64 x3 fun x5=>Ad x4<|Bh (decide (x5>=0)) (Bi (decide (0<=x5))<|Bi (decide (Int.toNat x5<=ByteArray.size a0))<|Ab (ByteArray.extract a0 0 x5.toNat) fun x6=>Ab (wrap .i64 (x5+(↑(ByteArray.size a1):Int))) fun x7=>Bi (decide (0<=x7))<|Bi (decide (Int.toNat x7<=ByteArray.size a0)&&decide (ByteArray.size a0<=ByteArray.size a0))<|Ab (ByteArray.extract a0 x7.toNat (ByteArray.size a0)) fun x8=>some (Ay.mk [.sc (.string x6),.sc (.string x8),.sc (.bool true)] [])) (some (Ay.mk [.sc (.string a0),.sc (.string (ByteArray.mk #[])),.sc (.bool false)] []))) (Ae (CP p) prog fu d):=by kernel_rfl
abbrev Q5:FuncId:=45
theorem BZ {p:Option (List PV->Option Ay)} (fu d:Nat)(a0 a1:ByteArray):Ae (CP p) prog fu (d+1) Q5 [.sc (.string a0),.sc (.string a1)]=(fun (call:Ax)=>Ah (call 63 [.sc (.string a0),.sc (.string a1)]) fun x1 x2=>Ad x2<|Aa x1 fun x3 x4=>Az x3 fun x5=>Aa x4 fun x6 x7=>Az x6 fun x8=>Aa x7 fun x9 Ft=>Aq x9 fun Lr=>Ad Ft<|some (Ay.mk [.sc (.string x5),.sc (.string x8),.sc (.bool Lr)] [])) (Ae (CP p) prog fu d):=by kernel_rfl
abbrev N8:FuncId:=100
theorem Wt {p:Option (List PV->Option Ay)} (fu d:Nat)(a0 a1:ByteArray):Ae (CP p) prog fu (d+1) N8 [.sc (.string a0),.sc (.string a1)]=(fun (call:Ax)=>Ah (call 78 [.sc (.string a0),.sc (.string a1)]) fun x1 x2=>Ad x2<|Aa x1 fun x3 x4=>Ak .i64 x3 fun x5=>Ad x4<|some (Ay.mk [.sc (.int .i64 x5)] [])) (Ae (CP p) prog fu d):=by kernel_rfl
abbrev Jr:FuncId:=78
theorem Qm {p:Option (List PV->Option Ay)} (fu d:Nat)(a0 a1:ByteArray):Ae (CP p) prog fu (d+1) Jr [.sc (.string a0),.sc (.string a1)]=(fun (call:Ax)=>Bh ((↑(ByteArray.size a1):Int)==0) (some (Ay.mk [.sc (.int .i64 0)] [])) (Bh (Array.toList (ByteArray.data a1)==Array.toList (ByteArray.data a0)) (some (Ay.mk [.sc (.int .i64 0)] [])) (Bh ((↑(ByteArray.size a1):Int)==1) (Dk ((Array.toList (ByteArray.data a1))[0]?) fun x1=>Ah (call 40 [.sc (.string a0),.sc (.int .u8 (↑(UInt8.toNat x1):Int))]) fun x2 x3=>Ad x3<|Aa x2 fun x4 x5=>Ak .i64 x4 fun x6=>Ad x5<|some (Ay.mk [.sc (.int .i64 x6)] [])) (Bh (decide ((↑(ByteArray.size a1):Int)>=(↑(ByteArray.size a0):Int))) (some (Ay.mk [.sc (.int .i64 (-1))] [])) (none))))) (Ae (CP p) prog fu d):=by kernel_rfl
abbrev Rj:FuncId:=79
noncomputable def D5 (fu:Nat)(call:Ax)(a0 a1:ByteArray)(a2 a3:Int)(nn:Nat)(y0 y1:ByteArray)(y2 y3:Int)(y4:Nat)(y5:Int)(y6:List PV):Option Ay:=Iy CB prog fu call 79 Tryd.f79 (F5 Tryd.f79) [.sc (.string a0),.sc (.string a1),.sc (.int .i64 a2),.sc (.int .i64 a3)] [.r,.r,.r,.r,.r,.r,.r,.r,.l,.l] nn ⟨lk [(0,(.sc (.string y0))),(1,(.sc (.string y1))),(2,(.sc (.int .i64 y2))),(3,(.sc (.int .i64 y3))),(9,(.view 9 1 0 y4)),(10,(.sc (.int .i64 y5)))],Jl [(9,(.ar false y6))]⟩
theorem Oe (fu:Nat)(call:Ax)(a0 a1:ByteArray)(a2 a3:Int)(nn:Nat)(y0 y1:ByteArray)(y2 y3:Int)(y4:Nat)(y5:Int)(y6:List PV):D5 fu call a0 a1 a2 a3 (nn+1) y0 y1 y2 y3 y4 y5 y6=(Bh (decide (y5<y3)) (Ah (call 100 [.sc (.string y0),.sc (.string y1)]) fun L5 Mj=>Ad Mj<|Aa L5 fun Mm N2=>Ak .i64 Mm fun K8=>Ad N2<|Bh (decide (K8<0)) (Bi (decide (0<=y5)&&decide (y5<(↑y4:Int)))<|Bi (decide (0+Int.toNat y5*1+1<=y6.length))<|Ab (B8 y6 [.sc (.string y0)] (0+Int.toNat y5*1)) fun M9=>Ab (wrap .i64 (y5+1)) fun Lx=>Bi (decide (0<=Lx))<|Bi (decide (Int.toNat Lx<=y4))<|Ab (Int.toNat Lx-0) fun L3=>Bi (decide (L3*1<=M9.length))<|some (Ay.mk [.own 1 L3 (List.take (L3*1) M9)] [])) (Ab (wrap .i64 (K8+y2)) fun Mc=>Bi (decide (0<=Mc))<|Bi (decide (Int.toNat Mc<=ByteArray.size y0))<|Ab (ByteArray.extract y0 0 Mc.toNat) fun Oc=>Bi (decide (0<=y5)&&decide (y5<(↑y4:Int)))<|Bi (decide (0+Int.toNat y5*1+1<=y6.length))<|Ab (B8 y6 [.sc (.string Oc)] (0+Int.toNat y5*1)) fun Md=>Ab (wrap .i64 (K8+(↑(ByteArray.size y1):Int))) fun N9=>Bi (decide (0<=N9))<|Bi (decide (Int.toNat N9<=ByteArray.size y0)&&decide (ByteArray.size y0<=ByteArray.size y0))<|Ab (ByteArray.extract y0 N9.toNat (ByteArray.size y0)) fun Ol=>Ab (wrap .i64 (y5+1)) fun Og=>D5 fu call a0 a1 a2 a3 (nn) Ol (y1) (y2) (y3) (y4) Og Md)) (Bi (decide (0<=y5)&&decide (y5<(↑y4:Int)))<|Bi (decide (0+Int.toNat y5*1+1<=y6.length))<|Ab (B8 y6 [.sc (.string y0)] (0+Int.toNat y5*1)) fun Np=>Ab (wrap .i64 (y5+1)) fun Oj=>Bi (decide (0<=Oj))<|Bi (decide (Int.toNat Oj<=y4))<|Ab (Int.toNat Oj-0) fun O8=>Bi (decide (O8*1<=Np.length))<|some (Ay.mk [.own 1 O8 (List.take (O8*1) Np)] []))):=by kernel_rfl
theorem Rr {p:Option (List PV->Option Ay)} (fu d:Nat)(a0 a1:ByteArray)(a2 a3:Int):Ae (CP p) prog fu (d+1) Rj [.sc (.string a0),.sc (.string a1),.sc (.int .i64 a2),.sc (.int .i64 a3)]=(fun (call:Ax)=>Bh (a3==0) (some (Ay.mk [.own 1 0 []] [])) (Bh (Array.toList (ByteArray.data a1)==Array.toList (ByteArray.data (ByteArray.mk #[]))) (Ah (call 98 [.sc (.string a0),.sc (.int .i64 a3)]) fun x1 x2=>Ad x2<|Aa x1 fun x3 x4=>OC 1 x3 fun x5 x6=>Ad x4<|Bi (decide (x5*1<=x6.length))<|some (Ay.mk [.own 1 x5 (List.take (x5*1) x6)] [])) (Bh (decide (a3<0)) (Ah (call 99 [.sc (.string a0),.sc (.string a1)]) fun x7 x8=>Ad x8<|Aa x7 fun x9 Ft=>Ak .i64 x9 fun Lr=>Ad Ft<|Ab (wrap .i64 (Lr+1)) fun L4=>Ab (wrap .i64 ((↑(ByteArray.size a0):Int)+1)) fun Fc=>Ab (if Fc<L4 then Fc else L4) fun Jh=>Bi (decide (0<=Jh)&&decide (Jh<=Jh)&&decide (Jh*16<=1099511627776)&&decide (Jh<=1099511627776))<|Ab (wrap .i64 (Jh-1)) fun M4=>D5 fu call a0 a1 a2 a3 (fu) (a0) (a1) (a2) M4 Jh.toNat 0 (M7 Jh.toNat [.sc (.string (ByteArray.mk #[]))])) (Ab (wrap .i64 ((↑(ByteArray.size a0):Int)+1)) fun K2=>Ab (if K2<a3 then K2 else a3) fun I7=>Bi (decide (0<=I7)&&decide (I7<=I7)&&decide (I7*16<=1099511627776)&&decide (I7<=1099511627776))<|Ab (wrap .i64 (I7-1)) fun Lq=>D5 fu call a0 a1 a2 a3 (fu) (a0) (a1) (a2) Lq I7.toNat 0 (M7 I7.toNat [.sc (.string (ByteArray.mk #[]))]))))) (Ae (CP p) prog fu d):=by kernel_rfl
abbrev N4:FuncId:=64
theorem Wq {p:Option (List PV->Option Ay)} (fu d:Nat)(a0 a1:ByteArray):Ae (CP p) prog fu (d+1) N4 [.sc (.string a0),.sc (.string a1)]=(fun (call:Ax)=>Ah (call 79 [.sc (.string a0),.sc (.string a1),.sc (.int .i64 0),.sc (.int .i64 (-1))]) fun x1 x2=>Ad x2<|Aa x1 fun x3 x4=>OC 1 x3 fun x5 x6=>Ad x4<|Bi (decide (x5*1<=x6.length))<|some (Ay.mk [.own 1 x5 (List.take (x5*1) x6)] [])) (Ae (CP p) prog fu d):=by kernel_rfl
abbrev Ln:FuncId:=65
noncomputable def A9 (fu:Nat)(call:Ax)(a0:ByteArray)(nn:Nat)(y0:ByteArray)(y1 y2:Int):Option Ay:=Iy CB prog fu call 65 Tryd.f65 (F5 Tryd.f65) [.sc (.string a0)] [.r,.r,.l,.r,.l] nn ⟨lk [(0,(.sc (.string y0))),(16,(.sc (.int .i64 y1))),(17,(.sc (.int .i64 y2)))],Jl []⟩
theorem Ih (fu:Nat)(call:Ax)(a0:ByteArray)(nn:Nat)(y0:ByteArray)(y1 y2:Int):A9 fu call a0 (nn+1) y0 y1 y2=(Bh (decide (y2<y1)) (Bi (decide (0<=y2))<|Dk ((Array.toList (ByteArray.data y0))[Int.toNat y2]?) fun x1=>Bh (decide (97<=(↑(UInt8.toNat x1):Int))) (Bh (decide ((↑(UInt8.toNat x1):Int)<=122)) (Bh ((↑(UInt8.toNat x1):Int)==45) (Bh (decide (y2>0)) (Ab (wrap .i64 ((↑(ByteArray.size y0):Int)-1)) fun x2=>Ab (wrap .i64 (y2+1)) fun x3=>A9 fu call a0 (nn) (y0) (y1) x3) (Ab (wrap .i64 (y2+1)) fun x4=>A9 fu call a0 (nn) (y0) (y1) x4)) (Ab (wrap .i64 (y2+1)) fun x5=>A9 fu call a0 (nn) (y0) (y1) x5)) (Bh (decide (48<=(↑(UInt8.toNat x1):Int))) (Bh ((↑(UInt8.toNat x1):Int)==45) (Bh (decide (y2>0)) (Ab (wrap .i64 ((↑(ByteArray.size y0):Int)-1)) fun x6=>Bh (!decide ((↑(UInt8.toNat x1):Int)<=57)) (Bh (!decide (y2<x6)) (some (Ay.mk [.sc (.bool false)] [])) (Ab (wrap .i64 (y2+1)) fun x7=>A9 fu call a0 (nn) (y0) (y1) x7)) (Ab (wrap .i64 (y2+1)) fun x8=>A9 fu call a0 (nn) (y0) (y1) x8)) (Bh (!decide ((↑(UInt8.toNat x1):Int)<=57)) (some (Ay.mk [.sc (.bool false)] [])) (Ab (wrap .i64 (y2+1)) fun x9=>A9 fu call a0 (nn) (y0) (y1) x9))) (Bh (!decide ((↑(UInt8.toNat x1):Int)<=57)) (some (Ay.mk [.sc (.bool false)] [])) (Ab (wrap .i64 (y2+1)) fun Ft=>A9 fu call a0 (nn) (y0) (y1) Ft))) (Bh ((↑(UInt8.toNat x1):Int)==45) (Bh (decide (y2>0)) (Ab (wrap .i64 ((↑(ByteArray.size y0):Int)-1)) fun Lr=>Bh (!decide (y2<Lr)) (some (Ay.mk [.sc (.bool false)] [])) (Ab (wrap .i64 (y2+1)) fun L4=>A9 fu call a0 (nn) (y0) (y1) L4)) (some (Ay.mk [.sc (.bool false)] []))) (some (Ay.mk [.sc (.bool false)] []))))) (Bh (decide (48<=(↑(UInt8.toNat x1):Int))) (Bh ((↑(UInt8.toNat x1):Int)==45) (Bh (decide (y2>0)) (Ab (wrap .i64 ((↑(ByteArray.size y0):Int)-1)) fun Fc=>Bh (!decide ((↑(UInt8.toNat x1):Int)<=57)) (Bh (!decide (y2<Fc)) (some (Ay.mk [.sc (.bool false)] [])) (Ab (wrap .i64 (y2+1)) fun Jh=>A9 fu call a0 (nn) (y0) (y1) Jh)) (Ab (wrap .i64 (y2+1)) fun M4=>A9 fu call a0 (nn) (y0) (y1) M4)) (Bh (!decide ((↑(UInt8.toNat x1):Int)<=57)) (some (Ay.mk [.sc (.bool false)] [])) (Ab (wrap .i64 (y2+1)) fun K2=>A9 fu call a0 (nn) (y0) (y1) K2))) (Bh (!decide ((↑(UInt8.toNat x1):Int)<=57)) (some (Ay.mk [.sc (.bool false)] [])) (Ab (wrap .i64 (y2+1)) fun I7=>A9 fu call a0 (nn) (y0) (y1) I7))) (Bh ((↑(UInt8.toNat x1):Int)==45) (Bh (decide (y2>0)) (Ab (wrap .i64 ((↑(ByteArray.size y0):Int)-1)) fun Lq=>Bh (!decide (y2<Lq)) (some (Ay.mk [.sc (.bool false)] [])) (Ab (wrap .i64 (y2+1)) fun L5=>A9 fu call a0 (nn) (y0) (y1) L5)) (some (Ay.mk [.sc (.bool false)] []))) (some (Ay.mk [.sc (.bool false)] []))))) (some (Ay.mk [.sc (.bool true)] []))):=by kernel_rfl
theorem S4 {p:Option (List PV->Option Ay)} (fu d:Nat)(a0:ByteArray):Ae (CP p) prog fu (d+1) Ln [.sc (.string a0)]=(fun (call:Ax)=>Bh (decide ((↑(ByteArray.size a0):Int)<1)) (some (Ay.mk [.sc (.bool false)] [])) (Bh (decide ((↑(ByteArray.size a0):Int)>63)) (some (Ay.mk [.sc (.bool false)] [])) (A9 fu call a0 (fu) (a0) ((↑(ByteArray.size a0):Int)) 0))) (Ae (CP p) prog fu d):=by kernel_rfl
abbrev N7:FuncId:=46
noncomputable def Gh (fu:Nat)(call:Ax)(a0:ByteArray)(nn y0 y1:Nat)(y2 y3:Int)(y4:List PV):Option Ay:=Iy CB prog fu call 46 Tryd.f46 (F5 Tryd.f46) [.sc (.string a0)] [.r,.r,.r,.l,.r,.l] nn ⟨lk [(3,(.view 3 1 0 y0)),(11,(.view 3 1 0 y1)),(12,(.sc (.int .i64 y2))),(13,(.sc (.int .i64 y3)))],Jl [(3,(.ar false y4))]⟩
theorem Kk (fu:Nat)(call:Ax)(a0:ByteArray)(nn y0 y1:Nat)(y2 y3:Int)(y4:List PV):Gh fu call a0 (nn+1) y0 y1 y2 y3 y4=(Bh (decide (y3<y2)) (Bi (decide (0<=y3)&&decide (y3<(↑y1:Int)))<|Az (List.getD y4 (0+Int.toNat y3*1) .top) fun x7=>Ah (call 65 [.sc (.string x7)]) fun x8 x9=>Ad x9<|Aa x8 fun Ft Lr=>Aq Ft fun L4=>Ad Lr<|Bh (!L4) (some (Ay.mk [.sc (.int .i64 2)] [])) (Ab (wrap .i64 (y3+1)) fun Fc=>Gh fu call a0 (nn) (y0) (y1) (y2) Fc (y4))) (Ab (wrap .i64 ((↑y0:Int)-1)) fun Jh=>Bi (decide (0<=Jh)&&decide (Jh<(↑y0:Int)))<|Az (List.getD y4 (0+Int.toNat Jh*1) .top) fun M4=>Ah (call 66 [.sc (.string M4),.sc (.string (ByteArray.mk #[48,49,50,51,52,53,54,55,56,57]))]) fun K2 I7=>Ad I7<|Aa K2 fun Lq L5=>Az Lq fun Mj=>Ad L5<|Bh (Array.toList (ByteArray.data Mj)==Array.toList (ByteArray.data (ByteArray.mk #[]))) (some (Ay.mk [.sc (.int .i64 2)] [])) (some (Ay.mk [.sc (.int .i64 0)] [])))):=by kernel_rfl
theorem Wy {p:Option (List PV->Option Ay)} (fu d:Nat)(a0:ByteArray):Ae (CP p) prog fu (d+1) N7 [.sc (.string a0)]=(fun (call:Ax)=>Bh (decide ((↑(ByteArray.size a0):Int)>100)) (some (Ay.mk [.sc (.int .i64 8)] [])) (Ah (call 64 [.sc (.string a0),.sc (.string (ByteArray.mk #[46]))]) fun x1 x2=>Ad x2<|Aa x1 fun x3 x4=>OC 1 x3 fun x5 x6=>Ad x4<|Gh fu call a0 (fu) x5 x5 ((↑x5:Int)) 0 x6)) (Ae (CP p) prog fu d):=by kernel_rfl
abbrev Iu:FuncId:=47
theorem O9 {p:Option (List PV->Option Ay)} (fu d:Nat)(a0:Bool):Ae (CP p) prog fu (d+1) Iu [.sc (.bool a0)]=(fun (call:Ax)=>Bh (a0) (some (Ay.mk [.sc (.int .i64 443)] [])) (some (Ay.mk [.sc (.int .i64 80)] []))) (Ae (CP p) prog fu d):=by kernel_rfl
abbrev Kt:FuncId:=48
noncomputable def Ey (fu:Nat)(call:Ax)(a0:ByteArray)(nn:Nat)(y0:ByteArray)(y1 y2 y3:Int):Option Ay:=Iy CB prog fu call 48 Tryd.f48 (F5 Tryd.f48) [.sc (.string a0)] [.r,.r,.r,.l,.r,.l] nn ⟨lk [(0,(.sc (.string y0))),(4,(.sc (.int .i64 y1))),(21,(.sc (.int .i64 y2))),(22,(.sc (.int .i64 y3)))],Jl []⟩
theorem Ht (fu:Nat)(call:Ax)(a0:ByteArray)(nn:Nat)(y0:ByteArray)(y1 y2 y3:Int):Ey fu call a0 (nn+1) y0 y1 y2 y3=(Bh (decide (y3<y2)) (Bi (decide (0<=y3))<|Dk ((Array.toList (ByteArray.data y0))[Int.toNat y3]?) fun x2=>Bh (decide ((↑(UInt8.toNat x2):Int)<48)) (some (Ay.mk [.sc (.int .i64 0),.sc (.bool false)] [])) (Bh (decide ((↑(UInt8.toNat x2):Int)>57)) (some (Ay.mk [.sc (.int .i64 0),.sc (.bool false)] [])) (Ab (wrap .i64 (10*y1)) fun x3=>Ab (wrap .u8 ((↑(UInt8.toNat x2):Int)-48)) fun x4=>Ab (wrap .i64 x4) fun x5=>Ab (wrap .i64 (x3+x5)) fun x6=>Ab (wrap .i64 (y3+1)) fun x7=>Ey fu call a0 (nn) (y0) x6 (y2) x7))) (some (Ay.mk [.sc (.int .i64 y1),.sc (.bool (decide (y1<=65535)))] []))):=by kernel_rfl
theorem Rk {p:Option (List PV->Option Ay)} (fu d:Nat)(a0:ByteArray):Ae (CP p) prog fu (d+1) Kt [.sc (.string a0)]=(fun (call:Ax)=>Bh (decide ((↑(ByteArray.size a0):Int)<1)) (some (Ay.mk [.sc (.int .i64 0),.sc (.bool false)] [])) (Bh (decide ((↑(ByteArray.size a0):Int)>5)) (some (Ay.mk [.sc (.int .i64 0),.sc (.bool false)] [])) (Dk ((Array.toList (ByteArray.data a0))[0]?) fun x1=>Bh ((↑(UInt8.toNat x1):Int)==48) (some (Ay.mk [.sc (.int .i64 0),.sc (.bool false)] [])) (Ey fu call a0 (fu) (a0) 0 ((↑(ByteArray.size a0):Int)) 0)))) (Ae (CP p) prog fu d):=by kernel_rfl
abbrev Ot:FuncId:=32
theorem Z8 {p:Option (List PV->Option Ay)} (fu d:Nat)(a0:ByteArray):Ae (CP p) prog fu (d+1) Ot [.sc (.string a0)]=(fun (call:Ax)=>Ah (call 44 [.sc (.string a0),.sc (.string (ByteArray.mk #[104,116,116,112,115,58,47,47]))]) fun x1 x2=>Ad x2<|Aa x1 fun x3 x4=>Az x3 fun x5=>Aa x4 fun x6 x7=>Aq x6 fun x8=>Ad x7<|Bh (!x8) (Ah (call 44 [.sc (.string a0),.sc (.string (ByteArray.mk #[104,116,116,112,58,47,47]))]) fun x9 Ft=>Ad Ft<|Aa x9 fun Lr L4=>Az Lr fun Fc=>Aa L4 fun Jh M4=>Aq Jh fun K2=>Ad M4<|Bh (!K2) (some (Ay.mk [.agg [.sc (.bool false),.sc (.string (ByteArray.mk #[])),.sc (.int .i64 0)],.sc (.int .i64 2)] [])) (Ah (call 45 [.sc (.string Fc),.sc (.string (ByteArray.mk #[58]))]) fun I7 Lq=>Ad Lq<|Aa I7 fun L5 Mj=>Az L5 fun Mm=>Aa Mj fun N2 K8=>Az N2 fun M9=>Aa K8 fun Lx L3=>Aq Lx fun Mc=>Ad L3<|Ah (call 46 [.sc (.string Mm)]) fun Oc Md=>Ad Md<|Aa Oc fun N9 Ol=>Ak .i64 N9 fun Og=>Ad Ol<|Bh (Og != 0) (some (Ay.mk [.agg [.sc (.bool false),.sc (.string (ByteArray.mk #[])),.sc (.int .i64 0)],.sc (.int .i64 Og)] [])) (Ah (call 47 [.sc (.bool x8)]) fun Np Oj=>Ad Oj<|Aa Np fun O8 Rd=>Ak .i64 O8 fun Se=>Ad Rd<|Bh Mc (Ah (call 48 [.sc (.string M9)]) fun Tu Pr=>Ad Pr<|Aa Tu fun BD BA=>Ak .i64 BD fun Qn=>Aa BA fun P4 X3=>Aq P4 fun Xh=>Ad X3<|Bh (!Xh) (some (Ay.mk [.agg [.sc (.bool false),.sc (.string (ByteArray.mk #[])),.sc (.int .i64 0)],.sc (.int .i64 2)] [])) (Bh (Qn==Se) (some (Ay.mk [.agg [.sc (.bool false),.sc (.string (ByteArray.mk #[])),.sc (.int .i64 0)],.sc (.int .i64 2)] [])) (some (Ay.mk [.agg [.sc (.bool x8),.sc (.string Mm),.sc (.int .i64 Qn)],.sc (.int .i64 0)] [])))) (some (Ay.mk [.agg [.sc (.bool x8),.sc (.string Mm),.sc (.int .i64 Se)],.sc (.int .i64 0)] []))))) (Ah (call 45 [.sc (.string x5),.sc (.string (ByteArray.mk #[58]))]) fun BL AV=>Ad AV<|Aa BL fun BS Yh=>Az BS fun Xj=>Aa Yh fun BC AR=>Az BC fun CE=>Aa AR fun Yw HB=>Aq Yw fun HR=>Ad HB<|Ah (call 46 [.sc (.string Xj)]) fun EX EJ=>Ad EJ<|Aa EX fun HF GN=>Ak .i64 HF fun HL=>Ad GN<|Bh (HL != 0) (some (Ay.mk [.agg [.sc (.bool false),.sc (.string (ByteArray.mk #[])),.sc (.int .i64 0)],.sc (.int .i64 HL)] [])) (Ah (call 47 [.sc (.bool x8)]) fun NX SH=>Ad SH<|Aa NX fun QB NV=>Ak .i64 QB fun QY=>Ad NV<|Bh HR (Ah (call 48 [.sc (.string CE)]) fun OJ OZ=>Ad OZ<|Aa OJ fun ST OG=>Ak .i64 ST fun OI=>Aa OG fun KR NY=>Aq KR fun OH=>Ad NY<|Bh (!OH) (some (Ay.mk [.agg [.sc (.bool false),.sc (.string (ByteArray.mk #[])),.sc (.int .i64 0)],.sc (.int .i64 2)] [])) (Bh (OI==QY) (some (Ay.mk [.agg [.sc (.bool false),.sc (.string (ByteArray.mk #[])),.sc (.int .i64 0)],.sc (.int .i64 2)] [])) (some (Ay.mk [.agg [.sc (.bool x8),.sc (.string Xj),.sc (.int .i64 OI)],.sc (.int .i64 0)] [])))) (some (Ay.mk [.agg [.sc (.bool x8),.sc (.string Xj),.sc (.int .i64 QY)],.sc (.int .i64 0)] []))))) (Ae (CP p) prog fu d):=by kernel_rfl
abbrev G6:FuncId:=15
noncomputable def B7 (fu:Nat)(call:Ax)(a0:ByteArray)(nn:Nat)(y0:ByteArray)(y1:Nat)(y2:List PV):Option Ay:=Iy CB prog fu call 15 Tryd.f15 (F5 Tryd.f15) [.sc (.string a0)] [.r,.r,.r,.l,.l] nn ⟨lk [(0,(.sc (.string y0))),(4,(.view 4 1 0 y1))],Jl [(4,(.ar false y2))]⟩
noncomputable def Ca (fu:Nat)(call:Ax)(a0:ByteArray)(m0 nn:Nat)(y0:ByteArray)(y1:Nat)(y2 y3:Int)(y4 y5:Int)(y6:List PV):Option Ay:=Iy CB prog fu call 15 Tryd.f15 (F5 Tryd.f15) [.sc (.string a0)] [.r,.r,.r,.l,.l,.i m0,.r,.l,.r,.r,.l,.r,.l] nn ⟨lk [(0,(.sc (.string y0))),(4,(.view 4 1 0 y1)),(5,(.sc (.int .i64 y2))),(6,(.sc (.int .u32 y3))),(28,(.sc (.int .i64 y4))),(29,(.sc (.int .i64 y5)))],Jl [(4,(.ar false y6))]⟩
noncomputable def B9 (fu:Nat)(call:Ax)(a0:ByteArray)(m0 nn:Nat)(y0:ByteArray)(y1:Nat)(y2:Int)(y3 y4:Nat)(y5 y6:Int)(y7 y8:List PV):Option Ay:=Iy CB prog fu call 15 Tryd.f15 (F5 Tryd.f15) [.sc (.string a0)] [.r,.r,.r,.l,.l,.i m0,.r,.l,.r,.r,.r,.r,.l,.r,.l] nn ⟨lk [(0,(.sc (.string y0))),(4,(.view 4 1 0 y1)),(5,(.sc (.int .i64 y2))),(9,(.ptr 9 0)),(58,(.view 9 1 y3 y4)),(59,(.sc (.int .i64 y5))),(60,(.sc (.int .i64 y6)))],Jl [(4,(.ar false y7)),(9,(.ar false y8))]⟩
theorem Ga (fu:Nat)(call:Ax)(a0:ByteArray)(nn:Nat)(y0:ByteArray)(y1:Nat)(y2:List PV):B7 fu call a0 (nn+1) y0 y1 y2=(Bh (decide ((↑(ByteArray.size y0):Int)>0)) (Ab (if (↑(ByteArray.size y0):Int)<4 then (↑(ByteArray.size y0):Int) else 4) fun x5=>Ca fu call a0 nn (fu) (y0) (y1) x5 0 x5 0 (y2)) (Bi (decide (y1*1<=y2.length))<|some (Ay.mk [.own 1 y1 (List.take (y1*1) y2),.sc (.int .i64 0)] []))):=by kernel_rfl
theorem F9 (fu:Nat)(call:Ax)(a0:ByteArray)(m0 nn:Nat)(y0:ByteArray)(y1:Nat)(y2 y3:Int)(y4 y5:Int)(y6:List PV):Ca fu call a0 m0 (nn+1) y0 y1 y2 y3 y4 y5 y6=(Bh (decide (y5<y4)) (Bi (decide (0<=y5))<|Dk ((Array.toList (ByteArray.data y0))[Int.toNat y5]?) fun x6=>Ah (call 27 [.sc (.string (ByteArray.mk #[65,66,67,68,69,70,71,72,73,74,75,76,77,78,79,80,81,82,83,84,85,86,87,88,89,90,97,98,99,100,101,102,103,104,105,106,107,108,109,110,111,112,113,114,115,116,117,118,119,120,121,122,48,49,50,51,52,53,54,55,56,57,45,95])),.sc (.int .u8 (↑(UInt8.toNat x6):Int))]) fun x7 x8=>Ad x8<|Aa x7 fun x9 Ft=>Ak .i64 x9 fun Lr=>Ad Ft<|Bh (decide (Lr<0)) (some (Ay.mk [.own 1 0 [],.sc (.int .i64 2)] [])) (Ab (wrap .u32 Lr) fun L4=>Ab (wrap .i64 (6*y5)) fun Fc=>Ab (wrap .i64 (18-Fc)) fun Jh=>Bi (decide (0<=Jh))<|Ab (G1 .u32 L4 Jh) fun M4=>Ab (JO .u32 y3 M4) fun K2=>Ab (wrap .i64 (y5+1)) fun I7=>Ca fu call a0 m0 (nn) (y0) (y1) (y2) K2 (y4) I7 (y6))) (Ab (LY .u32 y3 16) fun Lq=>Ab (wrap .u8 Lq) fun L5=>Ab (LY .u32 y3 8) fun Mj=>Ab (wrap .u8 Mj) fun Mm=>Ab (wrap .u8 y3) fun N2=>Ab (wrap .i64 (y2-1)) fun K8=>Bi (decide (0<=K8))<|Bi (decide (Int.toNat K8<=3)&&true)<|Ab (0+Int.toNat K8*1) fun M9=>Ab (3-Int.toNat K8) fun Lx=>B9 fu call a0 m0 (fu) (y0) (y1) (y2) M9 Lx ((↑Lx:Int)) 0 (y6) ([.sc (.int .u8 L5),.sc (.int .u8 Mm),.sc (.int .u8 N2)]))):=by kernel_rfl
theorem F8 (fu:Nat)(call:Ax)(a0:ByteArray)(m0 nn:Nat)(y0:ByteArray)(y1:Nat)(y2:Int)(y3 y4:Nat)(y5 y6:Int)(y7 y8:List PV):B9 fu call a0 m0 (nn+1) y0 y1 y2 y3 y4 y5 y6 y7 y8=(Bh (decide (y6<y5)) (Bi (decide (0<=y6)&&decide (y6<(↑y4:Int)))<|Ak .u8 (List.getD y8 (y3+Int.toNat y6*1) .top) fun L3=>Bh (L3 != 0) (some (Ay.mk [.own 1 0 [],.sc (.int .i64 2)] [])) (Ab (wrap .i64 (y6+1)) fun Mc=>B9 fu call a0 m0 (nn) (y0) (y1) (y2) (y3) (y4) (y5) Mc (y7) (y8))) (Ab (wrap .i64 (y2-1)) fun Oc=>Bi (decide (3<=y8.length)&&true)<|Bi (decide (0<=Oc))<|Bi (decide (Int.toNat Oc<=3))<|Ab (Int.toNat Oc-0) fun Md=>Bi (decide (0+Md*1<=y8.length))<|Bi (decide (y1*1<=y7.length)&&decide (List.length (List.take (Md*1) (List.drop 0 y8))=Md*1)&&decide ((y1+Md)*1<=1099511627776)&&decide (y1+Md<=1099511627776))<|Ab (y1+Md) fun N9=>Ab (List.take (y1*1) y7++List.take (Md*1) (List.drop 0 y8)) fun Ol=>Bi (decide (0<=y2))<|Bi (decide (Int.toNat y2<=ByteArray.size y0)&&decide (ByteArray.size y0<=ByteArray.size y0))<|Ab (ByteArray.extract y0 y2.toNat (ByteArray.size y0)) fun Og=>B7 fu call a0 (m0) Og N9 Ol)):=by kernel_rfl
theorem M2 {p:Option (List PV->Option Ay)} (fu d:Nat)(a0:ByteArray):Ae (CP p) prog fu (d+1) G6 [.sc (.string a0)]=(fun (call:Ax)=>Ab (Int.tmod (↑(ByteArray.size a0):Int) 4) fun x1=>Bh (x1==1) (some (Ay.mk [.own 1 0 [],.sc (.int .i64 2)] [])) (Ab (wrap .i64 (Int.tdiv (↑(ByteArray.size a0):Int) 4)) fun x2=>Ab (wrap .i64 (x2*3)) fun x3=>Ab (wrap .i64 (x3+2)) fun x4=>Bi (decide (0<=x4)&&decide (x4*1<=1099511627776)&&decide (x4<=1099511627776))<|B7 fu call a0 (fu) (a0) 0 ([]))) (Ae (CP p) prog fu d):=by kernel_rfl
end
section
open Go.Proofs.Tryd (prog)
open Go.IntKind (wrap)
set_option maxRecDepth 100000
theorem Abx {a b:Int}(ha:0<=a∧a<=255)(hb:0<=b∧b<=255):(a.toNat.toUInt8==b.toNat.toUInt8)=decide (a=b):=by
 rw[Bool.eq_iff_iff,beq_iff_eq,decide_eq_true_iff];constructor
 ·intro h;have:=congrArg UInt8.toNat h;have e1:a.toNat.toUInt8.toNat=a.toNat % 256:=by rw[Nat.toUInt8,UInt8.toNat_ofNat']
  have e2:b.toNat.toUInt8.toNat=b.toNat % 256:=by rw[Nat.toUInt8,UInt8.toNat_ofNat']
  rw[e1,e2] at this;omega
 ·rintro rfl;rfl
theorem Zf {c:Int}(hc:0<=c∧c<=255):((c.toNat.toUInt8.toNat:Nat):Int)=c:=by
 rw[Nat.toUInt8,UInt8.toNat_ofNat'];omega
theorem ZL {c x:Int}(r:List Int)(e:x≠c):B5 c (x::r)=x::B5 c r:=by unfold B5;rw[List.takeWhile_cons_of_pos (by simp[e])]
theorem TQ {c:Int}(r:List Int):B5 c (c::r)=[]:=by unfold B5;rw[List.takeWhile_cons_of_neg (by simp)]
theorem T8 (c:Int)(l:List Int):B5 c l=l.take (B5 c l).length:=by
 have h:B5 c l <+: l:=List.takeWhile_prefix _;exact List.prefix_iff_eq_take.1 h
theorem RV (c:Int)(l:List Int):(B5 c l).length<=l.length:=by
 have h:B5 c l <+: l:=List.takeWhile_prefix _;exact h.length_le
theorem Ae2 (c:Int)(l:List Int)(h:¬(B5 c l).length<l.length):B5 c l=l:=by
 have:=RV c l;rw[T8 c l,Zzf (by omega)]
def U5 (c:Int)(l:List Int):Int:=if (B5 c l).length<l.length then ((B5 c l).length:Int) else -1
theorem RW {c:Int}(hc:0<=c∧c<=255):∀{l:List Int},Do l->Lib.indexByte (l.map fun n=>n.toNat.toUInt8) c.toNat.toUInt8=U5 c l
 |[],_=>rfl
 |x::r,h=>by
  obtain⟨hx,hr⟩:=C5 h;have ih:=RW hc hr;show (if (x.toNat.toUInt8==c.toNat.toUInt8)=true then (0:Int) else if (Lib.indexByte (r.map fun n=>n.toNat.toUInt8) c.toNat.toUInt8 == -1)=true then -1 else Lib.indexByte (r.map fun n=>n.toNat.toUInt8) c.toNat.toUInt8+1)=_
  rw[Abx hx hc,ih];by_cases e:x=c
  ·subst e;unfold U5;rw[TQ];simp
  ·unfold U5;rw[ZL r e];simp only[decide_eq_true_eq,e,if_false,QI];by_cases g:(B5 c r).length<r.length
   ·simp only[E7 g,E7 (show (B5 c r).length+1<r.length+1 by omega)]
    rw[Dz (show ¬(((((B5 c r).length:Int)) == -1)=true) by rw[beq_iff_eq];omega)]
    omega
   ·simp only[Dz g,Dz (show ¬(B5 c r).length+1<r.length+1 by omega)]
    rfl
theorem FA {c:Int}(hc:0<=c∧c<=255):∀{l:List Int},Do l->(l.map fun n=>n.toNat.toUInt8).count c.toNat.toUInt8+1=(A8 c l).length
 |[],_=>rfl
 |x::r,h=>by
  obtain⟨hx,hr⟩:=C5 h;have ih:=FA hc hr;rw[List.map_cons,List.count_cons,Abx hx hc];unfold A8;by_cases e:x=c
  ·rw[E7 e,E7 (by simp[e]),QI,←ih]
  ·rw[Dz e,Dz (by simp[e])]
   cases hs:A8 c r with
   |nil=>exact absurd hs (P8 c r)
   |cons a t=>
    rw[hs] at ih
    simpa using ih
theorem Ux (c:Int):∀(l:List Int),(A8 c l).length<=l.length+1
 |[]=>Nat.le_refl _
 |x::r=>by
  have ih:=Ux c r;unfold A8;split
  ·simp;omega
  ·cases hs:A8 c r with
   |nil=>simp
   |cons a t=>rw[hs] at ih;simp at ih ⊢;omega
theorem DP (c:Int)(l:List Int):1<=(A8 c l).length:=by
 have:=P8 c l;cases hs:A8 c l with
 |nil=>exact absurd hs this
 |cons a t=>simp
theorem SJ {a:List PV}{n:Nat}{x y:PV}{r:List PV}(h:a.length=n):(a++x::r).set n y=a++y::r:=by
 subst h
 induction a with
 |nil=>rfl
 |cons z a ih=>simp[ih]
theorem dle (n:Nat):decide (n<=n)=true:=by simp
section
variable {fu d:Nat} {p:Option (List PV->Option Ay)}
theorem SN {c:Int}(hc:0<=c∧c<=255){l:List Int}(hl:Do l):Ae (CP p) prog fu (d+2) Jr [.sc (.string (Ac l)),.sc (.string (Ac [c]))]=some ⟨[.sc (.int .i64 (U5 c l))],[]⟩:=by
 have e:Ae (CP p) prog fu (d+1) 40 [.sc (.string (Ac l)),.sc (.int .u8 c)]=some ⟨[.sc (.int .i64 (Lib.indexByte (Ac l).data.toList c.toNat.toUInt8))],[]⟩:=rfl;have e0:(Ac l).data.toList=l.map fun n=>n.toNat.toUInt8:=rfl
 rw[e0,RW hc hl] at e;have h0:((((Ac [c]).size:Nat):Int)==0)=false:=by rw[Aw];rfl
 have h1:((((Ac [c]).size:Nat):Int)==1)=true:=by rw[Aw];rfl
 have h2:(Array.toList (Ac [c]).data)[0]?=some c.toNat.toUInt8:=rfl;have h3:=Zf hc;rw[Qm];by_cases g:[c]=l
 ·subst g;have h4:(Array.toList (Ac [c]).data==Array.toList (Ac [c]).data)=true:=by simp
  have h5:U5 c [c]=0:=by unfold U5;rw[TQ];rfl
  simp only[Ek,h0,h4,h5]
 ·have h4:(Array.toList (Ac [c]).data==Array.toList (Ac l).data)=false:=by
   rw[Bool.eq_false_iff,ne_eq,beq_iff_eq];intro q;apply g
   have q2:Ac [c]=Ac l:=by
    cases hx:Ac [c];cases hy:Ac l;rw[hx,hy] at q;exact congrArg ByteArray.mk (Array.toList_inj.1 q)
   have q3:=congrArg D2 q2
   rwa [C9 hl,C9 (fun x hx=>by simp at hx;omega)] at q3
  simp only[Ek,h0,h4,h1,h2,h3,e]
theorem Aai {c:Int}(hc:0<=c∧c<=255){l:List Int}(hl:Do l):Ae (CP p) prog fu (d+3) N8 [.sc (.string (Ac l)),.sc (.string (Ac [c]))]=some ⟨[.sc (.int .i64 (U5 c l))],[]⟩:=by
 have e:Ae (CP p) prog fu (d+2) 78 [.sc (.string (Ac l)),.sc (.string (Ac [c]))]=_:=SN (fu:=fu) (d:=d) (p:=p) hc hl;rw[Wt];simp only[Ek,e]
theorem NR {l:List Int}(hl:Do l)(n:Nat):(Ac l).extract 0 n=Ac (l.take n):=by rw[Tg,C9 hl]
theorem Xs {l:List Int}(hl:Do l)(n:Nat):(Ac l).extract n l.length=Ac (l.drop n):=by
 have:=V3 (s:=Ac l) (a:=n)
 rwa [Aw,C9 hl] at this
theorem Aqs {c:Int}(hc:0<=c∧c<=255){l:List Int}(hl:Do l)(hs:l.length<=1000000):Ae (CP p) prog fu (d+4) Q5 [.sc (.string (Ac l)),.sc (.string (Ac [c]))]=some ⟨[.sc (.string (Ac (B5 c l))),.sc (.string (Ac (l.drop ((B5 c l).length+1)))),.sc (.bool (decide ((B5 c l).length<l.length)))],[]⟩:=by
 have e:Ae (CP p) prog fu (d+2) 78 [.sc (.string (Ac l)),.sc (.string (Ac [c]))]=_:=SN (fu:=fu) (d:=d) (p:=p) hc hl
 have e2:Ae (CP p) prog fu (d+3) 63 [.sc (.string (Ac l)),.sc (.string (Ac [c]))]=some ⟨[.sc (.string (Ac (B5 c l))),.sc (.string (Ac (l.drop ((B5 c l).length+1)))),.sc (.bool (decide ((B5 c l).length<l.length)))],[]⟩:=by
  refine (Tm (p:=p) fu (d+2) _ _).trans ?_;by_cases g:(B5 c l).length<l.length
  ·have hi:U5 c l=(B5 c l).length:=by unfold U5;rw[E7 g]
   rw[hi] at e;have a1:decide (((B5 c l).length:Int)>=0)=true:=by simp
   have a2:decide ((0:Int)<=((B5 c l).length:Int))=true:=by simp
   have a3:decide (Int.toNat ((B5 c l).length:Int)<=l.length)=true:=by simp;omega
   have a4:(Ac l).extract 0 (Int.toNat ((B5 c l).length:Int))=Ac (B5 c l):=by
    rw[Oo,NR hl,←T8]
   have a5:wrap .i64 (((B5 c l).length:Int)+(([c].length:Nat):Int))=(((B5 c l).length+1:Nat):Int):=by
    rw[Bc (by simp;omega) (by simp;omega)];simp
   have a6:decide ((0:Int)<=(((B5 c l).length+1:Nat):Int))=true:=by simp;omega
   have a7:decide (Int.toNat (((B5 c l).length+1:Nat):Int)<=l.length)=true:=by simp;omega
   have a8:(Ac l).extract (Int.toNat (((B5 c l).length+1:Nat):Int)) l.length=Ac (l.drop ((B5 c l).length+1)):=by
    rw[Oo,Xs hl]
   have a9:decide ((B5 c l).length<l.length)=true:=by simpa using g
   simp only[Ek,e,Aw,dle,a1,a2,a3,a4,a5,a6,a7,a8,a9]
  ·have hi:U5 c l = -1:=by unfold U5;rw[Dz g]
   rw[hi] at e;have a1:decide ((-1:Int)>=0)=false:=rfl;have a9:decide ((B5 c l).length<l.length)=false:=by simpa using g
   have a10:l.drop ((B5 c l).length+1)=[]:=List.drop_eq_nil_of_le (by omega)
   have a11:(ByteArray.mk #[])=Ac []:=rfl;rw[a9,a10,Ae2 c l g];simp only[Ek,e,a1,a11]
 rw[BZ];simp only[Ek,e2]
theorem Ags {l w:List Int}(hl:Do l)(hw:Do w):Ae (CP p) prog fu (d+4) Ji [.sc (.string (Ac l)),.sc (.string (Ac w))]=some ⟨[.sc (.string (Ac (if w.isPrefixOf l=true then l.drop w.length else l))),.sc (.bool (w.isPrefixOf l))],[]⟩:=by
 have e:Ae (CP p) prog fu (d+2) 77 [.sc (.string (Ac l)),.sc (.string (Ac w))]=some ⟨[.sc (.bool (w.isPrefixOf l))],[]⟩:=Ahi (xs:=PY p) (fu:=fu) (d:=d+1) hl hw
 have e2:Ae (CP p) prog fu (d+3) 62 [.sc (.string (Ac l)),.sc (.string (Ac w))]=some ⟨[.sc (.string (Ac (if w.isPrefixOf l=true then l.drop w.length else l))),.sc (.bool (w.isPrefixOf l))],[]⟩:=by
  refine (M5 (p:=p) fu (d+2) _ _).trans ?_;cases hp:w.isPrefixOf l
  ·rw[hp] at e;simp only[Ek,e,D1,Bool.false_eq_true,if_false]
  ·rw[hp] at e;have Xc:w.length<=l.length:=(List.isPrefixOf_iff_prefix.1 hp).length_le;have a1:decide (Int.toNat ((w.length:Nat):Int)<=l.length)=true:=by simp;omega
   have a2:(Ac l).extract (Int.toNat ((w.length:Nat):Int)) l.length=Ac (l.drop w.length):=by rw[Oo,Xs hl]
   simp only[Ek,e,Aw,dle,a1,a2,Db,if_true]
 rw[Ql];simp only[Ek,e2]
def CJ (x:List Int):PV:=.sc (.string (Ac x))
theorem ON {c:Int}(hc:0<=c∧c<=255){a0 a1:ByteArray}{a2 a3:Int}{N:Nat}(hN:N<=1000000):∀(nn:Nat)(r:List Int)(done:List (List Int)),r.length+1<=nn->r.length<=1000000->Do r->done.length+(A8 c r).length=N ->
  D5 fu (Ae (CP p) prog fu (d+3)) a0 a1 a2 a3 nn (Ac r) (Ac [c]) 0 ((N:Int)-1) N (done.length:Int) (done.map CJ++List.replicate (A8 c r).length (.sc (.string ⟨#[]⟩)))=some ⟨[.own 1 N ((done++A8 c r).map CJ)],[]⟩:=by
 intro nn
 induction nn with
 |zero=>intro r done h;omega
 |succ k ih=>
  intro r done hk hr6 hr hn;have e:Ae (CP p) prog fu (d+3) 100 [.sc (.string (Ac r)),.sc (.string (Ac [c]))]=_:=Aai (fu:=fu) (d:=d) (p:=p) hc hr;rw[Oe];have E8:=Vz c r;by_cases g:(B5 c r).length<r.length
  ·rw[E7 g] at E8;have hi:U5 c r=(B5 c r).length:=by unfold U5;rw[E7 g]
   rw[hi] at e;have hp:=DP c (r.drop ((B5 c r).length+1));have On:(A8 c r).length=(A8 c (r.drop ((B5 c r).length+1))).length+1:=by rw[E8];simp
   have a0:decide ((done.length:Int)<(N:Int)-1)=true:=by simp;omega
   have a1:decide (((B5 c r).length:Int)<0)=false:=by simp
   have a2:wrap .i64 (((B5 c r).length:Int)+0)=((B5 c r).length:Int):=by rw[Bc (by omega) (by omega)];omega
   have a3:decide ((0:Int)<=((B5 c r).length:Int))=true:=by simp
   have a4:decide (Int.toNat ((B5 c r).length:Int)<=r.length)=true:=by simp;omega
   have a5:(Ac r).extract 0 (Int.toNat ((B5 c r).length:Int))=Ac (B5 c r):=by rw[Oo,NR hr,←T8]
   have a6:(decide ((0:Int)<=(done.length:Int))&&decide ((done.length:Int)<(N:Int)))=true:=by simp;omega
   have a7:decide (0+Int.toNat (done.length:Int)*1+1<=List.length (done.map CJ++List.replicate (A8 c r).length (PV.sc (.string ⟨#[]⟩))))=true:=by simp;omega
   have a8:B8 (done.map CJ++List.replicate (A8 c r).length (PV.sc (.string ⟨#[]⟩))) [PV.sc (.string (Ac (B5 c r)))] (0+Int.toNat (done.length:Int)*1)=(done++[B5 c r]).map CJ++List.replicate (A8 c (r.drop ((B5 c r).length+1))).length (PV.sc (.string ⟨#[]⟩)):=by
    rw[Ym (by simp;omega),On,List.replicate_succ,Oo,Zzd,Nat.mul_one,SJ (by simp)]
    simp[CJ]
   have a9:wrap .i64 (((B5 c r).length:Int)+(([c].length:Nat):Int))=(((B5 c r).length+1:Nat):Int):=by
    rw[Bc (by simp;omega) (by simp;omega)];simp
   have b1:decide ((0:Int)<=(((B5 c r).length+1:Nat):Int))=true:=by simp;omega
   have b2:decide (Int.toNat (((B5 c r).length+1:Nat):Int)<=r.length)=true:=by simp;omega
   have b3:(Ac r).extract (Int.toNat (((B5 c r).length+1:Nat):Int)) r.length=Ac (r.drop ((B5 c r).length+1)):=by rw[Oo,Xs hr]
   have b4:wrap .i64 ((done.length:Int)+1)=(((done++[B5 c r]).length:Nat):Int):=by
    rw[Bc (by omega) (by omega)];simp
   have hd:=ih (r.drop ((B5 c r).length+1)) (done++[B5 c r]) (by simp;omega) (by simp;omega) ((fun x hx=>hr x (List.mem_of_mem_drop hx))) (by simp;omega)
   simp only[Ek,e,Aw,dle,a0,a1,a2,a3,a4,a5,a6,a7,a8,a9,b1,b2,b3,b4];rw[hd,E8];simp
  ·rw[Dz g] at E8;have On:(A8 c r).length=1:=by rw[E8];rfl
   have a0:decide ((done.length:Int)<(N:Int)-1)=false:=by simp;omega
   have a6:(decide ((0:Int)<=(done.length:Int))&&decide ((done.length:Int)<(N:Int)))=true:=by simp;omega
   have a7:decide (0+Int.toNat (done.length:Int)*1+1<=List.length (done.map CJ++List.replicate (A8 c r).length (PV.sc (.string ⟨#[]⟩))))=true:=by simp;omega
   have a8:B8 (done.map CJ++List.replicate (A8 c r).length (PV.sc (.string ⟨#[]⟩))) [PV.sc (.string (Ac r))] (0+Int.toNat (done.length:Int)*1)=(done++[r]).map CJ:=by
    rw[Ym (by simp;omega),On,show List.replicate 1 (PV.sc (Value.string ⟨#[]⟩))=[PV.sc (.string ⟨#[]⟩)] from rfl,Oo,Zzd,Nat.mul_one,SJ (by simp)]
    simp[CJ]
   have b4:wrap .i64 ((done.length:Int)+1)=(N:Int):=by
    rw[Bc (by omega) (by omega)];omega
   have b5:decide ((0:Int)<=(N:Int))=true:=by simp
   have b6:decide (Int.toNat (N:Int)<=N)=true:=by simp
   have b7:Int.toNat (N:Int)-0=N:=by simp
   have b8:decide (N*1<=List.length ((done++[r]).map CJ))=true:=by simp;omega
   have b9:List.take (N*1) ((done++[r]).map CJ)=(done++[r]).map CJ:=Zzf (by simp;omega)
   simp only[Ek,a0,a6,a7,a8,b4,b5,b6,b7,b8,b9];rw[E8]
theorem Adi {c:Int}(hc:0<=c∧c<=255){l:List Int}(hl:Do l)(hs:l.length<=999999)(Ev:l.length+1<=fu):Ae (CP p) prog fu (d+5) N4 [.sc (.string (Ac l)),.sc (.string (Ac [c]))]=some ⟨[.own 1 (A8 c l).length ((A8 c l).map CJ)],[]⟩:=by
 have e:Ae (CP p) prog fu (d+4) 79 [.sc (.string (Ac l)),.sc (.string (Ac [c])),.sc (.int .i64 0),.sc (.int .i64 (-1))]=some ⟨[.own 1 (A8 c l).length ((A8 c l).map CJ)],[]⟩:=by
  refine (Rr (p:=p) fu (d+3) _ _ _ _).trans ?_;have hn:=Ux c l;have hp:=DP c l;have hcn:=FA hc hl
  have e1:Ae (CP p) prog fu (d+3) 99 [.sc (.string (Ac l)),.sc (.string (Ac [c]))]=some ⟨[.sc (.int .i64 (((A8 c l).length:Int)-1))],[]⟩:=by
   have:Ae (CP p) prog fu (d+3) 99 [.sc (.string (Ac l)),.sc (.string (Ac [c]))]=some ⟨[.sc (.int .i64 (Lib.countByte (Ac l).data.toList c.toNat.toUInt8))],[]⟩:=rfl;rw[this]
   have e0:(Lib.countByte (Ac l).data.toList c.toNat.toUInt8:Int)=((A8 c l).length:Int)-1:=by
    have:Lib.countByte (Ac l).data.toList c.toNat.toUInt8+1=(A8 c l).length:=hcn;omega
   rw[e0]
  have a1:(((-1:Int))==0)=false:=rfl;have a2:(Array.toList (Ac [c]).data==Array.toList (ByteArray.mk #[]).data)=false:=rfl;have a3:decide ((-1:Int)<0)=true:=rfl;have a4:wrap .i64 (((A8 c l).length:Int)-1+1)=(A8 c l).length:=by rw[Bc (by omega) (by omega)];omega
  have a5:wrap .i64 ((l.length:Int)+1)=l.length+1:=by rw[Bc (by omega) (by omega)]
  have a6:(if ((l.length:Int)+1)<((A8 c l).length:Int) then ((l.length:Int)+1) else ((A8 c l).length:Int))=(A8 c l).length:=by rw[Dz (by omega)]
  have a7:decide ((0:Int)<=((A8 c l).length:Int))=true:=by simp
  have b7:decide (((A8 c l).length:Int)<=((A8 c l).length:Int))=true:=by simp
  have c7:decide (((A8 c l).length:Int)*16<=1099511627776)=true:=by simp;omega
  have d7:decide (((A8 c l).length:Int)<=1099511627776)=true:=by simp;omega
  have a8:wrap .i64 (((A8 c l).length:Int)-1)=((A8 c l).length:Int)-1:=Bc (by omega) (by omega)
  have a9:M7 (A8 c l).length [PV.sc (.string ⟨#[]⟩)]=List.replicate (A8 c l).length (PV.sc (.string ⟨#[]⟩)):=by
   unfold M7
   induction (A8 c l).length with
   |zero=>rfl
   |succ k ih=>rw[List.replicate_succ,List.flatten_cons,ih];rfl
  have a10:Int.toNat ((A8 c l).length:Int)=(A8 c l).length:=Oo _;have hd:=ON (fu:=fu) (d:=d) (p:=p) hc (a0:=Ac l) (a1:=Ac [c]) (a2:=0) (a3:= -1) (N:=(A8 c l).length) (by omega) fu l [] Ev (by omega) hl (by simp)
  simp only[Ek,e1,Aw,dle,a1,a2,a3,a4,a5,a6,a7,b7,c7,d7,a8,a9,a10];exact hd
 have b1:decide ((A8 c l).length*1<=List.length ((A8 c l).map CJ))=true:=by simp
 have b2:List.take ((A8 c l).length*1) ((A8 c l).map CJ)=(A8 c l).map CJ:=Zzf (by simp)
 rw[Wq];simp only[Ek,e,b1,b2]
end
end
section
open Go.Proofs.Tryd (prog)
open Go.IntKind (wrap)
set_option maxRecDepth 100000
theorem IR:∀n:Fin 256,Lib.indexByte CN.data.toList (n.val:Int).toNat.toUInt8=if Bs (n.val:Int)<64 then Bs (n.val:Int) else -1:=by decide +kernel
theorem Aat {c:Int}(hc:0<=c∧c<=255):Lib.indexByte CN.data.toList c.toNat.toUInt8=if Bs c<64 then Bs c else -1:=by
 obtain⟨n,rfl⟩:=Int.eq_ofNat_of_zero_le hc.1;exact IR ⟨n,by omega⟩
theorem Ary {y v:Int}(k:Nat)(hk:k<=18)(h0:0<=y)(hm:y % ((2 ^ (k+6):Nat):Int)=0) (hy:y<16777216)(hv0:0<=v)(hv:v<64):JO .u32 y (G1 .u32 (wrap .u32 v) (k:Int))=y+v*((2 ^ k:Nat):Int):=by
 obtain⟨y,rfl⟩:=Int.eq_ofNat_of_zero_le h0;obtain⟨v,rfl⟩:=Int.eq_ofNat_of_zero_le hv0
 have e1:wrap .u32 (v:Int)=v:=by
  simp only[wrap,IntKind.bits,IntKind.signed,Zzs,Bool.false_eq_true,if_false];omega
 have A74:2 ^ k<=2 ^ 18:=Nat.pow_le_pow_right (by omega) hk
 have hvk:v*2 ^ k<2 ^ k*64:=by
  rw[Nat.mul_comm];exact Nat.mul_lt_mul_of_pos_left (by omega) (Nat.pos_of_ne_zero (by simp))
 have e2:G1 .u32 (v:Int) (k:Int)=((v*2 ^ k:Nat):Int):=by
  show wrap .u32 ((v:Int)*2 ^ (min (k:Int).toNat IntKind.u32.bits))=_
  have:min (k:Int).toNat IntKind.u32.bits=k:=by
   rw[Oo];exact Nat.min_eq_left (by show k<=32;omega)
  rw[this];have:(v:Int)*2 ^ k=((v*2 ^ k:Nat):Int):=by simp
  rw[this];simp only[wrap,IntKind.bits,IntKind.signed,Zzs,Bool.false_eq_true,if_false];omega
 rw[e1,e2];have e3:=Akj y (v*2 ^ k) (by omega) (by omega)
 refine e3.trans ?_
 have hd:y=y / 2 ^ (k+6)*2 ^ (k+6):=by
  have:y % 2 ^ (k+6)=0:=by exact_mod_cast hm
  have:=Nat.div_add_mod y (2 ^ (k+6));rw[Nat.mul_comm] at this;omega
 have B4:v*2 ^ k<2 ^ (k+6):=by rw[Nat.pow_add];exact hvk
 have:=Nat.shiftLeft_add_eq_or_of_lt B4 (y / 2 ^ (k+6));rw[Nat.shiftLeft_eq,←hd] at this;rw[←this];simp
section
variable {fu d:Nat} {p:Option (List PV->Option Ay)}
theorem Ajq {c:Int}(hc:0<=c∧c<=255):Ae (CP p) prog fu (d+2) 27 [.sc (.string CN),.sc (.int .u8 c)]=some ⟨[.sc (.int .i64 (if Bs c<64 then Bs c else -1))],[]⟩:=by
 have e:Ae (CP p) prog fu (d+1) 40 [.sc (.string CN),.sc (.int .u8 c)]=some ⟨[.sc (.int .i64 (Lib.indexByte CN.data.toList c.toNat.toUInt8))],[]⟩:=rfl;rw[Aat hc] at e;refine (Jm (p:=p) fu (d+1) _ _).trans ?_;simp only[Ek,e]
theorem Ju {a0:ByteArray}{m0 nn:Nat}{l:List Int}{y1:Nat}{y6:List PV}{i n:Nat}{y3 c:Int}(Y1:i<n)(hn:n<=4)(hl:Do l)(hc:l[i]?=some c) (h0:0<=y3)(hm:y3 % ((2 ^ (24-6*i):Nat):Int)=0) (hy:y3<16777216):
  Ca fu (Ae (CP p) prog fu (d+2)) a0 m0 (nn+1) (Ac l) y1 (n:Int) y3 (n:Int) (i:Int) y6=if Bs c<64 then Ca fu (Ae (CP p) prog fu (d+2)) a0 m0 nn (Ac l) y1 (n:Int) (y3+Bs c*((2 ^ (18-6*i):Nat):Int)) (n:Int) ((i+1:Nat):Int) y6 else some ⟨[.own 1 0 [],.sc (.int .i64 2)],[]⟩:=by
 have hcB:=hl c (List.mem_of_getElem? hc);have hv:=L2 c;have e:=Ajq (fu:=fu) (d:=d) (p:=p) hcB;have a1:decide ((i:Int)<(n:Int))=true:=by simp;omega
 have a2:decide ((0:Int)<=(i:Int))=true:=by simp
 have a3:(Array.toList (Ac l).data)[Int.toNat (i:Int)]?=some c.toNat.toUInt8:=by
  rw[Oo];show (l.map fun n=>n.toNat.toUInt8)[i]?=_
  rw[List.getElem?_map,hc];rfl
 have a4:=Zf hcB;have ea:(ByteArray.mk #[(65:UInt8),(66:UInt8),(67:UInt8),(68:UInt8),(69:UInt8),(70:UInt8),(71:UInt8),(72:UInt8),(73:UInt8),(74:UInt8),(75:UInt8),(76:UInt8),(77:UInt8),(78:UInt8),(79:UInt8),(80:UInt8),(81:UInt8),(82:UInt8),(83:UInt8),(84:UInt8),(85:UInt8),(86:UInt8),(87:UInt8),(88:UInt8),(89:UInt8),(90:UInt8),(97:UInt8),(98:UInt8),(99:UInt8),(100:UInt8),(101:UInt8),(102:UInt8),(103:UInt8),(104:UInt8),(105:UInt8),(106:UInt8),(107:UInt8),(108:UInt8),(109:UInt8),(110:UInt8),(111:UInt8),(112:UInt8),(113:UInt8),(114:UInt8),(115:UInt8),(116:UInt8),(117:UInt8),(118:UInt8),(119:UInt8),(120:UInt8),(121:UInt8),(122:UInt8),(48:UInt8),(49:UInt8),(50:UInt8),(51:UInt8),(52:UInt8),(53:UInt8),(54:UInt8),(55:UInt8),(56:UInt8),(57:UInt8),(45:UInt8),(95:UInt8)])=CN:=rfl;rw[F9,ea];by_cases hv6:Bs c<64
 ·rw[E7 hv6] at e;have b1:decide (Bs c<0)=false:=by simp;omega
  have b2:wrap .i64 (6*(i:Int))=6*(i:Int):=Bc (by omega) (by omega)
  have b3:wrap .i64 (18-6*(i:Int))=((18-6*i:Nat):Int):=by rw[Bc (by omega) (by omega)];omega
  have b4:decide ((0:Int)<=((18-6*i:Nat):Int))=true:=by simp
  have b5:=Ary (y:=y3) (v:=Bs c) (18-6*i) (by omega) h0 (by rw[show 18-6*i+6=24-6*i by omega];exact hm) hy hv.1 hv6
  have b6:wrap .i64 ((i:Int)+1)=((i+1:Nat):Int):=by rw[Bc (by omega) (by omega)];omega
  rw[E7 hv6];simp only[Ek,a1,a2,a3,a4,e,b1,b2,b3,b4,b5,b6]
 ·rw[Dz hv6] at e;have b1:decide ((-1:Int)<0)=true:=rfl;rw[Dz hv6];simp only[Ek,a1,a2,a3,a4,e,b1]
theorem Apa {y:Int}(h0:0<=y)(hy:y<16777216):wrap .u8 (LY .u32 y 16)=y / 65536 % 256:=by
 show wrap .u8 (y.fdiv (2 ^ (min (16:Int).toNat IntKind.u32.bits)))=_;have:(2:Int) ^ (min (16:Int).toNat IntKind.u32.bits)=65536:=by decide
 rw[this,Int.fdiv_eq_ediv_of_nonneg _ (by omega)]
 simp only[wrap,IntKind.bits,IntKind.signed,Zzs,Bool.false_eq_true,if_false];omega
theorem A38 {y:Int}(h0:0<=y)(hy:y<16777216):wrap .u8 (LY .u32 y 8)=y / 256 % 256:=by
 show wrap .u8 (y.fdiv (2 ^ (min (8:Int).toNat IntKind.u32.bits)))=_;have:(2:Int) ^ (min (8:Int).toNat IntKind.u32.bits)=256:=by decide
 rw[this,Int.fdiv_eq_ediv_of_nonneg _ (by omega)]
 simp only[wrap,IntKind.bits,IntKind.signed,Zzs,Bool.false_eq_true,if_false];omega
theorem A4x {y:Int}(h0:0<=y)(hy:y<16777216):wrap .u8 y=y % 256:=by
 simp only[wrap,IntKind.bits,IntKind.signed,Zzs,Bool.false_eq_true,if_false];omega
theorem QZ {a0:ByteArray}{m0 nn:Nat}{s:ByteArray}{y1:Nat}{y6:List PV}{n:Nat}{y3:Int}(hn:2<=n)(hn4:n<=4)(h0:0<=y3)(hy:y3<16777216):
  Ca fu (Ae (CP p) prog fu (d+2)) a0 m0 (nn+1) s y1 (n:Int) y3 (n:Int) (n:Int) y6=B9 fu (Ae (CP p) prog fu (d+2)) a0 m0 fu s y1 (n:Int) (n-1) (4-n) ((4-n:Nat):Int) 0 y6 [.sc (.int .u8 (y3 / 65536 % 256)),.sc (.int .u8 (y3 / 256 % 256)),.sc (.int .u8 (y3 % 256))]:=by
 have a1:decide ((n:Int)<(n:Int))=false:=by simp
 have e1:=Apa h0 hy;have e2:=A38 h0 hy;have e3:=A4x h0 hy;have b1:wrap .i64 ((n:Int)-1)=((n-1:Nat):Int):=by rw[Bc (by omega) (by omega)];omega
 have b2:decide ((0:Int)<=((n-1:Nat):Int))=true:=by simp
 have b3:decide (Int.toNat ((n-1:Nat):Int)<=3)=true:=by simp;omega
 have b4:0+Int.toNat ((n-1:Nat):Int)*1=n-1:=by rw[Oo];omega
 have b5:3-Int.toNat ((n-1:Nat):Int)=4-n:=by rw[Oo];omega
 rw[F9];simp only[Ek,a1,e1,e2,e3,b1,b2,b3,b4,b5]
end
end
section
open Go.Proofs.Tryd (prog)
open Go.IntKind (wrap)
set_option maxRecDepth 100000
section
variable {fu d:Nat} {p:Option (List PV->Option Ay)}
abbrev grp (A B C:Int):List PV:=[.sc (.int .u8 A),.sc (.int .u8 B),.sc (.int .u8 C)]
abbrev A0t:Option Ay:=some ⟨[.own 1 0 [],.sc (.int .i64 2)],[]⟩
theorem Alt {call:Ax}{a0 s:ByteArray}{m0 nn y1:Nat}{n i j:Nat}{y7:List PV}{A B C X:Int}(hij:i<j)(hj:j<=4)(h:List.getD (grp A B C) (n+i) .top=.sc (.int .u8 X)) {q:Int}:
  B9 fu call a0 m0 (nn+1) s y1 q n j (j:Int) (i:Int) y7 (grp A B C)=if X=0 then B9 fu call a0 m0 nn s y1 q n j (j:Int) ((i+1:Nat):Int) y7 (grp A B C) else A0t:=by
 have a1:decide ((i:Int)<(j:Int))=true:=by simp;omega
 have a2:(decide ((0:Int)<=(i:Int))&&decide ((i:Int)<(j:Int)))=true:=by simp;omega
 have a2':decide ((0:Int)<=(i:Int))=true:=by simp
 have a3:List.getD (grp A B C) (n+Int.toNat (i:Int)*1) PV.top=.sc (.int .u8 X):=by rw[Oo,Nat.mul_one];exact h
 have a4:wrap .i64 ((i:Int)+1)=((i+1:Nat):Int):=by rw[Bc (by omega) (by omega)];omega
 rw[F8];by_cases hx:X=0
 ·subst hx;have a5:((0:Int) != 0)=false:=rfl;rw[E7 rfl];simp only[Ek,a1,a2,a2',a3,a4,a5]
 ·have a5:(X != 0)=true:=by simp[hx]
  rw[Dz hx];simp only[Ek,a1,a2,a2',a3,a5]
theorem QK {call:Ax}{a0:ByteArray}{m0 nn:Nat}{n j:Nat}{l acc:List Int}{A B C:Int}(hn:2<=n)(hn4:n<=4)(hl:Do l)(ZQ:n<=l.length)(X8:acc.length<=1000000){st:Nat}:
  B9 fu call a0 m0 (nn+1) (Ac l) acc.length (n:Int) st j (j:Int) (j:Int) (Dw .u8 acc) (grp A B C)=B7 fu call a0 m0 (Ac (l.drop n)) (acc++[A,B,C].take (n-1)).length (Dw .u8 (acc++[A,B,C].take (n-1))):=by
 have a1:decide ((j:Int)<(j:Int))=false:=by simp
 have a2:wrap .i64 ((n:Int)-1)=((n-1:Nat):Int):=by rw[Bc (by omega) (by omega)];omega
 have a3:(decide (3<=List.length (grp A B C))&&true)=true:=rfl;have a4:decide ((0:Int)<=((n-1:Nat):Int))=true:=by simp
 have a5:decide (Int.toNat ((n-1:Nat):Int)<=3)=true:=by simp;omega
 have a6:Int.toNat ((n-1:Nat):Int)-0=n-1:=by rw[Oo];omega
 have a7:decide (0+(n-1)*1<=List.length (grp A B C))=true:=by simp;omega
 have a8:decide (acc.length*1<=List.length (Dw .u8 acc))=true:=by rw[Kn];simp
 have a9:decide (List.length (List.take ((n-1)*1) (List.drop 0 (grp A B C)))=(n-1)*1)=true:=by simp;omega
 have b1:decide ((acc.length+(n-1))*1<=1099511627776)=true:=by simp;omega
 have b2:decide (acc.length+(n-1)<=1099511627776)=true:=by simp;omega
 have b3:List.take (acc.length*1) (Dw .u8 acc)++List.take ((n-1)*1) (List.drop 0 (grp A B C))=Dw .u8 (acc++[A,B,C].take (n-1)):=by
  have e0:Dw .u8 (acc++[A,B,C].take (n-1))=Dw .u8 acc++Dw .u8 ([A,B,C].take (n-1)):=List.flatMap_append;rw[Zzf (by rw[Kn];omega),e0,List.drop_zero,Nat.mul_one]
  congr 1
  match n,hn,hn4 with
  |2,_,_=>rfl
  |3,_,_=>rfl
  |4,_,_=>rfl
 have b4:decide ((0:Int)<=(n:Int))=true:=by simp
 have b5:decide (Int.toNat (n:Int)<=l.length)=true:=by simp;omega
 have b6:(Ac l).extract (Int.toNat (n:Int)) l.length=Ac (l.drop n):=by rw[Oo,Xs hl]
 have b7:acc.length+(n-1)=(acc++[A,B,C].take (n-1)).length:=by simp;omega
 rw[F8];simp only[Ek,Aw,dle,a1,a2,a3,a4,a5,a6,a7,a8,a9,b1,b2,b3,b4,b5,b6];rw[b7]
theorem YU {a0:ByteArray}(Ev:10<=fu):∀(m:Nat)(l acc:List Int)(nn:Nat),l.length<=4*m->m+1<=nn->Do l->l.length % 4≠1->acc.length+l.length<=1000000 ->
  B7 fu (Ae (CP p) prog fu (d+2)) a0 nn (Ac l) acc.length (Dw .u8 acc)=some (match Na l with|none=>⟨[.own 1 0 [],.sc (.int .i64 2)],[]⟩|some b=>⟨[.own 1 (acc++b).length (Dw .u8 (acc++b)),.sc (.int .i64 0)],[]⟩):=by
 obtain⟨fu,rfl⟩:∃k,fu=k+10:=⟨fu-10,by omega⟩
 have zero:∀(acc:List Int) (nn:Nat),acc.length<=1000000->B7 (fu+10) (Ae (CP p) prog (fu+10) (d+2)) a0 (nn+1) (Ac []) acc.length (Dw .u8 acc)=some ⟨[.own 1 acc.length (Dw .u8 acc),.sc (.int .i64 0)],[]⟩:=by
  intro acc nn h;have a1:decide ((((Ac []).size:Nat):Int)>0)=false:=rfl;have a2:decide (acc.length*1<=List.length (Dw .u8 acc))=true:=by rw[Kn];simp
  have a3:List.take (acc.length*1) (Dw .u8 acc)=Dw .u8 acc:=Zzf (by rw[Kn];omega)
  rw[Ga];simp only[Ek,a1,a2,a3]
 intro m
 induction m with
 |zero=>
  intro l acc nn hl Rb hB h1 X8;have:l=[]:=List.eq_nil_of_length_eq_zero (by omega)
  subst this;obtain⟨k,rfl⟩:∃k,nn=k+1:=⟨nn-1,by omega⟩
  rw[zero acc k (by omega)]
  simp[Na]
 |succ m ih=>
  intro l acc nn hl Rb hB h1 X8;obtain⟨k,rfl⟩:∃k,nn=k+1:=⟨nn-1,by omega⟩
  have head:∀(n:Nat),l.length>0->n=min l.length 4->B7 (fu+10) (Ae (CP p) prog (fu+10) (d+2)) a0 (k+1) (Ac l) acc.length (Dw .u8 acc)=Ca (fu+10) (Ae (CP p) prog (fu+10) (d+2)) a0 k (fu+10) (Ac l) acc.length (n:Int) 0 (n:Int) 0 (Dw .u8 acc):=by
   intro n hp hn;have a1:decide (((l.length:Nat):Int)>0)=true:=by simp;omega
   have a2:(if ((l.length:Nat):Int)<4 then ((l.length:Nat):Int) else 4)=(n:Int):=by split<;>omega
   rw[Ga];simp only[Ek,Aw,a1,a2]
  match l,hl,hB,h1,X8,head with
  |[],_,_,_,X8,_=>
   rw[zero acc k (by simpa using X8)]
   simp[Na]
  |[x],_,_,h1,_,_=>exact absurd rfl h1
  |[a,b],_,hB,_,X8,head=>
   have va:=L2 a;have vb:=L2 b;rw[head 2 (by simp) rfl,show (0:Int)=((0:Nat):Int) from rfl]
   rw[Ju (c:=a) (by omega) (by omega) hB rfl (by simp) (by simp) (by simp)]
   unfold Na;by_cases ha:Bs a<64
   ·rw[E7 ha,Ju (c:=b) (by omega) (by omega) hB rfl (by simp<;>omega) (by simp<;>omega) (by simp<;>omega)]
    by_cases hb:Bs b<64
    ·rw[E7 hb,QZ (by omega) (by omega) (by simp<;>omega) (by simp<;>omega)]
     rw[show (0:Int)=((0:Nat):Int) from rfl]
     rw[Alt (X:=(((0:Nat):Int)+Bs a*((2 ^ (18-6*0):Nat):Int)+Bs b*((2 ^ (18-6*1):Nat):Int)) / 256 % 256) (by omega) (by omega) rfl]
     by_cases hz:Bs b % 16=0
     ·rw[E7 (by simp<;>omega)]
      rw[Alt (X:=(((0:Nat):Int)+Bs a*((2 ^ (18-6*0):Nat):Int)+Bs b*((2 ^ (18-6*1):Nat):Int)) % 256) (by omega) (by omega) rfl]
      rw[E7 (by simp<;>omega),QK (by omega) (by omega) hB (by simp) (by omega)]
      rw[E7 ⟨ha,hb,hz⟩];have hr:=ih [] (acc++[Bs a*4+Bs b / 16]) k (by simp) (by omega) (fun x hx=>by cases hx) (by simp) (by simp at X8 ⊢;omega)
      have e:(((0:Nat):Int)+Bs a*((2 ^ (18-6*0):Nat):Int)+Bs b*((2 ^ (18-6*1):Nat):Int)) / 65536 % 256=Bs a*4+Bs b / 16:=by simp;omega
      rw[e];refine hr.trans ?_;simp[Na]
     ·rw[Dz (by simp<;>omega),Dz (fun h=>hz h.2.2)]
    ·rw[Dz hb,Dz (fun h=>hb h.2.1)]
   ·rw[Dz ha,Dz (fun h=>ha h.1)]
  |[a,b,c],_,hB,_,X8,head=>
   have va:=L2 a;have vb:=L2 b;have vc:=L2 c;rw[head 3 (by simp) rfl,show (0:Int)=((0:Nat):Int) from rfl]
   rw[Ju (c:=a) (by omega) (by omega) hB rfl (by simp) (by simp) (by simp)]
   unfold Na;by_cases ha:Bs a<64
   ·rw[E7 ha,Ju (c:=b) (by omega) (by omega) hB rfl (by simp<;>omega) (by simp<;>omega) (by simp<;>omega)]
    by_cases hb:Bs b<64
    ·rw[E7 hb,Ju (c:=c) (by omega) (by omega) hB rfl (by simp<;>omega) (by simp<;>omega) (by simp<;>omega)]
     by_cases hc:Bs c<64
     ·rw[E7 hc,QZ (by omega) (by omega) (by simp<;>omega) (by simp<;>omega)]
      rw[show (0:Int)=((0:Nat):Int) from rfl]
      rw[Alt (X:=(((0:Nat):Int)+Bs a*((2 ^ (18-6*0):Nat):Int)+Bs b*((2 ^ (18-6*1):Nat):Int)+Bs c*((2 ^ (18-6*2):Nat):Int)) % 256) (by omega) (by omega) rfl]
      by_cases hz:Bs c % 4=0
      ·rw[E7 (by simp<;>omega),QK (by omega) (by omega) hB (by simp) (by omega)]
       rw[E7 ⟨ha,hb,hc,hz⟩];have hr:=ih [] (acc++[Bs a*4+Bs b / 16,Bs b % 16*16+Bs c / 4]) k (by simp) (by omega) (fun x hx=>by cases hx) (by simp) (by simp at X8 ⊢;omega)
       have e:(((0:Nat):Int)+Bs a*((2 ^ (18-6*0):Nat):Int)+Bs b*((2 ^ (18-6*1):Nat):Int)+Bs c*((2 ^ (18-6*2):Nat):Int)) / 65536 % 256=Bs a*4+Bs b / 16:=by simp;omega
       have e2:(((0:Nat):Int)+Bs a*((2 ^ (18-6*0):Nat):Int)+Bs b*((2 ^ (18-6*1):Nat):Int)+Bs c*((2 ^ (18-6*2):Nat):Int)) / 256 % 256=Bs b % 16*16+Bs c / 4:=by simp;omega
       rw[e,e2];refine hr.trans ?_;simp[Na]
      ·rw[Dz (by simp<;>omega),Dz (fun h=>hz h.2.2.2)]
     ·rw[Dz hc,Dz (fun h=>hc h.2.2.1)]
    ·rw[Dz hb,Dz (fun h=>hb h.2.1)]
   ·rw[Dz ha,Dz (fun h=>ha h.1)]
  |a::b::c::e::t,hl,hB,h1,X8,head=>
   have va:=L2 a;have vb:=L2 b;have vc:=L2 c;have ve:=L2 e;rw[head 4 (by simp) (by simp<;>omega),show (0:Int)=((0:Nat):Int) from rfl]
   rw[Ju (c:=a) (by omega) (by omega) hB rfl (by simp) (by simp) (by simp)]
   unfold Na;by_cases ha:Bs a<64
   ·rw[E7 ha,Ju (c:=b) (by omega) (by omega) hB rfl (by simp<;>omega) (by simp<;>omega) (by simp<;>omega)]
    by_cases hb:Bs b<64
    ·rw[E7 hb,Ju (c:=c) (by omega) (by omega) hB rfl (by simp<;>omega) (by simp<;>omega) (by simp<;>omega)]
     by_cases hc:Bs c<64
     ·rw[E7 hc,Ju (c:=e) (by omega) (by omega) hB rfl (by simp<;>omega) (by simp<;>omega) (by simp<;>omega)]
      by_cases he:Bs e<64
      ·rw[E7 he,QZ (by omega) (by omega) (by simp<;>omega) (by simp<;>omega)]
       rw[show (0:Int)=((4-4:Nat):Int) from rfl,QK (by omega) (by omega) hB (by simp) (by omega)]
       rw[E7 ⟨ha,hb,hc,he⟩];have hr:=ih t (acc++[Bs a*4+Bs b / 16,Bs b % 16*16+Bs c / 4,Bs c % 4*64+Bs e]) k (by simp at hl;omega) (by omega) (fun x hx=>hB x (by simp[hx])) (by simp at h1;omega) (by simp at X8 ⊢;omega)
       have e1:(((4-4:Nat):Int)+Bs a*((2 ^ (18-6*0):Nat):Int)+Bs b*((2 ^ (18-6*1):Nat):Int)+Bs c*((2 ^ (18-6*2):Nat):Int)+Bs e*((2 ^ (18-6*3):Nat):Int)) / 65536 % 256=Bs a*4+Bs b / 16:=by simp;omega
       have e2:(((4-4:Nat):Int)+Bs a*((2 ^ (18-6*0):Nat):Int)+Bs b*((2 ^ (18-6*1):Nat):Int)+Bs c*((2 ^ (18-6*2):Nat):Int)+Bs e*((2 ^ (18-6*3):Nat):Int)) / 256 % 256=Bs b % 16*16+Bs c / 4:=by simp;omega
       have e3:(((4-4:Nat):Int)+Bs a*((2 ^ (18-6*0):Nat):Int)+Bs b*((2 ^ (18-6*1):Nat):Int)+Bs c*((2 ^ (18-6*2):Nat):Int)+Bs e*((2 ^ (18-6*3):Nat):Int)) % 256=Bs c % 4*64+Bs e:=by simp;omega
       rw[e1,e2,e3];refine hr.trans ?_;cases Na t<;>simp
      ·rw[Dz he,Dz (fun h=>he h.2.2.2)]
     ·rw[Dz hc,Dz (fun h=>hc h.2.2.1)]
    ·rw[Dz hb,Dz (fun h=>hb h.2.1)]
   ·rw[Dz ha,Dz (fun h=>ha h.1)]
theorem Abr:∀{l:List Int},l.length % 4=1->Na l=none
 |[],h=>by simp at h
 |[_],_=>rfl
 |[_,_],h=>by simp at h
 |[_,_,_],h=>by simp at h
 |p::q::r::s::t,h=>by
  have:=Abr (l:=t) (by simp at h;omega)
  unfold Na;rw[this];simp
theorem Ank {l:List Int}(hB:Do l)(hl:l.length<=1000000)(Ev:10<=fu)(CL:l.length<=fu):Ae (CP p) prog fu (d+3) G6 [.sc (.string (Ac l))]=some (match Na l with|none=>⟨[.own 1 0 [],.sc (.int .i64 2)],[]⟩|some b=>⟨[.own 1 b.length (Dw .u8 b),.sc (.int .i64 0)],[]⟩):=by
 rw[M2];have a0:Int.tmod ((l.length:Nat):Int) 4=((l.length % 4:Nat):Int):=by rw[Int.tmod_eq_emod_of_nonneg (by omega)];omega
 by_cases h1:l.length % 4=1
 ·have a1:(((l.length % 4:Nat):Int)==1)=true:=by rw[h1];rfl
  rw[Abr h1];simp only[Ek,Aw,a0,a1]
 ·have a1:(((l.length % 4:Nat):Int)==1)=false:=by simp;omega
  have a2:Int.tdiv ((l.length:Nat):Int) 4=((l.length / 4:Nat):Int):=by rw[Int.tdiv_eq_ediv_of_nonneg (by omega)];omega
  have a3:wrap .i64 ((l.length / 4:Nat):Int)=((l.length / 4:Nat):Int):=Bc (by omega) (by omega)
  have a4:wrap .i64 (((l.length / 4:Nat):Int)*3)=((l.length / 4:Nat):Int)*3:=Bc (by omega) (by omega)
  have a5:wrap .i64 (((l.length / 4:Nat):Int)*3+2)=((l.length / 4:Nat):Int)*3+2:=Bc (by omega) (by omega)
  have a6:decide ((0:Int)<=((l.length / 4:Nat):Int)*3+2)=true:=by simp;omega
  have a7:decide ((((l.length / 4:Nat):Int)*3+2)*1<=1099511627776)=true:=by simp;omega
  have a8:decide (((l.length / 4:Nat):Int)*3+2<=1099511627776)=true:=by simp;omega
  have hd:=YU (d:=d) (p:=p) (a0:=Ac l) Ev (l.length / 4+1) l [] fu (by omega) (by omega) hB h1 (by simp<;>omega)
  simp only[Ek,Aw,a0,a1,a2,a3,a4,a5,a6,a7,a8];refine hd.trans ?_;cases Na l<;>simp
end
end
section
open Go.Proofs.Tryd (prog)
open Go.IntKind (wrap)
set_option maxRecDepth 100000
theorem dT {q:Prop} [Decidable q] (h:q):decide q=true:=decide_eq_true h
theorem dF {q:Prop} [Decidable q] (h:¬q):decide q=false:=decide_eq_false h
theorem bT {q:Prop} [Decidable q] (h:q):(!decide q)=false:=by simp[h]
theorem bF {q:Prop} [Decidable q] (h:¬q):(!decide q)=true:=by simp[h]
def WQ (n i:Nat)(c:Int):Bool:=ltB c||(c==45&&decide (0<i)&&decide (i+1<n))
def Un (n:Nat):Nat->List Int->Bool
 |_,[]=>true
 |i,c::r=>WQ n i c&&Un n (i+1) r
theorem EG (n i:Nat)(c:Int)(r:List Int):Un n i (c::r)=(WQ n i c&&Un n (i+1) r):=rfl
theorem ZT:ltB 45=false:=rfl
theorem TU (n:Nat):∀(r:List Int)(i:Nat),i+r.length=n->Un n i r=(r.all (fun x=>ltB x||x==45) && !(decide (i=0)&&r.head?==some 45) && !(r.getLast?==some 45))
 |[],i,_=>by simp[Un]
 |[c],i,h=>by
  simp only[QI,List.length_nil] at h;unfold Un WQ;by_cases hc:c=45
  ·subst hc;have:¬i+1<n:=by omega
   simp[Un,ZT,this]
  ·have hcb:(c==45)=false:=by simp[hc]
   simp[Un,hcb]
 |c::x::r,i,h=>by
  have ih:=TU n (x::r) (i+1) (by simp at h ⊢;omega)
  have hl:(c::x::r).getLast?=(x::r).getLast?:=by simp
  unfold Un;rw[ih,hl];have h1:i+1<n:=by simp at h;omega
  unfold WQ;by_cases hc:c=45
  ·subst hc;by_cases hi:i=0
   ·subst hi;simp[ZT]
   ·have:0<i:=by omega
    simp[ZT,h1,hi,this]
  ·have hcb:(c==45)=false:=by simp[hc]
   simp[hcb,Bool.and_assoc]
theorem Ad2 {l:List Int}(h1:1<=l.length)(h2:l.length<=63):Va l=Un l.length 0 l:=by
 rw[TU _ l 0 (by simp)]
 unfold Va;rw[dT h1,dT h2];cases l.all (fun x=>ltB x||x==45)<;>cases (l.head?==some 45)<;>cases (l.getLast?==some 45)<;>rfl
section
variable {fu d:Nat} {p:Option (List PV->Option Ay)}
theorem LA {call:Ax}{a0:ByteArray}{l:List Int}(hB:Do l)(hs:l.length<=63):∀(r:List Int)(i nn:Nat),l.drop i=r->r.length+1<=nn ->
  A9 fu call a0 nn (Ac l) (l.length:Int) (i:Int)=some ⟨[.sc (.bool (Un l.length i r))],[]⟩
 |[],i,nn,hd,hn=>by
  obtain⟨k,rfl⟩:∃k,nn=k+1:=⟨nn-1,by omega⟩
  have hi:=drop_nil hd;have a1:decide ((i:Int)<(l.length:Int))=false:=by simp;omega
  rw[Ih];simp only[Ek,a1];rfl
 |c::r,i,nn,hd,hn=>by
  obtain⟨k,rfl⟩:∃k,nn=k+1:=⟨nn-1,by omega⟩
  obtain⟨hi,hc,K3⟩:=Qd hd;have ih:=LA (call:=call) (a0:=a0) hB hs r (i+1) k K3 (by simp at hn;omega)
  have hcB:=hB c (List.mem_of_getElem? hc);have a1:decide ((i:Int)<(l.length:Int))=true:=by simp;omega
  have a2:decide ((0:Int)<=(i:Int))=true:=by simp
  have a3:(Array.toList (Ac l).data)[Int.toNat (i:Int)]?=some c.toNat.toUInt8:=by
   rw[Oo];show (l.map fun n=>n.toNat.toUInt8)[i]?=_
   rw[List.getElem?_map,hc];rfl
  have a4:=Zf hcB;have a5:wrap .i64 ((i:Int)+1)=((i+1:Nat):Int):=by rw[Bc (by omega) (by omega)];omega
  have a6:wrap .i64 ((l.length:Int)-1)=(l.length:Int)-1:=Bc (by omega) (by omega)
  have good:WQ l.length i c=true->(A9 fu call a0 k (Ac l) (l.length:Int) ((i+1:Nat):Int)=some ⟨[.sc (.bool (Un l.length i (c::r)))],[]⟩):=by
   intro h;rw[ih,EG,h,Bool.true_and]
  have bad:WQ l.length i c=false->some (Ay.mk [PV.sc (.bool false)] [])=some ⟨[.sc (.bool (Un l.length i (c::r)))],[]⟩:=by
   intro h;rw[EG,h,Zzs]
  rw[Ih];by_cases hA:97<=c∧c<=122
  ·have q1:=dT hA.1;have q2:=dT hA.2;have q3:(c==45)=false:=by simp;omega
   have q4:=dT (q:=(48:Int)<=c) (by omega)
   have q5:=bF (q:=c<=57) (by omega)
   simp only[Ek,a1,a2,a3,a4,a5,a6,Aw,q1,q2,q3,q4,q5];exact good (by unfold WQ ltB;simp[hA])
  by_cases hD:48<=c∧c<=57
  ·have q1:=dF (q:=(97:Int)<=c) (by omega)
   have q2:=dT (q:=c<=122) (by omega)
   have q3:(c==45)=false:=by simp;omega
   have q4:=dT hD.1;have q5:=bT hD.2;simp only[Ek,a1,a2,a3,a4,a5,a6,Aw,q1,q2,q3,q4,q5];exact good (by unfold WQ ltB HT;simp[hD])
  have B4:ltB c=false:=by
   unfold ltB HT;simp;exact⟨fun h=>by omega,fun h=>by omega⟩
  by_cases hM:c=45
  ·subst hM;have q1:decide ((97:Int)<=45)=false:=rfl;have q2:decide ((45:Int)<=122)=true:=rfl;have q3:((45:Int)==45)=true:=rfl;have q4:decide ((48:Int)<=45)=false:=rfl;have q5:(!decide ((45:Int)<=57))=false:=rfl;by_cases h0:0<i
   ·have q6:=dT (q:=(i:Int)>0) (by omega)
    by_cases h1:i+1<l.length
    ·have q7:=bT (q:=(i:Int)<(l.length:Int)-1) (by omega)
     simp only[Ek,a1,a2,a3,a4,a5,a6,Aw,q1,q2,q3,q4,q5,q6,q7];exact good (by unfold WQ;simp[h0,h1])
    ·have q7:=bF (q:=(i:Int)<(l.length:Int)-1) (by omega)
     simp only[Ek,a1,a2,a3,a4,a5,a6,Aw,q1,q2,q3,q4,q5,q6,q7];exact bad (by unfold WQ;simp[h1,B4])
   ·have q6:=dF (q:=(i:Int)>0) (by omega)
    simp only[Ek,a1,a2,a3,a4,a5,a6,Aw,q1,q2,q3,q4,q5,q6];exact bad (by unfold WQ;simp[h0,B4])
  have q3:(c==45)=false:=by simp[hM]
  have VB:WQ l.length i c=false:=by unfold WQ;simp[B4,hM]
  by_cases h97:97<=c
  ·have q1:=dT h97;have q2:=dF (q:=c<=122) (by omega)
   have q4:=dT (q:=(48:Int)<=c) (by omega)
   have q5:=bF (q:=c<=57) (by omega)
   simp only[Ek,a1,a2,a3,a4,a5,a6,Aw,q1,q2,q3,q4,q5];exact bad VB
  ·have q1:=dF h97;have q2:=dT (q:=c<=122) (by omega)
   by_cases h48:48<=c
   ·have q4:=dT h48;have q5:=bF (q:=c<=57) (by omega)
    simp only[Ek,a1,a2,a3,a4,a5,a6,Aw,q1,q2,q3,q4,q5];exact bad VB
   ·have q4:=dF h48;have q5:=bT (q:=c<=57) (by omega)
    simp only[Ek,a1,a2,a3,a4,a5,a6,Aw,q1,q2,q3,q4,q5];exact bad VB
theorem Adv {l:List Int}(hB:Do l)(Ev:100<=fu):Ae (CP p) prog fu (d+1) Ln [.sc (.string (Ac l))]=some ⟨[.sc (.bool (Va l))],[]⟩:=by
 rw[S4];by_cases h1:1<=l.length
 ·by_cases h2:l.length<=63
  ·have a1:decide (((l.length:Nat):Int)<1)=false:=by simp;omega
   have a2:decide (((l.length:Nat):Int)>63)=false:=by simp;omega
   rw[Ad2 h1 h2];simp only[Ek,Aw,a1,a2];exact LA hB h2 l 0 fu rfl (by omega)
  ·have a1:decide (((l.length:Nat):Int)<1)=false:=by simp;omega
   have a2:decide (((l.length:Nat):Int)>63)=true:=by simp;omega
   have e:Va l=false:=by unfold Va;simp[h2]
   rw[e];simp only[Ek,Aw,a1,a2]
 ·have a1:decide (((l.length:Nat):Int)<1)=true:=by simp;omega
  have e:Va l=false:=by unfold Va;simp[h1]
  rw[e];simp only[Ek,Aw,a1]
theorem YQ (l cs:List UInt8):(Lib.trimS l cs==[])=l.all (cs.contains ·):=by
 have key:∀(q:UInt8->Bool) (m:List UInt8),m.dropWhile q=[]↔m.all q=true:=by
  intro q m
  induction m with
  |nil=>simp
  |cons x m ih=>
   by_cases hx:q x=true
   ·rw[List.dropWhile_cons_of_pos hx,ih];simp[hx]
   ·rw[List.dropWhile_cons_of_neg hx];simp[hx]
 unfold Lib.trimS Lib.trimLeftS Lib.trimRightS;rw[Bool.eq_iff_iff,beq_iff_eq,key,List.all_reverse,←key,key,List.all_eq_true]
 have h2:∀(q:UInt8->Bool) (m:List UInt8),(m.dropWhile q).all q=true↔m.all q=true:=by
  intro q m
  induction m with
  |nil=>simp
  |cons x m ih=>
   by_cases hx:q x=true
   ·rw[List.dropWhile_cons_of_pos hx,ih];simp[hx]
   ·rw[List.dropWhile_cons_of_neg hx]
 rw[←List.all_eq_true,h2,List.all_reverse]
def Pe:ByteArray:=⟨#[48,49,50,51,52,53,54,55,56,57]⟩
theorem Alv:∀n:Fin 256,Pe.data.toList.contains (n.val:Int).toNat.toUInt8=HT (n.val:Int):=by decide +kernel
theorem Akl {l:List Int}(h:Do l):((l.map fun n=>n.toNat.toUInt8).all (Pe.data.toList.contains ·))=l.all HT:=by
 induction l with
 |nil=>rfl
 |cons c r ih=>
  obtain⟨hc,hr⟩:=C5 h;obtain⟨n,rfl⟩:=Int.eq_ofNat_of_zero_le hc.1;rw[List.map_cons,List.all_cons,List.all_cons,ih hr]
  congr 1
  exact Alv ⟨n,by omega⟩
theorem Ak3 {l:List Int}(hB:Do l)(hs:l.length<=1000000):∃x,Ae (CP p) prog fu (d+1) 66 [.sc (.string (Ac l)),.sc (.string Pe)]=some ⟨[.sc (.string x)],[]⟩∧(Array.toList x.data==Array.toList (ByteArray.mk #[]).data)=l.all HT:=by
 refine⟨⟨(Lib.trimS (Ac l).data.toList Pe.data.toList).toArray⟩,?_,?_⟩
 ·have e:Ae (CP p) prog fu (d+1) 66 [.sc (.string (Ac l)),.sc (.string Pe)]=KX [.sc (.string (Ac l)),.sc (.string Pe)]:=rfl;rw[e];unfold KX
  have:(Nat.ble Pe.size 1000&&Pe.data.toList.all (fun b=>decide (b.toNat<128))&&decide ((Ac l).size<=1000000000))=true:=by
   rw[Aw];have h1:(Nat.ble Pe.size 1000&&Pe.data.toList.all (fun b=>decide (b.toNat<128)))=true:=by decide +kernel
   rw[h1,dT (q:=l.length<=1000000000) (by omega)]
   rfl
  simp only[this,cond_true]
 ·show (Lib.trimS (Ac l).data.toList Pe.data.toList==[])=_;rw[YQ];exact Akl hB
theorem Zb (c:Int):∀{l:List Int},Do l->∀x∈A8 c l,Do x∧x.length<=l.length
 |[],_,x,hx=>by simp[A8] at hx;subst hx;exact⟨(fun y hy=>nomatch hy),Nat.le_refl _⟩
 |a::r,h,x,hx=>by
  obtain⟨ha,hr⟩:=C5 h;have ih:=Zb c hr;unfold A8 at hx;split at hx
  ·rcases List.mem_cons.1 hx with rfl|hx
   ·exact⟨(fun y hy=>nomatch hy),Nat.zero_le _⟩
   ·exact⟨(ih x hx).1,Nat.le_succ_of_le (ih x hx).2⟩
  ·cases hs:A8 c r with
   |nil=>exact absurd hs (P8 c r)
   |cons b t=>
    rw[hs] at hx ih;rcases List.mem_cons.1 hx with rfl|hx
    ·obtain⟨q1,q2⟩:=ih b (by simp)
     refine⟨fun y hy=>?_,by simp;omega⟩
     rcases List.mem_cons.1 hy with rfl|hy
     ·exact ha
     ·exact q1 y hy
    ·exact⟨(ih x (by simp[hx])).1,Nat.le_succ_of_le (ih x (by simp[hx])).2⟩
theorem KI {a0:ByteArray}(Ev:200<=fu){ls:List (List Int)} (hB:∀x∈ls,Do x∧x.length<=1000)(h0:ls≠[]) (hN:ls.length<=1000):∀(r:List (List Int)) (i nn:Nat),ls.drop i=r->r.length+1<=nn ->
  Gh fu (Ae (CP p) prog fu (d+1)) a0 nn ls.length ls.length (ls.length:Int) (i:Int) (ls.map CJ)=some ⟨[.sc (.int .i64 (if r.all Va=false then 2 else if (ls.getLastD []).all HT=true then 2 else 0))],[]⟩
 |[],i,nn,hd,hn=>by
  obtain⟨k,rfl⟩:∃k,nn=k+1:=⟨nn-1,by omega⟩
  have hi:=drop_nil hd;have VE:0<ls.length:=List.length_pos_iff.2 h0;have a1:decide ((i:Int)<(ls.length:Int))=false:=by simp;omega
  have a2:wrap .i64 ((ls.length:Int)-1)=((ls.length-1:Nat):Int):=by rw[Bc (by omega) (by omega)];omega
  have a3:decide ((0:Int)<=((ls.length-1:Nat):Int))=true:=by simp
  have a4:decide (((ls.length-1:Nat):Int)<(ls.length:Int))=true:=by simp;omega
  have SA:ls.getLastD []=ls[ls.length-1]'(by omega):=by
   rw[List.getLastD_eq_getLast?,List.getLast?_eq_getElem?,List.getElem?_eq_getElem (by omega)]
   rfl
  have a5:List.getD (ls.map CJ) (0+Int.toNat ((ls.length-1:Nat):Int)*1) PV.top=.sc (.string (Ac (ls.getLastD []))):=by
   rw[Oo,Zzd,Nat.mul_one,List.getD_eq_getElem?_getD,List.getElem?_map,List.getElem?_eq_getElem (by omega),SA]
   rfl
  have hm:=hB (ls.getLastD []) (by rw[SA];exact List.getElem_mem _)
  obtain⟨x,e,hx⟩:=Ak3 (fu:=fu) (d:=d) (p:=p) hm.1 (by omega)
  have e2:Ae (CP p) prog fu (d+1) 66 [.sc (.string (Ac (ls.getLastD []))),.sc (.string (ByteArray.mk #[(48:UInt8),(49:UInt8),(50:UInt8),(51:UInt8),(52:UInt8),(53:UInt8),(54:UInt8),(55:UInt8),(56:UInt8),(57:UInt8)]))]=some ⟨[.sc (.string x)],[]⟩:=e;rw[Kk];cases hq:(ls.getLastD []).all HT
  ·rw[hq] at hx;simp only[Ek,a1,a2,a3,a4,a5,e2,hx,List.all_nil,Bool.true_eq_false,if_false,Bool.false_eq_true]
  ·rw[hq] at hx;simp only[Ek,a1,a2,a3,a4,a5,e2,hx,List.all_nil,Bool.true_eq_false,if_false,if_true]
 |x::r,i,nn,hd,hn=>by
  obtain⟨k,rfl⟩:∃k,nn=k+1:=⟨nn-1,by omega⟩
  obtain⟨hi,hc,K3⟩:=Qd hd;have ih:=KI (a0:=a0) Ev hB h0 hN r (i+1) k K3 (by simp at hn;omega)
  have hm:=hB x (List.mem_of_getElem? hc);have e:Ae (CP p) prog fu (d+1) 65 [.sc (.string (Ac x))]=_:=Adv (fu:=fu) (d:=d) (p:=p) hm.1 (by omega)
  have a1:decide ((i:Int)<(ls.length:Int))=true:=by simp;omega
  have a2:decide ((0:Int)<=(i:Int))=true:=by simp
  have a5:List.getD (ls.map CJ) (0+Int.toNat (i:Int)*1) PV.top=.sc (.string (Ac x)):=by
   rw[Oo,Zzd,Nat.mul_one,List.getD_eq_getElem?_getD,List.getElem?_map,hc];rfl
  have a6:wrap .i64 ((i:Int)+1)=((i+1:Nat):Int):=by rw[Bc (by omega) (by omega)];omega
  rw[Kk];cases hq:Va x
  ·rw[hq] at e;have:((x::r).all Va=false):=by simp[hq]
   rw[E7 this];simp only[Ek,a1,a2,a5,e,D1]
  ·rw[hq] at e;have:(x::r).all Va=r.all Va:=by simp[hq]
   rw[this];simp only[Ek,a1,a2,a5,e,Db,a6];exact ih
theorem Am1 {l:List Int}(hB:Do l)(hs:l.length<=1000000)(Ev:200<=fu):Ae (CP p) prog fu (d+6) N7 [.sc (.string (Ac l))]=some ⟨[.sc (.int .i64 (Z0 l))],[]⟩:=by
 rw[Wy];unfold Z0;by_cases h:100<l.length
 ·have a1:decide (((l.length:Nat):Int)>100)=true:=by simp;omega
  rw[E7 h];simp only[Ek,Aw,a1]
 ·have a1:decide (((l.length:Nat):Int)>100)=false:=by simp;omega
  have e:Ae (CP p) prog fu (d+5) 64 [.sc (.string (Ac l)),.sc (.string (ByteArray.mk #[(46:UInt8)]))]=_:=Adi (fu:=fu) (d:=d) (p:=p) (c:=46) (by omega) hB (by omega) (by omega)
  have hn:=Ux 46 l;have hd:=KI (a0:=Ac l) (fu:=fu) (d:=d+4) (p:=p) (by omega) (ls:=A8 46 l) (fun x hx=>⟨(Zb 46 hB x hx).1,by have:=(Zb 46 hB x hx).2;omega⟩) (P8 46 l) (by omega) (A8 46 l) 0 fu rfl (by omega)
  rw[Dz h];simp only[Ek,Aw,a1,e];exact hd
theorem Afl (s:Bool):Ae (CP p) prog fu (d+1) Iu [.sc (.bool s)]=some ⟨[.sc (.int .i64 (dfl s))],[]⟩:=by
 rw[O9];cases s<;>simp only[Ek]<;>rfl
theorem TF (c:Int):HT c=true↔48<=c∧c<=57:=by unfold HT;simp
theorem DS {call:Ax}{a0:ByteArray}{l:List Int}(hB:Do l)(hs:l.length<=5):∀(r:List Int)(i nn:Nat)(n:Int),l.drop i=r->r.length+1<=nn->0<=n->n<10 ^ i ->
  Ey fu call a0 nn (Ac l) n (l.length:Int) (i:Int)=some (if r.all HT=true then ⟨[.sc (.int .i64 (r.foldl (fun n x=>10*n+(x-48)) n)),.sc (.bool (decide (r.foldl (fun n x=>10*n+(x-48)) n<=65535)))],[]⟩ else ⟨[.sc (.int .i64 0),.sc (.bool false)],[]⟩)
 |[],i,nn,n,hd,hn,h0,h1=>by
  obtain⟨k,rfl⟩:∃k,nn=k+1:=⟨nn-1,by omega⟩
  have hi:=drop_nil hd;have a1:decide ((i:Int)<(l.length:Int))=false:=by simp;omega
  rw[Ht];simp only[Ek,a1];rfl
 |c::r,i,nn,n,hd,hn,h0,h1=>by
  obtain⟨k,rfl⟩:∃k,nn=k+1:=⟨nn-1,by omega⟩
  obtain⟨hi,hc,K3⟩:=Qd hd;have hcB:=hB c (List.mem_of_getElem? hc)
  have hp:(10:Int) ^ i<=10 ^ 4:=by
   have h:=Nat.pow_le_pow_right (n:=10) (by omega) (show i<=4 by omega)
   exact_mod_cast h
  have hp2:(10:Int) ^ (i+1)=10 ^ i*10:=Int.pow_succ ..;have a1:decide ((i:Int)<(l.length:Int))=true:=by simp;omega
  have a2:decide ((0:Int)<=(i:Int))=true:=by simp
  have a3:(Array.toList (Ac l).data)[Int.toNat (i:Int)]?=some c.toNat.toUInt8:=by
   rw[Oo];show (l.map fun n=>n.toNat.toUInt8)[i]?=_
   rw[List.getElem?_map,hc];rfl
  have a4:=Zf hcB;rw[Ht];by_cases hq:48<=c∧c<=57
  ·have q1:=dF (q:=c<48) (by omega)
   have q2:=dF (q:=c>57) (by omega)
   have a5:wrap .i64 (10*n)=10*n:=Bc (by omega) (by omega)
   have a6:wrap .u8 (c-48)=c-48:=Xn (by omega) (by omega)
   have a7:wrap .i64 (c-48)=c-48:=Bc (by omega) (by omega)
   have a8:wrap .i64 (10*n+(c-48))=10*n+(c-48):=Bc (by omega) (by omega)
   have a9:wrap .i64 ((i:Int)+1)=((i+1:Nat):Int):=by rw[Bc (by omega) (by omega)];omega
   have ih:=DS (call:=call) (a0:=a0) hB hs r (i+1) k (10*n+(c-48)) K3 (by simp at hn;omega) (by omega) (by omega)
   have e:(c::r).all HT=r.all HT:=by rw[List.all_cons,(TF c).2 hq,Bool.true_and]
   simp only[Ek,a1,a2,a3,a4,q1,q2,a5,a6,a7,a8,a9];rw[ih,e];rfl
  ·have e:(c::r).all HT=false:=by
    have:HT c=false:=by
     cases hb:HT c
     ·rfl
     ·exact absurd ((TF c).1 hb) hq
    rw[List.all_cons,this,Zzs]
   rw[e];by_cases h48:c<48
   ·have q1:=dT h48;simp only[Ek,a1,a2,a3,a4,q1,Bool.false_eq_true,if_false]
   ·have q1:=dF h48;have q2:=dT (q:=c>57) (by omega)
    simp only[Ek,a1,a2,a3,a4,q1,q2,Bool.false_eq_true,if_false]
theorem Ajc {l:List Int}(hB:Do l)(Ev:100<=fu):Ae (CP p) prog fu (d+1) Kt [.sc (.string (Ac l))]=some (if Pj l=true then ⟨[.sc (.int .i64 (MI l)),.sc (.bool (decide (MI l<=65535)))],[]⟩ else ⟨[.sc (.int .i64 0),.sc (.bool false)],[]⟩):=by
 rw[Rk];by_cases h1:1<=l.length
 ·by_cases h2:l.length<=5
  ·have a1:decide (((l.length:Nat):Int)<1)=false:=by simp;omega
   have a2:decide (((l.length:Nat):Int)>5)=false:=by simp;omega
   cases l with
   |nil=>simp at h1
   |cons c r=>
    have hcB:=hB c (by simp)
    have a3:(Array.toList (Ac (c::r)).data)[0]?=some c.toNat.toUInt8:=rfl;have a4:=Zf hcB;by_cases h0:c=48
    ·subst h0;have e:Pj (48::r)=false:=by unfold Pj;simp
     have q:((48:Int)==48)=true:=rfl;rw[e];simp only[Ek,Aw,a1,a2,a3,a4,q,Bool.false_eq_true,if_false]
    ·have q:(c==48)=false:=by simp[h0]
     have e:Pj (c::r)=(c::r).all HT:=by
      unfold Pj;rw[dT h1,dT h2];simp[h0]
     have hl:=DS (call:=Ae (CP p) prog fu d) (fu:=fu) (a0:=Ac (c::r)) hB h2 (c::r) 0 fu 0 rfl (by omega) (by omega) (by decide)
     rw[e];simp only[Ek,Aw,a1,a2,a3,a4,q];exact hl
  ·have a1:decide (((l.length:Nat):Int)<1)=false:=by simp;omega
   have a2:decide (((l.length:Nat):Int)>5)=true:=by simp;omega
   have e:Pj l=false:=by unfold Pj;simp[h2]
   rw[e];simp only[Ek,Aw,a1,a2,Bool.false_eq_true,if_false]
 ·have a1:decide (((l.length:Nat):Int)<1)=true:=by simp;omega
  have e:Pj l=false:=by unfold Pj;simp[h1]
  rw[e];simp only[Ek,Aw,a1,Bool.false_eq_true,if_false]
theorem Ahu {l:List Int}(hB:Do l)(hs:l.length<=1000000)(Ev:200<=fu):∃o1 o2 o3,Ae (CP p) prog fu (d+7) Ot [.sc (.string (Ac l))]=some ⟨[.agg [.sc (.bool o1),.sc (.string o2),.sc (.int .i64 o3)],.sc (.int .i64 (F3 l))],[]⟩:=by
  have hsp:=Ags (fu:=fu) (d:=d+2) (p:=p) hB (w:=[104,116,116,112,115,58,47,47]) (fun x hx=>by simp at hx;omega)
  have Sd:=Ags (fu:=fu) (d:=d+2) (p:=p) hB (w:=[104,116,116,112,58,47,47]) (fun x hx=>by simp at hx;omega)
  have e1:Ae (CP p) prog fu (d+6) 44 [.sc (.string (Ac l)),.sc (.string (ByteArray.mk #[(104:UInt8),(116:UInt8),(116:UInt8),(112:UInt8),(115:UInt8),(58:UInt8),(47:UInt8),(47:UInt8)]))]=_:=hsp
  have e2:Ae (CP p) prog fu (d+6) 44 [.sc (.string (Ac l)),.sc (.string (ByteArray.mk #[(104:UInt8),(116:UInt8),(116:UInt8),(112:UInt8),(58:UInt8),(47:UInt8),(47:UInt8)]))]=_:=Sd
  have tail:∀(s:Bool) (r:List Int),Do r->r.length<=1000000->∃o1 o2 o3,(Ah (Ae (CP p) prog fu (d+6) 45 [PV.sc (Value.string (Ac r)),PV.sc (Value.string (ByteArray.mk #[(58:UInt8)]))]) fun I7 Lq=>
    Ad (Lq) <|
    Aa (I7) fun L5 Mj=>
    Az (L5) fun Mm=>
    Aa (Mj) fun N2 K8=>
    Az (N2) fun M9=>
    Aa (K8) fun Lx L3=>
    Aq (Lx) fun Mc=>
    Ad (L3) <|
    Ah (Ae (CP p) prog fu (d+6) 46 [PV.sc (Value.string Mm)]) fun Oc Md=>
    Ad (Md) <|
    Aa (Oc) fun N9 Ol=>
    Ak (IntKind.i64) (N9) fun Og=>
    Ad (Ol) <|
    Bh (Og != (0:Int))
     (
     some (Ay.mk [PV.agg [PV.sc (Value.bool false),PV.sc (Value.string (ByteArray.mk #[])),PV.sc (Value.int IntKind.i64 (0:Int))],PV.sc (Value.int IntKind.i64 Og)] []))
     (
     Ah (Ae (CP p) prog fu (d+6) 47 [PV.sc (Value.bool s)]) fun Np Oj=>
     Ad (Oj) <|
     Aa (Np) fun O8 Rd=>
     Ak (IntKind.i64) (O8) fun Se=>
     Ad (Rd) <|
     Bh (Mc)
      (
      Ah (Ae (CP p) prog fu (d+6) 48 [PV.sc (Value.string M9)]) fun Tu Pr=>
      Ad (Pr) <|
      Aa (Tu) fun BD BA=>
      Ak (IntKind.i64) (BD) fun Qn=>
      Aa (BA) fun P4 X3=>
      Aq (P4) fun Xh=>
      Ad (X3) <|
      Bh (!Xh)
       (
       some (Ay.mk [PV.agg [PV.sc (Value.bool false),PV.sc (Value.string (ByteArray.mk #[])),PV.sc (Value.int IntKind.i64 (0:Int))],PV.sc (Value.int IntKind.i64 (2:Int))] []))
       (
       Bh (Qn==Se)
        (
        some (Ay.mk [PV.agg [PV.sc (Value.bool false),PV.sc (Value.string (ByteArray.mk #[])),PV.sc (Value.int IntKind.i64 (0:Int))],PV.sc (Value.int IntKind.i64 (2:Int))] []))
        (
        some (Ay.mk [PV.agg [PV.sc (Value.bool s),PV.sc (Value.string Mm),PV.sc (Value.int IntKind.i64 Qn)],PV.sc (Value.int IntKind.i64 (0:Int))] []))))
      (
      some (Ay.mk [PV.agg [PV.sc (Value.bool s),PV.sc (Value.string Mm),PV.sc (Value.int IntKind.i64 Se)],PV.sc (Value.int IntKind.i64 (0:Int))] []))))=some ⟨[.agg [.sc (.bool o1),.sc (.string o2),.sc (.int .i64 o3)],.sc (.int .i64 (RQ s r))],[]⟩:=by
    intro s r hr hrl
    have c1:Ae (CP p) prog fu (d+6) 45 [.sc (.string (Ac r)),.sc (.string (ByteArray.mk #[(58:UInt8)]))]=_:=Aqs (fu:=fu) (d:=d+2) (p:=p) (c:=58) (by omega) hr hrl
    have Ng:=RV 58 r
    have hbB:Do (B5 58 r):=by rw[T8];exact fun x hx=>hr x (List.mem_of_mem_take hx)
    have hdB:Do (r.drop ((B5 58 r).length+1)):=fun x hx=>hr x (List.mem_of_mem_drop hx)
    have c2:Ae (CP p) prog fu (d+6) 46 [.sc (.string (Ac (B5 58 r)))]=_:=Am1 (fu:=fu) (d:=d) (p:=p) hbB (by omega) Ev
    have c3:Ae (CP p) prog fu (d+6) 47 [.sc (.bool s)]=_:=Afl (fu:=fu) (d:=d+5) (p:=p) s
    have c4:Ae (CP p) prog fu (d+6) 48 [.sc (.string (Ac (r.drop ((B5 58 r).length+1))))]=_:=Ajc (fu:=fu) (d:=d+5) (p:=p) hdB (by omega)
    unfold RQ
    by_cases hh:Z0 (B5 58 r)=0
    · have b1:(Z0 (B5 58 r) != 0)=false:=by simp[hh]
      simp only[ne_eq,hh,not_true_eq_false,if_false]
      by_cases hw:(B5 58 r).length<r.length
      · rw[dT hw] at c1
        rw[Dz (show ¬(B5 58 r).length=r.length by omega)]
        by_cases hp:Pj (r.drop ((B5 58 r).length+1))=true
        · rw[E7 hp] at c4
          by_cases hv:MI (r.drop ((B5 58 r).length+1))<=65535
          · rw[dT hv] at c4
            by_cases hdp:MI (r.drop ((B5 58 r).length+1))=dfl s
            · have b2:(MI (r.drop ((B5 58 r).length+1))==dfl s)=true:=by simp[hdp]
              rw[Dz (by rintro⟨_,_,h⟩;exact h hdp)]
              exact⟨_,_,_,by simp only[Ek,c1,c2,hh,c3,c4,b2,Db,show ((0:Int) != 0)=false from rfl];rfl⟩
            · have b2:(MI (r.drop ((B5 58 r).length+1))==dfl s)=false:=by simp[hdp]
              rw[E7 ⟨hp,hv,hdp⟩]
              exact⟨_,_,_,by simp only[Ek,c1,c2,hh,c3,c4,b2,Db,show ((0:Int) != 0)=false from rfl];rfl⟩
          · rw[dF hv] at c4
            rw[Dz (by rintro⟨_,h,_⟩;exact hv h)]
            exact⟨_,_,_,by simp only[Ek,c1,c2,hh,c3,c4,D1,show ((0:Int) != 0)=false from rfl];rfl⟩
        · rw[Dz hp] at c4
          rw[Dz (by rintro⟨h,_,_⟩;exact hp h)]
          exact⟨_,_,_,by simp only[Ek,c1,c2,hh,c3,c4,D1,show ((0:Int) != 0)=false from rfl];rfl⟩
      · rw[dF hw] at c1
        rw[E7 (show (B5 58 r).length=r.length by omega)]
        exact⟨_,_,_,by simp only[Ek,c1,c2,hh,c3,show ((0:Int) != 0)=false from rfl];rfl⟩
    · have b1:(Z0 (B5 58 r) != 0)=true:=by simp[hh]
      simp only[ne_eq,hh,not_false_eq_true,if_true]
      exact⟨_,_,_,by simp only[Ek,c1,c2,b1];rfl⟩
  have er:=Z8 (p:=p) fu (d+6) (Ac l)
  unfold F3
  cases h1:List.isPrefixOf [104,116,116,112,115,58,47,47] l
  · rw[h1] at e1
    simp only[Bool.false_eq_true,if_false] at e1 ⊢
    cases h2:List.isPrefixOf [104,116,116,112,58,47,47] l
    · rw[h2] at e2
      simp only[Bool.false_eq_true,if_false] at e2 ⊢
      exact⟨_,_,_,er.trans (by simp only[Ek,e1,e2,D1];rfl)⟩
    · rw[h2] at e2
      simp only[if_true] at e2 ⊢
      obtain⟨o1,o2,o3,ht⟩:=tail false (l.drop 7) (fun x hx=>hB x (List.mem_of_mem_drop hx)) (by simp;omega)
      refine⟨o1,o2,o3,er.trans ?_⟩
      simp only[Xr,GY,Xu,Xm,FZ,GD,JH,e1,e2,D1,Db]
      exact ht
  · rw[h1] at e1
    simp only[if_true] at e1 ⊢
    obtain⟨o1,o2,o3,ht⟩:=tail true (l.drop 8) (fun x hx=>hB x (List.mem_of_mem_drop hx)) (by simp;omega)
    refine⟨o1,o2,o3,er.trans ?_⟩
    simp only[Xr,GY,Xu,Xm,FZ,GD,JH,e1,D1,Db]
    exact ht
end
end
section
open Go.Proofs.Tryd (prog)
open Go.IntKind (wrap)
set_option maxRecDepth 1000000
open Go Go.RowKit Go.Lib
def RtP (w':World)(l:List Int)(e:Ending):Prop:=
 match PX 8 l with
 |.ok ms=>∃mb,e=.returned (.tuple #[.map (some mb),.int .i64 0])∧Yj w' mb ms
 |.error er=>er≠0∧∃m,e=.returned (.tuple #[m,.int .i64 er])
theorem DQ (l:List Int):PX 8 l=match Ap [123] (Bd l) with
  |some r=>(match Ss (Fg 8) true r with
   |.error e=>.error e
   |.ok (ms,r')=>if Bd r'=[] then .ok ms else .error 2)
  |none=>.error 2:=by
 unfold PX;rw[Fi];cases Bd l with
 |nil=>rfl
 |cons y s=>
  by_cases hy:y=123
  ·subst hy;rfl
  ·simp only[Dz hy];split
   ·rename_i e;injection e with e1 _;exact absurd e1 hy
   ·rfl
theorem Di.toBelow {w w':World}{b mb B:Nat}(k:Di w w' b mb)(hb:B<=b)(GB:B<=mb)(hB:B<=w.heap.size):Below B w w':=
 ⟨k.os,k.tape,k.output,k.size,fun i hi=>k.other i (by omega) (by omega) (by omega)⟩
theorem Zp {w:World}(hU:gU.ok w)(hUl:∀k,gU.bl k->k<w.heap.size){w':World}(hb:Below w.heap.size w w'){b:Nat}(TC:w.heap.size<=b):Je w' b:=
 ⟨gU.stable w w' (fun j _ hl=>hb.block j hl) hU,fun k hk=>⟨Nat.lt_of_lt_of_le (hUl k hk) hb.size,by have:=hUl k hk;omega⟩⟩
set_option maxHeartbeats 4000000 in
theorem Agf {t:ByteArray}(ht:t.size<=1000000){w:World}(hU:gU.ok w)(hUl:∀k,gU.bl k->k<w.heap.size):
  Calls prog 34 #[.string t] w fun e w'=>Below w.heap.size w w'∧RtP w' (D2 t) e:=by
 have mixed:prog.follows Departure.mixedOrders=true:=by kernel_rfl
 have OA:=@run_makeMap prog;have Ee:Below w.heap.size w (w.alloc (.cells #[.string t,.int .i64 0] 92)):=(Below.refl _ w).alloc (Nat.le_refl _) _;have Gw:Below w.heap.size w ((w.alloc (.cells #[.string t,.int .i64 0] 92)).alloc (.map #[] 0)):=Ee.alloc Ee.size _;have XQ:(w.alloc (.cells #[.string t,.int .i64 0] 92)).heap.size=w.heap.size+1:=Array.size_push _
 have h2:Tt ((w.alloc (.cells #[.string t,.int .i64 0] 92)).alloc (.map #[] 0)) w.heap.size 0 t (D2 t):=by
  have hg:((w.alloc (.cells #[.string t,.int .i64 0] 92)).alloc (.map #[] 0)).heap[w.heap.size]?=some (.cells #[.string t,.int .i64 0] 92):=by
   show ((w.heap.push _).push _)[w.heap.size]?=_;rw[Array.getElem?_push_lt (by simp)]
   simp
  have hp:Bp t (D2 t)=0:=by unfold Bp;rw[En];omega
  refine⟨?_,?_,?_,?_,?_⟩
  ·show w.heap.size<((w.heap.push _).push _).size;rw[Array.size_push,Array.size_push];omega
  ·unfold World.cell?;simp only[hg];rfl
  ·unfold World.cell?;simp only[hg,hp];rfl
  ·unfold World.frozen?;simp only[hg];rfl
  ·unfold World.frozen?;simp only[hg];rfl
 have hM2:Yj ((w.alloc (.cells #[.string t,.int .i64 0] 92)).alloc (.map #[] 0)) (w.heap.size+1) []:=by
  show ((w.heap.push _).push (Obj.map #[] 0))[w.heap.size+1]?=some (.map #[] 0);have:w.heap.size+1=(w.heap.push (Obj.cells #[.string t,.int .i64 0] 92)).size:=by simp
  rw[this];exact Array.getElem?_push_size
 have hU2:=Zp hU hUl Gw (Nat.le_refl _);have hmU:¬gU.bl (w.heap.size+1):=fun h=>by have:=hUl _ h;omega
 have hS:=Cz.all t;have hsk:=Gy hS ht hU2 h2
 go_enter Tryd.func34,Tryd.ntmps34
 go_wp2_with (go_at_call 50;refine hsk.mono ?_)
 rintro e W3 ⟨rfl,h3,k3⟩
 have hS3:=Bm hS;have hM3:=hM2.keep k3 (by omega)
 have hU3:=hU2.keep k3;have hro:=Agb hS3 ht hU3 h3 hM3 (by omega) hmU
 have I1:Below w.heap.size w W3:=Gw.trans ((Di.of (mb:=w.heap.size+1) k3).toBelow (Nat.le_refl _) (by omega) Gw.size)
 go_wp2_with (go_at_call 51;refine hro.mono ?_)
 rintro e W4 ⟨k4,r4,Xw,h4,JL⟩
 have Qy:Below w.heap.size w W4:=I1.trans (k4.toBelow (Nat.le_refl _) (by omega) I1.size)
 have hU4:Je W4 w.heap.size:=Zp hU hUl Qy (Nat.le_refl _)
 have YP:∀W e,(match Ap [123] (Bd (D2 t)) with
  |some r=>(match Ss (Fg 8) true r with
   |.error er=>er≠0∧∃m,e=.returned (.tuple #[m,.int .i64 er])
   |.ok (ms,r')=>if Bd r'=[] then ∃mb,e=.returned (.tuple #[.map (some mb),.int .i64 0])∧Yj W mb ms else ∃m,e=.returned (.tuple #[m,.int .i64 2]))
  |none=>∃m,e=.returned (.tuple #[m,.int .i64 2]))->RtP W (D2 t) e:=by
  intro W e;unfold RtP;rw[DQ];cases Ap [123] (Bd (D2 t)) with
  |none=>exact fun h=>⟨by decide,h⟩
  |some r=>
   cases hob:Ss (Fg 8) true r with
   |error er=>simp only[hob];exact id
   |ok x=>
    obtain⟨ms,r'⟩:=x;simp only[hob];by_cases g:Bd r'=[]
    ·simp only[E7 g];exact id
    ·simp only[Dz g];exact fun h=>⟨by decide,h⟩
 unfold RoP at JL;cases hq:Ap [123] (Bd (D2 t)) with
 |none=>
  rw[hq] at JL YP;subst JL
  go_wp2
  go_ret2
  exact⟨Qy,YP _ _ ⟨_,rfl⟩⟩
 |some r=>
  rw[hq] at JL YP;simp only at JL YP;cases ho:Ss (Fg 8) true r with
  |error er=>
   rw[ho] at JL YP;obtain⟨he,rfl⟩:=JL;have hbe:(er != (0:Int))=true:=by simp[he]
   go_wp2
   go_ret2
   exact⟨Qy,YP _ _ ⟨he,_,rfl⟩⟩
  |ok x=>
   obtain⟨ms,r'⟩:=x;rw[ho] at JL YP;obtain⟨rfl,rfl,hM4⟩:=JL;have Am5:=Gy Xw ht hU4 h4
   go_wp2_with (go_at_call 50;refine Am5.mono ?_)
   rintro e W5 ⟨rfl,h5,k5⟩
   have PH:Below w.heap.size w W5:=Qy.trans ((Di.of (mb:=w.heap.size+1) k5).toBelow (Nat.le_refl _) (by omega) Qy.size)
   have hM5:=hM4.keep k5 (by omega)
   obtain⟨B4,VJ,AU,hf0,hf1⟩:=h5;have Hr:=Bm Xw;have hl5:=Hr.len;cases hx:Bd r4 with
   |nil=>
    rw[hx] at AU YP;rw[Th] at AU
    go_wp2
    go_region_o
    go_wp2
    go_ret2
    exact⟨PH.drew,YP _ _ (by rw[E7 trivial];exact⟨_,rfl,hM5⟩)⟩
   |cons c q=>
    rw[hx] at AU YP hl5
    have A8i:(Bp t (c::q):Int)<t.size:=by
     unfold Bp;rw[QI] at hl5 ⊢;omega
    have Auy:¬(c::q=[]):=by simp
    go_wp2
    go_region_o
    go_wp2
    go_ret2
    exact⟨PH.drew,YP _ _ (by rw[Dz Auy];exact⟨_,rfl⟩)⟩
end
section
open Go.Proofs.Tryd (prog)
open Go.IntKind (wrap)
set_option maxRecDepth 1000000
open Go Go.RowKit Go.Lib
def Oq:List Int:=[116,121,112,101]
def Vc:List Int:=[99,104,97,108,108,101,110,103,101]
def nmO:List Int:=[111,114,105,103,105,110]
def Cf (nm:List Int)(ms:List (List Int × JV)):JV:=(Js nm ms).getD (0,[],false)
theorem AC {w:World}{b:Nat}{ms:List (List Int × JV)} (h:Yj w b ms)(hB:∀m∈ms,Do m.1){nm:List Int}(hn:Do nm):(Instr.lookup 68 (.map (some b)) (.string (Ac nm)) false).run prog w=.ok (.agg #[.int .i64 (Cf nm ms).1,.string (Ac (Cf nm ms).2.1),.bool (Cf nm ms).2.2]) w:=by
 have:=Yt h hB hn false;rw[this];unfold LC Cf;cases Js nm ms<;>rfl
theorem al4 (w:World)(o0 x1 x2 x3:Obj):((((w.alloc o0).alloc x1).alloc x2).alloc x3).drew.heap[w.heap.size]?=some o0∧((((w.alloc o0).alloc x1).alloc x2).alloc x3).drew.heap[w.heap.size+1]?=some x1∧((((w.alloc o0).alloc x1).alloc x2).alloc x3).drew.heap[w.heap.size+1+1]?=some x2∧((((w.alloc o0).alloc x1).alloc x2).alloc x3).drew.heap[w.heap.size+1+1+1]?=some x3:=by
 show ((((w.heap.push o0).push x1).push x2).push x3)[w.heap.size]?=some o0∧((((w.heap.push o0).push x1).push x2).push x3)[w.heap.size+1]?=some x1∧((((w.heap.push o0).push x1).push x2).push x3)[w.heap.size+1+1]?=some x2∧((((w.heap.push o0).push x1).push x2).push x3)[w.heap.size+1+1+1]?=some x3;refine⟨?_,?_,?_,?_⟩
 ·rw[Array.getElem?_push_lt (by simp;omega),Array.getElem_push_lt (by simp;omega),Array.getElem_push_lt (by simp),Array.getElem_push_eq]
 ·have:w.heap.size+1=(w.heap.push o0).size:=by simp
  rw[Array.getElem?_push_lt (by simp),Array.getElem_push_lt (by simp)]
  simp only[this,Array.getElem_push_eq]
 ·have:w.heap.size+1+1=((w.heap.push o0).push x1).size:=by simp
  rw[Array.getElem?_push_lt (by simp)]
  simp only[this,Array.getElem_push_eq]
 ·have:w.heap.size+1+1+1=(((w.heap.push o0).push x1).push x2).size:=by simp
  rw[this];exact Array.getElem?_push_size
theorem al2 (w:World)(x1 x2:Obj):((w.alloc x1).alloc x2).drew.heap[w.heap.size]?=some x1∧((w.alloc x1).alloc x2).drew.heap[w.heap.size+1]?=some x2:=by
 show ((w.heap.push x1).push x2)[w.heap.size]?=some x1∧((w.heap.push x1).push x2)[w.heap.size+1]?=some x2;refine⟨?_,?_⟩
 ·simp[Array.getElem?_push]
 ·have:w.heap.size+1=(w.heap.push x1).size:=by simp
  rw[this];exact Array.getElem?_push_size
def nmX:List Int:=[99,114,111,115,115,79,114,105,103,105,110]
def nmP:List Int:=[116,111,112,79,114,105,103,105,110]
def UW (v:JV):Obj:=.cells #[.int .i64 v.1,.string (Ac v.2.1),.bool v.2.2] 95
def cd0:Obj:=.cells #[.int .i64 0,.slice none 0 0,.string ⟨#[]⟩,.bool false,.string ⟨#[]⟩] 36
def tyC:List Int:=[112,97,115,115,107,101,121,46,99,114,101,97,116,101]
def tyG:List Int:=[112,97,115,115,107,101,121,46,103,101,116]
abbrev CD:=Int × List Int × List Int × Bool × List Int
def Xe (k:Int)(C O X P:JV):JR CD:=
 match Na C.2.1 with
 |none=>.error 2
 |some b=>if b.length<1∨64<b.length then .error 9 else if F3 O.2.1≠0 then .error (F3 O.2.1) else if X.2.2=true∧F3 P.2.1≠0 then .error (F3 P.2.1) else .ok (k,b,O.2.1,X.2.2,P.2.1)
def He (T C O X P:JV):JR CD:=
 if T.1≠4∨C.1≠4∨O.1≠4 then .error 4
 else if X.1≠0∧X.1≠2 then .error 4
 else if (X.2.2=true∧P.1≠4)∨(X.2.2=false∧P.1≠0) then .error 4
 else if T.2.1=tyC then Xe 1 C O X P else if T.2.1=tyG then Xe 2 C O X P else .error 3
def Ua (w:World)(a:Addr)(b:List Int):Prop:=a.spot=none∧a.block<w.heap.size∧∀j x,b[j]?=some x->w.cell? (a.add j)=some (.int .u8 x)
def ItP (w w':World)(r:JR CD)(e:Ending):Prop:=
 match r with
 |.ok (k,b,o,x,p)=>∃ad cap,e=.returned (.tuple #[.agg #[.int .i64 k,.slice (some ad) b.length cap,.string (Ac o),.bool x,.string (Ac p)],.int .i64 0])∧b.length<=cap∧w.heap.size<=ad.block∧Ua w' ad b
 |.error er=>er≠0∧e=.returned (.tuple #[.agg #[.int .i64 0,.slice none 0 0,.string ⟨#[]⟩,.bool false,.string ⟨#[]⟩],.int .i64 er])
def DbP (w w':World)(s:List Int)(e:Ending):Prop:=
 match Na s with
 |none=>∃ad cap,e=.returned (.tuple #[.slice ad 0 cap,.int .i64 2])
 |some b=>∃ad cap,e=.returned (.tuple #[.slice ad b.length cap,.int .i64 0])∧(b≠[]->∃a,ad=some a∧b.length<=cap∧w.heap.size<=a.block∧Ua w' a b)
theorem X7 {w:World}{b:Nat}{v:JV}(h:w.heap[b]?=some (UW v)):w.cell? ⟨b,0,none⟩=some (.int .i64 v.1)∧w.cell? ⟨b,1,none⟩=some (.string (Ac v.2.1))∧w.cell? ⟨b,2,none⟩=some (.bool v.2.2):=by
 refine⟨?_,?_,?_⟩<;>(unfold World.cell?;simp only[h];rfl)
theorem ZA {w:World}{b:Nat}(h:w.heap[b]?=some cd0):(w.cell? ⟨b,0,none⟩=some (.int .i64 0)∧w.cell? ⟨b,1,none⟩=some (.slice none 0 0)∧w.cell? ⟨b,2,none⟩=some (.string ⟨#[]⟩)∧w.cell? ⟨b,3,none⟩=some (.bool false)∧w.cell? ⟨b,4,none⟩=some (.string ⟨#[]⟩))∧w.frozen? ⟨b,0,none⟩=false∧w.frozen? ⟨b,1,none⟩=false∧w.frozen? ⟨b,2,none⟩=false∧w.frozen? ⟨b,3,none⟩=false∧w.frozen? ⟨b,4,none⟩=false:=by
 refine⟨⟨?_,?_,?_,?_,?_⟩,?_,?_,?_,?_,?_⟩<;>first|(unfold World.cell?;simp only[h];rfl)|(unfold World.frozen?;simp only[h];rfl)
theorem UA (s:ByteArray):s.toList=s.data.toList:=by
 have h:∀(n i:Nat) (r:List UInt8),n=s.size-i->ByteArray.toList.loop s i r=r.reverse++s.data.toList.drop i:=by
  intro n
  induction n with
  |zero=>
   intro i r hn;unfold ByteArray.toList.loop;rw[Dz (by omega),List.drop_eq_nil_of_le (by rw[←Lib.size_eq];omega),List.append_nil]
  |succ n ih=>
   intro i r hn;have hi:i<s.size:=by omega
   unfold ByteArray.toList.loop;rw[E7 hi,ih (i+1) _ (by omega),List.reverse_cons,List.append_assoc]
   congr 1
   have hl:i<s.data.toList.length:=by rw[←Lib.size_eq];exact hi
   rw[List.drop_eq_getElem_cons hl]
   have e:s.get! i=s.data.toList[i]:=by
    show (s.data[i]!)=_;rw[getElem!_pos s.data i hi];rfl
   rw[e];rfl
 have:=h _ 0 [] rfl;exact this
theorem Ye {a b:List Int}(ha:Do a)(hb:Do b):((Ac a).toList==b.map fun n=>n.toNat.toUInt8)=decide (a=b):=by
 rw[UA,Bool.eq_iff_iff,beq_iff_eq,decide_eq_true_iff];constructor
 ·intro h;have e:Ac a=Ac b:=congrArg (fun l:List UInt8=>(⟨l.toArray⟩:ByteArray)) (show (Ac a).data.toList=(Ac b).data.toList from h)
  exact Vo ha hb e
 ·rintro rfl;rfl
def Axt (w:World)(vT vC vO:JV)(s4 s5 s6:Value)(wx:World):Prop:=
 ∃bT bC bO,s4=.pointer (some ⟨bT,0,none⟩)∧s5=.pointer (some ⟨bC,0,none⟩)∧s6=.pointer (some ⟨bO,0,none⟩)∧w.heap.size<bT∧w.heap.size<bC∧w.heap.size<bO∧wx.heap[w.heap.size]?=some cd0∧wx.heap[bT]?=some (UW vT)∧wx.heap[bC]?=some (UW vC)∧wx.heap[bO]?=some (UW vO)∧Below w.heap.size w wx
def Ayr (w wc:World)(vX vP:JV)(s7 s8:Value)(wx:World):Prop:=
 ∃bX bP,s7=.pointer (some ⟨bX,0,none⟩)∧s8=.pointer (some ⟨bP,0,none⟩)∧wc.heap.size<=bX∧wc.heap.size<=bP∧wx.heap[bX]?=some (UW vX)∧wx.heap[bP]?=some (UW vP)∧Below wc.heap.size wc wx
theorem Acp {w:World}{b:Nat}{x0 x1 x2 x3 x4:Value}(h:w.heap[b]?=some (.cells #[x0,x1,x2,x3,x4] 36)):(w.cell? ⟨b,0,none⟩=some x0∧w.cell? ⟨b,1,none⟩=some x1∧w.cell? ⟨b,2,none⟩=some x2∧w.cell? ⟨b,3,none⟩=some x3∧w.cell? ⟨b,4,none⟩=some x4)∧w.frozen? ⟨b,0,none⟩=false∧w.frozen? ⟨b,1,none⟩=false∧w.frozen? ⟨b,2,none⟩=false∧w.frozen? ⟨b,3,none⟩=false∧w.frozen? ⟨b,4,none⟩=false:=by
 refine⟨⟨?_,?_,?_,?_,?_⟩,?_,?_,?_,?_,?_⟩<;>first|(unfold World.cell?;simp only[h];rfl)|(unfold World.frozen?;simp only[h];rfl)
theorem IE {w:World}{b:Nat}{x0 x1 x2 x3 x4:Value}(h0:w.cell? ⟨b,0,none⟩=some x0)(h1:w.cell? ⟨b,1,none⟩=some x1)(h2:w.cell? ⟨b,2,none⟩=some x2)(h3:w.cell? ⟨b,3,none⟩=some x3)(h4:w.cell? ⟨b,4,none⟩=some x4):(loadVar 36 ⟨b,0,none⟩).run prog w=.ok (.agg #[x0,x1,x2,x3,x4]) w:=by
 have hf:∀j,j<5->w.cell? ((⟨b,0,none⟩:Addr).add j)=some (([x0,x1,x2,x3,x4][j]?).getD undef):=by
  intro j hj;rw[D4,Zzd]
  match j,hj with
  |0,_=>exact h0
  |1,_=>exact h1
  |2,_=>exact h2
  |3,_=>exact h3
  |4,_=>exact h4
 simp only[loadVar,Sem.run_bind,Tryd.isAgg36,Result.andThen_ok,if_true,Tryd.sizeOf36,run_loadCells w _ 5 _ hf];rfl
theorem Ea {w:World}{b i j:Nat}{v:Value}(h:i≠j):(w.setCell ⟨b,j,none⟩ v).cell? ⟨b,i,none⟩=w.cell? ⟨b,i,none⟩:=World.cell?_setCell_other _ _ _ _ (fun e=>h (by injection e with _ e2;exact e2.symm))
theorem Ve (w:World)(b:Nat)(x0 x1 x2 x3 x4:Value)(h:(w.cell? ⟨b,0,none⟩).isSome=true∧(w.cell? ⟨b,1,none⟩).isSome=true∧(w.cell? ⟨b,2,none⟩).isSome=true∧(w.cell? ⟨b,3,none⟩).isSome=true∧(w.cell? ⟨b,4,none⟩).isSome=true):(loadVar 36 ⟨b,0,none⟩).run prog (((((w.setCell ⟨b,0,none⟩ x0).setCell ⟨b,1,none⟩ x1).setCell ⟨b,2,none⟩ x2).setCell ⟨b,3,none⟩ x3).setCell ⟨b,4,none⟩ x4)=.ok (.agg #[x0,x1,x2,x3,x4]) (((((w.setCell ⟨b,0,none⟩ x0).setCell ⟨b,1,none⟩ x1).setCell ⟨b,2,none⟩ x2).setCell ⟨b,3,none⟩ x3).setCell ⟨b,4,none⟩ x4):=by
 obtain⟨g0,g1,g2,g3,g4⟩:=h;obtain⟨y0,g0⟩:=Option.isSome_iff_exists.1 g0;obtain⟨y1,g1⟩:=Option.isSome_iff_exists.1 g1;obtain⟨y2,g2⟩:=Option.isSome_iff_exists.1 g2;obtain⟨y3,g3⟩:=Option.isSome_iff_exists.1 g3;obtain⟨y4,g4⟩:=Option.isSome_iff_exists.1 g4;apply IE
 ·rw[Ea (by decide),Ea (by decide),Ea (by decide),Ea (by decide)]
  exact World.cell?_setCell_same _ _ _ g0
 ·rw[Ea (by decide),Ea (by decide),Ea (by decide)]
  exact World.cell?_setCell_same _ _ _ ((Ea (by decide)).trans g1)
 ·rw[Ea (by decide),Ea (by decide)]
  exact World.cell?_setCell_same _ _ _ ((Ea (by decide)).trans ((Ea (by decide)).trans g2))
 ·rw[Ea (by decide)]
  exact World.cell?_setCell_same _ _ _ ((Ea (by decide)).trans ((Ea (by decide)).trans ((Ea (by decide)).trans g3)))
 ·exact World.cell?_setCell_same _ _ _ ((Ea (by decide)).trans ((Ea (by decide)).trans ((Ea (by decide)).trans ((Ea (by decide)).trans g4))))
theorem Hd {B:Nat}{a w:World}(h:Below B a w){b:Nat}(hb:B<=b)(x0 x1 x2 x3 x4:Value):Below B a (((((w.setCell ⟨b,0,none⟩ x0).setCell ⟨b,1,none⟩ x1).setCell ⟨b,2,none⟩ x2).setCell ⟨b,3,none⟩ x3).setCell ⟨b,4,none⟩ x4):=
 ((((h.setCell (p:=⟨b,0,none⟩) hb x0).setCell (p:=⟨b,1,none⟩) hb x1).setCell (p:=⟨b,2,none⟩) hb x2).setCell (p:=⟨b,3,none⟩) hb x3).setCell (p:=⟨b,4,none⟩) hb x4
theorem G8 {R:Ending->World->Prop}{a:Act}{W:World}{v:Value}{b:Nat}(h2:a.tmps.getD 2 undef=.pointer (some ⟨b,0,none⟩)) (hd:a.defers=[]) (hl:(loadVar 36 ⟨b,0,none⟩).run prog W=.ok v W) (hR:R (.returned (.tuple #[v,a.tmps.getD 3 undef])) W):bodyPost prog Tryd.f35 R .ret a W:=by
 refine bodyPost_ret ?_ hd hR;rw[results_cell_tmp rfl,h2];have e:(asAddr (.pointer (some ⟨b,0,none⟩))).run prog W=.ok ⟨b,0,none⟩ W:=rfl;rw[e,Result.andThen_ok,hl,Result.andThen_ok]
theorem Ua.below {w w':World}{a:Addr}{b:List Int}{B:Nat}(h:Ua w a b)(k:Below B w w')(ha:a.block<B):Ua w' a b:=
 ⟨h.1,Nat.lt_of_lt_of_le h.2.1 k.size,fun j x hx=>(k.cell (p:=a.add j) (by rw[Eb];exact ha)).trans (h.2.2 j x hx)⟩
theorem Ua.set {w:World}{a:Addr}{b:List Int}{b0 j:Nat}{v:Value}(h:Ua w a b)(Ec:a.block≠b0):Ua (w.setCell ⟨b0,j,none⟩ v) a b:=
 ⟨h.1,by rw[World.size_setCell];exact h.2.1,fun i x hx=>(World.cell?_setCell_other _ _ _ _ (fun e=>Ec (by rw[←Eb a i,←e]))).trans (h.2.2 i x hx)⟩
theorem Ua.set5 {w:World}{a:Addr}{b:List Int}{b0:Nat}{x0 x1 x2 x3 x4:Value}(h:Ua w a b)(Ec:a.block≠b0):Ua (((((w.setCell ⟨b0,0,none⟩ x0).setCell ⟨b0,1,none⟩ x1).setCell ⟨b0,2,none⟩ x2).setCell ⟨b0,3,none⟩ x3).setCell ⟨b0,4,none⟩ x4) a b:=
 ((((h.set Ec).set Ec).set Ec).set Ec).set Ec
def RC (w:World)(b:Nat):Prop:=(w.cell? ⟨b,0,none⟩=some (.int .i64 0)∧w.cell? ⟨b,1,none⟩=some (.slice none 0 0)∧w.cell? ⟨b,2,none⟩=some (.string ⟨#[]⟩)∧w.cell? ⟨b,3,none⟩=some (.bool false)∧w.cell? ⟨b,4,none⟩=some (.string ⟨#[]⟩))∧w.frozen? ⟨b,0,none⟩=false∧w.frozen? ⟨b,1,none⟩=false∧w.frozen? ⟨b,2,none⟩=false∧w.frozen? ⟨b,3,none⟩=false∧w.frozen? ⟨b,4,none⟩=false
theorem RC.below {w w':World}{b B:Nat}(h:RC w b)(k:Below B w w')(hb:b<B):RC w' b:=by
 have e:∀j,w'.cell? ⟨b,j,none⟩=w.cell? ⟨b,j,none⟩:=fun j=>k.cell (p:=⟨b,j,none⟩) hb
 have f:∀j,w'.frozen? ⟨b,j,none⟩=w.frozen? ⟨b,j,none⟩:=fun j=>k.frozen (p:=⟨b,j,none⟩) hb
 unfold RC;rw[e,e,e,e,e,f,f,f,f,f];exact h
theorem RC.some {w:World}{b:Nat}(h:RC w b):(w.cell? ⟨b,0,none⟩).isSome=true∧(w.cell? ⟨b,1,none⟩).isSome=true∧(w.cell? ⟨b,2,none⟩).isSome=true∧(w.cell? ⟨b,3,none⟩).isSome=true∧(w.cell? ⟨b,4,none⟩).isSome=true:=by
 obtain⟨⟨h0,h1,h2,h3,h4⟩,_⟩:=h;rw[h0,h1,h2,h3,h4];exact⟨rfl,rfl,rfl,rfl,rfl⟩
theorem Ad3 {w:World}{b:Nat}{v:Value}{x:Obj}(hb:b<w.heap.size)(h:∃x0 x1 x2 x3 x4,v=.agg #[x0,x1,x2,x3,x4]∧w.cell? ⟨b,0,none⟩=some x0∧w.cell? ⟨b,1,none⟩=some x1∧w.cell? ⟨b,2,none⟩=some x2∧w.cell? ⟨b,3,none⟩=some x3∧w.cell? ⟨b,4,none⟩=some x4):(loadVar 36 ⟨b,0,none⟩).run prog (w.alloc x)=.ok v (w.alloc x):=by
 obtain⟨x0,x1,x2,x3,x4,rfl,h0,h1,h2,h3,h4⟩:=h;have k:Below w.heap.size w (w.alloc x):=(Below.refl _ w).alloc (Nat.le_refl _) _;exact IE ((k.cell (p:=⟨b,0,none⟩) hb).trans h0) ((k.cell (p:=⟨b,1,none⟩) hb).trans h1) ((k.cell (p:=⟨b,2,none⟩) hb).trans h2) ((k.cell (p:=⟨b,3,none⟩) hb).trans h3) ((k.cell (p:=⟨b,4,none⟩) hb).trans h4)
theorem Kv (w:World)(b:Nat)(hb:b<w.heap.size)(x0 x1 x2 x3 x4:Value)(x:Obj)(h:RC w b):(loadVar 36 ⟨b,0,none⟩).run prog ((((((w.setCell ⟨b,0,none⟩ x0).setCell ⟨b,1,none⟩ x1).setCell ⟨b,2,none⟩ x2).setCell ⟨b,3,none⟩ x3).setCell ⟨b,4,none⟩ x4).alloc x)=.ok (.agg #[x0,x1,x2,x3,x4]) ((((((w.setCell ⟨b,0,none⟩ x0).setCell ⟨b,1,none⟩ x1).setCell ⟨b,2,none⟩ x2).setCell ⟨b,3,none⟩ x3).setCell ⟨b,4,none⟩ x4).alloc x):=by
 refine Ad3 (by simp only[World.size_setCell];exact hb) ⟨x0,x1,x2,x3,x4,rfl,?_⟩
 obtain⟨⟨g0,g1,g2,g3,g4⟩,_⟩:=h;refine⟨?_,?_,?_,?_,?_⟩
 ·rw[Ea (by decide),Ea (by decide),Ea (by decide),Ea (by decide)]
  exact World.cell?_setCell_same _ _ _ g0
 ·rw[Ea (by decide),Ea (by decide),Ea (by decide)]
  exact World.cell?_setCell_same _ _ _ ((Ea (by decide)).trans g1)
 ·rw[Ea (by decide),Ea (by decide)]
  exact World.cell?_setCell_same _ _ _ ((Ea (by decide)).trans ((Ea (by decide)).trans g2))
 ·rw[Ea (by decide)]
  exact World.cell?_setCell_same _ _ _ ((Ea (by decide)).trans ((Ea (by decide)).trans ((Ea (by decide)).trans g3)))
 ·exact World.cell?_setCell_same _ _ _ ((Ea (by decide)).trans ((Ea (by decide)).trans ((Ea (by decide)).trans ((Ea (by decide)).trans g4))))
theorem F6 {B:Nat}{a w:World}(h:Below B a w){b:Nat}(hb:B<=b)(hB:B<=w.heap.size)(x0 x1 x2 x3 x4:Value)(x:Obj):Below B a ((((((w.setCell ⟨b,0,none⟩ x0).setCell ⟨b,1,none⟩ x1).setCell ⟨b,2,none⟩ x2).setCell ⟨b,3,none⟩ x3).setCell ⟨b,4,none⟩ x4).alloc x):=
 have k:=Hd h hb x0 x1 x2 x3 x4
 k.alloc (by simp only[World.size_setCell];exact hB) _
theorem Ua.set5al {w:World}{a:Addr}{b:List Int}{b0:Nat}{x0 x1 x2 x3 x4:Value}{x:Obj}(h:Ua w a b)(Ec:a.block≠b0):Ua ((((((w.setCell ⟨b0,0,none⟩ x0).setCell ⟨b0,1,none⟩ x1).setCell ⟨b0,2,none⟩ x2).setCell ⟨b0,3,none⟩ x3).setCell ⟨b0,4,none⟩ x4).alloc x) a b:=
 have q:=h.set5 (x0:=x0) (x1:=x1) (x2:=x2) (x3:=x3) (x4:=x4) Ec
 q.below ((Below.refl _ _).alloc (Nat.le_refl _) _) q.2.1
theorem al1 (w:World)(x:Obj):(w.alloc x).heap[w.heap.size]?=some x:=Array.getElem?_push_size
def okW (w:World):Prop:=gU.ok w∧∀k,gU.bl k->k<w.heap.size
theorem okW.below {w w':World}(h:okW w)(k:Below w.heap.size w w'):okW w':=⟨gU.stable w w' (fun j hj hl=>k.block j hl) h.1,fun j hj=>Nat.lt_of_lt_of_le (h.2 j hj) k.size⟩
set_option maxHeartbeats 8000000 in
theorem Aeh (Apd:∀(W:World)(s:List Int),okW W->Do s->s.length<=1000000->Calls prog 15 #[.string (Ac s)] W fun e w'=>Below W.heap.size W w'∧DbP W w' s e)
  (Aem:∀(W:World)(s:List Int),okW W->Do s->s.length<=1000000->Calls prog 32 #[.string (Ac s)] W fun e w'=>Below W.heap.size W w'∧∃o1 o2 o3,e=.returned (.tuple #[.agg #[.bool o1,.string o2,.int .i64 o3],.int .i64 (F3 s)]))
  {ms:List (List Int × JV)} (hB:∀m∈ms,Do m.1) (hB2:∀m∈ms,Do m.2.2.1∧m.2.2.1.length<=1000000) {mb:Nat} {w:World} (hU:okW w) (hM:Yj w mb ms):
  Calls prog 35 #[.map (some mb)] w fun e w'=>Below w.heap.size w w'∧ItP w w' (He (Cf Oq ms) (Cf Vc ms) (Cf nmO ms) (Cf nmX ms) (Cf nmP ms)) e:=by
 have hgB:∀nm,Do (Cf nm ms).2.1∧(Cf nm ms).2.1.length<=1000000:=by
  intro nm;unfold Cf Js;cases hq:ms.find? fun m=>m.1==nm with
  |none=>exact⟨(fun x hx=>nomatch hx),Nat.zero_le _⟩
  |some m=>exact hB2 m (List.mem_of_find?_eq_some hq)
 obtain⟨hTB,hTL⟩:=hgB Oq;obtain⟨hCB,hCL⟩:=hgB Vc;obtain⟨hOB,hOL⟩:=hgB nmO;obtain⟨hXB,hXL⟩:=hgB nmX;obtain⟨hPB,hPL⟩:=hgB nmP;clear hgB;have mixed:prog.follows Departure.mixedOrders=true:=by kernel_rfl
 have key:∀{W:World},Yj W mb ms->(Instr.lookup 68 (.map (some mb)) (.string ⟨#[116,121,112,101]⟩) false).run prog W=.ok (.agg #[.int .i64 (Cf Oq ms).1,.string (Ac (Cf Oq ms).2.1),.bool (Cf Oq ms).2.2]) W∧(Instr.lookup 68 (.map (some mb)) (.string ⟨#[99,104,97,108,108,101,110,103,101]⟩) false).run prog W=.ok (.agg #[.int .i64 (Cf Vc ms).1,.string (Ac (Cf Vc ms).2.1),.bool (Cf Vc ms).2.2]) W∧(Instr.lookup 68 (.map (some mb)) (.string ⟨#[111,114,105,103,105,110]⟩) false).run prog W=.ok (.agg #[.int .i64 (Cf nmO ms).1,.string (Ac (Cf nmO ms).2.1),.bool (Cf nmO ms).2.2]) W:=
  fun h=>⟨AC h hB (nm:=Oq) (fun x hx=>by simp[Oq] at hx;omega),AC h hB (nm:=Vc) (fun x hx=>by simp[Vc] at hx;omega),AC h hB (nm:=nmO) (fun x hx=>by simp[nmO] at hx;omega)⟩
 have key2:∀{W:World},Yj W mb ms->(Instr.lookup 68 (.map (some mb)) (.string ⟨#[99,114,111,115,115,79,114,105,103,105,110]⟩) false).run prog W=.ok (.agg #[.int .i64 (Cf nmX ms).1,.string (Ac (Cf nmX ms).2.1),.bool (Cf nmX ms).2.2]) W∧(Instr.lookup 68 (.map (some mb)) (.string ⟨#[116,111,112,79,114,105,103,105,110]⟩) false).run prog W=.ok (.agg #[.int .i64 (Cf nmP ms).1,.string (Ac (Cf nmP ms).2.1),.bool (Cf nmP ms).2.2]) W:=
  fun h=>⟨AC h hB (nm:=nmX) (fun x hx=>by simp[nmX] at hx;omega),AC h hB (nm:=nmP) (fun x hx=>by simp[nmP] at hx;omega)⟩
 have b0:Below w.heap.size w (w.alloc (.cells #[.int .i64 0,.slice none 0 0,.string ⟨#[]⟩,.bool false,.string ⟨#[]⟩] 36)):=(Below.refl _ w).alloc (Nat.le_refl _) _;have b1:=b0.alloc b0.size (.cells #[.int .i64 0,.string ⟨#[]⟩,.bool false] 95);have b2:=b1.alloc b1.size (.cells #[.int .i64 0,.string ⟨#[]⟩,.bool false] 95);have b3:=b2.alloc b2.size (.cells #[.int .i64 0,.string ⟨#[]⟩,.bool false] 95);obtain⟨k0,k1,k2⟩:=key (hM.below b0.drew);obtain⟨l0,l1,l2⟩:=key (hM.below b1.drew);obtain⟨m0,m1,m2⟩:=key (hM.below b2.drew);obtain⟨n0,n1,n2⟩:=key (hM.below b3.drew)
 have bb:∀x1 x2 x3,Below w.heap.size w ((((w.alloc (.cells #[.int .i64 0,.slice none 0 0,.string ⟨#[]⟩,.bool false,.string ⟨#[]⟩] 36)).alloc x1).alloc x2).alloc x3).drew:=fun x1 x2 x3=>by
  have c1:=b0.alloc b0.size x1;have c2:=c1.alloc c1.size x2;exact (c2.alloc c2.size x3).drew
 obtain⟨_,p1,q1⟩:=key (hM.below (bb (.cells #[.int .i64 (Cf Oq ms).1,.string (Ac (Cf Oq ms).2.1),.bool (Cf Oq ms).2.2] 95) (.cells #[.int .i64 0,.string ⟨#[]⟩,.bool false] 95) (.cells #[.int .i64 0,.string ⟨#[]⟩,.bool false] 95)));obtain⟨_,p2,q2⟩:=key (hM.below (bb (.cells #[.int .i64 0,.string ⟨#[]⟩,.bool false] 95) (.cells #[.int .i64 (Cf Oq ms).1,.string (Ac (Cf Oq ms).2.1),.bool (Cf Oq ms).2.2] 95) (.cells #[.int .i64 0,.string ⟨#[]⟩,.bool false] 95)));obtain⟨_,p3,q3⟩:=key (hM.below (bb (.cells #[.int .i64 0,.string ⟨#[]⟩,.bool false] 95) (.cells #[.int .i64 0,.string ⟨#[]⟩,.bool false] 95) (.cells #[.int .i64 (Cf Oq ms).1,.string (Ac (Cf Oq ms).2.1),.bool (Cf Oq ms).2.2] 95)))
 obtain⟨_,_,q4⟩:=key (hM.below (bb (.cells #[.int .i64 (Cf Oq ms).1,.string (Ac (Cf Oq ms).2.1),.bool (Cf Oq ms).2.2] 95) (.cells #[.int .i64 (Cf Vc ms).1,.string (Ac (Cf Vc ms).2.1),.bool (Cf Vc ms).2.2] 95) (.cells #[.int .i64 0,.string ⟨#[]⟩,.bool false] 95)));obtain⟨_,_,q5⟩:=key (hM.below (bb (.cells #[.int .i64 (Cf Oq ms).1,.string (Ac (Cf Oq ms).2.1),.bool (Cf Oq ms).2.2] 95) (.cells #[.int .i64 0,.string ⟨#[]⟩,.bool false] 95) (.cells #[.int .i64 (Cf Vc ms).1,.string (Ac (Cf Vc ms).2.1),.bool (Cf Vc ms).2.2] 95)));obtain⟨_,_,q6⟩:=key (hM.below (bb (.cells #[.int .i64 (Cf Vc ms).1,.string (Ac (Cf Vc ms).2.1),.bool (Cf Vc ms).2.2] 95) (.cells #[.int .i64 (Cf Oq ms).1,.string (Ac (Cf Oq ms).2.1),.bool (Cf Oq ms).2.2] 95) (.cells #[.int .i64 0,.string ⟨#[]⟩,.bool false] 95)))
 obtain⟨_,_,q7⟩:=key (hM.below (bb (.cells #[.int .i64 (Cf Vc ms).1,.string (Ac (Cf Vc ms).2.1),.bool (Cf Vc ms).2.2] 95) (.cells #[.int .i64 0,.string ⟨#[]⟩,.bool false] 95) (.cells #[.int .i64 (Cf Oq ms).1,.string (Ac (Cf Oq ms).2.1),.bool (Cf Oq ms).2.2] 95)));obtain⟨_,_,q8⟩:=key (hM.below (bb (.cells #[.int .i64 0,.string ⟨#[]⟩,.bool false] 95) (.cells #[.int .i64 (Cf Oq ms).1,.string (Ac (Cf Oq ms).2.1),.bool (Cf Oq ms).2.2] 95) (.cells #[.int .i64 (Cf Vc ms).1,.string (Ac (Cf Vc ms).2.1),.bool (Cf Vc ms).2.2] 95)));obtain⟨_,_,q9⟩:=key (hM.below (bb (.cells #[.int .i64 0,.string ⟨#[]⟩,.bool false] 95) (.cells #[.int .i64 (Cf Vc ms).1,.string (Ac (Cf Vc ms).2.1),.bool (Cf Vc ms).2.2] 95) (.cells #[.int .i64 (Cf Oq ms).1,.string (Ac (Cf Oq ms).2.1),.bool (Cf Oq ms).2.2] 95)))
 have TC:∀x1 x2 x3,Below w.heap.size w ((((w.alloc cd0).alloc x1).alloc x2).alloc x3).drew:=bb;clear key bb;generalize Cf Oq ms=vT at *
 generalize Cf Vc ms=vC at *
 generalize Cf nmO ms=vO at *
 generalize Cf nmX ms=vX at *
 generalize Cf nmP ms=vP at *
 go_enter Tryd.func35,Tryd.ntmps35
 go_upto_region 1 with fail
 go_cut [4,5,6] (fun s4 s5 s6 wx=>Axt w vT vC vO s4 s5 s6 wx)
 case first=>
  go_region_o
  all_goals (go_wp2_with fail;go_meet;(refine⟨_,_,_,rfl,rfl,rfl,by omega,by omega,by omega,?_,?_,?_,?_,TC _ _ _⟩<;>first|exact (al4 _ _ _ _ _).1|exact (al4 _ _ _ _ _).2.1|exact (al4 _ _ _ _ _).2.2.1|exact (al4 _ _ _ _ _).2.2.2))
 case rest=>
  rename World=>w2
  obtain⟨bT,bC,bO,rfl,rfl,rfl,hbT,hbC,hbO,hc,hT,hC,hO,hbw⟩:=hcut;clear k0 k1 k2 l0 l1 l2 m0 m1 m2 n0 n1 n2 p1 p2 p3 q1 q2 q3 q4 q5 q6 q7 q8 q9;have hMc:=hM.below hbw;have d1:Below w2.heap.size w2 (w2.alloc (.cells #[.int .i64 0,.string ⟨#[]⟩,.bool false] 95)):=(Below.refl _ w2).alloc (Nat.le_refl _) _;have d2:=d1.alloc d1.size (.cells #[.int .i64 0,.string ⟨#[]⟩,.bool false] 95)
  have dd:∀x1 x2,Below w2.heap.size w2 ((w2.alloc x1).alloc x2).drew:=fun x1 x2=>by
   have c1:Below w2.heap.size w2 (w2.alloc x1):=(Below.refl _ w2).alloc (Nat.le_refl _) _;exact (c1.alloc c1.size x2).drew
  obtain⟨k0,k1⟩:=key2 (hMc.below (Below.refl w2.heap.size w2).drew);obtain⟨l0,l1⟩:=key2 (hMc.below d1.drew);obtain⟨m0,m1⟩:=key2 (hMc.below d2.drew);obtain⟨_,p1⟩:=key2 (hMc.below (dd (.cells #[.int .i64 vX.1,.string (Ac vX.2.1),.bool vX.2.2] 95) (.cells #[.int .i64 0,.string ⟨#[]⟩,.bool false] 95)));obtain⟨_,p2⟩:=key2 (hMc.below (dd (.cells #[.int .i64 0,.string ⟨#[]⟩,.bool false] 95) (.cells #[.int .i64 vX.1,.string (Ac vX.2.1),.bool vX.2.2] 95)));clear key2
  go_upto_region 2 with fail
  go_cut [7,8] (fun s7 s8 wx=>Ayr w w2 vX vP s7 s8 wx)
  case first=>
   go_region_o
   all_goals (go_wp2_with fail;go_meet;(refine⟨_,_,rfl,rfl,by omega,by omega,?_,?_,dd _ _⟩<;>first|exact (al2 _ _ _).1|exact (al2 _ _ _).2))
  case rest=>
   clear k0 k1 l0 l1 m0 m1 p1 p2;obtain⟨bX,bP,rfl,rfl,hbX,hbP,hX,hP,NM⟩:=hcut
   rename World=>wd
   have hwc:w.heap.size<w2.heap.size:=by
    rcases Nat.lt_or_ge w.heap.size w2.heap.size with q|q
    ·exact q
    ·rw[Array.getElem?_eq_none q] at hc;cases hc
   have B4:∀{b:Nat} {o:Obj},w2.heap[b]?=some o->b<w2.heap.size:=fun {b o} h=>by
    rcases Nat.lt_or_ge b w2.heap.size with q|q
    ·exact q
    ·rw[Array.getElem?_eq_none q] at h;cases h
   obtain⟨⟨c0,c1,c2,c3,c4⟩,f0,f1,f2,f3,f4⟩:=ZA ((NM.block _ (B4 hc)).trans hc);have hrc:RC wd w.heap.size:=⟨⟨c0,c1,c2,c3,c4⟩,f0,f1,f2,f3,f4⟩;have XS:=hrc.some;obtain⟨T0,T1,T2⟩:=X7 ((NM.block _ (B4 hT)).trans hT);obtain⟨C0,C1,C2⟩:=X7 ((NM.block _ (B4 hC)).trans hC);obtain⟨O0,O1,O2⟩:=X7 ((NM.block _ (B4 hO)).trans hO);obtain⟨X0,X1,X2⟩:=X7 hX;obtain⟨P0,P1,P2⟩:=X7 hP;have hbd:Below w.heap.size w wd:=hbw.trans ((NM).mono hbw.size);by_cases hT4:vT.1=4
   rotate_left
   ·have hq:(vT.1 != 4)=true:=by simp[hT4]
    have hI:He vT vC vO vX vP=.error 4:=by unfold He;rw[E7 (.inl hT4)]
    go_wp2
    (try simp only[Exit.inBlock,Exit.then])
    exact G8 (b:=w.heap.size) rfl rfl (Ve wd w.heap.size _ _ _ _ _ XS) ⟨Hd hbd (Nat.le_refl _) _ _ _ _ _,by rw[hI];exact⟨by decide,rfl⟩⟩
   by_cases hC4:vC.1=4
   rotate_left
   ·have hq:(vC.1 != 4)=true:=by simp[hC4]
    have hI:He vT vC vO vX vP=.error 4:=by unfold He;rw[E7 (.inr (.inl hC4))]
    go_wp2
    (try simp only[Exit.inBlock,Exit.then])
    exact G8 (b:=w.heap.size) rfl rfl (Ve wd w.heap.size _ _ _ _ _ XS) ⟨Hd hbd (Nat.le_refl _) _ _ _ _ _,by rw[hI];exact⟨by decide,rfl⟩⟩
   by_cases hO4:vO.1=4
   rotate_left
   ·have hq:(vO.1 != 4)=true:=by simp[hO4]
    have hI:He vT vC vO vX vP=.error 4:=by unfold He;rw[E7 (.inr (.inr hO4))]
    go_wp2
    (try simp only[Exit.inBlock,Exit.then])
    exact G8 (b:=w.heap.size) rfl rfl (Ve wd w.heap.size _ _ _ _ _ XS) ⟨Hd hbd (Nat.le_refl _) _ _ _ _ _,by rw[hI];exact⟨by decide,rfl⟩⟩
   have Xx:He vT vC vO vX vP=if vX.1≠0∧vX.1≠2 then .error 4
    else if (vX.2.2=true∧vP.1≠4)∨(vX.2.2=false∧vP.1≠0) then .error 4
    else if vT.2.1=tyC then Xe 1 vC vO vX vP else if vT.2.1=tyG then Xe 2 vC vO vX vP else .error 3:=by
    unfold He;rw[Dz (by rintro (h|h|h)<;>first|exact h hT4|exact h hC4|exact h hO4)]
   go_upto_region 5 with fail
   go_cut [47] (fun s47 wx=>∃q:Bool,s47=.bool q∧(q=true↔(vX.1≠0∧vX.1≠2))∧wx=wd)
   case first=>
    by_cases h0:vX.1=0
    ·have h1:(vX.1 != 0)=false:=by simp[h0]
     go_wp2_with fail
     go_meet
     exact⟨false,rfl,by simp[h0],rfl⟩
    ·have h1:(vX.1 != 0)=true:=by simp[h0]
     by_cases h2:vX.1=2
     ·have h3:(vX.1 != 2)=false:=by simp[h2]
      go_wp2_with fail
      go_meet
      exact⟨false,rfl,by simp[h2],rfl⟩
     ·have h3:(vX.1 != 2)=true:=by simp[h2]
      go_wp2_with fail
      go_meet
      exact⟨true,rfl,by simp[h0,h2],rfl⟩
   case rest=>
    obtain⟨q5,rfl,hq5,hwe⟩:=hcut;subst hwe;cases q5 with
    |true=>
     have hx1:=hq5.1 rfl;have hI:He vT vC vO vX vP=.error 4:=by rw[Xx,E7 hx1]
     go_wp2
     (try simp only[Exit.inBlock,Exit.then])
     exact G8 (b:=w.heap.size) rfl rfl (Ve wc w.heap.size _ _ _ _ _ XS) ⟨Hd hbd (Nat.le_refl _) _ _ _ _ _,by rw[hI];exact⟨by decide,rfl⟩⟩
    |false=>
     have hx1:¬(vX.1≠0∧vX.1≠2):=fun h=>Bool.noConfusion (hq5.2 h)
     rw[Dz hx1] at Xx
     go_upto_region 7 with fail
     go_cut [65] (fun s65 wx=>∃q:Bool,s65=.bool q∧(q=true↔((vX.2.2=true∧vP.1≠4)∨(vX.2.2=false∧vP.1≠0)))∧wx=wc)
     case first=>
      cases DK:vX.2.2 with
      |true=>
       rw[DK] at X2;by_cases h4:vP.1=4
       ·have h1:(vP.1 != 4)=false:=by simp[h4]
        go_wp2_with fail
        go_meet
        exact⟨false,rfl,by simp[h4,DK],rfl⟩
       ·have h1:(vP.1 != 4)=true:=by simp[h4]
        go_wp2_with fail
        go_meet
        exact⟨true,rfl,by simp[h4,DK],rfl⟩
      |false=>
       rw[DK] at X2;by_cases h4:vP.1=0
       ·have h1:(vP.1 != 0)=false:=by simp[h4]
        go_wp2_with fail
        go_meet
        exact⟨false,rfl,by simp[h4,DK],rfl⟩
       ·have h1:(vP.1 != 0)=true:=by simp[h4]
        go_wp2_with fail
        go_meet
        exact⟨true,rfl,by simp[h4,DK],rfl⟩
     case rest=>
      obtain⟨q7,rfl,hq7,hwe⟩:=hcut;subst hwe;cases q7 with
      |true=>
       have Ok:=hq7.1 rfl;have hI:He vT vC vO vX vP=.error 4:=by rw[Xx,E7 Ok]
       go_wp2
       (try simp only[Exit.inBlock,Exit.then])
       exact G8 (b:=w.heap.size) rfl rfl (Ve wc w.heap.size _ _ _ _ _ XS) ⟨Hd hbd (Nat.le_refl _) _ _ _ _ _,by rw[hI];exact⟨by decide,rfl⟩⟩
      |false=>
       have Ok:¬((vX.2.2=true∧vP.1≠4)∨(vX.2.2=false∧vP.1≠0)):=fun h=>Bool.noConfusion (hq7.2 h)
       rw[Dz Ok] at Xx;clear hq5 hq7 hx1 Ok;have hwd:w.heap.size<wc.heap.size:=Nat.lt_of_lt_of_le hwc NM.size;have A68:bT<wc.heap.size:=Nat.lt_of_lt_of_le (B4 hT) NM.size;have A75:bC<wc.heap.size:=Nat.lt_of_lt_of_le (B4 hC) NM.size;have hbC:((Ac vT.2.1).toList==[112,97,115,115,107,101,121,46,99,114,101,97,116,101])=decide (vT.2.1=tyC):=Ye hTB (b:=tyC) (fun x hx=>by simp[tyC] at hx;omega)
       have hbG:((Ac vT.2.1).toList==[112,97,115,115,107,101,121,46,103,101,116])=decide (vT.2.1=tyG):=Ye hTB (b:=tyG) (fun x hx=>by simp[tyG] at hx;omega)
       by_cases hTc:vT.2.1=tyC
       rotate_left
       ·rw[decide_eq_false hTc] at hbC;rw[Dz hTc] at Xx;by_cases hTg:vT.2.1=tyG
        rotate_left
        ·rw[decide_eq_false hTg] at hbG;have hI:He vT vC vO vX vP=.error 3:=by rw[Xx,Dz hTg]
         go_wp2
         (try simp only[Exit.inBlock,Exit.then])
         exact G8 (b:=w.heap.size) rfl rfl (Kv wc w.heap.size hwd _ _ _ _ _ _ hrc) ⟨F6 hbd (Nat.le_refl _) hbd.size _ _ _ _ _ _,by rw[hI];exact⟨by decide,rfl⟩⟩
        ·rw[decide_eq_true hTg] at hbG;rw[E7 hTg] at Xx;clear hTg hTc;have hbA:=hbd.alloc hbd.size (.cells #[.int .i64 2,.slice none 0 0,.string (Ac vO.2.1),.bool vX.2.2,.string (Ac vP.2.1)] 36);have hsA:(wc.alloc (.cells #[.int .i64 2,.slice none 0 0,.string (Ac vO.2.1),.bool vX.2.2,.string (Ac vP.2.1)] 36)).heap.size=wc.heap.size+1:=Array.size_push _;have hkA:=al1 wc (.cells #[.int .i64 2,.slice none 0 0,.string (Ac vO.2.1),.bool vX.2.2,.string (Ac vP.2.1)] 36);have hrA:=hrc.below ((Below.refl wc.heap.size wc).alloc (Nat.le_refl _) (.cells #[.int .i64 2,.slice none 0 0,.string (Ac vO.2.1),.bool vX.2.2,.string (Ac vP.2.1)] 36)) hwd
         go_wp2_with (go_at_call 15;refine (Apd _ vC.2.1 (hU.below hbA) hCB hCL).mono ?_)
         rintro e W3 ⟨Rv,HX⟩
         have Sl:Below w.heap.size w W3:=hbA.trans (Rv.mono hbA.size);have TN:=hrA.below Rv (by rw[hsA];omega)
         have hm3:=TN.some;obtain⟨⟨r30,r31,r32,r33,r34⟩,s30,s31,s32,s33,s34⟩:=TN;have JN:wc.heap.size+1<=W3.heap.size:=by have:=Rv.size;rw[hsA] at this;exact this
         have I1:=(Rv.block _ (by rw[hsA];omega)).trans hkA
         obtain⟨⟨k0,k1,k2,k3,k4⟩,kf0,kf1,kf2,kf3,kf4⟩:=Acp I1;unfold DbP at HX;cases XI:Na vC.2.1 with
         |none=>
          rw[XI] at HX;obtain⟨ad,capN,rfl⟩:=HX;have hI:He vT vC vO vX vP=.error 2:=by rw[Xx];unfold Xe;rw[XI]
          go_wp2
          (try simp only[Exit.inBlock,Exit.then])
          exact G8 (b:=w.heap.size) rfl rfl (Ve W3 w.heap.size _ _ _ _ _ hm3) ⟨Hd Sl (Nat.le_refl _) _ _ _ _ _,by rw[hI];exact⟨by decide,rfl⟩⟩
         |some b=>
          rw[XI] at HX;obtain⟨ad,cap,rfl,Ng⟩:=HX;by_cases Ee:b.length<1
          ·have hI:He vT vC vO vX vP=.error 9:=by rw[Xx];unfold Xe;rw[XI];simp only;rw[E7 (.inl Ee)]
           have Qw:(b.length:Int)<1:=by omega
           go_wp2
           (try simp only[Exit.inBlock,Exit.then])
           exact G8 (b:=w.heap.size) rfl rfl (Ve W3 w.heap.size _ _ _ _ _ hm3) ⟨Hd Sl (Nat.le_refl _) _ _ _ _ _,by rw[hI];exact⟨by decide,rfl⟩⟩
          by_cases Gw:64<b.length
          ·have hI:He vT vC vO vX vP=.error 9:=by rw[Xx];unfold Xe;rw[XI];simp only;rw[E7 (.inr Gw)]
           have Qw:¬(b.length:Int)<1:=by omega
           have J5:(b.length:Int)>64:=by omega
           go_wp2
           (try simp only[Exit.inBlock,Exit.then])
           exact G8 (b:=w.heap.size) rfl rfl (Ve W3 w.heap.size _ _ _ _ _ hm3) ⟨Hd Sl (Nat.le_refl _) _ _ _ _ _,by rw[hI];exact⟨by decide,rfl⟩⟩
          have Qw:¬(b.length:Int)<1:=by omega
          have J5:¬(b.length:Int)>64:=by omega
          obtain⟨a,rfl,hac,haw,hla⟩:=Ng (by rintro rfl;exact Ee (by decide))
          have A0j:wc.heap.size+1<=a.block:=by rw[hsA] at haw;exact haw
          have PC:He vT vC vO vX vP=if F3 vO.2.1≠0 then .error (F3 vO.2.1) else if vX.2.2=true∧F3 vP.2.1≠0 then .error (F3 vP.2.1) else .ok (2,b,vO.2.1,vX.2.2,vP.2.1):=by
           rw[Xx];unfold Xe;rw[XI];simp only;rw[Dz (by omega)]
          have Wz:Below w.heap.size w (W3.setCell ⟨wc.heap.size,1,none⟩ (.slice (some a) b.length cap)):=Sl.setCell (p:=⟨wc.heap.size,1,none⟩) (Nat.le_of_lt hwd) _;have Aiq:Below wc.heap.size W3 (W3.setCell ⟨wc.heap.size,1,none⟩ (.slice (some a) b.length cap)):=(Below.refl wc.heap.size W3).setCell (p:=⟨wc.heap.size,1,none⟩) (Nat.le_refl _) _;have JL:=(show RC W3 w.heap.size from ⟨⟨r30,r31,r32,r33,r34⟩,s30,s31,s32,s33,s34⟩).below Aiq hwd
          have Aio:=hla.set (b0:=wc.heap.size) (j:=1) (v:=.slice (some a) b.length cap) (by omega)
          have GC:(W3.setCell ⟨wc.heap.size,1,none⟩ (.slice (some a) b.length cap)).heap.size=W3.heap.size:=World.size_setCell ..;have j0:(W3.setCell ⟨wc.heap.size,1,none⟩ (.slice (some a) b.length cap)).cell? ⟨wc.heap.size,0,none⟩=some (.int .i64 2):=(Ea (by decide)).trans k0
          have j1:(W3.setCell ⟨wc.heap.size,1,none⟩ (.slice (some a) b.length cap)).cell? ⟨wc.heap.size,1,none⟩=some (.slice (some a) b.length cap):=World.cell?_setCell_same _ _ _ k1;have j2:(W3.setCell ⟨wc.heap.size,1,none⟩ (.slice (some a) b.length cap)).cell? ⟨wc.heap.size,2,none⟩=some (.string (Ac vO.2.1)):=(Ea (by decide)).trans k2
          have j3:(W3.setCell ⟨wc.heap.size,1,none⟩ (.slice (some a) b.length cap)).cell? ⟨wc.heap.size,3,none⟩=some (.bool vX.2.2):=(Ea (by decide)).trans k3
          have j4:(W3.setCell ⟨wc.heap.size,1,none⟩ (.slice (some a) b.length cap)).cell? ⟨wc.heap.size,4,none⟩=some (.string (Ac vP.2.1)):=(Ea (by decide)).trans k4
          go_wp2_with (go_at_call 32;refine (Aem _ vO.2.1 (hU.below Wz) hOB hOL).mono ?_)
          rintro e W5 ⟨JE,o1,o2,o3,rfl⟩
          have hs5:W3.heap.size<=W5.heap.size:=by have:=JE.size;rw[GC] at this;exact this
          have U8:Below w.heap.size w W5:=Wz.trans (JE.mono Wz.size);have hr5:=JL.below JE (by rw[GC];omega)
          have Ajz:=hr5;obtain⟨⟨r50,r51,r52,r53,r54⟩,s50,s51,s52,s53,s54⟩:=Ajz;have hw5:w.heap.size<W5.heap.size:=by omega
          have hc5:wc.heap.size<W5.heap.size:=by omega
          have PD:=Aio.below JE (by rw[GC];exact hla.2.1)
          have J6:wc.heap.size<(W3.setCell ⟨wc.heap.size,1,none⟩ (.slice (some a) b.length cap)).heap.size:=by rw[GC];omega
          have i0:=(JE.cell (p:=⟨wc.heap.size,0,none⟩) J6).trans j0;have i1:=(JE.cell (p:=⟨wc.heap.size,1,none⟩) J6).trans j1;have i2:=(JE.cell (p:=⟨wc.heap.size,2,none⟩) J6).trans j2;have i3:=(JE.cell (p:=⟨wc.heap.size,3,none⟩) J6).trans j3;have i4:=(JE.cell (p:=⟨wc.heap.size,4,none⟩) J6).trans j4;have hbL:=(Below.refl W5.heap.size W5).alloc (Nat.le_refl _) (.cells #[.bool o1,.string o2,.int .i64 o3] 65);have OM:Below w.heap.size w (W5.alloc (.cells #[.bool o1,.string o2,.int .i64 o3] 65)):=U8.alloc U8.size _;by_cases ho:F3 vO.2.1=0
          rotate_left
          ·have hoB:(F3 vO.2.1 != 0)=true:=by simp[ho]
           have hI:He vT vC vO vX vP=.error (F3 vO.2.1):=by rw[PC,E7 ho]
           go_wp2
           (try simp only[Exit.inBlock,Exit.then])
           exact G8 (b:=w.heap.size) rfl rfl (Kv W5 w.heap.size hw5 _ _ _ _ _ _ hr5) ⟨F6 U8 (Nat.le_refl _) U8.size _ _ _ _ _ _,by rw[hI];exact⟨ho,rfl⟩⟩
          have hoB:(F3 vO.2.1 != 0)=false:=by simp[ho]
          rw[Dz (by simp[ho])] at PC
          have Abv:=PD.below hbL (by have:=PD.2.1;exact this)
          cases DK:vX.2.2 with
          |false=>
           rw[DK] at i3;have hI:He vT vC vO vX vP=.ok (2,b,vO.2.1,false,vP.2.1):=by rw[PC,Dz (by simp[DK]),DK]
           go_wp2
           (try simp only[Exit.inBlock,Exit.then])
           exact G8 (b:=w.heap.size) rfl rfl (Kv W5 w.heap.size hw5 _ _ _ _ _ _ hr5) ⟨F6 U8 (Nat.le_refl _) U8.size _ _ _ _ _ _,by rw[hI];exact⟨a,cap,rfl,hac,by omega,PD.set5al (by omega)⟩⟩
          |true=>
           rw[DK] at i3
           go_wp2_with (go_at_call 32;refine (Aem _ vP.2.1 (hU.below OM) hPB hPL).mono ?_)
           rintro e W7 ⟨hb7,p1,p2,p3,rfl⟩
           have hsL:(W5.alloc (.cells #[.bool o1,.string o2,.int .i64 o3] 65)).heap.size=W5.heap.size+1:=Array.size_push _;have Uk:Below w.heap.size w W7:=OM.trans (hb7.mono OM.size);have hr7:=(hr5.below hbL hw5).below hb7 (by rw[hsL];omega)
           have Aks:=hr7;obtain⟨⟨r70,r71,r72,r73,r74⟩,s70,s71,s72,s73,s74⟩:=Aks;have PM:=Abv.below hb7 (by have:=Abv.2.1;exact this)
           have Uj:=(hbL.trans (hb7.mono hbL.size));have l0:=(Uj.cell (p:=⟨wc.heap.size,0,none⟩) (show wc.heap.size<W5.heap.size by omega)).trans i0
           have l1:=(Uj.cell (p:=⟨wc.heap.size,1,none⟩) (show wc.heap.size<W5.heap.size by omega)).trans i1
           have l2:=(Uj.cell (p:=⟨wc.heap.size,2,none⟩) (show wc.heap.size<W5.heap.size by omega)).trans i2
           have l3:=(Uj.cell (p:=⟨wc.heap.size,3,none⟩) (show wc.heap.size<W5.heap.size by omega)).trans i3
           have l4:=(Uj.cell (p:=⟨wc.heap.size,4,none⟩) (show wc.heap.size<W5.heap.size by omega)).trans i4
           have hs7:=Uj.size;have hw7:w.heap.size<W7.heap.size:=by omega
           have hc7:wc.heap.size<W7.heap.size:=by omega
           have hbM:=(Below.refl W7.heap.size W7).alloc (Nat.le_refl _) (.cells #[.bool p1,.string p2,.int .i64 p3] 65);have Awn:Below w.heap.size w (W7.alloc (.cells #[.bool p1,.string p2,.int .i64 p3] 65)):=Uk.alloc Uk.size _;by_cases hp:F3 vP.2.1=0
           rotate_left
           ·have hoB:(F3 vP.2.1 != 0)=true:=by simp[hp]
            have hI:He vT vC vO vX vP=.error (F3 vP.2.1):=by rw[PC,E7 ⟨DK,hp⟩]
            go_wp2
            (try simp only[Exit.inBlock,Exit.then])
            exact G8 (b:=w.heap.size) rfl rfl (Kv W7 w.heap.size hw7 _ _ _ _ _ _ hr7) ⟨F6 Uk (Nat.le_refl _) Uk.size _ _ _ _ _ _,by rw[hI];exact⟨hp,rfl⟩⟩
           have hpB:(F3 vP.2.1 != 0)=false:=by simp[hp]
           have A2s:=PM.below hbM (by have:=PM.2.1;exact this)
           have hI:He vT vC vO vX vP=.ok (2,b,vO.2.1,true,vP.2.1):=by rw[PC,Dz (by simp[hp]),DK]
           go_wp2
           (try simp only[Exit.inBlock,Exit.then])
           exact G8 (b:=w.heap.size) rfl rfl (Kv W7 w.heap.size hw7 _ _ _ _ _ _ hr7) ⟨F6 Uk (Nat.le_refl _) Uk.size _ _ _ _ _ _,by rw[hI];exact⟨a,cap,rfl,hac,by omega,PM.set5al (by omega)⟩⟩
       ·rw[decide_eq_true hTc] at hbC;rw[E7 hTc] at Xx;clear hTc hbG;have hbA:=hbd.alloc hbd.size (.cells #[.int .i64 1,.slice none 0 0,.string (Ac vO.2.1),.bool vX.2.2,.string (Ac vP.2.1)] 36);have hsA:(wc.alloc (.cells #[.int .i64 1,.slice none 0 0,.string (Ac vO.2.1),.bool vX.2.2,.string (Ac vP.2.1)] 36)).heap.size=wc.heap.size+1:=Array.size_push _;have hkA:=al1 wc (.cells #[.int .i64 1,.slice none 0 0,.string (Ac vO.2.1),.bool vX.2.2,.string (Ac vP.2.1)] 36);have hrA:=hrc.below ((Below.refl wc.heap.size wc).alloc (Nat.le_refl _) (.cells #[.int .i64 1,.slice none 0 0,.string (Ac vO.2.1),.bool vX.2.2,.string (Ac vP.2.1)] 36)) hwd
        go_wp2_with (go_at_call 15;refine (Apd _ vC.2.1 (hU.below hbA) hCB hCL).mono ?_)
        rintro e W3 ⟨Rv,HX⟩
        have Sl:Below w.heap.size w W3:=hbA.trans (Rv.mono hbA.size);have TN:=hrA.below Rv (by rw[hsA];omega)
        have hm3:=TN.some;obtain⟨⟨r30,r31,r32,r33,r34⟩,s30,s31,s32,s33,s34⟩:=TN;have JN:wc.heap.size+1<=W3.heap.size:=by have:=Rv.size;rw[hsA] at this;exact this
        have I1:=(Rv.block _ (by rw[hsA];omega)).trans hkA
        obtain⟨⟨k0,k1,k2,k3,k4⟩,kf0,kf1,kf2,kf3,kf4⟩:=Acp I1;unfold DbP at HX;cases XI:Na vC.2.1 with
        |none=>
         rw[XI] at HX;obtain⟨ad,capN,rfl⟩:=HX;have hI:He vT vC vO vX vP=.error 2:=by rw[Xx];unfold Xe;rw[XI]
         go_wp2
         (try simp only[Exit.inBlock,Exit.then])
         exact G8 (b:=w.heap.size) rfl rfl (Ve W3 w.heap.size _ _ _ _ _ hm3) ⟨Hd Sl (Nat.le_refl _) _ _ _ _ _,by rw[hI];exact⟨by decide,rfl⟩⟩
        |some b=>
         rw[XI] at HX;obtain⟨ad,cap,rfl,Ng⟩:=HX;by_cases Ee:b.length<1
         ·have hI:He vT vC vO vX vP=.error 9:=by rw[Xx];unfold Xe;rw[XI];simp only;rw[E7 (.inl Ee)]
          have Qw:(b.length:Int)<1:=by omega
          go_wp2
          (try simp only[Exit.inBlock,Exit.then])
          exact G8 (b:=w.heap.size) rfl rfl (Ve W3 w.heap.size _ _ _ _ _ hm3) ⟨Hd Sl (Nat.le_refl _) _ _ _ _ _,by rw[hI];exact⟨by decide,rfl⟩⟩
         by_cases Gw:64<b.length
         ·have hI:He vT vC vO vX vP=.error 9:=by rw[Xx];unfold Xe;rw[XI];simp only;rw[E7 (.inr Gw)]
          have Qw:¬(b.length:Int)<1:=by omega
          have J5:(b.length:Int)>64:=by omega
          go_wp2
          (try simp only[Exit.inBlock,Exit.then])
          exact G8 (b:=w.heap.size) rfl rfl (Ve W3 w.heap.size _ _ _ _ _ hm3) ⟨Hd Sl (Nat.le_refl _) _ _ _ _ _,by rw[hI];exact⟨by decide,rfl⟩⟩
         have Qw:¬(b.length:Int)<1:=by omega
         have J5:¬(b.length:Int)>64:=by omega
         obtain⟨a,rfl,hac,haw,hla⟩:=Ng (by rintro rfl;exact Ee (by decide))
         have A0j:wc.heap.size+1<=a.block:=by rw[hsA] at haw;exact haw
         have PC:He vT vC vO vX vP=if F3 vO.2.1≠0 then .error (F3 vO.2.1) else if vX.2.2=true∧F3 vP.2.1≠0 then .error (F3 vP.2.1) else .ok (1,b,vO.2.1,vX.2.2,vP.2.1):=by
          rw[Xx];unfold Xe;rw[XI];simp only;rw[Dz (by omega)]
         have Wz:Below w.heap.size w (W3.setCell ⟨wc.heap.size,1,none⟩ (.slice (some a) b.length cap)):=Sl.setCell (p:=⟨wc.heap.size,1,none⟩) (Nat.le_of_lt hwd) _;have Aiq:Below wc.heap.size W3 (W3.setCell ⟨wc.heap.size,1,none⟩ (.slice (some a) b.length cap)):=(Below.refl wc.heap.size W3).setCell (p:=⟨wc.heap.size,1,none⟩) (Nat.le_refl _) _;have JL:=(show RC W3 w.heap.size from ⟨⟨r30,r31,r32,r33,r34⟩,s30,s31,s32,s33,s34⟩).below Aiq hwd
         have Aio:=hla.set (b0:=wc.heap.size) (j:=1) (v:=.slice (some a) b.length cap) (by omega)
         have GC:(W3.setCell ⟨wc.heap.size,1,none⟩ (.slice (some a) b.length cap)).heap.size=W3.heap.size:=World.size_setCell ..;have j0:(W3.setCell ⟨wc.heap.size,1,none⟩ (.slice (some a) b.length cap)).cell? ⟨wc.heap.size,0,none⟩=some (.int .i64 1):=(Ea (by decide)).trans k0
         have j1:(W3.setCell ⟨wc.heap.size,1,none⟩ (.slice (some a) b.length cap)).cell? ⟨wc.heap.size,1,none⟩=some (.slice (some a) b.length cap):=World.cell?_setCell_same _ _ _ k1;have j2:(W3.setCell ⟨wc.heap.size,1,none⟩ (.slice (some a) b.length cap)).cell? ⟨wc.heap.size,2,none⟩=some (.string (Ac vO.2.1)):=(Ea (by decide)).trans k2
         have j3:(W3.setCell ⟨wc.heap.size,1,none⟩ (.slice (some a) b.length cap)).cell? ⟨wc.heap.size,3,none⟩=some (.bool vX.2.2):=(Ea (by decide)).trans k3
         have j4:(W3.setCell ⟨wc.heap.size,1,none⟩ (.slice (some a) b.length cap)).cell? ⟨wc.heap.size,4,none⟩=some (.string (Ac vP.2.1)):=(Ea (by decide)).trans k4
         go_wp2_with (go_at_call 32;refine (Aem _ vO.2.1 (hU.below Wz) hOB hOL).mono ?_)
         rintro e W5 ⟨JE,o1,o2,o3,rfl⟩
         have hs5:W3.heap.size<=W5.heap.size:=by have:=JE.size;rw[GC] at this;exact this
         have U8:Below w.heap.size w W5:=Wz.trans (JE.mono Wz.size);have hr5:=JL.below JE (by rw[GC];omega)
         have Ajz:=hr5;obtain⟨⟨r50,r51,r52,r53,r54⟩,s50,s51,s52,s53,s54⟩:=Ajz;have hw5:w.heap.size<W5.heap.size:=by omega
         have hc5:wc.heap.size<W5.heap.size:=by omega
         have PD:=Aio.below JE (by rw[GC];exact hla.2.1)
         have J6:wc.heap.size<(W3.setCell ⟨wc.heap.size,1,none⟩ (.slice (some a) b.length cap)).heap.size:=by rw[GC];omega
         have i0:=(JE.cell (p:=⟨wc.heap.size,0,none⟩) J6).trans j0;have i1:=(JE.cell (p:=⟨wc.heap.size,1,none⟩) J6).trans j1;have i2:=(JE.cell (p:=⟨wc.heap.size,2,none⟩) J6).trans j2;have i3:=(JE.cell (p:=⟨wc.heap.size,3,none⟩) J6).trans j3;have i4:=(JE.cell (p:=⟨wc.heap.size,4,none⟩) J6).trans j4;have hbL:=(Below.refl W5.heap.size W5).alloc (Nat.le_refl _) (.cells #[.bool o1,.string o2,.int .i64 o3] 65);have OM:Below w.heap.size w (W5.alloc (.cells #[.bool o1,.string o2,.int .i64 o3] 65)):=U8.alloc U8.size _;by_cases ho:F3 vO.2.1=0
         rotate_left
         ·have hoB:(F3 vO.2.1 != 0)=true:=by simp[ho]
          have hI:He vT vC vO vX vP=.error (F3 vO.2.1):=by rw[PC,E7 ho]
          go_wp2
          (try simp only[Exit.inBlock,Exit.then])
          exact G8 (b:=w.heap.size) rfl rfl (Kv W5 w.heap.size hw5 _ _ _ _ _ _ hr5) ⟨F6 U8 (Nat.le_refl _) U8.size _ _ _ _ _ _,by rw[hI];exact⟨ho,rfl⟩⟩
         have hoB:(F3 vO.2.1 != 0)=false:=by simp[ho]
         rw[Dz (by simp[ho])] at PC
         have Abv:=PD.below hbL (by have:=PD.2.1;exact this)
         cases DK:vX.2.2 with
         |false=>
          rw[DK] at i3;have hI:He vT vC vO vX vP=.ok (1,b,vO.2.1,false,vP.2.1):=by rw[PC,Dz (by simp[DK]),DK]
          go_wp2
          (try simp only[Exit.inBlock,Exit.then])
          exact G8 (b:=w.heap.size) rfl rfl (Kv W5 w.heap.size hw5 _ _ _ _ _ _ hr5) ⟨F6 U8 (Nat.le_refl _) U8.size _ _ _ _ _ _,by rw[hI];exact⟨a,cap,rfl,hac,by omega,PD.set5al (by omega)⟩⟩
         |true=>
          rw[DK] at i3
          go_wp2_with (go_at_call 32;refine (Aem _ vP.2.1 (hU.below OM) hPB hPL).mono ?_)
          rintro e W7 ⟨hb7,p1,p2,p3,rfl⟩
          have hsL:(W5.alloc (.cells #[.bool o1,.string o2,.int .i64 o3] 65)).heap.size=W5.heap.size+1:=Array.size_push _;have Uk:Below w.heap.size w W7:=OM.trans (hb7.mono OM.size);have hr7:=(hr5.below hbL hw5).below hb7 (by rw[hsL];omega)
          have Aks:=hr7;obtain⟨⟨r70,r71,r72,r73,r74⟩,s70,s71,s72,s73,s74⟩:=Aks;have PM:=Abv.below hb7 (by have:=Abv.2.1;exact this)
          have Uj:=(hbL.trans (hb7.mono hbL.size));have l0:=(Uj.cell (p:=⟨wc.heap.size,0,none⟩) (show wc.heap.size<W5.heap.size by omega)).trans i0
          have l1:=(Uj.cell (p:=⟨wc.heap.size,1,none⟩) (show wc.heap.size<W5.heap.size by omega)).trans i1
          have l2:=(Uj.cell (p:=⟨wc.heap.size,2,none⟩) (show wc.heap.size<W5.heap.size by omega)).trans i2
          have l3:=(Uj.cell (p:=⟨wc.heap.size,3,none⟩) (show wc.heap.size<W5.heap.size by omega)).trans i3
          have l4:=(Uj.cell (p:=⟨wc.heap.size,4,none⟩) (show wc.heap.size<W5.heap.size by omega)).trans i4
          have hs7:=Uj.size;have hw7:w.heap.size<W7.heap.size:=by omega
          have hc7:wc.heap.size<W7.heap.size:=by omega
          have hbM:=(Below.refl W7.heap.size W7).alloc (Nat.le_refl _) (.cells #[.bool p1,.string p2,.int .i64 p3] 65);have Awn:Below w.heap.size w (W7.alloc (.cells #[.bool p1,.string p2,.int .i64 p3] 65)):=Uk.alloc Uk.size _;by_cases hp:F3 vP.2.1=0
          rotate_left
          ·have hoB:(F3 vP.2.1 != 0)=true:=by simp[hp]
           have hI:He vT vC vO vX vP=.error (F3 vP.2.1):=by rw[PC,E7 ⟨DK,hp⟩]
           go_wp2
           (try simp only[Exit.inBlock,Exit.then])
           exact G8 (b:=w.heap.size) rfl rfl (Kv W7 w.heap.size hw7 _ _ _ _ _ _ hr7) ⟨F6 Uk (Nat.le_refl _) Uk.size _ _ _ _ _ _,by rw[hI];exact⟨hp,rfl⟩⟩
          have hpB:(F3 vP.2.1 != 0)=false:=by simp[hp]
          have A2s:=PM.below hbM (by have:=PM.2.1;exact this)
          have hI:He vT vC vO vX vP=.ok (1,b,vO.2.1,true,vP.2.1):=by rw[PC,Dz (by simp[hp]),DK]
          go_wp2
          (try simp only[Exit.inBlock,Exit.then])
          exact G8 (b:=w.heap.size) rfl rfl (Kv W7 w.heap.size hw7 _ _ _ _ _ _ hr7) ⟨F6 Uk (Nat.le_refl _) Uk.size _ _ _ _ _ _,by rw[hI];exact⟨a,cap,rfl,hac,by omega,PM.set5al (by omega)⟩⟩
end
section
open Go.Proofs.Tryd (prog)
open Go.IntKind (wrap)
set_option maxRecDepth 1000000
open Go Go.RowKit Go.Lib
def JT (L:Nat)(s:List Int):Prop:=Do s∧s.length<=4*L
theorem Y4:∀(n:Nat)(out l s q:List Int),Do l->Jb n out l=(some s,q)->s.length<=out.length+4*l.length
  |0,_,_,_,_,_,h=>by cases h
  |_+1,_,[],_,_,_,h=>by cases h
  |n+1,out,c::l,s,q,hl,h=>by
    have e:Jb (n+1) out (c::l)=if c<32 then (none,c::l) else if c=34 then (some out,l) else if c=92 then
        (match Lt l with
         |(some x,r')=>Jb n (out++Lib.encodeRuneZ x) r'
         |(none,r')=>(none,r')) else Jb n (out++[c]) l:=rfl
    have On:=C5 hl
    rw[e] at h
    split at h
    · cases h
    split at h
    · cases h;simp
    split at h
    · have h2:=Pk (Cz.self On.2)
      rcases hq:Lt l with⟨o,r⟩
      rw[hq] at h2 h
      cases o with
      |none=>cases h
      |some x=>
        have:=Y4 n _ r s q h2.B h
        have h3:=Lib.encodeRuneZ_length x
        have h4:r.length<=l.length:=h2.le
        simp at this ⊢
        omega
    · have:=Y4 n _ l s q On.2 h
      simp at this ⊢
      omega
theorem NI {l s q:List Int}(hl:Do l)(h:Er l=(some s,q)):JT l.length s:=by
 refine⟨TH hl h,?_⟩;cases l with
 |nil=>cases h
 |cons c l=>
  have e:Er (c::l)=if c=34 then Jb (l.length+1) [] l else (none,c::l):=rfl
  rw[e] at h;split at h
  ·have:=Y4 _ _ _ _ _ (C5 hl).2 h;simp at this ⊢;omega
  ·cases h
theorem JT.mono {L M:Nat}{s:List Int}(h:JT L s)(hm:L<=M):JT M s:=⟨h.1,by have:=h.2;omega⟩
theorem JT.nil (L:Nat):JT L []:=⟨(fun x hx=>nomatch hx),Nat.zero_le _⟩
theorem Abp {l r:List Int}{v:JV}(hl:Do l)(hs:l.length<=1000000)(h:Fg 8 l=.ok (v,r)):Cz (Ac l) r:=by
 obtain⟨res,_,hr⟩:=Ahe (fu:=1000001) (d:=0) (t:=Ac l) (by rw[Aw];exact hs) (by rw[Aw];omega) 8 1 (by omega) (by omega) l (Cz.self hl)
 rw[h] at hr;exact hr.1
theorem Ade:∀{k:Nat}{l r:List Int}{v:JV},Do l->Fg k l=.ok (v,r)->JT l.length v.2.1:=by
 intro k l r v hl h;unfold Fg at h;split at h
 ·split at h
  ·cases h
  ·split at h
   ·cases h
   ·cases h;exact JT.nil _
 ·split at h
  ·cases h
  ·split at h
   ·cases h
   ·cases h;exact JT.nil _
 ·rename_i r0;unfold FH at h;rcases hq:Er (34::r0) with⟨o,q⟩;rw[hq] at h;cases o with
  |none=>cases h
  |some s=>cases h;exact NI hl hq
 ·repeat' split at h
  all_goals first|(cases h;exact JT.nil _)|cases h
theorem Afk {L:Nat}(hL:L<=1000000):∀(n:Nat)(ms:List (List Int × JV)) (l r:List Int)(ms':List (List Int × JV)),Do l->l.length<=L->(∀m∈ms,JT L m.1∧JT L m.2.2.1)->Qk (Fg 8) true n ms l=.ok (ms',r)->∀m∈ms',JT L m.1∧JT L m.2.2.1:=by
 intro n
 induction n with
 |zero=>intro ms l r ms' _ _ _ h;cases h
 |succ n ih=>
  intro ms l r ms' hl hs hm h;rw[AM] at h;rcases hx:Er l with⟨o,q⟩;rw[hx] at h;cases o with
  |none=>cases h
  |some nm=>
   have CY:=NI hl hx;have hq:=Gf (Cz.self hl);rw[hx] at hq;simp only at h;split at h
   ·cases h
   cases h1:Ap [58] (Bd q) with
   |none=>rw[h1] at h;cases h
   |some r1=>
    rw[h1] at h;have AX:=Bm (Ao (Bm hq) h1);simp only at h;cases hv:Fg 8 (Bd r1) with
    |error e=>rw[hv] at h;cases h
    |ok x=>
     obtain⟨v,r2⟩:=x;rw[hv] at h;have Xc:=AX.le;have hvo:=Ade AX.B hv;have FR:=AX.trans (Abp AX.B (by omega) hv)
     have K6:∀m∈ms++[(nm,v)],JT L m.1∧JT L m.2.2.1:=by
      intro m Hw;rcases List.mem_append.1 Hw with Hw|Hw
      ·exact hm m Hw
      ·simp at Hw;subst Hw;exact⟨CY.mono hs,hvo.mono (by omega)⟩
     simp only at h;cases h2:Ap [125] (Bd r2) with
     |some r3=>rw[h2] at h;cases h;exact K6
     |none=>
      rw[h2] at h;simp only at h;cases h3:Ap [44] (Bd r2) with
      |none=>rw[h3] at h;cases h
      |some r3=>
       rw[h3] at h;have TN:=Bm (Ao (Bm FR) h3);exact ih _ _ _ _ TN.B (by have:=TN.le;omega) K6 h
theorem Afu {l:List Int}{ms:List (List Int × JV)} (hl:Do l)(hs:l.length<=1000000)(h:PX 8 l=.ok ms):∀m∈ms,JT l.length m.1∧JT l.length m.2.2.1:=by
 rw[DQ] at h;have h0:=Bm (Cz.self hl);cases h1:Ap [123] (Bd l) with
 |none=>rw[h1] at h;cases h
 |some r=>
  rw[h1] at h;have hr:=Ao h0 h1;simp only at h;rw[Vi] at h;have FR:=Bm hr;cases h2:Ap [125] (Bd r) with
  |some r'=>
   rw[h2] at h;simp only at h;split at h
   ·cases h;exact fun m hm=>by cases hm
   ·cases h
  |none=>
   rw[h2] at h;simp only at h;cases h3:Qk (Fg 8) true ((Bd r).length+1) [] (Bd r) with
   |error e=>rw[h3] at h;cases h
   |ok x=>
    obtain⟨ms',r'⟩:=x;rw[h3] at h;simp only at h;split at h
    ·cases h;exact Afk hs _ _ _ _ _ FR.B FR.le (fun m hm=>by cases hm) h3
    ·cases h
def SC (ms:List (List Int × JV)):JR CD:=He (Cf Oq ms) (Cf Vc ms) (Cf nmO ms) (Cf nmX ms) (Cf nmP ms)
def L1 (t:ByteArray):JR CD:=
 if 1024<t.size then .error 8 else if Lib.validD t.data.toList=false then .error 6 else match PX 8 (D2 t) with
  |.error e=>.error e
  |.ok ms=>SC ms
theorem Adc {G:Rx}{P:Program}{f:FuncId}{args vals:List PV}{us rs:List Value}(hs:Cw G P f args ⟨vals,[]⟩) (ha:Bb AJ args us)(hr:Bb AJ vals rs)
  {w:World} (hG:G.ok w) (hGl:∀k,G.bl k->k<w.heap.size):Calls P f us.toArray w fun e w'=>e=.returned (Gn rs)∧Below w.heap.size w w':=by
 have hi:Ins w (fun _=>False) NB args us:=⟨fun _ h=>h.elim,fun _ h=>h.elim,fun k h=>absurd h (Ma k),fun i j i' j' b o o' h=>(by cases h),fun i q h=>(by cases h),S7 ha⟩
 refine (hs.2 w _ _ _ hi hG (fun k hk=>⟨hGl k hk,Ma k⟩)).mono ?_
 rintro e w' ⟨ws,own,rfl,out⟩
 have hv:=Yy hr out.vals;subst hv;exact⟨rfl,out.os,out.tape,out.output,out.ext.size,fun k hk=>out.ext.keep k hk (Ma k)⟩
theorem UZ (W:World)(s:List Int)(hW:okW W)(hB:Do s)(hs:s.length<=1000000):Calls prog 32 #[.string (Ac s)] W fun e w'=>Below W.heap.size W w'∧∃o1 o2 o3,e=.returned (.tuple #[.agg #[.bool o1,.string o2,.int .i64 o3],.int .i64 (F3 s)]):=by
 obtain⟨o1,o2,o3,e⟩:=Ahu (fu:=1000001) (d:=0) (p:=none) hB hs (by omega)
 have hsd:Cw gU prog 32 [.sc (.string (Ac s))] ⟨[.agg ([Value.bool o1,.string o2,.int .i64 o3].map .sc),.sc (.int .i64 (F3 s))],[]⟩:=G9 ngR mxR Alx 7 _ _ _ e;refine (Adc (us:=[.string (Ac s)]) (rs:=[.agg #[.bool o1,.string o2,.int .i64 o3],.int .i64 (F3 s)]) hsd ⟨.inl rfl,trivial⟩ ⟨.inr ⟨_,rfl,rfl⟩,.inl rfl,trivial⟩ hW.1 hW.2).mono ?_
 rintro e w' ⟨rfl,hb⟩
 exact⟨hb,o1,o2,o3,rfl⟩
theorem WN (W:World)(s:List Int)(hW:okW W)(hB:Do s)(hs:s.length<=1000000):Calls prog 15 #[.string (Ac s)] W fun e w'=>Below W.heap.size W w'∧DbP W w' s e:=by
 have e:=Ank (fu:=1000001) (d:=0) (p:=none) hB hs (by omega) (by omega)
 have hi:Ins W (fun _=>False) NB [.sc (.string (Ac s))] [.string (Ac s)]:=⟨fun _ h=>h.elim,fun _ h=>h.elim,fun k h=>absurd h (Ma k),fun i j i' j' b o o' h=>(by cases h),fun i q h=>(by cases h),S7 (show Bb AJ [.sc (.string (Ac s))] [.string (Ac s)] from ⟨.inl rfl,trivial⟩)⟩
 have hsd:Cw gU prog 15 [.sc (.string (Ac s))] _:=G9 ngR mxR Alx 3 _ _ _ e;refine (hsd.2 W _ _ _ hi hW.1 (fun k hk=>⟨hW.2 k hk,Ma k⟩)).mono ?_
 rintro e w' ⟨ws,own,rfl,out⟩
 refine⟨⟨out.os,out.tape,out.output,out.ext.size,fun k hk=>out.ext.keep k hk (Ma k)⟩,?_⟩
 have hv:=out.vals;have XZ:=out.fresh;generalize hA:Zr NB own (fun _=>False)=A at hv
 unfold DbP;cases hd:Na s with
 |none=>
  rw[hd] at hv
  match ws,hv with
  |[u1,u2],hv=>
   obtain⟨h1,h2,_⟩:=hv;have e2:u2=.int .i64 2:=Ar.val (show Ar w' A (.sc (.int .i64 2)) u2 from h2)
   rcases (show Fd w' A (own 0) (.own 1 0 []) u1 from h1) with⟨_,_,_,ad,rfl⟩|⟨b,o,cap,ho,rfl,h⟩
   ·rw[e2];exact⟨ad,0,rfl⟩
   ·rw[e2];exact⟨_,cap,rfl⟩
  |[],hv=>exact hv.elim
  |[_],hv=>exact hv.2.elim
  |_::_::_::_,hv=>exact hv.2.2.elim
 |some b=>
  rw[hd] at hv
  match ws,hv with
  |[u1,u2],hv=>
   obtain⟨h1,h2,_⟩:=hv;have e2:u2=.int .i64 0:=Ar.val (show Ar w' A (.sc (.int .i64 0)) u2 from h2)
   rw[e2];rcases (show Fd w' A (own 0) (.own 1 b.length (Dw .u8 b)) u1 from h1) with⟨_,hn,_,ad,rfl⟩|⟨bb,o,cap,ho,rfl,hc,hf,B4,hr,hz⟩
   ·have BU:b=[]:=List.eq_nil_of_length_eq_zero hn;subst BU;exact⟨ad,0,rfl,fun h=>absurd rfl h⟩
   ·refine⟨some ⟨bb,o,none⟩,cap,rfl,fun _=>⟨⟨bb,o,none⟩,rfl,hc,?_,rfl,B4,fun j x hx=>?_⟩⟩
    ·have:=(XZ 0 bb o ho).2;rcases Nat.lt_or_ge bb W.heap.size with q|q
     ·obtain⟨⟨i,k,o',h⟩,_⟩:=this q;cases h
     ·exact q
    ·have hj:(Dw .u8 b)[j]?=some (.sc (.int .u8 x)):=by
      rw[Ml,List.getElem?_map,hx];rfl
     obtain⟨v,hv1,_,hv2⟩:=hr j _ hj;rw[hv1];exact congrArg some hv2.val
  |[],hv=>exact hv.elim
  |[_],hv=>exact hv.2.elim
  |_::_::_::_,hv=>exact hv.2.2.elim
def PaP (w w':World)(t:ByteArray)(e:Ending):Prop:=ItP w w' (L1 t) e
theorem MR {R:Ending->World->Prop}{a:Act}{W:World}{v:Value}{b:Nat}(h2:a.tmps.getD 2 undef=.pointer (some ⟨b,0,none⟩)) (hd:a.defers=[]) (hl:(loadVar 36 ⟨b,0,none⟩).run prog W=.ok v W) (hR:R (.returned (.tuple #[v,a.tmps.getD 3 undef])) W):bodyPost prog Tryd.f19 R .ret a W:=by
 refine bodyPost_ret ?_ hd hR;rw[results_cell_tmp rfl,h2];have e:(asAddr (.pointer (some ⟨b,0,none⟩))).run prog W=.ok ⟨b,0,none⟩ W:=rfl;rw[e,Result.andThen_ok,hl,Result.andThen_ok]
def VsP (w w':World)(t:ByteArray)(e:Ending):Prop:=e=.returned (.bool (Lib.validD t.data.toList))∧Below w.heap.size w w'
def RtQ (w w':World)(t:ByteArray)(e:Ending):Prop:=Below w.heap.size w w'∧RtP w' (D2 t) e
def ItQ (w w':World)(r:JR CD)(e:Ending):Prop:=Below w.heap.size w w'∧ItP w w' r e
set_option maxHeartbeats 4000000 in
theorem Aeg {t:ByteArray}(ht:t.size<=9223372036854775807){w:World}(hU:okW w):Calls prog 19 #[.string t] w fun e w'=>Below w.heap.size w w'∧PaP w w' t e:=by
 have mixed:prog.follows Departure.mixedOrders=true:=by kernel_rfl
 have Ee:Below w.heap.size w (w.alloc (.cells #[.int .i64 0,.slice none 0 0,.string ⟨#[]⟩,.bool false,.string ⟨#[]⟩] 36)):=(Below.refl _ w).alloc (Nat.le_refl _) _;have YE:=al1 w (.cells #[.int .i64 0,.slice none 0 0,.string ⟨#[]⟩,.bool false,.string ⟨#[]⟩] 36);have XQ:(w.alloc (.cells #[.int .i64 0,.slice none 0 0,.string ⟨#[]⟩,.bool false,.string ⟨#[]⟩] 36)).heap.size=w.heap.size+1:=Array.size_push _;have AX:RC (w.alloc (.cells #[.int .i64 0,.slice none 0 0,.string ⟨#[]⟩,.bool false,.string ⟨#[]⟩] 36)) w.heap.size:=ZA YE;have hU1:=hU.below Ee
 have hvc:Calls prog 33 #[.string t] (w.alloc (.cells #[.int .i64 0,.slice none 0 0,.string ⟨#[]⟩,.bool false,.string ⟨#[]⟩] 36)) fun e w'=>VsP (w.alloc (.cells #[.int .i64 0,.slice none 0 0,.string ⟨#[]⟩,.bool false,.string ⟨#[]⟩] 36)) w' t e:=(Any.utf8_ValidString laysVS t (w.alloc (.cells #[.int .i64 0,.slice none 0 0,.string ⟨#[]⟩,.bool false,.string ⟨#[]⟩] 36)) ht hU1.1.2.2).mono (fun _ _ h=>h)
 go_enter Tryd.func19,Tryd.ntmps19
 by_cases Dc:1024<t.size
 ·have hI:L1 t=.error 8:=by unfold L1;rw[E7 Dc]
  have hq:(t.size:Int)>1024:=by omega
  go_wp2
  (try simp only[Exit.inBlock,Exit.then])
  obtain⟨⟨r0,r1,r2,r3,r4⟩,_⟩:=AX;exact MR (b:=w.heap.size) rfl rfl (IE r0 r1 r2 r3 r4) ⟨Ee,by unfold PaP;rw[hI];exact⟨by decide,rfl⟩⟩
 have hq:¬(t.size:Int)>1024:=by omega
 go_wp2_with (go_at_call 33;refine hvc.mono ?_)
 rintro e W2 ⟨rfl,Gw⟩
 have Afv:Below w.heap.size w W2:=Ee.trans (Gw.mono Ee.size);have FR:=AX.below Gw (by rw[XQ];omega)
 have Q9:w.heap.size+1<=W2.heap.size:=by have:=Gw.size;rw[XQ] at this;exact this
 have hw2:w.heap.size<W2.heap.size:=by omega
 have hU2:=hU.below Afv;cases hvd:Lib.validD t.data.toList with
 |false=>
  have hI:L1 t=.error 6:=by unfold L1;rw[Dz Dc,hvd,E7 rfl]
  obtain⟨⟨r0,r1,r2,r3,r4⟩,s0,s1,s2,s3,s4⟩:=id FR
  go_wp2
  (try simp only[Exit.inBlock,Exit.then])
  exact MR (b:=w.heap.size) rfl rfl (Ve W2 w.heap.size _ _ _ _ _ FR.some) ⟨Hd Afv (Nat.le_refl _) _ _ _ _ _,by unfold PaP;rw[hI];exact⟨by decide,rfl⟩⟩
 |true=>
  have Xx:L1 t=match PX 8 (D2 t) with | .error e=>.error e | .ok ms=>SC ms:=by unfold L1;rw[Dz Dc,hvd,Dz (by decide)]
  have hrt:Calls prog 34 #[.string t] W2 fun e w'=>RtQ W2 w' t e:=Agf (by omega) hU2.1 hU2.2
  go_wp2_with (go_at_call 34;refine hrt.mono ?_)
  rintro e W3 ⟨Rv,HX⟩
  have Sl:Below w.heap.size w W3:=Afv.trans (Rv.mono Afv.size);have TN:=FR.below Rv hw2;have hw3:w.heap.size<W3.heap.size:=Nat.lt_of_lt_of_le hw2 Rv.size;have hU3:=hU.below Sl;unfold RtP at HX;cases Aj6:PX 8 (D2 t) with
  |error er=>
   rw[Aj6] at HX Xx;obtain⟨he,m,rfl⟩:=HX;have hbe:(er != (0:Int))=true:=by simp[he]
   obtain⟨⟨r0,r1,r2,r3,r4⟩,s0,s1,s2,s3,s4⟩:=id TN
   go_wp2
   (try simp only[Exit.inBlock,Exit.then])
   exact MR (b:=w.heap.size) rfl rfl (Ve W3 w.heap.size _ _ _ _ _ TN.some) ⟨Hd Sl (Nat.le_refl _) _ _ _ _ _,by unfold PaP;rw[Xx];exact⟨he,rfl⟩⟩
  |ok ms=>
   rw[Aj6] at HX Xx;obtain⟨mb,rfl,hM3⟩:=HX;have K1:(D2 t).length<=1000000:=by rw[En];omega
   have hok:=Afu (GW t) K1 Aj6;have hl4:4*(D2 t).length<=1000000:=by rw[En];omega
   have Y1:Calls prog 35 #[.map (some mb)] W3 fun e w'=>ItQ W3 w' (SC ms) e:=Aeh WN UZ (fun m hm=>(hok m hm).1.1) (fun m hm=>⟨(hok m hm).2.1,by have:=(hok m hm).2.2;omega⟩) hU3 hM3
   go_wp2_with (go_at_call 35;refine Y1.mono ?_)
   rintro e W4 ⟨hb4,hp4⟩
   have Wz:Below w.heap.size w W4:=Sl.trans (hb4.mono Sl.size);have JL:=TN.below hb4 hw3;have hw4:w.heap.size<W4.heap.size:=Nat.lt_of_lt_of_le hw3 hb4.size;unfold ItP at hp4;cases OA:SC ms with
   |error er=>
    rw[OA] at hp4 Xx;obtain⟨he,rfl⟩:=hp4;have hbe:(er != (0:Int))=true:=by simp[he]
    obtain⟨⟨r0,r1,r2,r3,r4⟩,s0,s1,s2,s3,s4⟩:=id JL
    go_wp2
    (try simp only[Exit.inBlock,Exit.then])
    exact MR (b:=w.heap.size) rfl rfl (Kv W4 w.heap.size hw4 _ _ _ _ _ _ JL) ⟨F6 Wz (Nat.le_refl _) Wz.size _ _ _ _ _ _,by unfold PaP;rw[Xx];exact⟨he,rfl⟩⟩
   |ok x=>
    obtain⟨k,b,o,x,p⟩:=x;rw[OA] at hp4 Xx;obtain⟨ad,cap,rfl,hc,hwa,hla⟩:=hp4;obtain⟨⟨r0,r1,r2,r3,r4⟩,s0,s1,s2,s3,s4⟩:=id JL
    go_wp2
    (try simp only[Exit.inBlock,Exit.then])
    exact MR (b:=w.heap.size) rfl rfl (Kv W4 w.heap.size hw4 _ _ _ _ _ _ JL) ⟨F6 Wz (Nat.le_refl _) Wz.size _ _ _ _ _ _,by unfold PaP;rw[Xx];exact⟨ad,cap,rfl,hc,by omega,hla.set5al (by omega)⟩⟩
def I9 (args:List PV):Option Ay:=
 match args with
 |[.sc (.string t)]=>bif decide (t.size<=9223372036854775807) then some (match L1 t with
  |.ok (k,b,o,x,p)=>⟨[.agg [.sc (.int .i64 k),.lst false 1 b.length (Dw .u8 b),.sc (.string (Ac o)),.sc (.bool x),.sc (.string (Ac p))],.sc (.int .i64 0)],[]⟩
  |.error e=>⟨[.agg [.sc (.int .i64 0),.lst false 1 0 [],.sc (.string ⟨#[]⟩),.sc (.bool false),.sc (.string ⟨#[]⟩)],.sc (.int .i64 e)],[]⟩) else none
 |_=>none
theorem Zz {w w':World}{Y:Nat->Prop}{bt:Ud}{args vals:List PV}{vs:List Value}(hb:Below w.heap.size w w')(hv:DV w' (Zr bt (fun _=>none) Y) (fun _=>none) w.heap.size 0 vals vs) (ho:Q1 w' (Zr bt (fun _=>none) Y) (fun _=>none) bt (I6 vals) 0 args []):
  Out w w' Y bt args (fun _=>none) ⟨vals,[]⟩ vs where
 os:=hb.os
 tape:=hb.tape
 output:=hb.output
 ext:=⟨hb.size,fun b h _=>hb.block b h,fun b h=>F1.same (hb.block b h)⟩
 rng:=fun b j h _=>⟨by unfold World.cell?;simp only[hb.block b h],by unfold World.frozen?;simp only[hb.block b h]⟩
 vals:=hv
 outs:=ho
 fresh:=fun j b o h=>by cases h
 inj:=fun j j' b o o' h=>by cases h
theorem MK (args:List PV)(res:Ay)(h:I9 args=some res):Cw gU prog 19 args res:=by
 refine⟨⟨_,Tryd.func19,by kernel_rfl⟩,fun w Y bt us hi hok hgl=>?_⟩
 unfold I9 at h;split at h
 rotate_left
 ·cases h
 rename_i t;cases hq:decide (t.size<=9223372036854775807)
 ·rw[hq] at h;cases h
 rw[hq,cond_true] at h;have hs:=of_decide_eq_true hq;have ps:=hi.args
 match us,ps with
 |[u],ps=>
  have hu:u=.string t:=Ar.val (show Ar w _ (.sc (.string t)) u from ps.1.2)
  subst hu;refine (Aeg hs ⟨hok,fun k hk=>(hgl k hk).1⟩).mono ?_
  rintro e w' ⟨hb,hp⟩
  unfold PaP at hp;unfold ItP at hp;cases Wx:L1 t with
  |error er=>
   rw[Wx] at hp h;obtain⟨_,rfl⟩:=hp;cases h;refine⟨[.agg #[.int .i64 0,.slice none 0 0,.string ⟨#[]⟩,.bool false,.string ⟨#[]⟩],.int .i64 er],fun _=>none,rfl,Zz hb ⟨⟨_,rfl,?_⟩,Ar.sc _,trivial⟩ rfl⟩
   exact⟨Ar.sc _,Ar.lnil _ _,Ar.sc _,Ar.sc _,Ar.sc _,trivial⟩
  |ok x=>
   obtain⟨k,b,o,x,p⟩:=x;rw[Wx] at hp h;obtain⟨ad,cap,rfl,hc,hwa,hla⟩:=hp;cases h;refine⟨[.agg #[.int .i64 k,.slice (some ad) b.length cap,.string (Ac o),.bool x,.string (Ac p)],.int .i64 0],fun _=>none,rfl,Zz hb ⟨⟨_,rfl,?_⟩,Ar.sc _,trivial⟩ rfl⟩
   refine⟨Ar.sc _,?_,Ar.sc _,Ar.sc _,Ar.sc _,trivial⟩;refine Ar.lst 1 b.length (Dw .u8 b) ad cap (fun j=>.int .u8 (b.getD j 0)) hla.1 hla.2.1 ?_ hc ?_ ?_ ?_
   ·rintro (⟨j,o,h⟩|⟨i,o,h⟩|h)
    ·cases h
    ·have:=hi.lt ad.block ⟨i,0,o,h⟩;omega
    ·have:=hi.Ylt _ h;omega
   ·intro j c hj;rw[Ml,List.getElem?_map] at hj;obtain⟨y,hy,rfl⟩:=Option.map_eq_some_iff.1 hj;rw[hla.2.2 j y hy];simp[List.getD_eq_getElem?_getD,hy]
   ·intro j c hj;rfl
   ·intro j c hj;rw[Ml,List.getElem?_map] at hj;obtain⟨y,hy,rfl⟩:=Option.map_eq_some_iff.1 hj;have:b.getD j 0=y:=by simp[List.getD_eq_getElem?_getD,hy]
    rw[this];exact Ar.sc _
 |[],ps=>exact ps.elim
 |_::_::_,ps=>exact ps.2.elim
abbrev C1:Fu:=CP (some I9)
theorem extV:DC gU prog C1:=Ah0 (fun g h args res hg=>by cases h;exact MK args res hg)
end
section
open Go.Proofs.Tryd (prog)
open Go.IntKind (wrap)
set_option maxRecDepth 100000
abbrev Ha:FuncId:=22
theorem Mu {p:Option (List PV->Option Ay)} (fu d:Nat)(a0:ByteArray):Ae (CP p) prog fu (d+1) Ha [.sc (.string a0)]=(fun (call:Ax)=>Bi (decide (ByteArray.size a0<=1099511627776))<|Bi (decide (0+ByteArray.size a0*1<=List.length (Es a0)))<|Ah (call 37 [.sc (.int .i64 11),.lst false 1 (ByteArray.size a0) (List.take (ByteArray.size a0*1) (List.drop 0 (Es a0)))]) fun x1 x2=>Ad x2<|Aa x1 fun x3 x4=>Ak .u64 x3 fun x5=>Ad x4<|some (Ay.mk [.sc (.int .u64 x5)] [])) (Ae (CP p) prog fu d):=by kernel_rfl
abbrev Ld:FuncId:=21
theorem Tb {p:Option (List PV->Option Ay)} (fu d:Nat)(a0:ByteArray):Ae (CP p) prog fu (d+1) Ld [.sc (.string a0)]=(fun (call:Ax)=>Bi (decide (ByteArray.size a0<=1099511627776))<|Bi (decide (0+ByteArray.size a0*1<=List.length (Es a0)))<|Ah (call 36 [.sc (.int .i64 11),.lst false 1 (ByteArray.size a0) (List.take (ByteArray.size a0*1) (List.drop 0 (Es a0)))]) fun x1 x2=>Ad x2<|Aa x1 fun x3 x4=>Ak .u64 x3 fun x5=>Ad x4<|some (Ay.mk [.sc (.int .u64 x5)] [])) (Ae (CP p) prog fu d):=by kernel_rfl
abbrev Mi:FuncId:=20
theorem Mv {p:Option (List PV->Option Ay)} (fu d:Nat)(Br:Int)(N6:Nat)(Bl:List PV)(Ho:ByteArray)(Ij:Bool)(Oa:ByteArray)(Aph:Int)(Agq:Nat)(Ais:List PV)(Aqb:ByteArray)(Aqr:Bool)(Apj:ByteArray):Ae (CP p) prog fu (d+1) Mi [.agg [.sc (.int .i64 Br),.lst false 1 N6 Bl,.sc (.string Ho),.sc (.bool Ij),.sc (.string Oa)],.agg [.sc (.int .i64 Aph),.lst false 1 Agq Ais,.sc (.string Aqb),.sc (.bool Aqr),.sc (.string Apj)]]=(fun (call:Ax)=>Bh (Br==Aph) (Bi (decide (Bl.length=N6))<|Dk (Lj Bl) fun x1=>Bi (decide (Ais.length=Agq))<|Dk (Lj Ais) fun x2=>Bh (Array.toList (ByteArray.data (ByteArray.mk (List.toArray x1)))==Array.toList (ByteArray.data (ByteArray.mk (List.toArray x2)))) (Bh (Array.toList (ByteArray.data Ho)==Array.toList (ByteArray.data Aqb)) (Bh (Ij==Aqr) (some (Ay.mk [.sc (.bool (Array.toList (ByteArray.data Oa)==Array.toList (ByteArray.data Apj)))] [])) (some (Ay.mk [.sc (.bool false)] []))) (some (Ay.mk [.sc (.bool false)] []))) (some (Ay.mk [.sc (.bool false)] []))) (some (Ay.mk [.sc (.bool false)] []))) (Ae (CP p) prog fu d):=by kernel_rfl
abbrev Qr:FuncId:=18
theorem Qz {p:Option (List PV->Option Ay)} (fu d:Nat)(Br:Int)(N6:Nat)(Bl:List PV)(Ho:ByteArray)(Ij:Bool)(Oa:ByteArray):Ae (CP p) prog fu (d+1) Qr [.agg [.sc (.int .i64 Br),.lst false 1 N6 Bl,.sc (.string Ho),.sc (.bool Ij),.sc (.string Oa)]]=(fun (call:Ax)=>Bh (Br==1) (Bh (decide ((↑N6:Int)<1)) (some (Ay.mk [.sc (.string (ByteArray.mk #[])),.sc (.int .i64 9)] [])) (Bh (decide ((↑N6:Int)>64)) (some (Ay.mk [.sc (.string (ByteArray.mk #[])),.sc (.int .i64 9)] [])) (Ah (call 32 [.sc (.string Ho)]) fun x1 x2=>Ad x2<|Aa x1 fun x3 x4=>Fo x3 fun x5=>Aa x5 fun x6 x7=>Aq x6 fun x8=>Aa x7 fun x9 Ft=>Az x9 fun Lr=>Aa Ft fun L4 Fc=>Ak .i64 L4 fun Jh=>Ad Fc<|Aa x4 fun M4 K2=>Ak .i64 M4 fun I7=>Ad K2<|Bh (I7 != 0) (some (Ay.mk [.sc (.string (ByteArray.mk #[])),.sc (.int .i64 I7)] [])) (Bh (!Array.toList (ByteArray.data Oa)==Array.toList (ByteArray.data (ByteArray.mk #[]))) (Bh (!Ij) (some (Ay.mk [.sc (.string (ByteArray.mk #[])),.sc (.int .i64 4)] [])) (Ah (call 12 [.lst false 1 N6 Bl]) fun Lq L5=>Ad L5<|Aa Lq fun Mj Mm=>Az Mj fun N2=>Ad Mm<|Bi (decide (38+ByteArray.size N2<=9223372036854775807))<|Ab (ByteArray.mk #[123,34,116,121,112,101,34,58,34]++ByteArray.mk #[112,97,115,115,107,101,121,46,99,114,101,97,116,101]++ByteArray.mk #[34,44,34,99,104,97,108,108,101,110,103,101,34,58,34]++N2) fun K8=>Bi (decide (ByteArray.size K8+12<=9223372036854775807))<|Ab (K8++ByteArray.mk #[34,44,34,111,114,105,103,105,110,34,58,34]) fun M9=>Bi (decide (ByteArray.size M9+ByteArray.size Ho<=9223372036854775807))<|Ab (M9++Ho) fun Lx=>Bh (!Ij) (Bi (decide (ByteArray.size Lx+22<=9223372036854775807))<|Ab (Lx++ByteArray.mk #[34,44,34,99,114,111,115,115,79,114,105,103,105,110,34,58,102,97,108,115,101,125]) fun L3=>some (Ay.mk [.sc (.string L3),.sc (.int .i64 0)] [])) (Ah (call 32 [.sc (.string Oa)]) fun Mc Oc=>Ad Oc<|Aa Mc fun Md N9=>Fo Md fun Ol=>Aa Ol fun Og Np=>Aq Og fun Oj=>Aa Np fun O8 Rd=>Az O8 fun Se=>Aa Rd fun Tu Pr=>Ak .i64 Tu fun BD=>Ad Pr<|Aa N9 fun BA Qn=>Ak .i64 BA fun P4=>Ad Qn<|Bh (P4 != 0) (some (Ay.mk [.sc (.string (ByteArray.mk #[])),.sc (.int .i64 P4)] [])) (Bi (decide (ByteArray.size Lx+34<=9223372036854775807))<|Ab (Lx++ByteArray.mk #[34,44,34,99,114,111,115,115,79,114,105,103,105,110,34,58,116,114,117,101,44,34,116,111,112,79,114,105,103,105,110,34,58,34]) fun X3=>Bi (decide (ByteArray.size X3+ByteArray.size Oa<=9223372036854775807))<|Ab (X3++Oa) fun Xh=>Bi (decide (ByteArray.size Xh+2<=9223372036854775807))<|Ab (Xh++ByteArray.mk #[34,125]) fun BL=>some (Ay.mk [.sc (.string BL),.sc (.int .i64 0)] []))))) (Ah (call 12 [.lst false 1 N6 Bl]) fun AV BS=>Ad BS<|Aa AV fun Yh Xj=>Az Yh fun BC=>Ad Xj<|Bi (decide (38+ByteArray.size BC<=9223372036854775807))<|Ab (ByteArray.mk #[123,34,116,121,112,101,34,58,34]++ByteArray.mk #[112,97,115,115,107,101,121,46,99,114,101,97,116,101]++ByteArray.mk #[34,44,34,99,104,97,108,108,101,110,103,101,34,58,34]++BC) fun AR=>Bi (decide (ByteArray.size AR+12<=9223372036854775807))<|Ab (AR++ByteArray.mk #[34,44,34,111,114,105,103,105,110,34,58,34]) fun CE=>Bi (decide (ByteArray.size CE+ByteArray.size Ho<=9223372036854775807))<|Ab (CE++Ho) fun Yw=>Bh (!Ij) (Bi (decide (ByteArray.size Yw+22<=9223372036854775807))<|Ab (Yw++ByteArray.mk #[34,44,34,99,114,111,115,115,79,114,105,103,105,110,34,58,102,97,108,115,101,125]) fun HB=>some (Ay.mk [.sc (.string HB),.sc (.int .i64 0)] [])) (Ah (call 32 [.sc (.string Oa)]) fun HR EX=>Ad EX<|Aa HR fun EJ HF=>Fo EJ fun GN=>Aa GN fun HL NX=>Aq HL fun SH=>Aa NX fun QB NV=>Az QB fun QY=>Aa NV fun OJ OZ=>Ak .i64 OJ fun ST=>Ad OZ<|Aa HF fun OG OI=>Ak .i64 OG fun KR=>Ad OI<|Bh (KR != 0) (some (Ay.mk [.sc (.string (ByteArray.mk #[])),.sc (.int .i64 KR)] [])) (Bi (decide (ByteArray.size Yw+34<=9223372036854775807))<|Ab (Yw++ByteArray.mk #[34,44,34,99,114,111,115,115,79,114,105,103,105,110,34,58,116,114,117,101,44,34,116,111,112,79,114,105,103,105,110,34,58,34]) fun NY=>Bi (decide (ByteArray.size NY+ByteArray.size Oa<=9223372036854775807))<|Ab (NY++Oa) fun OH=>Bi (decide (ByteArray.size OH+2<=9223372036854775807))<|Ab (OH++ByteArray.mk #[34,125]) fun QW=>some (Ay.mk [.sc (.string QW),.sc (.int .i64 0)] [])))))))) (Bh (Br==2) (Bh (decide ((↑N6:Int)<1)) (some (Ay.mk [.sc (.string (ByteArray.mk #[])),.sc (.int .i64 9)] [])) (Bh (decide ((↑N6:Int)>64)) (some (Ay.mk [.sc (.string (ByteArray.mk #[])),.sc (.int .i64 9)] [])) (Ah (call 32 [.sc (.string Ho)]) fun XA UI=>Ad UI<|Aa XA fun RT XN=>Fo RT fun RK=>Aa RK fun YF ZS=>Aq YF fun x83=>Aa ZS fun XV x85=>Az XV fun x86=>Aa x85 fun ZH YD=>Ak .i64 ZH fun YB=>Ad YD<|Aa XN fun x90 XO=>Ak .i64 x90 fun YC=>Ad XO<|Bh (YC != 0) (some (Ay.mk [.sc (.string (ByteArray.mk #[])),.sc (.int .i64 YC)] [])) (Bh (!Array.toList (ByteArray.data Oa)==Array.toList (ByteArray.data (ByteArray.mk #[]))) (Bh (!Ij) (some (Ay.mk [.sc (.string (ByteArray.mk #[])),.sc (.int .i64 4)] [])) (Ah (call 12 [.lst false 1 N6 Bl]) fun x93 XR=>Ad XR<|Aa x93 fun x95 x96=>Az x95 fun WJ=>Ad x96<|Bi (decide (35+ByteArray.size WJ<=9223372036854775807))<|Ab (ByteArray.mk #[123,34,116,121,112,101,34,58,34]++ByteArray.mk #[112,97,115,115,107,101,121,46,103,101,116]++ByteArray.mk #[34,44,34,99,104,97,108,108,101,110,103,101,34,58,34]++WJ) fun YA=>Bi (decide (ByteArray.size YA+12<=9223372036854775807))<|Ab (YA++ByteArray.mk #[34,44,34,111,114,105,103,105,110,34,58,34]) fun x99=>Bi (decide (ByteArray.size x99+ByteArray.size Ho<=9223372036854775807))<|Ab (x99++Ho) fun Te=>Bh (!Ij) (Bi (decide (ByteArray.size Te+22<=9223372036854775807))<|Ab (Te++ByteArray.mk #[34,44,34,99,114,111,115,115,79,114,105,103,105,110,34,58,102,97,108,115,101,125]) fun Yp=>some (Ay.mk [.sc (.string Yp),.sc (.int .i64 0)] [])) (Ah (call 32 [.sc (.string Oa)]) fun Wi Yf=>Ad Yf<|Aa Wi fun Z3 Qx=>Fo Z3 fun Xd=>Aa Xd fun Wk IA=>Aq Wk fun IY=>Aa IA fun CW GA=>Az CW fun MP=>Aa GA fun HA JD=>Ak .i64 HA fun MW=>Ad JD<|Aa Qx fun IZ FV=>Ak .i64 IZ fun CQ=>Ad FV<|Bh (CQ != 0) (some (Ay.mk [.sc (.string (ByteArray.mk #[])),.sc (.int .i64 CQ)] [])) (Bi (decide (ByteArray.size Te+34<=9223372036854775807))<|Ab (Te++ByteArray.mk #[34,44,34,99,114,111,115,115,79,114,105,103,105,110,34,58,116,114,117,101,44,34,116,111,112,79,114,105,103,105,110,34,58,34]) fun BH=>Bi (decide (ByteArray.size BH+ByteArray.size Oa<=9223372036854775807))<|Ab (BH++Oa) fun BV=>Bi (decide (ByteArray.size BV+2<=9223372036854775807))<|Ab (BV++ByteArray.mk #[34,125]) fun GI=>some (Ay.mk [.sc (.string GI),.sc (.int .i64 0)] []))))) (Ah (call 12 [.lst false 1 N6 Bl]) fun GL IB=>Ad IB<|Aa GL fun GE IJ=>Az GE fun BO=>Ad IJ<|Bi (decide (35+ByteArray.size BO<=9223372036854775807))<|Ab (ByteArray.mk #[123,34,116,121,112,101,34,58,34]++ByteArray.mk #[112,97,115,115,107,101,121,46,103,101,116]++ByteArray.mk #[34,44,34,99,104,97,108,108,101,110,103,101,34,58,34]++BO) fun BW=>Bi (decide (ByteArray.size BW+12<=9223372036854775807))<|Ab (BW++ByteArray.mk #[34,44,34,111,114,105,103,105,110,34,58,34]) fun BQ=>Bi (decide (ByteArray.size BQ+ByteArray.size Ho<=9223372036854775807))<|Ab (BQ++Ho) fun Ws=>Bh (!Ij) (Bi (decide (ByteArray.size Ws+22<=9223372036854775807))<|Ab (Ws++ByteArray.mk #[34,44,34,99,114,111,115,115,79,114,105,103,105,110,34,58,102,97,108,115,101,125]) fun CR=>some (Ay.mk [.sc (.string CR),.sc (.int .i64 0)] [])) (Ah (call 32 [.sc (.string Oa)]) fun HU IV=>Ad IV<|Aa HU fun CK HQ=>Fo CK fun IU=>Aa IU fun HZ GG=>Aq HZ fun LN=>Aa GG fun ID CI=>Az ID fun NL=>Aa CI fun HO AP=>Ak .i64 HO fun BE=>Ad AP<|Aa HQ fun JC BJ=>Ak .i64 JC fun BP=>Ad BJ<|Bh (BP != 0) (some (Ay.mk [.sc (.string (ByteArray.mk #[])),.sc (.int .i64 BP)] [])) (Bi (decide (ByteArray.size Ws+34<=9223372036854775807))<|Ab (Ws++ByteArray.mk #[34,44,34,99,114,111,115,115,79,114,105,103,105,110,34,58,116,114,117,101,44,34,116,111,112,79,114,105,103,105,110,34,58,34]) fun BK=>Bi (decide (ByteArray.size BK+ByteArray.size Oa<=9223372036854775807))<|Ab (BK++Oa) fun ML=>Bi (decide (ByteArray.size ML+2<=9223372036854775807))<|Ab (ML++ByteArray.mk #[34,125]) fun MX=>some (Ay.mk [.sc (.string MX),.sc (.int .i64 0)] [])))))))) (some (Ay.mk [.sc (.string (ByteArray.mk #[])),.sc (.int .i64 3)] [])))) (Ae (CP p) prog fu d):=by kernel_rfl
abbrev Ik:FuncId:=8
theorem Ow {p:Option (List PV->Option Ay)} (fu d:Nat):Ae (CP p) prog fu (d+1) Ik []=(fun (call:Ax)=>Ah (call 18 [.agg [.sc (.int .i64 2),.lst false 1 2 [.sc (.int .u8 251),.sc (.int .u8 255)],.sc (.string (ByteArray.mk #[104,116,116,112,115,58,47,47,97,46,98])),.sc (.bool false),.sc (.string (ByteArray.mk #[]))]]) fun x1 x2=>Ad x2<|Aa x1 fun x3 x4=>Az x3 fun x5=>Aa x4 fun x6 x7=>Ak .i64 x6 fun x8=>Ad x7<|Ah (call 19 [.sc (.string x5)]) fun x9 Ft=>Ad Ft<|Aa x9 fun Lr L4=>Fo Lr fun Fc=>Aa Fc fun Jh M4=>Ak .i64 Jh fun K2=>Aa M4 fun I7 Lq=>R8 1 I7 fun L5 Mj Mm=>Aa Lq fun N2 K8=>Az N2 fun M9=>Aa K8 fun Lx L3=>Aq Lx fun Mc=>Aa L3 fun Oc Md=>Az Oc fun N9=>Ad Md<|Aa L4 fun Ol Og=>Ak .i64 Ol fun Np=>Ad Og<|Bh (x8==0) (Bh (Np==0) (Bh (Array.toList (ByteArray.data x5)==Array.toList (ByteArray.data (ByteArray.mk (List.toArray (List.append [123,34,116,121,112,101,34,58,34,112,97,115,115,107,101,121,46,103,101,116,34,44,34,99,104,97,108,108,101,110,103,101,34,58,34,45,95,56,34,44,34] [111,114,105,103,105,110,34,58,34,104,116,116,112,115,58,47,47,97,46,98,34,44,34,99,114,111,115,115,79,114,105,103,105,110,34,58,102,97,108,115,101,125]))))) (Ah (call 20 [.agg [.sc (.int .i64 2),.lst false 1 2 [.sc (.int .u8 251),.sc (.int .u8 255)],.sc (.string (ByteArray.mk #[104,116,116,112,115,58,47,47,97,46,98])),.sc (.bool false),.sc (.string (ByteArray.mk #[]))],.agg [.sc (.int .i64 K2),.lst false 1 Mj Mm,.sc (.string M9),.sc (.bool Mc),.sc (.string N9)]]) fun Oj O8=>Ad O8<|Aa Oj fun Rd Se=>Aq Rd fun Tu=>Ad Se<|some (Ay.mk [.sc (.bool Tu)] [])) (some (Ay.mk [.sc (.bool false)] []))) (some (Ay.mk [.sc (.bool false)] []))) (some (Ay.mk [.sc (.bool false)] []))) (Ae (CP p) prog fu d):=by kernel_rfl
abbrev Gj:FuncId:=7
theorem K5 {p:Option (List PV->Option Ay)} (fu d:Nat)(a0:ByteArray):Ae (CP p) prog fu (d+1) Gj [.sc (.string a0)]=(fun (call:Ax)=>Bh (decide ((↑(ByteArray.size a0):Int)>2000)) (Ah (call 8 []) fun x1 x2=>Ad x2<|Aa x1 fun x3 x4=>Aq x3 fun x5=>Ad x4<|Bh x5 (some (Ay.mk [.sc (.bool true)] [])) (Ah (call 21 [.sc (.string a0)]) fun x6 x7=>Ad x7<|Aa x6 fun x8 x9=>Ak .u64 x8 fun Ft=>Ad x9<|Ah (call 22 [.sc (.string a0)]) fun Lr L4=>Ad L4<|Aa Lr fun Fc Jh=>Ak .u64 Fc fun M4=>Ad Jh<|Bh (Ft==M4) (Ah (call 8 []) fun K2 I7=>Ad I7<|Aa K2 fun Lq L5=>Aq Lq fun Mj=>Ad L5<|some (Ay.mk [.sc (.bool Mj)] [])) (some (Ay.mk [.sc (.bool false)] [])))) (Ah (call 21 [.sc (.string a0)]) fun Mm N2=>Ad N2<|Aa Mm fun K8 M9=>Ak .u64 K8 fun Lx=>Ad M9<|Ah (call 22 [.sc (.string a0)]) fun L3 Mc=>Ad Mc<|Aa L3 fun Oc Md=>Ak .u64 Oc fun N9=>Ad Md<|Bh (Lx==N9) (Ah (call 8 []) fun Ol Og=>Ad Og<|Aa Ol fun Np Oj=>Aq Np fun O8=>Ad Oj<|some (Ay.mk [.sc (.bool O8)] [])) (some (Ay.mk [.sc (.bool false)] [])))) (Ae (CP p) prog fu d):=by kernel_rfl
end
section
open Go.Proofs.Tryd (prog)
open Go.IntKind (wrap)
set_option maxRecDepth 100000
def awT:List Int:=[123,34,116,121,112,101,34,58,34,112,97,115,115,107,101,121,46,103,101,116,34,44,34,99,104,97,108,108,101,110,103,101,34,58,34,45,95,56,34,44,34,111,114,105,103,105,110,34,58,34,104,116,116,112,115,58,47,47,97,46,98,34,44,34,99,114,111,115,115,79,114,105,103,105,110,34,58,102,97,108,115,101,125]
def awO:List Int:=[104,116,116,112,115,58,47,47,97,46,98]
theorem Ady:F3 awO=0:=by decide +kernel
theorem WG:L1 (Ac awT)=.ok (2,[251,255],awO,false,[]):=by kernel_rfl
section
variable {fu d:Nat}
theorem Agk (Ev:200<=fu):Ae C1 prog fu (d+9) Ik []=some ⟨[.sc (.bool true)],[]⟩:=by
 obtain⟨o1,o2,o3,ho⟩:=Ahu (fu:=fu) (d:=d) (p:=some I9) (l:=awO) (fun x hx=>by simp[awO] at hx;omega) (by decide) Ev
 rw[Ady] at ho;have h32:Ae C1 prog fu (d+7) 32 [.sc (.string (ByteArray.mk #[(104:UInt8),(116:UInt8),(116:UInt8),(112:UInt8),(115:UInt8),(58:UInt8),(47:UInt8),(47:UInt8),(97:UInt8),(46:UInt8),(98:UInt8)]))]=_:=ho;have h12:Ae C1 prog fu (d+7) 12 [.lst false 1 2 [.sc (.int .u8 251),.sc (.int .u8 255)]]=some ⟨[.sc (.string (Ac [45,95,56]))],[]⟩:=by kernel_rfl
 have h18:Ae C1 prog fu (d+8) 18 [.agg [.sc (.int .i64 2),.lst false 1 2 [.sc (.int .u8 251),.sc (.int .u8 255)],.sc (.string (ByteArray.mk #[(104:UInt8),(116:UInt8),(116:UInt8),(112:UInt8),(115:UInt8),(58:UInt8),(47:UInt8),(47:UInt8),(97:UInt8),(46:UInt8),(98:UInt8)])),.sc (.bool false),.sc (.string (ByteArray.mk #[]))]]=some ⟨[.sc (.string (Ac awT)),.sc (.int .i64 0)],[]⟩:=by
  refine (Qz (p:=some I9) fu (d+7) _ _ _ _ _ _).trans ?_;have a1:((2:Int)==1)=false:=rfl;have a2:((2:Int)==2)=true:=rfl;have a3:decide (((2:Nat):Int)<1)=false:=rfl;have a4:decide (((2:Nat):Int)>64)=false:=rfl;have a5:((0:Int) != 0)=false:=rfl;have a6:(!Array.toList (ByteArray.mk #[]).data==Array.toList (ByteArray.mk #[]).data)=false:=rfl;simp only[Ek,a1,a2,a3,a4,a5,a6,h32,h12,D1];show _=some (Ay.mk [.sc (.string (Ac awT)),.sc (.int .i64 0)] [])
  first|kernel_rfl|rfl
 have h19:Ae C1 prog fu (d+8) 19 [.sc (.string (Ac awT))]=some ⟨[.agg [.sc (.int .i64 2),.lst false 1 2 [.sc (.int .u8 251),.sc (.int .u8 255)],.sc (.string (Ac awO)),.sc (.bool false),.sc (.string (Ac []))],.sc (.int .i64 0)],[]⟩:=by
  have e:Ae C1 prog fu (d+8) 19 [.sc (.string (Ac awT))]=I9 [.sc (.string (Ac awT))]:=rfl;rw[e];unfold I9;have hs:decide ((Ac awT).size<=9223372036854775807)=true:=rfl;simp only[hs,cond_true,WG];rfl
 have h20:Ae C1 prog fu (d+8) 20 [.agg [.sc (.int .i64 2),.lst false 1 2 [.sc (.int .u8 251),.sc (.int .u8 255)],.sc (.string (ByteArray.mk #[(104:UInt8),(116:UInt8),(116:UInt8),(112:UInt8),(115:UInt8),(58:UInt8),(47:UInt8),(47:UInt8),(97:UInt8),(46:UInt8),(98:UInt8)])),.sc (.bool false),.sc (.string (ByteArray.mk #[]))],.agg [.sc (.int .i64 2),.lst false 1 2 [.sc (.int .u8 251),.sc (.int .u8 255)],.sc (.string (Ac awO)),.sc (.bool false),.sc (.string (Ac []))]]=some ⟨[.sc (.bool true)],[]⟩:=
  (Mv (p:=some I9) fu (d+7) _ _ _ _ _ _ _ _ _ _ _ _).trans (by kernel_rfl)
 refine (Ow (p:=some I9) fu (d+8)).trans ?_;have b1:((0:Int)==0)=true:=rfl
 have b2:(Array.toList (Ac awT).data==Array.toList (ByteArray.mk (List.toArray (List.append [(123:UInt8),(34:UInt8),(116:UInt8),(121:UInt8),(112:UInt8),(101:UInt8),(34:UInt8),(58:UInt8),(34:UInt8),(112:UInt8),(97:UInt8),(115:UInt8),(115:UInt8),(107:UInt8),(101:UInt8),(121:UInt8),(46:UInt8),(103:UInt8),(101:UInt8),(116:UInt8),(34:UInt8),(44:UInt8),(34:UInt8),(99:UInt8),(104:UInt8),(97:UInt8),(108:UInt8),(108:UInt8),(101:UInt8),(110:UInt8),(103:UInt8),(101:UInt8),(34:UInt8),(58:UInt8),(34:UInt8),(45:UInt8),(95:UInt8),(56:UInt8),(34:UInt8),(44:UInt8),(34:UInt8)] [(111:UInt8),(114:UInt8),(105:UInt8),(103:UInt8),(105:UInt8),(110:UInt8),(34:UInt8),(58:UInt8),(34:UInt8),(104:UInt8),(116:UInt8),(116:UInt8),(112:UInt8),(115:UInt8),(58:UInt8),(47:UInt8),(47:UInt8),(97:UInt8),(46:UInt8),(98:UInt8),(34:UInt8),(44:UInt8),(34:UInt8),(99:UInt8),(114:UInt8),(111:UInt8),(115:UInt8),(115:UInt8),(79:UInt8),(114:UInt8),(105:UInt8),(103:UInt8),(105:UInt8),(110:UInt8),(34:UInt8),(58:UInt8),(102:UInt8),(97:UInt8),(108:UInt8),(115:UInt8),(101:UInt8),(125:UInt8)]))).data)=true:=by kernel_rfl
 have b3:decide (0+2*1<=List.length [PV.sc (.int .u8 251),PV.sc (.int .u8 255)])=true:=rfl;have b4:List.take (2*1) (List.drop 0 [PV.sc (.int .u8 251),PV.sc (.int .u8 255)])=[PV.sc (.int .u8 251),PV.sc (.int .u8 255)]:=rfl;simp only[Ek,h18,h19,b1,b2,b3,b4,h20]
end
end
section
open Go.Proofs.Tryd (prog)
open Go.IntKind (wrap)
set_option maxRecDepth 100000
section
variable {fu d:Nat} {p:Option (List PV->Option Ay)}
theorem Zw (s:ByteArray):List.take (s.size*1) (List.drop 0 (Es s))=Dw .u8 (D2 s):=by
 rw[Wf,List.drop_zero,Zzf (by rw[Kn,En];omega)]
theorem EK (s:ByteArray):decide (0+s.size*1<=(Es s).length)=true:=by
 rw[Wf,Kn,En];simp
theorem Aft {s:ByteArray}(hs:s.size<=2000)(Ev:3000<=fu):Ae (CP p) prog fu (d+6) Ld [.sc (.string s)]=some ⟨[.sc (.int .u64 (V8 11 (D2 s)))],[]⟩:=by
 have h:Ae (CP p) prog fu (d+5) 36 [.sc (.int .i64 11),.lst false 1 s.size (Dw .u8 (D2 s))]=some ⟨[.sc (.int .u64 (V8 11 (D2 s)))],[]⟩:=by
  have:=Adr (xs:=PY p) (fu:=fu) (d:=d) (l:=D2 s) (GW s) (by rw[En];omega) (by omega) (by rw[En];omega) 11
  rwa [En] at this
 have a1:decide (s.size<=1099511627776)=true:=dT (by omega)
 rw[Tb];simp only[Ek,a1,EK,Zw,h]
theorem Acs {s:ByteArray}(hs:s.size<=2000)(Ev:3000<=fu):Ae (CP p) prog fu (d+6) Ha [.sc (.string s)]=some ⟨[.sc (.int .u64 (V8 11 (D2 s)))],[]⟩:=by
 have h:Ae (CP p) prog fu (d+5) 37 [.sc (.int .i64 11),.lst false 1 s.size (Dw .u8 (D2 s))]=some ⟨[.sc (.int .u64 (V8 11 (D2 s)))],[]⟩:=by
  have:=Abd (xs:=PY p) (fu:=fu) (d:=d+1) (l:=D2 s) (GW s) (by rw[En];omega) (by omega) (by rw[En];omega) 11
  rwa [En] at this
 have a1:decide (s.size<=1099511627776)=true:=dT (by omega)
 rw[Mu];simp only[Ek,a1,EK,Zw,h]
end
set_option maxHeartbeats 1000000 in
theorem dataHashes_plain (qs:List PV)(h:Bb (WTv prog) [9] qs):∃fu d,Ae C1 prog fu d Gj qs=some ⟨[.sc (.bool true)],[]⟩:=by
 obtain⟨q0,_,rfl,h0,g⟩:=h.cons_inv;obtain rfl:=g.nil_inv;clear h g;obtain⟨s,rfl,_⟩:=Adh (P:=prog) (by kernel_rfl) (by kernel_rfl) h0
 clear h0;obtain⟨fu,Ev⟩:∃fu,fu=30000:=⟨_,rfl⟩;refine⟨fu,10,?_⟩;refine (K5 (p:=some I9) fu 9 s).trans ?_;have aw:Ae C1 prog fu 9 8 []=_:=Agk (fu:=fu) (d:=0) (by omega)
 by_cases hn:2000<s.size
 ·have a1:=dT (q:=((s.size:Nat):Int)>2000) (by omega)
  simp only[Ek,a1,aw]
 ·have a1:=dF (q:=((s.size:Nat):Int)>2000) (by omega)
  have e1:Ae C1 prog fu 9 21 [.sc (.string s)]=_:=Aft (fu:=fu) (d:=3) (p:=some I9) (by omega) (by omega)
  have e2:Ae C1 prog fu 9 22 [.sc (.string s)]=_:=Acs (fu:=fu) (d:=3) (p:=some I9) (by omega) (by omega)
  have a2:(V8 11 (D2 s)==V8 11 (D2 s))=true:=by simp
  simp only[Ek,a1,e1,e2,a2,aw]
section
variable {fu:Nat}
end
end
end Go.Proofs.YtodnjibebeghjaaDoor.Pv
