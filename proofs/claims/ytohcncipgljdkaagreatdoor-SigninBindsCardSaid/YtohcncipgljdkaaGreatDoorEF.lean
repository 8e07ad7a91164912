/-
  The proof of SigninBinds, part 6.
-/
import Derived.Test.YtohcncipgljdkaaGreatDoorEE
import Derived.Laws.ResultCell
import Derived.Test.YtohcncipgljdkaaGreatDoorRows
import Derived.Lib.ValidLaws
set_option linter.unusedSimpArgs false
set_option linter.unusedVariables false
namespace Go.Proofs.YtohcncipgljdkaaGreatDoor.Pv
open Go.IntKind (wrap)
open Go.Proofs.Tryz (prog)
set_option maxRecDepth 1000000
noncomputable section
section
open Go Go.RowKit Go.Lib
def Vs:Al:=[116,121,112,101]
def CG:Al:=[99,104,97,108,108,101,110,103,101]
def nmO:Al:=[111,114,105,103,105,110]
def Du(nm:Al)(ms:List (Al × JV)):JV:=(Ra nm ms).getD (0,[],false)
theorem UD{w:World}{b:Nat}{ms:List (Al × JV)}(h:VF w b ms)(hB:∀m∈ms,Cz m.1){nm:Al}(hn:Cz nm):(Instr.lookup 179 (.map (some b)) (.string (Ab nm)) false).run prog w=.ok (.agg #[.int .i64 (Du nm ms).1,.string (Ab (Du nm ms).2.1),.bool (Du nm ms).2.2]) w:=by have:=UY h hB hn false;rw[this];unfold Agb Du;cases Ra nm ms<;>rfl
theorem al4(w:World)(o0 x1 x2 x3:Obj):((((w.alloc o0).alloc x1).alloc x2).alloc x3).drew.heap[w.heap.size]?=some o0/\((((w.alloc o0).alloc x1).alloc x2).alloc x3).drew.heap[w.heap.size+1]?=some x1/\((((w.alloc o0).alloc x1).alloc x2).alloc x3).drew.heap[w.heap.size+1+1]?=some x2/\((((w.alloc o0).alloc x1).alloc x2).alloc x3).drew.heap[w.heap.size+1+1+1]?=some x3:=by
 show ((((w.heap.push o0).push x1).push x2).push x3)[w.heap.size]?=some o0/\((((w.heap.push o0).push x1).push x2).push x3)[w.heap.size+1]?=some x1/\((((w.heap.push o0).push x1).push x2).push x3)[w.heap.size+1+1]?=some x2/\((((w.heap.push o0).push x1).push x2).push x3)[w.heap.size+1+1+1]?=some x3;refine⟨?_,?_,?_,?_⟩
 ·rw[Array.getElem?_push_lt (by simp;omega),Array.getElem_push_lt (by simp;omega),Array.getElem_push_lt (by simp),Array.getElem_push_eq]
 ·have:w.heap.size+1=(w.heap.push o0).size:=by simp
  rw[Array.getElem?_push_lt (by simp),Array.getElem_push_lt (by simp)];simp only[this,Array.getElem_push_eq]
 ·have:w.heap.size+1+1=((w.heap.push o0).push x1).size:=by simp
  rw[Array.getElem?_push_lt (by simp)];simp only[this,Array.getElem_push_eq]
 ·have:w.heap.size+1+1+1=(((w.heap.push o0).push x1).push x2).size:=by simp
  rw[this];exact Array.getElem?_push_size
theorem al2(w:World)(x1 x2:Obj):((w.alloc x1).alloc x2).drew.heap[w.heap.size]?=some x1/\((w.alloc x1).alloc x2).drew.heap[w.heap.size+1]?=some x2:=by
 show ((w.heap.push x1).push x2)[w.heap.size]?=some x1/\((w.heap.push x1).push x2)[w.heap.size+1]?=some x2;refine⟨?_,?_⟩
 ·simp[Array.getElem?_push]
 ·have:w.heap.size+1=(w.heap.push x1).size:=by simp
  rw[this];exact Array.getElem?_push_size
def nmX:Al:=[99,114,111,115,115,79,114,105,103,105,110]
def nmP:Al:=[116,111,112,79,114,105,103,105,110]
def Apt(v:JV):Obj:=.cells #[.int .i64 v.1,.string (Ab v.2.1),.bool v.2.2] 221
def cd0:Obj:=.cells #[.int .i64 0,.slice none 0 0,.string ⟨#[]⟩,.bool false,.string ⟨#[]⟩] 86
def tyC:Al:=[112,97,115,115,107,101,121,46,99,114,101,97,116,101]
def tyG:Al:=[112,97,115,115,107,101,121,46,103,101,116]
abbrev CD:=Int × Al × Al × Bool × Al
def KY(k:Int)(C O X P:JV):JR CD:=
 match Sx C.2.1 with
 |none=>.error 2
 |some b=>if b.length<1\/64<b.length then .error 9 else if E0 O.2.1≠0 then .error (E0 O.2.1) else if X.2.2=true/\E0 P.2.1≠0 then .error (E0 P.2.1) else .ok (k,b,O.2.1,X.2.2,P.2.1)
def Lk(T C O X P:JV):JR CD:=
 if T.1≠4\/C.1≠4\/O.1≠4 then .error 4
 else if X.1≠0/\X.1≠2 then .error 4
 else if (X.2.2=true/\P.1≠4)\/(X.2.2=false/\P.1≠0) then .error 4
 else if T.2.1=tyC then KY 1 C O X P else if T.2.1=tyG then KY 2 C O X P else .error 3
def JM(w:World)(a:Addr)(b:Al):Prop:=a.spot=none/\a.block<w.heap.size/\∀j x,b[j]?=some x->w.cell? (a.add j)=some (.int .u8 x)
def ItP(w w':World)(r:JR CD)(e:Ending):Prop:=
 match r with
 |.ok (k,b,o,x,p)=>∃ad cap,e=.returned (.tuple #[.agg #[.int .i64 k,.slice (some ad) b.length cap,.string (Ab o),.bool x,.string (Ab p)],.int .i64 0])/\b.length<=cap/\w.heap.size<=ad.block/\JM w' ad b
 |.error er=>er≠0/\e=.returned (.tuple #[.agg #[.int .i64 0,.slice none 0 0,.string ⟨#[]⟩,.bool false,.string ⟨#[]⟩],.int .i64 er])
def DbP(w w':World)(s:Al)(e:Ending):Prop:=
 match Sx s with
 |none=>∃ad cap,e=.returned (.tuple #[.slice ad 0 cap,.int .i64 2])
 |some b=>∃ad cap,e=.returned (.tuple #[.slice ad b.length cap,.int .i64 0])/\(b≠[]->∃a,ad=some a/\b.length<=cap/\w.heap.size<=a.block/\JM w' a b)
theorem TG{w:World}{b:Nat}{v:JV}(h:w.heap[b]?=some (Apt v)):w.cell? ⟨b,0,none⟩=some (.int .i64 v.1)/\w.cell? ⟨b,1,none⟩=some (.string (Ab v.2.1))/\w.cell? ⟨b,2,none⟩=some (.bool v.2.2):=by refine⟨?_,?_,?_⟩<;>(unfold World.cell?;simp only[h];rfl)
theorem At9{w:World}{b:Nat}(h:w.heap[b]?=some cd0):(w.cell? ⟨b,0,none⟩=some (.int .i64 0)/\w.cell? ⟨b,1,none⟩=some (.slice none 0 0)/\w.cell? ⟨b,2,none⟩=some (.string ⟨#[]⟩)/\w.cell? ⟨b,3,none⟩=some (.bool false)/\w.cell? ⟨b,4,none⟩=some (.string ⟨#[]⟩))/\w.frozen? ⟨b,0,none⟩=false/\w.frozen? ⟨b,1,none⟩=false/\w.frozen? ⟨b,2,none⟩=false/\w.frozen? ⟨b,3,none⟩=false/\w.frozen? ⟨b,4,none⟩=false:=by refine⟨⟨?_,?_,?_,?_,?_⟩,?_,?_,?_,?_,?_⟩<;>first|(unfold World.cell?;simp only[h];rfl)|(unfold World.frozen?;simp only[h];rfl)
theorem Amw(s:ByteArray):s.toList=s.data.toList:=by
 have h:∀(n i:Nat) (r:List UInt8),n=s.size-i->ByteArray.toList.loop s i r=r.reverse++s.data.toList.drop i:=by
  intro n
  induction n with
  |zero=>
   intro i r hn;unfold ByteArray.toList.loop;rw[B3 (by omega),List.drop_eq_nil_of_le (by rw[<-Lib.size_eq];omega),List.append_nil]
  |succ n ih=>
   intro i r hn;have hi:i<s.size:=by omega
   unfold ByteArray.toList.loop;rw[Cr hi,ih (i+1) _ (by omega),List.reverse_cons,Zzv]
   congr 1
   have hl:i<s.data.toList.length:=by rw[<-Lib.size_eq];exact hi
   rw[List.drop_eq_getElem_cons hl]
   have e:s.get! i=s.data.toList[i]:=by
    show (s.data[i]!)=_;rw[getElem!_pos s.data i hi];rfl
   rw[e];rfl
 have:=h _ 0 [] rfl;exact this
theorem VH{a b:Al}(ha:Cz a)(hb:Cz b):((Ab a).toList==b.map fun n=>n.toNat.toUInt8)=decide (a=b):=by
 rw[Amw,Bool.eq_iff_iff,beq_iff_eq,decide_eq_true_iff];constructor
 ·intro h;have e:Ab a=Ab b:=congrArg (fun l:List UInt8=>(⟨l.toArray⟩:ByteArray)) (show (Ab a).data.toList=(Ab b).data.toList from h);exact NR ha hb e
 ·rintro rfl;rfl
def Bnz(w:World)(vT vC vO:JV)(s4 s5 s6:Value)(wx:World):Prop:=
 ∃bT bC bO,s4=.pointer (some ⟨bT,0,none⟩)/\s5=.pointer (some ⟨bC,0,none⟩)/\s6=.pointer (some ⟨bO,0,none⟩)/\w.heap.size<bT/\w.heap.size<bC/\w.heap.size<bO/\wx.heap[w.heap.size]?=some cd0/\wx.heap[bT]?=some (Apt vT)/\wx.heap[bC]?=some (Apt vC)/\wx.heap[bO]?=some (Apt vO)/\Below w.heap.size w wx
def Bje(w wc:World)(vX vP:JV)(s7 s8:Value)(wx:World):Prop:=
 ∃bX bP,s7=.pointer (some ⟨bX,0,none⟩)/\s8=.pointer (some ⟨bP,0,none⟩)/\wc.heap.size<=bX/\wc.heap.size<=bP/\wx.heap[bX]?=some (Apt vX)/\wx.heap[bP]?=some (Apt vP)/\Below wc.heap.size wc wx
theorem Aul{w:World}{b:Nat}{x0 x1 x2 x3 x4:Value}(h:w.heap[b]?=some (.cells #[x0,x1,x2,x3,x4] 86)):(w.cell? ⟨b,0,none⟩=some x0/\w.cell? ⟨b,1,none⟩=some x1/\w.cell? ⟨b,2,none⟩=some x2/\w.cell? ⟨b,3,none⟩=some x3/\w.cell? ⟨b,4,none⟩=some x4)/\w.frozen? ⟨b,0,none⟩=false/\w.frozen? ⟨b,1,none⟩=false/\w.frozen? ⟨b,2,none⟩=false/\w.frozen? ⟨b,3,none⟩=false/\w.frozen? ⟨b,4,none⟩=false:=by refine⟨⟨?_,?_,?_,?_,?_⟩,?_,?_,?_,?_,?_⟩<;>first|(unfold World.cell?;simp only[h];rfl)|(unfold World.frozen?;simp only[h];rfl)
theorem Aba{w:World}{b:Nat}{x0 x1 x2 x3 x4:Value}(h0:w.cell? ⟨b,0,none⟩=some x0)(h1:w.cell? ⟨b,1,none⟩=some x1)(h2:w.cell? ⟨b,2,none⟩=some x2)(h3:w.cell? ⟨b,3,none⟩=some x3)(h4:w.cell? ⟨b,4,none⟩=some x4):(loadVar 86 ⟨b,0,none⟩).run prog w=.ok (.agg #[x0,x1,x2,x3,x4]) w:=by
 have hf:∀j,j<5->w.cell? ((⟨b,0,none⟩:Addr).add j)=some (([x0,x1,x2,x3,x4][j]?).getD undef):=by
  intro j hj;rw[Ep,Ie]
  match j,hj with
  |0,_=>exact h0
  |1,_=>exact h1
  |2,_=>exact h2
  |3,_=>exact h3
  |4,_=>exact h4
 simp only[loadVar,Sem.run_bind,Tryz.isAgg86,Result.andThen_ok,if_true,Tryz.sizeOf86,run_loadCells w _ 5 _ hf];rfl
theorem Gb{w:World}{b i j:Nat}{v:Value}(h:i≠j):(w.setCell ⟨b,j,none⟩ v).cell? ⟨b,i,none⟩=w.cell? ⟨b,i,none⟩:=World.cell?_setCell_other _ _ _ _ (fun e=>h (by injection e with _ e2;exact e2.symm))
theorem MQ(w:World)(b:Nat)(x0 x1 x2 x3 x4:Value)(h:(w.cell? ⟨b,0,none⟩).isSome=true/\(w.cell? ⟨b,1,none⟩).isSome=true/\(w.cell? ⟨b,2,none⟩).isSome=true/\(w.cell? ⟨b,3,none⟩).isSome=true/\(w.cell? ⟨b,4,none⟩).isSome=true):(loadVar 86 ⟨b,0,none⟩).run prog (((((w.setCell ⟨b,0,none⟩ x0).setCell ⟨b,1,none⟩ x1).setCell ⟨b,2,none⟩ x2).setCell ⟨b,3,none⟩ x3).setCell ⟨b,4,none⟩ x4)=.ok (.agg #[x0,x1,x2,x3,x4]) (((((w.setCell ⟨b,0,none⟩ x0).setCell ⟨b,1,none⟩ x1).setCell ⟨b,2,none⟩ x2).setCell ⟨b,3,none⟩ x3).setCell ⟨b,4,none⟩ x4):=by
 obtain⟨g0,g1,g2,g3,g4⟩:=h;obtain⟨y0,g0⟩:=Option.isSome_iff_exists.1 g0;obtain⟨y1,g1⟩:=Option.isSome_iff_exists.1 g1;obtain⟨y2,g2⟩:=Option.isSome_iff_exists.1 g2;obtain⟨y3,g3⟩:=Option.isSome_iff_exists.1 g3;obtain⟨y4,g4⟩:=Option.isSome_iff_exists.1 g4;apply Aba
 ·rw[Gb (by decide),Gb (by decide),Gb (by decide),Gb (by decide)];exact World.cell?_setCell_same _ _ _ g0
 ·rw[Gb (by decide),Gb (by decide),Gb (by decide)];exact World.cell?_setCell_same _ _ _ ((Gb (by decide)).trans g1)
 ·rw[Gb (by decide),Gb (by decide)];exact World.cell?_setCell_same _ _ _ ((Gb (by decide)).trans ((Gb (by decide)).trans g2))
 ·rw[Gb (by decide)];exact World.cell?_setCell_same _ _ _ ((Gb (by decide)).trans ((Gb (by decide)).trans ((Gb (by decide)).trans g3)))
 ·exact World.cell?_setCell_same _ _ _ ((Gb (by decide)).trans ((Gb (by decide)).trans ((Gb (by decide)).trans ((Gb (by decide)).trans g4))))
theorem Ml{B:Nat}{a w:World}(h:Below B a w){b:Nat}(hb:B<=b)(x0 x1 x2 x3 x4:Value):Below B a (((((w.setCell ⟨b,0,none⟩ x0).setCell ⟨b,1,none⟩ x1).setCell ⟨b,2,none⟩ x2).setCell ⟨b,3,none⟩ x3).setCell ⟨b,4,none⟩ x4):=
 ((((h.setCell (p:=⟨b,0,none⟩) hb x0).setCell (p:=⟨b,1,none⟩) hb x1).setCell (p:=⟨b,2,none⟩) hb x2).setCell (p:=⟨b,3,none⟩) hb x3).setCell (p:=⟨b,4,none⟩) hb x4
theorem Lt{R:Ending->World->Prop}{a:Act}{W:World}{v:Value}{b:Nat}(h2:a.tmps.getD 2 undef=.pointer (some ⟨b,0,none⟩))(hd:a.defers=[])(hl:(loadVar 86 ⟨b,0,none⟩).run prog W=.ok v W)(hR:R (.returned (.tuple #[v,a.tmps.getD 3 undef])) W):bodyPost prog Tryz.f126 R .ret a W:=by refine bodyPost_ret ?_ hd hR;rw[results_cell_tmp rfl,h2];have e:(asAddr (.pointer (some ⟨b,0,none⟩))).run prog W=.ok ⟨b,0,none⟩ W:=rfl;rw[e,Result.andThen_ok,hl,Result.andThen_ok]
theorem JM.below{w w':World}{a:Addr}{b:Al}{B:Nat}(h:JM w a b)(k:Below B w w')(ha:a.block<B):JM w' a b:=
 ⟨h.1,Ft h.2.1 k.size,fun j x hx=>(k.cell (p:=a.add j) (by rw[Fv];exact ha)).trans (h.2.2 j x hx)⟩
theorem JM.set{w:World}{a:Addr}{b:Al}{b0 j:Nat}{v:Value}(h:JM w a b)(Gh:a.block≠b0):JM (w.setCell ⟨b0,j,none⟩ v) a b:=
 ⟨h.1,by rw[World.size_setCell];exact h.2.1,fun i x hx=>(World.cell?_setCell_other _ _ _ _ (fun e=>Gh (by rw[<-Fv a i,<-e]))).trans (h.2.2 i x hx)⟩
theorem JM.set5{w:World}{a:Addr}{b:Al}{b0:Nat}{x0 x1 x2 x3 x4:Value}(h:JM w a b)(Gh:a.block≠b0):JM (((((w.setCell ⟨b0,0,none⟩ x0).setCell ⟨b0,1,none⟩ x1).setCell ⟨b0,2,none⟩ x2).setCell ⟨b0,3,none⟩ x3).setCell ⟨b0,4,none⟩ x4) a b:=
 ((((h.set Gh).set Gh).set Gh).set Gh).set Gh
def RC(w:World)(b:Nat):Prop:=(w.cell? ⟨b,0,none⟩=some (.int .i64 0)/\w.cell? ⟨b,1,none⟩=some (.slice none 0 0)/\w.cell? ⟨b,2,none⟩=some (.string ⟨#[]⟩)/\w.cell? ⟨b,3,none⟩=some (.bool false)/\w.cell? ⟨b,4,none⟩=some (.string ⟨#[]⟩))/\w.frozen? ⟨b,0,none⟩=false/\w.frozen? ⟨b,1,none⟩=false/\w.frozen? ⟨b,2,none⟩=false/\w.frozen? ⟨b,3,none⟩=false/\w.frozen? ⟨b,4,none⟩=false
theorem RC.below{w w':World}{b B:Nat}(h:RC w b)(k:Below B w w')(hb:b<B):RC w' b:=by have e:∀j,w'.cell? ⟨b,j,none⟩=w.cell? ⟨b,j,none⟩:=fun j=>k.cell (p:=⟨b,j,none⟩) hb;have f:∀j,w'.frozen? ⟨b,j,none⟩=w.frozen? ⟨b,j,none⟩:=fun j=>k.frozen (p:=⟨b,j,none⟩) hb;unfold RC;rw[e,e,e,e,e,f,f,f,f,f];exact h
theorem RC.some{w:World}{b:Nat}(h:RC w b):(w.cell? ⟨b,0,none⟩).isSome=true/\(w.cell? ⟨b,1,none⟩).isSome=true/\(w.cell? ⟨b,2,none⟩).isSome=true/\(w.cell? ⟨b,3,none⟩).isSome=true/\(w.cell? ⟨b,4,none⟩).isSome=true:=by obtain⟨⟨h0,h1,h2,h3,h4⟩,_⟩:=h;rw[h0,h1,h2,h3,h4];exact⟨rfl,rfl,rfl,rfl,rfl⟩
theorem Axg{w:World}{b:Nat}{v:Value}{x:Obj}(hb:b<w.heap.size)(h:∃x0 x1 x2 x3 x4,v=.agg #[x0,x1,x2,x3,x4]/\w.cell? ⟨b,0,none⟩=some x0/\w.cell? ⟨b,1,none⟩=some x1/\w.cell? ⟨b,2,none⟩=some x2/\w.cell? ⟨b,3,none⟩=some x3/\w.cell? ⟨b,4,none⟩=some x4):(loadVar 86 ⟨b,0,none⟩).run prog (w.alloc x)=.ok v (w.alloc x):=by obtain⟨x0,x1,x2,x3,x4,rfl,h0,h1,h2,h3,h4⟩:=h;have k:Below w.heap.size w (w.alloc x):=(Below.refl _ w).alloc (Ci _) _;exact Aba ((k.cell (p:=⟨b,0,none⟩) hb).trans h0) ((k.cell (p:=⟨b,1,none⟩) hb).trans h1) ((k.cell (p:=⟨b,2,none⟩) hb).trans h2) ((k.cell (p:=⟨b,3,none⟩) hb).trans h3) ((k.cell (p:=⟨b,4,none⟩) hb).trans h4)
theorem Sj(w:World)(b:Nat)(hb:b<w.heap.size)(x0 x1 x2 x3 x4:Value)(x:Obj)(h:RC w b):(loadVar 86 ⟨b,0,none⟩).run prog ((((((w.setCell ⟨b,0,none⟩ x0).setCell ⟨b,1,none⟩ x1).setCell ⟨b,2,none⟩ x2).setCell ⟨b,3,none⟩ x3).setCell ⟨b,4,none⟩ x4).alloc x)=.ok (.agg #[x0,x1,x2,x3,x4]) ((((((w.setCell ⟨b,0,none⟩ x0).setCell ⟨b,1,none⟩ x1).setCell ⟨b,2,none⟩ x2).setCell ⟨b,3,none⟩ x3).setCell ⟨b,4,none⟩ x4).alloc x):=by
 refine Axg (by simp only[World.size_setCell];exact hb) ⟨x0,x1,x2,x3,x4,rfl,?_⟩
 obtain⟨⟨g0,g1,g2,g3,g4⟩,_⟩:=h;refine⟨?_,?_,?_,?_,?_⟩
 ·rw[Gb (by decide),Gb (by decide),Gb (by decide),Gb (by decide)];exact World.cell?_setCell_same _ _ _ g0
 ·rw[Gb (by decide),Gb (by decide),Gb (by decide)];exact World.cell?_setCell_same _ _ _ ((Gb (by decide)).trans g1)
 ·rw[Gb (by decide),Gb (by decide)];exact World.cell?_setCell_same _ _ _ ((Gb (by decide)).trans ((Gb (by decide)).trans g2))
 ·rw[Gb (by decide)];exact World.cell?_setCell_same _ _ _ ((Gb (by decide)).trans ((Gb (by decide)).trans ((Gb (by decide)).trans g3)))
 ·exact World.cell?_setCell_same _ _ _ ((Gb (by decide)).trans ((Gb (by decide)).trans ((Gb (by decide)).trans ((Gb (by decide)).trans g4))))
theorem Je{B:Nat}{a w:World}(h:Below B a w){b:Nat}(hb:B<=b)(hB:B<=w.heap.size)(x0 x1 x2 x3 x4:Value)(x:Obj):Below B a ((((((w.setCell ⟨b,0,none⟩ x0).setCell ⟨b,1,none⟩ x1).setCell ⟨b,2,none⟩ x2).setCell ⟨b,3,none⟩ x3).setCell ⟨b,4,none⟩ x4).alloc x):=
 have k:=Ml h hb x0 x1 x2 x3 x4
 k.alloc (by simp only[World.size_setCell];exact hB) _
theorem JM.set5al{w:World}{a:Addr}{b:Al}{b0:Nat}{x0 x1 x2 x3 x4:Value}{x:Obj}(h:JM w a b)(Gh:a.block≠b0):JM ((((((w.setCell ⟨b0,0,none⟩ x0).setCell ⟨b0,1,none⟩ x1).setCell ⟨b0,2,none⟩ x2).setCell ⟨b0,3,none⟩ x3).setCell ⟨b0,4,none⟩ x4).alloc x) a b:=
 have q:=h.set5 (x0:=x0) (x1:=x1) (x2:=x2) (x3:=x3) (x4:=x4) Gh
 q.below ((Below.refl _ _).alloc (Ci _) _) q.2.1
theorem al1(w:World)(x:Obj):(w.alloc x).heap[w.heap.size]?=some x:=Array.getElem?_push_size
def okW(w:World):Prop:=gU.ok w/\∀k,gU.bl k->k<w.heap.size
theorem okW.below{w w':World}(h:okW w)(k:Below w.heap.size w w'):okW w':=⟨gU.stable w w' (fun j hj hl=>k.block j hl) h.1,fun j hj=>Ft (h.2 j hj) k.size⟩
set_option maxHeartbeats 8000000 in
theorem Az0(A7n:∀(W:World)(s:Al),okW W->Cz s->s.length<=1000000->Calls prog 156 #[.string (Ab s)] W fun e w'=>Below W.heap.size W w'/\DbP W w' s e)(Aw9:∀(W:World)(s:Al),okW W->Cz s->s.length<=1000000->Calls prog 157 #[.string (Ab s)] W fun e w'=>Below W.heap.size W w'/\∃o1 o2 o3,e=.returned (.tuple #[.agg #[.bool o1,.string o2,.int .i64 o3],.int .i64 (E0 s)])){ms:List (Al × JV)}(hB:∀m∈ms,Cz m.1)(hB2:∀m∈ms,Cz m.2.2.1/\m.2.2.1.length<=1000000){mb:Nat}{w:World}(hU:okW w)(hM:VF w mb ms):
  Calls prog 126 #[.map (some mb)] w fun e w'=>Below w.heap.size w w'/\ItP w w' (Lk (Du Vs ms) (Du CG ms) (Du nmO ms) (Du nmX ms) (Du nmP ms)) e:=by
 have hgB:∀nm,Cz (Du nm ms).2.1/\(Du nm ms).2.1.length<=1000000:=by
  intro nm;unfold Du Ra;cases hq:ms.find? fun m=>m.1==nm with
  |none=>exact⟨(fun x hx=>nomatch hx),Nat.zero_le _⟩
  |some m=>exact hB2 m (List.mem_of_find?_eq_some hq)
 obtain⟨hTB,hTL⟩:=hgB Vs;obtain⟨hCB,hCL⟩:=hgB CG;obtain⟨hOB,hOL⟩:=hgB nmO;obtain⟨hXB,hXL⟩:=hgB nmX;obtain⟨hPB,hPL⟩:=hgB nmP;clear hgB;have mixed:prog.follows Departure.mixedOrders=true:=by kernel_rfl
 have key:∀{W:World},VF W mb ms->(Instr.lookup 179 (.map (some mb)) (.string ⟨#[116,121,112,101]⟩) false).run prog W=.ok (.agg #[.int .i64 (Du Vs ms).1,.string (Ab (Du Vs ms).2.1),.bool (Du Vs ms).2.2]) W/\(Instr.lookup 179 (.map (some mb)) (.string ⟨#[99,104,97,108,108,101,110,103,101]⟩) false).run prog W=.ok (.agg #[.int .i64 (Du CG ms).1,.string (Ab (Du CG ms).2.1),.bool (Du CG ms).2.2]) W/\(Instr.lookup 179 (.map (some mb)) (.string ⟨#[111,114,105,103,105,110]⟩) false).run prog W=.ok (.agg #[.int .i64 (Du nmO ms).1,.string (Ab (Du nmO ms).2.1),.bool (Du nmO ms).2.2]) W:=
  fun h=>⟨UD h hB (nm:=Vs) (fun x hx=>by simp[Vs] at hx;omega),UD h hB (nm:=CG) (fun x hx=>by simp[CG] at hx;omega),UD h hB (nm:=nmO) (fun x hx=>by simp[nmO] at hx;omega)⟩
 have key2:∀{W:World},VF W mb ms->(Instr.lookup 179 (.map (some mb)) (.string ⟨#[99,114,111,115,115,79,114,105,103,105,110]⟩) false).run prog W=.ok (.agg #[.int .i64 (Du nmX ms).1,.string (Ab (Du nmX ms).2.1),.bool (Du nmX ms).2.2]) W/\(Instr.lookup 179 (.map (some mb)) (.string ⟨#[116,111,112,79,114,105,103,105,110]⟩) false).run prog W=.ok (.agg #[.int .i64 (Du nmP ms).1,.string (Ab (Du nmP ms).2.1),.bool (Du nmP ms).2.2]) W:=
  fun h=>⟨UD h hB (nm:=nmX) (fun x hx=>by simp[nmX] at hx;omega),UD h hB (nm:=nmP) (fun x hx=>by simp[nmP] at hx;omega)⟩
 have b0:Below w.heap.size w (w.alloc (.cells #[.int .i64 0,.slice none 0 0,.string ⟨#[]⟩,.bool false,.string ⟨#[]⟩] 86)):=(Below.refl _ w).alloc (Ci _) _;have b1:=b0.alloc b0.size (.cells #[.int .i64 0,.string ⟨#[]⟩,.bool false] 221);have b2:=b1.alloc b1.size (.cells #[.int .i64 0,.string ⟨#[]⟩,.bool false] 221);have b3:=b2.alloc b2.size (.cells #[.int .i64 0,.string ⟨#[]⟩,.bool false] 221);obtain⟨k0,k1,k2⟩:=key (hM.below b0.drew);obtain⟨l0,l1,l2⟩:=key (hM.below b1.drew);obtain⟨m0,m1,m2⟩:=key (hM.below b2.drew);obtain⟨n0,n1,n2⟩:=key (hM.below b3.drew)
 have bb:∀x1 x2 x3,Below w.heap.size w ((((w.alloc (.cells #[.int .i64 0,.slice none 0 0,.string ⟨#[]⟩,.bool false,.string ⟨#[]⟩] 86)).alloc x1).alloc x2).alloc x3).drew:=fun x1 x2 x3=>by
  have c1:=b0.alloc b0.size x1;have c2:=c1.alloc c1.size x2;exact (c2.alloc c2.size x3).drew
 obtain⟨_,p1,q1⟩:=key (hM.below (bb (.cells #[.int .i64 (Du Vs ms).1,.string (Ab (Du Vs ms).2.1),.bool (Du Vs ms).2.2] 221) (.cells #[.int .i64 0,.string ⟨#[]⟩,.bool false] 221) (.cells #[.int .i64 0,.string ⟨#[]⟩,.bool false] 221)));obtain⟨_,p2,q2⟩:=key (hM.below (bb (.cells #[.int .i64 0,.string ⟨#[]⟩,.bool false] 221) (.cells #[.int .i64 (Du Vs ms).1,.string (Ab (Du Vs ms).2.1),.bool (Du Vs ms).2.2] 221) (.cells #[.int .i64 0,.string ⟨#[]⟩,.bool false] 221)));obtain⟨_,p3,q3⟩:=key (hM.below (bb (.cells #[.int .i64 0,.string ⟨#[]⟩,.bool false] 221) (.cells #[.int .i64 0,.string ⟨#[]⟩,.bool false] 221) (.cells #[.int .i64 (Du Vs ms).1,.string (Ab (Du Vs ms).2.1),.bool (Du Vs ms).2.2] 221)))
 obtain⟨_,_,q4⟩:=key (hM.below (bb (.cells #[.int .i64 (Du Vs ms).1,.string (Ab (Du Vs ms).2.1),.bool (Du Vs ms).2.2] 221) (.cells #[.int .i64 (Du CG ms).1,.string (Ab (Du CG ms).2.1),.bool (Du CG ms).2.2] 221) (.cells #[.int .i64 0,.string ⟨#[]⟩,.bool false] 221)));obtain⟨_,_,q5⟩:=key (hM.below (bb (.cells #[.int .i64 (Du Vs ms).1,.string (Ab (Du Vs ms).2.1),.bool (Du Vs ms).2.2] 221) (.cells #[.int .i64 0,.string ⟨#[]⟩,.bool false] 221) (.cells #[.int .i64 (Du CG ms).1,.string (Ab (Du CG ms).2.1),.bool (Du CG ms).2.2] 221)));obtain⟨_,_,q6⟩:=key (hM.below (bb (.cells #[.int .i64 (Du CG ms).1,.string (Ab (Du CG ms).2.1),.bool (Du CG ms).2.2] 221) (.cells #[.int .i64 (Du Vs ms).1,.string (Ab (Du Vs ms).2.1),.bool (Du Vs ms).2.2] 221) (.cells #[.int .i64 0,.string ⟨#[]⟩,.bool false] 221)))
 obtain⟨_,_,q7⟩:=key (hM.below (bb (.cells #[.int .i64 (Du CG ms).1,.string (Ab (Du CG ms).2.1),.bool (Du CG ms).2.2] 221) (.cells #[.int .i64 0,.string ⟨#[]⟩,.bool false] 221) (.cells #[.int .i64 (Du Vs ms).1,.string (Ab (Du Vs ms).2.1),.bool (Du Vs ms).2.2] 221)));obtain⟨_,_,q8⟩:=key (hM.below (bb (.cells #[.int .i64 0,.string ⟨#[]⟩,.bool false] 221) (.cells #[.int .i64 (Du Vs ms).1,.string (Ab (Du Vs ms).2.1),.bool (Du Vs ms).2.2] 221) (.cells #[.int .i64 (Du CG ms).1,.string (Ab (Du CG ms).2.1),.bool (Du CG ms).2.2] 221)));obtain⟨_,_,q9⟩:=key (hM.below (bb (.cells #[.int .i64 0,.string ⟨#[]⟩,.bool false] 221) (.cells #[.int .i64 (Du CG ms).1,.string (Ab (Du CG ms).2.1),.bool (Du CG ms).2.2] 221) (.cells #[.int .i64 (Du Vs ms).1,.string (Ab (Du Vs ms).2.1),.bool (Du Vs ms).2.2] 221)))
 have hbb:∀x1 x2 x3,Below w.heap.size w ((((w.alloc cd0).alloc x1).alloc x2).alloc x3).drew:=bb;clear key bb;generalize Du Vs ms=vT at *
 generalize Du CG ms=vC at *
 generalize Du nmO ms=vO at *
 generalize Du nmX ms=vX at *
 generalize Du nmP ms=vP at *
 go_enter Tryz.func126,Tryz.ntmps126
 go_upto_region 1 with fail
 go_cut [4,5,6] (fun s4 s5 s6 wx=>Bnz w vT vC vO s4 s5 s6 wx)
 case first=>
  go_region_o
  all_goals (go_wp2_with fail;go_meet;(refine⟨_,_,_,rfl,rfl,rfl,by omega,by omega,by omega,?_,?_,?_,?_,hbb _ _ _⟩<;>first|exact (al4 _ _ _ _ _).1|exact (al4 _ _ _ _ _).2.1|exact (al4 _ _ _ _ _).2.2.1|exact (al4 _ _ _ _ _).2.2.2))
 case rest=>
  rename World=>w2
  obtain⟨bT,bC,bO,rfl,rfl,rfl,hbT,hbC,hbO,hc,hT,hC,hO,hbw⟩:=hcut;clear k0 k1 k2 l0 l1 l2 m0 m1 m2 n0 n1 n2 p1 p2 p3 q1 q2 q3 q4 q5 q6 q7 q8 q9;have hMc:=hM.below hbw;have d1:Below w2.heap.size w2 (w2.alloc (.cells #[.int .i64 0,.string ⟨#[]⟩,.bool false] 221)):=(Below.refl _ w2).alloc (Ci _) _;have d2:=d1.alloc d1.size (.cells #[.int .i64 0,.string ⟨#[]⟩,.bool false] 221)
  have dd:∀x1 x2,Below w2.heap.size w2 ((w2.alloc x1).alloc x2).drew:=fun x1 x2=>by
   have c1:Below w2.heap.size w2 (w2.alloc x1):=(Below.refl _ w2).alloc (Ci _) _;exact (c1.alloc c1.size x2).drew
  obtain⟨k0,k1⟩:=key2 (hMc.below (Below.refl w2.heap.size w2).drew);obtain⟨l0,l1⟩:=key2 (hMc.below d1.drew);obtain⟨m0,m1⟩:=key2 (hMc.below d2.drew);obtain⟨_,p1⟩:=key2 (hMc.below (dd (.cells #[.int .i64 vX.1,.string (Ab vX.2.1),.bool vX.2.2] 221) (.cells #[.int .i64 0,.string ⟨#[]⟩,.bool false] 221)));obtain⟨_,p2⟩:=key2 (hMc.below (dd (.cells #[.int .i64 0,.string ⟨#[]⟩,.bool false] 221) (.cells #[.int .i64 vX.1,.string (Ab vX.2.1),.bool vX.2.2] 221)));clear key2
  go_upto_region 2 with fail
  go_cut [7,8] (fun s7 s8 wx=>Bje w w2 vX vP s7 s8 wx)
  case first=>
   go_region_o
   all_goals (go_wp2_with fail;go_meet;(refine⟨_,_,rfl,rfl,by omega,by omega,?_,?_,dd _ _⟩<;>first|exact (al2 _ _ _).1|exact (al2 _ _ _).2))
  case rest=>
   clear k0 k1 l0 l1 m0 m1 p1 p2;obtain⟨bX,bP,rfl,rfl,hbX,hbP,hX,hP,Aee⟩:=hcut
   rename World=>wd
   have hwc:w.heap.size<w2.heap.size:=by
    rcases Ig w.heap.size w2.heap.size with q|q
    ·exact q
    ·rw[Array.getElem?_eq_none q] at hc;cases hc
   have Ck:∀{b:Nat} {o:Obj},w2.heap[b]?=some o->b<w2.heap.size:=fun {b o} h=>by
    rcases Ig b w2.heap.size with q|q
    ·exact q
    ·rw[Array.getElem?_eq_none q] at h;cases h
   obtain⟨⟨c0,c1,c2,c3,c4⟩,f0,f1,f2,f3,f4⟩:=At9 ((Aee.block _ (Ck hc)).trans hc);have hrc:RC wd w.heap.size:=⟨⟨c0,c1,c2,c3,c4⟩,f0,f1,f2,f3,f4⟩
   have hsm:=hrc.some;obtain⟨T0,T1,T2⟩:=TG ((Aee.block _ (Ck hT)).trans hT);obtain⟨C0,C1,C2⟩:=TG ((Aee.block _ (Ck hC)).trans hC);obtain⟨O0,O1,O2⟩:=TG ((Aee.block _ (Ck hO)).trans hO);obtain⟨X0,X1,X2⟩:=TG hX;obtain⟨P0,P1,P2⟩:=TG hP;have hbd:Below w.heap.size w wd:=hbw.trans ((Aee).mono hbw.size);by_cases hT4:vT.1=4
   rotate_left
   ·have hq:(vT.1 != 4)=true:=by simp[hT4]
    have hI:Lk vT vC vO vX vP=.error 4:=by unfold Lk;rw[Cr (.inl hT4)]
    go_wp2
    (try simp only[Exit.inBlock,Exit.then])
    exact Lt (b:=w.heap.size) rfl rfl (MQ wd w.heap.size _ _ _ _ _ hsm) ⟨Ml hbd (Ci _) _ _ _ _ _,by rw[hI];exact⟨by decide,rfl⟩⟩
   by_cases hC4:vC.1=4
   rotate_left
   ·have hq:(vC.1 != 4)=true:=by simp[hC4]
    have hI:Lk vT vC vO vX vP=.error 4:=by unfold Lk;rw[Cr (.inr (.inl hC4))]
    go_wp2
    (try simp only[Exit.inBlock,Exit.then])
    exact Lt (b:=w.heap.size) rfl rfl (MQ wd w.heap.size _ _ _ _ _ hsm) ⟨Ml hbd (Ci _) _ _ _ _ _,by rw[hI];exact⟨by decide,rfl⟩⟩
   by_cases hO4:vO.1=4
   rotate_left
   ·have hq:(vO.1 != 4)=true:=by simp[hO4]
    have hI:Lk vT vC vO vX vP=.error 4:=by unfold Lk;rw[Cr (.inr (.inr hO4))]
    go_wp2
    (try simp only[Exit.inBlock,Exit.then])
    exact Lt (b:=w.heap.size) rfl rfl (MQ wd w.heap.size _ _ _ _ _ hsm) ⟨Ml hbd (Ci _) _ _ _ _ _,by rw[hI];exact⟨by decide,rfl⟩⟩
   have Z3:Lk vT vC vO vX vP=if vX.1≠0/\vX.1≠2 then .error 4
    else if (vX.2.2=true/\vP.1≠4)\/(vX.2.2=false/\vP.1≠0) then .error 4
    else if vT.2.1=tyC then KY 1 vC vO vX vP else if vT.2.1=tyG then KY 2 vC vO vX vP else .error 3:=by
    unfold Lk;rw[B3 (by rintro (h|h|h)<;>first|exact h hT4|exact h hC4|exact h hO4)]
   go_upto_region 5 with fail
   go_cut [47] (fun s47 wx=>∃q:Bool,s47=.bool q/\(q=true↔(vX.1≠0/\vX.1≠2))/\wx=wd)
   case first=>
    by_cases h0:vX.1=0
    ·have h1:(vX.1 != 0)=false:=by simp[h0]
     go_wp2_with fail
     go_meet
     exact⟨false,rfl,by simp[h0],rfl⟩
    ·have h1:(vX.1 != 0)=true:=by simp[h0]
     by_cases h2:vX.1=2
     ·have h3:(vX.1 != 2)=false:=by simp[h2]
      go_wp2_with fail
      go_meet
      exact⟨false,rfl,by simp[h2],rfl⟩
     ·have h3:(vX.1 != 2)=true:=by simp[h2]
      go_wp2_with fail
      go_meet
      exact⟨true,rfl,by simp[h0,h2],rfl⟩
   case rest=>
    obtain⟨q5,rfl,hq5,hwe⟩:=hcut;subst hwe;cases q5 with
    |true=>
     have hx1:=hq5.1 rfl;have hI:Lk vT vC vO vX vP=.error 4:=by rw[Z3,Cr hx1]
     go_wp2
     (try simp only[Exit.inBlock,Exit.then])
     exact Lt (b:=w.heap.size) rfl rfl (MQ wc w.heap.size _ _ _ _ _ hsm) ⟨Ml hbd (Ci _) _ _ _ _ _,by rw[hI];exact⟨by decide,rfl⟩⟩
    |false=>
     have hx1:¬(vX.1≠0/\vX.1≠2):=fun h=>Bool.noConfusion (hq5.2 h);rw[B3 hx1] at Z3
     go_upto_region 7 with fail
     go_cut [65] (fun s65 wx=>∃q:Bool,s65=.bool q/\(q=true↔((vX.2.2=true/\vP.1≠4)\/(vX.2.2=false/\vP.1≠0)))/\wx=wc)
     case first=>
      cases YI:vX.2.2 with
      |true=>
       rw[YI] at X2;by_cases h4:vP.1=4
       ·have h1:(vP.1 != 4)=false:=by simp[h4]
        go_wp2_with fail
        go_meet
        exact⟨false,rfl,by simp[h4,YI],rfl⟩
       ·have h1:(vP.1 != 4)=true:=by simp[h4]
        go_wp2_with fail
        go_meet
        exact⟨true,rfl,by simp[h4,YI],rfl⟩
      |false=>
       rw[YI] at X2;by_cases h4:vP.1=0
       ·have h1:(vP.1 != 0)=false:=by simp[h4]
        go_wp2_with fail
        go_meet
        exact⟨false,rfl,by simp[h4,YI],rfl⟩
       ·have h1:(vP.1 != 0)=true:=by simp[h4]
        go_wp2_with fail
        go_meet
        exact⟨true,rfl,by simp[h4,YI],rfl⟩
     case rest=>
      obtain⟨q7,rfl,hq7,hwe⟩:=hcut;subst hwe;cases q7 with
      |true=>
       have FV:=hq7.1 rfl;have hI:Lk vT vC vO vX vP=.error 4:=by rw[Z3,Cr FV]
       go_wp2
       (try simp only[Exit.inBlock,Exit.then])
       exact Lt (b:=w.heap.size) rfl rfl (MQ wc w.heap.size _ _ _ _ _ hsm) ⟨Ml hbd (Ci _) _ _ _ _ _,by rw[hI];exact⟨by decide,rfl⟩⟩
      |false=>
       have FV:¬((vX.2.2=true/\vP.1≠4)\/(vX.2.2=false/\vP.1≠0)):=fun h=>Bool.noConfusion (hq7.2 h);rw[B3 FV] at Z3;clear hq5 hq7 hx1 FV;have hwd:w.heap.size<wc.heap.size:=Ft hwc Aee.size;have Buc:bT<wc.heap.size:=Ft (Ck hT) Aee.size;have Bqi:bC<wc.heap.size:=Ft (Ck hC) Aee.size;have hbC:((Ab vT.2.1).toList==[112,97,115,115,107,101,121,46,99,114,101,97,116,101])=decide (vT.2.1=tyC):=VH hTB (b:=tyC) (fun x hx=>by simp[tyC] at hx;omega)
       have hbG:((Ab vT.2.1).toList==[112,97,115,115,107,101,121,46,103,101,116])=decide (vT.2.1=tyG):=VH hTB (b:=tyG) (fun x hx=>by simp[tyG] at hx;omega)
       by_cases hTc:vT.2.1=tyC
       rotate_left
       ·rw[decide_eq_false hTc] at hbC;rw[B3 hTc] at Z3;by_cases hTg:vT.2.1=tyG
        rotate_left
        ·rw[decide_eq_false hTg] at hbG;have hI:Lk vT vC vO vX vP=.error 3:=by rw[Z3,B3 hTg]
         go_wp2
         (try simp only[Exit.inBlock,Exit.then])
         exact Lt (b:=w.heap.size) rfl rfl (Sj wc w.heap.size hwd _ _ _ _ _ _ hrc) ⟨Je hbd (Ci _) hbd.size _ _ _ _ _ _,by rw[hI];exact⟨by decide,rfl⟩⟩
        ·rw[decide_eq_true hTg] at hbG;rw[Cr hTg] at Z3;clear hTg hTc;have hbA:=hbd.alloc hbd.size (.cells #[.int .i64 2,.slice none 0 0,.string (Ab vO.2.1),.bool vX.2.2,.string (Ab vP.2.1)] 86);have hsA:(wc.alloc (.cells #[.int .i64 2,.slice none 0 0,.string (Ab vO.2.1),.bool vX.2.2,.string (Ab vP.2.1)] 86)).heap.size=wc.heap.size+1:=Array.size_push _;have hkA:=al1 wc (.cells #[.int .i64 2,.slice none 0 0,.string (Ab vO.2.1),.bool vX.2.2,.string (Ab vP.2.1)] 86);have hrA:=hrc.below ((Below.refl wc.heap.size wc).alloc (Ci _) (.cells #[.int .i64 2,.slice none 0 0,.string (Ab vO.2.1),.bool vX.2.2,.string (Ab vP.2.1)] 86)) hwd
         go_wp2_with (go_at_call 156;refine (A7n _ vC.2.1 (hU.below hbA) hCB hCL).mono ?_)
         rintro e W3 ⟨DQ,hp3⟩
         have HZ:Below w.heap.size w W3:=hbA.trans (DQ.mono hbA.size);have hr3:=hrA.below DQ (by rw[hsA];omega)
         have hm3:=hr3.some;obtain⟨⟨r30,r31,r32,r33,r34⟩,s30,s31,s32,s33,s34⟩:=hr3;have hs3:wc.heap.size+1<=W3.heap.size:=by have:=DQ.size;rw[hsA] at this;exact this
         have Ox:=(DQ.block _ (by rw[hsA];omega)).trans hkA
         obtain⟨⟨k0,k1,k2,k3,k4⟩,kf0,kf1,kf2,kf3,kf4⟩:=Aul Ox;unfold DbP at hp3;cases hdc:Sx vC.2.1 with
         |none=>
          rw[hdc] at hp3;obtain⟨ad,capN,rfl⟩:=hp3;have hI:Lk vT vC vO vX vP=.error 2:=by rw[Z3];unfold KY;rw[hdc]
          go_wp2
          (try simp only[Exit.inBlock,Exit.then])
          exact Lt (b:=w.heap.size) rfl rfl (MQ W3 w.heap.size _ _ _ _ _ hm3) ⟨Ml HZ (Ci _) _ _ _ _ _,by rw[hI];exact⟨by decide,rfl⟩⟩
         |some b=>
          rw[hdc] at hp3;obtain⟨ad,cap,rfl,Tl⟩:=hp3;by_cases F4:b.length<1
          ·have hI:Lk vT vC vO vX vP=.error 9:=by rw[Z3];unfold KY;rw[hdc];simp only;rw[Cr (.inl F4)]
           have FX:(b.length:Int)<1:=by omega
           go_wp2
           (try simp only[Exit.inBlock,Exit.then])
           exact Lt (b:=w.heap.size) rfl rfl (MQ W3 w.heap.size _ _ _ _ _ hm3) ⟨Ml HZ (Ci _) _ _ _ _ _,by rw[hI];exact⟨by decide,rfl⟩⟩
          by_cases Ko:64<b.length
          ·have hI:Lk vT vC vO vX vP=.error 9:=by rw[Z3];unfold KY;rw[hdc];simp only;rw[Cr (.inr Ko)]
           have FX:¬(b.length:Int)<1:=by omega
           have Nl:(b.length:Int)>64:=by omega
           go_wp2
           (try simp only[Exit.inBlock,Exit.then])
           exact Lt (b:=w.heap.size) rfl rfl (MQ W3 w.heap.size _ _ _ _ _ hm3) ⟨Ml HZ (Ci _) _ _ _ _ _,by rw[hI];exact⟨by decide,rfl⟩⟩
          have FX:¬(b.length:Int)<1:=by omega
          have Nl:¬(b.length:Int)>64:=by omega
          obtain⟨a,rfl,hac,haw,hla⟩:=Tl (by rintro rfl;exact F4 (by decide))
          have Bfq:wc.heap.size+1<=a.block:=by rw[hsA] at haw;exact haw
          have hI2:Lk vT vC vO vX vP=if E0 vO.2.1≠0 then .error (E0 vO.2.1) else if vX.2.2=true/\E0 vP.2.1≠0 then .error (E0 vP.2.1) else .ok (2,b,vO.2.1,vX.2.2,vP.2.1):=by
           rw[Z3];unfold KY;rw[hdc];simp only;rw[B3 (by omega)]
          have QF:Below w.heap.size w (W3.setCell ⟨wc.heap.size,1,none⟩ (.slice (some a) b.length cap)):=HZ.setCell (p:=⟨wc.heap.size,1,none⟩) (Nat.le_of_lt hwd) _;have A35:Below wc.heap.size W3 (W3.setCell ⟨wc.heap.size,1,none⟩ (.slice (some a) b.length cap)):=(Below.refl wc.heap.size W3).setCell (p:=⟨wc.heap.size,1,none⟩) (Ci _) _;have hr4:=(show RC W3 w.heap.size from ⟨⟨r30,r31,r32,r33,r34⟩,s30,s31,s32,s33,s34⟩).below A35 hwd;have A45:=hla.set (b0:=wc.heap.size) (j:=1) (v:=.slice (some a) b.length cap) (by omega);have hs4:(W3.setCell ⟨wc.heap.size,1,none⟩ (.slice (some a) b.length cap)).heap.size=W3.heap.size:=World.size_setCell ..;have j0:(W3.setCell ⟨wc.heap.size,1,none⟩ (.slice (some a) b.length cap)).cell? ⟨wc.heap.size,0,none⟩=some (.int .i64 2):=(Gb (by decide)).trans k0
          have j1:(W3.setCell ⟨wc.heap.size,1,none⟩ (.slice (some a) b.length cap)).cell? ⟨wc.heap.size,1,none⟩=some (.slice (some a) b.length cap):=World.cell?_setCell_same _ _ _ k1;have j2:(W3.setCell ⟨wc.heap.size,1,none⟩ (.slice (some a) b.length cap)).cell? ⟨wc.heap.size,2,none⟩=some (.string (Ab vO.2.1)):=(Gb (by decide)).trans k2;have j3:(W3.setCell ⟨wc.heap.size,1,none⟩ (.slice (some a) b.length cap)).cell? ⟨wc.heap.size,3,none⟩=some (.bool vX.2.2):=(Gb (by decide)).trans k3;have j4:(W3.setCell ⟨wc.heap.size,1,none⟩ (.slice (some a) b.length cap)).cell? ⟨wc.heap.size,4,none⟩=some (.string (Ab vP.2.1)):=(Gb (by decide)).trans k4
          go_wp2_with (go_at_call 157;refine (Aw9 _ vO.2.1 (hU.below QF) hOB hOL).mono ?_)
          rintro e W5 ⟨hb5,o1,o2,o3,rfl⟩
          have MZ:W3.heap.size<=W5.heap.size:=by have:=hb5.size;rw[hs4] at this;exact this
          have NK:Below w.heap.size w W5:=QF.trans (hb5.mono QF.size);have hr5:=hr4.below hb5 (by rw[hs4];omega)
          have A43:=hr5;obtain⟨⟨r50,r51,r52,r53,r54⟩,s50,s51,s52,s53,s54⟩:=A43;have hw5:w.heap.size<W5.heap.size:=by omega
          have hc5:wc.heap.size<W5.heap.size:=by omega
          have Aim:=A45.below hb5 (by rw[hs4];exact hla.2.1)
          have M9:wc.heap.size<(W3.setCell ⟨wc.heap.size,1,none⟩ (.slice (some a) b.length cap)).heap.size:=by rw[hs4];omega
          have i0:=(hb5.cell (p:=⟨wc.heap.size,0,none⟩) M9).trans j0;have i1:=(hb5.cell (p:=⟨wc.heap.size,1,none⟩) M9).trans j1;have i2:=(hb5.cell (p:=⟨wc.heap.size,2,none⟩) M9).trans j2;have i3:=(hb5.cell (p:=⟨wc.heap.size,3,none⟩) M9).trans j3;have i4:=(hb5.cell (p:=⟨wc.heap.size,4,none⟩) M9).trans j4;have hbL:=(Below.refl W5.heap.size W5).alloc (Ci _) (.cells #[.bool o1,.string o2,.int .i64 o3] 124);have Aj4:Below w.heap.size w (W5.alloc (.cells #[.bool o1,.string o2,.int .i64 o3] 124)):=NK.alloc NK.size _;by_cases ho:E0 vO.2.1=0
          rotate_left
          ·have hoB:(E0 vO.2.1 != 0)=true:=by simp[ho]
           have hI:Lk vT vC vO vX vP=.error (E0 vO.2.1):=by rw[hI2,Cr ho]
           go_wp2
           (try simp only[Exit.inBlock,Exit.then])
           exact Lt (b:=w.heap.size) rfl rfl (Sj W5 w.heap.size hw5 _ _ _ _ _ _ hr5) ⟨Je NK (Ci _) NK.size _ _ _ _ _ _,by rw[hI];exact⟨ho,rfl⟩⟩
          have hoB:(E0 vO.2.1 != 0)=false:=by simp[ho]
          rw[B3 (by simp[ho])] at hI2;have Arh:=Aim.below hbL (by have:=Aim.2.1;exact this)
          cases YI:vX.2.2 with
          |false=>
           rw[YI] at i3;have hI:Lk vT vC vO vX vP=.ok (2,b,vO.2.1,false,vP.2.1):=by rw[hI2,B3 (by simp[YI]),YI]
           go_wp2
           (try simp only[Exit.inBlock,Exit.then])
           exact Lt (b:=w.heap.size) rfl rfl (Sj W5 w.heap.size hw5 _ _ _ _ _ _ hr5) ⟨Je NK (Ci _) NK.size _ _ _ _ _ _,by rw[hI];exact⟨a,cap,rfl,hac,by omega,Aim.set5al (by omega)⟩⟩
          |true=>
           rw[YI] at i3
           go_wp2_with (go_at_call 157;refine (Aw9 _ vP.2.1 (hU.below Aj4) hPB hPL).mono ?_)
           rintro e W7 ⟨hb7,p1,p2,p3,rfl⟩
           have hsL:(W5.alloc (.cells #[.bool o1,.string o2,.int .i64 o3] 124)).heap.size=W5.heap.size+1:=Array.size_push _;have LK:Below w.heap.size w W7:=Aj4.trans (hb7.mono Aj4.size);have hr7:=(hr5.below hbL hw5).below hb7 (by rw[hsL];omega)
           have A47:=hr7;obtain⟨⟨r70,r71,r72,r73,r74⟩,s70,s71,s72,s73,s74⟩:=A47;have Aii:=Arh.below hb7 (by have:=Arh.2.1;exact this)
           have LZ:=(hbL.trans (hb7.mono hbL.size))
           have l0:=(LZ.cell (p:=⟨wc.heap.size,0,none⟩) (show wc.heap.size<W5.heap.size by omega)).trans i0;have l1:=(LZ.cell (p:=⟨wc.heap.size,1,none⟩) (show wc.heap.size<W5.heap.size by omega)).trans i1;have l2:=(LZ.cell (p:=⟨wc.heap.size,2,none⟩) (show wc.heap.size<W5.heap.size by omega)).trans i2;have l3:=(LZ.cell (p:=⟨wc.heap.size,3,none⟩) (show wc.heap.size<W5.heap.size by omega)).trans i3;have l4:=(LZ.cell (p:=⟨wc.heap.size,4,none⟩) (show wc.heap.size<W5.heap.size by omega)).trans i4;have hs7:=LZ.size;have hw7:w.heap.size<W7.heap.size:=by omega
           have hc7:wc.heap.size<W7.heap.size:=by omega
           have hbM:=(Below.refl W7.heap.size W7).alloc (Ci _) (.cells #[.bool p1,.string p2,.int .i64 p3] 124);have Bjy:Below w.heap.size w (W7.alloc (.cells #[.bool p1,.string p2,.int .i64 p3] 124)):=LK.alloc LK.size _;by_cases hp:E0 vP.2.1=0
           rotate_left
           ·have hoB:(E0 vP.2.1 != 0)=true:=by simp[hp]
            have hI:Lk vT vC vO vX vP=.error (E0 vP.2.1):=by rw[hI2,Cr ⟨YI,hp⟩]
            go_wp2
            (try simp only[Exit.inBlock,Exit.then])
            exact Lt (b:=w.heap.size) rfl rfl (Sj W7 w.heap.size hw7 _ _ _ _ _ _ hr7) ⟨Je LK (Ci _) LK.size _ _ _ _ _ _,by rw[hI];exact⟨hp,rfl⟩⟩
           have hpB:(E0 vP.2.1 != 0)=false:=by simp[hp]
           have Bgl:=Aii.below hbM (by have:=Aii.2.1;exact this)
           have hI:Lk vT vC vO vX vP=.ok (2,b,vO.2.1,true,vP.2.1):=by rw[hI2,B3 (by simp[hp]),YI]
           go_wp2
           (try simp only[Exit.inBlock,Exit.then])
           exact Lt (b:=w.heap.size) rfl rfl (Sj W7 w.heap.size hw7 _ _ _ _ _ _ hr7) ⟨Je LK (Ci _) LK.size _ _ _ _ _ _,by rw[hI];exact⟨a,cap,rfl,hac,by omega,Aii.set5al (by omega)⟩⟩
       ·rw[decide_eq_true hTc] at hbC;rw[Cr hTc] at Z3;clear hTc hbG;have hbA:=hbd.alloc hbd.size (.cells #[.int .i64 1,.slice none 0 0,.string (Ab vO.2.1),.bool vX.2.2,.string (Ab vP.2.1)] 86);have hsA:(wc.alloc (.cells #[.int .i64 1,.slice none 0 0,.string (Ab vO.2.1),.bool vX.2.2,.string (Ab vP.2.1)] 86)).heap.size=wc.heap.size+1:=Array.size_push _;have hkA:=al1 wc (.cells #[.int .i64 1,.slice none 0 0,.string (Ab vO.2.1),.bool vX.2.2,.string (Ab vP.2.1)] 86);have hrA:=hrc.below ((Below.refl wc.heap.size wc).alloc (Ci _) (.cells #[.int .i64 1,.slice none 0 0,.string (Ab vO.2.1),.bool vX.2.2,.string (Ab vP.2.1)] 86)) hwd
        go_wp2_with (go_at_call 156;refine (A7n _ vC.2.1 (hU.below hbA) hCB hCL).mono ?_)
        rintro e W3 ⟨DQ,hp3⟩
        have HZ:Below w.heap.size w W3:=hbA.trans (DQ.mono hbA.size);have hr3:=hrA.below DQ (by rw[hsA];omega)
        have hm3:=hr3.some;obtain⟨⟨r30,r31,r32,r33,r34⟩,s30,s31,s32,s33,s34⟩:=hr3;have hs3:wc.heap.size+1<=W3.heap.size:=by have:=DQ.size;rw[hsA] at this;exact this
        have Ox:=(DQ.block _ (by rw[hsA];omega)).trans hkA
        obtain⟨⟨k0,k1,k2,k3,k4⟩,kf0,kf1,kf2,kf3,kf4⟩:=Aul Ox;unfold DbP at hp3;cases hdc:Sx vC.2.1 with
        |none=>
         rw[hdc] at hp3;obtain⟨ad,capN,rfl⟩:=hp3;have hI:Lk vT vC vO vX vP=.error 2:=by rw[Z3];unfold KY;rw[hdc]
         go_wp2
         (try simp only[Exit.inBlock,Exit.then])
         exact Lt (b:=w.heap.size) rfl rfl (MQ W3 w.heap.size _ _ _ _ _ hm3) ⟨Ml HZ (Ci _) _ _ _ _ _,by rw[hI];exact⟨by decide,rfl⟩⟩
        |some b=>
         rw[hdc] at hp3;obtain⟨ad,cap,rfl,Tl⟩:=hp3;by_cases F4:b.length<1
         ·have hI:Lk vT vC vO vX vP=.error 9:=by rw[Z3];unfold KY;rw[hdc];simp only;rw[Cr (.inl F4)]
          have FX:(b.length:Int)<1:=by omega
          go_wp2
          (try simp only[Exit.inBlock,Exit.then])
          exact Lt (b:=w.heap.size) rfl rfl (MQ W3 w.heap.size _ _ _ _ _ hm3) ⟨Ml HZ (Ci _) _ _ _ _ _,by rw[hI];exact⟨by decide,rfl⟩⟩
         by_cases Ko:64<b.length
         ·have hI:Lk vT vC vO vX vP=.error 9:=by rw[Z3];unfold KY;rw[hdc];simp only;rw[Cr (.inr Ko)]
          have FX:¬(b.length:Int)<1:=by omega
          have Nl:(b.length:Int)>64:=by omega
          go_wp2
          (try simp only[Exit.inBlock,Exit.then])
          exact Lt (b:=w.heap.size) rfl rfl (MQ W3 w.heap.size _ _ _ _ _ hm3) ⟨Ml HZ (Ci _) _ _ _ _ _,by rw[hI];exact⟨by decide,rfl⟩⟩
         have FX:¬(b.length:Int)<1:=by omega
         have Nl:¬(b.length:Int)>64:=by omega
         obtain⟨a,rfl,hac,haw,hla⟩:=Tl (by rintro rfl;exact F4 (by decide))
         have Bfq:wc.heap.size+1<=a.block:=by rw[hsA] at haw;exact haw
         have hI2:Lk vT vC vO vX vP=if E0 vO.2.1≠0 then .error (E0 vO.2.1) else if vX.2.2=true/\E0 vP.2.1≠0 then .error (E0 vP.2.1) else .ok (1,b,vO.2.1,vX.2.2,vP.2.1):=by
          rw[Z3];unfold KY;rw[hdc];simp only;rw[B3 (by omega)]
         have QF:Below w.heap.size w (W3.setCell ⟨wc.heap.size,1,none⟩ (.slice (some a) b.length cap)):=HZ.setCell (p:=⟨wc.heap.size,1,none⟩) (Nat.le_of_lt hwd) _;have A35:Below wc.heap.size W3 (W3.setCell ⟨wc.heap.size,1,none⟩ (.slice (some a) b.length cap)):=(Below.refl wc.heap.size W3).setCell (p:=⟨wc.heap.size,1,none⟩) (Ci _) _;have hr4:=(show RC W3 w.heap.size from ⟨⟨r30,r31,r32,r33,r34⟩,s30,s31,s32,s33,s34⟩).below A35 hwd;have A45:=hla.set (b0:=wc.heap.size) (j:=1) (v:=.slice (some a) b.length cap) (by omega);have hs4:(W3.setCell ⟨wc.heap.size,1,none⟩ (.slice (some a) b.length cap)).heap.size=W3.heap.size:=World.size_setCell ..;have j0:(W3.setCell ⟨wc.heap.size,1,none⟩ (.slice (some a) b.length cap)).cell? ⟨wc.heap.size,0,none⟩=some (.int .i64 1):=(Gb (by decide)).trans k0
         have j1:(W3.setCell ⟨wc.heap.size,1,none⟩ (.slice (some a) b.length cap)).cell? ⟨wc.heap.size,1,none⟩=some (.slice (some a) b.length cap):=World.cell?_setCell_same _ _ _ k1;have j2:(W3.setCell ⟨wc.heap.size,1,none⟩ (.slice (some a) b.length cap)).cell? ⟨wc.heap.size,2,none⟩=some (.string (Ab vO.2.1)):=(Gb (by decide)).trans k2;have j3:(W3.setCell ⟨wc.heap.size,1,none⟩ (.slice (some a) b.length cap)).cell? ⟨wc.heap.size,3,none⟩=some (.bool vX.2.2):=(Gb (by decide)).trans k3;have j4:(W3.setCell ⟨wc.heap.size,1,none⟩ (.slice (some a) b.length cap)).cell? ⟨wc.heap.size,4,none⟩=some (.string (Ab vP.2.1)):=(Gb (by decide)).trans k4
         go_wp2_with (go_at_call 157;refine (Aw9 _ vO.2.1 (hU.below QF) hOB hOL).mono ?_)
         rintro e W5 ⟨hb5,o1,o2,o3,rfl⟩
         have MZ:W3.heap.size<=W5.heap.size:=by have:=hb5.size;rw[hs4] at this;exact this
         have NK:Below w.heap.size w W5:=QF.trans (hb5.mono QF.size);have hr5:=hr4.below hb5 (by rw[hs4];omega)
         have A43:=hr5;obtain⟨⟨r50,r51,r52,r53,r54⟩,s50,s51,s52,s53,s54⟩:=A43;have hw5:w.heap.size<W5.heap.size:=by omega
         have hc5:wc.heap.size<W5.heap.size:=by omega
         have Aim:=A45.below hb5 (by rw[hs4];exact hla.2.1)
         have M9:wc.heap.size<(W3.setCell ⟨wc.heap.size,1,none⟩ (.slice (some a) b.length cap)).heap.size:=by rw[hs4];omega
         have i0:=(hb5.cell (p:=⟨wc.heap.size,0,none⟩) M9).trans j0;have i1:=(hb5.cell (p:=⟨wc.heap.size,1,none⟩) M9).trans j1;have i2:=(hb5.cell (p:=⟨wc.heap.size,2,none⟩) M9).trans j2;have i3:=(hb5.cell (p:=⟨wc.heap.size,3,none⟩) M9).trans j3;have i4:=(hb5.cell (p:=⟨wc.heap.size,4,none⟩) M9).trans j4;have hbL:=(Below.refl W5.heap.size W5).alloc (Ci _) (.cells #[.bool o1,.string o2,.int .i64 o3] 124);have Aj4:Below w.heap.size w (W5.alloc (.cells #[.bool o1,.string o2,.int .i64 o3] 124)):=NK.alloc NK.size _;by_cases ho:E0 vO.2.1=0
         rotate_left
         ·have hoB:(E0 vO.2.1 != 0)=true:=by simp[ho]
          have hI:Lk vT vC vO vX vP=.error (E0 vO.2.1):=by rw[hI2,Cr ho]
          go_wp2
          (try simp only[Exit.inBlock,Exit.then])
          exact Lt (b:=w.heap.size) rfl rfl (Sj W5 w.heap.size hw5 _ _ _ _ _ _ hr5) ⟨Je NK (Ci _) NK.size _ _ _ _ _ _,by rw[hI];exact⟨ho,rfl⟩⟩
         have hoB:(E0 vO.2.1 != 0)=false:=by simp[ho]
         rw[B3 (by simp[ho])] at hI2;have Arh:=Aim.below hbL (by have:=Aim.2.1;exact this)
         cases YI:vX.2.2 with
         |false=>
          rw[YI] at i3;have hI:Lk vT vC vO vX vP=.ok (1,b,vO.2.1,false,vP.2.1):=by rw[hI2,B3 (by simp[YI]),YI]
          go_wp2
          (try simp only[Exit.inBlock,Exit.then])
          exact Lt (b:=w.heap.size) rfl rfl (Sj W5 w.heap.size hw5 _ _ _ _ _ _ hr5) ⟨Je NK (Ci _) NK.size _ _ _ _ _ _,by rw[hI];exact⟨a,cap,rfl,hac,by omega,Aim.set5al (by omega)⟩⟩
         |true=>
          rw[YI] at i3
          go_wp2_with (go_at_call 157;refine (Aw9 _ vP.2.1 (hU.below Aj4) hPB hPL).mono ?_)
          rintro e W7 ⟨hb7,p1,p2,p3,rfl⟩
          have hsL:(W5.alloc (.cells #[.bool o1,.string o2,.int .i64 o3] 124)).heap.size=W5.heap.size+1:=Array.size_push _;have LK:Below w.heap.size w W7:=Aj4.trans (hb7.mono Aj4.size);have hr7:=(hr5.below hbL hw5).below hb7 (by rw[hsL];omega)
          have A47:=hr7;obtain⟨⟨r70,r71,r72,r73,r74⟩,s70,s71,s72,s73,s74⟩:=A47;have Aii:=Arh.below hb7 (by have:=Arh.2.1;exact this)
          have LZ:=(hbL.trans (hb7.mono hbL.size))
          have l0:=(LZ.cell (p:=⟨wc.heap.size,0,none⟩) (show wc.heap.size<W5.heap.size by omega)).trans i0;have l1:=(LZ.cell (p:=⟨wc.heap.size,1,none⟩) (show wc.heap.size<W5.heap.size by omega)).trans i1;have l2:=(LZ.cell (p:=⟨wc.heap.size,2,none⟩) (show wc.heap.size<W5.heap.size by omega)).trans i2;have l3:=(LZ.cell (p:=⟨wc.heap.size,3,none⟩) (show wc.heap.size<W5.heap.size by omega)).trans i3;have l4:=(LZ.cell (p:=⟨wc.heap.size,4,none⟩) (show wc.heap.size<W5.heap.size by omega)).trans i4;have hs7:=LZ.size;have hw7:w.heap.size<W7.heap.size:=by omega
          have hc7:wc.heap.size<W7.heap.size:=by omega
          have hbM:=(Below.refl W7.heap.size W7).alloc (Ci _) (.cells #[.bool p1,.string p2,.int .i64 p3] 124);have Bjy:Below w.heap.size w (W7.alloc (.cells #[.bool p1,.string p2,.int .i64 p3] 124)):=LK.alloc LK.size _;by_cases hp:E0 vP.2.1=0
          rotate_left
          ·have hoB:(E0 vP.2.1 != 0)=true:=by simp[hp]
           have hI:Lk vT vC vO vX vP=.error (E0 vP.2.1):=by rw[hI2,Cr ⟨YI,hp⟩]
           go_wp2
           (try simp only[Exit.inBlock,Exit.then])
           exact Lt (b:=w.heap.size) rfl rfl (Sj W7 w.heap.size hw7 _ _ _ _ _ _ hr7) ⟨Je LK (Ci _) LK.size _ _ _ _ _ _,by rw[hI];exact⟨hp,rfl⟩⟩
          have hpB:(E0 vP.2.1 != 0)=false:=by simp[hp]
          have Bgl:=Aii.below hbM (by have:=Aii.2.1;exact this)
          have hI:Lk vT vC vO vX vP=.ok (1,b,vO.2.1,true,vP.2.1):=by rw[hI2,B3 (by simp[hp]),YI]
          go_wp2
          (try simp only[Exit.inBlock,Exit.then])
          exact Lt (b:=w.heap.size) rfl rfl (Sj W7 w.heap.size hw7 _ _ _ _ _ _ hr7) ⟨Je LK (Ci _) LK.size _ _ _ _ _ _,by rw[hI];exact⟨a,cap,rfl,hac,by omega,Aii.set5al (by omega)⟩⟩
end
section
open Go Go.RowKit Go.Lib
def OkT(L:Nat)(s:Al):Prop:=Cz s/\s.length<=4*L
theorem UH:∀(n:Nat)(out l s q:Al),Cz l->Md n out l=(some s,q)->s.length<=out.length+4*l.length
  |0,_,_,_,_,_,h=>by cases h
  |_+1,_,[],_,_,_,h=>by cases h
  |n+1,out,c::l,s,q,hl,h=>by
    have e:Md (n+1) out (c::l)=if c<32 then (none,c::l) else if c=34 then (some out,l) else if c=92 then
        (match T8 l with
         |(some x,r')=>Md n (out++Lib.encodeRuneZ x) r'
         |(none,r')=>(none,r')) else Md n (out++[c]) l:=rfl
    have Ws:=D5 hl
    rw[e] at h
    split at h
    · cases h
    split at h
    · cases h;simp
    split at h
    · have h2:=AN (Eh.self Ws.2)
      rcases hq:T8 l with⟨o,r⟩
      rw[hq] at h2 h
      cases o with
      |none=>cases h
      |some x=>
        have:=UH n _ r s q h2.B h
        have h3:=Lib.encodeRuneZ_length x
        have h4:r.length<=l.length:=h2.le
        simp at this ⊢
        omega
    · have:=UH n _ l s q Ws.2 h
      simp at this ⊢
      omega
theorem Afz{l s q:Al}(hl:Cz l)(h:Gk l=(some s,q)):OkT l.length s:=by
 refine⟨Akq hl h,?_⟩;cases l with
 |nil=>cases h
 |cons c l=>
  have e:Gk (c::l)=if c=34 then Md (l.length+1) [] l else (none,c::l):=rfl
  rw[e] at h;split at h
  ·have:=UH _ _ _ _ _ (D5 hl).2 h;simp at this ⊢;omega
  ·cases h
theorem OkT.mono{L M:Nat}{s:Al}(h:OkT L s)(hm:L<=M):OkT M s:=⟨h.1,by have:=h.2;omega⟩
theorem OkT.nil(L:Nat):OkT L []:=⟨(fun x hx=>nomatch hx),Nat.zero_le _⟩
theorem Au6{l r:Al}{v:JV}(hl:Cz l)(hs:l.length<=1000000)(h:Ha 8 l=.ok (v,r)):Eh (Ab l) r:=by
 obtain⟨res,_,hr⟩:=A0n (fu:=1000001) (d:=0) (t:=Ab l) (by rw[Ai];exact hs) (by rw[Ai];omega) 8 1 (by omega) (by omega) l (Eh.self hl)
 rw[h] at hr;exact hr.1
theorem Aws:∀{k:Nat}{l r:Al}{v:JV},Cz l->Ha k l=.ok (v,r)->OkT l.length v.2.1:=by
 intro k l r v hl h;unfold Ha at h;split at h
 ·split at h
  ·cases h
  ·split at h
   ·cases h
   ·cases h;exact OkT.nil _
 ·split at h
  ·cases h
  ·split at h
   ·cases h
   ·cases h;exact OkT.nil _
 ·rename_i r0;unfold HX at h;rcases hq:Gk (34::r0) with⟨o,q⟩;rw[hq] at h;cases o with
  |none=>cases h
  |some s=>cases h;exact Afz hl hq
 ·repeat' split at h
  all_goals first|(cases h;exact OkT.nil _)|cases h
theorem Awn{L:Nat}(hL:L<=1000000):∀(n:Nat)(ms:List (Al × JV)) (l r:Al)(ms':List (Al × JV)),Cz l->l.length<=L->(∀m∈ms,OkT L m.1/\OkT L m.2.2.1)->Zv (Ha 8) true n ms l=.ok (ms',r)->∀m∈ms',OkT L m.1/\OkT L m.2.2.1:=by
 intro n
 induction n with
 |zero=>intro ms l r ms' _ _ _ h;cases h
 |succ n ih=>
  intro ms l r ms' hl hs hm h;rw[LE] at h;rcases hx:Gk l with⟨o,q⟩;rw[hx] at h;cases o with
  |none=>cases h
  |some nm=>
   have QS:=Afz hl hx;have hq:=J4 (Eh.self hl);rw[hx] at hq;simp only at h;split at h
   ·cases h
   cases h1:A7 [58] (Bz q) with
   |none=>rw[h1] at h;cases h
   |some r1=>
    rw[h1] at h;have VU:=Cp (Bb (Cp hq) h1);simp only at h;cases hv:Ha 8 (Bz r1) with
    |error e=>rw[hv] at h;cases h
    |ok x=>
     obtain⟨v,r2⟩:=x;rw[hv] at h;have Zi:=VU.le;have hvo:=Aws VU.B hv;have hr2:=VU.trans (Au6 VU.B (by omega) hv)
     have Qn:∀m∈ms++[(nm,v)],OkT L m.1/\OkT L m.2.2.1:=by
      intro m N0;rcases B5.1 N0 with N0|N0
      ·exact hm m N0
      ·simp at N0;subst N0;exact⟨QS.mono hs,hvo.mono (by omega)⟩
     simp only at h;cases h2:A7 [125] (Bz r2) with
     |some r3=>rw[h2] at h;cases h;exact Qn
     |none=>
      rw[h2] at h;simp only at h;cases h3:A7 [44] (Bz r2) with
      |none=>rw[h3] at h;cases h
      |some r3=>
       rw[h3] at h;have hr3:=Cp (Bb (Cp hr2) h3);exact ih _ _ _ _ hr3.B (by have:=hr3.le;omega) Qn h
theorem Azv{l:Al}{ms:List (Al × JV)}(hl:Cz l)(hs:l.length<=1000000)(h:Aea 8 l=.ok ms):∀m∈ms,OkT l.length m.1/\OkT l.length m.2.2.1:=by
 rw[NH] at h;have h0:=Cp (Eh.self hl);cases h1:A7 [123] (Bz l) with
 |none=>rw[h1] at h;cases h
 |some r=>
  rw[h1] at h;have hr:=Bb h0 h1;simp only at h;rw[CM] at h;have hr2:=Cp hr;cases h2:A7 [125] (Bz r) with
  |some r'=>
   rw[h2] at h;simp only at h;split at h
   ·cases h;exact fun m hm=>by cases hm
   ·cases h
  |none=>
   rw[h2] at h;simp only at h;cases h3:Zv (Ha 8) true ((Bz r).length+1) [] (Bz r) with
   |error e=>rw[h3] at h;cases h
   |ok x=>
    obtain⟨ms',r'⟩:=x;rw[h3] at h;simp only at h;split at h
    ·cases h;exact Awn hs _ _ _ _ _ hr2.B hr2.le (fun m hm=>by cases hm) h3
    ·cases h
def XQ(ms:List (Al × JV)):JR CD:=Lk (Du Vs ms) (Du CG ms) (Du nmO ms) (Du nmX ms) (Du nmP ms)
def M1(t:ByteArray):JR CD:=
 if 1024<t.size then .error 8 else if Lib.validD t.data.toList=false then .error 6 else match Aea 8 (Cs t) with
  |.error e=>.error e
  |.ok ms=>XQ ms
theorem Awe{G:Vg}{P:Program}{f:FuncId}{args vals:Ae}{us rs:List Value}(hs:C9 G P f args ⟨vals,[]⟩)(ha:Bx UK args us)(hr:Bx UK vals rs){w:World}(hG:G.ok w)(hGl:∀k,G.bl k->k<w.heap.size):Calls P f us.toArray w fun e w'=>e=.returned (G8 rs)/\Below w.heap.size w w':=by
 have hi:Ins w (fun _=>False) FJ args us:=⟨fun _ h=>h.elim,fun _ h=>h.elim,fun k h=>absurd h (Ng k),fun i j i' j' b o o' h=>(by cases h),fun i q h=>(by cases h),IZ ha⟩
 refine (hs.2 w _ _ _ hi hG (fun k hk=>⟨hGl k hk,Ng k⟩)).mono ?_
 rintro e w' ⟨ws,own,rfl,out⟩
 have hv:=VB hr out.vals;subst hv;exact⟨rfl,out.os,out.tape,out.output,out.ext.size,fun k hk=>out.ext.keep k hk (Ng k)⟩
theorem Amy(W:World)(s:Al)(hW:okW W)(hB:Cz s)(hs:s.length<=1000000):Calls prog 157 #[.string (Ab s)] W fun e w'=>Below W.heap.size W w'/\∃o1 o2 o3,e=.returned (.tuple #[.agg #[.bool o1,.string o2,.int .i64 o3],.int .i64 (E0 s)]):=by
 obtain⟨o1,o2,o3,e⟩:=A85 (fu:=1000001) (d:=0) (p:=none) hB hs (by omega);have hsd:C9 gU prog 157 [Bl (Ab s)] ⟨[.agg ([Value.bool o1,.string o2,.int .i64 o3].map .sc),Ar (E0 s)],[]⟩:=Jf ngR mxR A5n 7 _ _ _ e;refine (Awe (us:=[.string (Ab s)]) (rs:=[.agg #[.bool o1,.string o2,.int .i64 o3],.int .i64 (E0 s)]) hsd ⟨.inl rfl,trivial⟩ ⟨.inr ⟨_,rfl,rfl⟩,.inl rfl,trivial⟩ hW.1 hW.2).mono ?_
 rintro e w' ⟨rfl,hb⟩
 exact⟨hb,o1,o2,o3,rfl⟩
theorem Ao0(W:World)(s:Al)(hW:okW W)(hB:Cz s)(hs:s.length<=1000000):Calls prog 156 #[.string (Ab s)] W fun e w'=>Below W.heap.size W w'/\DbP W w' s e:=by
 have e:=A5d (fu:=1000001) (d:=0) (p:=none) hB hs (by omega) (by omega);have hi:Ins W (fun _=>False) FJ [Bl (Ab s)] [.string (Ab s)]:=⟨fun _ h=>h.elim,fun _ h=>h.elim,fun k h=>absurd h (Ng k),fun i j i' j' b o o' h=>(by cases h),fun i q h=>(by cases h),IZ (show Bx UK [Bl (Ab s)] [.string (Ab s)] from ⟨.inl rfl,trivial⟩)⟩
 have hsd:C9 gU prog 156 [Bl (Ab s)] _:=Jf ngR mxR A5n 3 _ _ _ e;refine (hsd.2 W _ _ _ hi hW.1 (fun k hk=>⟨hW.2 k hk,Ng k⟩)).mono ?_
 rintro e w' ⟨ws,own,rfl,out⟩
 refine⟨⟨out.os,out.tape,out.output,out.ext.size,fun k hk=>out.ext.keep k hk (Ng k)⟩,?_⟩;have hv:=out.vals;have XF:=out.fresh;generalize hA:Yr FJ own (fun _=>False)=A at hv;unfold DbP;cases hd:Sx s with
 |none=>
  rw[hd] at hv
  match ws,hv with
  |[u1,u2],hv=>
   obtain⟨h1,h2,_⟩:=hv;have e2:u2=.int .i64 2:=Av.val (show Av w' A (Ar 2) u2 from h2);rcases (show H8 w' A (own 0) (.own 1 0 []) u1 from h1) with⟨_,_,_,ad,rfl⟩|⟨b,o,cap,ho,rfl,h⟩
   ·rw[e2];exact⟨ad,0,rfl⟩
   ·rw[e2];exact⟨_,cap,rfl⟩
  |[],hv=>exact hv.elim
  |[_],hv=>exact hv.2.elim
  |_::_::_::_,hv=>exact hv.2.2.elim
 |some b=>
  rw[hd] at hv
  match ws,hv with
  |[u1,u2],hv=>
   obtain⟨h1,h2,_⟩:=hv;have e2:u2=.int .i64 0:=Av.val (show Av w' A (Ar 0) u2 from h2);rw[e2];rcases (show H8 w' A (own 0) (.own 1 b.length (Af .u8 b)) u1 from h1) with⟨_,hn,_,ad,rfl⟩|⟨bb,o,cap,ho,rfl,hc,hf,Ck,hr,hz⟩
   ·have QQ:b=[]:=List.eq_nil_of_length_eq_zero hn;subst QQ;exact⟨ad,0,rfl,fun h=>absurd rfl h⟩
   ·refine⟨some ⟨bb,o,none⟩,cap,rfl,fun _=>⟨⟨bb,o,none⟩,rfl,hc,?_,rfl,Ck,fun j x hx=>?_⟩⟩
    ·have:=(XF 0 bb o ho).2;rcases Ig bb W.heap.size with q|q
     ·obtain⟨⟨i,k,o',h⟩,_⟩:=this q;cases h
     ·exact q
    ·have hj:(Af .u8 b)[j]?=some (.sc (.int .u8 x)):=by
      rw[JD,List.getElem?_map,hx];rfl
     obtain⟨v,hv1,_,hv2⟩:=hr j _ hj;rw[hv1];exact congrArg some hv2.val
  |[],hv=>exact hv.elim
  |[_],hv=>exact hv.2.elim
  |_::_::_::_,hv=>exact hv.2.2.elim
def PaP(w w':World)(t:ByteArray)(e:Ending):Prop:=ItP w w' (M1 t) e
theorem Ag2{R:Ending->World->Prop}{a:Act}{W:World}{v:Value}{b:Nat}(h2:a.tmps.getD 2 undef=.pointer (some ⟨b,0,none⟩))(hd:a.defers=[])(hl:(loadVar 86 ⟨b,0,none⟩).run prog W=.ok v W)(hR:R (.returned (.tuple #[v,a.tmps.getD 3 undef])) W):bodyPost prog Tryz.f79 R .ret a W:=by refine bodyPost_ret ?_ hd hR;rw[results_cell_tmp rfl,h2];have e:(asAddr (.pointer (some ⟨b,0,none⟩))).run prog W=.ok ⟨b,0,none⟩ W:=rfl;rw[e,Result.andThen_ok,hl,Result.andThen_ok]
def VsP(w w':World)(t:ByteArray)(e:Ending):Prop:=e=.returned (.bool (Lib.validD t.data.toList))/\Below w.heap.size w w'
def RtQ(w w':World)(t:ByteArray)(e:Ending):Prop:=Below w.heap.size w w'/\RtP w' (Cs t) e
def ItQ(w w':World)(r:JR CD)(e:Ending):Prop:=Below w.heap.size w w'/\ItP w w' r e
set_option maxHeartbeats 4000000 in
theorem Az1{t:ByteArray}(ht:t.size<=9223372036854775807){w:World}(hU:okW w):Calls prog 79 #[.string t] w fun e w'=>Below w.heap.size w w'/\PaP w w' t e:=by
 have mixed:prog.follows Departure.mixedOrders=true:=by kernel_rfl
 have F4:Below w.heap.size w (w.alloc (.cells #[.int .i64 0,.slice none 0 0,.string ⟨#[]⟩,.bool false,.string ⟨#[]⟩] 86)):=(Below.refl _ w).alloc (Ci _) _;have hg1:=al1 w (.cells #[.int .i64 0,.slice none 0 0,.string ⟨#[]⟩,.bool false,.string ⟨#[]⟩] 86);have RB:(w.alloc (.cells #[.int .i64 0,.slice none 0 0,.string ⟨#[]⟩,.bool false,.string ⟨#[]⟩] 86)).heap.size=w.heap.size+1:=Array.size_push _;have VU:RC (w.alloc (.cells #[.int .i64 0,.slice none 0 0,.string ⟨#[]⟩,.bool false,.string ⟨#[]⟩] 86)) w.heap.size:=At9 hg1;have hU1:=hU.below F4
 have hvc:Calls prog 124 #[.string t] (w.alloc (.cells #[.int .i64 0,.slice none 0 0,.string ⟨#[]⟩,.bool false,.string ⟨#[]⟩] 86)) fun e w'=>VsP (w.alloc (.cells #[.int .i64 0,.slice none 0 0,.string ⟨#[]⟩,.bool false,.string ⟨#[]⟩] 86)) w' t e:=(Any.utf8_ValidString laysVS t (w.alloc (.cells #[.int .i64 0,.slice none 0 0,.string ⟨#[]⟩,.bool false,.string ⟨#[]⟩] 86)) ht hU1.1.2.2).mono (fun _ _ h=>h)
 go_enter Tryz.func79,Tryz.ntmps79
 by_cases Ek:1024<t.size
 ·have hI:M1 t=.error 8:=by unfold M1;rw[Cr Ek]
  have hq:(t.size:Int)>1024:=by omega
  go_wp2
  (try simp only[Exit.inBlock,Exit.then])
  obtain⟨⟨r0,r1,r2,r3,r4⟩,_⟩:=VU;exact Ag2 (b:=w.heap.size) rfl rfl (Aba r0 r1 r2 r3 r4) ⟨F4,by unfold PaP;rw[hI];exact⟨by decide,rfl⟩⟩
 have hq:¬(t.size:Int)>1024:=by omega
 go_wp2_with (go_at_call 124;refine hvc.mono ?_)
 rintro e W2 ⟨rfl,Ko⟩
 have Awd:Below w.heap.size w W2:=F4.trans (Ko.mono F4.size);have hr2:=VU.below Ko (by rw[RB];omega)
 have HK:w.heap.size+1<=W2.heap.size:=by have:=Ko.size;rw[RB] at this;exact this
 have hw2:w.heap.size<W2.heap.size:=by omega
 have hU2:=hU.below Awd;cases hvd:Lib.validD t.data.toList with
 |false=>
  have hI:M1 t=.error 6:=by unfold M1;rw[B3 Ek,hvd,Cr rfl]
  obtain⟨⟨r0,r1,r2,r3,r4⟩,s0,s1,s2,s3,s4⟩:=id hr2
  go_wp2
  (try simp only[Exit.inBlock,Exit.then])
  exact Ag2 (b:=w.heap.size) rfl rfl (MQ W2 w.heap.size _ _ _ _ _ hr2.some) ⟨Ml Awd (Ci _) _ _ _ _ _,by unfold PaP;rw[hI];exact⟨by decide,rfl⟩⟩
 |true=>
  have Z3:M1 t=match Aea 8 (Cs t) with | .error e=>.error e | .ok ms=>XQ ms:=by unfold M1;rw[B3 Ek,hvd,B3 (by decide)]
  have hrt:Calls prog 125 #[.string t] W2 fun e w'=>RtQ W2 w' t e:=Awg (by omega) hU2.1 hU2.2
  go_wp2_with (go_at_call 125;refine hrt.mono ?_)
  rintro e W3 ⟨DQ,hp3⟩
  have HZ:Below w.heap.size w W3:=Awd.trans (DQ.mono Awd.size);have hr3:=hr2.below DQ hw2;have hw3:w.heap.size<W3.heap.size:=Ft hw2 DQ.size;have hU3:=hU.below HZ;unfold RtP at hp3;cases A3o:Aea 8 (Cs t) with
  |error er=>
   rw[A3o] at hp3 Z3;obtain⟨he,m,rfl⟩:=hp3;have hbe:(er != (0:Int))=true:=by simp[he]
   obtain⟨⟨r0,r1,r2,r3,r4⟩,s0,s1,s2,s3,s4⟩:=id hr3
   go_wp2
   (try simp only[Exit.inBlock,Exit.then])
   exact Ag2 (b:=w.heap.size) rfl rfl (MQ W3 w.heap.size _ _ _ _ _ hr3.some) ⟨Ml HZ (Ci _) _ _ _ _ _,by unfold PaP;rw[Z3];exact⟨he,rfl⟩⟩
  |ok ms=>
   rw[A3o] at hp3 Z3;obtain⟨mb,rfl,hM3⟩:=hp3;have Km:(Cs t).length<=1000000:=by rw[Ca];omega
   have hok:=Azv (Va t) Km A3o;have hl4:4*(Cs t).length<=1000000:=by rw[Ca];omega
   have Rs:Calls prog 126 #[.map (some mb)] W3 fun e w'=>ItQ W3 w' (XQ ms) e:=Az0 Ao0 Amy (fun m hm=>(hok m hm).1.1) (fun m hm=>⟨(hok m hm).2.1,by have:=(hok m hm).2.2;omega⟩) hU3 hM3
   go_wp2_with (go_at_call 126;refine Rs.mono ?_)
   rintro e W4 ⟨hb4,hp4⟩
   have QF:Below w.heap.size w W4:=HZ.trans (hb4.mono HZ.size);have hr4:=hr3.below hb4 hw3;have hw4:w.heap.size<W4.heap.size:=Ft hw3 hb4.size;unfold ItP at hp4;cases hmm:XQ ms with
   |error er=>
    rw[hmm] at hp4 Z3;obtain⟨he,rfl⟩:=hp4;have hbe:(er != (0:Int))=true:=by simp[he]
    obtain⟨⟨r0,r1,r2,r3,r4⟩,s0,s1,s2,s3,s4⟩:=id hr4
    go_wp2
    (try simp only[Exit.inBlock,Exit.then])
    exact Ag2 (b:=w.heap.size) rfl rfl (Sj W4 w.heap.size hw4 _ _ _ _ _ _ hr4) ⟨Je QF (Ci _) QF.size _ _ _ _ _ _,by unfold PaP;rw[Z3];exact⟨he,rfl⟩⟩
   |ok x=>
    obtain⟨k,b,o,x,p⟩:=x;rw[hmm] at hp4 Z3;obtain⟨ad,cap,rfl,hc,hwa,hla⟩:=hp4;obtain⟨⟨r0,r1,r2,r3,r4⟩,s0,s1,s2,s3,s4⟩:=id hr4
    go_wp2
    (try simp only[Exit.inBlock,Exit.then])
    exact Ag2 (b:=w.heap.size) rfl rfl (Sj W4 w.heap.size hw4 _ _ _ _ _ _ hr4) ⟨Je QF (Ci _) QF.size _ _ _ _ _ _,by unfold PaP;rw[Z3];exact⟨ad,cap,rfl,hc,by omega,hla.set5al (by omega)⟩⟩
def N8(args:Ae):Option Bv:=
 match args with
 |[.sc (.string t)]=>bif decide (t.size<=9223372036854775807) then some (match M1 t with
  |.ok (k,b,o,x,p)=>⟨[.agg [Ar k,.lst false 1 b.length (Af .u8 b),Bl (Ab o),De x,Bl (Ab p)],Ar 0],[]⟩
  |.error e=>⟨[.agg [Ar 0,.lst false 1 0 [],Bl ⟨#[]⟩,De false,Bl ⟨#[]⟩],Ar e],[]⟩) else none
 |_=>none
theorem SM{w w':World}{Y:Nat->Prop}{bt:FK}{args vals:Ae}{vs:List Value}(hb:Below w.heap.size w w')(hv:Aah w' (Yr bt (fun _=>none) Y) (fun _=>none) w.heap.size 0 vals vs)(ho:Kv w' (Yr bt (fun _=>none) Y) (fun _=>none) bt (N6 vals) 0 args []):
  Out w w' Y bt args (fun _=>none) ⟨vals,[]⟩ vs where
 os:=hb.os
 tape:=hb.tape
 output:=hb.output
 ext:=⟨hb.size,fun b h _=>hb.block b h,fun b h=>Fi.same (hb.block b h)⟩
 rng:=fun b j h _=>⟨by unfold World.cell?;simp only[hb.block b h],by unfold World.frozen?;simp only[hb.block b h]⟩
 vals:=hv
 outs:=ho
 fresh:=fun j b o h=>by cases h
 inj:=fun j j' b o o' h=>by cases h
theorem Agp(args:Ae)(res:Bv)(h:N8 args=some res):C9 gU prog 79 args res:=by
 refine⟨⟨_,Tryz.func79,by kernel_rfl⟩,fun w Y bt us hi hok hgl=>?_⟩;unfold N8 at h;split at h
 rotate_left
 ·cases h
 rename_i t;cases hq:decide (t.size<=9223372036854775807)
 ·rw[hq] at h;cases h
 rw[hq,cond_true] at h;have hs:=of_decide_eq_true hq;have ps:=hi.args
 match us,ps with
 |[u],ps=>
  have hu:u=.string t:=Av.val (show Av w _ (Bl t) u from ps.1.2);subst hu;refine (Az1 hs ⟨hok,fun k hk=>(hgl k hk).1⟩).mono ?_
  rintro e w' ⟨hb,hp⟩
  unfold PaP at hp;unfold ItP at hp;cases MS:M1 t with
  |error er=>
   rw[MS] at hp h;obtain⟨_,rfl⟩:=hp;cases h;refine⟨[.agg #[.int .i64 0,.slice none 0 0,.string ⟨#[]⟩,.bool false,.string ⟨#[]⟩],.int .i64 er],fun _=>none,rfl,SM hb ⟨⟨_,rfl,?_⟩,Av.sc _,trivial⟩ rfl⟩;exact⟨Av.sc _,Av.lnil _ _,Av.sc _,Av.sc _,Av.sc _,trivial⟩
  |ok x=>
   obtain⟨k,b,o,x,p⟩:=x;rw[MS] at hp h;obtain⟨ad,cap,rfl,hc,hwa,hla⟩:=hp;cases h;refine⟨[.agg #[.int .i64 k,.slice (some ad) b.length cap,.string (Ab o),.bool x,.string (Ab p)],.int .i64 0],fun _=>none,rfl,SM hb ⟨⟨_,rfl,?_⟩,Av.sc _,trivial⟩ rfl⟩;refine⟨Av.sc _,?_,Av.sc _,Av.sc _,Av.sc _,trivial⟩;refine Av.lst 1 b.length (Af .u8 b) ad cap (fun j=>.int .u8 (b.getD j 0)) hla.1 hla.2.1 ?_ hc ?_ ?_ ?_
   ·rintro (⟨j,o,h⟩|⟨i,o,h⟩|h)
    ·cases h
    ·have:=hi.lt ad.block ⟨i,0,o,h⟩;omega
    ·have:=hi.Ylt _ h;omega
   ·intro j c hj;rw[JD,List.getElem?_map] at hj;obtain⟨y,hy,rfl⟩:=Option.map_eq_some_iff.1 hj;rw[hla.2.2 j y hy];simp[List.getD_eq_getElem?_getD,hy]
   ·intro j c hj;rfl
   ·intro j c hj;rw[JD,List.getElem?_map] at hj;obtain⟨y,hy,rfl⟩:=Option.map_eq_some_iff.1 hj;have:b.getD j 0=y:=by simp[List.getD_eq_getElem?_getD,hy]
    rw[this];exact Av.sc _
 |[],ps=>exact ps.elim
 |_::_::_,ps=>exact ps.2.elim
abbrev C1:Ih:=CP (some N8)
abbrev WB:=Adb (some N8)
theorem extV:SP gU prog C1:=A1d (fun g h args res hg=>by cases h;exact Agp args res hg)
end
section
variable {xs:FuncId->Option (Ae->Option Bv)}(fu d:Nat)(call:Ap)
theorem BO{p:Option (Ae->Option Bv)}(fu d:Nat)(Z:Int):Ac (CP p) prog fu (d+1) 57 [Z]=(fun (call:Ap)=>Aw (decide (Z>=0)) (Bk [De (decide (Z<=4))]) (Bk [false])) (Ac (CP p) prog fu d):=by kernel_rfl
def G7(Z:Int)(Y:Nat)(X:Int)(W:Nat)(V U:Int)(T:Ae):Option Bv:=Kk fu call 100 Tryz.f100 [Ag Z] [.r,.r,.r,.l,.r,.l] Y ⟨lk [(0,Ag X),(3,.view 3 1 0 W),(4,V),(5,U)],C4 [(3,.ar false T)]⟩
theorem M5(U:Int)(T:Nat)(V:Int)(Z:Nat)(Y X:Int)(W:Ae):G7 fu call U (T+1) V Z Y X W=(Aw (decide (X>=0)) (Aa (wrap .i64 (4*X)) fun a=>Aa (wrap .u64 a) fun a=>As (decide (0<=a))<|Aa (Hc .u64 V a) fun a=>Aa (D2 .u64 a 15) fun a=>Aa (wrap .i64 a) fun a=>ZzA Z 1 8 W [a] fun b c=>Aa (wrap .i64 (15-a)) fun a=>Aa (wrap .i64 (Y+a)) fun a=>Aa (wrap .i64 (X-1)) fun e=>G7 fu call U T V b a e c) (Aa (wrap .i64 (Int.tdiv Y 16)) fun a=>Aa (Int.tmod Y 16) fun b=>As (decide (Z*1<=W.length)&&true&&decide ((Z+2)*8<=1099511627776)&&decide (Z+2<=1099511627776))<|Aa (Z+2) fun c=>Aa (List.take (Z*1) W++[Ar a,Ar b]) fun a=>As (decide (c*1<=a.length))<|Bk [.own 1 c (a.take (c*1))])):=by kernel_rfl
theorem DP{p:Option (Ae->Option Bv)}(fu d:Nat)(Z:Int):Ac (CP p) prog fu (d+1) 100 [Ag Z]=(fun (call:Ap)=>G7 fu call Z fu Z 0 0 15 ([])) (Ac (CP p) prog fu d):=by kernel_rfl
def Ib(Z Y:Int)(X W V:Int)(U:Nat)(T S:Int)(Q P O:Int):Option Bv:=Kk fu call 101 Tryz.f101 [Z,Y,X,W,Ag V] [.r,.l,.r,.l] U ⟨lk [(0,T),(1,S),(3,Q),(4,Ag P),(11,O)],C4 []⟩
theorem P9(U T:Int)(S Q P:Int)(O:Nat)(X W:Int)(Z V Y:Int):Ib fu call U T S Q P (O+1) X W Z V Y=(Aa (if 15<Z then 15 else Z) fun a=>Aw (decide (Y<a)) (Aa (wrap .u64 X) fun a=>Aa (wrap .u64 W) fun b=>Aa (wrap .u64 Y) fun c=>Dl (call 62 [Am 1 4 [Ag a,Ag b,Ag c,Ag V]]) fun a b=>Kf 1 a fun a c=>Ak b<|As (decide (0+a*1<=c.length))<|Gt .u64 (call 69 [(1:Int),Am 1 a (List.take (a*1) (c.drop 0))]) fun a=>Aa (wrap .i64 (Y+1)) fun b=>Ib fu call U T S Q P O X W Z a b) (Bk [Ag V])):=by kernel_rfl
theorem IM{p:Option (Ae->Option Bv)}(fu d:Nat)(Y X:Int)(Z W V:Int):Ac (CP p) prog fu (d+1) 101 [Y,X,Z,W,Ag V]=(fun (call:Ap)=>Aa (if Z<0 then 0 else Z) fun a=>Ib fu call Y X Z W V fu Y X W V a) (Ac (CP p) prog fu d):=by kernel_rfl
theorem AC{p:Option (Ae->Option Bv)}(fu d:Nat)(Z Y X:Int):Ac (CP p) prog fu (d+1) 111 [Ag Z,Y,X]=(fun (call:Ap)=>Aa (wrap .u64 Y) fun a=>Aa (wrap .u64 X) fun b=>Dl (call 62 [Am 1 2 [Ag a,Ag b]]) fun a b=>Kf 1 a fun a c=>Ak b<|As (decide (0+a*1<=c.length))<|Gt .u64 (call 63 [Ag Z,(1:Int),Am 1 a (List.take (a*1) (c.drop 0))]) fun a=>Bk [Ag a]) (Ac (CP p) prog fu d):=by kernel_rfl
theorem GY{p:Option (Ae->Option Bv)}(fu d:Nat)(Z:Int)(Y:Nat)(X:Ae):Ac (CP p) prog fu (d+1) 102 [Z,Am 1 Y X]=(fun (call:Ap)=>Aa (wrap .u64 Z) fun a=>Dl (call 62 [Am 1 1 [Ag a]]) fun a b=>Kf 1 a fun a c=>Ak b<|Dl (call 62 [Am 1 Y X]) fun b e=>Kf 1 b fun b f=>Ak e<|As (decide (0+b*1<=f.length))<|As (decide (a*1<=c.length)&&decide (List.length (List.take (b*1) (f.drop 0))=b*1)&&decide ((a+b)*1<=1099511627776)&&decide (a+b<=1099511627776))<|Aa (a+b) fun e=>Aa (List.take (a*1) c++List.take (b*1) (f.drop 0)) fun a=>As (decide (0+e*1<=a.length))<|Gt .u64 (call 69 [(2:Int),Am 1 e (List.take (e*1) (a.drop 0))]) fun a=>Bk [Ag a]) (Ac (CP p) prog fu d):=by kernel_rfl
def Hj(Z Y:Int)(X:Nat)(W V:Int)(U:Nat)(T:Int)(S:Ae):Option Bv:=Kk fu call 112 Tryz.f112 [Ag Z,Y] [.r,.r,.l,.r,.l] X ⟨lk [(0,Ag W),(1,V),(5,.view 5 1 0 U),(6,T)],C4 [(5,.ar false S)]⟩
theorem Nj(U T:Int)(S:Nat)(V Z:Int)(Y:Nat)(X:Int)(W:Ae):Hj fu call U T (S+1) V Z Y X W=(Aw (decide (X<18)) (Gt .u64 (call 111 [Ag V,Z,X]) fun a=>Gt .u64 (call 101 [Z,X,(0:Int),(15:Int),Ag a]) fun a=>ZzA Y 1 8 W [Ag a] fun a b=>Aa (wrap .i64 (X+1)) fun c=>Hj fu call U T S V Z a c b) (As (decide (0+Y*1<=W.length))<|Gt .u64 (call 102 [Z,Am 1 Y (List.take (Y*1) (W.drop 0))]) fun a=>Bk [Ag a])):=by kernel_rfl
theorem GQ{p:Option (Ae->Option Bv)}(fu d:Nat)(Z Y:Int):Ac (CP p) prog fu (d+1) 112 [Ag Z,Y]=(fun (call:Ap)=>Hj fu call Z Y fu Z Y 0 0 ([])) (Ac (CP p) prog fu d):=by kernel_rfl
def Fu(Z Y X:Int)(W:Nat)(V U:Int)(T S:Nat)(Q:Int)(P O:Ae):Option Bv:=Kk fu call 70 Tryz.f70 [Ag Z,Y,Ag X] [.r,.r,.r,.l,.r,.l] W ⟨lk [(0,Ag V),(1,U),(7,.view 7 1 0 T),(8,.view 8 1 0 S),(9,Q)],C4 [(7,.ar false P),(8,.ar false O)]⟩
theorem Kb(S Q P:Int)(O:Nat)(V X:Int)(U Y:Nat)(Z:Int)(T W:Ae):Fu fu call S Q P (O+1) V X U Y Z T W=(Aw (decide (Z<18)) (As (decide (0<=Z)&&decide (Z<(↑U:Int)))<|Bq .i64 (T.getD (0+Z.toNat*1) .top) fun a=>Gt .u64 (call 111 [Ag V,X,Z]) fun b=>Gt .u64 (call 101 [X,Z,(0:Int),a,Ag b]) fun a=>ZzA Y 1 8 W [Ag a] fun a b=>Aa (wrap .i64 (Z+1)) fun c=>Fu fu call S Q P O V X U a c T b) (As (decide (Y*1<=W.length))<|Bk [.own 1 Y (W.take (Y*1))])):=by kernel_rfl
theorem Yv{p:Option (Ae->Option Bv)}(fu d:Nat)(Z Y X:Int):Ac (CP p) prog fu (d+1) 70 [Ag Z,Y,Ag X]=(fun (call:Ap)=>Dl (call 100 [Ag X]) fun a b=>Kf 1 a fun a c=>Ak b<|Fu fu call Z Y X fu Z Y a 0 0 c ([])) (Ac (CP p) prog fu d):=by kernel_rfl
theorem BA{p:Option (Ae->Option Bv)}(fu d:Nat)(Z Y X:Int):Ac (CP p) prog fu (d+1) 59 [Z,Ag Y,Ag X]=(fun (call:Ap)=>Aa (wrap .u64 Z) fun a=>Dl (call 62 [Am 1 3 [Ag a,Ag Y,Ag X]]) fun a b=>Kf 1 a fun a c=>Ak b<|As (decide (0+a*1<=c.length))<|Gt .u64 (call 69 [(3:Int),Am 1 a (List.take (a*1) (c.drop 0))]) fun a=>Bk [Ag a]) (Ac (CP p) prog fu d):=by kernel_rfl
theorem R2{p:Option (Ae->Option Bv)}(fu d:Nat)(Y Z X:Int):Ac (CP p) prog fu (d+1) 71 [Ag Y,Z,X]=(fun (call:Ap)=>Aw (Z==0) (Gt .u64 (call 112 [Ag Y,X]) fun a=>Bk [Ag a]) (Aa (wrap .i64 (Z-1)) fun a=>Aa (wrap .i64 (2*X)) fun b=>Gt .u64 (call 71 [Ag Y,a,b]) fun a=>Aa (wrap .i64 (Z-1)) fun b=>Aa (wrap .i64 (2*X)) fun c=>Aa (wrap .i64 (c+1)) fun c=>Gt .u64 (call 71 [Ag Y,b,c]) fun b=>Gt .u64 (call 59 [Z,Ag a,Ag b]) fun a=>Bk [Ag a])) (Ac (CP p) prog fu d):=by kernel_rfl
theorem Z7{p:Option (Ae->Option Bv)}(fu d:Nat)(Y Z:Int):Ac (CP p) prog fu (d+1) 61 [Ag Y,Z]=(fun (call:Ap)=>Dl (call 57 [Z]) fun a b=>Ax a fun a=>Ak b<|Aw (!a) (Bk [.agg [(0:Int),Ag 0],(9:Int)]) (Gt .u64 (call 71 [Ag Y,Z,(0:Int)]) fun a=>Bk [.agg [Z,Ag a],(0:Int)])) (Ac (CP p) prog fu d):=by kernel_rfl
def Hk(Z Y:Int)(X W:Int)(V:Nat)(U T:Int)(S Q P:Int)(O N:Nat)(M L:Ae)(K:Int)(J I:Nat)(H G:Ae):Option Bv:=Kk fu call 37 Tryz.f37 [Ag Z,Y,X,Ag W] [.r,.r,.r,.l,.r,.l] V ⟨lk [(0,Ag U),(1,T),(2,S),(8,.ptr 8 0),(10,.ptr 10 0),(11,Q)],C4 [(8,.st [P,.view 112 1 0 O,.view 164 1 0 N]),(112,.ar false M),(164,.ar false L),(10,.st [K,.view 114 1 0 J,.view 166 1 0 I]),(114,.ar false H),(166,.ar false G)]⟩
theorem Nu(P O:Int)(N M:Int)(L:Nat)(U T:Int)(S Z K:Int)(J I:Nat)(H G:Ae)(Q:Int)(Y X:Nat)(W V:Ae):Hk fu call P O N M (L+1) U T S Z K J I H G Q Y X W V=(Aw (decide (Z<T)) (Aa (wrap .u64 Z) fun a=>As (decide (0<=a))<|Aa (Hc .i64 S a) fun a=>Aa (Ew .i64 a 1) fun a=>Gt .u64 (call 71 [Ag U,Z,a]) fun a=>ZzA X 1 8 V [Ag a] fun a b=>Aa (wrap .i64 (Z+1)) fun c=>Hk fu call P O N M L U T S c K J I H G Q Y a W b) (As (decide (Y*1<=W.length))<|As (decide (X*1<=V.length))<|Bk [.agg [Q,.own 1 Y (W.take (Y*1)),.own 1 X (V.take (X*1))],(0:Int)])):=by kernel_rfl
theorem HI{p:Option (Ae->Option Bv)}(fu d:Nat)(X Y:Int)(Z W:Int):Ac (CP p) prog fu (d+1) 37 [Ag X,Y,Z,Ag W]=(fun (call:Ap)=>Dl (call 57 [Y]) fun a b=>Ax a fun a=>Ak b<|Aw (!a) (Bk [.agg [(0:Int),.own 1 0 [],.own 1 0 []],(9:Int)]) (Aw (decide (Z<0)) (Bk [.agg [(0:Int),.own 1 0 [],.own 1 0 []],(9:Int)]) (Aa (wrap .u64 Y) fun a=>As (decide (0<=a))<|Aa (Eu .i64 1 a) fun a=>Aw (decide (Z>=a)) (Bk [.agg [(0:Int),.own 1 0 [],.own 1 0 []],(9:Int)]) (Dl (call 70 [Ag X,Z,Ag W]) fun a b=>Kf 1 a fun a c=>Ak b<|Hk fu call X Y Z W fu X Y Z 0 0 0 0 ([]) ([]) Z a 0 c ([]))))) (Ac (CP p) prog fu d):=by kernel_rfl
theorem Wx{p:Option (Ae->Option Bv)}(fu d:Nat)(Z Y:Int):Ac (CP p) prog fu (d+1) 68 [.agg [Z,Ag Y]]=(fun (call:Ap)=>Dl (call 57 [Z]) fun a b=>Ax a fun a=>Ak b<|Aw (!a) (Bk [.own 1 0 [],(9:Int)]) (Aa (wrap .u8 Z) fun a=>Dl (call 62 [Am 1 1 [Ag Y]]) fun b c=>Kf 1 b fun b e=>Ak c<|As (decide (0+b*1<=e.length))<|As (decide (List.length (List.take (b*1) (e.drop 0))=b*1)&&decide ((1+b)*1<=1099511627776)&&decide (1+b<=1099511627776))<|Aa (1+b) fun c=>Aa ([.sc (.int .u8 a)]++List.take (b*1) (e.drop 0)) fun a=>As (decide (c*1<=a.length))<|Bk [.own 1 c (a.take (c*1)),(0:Int)])) (Ac (CP p) prog fu d):=by kernel_rfl
theorem Ph{p:Option (Ae->Option Bv)}(fu d:Nat)(Y:Int)(X:Nat)(W:Ae)(Z:Nat)(V:Ae):Ac (CP p) prog fu (d+1) 40 [.agg [Y,Am 1 X W,Am 1 Z V]]=(fun (call:Ap)=>Aw (decide ((↑Z:Int)>4)) (Bk [.own 1 0 [],(9:Int)]) (Aw (decide (Y<0)) (Bk [.own 1 0 [],(9:Int)]) (Aa (wrap .u64 (↑Z:Int)) fun a=>As (decide (0<=a))<|Aa (Eu .i64 1 a) fun a=>Aw (decide (Y>=a)) (Bk [.own 1 0 [],(9:Int)]) (Aw ((↑X:Int) != 18) (Bk [.own 1 0 [],(4:Int)]) (Aa (wrap .u8 Y) fun a=>Aa (wrap .u8 (↑Z:Int)) fun b=>Dl (call 62 [Am 1 X W]) fun c e=>Kf 1 c fun c f=>Ak e<|As (decide (0+c*1<=f.length))<|As (decide (List.length (List.take (c*1) (f.drop 0))=c*1)&&decide ((2+c)*1<=1099511627776)&&decide (2+c<=1099511627776))<|Aa (2+c) fun e=>Aa ([.sc (.int .u8 a),.sc (.int .u8 b)]++List.take (c*1) (f.drop 0)) fun a=>Dl (call 62 [Am 1 Z V]) fun b c=>Kf 1 b fun b f=>Ak c<|As (decide (0+b*1<=f.length))<|As (decide (e*1<=a.length)&&decide (List.length (List.take (b*1) (f.drop 0))=b*1)&&decide ((e+b)*1<=1099511627776)&&decide (e+b<=1099511627776))<|Aa (e+b) fun c=>Aa (List.take (e*1) a++List.take (b*1) (f.drop 0)) fun a=>As (decide (c*1<=a.length))<|Bk [.own 1 c (a.take (c*1)),(0:Int)]))))) (Ac (CP p) prog fu d):=by kernel_rfl
def Gm(Z Y X:Int)(W:Nat)(V U T:Int)(S:Nat)(Q:Int)(P:Ae):Option Bv:=Kk fu call 31 Tryz.f31 [Ag Z,Ag Y,X] [.r,.r,.r,.l,.r,.l] W ⟨lk [(0,Ag V),(1,Ag U),(2,T),(7,.view 7 1 0 S),(8,Q)],C4 [(7,.ar false P)]⟩
theorem H0(T S Q:Int)(P:Nat)(W V Y:Int)(Z:Nat)(U:Int)(X:Ae):Gm fu call T S Q (P+1) W V Y Z U X=(Aw (decide ((↑Z:Int)<Y)) (Aa (wrap .u64 U) fun a=>Dl (call 62 [Am 1 2 [Ag V,Ag a]]) fun a b=>Kf 1 a fun a c=>Ak b<|As (decide (0+a*1<=c.length))<|Gt .u64 (call 63 [Ag W,(5:Int),Am 1 a (List.take (a*1) (c.drop 0))]) fun a=>Dl (call 62 [Am 1 1 [Ag a]]) fun a b=>Kf 1 a fun a c=>Ak b<|As (decide (0+a*1<=c.length))<|As (decide (Z*1<=X.length)&&decide (List.length (List.take (a*1) (c.drop 0))=a*1)&&decide ((Z+a)*1<=1099511627776)&&decide (Z+a<=1099511627776))<|Aa (Z+a) fun b=>Aa (List.take (Z*1) X++List.take (a*1) (c.drop 0)) fun a=>Aa (wrap .i64 (U+1)) fun c=>Gm fu call T S Q P W V Y b c a) (As (decide (0<=Y))<|As (decide (Y.toNat<=Z))<|Aa (Y.toNat-0) fun a=>As (decide (a*1<=X.length))<|Bk [.own 1 a (X.take (a*1))])):=by kernel_rfl
theorem Z8{p:Option (Ae->Option Bv)}(fu d:Nat)(Y X Z:Int):Ac (CP p) prog fu (d+1) 31 [Ag Y,Ag X,Z]=(fun (call:Ap)=>Aa (if Z<0 then 0 else Z) fun a=>Aa (if 1024<a then 1024 else a) fun a=>Gm fu call Y X Z fu Y X a 0 0 ([])) (Ac (CP p) prog fu d):=by kernel_rfl
end
section
variable {xs:FuncId->Option (Ae->Option Bv)}(fu d:Nat)(call:Ap)
def Dq(Z:Nat)(Y:Ae)(X W:Nat)(V:Ae)(U:ByteArray)(T:Int):Option Bv:=Kk fu call 66 Tryz.f66 [Am 1 Z Y] [.r,.r,.l,.r,.l] X ⟨lk [(0,Am 1 W V),(3,U),(4,T)],C4 []⟩
def C3(Z:Nat)(Y:Ae)(X W V:Nat)(U:Ae)(T:ByteArray)(S Q P:Int):Option Bv:=Kk fu call 66 Tryz.f66 [Am 1 Z Y] [.r,.r,.l,.r,.l,.i X,.r,.l,.l,.r,.r,.r,.r,.l] W ⟨lk [(0,Am 1 V U),(3,T),(4,S),(5,Ag Q),(6,P)],C4 []⟩
theorem Fx(V:Nat)(U:Ae)(T Y:Nat)(X:Ae)(W:ByteArray)(Z:Int):Dq fu call V U (T+1) Y X W Z=(Aw (decide (Z<(↑Y:Int))) (As (decide (0<=Z)&&decide (Z<(↑Y:Int)))<|Bq .u8 (X.getD (Z.toNat*1) .top) fun a=>Aa (wrap .u64 a) fun a=>Aa (Eu .u64 a 16) fun a=>Aa (wrap .i64 (Z+1)) fun b=>Aw (decide (b<(↑Y:Int))) (Aa (wrap .i64 (Z+1)) fun b=>As (decide (0<=b)&&decide (b<(↑Y:Int)))<|Bq .u8 (X.getD (b.toNat*1) .top) fun b=>Aa (wrap .u64 b) fun b=>Aa (Eu .u64 b 8) fun b=>Aa (Xr .u64 a b) fun a=>Aa (wrap .i64 (Z+2)) fun b=>Aw (decide (b<(↑Y:Int))) (Aa (wrap .i64 (Z+2)) fun b=>As (decide (0<=b)&&decide (b<(↑Y:Int)))<|Bq .u8 (X.getD (b.toNat*1) .top) fun b=>Aa (wrap .u64 b) fun b=>Aa (Xr .u64 a b) fun a=>C3 fu call V U T fu Y X W Z a 0) (C3 fu call V U T fu Y X W Z a 0)) (Aa (wrap .i64 (Z+2)) fun b=>Aw (decide (b<(↑Y:Int))) (Aa (wrap .i64 (Z+2)) fun b=>As (decide (0<=b)&&decide (b<(↑Y:Int)))<|Bq .u8 (X.getD (b.toNat*1) .top) fun b=>Aa (wrap .u64 b) fun b=>Aa (Xr .u64 a b) fun a=>C3 fu call V U T fu Y X W Z a 0) (C3 fu call V U T fu Y X W Z a 0))) (Bk [W])):=by kernel_rfl
theorem Ij(V:Nat)(U:Ae)(T P Z:Nat)(S:Ae)(Y:ByteArray)(X Q W:Int):C3 fu call V U T (P+1) Z S Y X Q W=(Aw (decide (W<4)) (Aa (wrap .i64 ((↑Z:Int)-X)) fun a=>Aw (decide (W<=a)) (Aa (wrap .u64 W) fun a=>Aa (wrap .u64 (6*a)) fun a=>Aa (wrap .u64 (18-a)) fun a=>As (decide (0<=a))<|Aa (Hc .u64 Q a) fun a=>Aa (D2 .u64 a 63) fun a=>Aa (wrap .u64 (a+1)) fun b=>As (decide (0<=a))<|As (decide (0<=b))<|As (decide (a.toNat<=b.toNat)&&decide (b.toNat<=64))<|Aa (ByteArray.extract (ByteArray.mk #[65,66,67,68,69,70,71,72,73,74,75,76,77,78,79,80,81,82,83,84,85,86,87,88,89,90,97,98,99,100,101,102,103,104,105,106,107,108,109,110,111,112,113,114,115,116,117,118,119,120,121,122,48,49,50,51,52,53,54,55,56,57,45,95]) a.toNat b.toNat) fun a=>As (decide (ByteArray.size Y+ByteArray.size a<=9223372036854775807))<|Aa (Y++a) fun a=>Aa (wrap .i64 (W+1)) fun b=>C3 fu call V U T P Z S a X Q b) (Aa (wrap .i64 (X+3)) fun a=>Dq fu call V U T Z S Y a)) (Aa (wrap .i64 (X+3)) fun a=>Dq fu call V U T Z S Y a)):=by kernel_rfl
theorem Tw{p:Option (Ae->Option Bv)}(fu d Z:Nat)(Y:Ae):Ac (CP p) prog fu (d+1) 66 [Am 1 Z Y]=(fun (call:Ap)=>Dq fu call Z Y fu Z Y (ByteArray.mk #[]) 0) (Ac (CP p) prog fu d):=by kernel_rfl
theorem Zf{p:Option (Ae->Option Bv)}(fu d:Nat)(Z:Int):Ac (CP p) prog fu (d+1) 64 [Z]=(fun (call:Ap)=>Aw (Z==1) (Bk [Bl ⟨#[112,97,115,115,107,101,121,46,99,114,101,97,116,101]⟩]) (Aw (Z==2) (Bk [Bl ⟨#[112,97,115,115,107,101,121,46,103,101,116]⟩]) (Bk [Bl ⟨#[]⟩]))) (Ac (CP p) prog fu d):=by kernel_rfl
theorem V4{p:Option (Ae->Option Bv)}(fu d:Nat)(Z:ByteArray):Ac (CP p) prog fu (d+1) 39 [Z]=(fun (call:Ap)=>As (decide (ByteArray.size Z<=1099511627776))<|As (decide (0+ByteArray.size Z*1<=List.length (D3 Z)))<|Gt .u64 (call 69 [(11:Int),Am 1 (ByteArray.size Z) (List.take (ByteArray.size Z*1) (List.drop 0 (D3 Z)))]) fun a=>Bk [Ag a]) (Ac (CP p) prog fu d):=by kernel_rfl
theorem KW{p:Option (Ae->Option Bv)}(fu d:Nat)(Z:ByteArray):Ac (CP p) prog fu (d+1) 51 [Z]=(fun (call:Ap)=>As (decide (ByteArray.size Z<=1099511627776))<|As (decide (0+ByteArray.size Z*1<=List.length (D3 Z)))<|Gt .u64 (call 86 [(11:Int),Am 1 (ByteArray.size Z) (List.take (ByteArray.size Z*1) (List.drop 0 (D3 Z)))]) fun a=>Bk [Ag a]) (Ac (CP p) prog fu d):=by kernel_rfl
end
theorem A25(a b:Nat)(ha:a<18446744073709551616)(hb:b<18446744073709551616):D2 .u64 ((a:Nat):Int) ((b:Nat):Int)=((a &&& b:Nat):Int):=by
 have hx:a &&& b<2 ^ 64:=Nat.and_lt_two_pow _ (by omega)
 have h1:(BitVec.ofInt 64 (a:Int)).toNat=a:=by
  rw[BitVec.ofInt_natCast,BitVec.toNat_ofNat];exact Nat.mod_eq_of_lt (by omega)
 have h2:(BitVec.ofInt 64 (b:Int)).toNat=b:=by
  rw[BitVec.ofInt_natCast,BitVec.toNat_ofNat];exact Nat.mod_eq_of_lt (by omega)
 show IntKind.u64.wrap ((BitVec.ofInt 64 (a:Int) &&& BitVec.ofInt 64 (b:Int)).toNat:Int)=_;rw[BitVec.toNat_and,h1,h2];simp only[wrap,IntKind.bits,IntKind.signed,UR,Bool.false_eq_true,if_false];omega
theorem A3j{x:Int}(h0:0<=x)(h1:x<16777216):D2 .u64 x 63=x % 64:=by obtain⟨n,rfl⟩:=Int.eq_ofNat_of_zero_le h0;have:=A25 n 63 (by omega) (by omega);refine this.trans ?_;rw[show (63:Nat)=2 ^ 6-1 by decide,Nat.and_two_pow_sub_one_eq_mod n 6];omega
theorem Bbo{x:Int}{k:Nat}(hk:k<=64):Hc .u64 x (k:Int)=x / ((2 ^ k:Nat):Int):=by
 show x.fdiv (2 ^ (min (k:Int).toNat IntKind.u64.bits))=_
 have:min (k:Int).toNat IntKind.u64.bits=k:=by
  rw[Jd];exact Nat.min_eq_left (by show k<=64;omega)
 rw[this];have e:(2:Int) ^ k=((2 ^ k:Nat):Int):=by simp
 rw[e,Int.fdiv_eq_ediv_of_nonneg _ (Int.natCast_nonneg _)]
theorem Aus:∀n:Fin 64,Acd.extract n.val (n.val+1)=Ab [Ou (n.val:Int)]:=by decide +kernel
theorem Py(a b:Al):Ab a++Ab b=Ab (a++b):=by apply ByteArray.ext;rw[ByteArray.data_append];unfold Ab;simp
def qch(x:Int)(k:Nat):Int:=Ou (x / ((2 ^ (18-6*k):Nat):Int) % 64)
section
variable {fu d:Nat}{p:Option (Ae->Option Bv)}
theorem Al9{a0n:Nat}{a0:Ae}{m0:Nat}{y0:Nat}{y1:Ae}{i:Nat}{x:Int}(hx0:0<=x)(hx:x<16777216)(hi:i<y0)(hy:y0<=1000000)(m:Nat)(hm:m=min (y0-i) 3+1):∀(r k nn:Nat)(out:Al),k+r=m->r+1<=nn->out.length+r<=10000000 ->
  C3 fu (Ac (CP p) prog fu d) a0n a0 m0 nn y0 y1 (Ab out) (i:Int) x (k:Int)=Dq fu (Ac (CP p) prog fu d) a0n a0 m0 y0 y1 (Ab (out++(List.range' k r).map (qch x))) ((i+3:Nat):Int)
 |0,k,nn,out,hkr,Gc,ho=>by
  obtain⟨q,rfl⟩:∃q,nn=q+1:=⟨nn-1,by omega⟩
  have a3:wrap .i64 ((i:Int)+3)=((i+3:Nat):Int):=B0
  have e:out++(List.range' k 0).map (qch x)=out:=by simp
  rw[e,Ij];by_cases h4:k<4
  ·have a1:=dT (q:=(k:Int)<4) (by omega);have a2:wrap .i64 ((y0:Int)-(i:Int))=(y0:Int)-(i:Int):=Bn;have a4:=dF (q:=(k:Int)<=(y0:Int)-(i:Int)) (by omega);simp only[Be,Bf,a1,a2,a4,a3]
  ·have a1:=dF (q:=(k:Int)<4) (by omega);simp only[Be,Bf,a1,a3]
 |r+1,k,nn,out,hkr,Gc,ho=>by
  obtain⟨q,rfl⟩:∃q,nn=q+1:=⟨nn-1,by omega⟩
  have Ug:k<4:=by omega
  have a1:=dT (q:=(k:Int)<4) (by omega);have a2:wrap .i64 ((y0:Int)-(i:Int))=(y0:Int)-(i:Int):=Bn;have a4:=dT (q:=(k:Int)<=(y0:Int)-(i:Int)) (by omega);have b1:wrap .u64 (k:Int)=(k:Int):=Ej;have b2:wrap .u64 (6*(k:Int))=6*(k:Int):=Ej;have b3:wrap .u64 (18-6*(k:Int))=((18-6*k:Nat):Int):=by rw[Ej];omega
  have b4:decide ((0:Int)<=((18-6*k:Nat):Int))=true:=by simp
  have b5:=Bbo (x:=x) (k:=18-6*k) (by omega);have hp:0<2 ^ (18-6*k):=Nat.pow_pos (by omega);have Qm:0<=x / ((2 ^ (18-6*k):Nat):Int):=Int.ediv_nonneg hx0 (Int.natCast_nonneg _)
  have hd1:x / ((2 ^ (18-6*k):Nat):Int)<16777216:=by
   have:=Int.ediv_le_self ((2 ^ (18-6*k):Nat):Int) hx0;omega
  have b6:=A3j Qm hd1;generalize hv:x / ((2 ^ (18-6*k):Nat):Int) % 64=v at b6;have hv0:0<=v:=by omega
  have hv1:v<64:=by omega
  have b7:wrap .u64 (v+1)=v+1:=Ej;have b8:=dT (q:=(0:Int)<=v) hv0;have b9:=dT (q:=(0:Int)<=v+1) (by omega);have c1:decide (Int.toNat v<=Int.toNat (v+1))=true:=dT (by omega);have c2:decide (Int.toNat (v+1)<=64)=true:=dT (by omega)
  have c3:Acd.extract (Int.toNat v) (Int.toNat (v+1))=Ab [qch x k]:=by
   have:=Aus ⟨Int.toNat v,by omega⟩;rw[show Int.toNat (v+1)=Int.toNat v+1 by omega];refine this.trans ?_;unfold qch;rw[hv]
   congr 3
   show ((Int.toNat v:Nat):Int)=v;omega
  have c4:decide ((Ab out).size+(Ab [qch x k]).size<=9223372036854775807)=true:=dT (by rw[Ai,Ai];simp;omega)
  have c5:wrap .i64 ((k:Int)+1)=((k+1:Nat):Int):=B0
  have ih:=Al9 (a0n:=a0n) (a0:=a0) (m0:=m0) (y1:=y1) hx0 hx hi hy m hm r (k+1) q (out++[qch x k]) (by omega) (by omega) (by simp;omega)
  have e:out++(List.range' k (r+1)).map (qch x)=(out++[qch x k])++(List.range' (k+1) r).map (qch x):=by
   rw[List.range'_succ];simp
  have ea:(ByteArray.mk #[65,66,67,68,69,70,71,72,73,74,75,76,77,78,79,80,81,82,83,84,85,86,87,88,89,90,97,98,99,100,101,102,103,104,105,106,107,108,109,110,111,112,113,114,115,116,117,118,119,120,121,122,48,49,50,51,52,53,54,55,56,57,45,95])=Acd:=rfl;rw[e,Ij,ea];simp only[Be,Bf,a1,a2,a4,b1,b2,b3,b4,b5,b6,b7,b8,b9,c1,c2,c3,c4,Py,c5];exact ih
theorem Ahy{a b c:Int}(h:Cz [a,b,c])(m:Nat)(hm:m<=4):(List.range' 0 m).map (qch (a*65536+b*256+c))=(HQ a b c).take m:=by
 obtain⟨ha,h⟩:=D5 h;obtain⟨hb,h⟩:=D5 h;obtain⟨hc,h⟩:=D5 h;have e0:qch (a*65536+b*256+c) 0=Ou (a / 4):=by unfold qch;congr 1;simp;omega
 have e1:qch (a*65536+b*256+c) 1=Ou (a % 4*16+b / 16):=by unfold qch;congr 1;simp;omega
 have e2:qch (a*65536+b*256+c) 2=Ou (b % 16*4+c / 64):=by unfold qch;congr 1;simp;omega
 have e3:qch (a*65536+b*256+c) 3=Ou (c % 64):=by unfold qch;congr 1;simp;omega
 match m,hm with
 |0,_=>rfl
 |1,_=>simp[List.range',HQ,e0]
 |2,_=>simp[List.range',HQ,e0,e1]
 |3,_=>simp[List.range',HQ,e0,e1,e2]
 |4,_=>simp[List.range',HQ,e0,e1,e2,e3]
theorem Bbj{a b:Int}(ha:0<=a/\a<=255)(hb:0<=b/\b<=255):Xr .u64 (a*65536) (b*256)=a*65536+b*256:=by
 obtain⟨a,rfl⟩:=Int.eq_ofNat_of_zero_le ha.1;have:=(HP (a:=b*256) (c:=(a:Int)*65536) 16 a (by omega) (by simp;omega) (by simp) (by omega)).2
 rw[this];omega
theorem Bmq{y c:Int}(hy:0<=y/\y<=65535)(hc:0<=c/\c<=255):Xr .u64 (y*256) c=y*256+c:=by
 obtain⟨y,rfl⟩:=Int.eq_ofNat_of_zero_le hy.1;have:=(HP (a:=c) (c:=(y:Int)*256) 8 y (by omega) (by simp;omega) (by simp) (by omega)).2
 rw[this];omega
theorem Awl{a0n:Nat}{a0:Ae}{l:Al}(hB:Cz l)(hl:l.length<=100000)(B2:10<=fu):∀(q:Nat)(r:Al)(i nn:Nat)(out:Al),l.drop i=r->i<=l.length+3->r.length<=q->q+1<=nn->out.length+4*r.length<=1000000 ->
  Dq fu (Ac (CP p) prog fu d) a0n a0 nn l.length (Af .u8 l) (Ab out) (i:Int)=some ⟨[Bl (Ab (out++Jp r))],[]⟩:=by
 intro q
 induction q with
 |zero=>
  intro r i nn out hd hi3 hq Gc ho;have hr:r=[]:=List.eq_nil_of_length_eq_zero (by omega);subst hr;obtain⟨k,rfl⟩:∃k,nn=k+1:=⟨nn-1,by omega⟩
  have hi:=drop_nil hd;have a1:=dF (q:=(i:Int)<(l.length:Int)) (by omega);rw[Fx];simp only[Be,Bf,a1,Jp,List.append_nil]
 |succ q ih=>
  intro r i nn out hd hi3 hq Gc ho;obtain⟨k,rfl⟩:∃k,nn=k+1:=⟨nn-1,by omega⟩
  cases r with
  |nil=>
   have hi:=drop_nil hd;have a1:=dF (q:=(i:Int)<(l.length:Int)) (by omega);rw[Fx];simp only[Be,Bf,a1,Jp,List.append_nil]
  |cons a r1=>
   obtain⟨hi,ha,hd1⟩:=D8 hd;have haB:=hB a (List.mem_of_getElem? ha);have Ek:=congrArg List.length hd;rw[List.length_drop] at Ek;have a1:=dT (q:=(i:Int)<(l.length:Int)) (by omega);have a2:decide ((0:Int)<=(i:Int))=true:=by simp
   have a3:List.getD (Af .u8 l) (Int.toNat (i:Int)*1) PV.top=.sc (.int .u8 a):=by rw[Jd,J1];exact HJ ha
   have a4:wrap .u64 a=a:=Ej
   have a5:Eu .u64 a 16=a*65536:=by
    have:=QI (a:=a) (k:=16) haB.1 (by omega) (by omega) (by simp;omega)
    rw[this];simp
   have a6:wrap .i64 ((i:Int)+1)=((i+1:Nat):Int):=B0
   have a7:wrap .i64 ((i:Int)+2)=((i+2:Nat):Int):=B0
   have b2:decide ((0:Int)<=((i+1:Nat):Int))=true:=dT (by omega);have b3:decide ((0:Int)<=((i+2:Nat):Int))=true:=dT (by omega);rw[Fx];cases r1 with
   |nil=>
    simp only[Tm,WG] at Ek;have b1:=dF (q:=((i+1:Nat):Int)<(l.length:Int)) (by omega);have c1:=dF (q:=((i+2:Nat):Int)<(l.length:Int)) (by omega);have Rs:=Al9 (fu:=fu) (d:=d) (p:=p) (a0n:=a0n) (a0:=a0) (m0:=k) (y0:=l.length) (y1:=Af .u8 l) (i:=i) (x:=a*65536) (by omega) (by omega) hi (by omega) 2 (by omega) 2 0 fu out rfl (by omega) (by simp at ho;omega)
    have Nl:=Ahy (a:=a) (b:=0) (c:=0) (fun x hx=>by simp at hx;rcases hx with rfl|rfl<;>omega) 2 (by omega)
    rw[show a*65536+0*256+0=a*65536 by omega] at Nl;rw[Nl] at Rs;have hr:=ih [] (i+3) k (out++(HQ a 0 0).take 2) (List.drop_eq_nil_of_le (by omega)) (by omega) (by simp) (by omega) (by simp[HQ] at ho ⊢;omega)
    simp only[Be,Bf,a1,a2,a3,a4,a5,a6,a7,b1,c1];refine Rs.trans (hr.trans ?_);simp[Jp,HQ]
   |cons b r2=>
    obtain⟨hi1,hb,Ua⟩:=D8 hd1;have hbB:=hB b (List.mem_of_getElem? hb);have b1:=dT (q:=((i+1:Nat):Int)<(l.length:Int)) (by omega);have b4:List.getD (Af .u8 l) (Int.toNat ((i+1:Nat):Int)*1) PV.top=.sc (.int .u8 b):=by rw[Jd,J1];exact HJ hb
    have b5:wrap .u64 b=b:=Ej
    have b6:Eu .u64 b 8=b*256:=by
     have:=QI (a:=b) (k:=8) hbB.1 (by omega) (by omega) (by simp;omega)
     rw[this];simp
    have b7:=Bbj haB hbB;cases r2 with
    |nil=>
     simp only[Tm,WG] at Ek;have c1:=dF (q:=((i+2:Nat):Int)<(l.length:Int)) (by omega);have Rs:=Al9 (fu:=fu) (d:=d) (p:=p) (a0n:=a0n) (a0:=a0) (m0:=k) (y0:=l.length) (y1:=Af .u8 l) (i:=i) (x:=a*65536+b*256) (by omega) (by omega) hi (by omega) 3 (by omega) 3 0 fu out rfl (by omega) (by simp at ho;omega)
     have Nl:=Ahy (a:=a) (b:=b) (c:=0) (fun x hx=>by simp at hx;rcases hx with rfl|rfl|rfl<;>omega) 3 (by omega)
     rw[show a*65536+b*256+0=a*65536+b*256 by omega] at Nl;rw[Nl] at Rs;have hr:=ih [] (i+3) k (out++(HQ a b 0).take 3) (List.drop_eq_nil_of_le (by omega)) (by omega) (by simp) (by omega) (by simp[HQ] at ho ⊢;omega)
     simp only[Be,Bf,a1,a2,a3,a4,a5,a6,a7,b1,b2,b4,b5,b6,b7,c1];refine Rs.trans (hr.trans ?_);simp[Jp,HQ]
    |cons c t=>
     obtain⟨hi2,hc,hd3⟩:=D8 Ua;have OW:=hB c (List.mem_of_getElem? hc);simp only[Tm] at Ek;have c1:=dT (q:=((i+2:Nat):Int)<(l.length:Int)) (by omega);have c2:List.getD (Af .u8 l) (Int.toNat ((i+2:Nat):Int)*1) PV.top=.sc (.int .u8 c):=by rw[Jd,J1];exact HJ hc
     have c3:wrap .u64 c=c:=Ej
     have c4:Xr .u64 (a*65536+b*256) c=a*65536+b*256+c:=by
      have:=Bmq (y:=a*256+b) (c:=c) (by omega) OW;rw[show (a*256+b)*256=a*65536+b*256 by omega] at this;exact this
     have Rs:=Al9 (fu:=fu) (d:=d) (p:=p) (a0n:=a0n) (a0:=a0) (m0:=k) (y0:=l.length) (y1:=Af .u8 l) (i:=i) (x:=a*65536+b*256+c) (by omega) (by omega) hi (by omega) 4 (by omega) 4 0 fu out rfl (by omega) (by simp at ho;omega)
     have Nl:=Ahy (a:=a) (b:=b) (c:=c) (fun x hx=>by simp at hx;rcases hx with rfl|rfl|rfl<;>omega) 4 (by omega)
     rw[Nl] at Rs;have hr:=ih t (i+3) k (out++(HQ a b c).take 4) hd3 (by omega) (by simp at hq;omega) (by omega) (by simp[HQ] at ho ⊢;omega)
     simp only[Be,Bf,a1,a2,a3,a4,a5,a6,a7,b1,b2,b4,b5,b6,b7,b3,c1,c2,c3,c4];refine Rs.trans (hr.trans ?_);simp[Jp,HQ]
theorem Azo{l:Al}(hB:Cz l)(hl:l.length<=100000)(B2:10<=fu)(MJ:l.length+1<=fu):Ac (CP p) prog fu (d+1) 66 [.lst false 1 l.length (Af .u8 l)]=some ⟨[Bl (Ab (Jp l))],[]⟩:=by
 rw[Tw];have:=Awl (fu:=fu) (d:=d) (p:=p) (a0n:=l.length) (a0:=Af .u8 l) hB hl B2 l.length l 0 fu [] rfl (by omega) (Ci _) MJ (by simp;omega)
 exact this
end
section
variable {xs:FuncId->Option (Ae->Option Bv)}(fu d:Nat)(call:Ap)
theorem KO{p:Option (Ae->Option Bv)}(fu d Z:Nat)(Y:Ae):Ac (CP p) prog fu (d+1) 7 [Am 1 Z Y]=(fun (call:Ap)=>Bk [.pbox [Am 1 Z Y,(0:Int)]]) (Ac (CP p) prog fu d):=by kernel_rfl
theorem IG{p:Option (Ae->Option Bv)}(fu d:Nat)(Z Y:Int):Ac (CP p) prog fu (d+1) 20 [Z,Y]=(fun (call:Ap)=>Aa (wrap .u64 Z) fun a=>Aa (wrap .u64 Y) fun b=>As (decide (b≠0))<|Aa (Int.tmod a b) fun a=>Aa (wrap .i64 a) fun a=>Bk [a]) (Ac (CP p) prog fu d):=by kernel_rfl
theorem Xj{p:Option (Ae->Option Bv)}(fu d Z:Nat)(Y:Ae)(X W:Int):Ac (CP p) prog fu (d+1) 10 [.pbox [Am 1 Z Y,X],W]=(fun (call:Ap)=>Aw (decide (X>=(↑Z:Int))) (some ⟨[(0:Int)],[[Am 1 Z Y,X]]⟩) (Aa (wrap .i64 (X+1)) fun a=>Aa (wrap .i64 (a-1)) fun b=>As (decide (0<=b)&&decide (b<(↑Z:Int)))<|Bq .i64 (Y.getD (b.toNat*1) .top) fun b=>Gt .i64 (call 20 [b,W]) fun b=>some ⟨[b],[[Am 1 Z Y,a]]⟩)) (Ac (CP p) prog fu d):=by kernel_rfl
theorem Vo{p:Option (Ae->Option Bv)}(fu d:Nat)(Z:Int):Ac (CP p) prog fu (d+1) 15 [Z]=(fun (call:Ap)=>Gt .i64 (call 20 [Z,(6:Int)]) fun a=>As (decide (0<=a)&&decide (a<6))<|Bd (List.getD [Bl ⟨#[104,116,116,112,115,58,47,47,101,120,97,109,112,108,101,46,99,111,109]⟩,Bl ⟨#[104,116,116,112,115,58,47,47,108,111,103,105,110,46,101,120,97,109,112,108,101,46,99,111,109]⟩,Bl ⟨#[104,116,116,112,115,58,47,47,101,118,105,108,46,116,101,115,116]⟩,Bl ⟨#[104,116,116,112,58,47,47,108,111,99,97,108,104,111,115,116,58,56,48,56,48]⟩,Bl ⟨#[104,116,116,112,115,58,47,47,98,46,99,111,46,117,107]⟩,Bl ⟨#[104,116,116,112,58,47,47,101,120,97,109,112,108,101,46,99,111,109]⟩] (0+a.toNat*1) .top) fun a=>Bk [a]) (Ac (CP p) prog fu d):=by kernel_rfl
end
section
variable {xs:FuncId->Option (Ae->Option Bv)}(fu d:Nat)(call:Ap)
theorem EJ{p:Option (Ae->Option Bv)}(fu d:Nat)(Y Z:Int):Ac (CP p) prog fu (d+1) 9 [Y,Z]=(fun (call:Ap)=>Aa (wrap .u64 Y) fun a=>Aa (wrap .u64 (a+1)) fun a=>Aa (if 1024<Z then 1024 else Z) fun b=>Aa (if b<0 then 0 else b) fun b=>Dl (call 31 [Ag a,Ag 7,b]) fun a b=>Kf 1 a fun a c=>Ak b<|As (decide (a*1<=c.length))<|Bk [.own 1 a (c.take (a*1))]) (Ac (CP p) prog fu d):=by kernel_rfl
end
abbrev dkc(l:Al)(a:Nat):Ae:=[.lst false 1 l.length (Af .i64 l),Ar (a:Int)]
section
variable {fu d:Nat}{p:Option (Ae->Option Bv)}
theorem Bmk{l:Al}:Ac (CP p) prog fu (d+1) 7 [.lst false 1 l.length (Af .i64 l)]=some ⟨[.pbox (dkc l 0)],[]⟩:=by rw[KO];rfl
theorem A2p(v n:Int)(hn:0<n)(hm:n<=9223372036854775807):∃r,0<=r/\r<n/\∀{fu d:Nat}{p:Option (Ae->Option Bv)},Ac (CP p) prog fu (d+1) 20 [Ar v,Ar n]=some ⟨[Ar r],[]⟩:=by have h1:=Tk v;have h2:wrap .u64 n=n:=Ej;have h3:0<=Int.tmod (wrap .u64 v) n:=Int.tmod_nonneg _ h1.1;have h4:Int.tmod (wrap .u64 v) n<n:=Int.tmod_lt_of_pos _ hn;refine⟨_,h3,h4,fun {fu d p}=>?_⟩;rw[IG];simp only[Gf,h2];rw[Acx _ _ (by omega),Bn]
end
section
variable {fu d:Nat}{p:Option (Ae->Option Bv)}
theorem Bnm(B2:1000<=fu)(w:Int):Ac (CP p) prog fu (d+1) 62 [.lst false 1 1 [Ag w]]=some ⟨[.own 1 8 (Af .u8 (Bu w))],[]⟩:=by
 have:=J6 (xs:=Adb p) (fu:=fu) (d:=d) (ws:=[w]) (by simp) (by omega) (by simp;omega)
 simp only[A8,Ji,List.flatMap_nil,List.append_nil,Tm,WG,Cl] at this;exact this
theorem Aw6(B2:1000<=fu){a0 a1 a2:Int}{key nonce:Int}{n:Nat}(hn:n<=1024):∀(k nn:Nat)(i:Int)(l:Al),n<=l.length+8*k->k<nn->Cz l->l.length<=2000 ->
  0<=i->i+k<=100000->∃r,Cz r/\r.length=n/\Gm fu (Ac (CP p) prog fu (d+4)) a0 a1 a2 nn key nonce (n:Int) l.length i (Af .u8 l)=some ⟨[.own 1 n (Af .u8 r)],[]⟩:=by
 intro k
 induction k with
 |zero=>
  intro nn i l h1 h2 hb hl i0 i1;obtain⟨m,rfl⟩:∃m,nn=m+1:=⟨nn-1,by omega⟩
  refine⟨l.take n,hb.take n,by rw[List.length_take];omega,?_⟩
  have L:=An .u8 l;have nt:Int.toNat (n:Int)=n:=Jd _;rw[H0]
  repeat(with_reducible(first|apply Bj|apply Ay|apply Bi|apply TY|apply Az|apply Bh|apply Hg);· first|constructor|(simp(disch:=omega)only[He,L,nt,Nat.sub_zero,J1,Ir]<;>first|constructor|omega)|omega)
  try simp(disch:=omega)only[Aa,L,nt,Nat.sub_zero,J1,Ir]
 |succ k ih=>
  intro nn i l h1 h2 hb hl i0 i1;obtain⟨m,rfl⟩:∃m,nn=m+1:=⟨nn-1,by omega⟩
  have L:=An .u8 l;have nt:Int.toNat (n:Int)=n:=Jd _;by_cases Ck:l.length<n
  rotate_left
  ·refine⟨l.take n,hb.take n,by rw[List.length_take];omega,?_⟩
   rw[H0]
   repeat(with_reducible(first|apply Bj|apply Ay|apply Bi|apply TY|apply Az|apply Bh|apply Hg);· first|constructor|(simp(disch:=omega)only[He,L,nt,Nat.sub_zero,J1,Ir]<;>first|constructor|omega)|omega)
   try simp(disch:=omega)only[Aa,L,nt,Nat.sub_zero,J1,Ir]
  have w1:wrap .u64 i=i:=Ej;have w2:wrap .i64 (i+1)=i+1:=Bn;have wd:Ac (CP p) prog fu (d+4) 62 [.lst false 1 2 [Ag nonce,Ag i]]=some ⟨[.own 1 (A8 [nonce,i]).length (Af .u8 (A8 [nonce,i]))],[]⟩:=J6 (xs:=Adb p) (ws:=[nonce,i]) (by simp) (by omega) (by simp;omega)
  have mc:=Ako (xs:=Adb p) (fu:=fu) (d:=d) (l:=A8 [nonce,i]) (Xc _) (by rw[E4];simp) (by omega) (by rw[E4];simp;omega) key 5
  have L2:=An .u8 (A8 [nonce,i]);have t2:=PL .u8 (A8 [nonce,i]);generalize Axp key 5 (A8 [nonce,i])=q at mc;have ow:=Bnm (fu:=fu) (d:=d+3) (p:=p) B2 q;have Lq:(Af .u8 (Bu q)).length=8:=by rw[An,Cl]
  have tq:List.take 8 (Af .u8 (Bu q))=Af .u8 (Bu q):=Hz (by omega);have tl:=PL .u8 l;have ea:Af .u8 l++Af .u8 (Bu q)=Af .u8 (l++Bu q):=by rw[Af,Af,Af,List.flatMap_append]
  obtain⟨r,r1,r2,r3⟩:=ih m (i+1) (l++Bu q) (by rw[Wy,Cl];omega) (by omega) (R7 hb (Uh q)) (by rw[Wy,Cl];omega) (by omega) (by omega)
  refine⟨r,r1,r2,?_⟩;rw[Wy,Cl] at r3;rw[<-r3,H0];generalize A8 [nonce,i]=W at *
  generalize W.length=wn at *
  repeat(with_reducible(first|apply Bj|apply Ay|apply Bi|apply TY|apply Az|apply Bh|apply Hg);· first|constructor|(simp(disch:=omega)only[He,w1,w2,wd,Me,Ie,J1,L,L2,t2,mc,ow,Lq,tq,tl,ea]<;>first|constructor|omega)|omega)
  try simp(disch:=omega)only[Aa,w1,w2,wd,Me,Ie,J1,L,L2,t2,mc,ow,Lq,tq,tl,ea]
  all_goals rfl
theorem Ar6(B2:1000<=fu)(seed:Int){n:Nat}(hn:n<=1024):∃r,Cz r/\r.length=n/\Ac (CP p) prog fu (d+6) 9 [Ar seed,Ar n]=some ⟨[.own 1 n (Af .u8 r)],[]⟩:=by
 obtain⟨r,r1,r2,r3⟩:=Aw6 (fu:=fu) (d:=d) (p:=p) B2 (a0:=wrap .u64 (wrap .u64 seed+1)) (a1:=7) (a2:=n) (key:=wrap .u64 (wrap .u64 seed+1)) (nonce:=7) hn 128 fu 0 [] (by omega) (by omega) (by intro x hx;cases hx) (by simp) (by omega) (by omega)
 refine⟨r,r1,r2,?_⟩
 have e:Ac (CP p) prog fu (d+5) 31 [Ag (wrap .u64 (wrap .u64 seed+1)),Ag 7,Ar n]=some ⟨[.own 1 n (Af .u8 r)],[]⟩:=by
  rw[Z8];have f1:(if (n:Int)<0 then (0:Int) else (n:Int))=n:=B3 (by omega);have f2:(if (1024:Int)<(n:Int) then (1024:Int) else (n:Int))=n:=B3 (by omega);simp only[Gf,f1,f2];exact r3
 have f1:(if (n:Int)<0 then (0:Int) else (n:Int))=n:=B3 (by omega);have f2:(if (1024:Int)<(n:Int) then (1024:Int) else (n:Int))=n:=B3 (by omega);have L:=An .u8 r;have t:List.take n (Af .u8 r)=Af .u8 r:=by rw[<-r2];exact PL .u8 r
 rw[EJ];simp(disch:=omega)only[Be,Bf,f1,f2,e,J1,L,t]
end
section
variable {xs:FuncId->Option (Ae->Option Bv)}(fu d:Nat)(call:Ap)
theorem Nw{p:Option (Ae->Option Bv)}(fu d:Nat)(Z:Bool):Ac (CP p) prog fu (d+1) 106 [Z]=(fun (call:Ap)=>Aw Z (Bk [Bl ⟨#[104,116,116,112,115,58,47,47]⟩]) (Bk [Bl ⟨#[104,116,116,112,58,47,47]⟩])) (Ac (CP p) prog fu d):=by kernel_rfl
theorem R8{p:Option (Ae->Option Bv)}(fu d:Nat)(Z:Bool):Ac (CP p) prog fu (d+1) 108 [Z]=(fun (call:Ap)=>Aw Z (Bk [(443:Int)]) (Bk [(80:Int)])) (Ac (CP p) prog fu d):=by kernel_rfl
def Gy(Z:ByteArray)(Y:Bool)(X:Nat)(W:ByteArray)(V:Bool)(U T:Int):Option Bv:=Kk fu call 109 Tryz.f109 [Z,Y] [.r,.r,.r,.l,.r,.l] X ⟨lk [(0,W),(1,V),(6,U),(7,T)],C4 []⟩
theorem Mm(V:ByteArray)(U:Bool)(T:Nat)(X:ByteArray)(W:Bool)(Y Z:Int):Gy fu call V U (T+1) X W Y Z=(Aw (decide (Z<(↑(ByteArray.size X):Int))) (As (decide (0<=Z))<|D4 ((Array.toList (ByteArray.data X))[Z.toNat]?) fun a=>Dl (call 144 [.sc (.int .u8 (↑(UInt8.toNat a):Int))]) fun a b=>Ax a fun a=>Ak b<|Aw (!a) (Bk [(0:Int),false]) (Aa (wrap .i64 (10*Y)) fun a=>As (decide (0<=Z))<|D4 ((Array.toList (ByteArray.data X))[Z.toNat]?) fun b=>Aa (wrap .u8 ((↑(UInt8.toNat b):Int)-48)) fun b=>Aa (wrap .i64 b) fun b=>Aa (wrap .i64 (a+b)) fun a=>Aa (wrap .i64 (Z+1)) fun b=>Gy fu call V U T X W a b)) (Aw (decide (Y<=65535)) (Gt .i64 (call 108 [W]) fun a=>Bk [Y,De (Y != a)]) (Bk [Y,false]))):=by kernel_rfl
theorem DX{p:Option (Ae->Option Bv)}(fu d:Nat)(Z:ByteArray)(Y:Bool):Ac (CP p) prog fu (d+1) 109 [Z,Y]=(fun (call:Ap)=>Aw (decide ((↑(ByteArray.size Z):Int)<1)) (Bk [(0:Int),false]) (Aw (decide ((↑(ByteArray.size Z):Int)>5)) (Bk [(0:Int),false]) (D4 ((Array.toList (ByteArray.data Z))[0]?) fun a=>Aw ((↑(UInt8.toNat a):Int)==48) (Bk [(0:Int),false]) (Gy fu call Z Y fu Z Y 0 0)))) (Ac (CP p) prog fu d):=by kernel_rfl
def Fe(Z:ByteArray)(Y:Int)(X:Nat)(W:ByteArray)(V:Int)(U:Nat)(T S:Int)(Q:Ae):Option Bv:=Kk fu call 142 Tryz.f142 [Z,.sc (.int .u8 Y)] [.r,.r,.r,.l,.r,.l] X ⟨lk [(0,W),(1,.sc (.int .u8 V)),(5,.view 5 1 0 U),(6,T),(7,S)],C4 [(5,.ar false Q)]⟩
theorem Lz(T:ByteArray)(S:Int)(Q:Nat)(Z:ByteArray)(W:Int)(V:Nat)(X Y:Int)(U:Ae):Fe fu call T S (Q+1) Z W V X Y U=(Aw (decide (Y<(↑(ByteArray.size Z):Int))) (As (decide (0<=Y))<|D4 ((Array.toList (ByteArray.data Z))[Y.toNat]?) fun a=>Aw ((↑(UInt8.toNat a):Int)==W) (As (decide (0<=X))<|As (decide (0<=Y))<|As (decide (X.toNat<=Y.toNat)&&decide (Y.toNat<=ByteArray.size Z))<|Aa (ByteArray.extract Z X.toNat Y.toNat) fun a=>ZzA V 1 16 U [a] fun a b=>Aa (wrap .i64 (Y+1)) fun c=>Aa (wrap .i64 (Y+1)) fun e=>Fe fu call T S Q Z W a c e b) (Aa (wrap .i64 (Y+1)) fun a=>Fe fu call T S Q Z W V X a U)) (As (decide (0<=X))<|As (decide (X.toNat<=ByteArray.size Z)&&decide (ByteArray.size Z<=ByteArray.size Z))<|Aa (ByteArray.extract Z X.toNat (ByteArray.size Z)) fun a=>ZzA V 1 16 U [a] fun a b=>As (decide (a*1<=b.length))<|Bk [.own 1 a (b.take (a*1))])):=by kernel_rfl
theorem BJ{p:Option (Ae->Option Bv)}(fu d:Nat)(Z:ByteArray)(Y:Int):Ac (CP p) prog fu (d+1) 142 [Z,.sc (.int .u8 Y)]=(fun (call:Ap)=>Fe fu call Z Y fu Z Y 0 0 0 ([])) (Ac (CP p) prog fu d):=by kernel_rfl
theorem BW{p:Option (Ae->Option Bv)}(fu d:Nat)(Z:Int):Ac (CP p) prog fu (d+1) 144 [.sc (.int .u8 Z)]=(fun (call:Ap)=>Aw (decide (Z>=48)) (Bk [De (decide (Z<=57))]) (Bk [false])) (Ac (CP p) prog fu d):=by kernel_rfl
def Np(Z:ByteArray)(Y:Nat)(X:ByteArray):Option Bv:=Kk fu call 143 Tryz.f143 [Z] [.r] Y ⟨lk [(0,X)],C4 []⟩
def Dn(Z:ByteArray)(Y:Nat)(X:ByteArray)(W:Int):Option Bv:=Kk fu call 143 Tryz.f143 [Z] [.r,.r,.l,.r,.l] Y ⟨lk [(0,X),(3,W)],C4 []⟩
theorem Xi(Y:ByteArray)(Z:Nat)(Gc:0<Z)(X:ByteArray):Np fu call Y Z X=(Dn fu call Y fu X 0):=by cases Z with|zero=>exact absurd Gc (Nat.lt_irrefl 0)|succ Z=>kernel_rfl
theorem Lm(X:ByteArray)(W:Nat)(Y:ByteArray)(Z:Int):Dn fu call X (W+1) Y Z=(Aw (decide (Z<(↑(ByteArray.size Y):Int))) (As (decide (0<=Z))<|D4 ((Array.toList (ByteArray.data Y))[Z.toNat]?) fun a=>Aw (decide ((↑(UInt8.toNat a):Int)>=97)) (As (decide (0<=Z))<|D4 ((Array.toList (ByteArray.data Y))[Z.toNat]?) fun a=>Aw (!decide ((↑(UInt8.toNat a):Int)<=122)) (As (decide (0<=Z))<|D4 ((Array.toList (ByteArray.data Y))[Z.toNat]?) fun a=>Dl (call 144 [.sc (.int .u8 (↑(UInt8.toNat a):Int))]) fun a b=>Ax a fun a=>Ak b<|Aw (!a) (As (decide (0<=Z))<|D4 ((Array.toList (ByteArray.data Y))[Z.toNat]?) fun a=>Aw ((↑(UInt8.toNat a):Int) != 45) (Bk [false]) (Aa (wrap .i64 (Z+1)) fun a=>Dn fu call X W Y a)) (Aa (wrap .i64 (Z+1)) fun a=>Dn fu call X W Y a)) (Aa (wrap .i64 (Z+1)) fun a=>Dn fu call X W Y a)) (As (decide (0<=Z))<|D4 ((Array.toList (ByteArray.data Y))[Z.toNat]?) fun a=>Dl (call 144 [.sc (.int .u8 (↑(UInt8.toNat a):Int))]) fun a b=>Ax a fun a=>Ak b<|Aw (!a) (As (decide (0<=Z))<|D4 ((Array.toList (ByteArray.data Y))[Z.toNat]?) fun a=>Aw ((↑(UInt8.toNat a):Int) != 45) (Bk [false]) (Aa (wrap .i64 (Z+1)) fun a=>Dn fu call X W Y a)) (Aa (wrap .i64 (Z+1)) fun a=>Dn fu call X W Y a))) (Bk [true])):=by kernel_rfl
theorem AX{p:Option (Ae->Option Bv)}(fu d:Nat)(Z:ByteArray):Ac (CP p) prog fu (d+1) 143 [Z]=(fun (call:Ap)=>Aw (decide ((↑(ByteArray.size Z):Int)<1)) (Bk [false]) (Aw (decide ((↑(ByteArray.size Z):Int)>63)) (Bk [false]) (D4 ((Array.toList (ByteArray.data Z))[0]?) fun a=>Aw ((↑(UInt8.toNat a):Int)==45) (Bk [false]) (Aa (wrap .i64 ((↑(ByteArray.size Z):Int)-1)) fun a=>As (decide (0<=a))<|D4 ((Array.toList (ByteArray.data Z))[a.toNat]?) fun a=>Aw ((↑(UInt8.toNat a):Int)==45) (Bk [false]) (Np fu call Z fu Z))))) (Ac (CP p) prog fu d):=by kernel_rfl
def Fj(Z:ByteArray)(Y X:Nat)(W:Int)(V:Ae):Option Bv:=Kk fu call 107 Tryz.f107 [Z] [.r,.r,.r,.l,.r,.l] Y ⟨lk [(3,.view 3 1 0 X),(4,W)],C4 [(3,.ar false V)]⟩
def Fm(Z:ByteArray)(Y:Nat)(X:ByteArray)(W:Int):Option Bv:=Kk fu call 107 Tryz.f107 [Z] [.r,.r,.r,.r,.r,.l,.r,.l] Y ⟨lk [(5,X),(6,W)],C4 []⟩
theorem Jn(W:ByteArray)(V Z:Nat)(Y:Int)(X:Ae):Fj fu call W (V+1) Z Y X=(Aw (decide (Y<(↑Z:Int))) (As (decide (0<=Y)&&decide (Y<(↑Z:Int)))<|Bd (X.getD (0+Y.toNat*1) .top) fun a=>Dl (call 143 [a]) fun a b=>Ax a fun a=>Ak b<|Aw (!a) (Bk [(2:Int)]) (Aa (wrap .i64 (Y+1)) fun a=>Fj fu call W V Z a X)) (Aa (wrap .i64 ((↑Z:Int)-1)) fun a=>As (decide (0<=a)&&decide (a<(↑Z:Int)))<|Bd (X.getD (0+a.toNat*1) .top) fun a=>Fm fu call W fu a 0)):=by kernel_rfl
theorem Jq(X:ByteArray)(W:Nat)(Y:ByteArray)(Z:Int):Fm fu call X (W+1) Y Z=(Aw (decide (Z<(↑(ByteArray.size Y):Int))) (As (decide (0<=Z))<|D4 ((Array.toList (ByteArray.data Y))[Z.toNat]?) fun a=>Dl (call 144 [.sc (.int .u8 (↑(UInt8.toNat a):Int))]) fun a b=>Ax a fun a=>Ak b<|Aw (!a) (Bk [(0:Int)]) (Aa (wrap .i64 (Z+1)) fun a=>Fm fu call X W Y a)) (Bk [(2:Int)])):=by kernel_rfl
theorem Xg{p:Option (Ae->Option Bv)}(fu d:Nat)(Z:ByteArray):Ac (CP p) prog fu (d+1) 107 [Z]=(fun (call:Ap)=>Aw (decide ((↑(ByteArray.size Z):Int)>100)) (Bk [(8:Int)]) (Dl (call 142 [Z,.sc (.int .u8 46)]) fun a b=>Kf 1 a fun a c=>Ak b<|Fj fu call Z fu a 0 c)) (Ac (CP p) prog fu d):=by kernel_rfl
def B7(Z:ByteArray)(Y:Nat)(X:ByteArray)(W V:Int)(U:Bool)(T:ByteArray)(S:Int)(Q:Bool)(P:ByteArray)(O:Int):Option Bv:=Kk fu call 65 Tryz.f65 [Z] [.r,.r,.r,.r,.r,.r,.l,.r,.l] Y ⟨lk [(2,.ptr 2 0),(4,.ptr 4 0),(6,X),(7,W),(8,V)],C4 [(2,.st [U,T,S]),(4,.st [Q,P,O])]⟩
theorem Ia(V:ByteArray)(U:Nat)(Z:ByteArray)(Y X:Int)(T:Bool)(S:ByteArray)(Q:Int)(W:Bool)(P:ByteArray)(O:Int):B7 fu call V (U+1) Z Y X T S Q W P O=(Aw (decide (X>=0)) (As (decide (0<=X))<|D4 ((Array.toList (ByteArray.data Z))[X.toNat]?) fun a=>Aw ((↑(UInt8.toNat a):Int)==58) (Aa (wrap .i64 (X-1)) fun a=>B7 fu call V U Z X a T S Q W P O) (Aa (wrap .i64 (X-1)) fun a=>B7 fu call V U Z Y a T S Q W P O)) (As (decide (0<=Y))<|As (decide (Y.toNat<=ByteArray.size Z))<|Aa (ByteArray.extract Z 0 Y.toNat) fun a=>Gt .i64 (call 107 [a]) fun a=>Aw (a != 0) (Bk [.agg [false,Bl ⟨#[]⟩,(0:Int)],a]) (As (decide (0<=Y))<|As (decide (Y.toNat<=ByteArray.size Z))<|Aa (ByteArray.extract Z 0 Y.toNat) fun a=>Gt .i64 (call 108 [W]) fun b=>Aw (decide (Y<(↑(ByteArray.size Z):Int))) (Aa (wrap .i64 (Y+1)) fun b=>As (decide (0<=b))<|As (decide (b.toNat<=ByteArray.size Z)&&decide (ByteArray.size Z<=ByteArray.size Z))<|Aa (ByteArray.extract Z b.toNat (ByteArray.size Z)) fun b=>Dl (call 109 [b,W]) fun b c=>Bq .i64 b fun b=>Gv c fun c=>Aw (!c) (Bk [.agg [false,Bl ⟨#[]⟩,(0:Int)],(2:Int)]) (Bk [.agg [W,a,b],(0:Int)])) (Bk [.agg [W,a,b],(0:Int)])))):=by kernel_rfl
theorem Tc{p:Option (Ae->Option Bv)}(fu d:Nat)(Z:ByteArray):Ac (CP p) prog fu (d+1) 65 [Z]=(fun (call:Ap)=>Aw (decide ((↑(ByteArray.size Z):Int)>=8)) (As (decide (8<=ByteArray.size Z))<|Aa (ByteArray.extract Z 0 8) fun a=>Dl (call 106 [De (Array.toList (ByteArray.data a)==Array.toList (ByteArray.data (ByteArray.mk #[104,116,116,112,115,58,47,47])))]) fun b c=>Bd b fun b=>Ak c<|Aw (decide ((↑(ByteArray.size Z):Int)<(↑(ByteArray.size b):Int))) (Bk [.agg [false,Bl ⟨#[]⟩,(0:Int)],(2:Int)]) (As (decide (Int.toNat (↑(ByteArray.size b):Int)<=ByteArray.size Z))<|Aa (ByteArray.extract Z 0 (Int.toNat (↑(ByteArray.size b):Int))) fun c=>Aw (!Array.toList (ByteArray.data c)==Array.toList (ByteArray.data b)) (Bk [.agg [false,Bl ⟨#[]⟩,(0:Int)],(2:Int)]) (As (decide (Int.toNat (↑(ByteArray.size b):Int)<=ByteArray.size Z)&&decide (ByteArray.size Z<=ByteArray.size Z))<|Aa (ByteArray.extract Z (Int.toNat (↑(ByteArray.size b):Int)) (ByteArray.size Z)) fun b=>Aa (wrap .i64 ((↑(ByteArray.size b):Int)-1)) fun c=>B7 fu call Z fu b ((↑(ByteArray.size b):Int)) c false (ByteArray.mk #[]) 0 (Array.toList (ByteArray.data a)==Array.toList (ByteArray.data (ByteArray.mk #[104,116,116,112,115,58,47,47]))) (ByteArray.mk #[]) 0))) (Dl (call 106 [false]) fun a b=>Bd a fun a=>Ak b<|Aw (decide ((↑(ByteArray.size Z):Int)<(↑(ByteArray.size a):Int))) (Bk [.agg [false,Bl ⟨#[]⟩,(0:Int)],(2:Int)]) (As (decide (Int.toNat (↑(ByteArray.size a):Int)<=ByteArray.size Z))<|Aa (ByteArray.extract Z 0 (Int.toNat (↑(ByteArray.size a):Int))) fun b=>Aw (!Array.toList (ByteArray.data b)==Array.toList (ByteArray.data a)) (Bk [.agg [false,Bl ⟨#[]⟩,(0:Int)],(2:Int)]) (As (decide (Int.toNat (↑(ByteArray.size a):Int)<=ByteArray.size Z)&&decide (ByteArray.size Z<=ByteArray.size Z))<|Aa (ByteArray.extract Z (Int.toNat (↑(ByteArray.size a):Int)) (ByteArray.size Z)) fun a=>Aa (wrap .i64 ((↑(ByteArray.size a):Int)-1)) fun b=>B7 fu call Z fu a ((↑(ByteArray.size a):Int)) b false (ByteArray.mk #[]) 0 false (ByteArray.mk #[]) 0)))) (Ac (CP p) prog fu d):=by kernel_rfl
theorem Tv{p:Option (Ae->Option Bv)}(fu d:Nat)(W:Int)(Y:Nat)(V:Ae)(X:ByteArray)(U:Bool)(Z:ByteArray):Ac (CP p) prog fu (d+1) 33 [.agg [W,Am 1 Y V,X,U,Z]]=(fun (call:Ap)=>Dl (call 64 [W]) fun a b=>Bd a fun a=>Ak b<|Aw (Array.toList (ByteArray.data a)==Array.toList (ByteArray.data (ByteArray.mk #[]))) (Bk [Bl ⟨#[]⟩,(3:Int)]) (Aw (decide ((↑Y:Int)<1)) (Bk [Bl ⟨#[]⟩,(9:Int)]) (Aw (decide ((↑Y:Int)>64)) (Bk [Bl ⟨#[]⟩,(9:Int)]) (Dl (call 65 [X]) fun a b=>Di a fun a=>Ad a fun a c=>Ax a fun a=>Ad c fun a c=>Bd a fun a=>Cg .i64 c fun a=>Cg .i64 b fun a=>Aw (a != 0) (Bk [Bl ⟨#[]⟩,a]) (Dl (call 64 [W]) fun a b=>Bd a fun a=>Ak b<|As (decide (9+ByteArray.size a<=9223372036854775807))<|Aa (ByteArray.mk #[123,34,116,121,112,101,34,58,34]++a) fun a=>As (decide (ByteArray.size a+15<=9223372036854775807))<|Aa (a++ByteArray.mk #[34,44,34,99,104,97,108,108,101,110,103,101,34,58,34]) fun a=>Dl (call 66 [Am 1 Y V]) fun b c=>Bd b fun b=>Ak c<|As (decide (ByteArray.size a+ByteArray.size b<=9223372036854775807))<|Aa (a++b) fun a=>As (decide (ByteArray.size a+12<=9223372036854775807))<|Aa (a++ByteArray.mk #[34,44,34,111,114,105,103,105,110,34,58,34]) fun a=>As (decide (ByteArray.size a+ByteArray.size X<=9223372036854775807))<|Aa (a++X) fun a=>As (decide (ByteArray.size a+16<=9223372036854775807))<|Aa (a++ByteArray.mk #[34,44,34,99,114,111,115,115,79,114,105,103,105,110,34,58]) fun a=>Aw (!U) (Aw (!Array.toList (ByteArray.data Z)==Array.toList (ByteArray.data (ByteArray.mk #[]))) (Bk [Bl ⟨#[]⟩,(4:Int)]) (As (decide (ByteArray.size a+6<=9223372036854775807))<|Aa (a++ByteArray.mk #[102,97,108,115,101,125]) fun a=>Bk [a,(0:Int)])) (Dl (call 65 [Z]) fun b c=>Di b fun b=>Ad b fun b e=>Ax b fun b=>Ad e fun b e=>Bd b fun b=>Cg .i64 e fun b=>Cg .i64 c fun b=>Aw (b != 0) (Bk [Bl ⟨#[]⟩,b]) (As (decide (ByteArray.size a+18<=9223372036854775807))<|Aa (a++ByteArray.mk #[116,114,117,101,44,34,116,111,112,79,114,105,103,105,110,34,58,34]) fun a=>As (decide (ByteArray.size a+ByteArray.size Z<=9223372036854775807))<|Aa (a++Z) fun a=>As (decide (ByteArray.size a+2<=9223372036854775807))<|Aa (a++ByteArray.mk #[34,125]) fun a=>Bk [a,(0:Int)]))))))) (Ac (CP p) prog fu d):=by kernel_rfl
end
theorem Amg{l:Al}(hl:Cz l)(a b:Nat):(Ab l).extract a b=Ab ((l.drop a).take (b-a)):=by
 have h:(Ab l).extract a b=Ab (Cs ((Ab l).extract a b)):=(Es _).symm;rw[h]
 congr 1
 unfold Cs;rw[ByteArray.data_extract,Array.toList_extract,List.extract_eq_take_drop,List.map_take,List.map_drop];have:(List.map (fun b:UInt8=>(b.toNat:Int)) (Ab l).data.toList)=l:=C7 hl;rw[this]
theorem IF{a b:Al}(ha:Cz a)(hb:Cz b):(Array.toList (Ab a).data==Array.toList (Ab b).data)=decide (a=b):=by
 rw[Bool.eq_iff_iff,beq_iff_eq,decide_eq_true_iff];constructor
 ·intro h
  have h2:Ab a=Ab b:=by
   cases hx:Ab a;cases hy:Ab b;rw[hx,hy] at h;exact congrArg ByteArray.mk (Array.toList_inj.1 h)
  have h3:=congrArg Cs h2
  rwa [C7 ha,C7 hb] at h3
 ·rintro rfl;rfl
theorem Ag0{w l:Al}(h:w.length<=l.length):decide (l.take w.length=w)=w.isPrefixOf l:=by rw[Bool.eq_iff_iff,decide_eq_true_iff,List.isPrefixOf_iff_prefix,List.prefix_iff_eq_take];exact⟨fun h=>h.symm,fun h=>h.symm⟩
theorem YV(c:Int):∀{cur:Al},(∀x∈cur,x≠c)->∀r,Bg c (cur++c::r)=cur::Bg c r
 |[],_,r=>by
  show (if c=c then []::Bg c r else _)=_;rw[Cr rfl]
 |x::cur,h,r=>by
  have hx:=h x (by simp);have ih:=YV c (cur:=cur) (fun y hy=>h y (by simp[hy])) r;show (if x=c then []::Bg c (cur++c::r) else match Bg c (cur++c::r) with|a::t=>(x::a)::t|[]=>[[x]])=_;rw[B3 hx,ih]
theorem UU(c:Int):∀{cur:Al},(∀x∈cur,x≠c)->Bg c cur=[cur]
 |[],_=>rfl
 |x::cur,h=>by
  have hx:=h x (by simp);have ih:=UU c (cur:=cur) (fun y hy=>h y (by simp[hy]));show (if x=c then []::Bg c cur else match Bg c cur with|a::t=>(x::a)::t|[]=>[[x]])=_;rw[B3 hx,ih]
section
variable {fu d:Nat}{p:Option (Ae->Option Bv)}
theorem Ah7{c:Int}:Ac (CP p) prog fu (d+1) 144 [.sc (.int .u8 c)]=some ⟨[De (DW c)],[]⟩:=by
 rw[BW];unfold DW;by_cases h:48<=c
 ·have a1:=dT (q:=c>=48) h;have a2:=dT h;simp only[Be,Bf,a1,a2,XY]
 ·have a1:=dF (q:=c>=48) h;have a2:=dF h;simp only[Be,Bf,a1,a2,UR]
def lbB(x:Int):Bool:=ltB x||x==45
theorem Amb{a0:ByteArray}{l:Al}(hB:Cz l)(hs:l.length<=63):∀(r:Al)(i nn:Nat),l.drop i=r->r.length+1<=nn ->
  Dn fu (Ac (CP p) prog fu (d+1)) a0 nn (Ab l) (i:Int)=some ⟨[De (r.all lbB)],[]⟩
 |[],i,nn,hd,hn=>by
  obtain⟨k,rfl⟩:∃k,nn=k+1:=⟨nn-1,by omega⟩
  have hi:=drop_nil hd;have a1:decide ((i:Int)<(l.length:Int))=false:=dF (by omega);rw[Lm];simp only[Be,Bf,Ai,a1];rfl
 |c::r,i,nn,hd,hn=>by
  obtain⟨k,rfl⟩:∃k,nn=k+1:=⟨nn-1,by omega⟩
  obtain⟨hi,hc,Ua⟩:=D8 hd;have ih:=Amb (a0:=a0) hB hs r (i+1) k Ua (by simp at hn;omega)
  have OW:=hB c (List.mem_of_getElem? hc);have a1:decide ((i:Int)<(l.length:Int))=true:=dT (by omega);have a2:decide ((0:Int)<=(i:Int))=true:=by simp
  have a3:(Array.toList (Ab l).data)[Int.toNat (i:Int)]?=some c.toNat.toUInt8:=by
   rw[Jd];show (l.map fun n=>n.toNat.toUInt8)[i]?=_;rw[List.getElem?_map,hc];rfl
  have a4:=Oh OW;have a5:wrap .i64 ((i:Int)+1)=((i+1:Nat):Int):=B0
  have e:Ac (CP p) prog fu (d+1) 144 [.sc (.int .u8 c)]=_:=Ah7 (fu:=fu) (d:=d) (p:=p) (c:=c);have step:(c::r).all lbB=(lbB c&&r.all lbB):=List.all_cons;rw[Lm,step];by_cases hA:97<=c/\c<=122
  ·have q1:=dT (q:=c>=97) hA.1;have q2:=bT hA.2;have hl:lbB c=true:=by unfold lbB ltB;simp[hA]
   rw[hl,XY];simp only[Be,Bf,Ai,a1,a2,a3,a4,a5,q1,q2];exact ih
  cases hD:DW c
  ·rw[hD] at e
   have Ck:ltB c=false:=by
    unfold ltB;rw[hD,Bool.or_false];simp;omega
   by_cases hM:c=45
   ·subst hM;have q1:decide ((45:Int)>=97)=false:=rfl;have q3:((45:Int) != 45)=false:=rfl;have hl:lbB 45=true:=rfl;rw[hl,XY];simp only[Be,Bf,Ai,a1,a2,a3,a4,a5,q1,e,Gw,q3];exact ih
   ·have q3:(c != 45)=true:=by simp[hM]
    have hl:lbB c=false:=by unfold lbB;simp[Ck,hM]
    rw[hl,UR];by_cases h97:97<=c
    ·have q1:=dT (q:=c>=97) h97;have q2:=bF (q:=c<=122) (by omega);simp only[Be,Bf,Ai,a1,a2,a3,a4,a5,q1,q2,e,Gw,q3]
    ·have q1:=dF (q:=c>=97) h97;simp only[Be,Bf,Ai,a1,a2,a3,a4,a5,q1,e,Gw,q3]
  ·rw[hD] at e;have h48:=(JU c).1 hD;have hl:lbB c=true:=by unfold lbB ltB;simp[hD]
   have q1:=dF (q:=c>=97) (by omega);rw[hl,XY];simp only[Be,Bf,Ai,a1,a2,a3,a4,a5,q1,e,Fl];exact ih
theorem Auh{l:Al}(hB:Cz l)(B2:100<=fu):Ac (CP p) prog fu (d+2) 143 [Bl (Ab l)]=some ⟨[De (Ll l)],[]⟩:=by
 rw[AX];by_cases h1:1<=l.length
 ·have a1:decide (((l.length:Nat):Int)<1)=false:=dF (by omega);by_cases h2:l.length<=63
  ·have a2:decide (((l.length:Nat):Int)>63)=false:=dF (by omega)
   have e0:Ll l=(!(l.head?==some 45) && !(l.getLast?==some 45)&&l.all lbB):=by
    unfold Ll;rw[dT h1,dT h2];rfl
   cases l with
   |nil=>simp at h1
   |cons c r=>
    have OW:=hB c (by simp);have a3:(Array.toList (Ab (c::r)).data)[0]?=some c.toNat.toUInt8:=rfl;have a4:=Oh OW;by_cases h0:c=45
    ·subst h0;have q:((45:Int)==45)=true:=rfl;have e:Ll (45::r)=false:=by rw[e0];simp
     rw[e];simp only[Be,Bf,Ai,a1,a2,a3,a4,q]
    ·have q:(c==45)=false:=by simp[h0]
     obtain⟨z,hz⟩:∃z,(c::r).getLast?=some z:=⟨_,List.getLast?_eq_some_getLast (by simp)⟩
     have Yq:(c::r)[(c::r).length-1]?=some z:=by rw[<-List.getLast?_eq_getElem?];exact hz
     have hzB:=hB z (List.mem_of_getElem? Yq);have b1:wrap .i64 (((c::r).length:Int)-1)=(((c::r).length-1:Nat):Int):=B0
     have b2:decide ((0:Int)<=(((c::r).length-1:Nat):Int))=true:=dT (by omega)
     have b3:(Array.toList (Ab (c::r)).data)[Int.toNat (((c::r).length-1:Nat):Int)]?=some z.toNat.toUInt8:=by
      rw[Jd];show ((c::r).map fun n=>n.toNat.toUInt8)[(c::r).length-1]?=_;rw[List.getElem?_map,Yq];rfl
     have b4:=Oh hzB;by_cases A5i:z=45
     ·subst A5i;have q2:((45:Int)==45)=true:=rfl;have e:Ll (c::r)=false:=by rw[e0,hz];simp
      rw[e];simp only[Be,Bf,Ai,a1,a2,a3,a4,q,b1,b2,b3,b4,q2]
     ·have q2:(z==45)=false:=by simp[A5i]
      have e:Ll (c::r)=(c::r).all lbB:=by rw[e0,hz];simp[h0,A5i]
      have hl:=Amb (fu:=fu) (d:=d) (p:=p) (a0:=Ab (c::r)) hB h2 (c::r) 0 fu rfl (by omega);rw[e];simp only[Be,Bf,Ai,a1,a2,a3,a4,q,b1,b2,b3,b4,q2];rw[Xi (Gc:=by omega)];exact hl
  ·have a2:decide (((l.length:Nat):Int)>63)=true:=dT (by omega);have e:Ll l=false:=by unfold Ll;simp[h2]
   rw[e];simp only[Be,Bf,Ai,a1,a2]
 ·have a1:decide (((l.length:Nat):Int)<1)=true:=dT (by omega);have e:Ll l=false:=by unfold Ll;simp[h1]
  rw[e];simp only[Be,Bf,Ai,a1]
theorem Ab4{call:Ap}{a0:ByteArray}{a1 c:Int}{l:Al}(hB:Cz l)(hl:l.length<=100000):∀(r cur:Al)(done:List Al) (f nn:Nat),l.drop f=cur++r->(∀x∈cur,x≠c)->done.length<=f->f<=l.length->r.length+1<=nn ->
  Fe fu call a0 a1 nn (Ab l) c done.length (f:Int) ((f+cur.length:Nat):Int) (done.map Y0)=some ⟨[.own 1 (done++Bg c (cur++r)).length ((done++Bg c (cur++r)).map Y0)],[]⟩
 |[],cur,done,f,nn,hd,hc,EB,hf,hn=>by
  obtain⟨k,rfl⟩:∃k,nn=k+1:=⟨nn-1,by omega⟩
  rw[List.append_nil] at hd;have Ek:=congrArg List.length hd;rw[List.length_drop] at Ek;have b1:decide (((f+cur.length:Nat):Int)<(l.length:Int))=false:=dF (by omega);have b2:decide ((0:Int)<=(f:Int))=true:=by simp
  have b3:decide (Int.toNat (f:Int)<=l.length)=true:=dT (by omega)
  have b4:(Ab l).extract (Int.toNat (f:Int)) l.length=Ab cur:=by
   rw[Amg hB,Jd,hd,Hz (by omega)]
  have b5:decide (done.length*1<=List.length (done.map Y0))=true:=by simp
  have b6:decide ((done.length+1)*16<=1099511627776)=true:=dT (by omega);have b7:decide (done.length+1<=1099511627776)=true:=dT (by omega)
  have b8:List.take (done.length*1) (done.map Y0)++[PV.sc (.string (Ab cur))]=(done++[cur]).map Y0:=by
   rw[Hz (by simp)];simp[Y0]
  have b9:decide ((done.length+1)*1<=List.length ((done++[cur]).map Y0))=true:=by simp
  have c1:List.take ((done.length+1)*1) ((done++[cur]).map Y0)=(done++[cur]).map Y0:=Hz (by simp);rw[Lz,List.append_nil,UU c hc];simp only[Be,Bf,Ai,dle,b1,b2,b3,b4,b5,b6,b7,b8,b9,c1];simp
 |x::r,cur,done,f,nn,hd,hc,EB,hf,hn=>by
  obtain⟨k,rfl⟩:∃k,nn=k+1:=⟨nn-1,by omega⟩
  have Ek:=congrArg List.length hd;rw[List.length_drop] at Ek;simp only[Wy,Tm] at Ek
  have hx:l[f+cur.length]?=some x:=by
   have:(l.drop f)[cur.length]?=some x:=by rw[hd];simp
   rwa [List.getElem?_drop] at this
  have hxB:=hB x (List.mem_of_getElem? hx);have b1:decide (((f+cur.length:Nat):Int)<(l.length:Int))=true:=dT (by omega);have b2:decide ((0:Int)<=((f+cur.length:Nat):Int))=true:=dT (by omega);have b2':decide ((0:Int)<=(f:Int))=true:=by simp
  have b3:(Array.toList (Ab l).data)[Int.toNat ((f+cur.length:Nat):Int)]?=some x.toNat.toUInt8:=by
   rw[Jd];show (l.map fun n=>n.toNat.toUInt8)[f+cur.length]?=_;rw[List.getElem?_map,hx];rfl
  have b4:=Oh hxB;have b5:wrap .i64 (((f+cur.length:Nat):Int)+1)=((f+cur.length+1:Nat):Int):=B0
  rw[Lz];by_cases hxc:x=c
  ·subst hxc;have q:(x==x)=true:=by simp
   have c1:decide (Int.toNat (f:Int)<=Int.toNat ((f+cur.length:Nat):Int))=true:=dT (by omega);have c2:decide (Int.toNat ((f+cur.length:Nat):Int)<=l.length)=true:=dT (by omega)
   have c3:(Ab l).extract (Int.toNat (f:Int)) (Int.toNat ((f+cur.length:Nat):Int))=Ab cur:=by
    rw[Amg hB,Jd,Jd,hd,Nat.add_sub_cancel_left,List.take_left]
   have c4:decide (done.length*1<=List.length (done.map Y0))=true:=by simp
   have c5:decide ((done.length+1)*16<=1099511627776)=true:=dT (by omega);have c6:decide (done.length+1<=1099511627776)=true:=dT (by omega)
   have c7:List.take (done.length*1) (done.map Y0)++[PV.sc (.string (Ab cur))]=(done++[cur]).map Y0:=by
    rw[Hz (by simp)];simp[Y0]
   have Ua:l.drop (f+cur.length+1)=[]++r:=by
    rw[<-List.drop_drop,<-List.drop_drop,hd,List.drop_left];rfl
   have ih:=Ab4 (call:=call) (a0:=a0) (a1:=a1) (c:=x) hB hl r [] (done++[cur]) (f+cur.length+1) k Ua (fun y hy=>nomatch hy) (by simp;omega) (by omega) (by simp at hn;omega)
   rw[YV x hc];simp only[Be,Bf,Ai,b1,b2,b2',b3,b4,q,c1,c2,c3,c4,c5,c6,c7,b5];rw[show (done++[cur]).length=done.length+1 by simp,show f+cur.length+1+([]:Al).length=f+cur.length+1 from rfl] at ih;refine ih.trans ?_;simp
  ·have q:(x==c)=false:=by simp[hxc]
   have ih:=Ab4 (call:=call) (a0:=a0) (a1:=a1) hB hl r (cur++[x]) done f k (by rw[hd];simp) (fun y hy=>by
    rcases B5.1 hy with hy|hy
    ·exact hc y hy
    ·simp at hy;subst hy;exact hxc) EB hf (by simp at hn;omega)
   simp only[Be,Bf,Ai,b1,b2,b3,b4,q,b5];rw[show f+(cur++[x]).length=f+cur.length+1 by simp;omega] at ih
   refine ih.trans ?_;simp
theorem Aua{c:Int}{l:Al}(hB:Cz l)(hl:l.length<=100000)(B2:l.length+1<=fu):Ac (CP p) prog fu (d+1) 142 [Bl (Ab l),.sc (.int .u8 c)]=some ⟨[.own 1 (Bg c l).length ((Bg c l).map Y0)],[]⟩:=by rw[BJ];have:=Ab4 (fu:=fu) (call:=Ac (CP p) prog fu d) (a0:=Ab l) (a1:=c) (c:=c) hB hl l [] [] 0 fu rfl (fun y hy=>nomatch hy) (Ci _) (by omega) B2;exact this
theorem Af7{a0:ByteArray}{l:Al}(hB:Cz l)(hs:l.length<=100000):∀(r:Al)(i nn:Nat),l.drop i=r->r.length+1<=nn ->
  Fm fu (Ac (CP p) prog fu (d+1)) a0 nn (Ab l) (i:Int)=some ⟨[Ar (if r.all DW=true then 2 else 0)],[]⟩
 |[],i,nn,hd,hn=>by
  obtain⟨k,rfl⟩:∃k,nn=k+1:=⟨nn-1,by omega⟩
  have hi:=drop_nil hd;have a1:decide ((i:Int)<(l.length:Int))=false:=dF (by omega);rw[Jq];simp only[Be,Bf,Ai,a1];rfl
 |c::r,i,nn,hd,hn=>by
  obtain⟨k,rfl⟩:∃k,nn=k+1:=⟨nn-1,by omega⟩
  obtain⟨hi,hc,Ua⟩:=D8 hd;have ih:=Af7 (a0:=a0) hB hs r (i+1) k Ua (by simp at hn;omega)
  have OW:=hB c (List.mem_of_getElem? hc);have a1:decide ((i:Int)<(l.length:Int))=true:=dT (by omega);have a2:decide ((0:Int)<=(i:Int))=true:=by simp
  have a3:(Array.toList (Ab l).data)[Int.toNat (i:Int)]?=some c.toNat.toUInt8:=by
   rw[Jd];show (l.map fun n=>n.toNat.toUInt8)[i]?=_;rw[List.getElem?_map,hc];rfl
  have a4:=Oh OW;have a5:wrap .i64 ((i:Int)+1)=((i+1:Nat):Int):=B0
  have e:Ac (CP p) prog fu (d+1) 144 [.sc (.int .u8 c)]=_:=Ah7 (fu:=fu) (d:=d) (p:=p) (c:=c);rw[Jq,List.all_cons];cases hD:DW c
  ·rw[hD] at e;simp only[Be,Bf,Ai,a1,a2,a3,a4,e,Gw,UR,Bool.false_eq_true,if_false]
  ·rw[hD] at e;simp only[Be,Bf,Ai,a1,a2,a3,a4,e,Fl,XY,a5];exact ih
theorem XT{a0:ByteArray}(B2:2000<=fu){ls:List Al}(hB:∀x∈ls,Cz x/\x.length<=1000)(h0:ls≠[])(hN:ls.length<=1000):∀(r:List Al) (i nn:Nat),ls.drop i=r->r.length+1<=nn ->
  Fj fu (Ac (CP p) prog fu (d+2)) a0 nn ls.length (i:Int) (ls.map Y0)=some ⟨[Ar (if r.all Ll=false then 2 else if (ls.getLastD []).all DW=true then 2 else 0)],[]⟩
 |[],i,nn,hd,hn=>by
  obtain⟨k,rfl⟩:∃k,nn=k+1:=⟨nn-1,by omega⟩
  have hi:=drop_nil hd;have Ags:0<ls.length:=List.length_pos_iff.2 h0;have a1:decide ((i:Int)<(ls.length:Int))=false:=dF (by omega);have a2:wrap .i64 ((ls.length:Int)-1)=((ls.length-1:Nat):Int):=B0
  have a3:decide ((0:Int)<=((ls.length-1:Nat):Int))=true:=dT (by omega);have a4:decide (((ls.length-1:Nat):Int)<(ls.length:Int))=true:=dT (by omega)
  have SJ:ls.getLastD []=ls[ls.length-1]'(by omega):=by
   rw[List.getLastD_eq_getLast?,List.getLast?_eq_getElem?,List.getElem?_eq_getElem (by omega)];rfl
  have a5:List.getD (ls.map Y0) (0+Int.toNat ((ls.length-1:Nat):Int)*1) PV.top=Bl (Ab (ls.getLastD [])):=by
   rw[Jd,Ie,J1,List.getD_eq_getElem?_getD,List.getElem?_map,List.getElem?_eq_getElem (by omega),SJ];rfl
  have hm:=hB (ls.getLastD []) (by rw[SJ];exact List.getElem_mem _)
  have hdl:=Af7 (fu:=fu) (d:=d+1) (p:=p) (a0:=a0) hm.1 (by omega) (ls.getLastD []) 0 fu rfl (by omega);rw[Jn];simp only[Be,Bf,a1,a2,a3,a4,a5,List.all_nil,Bool.true_eq_false,if_false];exact hdl
 |x::r,i,nn,hd,hn=>by
  obtain⟨k,rfl⟩:∃k,nn=k+1:=⟨nn-1,by omega⟩
  obtain⟨hi,hc,Ua⟩:=D8 hd;have ih:=XT (a0:=a0) B2 hB h0 hN r (i+1) k Ua (by simp at hn;omega)
  have hm:=hB x (List.mem_of_getElem? hc);have e:Ac (CP p) prog fu (d+2) 143 [Bl (Ab x)]=_:=Auh (fu:=fu) (d:=d) (p:=p) hm.1 (by omega);have a1:decide ((i:Int)<(ls.length:Int))=true:=dT (by omega);have a2:decide ((0:Int)<=(i:Int))=true:=by simp
  have a5:List.getD (ls.map Y0) (0+Int.toNat (i:Int)*1) PV.top=Bl (Ab x):=by
   rw[Jd,Ie,J1,List.getD_eq_getElem?_getD,List.getElem?_map,hc];rfl
  have a6:wrap .i64 ((i:Int)+1)=((i+1:Nat):Int):=B0
  rw[Jn];cases hq:Ll x
  ·rw[hq] at e;have:((x::r).all Ll=false):=by simp[hq]
   rw[Cr this];simp only[Be,Bf,a1,a2,a5,e,Gw]
  ·rw[hq] at e;have:(x::r).all Ll=r.all Ll:=by simp[hq]
   rw[this];simp only[Be,Bf,a1,a2,a5,e,Fl,a6];exact ih
theorem Az3{l:Al}(hB:Cz l)(hs:l.length<=1000000)(B2:2000<=fu):Ac (CP p) prog fu (d+4) 107 [Bl (Ab l)]=some ⟨[Ar (U8 l)],[]⟩:=by
 rw[Xg];unfold U8;by_cases h:100<l.length
 ·have a1:decide (((l.length:Nat):Int)>100)=true:=dT (by omega);rw[Cr h];simp only[Be,Bf,Ai,a1]
 ·have a1:decide (((l.length:Nat):Int)>100)=false:=dF (by omega);have e:Ac (CP p) prog fu (d+3) 142 [Bl (Ab l),.sc (.int .u8 46)]=_:=Aua (fu:=fu) (d:=d+2) (p:=p) (c:=46) hB (by omega) (by omega);have hn:=DJ 46 l;have hd:=XT (a0:=Ab l) (fu:=fu) (d:=d+1) (p:=p) (by omega) (ls:=Bg 46 l) (fun x hx=>⟨(BD 46 hB x hx).1,by have:=(BD 46 hB x hx).2;omega⟩) (Rx 46 l) (by omega) (Bg 46 l) 0 fu rfl (by omega)
  rw[B3 h];simp only[Be,Bf,Ai,a1,e];exact hd
end
section
variable {fu d:Nat}{p:Option (Ae->Option Bv)}
theorem Agl(s:Bool):Ac (CP p) prog fu (d+1) 108 [De s]=some ⟨[Ar (dfl s)],[]⟩:=by rw[R8];cases s<;>simp only[Be,Bf]<;>rfl
theorem VJ{a0:ByteArray}{l:Al}{s a1:Bool}(hB:Cz l)(hs:l.length<=5):∀(r:Al)(i nn:Nat)(n:Int),l.drop i=r->r.length+1<=nn->0<=n->n<10 ^ i ->
  Gy fu (Ac (CP p) prog fu (d+1)) a0 a1 nn (Ab l) s n (i:Int)=some (if r.all DW=true then ⟨[Ar (r.foldl (fun n x=>10*n+(x-48)) n),De (decide (r.foldl (fun n x=>10*n+(x-48)) n<=65535)&&decide (r.foldl (fun n x=>10*n+(x-48)) n≠dfl s))],[]⟩ else ⟨[Ar 0,De false],[]⟩)
 |[],i,nn,n,hd,hn,h0,h1=>by
  obtain⟨k,rfl⟩:∃k,nn=k+1:=⟨nn-1,by omega⟩
  have hi:=drop_nil hd;have a1':decide ((i:Int)<(l.length:Int))=false:=dF (by omega);have e:Ac (CP p) prog fu (d+1) 108 [De s]=_:=Agl (fu:=fu) (d:=d) (p:=p) s;rw[Mm];show _=some (Bv.mk [Ar n,De (decide (n<=65535)&&decide (n≠dfl s))] []);by_cases hv:n<=65535
  ·have q:=dT hv
   have q2:(n != dfl s)=decide (n≠dfl s):=by
    by_cases h:n=dfl s<;>simp[h]
   simp only[Be,Bf,Ai,a1',q,e,q2,XY]
  ·have q:=dF hv;simp only[Be,Bf,Ai,a1',q,UR]
 |c::r,i,nn,n,hd,hn,h0,h1=>by
  obtain⟨k,rfl⟩:∃k,nn=k+1:=⟨nn-1,by omega⟩
  obtain⟨hi,hc,Ua⟩:=D8 hd;have OW:=hB c (List.mem_of_getElem? hc)
  have hp:(10:Int) ^ i<=10 ^ 4:=by
   have h:=Nat.pow_le_pow_right (n:=10) (by omega) (show i<=4 by omega)
   exact_mod_cast h
  have hp2:(10:Int) ^ (i+1)=10 ^ i*10:=Int.pow_succ ..;have a1':decide ((i:Int)<(l.length:Int))=true:=dT (by omega);have a2:decide ((0:Int)<=(i:Int))=true:=by simp
  have a3:(Array.toList (Ab l).data)[Int.toNat (i:Int)]?=some c.toNat.toUInt8:=by
   rw[Jd];show (l.map fun n=>n.toNat.toUInt8)[i]?=_;rw[List.getElem?_map,hc];rfl
  have a4:=Oh OW;have e:Ac (CP p) prog fu (d+1) 144 [.sc (.int .u8 c)]=_:=Ah7 (fu:=fu) (d:=d) (p:=p) (c:=c);rw[Mm];cases hD:DW c
  ·rw[hD] at e;have ea:(c::r).all DW=false:=by rw[List.all_cons,hD,UR]
   rw[ea];simp only[Be,Bf,Ai,a1',a2,a3,a4,e,Gw,Bool.false_eq_true,if_false]
  ·rw[hD] at e;have hq:=(JU c).1 hD;have a5:wrap .i64 (10*n)=10*n:=Bn;have a6:wrap .u8 (c-48)=c-48:=Ow (by omega) (by omega);have a7:wrap .i64 (c-48)=c-48:=Bn;have a8:wrap .i64 (10*n+(c-48))=10*n+(c-48):=Bn;have a9:wrap .i64 ((i:Int)+1)=((i+1:Nat):Int):=B0
   have ih:=VJ (a0:=a0) (s:=s) (a1:=a1) hB hs r (i+1) k (10*n+(c-48)) Ua (by simp at hn;omega) (by omega) (by omega)
   have ea:(c::r).all DW=r.all DW:=by rw[List.all_cons,hD,XY]
   simp only[Be,Bf,Ai,a1',a2,a3,a4,e,Fl,a5,a6,a7,a8,a9];rw[ih,ea];rfl
theorem Ax7{l:Al}{s:Bool}(hB:Cz l)(B2:100<=fu):Ac (CP p) prog fu (d+2) 109 [Bl (Ab l),De s]=some (if Kd l=true then ⟨[Ar (FS l),De (decide (FS l<=65535)&&decide (FS l≠dfl s))],[]⟩ else ⟨[Ar 0,De false],[]⟩):=by
 rw[DX];by_cases h1:1<=l.length
 ·by_cases h2:l.length<=5
  ·have a1:decide (((l.length:Nat):Int)<1)=false:=dF (by omega);have a2:decide (((l.length:Nat):Int)>5)=false:=dF (by omega);cases l with
   |nil=>simp at h1
   |cons c r=>
    have OW:=hB c (by simp);have a3:(Array.toList (Ab (c::r)).data)[0]?=some c.toNat.toUInt8:=rfl;have a4:=Oh OW;by_cases h0:c=48
    ·subst h0;have e:Kd (48::r)=false:=by unfold Kd;simp
     have q:((48:Int)==48)=true:=rfl;rw[e];simp only[Be,Bf,Ai,a1,a2,a3,a4,q,Bool.false_eq_true,if_false]
    ·have q:(c==48)=false:=by simp[h0]
     have e:Kd (c::r)=(c::r).all DW:=by
      unfold Kd;rw[dT h1,dT h2];simp[h0]
     have hl:=VJ (fu:=fu) (d:=d) (p:=p) (a0:=Ab (c::r)) (a1:=s) (s:=s) hB h2 (c::r) 0 fu 0 rfl (by omega) (by omega) (by decide);rw[e];simp only[Be,Bf,Ai,a1,a2,a3,a4,q];exact hl
  ·have a1:decide (((l.length:Nat):Int)<1)=false:=dF (by omega);have a2:decide (((l.length:Nat):Int)>5)=true:=dT (by omega);have e:Kd l=false:=by unfold Kd;simp[h2]
   rw[e];simp only[Be,Bf,Ai,a1,a2,Bool.false_eq_true,if_false]
 ·have a1:decide (((l.length:Nat):Int)<1)=true:=dT (by omega);have e:Kd l=false:=by unfold Kd;simp[h1]
  rw[e];simp only[Be,Bf,Ai,a1,Bool.false_eq_true,if_false]
theorem A5v{a0 s4 s7:ByteArray}{y3 y6:Bool}{y5 y8:Int}{r:Al}(hr:Cz r)(hrl:r.length<=1000000)(B2:2000<=fu){nn:Nat}:∃o1 o2 o3,B7 fu (Ac (CP p) prog fu (d+4)) a0 (nn+1) (Ab r) ((B1 58 r).length:Int) (-1) y3 s4 y5 y6 s7 y8=some ⟨[.agg [De o1,Bl o2,Ar o3],Ar (AO y6 r)],[]⟩:=by
 have Tl:=QY 58 r;have hbB:Cz (B1 58 r):=by rw[R4];exact fun x hx=>hr x (List.mem_of_mem_take hx)
 have hdB:Cz (r.drop ((B1 58 r).length+1)):=fun x hx=>hr x (List.mem_of_mem_drop hx);have c2:Ac (CP p) prog fu (d+4) 107 [Bl (Ab (B1 58 r))]=_:=Az3 (fu:=fu) (d:=d) (p:=p) hbB (by omega) B2;have c3:Ac (CP p) prog fu (d+4) 108 [De y6]=_:=Agl (fu:=fu) (d:=d+3) (p:=p) y6;have c4:Ac (CP p) prog fu (d+4) 109 [Bl (Ab (r.drop ((B1 58 r).length+1))),De y6]=_:=Ax7 (fu:=fu) (d:=d+2) (p:=p) (s:=y6) hdB (by omega);have a1:decide ((-1:Int)>=0)=false:=rfl;have a2:decide ((0:Int)<=((B1 58 r).length:Int))=true:=by simp
 have a3:decide (Int.toNat ((B1 58 r).length:Int)<=r.length)=true:=dT (by omega);have a4:(Ab r).extract 0 (Int.toNat ((B1 58 r).length:Int))=Ab (B1 58 r):=by rw[Jd,Wo hr,<-R4]
 rw[Ia];unfold AO;by_cases hh:U8 (B1 58 r)=0
 ·have z:((0:Int) != 0)=false:=rfl;rw[hh] at c2;simp only[ne_eq,hh,not_true_eq_false,if_false];by_cases hw:(B1 58 r).length<r.length
  ·have a5:=dT (q:=((B1 58 r).length:Int)<(r.length:Int)) (by omega);have a6:wrap .i64 (((B1 58 r).length:Int)+1)=(((B1 58 r).length+1:Nat):Int):=B0
   have a7:decide ((0:Int)<=(((B1 58 r).length+1:Nat):Int))=true:=dT (by omega);have a8:decide (Int.toNat (((B1 58 r).length+1:Nat):Int)<=r.length)=true:=dT (by omega);have a9:(Ab r).extract (Int.toNat (((B1 58 r).length+1:Nat):Int)) r.length=Ab (r.drop ((B1 58 r).length+1)):=by rw[Jd,X5 hr]
   rw[B3 (show ¬(B1 58 r).length=r.length by omega)];by_cases hp:Kd (r.drop ((B1 58 r).length+1))=true
   ·rw[Cr hp] at c4;by_cases hv:FS (r.drop ((B1 58 r).length+1))<=65535/\FS (r.drop ((B1 58 r).length+1))≠dfl y6
    ·rw[dT hv.1,dT hv.2] at c4;rw[Cr ⟨hp,hv.1,hv.2⟩];exact⟨_,_,_,by simp only[Be,Bf,Ai,dle,a1,a2,a3,a4,c2,z,c3,a5,a6,a7,a8,a9,c4,Bool.and_true,Fl];rfl⟩
    ·have hb:(decide (FS (r.drop ((B1 58 r).length+1))<=65535)&&decide (FS (r.drop ((B1 58 r).length+1))≠dfl y6))=false:=by
      rw[Bool.eq_false_iff];intro h;rw[Fc,decide_eq_true_iff,decide_eq_true_iff] at h;exact hv h
     rw[hb] at c4;rw[B3 (by rintro⟨_,h1,h2⟩;exact hv ⟨h1,h2⟩)]
     exact⟨_,_,_,by simp only[Be,Bf,Ai,dle,a1,a2,a3,a4,c2,z,c3,a5,a6,a7,a8,a9,c4,Gw];rfl⟩
   ·rw[B3 hp] at c4;rw[B3 (by rintro⟨h,_,_⟩;exact hp h)]
    exact⟨_,_,_,by simp only[Be,Bf,Ai,dle,a1,a2,a3,a4,c2,z,c3,a5,a6,a7,a8,a9,c4,Gw];rfl⟩
  ·have a5:=dF (q:=((B1 58 r).length:Int)<(r.length:Int)) (by omega);rw[Cr (show (B1 58 r).length=r.length by omega)];exact⟨_,_,_,by simp only[Be,Bf,Ai,a1,a2,a3,a4,c2,z,c3,a5];rfl⟩
 ·have b1:(U8 (B1 58 r) != 0)=true:=by simp[hh]
  simp only[ne_eq,hh,not_false_eq_true,if_true];exact⟨_,_,_,by simp only[Be,Bf,Ai,a1,a2,a3,a4,c2,b1];rfl⟩
theorem Aud{r:Al}{k:Nat}(hk:k<r.length){c:Int}(hc:r[k]?=some c):(B1 58 (r.drop k)).length=if c=58 then 0 else (B1 58 (r.drop (k+1))).length+1:=by
 have e:r.drop k=c::r.drop (k+1):=by
  rw[List.drop_eq_getElem_cons hk];rw[List.getElem?_eq_getElem hk] at hc;cases hc;rfl
 rw[e];by_cases h:c=58
 ·subst h;rw[Acq,Cr rfl];rfl
 ·rw[Aeq _ h,B3 h];rfl
theorem Az8{a0 s4 s7:ByteArray}{y3 y6:Bool}{y5 y8:Int}{r:Al}(hr:Cz r)(hrl:r.length<=1000000)(B2:2000<=fu):∀(k nn:Nat),k<=r.length->k+1<=nn->∃o1 o2 o3,B7 fu (Ac (CP p) prog fu (d+4)) a0 nn (Ab r) ((k+(B1 58 (r.drop k)).length:Nat):Int) ((k:Int)-1) y3 s4 y5 y6 s7 y8=some ⟨[.agg [De o1,Bl o2,Ar o3],Ar (AO y6 r)],[]⟩:=by
 intro k
 induction k with
 |zero=>
  intro nn hk Gc;obtain⟨q,rfl⟩:∃q,nn=q+1:=⟨nn-1,by omega⟩
  have:=A5v (fu:=fu) (d:=d) (p:=p) (a0:=a0) (s4:=s4) (s7:=s7) (y3:=y3) (y6:=y6) (y5:=y5) (y8:=y8) hr hrl B2 (nn:=q);rw[Me,Ie];exact this
 |succ k ih=>
  intro nn hk Gc;obtain⟨q,rfl⟩:∃q,nn=q+1:=⟨nn-1,by omega⟩
  obtain⟨c,hc⟩:∃c,r[k]?=some c:=⟨_,List.getElem?_eq_getElem (by omega)⟩
  have OW:=hr c (List.mem_of_getElem? hc);have hbd:=Aud (show k<r.length by omega) hc;obtain⟨o1,o2,o3,h⟩:=ih q (by omega) (by omega);refine⟨o1,o2,o3,?_⟩;have a1:decide (((k+1:Nat):Int)-1>=0)=true:=dT (by omega);have a2:decide ((0:Int)<=((k+1:Nat):Int)-1)=true:=dT (by omega)
  have a3:(Array.toList (Ab r).data)[Int.toNat (((k+1:Nat):Int)-1)]?=some c.toNat.toUInt8:=by
   rw[show Int.toNat (((k+1:Nat):Int)-1)=k by omega];show (r.map fun n=>n.toNat.toUInt8)[k]?=_;rw[List.getElem?_map,hc];rfl
  have a4:=Oh OW;have a5:wrap .i64 (((k+1:Nat):Int)-1-1)=(k:Int)-1:=B0
  rw[Ia];by_cases h58:c=58
  ·rw[Cr h58] at hbd;have q1:(c==58)=true:=by simp[h58]
   rw[hbd] at h;simp only[Be,Bf,a1,a2,a3,a4,q1,a5];rw[show ((k+1:Nat):Int)-1=((k+0:Nat):Int) by omega];exact h
  ·rw[B3 h58] at hbd;have q1:(c==58)=false:=by simp[h58]
   rw[hbd] at h;simp only[Be,Bf,a1,a2,a3,a4,q1,a5];rw[show k+1+(B1 58 (r.drop (k+1))).length=k+((B1 58 (r.drop (k+1))).length+1) by omega];exact h
theorem At7{l:Al}(hB:Cz l)(hs:l.length<=1000000)(B2:2000<=fu)(MJ:l.length+1<=fu):∃o1 o2 o3,Ac (CP p) prog fu (d+5) 65 [Bl (Ab l)]=some ⟨[.agg [De o1,Bl o2,Ar o3],Ar (E0 l)],[]⟩:=by
  have er:=Tc (p:=p) fu (d+4) (Ab l)
  have sT:Ac (CP p) prog fu (d+4) 106 [De true]=some ⟨[Bl (Ab [104,116,116,112,115,58,47,47])],[]⟩:=by
    refine (Nw (p:=p) fu (d+3) true).trans ?_
    simp only[Be,Bf]
    rfl
  have sF:Ac (CP p) prog fu (d+4) 106 [De false]=some ⟨[Bl (Ab [104,116,116,112,58,47,47])],[]⟩:=by
    refine (Nw (p:=p) fu (d+3) false).trans ?_
    simp only[Be,Bf]
    rfl
  have hB8:Cz [104,116,116,112,115,58,47,47]:=fun x hx=>by simp at hx;omega
  have hB7:Cz [104,116,116,112,58,47,47]:=fun x hx=>by simp at hx;omega
  have l8:(Ab [104,116,116,112,115,58,47,47]).size=8:=rfl
  have l7:(Ab [104,116,116,112,58,47,47]).size=7:=rfl
  have n8:([104,116,116,112,115,58,47,47]:Al).length=8:=rfl
  have n7:([104,116,116,112,58,47,47]:Al).length=7:=rfl
  have e8:(ByteArray.mk #[104,116,116,112,115,58,47,47])=Ab [104,116,116,112,115,58,47,47]:=rfl
  have tk:∀n,Cz (l.take n):=fun n x hx=>hB x (List.mem_of_mem_take hx)
  have loop:∀(m:Nat) (s:Bool),m<=l.length->∃o1 o2 o3,B7 fu (Ac (CP p) prog fu (d+4)) (Ab l) fu (Ab (l.drop m)) (((Ab (l.drop m)).size:Nat):Int) (wrap .i64 ((((Ab (l.drop m)).size:Nat):Int)-1)) false (ByteArray.mk #[]) 0 s (ByteArray.mk #[]) 0=some ⟨[.agg [De o1,Bl o2,Ar o3],Ar (AO s (l.drop m))],[]⟩:=by
    intro m s hm
    have hd:Cz (l.drop m):=fun x hx=>hB x (List.mem_of_mem_drop hx)
    have hdl:(l.drop m).length=l.length-m:=List.length_drop
    obtain⟨o1,o2,o3,h⟩:=Az8 (fu:=fu) (d:=d) (p:=p) (a0:=Ab l) (s4:=ByteArray.mk #[]) (s7:=ByteArray.mk #[]) (y3:=false) (y6:=s) (y5:=0) (y8:=0) hd (by omega) B2 (l.drop m).length fu (Ci _) (by omega)
    refine⟨o1,o2,o3,?_⟩
    rw[Ai,Bn]
    have e:(l.drop m).length+(B1 58 ((l.drop m).drop (l.drop m).length)).length=(l.drop m).length:=by
      rw[List.drop_length];rfl
    rw[e] at h
    exact h
  unfold E0
  have plain:∀(h7:List.isPrefixOf [104,116,116,112,115,58,47,47] l=false),∃o1 o2 o3,(Aw (decide (((l.length:Nat):Int)<((7:Nat):Int)))
    (some (Bv.mk [PV.agg [PV.sc (Value.bool false),PV.sc (Value.string ⟨#[]⟩),PV.sc (Value.int IntKind.i64 (0:Int))],PV.sc (Value.int IntKind.i64 (2:Int))] []))
    (Aw (!decide (l.take 7=[104,116,116,112,58,47,47]))
     (some (Bv.mk [PV.agg [PV.sc (Value.bool false),PV.sc (Value.string ⟨#[]⟩),PV.sc (Value.int IntKind.i64 (0:Int))],PV.sc (Value.int IntKind.i64 (2:Int))] []))
     (B7 fu (Ac (CP p) prog fu (d+4)) (Ab l) fu (Ab (l.drop 7)) (((Ab (l.drop 7)).size:Nat):Int) (wrap .i64 ((((Ab (l.drop 7)).size:Nat):Int)-1)) false (ByteArray.mk #[]) 0 false (ByteArray.mk #[]) 0)))=some ⟨[.agg [De o1,Bl o2,Ar o3],Ar (if List.isPrefixOf [104,116,116,112,58,47,47] l=true then AO false (l.drop 7) else 2)],[]⟩:=by
    intro _
    by_cases hl7:l.length<7
    · have hn:List.isPrefixOf [104,116,116,112,58,47,47] l=false:=by
        rw[Bool.eq_false_iff,ne_eq,List.isPrefixOf_iff_prefix]
        intro h
        have:=h.length_le
        simp at this
        omega
      rw[dT (show ((l.length:Nat):Int)<((7:Nat):Int) by omega),hn]
      exact⟨_,_,_,rfl⟩
    · rw[dF (show ¬((l.length:Nat):Int)<((7:Nat):Int) by omega)]
      have hp:=Ag0 (w:=[104,116,116,112,58,47,47]) (l:=l) (by simp;omega)
      rw[show ([104,116,116,112,58,47,47]:Al).length=7 from rfl] at hp
      rw[hp]
      cases List.isPrefixOf [104,116,116,112,58,47,47] l
      · exact⟨_,_,_,rfl⟩
      · obtain⟨o1,o2,o3,h⟩:=loop 7 false (by omega)
        exact⟨o1,o2,o3,h⟩
  have x7:(Ab l).extract 0 (Int.toNat ((7:Nat):Int))=Ab (l.take 7):=Wo hB 7
  have y7:(Ab l).extract (Int.toNat ((7:Nat):Int)) l.length=Ab (l.drop 7):=X5 hB 7
  have x8:(Ab l).extract 0 8=Ab (l.take 8):=Wo hB 8
  have x8':(Ab l).extract 0 (Int.toNat ((8:Nat):Int))=Ab (l.take 8):=Wo hB 8
  have y8:(Ab l).extract (Int.toNat ((8:Nat):Int)) l.length=Ab (l.drop 8):=X5 hB 8
  have q7:=IF (tk 7) hB7
  have q8:=IF (tk 8) hB8
  by_cases h8:l.length>=8
  · have a1:=dT (q:=((l.length:Nat):Int)>=8) (by omega)
    have a2:=dT (q:=8<=l.length) h8
    have hp:=Ag0 (w:=[104,116,116,112,115,58,47,47]) (l:=l) (by simp;omega)
    rw[show ([104,116,116,112,115,58,47,47]:Al).length=8 from rfl] at hp
    rw[hp] at q8
    have a3:=dT (q:=Int.toNat ((7:Nat):Int)<=l.length) (by omega)
    have a4:=dT (q:=Int.toNat ((8:Nat):Int)<=l.length) (by omega)
    cases h1:List.isPrefixOf [104,116,116,112,115,58,47,47] l
    · rw[h1] at q8
      simp only[Bool.false_eq_true,if_false]
      obtain⟨o1,o2,o3,Xl⟩:=plain h1
      refine⟨o1,o2,o3,er.trans ?_⟩
      rw[e8]
      simp only[Be,Bf,Ai,dle,a1,a2,x8,q8,sF]
      simp only[Be,Bf,l7,n7,a3,x7,q7,y7] at Xl ⊢
      exact Xl
    · rw[h1] at q8
      simp only[if_true]
      have a5:=dF (q:=((l.length:Nat):Int)<((8:Nat):Int)) (by omega)
      obtain⟨o1,o2,o3,h⟩:=loop 8 true h8
      refine⟨o1,o2,o3,er.trans ?_⟩
      rw[e8]
      simp only[Be,Bf,Ai,dle,a1,a2,x8,q8,sT]
      simp only[Be,Bf,l8,n8,a5,a4,x8',q8,y8,Fl]
      exact h
  · have a1:=dF (q:=((l.length:Nat):Int)>=8) (by omega)
    have h1:List.isPrefixOf [104,116,116,112,115,58,47,47] l=false:=by
      rw[Bool.eq_false_iff,ne_eq,List.isPrefixOf_iff_prefix]
      intro h
      have:=h.length_le
      simp at this
      omega
    rw[h1]
    simp only[Bool.false_eq_true,if_false]
    obtain⟨o1,o2,o3,Xl⟩:=plain h1
    refine⟨o1,o2,o3,er.trans ?_⟩
    simp only[Be,Bf,Ai,dle,a1,sF]
    by_cases h7:l.length<7
    · have a2:=dT (q:=((l.length:Nat):Int)<((7:Nat):Int)) (by omega)
      rw[a2] at Xl
      simp only[Be,Bf,l7,n7,a2] at Xl ⊢
      exact Xl
    · have a2:=dF (q:=((l.length:Nat):Int)<((7:Nat):Int)) (by omega)
      have a3:=dT (q:=Int.toNat ((7:Nat):Int)<=l.length) (by omega)
      rw[a2] at Xl
      simp only[Be,Bf,l7,n7,a2,a3,x7,q7,y7] at Xl ⊢
      exact Xl
end
def PI:Al:=[123,34,116,121,112,101,34,58,34]
def UL:Al:=[34,44,34,99,104,97,108,108,101,110,103,101,34,58,34]
def fA3:Al:=[34,44,34,111,114,105,103,105,110,34,58,34]
def fA4:Al:=[34,44,34,99,114,111,115,115,79,114,105,103,105,110,34,58,102,97,108,115,101,125]
def fA5:Al:=[34,44,34,99,114,111,115,115,79,114,105,103,105,110,34,58,116,114,117,101,44,34,116,111,112,79,114,105,103,105,110,34,58,34]
def fA6:Al:=[34,125]
def fA7:Al:=[34,44,34,99,114,111,115,115,79,114,105,103,105,110,34,58]
def fA8:Al:=[102,97,108,115,101,125]
def fA9:Al:=[116,114,117,101,44,34,116,111,112,79,114,105,103,105,110,34,58,34]
theorem Abm:(ByteArray.mk #[123,34,116,121,112,101,34,58,34])=Ab PI:=rfl
theorem Ab5:(ByteArray.mk #[34,44,34,99,104,97,108,108,101,110,103,101,34,58,34])=Ab UL:=rfl
theorem Aat:(ByteArray.mk #[34,44,34,111,114,105,103,105,110,34,58,34])=Ab fA3:=rfl
theorem At3:(ByteArray.mk #[34,125])=Ab fA6:=rfl
theorem Abq:(ByteArray.mk #[34,44,34,99,114,111,115,115,79,114,105,103,105,110,34,58])=Ab fA7:=rfl
theorem Atb:(ByteArray.mk #[102,97,108,115,101,125])=Ab fA8:=rfl
theorem Ava:(ByteArray.mk #[116,114,117,101,44,34,116,111,112,79,114,105,103,105,110,34,58,34])=Ab fA9:=rfl
theorem OP:(ByteArray.mk #[])=Ab []:=rfl
theorem Ay0:fA4=fA7++fA8:=rfl
theorem Awp:fA5=fA7++fA9:=rfl
theorem Bas:Cz []:=fun x hx=>by cases hx
def tyS(k:Int):Option Al:=if k=1 then some tyC else if k=2 then some tyG else none
def fmH(ty ch o:Al):Al:=PI++ty++UL++Jp ch++fA3++o
def Zx(k:Int)(ch o t:Al)(x:Bool):JR Al:=
 match tyS k with
 |none=>.error 3
 |some ty=>if ch.length<1\/64<ch.length then .error 9 else if E0 o≠0 then .error (E0 o)
  else if x=false then (if t=[] then .ok (fmH ty ch o++fA4) else .error 4)
  else if E0 t≠0 then .error (E0 t) else .ok (fmH ty ch o++fA5++t++fA6)
def Auz(r:JR Al):Bv:=match r with | .ok s=>⟨[Bl (Ab s),Ar 0],[]⟩ | .error e=>⟨[Bl (Ab []),Ar e],[]⟩
section
variable {fu d:Nat}{p:Option (Ae->Option Bv)}
abbrev cdA(k:Int)(ch o t:Al)(x:Bool):PV:=.agg [Ar k,.lst false 1 ch.length (Af .u8 ch),Bl (Ab o),De x,Bl (Ab t)]
theorem nn0(e:Int)(h:e≠0):(e != 0)=true:=by simp[h]
theorem Axm(k:Int):Ac (CP p) prog fu (d+1) 64 [Ar k]=some ⟨[Bl (Ab ((tyS k).getD []))],[]⟩:=by
 rw[Zf];unfold tyS;by_cases h1:k=1
 ·subst h1;have k1:((1:Int)==1)=true:=rfl;rw[Cr rfl];simp only[Be,Bf,k1];rfl
 have k1:(k==1)=false:=by simp[h1]
 by_cases h2:k=2
 ·subst h2;have k2:((2:Int)==2)=true:=rfl;rw[B3 h1,Cr rfl];simp only[Be,Bf,k1,k2];rfl
 have k2:(k==2)=false:=by simp[h2]
 rw[B3 h1,B3 h2];simp only[Be,Bf,k1,k2];rfl
theorem Aq9{k:Int}{ty:Al}(h:tyS k=some ty):Cz ty/\ty≠[]/\ty.length<=14:=by
 unfold tyS at h;split at h
 ·cases h;exact⟨fun x hx=>by simp[tyC] at hx;omega,by decide,by decide⟩
 split at h
 ·cases h;exact⟨fun x hx=>by simp[tyG] at hx;omega,by decide,by decide⟩
 ·cases h
set_option maxHeartbeats 4000000 in
theorem YQ{k:Int}{ch o t:Al}{x:Bool}(hch:Cz ch)(ho:Cz o)(ht:Cz t)(M9:ch.length<=100000)(XX:o.length<=1000000)(htl:t.length<=1000000)(B2:2000<=fu)(hfc:ch.length+1<=fu)(hfo:o.length+1<=fu)(hft:t.length+1<=fu):
  Ac (CP p) prog fu (d+6) 33 [cdA k ch o t x]=some (Auz (Zx k ch o t x)):=by
 have er:=Tv (p:=p) fu (d+5) k ch.length (Af .u8 ch) (Ab o) x (Ab t);refine er.trans ?_;obtain⟨o1,o2,o3,eo⟩:=At7 (fu:=fu) (d:=d) (p:=p) ho XX (by omega) hfo;obtain⟨t1,t2,t3,et⟩:=At7 (fu:=fu) (d:=d) (p:=p) ht htl (by omega) hft;have eo:Ac (CP p) prog fu (d+5) 65 [Bl (Ab o)]=_:=eo;have et:Ac (CP p) prog fu (d+5) 65 [Bl (Ab t)]=_:=et;have ee:Ac (CP p) prog fu (d+5) 66 [.lst false 1 ch.length (Af .u8 ch)]=_:=Azo (fu:=fu) (d:=d+4) (p:=p) hch M9 (by omega) hfc;have ek:Ac (CP p) prog fu (d+5) 64 [Ar k]=_:=Axm (fu:=fu) (d:=d+4) (p:=p) k;have hel:=ID ch;have z0:((0:Int) != 0)=false:=rfl;have tq:(Array.toList (Ab t).data==[])=decide (t=[]):=IF (b:=[]) ht Bas;unfold Zx;cases hty:tyS k with
 |none=>
  rw[hty] at ek;have q:((([]:List UInt8)==[])=true):=rfl;simp only[Be,Bf,ek,Option.getD_none,OP,q];rfl
 |some ty=>
  rw[hty] at ek;obtain⟨htB,htn,Bp1⟩:=Aq9 hty;have q:(Array.toList (Ab ty).data==[])=false:=(IF (b:=[]) htB Bas).trans (dF htn);have c1:decide (9+ty.length<=9223372036854775807)=true:=dT (by omega);have c2:decide ((PI++ty).length+15<=9223372036854775807)=true:=dT (by simp[PI];omega)
  have c3:decide ((PI++ty++UL).length+(Jp ch).length<=9223372036854775807)=true:=dT (by simp[PI,UL];omega)
  have c4:decide ((PI++ty++UL++Jp ch).length+12<=9223372036854775807)=true:=dT (by simp[PI,UL];omega)
  have c5:decide ((PI++ty++UL++Jp ch++fA3).length+o.length<=9223372036854775807)=true:=dT (by simp[PI,UL,fA3];omega)
  have c6:decide ((PI++ty++UL++Jp ch++fA3++o).length+16<=9223372036854775807)=true:=dT (by simp[PI,UL,fA3];omega)
  have c7:decide ((PI++ty++UL++Jp ch++fA3++o++fA7).length+6<=9223372036854775807)=true:=dT (by simp[PI,UL,fA3,fA7];omega)
  have c8:decide ((PI++ty++UL++Jp ch++fA3++o++fA7).length+18<=9223372036854775807)=true:=dT (by simp[PI,UL,fA3,fA7];omega)
  have c9:decide ((PI++ty++UL++Jp ch++fA3++o++fA7++fA9).length+t.length<=9223372036854775807)=true:=dT (by simp[PI,UL,fA3,fA7,fA9];omega)
  have d1:decide ((PI++ty++UL++Jp ch++fA3++o++fA7++fA9++t).length+2<=9223372036854775807)=true:=dT (by simp[PI,UL,fA3,fA7,fA9];omega)
  simp only;by_cases h1:ch.length<1
  ·have a1:=dT (q:=((ch.length:Nat):Int)<1) (by omega);rw[Cr (.inl h1)];simp only[Be,Bf,ek,Option.getD_some,OP,q,a1];rfl
  have a1:=dF (q:=((ch.length:Nat):Int)<1) (by omega);by_cases h2:64<ch.length
  ·have a2:=dT (q:=((ch.length:Nat):Int)>64) (by omega);rw[Cr (.inr h2)];simp only[Be,Bf,ek,Option.getD_some,OP,q,a1,a2];rfl
  have a2:=dF (q:=((ch.length:Nat):Int)>64) (by omega);rw[B3 (by omega)];by_cases hoE:E0 o=0
  rotate_left
  ·have a3:=nn0 _ hoE;rw[Cr hoE];simp only[Be,Bf,ek,Option.getD_some,OP,q,a1,a2,eo,a3];rfl
  rw[B3 (by simp[hoE])];rw[hoE] at eo;cases x with
  |false=>
   rw[Cr rfl];by_cases hte:t=[]
   ·rw[dT hte] at tq;rw[Cr hte];simp only[Be,Bf,ek,Option.getD_some,OP,q,a1,a2,eo,z0,tq,Fl,Gw,ee,Ai,Abm,Ab5,Aat,Abq,Atb,Py,c1,c2,c3,c4,c5,c6,c7];show some (Bv.mk _ [])=_;unfold Auz fmH;rw[Ay0];simp only[Zzv]
   ·rw[dF hte] at tq;rw[B3 hte];simp only[Be,Bf,ek,Option.getD_some,OP,q,a1,a2,eo,z0,tq,Fl,Gw,ee,Ai,Abm,Ab5,Aat,Abq,Atb,Py,c1,c2,c3,c4,c5,c6,c7];rfl
  |true=>
   rw[B3 (by decide)];by_cases htE:E0 t=0
   ·rw[htE] at et;rw[B3 (by simp[htE])];simp only[Be,Bf,ek,Option.getD_some,OP,q,a1,a2,eo,et,z0,Fl,Gw,ee,Ai,Abm,Ab5,Aat,At3,Abq,Ava,Py,c1,c2,c3,c4,c5,c6,c8,c9,d1];show some (Bv.mk _ [])=_;unfold Auz fmH;rw[Awp];simp only[Zzv]
   ·have a4:=nn0 _ htE;rw[Cr htE];simp only[Be,Bf,ek,Option.getD_some,OP,q,a1,a2,eo,et,z0,a4,Fl,Gw,ee,Ai,Abm,Ab5,Aat,At3,Abq,Ava,Py,c1,c2,c3,c4,c5,c6,c8,c9,d1];rfl
end
def WC(c:Int):Bool:=decide (33<=c)&&decide (c<=126)&&c != 34&&c != 92
theorem LC{c:Int}:WC c=true↔33<=c/\c<=126/\c≠34/\c≠92:=by unfold WC;simp;omega
theorem NE(c:Int):∀{l:Al}{x:Int},x∈l->x=c\/∃q∈Bg c l,x∈q
 |a::r,x,hx=>by
  unfold Bg;by_cases ha:a=c
  ·rw[Cr ha];rcases Ch.1 hx with rfl|hx
   ·exact .inl ha
   ·rcases NE c hx with h|⟨q,hq,h⟩
    ·exact .inl h
    ·exact .inr ⟨q,by simp[hq],h⟩
  ·rw[B3 ha];cases hs:Bg c r with
   |nil=>exact absurd hs (Rx c r)
   |cons b t=>
    rcases Ch.1 hx with rfl|hx
    ·exact .inr ⟨x::b,by simp,by simp⟩
    ·rcases NE c hx with h|⟨q,hq,h⟩
     ·exact .inl h
     ·rw[hs] at hq;rcases Ch.1 hq with rfl|hq
      ·exact .inr ⟨a::q,by simp,by simp[h]⟩
      ·exact .inr ⟨q,by simp[hq],h⟩
theorem Ajl{l:Al}(h:U8 l=0):l.all WC=true:=by
 unfold U8 at h;split at h
 ·cases h
 split at h
 ·cases h
 rename_i _ h2
 have h2:(Bg 46 l).all Ll=true:=by
  cases hq:(Bg 46 l).all Ll
  ·exact absurd hq h2
  ·rfl
 rw[List.all_eq_true];intro x hx;rcases NE 46 hx with rfl|⟨q,hq,hxq⟩
 ·rfl
 ·have hl:=List.all_eq_true.1 h2 q hq;unfold Ll at hl;rw[Fc] at hl;have hb:=List.all_eq_true.1 hl.2 x hxq;unfold ltB DW at hb;rw[LC];simp at hb;omega
theorem UF{s:Bool}{r:Al}(h:AO s r=0):r.all WC=true:=by
 unfold AO at h;simp only at h;by_cases hh:U8 (B1 58 r)=0
 ·rw[B3 (by simp[hh])] at h;have hc:=Ajl hh;by_cases hl:(B1 58 r).length=r.length
  ·rwa [Al1 58 r (by omega)] at hc
  ·rw[B3 hl] at h;split at h
   ·rename_i hp
    have hd:(r.drop ((B1 58 r).length+1)).all DW=true:=by
     have:=hp.1;unfold Kd at this;rw[Fc] at this;exact this.2
    have Ck:(B1 58 r).length<r.length:=by have:=QY 58 r;omega
    have A9h:r[(B1 58 r).length]?=some 58:=by
     obtain⟨c,hcc⟩:∃c,r[(B1 58 r).length]?=some c:=⟨_,List.getElem?_eq_getElem Ck⟩
     have e:r.drop (B1 58 r).length=r.dropWhile (fun x=>x != 58):=by
      have h1:r.takeWhile (fun x=>x != 58)++r.dropWhile (fun x=>x != 58)=r:=List.takeWhile_append_dropWhile;have h2:=congrArg (List.drop (B1 58 r).length) h1;have h3:(List.takeWhile (fun x=>x != 58) r++List.dropWhile (fun x=>x != 58) r).drop (B1 58 r).length=List.dropWhile (fun x=>x != 58) r:=List.drop_left;rw[<-h2];exact h3
     have e2:(r.dropWhile (fun x=>x != 58))[0]?=some c:=by rw[<-e,List.getElem?_drop];simpa using hcc
     cases hdw:r.dropWhile (fun x=>x != 58) with
     |nil=>rw[hdw] at e2;cases e2
     |cons y t=>
      rw[hdw] at e2;have:y=c:=by simpa using e2
      subst this;have hn:=List.head?_dropWhile_not (fun x:Int=>x != 58) r;rw[hdw] at hn;simp at hn;rw[hcc,hn]
    have e:r=B1 58 r++58::r.drop ((B1 58 r).length+1):=by
     have h1:=(List.take_append_drop (B1 58 r).length r).symm;rw[<-R4] at h1;rw[List.getElem?_eq_getElem Ck] at A9h;rw[List.drop_eq_getElem_cons Ck] at h1;have:r[(B1 58 r).length]=58:=by simpa using A9h
     rw[this] at h1;exact h1
    rw[e,List.all_append,hc,List.all_cons]
    have:(r.drop ((B1 58 r).length+1)).all WC=true:=by
     rw[List.all_eq_true] at hd ⊢;intro x hx;have:=(JU x).1 (hd x hx);rw[LC];omega
    rw[this];rfl
   ·cases h
 ·rw[Cr hh] at h;exact absurd h hh
theorem Aaq{l:Al}(h:E0 l=0):l.all WC=true:=by
 unfold E0 at h
 have key:∀w:Al,w.all WC=true->w.isPrefixOf l=true->(l.drop w.length).all WC=true->l.all WC=true:=by
  intro w hw hp hd;have e:=List.prefix_iff_eq_append.1 (List.isPrefixOf_iff_prefix.1 hp);rw[<-e,List.all_append,hw,hd];rfl
 split at h
 ·rename_i hp;exact key _ (by decide) hp (UF h)
 split at h
 ·rename_i hp;exact key _ (by decide) hp (UF h)
 ·cases h
theorem J5{v:Int}(h0:0<=v)(h1:v<64):WC (Ou v)=true:=by
 rw[LC];unfold Ou;split
 ·omega
 split
 ·omega
 split
 ·omega
 split<;>omega
theorem NC:∀{l:Al},Cz l->(Jp l).all WC=true
 |[],_=>rfl
 |[a],h=>by
  obtain⟨ha,_⟩:=D5 h;unfold Jp;rw[List.all_cons,List.all_cons,J5 (by omega) (by omega),J5 (by omega) (by omega)];rfl
 |[a,b],h=>by
  obtain⟨ha,h⟩:=D5 h;obtain⟨hb,_⟩:=D5 h;unfold Jp;rw[List.all_cons,List.all_cons,List.all_cons,J5 (by omega) (by omega),J5 (by omega) (by omega),J5 (by omega) (by omega)];rfl
 |a::b::c::r,h=>by
  obtain⟨ha,h⟩:=D5 h;obtain⟨hb,h⟩:=D5 h;obtain⟨hc,h⟩:=D5 h;have e:Jp (a::b::c::r)=Ou (a / 4)::Ou (a % 4*16+b / 16)::Ou (b % 16*4+c / 64)::Ou (c % 64)::Jp r:=rfl;rw[e,List.all_cons,List.all_cons,List.all_cons,List.all_cons,J5 (by omega) (by omega),J5 (by omega) (by omega),J5 (by omega) (by omega),J5 (by omega) (by omega),NC h];rfl
theorem UM:∀(s:Al)(n:Nat)(out r:Al),s.all WC=true->s.length<n->Md n out (s++34::r)=(some (out++s),r)
  |[],n,out,r,_,hn=>by
    obtain⟨m,rfl⟩:∃m,n=m+1:=⟨n-1,by simp at hn;omega⟩
    show (if (34:Int)<32 then _ else if (34:Int)=34 then (some out,r) else _)=_
    rw[B3 (by decide),Cr rfl,List.append_nil]
  |c::s,n,out,r,h,hn=>by
    obtain⟨m,rfl⟩:∃m,n=m+1:=⟨n-1,by simp at hn;omega⟩
    rw[List.all_cons,Fc] at h
    have hc:=LC.1 h.1
    have e:Md (m+1) out (c::(s++34::r))=if c<32 then (none,c::(s++34::r)) else if c=34 then (some out,s++34::r) else if c=92 then
        (match T8 (s++34::r) with
         |(some x,r')=>Md m (out++Lib.encodeRuneZ x) r'
         |(none,r')=>(none,r')) else Md m (out++[c]) (s++34::r):=rfl
    rw[Zzp,e,B3 (by omega),B3 (by omega),B3 (by omega),UM s m (out++[c]) r h.2 (by simp at hn;omega)]
    simp
theorem OB{s r:Al}(h:s.all WC=true):Gk (34::(s++34::r))=(some s,r):=by
 have e:Gk (34::(s++34::r))=if (34:Int)=34 then Md ((s++34::r).length+1) [] (s++34::r) else (none,34::(s++34::r)):=rfl
 rw[e,Cr rfl,UM s _ [] r h (by simp;omega)]
 rfl
def VOk(vt:Al)(v:JV):Prop:=(∀r,Ha 8 (vt++r)=.ok (v,r))/\∃y z,vt=y::z/\FO y=false
theorem QO{s:Al}(h:s.all WC=true):VOk (34::(s++[34])) (4,s,false):=by
 refine⟨fun r=>?_,34,_,rfl,rfl⟩;have e:(34::(s++[34]))++r=34::(s++34::r):=by simp
 rw[e];have e2:Ha 8 (34::(s++34::r))=(match HX (34::(s++34::r)) with|none=>.error 2|some (s,r')=>.ok ((4,s,false),r')):=rfl;have e3:HX (34::(s++34::r))=some (s,r):=by unfold HX;rw[OB h]
 rw[e2,e3]
theorem Ap1:VOk [102,97,108,115,101] (2,[],false):=⟨fun r=>rfl,102,_,rfl,rfl⟩
theorem At8:VOk [116,114,117,101] (2,[],true):=⟨fun r=>rfl,116,_,rfl,rfl⟩
theorem MV{y:Int}{r:Al}(h:FO y=false):Bz (y::r)=y::r:=by show (if FO y=true then Bz r else y::r)=_;rw[B3 (by rw[h];decide)]
def Ty(nm vt:Al):Al:=34::(nm++34::58::vt)
theorem CK{n:Nat}{ms:List (Al × JV)}{nm vt:Al}{v:JV}{c:Int}{rest:Al}(hn:nm.all WC=true)(hv:VOk vt v)(hd:(ms.any fun m=>m.1==nm)=false)(hc:c=44\/c=125):
  Zv (Ha 8) true (n+1) ms (Ty nm vt++c::rest)=if c=125 then .ok (ms++[(nm,v)],rest) else Zv (Ha 8) true n (ms++[(nm,v)]) (Bz rest):=by
 obtain⟨hv,y,z,rfl,hy⟩:=hv;have e:Ty nm (y::z)++c::rest=34::(nm++34::(58::(y::z++c::rest))):=by unfold Ty;simp
 have hws:FO c=false:=by rcases hc with rfl|rfl<;>rfl
 rw[e,LE,OB hn];simp only;rw[XY,hd,B3 (by decide),MV (show FO 58=false from rfl)];have e58:A7 [58] (58::(y::z++c::rest))=some (y::z++c::rest):=by rw[Fw];rfl
 rw[e58];simp only;rw[Zzp,MV hy,<-Zzp,hv];simp only;rw[MV hws];rcases hc with rfl|rfl
 ·have e1:A7 [125] (44::rest)=none:=by rw[Fw];rfl
  have e2:A7 [44] (44::rest)=some rest:=by rw[Fw];rfl
  rw[e1,e2,B3 (by decide)]
 ·have e1:A7 [125] (125::rest)=some rest:=by rw[Fw];rfl
  rw[e1,Cr rfl]
def A41(ty ch o t:Al)(x:Bool):List (Al × JV):=
 [(Vs,(4,ty,false)),(CG,(4,Jp ch,false)),(nmO,(4,o,false)),(nmX,(2,[],x))]++(if x=true then [(nmP,(4,t,false))] else [])
def wsL(w:Al):Prop:=w.all FO=true
theorem Ahk:∀{w:Al}(r:Al),wsL w->Bz (w++r)=Bz r
 |[],_,_=>rfl
 |c::w,r,h=>by
  unfold wsL at h;rw[List.all_cons,Fc] at h;show (if FO c=true then Bz (w++r) else _)=_;rw[Cr h.1];exact Ahk r h.2
def I9(ty ch o t:Al)(x:Bool):Al:=
 Ty Vs (34::(ty++[34]))++44::(Ty CG (34::(Jp ch++[34]))++44::(Ty nmO (34::(o++[34]))++44::(Ty nmX (if x=true then [116,114,117,101] else [102,97,108,115,101])++(if x=true then 44::(Ty nmP (34::(t++[34]))++[125]) else [125]))))
theorem Ad7{ty ch o t:Al}{x:Bool}{w:Al}(hw:wsL w)(hty:ty.all WC=true)(hch:Cz ch)(ho:o.all WC=true)(ht:t.all WC=true):
  Aea 8 (w++(123::I9 ty ch o t x)++w)=.ok (A41 ty ch o t x):=by
 have hww:Bz w=[]:=by
  have:=Ahk (w:=w) [] hw
  rwa [List.append_nil] at this
 have e0:w++(123::I9 ty ch o t x)++w=w++(123::(I9 ty ch o t x++w)):=by simp
 rw[NH,e0,Ahk _ hw,MV (show FO 123=false from rfl)];have e1:A7 [123] (123::(I9 ty ch o t x++w))=some (I9 ty ch o t x++w):=by rw[Fw];rfl
 rw[e1];simp only;have eb:I9 ty ch o t x++w=34::((I9 ty ch o t x++w).tail):=by unfold I9 Ty;rfl
 have esk:Bz (I9 ty ch o t x++w)=I9 ty ch o t x++w:=by rw[eb];exact MV rfl
 have e125:A7 [125] (I9 ty ch o t x++w)=none:=by rw[eb,Fw];rfl
 rw[CM,esk,e125];simp only
 obtain⟨N,hN⟩:∃N,(I9 ty ch o t x++w).length+1=N+5:=⟨(I9 ty ch o t x++w).length-4,by
  have:4<=(I9 ty ch o t x++w).length:=by unfold I9 Ty;simp;omega
  omega⟩
 rw[hN];have skm:∀nm vt r,Bz (Ty nm vt++r)=Ty nm vt++r:=fun nm vt r=>MV rfl
 have b1:I9 ty ch o t x++w=Ty Vs (34::(ty++[34]))++44::(Ty CG (34::(Jp ch++[34]))++44::(Ty nmO (34::(o++[34]))++44::(Ty nmX (if x=true then [116,114,117,101] else [102,97,108,115,101])++((if x=true then 44::(Ty nmP (34::(t++[34]))++[125]) else [125])++w)))):=by
  unfold I9;simp only[Zzv,Zzp]
 rw[b1,CK (by decide) (QO hty) rfl (.inl rfl),B3 (by decide),skm,
  CK (by decide) (QO (NC hch)) rfl (.inl rfl),B3 (by decide),skm,
  CK (by decide) (QO ho) rfl (.inl rfl),B3 (by decide),skm]
 cases x with
 |false=>
  rw[B3 (by decide),B3 (by decide),Zzp,VW,CK (by decide) Ap1 rfl (.inr rfl),Cr rfl];simp only[VW];rw[Cr hww];rfl
 |true=>
  have es:Ty nmP (34::(t++[34]))++[125]++w=Ty nmP (34::(t++[34]))++125::w:=by simp
  rw[Cr rfl,Cr rfl,Zzp,es,CK (by decide) At8 rfl (.inl rfl),B3 (by decide),skm,
   CK (by decide) (QO ht) rfl (.inr rfl),Cr rfl]
  simp only[VW];rw[Cr hww];rfl
theorem Abi{ty ch o t:Al}{x:Bool}{k:Int}(hk:tyS k=some ty)(hch:Cz ch)(h1:1<=ch.length)(h2:ch.length<=64)(ho:E0 o=0)(ht:x=true->E0 t=0)(hn:x=false->t=[]):
  XQ (A41 ty ch o t x)=.ok (k,ch,o,x,t):=by
 have fin:∀T:JV,KY k (4,Jp ch,false) (4,o,false) (2,[],x) (if x=true then (4,t,false) else (0,[],false))=.ok (k,ch,o,x,t):=by
  intro _;unfold KY;simp only;rw[Amq hch];simp only;rw[B3 (by omega),B3 (by simp[ho])];cases x with
  |false=>rw[hn rfl];simp
  |true=>simp[ht rfl]
 have hg:XQ (A41 ty ch o t x)=Lk (4,ty,false) (4,Jp ch,false) (4,o,false) (2,[],x) (if x=true then (4,t,false) else (0,[],false)):=by
  cases x<;>rfl
 rw[hg];unfold Lk;rw[B3 (by simp),B3 (by simp),B3 (by cases x<;>simp)]
 unfold tyS at hk;split at hk
 ·rename_i h;cases hk;subst h
  simp only;rw[Cr trivial];exact fin (0,[],false)
 split at hk
 ·rename_i h;cases hk;subst h
  simp only;rw[B3 (by decide),Cr trivial];exact fin (0,[],false)
 ·cases hk
theorem Ato{k:Int}{ch o t s:Al}{x:Bool}(h:Zx k ch o t x=.ok s):∃ty,tyS k=some ty/\s=123::I9 ty ch o t x/\1<=ch.length/\ch.length<=64/\E0 o=0/\(x=true->E0 t=0)/\(x=false->t=[]):=by
 unfold Zx at h;cases hk:tyS k with
 |none=>rw[hk] at h;cases h
 |some ty=>
  rw[hk] at h;simp only at h;split at h
  ·cases h
  rename_i hl;split at h
  ·cases h
  rename_i ho
  have ho:E0 o=0:=by
   by_cases q:E0 o=0
   ·exact q
   ·exact absurd q ho
  cases x with
  |false=>
   rw[Cr rfl] at h;split at h
   ·rename_i ht;cases h;refine⟨ty,rfl,?_,by omega,by omega,ho,(fun h=>by cases h),fun _=>ht⟩;unfold fmH I9 Ty PI UL fA3 fA4 Vs CG nmO nmX;simp
   ·cases h
  |true=>
   rw[B3 (by decide)] at h;split at h
   ·cases h
   ·rename_i ht;cases h
    have ht:E0 t=0:=by
     by_cases q:E0 t=0
     ·exact q
     ·exact absurd q ht
    refine⟨ty,rfl,?_,by omega,by omega,ho,fun _=>ht,(fun h=>by cases h)⟩;unfold fmH I9 Ty PI UL fA3 fA5 fA6 Vs CG nmO nmX nmP;simp
theorem Aft{l:Al}(h:∀x∈l,0<=x/\x<128):Lib.validD (Ab l).data.toList=true:=by
 have e:(Ab l).data.toList=l.map fun n=>n.toNat.toUInt8:=rfl
 rw[e,Lib.validD_ascii (l.map fun n=>n.toNat.toUInt8).length _ (fun b hb=>by
  have hb:=List.mem_of_mem_take hb;obtain⟨n,hn,rfl⟩:=List.mem_map.1 hb;have:=h n hn;have e2:n.toNat.toUInt8.toNat=n.toNat % 256:=by rw[Nat.toUInt8,UInt8.toNat_ofNat']
  omega),List.drop_length]
 rfl
def asc(l:Al):Prop:=∀y∈l,0<=y/\y<128
theorem Xn{p q:Al}(hp:asc p)(hq:asc q):asc (p++q):=fun y hy=>(B5.1 hy).elim (hp y) (hq y)
theorem M4{a:Int}{p:Al}(ha:0<=a/\a<128)(hp:asc p):asc (a::p):=fun y hy=>by
 rcases Ch.1 hy with rfl|hy
 ·exact ha
 ·exact hp y hy
theorem Axv{k:Int}{ch o t s w:Al}{x:Bool}(hch:Cz ch)(h:Zx k ch o t x=.ok s)(hw:wsL w)(hl:(w++s++w).length<=1024):M1 (Ab (w++s++w))=.ok (k,ch,o,x,t):=by
 obtain⟨ty,hk,rfl,h1,h2,ho,ht,hn⟩:=Ato h;have oc:=Aaq ho
 have tc:t.all WC=true:=by
  cases x with
  |true=>exact Aaq (ht rfl)
  |false=>rw[hn rfl];rfl
 have yc:ty.all WC=true:=by
  unfold tyS at hk;split at hk
  ·cases hk;decide
  split at hk
  ·cases hk;decide
  ·cases hk
 have ec:=NC hch
 have cl128:∀{q:Al},q.all WC=true->∀y∈q,0<=y/\y<128:=fun hq y hy=>by
  have:=LC.1 (List.all_eq_true.1 hq y hy);omega
 have wc:∀y∈w,0<=y/\y<128:=fun y hy=>by
  have:=List.all_eq_true.1 hw y hy;unfold FO at this;simp at this;omega
 have bc:asc (I9 ty ch o t x):=by
  have v:∀{q:Al},q.all WC=true->asc (34::(q++[34])):=fun hq=>M4 (by decide) (Xn (cl128 hq) (M4 (by decide) (fun _ h=>nomatch h)));have mt:∀{nm vt:Al},asc nm->asc vt->asc (Ty nm vt):=fun h1 h2=>M4 (by decide) (Xn h1 (M4 (by decide) (M4 (by decide) h2)));have nT:asc Vs:=by unfold asc Vs;decide
  have nC:asc CG:=by unfold asc CG;decide
  have nO:asc nmO:=by unfold asc nmO;decide
  have nX:asc nmX:=by unfold asc nmX;decide
  have nP:asc nmP:=by unfold asc nmP;decide
  have wd:asc [116,114,117,101]:=by unfold asc;decide
  have wf:asc [102,97,108,115,101]:=by unfold asc;decide
  have w1:asc [125]:=by unfold asc;decide
  unfold I9;refine Xn (mt nT (v yc)) (M4 (by decide) (Xn (mt nC (v ec)) (M4 (by decide) (Xn (mt nO (v oc)) (M4 (by decide) (Xn (mt nX ?_) ?_))))))
  ·cases x with
   |true=>exact wd
   |false=>exact wf
  ·cases x with
   |true=>exact M4 (by decide) (Xn (mt nP (v tc)) w1)
   |false=>exact w1
 have all128:∀y∈w++(123::I9 ty ch o t x)++w,0<=y/\y<128:=by
  intro y hy;rcases B5.1 hy with hy|hy
  ·rcases B5.1 hy with hy|hy
   ·exact wc y hy
   ·rcases Ch.1 hy with rfl|hy
    ·omega
    ·exact bc y hy
  ·exact wc y hy
 have hB:Cz (w++(123::I9 ty ch o t x)++w):=fun y hy=>by have:=all128 y hy;omega
 unfold M1;rw[Ai,B3 (by omega),Aft all128,B3 (by decide),C7 hB,Ad7 hw yc hch oc tc];exact Abi hk hch h1 h2 ho ht hn
abbrev RS:=JR Al
def JS(t:ByteArray)(i e:Int):RS->Prop
 |.ok r=>e=0/\Eh t r/\i=(Cn t r:Int)
 |.error c=>e=c/\c≠0/\0<=i/\i<=(t.size:Int)+1
def jhd:RS->Int
 |.ok r=>hdS r
 |.error _=>0
def jfl(c:Int):RS->RS
 |.ok _=>.error c
 |s=>s
theorem JS.rng{t:ByteArray}{i e:Int}{s:RS}(h:JS t i e s):0<=i/\i<=(t.size:Int)+1:=by
 cases s with
 |ok r=>
  obtain⟨_,_,rfl⟩:=h;unfold Cn;omega
 |error c=>exact⟨h.2.2.1,h.2.2.2⟩
theorem JS.hd{t:ByteArray}{i e:Int}{s:RS}(h:JS t i e s):0<=jhd s/\jhd s<=255:=by
 cases s with
 |ok r=>
  cases r with
  |nil=>exact⟨Int.le_refl _,by decide⟩
  |cons c r=>exact h.2.1.B c (by simp)
 |error c=>exact⟨Int.le_refl _,by show (0:Int)<=255;decide⟩
theorem JS.fail{t:ByteArray}{i e:Int}{s:RS}(h:JS t i e s){c:Int}(hc:c≠0):JS t i (if e=0 then c else e) (jfl c s):=by
 have hr:=h.rng;cases s with
 |ok r=>
  obtain⟨rfl,h2,h3⟩:=h;rw[Cr rfl];exact⟨rfl,hc,hr.1,hr.2⟩
 |error c2=>
  obtain⟨rfl,h2,h3,h4⟩:=h;rw[B3 h2];exact⟨rfl,h2,h3,h4⟩
section
variable {fu d:Nat}{p:Option (Ae->Option Bv)}
def Bmi:RS->Nat
 |.ok r=>r.length
 |.error _=>0
theorem JS.len{t:ByteArray}{i e:Int}{s:RS}(h:JS t i e s):Bmi s<=t.size:=by
 cases s with
 |ok r=>exact h.2.1.len
 |error c=>exact Nat.zero_le _
end
def ro:Option Al->RS
 |some r=>.ok r
 |none=>.error 2
section
variable {fu d:Nat}{p:Option (Ae->Option Bv)}
end
structure Sd where
 id:Al
 ht:Int
 root:Int
 model:Int
 fmt:Int
 sh:Bool
 used:Int
 rg:List (Int × Int)
 sus:Bool
 since:Int
 last:Int
def Rv(l:List (Int × Int)):Ae:=l.flatMap fun p=>[Ar p.1,Ar p.2]
theorem O3(l:List (Int × Int)):(Rv l).length=l.length*2:=by
 induction l with
 |nil=>rfl
 |cons p r ih=>show ([_,_]++Rv r).length=_;rw[Wy,ih,Tm];simp;omega
theorem Aqw(p:Int × Int)(r:List (Int × Int)):Rv (p::r)=Ar p.1 :: Ar p.2::Rv r:=rfl
theorem Axb(l r:List (Int × Int)):Rv (l++r)=Rv l++Rv r:=List.flatMap_append
def Sd.cells(x:Sd):Ae:=[.lst false 1 x.id.length (Af .u8 x.id),Ar x.ht,Ag x.root,Ag x.model,Ar x.fmt,De (x.sh),Ag x.used,.lst false 2 x.rg.length (Rv x.rg),De (x.sus),Ar x.since,Ar x.last]
def Ax2(used leaf:Int):Bool:=used.toNat.testBit leaf.toNat
theorem Ar1{a b:Int}(ha:0<=a)(ha1:a<=18446744073709551615)(hb:0<=b)(F4:b<=18446744073709551615):D2 .u64 a b=((a.toNat &&& b.toNat:Nat):Int):=by
 have e:(BitVec.ofInt 64 a &&& BitVec.ofInt 64 b).toNat=a.toNat &&& b.toNat:=by
  rw[BitVec.toNat_and,BitVec.toNat_ofInt,BitVec.toNat_ofInt]
  congr 1<;>omega
 have Zi:a.toNat &&& b.toNat<=a.toNat:=Nat.and_le_left;show wrap .u64 ((BitVec.ofInt 64 a &&& BitVec.ofInt 64 b).toNat:Int)=_;rw[e];exact Ej
theorem Aye{a b:Int}(ha:0<=a)(ha1:a<=18446744073709551615)(hb:0<=b)(F4:b<=18446744073709551615):Xr .u64 a b=((a.toNat ||| b.toNat:Nat):Int):=by
 have e:(BitVec.ofInt 64 a ||| BitVec.ofInt 64 b).toNat=a.toNat ||| b.toNat:=by
  rw[BitVec.toNat_or,BitVec.toNat_ofInt,BitVec.toNat_ofInt]
  congr 1<;>omega
 have Ck:a.toNat ||| b.toNat<2 ^ 64:=Nat.or_lt_two_pow (by omega) (by omega);show wrap .u64 ((BitVec.ofInt 64 a ||| BitVec.ofInt 64 b).toNat:Int)=_;rw[e];exact Ej
theorem HM{n:Nat}(h:n<=15):(2:Nat) ^ n<=32768:=Nat.le_trans (Nat.pow_le_pow_right (by omega) h) (by decide)
theorem A8s{k:Int}(h0:0<=k)(h1:k<=15):Eu .u64 1 k=((2 ^ k.toNat:Nat):Int):=by
 have hp:=HM (n:=k.toNat) (by omega);have e:min k.toNat IntKind.u64.bits=k.toNat:=Nat.min_eq_left (by show k.toNat<=64;omega)
 show wrap .u64 (1*2 ^ (min k.toNat IntKind.u64.bits))=_;rw[e,Int.one_mul,show (2:Int) ^ k.toNat=((2 ^ k.toNat:Nat):Int) by simp];generalize 2 ^ k.toNat=m at hp ⊢;exact Ej
theorem A79{k:Int}(h0:0<=k)(h1:k<=15):Eu .i64 1 k=((2 ^ k.toNat:Nat):Int):=by
 have hp:=HM (n:=k.toNat) (by omega);have e:min k.toNat IntKind.i64.bits=k.toNat:=Nat.min_eq_left (by show k.toNat<=64;omega)
 show wrap .i64 (1*2 ^ (min k.toNat IntKind.i64.bits))=_;rw[e,Int.one_mul,show (2:Int) ^ k.toNat=((2 ^ k.toNat:Nat):Int) by simp];generalize 2 ^ k.toNat=m at hp ⊢;exact Bn
theorem Ayv(a k:Nat):(a &&& 2 ^ k≠0)↔a.testBit k=true:=by
 constructor
 ·intro h;cases hb:a.testBit k
  ·refine absurd (Nat.eq_of_testBit_eq fun i=>?_) h;rw[Nat.testBit_and,Nat.testBit_two_pow,Nat.zero_testBit];by_cases e:k=i
   ·subst e;simp[hb]
   ·simp[e]
  ·rfl
 ·intro h e;have:=Nat.testBit_and a (2 ^ k) k;rw[e,Nat.zero_testBit,h,Nat.testBit_two_pow] at this;simp at this
theorem Aon{u k:Int}(hu:0<=u)(hu1:u<=18446744073709551615)(h0:0<=k)(h1:k<=15):(D2 .u64 u (Eu .u64 1 k) != 0)=Ax2 u k:=by
 have hp:=HM (n:=k.toNat) (by omega);have:=Ayv u.toNat k.toNat;unfold Ax2;rw[A8s h0 h1];generalize 2 ^ k.toNat=m at hp this ⊢;rw[Ar1 hu hu1 (by omega) (by omega),Jd];cases hb:u.toNat.testBit k.toNat
 ·rw[hb] at this;simp only[ne_eq,Bool.false_eq_true,iff_false,Decidable.not_not] at this;rw[this];rfl
 ·rw[hb] at this;simp only[ne_eq,iff_true] at this;simp only[bne_iff_ne,ne_eq];omega
def Anb(u k:Int):Int:=Xr .u64 u (Eu .u64 1 k)
theorem A5w{u k:Int}(hu:0<=u)(hu1:u<=18446744073709551615)(h0:0<=k)(h1:k<=15):0<=Anb u k/\Anb u k<=18446744073709551615:=by have hp:=HM (n:=k.toNat) (by omega);unfold Anb;rw[A8s h0 h1];generalize 2 ^ k.toNat=m at hp ⊢;rw[Aye hu hu1 (by omega) (by omega)];have Ck:u.toNat ||| ((m:Nat):Int).toNat<2 ^ 64:=Nat.or_lt_two_pow (by omega) (by omega);omega
def put(f lf:Int):List (Int × Int)->Option (List (Int × Int))
 |[]=>some [(f,lf)]
 |p::r=>if p.1<f then (put f lf r).map (p :: ·) else if p.1=f then (if lf<=p.2 then none else some ((f,lf)::r)) else some ((f,lf)::p::r)
def Asc:List (Int × Int)->Prop
 |[]=>True
 |p::r=>(∀q∈r,p.1<q.1)/\Asc r
theorem Ale{f lf:Int}:∀{l r:List (Int × Int)},put f lf l=some r->∀q∈r,q=(f,lf)\/q∈l
 |[],r,h,q,hq=>by cases h;simp at hq;exact .inl hq
 |p::l,r,h,q,hq=>by
  unfold put at h;split at h
  ·cases hp:put f lf l with
   |none=>rw[hp] at h;cases h
   |some r'=>
    rw[hp] at h;cases h;rcases Ch.1 hq with rfl|hq
    ·exact .inr (by simp)
    ·exact (Ale hp q hq).imp id fun h=>by simp[h]
  ·split at h
   ·split at h
    ·cases h
    ·cases h;rcases Ch.1 hq with rfl|hq
     ·exact .inl rfl
     ·exact .inr (by simp[hq])
   ·cases h;rcases Ch.1 hq with rfl|hq
    ·exact .inl rfl
    ·exact .inr hq
theorem Akt{f lf:Int}:∀{l r:List (Int × Int)},Asc l->put f lf l=some r->Asc r
 |[],r,_,h=>by cases h;exact⟨by simp,trivial⟩
 |p::l,r,ha,h=>by
  unfold put at h;split at h
  ·rename_i h1;cases hp:put f lf l with
   |none=>rw[hp] at h;cases h
   |some r'=>
    rw[hp] at h;cases h;refine⟨fun q hq=>?_,Akt ha.2 hp⟩;rcases Ale hp q hq with rfl|hq
    ·exact h1
    ·exact ha.1 q hq
  ·split at h
   ·rename_i h2;split at h
    ·cases h
    ·cases h;exact⟨fun q hq=>by have:=ha.1 q hq;simp only;omega,ha.2⟩
   ·cases h;refine⟨fun q hq=>?_,ha⟩;rcases Ch.1 hq with rfl|hq
    ·simp only;omega
    ·have:=ha.1 q hq;simp only;omega
def FF(c:Sd)(leaf from_:Int):Bool:=decide (c.ht<0)||decide (c.ht>4)||decide (from_<0)||decide (from_>leaf)||decide (leaf>=Eu .i64 1 c.ht)
def Ok(c:Sd)(leaf from_ now:Int):Sd × Int:=
 if FF c leaf from_=true then (c,9)
 else if c.sus=true then (c,39)
 else if Ax2 c.used leaf=true then ({ c with sus:=true },37)
 else match put from_ leaf c.rg with
  |none=>(c,37)
  |some r=>({ c with used:=Anb c.used leaf,rg:=r,last:=now },0)
structure Sd.ok(c:Sd):Prop where
 idB:Cz c.id
 idL:c.id.length<=1000000
 u0:0<=c.used
 u1:c.used<=18446744073709551615
 asc:Asc c.rg
 rgn:c.rg.length<=1000
theorem Akw{f lf:Int}:∀{l r:List (Int × Int)},put f lf l=some r->r.length<=l.length+1
 |[],r,h=>by cases h;simp
 |p::l,r,h=>by
  unfold put at h;split at h
  ·cases hp:put f lf l with
   |none=>rw[hp] at h;cases h
   |some r'=>
    rw[hp] at h;cases h;have:=Akw hp;simp;omega
  ·split at h
   ·split at h
    ·cases h
    ·cases h;simp
   ·cases h;simp
theorem VA{c:Sd}{leaf from_:Int}(h:FF c leaf from_=false):0<=from_/\from_<=leaf/\leaf<=15/\0<=c.ht/\c.ht<=4/\leaf<((2 ^ c.ht.toNat:Nat):Int):=by
 unfold FF at h;simp only[Bool.or_eq_false_iff,decide_eq_false_iff_not] at h;obtain⟨⟨⟨⟨h1,h2⟩,h3⟩,h4⟩,h5⟩:=h;rw[A79 (by omega) (by omega)] at h5;have hp:(2:Nat) ^ c.ht.toNat<=2 ^ 4:=Nat.pow_le_pow_right (by omega) (by omega);have h16:(2:Nat) ^ 4=16:=by decide
 omega
section
variable {xs:FuncId->Option (Ae->Option Bv)}(fu d:Nat)(call:Ap)
def Ut(Z:Nat)(Y:Ae)(X W:Int)(V U:Int)(T:Bool)(S:Int)(Q:Nat)(P:Ae)(O:Bool)(N M:Int)(L K J:Int)(I:Nat)(H G E:Int)(D:Nat)(B A:Int)(z w:Int)(v:Bool)(u:Int)(t:Nat)(y11:Bool)(y12 y13:Int)(y14 y15:Ae)(y16:Nat)(y17 y18:Int)(y19 ZY:Int)(y21:Bool)(y22:Int)(y23:Nat)(y24:Bool)(y25 y26:Int)(y27 y28:Ae):Option Bv:=Kk fu call 55 Tryz.f55 [.agg [Am 1 Z Y,X,Ag W,Ag V,U,T,Ag S,Am 2 Q P,O,N,M],L,K,J] [.r,.r,.r] I ⟨lk [(1,H),(2,G),(3,E),(4,.ptr 4 0),(8,.ptr 8 0)],C4 [(4,.st [.view 120 1 0 D,B,Ag A,Ag z,w,v,Ag u,.view 932 2 0 t,y11,y12,y13]),(120,.ar false y14),(932,.ar false y15),(8,.st [.view 124 1 0 y16,y17,Ag y18,Ag y19,ZY,y21,Ag y22,.view 936 2 0 y23,y24,y25,y26]),(124,.ar false y27),(936,.ar false y28)]⟩
def I2(Z:Nat)(Y:Ae)(X W:Int)(V U:Int)(T:Bool)(S:Int)(Q:Nat)(P:Ae)(O:Bool)(N M:Int)(L K J:Int)(I:Nat)(H G:Int)(E D B:Int)(A:Nat)(z w:Int)(v u:Int)(t:Bool)(y11:Int)(y12:Nat)(y13:Bool)(y14 y15:Int)(y16 y17:Ae)(y18:Nat)(y19 ZY:Int)(y21 y22:Int)(y23:Bool)(y24:Int)(y25:Nat)(y26:Bool)(y27 y28:Int)(y29 y30:Ae):Option Bv:=Kk fu call 55 Tryz.f55 [.agg [Am 1 Z Y,X,Ag W,Ag V,U,T,Ag S,Am 2 Q P,O,N,M],L,K,J] [.r,.r,.r,.r,.r,.r,.r,.r,.l,.l] I ⟨lk [(1,H),(2,G),(3,E),(4,.ptr 4 0),(8,.ptr 8 0),(11,Ag D),(12,B)],C4 [(4,.st [.view 120 1 0 A,z,Ag w,Ag v,u,t,Ag y11,.view 932 2 0 y12,y13,y14,y15]),(120,.ar false y16),(932,.ar false y17),(8,.st [.view 124 1 0 y18,y19,Ag ZY,Ag y21,y22,y23,Ag y24,.view 936 2 0 y25,y26,y27,y28]),(124,.ar false y29),(936,.ar false y30)]⟩
theorem DR(J:Nat)(I:Ae)(H G:Int)(E D:Int)(B:Bool)(A:Int)(z:Nat)(w:Ae)(v:Bool)(u t:Int)(a1 a2 a3:Int)(U:Nat)(Gc:0<U)(T y1 y2:Int)(Z:Nat)(S Q:Int)(P O:Int)(N:Bool)(V:Int)(Y:Nat)(M:Bool)(L K:Int)(X W:Ae)(y16:Nat)(y17 y18:Int)(y19 ZY:Int)(y21:Bool)(y22:Int)(y23:Nat)(y24:Bool)(y25 y26:Int)(y27 y28:Ae):Ut fu call J I H G E D B A z w v u t a1 a2 a3 U T y1 y2 Z S Q P O N V Y M L K X W y16 y17 y18 y19 ZY y21 y22 y23 y24 y25 y26 y27 y28=(Aw M (As (decide (0+Z*1<=X.length))<|As (decide (0+Y*2<=W.length))<|Bk [.agg [Am 1 Z (List.take (Z*1) (X.drop 0)),S,Ag Q,Ag P,O,N,Ag V,Am 2 Y (List.take (Y*2) (W.drop 0)),M,L,K],(39:Int)]) (As (decide (0<=T))<|Aa (Eu .u64 1 T) fun a=>Aa (D2 .u64 V a) fun b=>Aw (b != 0) (As (decide (0+Z*1<=X.length))<|As (decide (0+Y*2<=W.length))<|Bk [.agg [Am 1 Z (List.take (Z*1) (X.drop 0)),S,Ag Q,Ag P,O,N,Ag V,Am 2 Y (List.take (Y*2) (W.drop 0)),true,L,K],(37:Int)]) (I2 fu call J I H G E D B A z w v u t a1 a2 a3 fu T y1 y2 a 0 Z S Q P O N V Y M L K X W y16 y17 y18 y19 ZY y21 y22 y23 y24 y25 y26 y27 y28))):=by cases U with|zero=>exact absurd Gc (Nat.lt_irrefl 0)|succ U=>kernel_rfl
theorem Qs(G:Nat)(E:Ae)(D B:Int)(A z:Int)(w:Bool)(v:Int)(u:Nat)(t:Ae)(A8p:Bool)(A7i A1l:Int)(a1 a2 a3:Int)(nn:Nat)(U K:Int)(J I Z:Int)(X:Nat)(T S:Int)(Q P:Int)(O:Bool)(N:Int)(Y:Nat)(M:Bool)(L H:Int)(V W:Ae)(y18:Nat)(y19 ZY:Int)(y21 y22:Int)(y23:Bool)(y24:Int)(y25:Nat)(y26:Bool)(y27 y28:Int)(y29 y30:Ae):I2 fu call G E D B A z w v u t A8p A7i A1l a1 a2 a3 (nn+1) U K J I Z X T S Q P O N Y M L H V W y18 y19 ZY y21 y22 y23 y24 y25 y26 y27 y28 y29 y30=(Aw (decide (Z<(↑Y:Int))) (As (decide (0<=Z)&&decide (Z<(↑Y:Int)))<|Bq .i64 (W.getD (0+Z.toNat*2+0) .top) fun a=>Aw (decide (a<K)) (Aa (wrap .i64 (Z+1)) fun a=>I2 fu call G E D B A z w v u t A8p A7i A1l a1 a2 a3 nn U K J I a X T S Q P O N Y M L H V W y18 y19 ZY y21 y22 y23 y24 y25 y26 y27 y28 y29 y30) (Aw (Z==(↑Y:Int)) (As (decide (Y*2<=W.length))<|A9 (call 99 [.own 2 Y (W.take (Y*2)),Z,PV.tup [.own 2 1 [K,U]]]) fun a b=>VY 2 a fun a c e=>Ak e<|Ad b fun b e=>Ak e<|As (decide (0<=Z)&&decide (Z<(↑a:Int)))<|As (decide (0+Z.toNat*2+1+1<=c.length))<|Aa (B6 c [U] (0+Z.toNat*2+1)) fun b=>Aa (Xr .u64 N I) fun c=>As (decide (0+X*1<=V.length))<|As (decide (0+a*2<=b.length))<|Bk [.agg [Am 1 X (List.take (X*1) (V.drop 0)),T,Ag S,Ag Q,P,O,Ag c,Am 2 a (List.take (a*2) (b.drop 0)),M,L,J],(0:Int)]) (As (decide (0<=Z)&&decide (Z<(↑Y:Int)))<|Bq .i64 (W.getD (0+Z.toNat*2+0) .top) fun a=>Aw (a != K) (As (decide (Y*2<=W.length))<|A9 (call 99 [.own 2 Y (W.take (Y*2)),Z,PV.tup [.own 2 1 [K,U]]]) fun a b=>VY 2 a fun a c e=>Ak e<|Ad b fun b e=>Ak e<|As (decide (0<=Z)&&decide (Z<(↑a:Int)))<|As (decide (0+Z.toNat*2+1+1<=c.length))<|Aa (B6 c [U] (0+Z.toNat*2+1)) fun b=>Aa (Xr .u64 N I) fun c=>As (decide (0+X*1<=V.length))<|As (decide (0+a*2<=b.length))<|Bk [.agg [Am 1 X (List.take (X*1) (V.drop 0)),T,Ag S,Ag Q,P,O,Ag c,Am 2 a (List.take (a*2) (b.drop 0)),M,L,J],(0:Int)]) (As (decide (0<=Z)&&decide (Z<(↑Y:Int)))<|Bq .i64 (W.getD (0+Z.toNat*2+1) .top) fun a=>Aw (decide (a>=U)) (As (decide (0+X*1<=V.length))<|As (decide (0+Y*2<=W.length))<|Bk [.agg [Am 1 X (List.take (X*1) (V.drop 0)),T,Ag S,Ag Q,P,O,Ag N,Am 2 Y (List.take (Y*2) (W.drop 0)),M,L,H],(37:Int)]) (As (decide (0<=Z)&&decide (Z<(↑Y:Int)))<|As (decide (0+Z.toNat*2+1+1<=W.length))<|Aa (B6 W [U] (0+Z.toNat*2+1)) fun a=>Aa (Xr .u64 N I) fun b=>As (decide (0+X*1<=V.length))<|As (decide (0+Y*2<=a.length))<|Bk [.agg [Am 1 X (List.take (X*1) (V.drop 0)),T,Ag S,Ag Q,P,O,Ag b,Am 2 Y (List.take (Y*2) (a.drop 0)),M,L,J],(0:Int)]))))) (Aw (Z==(↑Y:Int)) (As (decide (Y*2<=W.length))<|A9 (call 99 [.own 2 Y (W.take (Y*2)),Z,PV.tup [.own 2 1 [K,U]]]) fun a b=>VY 2 a fun a c e=>Ak e<|Ad b fun b e=>Ak e<|As (decide (0<=Z)&&decide (Z<(↑a:Int)))<|As (decide (0+Z.toNat*2+1+1<=c.length))<|Aa (B6 c [U] (0+Z.toNat*2+1)) fun b=>Aa (Xr .u64 N I) fun c=>As (decide (0+X*1<=V.length))<|As (decide (0+a*2<=b.length))<|Bk [.agg [Am 1 X (List.take (X*1) (V.drop 0)),T,Ag S,Ag Q,P,O,Ag c,Am 2 a (List.take (a*2) (b.drop 0)),M,L,J],(0:Int)]) (As (decide (0<=Z)&&decide (Z<(↑Y:Int)))<|Bq .i64 (W.getD (0+Z.toNat*2+0) .top) fun a=>Aw (a != K) (As (decide (Y*2<=W.length))<|A9 (call 99 [.own 2 Y (W.take (Y*2)),Z,PV.tup [.own 2 1 [K,U]]]) fun a b=>VY 2 a fun a c e=>Ak e<|Ad b fun b e=>Ak e<|As (decide (0<=Z)&&decide (Z<(↑a:Int)))<|As (decide (0+Z.toNat*2+1+1<=c.length))<|Aa (B6 c [U] (0+Z.toNat*2+1)) fun b=>Aa (Xr .u64 N I) fun c=>As (decide (0+X*1<=V.length))<|As (decide (0+a*2<=b.length))<|Bk [.agg [Am 1 X (List.take (X*1) (V.drop 0)),T,Ag S,Ag Q,P,O,Ag c,Am 2 a (List.take (a*2) (b.drop 0)),M,L,J],(0:Int)]) (As (decide (0<=Z)&&decide (Z<(↑Y:Int)))<|Bq .i64 (W.getD (0+Z.toNat*2+1) .top) fun a=>Aw (decide (a>=U)) (As (decide (0+X*1<=V.length))<|As (decide (0+Y*2<=W.length))<|Bk [.agg [Am 1 X (List.take (X*1) (V.drop 0)),T,Ag S,Ag Q,P,O,Ag N,Am 2 Y (List.take (Y*2) (W.drop 0)),M,L,H],(37:Int)]) (As (decide (0<=Z)&&decide (Z<(↑Y:Int)))<|As (decide (0+Z.toNat*2+1+1<=W.length))<|Aa (B6 W [U] (0+Z.toNat*2+1)) fun a=>Aa (Xr .u64 N I) fun b=>As (decide (0+X*1<=V.length))<|As (decide (0+Y*2<=a.length))<|Bk [.agg [Am 1 X (List.take (X*1) (V.drop 0)),T,Ag S,Ag Q,P,O,Ag b,Am 2 Y (List.take (Y*2) (a.drop 0)),M,L,J],(0:Int)]))))):=by kernel_rfl
theorem NG{p:Option (Ae->Option Bv)}(fu d X:Nat)(W:Ae)(V U:Int)(T S:Int)(Q:Bool)(P:Int)(O:Nat)(N:Ae)(M:Bool)(L K:Int)(Z Y J:Int):Ac (CP p) prog fu (d+1) 55 [.agg [Am 1 X W,V,Ag U,Ag T,S,Q,Ag P,Am 2 O N,M,L,K],Z,Y,J]=(fun (call:Ap)=>Dl (call 98 [.agg [Am 1 X W,V,Ag U,Ag T,S,Q,Ag P,Am 2 O N,M,L,K]]) fun a b=>Di a fun a=>VY 1 a fun a c e=>Br .i64 e fun e f=>Br .u64 f fun f g=>Br .u64 g fun g h=>Br .i64 h fun h i=>Ad i fun i j=>Ax i fun i=>Br .u64 j fun j k=>VY 2 k fun k m n=>Ad n fun n o=>Ax n fun n=>Br .i64 o fun o q=>Cg .i64 q fun q=>Ak b<|Aw (decide (e<0)) (As (decide (0+a*1<=c.length))<|As (decide (0+k*2<=m.length))<|Bk [.agg [Am 1 a (List.take (a*1) (c.drop 0)),e,Ag f,Ag g,h,i,Ag j,Am 2 k (List.take (k*2) (m.drop 0)),n,o,q],(9:Int)]) (Aw (decide (e>4)) (As (decide (0+a*1<=c.length))<|As (decide (0+k*2<=m.length))<|Bk [.agg [Am 1 a (List.take (a*1) (c.drop 0)),e,Ag f,Ag g,h,i,Ag j,Am 2 k (List.take (k*2) (m.drop 0)),n,o,q],(9:Int)]) (Aw (decide (Y<0)) (As (decide (0+a*1<=c.length))<|As (decide (0+k*2<=m.length))<|Bk [.agg [Am 1 a (List.take (a*1) (c.drop 0)),e,Ag f,Ag g,h,i,Ag j,Am 2 k (List.take (k*2) (m.drop 0)),n,o,q],(9:Int)]) (Aw (decide (Y>Z)) (As (decide (0+a*1<=c.length))<|As (decide (0+k*2<=m.length))<|Bk [.agg [Am 1 a (List.take (a*1) (c.drop 0)),e,Ag f,Ag g,h,i,Ag j,Am 2 k (List.take (k*2) (m.drop 0)),n,o,q],(9:Int)]) (As (decide (0<=e))<|Aa (Eu .i64 1 e) fun b=>Aw (decide (Z>=b)) (As (decide (0+a*1<=c.length))<|As (decide (0+k*2<=m.length))<|Bk [.agg [Am 1 a (List.take (a*1) (c.drop 0)),e,Ag f,Ag g,h,i,Ag j,Am 2 k (List.take (k*2) (m.drop 0)),n,o,q],(9:Int)]) (Ut fu call X W V U T S Q P O N M L K Z Y J fu Z Y J a e f g h i j k n o q c m 0 0 0 0 0 false 0 0 false 0 0 ([]) ([]))))))) (Ac (CP p) prog fu d):=by kernel_rfl
end
section
variable {xs:FuncId->Option (Ae->Option Bv)}(fu d:Nat)(call:Ap)
theorem Ze{p:Option (Ae->Option Bv)}(fu d:Nat)(Y:Int)(X:Bool)(W V:Int)(U:Bool)(T:Int)(S:Bool)(Q:Nat)(P:Ae)(O N:Int)(Z M:Int)(L K:Int)(J:Nat)(I:Ae)(H G:Int):Ac (CP p) prog fu (d+1) 94 [.agg [Y,X,W,V,U,T,S,Am 1 Q P,O],.agg [Ag N,Z,M,L,Ag K,Am 1 J I,H,Ag G]]=(fun (call:Ap)=>Aa (D2 .i64 Z 1) fun a=>Aw (a==0) (Bk [(22:Int)]) (Aw (Y==2) (Aa (D2 .i64 Z 4) fun a=>Aw (a==0) (Bk [(23:Int)]) (Bk [(0:Int)])) (Bk [(0:Int)]))) (Ac (CP p) prog fu d):=by kernel_rfl
theorem EF{p:Option (Ae->Option Bv)}(fu d:Nat)(U:Int)(T:Bool)(S Q:Int)(P:Bool)(O:Int)(Y:Bool)(X:Nat)(W:Ae)(N V Z:Int):Ac (CP p) prog fu (d+1) 95 [.agg [U,T,S,Q,P,O,Y,Am 1 X W,N],Ag V,Z]=(fun (call:Ap)=>Aw (Z==3) (Bk [(39:Int)]) (Aw (Z==4) (Bk [(39:Int)]) (Dl (call 134 [Am 1 X W,Ag V]) fun a b=>Ax a fun a=>Ak b<|Aw a (Bk [(40:Int)]) (Aw (Z==2) (Aw (!Y) (Bk [(40:Int)]) (Bk [(0:Int)])) (Bk [(0:Int)]))))) (Ac (CP p) prog fu d):=by kernel_rfl
theorem MK{p:Option (Ae->Option Bv)}(fu d:Nat)(Z:Int)(Y:Bool)(X W:Int)(V:Bool)(U:Int)(T:Bool)(S:Nat)(Q:Ae)(P M:Int)(O L:Int)(K J:Int)(I:Nat)(H:Ae)(G E:Int)(A:Nat)(z:Ae)(w v:Int)(N u:Int)(D:Bool)(A58:Int)(A92:Nat)(A4j:Ae)(Boa:Bool)(Bls Bbn B:Int):Ac (CP p) prog fu (d+1) 53 [.agg [Z,Y,X,W,V,U,T,Am 1 S Q,P],.agg [Ag M,O,L,K,Ag J,Am 1 I H,G,Ag E],.agg [Am 1 A z,w,Ag v,Ag N,u,D,Ag A58,Am 2 A92 A4j,Boa,Bls,Bbn],B]=(fun (call:Ap)=>Gt .i64 (call 94 [.agg [Z,Y,X,W,V,U,T,Am 1 S Q,P],.agg [Ag M,O,L,K,Ag J,Am 1 I H,G,Ag E]]) fun a=>Aw (a != 0) (Bk [a]) (Aa (D2 .i64 O 8) fun a=>Aw (!(a != 0)==D) (Bk [(40:Int)]) (Aw (N==0) (Bk [(0:Int)]) (Gt .i64 (call 95 [.agg [Z,Y,X,W,V,U,T,Am 1 S Q,P],Ag N,B]) fun a=>Bk [a])))) (Ac (CP p) prog fu d):=by kernel_rfl
theorem Vb{p:Option (Ae->Option Bv)}(fu d Z:Nat)(Y:Ae)(X:Int):Ac (CP p) prog fu (d+1) 134 [Am 1 Z Y,Ag X]=(fun (call:Ap)=>Gt .i64 (call 161 [Am 1 Z Y,Ag X]) fun a=>Bk [De (decide (a>=0))]) (Ac (CP p) prog fu d):=by kernel_rfl
def F5(Z:Nat)(Y:Ae)(X:Int)(W V:Nat)(U:Ae)(T S Q:Int):Option Bv:=Kk fu call 161 Tryz.f161 [Am 1 Z Y,Ag X] [.r,.l,.r,.l] W ⟨lk [(0,Am 1 V U),(1,Ag T),(7,S),(8,Q)],C4 []⟩
theorem Kp(U:Nat)(T:Ae)(S:Int)(Q Y:Nat)(X:Ae)(W V Z:Int):F5 fu call U T S (Q+1) Y X W V Z=(Aw (decide (Z<V)) (As (decide (0<=Z)&&decide (Z<(↑Y:Int)))<|Bq .u64 (X.getD (Z.toNat*1) .top) fun a=>Aw (W==a) (Bk [Z]) (Aa (wrap .i64 (Z+1)) fun a=>F5 fu call U T S Q Y X W V a)) (Bk [(-1:Int)])):=by kernel_rfl
theorem Zk{p:Option (Ae->Option Bv)}(fu d Z:Nat)(Y:Ae)(X:Int):Ac (CP p) prog fu (d+1) 161 [Am 1 Z Y,Ag X]=(fun (call:Ap)=>F5 fu call Z Y X fu Z Y X (↑Z:Int) 0) (Ac (CP p) prog fu d):=by kernel_rfl
end
theorem Yj{α:Type}(f:Nat->α)(i:Nat):(List.range (i+1)).map f=(List.range i).map f++[f i]:=by rw[List.range_succ,List.map_append];rfl
section
variable {fu d:Nat}
theorem FN(h:Int):Ac C1 prog fu (d+1) 57 [Ar h]=some ⟨[De (!E2 h)],[]⟩:=by
 rw[BO];unfold E2;by_cases h0:h<0
 ·simp(disch:=omega)only[Be,Bf,h0,decide_true,Bool.true_or,Fl]
 ·have e:decide (h<=4) = !decide (h>4):=by
   by_cases c:h<=4
   ·have:¬h>4:=by omega
    simp[c,this]
   ·have:h>4:=by omega
    simp[c,this]
  simp(disch:=omega)only[Be,Bf,h0,decide_false,Bool.false_or,e]
theorem Ahp{ws:Al}(hl:ws.length<=100)(B2:1000<=fu)(dom:Int):Ac C1 prog fu (d+4) 69 [Ar dom,.lst false 1 (A8 ws).length (Af .u8 (A8 ws))]=some ⟨[Ag (E3 dom (A8 ws))],[]⟩:=
 JJ (xs:=WB) (Xc ws) (by rw[E4];omega) (by omega) (by rw[E4];omega) dom
theorem OY{call:Ap}{a0 m:Int}:∀(k nn:Nat)(i:Nat),i+k=16->k<nn ->
  G7 fu call a0 nn m ((List.range i).map (Hd m)).length (K8 m i) (15-(i:Int)) (Af .i64 ((List.range i).map (Hd m)))=some ⟨[.own 1 18 (Af .i64 (dgs m))],[]⟩
 |_,0,_,_,h=>by omega
 |0,nn+1,i,hi,hn=>by
  have e:i=16:=by omega
  subst e;have hs:=Ls m 16
  have wq:wrap .i64 (Int.tdiv (K8 m 16) 16)=K8 m 16 / 16:=by
   rw[Int.tdiv_eq_ediv_of_nonneg (by omega),Bn]
  have wm:Int.tmod (K8 m 16) 16=K8 m 16 % 16:=Int.tmod_eq_emod_of_nonneg (by omega)
  have e2:Af .i64 ((List.range 16).map (Hd m))++[PV.sc (.int .i64 (K8 m 16 / 16)),PV.sc (.int .i64 (K8 m 16 % 16))]=Af .i64 (dgs m):=by
   unfold dgs;rw[Af,Af,List.flatMap_append];rfl
  have L:(Af .i64 (dgs m)).length=18:=by rw[An,Ak0]
  have tk:List.take 18 (Af .i64 (dgs m))=Af .i64 (dgs m):=Hz (by omega);have l16:((List.range 16).map (Hd m)).length=16:=by simp
  have L16:=An .i64 ((List.range 16).map (Hd m));have t16:=PL .i64 ((List.range 16).map (Hd m));rw[l16] at L16 t16 ⊢;rw[M5,Gs _ _ _ (by omega)];simp(disch:=omega)only[Be,Bf,wq,wm,J1,t16,e2,L16,Nat.reduceAdd,L,tk]
 |k+1,nn+1,i,hi,hn=>by
  have ih:=OY (call:=call) (a0:=a0) (m:=m) k nn (i+1) (by omega) (by omega);have hb:=Ue m i;have hs:=Ls m i;have w1:wrap .i64 (4*(15-(i:Int)))=60-4*(i:Int):=B0
  have w2:wrap .u64 (60-4*(i:Int))=60-4*(i:Int):=Ej;have hd:wrap .i64 (D2 .u64 (Hc .u64 m (60-4*(i:Int))) 15)=Hd m i:=rfl;have w15:wrap .i64 (15-Hd m i)=15-Hd m i:=Bn;have ws:wrap .i64 (K8 m i+(15-Hd m i))=K8 m (i+1):=by rw[Bn];rfl
  have wi:wrap .i64 (15-(i:Int)-1)=15-((i+1:Nat):Int):=B0
  have L:=An .i64 ((List.range i).map (Hd m));have l16:((List.range i).map (Hd m)).length=i:=by simp
  rw[Yj,Wy,List.length_singleton,<-Wv] at ih;rw[M5];simp(disch:=omega)only[Be,Bf,w1,w2,hd,w15,ws,wi,J1,PL,L];exact ih
theorem Aoq(B2:1000<=fu)(m:Int):Ac C1 prog fu (d+1) 100 [Ag m]=some ⟨[.own 1 18 (Af .i64 (dgs m))],[]⟩:=by rw[DP];exact OY (fu:=fu) (a0:=m) (m:=m) 16 fu 0 (by omega) (by omega)
theorem ZC{leaf chain:Int}{a0 a1 a2 a3 a4:Int}(B2:1000<=fu){t:Int}(ht:t<=15):∀(k nn:Nat)(p x:Int),(k:Int)=t-p->0<=p->k<nn ->
  Ib fu (Ac C1 prog fu (d+4)) a0 a1 a2 a3 a4 nn leaf chain t x p=some ⟨[Ag (Yb leaf chain k p x)],[]⟩
 |_,0,_,_,_,_,h=>by omega
 |0,nn+1,p,x,hk,hp,hn=>by
  rw[P9];simp only[Gf];rw[B3 (by omega),Gs _ _ _ (by omega)];rfl
 |k+1,nn+1,p,x,hk,hp,hn=>by
  have w:wrap .i64 (p+1)=p+1:=Bn;have wd:Ac C1 prog fu (d+4) 62 [.lst false 1 4 [Ag (wrap .u64 leaf),Ag (wrap .u64 chain),Ag (wrap .u64 p),Ag x]]=_:=J6 (xs:=WB) (ws:=[wrap .u64 leaf,wrap .u64 chain,wrap .u64 p,x]) (by simp) (by omega) (by simp;omega)
  have hs:=Ahp (fu:=fu) (d:=d) (ws:=[wrap .u64 leaf,wrap .u64 chain,wrap .u64 p,x]) (by simp) B2 1;have ih:=ZC (leaf:=leaf) (chain:=chain) (a0:=a0) (a1:=a1) (a2:=a2) (a3:=a3) (a4:=a4) B2 ht k nn (p+1) (E3 1 (A8 [wrap .u64 leaf,wrap .u64 chain,wrap .u64 p,x])) (by omega) (by omega) (by omega);have L:=An .u8 (A8 [wrap .u64 leaf,wrap .u64 chain,wrap .u64 p,x]);have eR:Yb leaf chain (k+1) p x=Yb leaf chain k (p+1) (E3 1 (A8 [wrap .u64 leaf,wrap .u64 chain,wrap .u64 p,x])):=rfl;rw[eR];generalize A8 [wrap .u64 leaf,wrap .u64 chain,wrap .u64 p,x]=W at wd hs ih L ⊢;have e15:(if (15:Int)<t then 15 else t)=t:=B3 (by omega);rw[P9]
  simp(disch:=omega)only[Be,Bf,e15,wd,J1,Ie,Me,PL,L,hs,w];exact ih
theorem Akk{leaf chain:Int}(B2:1000<=fu)(k:Nat)(f t x:Int)(hk:(k:Int)=t-f)(h0:0<=f)(h1:t<=15):Ac C1 prog fu (d+5) 101 [Ar leaf,Ar chain,Ar f,Ar t,Ag x]=some ⟨[Ag (Yb leaf chain k f x)],[]⟩:=by rw[IM];simp only[Gf];rw[B3 (by omega)];exact ZC B2 h1 k fu f x hk h0 (by omega)
theorem RV(B2:1000<=fu)(seed leaf chain:Int):Ac C1 prog fu (d+5) 111 [Ag seed,Ar leaf,Ar chain]=some ⟨[Ag (Ajs seed leaf chain)],[]⟩:=by
 have wd:Ac C1 prog fu (d+4) 62 [.lst false 1 2 [Ag (wrap .u64 leaf),Ag (wrap .u64 chain)]]=_:=J6 (xs:=WB) (ws:=[wrap .u64 leaf,wrap .u64 chain]) (by simp) (by omega) (by simp;omega)
 have hs:=Ako (xs:=WB) (fu:=fu) (d:=d) (Xc [wrap .u64 leaf,wrap .u64 chain]) (by rw[E4];simp) (by omega) (by rw[E4];simp;omega) seed 1
 have L:=An .u8 (A8 [wrap .u64 leaf,wrap .u64 chain]);rw[AC];unfold Ajs;generalize A8 [wrap .u64 leaf,wrap .u64 chain]=W at wd hs L ⊢;simp(disch:=omega)only[Be,Bf,wd,J1,Ie,Me,PL,L,hs]
theorem Ane(B2:1000<=fu)(w:Int):Ac C1 prog fu (d+1) 62 [.lst false 1 1 [Ag w]]=some ⟨[.own 1 8 (Af .u8 (Bu w))],[]⟩:=by
 have:=J6 (xs:=WB) (fu:=fu) (d:=d) (ws:=[w]) (by simp) (by omega) (by simp;omega)
 simp only[A8,Ji,List.flatMap_nil,List.append_nil,Tm,WG,Cl] at this;exact this
theorem Atz(B2:1000<=fu)(leaf:Int){E:Al}(hE:E.length<=50):Ac C1 prog fu (d+5) 102 [Ar leaf,.lst false 1 E.length (Af .u64 E)]=some ⟨[Ag (NQ leaf E)],[]⟩:=by
 have w1:=Ane (fu:=fu) (d:=d+3) B2 (wrap .u64 leaf);have w2:=J6 (xs:=WB) (fu:=fu) (d:=d+3) (ws:=E) (by omega) (by omega) (by omega);have hs:=Ahp (fu:=fu) (d:=d) (ws:=wrap .u64 leaf::E) (by simp;omega) B2 2
 have eW:A8 (wrap .u64 leaf::E)=Bu (wrap .u64 leaf)++A8 E:=rfl
 have eC:Af .u8 (Bu (wrap .u64 leaf))++Af .u8 (A8 E)=Af .u8 (A8 (wrap .u64 leaf::E)):=by
  rw[eW,Af,Af,Af,List.flatMap_append]
 have l0:(Bu (wrap .u64 leaf)).length=8:=Cl _;have l1:=E4 E;have l2:(A8 (wrap .u64 leaf::E)).length=8+(A8 E).length:=by rw[eW,Wy,l0]
 have L0:=An .u8 (Bu (wrap .u64 leaf));rw[l0] at L0;have L1:=An .u8 (A8 E);have L2:=An .u8 (A8 (wrap .u64 leaf::E));have t8:List.take 8 (Af .u8 (Bu (wrap .u64 leaf)))=Af .u8 (Bu (wrap .u64 leaf)):=Hz (by omega);have tW:List.take (8+(A8 E).length) (Af .u8 (A8 (wrap .u64 leaf::E)))=Af .u8 (A8 (wrap .u64 leaf::E)):=Hz (by omega);rw[l2] at hs;rw[GY];simp(disch:=omega)only[Be,Bf,w1,w2,J1,Ie,Me,PL,t8,L0,L1,eC,L2,tW,hs];rfl
theorem RF{a0 a1 seed leaf:Int}(B2:1000<=fu):∀(k nn i:Nat),i+k=18->k<nn ->
  Hj fu (Ac C1 prog fu (d+5)) a0 a1 nn seed leaf ((List.range i).map (Abl seed leaf)).length i (Af .u64 ((List.range i).map (Abl seed leaf)))=some ⟨[Ag (LP seed leaf)],[]⟩
 |_,0,_,_,h=>by omega
 |0,nn+1,i,hi,hn=>by
  have e:i=18:=by omega
  subst e;have l18:((List.range 18).map (Abl seed leaf)).length=18:=by simp
  have en:=Atz (fu:=fu) (d:=d) B2 leaf (E:=(List.range 18).map (Abl seed leaf)) (by omega);have L:=An .u64 ((List.range 18).map (Abl seed leaf));rw[Nj,Gs _ _ _ (by omega)];simp(disch:=omega)only[Be,Bf,J1,Ie,Me,PL,L,en];rfl
 |k+1,nn+1,i,hi,hn=>by
  have ih:=RF (a0:=a0) (a1:=a1) (seed:=seed) (leaf:=leaf) B2 k nn (i+1) (by omega) (by omega);have sc:=RV (fu:=fu) (d:=d) B2 seed leaf i;have rn:=Akk (fu:=fu) (d:=d) (leaf:=leaf) (chain:=i) B2 15 0 15 (Ajs seed leaf i) (by omega) (by omega) (by omega);have w:wrap .i64 ((i:Int)+1)=((i+1:Nat):Int):=B0
  have L:=An .u64 ((List.range i).map (Abl seed leaf));have li:((List.range i).map (Abl seed leaf)).length=i:=by simp
  rw[Yj,Wy,List.length_singleton,<-Wv] at ih;rw[Nj];simp(disch:=omega)only[Be,Bf,sc,rn,J1,PL,L,w];exact ih
theorem Ars(B2:1000<=fu)(seed leaf:Int):Ac C1 prog fu (d+6) 112 [Ag seed,Ar leaf]=some ⟨[Ag (LP seed leaf)],[]⟩:=by rw[GQ];exact RF (fu:=fu) (d:=d) B2 18 fu 0 (by omega) (by omega)
theorem A91(m:Int){i:Nat}(h:i<18):(dgs m)[i]?=some (dg m i):=by
 unfold dg;rw[List.getD_eq_getElem?_getD,List.getElem?_eq_getElem (by rw[Ak0];omega)]
 rfl
theorem AD{a0 a1 a2 seed leaf m:Int}(B2:1000<=fu):∀(k nn i:Nat),i+k=18->k<nn ->
  Fu fu (Ac C1 prog fu (d+5)) a0 a1 a2 nn seed leaf 18 ((List.range i).map (Acb seed leaf m)).length i (Af .i64 (dgs m)) (Af .u64 ((List.range i).map (Acb seed leaf m)))=some ⟨[.own 1 18 (Af .u64 (EI seed leaf m))],[]⟩
 |_,0,_,_,h=>by omega
 |0,nn+1,i,hi,hn=>by
  have e:i=18:=by omega
  subst e;have l18:((List.range 18).map (Acb seed leaf m)).length=18:=by simp
  have L:=An .u64 ((List.range 18).map (Acb seed leaf m));rw[Kb,Gs _ _ _ (by omega)];simp(disch:=omega)only[Be,Bf,J1,PL,L];rw[l18];rfl
 |k+1,nn+1,i,hi,hn=>by
  have ih:=AD (a0:=a0) (a1:=a1) (a2:=a2) (seed:=seed) (leaf:=leaf) (m:=m) B2 k nn (i+1) (by omega) (by omega);have hb:=MC m i;have sc:=RV (fu:=fu) (d:=d) B2 seed leaf i;have rn:=Akk (fu:=fu) (d:=d) (leaf:=leaf) (chain:=i) B2 (dg m i).toNat 0 (dg m i) (Ajs seed leaf i) (by omega) (by omega) (by omega);have w:wrap .i64 ((i:Int)+1)=((i+1:Nat):Int):=B0
  have L:=An .u64 ((List.range i).map (Acb seed leaf m));have li:((List.range i).map (Acb seed leaf m)).length=i:=by simp
  rw[Yj,Wy,List.length_singleton,<-Wv] at ih;rw[Kb];simp(disch:=omega)only[Be,Bf,Jd,J1,Ie,HJ (A91 m (show i<18 by omega)),sc,rn,PL,L,w];exact ih
theorem Aa8(B2:1000<=fu)(seed leaf m:Int):Ac C1 prog fu (d+6) 70 [Ag seed,Ar leaf,Ag m]=some ⟨[.own 1 18 (Af .u64 (EI seed leaf m))],[]⟩:=by rw[Yv];have sp:=Aoq (fu:=fu) (d:=d+4) B2 m;simp only[Be,Bf,sp];exact AD (fu:=fu) (d:=d) B2 18 fu 0 (by omega) (by omega)
theorem Ajz(B2:1000<=fu)(level a b:Int):Ac C1 prog fu (d+5) 59 [Ar level,Ag a,Ag b]=some ⟨[Ag (Rh level a b)],[]⟩:=by
 have wd:Ac C1 prog fu (d+4) 62 [.lst false 1 3 [Ag (wrap .u64 level),Ag a,Ag b]]=_:=J6 (xs:=WB) (ws:=[wrap .u64 level,a,b]) (by simp) (by omega) (by simp;omega)
 have hs:=Ahp (fu:=fu) (d:=d) (ws:=[wrap .u64 level,a,b]) (by simp) B2 3;have L:=An .u8 (A8 [wrap .u64 level,a,b]);rw[BA];unfold Rh;generalize A8 [wrap .u64 level,a,b]=W at wd hs L ⊢;simp(disch:=omega)only[Be,Bf,wd,J1,Ie,Me,PL,L,hs]
theorem KI(B2:1000<=fu)(seed:Int):∀(l:Nat)(i B:Int),0<=i->i<=B->(2 ^ l:Nat)*(B+1)<=1000000000->l<=20->Ac C1 prog fu (d+7+l) 71 [Ag seed,Ar l,Ar i]=some ⟨[Ag (K1 seed l i)],[]⟩
 |0,i,B,h0,h1,h2,hl=>by
  have lf:=Ars (fu:=fu) (d:=d) B2 seed i;refine (R2 fu (d+6) seed 0 i).trans ?_;simp only[Be,Bf,Ov,if_true,lf];rfl
 |l+1,i,B,h0,h1,h2,hl=>by
  have hq:(2 ^ (l+1):Nat)=2 ^ l*2:=Nat.pow_succ _ _;have Ags:0<2 ^ l:=Nat.pow_pos (by omega);rw[hq] at h2;generalize hQ:2 ^ l=q at h2 Ags
  have hb:((q*2:Nat):Int)*(B+1)=(q:Int)*(2*B+1+1):=by
   rw[Int.natCast_mul,Int.mul_assoc]
   congr 1
   omega
  rw[hb] at h2
  have hBq:2*B+1+1<=(q:Int)*(2*B+1+1):=by
   have:=Int.mul_le_mul_of_nonneg_right (show (1:Int)<=q by omega) (show (0:Int)<=2*B+1+1 by omega);omega
  have n1:=KI B2 seed l (2*i) (2*B+1) (by omega) (by omega) (by rw[hQ];exact h2) (by omega)
  have n2:=KI B2 seed l (2*i+1) (2*B+1) (by omega) (by omega) (by rw[hQ];exact h2) (by omega)
  have pr:=Ajz (fu:=fu) (d:=d+2+l) B2 ((l+1:Nat):Int) (K1 seed l (2*i)) (K1 seed l (2*i+1));rw[show d+2+l+5=d+7+l by omega] at pr;have w1:wrap .i64 (((l+1:Nat):Int)-1)=(l:Int):=B0
  have w2:wrap .i64 (2*i)=2*i:=Bn;have w3:wrap .i64 (2*i+1)=2*i+1:=Bn;have ne:¬(((l+1:Nat):Int)=0):=by omega
  refine (R2 fu (d+7+l) seed ((l+1:Nat):Int) i).trans ?_;simp only[Be,Bf,Ov,ne,if_false,w1,w2,w3,n1,n2,pr];rfl
end
theorem wu{h:Int}(h0:0<=h)(h4:h<=4):wrap .u64 h=h:=Ej
theorem Aik{leaf h:Int}(h0:0<=h)(h4:h<=4)(ho:L7 leaf h=false):0<=leaf/\leaf<2 ^ h.toNat:=by
 unfold L7 at ho;simp only[Bool.or_eq_false_iff,decide_eq_false_iff_not] at ho;have:h=0\/h=1\/h=2\/h=3\/h=4:=by omega
 rcases this with rfl|rfl|rfl|rfl|rfl
 ·have e:Eu .i64 1 0=1:=by decide
  rw[e] at ho;exact⟨by omega,by show leaf<1;omega⟩
 ·have e:Eu .i64 1 1=2:=by decide
  rw[e] at ho;exact⟨by omega,by show leaf<2;omega⟩
 ·have e:Eu .i64 1 2=4:=by decide
  rw[e] at ho;exact⟨by omega,by show leaf<4;omega⟩
 ·have e:Eu .i64 1 3=8:=by decide
  rw[e] at ho;exact⟨by omega,by show leaf<8;omega⟩
 ·have e:Eu .i64 1 4=16:=by decide
  rw[e] at ho;exact⟨by omega,by show leaf<16;omega⟩
theorem A5h{h:Int}(h0:0<=h)(h4:h<=4):(2:Int) ^ h.toNat<=16:=by
 have:h=0\/h=1\/h=2\/h=3\/h=4:=by omega
 rcases this with rfl|rfl|rfl|rfl|rfl<;>decide
theorem Aja{leaf:Int}(h0:0<=leaf)(h1:leaf<16){k:Nat}(hk:k<4):0<=Zz leaf k/\Zz leaf k<=15:=by
 have H:∀n:Fin 16,∀k:Fin 4,0<=Zz (n.val:Int) k.val/\Zz (n.val:Int) k.val<=15:=by decide
 obtain⟨n,rfl⟩:=Int.eq_ofNat_of_zero_le h0;exact H ⟨n,by omega⟩ ⟨k,hk⟩
section
variable {fu d:Nat}
theorem Ajm(B2:1000<=fu)(seed h:Int):Ac C1 prog fu (d+12) 61 [Ag seed,Ar h]=some ⟨[.agg (Ts seed h).cells,Ar (if E2 h=true then 9 else 0)],[]⟩:=by
 refine (Z7 fu (d+11) seed h).trans ?_;have h1:=FN (fu:=fu) (d:=d+10) h;unfold Ts;cases c1:E2 h
 ·rw[c1] at h1;have hb:=Rc c1
  have nd:=KI (fu:=fu) (d:=d+4-h.toNat) B2 seed h.toNat 0 0 (by omega) (by omega) (by
   have:h=0\/h=1\/h=2\/h=3\/h=4:=by omega
   rcases this with rfl|rfl|rfl|rfl|rfl<;>decide) (by omega)
  rw[show d+4-h.toNat+7+h.toNat=d+11 by omega,show ((h.toNat:Nat):Int)=h by omega] at nd;simp only[Be,Bf,h1,nd];rfl
 ·rw[c1] at h1;simp only[Be,Bf,h1];rfl
theorem TX{a0 a1 a2 a3:Int}{seed leaf h:Int}(hh:0<=h/\h<=4)(hl:0<=leaf/\leaf<16)(B2:1000<=fu){y4 y9:Int}{y5 y6:Nat}{y7 y8:Ae}{ch:Al}:∀(k nn i:Nat),i+k=h.toNat->k<nn ->
  Hk fu (Ac C1 prog fu (d+11)) a0 a1 a2 a3 nn seed h leaf i y4 y5 y6 y7 y8 leaf ch.length ((List.range i).map fun k=>K1 seed k (Zz leaf k)).length (Af .u64 ch) (Af .u64 ((List.range i).map fun k=>K1 seed k (Zz leaf k)))=some ⟨[.agg (Sg.mk leaf ch ((List.range h.toNat).map fun k=>K1 seed k (Zz leaf k))).owned,Ar 0],[]⟩
 |_,0,_,_,h=>by omega
 |0,nn+1,i,hi,hn=>by
  have e:i=h.toNat:=by omega
  subst e;have L1:=An .u64 ch;have L2:=An .u64 ((List.range h.toNat).map fun k=>K1 seed k (Zz leaf k));rw[Nu,Gs _ _ _ (by omega)];simp(disch:=omega)only[Be,Bf,J1,PL,L1,L2];rfl
 |k+1,nn+1,i,hi,hn=>by
  have ih:=TX (a0:=a0) (a1:=a1) (a2:=a2) (a3:=a3) (seed:=seed) (y4:=y4) (y9:=y9) (y5:=y5) (y6:=y6) (y7:=y7) (y8:=y8) (ch:=ch) hh hl B2 k nn (i+1) (by omega) (by omega);have sb:=Aja hl.1 hl.2 (k:=i) (by omega)
  have nd:=KI (fu:=fu) (d:=d+4-i) B2 seed i (Zz leaf i) 15 sb.1 sb.2 (by
   have:i=0\/i=1\/i=2\/i=3:=by omega
   rcases this with rfl|rfl|rfl|rfl<;>decide) (by omega)
  rw[show d+4-i+7+i=d+11 by omega] at nd;have es:Ew .i64 (Hc .i64 leaf (i:Int)) 1=Zz leaf i:=rfl;have w:wrap .i64 ((i:Int)+1)=((i+1:Nat):Int):=B0
  have wi:wrap .u64 (i:Int)=i:=Ej;have L:=An .u64 ((List.range i).map fun k=>K1 seed k (Zz leaf k));have li:((List.range i).map fun k=>K1 seed k (Zz leaf k)).length=i:=by simp
  rw[Yj,Wy,List.length_singleton,<-Wv] at ih;rw[Nu];simp(disch:=omega)only[Be,Bf,wi,es,nd,J1,PL,L,w];exact ih
theorem Atv(B2:1000<=fu)(seed h leaf m:Int):Ac C1 prog fu (d+12) 37 [Ag seed,Ar h,Ar leaf,Ag m]=some ⟨Aa4 (Ai7 seed h leaf m),[]⟩:=by
 refine (HI fu (d+11) seed h leaf m).trans ?_;have h1:=FN (fu:=fu) (d:=d+10) h;unfold Ai7;cases c1:E2 h
 ·rw[c1] at h1;have hb:=Rc c1;have w:=wu hb.1 hb.2;rw[B3 (by simp)];by_cases hn:leaf<0
  ·have ho:L7 leaf h=true:=by unfold L7;simp[hn]
   rw[Cr ho];simp(disch:=omega)only[Be,Bf,h1];rfl
  ·by_cases hg:leaf>=Eu .i64 1 h
   ·have ho:L7 leaf h=true:=by unfold L7;simp[hg]
    rw[Cr ho];simp (disch:=first|omega|exact hg) only[Be,Bf,h1,w];rfl
   ·have ho:L7 leaf h=false:=by unfold L7;simp only[Bool.or_eq_false_iff,decide_eq_false_iff_not];exact⟨hn,hg⟩
    have Ck:=Aik hb.1 hb.2 ho;have h16:=A5h hb.1 hb.2;rw[B3 (by rw[ho];simp)]
    have sl:=Aa8 (fu:=fu) (d:=d+5) B2 seed leaf m;have lp:=TX (fu:=fu) (d:=d) (a0:=seed) (a1:=h) (a2:=leaf) (a3:=m) (seed:=seed) (leaf:=leaf) (h:=h) hb (by omega) B2 (y4:=0) (y9:=0) (y5:=0) (y6:=0) (y7:=[]) (y8:=[]) (ch:=EI seed leaf m) h.toNat fu 0 (by omega) (by omega);have l18:(EI seed leaf m).length=18:=by simp[EI]
    rw[l18] at lp;simp (disch:=first|omega|exact hg) only[Be,Bf,h1,w,sl];exact lp
 ·rw[c1] at h1;rw[Cr rfl];simp(disch:=omega)only[Be,Bf,h1];rfl
theorem TW(B2:1000<=fu)(k:Ky):Ac C1 prog fu (d+2) 68 [.agg k.cells]=some ⟨(if E2 k.h=true then [.own 1 0 [],Ar 9] else [.own 1 9 (Af .u8 (IW k)),Ar 0]),[]⟩:=by
 refine (Wx fu (d+1) k.h k.root).trans ?_;have h1:=FN (fu:=fu) (d:=d) k.h;have wd:=Ane (fu:=fu) (d:=d) B2 k.root;have L:=An .u8 (Bu k.root);rw[Cl] at L;have t8:List.take 8 (Af .u8 (Bu k.root))=Af .u8 (Bu k.root):=Hz (by omega)
 have t9:List.take 9 ([PV.sc (.int .u8 (wrap .u8 k.h))]++Af .u8 (Bu k.root))=Af .u8 (IW k):=by
  rw[Hz (by rw[Wy,L];simp)]
  rfl
 have L9:([PV.sc (.int .u8 (wrap .u8 k.h))]++Af .u8 (Bu k.root)).length=9:=by rw[Wy,L];rfl
 cases c1:E2 k.h
 ·rw[c1] at h1;rw[B3 (by simp)];simp(disch:=omega)only[Be,Bf,h1,wd,J1,Ie,Me,L,t8,Nat.reduceAdd,L9,t9]
 ·rw[c1] at h1;rw[Cr rfl];simp(disch:=omega)only[Be,Bf,h1]
end
section
variable {fu d:Nat}
theorem Av0(n:Nat):E2 (n:Int)=decide ((n:Int)>4):=by
 unfold E2;have:¬((n:Int)<0):=by omega
 simp[this]
theorem UC(B2:1000<=fu)(s:Sg)(hp:s.path.length<=1000000000):Ac C1 prog fu (d+2) 40 [.agg s.cells]=some ⟨(if E2 s.path.length=true then [.own 1 0 [],Ar 9] else if L7 s.leaf s.path.length=true then [.own 1 0 [],Ar 9] else if s.chains.length≠18 then [.own 1 0 [],Ar 4] else [.own 1 (sgB s).length (Af .u8 (sgB s)),Ar 0]),[]⟩:=by
 refine (Ph fu (d+1) s.leaf s.chains.length (Af .u64 s.chains) s.path.length (Af .u64 s.path)).trans ?_;rw[Av0];by_cases c1:(s.path.length:Int)>4
 ·rw[Cr (by simp[c1])];simp(disch:=omega)only[Be,Bf]
 ·rw[B3 (by simp[c1])];have w:=wu (h:=s.path.length) (by omega) (by omega);by_cases hn:s.leaf<0
  ·have ho:L7 s.leaf s.path.length=true:=by unfold L7;simp[hn]
   rw[Cr ho];simp(disch:=omega)only[Be,Bf]
  ·by_cases hg:s.leaf>=Eu .i64 1 s.path.length
   ·have ho:L7 s.leaf s.path.length=true:=by unfold L7;simp[hg]
    rw[Cr ho];simp (disch:=first|omega|exact hg) only[Be,Bf,w]
   ·have ho:L7 s.leaf s.path.length=false:=by unfold L7;simp only[Bool.or_eq_false_iff,decide_eq_false_iff_not];exact⟨hn,hg⟩
    rw[B3 (by rw[ho];simp)]
    by_cases c3:s.chains.length=18
    ·have w1:=J6 (xs:=WB) (fu:=fu) (d:=d) (ws:=s.chains) (by omega) (by omega) (by omega);have w2:=J6 (xs:=WB) (fu:=fu) (d:=d) (ws:=s.path) (by omega) (by omega) (by omega);have l1:=E4 s.chains;have l2:=E4 s.path;have L1:=An .u8 (A8 s.chains);have L2:=An .u8 (A8 s.path)
     have eB:Af .u8 (sgB s)=[PV.sc (.int .u8 (wrap .u8 s.leaf)),PV.sc (.int .u8 (wrap .u8 s.path.length))]++Af .u8 (A8 s.chains)++Af .u8 (A8 s.path):=by
      unfold sgB;simp
     have eL:(sgB s).length=2+(A8 s.chains).length+(A8 s.path).length:=by
      unfold sgB;simp;omega
     rw[B3 (by omega),eB,eL];have t2:List.take (2+(A8 s.chains).length) ([PV.sc (.int .u8 (wrap .u8 s.leaf)),PV.sc (.int .u8 (wrap .u8 s.path.length))]++Af .u8 (A8 s.chains))=[PV.sc (.int .u8 (wrap .u8 s.leaf)),PV.sc (.int .u8 (wrap .u8 s.path.length))]++Af .u8 (A8 s.chains):=Hz (by rw[Wy,L1];simp)
     have t3:List.take (2+(A8 s.chains).length+(A8 s.path).length) ([PV.sc (.int .u8 (wrap .u8 s.leaf)),PV.sc (.int .u8 (wrap .u8 s.path.length))]++Af .u8 (A8 s.chains)++Af .u8 (A8 s.path))=[PV.sc (.int .u8 (wrap .u8 s.leaf)),PV.sc (.int .u8 (wrap .u8 s.path.length))]++Af .u8 (A8 s.chains)++Af .u8 (A8 s.path):=Hz (by rw[Wy,Wy,L1,L2];simp)
     have k2:([PV.sc (.int .u8 (wrap .u8 s.leaf)),PV.sc (.int .u8 (wrap .u8 s.path.length))]++Af .u8 (A8 s.chains)).length=2+(A8 s.chains).length:=by rw[Wy,L1];rfl
     have k3:([PV.sc (.int .u8 (wrap .u8 s.leaf)),PV.sc (.int .u8 (wrap .u8 s.path.length))]++Af .u8 (A8 s.chains)++Af .u8 (A8 s.path)).length=2+(A8 s.chains).length+(A8 s.path).length:=by rw[Wy,k2,L2]
     simp (disch:=first|omega|exact hg) only[Be,Bf,w,Hh,w1,w2,J1,Ie,Me,L1,L2,PL,t2,t3,k2,k3];rw[Cr (by omega)]
    ·rw[Cr c3];simp (disch:=first|omega|exact hg) only[Be,Bf,w,Hh];rw[B3 (by omega)]
end
theorem Ave(seed leaf m:Int):Ann leaf m (EI seed leaf m)=LP seed leaf:=by
 unfold Ann LP SE
 congr 1
 refine List.map_congr_left fun i hi=>?_;have hi:=List.mem_range.1 hi;have hb:=MC m i;unfold Aie Abl
 have e:(EI seed leaf m).getD i 0=Acb seed leaf m i:=by
  unfold EI;rw[List.getD_eq_getElem?_getD,List.getElem?_map,List.getElem?_range hi];rfl
 rw[e];unfold Acb;have:=Agc leaf i (dg m i).toNat (15-dg m i).toNat 0 (Ajs seed leaf i);rw[show (dg m i).toNat+(15-dg m i).toNat=15 by omega,show (0:Int)+((dg m i).toNat:Nat)=dg m i by omega] at this;exact this.symm
theorem Aoa:∀n:Fin 16,∀k:Fin 4,
  (D2 .i64 (Hc .i64 (n.val:Int) k.val) 1=0/\Hc .i64 (n.val:Int) k.val=2*Hc .i64 (n.val:Int) ((k.val+1:Nat):Int)/\Zz n.val k.val=2*Hc .i64 (n.val:Int) ((k.val+1:Nat):Int)+1) \/
  (D2 .i64 (Hc .i64 (n.val:Int) k.val) 1≠0/\Hc .i64 (n.val:Int) k.val=2*Hc .i64 (n.val:Int) ((k.val+1:Nat):Int)+1/\Zz n.val k.val=2*Hc .i64 (n.val:Int) ((k.val+1:Nat):Int)):=by decide
theorem SD(seed:Int){leaf:Int}(h0:0<=leaf)(h1:leaf<16):∀(k i:Nat),i+k<=4 ->
  HF leaf i (K1 seed i (Hc .i64 leaf i)) ((List.range' i k).map fun j=>K1 seed j (Zz leaf j))=K1 seed (i+k) (Hc .i64 leaf ((i+k:Nat):Int))
 |0,i,_=>rfl
 |k+1,i,h=>by
  rw[List.range'_succ,X4,NU];obtain⟨n,rfl⟩:=Int.eq_ofNat_of_zero_le h0;have ih:=SD seed h0 h1 k (i+1) (by omega);rw[show i+(k+1)=i+1+k by omega,<-ih]
  congr 1
  rcases Aoa ⟨n,by omega⟩ ⟨i,by omega⟩ with⟨a,b,c⟩|⟨a,b,c⟩
  ·simp only at a b c;rw[Cr a,b,c];rfl
  ·simp only at a b c;rw[B3 a,b,c];rfl
theorem Aun{seed h leaf m:Int}(hh:E2 h=false)(ho:L7 leaf h=false):Acp (Ts seed h) m ⟨leaf,EI seed leaf m,(List.range h.toNat).map fun k=>K1 seed k (Zz leaf k)⟩=0:=by
 have hb:=Rc hh;have hl:=Aik hb.1 hb.2 ho;have h16:=A5h hb.1 hb.2
 have eP:Ts seed h=⟨h,K1 seed h.toNat 0⟩:=by
  unfold Ts;rw[hh];rfl
 rw[eP];unfold Acp;simp only;rw[B3 (show ¬E2 h=true by rw[hh];simp),B3 (show ¬L7 leaf h=true by rw[ho];simp),B3 (show ¬(EI seed leaf m).length≠18 by simp[EI]),B3 (by rw[List.length_map,List.length_range];omega),Ave]
 have c:=SD seed hl.1 (show leaf<16 by omega) h.toNat 0 (by omega)
 have e0:Hc .i64 leaf ((0:Nat):Int)=leaf:=by
  show leaf.fdiv (2 ^ (min ((0:Nat):Int).toNat IntKind.i64.bits))=leaf;have:(2:Int) ^ (min ((0:Nat):Int).toNat IntKind.i64.bits)=1:=by decide
  rw[this,Int.fdiv_one]
 have eh:Hc .i64 leaf ((0+h.toNat:Nat):Int)=0:=by
  have H:∀n:Fin 16,∀k:Fin 5,(n.val:Int)<2 ^ k.val->Hc .i64 (n.val:Int) ((0+k.val:Nat):Int)=0:=by decide
  obtain⟨n,hn⟩:=Int.eq_ofNat_of_zero_le hl.1;have:=H ⟨n,by omega⟩ ⟨h.toNat,by omega⟩ (by simp only;rw[<-hn];exact hl.2)
  rw[hn];exact this
 rw[e0,eh,Ie] at c;have er:List.range' 0 h.toNat=List.range h.toNat:=List.range_eq_range'.symm;rw[er] at c;have el:K1 seed 0 leaf=LP seed leaf:=rfl;rw[el] at c;rw[c];unfold okE;rw[Cr rfl]
abbrev isU(x:Int):Prop:=0<=x/\x<=18446744073709551615
abbrev isW(l:Al):Prop:=∀x∈l,isU x
theorem JI:∀{ws:Al}{i:Nat}{w:Int},isW ws->ws[i]?=some w->Yi (A8 ws) i=w
 |[],i,w,_,h=>by simp at h
 |a::ws,0,w,hw,h=>by
  simp at h;subst h;have e:A8 (a::ws)=Bu a++A8 ws:=rfl;unfold Yi;rw[Nat.mul_zero,Me,e,List.take_left' (Cl a)];have:=hw a (by simp);exact YJ this.1 this.2
 |a::ws,i+1,w,hw,h=>by
  simp at h;have ih:=JI (ws:=ws) (fun x hx=>hw x (Tz _ hx)) h;have e:A8 (a::ws)=Bu a++A8 ws:=rfl;unfold Yi at ih ⊢;rw[show 8*(i+1)=(Bu a).length+8*i by rw[Cl];omega,e,<-List.drop_drop,List.drop_left' rfl]
  exact ih
theorem KX{ws:Al}(hw:isW ws):Gq (A8 ws)=ws:=by
 have hl:(A8 ws).length / 8=ws.length:=by rw[E4];omega
 apply List.ext_getElem?;intro i;unfold Gq;rw[hl];by_cases h:i<ws.length
 ·rw[List.getElem?_map,List.getElem?_range h,List.getElem?_eq_getElem h];simp only[Option.map_some];rw[JI hw (List.getElem?_eq_getElem h)]
 ·rw[List.getElem?_eq_none (by simp;omega),List.getElem?_eq_none (by omega)]
theorem A2x{k:Ky}:Cz (IW k):=by
 intro x hx;rcases Ch.1 hx with rfl|hx
 ·have:∀v:Int,0<=wrap .u8 v/\wrap .u8 v<=255:=by
   intro v;simp only[wrap,IntKind.signed,IntKind.bits];simp;omega
  exact this _
 ·exact Uh _ x hx
structure Sg.ok(s:Sg):Prop where
 ch:isW s.chains
 pa:isW s.path
theorem A8x(s:Sg):Cz (sgB s):=by
 have w8:∀v:Int,0<=wrap .u8 v/\wrap .u8 v<=255:=by
  intro v;simp only[wrap,IntKind.signed,IntKind.bits];simp;omega
 intro x hx;unfold sgB at hx;rcases Ch.1 hx with rfl|hx
 ·exact w8 _
 rcases Ch.1 hx with rfl|hx
 ·exact w8 _
 rcases B5.1 hx with hx|hx
 ·exact Xc _ x hx
 ·exact Xc _ x hx
theorem Azy{s:Sg}(hs:s.ok)(h1:E2 s.path.length=false)(h2:L7 s.leaf s.path.length=false)(h3:s.chains.length=18):sgD (sgB s)=some s:=by
 obtain⟨leaf,ch,pa⟩:=s;obtain⟨hc,hp⟩:=hs;simp only at h1 h2 h3 hc hp;have hb:=Rc h1;have ho:=Aik hb.1 hb.2 h2;have h16:=A5h hb.1 hb.2;have w1:wrap .u8 leaf=leaf:=Ow (by omega) (by omega);have w2:wrap .u8 (pa.length:Int)=pa.length:=Ow (by omega) (by omega);have lc:(A8 ch).length=144:=by rw[E4];omega
 have lp:(A8 pa).length=8*pa.length:=E4 pa
 have len:(sgB ⟨leaf,ch,pa⟩).length=2+144+8*pa.length:=by
  unfold sgB;simp only[Tm,Wy,lc,lp];omega
 have g0:(sgB ⟨leaf,ch,pa⟩).getD 0 0=leaf:=w1;have g1:(sgB ⟨leaf,ch,pa⟩).getD 1 0=pa.length:=w2;have d2:(sgB ⟨leaf,ch,pa⟩).drop 2=A8 ch++A8 pa:=rfl
 have d146:(sgB ⟨leaf,ch,pa⟩).drop 146=A8 pa:=by
  rw[show 146=2+144 from rfl,<-List.drop_drop,d2,List.drop_left' lc]
 unfold sgD;rw[Cr ⟨by omega,by rw[g1];exact h1,by rw[g0,g1];exact h2,by rw[g1,len];omega⟩,g0,d2,d146,List.take_left' lc,KX hc,KX hp]
theorem QZ(dom:Int)(l:Al):isU (E3 dom l):=Tk _
theorem A5b(key dom:Int)(l:Al):isU (Axp key dom l):=Tk _
theorem Asv(leaf chain:Int):∀(k:Nat)(p:Int){x:Int},isU x->isU (Yb leaf chain k p x)
 |0,_,_,h=>h
 |k+1,p,x,h=>Asv leaf chain k (p+1) (QZ _ _)
theorem A4s(seed leaf m:Int):isW (EI seed leaf m):=by intro x hx;obtain⟨k,_,rfl⟩:=List.mem_map.1 hx;exact Asv _ _ _ _ (A5b _ _ _)
theorem Aw3(seed:Int):∀(l:Nat)(i:Int),isU (K1 seed l i)
 |0,i=>QZ _ _
 |l+1,i=>QZ _ _
theorem MM{seed h:Int}(hh:E2 h=false):(Ts seed h).h=h:=by unfold Ts;rw[B3 (by simp[hh])]
theorem Axc{seed h leaf m:Int}(hh:E2 h=false)(ho:L7 leaf h=false):∃s,Ai7 seed h leaf m=some s/\s.ok/\s.leaf=leaf/\s.chains.length=18/\(s.path.length:Int)=h/\Acp (Ts seed h) m s=0:=by
 have hb:=Rc hh;refine⟨⟨leaf,EI seed leaf m,(List.range h.toNat).map fun k=>K1 seed k (Zz leaf k)⟩,?_,⟨A4s _ _ _,?_⟩,rfl,by simp[EI],?_,Aun hh ho⟩
 ·unfold Ai7;rw[B3 (by simp[hh]),B3 (by simp[ho])]
 ·intro x hx;obtain⟨k,_,rfl⟩:=List.mem_map.1 hx;exact Aw3 _ _ _
 ·simp only[List.length_map,List.length_range];omega
theorem Ad4{α:Type}{l:List α}{i:Nat}{a:α}(h:l[i]?=some a):l.set i a=l:=by
 refine List.ext_getElem? fun j=>?_;rw[List.getElem?_set];by_cases hj:i=j
 ·subst hj;rw[Cr rfl,Cr (Yo h),h]
 ·rw[B3 hj]
section
variable {xs:FuncId->Option (Ae->Option Bv)}{fu d:Nat}
theorem YG{n:Nat}{c:Ae}(hc:c.length=n)(hn:n<=1000000):Ac (CX xs) prog fu (d+1) 84 [.lst false 1 n c]=some ⟨[.own 1 n c],[]⟩:=by
 rw[WL];have t1:List.take n c=c:=Hz (by omega);by_cases h:0<n
 ·simp(disch:=omega)only[Be,Bf,Ie,VW,t1,hc,J1]
 ·have h0:n=0:=by omega
  subst h0;have:=List.length_eq_zero_iff.1 hc;subst this;simp(disch:=omega)only[Be,Bf,Ie,VW,WG,J1,Nat.zero_mul,List.take_nil]
theorem Anf{n:Nat}{c:Ae}(hc:c.length=n*2)(hn:n<=1000000):Ac (CX xs) prog fu (d+1) 137 [.lst false 2 n c]=some ⟨[.own 2 n c],[]⟩:=by
 rw[AP];have t1:List.take (n*2) c=c:=Hz (by omega);by_cases h:0<n
 ·simp(disch:=omega)only[Be,Bf,Ie,VW,t1,hc]
 ·have h0:n=0:=by omega
  subst h0;have:=List.length_eq_zero_iff.1 hc;subst this;simp(disch:=omega)only[Be,Bf,Ie,VW,WG,Nat.zero_mul,List.take_nil]
def Sd.ocells(x:Sd):Ae:=[.own 1 x.id.length (Af .u8 x.id),Ar x.ht,Ag x.root,Ag x.model,Ar x.fmt,De (x.sh),Ag x.used,.own 2 x.rg.length (Rv x.rg),De (x.sus),Ar x.since,Ar x.last]
theorem WV{c:Sd}(h1:c.id.length<=1000000)(h2:c.rg.length<=1000000):Ac (CX xs) prog fu (d+2) 98 [.agg c.cells]=some ⟨[.agg c.ocells],[]⟩:=by refine (AU fu (d+1) c.id.length (Af .u8 c.id) c.ht c.root c.model c.fmt c.sh c.used c.rg.length (Rv c.rg) c.sus c.since c.last).trans ?_;have q1:=YG (xs:=xs) (fu:=fu) (d:=d) (An .u8 c.id) h1;have q2:=Anf (xs:=xs) (fu:=fu) (d:=d) (O3 c.rg) h2;have l1:=An .u8 c.id;have l2:=O3 c.rg;have t1:List.take (c.id.length*1) (Af .u8 c.id)=Af .u8 c.id:=Hz (by omega);have t2:List.take (c.rg.length*2) (Rv c.rg)=Rv c.rg:=Hz (by omega);simp(disch:=omega)only[Be,Bf,q1,q2,t1,t2];rfl
end
section
variable {fu d:Nat}
theorem Ao9{c:Ae}{n:Nat}{i f l:Int}(hc:c.length=n*2)(h0:0<=i)(h1:i<=n)(hn:n<=100000)(ha:c.all UB=true):
  Ac C1 prog fu (d+1) 99 [.own 2 n c,Ar i,.tup [.own 2 1 [Ar f,Ar l]]] =
   some ⟨[.own 2 (n+1) (c.take (i.toNat*2)++(Ar f :: Ar l::c.drop (i.toNat*2)))],[[Ar f,Ar l]]⟩:=by
 have h:Ac C1 prog fu (d+1) 99 [.own 2 n c,Ar i,.tup [.own 2 1 [Ar f,Ar l]]]=Avs [.own 2 n c,Ar i,.tup [.own 2 1 [Ar f,Ar l]]]:=by kernel_rfl
 rw[h];unfold Avs
 have e:(Nat.beq c.length (n*2)&&decide (0<=i)&&decide (i<=n)&&Nat.ble n 100000&&c.all UB)=true:=by
  simp[ha,hc,h0,h1,hn]
 simp only[e,cond_true]
theorem Aza(l:List (Int × Int)):(Rv l).all UB=true:=by
 rw[List.all_eq_true];intro x hx;obtain⟨p,_,hp⟩:=List.mem_flatMap.1 hx;rcases Ch.1 hp with rfl|hp
 ·rfl
 ·rw[Qi] at hp;subst hp;rfl
theorem Bkb{l:List (Int × Int)}{i:Nat}{p:Int × Int}(h:l[i]?=some p):(Rv l).getD (i*2) .top=Ar p.1:=by have:=KU (f:=fun p:Int × Int=>[PV.sc (.int .i64 p.1),Ar p.2]) (k:=2) (fun _=>rfl) h (j:=0) (by omega);exact this
theorem Bl3{l:List (Int × Int)}{i:Nat}{p:Int × Int}(h:l[i]?=some p):(Rv l).getD (i*2+1) .top=Ar p.2:=by have:=KU (f:=fun p:Int × Int=>[PV.sc (.int .i64 p.1),Ar p.2]) (k:=2) (fun _=>rfl) h (j:=1) (by omega);exact this
def Acl(c:Sd)(leaf now:Int):Option (List (Int × Int))->Bv
 |none=>⟨[.agg c.cells,Ar 37],[]⟩
 |some r=>⟨[.agg ({ c with used:=Anb c.used leaf,rg:=r,last:=now }:Sd).cells,Ar 0],[]⟩
theorem Asr{c:Sd}{leaf from_ now:Int}(hl:0<=leaf/\leaf<=15)(hr:c.rg.length<=1000)(B4:c.id.length<=1000000){call:Ap}(Azm:∀i:Nat,i<=c.rg.length->call 99 [.own 2 c.rg.length (Rv c.rg),Ar (i:Int),.tup [.own 2 1 [Ar from_,Ar leaf]]]=some ⟨[.own 2 (c.rg.length+1) ((Rv c.rg).take (i*2)++(Ar from_ :: Ar leaf::(Rv c.rg).drop (i*2)))],[[Ar from_,Ar leaf]]⟩){a0n:Nat}{a0:Ae}{a1 a2 a3 a4 a6 a9 a10 b1 b2 b3:Int}{a5 a8:Bool}{a7n:Nat}{a7:Ae}{z1:Nat}{z2 z3 z4 z5 z7 z10 z11:Int}{z6 z9:Bool}{z8:Nat}{z12 z13:Ae}:
  ∀(r:List (Int × Int)) (i nn:Nat),c.rg.drop i=r->r.length<nn->i<=c.rg.length->(∀p∈c.rg.take i,p.1<from_) ->
   I2 fu call a0n a0 a1 a2 a3 a4 a5 a6 a7n a7 a8 a9 a10 b1 b2 b3 nn leaf from_ now (Eu .u64 1 leaf) (i:Int) c.id.length c.ht c.root c.model c.fmt c.sh c.used c.rg.length c.sus c.since c.last (Af .u8 c.id) (Rv c.rg) z1 z2 z3 z4 z5 z6 z7 z8 z9 z10 z11 z12 z13 =
    some (Acl c leaf now ((put from_ leaf r).map (c.rg.take i ++ ·))):=by
 intro r;have l1:=An .u8 c.id;have l2:=O3 c.rg;have t1:List.take (c.id.length*1) (Af .u8 c.id)=Af .u8 c.id:=Hz (by omega);have t2:List.take (c.rg.length*2) (Rv c.rg)=Rv c.rg:=Hz (by omega);have eS:Xr .u64 c.used (Eu .u64 1 leaf)=Anb c.used leaf:=rfl
 have insR:∀(i:Nat) (s:List (Int × Int)),i<=c.rg.length->c.rg.drop i=s->(Rv c.rg).take (i*2)++(Ar from_ :: Ar leaf::(Rv c.rg).drop (i*2))=Rv (c.rg.take i++(from_,leaf)::s):=by
  intro i s hi hs;have e1:=Acc (f:=fun p:Int × Int=>[PV.sc (.int .i64 p.1),Ar p.2]) (k:=2) (fun _=>rfl) c.rg i;have e2:=QP (f:=fun p:Int × Int=>[PV.sc (.int .i64 p.1),Ar p.2]) (k:=2) (fun _=>rfl) c.rg i;rw[Axb,Aqw,<-hs];unfold Rv;rw[e1,e2]
 have setR:∀(i:Nat) (l:List (Int × Int)) (p:Int × Int),l[i]?=some p->B6 (Rv l) [Ar leaf] (0+i*2+1)=Rv (l.set i (p.1,leaf)):=by
  intro i l p h;have Ck:=Yo h;have Ws:=O3 l;rw[Id (by omega)];have:=Aji (f:=fun p:Int × Int=>[PV.sc (.int .i64 p.1),Ar p.2]) (k:=2) (fun _=>rfl) (p:=Ar leaf) (j:=1) (by omega) (y:=(p.1,leaf)) h rfl;unfold Rv;rw[<-this]
  congr 1
  omega
 induction r with
 |nil=>
  intro i nn hd Gc hi hp;have hi':i=c.rg.length:=by have:=drop_nil hd;omega
  obtain⟨nn,rfl⟩:∃k,nn=k+1:=⟨nn-1,by omega⟩
  rw[Qs];have q:=Azm i hi;have eI:=insR i [] hi hd;rw[eI] at q;have ht:c.rg.take i=c.rg:=Hz (by omega);rw[ht] at q;have eG:(c.rg++[(from_,leaf)])[i]?=some (from_,leaf):=by rw[hi'];simp
  have eS2:=setR i _ _ eG;have eS3:=Ad4 eG;rw[eS3] at eS2;have lR:=O3 (c.rg++[(from_,leaf)]);have lA:(c.rg++[(from_,leaf)]).length=c.rg.length+1:=by simp
  have tR:List.take ((c.rg.length+1)*2) (Rv (c.rg++[(from_,leaf)]))=Rv (c.rg++[(from_,leaf)]):=Hz (by omega);have eq1:((i:Int)==(c.rg.length:Int))=true:=by simp[hi']
  have tn:Int.toNat (i:Int)=i:=rfl;have eX:put from_ leaf []=some [(from_,leaf)]:=rfl;rw[eX];simp only[Option.map_some,ht]
  repeat(with_reducible(first|apply Bj|apply Ay|apply Bi|apply Ba|apply TY|apply Kl|apply Az|apply Bh|apply Hg);· first|constructor|(simp(disch:=omega)only[He,q,t1,t2,tR,eS,eS2,eq1,tn,Me,lR,lA]<;>first|constructor|omega)|omega)
  try simp(disch:=omega)only[Aa,q,t1,t2,tR,eS,eS2,eq1,tn,Me,lR,lA]
  simp only[Acl,Sd.cells,lA]
 |cons p r ih=>
  intro i nn hd Gc hi hp;obtain⟨Ck,LX,hd'⟩:=D8 hd;obtain⟨nn,rfl⟩:∃k,nn=k+1:=⟨nn-1,by omega⟩
  rw[Qs];have eF:=Bkb LX;have eL:=Bl3 LX;have tn:Int.toNat (i:Int)=i:=rfl;have a0':(0:Nat)+i*2+0=i*2:=by omega
  have a1':(0:Nat)+i*2+1=i*2+1:=by omega
  have lt1:decide ((i:Int)<(c.rg.length:Int))=true:=by simp;omega
  have ne1:((i:Int)==(c.rg.length:Int))=false:=by simp;omega
  have w1:wrap .i64 ((i:Int)+1)=((i+1:Nat):Int):=B0
  have tk:c.rg.take (i+1)=c.rg.take i++[p]:=by rw[List.take_add_one,LX];rfl
  unfold put;by_cases c1:p.1<from_
  ·rw[Cr c1]
   have ihh:=ih (i+1) nn hd' (by simp at Gc;omega) (by omega) (by
    intro q hq;rw[tk] at hq;rcases B5.1 hq with hq|hq
    ·exact hp q hq
    ·rw[Qi] at hq;subst hq;exact c1)
   have e:((put from_ leaf r).map (p :: ·)).map (c.rg.take i ++ ·)=(put from_ leaf r).map (c.rg.take (i+1) ++ ·):=by
    rw[Option.map_map,tk]
    congr 1
    funext x
    simp
   rw[e,<-ihh];have d1:decide (p.1<from_)=true:=by simp[c1]
   simp(disch:=omega)only[Be,Bf,tn,a0',eF,w1,lt1,d1]
  ·rw[B3 c1];have d1:decide (p.1<from_)=false:=by simp;omega
   by_cases c2:p.1=from_
   ·rw[Cr c2];have d2:(p.1 != from_)=false:=by simp[c2]
    by_cases c3:leaf<=p.2
    ·rw[Cr c3];have d3:decide (p.2>=leaf)=true:=by simp;omega
     simp(disch:=omega)only[Be,Bf,tn,a0',a1',eF,eL,lt1,d1,ne1,d2,d3,t1,t2,Me,Option.map_none];rfl
    ·rw[B3 c3];have d3:decide (p.2>=leaf)=false:=by simp;omega
     have eS2:=setR i _ _ LX;have lR:=O3 (c.rg.set i (p.1,leaf));have lA:(c.rg.set i (p.1,leaf)).length=c.rg.length:=by simp
     have eA:c.rg.set i (p.1,leaf)=c.rg.take i++(from_,leaf)::r:=by
      rw[List.set_eq_take_append_cons_drop,Cr Ck,hd',c2]
     have tR:List.take (c.rg.length*2) (Rv (c.rg.set i (p.1,leaf)))=Rv (c.rg.set i (p.1,leaf)):=Hz (by omega);rw[a1'] at eS2;have hS3:i*2+1+1<=(Rv c.rg).length:=by omega
     simp(disch:=omega)only[Be,Bf,tn,a0',a1',eF,eL,lt1,d1,ne1,d2,d3,t1,tR,Me,Option.map_some,eS2,eS,lR,lA];simp only[Acl,Sd.cells,<-eA,lA]
   ·rw[B3 c2];have d2:(p.1 != from_)=true:=by simp[c2]
    have q:=Azm i hi;have eI:=insR i (p::r) hi hd;rw[eI] at q
    have eG:(c.rg.take i++(from_,leaf)::p::r)[i]?=some (from_,leaf):=by
     rw[List.getElem?_append_right (by rw[List.length_take];omega),List.length_take,Nat.min_eq_left (by omega),Nat.sub_self];rfl
    have eS2:=setR i _ _ eG;have eS3:=Ad4 eG;rw[eS3] at eS2
    have lA:(c.rg.take i++(from_,leaf)::p::r).length=c.rg.length+1:=by
     have:=congrArg List.length hd;simp at this ⊢;omega
    have lR:=O3 (c.rg.take i++(from_,leaf)::p::r);rw[Option.map_some];generalize hL:c.rg.take i++(from_,leaf)::p::r=L at *
    have tR:List.take ((c.rg.length+1)*2) (Rv L)=Rv L:=Hz (by omega);rw[a1'] at eS2;have hS3:i*2+1+1<=(Rv L).length:=by omega
    simp(disch:=omega)only[Be,Bf,tn,a0',a1',eF,lt1,d1,ne1,d2,t1,t2,q,tR,Me,eS2,eS,lR,lA];simp only[Acl,Sd.cells,lA]
theorem An9{c:Sd}(hk:c.ok)(B2:2000<=fu)(leaf from_ now:Int):Ac C1 prog fu (d+4) 55 [.agg c.cells,Ar leaf,Ar from_,Ar now]=some ⟨[.agg (Ok c leaf from_ now).1.cells,Ar (Ok c leaf from_ now).2],[]⟩:=by
 refine (NG fu (d+3) c.id.length (Af .u8 c.id) c.ht c.root c.model c.fmt c.sh c.used c.rg.length (Rv c.rg) c.sus c.since c.last leaf from_ now).trans ?_;have q:=WV (xs:=WB) (fu:=fu) (d:=d+1) hk.idL (Nat.le_trans hk.rgn (by omega));simp only[Sd.cells,Sd.ocells] at q;have l1:=An .u8 c.id;have l2:=O3 c.rg;have t1:List.take (c.id.length*1) (Af .u8 c.id)=Af .u8 c.id:=Hz (by omega);have t2:List.take (c.rg.length*2) (Rv c.rg)=Rv c.rg:=Hz (by omega);simp(disch:=omega)only[Be,Bf,q,t1,t2,Me,l1,l2];by_cases h1:c.ht<0
 ·have hb:FF c leaf from_=true:=by simp[FF,h1]
  unfold Ok;rw[Cr hb];simp(disch:=omega)only[Be,Bf];rfl
 by_cases h2:c.ht>4
 ·have hb:FF c leaf from_=true:=by simp[FF,h2]
  unfold Ok;rw[Cr hb];simp(disch:=omega)only[Be,Bf];rfl
 by_cases h3:from_<0
 ·have hb:FF c leaf from_=true:=by simp[FF,h3]
  unfold Ok;rw[Cr hb];simp(disch:=omega)only[Be,Bf];rfl
 by_cases h4:from_>leaf
 ·have hb:FF c leaf from_=true:=by simp[FF,h4]
  unfold Ok;rw[Cr hb];simp(disch:=omega)only[Be,Bf];rfl
 by_cases h5:leaf>=Eu .i64 1 c.ht
 ·have hb:FF c leaf from_=true:=by simp[FF,h5]
  unfold Ok;rw[Cr hb];simp(disch:=omega)only[Be,Bf];rfl
 have hb:FF c leaf from_=false:=by simp[FF,h1,h2,h3,h4,h5]
 obtain⟨r1,r2,r3,r4,r5,r6⟩:=VA hb;unfold Ok;rw[B3 (by rw[hb];simp)]
 simp(disch:=omega)only[Be,Bf];rw[DR (Gc:=by omega)];have ub:=Aon hk.u0 hk.u1 (k:=leaf) (by omega) (by omega);by_cases hs:c.sus=true
 ·have hsT:∀x y:Option Bv,Aw c.sus x y=x:=fun x y=>by rw[hs];rfl
  rw[Cr hs];simp(disch:=omega)only[Be,Bf,hsT,t1,t2,Me];rfl
 ·have hsF:∀x y:Option Bv,Aw c.sus x y=y:=fun x y=>by rw[Bool.not_eq_true] at hs;rw[hs];rfl
  rw[B3 hs];by_cases EN:Ax2 c.used leaf=true
  ·rw[EN] at ub;rw[Cr EN];simp(disch:=omega)only[Be,Bf,hsF,ub,t1,t2,Me];rfl
  ·rw[Bool.not_eq_true] at EN;rw[EN] at ub;rw[B3 (by simp[EN])];simp(disch:=omega)only[Be,Bf,hsF,ub];refine (Asr (c:=c) (leaf:=leaf) (from_:=from_) (now:=now) (by omega) hk.rgn hk.idL (fun i hi=>Ao9 (O3 _) (by omega) (by omega) (by have:=hk.rgn;omega) (Aza _)) c.rg 0 fu rfl (by have:=hk.rgn;omega) (by omega) (by simp)).trans ?_
   have e0:(Option.map (List.take 0 c.rg ++ ·) (put from_ leaf c.rg))=put from_ leaf c.rg:=by
    rw[List.take_zero];cases put from_ leaf c.rg<;>rfl
   rw[e0];cases put from_ leaf c.rg<;>rfl
end
theorem Axd{c:Sd}(h:c.ok)(hr:c.rg.length<1000)(leaf f now:Int):(Ok c leaf f now).1.ok:=by
 unfold Ok;split
 ·exact h
 rename_i hb;rw[Bool.not_eq_true] at hb;obtain⟨r1,r2,r3,_⟩:=VA hb;split
 ·exact h
 split
 ·exact⟨h.idB,h.idL,h.u0,h.u1,h.asc,h.rgn⟩
 split
 ·exact h
 ·rename_i r hp;have sB:=A5w h.u0 h.u1 (k:=leaf) (by omega) (by omega);have:=Akw hp;exact⟨h.idB,h.idL,sB.1,sB.2,Akt h.asc hp,by show r.length<=1000;omega⟩
section
variable {fu d:Nat}
end
structure Pol where
 vf:Int
 rs:Bool
 ht:Int
 pr:Int
 sh:Bool
 fm:Int
 od:Bool
 dn:Al
 op:Int
def Pol.cells(p:Pol):Ae:=[Ar p.vf,De (p.rs),Ar p.ht,Ar p.pr,De (p.sh),Ar p.fm,De (p.od),.lst false 1 p.dn.length (Af .u64 p.dn),Ar p.op]
def Pol.own(p:Pol):Ae:=[Ar p.vf,De (p.rs),Ar p.ht,Ar p.pr,De (p.sh),Ar p.fm,De (p.od),.own 1 p.dn.length (Af .u64 p.dn),Ar p.op]
structure Y7 where
 rp:Int
 fl:Int
 ct:Int
 rg:Int
 md:Int
 idn:Nat
 id:Ae
 kh:Int
 kr:Int
def Y7.cells(a:Y7):Ae:=[Ag a.rp,Ar a.fl,Ar a.ct,Ar a.rg,Ag a.md,.lst false 1 a.idn a.id,Ar a.kh,Ag a.kr]
structure Stc where
 n0:Nat
 c0:Ae
 i1:Int
 i2:Int
 md:Int
 i4:Int
 sh:Bool
 i6:Int
 n7:Nat
 c7:Ae
 b8:Bool
 i9:Int
 i10:Int
def Stc.cells(a:Stc):Ae:=[.lst false 1 a.n0 a.c0,Ar a.i1,Ag a.i2,Ag a.md,Ar a.i4,De (a.sh),Ag a.i6,.lst false 2 a.n7 a.c7,De (a.b8),Ar a.i9,Ar a.i10]
def UZ(vf fl:Int):Int:=if D2 .i64 fl 1=0 then 22 else if vf=2 then if D2 .i64 fl 4=0 then 23 else 0 else 0
def Awm(dn:Al)(od:Bool)(m st:Int):Int:=if st=3 then 39 else if st=4 then 39 else if m∈dn then 40 else if st=2 then if od=true then 0 else 40 else 0
def Aek(p:Pol)(a:Y7)(sh:Bool)(md st:Int):Int:=
 if UZ p.vf a.fl=0 then if ((D2 .i64 a.fl 8 != 0)==sh)=true then if md=0 then 0 else Awm p.dn p.od md st else 40 else UZ p.vf a.fl
abbrev Pol.okR(p:Pol):Prop:=0<=p.vf/\p.vf<=2/\1<=p.ht/\p.ht<=4/\1<=p.pr/\p.pr<=3/\0<=p.fm/\p.fm<=2/\1<=p.op/\p.op<=1099511627776
section
variable {fu d:Nat}
theorem Azb(p:Pol)(a:Y7):Ac C1 prog fu (d+1) 94 [.agg p.cells,.agg a.cells]=some ⟨[Ar (UZ p.vf a.fl)],[]⟩:=by unfold Pol.cells Y7.cells;rw[Ze];simp only[Gf,Ov,Aj5,UZ]
theorem UA{call:Ap}{n:Nat}{c:Ae}{t:Int}{l:Al}{m:Int}(hl:l.length<=maxLen):∀(r:Al)(i nn:Nat),l.drop i=r->r.length<nn ->
  ∃k:Int,F5 fu call n c t nn l.length (Af .u64 l) m (l.length:Int) i=some ⟨[Ar k],[]⟩/\(0<=k↔m∈r)
 |r,i,0,_,h=>by omega
 |[],i,nn+1,h,_=>by
  have:=drop_nil h;rw[Kp];refine⟨-1,?_,by simp⟩;simp(disch:=omega)only[Be,Bf]
 |x::r,i,nn+1,h,hn=>by
  obtain⟨h1,h2,h3⟩:=D8 h;simp only[maxLen] at hl;simp only[Tm] at hn;rw[Kp];have hg:=HJ (k:=.u64) h2;simp(disch:=omega)only[Be,Bf,Jd,J1,hg,Ov];by_cases hm:m=x
  ·refine⟨i,by rw[Cr hm],by simp[hm]⟩
  ·obtain⟨k,h4,h5⟩:=UA (m:=m) (call:=call) (n:=n) (c:=c) (t:=t) (by simp only[maxLen];omega) r (i+1) nn h3 (by omega)
   refine⟨k,by rw[B3 hm,Bn];exact h4,by rw[h5];simp[hm]⟩
theorem Agu{l:Al}(hl:l.length<=maxLen)(B2:l.length<fu)(m:Int):Ac C1 prog fu (d+2) 134 [.lst false 1 l.length (Af .u64 l),Ag m]=some ⟨[De (decide (m∈l))],[]⟩:=by
 rw[Vb];obtain⟨k,h1,h2⟩:=UA (fu:=fu) (call:=Ac C1 prog fu d) (n:=l.length) (c:=Af .u64 l) (t:=m) (m:=m) hl l 0 fu rfl B2
 have h3:Ac C1 prog fu (d+1) 161 [.lst false 1 l.length (Af .u64 l),Ag m]=some ⟨[Ar k],[]⟩:=by
  rw[Zk];exact h1
 simp only[Be,Bf,h3];have:decide (k>=0)=decide (m∈l):=by simp only[ge_iff_le,h2]
 rw[this]
theorem Auu(p:Pol)(hl:p.dn.length<=maxLen)(B2:p.dn.length<fu)(m st:Int):Ac C1 prog fu (d+3) 95 [.agg p.cells,Ag m,Ar st]=some ⟨[Ar (Awm p.dn p.od m st)],[]⟩:=by unfold Pol.cells;rw[EF];simp only[Agu hl B2,CF,MG,CJ,HY,Ov,Avi,GB];simp only[Alv,Aj5,Awm,GF]
theorem A4f(p:Pol)(hl:p.dn.length<=maxLen)(B2:p.dn.length<fu)(a:Y7)(c:Stc)(st:Int):
  Ac C1 prog fu (d+4) 53 [.agg p.cells,.agg a.cells,.agg c.cells,Ar st]=some ⟨[Ar (Aek p a c.sh c.md st)],[]⟩:=by
 have h1:=Azb (fu:=fu) (d:=d+2) p a;have h2:=Auu (fu:=fu) (d:=d) p hl B2 c.md st;unfold Pol.cells Y7.cells Stc.cells at *
 rw[MK];simp only[h1,h2,CF,MG,CJ,RO,Gf,Ov,Hh,Avi];simp only[Alv,Aj5,Aek]
end
section
variable {xs:FuncId->Option (Ae->Option Bv)}(fu d:Nat)(call:Ap)
theorem HH{p:Option (Ae->Option Bv)}(fu d:Nat)(Z:Int):Ac (CP p) prog fu (d+1) 130 [.lst true 1 0 [],Z]=(fun (call:Ap)=>Aw (decide (Z<0)) none (Aa (wrap .i64 (Z-0)) fun a=>Aw (decide (a>0)) (As (decide (0<=a)&&decide (a.toNat*1<=1099511627776)&&decide (a<=1099511627776))<|Bk [.own 1 0 []]) (Bk [.own 1 0 []]))) (Ac (CP p) prog fu d):=by kernel_rfl
def Iv(Z:Nat)(Y:Ae)(X W:Nat)(V:Ae)(U:Int)(T:Nat)(S:Ae)(Q P:Int):Option Bv:=Kk fu call 90 Tryz.f90 [Am 1 Z Y] [.r,.r,.l,.r,.l] X ⟨lk [(0,Am 1 W V),(3,U),(9,Am 1 T S),(10,Q),(11,P)],C4 []⟩
def Iw(Z:Nat)(Y:Ae)(X W V:Nat)(U:Ae)(T S:Int)(Q:Ae):Option Bv:=Kk fu call 90 Tryz.f90 [Am 1 Z Y] [.r,.r,.r,.r,.l,.r,.l] X ⟨lk [(6,.view 6 1 0 W),(25,Am 1 V U),(26,T),(27,S)],C4 [(6,.ar false Q)]⟩
theorem Hr(X:Nat)(W:Ae)(P Y:Nat)(V:Ae)(U:Int)(T:Nat)(S:Ae)(Q Z:Int):Iv fu call X W (P+1) Y V U T S Q Z=(Aw (decide (Z<Q)) (As (decide (0<=Z)&&decide (Z<(↑T:Int)))<|Ys 1 (S.getD (Z.toNat*1) .top) fun a b c=>Aa (wrap .i64 (U+(↑b:Int))) fun a=>Aw (decide (a<0)) none (Aa (wrap .i64 (Z+1)) fun b=>Iv fu call X W P Y V a T S Q b)) (Dl (call 130 [.lst true 1 0 [],U]) fun a b=>Kf 1 a fun a c=>Ak b<|Iw fu call X W fu a Y V (↑Y:Int) 0 c)):=by kernel_rfl
theorem Hu(T:Nat)(S:Ae)(Q Z W:Nat)(V:Ae)(U Y:Int)(X:Ae):Iw fu call T S (Q+1) Z W V U Y X=(Aw (decide (Y<U)) (As (decide (0<=Y)&&decide (Y<(↑W:Int)))<|Ys 1 (V.getD (Y.toNat*1) .top) fun a b c=>As (decide (Z*1<=X.length)&&decide (c.length=b*1)&&decide ((Z+b)*1<=1099511627776)&&decide (Z+b<=1099511627776))<|Aa (Z+b) fun a=>Aa (List.take (Z*1) X++c) fun b=>Aa (wrap .i64 (Y+1)) fun c=>Iw fu call T S Q a W V U c b) (As (decide (Z*1<=X.length))<|Bk [.own 1 Z (X.take (Z*1))])):=by kernel_rfl
theorem AE{p:Option (Ae->Option Bv)}(fu d Z:Nat)(Y:Ae):Ac (CP p) prog fu (d+1) 90 [Am 1 Z Y]=(fun (call:Ap)=>Iv fu call Z Y fu Z Y 0 Z Y (↑Z:Int) 0) (Ac (CP p) prog fu d):=by kernel_rfl
def Jv(Z:Nat)(Y:Ae)(X:Nat)(W:Int)(V:Nat)(U:Ae)(T S:Int):Option Bv:=Kk fu call 81 Tryz.f81 [Am 1 Z Y] [.r,.r,.l,.r,.l] X ⟨lk [(3,Ag W),(6,Am 1 V U),(7,T),(8,S)],C4 []⟩
theorem Tg(U:Nat)(T:Ae)(S:Nat)(Y:Int)(X:Nat)(W:Ae)(V Z:Int):Jv fu call U T (S+1) Y X W V Z=(Aw (decide (Z<V)) (As (decide (0<=Z)&&decide (Z<(↑X:Int)))<|Bq .u8 (W.getD (Z.toNat*1) .top) fun a=>Aa (Eu .u64 Y 8) fun b=>Aa (wrap .u64 a) fun a=>Aa (Xr .u64 b a) fun a=>Aa (wrap .i64 (Z+1)) fun b=>Jv fu call U T S a X W V b) (Bk [Ag Y])):=by kernel_rfl
theorem PF{p:Option (Ae->Option Bv)}(fu d Z:Nat)(Y:Ae):Ac (CP p) prog fu (d+1) 81 [Am 1 Z Y]=(fun (call:Ap)=>Jv fu call Z Y fu 0 Z Y (↑Z:Int) 0) (Ac (CP p) prog fu d):=by kernel_rfl
theorem SR{p:Option (Ae->Option Bv)}(fu d:Nat)(X Z:Int)(W V U:Int)(T:Nat)(S:Ae)(Q P Y:Int):Ac (CP p) prog fu (d+1) 82 [.agg [Ag X,Z,W,V,Ag U,Am 1 T S,Q,Ag P],Y]=(fun (call:Ap)=>Aa (D2 .i64 Z Y) fun a=>Bk [De (a != 0)]) (Ac (CP p) prog fu d):=by kernel_rfl
def Qh(Z Y:Int)(X W V:Int)(U:Nat)(T:Ae)(S Q:Int)(P:Nat)(O N:Int)(M L K:Int)(J:Nat)(I:Ae)(H G:Int):Option Bv:=Kk fu call 85 Tryz.f85 [.agg [Ag Z,Y,X,W,Ag V,Am 1 U T,S,Ag Q]] [.r] P ⟨lk [(1,.ptr 1 0)],C4 [(1,.st [Ag O,N,M,L,Ag K,Am 1 J I,H,Ag G])]⟩
theorem Xq(O N:Int)(M L K:Int)(J:Nat)(I:Ae)(H G:Int)(P:Nat)(Gc:0<P)(V U:Int)(T S W:Int)(Z:Nat)(Q:Ae)(Y X:Int):Qh fu call O N M L K J I H G P V U T S W Z Q Y X=(Dl (call 82 [.agg [Ag V,U,T,S,Ag W,Am 1 Z Q,Y,Ag X],(16:Int)]) fun a b=>Ax a fun a=>Ak b<|Aw a (Dl (call 82 [.agg [Ag V,U,T,S,Ag W,Am 1 Z Q,Y,Ag X],(8:Int)]) fun a b=>Ax a fun a=>Ak b<|Aw (!a) (Bk [(18:Int)]) (Dl (call 82 [.agg [Ag V,U,T,S,Ag W,Am 1 Z Q,Y,Ag X],(64:Int)]) fun a b=>Ax a fun a=>Ak b<|Aw (!a) (Aw (W != 0) (Bk [(4:Int)]) (Aw ((↑Z:Int) != 0) (Bk [(4:Int)]) (Aw (!(Y==0&&(X==0&&true))) (Bk [(4:Int)]) (Bk [(0:Int)])))) (Aw ((↑Z:Int) != 176) (Bk [(4:Int)]) (Dl (call 128 [.agg [Y,Ag X]]) fun a b=>Kf 1 a fun a c=>Cg .i64 b fun a=>Bk [a])))) (Dl (call 82 [.agg [Ag V,U,T,S,Ag W,Am 1 Z Q,Y,Ag X],(64:Int)]) fun a b=>Ax a fun a=>Ak b<|Aw (!a) (Aw (W != 0) (Bk [(4:Int)]) (Aw ((↑Z:Int) != 0) (Bk [(4:Int)]) (Aw (!(Y==0&&(X==0&&true))) (Bk [(4:Int)]) (Bk [(0:Int)])))) (Aw ((↑Z:Int) != 176) (Bk [(4:Int)]) (Dl (call 128 [.agg [Y,Ag X]]) fun a b=>Kf 1 a fun a c=>Cg .i64 b fun a=>Bk [a])))):=by cases P with|zero=>exact absurd Gc (Nat.lt_irrefl 0)|succ P=>kernel_rfl
theorem DY{p:Option (Ae->Option Bv)}(fu d:Nat)(W X:Int)(Z Y V:Int)(U:Nat)(T:Ae)(S Q:Int):Ac (CP p) prog fu (d+1) 85 [.agg [Ag W,X,Z,Y,Ag V,Am 1 U T,S,Ag Q]]=(fun (call:Ap)=>Aa (Yp .i64 X 93) fun a=>Aw (a != 0) (Bk [(9:Int)]) (Aw (decide (Z<0)) (Bk [(9:Int)]) (Aw (decide (Z>16)) (Bk [(9:Int)]) (Aw (decide (Y<0)) (Bk [(9:Int)]) (Aw (decide (Y>=16)) (Bk [(9:Int)]) (Qh fu call W X Z Y V U T S Q fu W X Z Y V U T S Q)))))) (Ac (CP p) prog fu d):=by kernel_rfl
theorem JW{p:Option (Ae->Option Bv)}(fu d Z:Nat)(Y:Ae):Ac (CP p) prog fu (d+1) 47 [Am 1 Z Y]=(fun (call:Ap)=>Aw (decide ((↑Z:Int)<11)) (Bk [.agg [Ag 0,(0:Int),(0:Int),(0:Int),Ag 0,.own 1 0 [],(0:Int),Ag 0],(2:Int)]) (As (decide (8<=Z))<|Aa (List.take 8 (Y.drop 0)) fun a=>Gt .u64 (call 81 [Am 1 8 a]) fun a=>As (decide (8<(↑Z:Int)))<|Bq .u8 (Y.getD 8 .top) fun b=>Aa (wrap .i64 b) fun b=>As (decide (9<(↑Z:Int)))<|Bq .u8 (Y.getD 9 .top) fun c=>Aa (wrap .i64 c) fun c=>As (decide (10<(↑Z:Int)))<|Bq .u8 (Y.getD 10 .top) fun e=>Aa (wrap .i64 e) fun e=>Dl (call 82 [.agg [Ag a,b,c,e,Ag 0,Am 1 0 [],(0:Int),Ag 0],(64:Int)]) fun f g=>Ax f fun f=>Ak g<|Aw f (Aw (decide ((↑Z:Int)<195)) (Bk [.agg [Ag 0,(0:Int),(0:Int),(0:Int),Ag 0,.own 1 0 [],(0:Int),Ag 0],(2:Int)]) (As (decide (195<=Z)&&decide (Z<=Z))<|Aa (Z-195) fun f=>Aa (List.take (f*1) (Y.drop 195)) fun g=>Dl (call 83 [Am 1 f g]) fun f g=>Di f fun f=>Br .i64 f fun f h=>Cg .u64 h fun h=>Cg .i64 g fun g=>Aw (g != 0) (Bk [.agg [Ag 0,(0:Int),(0:Int),(0:Int),Ag 0,.own 1 0 [],(0:Int),Ag 0],(2:Int)]) (As (decide (19<=Z))<|Aa (List.take 8 (Y.drop 11)) fun g=>Gt .u64 (call 81 [Am 1 8 g]) fun g=>As (decide (195<=Z))<|Aa (List.take 176 (Y.drop 19)) fun i=>Dl (call 84 [Am 1 176 i]) fun i j=>Kf 1 i fun i k=>Ak j<|As (decide (0+i*1<=k.length))<|Gt .i64 (call 85 [.agg [Ag a,b,c,e,Ag g,Am 1 i (List.take (i*1) (k.drop 0)),f,Ag h]]) fun j=>Aw (j != 0) (Bk [.agg [Ag 0,(0:Int),(0:Int),(0:Int),Ag 0,.own 1 0 [],(0:Int),Ag 0],(2:Int)]) (As (decide (i*1<=k.length))<|Bk [.agg [Ag a,b,c,e,Ag g,.own 1 i (k.take (i*1)),f,Ag h],(0:Int)])))) (Aw (decide ((↑Z:Int)>11)) (Bk [.agg [Ag 0,(0:Int),(0:Int),(0:Int),Ag 0,.own 1 0 [],(0:Int),Ag 0],(2:Int)]) (Gt .i64 (call 85 [.agg [Ag a,b,c,e,Ag 0,Am 1 0 [],(0:Int),Ag 0]]) fun f=>Aw (f != 0) (Bk [.agg [Ag 0,(0:Int),(0:Int),(0:Int),Ag 0,.own 1 0 [],(0:Int),Ag 0],(2:Int)]) (Bk [.agg [Ag a,b,c,e,Ag 0,.own 1 0 [],(0:Int),Ag 0],(0:Int)]))))) (Ac (CP p) prog fu d):=by kernel_rfl
theorem HU{p:Option (Ae->Option Bv)}(fu d:Nat)(Z:ByteArray):Ac (CP p) prog fu (d+1) 48 [Z]=(fun (call:Ap)=>As (decide (ByteArray.size Z<=1099511627776))<|As (decide (0+ByteArray.size Z*1<=List.length (D3 Z)))<|Gt .u64 (call 86 [(9:Int),Am 1 (ByteArray.size Z) (List.take (ByteArray.size Z*1) (List.drop 0 (D3 Z)))]) fun a=>Bk [Ag a]) (Ac (CP p) prog fu d):=by kernel_rfl
theorem FY{p:Option (Ae->Option Bv)}(fu d Z:Nat)(Y:Ae)(X:Int):Ac (CP p) prog fu (d+1) 50 [Am 1 Z Y,Ag X]=(fun (call:Ap)=>Dl (call 91 [Am 1 1 [Ag X]]) fun a b=>Kf 1 a fun a c=>Ak b<|As (decide (0+a*1<=c.length))<|Dl (call 90 [Am 1 2 [Am 1 Z Y,Am 1 a (List.take (a*1) (c.drop 0))]]) fun a b=>Kf 1 a fun a c=>Ak b<|As (decide (0+a*1<=c.length))<|Gt .u64 (call 86 [(13:Int),Am 1 a (List.take (a*1) (c.drop 0))]) fun a=>Bk [Ag a]) (Ac (CP p) prog fu d):=by kernel_rfl
theorem Zl{p:Option (Ae->Option Bv)}(fu d:Nat)(Z Y X:Int):Ac (CP p) prog fu (d+1) 110 [Z,Y,X]=(fun (call:Ap)=>Aw (decide (Z>=Y)) (Bk [De (decide (Z<=X))]) (Bk [false])) (Ac (CP p) prog fu d):=by kernel_rfl
theorem Rf{p:Option (Ae->Option Bv)}(fu d:Nat)(S Z:Int)(U T V:Int)(Y:Nat)(Q:Ae)(X W:Int):Ac (CP p) prog fu (d+1) 67 [.agg [Ag S,Z,U,T,Ag V,Am 1 Y Q,X,Ag W]]=(fun (call:Ap)=>Aa (Yp .i64 Z 93) fun a=>Aw (a != 0) (Bk [(9:Int)]) (Dl (call 110 [U,(0:Int),(16:Int)]) fun a b=>Ax a fun a=>Ak b<|Aw (!a) (Bk [(9:Int)]) (Dl (call 110 [T,(0:Int),(15:Int)]) fun a b=>Ax a fun a=>Ak b<|Aw (!a) (Bk [(9:Int)]) (Aa (D2 .i64 Z 16) fun a=>Aw (a != 0) (Aa (D2 .i64 Z 8) fun a=>Aw (a==0) (Bk [(18:Int)]) (Aa (D2 .i64 Z 64) fun a=>Aw (a==0) (Aw (V != 0) (Bk [(4:Int)]) (Aw (decide ((↑Y:Int)>0)) (Bk [(4:Int)]) (Aw (!(X==0&&(W==0&&true))) (Bk [(4:Int)]) (Bk [(0:Int)])))) (Aw ((↑Y:Int) != 176) (Bk [(4:Int)]) (Dl (call 68 [.agg [X,Ag W]]) fun a b=>Kf 1 a fun a c=>Cg .i64 b fun a=>Bk [a])))) (Aa (D2 .i64 Z 64) fun a=>Aw (a==0) (Aw (V != 0) (Bk [(4:Int)]) (Aw (decide ((↑Y:Int)>0)) (Bk [(4:Int)]) (Aw (!(X==0&&(W==0&&true))) (Bk [(4:Int)]) (Bk [(0:Int)])))) (Aw ((↑Y:Int) != 176) (Bk [(4:Int)]) (Dl (call 68 [.agg [X,Ag W]]) fun a b=>Kf 1 a fun a c=>Cg .i64 b fun a=>Bk [a]))))))) (Ac (CP p) prog fu d):=by kernel_rfl
theorem Zd{p:Option (Ae->Option Bv)}(fu d:Nat)(Z:ByteArray):Ac (CP p) prog fu (d+1) 35 [Z]=(fun (call:Ap)=>As (decide (ByteArray.size Z<=1099511627776))<|As (decide (0+ByteArray.size Z*1<=List.length (D3 Z)))<|Gt .u64 (call 69 [(9:Int),Am 1 (ByteArray.size Z) (List.take (ByteArray.size Z*1) (List.drop 0 (D3 Z)))]) fun a=>Bk [Ag a]) (Ac (CP p) prog fu d):=by kernel_rfl
theorem Yg{p:Option (Ae->Option Bv)}(fu d Z:Nat)(Y:Ae)(X:Int):Ac (CP p) prog fu (d+1) 38 [Am 1 Z Y,Ag X]=(fun (call:Ap)=>As (decide (Y.length=Z*1)&&decide (Z*1<=1099511627776)&&decide (Z<=1099511627776))<|Dl (call 62 [Am 1 1 [Ag X]]) fun a b=>Kf 1 a fun a c=>Ak b<|As (decide (0+a*1<=c.length))<|As (decide (Z*1<=Y.length)&&decide (List.length (List.take (a*1) (c.drop 0))=a*1)&&decide ((Z+a)*1<=1099511627776)&&decide (Z+a<=1099511627776))<|Aa (Z+a) fun b=>Aa (List.take (Z*1) Y++List.take (a*1) (c.drop 0)) fun a=>As (decide (0+b*1<=a.length))<|Gt .u64 (call 69 [(13:Int),Am 1 b (List.take (b*1) (a.drop 0))]) fun a=>Bk [Ag a]) (Ac (CP p) prog fu d):=by kernel_rfl
end
section
variable {xs:FuncId->Option (Ae->Option Bv)}(fu d:Nat)(call:Ap)
def F8(Z:Nat)(Y:Ae)(X:ByteArray)(W V:Nat)(U:Ae)(T:ByteArray)(S Q:Int):Option Bv:=Kk fu call 127 Tryz.f127 [Am 1 Z Y,X] [.r,.l,.r,.l] W ⟨lk [(0,Am 1 V U),(1,T),(7,S),(8,Q)],C4 []⟩
theorem Kt(U:Nat)(T:Ae)(S:ByteArray)(Q Y:Nat)(X:Ae)(W:ByteArray)(V Z:Int):F8 fu call U T S (Q+1) Y X W V Z=(Aw (decide (Z<V)) (As (decide (0<=Z)&&decide (Z<(↑Y:Int)))<|Bd (X.getD (Z.toNat*1) .top) fun a=>Aw (Array.toList (ByteArray.data W)==Array.toList (ByteArray.data a)) (Bk [Z]) (Aa (wrap .i64 (Z+1)) fun a=>F8 fu call U T S Q Y X W V a)) (Bk [(-1:Int)])):=by kernel_rfl
theorem Zh{p:Option (Ae->Option Bv)}(fu d Z:Nat)(Y:Ae)(X:ByteArray):Ac (CP p) prog fu (d+1) 127 [Am 1 Z Y,X]=(fun (call:Ap)=>F8 fu call Z Y X fu Z Y X (↑Z:Int) 0) (Ac (CP p) prog fu d):=by kernel_rfl
theorem Vd{p:Option (Ae->Option Bv)}(fu d Z:Nat)(Y:Ae)(X:ByteArray):Ac (CP p) prog fu (d+1) 80 [Am 1 Z Y,X]=(fun (call:Ap)=>Gt .i64 (call 127 [Am 1 Z Y,X]) fun a=>Bk [De (decide (a>=0))]) (Ac (CP p) prog fu d):=by kernel_rfl
theorem Vh{p:Option (Ae->Option Bv)}(fu d:Nat)(T S:ByteArray)(Z:Nat)(Y:Ae)(Q:Int)(P:Bool)(O N:Int)(M:Bool)(L:Int)(K:Bool)(J:Nat)(I:Ae)(H G:Int)(E D:Int)(X:Nat)(W:Ae)(V:Int)(U:ByteArray)(B:Nat)(A:Ae)(z:Nat)(w:Ae)(v:Nat)(u:Ae)(Bj4:Int)(Bcc:Nat)(A58:Ae)(A4j:ByteArray):Ac (CP p) prog fu (d+1) 45 [.agg [T,S,Am 1 Z Y,Q,P,O,N,M,L,K,Am 1 J I,H,Ag G,E,Ag D],Am 1 X W,.agg [V,U,Am 1 B A,Am 1 z w,Am 1 v u,Bj4,Am 1 Bcc A58,A4j]]=(fun (call:Ap)=>Aw (V != 2) (Bk [(3:Int)]) (Dl (call 79 [U]) fun a b=>Di a fun a=>Br .i64 a fun a c=>Gg 1 c fun c e f=>Ad f fun f g=>Bd f fun f=>Ad g fun g h=>Ax g fun g=>Ad h fun h i=>Bd h fun h=>Ak i<|Cg .i64 b fun b=>Aw (b != 0) (Bk [b]) (Aw (a != 2) (Bk [(3:Int)]) (Dl (call 46 [Am 1 c e,Am 1 X W]) fun a b=>Ax a fun a=>Ak b<|Aw (!a) (Bk [(35:Int)]) (Dl (call 80 [Am 1 Z Y,f]) fun a b=>Ax a fun a=>Ak b<|Aw (!a) (Bk [(34:Int)]) (Aw g (Dl (call 80 [Am 1 Z Y,h]) fun a b=>Ax a fun a=>Ak b<|Aw (!a) (Bk [(34:Int)]) (Bk [(0:Int)])) (Bk [(0:Int)]))))))) (Ac (CP p) prog fu d):=by kernel_rfl
theorem PQ{p:Option (Ae->Option Bv)}(fu d:Nat)(Q Aif:ByteArray)(A0w:Nat)(Ahx:Ae)(P:Int)(O:Bool)(N M:Int)(L:Bool)(K:Int)(J:Bool)(I:Nat)(H:Ae)(G A0f:Int)(A1b A15:Int)(Baq A72 A9p:Int)(A05:Nat)(Bb0:Ae)(A9l:Int)(A07:Nat)(A9y:Ae)(A02:Nat)(Ba6:Ae)(Y:Nat)(X:Ae)(W V:Int)(U E:Int)(D:Bool)(B:Int)(A:Nat)(z:Ae)(w:Bool)(v u:Int)(a3n:Nat)(a3:Ae)(Z A8h:Int)(A2w:ByteArray)(T:Nat)(S:Ae)(Atp:Nat)(A5p:Ae)(A11:Nat)(A9n:Ae)(A93:Int)(Aq3:Nat)(A40:Ae)(Bak:ByteArray):Ac (CP p) prog fu (d+1) 23 [.agg [Q,Aif,Am 1 A0w Ahx,P,O,N,M,L,K,J,Am 1 I H,G,Ag A0f,A1b,Ag A15],.agg [Baq,A72,A9p,Am 3 A05 Bb0,A9l,Am 1 A07 A9y,Am 1 A02 Ba6],.agg [Am 1 Y X,W,Ag V,Ag U,E,D,Ag B,Am 2 A z,w,v,u],Am 1 a3n a3,Z,.agg [A8h,A2w,Am 1 T S,Am 1 Atp A5p,Am 1 A11 A9n,A93,Am 1 Aq3 A40,Bak]]=(fun (call:Ap)=>Aw (decide (Z<0)) (Bk [.agg [Am 1 0 [],(0:Int),Ag 0,Ag 0,(0:Int),false,Ag 0,Am 2 0 [],false,(0:Int),(0:Int)],(9:Int)]) (Aw (decide (Z>1099511627776)) (Bk [.agg [Am 1 0 [],(0:Int),Ag 0,Ag 0,(0:Int),false,Ag 0,Am 2 0 [],false,(0:Int),(0:Int)],(9:Int)]) (Gt .i64 (call 45 [.agg [Q,Aif,Am 1 A0w Ahx,P,O,N,M,L,K,J,Am 1 I H,G,Ag A0f,A1b,Ag A15],Am 1 a3n a3,.agg [A8h,A2w,Am 1 T S,Am 1 Atp A5p,Am 1 A11 A9n,A93,Am 1 Aq3 A40,Bak]]) fun a=>Aw (a != 0) (Bk [.agg [Am 1 0 [],(0:Int),Ag 0,Ag 0,(0:Int),false,Ag 0,Am 2 0 [],false,(0:Int),(0:Int)],a]) (Dl (call 46 [Am 1 Aq3 A40,Am 1 Y X]) fun a b=>Ax a fun a=>Ak b<|Aw (!a) (Bk [.agg [Am 1 0 [],(0:Int),Ag 0,Ag 0,(0:Int),false,Ag 0,Am 2 0 [],false,(0:Int),(0:Int)],(36:Int)]) (Dl (call 47 [Am 1 T S]) fun a b=>Di a fun a=>Br .u64 a fun a c=>Br .i64 c fun c e=>Br .i64 e fun e f=>Br .i64 f fun f g=>Br .u64 g fun g h=>VY 1 h fun h i j=>Br .i64 j fun j k=>Cg .u64 k fun k=>Cg .i64 b fun b=>Aw (b != 0) (Bk [.agg [Am 1 0 [],(0:Int),Ag 0,Ag 0,(0:Int),false,Ag 0,Am 2 0 [],false,(0:Int),(0:Int)],b]) (Aa (D2 .i64 c 64) fun b=>Aw (b != 0) (Bk [.agg [Am 1 0 [],(0:Int),Ag 0,Ag 0,(0:Int),false,Ag 0,Am 2 0 [],false,(0:Int),(0:Int)],(4:Int)]) (Gt .u64 (call 48 [Q]) fun b=>Aw (a != b) (Bk [.agg [Am 1 0 [],(0:Int),Ag 0,Ag 0,(0:Int),false,Ag 0,Am 2 0 [],false,(0:Int),(0:Int)],(34:Int)]) (Dl (call 49 [Am 1 Atp A5p]) fun b m=>Di b fun b=>Br .i64 b fun b n=>VY 1 n fun n o q=>VY 1 q fun q s t=>Ak t<|Cg .i64 m fun m=>Aw (m != 0) (Bk [.agg [Am 1 0 [],(0:Int),Ag 0,Ag 0,(0:Int),false,Ag 0,Am 2 0 [],false,(0:Int),(0:Int)],m]) (Gt .u64 (call 51 [A2w]) fun m=>Gt .u64 (call 50 [Am 1 T S,Ag m]) fun m=>As (decide (0+n*1<=o.length))<|As (decide (0+q*1<=s.length))<|Gt .i64 (call 52 [.agg [W,Ag V],Ag m,.agg [b,Am 1 n (List.take (n*1) (o.drop 0)),Am 1 q (List.take (q*1) (s.drop 0))]]) fun m=>Aw (m != 0) (Bk [.agg [Am 1 0 [],(0:Int),Ag 0,Ag 0,(0:Int),false,Ag 0,Am 2 0 [],false,(0:Int),(0:Int)],m]) (Aa (wrap .i64 (b+1)) fun m=>Aw (e != m) (Bk [.agg [Am 1 0 [],(0:Int),Ag 0,Ag 0,(0:Int),false,Ag 0,Am 2 0 [],false,(0:Int),(0:Int)],(33:Int)]) (Gt .i64 (call 54 [.agg [Baq,A72,A9p,Am 3 A05 Bb0,A9l,Am 1 A07 A9y,Am 1 A02 Ba6],Ag U,Z]) fun m=>As (decide (0+h*1<=i.length))<|Gt .i64 (call 53 [.agg [P,O,N,M,L,K,J,Am 1 I H,G],.agg [Ag a,c,e,f,Ag g,Am 1 h (List.take (h*1) (i.drop 0)),j,Ag k],.agg [Am 1 Y X,W,Ag V,Ag U,E,D,Ag B,Am 2 A z,w,v,u],m]) fun a=>Aw (a != 0) (Bk [.agg [Am 1 0 [],(0:Int),Ag 0,Ag 0,(0:Int),false,Ag 0,Am 2 0 [],false,(0:Int),(0:Int)],a]) (Dl (call 55 [.agg [Am 1 Y X,W,Ag V,Ag U,E,D,Ag B,Am 2 A z,w,v,u],b,f,Z]) fun a b=>Di a fun a=>Gg 1 a fun a c e=>Br .i64 e fun e f=>Br .u64 f fun f g=>Br .u64 g fun g h=>Br .i64 h fun h i=>Ad i fun i j=>Ax i fun i=>Br .u64 j fun j k=>Gg 2 k fun k m n=>Ad n fun n o=>Ax n fun n=>Br .i64 o fun o q=>Cg .i64 q fun q=>Cg .i64 b fun b=>Aw (b != 0) (Aw (b != 37) (Bk [.agg [Am 1 0 [],(0:Int),Ag 0,Ag 0,(0:Int),false,Ag 0,Am 2 0 [],false,(0:Int),(0:Int)],b]) (Bk [.agg [Am 1 a c,e,Ag f,Ag g,h,i,Ag j,Am 2 k m,n,o,q],b])) (Bk [.agg [Am 1 a c,e,Ag f,Ag g,h,i,Ag j,Am 2 k m,n,o,q],b]))))))))))))) (Ac (CP p) prog fu d):=by kernel_rfl
end
section
variable {xs:FuncId->Option (Ae->Option Bv)}(fu d:Nat)(call:Ap)
theorem IU{p:Option (Ae->Option Bv)}(fu d:Nat)(Z Y:Int):Ac (CP p) prog fu (d+1) 30 [Ag Z,Y]=(fun (call:Ap)=>Dl (call 61 [Ag Z,Y]) fun a b=>Di a fun a=>Br .i64 a fun a c=>Cg .u64 c fun c=>Cg .i64 b fun b=>Bk [.agg [a,Ag c]]) (Ac (CP p) prog fu d):=by kernel_rfl
theorem Vq{p:Option (Ae->Option Bv)}(fu d:Nat)(Z Y:Int)(X:Bool):Ac (CP p) prog fu (d+1) 11 [Z,Y,X]=(fun (call:Ap)=>Aa (wrap .u64 Z) fun a=>Aa (wrap .u64 (1000+a)) fun a=>Aa (wrap .i64 (500+Z)) fun b=>Dl (call 9 [b,(176:Int)]) fun b c=>Kf 1 b fun b e=>Ak c<|As (decide (b*1<=e.length))<|Bk [.agg [Ag a,Y,.own 1 b (e.take (b*1)),X]]) (Ac (CP p) prog fu d):=by kernel_rfl
theorem Vt{p:Option (Ae->Option Bv)}(fu d:Nat)(X W:Int)(V:Nat)(U:Ae)(Z Y:Bool):Ac (CP p) prog fu (d+1) 36 [.agg [Ag X,W,Am 1 V U,Z],Y]=(fun (call:Ap)=>Aw Y (Aw Z (Bk [(13:Int)]) (Bk [(5:Int)])) (Aw Z (Bk [(9:Int)]) (Bk [(1:Int)]))) (Ac (CP p) prog fu d):=by kernel_rfl
theorem T9{p:Option (Ae->Option Bv)}(fu d:Nat)(Z Y:Int)(X:Nat)(W:Ae)(U:Bool)(T S:ByteArray)(Q:Nat)(P:Ae)(O:Bool)(V N:Int)(M:ByteArray):Ac (CP p) prog fu (d+1) 14 [.agg [Ag Z,Y,Am 1 X W,U],T,S,Am 1 Q P,O,V,N,M]=(fun (call:Ap)=>Dl (call 33 [.agg [(2:Int),Am 1 Q P,S,false,Bl ⟨#[]⟩]]) fun a b=>Bd a fun a=>Cg .i64 b fun b=>Gt .u64 (call 35 [T]) fun b=>Gt .i64 (call 36 [.agg [Ag Z,Y,Am 1 X W,U],O]) fun c=>Aa (wrap .i64 (V+1)) fun e=>Dl (call 34 [.agg [Ag b,c,e,N,Ag 0,Am 1 0 [],(0:Int),Ag 0]]) fun b c=>Kf 1 b fun b e=>Cg .i64 c fun c=>Gt .u64 (call 39 [a]) fun c=>As (decide (0+b*1<=e.length))<|Gt .u64 (call 38 [Am 1 b (List.take (b*1) (e.drop 0)),Ag c]) fun c=>Dl (call 37 [Ag Z,Y,V,Ag c]) fun c f=>Di c fun c=>Br .i64 c fun c g=>VY 1 g fun g h i=>VY 1 i fun i j k=>Ak k<|Cg .i64 f fun f=>As (decide (0+g*1<=h.length))<|As (decide (0+i*1<=j.length))<|Dl (call 40 [.agg [c,Am 1 g (List.take (g*1) (h.drop 0)),Am 1 i (List.take (i*1) (j.drop 0))]]) fun c f=>Kf 1 c fun c g=>Cg .i64 f fun f=>As (decide (0+b*1<=e.length))<|As (decide (0+c*1<=g.length))<|Bk [.agg [(2:Int),a,Am 1 b (List.take (b*1) (e.drop 0)),Am 1 c (List.take (c*1) (g.drop 0)),Am 1 0 [],(0:Int),Am 1 X W,M]]) (Ac (CP p) prog fu d):=by kernel_rfl
theorem J8{p:Option (Ae->Option Bv)}(fu d:Nat)(W Y:Int)(V U T:Int)(Z:Nat)(X:Ae)(S Q:Int):Ac (CP p) prog fu (d+1) 34 [.agg [Ag W,Y,V,U,Ag T,Am 1 Z X,S,Ag Q]]=(fun (call:Ap)=>Gt .i64 (call 67 [.agg [Ag W,Y,V,U,Ag T,Am 1 Z X,S,Ag Q]]) fun a=>Aw (a != 0) (Bk [.own 1 0 [],a]) (Dl (call 62 [Am 1 1 [Ag W]]) fun a b=>Kf 1 a fun a c=>Ak b<|Aa (wrap .u8 Y) fun b=>Aa (wrap .u8 V) fun e=>Aa (wrap .u8 U) fun f=>As (decide (a*1<=c.length)&&true&&decide ((a+3)*1<=1099511627776)&&decide (a+3<=1099511627776))<|Aa (a+3) fun g=>Aa (List.take (a*1) c++[.sc (.int .u8 b),.sc (.int .u8 e),.sc (.int .u8 f)]) fun a=>Aa (D2 .i64 Y 64) fun b=>Aw (b != 0) (Dl (call 68 [.agg [S,Ag Q]]) fun b c=>Kf 1 b fun b e=>Cg .i64 c fun c=>Dl (call 62 [Am 1 1 [Ag T]]) fun c f=>Kf 1 c fun c h=>Ak f<|As (decide (0+c*1<=h.length))<|As (decide (g*1<=a.length)&&decide (List.length (List.take (c*1) (h.drop 0))=c*1)&&decide ((g+c)*1<=1099511627776)&&decide (g+c<=1099511627776))<|Aa (g+c) fun f=>Aa (List.take (g*1) a++List.take (c*1) (h.drop 0)) fun a=>As (decide (f*1<=a.length)&&decide (X.length=Z*1)&&decide ((f+Z)*1<=1099511627776)&&decide (f+Z<=1099511627776))<|Aa (f+Z) fun c=>Aa (List.take (f*1) a++X) fun a=>As (decide (0+b*1<=e.length))<|As (decide (c*1<=a.length)&&decide (List.length (List.take (b*1) (e.drop 0))=b*1)&&decide ((c+b)*1<=1099511627776)&&decide (c+b<=1099511627776))<|Aa (c+b) fun f=>Aa (List.take (c*1) a++List.take (b*1) (e.drop 0)) fun a=>As (decide (f*1<=a.length))<|Bk [.own 1 f (a.take (f*1)),(0:Int)]) (As (decide (g*1<=a.length))<|Bk [.own 1 g (a.take (g*1)),(0:Int)]))) (Ac (CP p) prog fu d):=by kernel_rfl
theorem Sc{p:Option (Ae->Option Bv)}(fu d Z:Nat)(Y:Ae)(X:Int):Ac (CP p) prog fu (d+1) 41 [Am 1 Z Y,X]=(fun (call:Ap)=>Aw ((↑Z:Int)==0) (Aa (wrap .u8 X) fun a=>Bk [.own 1 1 [.sc (.int .u8 a)]]) (As (decide (Y.length=Z*1)&&decide (Z*1<=1099511627776)&&decide (Z<=1099511627776))<|As (decide ((↑Z:Int)≠0))<|Aa (Int.tmod X (↑Z:Int)) fun a=>As (decide (0<=a)&&decide (a<(↑Z:Int)))<|Bq .u8 (Y.getD (0+a.toNat*1) .top) fun b=>Aa (D2 .i64 X 7) fun c=>Aa (wrap .u64 c) fun c=>As (decide (0<=c))<|Aa (Eu .u8 1 c) fun c=>Aa (Ew .u8 b c) fun b=>As (decide (0<=a)&&decide (a<(↑Z:Int)))<|As (decide (0+a.toNat*1+1<=Y.length))<|Aa (B6 Y [.sc (.int .u8 b)] (0+a.toNat*1)) fun a=>As (decide (Z*1<=a.length))<|Bk [.own 1 Z (a.take (Z*1))])) (Ac (CP p) prog fu d):=by kernel_rfl
theorem GV{p:Option (Ae->Option Bv)}(fu d Z:Nat)(Y:Ae)(X:Int):Ac (CP p) prog fu (d+1) 17 [Am 1 Z Y,X]=(fun (call:Ap)=>Gt .i64 (call 20 [X,(4096:Int)]) fun a=>Dl (call 41 [Am 1 Z Y,a]) fun a b=>Kf 1 a fun a c=>Ak b<|As (decide (a*1<=c.length))<|Bk [.own 1 a (c.take (a*1))]) (Ac (CP p) prog fu d):=by kernel_rfl
theorem T7{p:Option (Ae->Option Bv)}(fu d Z:Nat)(Y:Ae)(X:Int):Ac (CP p) prog fu (d+1) 29 [.pbox [Am 1 Z Y,X]]=(fun (call:Ap)=>A9 (call 10 [.pbox [Am 1 Z Y,X],(3:Int)]) fun a b=>Cg .i64 a fun a=>Ad b fun b c=>Gg 1 b fun b e f=>Cg .i64 f fun f=>Ak c<|A9 (call 10 [.pbox [Am 1 b e,f],(2:Int)]) fun b c=>Cg .i64 b fun b=>Ad c fun c e=>Gg 1 c fun c f g=>Cg .i64 g fun g=>Ak e<|A9 (call 10 [.pbox [Am 1 c f,g],(2:Int)]) fun c e=>Cg .i64 c fun c=>Ad e fun e f=>Gg 1 e fun e g h=>Cg .i64 h fun h=>Ak f<|Aa (wrap .i64 (1+c)) fun c=>A9 (call 10 [.pbox [Am 1 e g,h],(3:Int)]) fun e f=>Cg .i64 e fun e=>Ad f fun f g=>Gg 1 f fun f h i=>Cg .i64 i fun i=>Ak g<|Aa (wrap .i64 (1+e)) fun e=>A9 (call 10 [.pbox [Am 1 f h,i],(2:Int)]) fun f g=>Cg .i64 f fun f=>Ad g fun g h=>Gg 1 g fun g i j=>Cg .i64 j fun j=>Ak h<|A9 (call 10 [.pbox [Am 1 g i,j],(3:Int)]) fun g h=>Cg .i64 g fun g=>Ad h fun h i=>Gg 1 h fun h j k=>Cg .i64 k fun k=>Ak i<|A9 (call 10 [.pbox [Am 1 h j,k],(2:Int)]) fun h i=>Cg .i64 h fun h=>Ad i fun i j=>Gg 1 i fun i k m=>Cg .i64 m fun m=>Ak j<|A9 (call 10 [.pbox [Am 1 i k,m],(3:Int)]) fun i j=>Cg .i64 i fun i=>Ad j fun j k=>Gg 1 j fun j m n=>Cg .i64 n fun n=>Ak k<|As (decide (0<=i)&&decide (i<3))<|Bq .i64 (List.getD [(50:Int),(5:Int),(500:Int)] (0+i.toNat*1) .top) fun i=>A9 (call 10 [.pbox [Am 1 j m,n],(4:Int)]) fun j k=>Cg .i64 j fun j=>Ad k fun k m=>Gg 1 k fun k n o=>Cg .i64 o fun o=>Ak m<|Aw (j==3) (A9 (call 10 [.pbox [Am 1 k n,o],(2:Int)]) fun j k=>Cg .i64 j fun j=>Ad k fun k m=>Gg 1 k fun k n o=>Cg .i64 o fun o=>Ak m<|Aa (wrap .i64 (1+j)) fun j=>As (decide (0<=j))<|As (decide (j.toNat<=2))<|Aa (j.toNat-0) fun j=>As (decide (j*1<=2))<|some ⟨[.agg [a,De (b==1),c,e,De (f==1),g,De (h==1),.own 1 j (List.take (j*1) [Ag 3,Ag 7]),i]],[[Am 1 k n,o]]⟩) (some ⟨[.agg [a,De (b==1),c,e,De (f==1),g,De (h==1),.own 1 0 [],i]],[[Am 1 k n,o]]⟩)) (Ac (CP p) prog fu d):=by kernel_rfl
theorem To{p:Option (Ae->Option Bv)}(fu d Z:Nat)(Y:Ae)(X:Int):Ac (CP p) prog fu (d+1) 8 [.pbox [Am 1 Z Y,X]]=(fun (call:Ap)=>A9 (call 29 [.pbox [Am 1 Z Y,X]]) fun a b=>Ad a fun a c=>Di a fun a=>Br .i64 a fun a e=>Ad e fun e f=>Ax e fun e=>Br .i64 f fun f g=>Br .i64 g fun g h=>Ad h fun h i=>Ax h fun h=>Br .i64 i fun i j=>Ad j fun j k=>Ax j fun j=>VY 1 k fun k m n=>Cg .i64 n fun n=>Ak c<|Ad b fun b c=>Gg 1 b fun b o q=>Cg .i64 q fun q=>Ak c<|A9 (call 10 [.pbox [Am 1 b o,q],(3:Int)]) fun b c=>Cg .i64 b fun b=>Ad c fun c o=>Gg 1 c fun c q s=>Cg .i64 s fun s=>Ak o<|Aa (wrap .u64 b) fun b=>Aa (wrap .u64 (5+b)) fun b=>Dl (call 30 [Ag 31,(4:Int)]) fun o t=>Di o fun o=>Br .i64 o fun o u=>Cg .u64 u fun u=>Ak t<|As (decide (0+k*1<=m.length))<|some ⟨[.agg [Bl ⟨#[101,120,97,109,112,108,101,46,99,111,109]⟩,Bl ⟨#[69,120,97,109,112,108,101]⟩,Am 1 2 [Bl ⟨#[104,116,116,112,115,58,47,47,101,120,97,109,112,108,101,46,99,111,109]⟩,Bl ⟨#[104,116,116,112,115,58,47,47,108,111,103,105,110,46,101,120,97,109,112,108,101,46,99,111,109]⟩],a,e,f,g,h,i,j,Am 1 k (List.take (k*1) (m.drop 0)),n,Ag b,o,Ag u]],[[Am 1 c q,s]]⟩) (Ac (CP p) prog fu d):=by kernel_rfl
theorem Zo{p:Option (Ae->Option Bv)}(fu d:Nat)(Z Y:Int)(X:Nat)(W:Ae)(V:Bool)(U:Int):Ac (CP p) prog fu (d+1) 12 [.agg [Ag Z,Y,Am 1 X W,V],Ag U]=(fun (call:Ap)=>Dl (call 30 [Ag Z,Y]) fun a b=>Di a fun a=>Br .i64 a fun a c=>Cg .u64 c fun c=>Ak b<|Bk [.agg [Am 1 X W,a,Ag c,Ag U,(0:Int),V,Ag 0,Am 2 0 [],false,(1:Int),(1:Int)]]) (Ac (CP p) prog fu d):=by kernel_rfl
def Mo(Z:Nat)(Y X:ByteArray)(W:Nat)(V:Ae)(U:Int)(T:Bool)(S Q:Int)(P:Bool)(O:Int)(N:Bool)(M:Nat)(L:Ae)(K J:Int)(I H:Int):Option Bv:=Kk fu call 27 Tryz.f27 [] [.r] Z ⟨lk [(0,.ptr 0 0)],C4 [(0,.st [Y,X,Am 1 W V,U,T,S,Q,P,O,N,Am 1 M L,K,Ag J,I,Ag H])]⟩
theorem Vn(Z:Nat)(Gc:0<Z)(Y X:ByteArray)(W:Nat)(V:Ae)(U:Int)(T:Bool)(S Q:Int)(P:Bool)(O:Int)(N:Bool)(M:Nat)(L:Ae)(K J:Int)(I H:Int):Mo fu call Z Y X W V U T S Q P O N M L K J I H=(Bk [.agg [Y,X,Am 1 W V,U,T,S,Q,P,O,N,Am 1 M L,K,Ag J,I,Ag H]]):=by cases Z with|zero=>exact absurd Gc (Nat.lt_irrefl 0)|succ Z=>kernel_rfl
theorem Zu{p:Option (Ae->Option Bv)}(fu d:Nat):Ac (CP p) prog fu (d+1) 27 []=(fun (call:Ap)=>Dl (call 7 [Am 1 0 []]) fun a b=>EP a fun a=>Gg 1 a fun a c e=>Cg .i64 e fun e=>Ak b<|A9 (call 8 [.pbox [Am 1 a c,e]]) fun a b=>Ad a fun a c=>Di a fun a=>Ad a fun a e=>Bd a fun a=>Ad e fun e f=>Bd e fun e=>Gg 1 f fun f g h=>Br .i64 h fun h i=>Ad i fun i j=>Ax i fun i=>Br .i64 j fun j k=>Br .i64 k fun k m=>Ad m fun m n=>Ax m fun m=>Br .i64 n fun n o=>Ad o fun o q=>Ax o fun o=>Gg 1 q fun q s t=>Br .i64 t fun t u=>Br .u64 u fun u v=>Br .i64 v fun v w=>Cg .u64 w fun w=>Ak c<|Ad b fun b c=>Gg 1 b fun b z A=>Cg .i64 A fun b=>Ak c<|Mo fu call fu a e f g h i j k m n o q s t u v w) (Ac (CP p) prog fu d):=by kernel_rfl
end
end
end Go.Proofs.YtohcncipgljdkaaGreatDoor.Pv
