/-
  The proof of SigninSigned, part 6.
-/
import Derived.Test.YtohcncipgljdkaaGreatDoorGE
import Derived.Laws.ResultCell
import Derived.Test.YtohcncipgljdkaaGreatDoorRows
import Derived.Lib.ValidLaws
set_option linter.unusedSimpArgs false
set_option linter.unusedVariables false
namespace Go.Proofs.YtohcncipgljdkaaGreatDoor.Pv
open Go.IntKind (wrap)
open Go.Proofs.Tryz (prog)
set_option maxRecDepth 1000000
noncomputable section
section
open Go Go.RowKit Go.Lib
def Vi:Al:=[116,121,112,101]
def DD:Al:=[99,104,97,108,108,101,110,103,101]
def nmO:Al:=[111,114,105,103,105,110]
def Dr(nm:Al)(ms:List (Al × JV)):JV:=(Q7 nm ms).getD (0,[],false)
theorem TF{w:World}{b:Nat}{ms:List (Al × JV)}(h:WJ w b ms)(hB:∀m∈ms,Db m.1){nm:Al}(hn:Db nm):(Instr.lookup 179 (.map (some b)) (.string (Ab nm)) false).run prog w=.ok (.agg #[.int .i64 (Dr nm ms).1,.string (Ab (Dr nm ms).2.1),.bool (Dr nm ms).2.2]) w:=by have:=TS h hB hn false;rw[this];unfold Ag8 Dr;cases Q7 nm ms<;>rfl
theorem al4(w:World)(o0 x1 x2 x3:Obj):((((w.alloc o0).alloc x1).alloc x2).alloc x3).drew.heap[w.heap.size]?=some o0/\((((w.alloc o0).alloc x1).alloc x2).alloc x3).drew.heap[w.heap.size+1]?=some x1/\((((w.alloc o0).alloc x1).alloc x2).alloc x3).drew.heap[w.heap.size+1+1]?=some x2/\((((w.alloc o0).alloc x1).alloc x2).alloc x3).drew.heap[w.heap.size+1+1+1]?=some x3:=by
 show ((((w.heap.push o0).push x1).push x2).push x3)[w.heap.size]?=some o0/\((((w.heap.push o0).push x1).push x2).push x3)[w.heap.size+1]?=some x1/\((((w.heap.push o0).push x1).push x2).push x3)[w.heap.size+1+1]?=some x2/\((((w.heap.push o0).push x1).push x2).push x3)[w.heap.size+1+1+1]?=some x3;refine⟨?_,?_,?_,?_⟩
 ·rw[Array.getElem?_push_lt (by simp;omega),Array.getElem_push_lt (by simp;omega),Array.getElem_push_lt (by simp),Array.getElem_push_eq]
 ·have:w.heap.size+1=(w.heap.push o0).size:=by simp
  rw[Array.getElem?_push_lt (by simp),Array.getElem_push_lt (by simp)];simp only[this,Array.getElem_push_eq]
 ·have:w.heap.size+1+1=((w.heap.push o0).push x1).size:=by simp
  rw[Array.getElem?_push_lt (by simp)];simp only[this,Array.getElem_push_eq]
 ·have:w.heap.size+1+1+1=(((w.heap.push o0).push x1).push x2).size:=by simp
  rw[this];exact Array.getElem?_push_size
theorem al2(w:World)(x1 x2:Obj):((w.alloc x1).alloc x2).drew.heap[w.heap.size]?=some x1/\((w.alloc x1).alloc x2).drew.heap[w.heap.size+1]?=some x2:=by
 show ((w.heap.push x1).push x2)[w.heap.size]?=some x1/\((w.heap.push x1).push x2)[w.heap.size+1]?=some x2;refine⟨?_,?_⟩
 ·simp[Array.getElem?_push]
 ·have:w.heap.size+1=(w.heap.push x1).size:=by simp
  rw[this];exact Array.getElem?_push_size
def nmX:Al:=[99,114,111,115,115,79,114,105,103,105,110]
def nmP:Al:=[116,111,112,79,114,105,103,105,110]
def Aqw(v:JV):Obj:=.cells #[.int .i64 v.1,.string (Ab v.2.1),.bool v.2.2] 221
def cd0:Obj:=.cells #[.int .i64 0,.slice none 0 0,.string ⟨#[]⟩,.bool false,.string ⟨#[]⟩] 86
def tyC:Al:=[112,97,115,115,107,101,121,46,99,114,101,97,116,101]
def tyG:Al:=[112,97,115,115,107,101,121,46,103,101,116]
abbrev CD:=Int × Al × Al × Bool × Al
def IC(k:Int)(C O X P:JV):JR CD:=
 match To C.2.1 with
 |none=>.error 2
 |some b=>if b.length<1\/64<b.length then .error 9 else if Fn O.2.1≠0 then .error (Fn O.2.1) else if X.2.2=true/\Fn P.2.1≠0 then .error (Fn P.2.1) else .ok (k,b,O.2.1,X.2.2,P.2.1)
def Lz(T C O X P:JV):JR CD:=
 if T.1≠4\/C.1≠4\/O.1≠4 then .error 4
 else if X.1≠0/\X.1≠2 then .error 4
 else if (X.2.2=true/\P.1≠4)\/(X.2.2=false/\P.1≠0) then .error 4
 else if T.2.1=tyC then IC 1 C O X P else if T.2.1=tyG then IC 2 C O X P else .error 3
def JD(w:World)(a:Addr)(b:Al):Prop:=a.spot=none/\a.block<w.heap.size/\∀j x,b[j]?=some x->w.cell? (a.add j)=some (.int .u8 x)
def ItP(w w':World)(r:JR CD)(e:Ending):Prop:=
 match r with
 |.ok (k,b,o,x,p)=>∃ad cap,e=.returned (.tuple #[.agg #[.int .i64 k,.slice (some ad) b.length cap,.string (Ab o),.bool x,.string (Ab p)],.int .i64 0])/\b.length<=cap/\w.heap.size<=ad.block/\JD w' ad b
 |.error er=>er≠0/\e=.returned (.tuple #[.agg #[.int .i64 0,.slice none 0 0,.string ⟨#[]⟩,.bool false,.string ⟨#[]⟩],.int .i64 er])
def DbP(w w':World)(s:Al)(e:Ending):Prop:=
 match To s with
 |none=>∃ad cap,e=.returned (.tuple #[.slice ad 0 cap,.int .i64 2])
 |some b=>∃ad cap,e=.returned (.tuple #[.slice ad b.length cap,.int .i64 0])/\(b≠[]->∃a,ad=some a/\b.length<=cap/\w.heap.size<=a.block/\JD w' a b)
theorem UO{w:World}{b:Nat}{v:JV}(h:w.heap[b]?=some (Aqw v)):w.cell? ⟨b,0,none⟩=some (.int .i64 v.1)/\w.cell? ⟨b,1,none⟩=some (.string (Ab v.2.1))/\w.cell? ⟨b,2,none⟩=some (.bool v.2.2):=by refine⟨?_,?_,?_⟩<;>(unfold World.cell?;simp only[h];rfl)
theorem Awe{w:World}{b:Nat}(h:w.heap[b]?=some cd0):(w.cell? ⟨b,0,none⟩=some (.int .i64 0)/\w.cell? ⟨b,1,none⟩=some (.slice none 0 0)/\w.cell? ⟨b,2,none⟩=some (.string ⟨#[]⟩)/\w.cell? ⟨b,3,none⟩=some (.bool false)/\w.cell? ⟨b,4,none⟩=some (.string ⟨#[]⟩))/\w.frozen? ⟨b,0,none⟩=false/\w.frozen? ⟨b,1,none⟩=false/\w.frozen? ⟨b,2,none⟩=false/\w.frozen? ⟨b,3,none⟩=false/\w.frozen? ⟨b,4,none⟩=false:=by refine⟨⟨?_,?_,?_,?_,?_⟩,?_,?_,?_,?_,?_⟩<;>first|(unfold World.cell?;simp only[h];rfl)|(unfold World.frozen?;simp only[h];rfl)
theorem Aqh(s:ByteArray):s.toList=s.data.toList:=by
 have h:∀(n i:Nat) (r:List UInt8),n=s.size-i->ByteArray.toList.loop s i r=r.reverse++s.data.toList.drop i:=by
  intro n
  induction n with
  |zero=>
   intro i r hn;unfold ByteArray.toList.loop;rw[Br (by omega),List.drop_eq_nil_of_le (by rw[<-Lib.size_eq];omega),List.append_nil]
  |succ n ih=>
   intro i r hn;have hi:i<s.size:=by omega
   unfold ByteArray.toList.loop;rw[Ch hi,ih (i+1) _ (by omega),List.reverse_cons,Zzv]
   congr 1
   have hl:i<s.data.toList.length:=by rw[<-Lib.size_eq];exact hi
   rw[List.drop_eq_getElem_cons hl]
   have e:s.get! i=s.data.toList[i]:=by
    show (s.data[i]!)=_;rw[getElem!_pos s.data i hi];rfl
   rw[e];rfl
 have:=h _ 0 [] rfl;exact this
theorem SL{a b:Al}(ha:Db a)(hb:Db b):((Ab a).toList==b.map fun n=>n.toNat.toUInt8)=decide (a=b):=by
 rw[Aqh,Bool.eq_iff_iff,beq_iff_eq,decide_eq_true_iff];constructor
 ·intro h;have e:Ab a=Ab b:=congrArg (fun l:List UInt8=>(⟨l.toArray⟩:ByteArray)) (show (Ab a).data.toList=(Ab b).data.toList from h);exact PO ha hb e
 ·rintro rfl;rfl
def Ber(w:World)(vT vC vO:JV)(s4 s5 s6:Value)(wx:World):Prop:=
 ∃bT bC bO,s4=.pointer (some ⟨bT,0,none⟩)/\s5=.pointer (some ⟨bC,0,none⟩)/\s6=.pointer (some ⟨bO,0,none⟩)/\w.heap.size<bT/\w.heap.size<bC/\w.heap.size<bO/\wx.heap[w.heap.size]?=some cd0/\wx.heap[bT]?=some (Aqw vT)/\wx.heap[bC]?=some (Aqw vC)/\wx.heap[bO]?=some (Aqw vO)/\Below w.heap.size w wx
def Bez(w wc:World)(vX vP:JV)(s7 s8:Value)(wx:World):Prop:=
 ∃bX bP,s7=.pointer (some ⟨bX,0,none⟩)/\s8=.pointer (some ⟨bP,0,none⟩)/\wc.heap.size<=bX/\wc.heap.size<=bP/\wx.heap[bX]?=some (Aqw vX)/\wx.heap[bP]?=some (Aqw vP)/\Below wc.heap.size wc wx
theorem Auz{w:World}{b:Nat}{x0 x1 x2 x3 x4:Value}(h:w.heap[b]?=some (.cells #[x0,x1,x2,x3,x4] 86)):(w.cell? ⟨b,0,none⟩=some x0/\w.cell? ⟨b,1,none⟩=some x1/\w.cell? ⟨b,2,none⟩=some x2/\w.cell? ⟨b,3,none⟩=some x3/\w.cell? ⟨b,4,none⟩=some x4)/\w.frozen? ⟨b,0,none⟩=false/\w.frozen? ⟨b,1,none⟩=false/\w.frozen? ⟨b,2,none⟩=false/\w.frozen? ⟨b,3,none⟩=false/\w.frozen? ⟨b,4,none⟩=false:=by refine⟨⟨?_,?_,?_,?_,?_⟩,?_,?_,?_,?_,?_⟩<;>first|(unfold World.cell?;simp only[h];rfl)|(unfold World.frozen?;simp only[h];rfl)
theorem Abo{w:World}{b:Nat}{x0 x1 x2 x3 x4:Value}(h0:w.cell? ⟨b,0,none⟩=some x0)(h1:w.cell? ⟨b,1,none⟩=some x1)(h2:w.cell? ⟨b,2,none⟩=some x2)(h3:w.cell? ⟨b,3,none⟩=some x3)(h4:w.cell? ⟨b,4,none⟩=some x4):(loadVar 86 ⟨b,0,none⟩).run prog w=.ok (.agg #[x0,x1,x2,x3,x4]) w:=by
 have hf:∀j,j<5->w.cell? ((⟨b,0,none⟩:Addr).add j)=some (([x0,x1,x2,x3,x4][j]?).getD undef):=by
  intro j hj;rw[Et,Ir]
  match j,hj with
  |0,_=>exact h0
  |1,_=>exact h1
  |2,_=>exact h2
  |3,_=>exact h3
  |4,_=>exact h4
 simp only[loadVar,Sem.run_bind,Tryz.isAgg86,Result.andThen_ok,if_true,Tryz.sizeOf86,run_loadCells w _ 5 _ hf];rfl
theorem Gr{w:World}{b i j:Nat}{v:Value}(h:i≠j):(w.setCell ⟨b,j,none⟩ v).cell? ⟨b,i,none⟩=w.cell? ⟨b,i,none⟩:=World.cell?_setCell_other _ _ _ _ (fun e=>h (by injection e with _ e2;exact e2.symm))
theorem MG(w:World)(b:Nat)(x0 x1 x2 x3 x4:Value)(h:(w.cell? ⟨b,0,none⟩).isSome=true/\(w.cell? ⟨b,1,none⟩).isSome=true/\(w.cell? ⟨b,2,none⟩).isSome=true/\(w.cell? ⟨b,3,none⟩).isSome=true/\(w.cell? ⟨b,4,none⟩).isSome=true):(loadVar 86 ⟨b,0,none⟩).run prog (((((w.setCell ⟨b,0,none⟩ x0).setCell ⟨b,1,none⟩ x1).setCell ⟨b,2,none⟩ x2).setCell ⟨b,3,none⟩ x3).setCell ⟨b,4,none⟩ x4)=.ok (.agg #[x0,x1,x2,x3,x4]) (((((w.setCell ⟨b,0,none⟩ x0).setCell ⟨b,1,none⟩ x1).setCell ⟨b,2,none⟩ x2).setCell ⟨b,3,none⟩ x3).setCell ⟨b,4,none⟩ x4):=by
 obtain⟨g0,g1,g2,g3,g4⟩:=h;obtain⟨y0,g0⟩:=Option.isSome_iff_exists.1 g0;obtain⟨y1,g1⟩:=Option.isSome_iff_exists.1 g1;obtain⟨y2,g2⟩:=Option.isSome_iff_exists.1 g2;obtain⟨y3,g3⟩:=Option.isSome_iff_exists.1 g3;obtain⟨y4,g4⟩:=Option.isSome_iff_exists.1 g4;apply Abo
 ·rw[Gr (by decide),Gr (by decide),Gr (by decide),Gr (by decide)];exact World.cell?_setCell_same _ _ _ g0
 ·rw[Gr (by decide),Gr (by decide),Gr (by decide)];exact World.cell?_setCell_same _ _ _ ((Gr (by decide)).trans g1)
 ·rw[Gr (by decide),Gr (by decide)];exact World.cell?_setCell_same _ _ _ ((Gr (by decide)).trans ((Gr (by decide)).trans g2))
 ·rw[Gr (by decide)];exact World.cell?_setCell_same _ _ _ ((Gr (by decide)).trans ((Gr (by decide)).trans ((Gr (by decide)).trans g3)))
 ·exact World.cell?_setCell_same _ _ _ ((Gr (by decide)).trans ((Gr (by decide)).trans ((Gr (by decide)).trans ((Gr (by decide)).trans g4))))
theorem Mq{B:Nat}{a w:World}(h:Below B a w){b:Nat}(hb:B<=b)(x0 x1 x2 x3 x4:Value):Below B a (((((w.setCell ⟨b,0,none⟩ x0).setCell ⟨b,1,none⟩ x1).setCell ⟨b,2,none⟩ x2).setCell ⟨b,3,none⟩ x3).setCell ⟨b,4,none⟩ x4):=
 ((((h.setCell (p:=⟨b,0,none⟩) hb x0).setCell (p:=⟨b,1,none⟩) hb x1).setCell (p:=⟨b,2,none⟩) hb x2).setCell (p:=⟨b,3,none⟩) hb x3).setCell (p:=⟨b,4,none⟩) hb x4
theorem L5{R:Ending->World->Prop}{a:Act}{W:World}{v:Value}{b:Nat}(h2:a.tmps.getD 2 undef=.pointer (some ⟨b,0,none⟩))(hd:a.defers=[])(hl:(loadVar 86 ⟨b,0,none⟩).run prog W=.ok v W)(hR:R (.returned (.tuple #[v,a.tmps.getD 3 undef])) W):bodyPost prog Tryz.f126 R .ret a W:=by refine bodyPost_ret ?_ hd hR;rw[results_cell_tmp rfl,h2];have e:(asAddr (.pointer (some ⟨b,0,none⟩))).run prog W=.ok ⟨b,0,none⟩ W:=rfl;rw[e,Result.andThen_ok,hl,Result.andThen_ok]
theorem JD.below{w w':World}{a:Addr}{b:Al}{B:Nat}(h:JD w a b)(k:Below B w w')(ha:a.block<B):JD w' a b:=
 ⟨h.1,F4 h.2.1 k.size,fun j x hx=>(k.cell (p:=a.add j) (by rw[F5];exact ha)).trans (h.2.2 j x hx)⟩
theorem JD.set{w:World}{a:Addr}{b:Al}{b0 j:Nat}{v:Value}(h:JD w a b)(Gx:a.block≠b0):JD (w.setCell ⟨b0,j,none⟩ v) a b:=
 ⟨h.1,by rw[World.size_setCell];exact h.2.1,fun i x hx=>(World.cell?_setCell_other _ _ _ _ (fun e=>Gx (by rw[<-F5 a i,<-e]))).trans (h.2.2 i x hx)⟩
theorem JD.set5{w:World}{a:Addr}{b:Al}{b0:Nat}{x0 x1 x2 x3 x4:Value}(h:JD w a b)(Gx:a.block≠b0):JD (((((w.setCell ⟨b0,0,none⟩ x0).setCell ⟨b0,1,none⟩ x1).setCell ⟨b0,2,none⟩ x2).setCell ⟨b0,3,none⟩ x3).setCell ⟨b0,4,none⟩ x4) a b:=
 ((((h.set Gx).set Gx).set Gx).set Gx).set Gx
def RC(w:World)(b:Nat):Prop:=(w.cell? ⟨b,0,none⟩=some (.int .i64 0)/\w.cell? ⟨b,1,none⟩=some (.slice none 0 0)/\w.cell? ⟨b,2,none⟩=some (.string ⟨#[]⟩)/\w.cell? ⟨b,3,none⟩=some (.bool false)/\w.cell? ⟨b,4,none⟩=some (.string ⟨#[]⟩))/\w.frozen? ⟨b,0,none⟩=false/\w.frozen? ⟨b,1,none⟩=false/\w.frozen? ⟨b,2,none⟩=false/\w.frozen? ⟨b,3,none⟩=false/\w.frozen? ⟨b,4,none⟩=false
theorem RC.below{w w':World}{b B:Nat}(h:RC w b)(k:Below B w w')(hb:b<B):RC w' b:=by have e:∀j,w'.cell? ⟨b,j,none⟩=w.cell? ⟨b,j,none⟩:=fun j=>k.cell (p:=⟨b,j,none⟩) hb;have f:∀j,w'.frozen? ⟨b,j,none⟩=w.frozen? ⟨b,j,none⟩:=fun j=>k.frozen (p:=⟨b,j,none⟩) hb;unfold RC;rw[e,e,e,e,e,f,f,f,f,f];exact h
theorem RC.some{w:World}{b:Nat}(h:RC w b):(w.cell? ⟨b,0,none⟩).isSome=true/\(w.cell? ⟨b,1,none⟩).isSome=true/\(w.cell? ⟨b,2,none⟩).isSome=true/\(w.cell? ⟨b,3,none⟩).isSome=true/\(w.cell? ⟨b,4,none⟩).isSome=true:=by obtain⟨⟨h0,h1,h2,h3,h4⟩,_⟩:=h;rw[h0,h1,h2,h3,h4];exact⟨rfl,rfl,rfl,rfl,rfl⟩
theorem A0c{w:World}{b:Nat}{v:Value}{x:Obj}(hb:b<w.heap.size)(h:∃x0 x1 x2 x3 x4,v=.agg #[x0,x1,x2,x3,x4]/\w.cell? ⟨b,0,none⟩=some x0/\w.cell? ⟨b,1,none⟩=some x1/\w.cell? ⟨b,2,none⟩=some x2/\w.cell? ⟨b,3,none⟩=some x3/\w.cell? ⟨b,4,none⟩=some x4):(loadVar 86 ⟨b,0,none⟩).run prog (w.alloc x)=.ok v (w.alloc x):=by obtain⟨x0,x1,x2,x3,x4,rfl,h0,h1,h2,h3,h4⟩:=h;have k:Below w.heap.size w (w.alloc x):=(Below.refl _ w).alloc (Cd _) _;exact Abo ((k.cell (p:=⟨b,0,none⟩) hb).trans h0) ((k.cell (p:=⟨b,1,none⟩) hb).trans h1) ((k.cell (p:=⟨b,2,none⟩) hb).trans h2) ((k.cell (p:=⟨b,3,none⟩) hb).trans h3) ((k.cell (p:=⟨b,4,none⟩) hb).trans h4)
theorem Se(w:World)(b:Nat)(hb:b<w.heap.size)(x0 x1 x2 x3 x4:Value)(x:Obj)(h:RC w b):(loadVar 86 ⟨b,0,none⟩).run prog ((((((w.setCell ⟨b,0,none⟩ x0).setCell ⟨b,1,none⟩ x1).setCell ⟨b,2,none⟩ x2).setCell ⟨b,3,none⟩ x3).setCell ⟨b,4,none⟩ x4).alloc x)=.ok (.agg #[x0,x1,x2,x3,x4]) ((((((w.setCell ⟨b,0,none⟩ x0).setCell ⟨b,1,none⟩ x1).setCell ⟨b,2,none⟩ x2).setCell ⟨b,3,none⟩ x3).setCell ⟨b,4,none⟩ x4).alloc x):=by
 refine A0c (by simp only[World.size_setCell];exact hb) ⟨x0,x1,x2,x3,x4,rfl,?_⟩
 obtain⟨⟨g0,g1,g2,g3,g4⟩,_⟩:=h;refine⟨?_,?_,?_,?_,?_⟩
 ·rw[Gr (by decide),Gr (by decide),Gr (by decide),Gr (by decide)];exact World.cell?_setCell_same _ _ _ g0
 ·rw[Gr (by decide),Gr (by decide),Gr (by decide)];exact World.cell?_setCell_same _ _ _ ((Gr (by decide)).trans g1)
 ·rw[Gr (by decide),Gr (by decide)];exact World.cell?_setCell_same _ _ _ ((Gr (by decide)).trans ((Gr (by decide)).trans g2))
 ·rw[Gr (by decide)];exact World.cell?_setCell_same _ _ _ ((Gr (by decide)).trans ((Gr (by decide)).trans ((Gr (by decide)).trans g3)))
 ·exact World.cell?_setCell_same _ _ _ ((Gr (by decide)).trans ((Gr (by decide)).trans ((Gr (by decide)).trans ((Gr (by decide)).trans g4))))
theorem J3{B:Nat}{a w:World}(h:Below B a w){b:Nat}(hb:B<=b)(hB:B<=w.heap.size)(x0 x1 x2 x3 x4:Value)(x:Obj):Below B a ((((((w.setCell ⟨b,0,none⟩ x0).setCell ⟨b,1,none⟩ x1).setCell ⟨b,2,none⟩ x2).setCell ⟨b,3,none⟩ x3).setCell ⟨b,4,none⟩ x4).alloc x):=
 have k:=Mq h hb x0 x1 x2 x3 x4
 k.alloc (by simp only[World.size_setCell];exact hB) _
theorem JD.set5al{w:World}{a:Addr}{b:Al}{b0:Nat}{x0 x1 x2 x3 x4:Value}{x:Obj}(h:JD w a b)(Gx:a.block≠b0):JD ((((((w.setCell ⟨b0,0,none⟩ x0).setCell ⟨b0,1,none⟩ x1).setCell ⟨b0,2,none⟩ x2).setCell ⟨b0,3,none⟩ x3).setCell ⟨b0,4,none⟩ x4).alloc x) a b:=
 have q:=h.set5 (x0:=x0) (x1:=x1) (x2:=x2) (x3:=x3) (x4:=x4) Gx
 q.below ((Below.refl _ _).alloc (Cd _) _) q.2.1
theorem al1(w:World)(x:Obj):(w.alloc x).heap[w.heap.size]?=some x:=Array.getElem?_push_size
def okW(w:World):Prop:=gU.ok w/\∀k,gU.bl k->k<w.heap.size
theorem okW.below{w w':World}(h:okW w)(k:Below w.heap.size w w'):okW w':=⟨gU.stable w w' (fun j hj hl=>k.block j hl) h.1,fun j hj=>F4 (h.2 j hj) k.size⟩
set_option maxHeartbeats 8000000 in
theorem A07(Bar:∀(W:World)(s:Al),okW W->Db s->s.length<=1000000->Calls prog 156 #[.string (Ab s)] W fun e w'=>Below W.heap.size W w'/\DbP W w' s e)(Azs:∀(W:World)(s:Al),okW W->Db s->s.length<=1000000->Calls prog 157 #[.string (Ab s)] W fun e w'=>Below W.heap.size W w'/\∃o1 o2 o3,e=.returned (.tuple #[.agg #[.bool o1,.string o2,.int .i64 o3],.int .i64 (Fn s)])){ms:List (Al × JV)}(hB:∀m∈ms,Db m.1)(hB2:∀m∈ms,Db m.2.2.1/\m.2.2.1.length<=1000000){mb:Nat}{w:World}(hU:okW w)(hM:WJ w mb ms):
  Calls prog 126 #[.map (some mb)] w fun e w'=>Below w.heap.size w w'/\ItP w w' (Lz (Dr Vi ms) (Dr DD ms) (Dr nmO ms) (Dr nmX ms) (Dr nmP ms)) e:=by
 have hgB:∀nm,Db (Dr nm ms).2.1/\(Dr nm ms).2.1.length<=1000000:=by
  intro nm;unfold Dr Q7;cases hq:ms.find? fun m=>m.1==nm with
  |none=>exact⟨(fun x hx=>nomatch hx),Nat.zero_le _⟩
  |some m=>exact hB2 m (List.mem_of_find?_eq_some hq)
 obtain⟨hTB,hTL⟩:=hgB Vi;obtain⟨hCB,hCL⟩:=hgB DD;obtain⟨hOB,hOL⟩:=hgB nmO;obtain⟨hXB,hXL⟩:=hgB nmX;obtain⟨hPB,hPL⟩:=hgB nmP;clear hgB;have mixed:prog.follows Departure.mixedOrders=true:=by kernel_rfl
 have key:∀{W:World},WJ W mb ms->(Instr.lookup 179 (.map (some mb)) (.string ⟨#[116,121,112,101]⟩) false).run prog W=.ok (.agg #[.int .i64 (Dr Vi ms).1,.string (Ab (Dr Vi ms).2.1),.bool (Dr Vi ms).2.2]) W/\(Instr.lookup 179 (.map (some mb)) (.string ⟨#[99,104,97,108,108,101,110,103,101]⟩) false).run prog W=.ok (.agg #[.int .i64 (Dr DD ms).1,.string (Ab (Dr DD ms).2.1),.bool (Dr DD ms).2.2]) W/\(Instr.lookup 179 (.map (some mb)) (.string ⟨#[111,114,105,103,105,110]⟩) false).run prog W=.ok (.agg #[.int .i64 (Dr nmO ms).1,.string (Ab (Dr nmO ms).2.1),.bool (Dr nmO ms).2.2]) W:=
  fun h=>⟨TF h hB (nm:=Vi) (fun x hx=>by simp[Vi] at hx;omega),TF h hB (nm:=DD) (fun x hx=>by simp[DD] at hx;omega),TF h hB (nm:=nmO) (fun x hx=>by simp[nmO] at hx;omega)⟩
 have key2:∀{W:World},WJ W mb ms->(Instr.lookup 179 (.map (some mb)) (.string ⟨#[99,114,111,115,115,79,114,105,103,105,110]⟩) false).run prog W=.ok (.agg #[.int .i64 (Dr nmX ms).1,.string (Ab (Dr nmX ms).2.1),.bool (Dr nmX ms).2.2]) W/\(Instr.lookup 179 (.map (some mb)) (.string ⟨#[116,111,112,79,114,105,103,105,110]⟩) false).run prog W=.ok (.agg #[.int .i64 (Dr nmP ms).1,.string (Ab (Dr nmP ms).2.1),.bool (Dr nmP ms).2.2]) W:=
  fun h=>⟨TF h hB (nm:=nmX) (fun x hx=>by simp[nmX] at hx;omega),TF h hB (nm:=nmP) (fun x hx=>by simp[nmP] at hx;omega)⟩
 have b0:Below w.heap.size w (w.alloc (.cells #[.int .i64 0,.slice none 0 0,.string ⟨#[]⟩,.bool false,.string ⟨#[]⟩] 86)):=(Below.refl _ w).alloc (Cd _) _;have b1:=b0.alloc b0.size (.cells #[.int .i64 0,.string ⟨#[]⟩,.bool false] 221);have b2:=b1.alloc b1.size (.cells #[.int .i64 0,.string ⟨#[]⟩,.bool false] 221);have b3:=b2.alloc b2.size (.cells #[.int .i64 0,.string ⟨#[]⟩,.bool false] 221);obtain⟨k0,k1,k2⟩:=key (hM.below b0.drew);obtain⟨l0,l1,l2⟩:=key (hM.below b1.drew);obtain⟨m0,m1,m2⟩:=key (hM.below b2.drew);obtain⟨n0,n1,n2⟩:=key (hM.below b3.drew)
 have bb:∀x1 x2 x3,Below w.heap.size w ((((w.alloc (.cells #[.int .i64 0,.slice none 0 0,.string ⟨#[]⟩,.bool false,.string ⟨#[]⟩] 86)).alloc x1).alloc x2).alloc x3).drew:=fun x1 x2 x3=>by
  have c1:=b0.alloc b0.size x1;have c2:=c1.alloc c1.size x2;exact (c2.alloc c2.size x3).drew
 obtain⟨_,p1,q1⟩:=key (hM.below (bb (.cells #[.int .i64 (Dr Vi ms).1,.string (Ab (Dr Vi ms).2.1),.bool (Dr Vi ms).2.2] 221) (.cells #[.int .i64 0,.string ⟨#[]⟩,.bool false] 221) (.cells #[.int .i64 0,.string ⟨#[]⟩,.bool false] 221)));obtain⟨_,p2,q2⟩:=key (hM.below (bb (.cells #[.int .i64 0,.string ⟨#[]⟩,.bool false] 221) (.cells #[.int .i64 (Dr Vi ms).1,.string (Ab (Dr Vi ms).2.1),.bool (Dr Vi ms).2.2] 221) (.cells #[.int .i64 0,.string ⟨#[]⟩,.bool false] 221)));obtain⟨_,p3,q3⟩:=key (hM.below (bb (.cells #[.int .i64 0,.string ⟨#[]⟩,.bool false] 221) (.cells #[.int .i64 0,.string ⟨#[]⟩,.bool false] 221) (.cells #[.int .i64 (Dr Vi ms).1,.string (Ab (Dr Vi ms).2.1),.bool (Dr Vi ms).2.2] 221)))
 obtain⟨_,_,q4⟩:=key (hM.below (bb (.cells #[.int .i64 (Dr Vi ms).1,.string (Ab (Dr Vi ms).2.1),.bool (Dr Vi ms).2.2] 221) (.cells #[.int .i64 (Dr DD ms).1,.string (Ab (Dr DD ms).2.1),.bool (Dr DD ms).2.2] 221) (.cells #[.int .i64 0,.string ⟨#[]⟩,.bool false] 221)));obtain⟨_,_,q5⟩:=key (hM.below (bb (.cells #[.int .i64 (Dr Vi ms).1,.string (Ab (Dr Vi ms).2.1),.bool (Dr Vi ms).2.2] 221) (.cells #[.int .i64 0,.string ⟨#[]⟩,.bool false] 221) (.cells #[.int .i64 (Dr DD ms).1,.string (Ab (Dr DD ms).2.1),.bool (Dr DD ms).2.2] 221)));obtain⟨_,_,q6⟩:=key (hM.below (bb (.cells #[.int .i64 (Dr DD ms).1,.string (Ab (Dr DD ms).2.1),.bool (Dr DD ms).2.2] 221) (.cells #[.int .i64 (Dr Vi ms).1,.string (Ab (Dr Vi ms).2.1),.bool (Dr Vi ms).2.2] 221) (.cells #[.int .i64 0,.string ⟨#[]⟩,.bool false] 221)))
 obtain⟨_,_,q7⟩:=key (hM.below (bb (.cells #[.int .i64 (Dr DD ms).1,.string (Ab (Dr DD ms).2.1),.bool (Dr DD ms).2.2] 221) (.cells #[.int .i64 0,.string ⟨#[]⟩,.bool false] 221) (.cells #[.int .i64 (Dr Vi ms).1,.string (Ab (Dr Vi ms).2.1),.bool (Dr Vi ms).2.2] 221)));obtain⟨_,_,q8⟩:=key (hM.below (bb (.cells #[.int .i64 0,.string ⟨#[]⟩,.bool false] 221) (.cells #[.int .i64 (Dr Vi ms).1,.string (Ab (Dr Vi ms).2.1),.bool (Dr Vi ms).2.2] 221) (.cells #[.int .i64 (Dr DD ms).1,.string (Ab (Dr DD ms).2.1),.bool (Dr DD ms).2.2] 221)));obtain⟨_,_,q9⟩:=key (hM.below (bb (.cells #[.int .i64 0,.string ⟨#[]⟩,.bool false] 221) (.cells #[.int .i64 (Dr DD ms).1,.string (Ab (Dr DD ms).2.1),.bool (Dr DD ms).2.2] 221) (.cells #[.int .i64 (Dr Vi ms).1,.string (Ab (Dr Vi ms).2.1),.bool (Dr Vi ms).2.2] 221)))
 have hbb:∀x1 x2 x3,Below w.heap.size w ((((w.alloc cd0).alloc x1).alloc x2).alloc x3).drew:=bb;clear key bb;generalize Dr Vi ms=vT at *
 generalize Dr DD ms=vC at *
 generalize Dr nmO ms=vO at *
 generalize Dr nmX ms=vX at *
 generalize Dr nmP ms=vP at *
 go_enter Tryz.func126,Tryz.ntmps126
 go_upto_region 1 with fail
 go_cut [4,5,6] (fun s4 s5 s6 wx=>Ber w vT vC vO s4 s5 s6 wx)
 case first=>
  go_region_o
  all_goals (go_wp2_with fail;go_meet;(refine⟨_,_,_,rfl,rfl,rfl,by omega,by omega,by omega,?_,?_,?_,?_,hbb _ _ _⟩<;>first|exact (al4 _ _ _ _ _).1|exact (al4 _ _ _ _ _).2.1|exact (al4 _ _ _ _ _).2.2.1|exact (al4 _ _ _ _ _).2.2.2))
 case rest=>
  rename World=>w2
  obtain⟨bT,bC,bO,rfl,rfl,rfl,hbT,hbC,hbO,hc,hT,hC,hO,hbw⟩:=hcut;clear k0 k1 k2 l0 l1 l2 m0 m1 m2 n0 n1 n2 p1 p2 p3 q1 q2 q3 q4 q5 q6 q7 q8 q9;have hMc:=hM.below hbw;have d1:Below w2.heap.size w2 (w2.alloc (.cells #[.int .i64 0,.string ⟨#[]⟩,.bool false] 221)):=(Below.refl _ w2).alloc (Cd _) _;have d2:=d1.alloc d1.size (.cells #[.int .i64 0,.string ⟨#[]⟩,.bool false] 221)
  have dd:∀x1 x2,Below w2.heap.size w2 ((w2.alloc x1).alloc x2).drew:=fun x1 x2=>by
   have c1:Below w2.heap.size w2 (w2.alloc x1):=(Below.refl _ w2).alloc (Cd _) _;exact (c1.alloc c1.size x2).drew
  obtain⟨k0,k1⟩:=key2 (hMc.below (Below.refl w2.heap.size w2).drew);obtain⟨l0,l1⟩:=key2 (hMc.below d1.drew);obtain⟨m0,m1⟩:=key2 (hMc.below d2.drew);obtain⟨_,p1⟩:=key2 (hMc.below (dd (.cells #[.int .i64 vX.1,.string (Ab vX.2.1),.bool vX.2.2] 221) (.cells #[.int .i64 0,.string ⟨#[]⟩,.bool false] 221)));obtain⟨_,p2⟩:=key2 (hMc.below (dd (.cells #[.int .i64 0,.string ⟨#[]⟩,.bool false] 221) (.cells #[.int .i64 vX.1,.string (Ab vX.2.1),.bool vX.2.2] 221)));clear key2
  go_upto_region 2 with fail
  go_cut [7,8] (fun s7 s8 wx=>Bez w w2 vX vP s7 s8 wx)
  case first=>
   go_region_o
   all_goals (go_wp2_with fail;go_meet;(refine⟨_,_,rfl,rfl,by omega,by omega,?_,?_,dd _ _⟩<;>first|exact (al2 _ _ _).1|exact (al2 _ _ _).2))
  case rest=>
   clear k0 k1 l0 l1 m0 m1 p1 p2;obtain⟨bX,bP,rfl,rfl,hbX,hbP,hX,hP,Agg⟩:=hcut
   rename World=>wd
   have hwc:w.heap.size<w2.heap.size:=by
    rcases Is w.heap.size w2.heap.size with q|q
    ·exact q
    ·rw[Array.getElem?_eq_none q] at hc;cases hc
   have Ci:∀{b:Nat} {o:Obj},w2.heap[b]?=some o->b<w2.heap.size:=fun {b o} h=>by
    rcases Is b w2.heap.size with q|q
    ·exact q
    ·rw[Array.getElem?_eq_none q] at h;cases h
   obtain⟨⟨c0,c1,c2,c3,c4⟩,f0,f1,f2,f3,f4⟩:=Awe ((Agg.block _ (Ci hc)).trans hc);have hrc:RC wd w.heap.size:=⟨⟨c0,c1,c2,c3,c4⟩,f0,f1,f2,f3,f4⟩
   have hsm:=hrc.some;obtain⟨T0,T1,T2⟩:=UO ((Agg.block _ (Ci hT)).trans hT);obtain⟨C0,C1,C2⟩:=UO ((Agg.block _ (Ci hC)).trans hC);obtain⟨O0,O1,O2⟩:=UO ((Agg.block _ (Ci hO)).trans hO);obtain⟨X0,X1,X2⟩:=UO hX;obtain⟨P0,P1,P2⟩:=UO hP;have hbd:Below w.heap.size w wd:=hbw.trans ((Agg).mono hbw.size);by_cases hT4:vT.1=4
   rotate_left
   ·have hq:(vT.1 != 4)=true:=by simp[hT4]
    have hI:Lz vT vC vO vX vP=.error 4:=by unfold Lz;rw[Ch (.inl hT4)]
    go_wp2
    (try simp only[Exit.inBlock,Exit.then])
    exact L5 (b:=w.heap.size) rfl rfl (MG wd w.heap.size _ _ _ _ _ hsm) ⟨Mq hbd (Cd _) _ _ _ _ _,by rw[hI];exact⟨by decide,rfl⟩⟩
   by_cases hC4:vC.1=4
   rotate_left
   ·have hq:(vC.1 != 4)=true:=by simp[hC4]
    have hI:Lz vT vC vO vX vP=.error 4:=by unfold Lz;rw[Ch (.inr (.inl hC4))]
    go_wp2
    (try simp only[Exit.inBlock,Exit.then])
    exact L5 (b:=w.heap.size) rfl rfl (MG wd w.heap.size _ _ _ _ _ hsm) ⟨Mq hbd (Cd _) _ _ _ _ _,by rw[hI];exact⟨by decide,rfl⟩⟩
   by_cases hO4:vO.1=4
   rotate_left
   ·have hq:(vO.1 != 4)=true:=by simp[hO4]
    have hI:Lz vT vC vO vX vP=.error 4:=by unfold Lz;rw[Ch (.inr (.inr hO4))]
    go_wp2
    (try simp only[Exit.inBlock,Exit.then])
    exact L5 (b:=w.heap.size) rfl rfl (MG wd w.heap.size _ _ _ _ _ hsm) ⟨Mq hbd (Cd _) _ _ _ _ _,by rw[hI];exact⟨by decide,rfl⟩⟩
   have Zw:Lz vT vC vO vX vP=if vX.1≠0/\vX.1≠2 then .error 4
    else if (vX.2.2=true/\vP.1≠4)\/(vX.2.2=false/\vP.1≠0) then .error 4
    else if vT.2.1=tyC then IC 1 vC vO vX vP else if vT.2.1=tyG then IC 2 vC vO vX vP else .error 3:=by
    unfold Lz;rw[Br (by rintro (h|h|h)<;>first|exact h hT4|exact h hC4|exact h hO4)]
   go_upto_region 5 with fail
   go_cut [47] (fun s47 wx=>∃q:Bool,s47=.bool q/\(q=true↔(vX.1≠0/\vX.1≠2))/\wx=wd)
   case first=>
    by_cases h0:vX.1=0
    ·have h1:(vX.1 != 0)=false:=by simp[h0]
     go_wp2_with fail
     go_meet
     exact⟨false,rfl,by simp[h0],rfl⟩
    ·have h1:(vX.1 != 0)=true:=by simp[h0]
     by_cases h2:vX.1=2
     ·have h3:(vX.1 != 2)=false:=by simp[h2]
      go_wp2_with fail
      go_meet
      exact⟨false,rfl,by simp[h2],rfl⟩
     ·have h3:(vX.1 != 2)=true:=by simp[h2]
      go_wp2_with fail
      go_meet
      exact⟨true,rfl,by simp[h0,h2],rfl⟩
   case rest=>
    obtain⟨q5,rfl,hq5,hwe⟩:=hcut;subst hwe;cases q5 with
    |true=>
     have hx1:=hq5.1 rfl;have hI:Lz vT vC vO vX vP=.error 4:=by rw[Zw,Ch hx1]
     go_wp2
     (try simp only[Exit.inBlock,Exit.then])
     exact L5 (b:=w.heap.size) rfl rfl (MG wc w.heap.size _ _ _ _ _ hsm) ⟨Mq hbd (Cd _) _ _ _ _ _,by rw[hI];exact⟨by decide,rfl⟩⟩
    |false=>
     have hx1:¬(vX.1≠0/\vX.1≠2):=fun h=>Bool.noConfusion (hq5.2 h);rw[Br hx1] at Zw
     go_upto_region 7 with fail
     go_cut [65] (fun s65 wx=>∃q:Bool,s65=.bool q/\(q=true↔((vX.2.2=true/\vP.1≠4)\/(vX.2.2=false/\vP.1≠0)))/\wx=wc)
     case first=>
      cases ZJ:vX.2.2 with
      |true=>
       rw[ZJ] at X2;by_cases h4:vP.1=4
       ·have h1:(vP.1 != 4)=false:=by simp[h4]
        go_wp2_with fail
        go_meet
        exact⟨false,rfl,by simp[h4,ZJ],rfl⟩
       ·have h1:(vP.1 != 4)=true:=by simp[h4]
        go_wp2_with fail
        go_meet
        exact⟨true,rfl,by simp[h4,ZJ],rfl⟩
      |false=>
       rw[ZJ] at X2;by_cases h4:vP.1=0
       ·have h1:(vP.1 != 0)=false:=by simp[h4]
        go_wp2_with fail
        go_meet
        exact⟨false,rfl,by simp[h4,ZJ],rfl⟩
       ·have h1:(vP.1 != 0)=true:=by simp[h4]
        go_wp2_with fail
        go_meet
        exact⟨true,rfl,by simp[h4,ZJ],rfl⟩
     case rest=>
      obtain⟨q7,rfl,hq7,hwe⟩:=hcut;subst hwe;cases q7 with
      |true=>
       have GG:=hq7.1 rfl;have hI:Lz vT vC vO vX vP=.error 4:=by rw[Zw,Ch GG]
       go_wp2
       (try simp only[Exit.inBlock,Exit.then])
       exact L5 (b:=w.heap.size) rfl rfl (MG wc w.heap.size _ _ _ _ _ hsm) ⟨Mq hbd (Cd _) _ _ _ _ _,by rw[hI];exact⟨by decide,rfl⟩⟩
      |false=>
       have GG:¬((vX.2.2=true/\vP.1≠4)\/(vX.2.2=false/\vP.1≠0)):=fun h=>Bool.noConfusion (hq7.2 h);rw[Br GG] at Zw;clear hq5 hq7 hx1 GG;have hwd:w.heap.size<wc.heap.size:=F4 hwc Agg.size;have Bnx:bT<wc.heap.size:=F4 (Ci hT) Agg.size;have Bmq:bC<wc.heap.size:=F4 (Ci hC) Agg.size;have hbC:((Ab vT.2.1).toList==[112,97,115,115,107,101,121,46,99,114,101,97,116,101])=decide (vT.2.1=tyC):=SL hTB (b:=tyC) (fun x hx=>by simp[tyC] at hx;omega)
       have hbG:((Ab vT.2.1).toList==[112,97,115,115,107,101,121,46,103,101,116])=decide (vT.2.1=tyG):=SL hTB (b:=tyG) (fun x hx=>by simp[tyG] at hx;omega)
       by_cases hTc:vT.2.1=tyC
       rotate_left
       ·rw[decide_eq_false hTc] at hbC;rw[Br hTc] at Zw;by_cases hTg:vT.2.1=tyG
        rotate_left
        ·rw[decide_eq_false hTg] at hbG;have hI:Lz vT vC vO vX vP=.error 3:=by rw[Zw,Br hTg]
         go_wp2
         (try simp only[Exit.inBlock,Exit.then])
         exact L5 (b:=w.heap.size) rfl rfl (Se wc w.heap.size hwd _ _ _ _ _ _ hrc) ⟨J3 hbd (Cd _) hbd.size _ _ _ _ _ _,by rw[hI];exact⟨by decide,rfl⟩⟩
        ·rw[decide_eq_true hTg] at hbG;rw[Ch hTg] at Zw;clear hTg hTc;have hbA:=hbd.alloc hbd.size (.cells #[.int .i64 2,.slice none 0 0,.string (Ab vO.2.1),.bool vX.2.2,.string (Ab vP.2.1)] 86);have hsA:(wc.alloc (.cells #[.int .i64 2,.slice none 0 0,.string (Ab vO.2.1),.bool vX.2.2,.string (Ab vP.2.1)] 86)).heap.size=wc.heap.size+1:=Array.size_push _;have hkA:=al1 wc (.cells #[.int .i64 2,.slice none 0 0,.string (Ab vO.2.1),.bool vX.2.2,.string (Ab vP.2.1)] 86);have hrA:=hrc.below ((Below.refl wc.heap.size wc).alloc (Cd _) (.cells #[.int .i64 2,.slice none 0 0,.string (Ab vO.2.1),.bool vX.2.2,.string (Ab vP.2.1)] 86)) hwd
         go_wp2_with (go_at_call 156;refine (Bar _ vC.2.1 (hU.below hbA) hCB hCL).mono ?_)
         rintro e W3 ⟨EP,hp3⟩
         have KY:Below w.heap.size w W3:=hbA.trans (EP.mono hbA.size);have hr3:=hrA.below EP (by rw[hsA];omega)
         have hm3:=hr3.some;obtain⟨⟨r30,r31,r32,r33,r34⟩,s30,s31,s32,s33,s34⟩:=hr3;have hs3:wc.heap.size+1<=W3.heap.size:=by have:=EP.size;rw[hsA] at this;exact this
         have Pf:=(EP.block _ (by rw[hsA];omega)).trans hkA
         obtain⟨⟨k0,k1,k2,k3,k4⟩,kf0,kf1,kf2,kf3,kf4⟩:=Auz Pf;unfold DbP at hp3;cases hdc:To vC.2.1 with
         |none=>
          rw[hdc] at hp3;obtain⟨ad,capN,rfl⟩:=hp3;have hI:Lz vT vC vO vX vP=.error 2:=by rw[Zw];unfold IC;rw[hdc]
          go_wp2
          (try simp only[Exit.inBlock,Exit.then])
          exact L5 (b:=w.heap.size) rfl rfl (MG W3 w.heap.size _ _ _ _ _ hm3) ⟨Mq KY (Cd _) _ _ _ _ _,by rw[hI];exact⟨by decide,rfl⟩⟩
         |some b=>
          rw[hdc] at hp3;obtain⟨ad,cap,rfl,Nx⟩:=hp3;by_cases Gj:b.length<1
          ·have hI:Lz vT vC vO vX vP=.error 9:=by rw[Zw];unfold IC;rw[hdc];simp only;rw[Ch (.inl Gj)]
           have GZ:(b.length:Int)<1:=by omega
           go_wp2
           (try simp only[Exit.inBlock,Exit.then])
           exact L5 (b:=w.heap.size) rfl rfl (MG W3 w.heap.size _ _ _ _ _ hm3) ⟨Mq KY (Cd _) _ _ _ _ _,by rw[hI];exact⟨by decide,rfl⟩⟩
          by_cases Kw:64<b.length
          ·have hI:Lz vT vC vO vX vP=.error 9:=by rw[Zw];unfold IC;rw[hdc];simp only;rw[Ch (.inr Kw)]
           have GZ:¬(b.length:Int)<1:=by omega
           have N9:(b.length:Int)>64:=by omega
           go_wp2
           (try simp only[Exit.inBlock,Exit.then])
           exact L5 (b:=w.heap.size) rfl rfl (MG W3 w.heap.size _ _ _ _ _ hm3) ⟨Mq KY (Cd _) _ _ _ _ _,by rw[hI];exact⟨by decide,rfl⟩⟩
          have GZ:¬(b.length:Int)<1:=by omega
          have N9:¬(b.length:Int)>64:=by omega
          obtain⟨a,rfl,hac,haw,hla⟩:=Nx (by rintro rfl;exact Gj (by decide))
          have Bf3:wc.heap.size+1<=a.block:=by rw[hsA] at haw;exact haw
          have hI2:Lz vT vC vO vX vP=if Fn vO.2.1≠0 then .error (Fn vO.2.1) else if vX.2.2=true/\Fn vP.2.1≠0 then .error (Fn vP.2.1) else .ok (2,b,vO.2.1,vX.2.2,vP.2.1):=by
           rw[Zw];unfold IC;rw[hdc];simp only;rw[Br (by omega)]
          have QH:Below w.heap.size w (W3.setCell ⟨wc.heap.size,1,none⟩ (.slice (some a) b.length cap)):=KY.setCell (p:=⟨wc.heap.size,1,none⟩) (Nat.le_of_lt hwd) _;have A49:Below wc.heap.size W3 (W3.setCell ⟨wc.heap.size,1,none⟩ (.slice (some a) b.length cap)):=(Below.refl wc.heap.size W3).setCell (p:=⟨wc.heap.size,1,none⟩) (Cd _) _;have hr4:=(show RC W3 w.heap.size from ⟨⟨r30,r31,r32,r33,r34⟩,s30,s31,s32,s33,s34⟩).below A49 hwd;have A6d:=hla.set (b0:=wc.heap.size) (j:=1) (v:=.slice (some a) b.length cap) (by omega);have hs4:(W3.setCell ⟨wc.heap.size,1,none⟩ (.slice (some a) b.length cap)).heap.size=W3.heap.size:=World.size_setCell ..;have j0:(W3.setCell ⟨wc.heap.size,1,none⟩ (.slice (some a) b.length cap)).cell? ⟨wc.heap.size,0,none⟩=some (.int .i64 2):=(Gr (by decide)).trans k0
          have j1:(W3.setCell ⟨wc.heap.size,1,none⟩ (.slice (some a) b.length cap)).cell? ⟨wc.heap.size,1,none⟩=some (.slice (some a) b.length cap):=World.cell?_setCell_same _ _ _ k1;have j2:(W3.setCell ⟨wc.heap.size,1,none⟩ (.slice (some a) b.length cap)).cell? ⟨wc.heap.size,2,none⟩=some (.string (Ab vO.2.1)):=(Gr (by decide)).trans k2;have j3:(W3.setCell ⟨wc.heap.size,1,none⟩ (.slice (some a) b.length cap)).cell? ⟨wc.heap.size,3,none⟩=some (.bool vX.2.2):=(Gr (by decide)).trans k3;have j4:(W3.setCell ⟨wc.heap.size,1,none⟩ (.slice (some a) b.length cap)).cell? ⟨wc.heap.size,4,none⟩=some (.string (Ab vP.2.1)):=(Gr (by decide)).trans k4
          go_wp2_with (go_at_call 157;refine (Azs _ vO.2.1 (hU.below QH) hOB hOL).mono ?_)
          rintro e W5 ⟨hb5,o1,o2,o3,rfl⟩
          have MI:W3.heap.size<=W5.heap.size:=by have:=hb5.size;rw[hs4] at this;exact this
          have NI:Below w.heap.size w W5:=QH.trans (hb5.mono QH.size);have hr5:=hr4.below hb5 (by rw[hs4];omega)
          have A52:=hr5;obtain⟨⟨r50,r51,r52,r53,r54⟩,s50,s51,s52,s53,s54⟩:=A52;have hw5:w.heap.size<W5.heap.size:=by omega
          have hc5:wc.heap.size<W5.heap.size:=by omega
          have Akf:=A6d.below hb5 (by rw[hs4];exact hla.2.1)
          have Nq:wc.heap.size<(W3.setCell ⟨wc.heap.size,1,none⟩ (.slice (some a) b.length cap)).heap.size:=by rw[hs4];omega
          have i0:=(hb5.cell (p:=⟨wc.heap.size,0,none⟩) Nq).trans j0;have i1:=(hb5.cell (p:=⟨wc.heap.size,1,none⟩) Nq).trans j1;have i2:=(hb5.cell (p:=⟨wc.heap.size,2,none⟩) Nq).trans j2;have i3:=(hb5.cell (p:=⟨wc.heap.size,3,none⟩) Nq).trans j3;have i4:=(hb5.cell (p:=⟨wc.heap.size,4,none⟩) Nq).trans j4;have hbL:=(Below.refl W5.heap.size W5).alloc (Cd _) (.cells #[.bool o1,.string o2,.int .i64 o3] 124);have Aja:Below w.heap.size w (W5.alloc (.cells #[.bool o1,.string o2,.int .i64 o3] 124)):=NI.alloc NI.size _;by_cases ho:Fn vO.2.1=0
          rotate_left
          ·have hoB:(Fn vO.2.1 != 0)=true:=by simp[ho]
           have hI:Lz vT vC vO vX vP=.error (Fn vO.2.1):=by rw[hI2,Ch ho]
           go_wp2
           (try simp only[Exit.inBlock,Exit.then])
           exact L5 (b:=w.heap.size) rfl rfl (Se W5 w.heap.size hw5 _ _ _ _ _ _ hr5) ⟨J3 NI (Cd _) NI.size _ _ _ _ _ _,by rw[hI];exact⟨ho,rfl⟩⟩
          have hoB:(Fn vO.2.1 != 0)=false:=by simp[ho]
          rw[Br (by simp[ho])] at hI2;have Ar6:=Akf.below hbL (by have:=Akf.2.1;exact this)
          cases ZJ:vX.2.2 with
          |false=>
           rw[ZJ] at i3;have hI:Lz vT vC vO vX vP=.ok (2,b,vO.2.1,false,vP.2.1):=by rw[hI2,Br (by simp[ZJ]),ZJ]
           go_wp2
           (try simp only[Exit.inBlock,Exit.then])
           exact L5 (b:=w.heap.size) rfl rfl (Se W5 w.heap.size hw5 _ _ _ _ _ _ hr5) ⟨J3 NI (Cd _) NI.size _ _ _ _ _ _,by rw[hI];exact⟨a,cap,rfl,hac,by omega,Akf.set5al (by omega)⟩⟩
          |true=>
           rw[ZJ] at i3
           go_wp2_with (go_at_call 157;refine (Azs _ vP.2.1 (hU.below Aja) hPB hPL).mono ?_)
           rintro e W7 ⟨hb7,p1,p2,p3,rfl⟩
           have hsL:(W5.alloc (.cells #[.bool o1,.string o2,.int .i64 o3] 124)).heap.size=W5.heap.size+1:=Array.size_push _;have ME:Below w.heap.size w W7:=Aja.trans (hb7.mono Aja.size);have hr7:=(hr5.below hbL hw5).below hb7 (by rw[hsL];omega)
           have A7c:=hr7;obtain⟨⟨r70,r71,r72,r73,r74⟩,s70,s71,s72,s73,s74⟩:=A7c;have Ajr:=Ar6.below hb7 (by have:=Ar6.2.1;exact this)
           have NO:=(hbL.trans (hb7.mono hbL.size))
           have l0:=(NO.cell (p:=⟨wc.heap.size,0,none⟩) (show wc.heap.size<W5.heap.size by omega)).trans i0;have l1:=(NO.cell (p:=⟨wc.heap.size,1,none⟩) (show wc.heap.size<W5.heap.size by omega)).trans i1;have l2:=(NO.cell (p:=⟨wc.heap.size,2,none⟩) (show wc.heap.size<W5.heap.size by omega)).trans i2;have l3:=(NO.cell (p:=⟨wc.heap.size,3,none⟩) (show wc.heap.size<W5.heap.size by omega)).trans i3;have l4:=(NO.cell (p:=⟨wc.heap.size,4,none⟩) (show wc.heap.size<W5.heap.size by omega)).trans i4;have hs7:=NO.size;have hw7:w.heap.size<W7.heap.size:=by omega
           have hc7:wc.heap.size<W7.heap.size:=by omega
           have hbM:=(Below.refl W7.heap.size W7).alloc (Cd _) (.cells #[.bool p1,.string p2,.int .i64 p3] 124);have Bik:Below w.heap.size w (W7.alloc (.cells #[.bool p1,.string p2,.int .i64 p3] 124)):=ME.alloc ME.size _;by_cases hp:Fn vP.2.1=0
           rotate_left
           ·have hoB:(Fn vP.2.1 != 0)=true:=by simp[hp]
            have hI:Lz vT vC vO vX vP=.error (Fn vP.2.1):=by rw[hI2,Ch ⟨ZJ,hp⟩]
            go_wp2
            (try simp only[Exit.inBlock,Exit.then])
            exact L5 (b:=w.heap.size) rfl rfl (Se W7 w.heap.size hw7 _ _ _ _ _ _ hr7) ⟨J3 ME (Cd _) ME.size _ _ _ _ _ _,by rw[hI];exact⟨hp,rfl⟩⟩
           have hpB:(Fn vP.2.1 != 0)=false:=by simp[hp]
           have Bgh:=Ajr.below hbM (by have:=Ajr.2.1;exact this)
           have hI:Lz vT vC vO vX vP=.ok (2,b,vO.2.1,true,vP.2.1):=by rw[hI2,Br (by simp[hp]),ZJ]
           go_wp2
           (try simp only[Exit.inBlock,Exit.then])
           exact L5 (b:=w.heap.size) rfl rfl (Se W7 w.heap.size hw7 _ _ _ _ _ _ hr7) ⟨J3 ME (Cd _) ME.size _ _ _ _ _ _,by rw[hI];exact⟨a,cap,rfl,hac,by omega,Ajr.set5al (by omega)⟩⟩
       ·rw[decide_eq_true hTc] at hbC;rw[Ch hTc] at Zw;clear hTc hbG;have hbA:=hbd.alloc hbd.size (.cells #[.int .i64 1,.slice none 0 0,.string (Ab vO.2.1),.bool vX.2.2,.string (Ab vP.2.1)] 86);have hsA:(wc.alloc (.cells #[.int .i64 1,.slice none 0 0,.string (Ab vO.2.1),.bool vX.2.2,.string (Ab vP.2.1)] 86)).heap.size=wc.heap.size+1:=Array.size_push _;have hkA:=al1 wc (.cells #[.int .i64 1,.slice none 0 0,.string (Ab vO.2.1),.bool vX.2.2,.string (Ab vP.2.1)] 86);have hrA:=hrc.below ((Below.refl wc.heap.size wc).alloc (Cd _) (.cells #[.int .i64 1,.slice none 0 0,.string (Ab vO.2.1),.bool vX.2.2,.string (Ab vP.2.1)] 86)) hwd
        go_wp2_with (go_at_call 156;refine (Bar _ vC.2.1 (hU.below hbA) hCB hCL).mono ?_)
        rintro e W3 ⟨EP,hp3⟩
        have KY:Below w.heap.size w W3:=hbA.trans (EP.mono hbA.size);have hr3:=hrA.below EP (by rw[hsA];omega)
        have hm3:=hr3.some;obtain⟨⟨r30,r31,r32,r33,r34⟩,s30,s31,s32,s33,s34⟩:=hr3;have hs3:wc.heap.size+1<=W3.heap.size:=by have:=EP.size;rw[hsA] at this;exact this
        have Pf:=(EP.block _ (by rw[hsA];omega)).trans hkA
        obtain⟨⟨k0,k1,k2,k3,k4⟩,kf0,kf1,kf2,kf3,kf4⟩:=Auz Pf;unfold DbP at hp3;cases hdc:To vC.2.1 with
        |none=>
         rw[hdc] at hp3;obtain⟨ad,capN,rfl⟩:=hp3;have hI:Lz vT vC vO vX vP=.error 2:=by rw[Zw];unfold IC;rw[hdc]
         go_wp2
         (try simp only[Exit.inBlock,Exit.then])
         exact L5 (b:=w.heap.size) rfl rfl (MG W3 w.heap.size _ _ _ _ _ hm3) ⟨Mq KY (Cd _) _ _ _ _ _,by rw[hI];exact⟨by decide,rfl⟩⟩
        |some b=>
         rw[hdc] at hp3;obtain⟨ad,cap,rfl,Nx⟩:=hp3;by_cases Gj:b.length<1
         ·have hI:Lz vT vC vO vX vP=.error 9:=by rw[Zw];unfold IC;rw[hdc];simp only;rw[Ch (.inl Gj)]
          have GZ:(b.length:Int)<1:=by omega
          go_wp2
          (try simp only[Exit.inBlock,Exit.then])
          exact L5 (b:=w.heap.size) rfl rfl (MG W3 w.heap.size _ _ _ _ _ hm3) ⟨Mq KY (Cd _) _ _ _ _ _,by rw[hI];exact⟨by decide,rfl⟩⟩
         by_cases Kw:64<b.length
         ·have hI:Lz vT vC vO vX vP=.error 9:=by rw[Zw];unfold IC;rw[hdc];simp only;rw[Ch (.inr Kw)]
          have GZ:¬(b.length:Int)<1:=by omega
          have N9:(b.length:Int)>64:=by omega
          go_wp2
          (try simp only[Exit.inBlock,Exit.then])
          exact L5 (b:=w.heap.size) rfl rfl (MG W3 w.heap.size _ _ _ _ _ hm3) ⟨Mq KY (Cd _) _ _ _ _ _,by rw[hI];exact⟨by decide,rfl⟩⟩
         have GZ:¬(b.length:Int)<1:=by omega
         have N9:¬(b.length:Int)>64:=by omega
         obtain⟨a,rfl,hac,haw,hla⟩:=Nx (by rintro rfl;exact Gj (by decide))
         have Bf3:wc.heap.size+1<=a.block:=by rw[hsA] at haw;exact haw
         have hI2:Lz vT vC vO vX vP=if Fn vO.2.1≠0 then .error (Fn vO.2.1) else if vX.2.2=true/\Fn vP.2.1≠0 then .error (Fn vP.2.1) else .ok (1,b,vO.2.1,vX.2.2,vP.2.1):=by
          rw[Zw];unfold IC;rw[hdc];simp only;rw[Br (by omega)]
         have QH:Below w.heap.size w (W3.setCell ⟨wc.heap.size,1,none⟩ (.slice (some a) b.length cap)):=KY.setCell (p:=⟨wc.heap.size,1,none⟩) (Nat.le_of_lt hwd) _;have A49:Below wc.heap.size W3 (W3.setCell ⟨wc.heap.size,1,none⟩ (.slice (some a) b.length cap)):=(Below.refl wc.heap.size W3).setCell (p:=⟨wc.heap.size,1,none⟩) (Cd _) _;have hr4:=(show RC W3 w.heap.size from ⟨⟨r30,r31,r32,r33,r34⟩,s30,s31,s32,s33,s34⟩).below A49 hwd;have A6d:=hla.set (b0:=wc.heap.size) (j:=1) (v:=.slice (some a) b.length cap) (by omega);have hs4:(W3.setCell ⟨wc.heap.size,1,none⟩ (.slice (some a) b.length cap)).heap.size=W3.heap.size:=World.size_setCell ..;have j0:(W3.setCell ⟨wc.heap.size,1,none⟩ (.slice (some a) b.length cap)).cell? ⟨wc.heap.size,0,none⟩=some (.int .i64 1):=(Gr (by decide)).trans k0
         have j1:(W3.setCell ⟨wc.heap.size,1,none⟩ (.slice (some a) b.length cap)).cell? ⟨wc.heap.size,1,none⟩=some (.slice (some a) b.length cap):=World.cell?_setCell_same _ _ _ k1;have j2:(W3.setCell ⟨wc.heap.size,1,none⟩ (.slice (some a) b.length cap)).cell? ⟨wc.heap.size,2,none⟩=some (.string (Ab vO.2.1)):=(Gr (by decide)).trans k2;have j3:(W3.setCell ⟨wc.heap.size,1,none⟩ (.slice (some a) b.length cap)).cell? ⟨wc.heap.size,3,none⟩=some (.bool vX.2.2):=(Gr (by decide)).trans k3;have j4:(W3.setCell ⟨wc.heap.size,1,none⟩ (.slice (some a) b.length cap)).cell? ⟨wc.heap.size,4,none⟩=some (.string (Ab vP.2.1)):=(Gr (by decide)).trans k4
         go_wp2_with (go_at_call 157;refine (Azs _ vO.2.1 (hU.below QH) hOB hOL).mono ?_)
         rintro e W5 ⟨hb5,o1,o2,o3,rfl⟩
         have MI:W3.heap.size<=W5.heap.size:=by have:=hb5.size;rw[hs4] at this;exact this
         have NI:Below w.heap.size w W5:=QH.trans (hb5.mono QH.size);have hr5:=hr4.below hb5 (by rw[hs4];omega)
         have A52:=hr5;obtain⟨⟨r50,r51,r52,r53,r54⟩,s50,s51,s52,s53,s54⟩:=A52;have hw5:w.heap.size<W5.heap.size:=by omega
         have hc5:wc.heap.size<W5.heap.size:=by omega
         have Akf:=A6d.below hb5 (by rw[hs4];exact hla.2.1)
         have Nq:wc.heap.size<(W3.setCell ⟨wc.heap.size,1,none⟩ (.slice (some a) b.length cap)).heap.size:=by rw[hs4];omega
         have i0:=(hb5.cell (p:=⟨wc.heap.size,0,none⟩) Nq).trans j0;have i1:=(hb5.cell (p:=⟨wc.heap.size,1,none⟩) Nq).trans j1;have i2:=(hb5.cell (p:=⟨wc.heap.size,2,none⟩) Nq).trans j2;have i3:=(hb5.cell (p:=⟨wc.heap.size,3,none⟩) Nq).trans j3;have i4:=(hb5.cell (p:=⟨wc.heap.size,4,none⟩) Nq).trans j4;have hbL:=(Below.refl W5.heap.size W5).alloc (Cd _) (.cells #[.bool o1,.string o2,.int .i64 o3] 124);have Aja:Below w.heap.size w (W5.alloc (.cells #[.bool o1,.string o2,.int .i64 o3] 124)):=NI.alloc NI.size _;by_cases ho:Fn vO.2.1=0
         rotate_left
         ·have hoB:(Fn vO.2.1 != 0)=true:=by simp[ho]
          have hI:Lz vT vC vO vX vP=.error (Fn vO.2.1):=by rw[hI2,Ch ho]
          go_wp2
          (try simp only[Exit.inBlock,Exit.then])
          exact L5 (b:=w.heap.size) rfl rfl (Se W5 w.heap.size hw5 _ _ _ _ _ _ hr5) ⟨J3 NI (Cd _) NI.size _ _ _ _ _ _,by rw[hI];exact⟨ho,rfl⟩⟩
         have hoB:(Fn vO.2.1 != 0)=false:=by simp[ho]
         rw[Br (by simp[ho])] at hI2;have Ar6:=Akf.below hbL (by have:=Akf.2.1;exact this)
         cases ZJ:vX.2.2 with
         |false=>
          rw[ZJ] at i3;have hI:Lz vT vC vO vX vP=.ok (1,b,vO.2.1,false,vP.2.1):=by rw[hI2,Br (by simp[ZJ]),ZJ]
          go_wp2
          (try simp only[Exit.inBlock,Exit.then])
          exact L5 (b:=w.heap.size) rfl rfl (Se W5 w.heap.size hw5 _ _ _ _ _ _ hr5) ⟨J3 NI (Cd _) NI.size _ _ _ _ _ _,by rw[hI];exact⟨a,cap,rfl,hac,by omega,Akf.set5al (by omega)⟩⟩
         |true=>
          rw[ZJ] at i3
          go_wp2_with (go_at_call 157;refine (Azs _ vP.2.1 (hU.below Aja) hPB hPL).mono ?_)
          rintro e W7 ⟨hb7,p1,p2,p3,rfl⟩
          have hsL:(W5.alloc (.cells #[.bool o1,.string o2,.int .i64 o3] 124)).heap.size=W5.heap.size+1:=Array.size_push _;have ME:Below w.heap.size w W7:=Aja.trans (hb7.mono Aja.size);have hr7:=(hr5.below hbL hw5).below hb7 (by rw[hsL];omega)
          have A7c:=hr7;obtain⟨⟨r70,r71,r72,r73,r74⟩,s70,s71,s72,s73,s74⟩:=A7c;have Ajr:=Ar6.below hb7 (by have:=Ar6.2.1;exact this)
          have NO:=(hbL.trans (hb7.mono hbL.size))
          have l0:=(NO.cell (p:=⟨wc.heap.size,0,none⟩) (show wc.heap.size<W5.heap.size by omega)).trans i0;have l1:=(NO.cell (p:=⟨wc.heap.size,1,none⟩) (show wc.heap.size<W5.heap.size by omega)).trans i1;have l2:=(NO.cell (p:=⟨wc.heap.size,2,none⟩) (show wc.heap.size<W5.heap.size by omega)).trans i2;have l3:=(NO.cell (p:=⟨wc.heap.size,3,none⟩) (show wc.heap.size<W5.heap.size by omega)).trans i3;have l4:=(NO.cell (p:=⟨wc.heap.size,4,none⟩) (show wc.heap.size<W5.heap.size by omega)).trans i4;have hs7:=NO.size;have hw7:w.heap.size<W7.heap.size:=by omega
          have hc7:wc.heap.size<W7.heap.size:=by omega
          have hbM:=(Below.refl W7.heap.size W7).alloc (Cd _) (.cells #[.bool p1,.string p2,.int .i64 p3] 124);have Bik:Below w.heap.size w (W7.alloc (.cells #[.bool p1,.string p2,.int .i64 p3] 124)):=ME.alloc ME.size _;by_cases hp:Fn vP.2.1=0
          rotate_left
          ·have hoB:(Fn vP.2.1 != 0)=true:=by simp[hp]
           have hI:Lz vT vC vO vX vP=.error (Fn vP.2.1):=by rw[hI2,Ch ⟨ZJ,hp⟩]
           go_wp2
           (try simp only[Exit.inBlock,Exit.then])
           exact L5 (b:=w.heap.size) rfl rfl (Se W7 w.heap.size hw7 _ _ _ _ _ _ hr7) ⟨J3 ME (Cd _) ME.size _ _ _ _ _ _,by rw[hI];exact⟨hp,rfl⟩⟩
          have hpB:(Fn vP.2.1 != 0)=false:=by simp[hp]
          have Bgh:=Ajr.below hbM (by have:=Ajr.2.1;exact this)
          have hI:Lz vT vC vO vX vP=.ok (1,b,vO.2.1,true,vP.2.1):=by rw[hI2,Br (by simp[hp]),ZJ]
          go_wp2
          (try simp only[Exit.inBlock,Exit.then])
          exact L5 (b:=w.heap.size) rfl rfl (Se W7 w.heap.size hw7 _ _ _ _ _ _ hr7) ⟨J3 ME (Cd _) ME.size _ _ _ _ _ _,by rw[hI];exact⟨a,cap,rfl,hac,by omega,Ajr.set5al (by omega)⟩⟩
end
section
open Go Go.RowKit Go.Lib
def OkT(L:Nat)(s:Al):Prop:=Db s/\s.length<=4*L
theorem VU:∀(n:Nat)(out l s q:Al),Db l->Mp n out l=(some s,q)->s.length<=out.length+4*l.length
  |0,_,_,_,_,_,h=>by cases h
  |_+1,_,[],_,_,_,h=>by cases h
  |n+1,out,c::l,s,q,hl,h=>by
    have e:Mp (n+1) out (c::l)=if c<32 then (none,c::l) else if c=34 then (some out,l) else if c=92 then
        (match Ua l with
         |(some x,r')=>Mp n (out++Lib.encodeRuneZ x) r'
         |(none,r')=>(none,r')) else Mp n (out++[c]) l:=rfl
    have Wc:=D6 hl
    rw[e] at h
    split at h
    · cases h
    split at h
    · cases h;simp
    split at h
    · have h2:=BQ (El.self Wc.2)
      rcases hq:Ua l with⟨o,r⟩
      rw[hq] at h2 h
      cases o with
      |none=>cases h
      |some x=>
        have:=VU n _ r s q h2.B h
        have h3:=Lib.encodeRuneZ_length x
        have h4:r.length<=l.length:=h2.le
        simp at this ⊢
        omega
    · have:=VU n _ l s q Wc.2 h
      simp at this ⊢
      omega
theorem Aen{l s q:Al}(hl:Db l)(h:Gu l=(some s,q)):OkT l.length s:=by
 refine⟨Al4 hl h,?_⟩;cases l with
 |nil=>cases h
 |cons c l=>
  have e:Gu (c::l)=if c=34 then Mp (l.length+1) [] l else (none,c::l):=rfl
  rw[e] at h;split at h
  ·have:=VU _ _ _ _ _ (D6 hl).2 h;simp at this ⊢;omega
  ·cases h
theorem OkT.mono{L M:Nat}{s:Al}(h:OkT L s)(hm:L<=M):OkT M s:=⟨h.1,by have:=h.2;omega⟩
theorem OkT.nil(L:Nat):OkT L []:=⟨(fun x hx=>nomatch hx),Nat.zero_le _⟩
theorem Awp{l r:Al}{v:JV}(hl:Db l)(hs:l.length<=1000000)(h:Hn 8 l=.ok (v,r)):El (Ab l) r:=by
 obtain⟨res,_,hr⟩:=A20 (fu:=1000001) (d:=0) (t:=Ab l) (by rw[Ai];exact hs) (by rw[Ai];omega) 8 1 (by omega) (by omega) l (El.self hl)
 rw[h] at hr;exact hr.1
theorem A0u:∀{k:Nat}{l r:Al}{v:JV},Db l->Hn k l=.ok (v,r)->OkT l.length v.2.1:=by
 intro k l r v hl h;unfold Hn at h;split at h
 ·split at h
  ·cases h
  ·split at h
   ·cases h
   ·cases h;exact OkT.nil _
 ·split at h
  ·cases h
  ·split at h
   ·cases h
   ·cases h;exact OkT.nil _
 ·rename_i r0;unfold IP at h;rcases hq:Gu (34::r0) with⟨o,q⟩;rw[hq] at h;cases o with
  |none=>cases h
  |some s=>cases h;exact Aen hl hq
 ·repeat' split at h
  all_goals first|(cases h;exact OkT.nil _)|cases h
theorem Azb{L:Nat}(hL:L<=1000000):∀(n:Nat)(ms:List (Al × JV)) (l r:Al)(ms':List (Al × JV)),Db l->l.length<=L->(∀m∈ms,OkT L m.1/\OkT L m.2.2.1)->Zl (Hn 8) true n ms l=.ok (ms',r)->∀m∈ms',OkT L m.1/\OkT L m.2.2.1:=by
 intro n
 induction n with
 |zero=>intro ms l r ms' _ _ _ h;cases h
 |succ n ih=>
  intro ms l r ms' hl hs hm h;rw[IK] at h;rcases hx:Gu l with⟨o,q⟩;rw[hx] at h;cases o with
  |none=>cases h
  |some nm=>
   have RE:=Aen hl hx;have hq:=Kd (El.self hl);rw[hx] at hq;simp only at h;split at h
   ·cases h
   cases h1:A4 [58] (Bx q) with
   |none=>rw[h1] at h;cases h
   |some r1=>
    rw[h1] at h;have WV:=Cl (A8 (Cl hq) h1);simp only at h;cases hv:Hn 8 (Bx r1) with
    |error e=>rw[hv] at h;cases h
    |ok x=>
     obtain⟨v,r2⟩:=x;rw[hv] at h;have Ys:=WV.le;have hvo:=A0u WV.B hv;have ZM:=WV.trans (Awp WV.B (by omega) hv)
     have Qx:∀m∈ms++[(nm,v)],OkT L m.1/\OkT L m.2.2.1:=by
      intro m Nz;rcases B2.1 Nz with Nz|Nz
      ·exact hm m Nz
      ·simp at Nz;subst Nz;exact⟨RE.mono hs,hvo.mono (by omega)⟩
     simp only at h;cases h2:A4 [125] (Bx r2) with
     |some r3=>rw[h2] at h;cases h;exact Qx
     |none=>
      rw[h2] at h;simp only at h;cases h3:A4 [44] (Bx r2) with
      |none=>rw[h3] at h;cases h
      |some r3=>
       rw[h3] at h;have hr3:=Cl (A8 (Cl ZM) h3);exact ih _ _ _ _ hr3.B (by have:=hr3.le;omega) Qx h
theorem Ayh{l:Al}{ms:List (Al × JV)}(hl:Db l)(hs:l.length<=1000000)(h:Age 8 l=.ok ms):∀m∈ms,OkT l.length m.1/\OkT l.length m.2.2.1:=by
 rw[NS] at h;have h0:=Cl (El.self hl);cases h1:A4 [123] (Bx l) with
 |none=>rw[h1] at h;cases h
 |some r=>
  rw[h1] at h;have hr:=A8 h0 h1;simp only at h;rw[CW] at h;have ZM:=Cl hr;cases h2:A4 [125] (Bx r) with
  |some r'=>
   rw[h2] at h;simp only at h;split at h
   ·cases h;exact fun m hm=>by cases hm
   ·cases h
  |none=>
   rw[h2] at h;simp only at h;cases h3:Zl (Hn 8) true ((Bx r).length+1) [] (Bx r) with
   |error e=>rw[h3] at h;cases h
   |ok x=>
    obtain⟨ms',r'⟩:=x;rw[h3] at h;simp only at h;split at h
    ·cases h;exact Azb hs _ _ _ _ _ ZM.B ZM.le (fun m hm=>by cases hm) h3
    ·cases h
def Aaf(ms:List (Al × JV)):JR CD:=Lz (Dr Vi ms) (Dr DD ms) (Dr nmO ms) (Dr nmX ms) (Dr nmP ms)
def Nk(t:ByteArray):JR CD:=
 if 1024<t.size then .error 8 else if Lib.validD t.data.toList=false then .error 6 else match Age 8 (Dk t) with
  |.error e=>.error e
  |.ok ms=>Aaf ms
theorem A0d{G:Vt}{P:Program}{f:FuncId}{args vals:Ae}{us rs:List Value}(hs:C3 G P f args ⟨vals,[]⟩)(ha:Bw UT args us)(hr:Bw UT vals rs){w:World}(hG:G.ok w)(hGl:∀k,G.bl k->k<w.heap.size):Calls P f us.toArray w fun e w'=>e=.returned (Hm rs)/\Below w.heap.size w w':=by
 have hi:Ins w (fun _=>False) GC args us:=⟨fun _ h=>h.elim,fun _ h=>h.elim,fun k h=>absurd h (Nu k),fun i j i' j' b o o' h=>(by cases h),fun i q h=>(by cases h),KM ha⟩
 refine (hs.2 w _ _ _ hi hG (fun k hk=>⟨hGl k hk,Nu k⟩)).mono ?_
 rintro e w' ⟨ws,own,rfl,out⟩
 have hv:=TT hr out.vals;subst hv;exact⟨rfl,out.os,out.tape,out.output,out.ext.size,fun k hk=>out.ext.keep k hk (Nu k)⟩
theorem Ant(W:World)(s:Al)(hW:okW W)(hB:Db s)(hs:s.length<=1000000):Calls prog 157 #[.string (Ab s)] W fun e w'=>Below W.heap.size W w'/\∃o1 o2 o3,e=.returned (.tuple #[.agg #[.bool o1,.string o2,.int .i64 o3],.int .i64 (Fn s)]):=by
 obtain⟨o1,o2,o3,e⟩:=Bai (fu:=1000001) (d:=0) (p:=none) hB hs (by omega);have hsd:C3 gU prog 157 [Bm (Ab s)] ⟨[.agg ([Value.bool o1,.string o2,.int .i64 o3].map .sc),As (Fn s)],[]⟩:=Ju ngR mxR A7d 7 _ _ _ e;refine (A0d (us:=[.string (Ab s)]) (rs:=[.agg #[.bool o1,.string o2,.int .i64 o3],.int .i64 (Fn s)]) hsd ⟨.inl rfl,trivial⟩ ⟨.inr ⟨_,rfl,rfl⟩,.inl rfl,trivial⟩ hW.1 hW.2).mono ?_
 rintro e w' ⟨rfl,hb⟩
 exact⟨hb,o1,o2,o3,rfl⟩
theorem Ap0(W:World)(s:Al)(hW:okW W)(hB:Db s)(hs:s.length<=1000000):Calls prog 156 #[.string (Ab s)] W fun e w'=>Below W.heap.size W w'/\DbP W w' s e:=by
 have e:=A6z (fu:=1000001) (d:=0) (p:=none) hB hs (by omega) (by omega);have hi:Ins W (fun _=>False) GC [Bm (Ab s)] [.string (Ab s)]:=⟨fun _ h=>h.elim,fun _ h=>h.elim,fun k h=>absurd h (Nu k),fun i j i' j' b o o' h=>(by cases h),fun i q h=>(by cases h),KM (show Bw UT [Bm (Ab s)] [.string (Ab s)] from ⟨.inl rfl,trivial⟩)⟩
 have hsd:C3 gU prog 156 [Bm (Ab s)] _:=Ju ngR mxR A7d 3 _ _ _ e;refine (hsd.2 W _ _ _ hi hW.1 (fun k hk=>⟨hW.2 k hk,Nu k⟩)).mono ?_
 rintro e w' ⟨ws,own,rfl,out⟩
 refine⟨⟨out.os,out.tape,out.output,out.ext.size,fun k hk=>out.ext.keep k hk (Nu k)⟩,?_⟩;have hv:=out.vals;have XS:=out.fresh;generalize hA:Yo GC own (fun _=>False)=A at hv;unfold DbP;cases hd:To s with
 |none=>
  rw[hd] at hv
  match ws,hv with
  |[u1,u2],hv=>
   obtain⟨h1,h2,_⟩:=hv;have e2:u2=.int .i64 2:=Az.val (show Az w' A (As 2) u2 from h2);rcases (show Ij w' A (own 0) (.own 1 0 []) u1 from h1) with⟨_,_,_,ad,rfl⟩|⟨b,o,cap,ho,rfl,h⟩
   ·rw[e2];exact⟨ad,0,rfl⟩
   ·rw[e2];exact⟨_,cap,rfl⟩
  |[],hv=>exact hv.elim
  |[_],hv=>exact hv.2.elim
  |_::_::_::_,hv=>exact hv.2.2.elim
 |some b=>
  rw[hd] at hv
  match ws,hv with
  |[u1,u2],hv=>
   obtain⟨h1,h2,_⟩:=hv;have e2:u2=.int .i64 0:=Az.val (show Az w' A (As 0) u2 from h2);rw[e2];rcases (show Ij w' A (own 0) (.own 1 b.length (Af .u8 b)) u1 from h1) with⟨_,hn,_,ad,rfl⟩|⟨bb,o,cap,ho,rfl,hc,hf,Ci,hr,hz⟩
   ·have QZ:b=[]:=List.eq_nil_of_length_eq_zero hn;subst QZ;exact⟨ad,0,rfl,fun h=>absurd rfl h⟩
   ·refine⟨some ⟨bb,o,none⟩,cap,rfl,fun _=>⟨⟨bb,o,none⟩,rfl,hc,?_,rfl,Ci,fun j x hx=>?_⟩⟩
    ·have:=(XS 0 bb o ho).2;rcases Is bb W.heap.size with q|q
     ·obtain⟨⟨i,k,o',h⟩,_⟩:=this q;cases h
     ·exact q
    ·have hj:(Af .u8 b)[j]?=some (.sc (.int .u8 x)):=by
      rw[LG,List.getElem?_map,hx];rfl
     obtain⟨v,hv1,_,hv2⟩:=hr j _ hj;rw[hv1];exact congrArg some hv2.val
  |[],hv=>exact hv.elim
  |[_],hv=>exact hv.2.elim
  |_::_::_::_,hv=>exact hv.2.2.elim
def PaP(w w':World)(t:ByteArray)(e:Ending):Prop:=ItP w w' (Nk t) e
theorem Afk{R:Ending->World->Prop}{a:Act}{W:World}{v:Value}{b:Nat}(h2:a.tmps.getD 2 undef=.pointer (some ⟨b,0,none⟩))(hd:a.defers=[])(hl:(loadVar 86 ⟨b,0,none⟩).run prog W=.ok v W)(hR:R (.returned (.tuple #[v,a.tmps.getD 3 undef])) W):bodyPost prog Tryz.f79 R .ret a W:=by refine bodyPost_ret ?_ hd hR;rw[results_cell_tmp rfl,h2];have e:(asAddr (.pointer (some ⟨b,0,none⟩))).run prog W=.ok ⟨b,0,none⟩ W:=rfl;rw[e,Result.andThen_ok,hl,Result.andThen_ok]
def VsP(w w':World)(t:ByteArray)(e:Ending):Prop:=e=.returned (.bool (Lib.validD t.data.toList))/\Below w.heap.size w w'
def RtQ(w w':World)(t:ByteArray)(e:Ending):Prop:=Below w.heap.size w w'/\RtP w' (Dk t) e
def ItQ(w w':World)(r:JR CD)(e:Ending):Prop:=Below w.heap.size w w'/\ItP w w' r e
set_option maxHeartbeats 4000000 in
theorem Azo{t:ByteArray}(ht:t.size<=9223372036854775807){w:World}(hU:okW w):Calls prog 79 #[.string t] w fun e w'=>Below w.heap.size w w'/\PaP w w' t e:=by
 have mixed:prog.follows Departure.mixedOrders=true:=by kernel_rfl
 have Gj:Below w.heap.size w (w.alloc (.cells #[.int .i64 0,.slice none 0 0,.string ⟨#[]⟩,.bool false,.string ⟨#[]⟩] 86)):=(Below.refl _ w).alloc (Cd _) _;have hg1:=al1 w (.cells #[.int .i64 0,.slice none 0 0,.string ⟨#[]⟩,.bool false,.string ⟨#[]⟩] 86);have QS:(w.alloc (.cells #[.int .i64 0,.slice none 0 0,.string ⟨#[]⟩,.bool false,.string ⟨#[]⟩] 86)).heap.size=w.heap.size+1:=Array.size_push _;have WV:RC (w.alloc (.cells #[.int .i64 0,.slice none 0 0,.string ⟨#[]⟩,.bool false,.string ⟨#[]⟩] 86)) w.heap.size:=Awe hg1;have hU1:=hU.below Gj
 have hvc:Calls prog 124 #[.string t] (w.alloc (.cells #[.int .i64 0,.slice none 0 0,.string ⟨#[]⟩,.bool false,.string ⟨#[]⟩] 86)) fun e w'=>VsP (w.alloc (.cells #[.int .i64 0,.slice none 0 0,.string ⟨#[]⟩,.bool false,.string ⟨#[]⟩] 86)) w' t e:=(Any.utf8_ValidString laysVS t (w.alloc (.cells #[.int .i64 0,.slice none 0 0,.string ⟨#[]⟩,.bool false,.string ⟨#[]⟩] 86)) ht hU1.1.2.2).mono (fun _ _ h=>h)
 go_enter Tryz.func79,Tryz.ntmps79
 by_cases Ek:1024<t.size
 ·have hI:Nk t=.error 8:=by unfold Nk;rw[Ch Ek]
  have hq:(t.size:Int)>1024:=by omega
  go_wp2
  (try simp only[Exit.inBlock,Exit.then])
  obtain⟨⟨r0,r1,r2,r3,r4⟩,_⟩:=WV;exact Afk (b:=w.heap.size) rfl rfl (Abo r0 r1 r2 r3 r4) ⟨Gj,by unfold PaP;rw[hI];exact⟨by decide,rfl⟩⟩
 have hq:¬(t.size:Int)>1024:=by omega
 go_wp2_with (go_at_call 124;refine hvc.mono ?_)
 rintro e W2 ⟨rfl,Kw⟩
 have A0v:Below w.heap.size w W2:=Gj.trans (Kw.mono Gj.size);have ZM:=WV.below Kw (by rw[QS];omega)
 have HX:w.heap.size+1<=W2.heap.size:=by have:=Kw.size;rw[QS] at this;exact this
 have hw2:w.heap.size<W2.heap.size:=by omega
 have hU2:=hU.below A0v;cases hvd:Lib.validD t.data.toList with
 |false=>
  have hI:Nk t=.error 6:=by unfold Nk;rw[Br Ek,hvd,Ch rfl]
  obtain⟨⟨r0,r1,r2,r3,r4⟩,s0,s1,s2,s3,s4⟩:=id ZM
  go_wp2
  (try simp only[Exit.inBlock,Exit.then])
  exact Afk (b:=w.heap.size) rfl rfl (MG W2 w.heap.size _ _ _ _ _ ZM.some) ⟨Mq A0v (Cd _) _ _ _ _ _,by unfold PaP;rw[hI];exact⟨by decide,rfl⟩⟩
 |true=>
  have Zw:Nk t=match Age 8 (Dk t) with | .error e=>.error e | .ok ms=>Aaf ms:=by unfold Nk;rw[Br Ek,hvd,Br (by decide)]
  have hrt:Calls prog 125 #[.string t] W2 fun e w'=>RtQ W2 w' t e:=A0o (by omega) hU2.1 hU2.2
  go_wp2_with (go_at_call 125;refine hrt.mono ?_)
  rintro e W3 ⟨EP,hp3⟩
  have KY:Below w.heap.size w W3:=A0v.trans (EP.mono A0v.size);have hr3:=ZM.below EP hw2;have hw3:w.heap.size<W3.heap.size:=F4 hw2 EP.size;have hU3:=hU.below KY;unfold RtP at hp3;cases A3g:Age 8 (Dk t) with
  |error er=>
   rw[A3g] at hp3 Zw;obtain⟨he,m,rfl⟩:=hp3;have hbe:(er != (0:Int))=true:=by simp[he]
   obtain⟨⟨r0,r1,r2,r3,r4⟩,s0,s1,s2,s3,s4⟩:=id hr3
   go_wp2
   (try simp only[Exit.inBlock,Exit.then])
   exact Afk (b:=w.heap.size) rfl rfl (MG W3 w.heap.size _ _ _ _ _ hr3.some) ⟨Mq KY (Cd _) _ _ _ _ _,by unfold PaP;rw[Zw];exact⟨he,rfl⟩⟩
  |ok ms=>
   rw[A3g] at hp3 Zw;obtain⟨mb,rfl,hM3⟩:=hp3;have Kx:(Dk t).length<=1000000:=by rw[Cr];omega
   have hok:=Ayh (BM t) Kx A3g;have hl4:4*(Dk t).length<=1000000:=by rw[Cr];omega
   have Xd:Calls prog 126 #[.map (some mb)] W3 fun e w'=>ItQ W3 w' (Aaf ms) e:=A07 Ap0 Ant (fun m hm=>(hok m hm).1.1) (fun m hm=>⟨(hok m hm).2.1,by have:=(hok m hm).2.2;omega⟩) hU3 hM3
   go_wp2_with (go_at_call 126;refine Xd.mono ?_)
   rintro e W4 ⟨hb4,hp4⟩
   have QH:Below w.heap.size w W4:=KY.trans (hb4.mono KY.size);have hr4:=hr3.below hb4 hw3;have hw4:w.heap.size<W4.heap.size:=F4 hw3 hb4.size;unfold ItP at hp4;cases hmm:Aaf ms with
   |error er=>
    rw[hmm] at hp4 Zw;obtain⟨he,rfl⟩:=hp4;have hbe:(er != (0:Int))=true:=by simp[he]
    obtain⟨⟨r0,r1,r2,r3,r4⟩,s0,s1,s2,s3,s4⟩:=id hr4
    go_wp2
    (try simp only[Exit.inBlock,Exit.then])
    exact Afk (b:=w.heap.size) rfl rfl (Se W4 w.heap.size hw4 _ _ _ _ _ _ hr4) ⟨J3 QH (Cd _) QH.size _ _ _ _ _ _,by unfold PaP;rw[Zw];exact⟨he,rfl⟩⟩
   |ok x=>
    obtain⟨k,b,o,x,p⟩:=x;rw[hmm] at hp4 Zw;obtain⟨ad,cap,rfl,hc,hwa,hla⟩:=hp4;obtain⟨⟨r0,r1,r2,r3,r4⟩,s0,s1,s2,s3,s4⟩:=id hr4
    go_wp2
    (try simp only[Exit.inBlock,Exit.then])
    exact Afk (b:=w.heap.size) rfl rfl (Se W4 w.heap.size hw4 _ _ _ _ _ _ hr4) ⟨J3 QH (Cd _) QH.size _ _ _ _ _ _,by unfold PaP;rw[Zw];exact⟨ad,cap,rfl,hc,by omega,hla.set5al (by omega)⟩⟩
def Da(args:Ae):Option Bq:=
 match args with
 |[.sc (.string t)]=>bif decide (t.size<=9223372036854775807) then some (match Nk t with
  |.ok (k,b,o,x,p)=>⟨[.agg [As k,.lst false 1 b.length (Af .u8 b),Bm (Ab o),C5 x,Bm (Ab p)],As 0],[]⟩
  |.error e=>⟨[.agg [As 0,.lst false 1 0 [],Bm ⟨#[]⟩,C5 false,Bm ⟨#[]⟩],As e],[]⟩) else none
 |_=>none
theorem RV{w w':World}{Y:Nat->Prop}{bt:GI}{args vals:Ae}{vs:List Value}(hb:Below w.heap.size w w')(hv:Aa8 w' (Yo bt (fun _=>none) Y) (fun _=>none) w.heap.size 0 vals vs)(ho:Lg w' (Yo bt (fun _=>none) Y) (fun _=>none) bt (Om vals) 0 args []):
  Out w w' Y bt args (fun _=>none) ⟨vals,[]⟩ vs where
 os:=hb.os
 tape:=hb.tape
 output:=hb.output
 ext:=⟨hb.size,fun b h _=>hb.block b h,fun b h=>Fp.same (hb.block b h)⟩
 rng:=fun b j h _=>⟨by unfold World.cell?;simp only[hb.block b h],by unfold World.frozen?;simp only[hb.block b h]⟩
 vals:=hv
 outs:=ho
 fresh:=fun j b o h=>by cases h
 inj:=fun j j' b o o' h=>by cases h
theorem Ahw(args:Ae)(res:Bq)(h:Da args=some res):C3 gU prog 79 args res:=by
 refine⟨⟨_,Tryz.func79,by kernel_rfl⟩,fun w Y bt us hi hok hgl=>?_⟩;unfold Da at h;split at h
 rotate_left
 ·cases h
 rename_i t;cases hq:decide (t.size<=9223372036854775807)
 ·rw[hq] at h;cases h
 rw[hq,cond_true] at h;have hs:=of_decide_eq_true hq;have ps:=hi.args
 match us,ps with
 |[u],ps=>
  have hu:u=.string t:=Az.val (show Az w _ (Bm t) u from ps.1.2);subst hu;refine (Azo hs ⟨hok,fun k hk=>(hgl k hk).1⟩).mono ?_
  rintro e w' ⟨hb,hp⟩
  unfold PaP at hp;unfold ItP at hp;cases MS:Nk t with
  |error er=>
   rw[MS] at hp h;obtain⟨_,rfl⟩:=hp;cases h;refine⟨[.agg #[.int .i64 0,.slice none 0 0,.string ⟨#[]⟩,.bool false,.string ⟨#[]⟩],.int .i64 er],fun _=>none,rfl,RV hb ⟨⟨_,rfl,?_⟩,Az.sc _,trivial⟩ rfl⟩;exact⟨Az.sc _,Az.lnil _ _,Az.sc _,Az.sc _,Az.sc _,trivial⟩
  |ok x=>
   obtain⟨k,b,o,x,p⟩:=x;rw[MS] at hp h;obtain⟨ad,cap,rfl,hc,hwa,hla⟩:=hp;cases h;refine⟨[.agg #[.int .i64 k,.slice (some ad) b.length cap,.string (Ab o),.bool x,.string (Ab p)],.int .i64 0],fun _=>none,rfl,RV hb ⟨⟨_,rfl,?_⟩,Az.sc _,trivial⟩ rfl⟩;refine⟨Az.sc _,?_,Az.sc _,Az.sc _,Az.sc _,trivial⟩;refine Az.lst 1 b.length (Af .u8 b) ad cap (fun j=>.int .u8 (b.getD j 0)) hla.1 hla.2.1 ?_ hc ?_ ?_ ?_
   ·rintro (⟨j,o,h⟩|⟨i,o,h⟩|h)
    ·cases h
    ·have:=hi.lt ad.block ⟨i,0,o,h⟩;omega
    ·have:=hi.Ylt _ h;omega
   ·intro j c hj;rw[LG,List.getElem?_map] at hj;obtain⟨y,hy,rfl⟩:=Option.map_eq_some_iff.1 hj;rw[hla.2.2 j y hy];simp[List.getD_eq_getElem?_getD,hy]
   ·intro j c hj;rfl
   ·intro j c hj;rw[LG,List.getElem?_map] at hj;obtain⟨y,hy,rfl⟩:=Option.map_eq_some_iff.1 hj;have:b.getD j 0=y:=by simp[List.getD_eq_getElem?_getD,hy]
    rw[this];exact Az.sc _
 |[],ps=>exact ps.elim
 |_::_::_,ps=>exact ps.2.elim
abbrev C1:Iz:=CP (some Da)
abbrev WR:=Adb (some Da)
theorem extV:TG gU prog C1:=A2b (fun g h args res hg=>by cases h;exact Ahw args res hg)
end
section
variable {xs:FuncId->Option (Ae->Option Bq)}(fu d:Nat)(call:Ap)
theorem BW{p:Option (Ae->Option Bq)}(fu d:Nat)(Z:Int):Ac (CP p) prog fu (d+1) 57 [Z]=(fun (call:Ap)=>Ax (decide (Z>=0)) (Bh [C5 (decide (Z<=4))]) (Bh [false])) (Ac (CP p) prog fu d):=by kernel_rfl
def Hd(Z:Int)(Y:Nat)(X:Int)(W:Nat)(V U:Int)(T:Ae):Option Bq:=Kj fu call 100 Tryz.f100 [Ag Z] [.r,.r,.r,.l,.r,.l] Y ⟨lk [(0,Ag X),(3,.view 3 1 0 W),(4,V),(5,U)],Ct [(3,.ar false T)]⟩
theorem Mz(U:Int)(T:Nat)(V:Int)(Z:Nat)(Y X:Int)(W:Ae):Hd fu call U (T+1) V Z Y X W=(Ax (decide (X>=0)) (Aa (wrap .i64 (4*X)) fun a=>Aa (wrap .u64 a) fun a=>Ar (decide (0<=a))<|Aa (F3 .u64 V a) fun a=>Aa (Du .u64 a 15) fun a=>Aa (wrap .i64 a) fun a=>ZzA Z 1 8 W [a] fun b c=>Aa (wrap .i64 (15-a)) fun a=>Aa (wrap .i64 (Y+a)) fun a=>Aa (wrap .i64 (X-1)) fun e=>Hd fu call U T V b a e c) (Aa (wrap .i64 (Int.tdiv Y 16)) fun a=>Aa (Int.tmod Y 16) fun b=>Ar (decide (Z*1<=W.length)&&true&&decide ((Z+2)*8<=1099511627776)&&decide (Z+2<=1099511627776))<|Aa (Z+2) fun c=>Aa (List.take (Z*1) W++[As a,As b]) fun a=>Ar (decide (c*1<=a.length))<|Bh [.own 1 c (a.take (c*1))])):=by kernel_rfl
theorem DY{p:Option (Ae->Option Bq)}(fu d:Nat)(Z:Int):Ac (CP p) prog fu (d+1) 100 [Ag Z]=(fun (call:Ap)=>Hd fu call Z fu Z 0 0 15 ([])) (Ac (CP p) prog fu d):=by kernel_rfl
def Iy(Z Y:Int)(X W V:Int)(U:Nat)(T S:Int)(Q P O:Int):Option Bq:=Kj fu call 101 Tryz.f101 [Z,Y,X,W,Ag V] [.r,.l,.r,.l] U ⟨lk [(0,T),(1,S),(3,Q),(4,Ag P),(11,O)],Ct []⟩
theorem Pu(U T:Int)(S Q P:Int)(O:Nat)(X W:Int)(Z V Y:Int):Iy fu call U T S Q P (O+1) X W Z V Y=(Aa (if 15<Z then 15 else Z) fun a=>Ax (decide (Y<a)) (Aa (wrap .u64 X) fun a=>Aa (wrap .u64 W) fun b=>Aa (wrap .u64 Y) fun c=>D8 (call 62 [Am 1 4 [Ag a,Ag b,Ag c,Ag V]]) fun a b=>Lh 1 a fun a c=>Ak b<|Ar (decide (0+a*1<=c.length))<|Gs .u64 (call 69 [(1:Int),Am 1 a (List.take (a*1) (c.drop 0))]) fun a=>Aa (wrap .i64 (Y+1)) fun b=>Iy fu call U T S Q P O X W Z a b) (Bh [Ag V])):=by kernel_rfl
theorem LP{p:Option (Ae->Option Bq)}(fu d:Nat)(Y X:Int)(Z W V:Int):Ac (CP p) prog fu (d+1) 101 [Y,X,Z,W,Ag V]=(fun (call:Ap)=>Aa (if Z<0 then 0 else Z) fun a=>Iy fu call Y X Z W V fu Y X W V a) (Ac (CP p) prog fu d):=by kernel_rfl
theorem Z8{p:Option (Ae->Option Bq)}(fu d:Nat)(Z Y X:Int):Ac (CP p) prog fu (d+1) 111 [Ag Z,Y,X]=(fun (call:Ap)=>Aa (wrap .u64 Y) fun a=>Aa (wrap .u64 X) fun b=>D8 (call 62 [Am 1 2 [Ag a,Ag b]]) fun a b=>Lh 1 a fun a c=>Ak b<|Ar (decide (0+a*1<=c.length))<|Gs .u64 (call 63 [Ag Z,(1:Int),Am 1 a (List.take (a*1) (c.drop 0))]) fun a=>Bh [Ag a]) (Ac (CP p) prog fu d):=by kernel_rfl
theorem HH{p:Option (Ae->Option Bq)}(fu d:Nat)(Z:Int)(Y:Nat)(X:Ae):Ac (CP p) prog fu (d+1) 102 [Z,Am 1 Y X]=(fun (call:Ap)=>Aa (wrap .u64 Z) fun a=>D8 (call 62 [Am 1 1 [Ag a]]) fun a b=>Lh 1 a fun a c=>Ak b<|D8 (call 62 [Am 1 Y X]) fun b e=>Lh 1 b fun b f=>Ak e<|Ar (decide (0+b*1<=f.length))<|Ar (decide (a*1<=c.length)&&decide (List.length (List.take (b*1) (f.drop 0))=b*1)&&decide ((a+b)*1<=1099511627776)&&decide (a+b<=1099511627776))<|Aa (a+b) fun e=>Aa (List.take (a*1) c++List.take (b*1) (f.drop 0)) fun a=>Ar (decide (0+e*1<=a.length))<|Gs .u64 (call 69 [(2:Int),Am 1 e (List.take (e*1) (a.drop 0))]) fun a=>Bh [Ag a]) (Ac (CP p) prog fu d):=by kernel_rfl
def Hu(Z Y:Int)(X:Nat)(W V:Int)(U:Nat)(T:Int)(S:Ae):Option Bq:=Kj fu call 112 Tryz.f112 [Ag Z,Y] [.r,.r,.l,.r,.l] X ⟨lk [(0,Ag W),(1,V),(5,.view 5 1 0 U),(6,T)],Ct [(5,.ar false S)]⟩
theorem N4(U T:Int)(S:Nat)(V Z:Int)(Y:Nat)(X:Int)(W:Ae):Hu fu call U T (S+1) V Z Y X W=(Ax (decide (X<18)) (Gs .u64 (call 111 [Ag V,Z,X]) fun a=>Gs .u64 (call 101 [Z,X,(0:Int),(15:Int),Ag a]) fun a=>ZzA Y 1 8 W [Ag a] fun a b=>Aa (wrap .i64 (X+1)) fun c=>Hu fu call U T S V Z a c b) (Ar (decide (0+Y*1<=W.length))<|Gs .u64 (call 102 [Z,Am 1 Y (List.take (Y*1) (W.drop 0))]) fun a=>Bh [Ag a])):=by kernel_rfl
theorem HJ{p:Option (Ae->Option Bq)}(fu d:Nat)(Z Y:Int):Ac (CP p) prog fu (d+1) 112 [Ag Z,Y]=(fun (call:Ap)=>Hu fu call Z Y fu Z Y 0 0 ([])) (Ac (CP p) prog fu d):=by kernel_rfl
def F6(Z Y X:Int)(W:Nat)(V U:Int)(T S:Nat)(Q:Int)(P O:Ae):Option Bq:=Kj fu call 70 Tryz.f70 [Ag Z,Y,Ag X] [.r,.r,.r,.l,.r,.l] W ⟨lk [(0,Ag V),(1,U),(7,.view 7 1 0 T),(8,.view 8 1 0 S),(9,Q)],Ct [(7,.ar false P),(8,.ar false O)]⟩
theorem Ks(S Q P:Int)(O:Nat)(V X:Int)(U Y:Nat)(Z:Int)(T W:Ae):F6 fu call S Q P (O+1) V X U Y Z T W=(Ax (decide (Z<18)) (Ar (decide (0<=Z)&&decide (Z<(↑U:Int)))<|Bk .i64 (T.getD (0+Z.toNat*1) .top) fun a=>Gs .u64 (call 111 [Ag V,X,Z]) fun b=>Gs .u64 (call 101 [X,Z,(0:Int),a,Ag b]) fun a=>ZzA Y 1 8 W [Ag a] fun a b=>Aa (wrap .i64 (Z+1)) fun c=>F6 fu call S Q P O V X U a c T b) (Ar (decide (Y*1<=W.length))<|Bh [.own 1 Y (W.take (Y*1))])):=by kernel_rfl
theorem Yz{p:Option (Ae->Option Bq)}(fu d:Nat)(Z Y X:Int):Ac (CP p) prog fu (d+1) 70 [Ag Z,Y,Ag X]=(fun (call:Ap)=>D8 (call 100 [Ag X]) fun a b=>Lh 1 a fun a c=>Ak b<|F6 fu call Z Y X fu Z Y a 0 0 c ([])) (Ac (CP p) prog fu d):=by kernel_rfl
def Gg(Z Y:Int)(X:Nat)(W:Ae)(V:Nat)(U:Int)(T:Nat)(S:Ae)(Q P:Nat)(O:Int)(N M:Ae):Option Bq:=Kj fu call 58 Tryz.f58 [Z,Ag Y,Am 1 X W] [.r,.r,.r,.r,.l,.r,.l] V ⟨lk [(0,U),(2,Am 1 T S),(8,.view 8 1 0 Q),(9,.view 9 1 0 P),(10,O)],Ct [(8,.ar false N),(9,.ar false M)]⟩
theorem K1(Q P:Int)(O:Nat)(N:Ae)(M:Nat)(X:Int)(V:Nat)(U:Ae)(T Y:Nat)(Z:Int)(S W:Ae):Gg fu call Q P O N (M+1) X V U T Y Z S W=(Ax (decide (Z<18)) (Ar (decide (0<=Z)&&decide (Z<(↑T:Int)))<|Bk .i64 (S.getD (0+Z.toNat*1) .top) fun a=>Ar (decide (0<=Z)&&decide (Z<(↑V:Int)))<|Bk .u64 (U.getD (Z.toNat*1) .top) fun b=>Gs .u64 (call 101 [X,Z,a,(15:Int),Ag b]) fun a=>ZzA Y 1 8 W [Ag a] fun a b=>Aa (wrap .i64 (Z+1)) fun c=>Gg fu call Q P O N M X V U T a c S b) (Ar (decide (0+Y*1<=W.length))<|Gs .u64 (call 102 [X,Am 1 Y (List.take (Y*1) (W.drop 0))]) fun a=>Bh [Ag a,(0:Int)])):=by kernel_rfl
theorem Z3{p:Option (Ae->Option Bq)}(fu d:Nat)(Y X:Int)(Z:Nat)(W:Ae):Ac (CP p) prog fu (d+1) 58 [Y,Ag X,Am 1 Z W]=(fun (call:Ap)=>Ax ((↑Z:Int) != 18) (Bh [Ag 0,(4:Int)]) (D8 (call 100 [Ag X]) fun a b=>Lh 1 a fun a c=>Ak b<|Gg fu call Y X Z W fu Y Z W a 0 0 c ([]))) (Ac (CP p) prog fu d):=by kernel_rfl
theorem AX{p:Option (Ae->Option Bq)}(fu d:Nat)(Z Y X:Int):Ac (CP p) prog fu (d+1) 59 [Z,Ag Y,Ag X]=(fun (call:Ap)=>Aa (wrap .u64 Z) fun a=>D8 (call 62 [Am 1 3 [Ag a,Ag Y,Ag X]]) fun a b=>Lh 1 a fun a c=>Ak b<|Ar (decide (0+a*1<=c.length))<|Gs .u64 (call 69 [(3:Int),Am 1 a (List.take (a*1) (c.drop 0))]) fun a=>Bh [Ag a]) (Ac (CP p) prog fu d):=by kernel_rfl
theorem Tf{p:Option (Ae->Option Bq)}(fu d:Nat)(Y Z X:Int):Ac (CP p) prog fu (d+1) 71 [Ag Y,Z,X]=(fun (call:Ap)=>Ax (Z==0) (Gs .u64 (call 112 [Ag Y,X]) fun a=>Bh [Ag a]) (Aa (wrap .i64 (Z-1)) fun a=>Aa (wrap .i64 (2*X)) fun b=>Gs .u64 (call 71 [Ag Y,a,b]) fun a=>Aa (wrap .i64 (Z-1)) fun b=>Aa (wrap .i64 (2*X)) fun c=>Aa (wrap .i64 (c+1)) fun c=>Gs .u64 (call 71 [Ag Y,b,c]) fun b=>Gs .u64 (call 59 [Z,Ag a,Ag b]) fun a=>Bh [Ag a])) (Ac (CP p) prog fu d):=by kernel_rfl
theorem BJ{p:Option (Ae->Option Bq)}(fu d:Nat)(Y Z:Int):Ac (CP p) prog fu (d+1) 61 [Ag Y,Z]=(fun (call:Ap)=>D8 (call 57 [Z]) fun a b=>Bn a fun a=>Ak b<|Ax (!a) (Bh [.agg [(0:Int),Ag 0],(9:Int)]) (Gs .u64 (call 71 [Ag Y,Z,(0:Int)]) fun a=>Bh [.agg [Z,Ag a],(0:Int)])) (Ac (CP p) prog fu d):=by kernel_rfl
def Hx(Z Y:Int)(X W:Int)(V:Nat)(U T:Int)(S Q P:Int)(O N:Nat)(M L:Ae)(K:Int)(J I:Nat)(H G:Ae):Option Bq:=Kj fu call 37 Tryz.f37 [Ag Z,Y,X,Ag W] [.r,.r,.r,.l,.r,.l] V ⟨lk [(0,Ag U),(1,T),(2,S),(8,.ptr 8 0),(10,.ptr 10 0),(11,Q)],Ct [(8,.st [P,.view 112 1 0 O,.view 164 1 0 N]),(112,.ar false M),(164,.ar false L),(10,.st [K,.view 114 1 0 J,.view 166 1 0 I]),(114,.ar false H),(166,.ar false G)]⟩
theorem Ny(P O:Int)(N M:Int)(L:Nat)(U T:Int)(S Z K:Int)(J I:Nat)(H G:Ae)(Q:Int)(Y X:Nat)(W V:Ae):Hx fu call P O N M (L+1) U T S Z K J I H G Q Y X W V=(Ax (decide (Z<T)) (Aa (wrap .u64 Z) fun a=>Ar (decide (0<=a))<|Aa (F3 .i64 S a) fun a=>Aa (Ez .i64 a 1) fun a=>Gs .u64 (call 71 [Ag U,Z,a]) fun a=>ZzA X 1 8 V [Ag a] fun a b=>Aa (wrap .i64 (Z+1)) fun c=>Hx fu call P O N M L U T S c K J I H G Q Y a W b) (Ar (decide (Y*1<=W.length))<|Ar (decide (X*1<=V.length))<|Bh [.agg [Q,.own 1 Y (W.take (Y*1)),.own 1 X (V.take (X*1))],(0:Int)])):=by kernel_rfl
theorem HF{p:Option (Ae->Option Bq)}(fu d:Nat)(X Y:Int)(Z W:Int):Ac (CP p) prog fu (d+1) 37 [Ag X,Y,Z,Ag W]=(fun (call:Ap)=>D8 (call 57 [Y]) fun a b=>Bn a fun a=>Ak b<|Ax (!a) (Bh [.agg [(0:Int),.own 1 0 [],.own 1 0 []],(9:Int)]) (Ax (decide (Z<0)) (Bh [.agg [(0:Int),.own 1 0 [],.own 1 0 []],(9:Int)]) (Aa (wrap .u64 Y) fun a=>Ar (decide (0<=a))<|Aa (D9 .i64 1 a) fun a=>Ax (decide (Z>=a)) (Bh [.agg [(0:Int),.own 1 0 [],.own 1 0 []],(9:Int)]) (D8 (call 70 [Ag X,Z,Ag W]) fun a b=>Lh 1 a fun a c=>Ak b<|Hx fu call X Y Z W fu X Y Z 0 0 0 0 ([]) ([]) Z a 0 c ([]))))) (Ac (CP p) prog fu d):=by kernel_rfl
def Fj(Z Y:Int)(X W:Int)(V:Nat)(U:Ae)(T:Nat)(S:Ae)(Q:Nat)(P O:Int)(N M L:Int)(K:Nat)(J:Ae)(I:Nat)(H:Ae):Option Bq:=Kj fu call 25 Tryz.f25 [.agg [Z,Ag Y],Ag X,.agg [W,Am 1 V U,Am 1 T S]] [.r,.r,.r,.r,.l,.r,.l] Q ⟨lk [(3,.ptr 3 0),(5,.ptr 5 0),(7,Ag P),(9,O)],Ct [(3,.st [N,Ag M]),(5,.st [L,Am 1 K J,Am 1 I H])]⟩
theorem Md(S Q:Int)(P O:Int)(N:Nat)(M:Ae)(L:Nat)(K:Ae)(J:Nat)(W Z:Int)(V U T:Int)(I:Nat)(H:Ae)(Y:Nat)(X:Ae):Fj fu call S Q P O N M L K (J+1) W Z V U T I H Y X=(Ax (decide (Z<V)) (Aa (wrap .u64 Z) fun a=>Ar (decide (0<=a))<|Aa (F3 .i64 T a) fun a=>Aa (Du .i64 a 1) fun a=>Ax (a==0) (Aa (wrap .i64 (Z+1)) fun a=>Ar (decide (0<=Z)&&decide (Z<(↑Y:Int)))<|Bk .u64 (X.getD (Z.toNat*1) .top) fun b=>Gs .u64 (call 59 [a,Ag W,Ag b]) fun a=>Aa (wrap .i64 (Z+1)) fun b=>Fj fu call S Q P O N M L K J a b V U T I H Y X) (Aa (wrap .i64 (Z+1)) fun a=>Ar (decide (0<=Z)&&decide (Z<(↑Y:Int)))<|Bk .u64 (X.getD (Z.toNat*1) .top) fun b=>Gs .u64 (call 59 [a,Ag b,Ag W]) fun a=>Aa (wrap .i64 (Z+1)) fun b=>Fj fu call S Q P O N M L K J a b V U T I H Y X)) (Ax (W != U) (Bh [(15:Int)]) (Bh [(0:Int)]))):=by kernel_rfl
theorem CF{p:Option (Ae->Option Bq)}(fu d:Nat)(Z U:Int)(T Y:Int)(X:Nat)(W:Ae)(V:Nat)(S:Ae):Ac (CP p) prog fu (d+1) 25 [.agg [Z,Ag U],Ag T,.agg [Y,Am 1 X W,Am 1 V S]]=(fun (call:Ap)=>D8 (call 57 [Z]) fun a b=>Bn a fun a=>Ak b<|Ax (!a) (Bh [(9:Int)]) (Ax (decide (Y<0)) (Bh [(9:Int)]) (Aa (wrap .u64 Z) fun a=>Ar (decide (0<=a))<|Aa (D9 .i64 1 a) fun a=>Ax (decide (Y>=a)) (Bh [(9:Int)]) (Ax ((↑X:Int) != 18) (Bh [(4:Int)]) (Ax ((↑V:Int) != Z) (Bh [(4:Int)]) (D8 (call 58 [Y,Ag T,Am 1 X W]) fun a b=>Bk .u64 a fun a=>B8 .i64 b fun b=>Fj fu call Z U T Y X W V S fu a 0 Z U Y X W V S)))))) (Ac (CP p) prog fu d):=by kernel_rfl
theorem Xi{p:Option (Ae->Option Bq)}(fu d:Nat)(Z Y:Int):Ac (CP p) prog fu (d+1) 68 [.agg [Z,Ag Y]]=(fun (call:Ap)=>D8 (call 57 [Z]) fun a b=>Bn a fun a=>Ak b<|Ax (!a) (Bh [.own 1 0 [],(9:Int)]) (Aa (wrap .u8 Z) fun a=>D8 (call 62 [Am 1 1 [Ag Y]]) fun b c=>Lh 1 b fun b e=>Ak c<|Ar (decide (0+b*1<=e.length))<|Ar (decide (List.length (List.take (b*1) (e.drop 0))=b*1)&&decide ((1+b)*1<=1099511627776)&&decide (1+b<=1099511627776))<|Aa (1+b) fun c=>Aa ([.sc (.int .u8 a)]++List.take (b*1) (e.drop 0)) fun a=>Ar (decide (c*1<=a.length))<|Bh [.own 1 c (a.take (c*1)),(0:Int)])) (Ac (CP p) prog fu d):=by kernel_rfl
theorem Qa{p:Option (Ae->Option Bq)}(fu d:Nat)(Y:Int)(X:Nat)(W:Ae)(Z:Nat)(V:Ae):Ac (CP p) prog fu (d+1) 40 [.agg [Y,Am 1 X W,Am 1 Z V]]=(fun (call:Ap)=>Ax (decide ((↑Z:Int)>4)) (Bh [.own 1 0 [],(9:Int)]) (Ax (decide (Y<0)) (Bh [.own 1 0 [],(9:Int)]) (Aa (wrap .u64 (↑Z:Int)) fun a=>Ar (decide (0<=a))<|Aa (D9 .i64 1 a) fun a=>Ax (decide (Y>=a)) (Bh [.own 1 0 [],(9:Int)]) (Ax ((↑X:Int) != 18) (Bh [.own 1 0 [],(4:Int)]) (Aa (wrap .u8 Y) fun a=>Aa (wrap .u8 (↑Z:Int)) fun b=>D8 (call 62 [Am 1 X W]) fun c e=>Lh 1 c fun c f=>Ak e<|Ar (decide (0+c*1<=f.length))<|Ar (decide (List.length (List.take (c*1) (f.drop 0))=c*1)&&decide ((2+c)*1<=1099511627776)&&decide (2+c<=1099511627776))<|Aa (2+c) fun e=>Aa ([.sc (.int .u8 a),.sc (.int .u8 b)]++List.take (c*1) (f.drop 0)) fun a=>D8 (call 62 [Am 1 Z V]) fun b c=>Lh 1 b fun b f=>Ak c<|Ar (decide (0+b*1<=f.length))<|Ar (decide (e*1<=a.length)&&decide (List.length (List.take (b*1) (f.drop 0))=b*1)&&decide ((e+b)*1<=1099511627776)&&decide (e+b<=1099511627776))<|Aa (e+b) fun c=>Aa (List.take (e*1) a++List.take (b*1) (f.drop 0)) fun a=>Ar (decide (c*1<=a.length))<|Bh [.own 1 c (a.take (c*1)),(0:Int)]))))) (Ac (CP p) prog fu d):=by kernel_rfl
def H2(Z:Nat)(Y:Ae)(X W:Nat)(V:Ae)(U:Int)(T S:Nat)(Q P:Ae):Option Bq:=Kj fu call 24 Tryz.f24 [Am 1 Z Y] [.r] X ⟨lk [(0,Am 1 W V),(2,.ptr 2 0)],Ct [(2,.st [U,.view 162 1 0 T,.view 242 1 0 S]),(162,.ar false Q),(242,.ar false P)]⟩
def Dm(Z:Nat)(Y:Ae)(X W:Nat)(V:Ae)(U T:Int)(S Q:Nat)(P O:Ae)(N:Int)(M L:Nat)(K J:Ae):Option Bq:=Kj fu call 24 Tryz.f24 [Am 1 Z Y] [.r,.r,.r,.l,.r,.l] X ⟨lk [(0,Am 1 W V),(2,.ptr 2 0),(4,.ptr 4 0),(5,U)],Ct [(2,.st [T,.view 162 1 0 S,.view 242 1 0 Q]),(162,.ar false P),(242,.ar false O),(4,.st [N,.view 164 1 0 M,.view 244 1 0 L]),(164,.ar false K),(244,.ar false J)]⟩
theorem Mr(W:Nat)(V:Ae)(Z:Nat)(Hs:0<Z)(Y:Nat)(X:Ae)(U:Int)(T S:Nat)(Q P:Ae):H2 fu call W V Z Y X U T S Q P=(Ar (decide (0<(↑Y:Int)))<|Bk .u8 (X.getD 0 .top) fun a=>Aa (wrap .i64 a) fun a=>Dm fu call W V fu Y X 0 U T S Q P a 0 0 ([]) ([])):=by cases Z with|zero=>exact absurd Hs (Nat.lt_irrefl 0)|succ Z=>kernel_rfl
theorem Na(Q:Nat)(P:Ae)(O W:Nat)(V:Ae)(Z N:Int)(M L:Nat)(K J:Ae)(S:Int)(Y X:Nat)(U T:Ae):Dm fu call Q P (O+1) W V Z N M L K J S Y X U T=(Ar (decide (1<(↑W:Int)))<|Bk .u8 (V.getD 1 .top) fun a=>Aa (wrap .i64 a) fun a=>Aa (wrap .i64 (18+a)) fun a=>Ax (decide (Z<a)) (Aa (wrap .i64 (8*Z)) fun a=>Aa (wrap .i64 (2+a)) fun a=>Aa (wrap .i64 (8*Z)) fun b=>Aa (wrap .i64 (10+b)) fun b=>Ar (decide (0<=a))<|Ar (decide (0<=b))<|Ar (decide (a.toNat<=b.toNat)&&decide (b.toNat<=W))<|Aa (b.toNat-a.toNat) fun b=>Aa (List.take (b*1) (V.drop (a.toNat*1))) fun a=>Gs .u64 (call 56 [Am 1 b a]) fun a=>Ax (decide (Z<18)) (ZzA Y 1 8 U [Ag a] fun a b=>Aa (wrap .i64 (Z+1)) fun c=>Dm fu call Q P O W V c N M L K J S a X b T) (ZzA X 1 8 T [Ag a] fun a b=>Aa (wrap .i64 (Z+1)) fun c=>Dm fu call Q P O W V c N M L K J S Y a U b)) (Ar (decide (Y*1<=U.length))<|Ar (decide (X*1<=T.length))<|Bh [.agg [S,.own 1 Y (U.take (Y*1)),.own 1 X (T.take (X*1))],(0:Int)])):=by kernel_rfl
theorem Qt{p:Option (Ae->Option Bq)}(fu d Z:Nat)(Y:Ae):Ac (CP p) prog fu (d+1) 24 [Am 1 Z Y]=(fun (call:Ap)=>Ax (decide ((↑Z:Int)<2)) (Bh [.agg [(0:Int),.own 1 0 [],.own 1 0 []],(2:Int)]) (Ar (decide (1<(↑Z:Int)))<|Bk .u8 (Y.getD 1 .top) fun a=>Aa (wrap .i64 a) fun a=>Ax (decide (a>4)) (Bh [.agg [(0:Int),.own 1 0 [],.own 1 0 []],(2:Int)]) (Ar (decide (0<(↑Z:Int)))<|Bk .u8 (Y.getD 0 .top) fun a=>Aa (wrap .i64 a) fun a=>Ar (decide (1<(↑Z:Int)))<|Bk .u8 (Y.getD 1 .top) fun b=>Aa (wrap .u64 b) fun b=>Ar (decide (0<=b))<|Aa (D9 .i64 1 b) fun b=>Ax (decide (a>=b)) (Bh [.agg [(0:Int),.own 1 0 [],.own 1 0 []],(2:Int)]) (Ar (decide (1<(↑Z:Int)))<|Bk .u8 (Y.getD 1 .top) fun a=>Aa (wrap .i64 a) fun a=>Aa (wrap .i64 (18+a)) fun a=>Aa (wrap .i64 (8*a)) fun a=>Aa (wrap .i64 (2+a)) fun a=>Ax ((↑Z:Int) != a) (Bh [.agg [(0:Int),.own 1 0 [],.own 1 0 []],(2:Int)]) (H2 fu call Z Y fu Z Y 0 0 0 ([]) ([])))))) (Ac (CP p) prog fu d):=by kernel_rfl
def G0(Z Y X:Int)(W:Nat)(V U T:Int)(S:Nat)(Q:Int)(P:Ae):Option Bq:=Kj fu call 31 Tryz.f31 [Ag Z,Ag Y,X] [.r,.r,.r,.l,.r,.l] W ⟨lk [(0,Ag V),(1,Ag U),(2,T),(7,.view 7 1 0 S),(8,Q)],Ct [(7,.ar false P)]⟩
theorem H7(T S Q:Int)(P:Nat)(W V Y:Int)(Z:Nat)(U:Int)(X:Ae):G0 fu call T S Q (P+1) W V Y Z U X=(Ax (decide ((↑Z:Int)<Y)) (Aa (wrap .u64 U) fun a=>D8 (call 62 [Am 1 2 [Ag V,Ag a]]) fun a b=>Lh 1 a fun a c=>Ak b<|Ar (decide (0+a*1<=c.length))<|Gs .u64 (call 63 [Ag W,(5:Int),Am 1 a (List.take (a*1) (c.drop 0))]) fun a=>D8 (call 62 [Am 1 1 [Ag a]]) fun a b=>Lh 1 a fun a c=>Ak b<|Ar (decide (0+a*1<=c.length))<|Ar (decide (Z*1<=X.length)&&decide (List.length (List.take (a*1) (c.drop 0))=a*1)&&decide ((Z+a)*1<=1099511627776)&&decide (Z+a<=1099511627776))<|Aa (Z+a) fun b=>Aa (List.take (Z*1) X++List.take (a*1) (c.drop 0)) fun a=>Aa (wrap .i64 (U+1)) fun c=>G0 fu call T S Q P W V Y b c a) (Ar (decide (0<=Y))<|Ar (decide (Y.toNat<=Z))<|Aa (Y.toNat-0) fun a=>Ar (decide (a*1<=X.length))<|Bh [.own 1 a (X.take (a*1))])):=by kernel_rfl
theorem AV{p:Option (Ae->Option Bq)}(fu d:Nat)(Y X Z:Int):Ac (CP p) prog fu (d+1) 31 [Ag Y,Ag X,Z]=(fun (call:Ap)=>Aa (if Z<0 then 0 else Z) fun a=>Aa (if 1024<a then 1024 else a) fun a=>G0 fu call Y X Z fu Y X a 0 0 ([])) (Ac (CP p) prog fu d):=by kernel_rfl
end
section
variable {xs:FuncId->Option (Ae->Option Bq)}(fu d:Nat)(call:Ap)
def Do(Z:Nat)(Y:Ae)(X W:Nat)(V:Ae)(U:ByteArray)(T:Int):Option Bq:=Kj fu call 66 Tryz.f66 [Am 1 Z Y] [.r,.r,.l,.r,.l] X ⟨lk [(0,Am 1 W V),(3,U),(4,T)],Ct []⟩
def Cy(Z:Nat)(Y:Ae)(X W V:Nat)(U:Ae)(T:ByteArray)(S Q P:Int):Option Bq:=Kj fu call 66 Tryz.f66 [Am 1 Z Y] [.r,.r,.l,.r,.l,.i X,.r,.l,.l,.r,.r,.r,.r,.l] W ⟨lk [(0,Am 1 V U),(3,T),(4,S),(5,Ag Q),(6,P)],Ct []⟩
theorem F9(V:Nat)(U:Ae)(T Y:Nat)(X:Ae)(W:ByteArray)(Z:Int):Do fu call V U (T+1) Y X W Z=(Ax (decide (Z<(↑Y:Int))) (Ar (decide (0<=Z)&&decide (Z<(↑Y:Int)))<|Bk .u8 (X.getD (Z.toNat*1) .top) fun a=>Aa (wrap .u64 a) fun a=>Aa (D9 .u64 a 16) fun a=>Aa (wrap .i64 (Z+1)) fun b=>Ax (decide (b<(↑Y:Int))) (Aa (wrap .i64 (Z+1)) fun b=>Ar (decide (0<=b)&&decide (b<(↑Y:Int)))<|Bk .u8 (X.getD (b.toNat*1) .top) fun b=>Aa (wrap .u64 b) fun b=>Aa (D9 .u64 b 8) fun b=>Aa (Xf .u64 a b) fun a=>Aa (wrap .i64 (Z+2)) fun b=>Ax (decide (b<(↑Y:Int))) (Aa (wrap .i64 (Z+2)) fun b=>Ar (decide (0<=b)&&decide (b<(↑Y:Int)))<|Bk .u8 (X.getD (b.toNat*1) .top) fun b=>Aa (wrap .u64 b) fun b=>Aa (Xf .u64 a b) fun a=>Cy fu call V U T fu Y X W Z a 0) (Cy fu call V U T fu Y X W Z a 0)) (Aa (wrap .i64 (Z+2)) fun b=>Ax (decide (b<(↑Y:Int))) (Aa (wrap .i64 (Z+2)) fun b=>Ar (decide (0<=b)&&decide (b<(↑Y:Int)))<|Bk .u8 (X.getD (b.toNat*1) .top) fun b=>Aa (wrap .u64 b) fun b=>Aa (Xf .u64 a b) fun a=>Cy fu call V U T fu Y X W Z a 0) (Cy fu call V U T fu Y X W Z a 0))) (Bh [W])):=by kernel_rfl
theorem I4(V:Nat)(U:Ae)(T P Z:Nat)(S:Ae)(Y:ByteArray)(X Q W:Int):Cy fu call V U T (P+1) Z S Y X Q W=(Ax (decide (W<4)) (Aa (wrap .i64 ((↑Z:Int)-X)) fun a=>Ax (decide (W<=a)) (Aa (wrap .u64 W) fun a=>Aa (wrap .u64 (6*a)) fun a=>Aa (wrap .u64 (18-a)) fun a=>Ar (decide (0<=a))<|Aa (F3 .u64 Q a) fun a=>Aa (Du .u64 a 63) fun a=>Aa (wrap .u64 (a+1)) fun b=>Ar (decide (0<=a))<|Ar (decide (0<=b))<|Ar (decide (a.toNat<=b.toNat)&&decide (b.toNat<=64))<|Aa (ByteArray.extract (ByteArray.mk #[65,66,67,68,69,70,71,72,73,74,75,76,77,78,79,80,81,82,83,84,85,86,87,88,89,90,97,98,99,100,101,102,103,104,105,106,107,108,109,110,111,112,113,114,115,116,117,118,119,120,121,122,48,49,50,51,52,53,54,55,56,57,45,95]) a.toNat b.toNat) fun a=>Ar (decide (ByteArray.size Y+ByteArray.size a<=9223372036854775807))<|Aa (Y++a) fun a=>Aa (wrap .i64 (W+1)) fun b=>Cy fu call V U T P Z S a X Q b) (Aa (wrap .i64 (X+3)) fun a=>Do fu call V U T Z S Y a)) (Aa (wrap .i64 (X+3)) fun a=>Do fu call V U T Z S Y a)):=by kernel_rfl
theorem T7{p:Option (Ae->Option Bq)}(fu d Z:Nat)(Y:Ae):Ac (CP p) prog fu (d+1) 66 [Am 1 Z Y]=(fun (call:Ap)=>Do fu call Z Y fu Z Y (ByteArray.mk #[]) 0) (Ac (CP p) prog fu d):=by kernel_rfl
theorem Zk{p:Option (Ae->Option Bq)}(fu d:Nat)(Z:Int):Ac (CP p) prog fu (d+1) 64 [Z]=(fun (call:Ap)=>Ax (Z==1) (Bh [Bm ⟨#[112,97,115,115,107,101,121,46,99,114,101,97,116,101]⟩]) (Ax (Z==2) (Bh [Bm ⟨#[112,97,115,115,107,101,121,46,103,101,116]⟩]) (Bh [Bm ⟨#[]⟩]))) (Ac (CP p) prog fu d):=by kernel_rfl
theorem V8{p:Option (Ae->Option Bq)}(fu d:Nat)(Z:ByteArray):Ac (CP p) prog fu (d+1) 39 [Z]=(fun (call:Ap)=>Ar (decide (ByteArray.size Z<=1099511627776))<|Ar (decide (0+ByteArray.size Z*1<=List.length (D5 Z)))<|Gs .u64 (call 69 [(11:Int),Am 1 (ByteArray.size Z) (List.take (ByteArray.size Z*1) (List.drop 0 (D5 Z)))]) fun a=>Bh [Ag a]) (Ac (CP p) prog fu d):=by kernel_rfl
theorem KN{p:Option (Ae->Option Bq)}(fu d:Nat)(Z:ByteArray):Ac (CP p) prog fu (d+1) 51 [Z]=(fun (call:Ap)=>Ar (decide (ByteArray.size Z<=1099511627776))<|Ar (decide (0+ByteArray.size Z*1<=List.length (D5 Z)))<|Gs .u64 (call 86 [(11:Int),Am 1 (ByteArray.size Z) (List.take (ByteArray.size Z*1) (List.drop 0 (D5 Z)))]) fun a=>Bh [Ag a]) (Ac (CP p) prog fu d):=by kernel_rfl
end
theorem A33(a b:Nat)(ha:a<18446744073709551616)(hb:b<18446744073709551616):Du .u64 ((a:Nat):Int) ((b:Nat):Int)=((a &&& b:Nat):Int):=by
 have hx:a &&& b<2 ^ 64:=Nat.and_lt_two_pow _ (by omega)
 have h1:(BitVec.ofInt 64 (a:Int)).toNat=a:=by
  rw[BitVec.ofInt_natCast,BitVec.toNat_ofNat];exact Nat.mod_eq_of_lt (by omega)
 have h2:(BitVec.ofInt 64 (b:Int)).toNat=b:=by
  rw[BitVec.ofInt_natCast,BitVec.toNat_ofNat];exact Nat.mod_eq_of_lt (by omega)
 show IntKind.u64.wrap ((BitVec.ofInt 64 (a:Int) &&& BitVec.ofInt 64 (b:Int)).toNat:Int)=_;rw[BitVec.toNat_and,h1,h2];simp only[wrap,IntKind.bits,IntKind.signed,VO,Bool.false_eq_true,if_false];omega
theorem A4u{x:Int}(h0:0<=x)(h1:x<16777216):Du .u64 x 63=x % 64:=by obtain⟨n,rfl⟩:=Int.eq_ofNat_of_zero_le h0;have:=A33 n 63 (by omega) (by omega);refine this.trans ?_;rw[show (63:Nat)=2 ^ 6-1 by decide,Nat.and_two_pow_sub_one_eq_mod n 6];omega
theorem Bbi{x:Int}{k:Nat}(hk:k<=64):F3 .u64 x (k:Int)=x / ((2 ^ k:Nat):Int):=by
 show x.fdiv (2 ^ (min (k:Int).toNat IntKind.u64.bits))=_
 have:min (k:Int).toNat IntKind.u64.bits=k:=by
  rw[Iq];exact Nat.min_eq_left (by show k<=64;omega)
 rw[this];have e:(2:Int) ^ k=((2 ^ k:Nat):Int):=by simp
 rw[e,Int.fdiv_eq_ediv_of_nonneg _ (Int.natCast_nonneg _)]
theorem Aua:∀n:Fin 64,Acu.extract n.val (n.val+1)=Ab [Ot (n.val:Int)]:=by decide +kernel
theorem Pw(a b:Al):Ab a++Ab b=Ab (a++b):=by apply ByteArray.ext;rw[ByteArray.data_append];unfold Ab;simp
def qch(x:Int)(k:Nat):Int:=Ot (x / ((2 ^ (18-6*k):Nat):Int) % 64)
section
variable {fu d:Nat}{p:Option (Ae->Option Bq)}
theorem Alg{a0n:Nat}{a0:Ae}{m0:Nat}{y0:Nat}{y1:Ae}{i:Nat}{x:Int}(hx0:0<=x)(hx:x<16777216)(hi:i<y0)(hy:y0<=1000000)(m:Nat)(hm:m=min (y0-i) 3+1):∀(r k nn:Nat)(out:Al),k+r=m->r+1<=nn->out.length+r<=10000000 ->
  Cy fu (Ac (CP p) prog fu d) a0n a0 m0 nn y0 y1 (Ab out) (i:Int) x (k:Int)=Do fu (Ac (CP p) prog fu d) a0n a0 m0 y0 y1 (Ab (out++(List.range' k r).map (qch x))) ((i+3:Nat):Int)
 |0,k,nn,out,hkr,Hs,ho=>by
  obtain⟨q,rfl⟩:∃q,nn=q+1:=⟨nn-1,by omega⟩
  have a3:wrap .i64 ((i:Int)+3)=((i+3:Nat):Int):=Bl
  have e:out++(List.range' k 0).map (qch x)=out:=by simp
  rw[e,I4];by_cases h4:k<4
  ·have a1:=dT (q:=(k:Int)<4) (by omega);have a2:wrap .i64 ((y0:Int)-(i:Int))=(y0:Int)-(i:Int):=Bj;have a4:=dF (q:=(k:Int)<=(y0:Int)-(i:Int)) (by omega);simp only[Be,Bd,a1,a2,a4,a3]
  ·have a1:=dF (q:=(k:Int)<4) (by omega);simp only[Be,Bd,a1,a3]
 |r+1,k,nn,out,hkr,Hs,ho=>by
  obtain⟨q,rfl⟩:∃q,nn=q+1:=⟨nn-1,by omega⟩
  have Uv:k<4:=by omega
  have a1:=dT (q:=(k:Int)<4) (by omega);have a2:wrap .i64 ((y0:Int)-(i:Int))=(y0:Int)-(i:Int):=Bj;have a4:=dT (q:=(k:Int)<=(y0:Int)-(i:Int)) (by omega);have b1:wrap .u64 (k:Int)=(k:Int):=Ec;have b2:wrap .u64 (6*(k:Int))=6*(k:Int):=Ec;have b3:wrap .u64 (18-6*(k:Int))=((18-6*k:Nat):Int):=by rw[Ec];omega
  have b4:decide ((0:Int)<=((18-6*k:Nat):Int))=true:=by simp
  have b5:=Bbi (x:=x) (k:=18-6*k) (by omega);have hp:0<2 ^ (18-6*k):=Nat.pow_pos (by omega);have Qz:0<=x / ((2 ^ (18-6*k):Nat):Int):=Int.ediv_nonneg hx0 (Int.natCast_nonneg _)
  have hd1:x / ((2 ^ (18-6*k):Nat):Int)<16777216:=by
   have:=Int.ediv_le_self ((2 ^ (18-6*k):Nat):Int) hx0;omega
  have b6:=A4u Qz hd1;generalize hv:x / ((2 ^ (18-6*k):Nat):Int) % 64=v at b6;have hv0:0<=v:=by omega
  have hv1:v<64:=by omega
  have b7:wrap .u64 (v+1)=v+1:=Ec;have b8:=dT (q:=(0:Int)<=v) hv0;have b9:=dT (q:=(0:Int)<=v+1) (by omega);have c1:decide (Int.toNat v<=Int.toNat (v+1))=true:=dT (by omega);have c2:decide (Int.toNat (v+1)<=64)=true:=dT (by omega)
  have c3:Acu.extract (Int.toNat v) (Int.toNat (v+1))=Ab [qch x k]:=by
   have:=Aua ⟨Int.toNat v,by omega⟩;rw[show Int.toNat (v+1)=Int.toNat v+1 by omega];refine this.trans ?_;unfold qch;rw[hv]
   congr 3
   show ((Int.toNat v:Nat):Int)=v;omega
  have c4:decide ((Ab out).size+(Ab [qch x k]).size<=9223372036854775807)=true:=dT (by rw[Ai,Ai];simp;omega)
  have c5:wrap .i64 ((k:Int)+1)=((k+1:Nat):Int):=Bl
  have ih:=Alg (a0n:=a0n) (a0:=a0) (m0:=m0) (y1:=y1) hx0 hx hi hy m hm r (k+1) q (out++[qch x k]) (by omega) (by omega) (by simp;omega)
  have e:out++(List.range' k (r+1)).map (qch x)=(out++[qch x k])++(List.range' (k+1) r).map (qch x):=by
   rw[List.range'_succ];simp
  have ea:(ByteArray.mk #[65,66,67,68,69,70,71,72,73,74,75,76,77,78,79,80,81,82,83,84,85,86,87,88,89,90,97,98,99,100,101,102,103,104,105,106,107,108,109,110,111,112,113,114,115,116,117,118,119,120,121,122,48,49,50,51,52,53,54,55,56,57,45,95])=Acu:=rfl;rw[e,I4,ea];simp only[Be,Bd,a1,a2,a4,b1,b2,b3,b4,b5,b6,b7,b8,b9,c1,c2,c3,c4,Pw,c5];exact ih
theorem Aii{a b c:Int}(h:Db [a,b,c])(m:Nat)(hm:m<=4):(List.range' 0 m).map (qch (a*65536+b*256+c))=(KC a b c).take m:=by
 obtain⟨ha,h⟩:=D6 h;obtain⟨hb,h⟩:=D6 h;obtain⟨hc,h⟩:=D6 h;have e0:qch (a*65536+b*256+c) 0=Ot (a / 4):=by unfold qch;congr 1;simp;omega
 have e1:qch (a*65536+b*256+c) 1=Ot (a % 4*16+b / 16):=by unfold qch;congr 1;simp;omega
 have e2:qch (a*65536+b*256+c) 2=Ot (b % 16*4+c / 64):=by unfold qch;congr 1;simp;omega
 have e3:qch (a*65536+b*256+c) 3=Ot (c % 64):=by unfold qch;congr 1;simp;omega
 match m,hm with
 |0,_=>rfl
 |1,_=>simp[List.range',KC,e0]
 |2,_=>simp[List.range',KC,e0,e1]
 |3,_=>simp[List.range',KC,e0,e1,e2]
 |4,_=>simp[List.range',KC,e0,e1,e2,e3]
theorem Bb2{a b:Int}(ha:0<=a/\a<=255)(hb:0<=b/\b<=255):Xf .u64 (a*65536) (b*256)=a*65536+b*256:=by
 obtain⟨a,rfl⟩:=Int.eq_ofNat_of_zero_le ha.1;have:=(JN (a:=b*256) (c:=(a:Int)*65536) 16 a (by omega) (by simp;omega) (by simp) (by omega)).2
 rw[this];omega
theorem Bfv{y c:Int}(hy:0<=y/\y<=65535)(hc:0<=c/\c<=255):Xf .u64 (y*256) c=y*256+c:=by
 obtain⟨y,rfl⟩:=Int.eq_ofNat_of_zero_le hy.1;have:=(JN (a:=c) (c:=(y:Int)*256) 8 y (by omega) (by simp;omega) (by simp) (by omega)).2
 rw[this];omega
theorem A0e{a0n:Nat}{a0:Ae}{l:Al}(hB:Db l)(hl:l.length<=100000)(Bv:10<=fu):∀(q:Nat)(r:Al)(i nn:Nat)(out:Al),l.drop i=r->i<=l.length+3->r.length<=q->q+1<=nn->out.length+4*r.length<=1000000 ->
  Do fu (Ac (CP p) prog fu d) a0n a0 nn l.length (Af .u8 l) (Ab out) (i:Int)=some ⟨[Bm (Ab (out++J9 r))],[]⟩:=by
 intro q
 induction q with
 |zero=>
  intro r i nn out hd hi3 hq Hs ho;have hr:r=[]:=List.eq_nil_of_length_eq_zero (by omega);subst hr;obtain⟨k,rfl⟩:∃k,nn=k+1:=⟨nn-1,by omega⟩
  have hi:=drop_nil hd;have a1:=dF (q:=(i:Int)<(l.length:Int)) (by omega);rw[F9];simp only[Be,Bd,a1,J9,List.append_nil]
 |succ q ih=>
  intro r i nn out hd hi3 hq Hs ho;obtain⟨k,rfl⟩:∃k,nn=k+1:=⟨nn-1,by omega⟩
  cases r with
  |nil=>
   have hi:=drop_nil hd;have a1:=dF (q:=(i:Int)<(l.length:Int)) (by omega);rw[F9];simp only[Be,Bd,a1,J9,List.append_nil]
  |cons a r1=>
   obtain⟨hi,ha,hd1⟩:=Dx hd;have haB:=hB a (List.mem_of_getElem? ha);have Ek:=congrArg List.length hd;rw[List.length_drop] at Ek;have a1:=dT (q:=(i:Int)<(l.length:Int)) (by omega);have a2:decide ((0:Int)<=(i:Int))=true:=by simp
   have a3:List.getD (Af .u8 l) (Int.toNat (i:Int)*1) PV.top=.sc (.int .u8 a):=by rw[Iq,Jc];exact R6 ha
   have a4:wrap .u64 a=a:=Ec
   have a5:D9 .u64 a 16=a*65536:=by
    have:=RN (a:=a) (k:=16) haB.1 (by omega) (by omega) (by simp;omega)
    rw[this];simp
   have a6:wrap .i64 ((i:Int)+1)=((i+1:Nat):Int):=Bl
   have a7:wrap .i64 ((i:Int)+2)=((i+2:Nat):Int):=Bl
   have b2:decide ((0:Int)<=((i+1:Nat):Int))=true:=dT (by omega);have b3:decide ((0:Int)<=((i+2:Nat):Int))=true:=dT (by omega);rw[F9];cases r1 with
   |nil=>
    simp only[Tt,YX] at Ek;have b1:=dF (q:=((i+1:Nat):Int)<(l.length:Int)) (by omega);have c1:=dF (q:=((i+2:Nat):Int)<(l.length:Int)) (by omega);have Xd:=Alg (fu:=fu) (d:=d) (p:=p) (a0n:=a0n) (a0:=a0) (m0:=k) (y0:=l.length) (y1:=Af .u8 l) (i:=i) (x:=a*65536) (by omega) (by omega) hi (by omega) 2 (by omega) 2 0 fu out rfl (by omega) (by simp at ho;omega)
    have N9:=Aii (a:=a) (b:=0) (c:=0) (fun x hx=>by simp at hx;rcases hx with rfl|rfl<;>omega) 2 (by omega)
    rw[show a*65536+0*256+0=a*65536 by omega] at N9;rw[N9] at Xd;have hr:=ih [] (i+3) k (out++(KC a 0 0).take 2) (List.drop_eq_nil_of_le (by omega)) (by omega) (by simp) (by omega) (by simp[KC] at ho ⊢;omega)
    simp only[Be,Bd,a1,a2,a3,a4,a5,a6,a7,b1,c1];refine Xd.trans (hr.trans ?_);simp[J9,KC]
   |cons b r2=>
    obtain⟨hi1,hb,Uc⟩:=Dx hd1;have hbB:=hB b (List.mem_of_getElem? hb);have b1:=dT (q:=((i+1:Nat):Int)<(l.length:Int)) (by omega);have b4:List.getD (Af .u8 l) (Int.toNat ((i+1:Nat):Int)*1) PV.top=.sc (.int .u8 b):=by rw[Iq,Jc];exact R6 hb
    have b5:wrap .u64 b=b:=Ec
    have b6:D9 .u64 b 8=b*256:=by
     have:=RN (a:=b) (k:=8) hbB.1 (by omega) (by omega) (by simp;omega)
     rw[this];simp
    have b7:=Bb2 haB hbB;cases r2 with
    |nil=>
     simp only[Tt,YX] at Ek;have c1:=dF (q:=((i+2:Nat):Int)<(l.length:Int)) (by omega);have Xd:=Alg (fu:=fu) (d:=d) (p:=p) (a0n:=a0n) (a0:=a0) (m0:=k) (y0:=l.length) (y1:=Af .u8 l) (i:=i) (x:=a*65536+b*256) (by omega) (by omega) hi (by omega) 3 (by omega) 3 0 fu out rfl (by omega) (by simp at ho;omega)
     have N9:=Aii (a:=a) (b:=b) (c:=0) (fun x hx=>by simp at hx;rcases hx with rfl|rfl|rfl<;>omega) 3 (by omega)
     rw[show a*65536+b*256+0=a*65536+b*256 by omega] at N9;rw[N9] at Xd;have hr:=ih [] (i+3) k (out++(KC a b 0).take 3) (List.drop_eq_nil_of_le (by omega)) (by omega) (by simp) (by omega) (by simp[KC] at ho ⊢;omega)
     simp only[Be,Bd,a1,a2,a3,a4,a5,a6,a7,b1,b2,b4,b5,b6,b7,c1];refine Xd.trans (hr.trans ?_);simp[J9,KC]
    |cons c t=>
     obtain⟨hi2,hc,hd3⟩:=Dx Uc;have QV:=hB c (List.mem_of_getElem? hc);simp only[Tt] at Ek;have c1:=dT (q:=((i+2:Nat):Int)<(l.length:Int)) (by omega);have c2:List.getD (Af .u8 l) (Int.toNat ((i+2:Nat):Int)*1) PV.top=.sc (.int .u8 c):=by rw[Iq,Jc];exact R6 hc
     have c3:wrap .u64 c=c:=Ec
     have c4:Xf .u64 (a*65536+b*256) c=a*65536+b*256+c:=by
      have:=Bfv (y:=a*256+b) (c:=c) (by omega) QV;rw[show (a*256+b)*256=a*65536+b*256 by omega] at this;exact this
     have Xd:=Alg (fu:=fu) (d:=d) (p:=p) (a0n:=a0n) (a0:=a0) (m0:=k) (y0:=l.length) (y1:=Af .u8 l) (i:=i) (x:=a*65536+b*256+c) (by omega) (by omega) hi (by omega) 4 (by omega) 4 0 fu out rfl (by omega) (by simp at ho;omega)
     have N9:=Aii (a:=a) (b:=b) (c:=c) (fun x hx=>by simp at hx;rcases hx with rfl|rfl|rfl<;>omega) 4 (by omega)
     rw[N9] at Xd;have hr:=ih t (i+3) k (out++(KC a b c).take 4) hd3 (by omega) (by simp at hq;omega) (by omega) (by simp[KC] at ho ⊢;omega)
     simp only[Be,Bd,a1,a2,a3,a4,a5,a6,a7,b1,b2,b4,b5,b6,b7,b3,c1,c2,c3,c4];refine Xd.trans (hr.trans ?_);simp[J9,KC]
theorem Axq{l:Al}(hB:Db l)(hl:l.length<=100000)(Bv:10<=fu)(MH:l.length+1<=fu):Ac (CP p) prog fu (d+1) 66 [.lst false 1 l.length (Af .u8 l)]=some ⟨[Bm (Ab (J9 l))],[]⟩:=by
 rw[T7];have:=A0e (fu:=fu) (d:=d) (p:=p) (a0n:=l.length) (a0:=Af .u8 l) hB hl Bv l.length l 0 fu [] rfl (by omega) (Cd _) MH (by simp;omega)
 exact this
end
section
variable {xs:FuncId->Option (Ae->Option Bq)}(fu d:Nat)(call:Ap)
theorem KZ{p:Option (Ae->Option Bq)}(fu d Z:Nat)(Y:Ae):Ac (CP p) prog fu (d+1) 7 [Am 1 Z Y]=(fun (call:Ap)=>Bh [.pbox [Am 1 Z Y,(0:Int)]]) (Ac (CP p) prog fu d):=by kernel_rfl
theorem JC{p:Option (Ae->Option Bq)}(fu d:Nat)(Z Y:Int):Ac (CP p) prog fu (d+1) 20 [Z,Y]=(fun (call:Ap)=>Aa (wrap .u64 Z) fun a=>Aa (wrap .u64 Y) fun b=>Ar (decide (b≠0))<|Aa (Int.tmod a b) fun a=>Aa (wrap .i64 a) fun a=>Bh [a]) (Ac (CP p) prog fu d):=by kernel_rfl
theorem V7{p:Option (Ae->Option Bq)}(fu d Z:Nat)(X:Ae)(Y:Int):Ac (CP p) prog fu (d+1) 22 [.pbox [Am 1 Z X,Y]]=(fun (call:Ap)=>some ⟨[C5 (decide (Y<(↑Z:Int)))],[[Am 1 Z X,Y]]⟩) (Ac (CP p) prog fu d):=by kernel_rfl
theorem Ia{p:Option (Ae->Option Bq)}(fu d Z:Nat)(Y:Ae)(X W:Int):Ac (CP p) prog fu (d+1) 10 [.pbox [Am 1 Z Y,X],W]=(fun (call:Ap)=>Ax (decide (X>=(↑Z:Int))) (some ⟨[(0:Int)],[[Am 1 Z Y,X]]⟩) (Aa (wrap .i64 (X+1)) fun a=>Aa (wrap .i64 (a-1)) fun b=>Ar (decide (0<=b)&&decide (b<(↑Z:Int)))<|Bk .i64 (Y.getD (b.toNat*1) .top) fun b=>Gs .i64 (call 20 [b,W]) fun b=>some ⟨[b],[[Am 1 Z Y,a]]⟩)) (Ac (CP p) prog fu d):=by kernel_rfl
end
section
variable {xs:FuncId->Option (Ae->Option Bq)}(fu d:Nat)(call:Ap)
theorem DX{p:Option (Ae->Option Bq)}(fu d:Nat)(Y Z:Int):Ac (CP p) prog fu (d+1) 9 [Y,Z]=(fun (call:Ap)=>Aa (wrap .u64 Y) fun a=>Aa (wrap .u64 (a+1)) fun a=>Aa (if 1024<Z then 1024 else Z) fun b=>Aa (if b<0 then 0 else b) fun b=>D8 (call 31 [Ag a,Ag 7,b]) fun a b=>Lh 1 a fun a c=>Ak b<|Ar (decide (a*1<=c.length))<|Bh [.own 1 a (c.take (a*1))]) (Ac (CP p) prog fu d):=by kernel_rfl
end
abbrev HW(l:Al)(a:Nat):Ae:=[.lst false 1 l.length (Af .i64 l),As (a:Int)]
section
variable {fu d:Nat}{p:Option (Ae->Option Bq)}
theorem A9c{l:Al}:Ac (CP p) prog fu (d+1) 7 [.lst false 1 l.length (Af .i64 l)]=some ⟨[.pbox (HW l 0)],[]⟩:=by rw[KZ];rfl
theorem A8l(v n:Int)(hn:0<n)(hm:n<=9223372036854775807):∃r,0<=r/\r<n/\∀{fu d:Nat}{p:Option (Ae->Option Bq)},Ac (CP p) prog fu (d+1) 20 [As v,As n]=some ⟨[As r],[]⟩:=by have h1:=Su v;have h2:wrap .u64 n=n:=Ec;have h3:0<=Int.tmod (wrap .u64 v) n:=Int.tmod_nonneg _ h1.1;have h4:Int.tmod (wrap .u64 v) n<n:=Int.tmod_lt_of_pos _ hn;refine⟨_,h3,h4,fun {fu d p}=>?_⟩;rw[JC];simp only[Gw,h2];rw[Ac8 _ _ (by omega),Bj]
theorem Ko{l:Al}(hl:l.length<=maxLen)(a:Nat)(n:Int)(hn:0<n)(hm:n<=9223372036854775807):∃(v:Int)(a':Nat),0<=v/\v<n /\
  ∀{fu d:Nat} {p:Option (Ae->Option Bq)},Ac (CP p) prog fu (d+2) 10 [.pbox (HW l a),As n]=some ⟨[As v],[HW l a']⟩:=by
 simp only[maxLen] at hl;by_cases h:a<l.length
 ·obtain⟨r,h1,h2,h3⟩:=A8l l[a] n hn hm;refine⟨r,a+1,h1,h2,fun {fu d p}=>?_⟩;rw[Ia]
  have hg:(Af .i64 l).getD (Int.toNat ((a:Int)+1-1)*1) .top=As l[a]:=by
   have:=R6 (k:=.i64) (List.getElem?_eq_getElem h);rw[show Int.toNat ((a:Int)+1-1)*1=a by omega];exact this
  simp(disch:=omega)only[Be,Bd,wrap_i64,hg,h3];rfl
 ·refine⟨0,a,by omega,hn,fun {fu d p}=>?_⟩;rw[Ia];simp(disch:=omega)only[Be,Bd]
end
section
variable {fu d:Nat}{p:Option (Ae->Option Bq)}
theorem Bg8(Bv:1000<=fu)(w:Int):Ac (CP p) prog fu (d+1) 62 [.lst false 1 1 [Ag w]]=some ⟨[.own 1 8 (Af .u8 (B5 w))],[]⟩:=by
 have:=Kk (xs:=Adb p) (fu:=fu) (d:=d) (ws:=[w]) (by simp) (by omega) (by simp;omega)
 simp only[A6,J4,List.flatMap_nil,List.append_nil,Tt,YX,C8] at this;exact this
theorem Azu(Bv:1000<=fu){a0 a1 a2:Int}{key nonce:Int}{n:Nat}(hn:n<=1024):∀(k nn:Nat)(i:Int)(l:Al),n<=l.length+8*k->k<nn->Db l->l.length<=2000 ->
  0<=i->i+k<=100000->∃r,Db r/\r.length=n/\G0 fu (Ac (CP p) prog fu (d+4)) a0 a1 a2 nn key nonce (n:Int) l.length i (Af .u8 l)=some ⟨[.own 1 n (Af .u8 r)],[]⟩:=by
 intro k
 induction k with
 |zero=>
  intro nn i l h1 h2 hb hl i0 i1;obtain⟨m,rfl⟩:∃m,nn=m+1:=⟨nn-1,by omega⟩
  refine⟨l.take n,hb.take n,by rw[List.length_take];omega,?_⟩
  have L:=An .u8 l;have nt:Int.toNat (n:Int)=n:=Iq _;rw[H7]
  repeat(with_reducible(first|apply A9|apply Au|apply Bb|apply K3|apply At|apply Ba|apply Gn);· first|constructor|(simp(disch:=omega)only[Gp,L,nt,Nat.sub_zero,Jc,G8]<;>first|constructor|omega)|omega)
  try simp(disch:=omega)only[Aa,L,nt,Nat.sub_zero,Jc,G8]
 |succ k ih=>
  intro nn i l h1 h2 hb hl i0 i1;obtain⟨m,rfl⟩:∃m,nn=m+1:=⟨nn-1,by omega⟩
  have L:=An .u8 l;have nt:Int.toNat (n:Int)=n:=Iq _;by_cases Ci:l.length<n
  rotate_left
  ·refine⟨l.take n,hb.take n,by rw[List.length_take];omega,?_⟩
   rw[H7]
   repeat(with_reducible(first|apply A9|apply Au|apply Bb|apply K3|apply At|apply Ba|apply Gn);· first|constructor|(simp(disch:=omega)only[Gp,L,nt,Nat.sub_zero,Jc,G8]<;>first|constructor|omega)|omega)
   try simp(disch:=omega)only[Aa,L,nt,Nat.sub_zero,Jc,G8]
  have w1:wrap .u64 i=i:=Ec;have w2:wrap .i64 (i+1)=i+1:=Bj;have wd:Ac (CP p) prog fu (d+4) 62 [.lst false 1 2 [Ag nonce,Ag i]]=some ⟨[.own 1 (A6 [nonce,i]).length (Af .u8 (A6 [nonce,i]))],[]⟩:=Kk (xs:=Adb p) (ws:=[nonce,i]) (by simp) (by omega) (by simp;omega)
  have mc:=Amu (xs:=Adb p) (fu:=fu) (d:=d) (l:=A6 [nonce,i]) (V5 _) (by rw[E0];simp) (by omega) (by rw[E0];simp;omega) key 5
  have L2:=An .u8 (A6 [nonce,i]);have t2:=LY .u8 (A6 [nonce,i]);generalize Ayi key 5 (A6 [nonce,i])=q at mc;have ow:=Bg8 (fu:=fu) (d:=d+3) (p:=p) Bv q;have Lq:(Af .u8 (B5 q)).length=8:=by rw[An,C8]
  have tq:List.take 8 (Af .u8 (B5 q))=Af .u8 (B5 q):=Iu (by omega);have tl:=LY .u8 l;have ea:Af .u8 l++Af .u8 (B5 q)=Af .u8 (l++B5 q):=by rw[Af,Af,Af,List.flatMap_append]
  obtain⟨r,r1,r2,r3⟩:=ih m (i+1) (l++B5 q) (by rw[Vk,C8];omega) (by omega) (Sw hb (KH q)) (by rw[Vk,C8];omega) (by omega) (by omega)
  refine⟨r,r1,r2,?_⟩;rw[Vk,C8] at r3;rw[<-r3,H7];generalize A6 [nonce,i]=W at *
  generalize W.length=wn at *
  repeat(with_reducible(first|apply A9|apply Au|apply Bb|apply K3|apply At|apply Ba|apply Gn);· first|constructor|(simp(disch:=omega)only[Gp,w1,w2,wd,Ls,Ir,Jc,L,L2,t2,mc,ow,Lq,tq,tl,ea]<;>first|constructor|omega)|omega)
  try simp(disch:=omega)only[Aa,w1,w2,wd,Ls,Ir,Jc,L,L2,t2,mc,ow,Lq,tq,tl,ea]
  all_goals rfl
theorem Abm(Bv:1000<=fu)(seed:Int){n:Nat}(hn:n<=1024):∃r,Db r/\r.length=n/\Ac (CP p) prog fu (d+6) 9 [As seed,As n]=some ⟨[.own 1 n (Af .u8 r)],[]⟩:=by
 obtain⟨r,r1,r2,r3⟩:=Azu (fu:=fu) (d:=d) (p:=p) Bv (a0:=wrap .u64 (wrap .u64 seed+1)) (a1:=7) (a2:=n) (key:=wrap .u64 (wrap .u64 seed+1)) (nonce:=7) hn 128 fu 0 [] (by omega) (by omega) (by intro x hx;cases hx) (by simp) (by omega) (by omega)
 refine⟨r,r1,r2,?_⟩
 have e:Ac (CP p) prog fu (d+5) 31 [Ag (wrap .u64 (wrap .u64 seed+1)),Ag 7,As n]=some ⟨[.own 1 n (Af .u8 r)],[]⟩:=by
  rw[AV];have f1:(if (n:Int)<0 then (0:Int) else (n:Int))=n:=Br (by omega);have f2:(if (1024:Int)<(n:Int) then (1024:Int) else (n:Int))=n:=Br (by omega);simp only[Gw,f1,f2];exact r3
 have f1:(if (n:Int)<0 then (0:Int) else (n:Int))=n:=Br (by omega);have f2:(if (1024:Int)<(n:Int) then (1024:Int) else (n:Int))=n:=Br (by omega);have L:=An .u8 r;have t:List.take n (Af .u8 r)=Af .u8 r:=by rw[<-r2];exact LY .u8 r
 rw[DX];simp(disch:=omega)only[Be,Bd,f1,f2,e,Jc,L,t]
end
section
variable {xs:FuncId->Option (Ae->Option Bq)}(fu d:Nat)(call:Ap)
theorem N0{p:Option (Ae->Option Bq)}(fu d:Nat)(Z:Bool):Ac (CP p) prog fu (d+1) 106 [Z]=(fun (call:Ap)=>Ax Z (Bh [Bm ⟨#[104,116,116,112,115,58,47,47]⟩]) (Bh [Bm ⟨#[104,116,116,112,58,47,47]⟩])) (Ac (CP p) prog fu d):=by kernel_rfl
theorem S6{p:Option (Ae->Option Bq)}(fu d:Nat)(Z:Bool):Ac (CP p) prog fu (d+1) 108 [Z]=(fun (call:Ap)=>Ax Z (Bh [(443:Int)]) (Bh [(80:Int)])) (Ac (CP p) prog fu d):=by kernel_rfl
def He(Z:ByteArray)(Y:Bool)(X:Nat)(W:ByteArray)(V:Bool)(U T:Int):Option Bq:=Kj fu call 109 Tryz.f109 [Z,Y] [.r,.r,.r,.l,.r,.l] X ⟨lk [(0,W),(1,V),(6,U),(7,T)],Ct []⟩
theorem M1(V:ByteArray)(U:Bool)(T:Nat)(X:ByteArray)(W:Bool)(Y Z:Int):He fu call V U (T+1) X W Y Z=(Ax (decide (Z<(↑(ByteArray.size X):Int))) (Ar (decide (0<=Z))<|Ea ((Array.toList (ByteArray.data X))[Z.toNat]?) fun a=>D8 (call 144 [.sc (.int .u8 (↑(UInt8.toNat a):Int))]) fun a b=>Bn a fun a=>Ak b<|Ax (!a) (Bh [(0:Int),false]) (Aa (wrap .i64 (10*Y)) fun a=>Ar (decide (0<=Z))<|Ea ((Array.toList (ByteArray.data X))[Z.toNat]?) fun b=>Aa (wrap .u8 ((↑(UInt8.toNat b):Int)-48)) fun b=>Aa (wrap .i64 b) fun b=>Aa (wrap .i64 (a+b)) fun a=>Aa (wrap .i64 (Z+1)) fun b=>He fu call V U T X W a b)) (Ax (decide (Y<=65535)) (Gs .i64 (call 108 [W]) fun a=>Bh [Y,C5 (Y != a)]) (Bh [Y,false]))):=by kernel_rfl
theorem EA{p:Option (Ae->Option Bq)}(fu d:Nat)(Z:ByteArray)(Y:Bool):Ac (CP p) prog fu (d+1) 109 [Z,Y]=(fun (call:Ap)=>Ax (decide ((↑(ByteArray.size Z):Int)<1)) (Bh [(0:Int),false]) (Ax (decide ((↑(ByteArray.size Z):Int)>5)) (Bh [(0:Int),false]) (Ea ((Array.toList (ByteArray.data Z))[0]?) fun a=>Ax ((↑(UInt8.toNat a):Int)==48) (Bh [(0:Int),false]) (He fu call Z Y fu Z Y 0 0)))) (Ac (CP p) prog fu d):=by kernel_rfl
def Fi(Z:ByteArray)(Y:Int)(X:Nat)(W:ByteArray)(V:Int)(U:Nat)(T S:Int)(Q:Ae):Option Bq:=Kj fu call 142 Tryz.f142 [Z,.sc (.int .u8 Y)] [.r,.r,.r,.l,.r,.l] X ⟨lk [(0,W),(1,.sc (.int .u8 V)),(5,.view 5 1 0 U),(6,T),(7,S)],Ct [(5,.ar false Q)]⟩
theorem L6(T:ByteArray)(S:Int)(Q:Nat)(Z:ByteArray)(W:Int)(V:Nat)(X Y:Int)(U:Ae):Fi fu call T S (Q+1) Z W V X Y U=(Ax (decide (Y<(↑(ByteArray.size Z):Int))) (Ar (decide (0<=Y))<|Ea ((Array.toList (ByteArray.data Z))[Y.toNat]?) fun a=>Ax ((↑(UInt8.toNat a):Int)==W) (Ar (decide (0<=X))<|Ar (decide (0<=Y))<|Ar (decide (X.toNat<=Y.toNat)&&decide (Y.toNat<=ByteArray.size Z))<|Aa (ByteArray.extract Z X.toNat Y.toNat) fun a=>ZzA V 1 16 U [a] fun a b=>Aa (wrap .i64 (Y+1)) fun c=>Aa (wrap .i64 (Y+1)) fun e=>Fi fu call T S Q Z W a c e b) (Aa (wrap .i64 (Y+1)) fun a=>Fi fu call T S Q Z W V X a U)) (Ar (decide (0<=X))<|Ar (decide (X.toNat<=ByteArray.size Z)&&decide (ByteArray.size Z<=ByteArray.size Z))<|Aa (ByteArray.extract Z X.toNat (ByteArray.size Z)) fun a=>ZzA V 1 16 U [a] fun a b=>Ar (decide (a*1<=b.length))<|Bh [.own 1 a (b.take (a*1))])):=by kernel_rfl
theorem AU{p:Option (Ae->Option Bq)}(fu d:Nat)(Z:ByteArray)(Y:Int):Ac (CP p) prog fu (d+1) 142 [Z,.sc (.int .u8 Y)]=(fun (call:Ap)=>Fi fu call Z Y fu Z Y 0 0 0 ([])) (Ac (CP p) prog fu d):=by kernel_rfl
theorem CL{p:Option (Ae->Option Bq)}(fu d:Nat)(Z:Int):Ac (CP p) prog fu (d+1) 144 [.sc (.int .u8 Z)]=(fun (call:Ap)=>Ax (decide (Z>=48)) (Bh [C5 (decide (Z<=57))]) (Bh [false])) (Ac (CP p) prog fu d):=by kernel_rfl
def Oa(Z:ByteArray)(Y:Nat)(X:ByteArray):Option Bq:=Kj fu call 143 Tryz.f143 [Z] [.r] Y ⟨lk [(0,X)],Ct []⟩
def Di(Z:ByteArray)(Y:Nat)(X:ByteArray)(W:Int):Option Bq:=Kj fu call 143 Tryz.f143 [Z] [.r,.r,.l,.r,.l] Y ⟨lk [(0,X),(3,W)],Ct []⟩
theorem Xk(Y:ByteArray)(Z:Nat)(Hs:0<Z)(X:ByteArray):Oa fu call Y Z X=(Di fu call Y fu X 0):=by cases Z with|zero=>exact absurd Hs (Nat.lt_irrefl 0)|succ Z=>kernel_rfl
theorem Mi(X:ByteArray)(W:Nat)(Y:ByteArray)(Z:Int):Di fu call X (W+1) Y Z=(Ax (decide (Z<(↑(ByteArray.size Y):Int))) (Ar (decide (0<=Z))<|Ea ((Array.toList (ByteArray.data Y))[Z.toNat]?) fun a=>Ax (decide ((↑(UInt8.toNat a):Int)>=97)) (Ar (decide (0<=Z))<|Ea ((Array.toList (ByteArray.data Y))[Z.toNat]?) fun a=>Ax (!decide ((↑(UInt8.toNat a):Int)<=122)) (Ar (decide (0<=Z))<|Ea ((Array.toList (ByteArray.data Y))[Z.toNat]?) fun a=>D8 (call 144 [.sc (.int .u8 (↑(UInt8.toNat a):Int))]) fun a b=>Bn a fun a=>Ak b<|Ax (!a) (Ar (decide (0<=Z))<|Ea ((Array.toList (ByteArray.data Y))[Z.toNat]?) fun a=>Ax ((↑(UInt8.toNat a):Int) != 45) (Bh [false]) (Aa (wrap .i64 (Z+1)) fun a=>Di fu call X W Y a)) (Aa (wrap .i64 (Z+1)) fun a=>Di fu call X W Y a)) (Aa (wrap .i64 (Z+1)) fun a=>Di fu call X W Y a)) (Ar (decide (0<=Z))<|Ea ((Array.toList (ByteArray.data Y))[Z.toNat]?) fun a=>D8 (call 144 [.sc (.int .u8 (↑(UInt8.toNat a):Int))]) fun a b=>Bn a fun a=>Ak b<|Ax (!a) (Ar (decide (0<=Z))<|Ea ((Array.toList (ByteArray.data Y))[Z.toNat]?) fun a=>Ax ((↑(UInt8.toNat a):Int) != 45) (Bh [false]) (Aa (wrap .i64 (Z+1)) fun a=>Di fu call X W Y a)) (Aa (wrap .i64 (Z+1)) fun a=>Di fu call X W Y a))) (Bh [true])):=by kernel_rfl
theorem BX{p:Option (Ae->Option Bq)}(fu d:Nat)(Z:ByteArray):Ac (CP p) prog fu (d+1) 143 [Z]=(fun (call:Ap)=>Ax (decide ((↑(ByteArray.size Z):Int)<1)) (Bh [false]) (Ax (decide ((↑(ByteArray.size Z):Int)>63)) (Bh [false]) (Ea ((Array.toList (ByteArray.data Z))[0]?) fun a=>Ax ((↑(UInt8.toNat a):Int)==45) (Bh [false]) (Aa (wrap .i64 ((↑(ByteArray.size Z):Int)-1)) fun a=>Ar (decide (0<=a))<|Ea ((Array.toList (ByteArray.data Z))[a.toNat]?) fun a=>Ax ((↑(UInt8.toNat a):Int)==45) (Bh [false]) (Oa fu call Z fu Z))))) (Ac (CP p) prog fu d):=by kernel_rfl
def Fv(Z:ByteArray)(Y X:Nat)(W:Int)(V:Ae):Option Bq:=Kj fu call 107 Tryz.f107 [Z] [.r,.r,.r,.l,.r,.l] Y ⟨lk [(3,.view 3 1 0 X),(4,W)],Ct [(3,.ar false V)]⟩
def Fu(Z:ByteArray)(Y:Nat)(X:ByteArray)(W:Int):Option Bq:=Kj fu call 107 Tryz.f107 [Z] [.r,.r,.r,.r,.r,.l,.r,.l] Y ⟨lk [(5,X),(6,W)],Ct []⟩
theorem Jv(W:ByteArray)(V Z:Nat)(Y:Int)(X:Ae):Fv fu call W (V+1) Z Y X=(Ax (decide (Y<(↑Z:Int))) (Ar (decide (0<=Y)&&decide (Y<(↑Z:Int)))<|Bi (X.getD (0+Y.toNat*1) .top) fun a=>D8 (call 143 [a]) fun a b=>Bn a fun a=>Ak b<|Ax (!a) (Bh [(2:Int)]) (Aa (wrap .i64 (Y+1)) fun a=>Fv fu call W V Z a X)) (Aa (wrap .i64 ((↑Z:Int)-1)) fun a=>Ar (decide (0<=a)&&decide (a<(↑Z:Int)))<|Bi (X.getD (0+a.toNat*1) .top) fun a=>Fu fu call W fu a 0)):=by kernel_rfl
theorem J8(X:ByteArray)(W:Nat)(Y:ByteArray)(Z:Int):Fu fu call X (W+1) Y Z=(Ax (decide (Z<(↑(ByteArray.size Y):Int))) (Ar (decide (0<=Z))<|Ea ((Array.toList (ByteArray.data Y))[Z.toNat]?) fun a=>D8 (call 144 [.sc (.int .u8 (↑(UInt8.toNat a):Int))]) fun a b=>Bn a fun a=>Ak b<|Ax (!a) (Bh [(0:Int)]) (Aa (wrap .i64 (Z+1)) fun a=>Fu fu call X W Y a)) (Bh [(2:Int)])):=by kernel_rfl
theorem Wk{p:Option (Ae->Option Bq)}(fu d:Nat)(Z:ByteArray):Ac (CP p) prog fu (d+1) 107 [Z]=(fun (call:Ap)=>Ax (decide ((↑(ByteArray.size Z):Int)>100)) (Bh [(8:Int)]) (D8 (call 142 [Z,.sc (.int .u8 46)]) fun a b=>Lh 1 a fun a c=>Ak b<|Fv fu call Z fu a 0 c)) (Ac (CP p) prog fu d):=by kernel_rfl
def B4(Z:ByteArray)(Y:Nat)(X:ByteArray)(W V:Int)(U:Bool)(T:ByteArray)(S:Int)(Q:Bool)(P:ByteArray)(O:Int):Option Bq:=Kj fu call 65 Tryz.f65 [Z] [.r,.r,.r,.r,.r,.r,.l,.r,.l] Y ⟨lk [(2,.ptr 2 0),(4,.ptr 4 0),(6,X),(7,W),(8,V)],Ct [(2,.st [U,T,S]),(4,.st [Q,P,O])]⟩
theorem Il(V:ByteArray)(U:Nat)(Z:ByteArray)(Y X:Int)(T:Bool)(S:ByteArray)(Q:Int)(W:Bool)(P:ByteArray)(O:Int):B4 fu call V (U+1) Z Y X T S Q W P O=(Ax (decide (X>=0)) (Ar (decide (0<=X))<|Ea ((Array.toList (ByteArray.data Z))[X.toNat]?) fun a=>Ax ((↑(UInt8.toNat a):Int)==58) (Aa (wrap .i64 (X-1)) fun a=>B4 fu call V U Z X a T S Q W P O) (Aa (wrap .i64 (X-1)) fun a=>B4 fu call V U Z Y a T S Q W P O)) (Ar (decide (0<=Y))<|Ar (decide (Y.toNat<=ByteArray.size Z))<|Aa (ByteArray.extract Z 0 Y.toNat) fun a=>Gs .i64 (call 107 [a]) fun a=>Ax (a != 0) (Bh [.agg [false,Bm ⟨#[]⟩,(0:Int)],a]) (Ar (decide (0<=Y))<|Ar (decide (Y.toNat<=ByteArray.size Z))<|Aa (ByteArray.extract Z 0 Y.toNat) fun a=>Gs .i64 (call 108 [W]) fun b=>Ax (decide (Y<(↑(ByteArray.size Z):Int))) (Aa (wrap .i64 (Y+1)) fun b=>Ar (decide (0<=b))<|Ar (decide (b.toNat<=ByteArray.size Z)&&decide (ByteArray.size Z<=ByteArray.size Z))<|Aa (ByteArray.extract Z b.toNat (ByteArray.size Z)) fun b=>D8 (call 109 [b,W]) fun b c=>Bk .i64 b fun b=>G2 c fun c=>Ax (!c) (Bh [.agg [false,Bm ⟨#[]⟩,(0:Int)],(2:Int)]) (Bh [.agg [W,a,b],(0:Int)])) (Bh [.agg [W,a,b],(0:Int)])))):=by kernel_rfl
theorem Sm{p:Option (Ae->Option Bq)}(fu d:Nat)(Z:ByteArray):Ac (CP p) prog fu (d+1) 65 [Z]=(fun (call:Ap)=>Ax (decide ((↑(ByteArray.size Z):Int)>=8)) (Ar (decide (8<=ByteArray.size Z))<|Aa (ByteArray.extract Z 0 8) fun a=>D8 (call 106 [C5 (Array.toList (ByteArray.data a)==Array.toList (ByteArray.data (ByteArray.mk #[104,116,116,112,115,58,47,47])))]) fun b c=>Bi b fun b=>Ak c<|Ax (decide ((↑(ByteArray.size Z):Int)<(↑(ByteArray.size b):Int))) (Bh [.agg [false,Bm ⟨#[]⟩,(0:Int)],(2:Int)]) (Ar (decide (Int.toNat (↑(ByteArray.size b):Int)<=ByteArray.size Z))<|Aa (ByteArray.extract Z 0 (Int.toNat (↑(ByteArray.size b):Int))) fun c=>Ax (!Array.toList (ByteArray.data c)==Array.toList (ByteArray.data b)) (Bh [.agg [false,Bm ⟨#[]⟩,(0:Int)],(2:Int)]) (Ar (decide (Int.toNat (↑(ByteArray.size b):Int)<=ByteArray.size Z)&&decide (ByteArray.size Z<=ByteArray.size Z))<|Aa (ByteArray.extract Z (Int.toNat (↑(ByteArray.size b):Int)) (ByteArray.size Z)) fun b=>Aa (wrap .i64 ((↑(ByteArray.size b):Int)-1)) fun c=>B4 fu call Z fu b ((↑(ByteArray.size b):Int)) c false (ByteArray.mk #[]) 0 (Array.toList (ByteArray.data a)==Array.toList (ByteArray.data (ByteArray.mk #[104,116,116,112,115,58,47,47]))) (ByteArray.mk #[]) 0))) (D8 (call 106 [false]) fun a b=>Bi a fun a=>Ak b<|Ax (decide ((↑(ByteArray.size Z):Int)<(↑(ByteArray.size a):Int))) (Bh [.agg [false,Bm ⟨#[]⟩,(0:Int)],(2:Int)]) (Ar (decide (Int.toNat (↑(ByteArray.size a):Int)<=ByteArray.size Z))<|Aa (ByteArray.extract Z 0 (Int.toNat (↑(ByteArray.size a):Int))) fun b=>Ax (!Array.toList (ByteArray.data b)==Array.toList (ByteArray.data a)) (Bh [.agg [false,Bm ⟨#[]⟩,(0:Int)],(2:Int)]) (Ar (decide (Int.toNat (↑(ByteArray.size a):Int)<=ByteArray.size Z)&&decide (ByteArray.size Z<=ByteArray.size Z))<|Aa (ByteArray.extract Z (Int.toNat (↑(ByteArray.size a):Int)) (ByteArray.size Z)) fun a=>Aa (wrap .i64 ((↑(ByteArray.size a):Int)-1)) fun b=>B4 fu call Z fu a ((↑(ByteArray.size a):Int)) b false (ByteArray.mk #[]) 0 false (ByteArray.mk #[]) 0)))) (Ac (CP p) prog fu d):=by kernel_rfl
theorem Tx{p:Option (Ae->Option Bq)}(fu d:Nat)(W:Int)(Y:Nat)(V:Ae)(X:ByteArray)(U:Bool)(Z:ByteArray):Ac (CP p) prog fu (d+1) 33 [.agg [W,Am 1 Y V,X,U,Z]]=(fun (call:Ap)=>D8 (call 64 [W]) fun a b=>Bi a fun a=>Ak b<|Ax (Array.toList (ByteArray.data a)==Array.toList (ByteArray.data (ByteArray.mk #[]))) (Bh [Bm ⟨#[]⟩,(3:Int)]) (Ax (decide ((↑Y:Int)<1)) (Bh [Bm ⟨#[]⟩,(9:Int)]) (Ax (decide ((↑Y:Int)>64)) (Bh [Bm ⟨#[]⟩,(9:Int)]) (D8 (call 65 [X]) fun a b=>Eo a fun a=>Ad a fun a c=>Bn a fun a=>Ad c fun a c=>Bi a fun a=>B8 .i64 c fun a=>B8 .i64 b fun a=>Ax (a != 0) (Bh [Bm ⟨#[]⟩,a]) (D8 (call 64 [W]) fun a b=>Bi a fun a=>Ak b<|Ar (decide (9+ByteArray.size a<=9223372036854775807))<|Aa (ByteArray.mk #[123,34,116,121,112,101,34,58,34]++a) fun a=>Ar (decide (ByteArray.size a+15<=9223372036854775807))<|Aa (a++ByteArray.mk #[34,44,34,99,104,97,108,108,101,110,103,101,34,58,34]) fun a=>D8 (call 66 [Am 1 Y V]) fun b c=>Bi b fun b=>Ak c<|Ar (decide (ByteArray.size a+ByteArray.size b<=9223372036854775807))<|Aa (a++b) fun a=>Ar (decide (ByteArray.size a+12<=9223372036854775807))<|Aa (a++ByteArray.mk #[34,44,34,111,114,105,103,105,110,34,58,34]) fun a=>Ar (decide (ByteArray.size a+ByteArray.size X<=9223372036854775807))<|Aa (a++X) fun a=>Ar (decide (ByteArray.size a+16<=9223372036854775807))<|Aa (a++ByteArray.mk #[34,44,34,99,114,111,115,115,79,114,105,103,105,110,34,58]) fun a=>Ax (!U) (Ax (!Array.toList (ByteArray.data Z)==Array.toList (ByteArray.data (ByteArray.mk #[]))) (Bh [Bm ⟨#[]⟩,(4:Int)]) (Ar (decide (ByteArray.size a+6<=9223372036854775807))<|Aa (a++ByteArray.mk #[102,97,108,115,101,125]) fun a=>Bh [a,(0:Int)])) (D8 (call 65 [Z]) fun b c=>Eo b fun b=>Ad b fun b e=>Bn b fun b=>Ad e fun b e=>Bi b fun b=>B8 .i64 e fun b=>B8 .i64 c fun b=>Ax (b != 0) (Bh [Bm ⟨#[]⟩,b]) (Ar (decide (ByteArray.size a+18<=9223372036854775807))<|Aa (a++ByteArray.mk #[116,114,117,101,44,34,116,111,112,79,114,105,103,105,110,34,58,34]) fun a=>Ar (decide (ByteArray.size a+ByteArray.size Z<=9223372036854775807))<|Aa (a++Z) fun a=>Ar (decide (ByteArray.size a+2<=9223372036854775807))<|Aa (a++ByteArray.mk #[34,125]) fun a=>Bh [a,(0:Int)]))))))) (Ac (CP p) prog fu d):=by kernel_rfl
end
theorem Alq{l:Al}(hl:Db l)(a b:Nat):(Ab l).extract a b=Ab ((l.drop a).take (b-a)):=by
 have h:(Ab l).extract a b=Ab (Dk ((Ab l).extract a b)):=(Hl _).symm;rw[h]
 congr 1
 unfold Dk;rw[ByteArray.data_extract,Array.toList_extract,List.extract_eq_take_drop,List.map_take,List.map_drop];have:(List.map (fun b:UInt8=>(b.toNat:Int)) (Ab l).data.toList)=l:=Dj hl;rw[this]
theorem LB{a b:Al}(ha:Db a)(hb:Db b):(Array.toList (Ab a).data==Array.toList (Ab b).data)=decide (a=b):=by
 rw[Bool.eq_iff_iff,beq_iff_eq,decide_eq_true_iff];constructor
 ·intro h
  have h2:Ab a=Ab b:=by
   cases hx:Ab a;cases hy:Ab b;rw[hx,hy] at h;exact congrArg ByteArray.mk (Array.toList_inj.1 h)
  have h3:=congrArg Dk h2
  rwa [Dj ha,Dj hb] at h3
 ·rintro rfl;rfl
theorem Agb{w l:Al}(h:w.length<=l.length):decide (l.take w.length=w)=w.isPrefixOf l:=by rw[Bool.eq_iff_iff,decide_eq_true_iff,List.isPrefixOf_iff_prefix,List.prefix_iff_eq_take];exact⟨fun h=>h.symm,fun h=>h.symm⟩
theorem YP(c:Int):∀{cur:Al},(∀x∈cur,x≠c)->∀r,Bg c (cur++c::r)=cur::Bg c r
 |[],_,r=>by
  show (if c=c then []::Bg c r else _)=_;rw[Ch rfl]
 |x::cur,h,r=>by
  have hx:=h x (by simp);have ih:=YP c (cur:=cur) (fun y hy=>h y (by simp[hy])) r;show (if x=c then []::Bg c (cur++c::r) else match Bg c (cur++c::r) with|a::t=>(x::a)::t|[]=>[[x]])=_;rw[Br hx,ih]
theorem WA(c:Int):∀{cur:Al},(∀x∈cur,x≠c)->Bg c cur=[cur]
 |[],_=>rfl
 |x::cur,h=>by
  have hx:=h x (by simp);have ih:=WA c (cur:=cur) (fun y hy=>h y (by simp[hy]));show (if x=c then []::Bg c cur else match Bg c cur with|a::t=>(x::a)::t|[]=>[[x]])=_;rw[Br hx,ih]
section
variable {fu d:Nat}{p:Option (Ae->Option Bq)}
theorem Ajo{c:Int}:Ac (CP p) prog fu (d+1) 144 [.sc (.int .u8 c)]=some ⟨[C5 (DZ c)],[]⟩:=by
 rw[CL];unfold DZ;by_cases h:48<=c
 ·have a1:=dT (q:=c>=48) h;have a2:=dT h;simp only[Be,Bd,a1,a2,Zzm]
 ·have a1:=dF (q:=c>=48) h;have a2:=dF h;simp only[Be,Bd,a1,a2,VO]
def lbB(x:Int):Bool:=ltB x||x==45
theorem Ane{a0:ByteArray}{l:Al}(hB:Db l)(hs:l.length<=63):∀(r:Al)(i nn:Nat),l.drop i=r->r.length+1<=nn ->
  Di fu (Ac (CP p) prog fu (d+1)) a0 nn (Ab l) (i:Int)=some ⟨[C5 (r.all lbB)],[]⟩
 |[],i,nn,hd,hn=>by
  obtain⟨k,rfl⟩:∃k,nn=k+1:=⟨nn-1,by omega⟩
  have hi:=drop_nil hd;have a1:decide ((i:Int)<(l.length:Int))=false:=dF (by omega);rw[Mi];simp only[Be,Bd,Ai,a1];rfl
 |c::r,i,nn,hd,hn=>by
  obtain⟨k,rfl⟩:∃k,nn=k+1:=⟨nn-1,by omega⟩
  obtain⟨hi,hc,Uc⟩:=Dx hd;have ih:=Ane (a0:=a0) hB hs r (i+1) k Uc (by simp at hn;omega)
  have QV:=hB c (List.mem_of_getElem? hc);have a1:decide ((i:Int)<(l.length:Int))=true:=dT (by omega);have a2:decide ((0:Int)<=(i:Int))=true:=by simp
  have a3:(Array.toList (Ab l).data)[Int.toNat (i:Int)]?=some c.toNat.toUInt8:=by
   rw[Iq];show (l.map fun n=>n.toNat.toUInt8)[i]?=_;rw[List.getElem?_map,hc];rfl
  have a4:=Pc QV;have a5:wrap .i64 ((i:Int)+1)=((i+1:Nat):Int):=Bl
  have e:Ac (CP p) prog fu (d+1) 144 [.sc (.int .u8 c)]=_:=Ajo (fu:=fu) (d:=d) (p:=p) (c:=c);have step:(c::r).all lbB=(lbB c&&r.all lbB):=List.all_cons;rw[Mi,step];by_cases hA:97<=c/\c<=122
  ·have q1:=dT (q:=c>=97) hA.1;have q2:=bT hA.2;have hl:lbB c=true:=by unfold lbB ltB;simp[hA]
   rw[hl,Zzm];simp only[Be,Bd,Ai,a1,a2,a3,a4,a5,q1,q2];exact ih
  cases hD:DZ c
  ·rw[hD] at e
   have Ci:ltB c=false:=by
    unfold ltB;rw[hD,Bool.or_false];simp;omega
   by_cases hM:c=45
   ·subst hM;have q1:decide ((45:Int)>=97)=false:=rfl;have q3:((45:Int) != 45)=false:=rfl;have hl:lbB 45=true:=rfl;rw[hl,Zzm];simp only[Be,Bd,Ai,a1,a2,a3,a4,a5,q1,e,Hb,q3];exact ih
   ·have q3:(c != 45)=true:=by simp[hM]
    have hl:lbB c=false:=by unfold lbB;simp[Ci,hM]
    rw[hl,VO];by_cases h97:97<=c
    ·have q1:=dT (q:=c>=97) h97;have q2:=bF (q:=c<=122) (by omega);simp only[Be,Bd,Ai,a1,a2,a3,a4,a5,q1,q2,e,Hb,q3]
    ·have q1:=dF (q:=c>=97) h97;simp only[Be,Bd,Ai,a1,a2,a3,a4,a5,q1,e,Hb,q3]
  ·rw[hD] at e;have h48:=(JI c).1 hD;have hl:lbB c=true:=by unfold lbB ltB;simp[hD]
   have q1:=dF (q:=c>=97) (by omega);rw[hl,Zzm];simp only[Be,Bd,Ai,a1,a2,a3,a4,a5,q1,e,F1];exact ih
theorem Awg{l:Al}(hB:Db l)(Bv:100<=fu):Ac (CP p) prog fu (d+2) 143 [Bm (Ab l)]=some ⟨[C5 (L4 l)],[]⟩:=by
 rw[BX];by_cases h1:1<=l.length
 ·have a1:decide (((l.length:Nat):Int)<1)=false:=dF (by omega);by_cases h2:l.length<=63
  ·have a2:decide (((l.length:Nat):Int)>63)=false:=dF (by omega)
   have e0:L4 l=(!(l.head?==some 45) && !(l.getLast?==some 45)&&l.all lbB):=by
    unfold L4;rw[dT h1,dT h2];rfl
   cases l with
   |nil=>simp at h1
   |cons c r=>
    have QV:=hB c (by simp);have a3:(Array.toList (Ab (c::r)).data)[0]?=some c.toNat.toUInt8:=rfl;have a4:=Pc QV;by_cases h0:c=45
    ·subst h0;have q:((45:Int)==45)=true:=rfl;have e:L4 (45::r)=false:=by rw[e0];simp
     rw[e];simp only[Be,Bd,Ai,a1,a2,a3,a4,q]
    ·have q:(c==45)=false:=by simp[h0]
     obtain⟨z,hz⟩:∃z,(c::r).getLast?=some z:=⟨_,List.getLast?_eq_some_getLast (by simp)⟩
     have Y1:(c::r)[(c::r).length-1]?=some z:=by rw[<-List.getLast?_eq_getElem?];exact hz
     have hzB:=hB z (List.mem_of_getElem? Y1);have b1:wrap .i64 (((c::r).length:Int)-1)=(((c::r).length-1:Nat):Int):=Bl
     have b2:decide ((0:Int)<=(((c::r).length-1:Nat):Int))=true:=dT (by omega)
     have b3:(Array.toList (Ab (c::r)).data)[Int.toNat (((c::r).length-1:Nat):Int)]?=some z.toNat.toUInt8:=by
      rw[Iq];show ((c::r).map fun n=>n.toNat.toUInt8)[(c::r).length-1]?=_;rw[List.getElem?_map,Y1];rfl
     have b4:=Pc hzB;by_cases A5v:z=45
     ·subst A5v;have q2:((45:Int)==45)=true:=rfl;have e:L4 (c::r)=false:=by rw[e0,hz];simp
      rw[e];simp only[Be,Bd,Ai,a1,a2,a3,a4,q,b1,b2,b3,b4,q2]
     ·have q2:(z==45)=false:=by simp[A5v]
      have e:L4 (c::r)=(c::r).all lbB:=by rw[e0,hz];simp[h0,A5v]
      have hl:=Ane (fu:=fu) (d:=d) (p:=p) (a0:=Ab (c::r)) hB h2 (c::r) 0 fu rfl (by omega);rw[e];simp only[Be,Bd,Ai,a1,a2,a3,a4,q,b1,b2,b3,b4,q2];rw[Xk (Hs:=by omega)];exact hl
  ·have a2:decide (((l.length:Nat):Int)>63)=true:=dT (by omega);have e:L4 l=false:=by unfold L4;simp[h2]
   rw[e];simp only[Be,Bd,Ai,a1,a2]
 ·have a1:decide (((l.length:Nat):Int)<1)=true:=dT (by omega);have e:L4 l=false:=by unfold L4;simp[h1]
  rw[e];simp only[Be,Bd,Ai,a1]
theorem Adk{call:Ap}{a0:ByteArray}{a1 c:Int}{l:Al}(hB:Db l)(hl:l.length<=100000):∀(r cur:Al)(done:List Al) (f nn:Nat),l.drop f=cur++r->(∀x∈cur,x≠c)->done.length<=f->f<=l.length->r.length+1<=nn ->
  Fi fu call a0 a1 nn (Ab l) c done.length (f:Int) ((f+cur.length:Nat):Int) (done.map Y4)=some ⟨[.own 1 (done++Bg c (cur++r)).length ((done++Bg c (cur++r)).map Y4)],[]⟩
 |[],cur,done,f,nn,hd,hc,EZ,hf,hn=>by
  obtain⟨k,rfl⟩:∃k,nn=k+1:=⟨nn-1,by omega⟩
  rw[List.append_nil] at hd;have Ek:=congrArg List.length hd;rw[List.length_drop] at Ek;have b1:decide (((f+cur.length:Nat):Int)<(l.length:Int))=false:=dF (by omega);have b2:decide ((0:Int)<=(f:Int))=true:=by simp
  have b3:decide (Int.toNat (f:Int)<=l.length)=true:=dT (by omega)
  have b4:(Ab l).extract (Int.toNat (f:Int)) l.length=Ab cur:=by
   rw[Alq hB,Iq,hd,Iu (by omega)]
  have b5:decide (done.length*1<=List.length (done.map Y4))=true:=by simp
  have b6:decide ((done.length+1)*16<=1099511627776)=true:=dT (by omega);have b7:decide (done.length+1<=1099511627776)=true:=dT (by omega)
  have b8:List.take (done.length*1) (done.map Y4)++[PV.sc (.string (Ab cur))]=(done++[cur]).map Y4:=by
   rw[Iu (by simp)];simp[Y4]
  have b9:decide ((done.length+1)*1<=List.length ((done++[cur]).map Y4))=true:=by simp
  have c1:List.take ((done.length+1)*1) ((done++[cur]).map Y4)=(done++[cur]).map Y4:=Iu (by simp);rw[L6,List.append_nil,WA c hc];simp only[Be,Bd,Ai,dle,b1,b2,b3,b4,b5,b6,b7,b8,b9,c1];simp
 |x::r,cur,done,f,nn,hd,hc,EZ,hf,hn=>by
  obtain⟨k,rfl⟩:∃k,nn=k+1:=⟨nn-1,by omega⟩
  have Ek:=congrArg List.length hd;rw[List.length_drop] at Ek;simp only[Vk,Tt] at Ek
  have hx:l[f+cur.length]?=some x:=by
   have:(l.drop f)[cur.length]?=some x:=by rw[hd];simp
   rwa [List.getElem?_drop] at this
  have hxB:=hB x (List.mem_of_getElem? hx);have b1:decide (((f+cur.length:Nat):Int)<(l.length:Int))=true:=dT (by omega);have b2:decide ((0:Int)<=((f+cur.length:Nat):Int))=true:=dT (by omega);have b2':decide ((0:Int)<=(f:Int))=true:=by simp
  have b3:(Array.toList (Ab l).data)[Int.toNat ((f+cur.length:Nat):Int)]?=some x.toNat.toUInt8:=by
   rw[Iq];show (l.map fun n=>n.toNat.toUInt8)[f+cur.length]?=_;rw[List.getElem?_map,hx];rfl
  have b4:=Pc hxB;have b5:wrap .i64 (((f+cur.length:Nat):Int)+1)=((f+cur.length+1:Nat):Int):=Bl
  rw[L6];by_cases hxc:x=c
  ·subst hxc;have q:(x==x)=true:=by simp
   have c1:decide (Int.toNat (f:Int)<=Int.toNat ((f+cur.length:Nat):Int))=true:=dT (by omega);have c2:decide (Int.toNat ((f+cur.length:Nat):Int)<=l.length)=true:=dT (by omega)
   have c3:(Ab l).extract (Int.toNat (f:Int)) (Int.toNat ((f+cur.length:Nat):Int))=Ab cur:=by
    rw[Alq hB,Iq,Iq,hd,Nat.add_sub_cancel_left,List.take_left]
   have c4:decide (done.length*1<=List.length (done.map Y4))=true:=by simp
   have c5:decide ((done.length+1)*16<=1099511627776)=true:=dT (by omega);have c6:decide (done.length+1<=1099511627776)=true:=dT (by omega)
   have c7:List.take (done.length*1) (done.map Y4)++[PV.sc (.string (Ab cur))]=(done++[cur]).map Y4:=by
    rw[Iu (by simp)];simp[Y4]
   have Uc:l.drop (f+cur.length+1)=[]++r:=by
    rw[<-List.drop_drop,<-List.drop_drop,hd,List.drop_left];rfl
   have ih:=Adk (call:=call) (a0:=a0) (a1:=a1) (c:=x) hB hl r [] (done++[cur]) (f+cur.length+1) k Uc (fun y hy=>nomatch hy) (by simp;omega) (by omega) (by simp at hn;omega)
   rw[YP x hc];simp only[Be,Bd,Ai,b1,b2,b2',b3,b4,q,c1,c2,c3,c4,c5,c6,c7,b5];rw[show (done++[cur]).length=done.length+1 by simp,show f+cur.length+1+([]:Al).length=f+cur.length+1 from rfl] at ih;refine ih.trans ?_;simp
  ·have q:(x==c)=false:=by simp[hxc]
   have ih:=Adk (call:=call) (a0:=a0) (a1:=a1) hB hl r (cur++[x]) done f k (by rw[hd];simp) (fun y hy=>by
    rcases B2.1 hy with hy|hy
    ·exact hc y hy
    ·simp at hy;subst hy;exact hxc) EZ hf (by simp at hn;omega)
   simp only[Be,Bd,Ai,b1,b2,b3,b4,q,b5];rw[show f+(cur++[x]).length=f+cur.length+1 by simp;omega] at ih
   refine ih.trans ?_;simp
theorem Aww{c:Int}{l:Al}(hB:Db l)(hl:l.length<=100000)(Bv:l.length+1<=fu):Ac (CP p) prog fu (d+1) 142 [Bm (Ab l),.sc (.int .u8 c)]=some ⟨[.own 1 (Bg c l).length ((Bg c l).map Y4)],[]⟩:=by rw[AU];have:=Adk (fu:=fu) (call:=Ac (CP p) prog fu d) (a0:=Ab l) (a1:=c) (c:=c) hB hl l [] [] 0 fu rfl (fun y hy=>nomatch hy) (Cd _) (by omega) Bv;exact this
theorem Agh{a0:ByteArray}{l:Al}(hB:Db l)(hs:l.length<=100000):∀(r:Al)(i nn:Nat),l.drop i=r->r.length+1<=nn ->
  Fu fu (Ac (CP p) prog fu (d+1)) a0 nn (Ab l) (i:Int)=some ⟨[As (if r.all DZ=true then 2 else 0)],[]⟩
 |[],i,nn,hd,hn=>by
  obtain⟨k,rfl⟩:∃k,nn=k+1:=⟨nn-1,by omega⟩
  have hi:=drop_nil hd;have a1:decide ((i:Int)<(l.length:Int))=false:=dF (by omega);rw[J8];simp only[Be,Bd,Ai,a1];rfl
 |c::r,i,nn,hd,hn=>by
  obtain⟨k,rfl⟩:∃k,nn=k+1:=⟨nn-1,by omega⟩
  obtain⟨hi,hc,Uc⟩:=Dx hd;have ih:=Agh (a0:=a0) hB hs r (i+1) k Uc (by simp at hn;omega)
  have QV:=hB c (List.mem_of_getElem? hc);have a1:decide ((i:Int)<(l.length:Int))=true:=dT (by omega);have a2:decide ((0:Int)<=(i:Int))=true:=by simp
  have a3:(Array.toList (Ab l).data)[Int.toNat (i:Int)]?=some c.toNat.toUInt8:=by
   rw[Iq];show (l.map fun n=>n.toNat.toUInt8)[i]?=_;rw[List.getElem?_map,hc];rfl
  have a4:=Pc QV;have a5:wrap .i64 ((i:Int)+1)=((i+1:Nat):Int):=Bl
  have e:Ac (CP p) prog fu (d+1) 144 [.sc (.int .u8 c)]=_:=Ajo (fu:=fu) (d:=d) (p:=p) (c:=c);rw[J8,List.all_cons];cases hD:DZ c
  ·rw[hD] at e;simp only[Be,Bd,Ai,a1,a2,a3,a4,e,Hb,VO,Bool.false_eq_true,if_false]
  ·rw[hD] at e;simp only[Be,Bd,Ai,a1,a2,a3,a4,e,F1,Zzm,a5];exact ih
theorem YO{a0:ByteArray}(Bv:2000<=fu){ls:List Al}(hB:∀x∈ls,Db x/\x.length<=1000)(h0:ls≠[])(hN:ls.length<=1000):∀(r:List Al) (i nn:Nat),ls.drop i=r->r.length+1<=nn ->
  Fv fu (Ac (CP p) prog fu (d+2)) a0 nn ls.length (i:Int) (ls.map Y4)=some ⟨[As (if r.all L4=false then 2 else if (ls.getLastD []).all DZ=true then 2 else 0)],[]⟩
 |[],i,nn,hd,hn=>by
  obtain⟨k,rfl⟩:∃k,nn=k+1:=⟨nn-1,by omega⟩
  have hi:=drop_nil hd;have Agp:0<ls.length:=List.length_pos_iff.2 h0;have a1:decide ((i:Int)<(ls.length:Int))=false:=dF (by omega);have a2:wrap .i64 ((ls.length:Int)-1)=((ls.length-1:Nat):Int):=Bl
  have a3:decide ((0:Int)<=((ls.length-1:Nat):Int))=true:=dT (by omega);have a4:decide (((ls.length-1:Nat):Int)<(ls.length:Int))=true:=dT (by omega)
  have VS:ls.getLastD []=ls[ls.length-1]'(by omega):=by
   rw[List.getLastD_eq_getLast?,List.getLast?_eq_getElem?,List.getElem?_eq_getElem (by omega)];rfl
  have a5:List.getD (ls.map Y4) (0+Int.toNat ((ls.length-1:Nat):Int)*1) PV.top=Bm (Ab (ls.getLastD [])):=by
   rw[Iq,Ir,Jc,List.getD_eq_getElem?_getD,List.getElem?_map,List.getElem?_eq_getElem (by omega),VS];rfl
  have hm:=hB (ls.getLastD []) (by rw[VS];exact List.getElem_mem _)
  have XO:=Agh (fu:=fu) (d:=d+1) (p:=p) (a0:=a0) hm.1 (by omega) (ls.getLastD []) 0 fu rfl (by omega);rw[Jv];simp only[Be,Bd,a1,a2,a3,a4,a5,List.all_nil,Bool.true_eq_false,if_false];exact XO
 |x::r,i,nn,hd,hn=>by
  obtain⟨k,rfl⟩:∃k,nn=k+1:=⟨nn-1,by omega⟩
  obtain⟨hi,hc,Uc⟩:=Dx hd;have ih:=YO (a0:=a0) Bv hB h0 hN r (i+1) k Uc (by simp at hn;omega)
  have hm:=hB x (List.mem_of_getElem? hc);have e:Ac (CP p) prog fu (d+2) 143 [Bm (Ab x)]=_:=Awg (fu:=fu) (d:=d) (p:=p) hm.1 (by omega);have a1:decide ((i:Int)<(ls.length:Int))=true:=dT (by omega);have a2:decide ((0:Int)<=(i:Int))=true:=by simp
  have a5:List.getD (ls.map Y4) (0+Int.toNat (i:Int)*1) PV.top=Bm (Ab x):=by
   rw[Iq,Ir,Jc,List.getD_eq_getElem?_getD,List.getElem?_map,hc];rfl
  have a6:wrap .i64 ((i:Int)+1)=((i+1:Nat):Int):=Bl
  rw[Jv];cases hq:L4 x
  ·rw[hq] at e;have:((x::r).all L4=false):=by simp[hq]
   rw[Ch this];simp only[Be,Bd,a1,a2,a5,e,Hb]
  ·rw[hq] at e;have:(x::r).all L4=r.all L4:=by simp[hq]
   rw[this];simp only[Be,Bd,a1,a2,a5,e,F1,a6];exact ih
theorem Ayu{l:Al}(hB:Db l)(hs:l.length<=1000000)(Bv:2000<=fu):Ac (CP p) prog fu (d+4) 107 [Bm (Ab l)]=some ⟨[As (Vd l)],[]⟩:=by
 rw[Wk];unfold Vd;by_cases h:100<l.length
 ·have a1:decide (((l.length:Nat):Int)>100)=true:=dT (by omega);rw[Ch h];simp only[Be,Bd,Ai,a1]
 ·have a1:decide (((l.length:Nat):Int)>100)=false:=dF (by omega);have e:Ac (CP p) prog fu (d+3) 142 [Bm (Ab l),.sc (.int .u8 46)]=_:=Aww (fu:=fu) (d:=d+2) (p:=p) (c:=46) hB (by omega) (by omega);have hn:=CZ 46 l;have hd:=YO (a0:=Ab l) (fu:=fu) (d:=d+1) (p:=p) (by omega) (ls:=Bg 46 l) (fun x hx=>⟨(BN 46 hB x hx).1,by have:=(BN 46 hB x hx).2;omega⟩) (R9 46 l) (by omega) (Bg 46 l) 0 fu rfl (by omega)
  rw[Br h];simp only[Be,Bd,Ai,a1,e];exact hd
end
section
variable {fu d:Nat}{p:Option (Ae->Option Bq)}
theorem Afp(s:Bool):Ac (CP p) prog fu (d+1) 108 [C5 s]=some ⟨[As (dfl s)],[]⟩:=by rw[S6];cases s<;>simp only[Be,Bd]<;>rfl
theorem WL{a0:ByteArray}{l:Al}{s a1:Bool}(hB:Db l)(hs:l.length<=5):∀(r:Al)(i nn:Nat)(n:Int),l.drop i=r->r.length+1<=nn->0<=n->n<10 ^ i ->
  He fu (Ac (CP p) prog fu (d+1)) a0 a1 nn (Ab l) s n (i:Int)=some (if r.all DZ=true then ⟨[As (r.foldl (fun n x=>10*n+(x-48)) n),C5 (decide (r.foldl (fun n x=>10*n+(x-48)) n<=65535)&&decide (r.foldl (fun n x=>10*n+(x-48)) n≠dfl s))],[]⟩ else ⟨[As 0,C5 false],[]⟩)
 |[],i,nn,n,hd,hn,h0,h1=>by
  obtain⟨k,rfl⟩:∃k,nn=k+1:=⟨nn-1,by omega⟩
  have hi:=drop_nil hd;have a1':decide ((i:Int)<(l.length:Int))=false:=dF (by omega);have e:Ac (CP p) prog fu (d+1) 108 [C5 s]=_:=Afp (fu:=fu) (d:=d) (p:=p) s;rw[M1];show _=some (Bq.mk [As n,C5 (decide (n<=65535)&&decide (n≠dfl s))] []);by_cases hv:n<=65535
  ·have q:=dT hv
   have q2:(n != dfl s)=decide (n≠dfl s):=by
    by_cases h:n=dfl s<;>simp[h]
   simp only[Be,Bd,Ai,a1',q,e,q2,Zzm]
  ·have q:=dF hv;simp only[Be,Bd,Ai,a1',q,VO]
 |c::r,i,nn,n,hd,hn,h0,h1=>by
  obtain⟨k,rfl⟩:∃k,nn=k+1:=⟨nn-1,by omega⟩
  obtain⟨hi,hc,Uc⟩:=Dx hd;have QV:=hB c (List.mem_of_getElem? hc)
  have hp:(10:Int) ^ i<=10 ^ 4:=by
   have h:=Nat.pow_le_pow_right (n:=10) (by omega) (show i<=4 by omega)
   exact_mod_cast h
  have hp2:(10:Int) ^ (i+1)=10 ^ i*10:=Int.pow_succ ..;have a1':decide ((i:Int)<(l.length:Int))=true:=dT (by omega);have a2:decide ((0:Int)<=(i:Int))=true:=by simp
  have a3:(Array.toList (Ab l).data)[Int.toNat (i:Int)]?=some c.toNat.toUInt8:=by
   rw[Iq];show (l.map fun n=>n.toNat.toUInt8)[i]?=_;rw[List.getElem?_map,hc];rfl
  have a4:=Pc QV;have e:Ac (CP p) prog fu (d+1) 144 [.sc (.int .u8 c)]=_:=Ajo (fu:=fu) (d:=d) (p:=p) (c:=c);rw[M1];cases hD:DZ c
  ·rw[hD] at e;have ea:(c::r).all DZ=false:=by rw[List.all_cons,hD,VO]
   rw[ea];simp only[Be,Bd,Ai,a1',a2,a3,a4,e,Hb,Bool.false_eq_true,if_false]
  ·rw[hD] at e;have hq:=(JI c).1 hD;have a5:wrap .i64 (10*n)=10*n:=Bj;have a6:wrap .u8 (c-48)=c-48:=Pg (by omega) (by omega);have a7:wrap .i64 (c-48)=c-48:=Bj;have a8:wrap .i64 (10*n+(c-48))=10*n+(c-48):=Bj;have a9:wrap .i64 ((i:Int)+1)=((i+1:Nat):Int):=Bl
   have ih:=WL (a0:=a0) (s:=s) (a1:=a1) hB hs r (i+1) k (10*n+(c-48)) Uc (by simp at hn;omega) (by omega) (by omega)
   have ea:(c::r).all DZ=r.all DZ:=by rw[List.all_cons,hD,Zzm]
   simp only[Be,Bd,Ai,a1',a2,a3,a4,e,F1,a5,a6,a7,a8,a9];rw[ih,ea];rfl
theorem Axu{l:Al}{s:Bool}(hB:Db l)(Bv:100<=fu):Ac (CP p) prog fu (d+2) 109 [Bm (Ab l),C5 s]=some (if Kq l=true then ⟨[As (GH l),C5 (decide (GH l<=65535)&&decide (GH l≠dfl s))],[]⟩ else ⟨[As 0,C5 false],[]⟩):=by
 rw[EA];by_cases h1:1<=l.length
 ·by_cases h2:l.length<=5
  ·have a1:decide (((l.length:Nat):Int)<1)=false:=dF (by omega);have a2:decide (((l.length:Nat):Int)>5)=false:=dF (by omega);cases l with
   |nil=>simp at h1
   |cons c r=>
    have QV:=hB c (by simp);have a3:(Array.toList (Ab (c::r)).data)[0]?=some c.toNat.toUInt8:=rfl;have a4:=Pc QV;by_cases h0:c=48
    ·subst h0;have e:Kq (48::r)=false:=by unfold Kq;simp
     have q:((48:Int)==48)=true:=rfl;rw[e];simp only[Be,Bd,Ai,a1,a2,a3,a4,q,Bool.false_eq_true,if_false]
    ·have q:(c==48)=false:=by simp[h0]
     have e:Kq (c::r)=(c::r).all DZ:=by
      unfold Kq;rw[dT h1,dT h2];simp[h0]
     have hl:=WL (fu:=fu) (d:=d) (p:=p) (a0:=Ab (c::r)) (a1:=s) (s:=s) hB h2 (c::r) 0 fu 0 rfl (by omega) (by omega) (by decide);rw[e];simp only[Be,Bd,Ai,a1,a2,a3,a4,q];exact hl
  ·have a1:decide (((l.length:Nat):Int)<1)=false:=dF (by omega);have a2:decide (((l.length:Nat):Int)>5)=true:=dT (by omega);have e:Kq l=false:=by unfold Kq;simp[h2]
   rw[e];simp only[Be,Bd,Ai,a1,a2,Bool.false_eq_true,if_false]
 ·have a1:decide (((l.length:Nat):Int)<1)=true:=dT (by omega);have e:Kq l=false:=by unfold Kq;simp[h1]
  rw[e];simp only[Be,Bd,Ai,a1,Bool.false_eq_true,if_false]
theorem A6a{a0 s4 s7:ByteArray}{y3 y6:Bool}{y5 y8:Int}{r:Al}(hr:Db r)(hrl:r.length<=1000000)(Bv:2000<=fu){nn:Nat}:∃o1 o2 o3,B4 fu (Ac (CP p) prog fu (d+4)) a0 (nn+1) (Ab r) ((Bz 58 r).length:Int) (-1) y3 s4 y5 y6 s7 y8=some ⟨[.agg [C5 o1,Bm o2,As o3],As (CI y6 r)],[]⟩:=by
 have Nx:=RL 58 r;have hbB:Db (Bz 58 r):=by rw[Tm];exact fun x hx=>hr x (List.mem_of_mem_take hx)
 have hdB:Db (r.drop ((Bz 58 r).length+1)):=fun x hx=>hr x (List.mem_of_mem_drop hx);have c2:Ac (CP p) prog fu (d+4) 107 [Bm (Ab (Bz 58 r))]=_:=Ayu (fu:=fu) (d:=d) (p:=p) hbB (by omega) Bv;have c3:Ac (CP p) prog fu (d+4) 108 [C5 y6]=_:=Afp (fu:=fu) (d:=d+3) (p:=p) y6;have c4:Ac (CP p) prog fu (d+4) 109 [Bm (Ab (r.drop ((Bz 58 r).length+1))),C5 y6]=_:=Axu (fu:=fu) (d:=d+2) (p:=p) (s:=y6) hdB (by omega);have a1:decide ((-1:Int)>=0)=false:=rfl;have a2:decide ((0:Int)<=((Bz 58 r).length:Int))=true:=by simp
 have a3:decide (Int.toNat ((Bz 58 r).length:Int)<=r.length)=true:=dT (by omega);have a4:(Ab r).extract 0 (Int.toNat ((Bz 58 r).length:Int))=Ab (Bz 58 r):=by rw[Iq,Wt hr,<-Tm]
 rw[Il];unfold CI;by_cases hh:Vd (Bz 58 r)=0
 ·have z:((0:Int) != 0)=false:=rfl;rw[hh] at c2;simp only[ne_eq,hh,not_true_eq_false,if_false];by_cases hw:(Bz 58 r).length<r.length
  ·have a5:=dT (q:=((Bz 58 r).length:Int)<(r.length:Int)) (by omega);have a6:wrap .i64 (((Bz 58 r).length:Int)+1)=(((Bz 58 r).length+1:Nat):Int):=Bl
   have a7:decide ((0:Int)<=(((Bz 58 r).length+1:Nat):Int))=true:=dT (by omega);have a8:decide (Int.toNat (((Bz 58 r).length+1:Nat):Int)<=r.length)=true:=dT (by omega);have a9:(Ab r).extract (Int.toNat (((Bz 58 r).length+1:Nat):Int)) r.length=Ab (r.drop ((Bz 58 r).length+1)):=by rw[Iq,Xx hr]
   rw[Br (show ¬(Bz 58 r).length=r.length by omega)];by_cases hp:Kq (r.drop ((Bz 58 r).length+1))=true
   ·rw[Ch hp] at c4;by_cases hv:GH (r.drop ((Bz 58 r).length+1))<=65535/\GH (r.drop ((Bz 58 r).length+1))≠dfl y6
    ·rw[dT hv.1,dT hv.2] at c4;rw[Ch ⟨hp,hv.1,hv.2⟩];exact⟨_,_,_,by simp only[Be,Bd,Ai,dle,a1,a2,a3,a4,c2,z,c3,a5,a6,a7,a8,a9,c4,Bool.and_true,F1];rfl⟩
    ·have hb:(decide (GH (r.drop ((Bz 58 r).length+1))<=65535)&&decide (GH (r.drop ((Bz 58 r).length+1))≠dfl y6))=false:=by
      rw[Bool.eq_false_iff];intro h;rw[Fe,decide_eq_true_iff,decide_eq_true_iff] at h;exact hv h
     rw[hb] at c4;rw[Br (by rintro⟨_,h1,h2⟩;exact hv ⟨h1,h2⟩)]
     exact⟨_,_,_,by simp only[Be,Bd,Ai,dle,a1,a2,a3,a4,c2,z,c3,a5,a6,a7,a8,a9,c4,Hb];rfl⟩
   ·rw[Br hp] at c4;rw[Br (by rintro⟨h,_,_⟩;exact hp h)]
    exact⟨_,_,_,by simp only[Be,Bd,Ai,dle,a1,a2,a3,a4,c2,z,c3,a5,a6,a7,a8,a9,c4,Hb];rfl⟩
  ·have a5:=dF (q:=((Bz 58 r).length:Int)<(r.length:Int)) (by omega);rw[Ch (show (Bz 58 r).length=r.length by omega)];exact⟨_,_,_,by simp only[Be,Bd,Ai,a1,a2,a3,a4,c2,z,c3,a5];rfl⟩
 ·have b1:(Vd (Bz 58 r) != 0)=true:=by simp[hh]
  simp only[ne_eq,hh,not_false_eq_true,if_true];exact⟨_,_,_,by simp only[Be,Bd,Ai,a1,a2,a3,a4,c2,b1];rfl⟩
theorem Awo{r:Al}{k:Nat}(hk:k<r.length){c:Int}(hc:r[k]?=some c):(Bz 58 (r.drop k)).length=if c=58 then 0 else (Bz 58 (r.drop (k+1))).length+1:=by
 have e:r.drop k=c::r.drop (k+1):=by
  rw[List.drop_eq_getElem_cons hk];rw[List.getElem?_eq_getElem hk] at hc;cases hc;rfl
 rw[e];by_cases h:c=58
 ·subst h;rw[Ab7,Ch rfl];rfl
 ·rw[Ae0 _ h,Br h];rfl
theorem Ay1{a0 s4 s7:ByteArray}{y3 y6:Bool}{y5 y8:Int}{r:Al}(hr:Db r)(hrl:r.length<=1000000)(Bv:2000<=fu):∀(k nn:Nat),k<=r.length->k+1<=nn->∃o1 o2 o3,B4 fu (Ac (CP p) prog fu (d+4)) a0 nn (Ab r) ((k+(Bz 58 (r.drop k)).length:Nat):Int) ((k:Int)-1) y3 s4 y5 y6 s7 y8=some ⟨[.agg [C5 o1,Bm o2,As o3],As (CI y6 r)],[]⟩:=by
 intro k
 induction k with
 |zero=>
  intro nn hk Hs;obtain⟨q,rfl⟩:∃q,nn=q+1:=⟨nn-1,by omega⟩
  have:=A6a (fu:=fu) (d:=d) (p:=p) (a0:=a0) (s4:=s4) (s7:=s7) (y3:=y3) (y6:=y6) (y5:=y5) (y8:=y8) hr hrl Bv (nn:=q);rw[Ls,Ir];exact this
 |succ k ih=>
  intro nn hk Hs;obtain⟨q,rfl⟩:∃q,nn=q+1:=⟨nn-1,by omega⟩
  obtain⟨c,hc⟩:∃c,r[k]?=some c:=⟨_,List.getElem?_eq_getElem (by omega)⟩
  have QV:=hr c (List.mem_of_getElem? hc);have hbd:=Awo (show k<r.length by omega) hc;obtain⟨o1,o2,o3,h⟩:=ih q (by omega) (by omega);refine⟨o1,o2,o3,?_⟩;have a1:decide (((k+1:Nat):Int)-1>=0)=true:=dT (by omega);have a2:decide ((0:Int)<=((k+1:Nat):Int)-1)=true:=dT (by omega)
  have a3:(Array.toList (Ab r).data)[Int.toNat (((k+1:Nat):Int)-1)]?=some c.toNat.toUInt8:=by
   rw[show Int.toNat (((k+1:Nat):Int)-1)=k by omega];show (r.map fun n=>n.toNat.toUInt8)[k]?=_;rw[List.getElem?_map,hc];rfl
  have a4:=Pc QV;have a5:wrap .i64 (((k+1:Nat):Int)-1-1)=(k:Int)-1:=Bl
  rw[Il];by_cases h58:c=58
  ·rw[Ch h58] at hbd;have q1:(c==58)=true:=by simp[h58]
   rw[hbd] at h;simp only[Be,Bd,a1,a2,a3,a4,q1,a5];rw[show ((k+1:Nat):Int)-1=((k+0:Nat):Int) by omega];exact h
  ·rw[Br h58] at hbd;have q1:(c==58)=false:=by simp[h58]
   rw[hbd] at h;simp only[Be,Bd,a1,a2,a3,a4,q1,a5];rw[show k+1+(Bz 58 (r.drop (k+1))).length=k+((Bz 58 (r.drop (k+1))).length+1) by omega];exact h
theorem Ate{l:Al}(hB:Db l)(hs:l.length<=1000000)(Bv:2000<=fu)(MH:l.length+1<=fu):∃o1 o2 o3,Ac (CP p) prog fu (d+5) 65 [Bm (Ab l)]=some ⟨[.agg [C5 o1,Bm o2,As o3],As (Fn l)],[]⟩:=by
  have er:=Sm (p:=p) fu (d+4) (Ab l)
  have sT:Ac (CP p) prog fu (d+4) 106 [C5 true]=some ⟨[Bm (Ab [104,116,116,112,115,58,47,47])],[]⟩:=by
    refine (N0 (p:=p) fu (d+3) true).trans ?_
    simp only[Be,Bd]
    rfl
  have sF:Ac (CP p) prog fu (d+4) 106 [C5 false]=some ⟨[Bm (Ab [104,116,116,112,58,47,47])],[]⟩:=by
    refine (N0 (p:=p) fu (d+3) false).trans ?_
    simp only[Be,Bd]
    rfl
  have hB8:Db [104,116,116,112,115,58,47,47]:=fun x hx=>by simp at hx;omega
  have hB7:Db [104,116,116,112,58,47,47]:=fun x hx=>by simp at hx;omega
  have l8:(Ab [104,116,116,112,115,58,47,47]).size=8:=rfl
  have l7:(Ab [104,116,116,112,58,47,47]).size=7:=rfl
  have n8:([104,116,116,112,115,58,47,47]:Al).length=8:=rfl
  have n7:([104,116,116,112,58,47,47]:Al).length=7:=rfl
  have e8:(ByteArray.mk #[104,116,116,112,115,58,47,47])=Ab [104,116,116,112,115,58,47,47]:=rfl
  have tk:∀n,Db (l.take n):=fun n x hx=>hB x (List.mem_of_mem_take hx)
  have loop:∀(m:Nat) (s:Bool),m<=l.length->∃o1 o2 o3,B4 fu (Ac (CP p) prog fu (d+4)) (Ab l) fu (Ab (l.drop m)) (((Ab (l.drop m)).size:Nat):Int) (wrap .i64 ((((Ab (l.drop m)).size:Nat):Int)-1)) false (ByteArray.mk #[]) 0 s (ByteArray.mk #[]) 0=some ⟨[.agg [C5 o1,Bm o2,As o3],As (CI s (l.drop m))],[]⟩:=by
    intro m s hm
    have hd:Db (l.drop m):=fun x hx=>hB x (List.mem_of_mem_drop hx)
    have XO:(l.drop m).length=l.length-m:=List.length_drop
    obtain⟨o1,o2,o3,h⟩:=Ay1 (fu:=fu) (d:=d) (p:=p) (a0:=Ab l) (s4:=ByteArray.mk #[]) (s7:=ByteArray.mk #[]) (y3:=false) (y6:=s) (y5:=0) (y8:=0) hd (by omega) Bv (l.drop m).length fu (Cd _) (by omega)
    refine⟨o1,o2,o3,?_⟩
    rw[Ai,Bj]
    have e:(l.drop m).length+(Bz 58 ((l.drop m).drop (l.drop m).length)).length=(l.drop m).length:=by
      rw[List.drop_length];rfl
    rw[e] at h
    exact h
  unfold Fn
  have plain:∀(h7:List.isPrefixOf [104,116,116,112,115,58,47,47] l=false),∃o1 o2 o3,(Ax (decide (((l.length:Nat):Int)<((7:Nat):Int)))
    (some (Bq.mk [PV.agg [PV.sc (Value.bool false),PV.sc (Value.string ⟨#[]⟩),PV.sc (Value.int IntKind.i64 (0:Int))],PV.sc (Value.int IntKind.i64 (2:Int))] []))
    (Ax (!decide (l.take 7=[104,116,116,112,58,47,47]))
     (some (Bq.mk [PV.agg [PV.sc (Value.bool false),PV.sc (Value.string ⟨#[]⟩),PV.sc (Value.int IntKind.i64 (0:Int))],PV.sc (Value.int IntKind.i64 (2:Int))] []))
     (B4 fu (Ac (CP p) prog fu (d+4)) (Ab l) fu (Ab (l.drop 7)) (((Ab (l.drop 7)).size:Nat):Int) (wrap .i64 ((((Ab (l.drop 7)).size:Nat):Int)-1)) false (ByteArray.mk #[]) 0 false (ByteArray.mk #[]) 0)))=some ⟨[.agg [C5 o1,Bm o2,As o3],As (if List.isPrefixOf [104,116,116,112,58,47,47] l=true then CI false (l.drop 7) else 2)],[]⟩:=by
    intro _
    by_cases hl7:l.length<7
    · have hn:List.isPrefixOf [104,116,116,112,58,47,47] l=false:=by
        rw[Bool.eq_false_iff,ne_eq,List.isPrefixOf_iff_prefix]
        intro h
        have:=h.length_le
        simp at this
        omega
      rw[dT (show ((l.length:Nat):Int)<((7:Nat):Int) by omega),hn]
      exact⟨_,_,_,rfl⟩
    · rw[dF (show ¬((l.length:Nat):Int)<((7:Nat):Int) by omega)]
      have hp:=Agb (w:=[104,116,116,112,58,47,47]) (l:=l) (by simp;omega)
      rw[show ([104,116,116,112,58,47,47]:Al).length=7 from rfl] at hp
      rw[hp]
      cases List.isPrefixOf [104,116,116,112,58,47,47] l
      · exact⟨_,_,_,rfl⟩
      · obtain⟨o1,o2,o3,h⟩:=loop 7 false (by omega)
        exact⟨o1,o2,o3,h⟩
  have x7:(Ab l).extract 0 (Int.toNat ((7:Nat):Int))=Ab (l.take 7):=Wt hB 7
  have y7:(Ab l).extract (Int.toNat ((7:Nat):Int)) l.length=Ab (l.drop 7):=Xx hB 7
  have x8:(Ab l).extract 0 8=Ab (l.take 8):=Wt hB 8
  have x8':(Ab l).extract 0 (Int.toNat ((8:Nat):Int))=Ab (l.take 8):=Wt hB 8
  have y8:(Ab l).extract (Int.toNat ((8:Nat):Int)) l.length=Ab (l.drop 8):=Xx hB 8
  have q7:=LB (tk 7) hB7
  have q8:=LB (tk 8) hB8
  by_cases h8:l.length>=8
  · have a1:=dT (q:=((l.length:Nat):Int)>=8) (by omega)
    have a2:=dT (q:=8<=l.length) h8
    have hp:=Agb (w:=[104,116,116,112,115,58,47,47]) (l:=l) (by simp;omega)
    rw[show ([104,116,116,112,115,58,47,47]:Al).length=8 from rfl] at hp
    rw[hp] at q8
    have a3:=dT (q:=Int.toNat ((7:Nat):Int)<=l.length) (by omega)
    have a4:=dT (q:=Int.toNat ((8:Nat):Int)<=l.length) (by omega)
    cases h1:List.isPrefixOf [104,116,116,112,115,58,47,47] l
    · rw[h1] at q8
      simp only[Bool.false_eq_true,if_false]
      obtain⟨o1,o2,o3,Xq⟩:=plain h1
      refine⟨o1,o2,o3,er.trans ?_⟩
      rw[e8]
      simp only[Be,Bd,Ai,dle,a1,a2,x8,q8,sF]
      simp only[Be,Bd,l7,n7,a3,x7,q7,y7] at Xq ⊢
      exact Xq
    · rw[h1] at q8
      simp only[if_true]
      have a5:=dF (q:=((l.length:Nat):Int)<((8:Nat):Int)) (by omega)
      obtain⟨o1,o2,o3,h⟩:=loop 8 true h8
      refine⟨o1,o2,o3,er.trans ?_⟩
      rw[e8]
      simp only[Be,Bd,Ai,dle,a1,a2,x8,q8,sT]
      simp only[Be,Bd,l8,n8,a5,a4,x8',q8,y8,F1]
      exact h
  · have a1:=dF (q:=((l.length:Nat):Int)>=8) (by omega)
    have h1:List.isPrefixOf [104,116,116,112,115,58,47,47] l=false:=by
      rw[Bool.eq_false_iff,ne_eq,List.isPrefixOf_iff_prefix]
      intro h
      have:=h.length_le
      simp at this
      omega
    rw[h1]
    simp only[Bool.false_eq_true,if_false]
    obtain⟨o1,o2,o3,Xq⟩:=plain h1
    refine⟨o1,o2,o3,er.trans ?_⟩
    simp only[Be,Bd,Ai,dle,a1,sF]
    by_cases h7:l.length<7
    · have a2:=dT (q:=((l.length:Nat):Int)<((7:Nat):Int)) (by omega)
      rw[a2] at Xq
      simp only[Be,Bd,l7,n7,a2] at Xq ⊢
      exact Xq
    · have a2:=dF (q:=((l.length:Nat):Int)<((7:Nat):Int)) (by omega)
      have a3:=dT (q:=Int.toNat ((7:Nat):Int)<=l.length) (by omega)
      rw[a2] at Xq
      simp only[Be,Bd,l7,n7,a2,a3,x7,q7,y7] at Xq ⊢
      exact Xq
end
def RA:Al:=[123,34,116,121,112,101,34,58,34]
def WP:Al:=[34,44,34,99,104,97,108,108,101,110,103,101,34,58,34]
def fA3:Al:=[34,44,34,111,114,105,103,105,110,34,58,34]
def fA4:Al:=[34,44,34,99,114,111,115,115,79,114,105,103,105,110,34,58,102,97,108,115,101,125]
def fA5:Al:=[34,44,34,99,114,111,115,115,79,114,105,103,105,110,34,58,116,114,117,101,44,34,116,111,112,79,114,105,103,105,110,34,58,34]
def fA6:Al:=[34,125]
def fA7:Al:=[34,44,34,99,114,111,115,115,79,114,105,103,105,110,34,58]
def fA8:Al:=[102,97,108,115,101,125]
def fA9:Al:=[116,114,117,101,44,34,116,111,112,79,114,105,103,105,110,34,58,34]
theorem Aco:(ByteArray.mk #[123,34,116,121,112,101,34,58,34])=Ab RA:=rfl
theorem Ab8:(ByteArray.mk #[34,44,34,99,104,97,108,108,101,110,103,101,34,58,34])=Ab WP:=rfl
theorem Ach:(ByteArray.mk #[34,44,34,111,114,105,103,105,110,34,58,34])=Ab fA3:=rfl
theorem Au0:(ByteArray.mk #[34,125])=Ab fA6:=rfl
theorem Ado:(ByteArray.mk #[34,44,34,99,114,111,115,115,79,114,105,103,105,110,34,58])=Ab fA7:=rfl
theorem As7:(ByteArray.mk #[102,97,108,115,101,125])=Ab fA8:=rfl
theorem Ar9:(ByteArray.mk #[116,114,117,101,44,34,116,111,112,79,114,105,103,105,110,34,58,34])=Ab fA9:=rfl
theorem OZ:(ByteArray.mk #[])=Ab []:=rfl
theorem Azl:fA4=fA7++fA8:=rfl
theorem A1f:fA5=fA7++fA9:=rfl
theorem A81:Db []:=fun x hx=>by cases hx
def tyS(k:Int):Option Al:=if k=1 then some tyC else if k=2 then some tyG else none
def fmH(ty ch o:Al):Al:=RA++ty++WP++J9 ch++fA3++o
def QL(k:Int)(ch o t:Al)(x:Bool):JR Al:=
 match tyS k with
 |none=>.error 3
 |some ty=>if ch.length<1\/64<ch.length then .error 9 else if Fn o≠0 then .error (Fn o)
  else if x=false then (if t=[] then .ok (fmH ty ch o++fA4) else .error 4)
  else if Fn t≠0 then .error (Fn t) else .ok (fmH ty ch o++fA5++t++fA6)
def Ay7(r:JR Al):Bq:=match r with | .ok s=>⟨[Bm (Ab s),As 0],[]⟩ | .error e=>⟨[Bm (Ab []),As e],[]⟩
section
variable {fu d:Nat}{p:Option (Ae->Option Bq)}
abbrev cdA(k:Int)(ch o t:Al)(x:Bool):PV:=.agg [As k,.lst false 1 ch.length (Af .u8 ch),Bm (Ab o),C5 x,Bm (Ab t)]
theorem nn0(e:Int)(h:e≠0):(e != 0)=true:=by simp[h]
theorem A0z(k:Int):Ac (CP p) prog fu (d+1) 64 [As k]=some ⟨[Bm (Ab ((tyS k).getD []))],[]⟩:=by
 rw[Zk];unfold tyS;by_cases h1:k=1
 ·subst h1;have k1:((1:Int)==1)=true:=rfl;rw[Ch rfl];simp only[Be,Bd,k1];rfl
 have k1:(k==1)=false:=by simp[h1]
 by_cases h2:k=2
 ·subst h2;have k2:((2:Int)==2)=true:=rfl;rw[Br h1,Ch rfl];simp only[Be,Bd,k1,k2];rfl
 have k2:(k==2)=false:=by simp[h2]
 rw[Br h1,Br h2];simp only[Be,Bd,k1,k2];rfl
theorem Aru{k:Int}{ty:Al}(h:tyS k=some ty):Db ty/\ty≠[]/\ty.length<=14:=by
 unfold tyS at h;split at h
 ·cases h;exact⟨fun x hx=>by simp[tyC] at hx;omega,by decide,by decide⟩
 split at h
 ·cases h;exact⟨fun x hx=>by simp[tyG] at hx;omega,by decide,by decide⟩
 ·cases h
set_option maxHeartbeats 4000000 in
theorem Aqj{k:Int}{ch o t:Al}{x:Bool}(hch:Db ch)(ho:Db o)(ht:Db t)(Nq:ch.length<=100000)(hol:o.length<=1000000)(htl:t.length<=1000000)(Bv:2000<=fu)(hfc:ch.length+1<=fu)(hfo:o.length+1<=fu)(hft:t.length+1<=fu):
  Ac (CP p) prog fu (d+6) 33 [cdA k ch o t x]=some (Ay7 (QL k ch o t x)):=by
 have er:=Tx (p:=p) fu (d+5) k ch.length (Af .u8 ch) (Ab o) x (Ab t);refine er.trans ?_;obtain⟨o1,o2,o3,eo⟩:=Ate (fu:=fu) (d:=d) (p:=p) ho hol (by omega) hfo;obtain⟨t1,t2,t3,et⟩:=Ate (fu:=fu) (d:=d) (p:=p) ht htl (by omega) hft;have eo:Ac (CP p) prog fu (d+5) 65 [Bm (Ab o)]=_:=eo;have et:Ac (CP p) prog fu (d+5) 65 [Bm (Ab t)]=_:=et;have ee:Ac (CP p) prog fu (d+5) 66 [.lst false 1 ch.length (Af .u8 ch)]=_:=Axq (fu:=fu) (d:=d+4) (p:=p) hch Nq (by omega) hfc;have ek:Ac (CP p) prog fu (d+5) 64 [As k]=_:=A0z (fu:=fu) (d:=d+4) (p:=p) k;have hel:=RF ch;have z0:((0:Int) != 0)=false:=rfl;have tq:(Array.toList (Ab t).data==[])=decide (t=[]):=LB (b:=[]) ht A81;unfold QL;cases hty:tyS k with
 |none=>
  rw[hty] at ek;have q:((([]:List UInt8)==[])=true):=rfl;simp only[Be,Bd,ek,Option.getD_none,OZ,q];rfl
 |some ty=>
  rw[hty] at ek;obtain⟨htB,htn,Bl2⟩:=Aru hty;have q:(Array.toList (Ab ty).data==[])=false:=(LB (b:=[]) htB A81).trans (dF htn);have c1:decide (9+ty.length<=9223372036854775807)=true:=dT (by omega);have c2:decide ((RA++ty).length+15<=9223372036854775807)=true:=dT (by simp[RA];omega)
  have c3:decide ((RA++ty++WP).length+(J9 ch).length<=9223372036854775807)=true:=dT (by simp[RA,WP];omega)
  have c4:decide ((RA++ty++WP++J9 ch).length+12<=9223372036854775807)=true:=dT (by simp[RA,WP];omega)
  have c5:decide ((RA++ty++WP++J9 ch++fA3).length+o.length<=9223372036854775807)=true:=dT (by simp[RA,WP,fA3];omega)
  have c6:decide ((RA++ty++WP++J9 ch++fA3++o).length+16<=9223372036854775807)=true:=dT (by simp[RA,WP,fA3];omega)
  have c7:decide ((RA++ty++WP++J9 ch++fA3++o++fA7).length+6<=9223372036854775807)=true:=dT (by simp[RA,WP,fA3,fA7];omega)
  have c8:decide ((RA++ty++WP++J9 ch++fA3++o++fA7).length+18<=9223372036854775807)=true:=dT (by simp[RA,WP,fA3,fA7];omega)
  have c9:decide ((RA++ty++WP++J9 ch++fA3++o++fA7++fA9).length+t.length<=9223372036854775807)=true:=dT (by simp[RA,WP,fA3,fA7,fA9];omega)
  have d1:decide ((RA++ty++WP++J9 ch++fA3++o++fA7++fA9++t).length+2<=9223372036854775807)=true:=dT (by simp[RA,WP,fA3,fA7,fA9];omega)
  simp only;by_cases h1:ch.length<1
  ·have a1:=dT (q:=((ch.length:Nat):Int)<1) (by omega);rw[Ch (.inl h1)];simp only[Be,Bd,ek,Option.getD_some,OZ,q,a1];rfl
  have a1:=dF (q:=((ch.length:Nat):Int)<1) (by omega);by_cases h2:64<ch.length
  ·have a2:=dT (q:=((ch.length:Nat):Int)>64) (by omega);rw[Ch (.inr h2)];simp only[Be,Bd,ek,Option.getD_some,OZ,q,a1,a2];rfl
  have a2:=dF (q:=((ch.length:Nat):Int)>64) (by omega);rw[Br (by omega)];by_cases hoE:Fn o=0
  rotate_left
  ·have a3:=nn0 _ hoE;rw[Ch hoE];simp only[Be,Bd,ek,Option.getD_some,OZ,q,a1,a2,eo,a3];rfl
  rw[Br (by simp[hoE])];rw[hoE] at eo;cases x with
  |false=>
   rw[Ch rfl];by_cases hte:t=[]
   ·rw[dT hte] at tq;rw[Ch hte];simp only[Be,Bd,ek,Option.getD_some,OZ,q,a1,a2,eo,z0,tq,F1,Hb,ee,Ai,Aco,Ab8,Ach,Ado,As7,Pw,c1,c2,c3,c4,c5,c6,c7];show some (Bq.mk _ [])=_;unfold Ay7 fmH;rw[Azl];simp only[Zzv]
   ·rw[dF hte] at tq;rw[Br hte];simp only[Be,Bd,ek,Option.getD_some,OZ,q,a1,a2,eo,z0,tq,F1,Hb,ee,Ai,Aco,Ab8,Ach,Ado,As7,Pw,c1,c2,c3,c4,c5,c6,c7];rfl
  |true=>
   rw[Br (by decide)];by_cases htE:Fn t=0
   ·rw[htE] at et;rw[Br (by simp[htE])];simp only[Be,Bd,ek,Option.getD_some,OZ,q,a1,a2,eo,et,z0,F1,Hb,ee,Ai,Aco,Ab8,Ach,Au0,Ado,Ar9,Pw,c1,c2,c3,c4,c5,c6,c8,c9,d1];show some (Bq.mk _ [])=_;unfold Ay7 fmH;rw[A1f];simp only[Zzv]
   ·have a4:=nn0 _ htE;rw[Ch htE];simp only[Be,Bd,ek,Option.getD_some,OZ,q,a1,a2,eo,et,z0,a4,F1,Hb,ee,Ai,Aco,Ab8,Ach,Au0,Ado,Ar9,Pw,c1,c2,c3,c4,c5,c6,c8,c9,d1];rfl
end
def WS(c:Int):Bool:=decide (33<=c)&&decide (c<=126)&&c != 34&&c != 92
theorem IG{c:Int}:WS c=true↔33<=c/\c<=126/\c≠34/\c≠92:=by unfold WS;simp;omega
theorem NA(c:Int):∀{l:Al}{x:Int},x∈l->x=c\/∃q∈Bg c l,x∈q
 |a::r,x,hx=>by
  unfold Bg;by_cases ha:a=c
  ·rw[Ch ha];rcases Ce.1 hx with rfl|hx
   ·exact .inl ha
   ·rcases NA c hx with h|⟨q,hq,h⟩
    ·exact .inl h
    ·exact .inr ⟨q,by simp[hq],h⟩
  ·rw[Br ha];cases hs:Bg c r with
   |nil=>exact absurd hs (R9 c r)
   |cons b t=>
    rcases Ce.1 hx with rfl|hx
    ·exact .inr ⟨x::b,by simp,by simp⟩
    ·rcases NA c hx with h|⟨q,hq,h⟩
     ·exact .inl h
     ·rw[hs] at hq;rcases Ce.1 hq with rfl|hq
      ·exact .inr ⟨a::q,by simp,by simp[h]⟩
      ·exact .inr ⟨q,by simp[hq],h⟩
theorem Akh{l:Al}(h:Vd l=0):l.all WS=true:=by
 unfold Vd at h;split at h
 ·cases h
 split at h
 ·cases h
 rename_i _ h2
 have h2:(Bg 46 l).all L4=true:=by
  cases hq:(Bg 46 l).all L4
  ·exact absurd hq h2
  ·rfl
 rw[List.all_eq_true];intro x hx;rcases NA 46 hx with rfl|⟨q,hq,hxq⟩
 ·rfl
 ·have hl:=List.all_eq_true.1 h2 q hq;unfold L4 at hl;rw[Fe] at hl;have hb:=List.all_eq_true.1 hl.2 x hxq;unfold ltB DZ at hb;rw[IG];simp at hb;omega
theorem VN{s:Bool}{r:Al}(h:CI s r=0):r.all WS=true:=by
 unfold CI at h;simp only at h;by_cases hh:Vd (Bz 58 r)=0
 ·rw[Br (by simp[hh])] at h;have hc:=Akh hh;by_cases hl:(Bz 58 r).length=r.length
  ·rwa [Al5 58 r (by omega)] at hc
  ·rw[Br hl] at h;split at h
   ·rename_i hp
    have hd:(r.drop ((Bz 58 r).length+1)).all DZ=true:=by
     have:=hp.1;unfold Kq at this;rw[Fe] at this;exact this.2
    have Ci:(Bz 58 r).length<r.length:=by have:=RL 58 r;omega
    have A9z:r[(Bz 58 r).length]?=some 58:=by
     obtain⟨c,hcc⟩:∃c,r[(Bz 58 r).length]?=some c:=⟨_,List.getElem?_eq_getElem Ci⟩
     have e:r.drop (Bz 58 r).length=r.dropWhile (fun x=>x != 58):=by
      have h1:r.takeWhile (fun x=>x != 58)++r.dropWhile (fun x=>x != 58)=r:=List.takeWhile_append_dropWhile;have h2:=congrArg (List.drop (Bz 58 r).length) h1;have h3:(List.takeWhile (fun x=>x != 58) r++List.dropWhile (fun x=>x != 58) r).drop (Bz 58 r).length=List.dropWhile (fun x=>x != 58) r:=List.drop_left;rw[<-h2];exact h3
     have e2:(r.dropWhile (fun x=>x != 58))[0]?=some c:=by rw[<-e,List.getElem?_drop];simpa using hcc
     cases hdw:r.dropWhile (fun x=>x != 58) with
     |nil=>rw[hdw] at e2;cases e2
     |cons y t=>
      rw[hdw] at e2;have:y=c:=by simpa using e2
      subst this;have hn:=List.head?_dropWhile_not (fun x:Int=>x != 58) r;rw[hdw] at hn;simp at hn;rw[hcc,hn]
    have e:r=Bz 58 r++58::r.drop ((Bz 58 r).length+1):=by
     have h1:=(List.take_append_drop (Bz 58 r).length r).symm;rw[<-Tm] at h1;rw[List.getElem?_eq_getElem Ci] at A9z;rw[List.drop_eq_getElem_cons Ci] at h1;have:r[(Bz 58 r).length]=58:=by simpa using A9z
     rw[this] at h1;exact h1
    rw[e,List.all_append,hc,List.all_cons]
    have:(r.drop ((Bz 58 r).length+1)).all WS=true:=by
     rw[List.all_eq_true] at hd ⊢;intro x hx;have:=(JI x).1 (hd x hx);rw[IG];omega
    rw[this];rfl
   ·cases h
 ·rw[Ch hh] at h;exact absurd h hh
theorem Aaj{l:Al}(h:Fn l=0):l.all WS=true:=by
 unfold Fn at h
 have key:∀w:Al,w.all WS=true->w.isPrefixOf l=true->(l.drop w.length).all WS=true->l.all WS=true:=by
  intro w hw hp hd;have e:=List.prefix_iff_eq_append.1 (List.isPrefixOf_iff_prefix.1 hp);rw[<-e,List.all_append,hw,hd];rfl
 split at h
 ·rename_i hp;exact key _ (by decide) hp (VN h)
 split at h
 ·rename_i hp;exact key _ (by decide) hp (VN h)
 ·cases h
theorem Ke{v:Int}(h0:0<=v)(h1:v<64):WS (Ot v)=true:=by
 rw[IG];unfold Ot;split
 ·omega
 split
 ·omega
 split
 ·omega
 split<;>omega
theorem MZ:∀{l:Al},Db l->(J9 l).all WS=true
 |[],_=>rfl
 |[a],h=>by
  obtain⟨ha,_⟩:=D6 h;unfold J9;rw[List.all_cons,List.all_cons,Ke (by omega) (by omega),Ke (by omega) (by omega)];rfl
 |[a,b],h=>by
  obtain⟨ha,h⟩:=D6 h;obtain⟨hb,_⟩:=D6 h;unfold J9;rw[List.all_cons,List.all_cons,List.all_cons,Ke (by omega) (by omega),Ke (by omega) (by omega),Ke (by omega) (by omega)];rfl
 |a::b::c::r,h=>by
  obtain⟨ha,h⟩:=D6 h;obtain⟨hb,h⟩:=D6 h;obtain⟨hc,h⟩:=D6 h;have e:J9 (a::b::c::r)=Ot (a / 4)::Ot (a % 4*16+b / 16)::Ot (b % 16*4+c / 64)::Ot (c % 64)::J9 r:=rfl;rw[e,List.all_cons,List.all_cons,List.all_cons,List.all_cons,Ke (by omega) (by omega),Ke (by omega) (by omega),Ke (by omega) (by omega),Ke (by omega) (by omega),MZ h];rfl
theorem UC:∀(s:Al)(n:Nat)(out r:Al),s.all WS=true->s.length<n->Mp n out (s++34::r)=(some (out++s),r)
  |[],n,out,r,_,hn=>by
    obtain⟨m,rfl⟩:∃m,n=m+1:=⟨n-1,by simp at hn;omega⟩
    show (if (34:Int)<32 then _ else if (34:Int)=34 then (some out,r) else _)=_
    rw[Br (by decide),Ch rfl,List.append_nil]
  |c::s,n,out,r,h,hn=>by
    obtain⟨m,rfl⟩:∃m,n=m+1:=⟨n-1,by simp at hn;omega⟩
    rw[List.all_cons,Fe] at h
    have hc:=IG.1 h.1
    have e:Mp (m+1) out (c::(s++34::r))=if c<32 then (none,c::(s++34::r)) else if c=34 then (some out,s++34::r) else if c=92 then
        (match Ua (s++34::r) with
         |(some x,r')=>Mp m (out++Lib.encodeRuneZ x) r'
         |(none,r')=>(none,r')) else Mp m (out++[c]) (s++34::r):=rfl
    rw[Zzp,e,Br (by omega),Br (by omega),Br (by omega),UC s m (out++[c]) r h.2 (by simp at hn;omega)]
    simp
theorem OV{s r:Al}(h:s.all WS=true):Gu (34::(s++34::r))=(some s,r):=by
 have e:Gu (34::(s++34::r))=if (34:Int)=34 then Mp ((s++34::r).length+1) [] (s++34::r) else (none,34::(s++34::r)):=rfl
 rw[e,Ch rfl,UC s _ [] r h (by simp;omega)]
 rfl
def VOk(vt:Al)(v:JV):Prop:=(∀r,Hn 8 (vt++r)=.ok (v,r))/\∃y z,vt=y::z/\GV y=false
theorem RQ{s:Al}(h:s.all WS=true):VOk (34::(s++[34])) (4,s,false):=by
 refine⟨fun r=>?_,34,_,rfl,rfl⟩;have e:(34::(s++[34]))++r=34::(s++34::r):=by simp
 rw[e];have e2:Hn 8 (34::(s++34::r))=(match IP (34::(s++34::r)) with|none=>.error 2|some (s,r')=>.ok ((4,s,false),r')):=rfl;have e3:IP (34::(s++34::r))=some (s,r):=by unfold IP;rw[OV h]
 rw[e2,e3]
theorem Apx:VOk [102,97,108,115,101] (2,[],false):=⟨fun r=>rfl,102,_,rfl,rfl⟩
theorem Avq:VOk [116,114,117,101] (2,[],true):=⟨fun r=>rfl,116,_,rfl,rfl⟩
theorem NL{y:Int}{r:Al}(h:GV y=false):Bx (y::r)=y::r:=by show (if GV y=true then Bx r else y::r)=_;rw[Br (by rw[h];decide)]
def T8(nm vt:Al):Al:=34::(nm++34::58::vt)
theorem CU{n:Nat}{ms:List (Al × JV)}{nm vt:Al}{v:JV}{c:Int}{rest:Al}(hn:nm.all WS=true)(hv:VOk vt v)(hd:(ms.any fun m=>m.1==nm)=false)(hc:c=44\/c=125):
  Zl (Hn 8) true (n+1) ms (T8 nm vt++c::rest)=if c=125 then .ok (ms++[(nm,v)],rest) else Zl (Hn 8) true n (ms++[(nm,v)]) (Bx rest):=by
 obtain⟨hv,y,z,rfl,hy⟩:=hv;have e:T8 nm (y::z)++c::rest=34::(nm++34::(58::(y::z++c::rest))):=by unfold T8;simp
 have hws:GV c=false:=by rcases hc with rfl|rfl<;>rfl
 rw[e,IK,OV hn];simp only;rw[Zzm,hd,Br (by decide),NL (show GV 58=false from rfl)];have e58:A4 [58] (58::(y::z++c::rest))=some (y::z++c::rest):=by rw[F8];rfl
 rw[e58];simp only;rw[Zzp,NL hy,<-Zzp,hv];simp only;rw[NL hws];rcases hc with rfl|rfl
 ·have e1:A4 [125] (44::rest)=none:=by rw[F8];rfl
  have e2:A4 [44] (44::rest)=some rest:=by rw[F8];rfl
  rw[e1,e2,Br (by decide)]
 ·have e1:A4 [125] (125::rest)=some rest:=by rw[F8];rfl
  rw[e1,Ch rfl]
def A45(ty ch o t:Al)(x:Bool):List (Al × JV):=
 [(Vi,(4,ty,false)),(DD,(4,J9 ch,false)),(nmO,(4,o,false)),(nmX,(2,[],x))]++(if x=true then [(nmP,(4,t,false))] else [])
def wsL(w:Al):Prop:=w.all GV=true
theorem Akj:∀{w:Al}(r:Al),wsL w->Bx (w++r)=Bx r
 |[],_,_=>rfl
 |c::w,r,h=>by
  unfold wsL at h;rw[List.all_cons,Fe] at h;show (if GV c=true then Bx (w++r) else _)=_;rw[Ch h.1];exact Akj r h.2
def Jm(ty ch o t:Al)(x:Bool):Al:=
 T8 Vi (34::(ty++[34]))++44::(T8 DD (34::(J9 ch++[34]))++44::(T8 nmO (34::(o++[34]))++44::(T8 nmX (if x=true then [116,114,117,101] else [102,97,108,115,101])++(if x=true then 44::(T8 nmP (34::(t++[34]))++[125]) else [125]))))
theorem Agu{ty ch o t:Al}{x:Bool}{w:Al}(hw:wsL w)(hty:ty.all WS=true)(hch:Db ch)(ho:o.all WS=true)(ht:t.all WS=true):
  Age 8 (w++(123::Jm ty ch o t x)++w)=.ok (A45 ty ch o t x):=by
 have hww:Bx w=[]:=by
  have:=Akj (w:=w) [] hw
  rwa [List.append_nil] at this
 have e0:w++(123::Jm ty ch o t x)++w=w++(123::(Jm ty ch o t x++w)):=by simp
 rw[NS,e0,Akj _ hw,NL (show GV 123=false from rfl)];have e1:A4 [123] (123::(Jm ty ch o t x++w))=some (Jm ty ch o t x++w):=by rw[F8];rfl
 rw[e1];simp only;have eb:Jm ty ch o t x++w=34::((Jm ty ch o t x++w).tail):=by unfold Jm T8;rfl
 have esk:Bx (Jm ty ch o t x++w)=Jm ty ch o t x++w:=by rw[eb];exact NL rfl
 have e125:A4 [125] (Jm ty ch o t x++w)=none:=by rw[eb,F8];rfl
 rw[CW,esk,e125];simp only
 obtain⟨N,hN⟩:∃N,(Jm ty ch o t x++w).length+1=N+5:=⟨(Jm ty ch o t x++w).length-4,by
  have:4<=(Jm ty ch o t x++w).length:=by unfold Jm T8;simp;omega
  omega⟩
 rw[hN];have skm:∀nm vt r,Bx (T8 nm vt++r)=T8 nm vt++r:=fun nm vt r=>NL rfl
 have b1:Jm ty ch o t x++w=T8 Vi (34::(ty++[34]))++44::(T8 DD (34::(J9 ch++[34]))++44::(T8 nmO (34::(o++[34]))++44::(T8 nmX (if x=true then [116,114,117,101] else [102,97,108,115,101])++((if x=true then 44::(T8 nmP (34::(t++[34]))++[125]) else [125])++w)))):=by
  unfold Jm;simp only[Zzv,Zzp]
 rw[b1,CU (by decide) (RQ hty) rfl (.inl rfl),Br (by decide),skm,
  CU (by decide) (RQ (MZ hch)) rfl (.inl rfl),Br (by decide),skm,
  CU (by decide) (RQ ho) rfl (.inl rfl),Br (by decide),skm]
 cases x with
 |false=>
  rw[Br (by decide),Br (by decide),Zzp,WU,CU (by decide) Apx rfl (.inr rfl),Ch rfl];simp only[WU];rw[Ch hww];rfl
 |true=>
  have es:T8 nmP (34::(t++[34]))++[125]++w=T8 nmP (34::(t++[34]))++125::w:=by simp
  rw[Ch rfl,Ch rfl,Zzp,es,CU (by decide) Avq rfl (.inl rfl),Br (by decide),skm,
   CU (by decide) (RQ ht) rfl (.inr rfl),Ch rfl]
  simp only[WU];rw[Ch hww];rfl
theorem Ab0{ty ch o t:Al}{x:Bool}{k:Int}(hk:tyS k=some ty)(hch:Db ch)(h1:1<=ch.length)(h2:ch.length<=64)(ho:Fn o=0)(ht:x=true->Fn t=0)(hn:x=false->t=[]):
  Aaf (A45 ty ch o t x)=.ok (k,ch,o,x,t):=by
 have fin:∀T:JV,IC k (4,J9 ch,false) (4,o,false) (2,[],x) (if x=true then (4,t,false) else (0,[],false))=.ok (k,ch,o,x,t):=by
  intro _;unfold IC;simp only;rw[Ald hch];simp only;rw[Br (by omega),Br (by simp[ho])];cases x with
  |false=>rw[hn rfl];simp
  |true=>simp[ht rfl]
 have hg:Aaf (A45 ty ch o t x)=Lz (4,ty,false) (4,J9 ch,false) (4,o,false) (2,[],x) (if x=true then (4,t,false) else (0,[],false)):=by
  cases x<;>rfl
 rw[hg];unfold Lz;rw[Br (by simp),Br (by simp),Br (by cases x<;>simp)]
 unfold tyS at hk;split at hk
 ·rename_i h;cases hk;subst h
  simp only;rw[Ch trivial];exact fin (0,[],false)
 split at hk
 ·rename_i h;cases hk;subst h
  simp only;rw[Br (by decide),Ch trivial];exact fin (0,[],false)
 ·cases hk
theorem Asz{k:Int}{ch o t s:Al}{x:Bool}(h:QL k ch o t x=.ok s):∃ty,tyS k=some ty/\s=123::Jm ty ch o t x/\1<=ch.length/\ch.length<=64/\Fn o=0/\(x=true->Fn t=0)/\(x=false->t=[]):=by
 unfold QL at h;cases hk:tyS k with
 |none=>rw[hk] at h;cases h
 |some ty=>
  rw[hk] at h;simp only at h;split at h
  ·cases h
  rename_i hl;split at h
  ·cases h
  rename_i ho
  have ho:Fn o=0:=by
   by_cases q:Fn o=0
   ·exact q
   ·exact absurd q ho
  cases x with
  |false=>
   rw[Ch rfl] at h;split at h
   ·rename_i ht;cases h;refine⟨ty,rfl,?_,by omega,by omega,ho,(fun h=>by cases h),fun _=>ht⟩;unfold fmH Jm T8 RA WP fA3 fA4 Vi DD nmO nmX;simp
   ·cases h
  |true=>
   rw[Br (by decide)] at h;split at h
   ·cases h
   ·rename_i ht;cases h
    have ht:Fn t=0:=by
     by_cases q:Fn t=0
     ·exact q
     ·exact absurd q ht
    refine⟨ty,rfl,?_,by omega,by omega,ho,fun _=>ht,(fun h=>by cases h)⟩;unfold fmH Jm T8 RA WP fA3 fA5 fA6 Vi DD nmO nmX nmP;simp
theorem Agn{l:Al}(h:∀x∈l,0<=x/\x<128):Lib.validD (Ab l).data.toList=true:=by
 have e:(Ab l).data.toList=l.map fun n=>n.toNat.toUInt8:=rfl
 rw[e,Lib.validD_ascii (l.map fun n=>n.toNat.toUInt8).length _ (fun b hb=>by
  have hb:=List.mem_of_mem_take hb;obtain⟨n,hn,rfl⟩:=List.mem_map.1 hb;have:=h n hn;have e2:n.toNat.toUInt8.toNat=n.toNat % 256:=by rw[Nat.toUInt8,UInt8.toNat_ofNat']
  omega),List.drop_length]
 rfl
def asc(l:Al):Prop:=∀y∈l,0<=y/\y<128
theorem Yy{p q:Al}(hp:asc p)(hq:asc q):asc (p++q):=fun y hy=>(B2.1 hy).elim (hp y) (hq y)
theorem Mw{a:Int}{p:Al}(ha:0<=a/\a<128)(hp:asc p):asc (a::p):=fun y hy=>by
 rcases Ce.1 hy with rfl|hy
 ·exact ha
 ·exact hp y hy
theorem Ayf{k:Int}{ch o t s w:Al}{x:Bool}(hch:Db ch)(h:QL k ch o t x=.ok s)(hw:wsL w)(hl:(w++s++w).length<=1024):Nk (Ab (w++s++w))=.ok (k,ch,o,x,t):=by
 obtain⟨ty,hk,rfl,h1,h2,ho,ht,hn⟩:=Asz h;have oc:=Aaj ho
 have tc:t.all WS=true:=by
  cases x with
  |true=>exact Aaj (ht rfl)
  |false=>rw[hn rfl];rfl
 have yc:ty.all WS=true:=by
  unfold tyS at hk;split at hk
  ·cases hk;decide
  split at hk
  ·cases hk;decide
  ·cases hk
 have ec:=MZ hch
 have cl128:∀{q:Al},q.all WS=true->∀y∈q,0<=y/\y<128:=fun hq y hy=>by
  have:=IG.1 (List.all_eq_true.1 hq y hy);omega
 have wc:∀y∈w,0<=y/\y<128:=fun y hy=>by
  have:=List.all_eq_true.1 hw y hy;unfold GV at this;simp at this;omega
 have bc:asc (Jm ty ch o t x):=by
  have v:∀{q:Al},q.all WS=true->asc (34::(q++[34])):=fun hq=>Mw (by decide) (Yy (cl128 hq) (Mw (by decide) (fun _ h=>nomatch h)));have mt:∀{nm vt:Al},asc nm->asc vt->asc (T8 nm vt):=fun h1 h2=>Mw (by decide) (Yy h1 (Mw (by decide) (Mw (by decide) h2)));have nT:asc Vi:=by unfold asc Vi;decide
  have nC:asc DD:=by unfold asc DD;decide
  have nO:asc nmO:=by unfold asc nmO;decide
  have nX:asc nmX:=by unfold asc nmX;decide
  have nP:asc nmP:=by unfold asc nmP;decide
  have wd:asc [116,114,117,101]:=by unfold asc;decide
  have wf:asc [102,97,108,115,101]:=by unfold asc;decide
  have w1:asc [125]:=by unfold asc;decide
  unfold Jm;refine Yy (mt nT (v yc)) (Mw (by decide) (Yy (mt nC (v ec)) (Mw (by decide) (Yy (mt nO (v oc)) (Mw (by decide) (Yy (mt nX ?_) ?_))))))
  ·cases x with
   |true=>exact wd
   |false=>exact wf
  ·cases x with
   |true=>exact Mw (by decide) (Yy (mt nP (v tc)) w1)
   |false=>exact w1
 have all128:∀y∈w++(123::Jm ty ch o t x)++w,0<=y/\y<128:=by
  intro y hy;rcases B2.1 hy with hy|hy
  ·rcases B2.1 hy with hy|hy
   ·exact wc y hy
   ·rcases Ce.1 hy with rfl|hy
    ·omega
    ·exact bc y hy
  ·exact wc y hy
 have hB:Db (w++(123::Jm ty ch o t x)++w):=fun y hy=>by have:=all128 y hy;omega
 unfold Nk;rw[Ai,Br (by omega),Agn all128,Br (by decide),Dj hB,Agu hw yc hch oc tc];exact Ab0 hk hch h1 h2 ho ht hn
abbrev RS:=JR Al
def JS(t:ByteArray)(i e:Int):RS->Prop
 |.ok r=>e=0/\El t r/\i=(Ck t r:Int)
 |.error c=>e=c/\c≠0/\0<=i/\i<=(t.size:Int)+1
def jhd:RS->Int
 |.ok r=>hdS r
 |.error _=>0
def jfl(c:Int):RS->RS
 |.ok _=>.error c
 |s=>s
theorem JS.rng{t:ByteArray}{i e:Int}{s:RS}(h:JS t i e s):0<=i/\i<=(t.size:Int)+1:=by
 cases s with
 |ok r=>
  obtain⟨_,_,rfl⟩:=h;unfold Ck;omega
 |error c=>exact⟨h.2.2.1,h.2.2.2⟩
theorem JS.hd{t:ByteArray}{i e:Int}{s:RS}(h:JS t i e s):0<=jhd s/\jhd s<=255:=by
 cases s with
 |ok r=>
  cases r with
  |nil=>exact⟨Int.le_refl _,by decide⟩
  |cons c r=>exact h.2.1.B c (by simp)
 |error c=>exact⟨Int.le_refl _,by show (0:Int)<=255;decide⟩
theorem JS.fail{t:ByteArray}{i e:Int}{s:RS}(h:JS t i e s){c:Int}(hc:c≠0):JS t i (if e=0 then c else e) (jfl c s):=by
 have hr:=h.rng;cases s with
 |ok r=>
  obtain⟨rfl,h2,h3⟩:=h;rw[Ch rfl];exact⟨rfl,hc,hr.1,hr.2⟩
 |error c2=>
  obtain⟨rfl,h2,h3,h4⟩:=h;rw[Br h2];exact⟨rfl,h2,h3,h4⟩
section
variable {fu d:Nat}{p:Option (Ae->Option Bq)}
def Bh7:RS->Nat
 |.ok r=>r.length
 |.error _=>0
theorem JS.len{t:ByteArray}{i e:Int}{s:RS}(h:JS t i e s):Bh7 s<=t.size:=by
 cases s with
 |ok r=>exact h.2.1.len
 |error c=>exact Nat.zero_le _
end
def ro:Option Al->RS
 |some r=>.ok r
 |none=>.error 2
section
variable {fu d:Nat}{p:Option (Ae->Option Bq)}
end
structure Sd where
 id:Al
 ht:Int
 root:Int
 model:Int
 fmt:Int
 sh:Bool
 used:Int
 rg:List (Int × Int)
 sus:Bool
 since:Int
 last:Int
def Pk(l:List (Int × Int)):Ae:=l.flatMap fun p=>[As p.1,As p.2]
theorem Pj(l:List (Int × Int)):(Pk l).length=l.length*2:=by
 induction l with
 |nil=>rfl
 |cons p r ih=>show ([_,_]++Pk r).length=_;rw[Vk,ih,Tt];simp;omega
theorem Awm(p:Int × Int)(r:List (Int × Int)):Pk (p::r)=As p.1 :: As p.2::Pk r:=rfl
theorem Ay8(l r:List (Int × Int)):Pk (l++r)=Pk l++Pk r:=List.flatMap_append
def Sd.cells(x:Sd):Ae:=[.lst false 1 x.id.length (Af .u8 x.id),As x.ht,Ag x.root,Ag x.model,As x.fmt,C5 (x.sh),Ag x.used,.lst false 2 x.rg.length (Pk x.rg),C5 (x.sus),As x.since,As x.last]
def Agv(used leaf:Int):Bool:=used.toNat.testBit leaf.toNat
theorem Aeq{a b:Int}(ha:0<=a)(ha1:a<=18446744073709551615)(hb:0<=b)(Gj:b<=18446744073709551615):Du .u64 a b=((a.toNat &&& b.toNat:Nat):Int):=by
 have e:(BitVec.ofInt 64 a &&& BitVec.ofInt 64 b).toNat=a.toNat &&& b.toNat:=by
  rw[BitVec.toNat_and,BitVec.toNat_ofInt,BitVec.toNat_ofInt]
  congr 1<;>omega
 have Ys:a.toNat &&& b.toNat<=a.toNat:=Nat.and_le_left;show wrap .u64 ((BitVec.ofInt 64 a &&& BitVec.ofInt 64 b).toNat:Int)=_;rw[e];exact Ec
theorem Az3{a b:Int}(ha:0<=a)(ha1:a<=18446744073709551615)(hb:0<=b)(Gj:b<=18446744073709551615):Xf .u64 a b=((a.toNat ||| b.toNat:Nat):Int):=by
 have e:(BitVec.ofInt 64 a ||| BitVec.ofInt 64 b).toNat=a.toNat ||| b.toNat:=by
  rw[BitVec.toNat_or,BitVec.toNat_ofInt,BitVec.toNat_ofInt]
  congr 1<;>omega
 have Ci:a.toNat ||| b.toNat<2 ^ 64:=Nat.or_lt_two_pow (by omega) (by omega);show wrap .u64 ((BitVec.ofInt 64 a ||| BitVec.ofInt 64 b).toNat:Int)=_;rw[e];exact Ec
theorem KJ{n:Nat}(h:n<=15):(2:Nat) ^ n<=32768:=Nat.le_trans (Nat.pow_le_pow_right (by omega) h) (by decide)
theorem Bcz{k:Int}(h0:0<=k)(h1:k<=15):D9 .u64 1 k=((2 ^ k.toNat:Nat):Int):=by
 have hp:=KJ (n:=k.toNat) (by omega);have e:min k.toNat IntKind.u64.bits=k.toNat:=Nat.min_eq_left (by show k.toNat<=64;omega)
 show wrap .u64 (1*2 ^ (min k.toNat IntKind.u64.bits))=_;rw[e,Int.one_mul,show (2:Int) ^ k.toNat=((2 ^ k.toNat:Nat):Int) by simp];generalize 2 ^ k.toNat=m at hp ⊢;exact Ec
theorem A8t{k:Int}(h0:0<=k)(h1:k<=15):D9 .i64 1 k=((2 ^ k.toNat:Nat):Int):=by
 have hp:=KJ (n:=k.toNat) (by omega);have e:min k.toNat IntKind.i64.bits=k.toNat:=Nat.min_eq_left (by show k.toNat<=64;omega)
 show wrap .i64 (1*2 ^ (min k.toNat IntKind.i64.bits))=_;rw[e,Int.one_mul,show (2:Int) ^ k.toNat=((2 ^ k.toNat:Nat):Int) by simp];generalize 2 ^ k.toNat=m at hp ⊢;exact Bj
theorem A01(a k:Nat):(a &&& 2 ^ k≠0)↔a.testBit k=true:=by
 constructor
 ·intro h;cases hb:a.testBit k
  ·refine absurd (Nat.eq_of_testBit_eq fun i=>?_) h;rw[Nat.testBit_and,Nat.testBit_two_pow,Nat.zero_testBit];by_cases e:k=i
   ·subst e;simp[hb]
   ·simp[e]
  ·rfl
 ·intro h e;have:=Nat.testBit_and a (2 ^ k) k;rw[e,Nat.zero_testBit,h,Nat.testBit_two_pow] at this;simp at this
theorem Apb{u k:Int}(hu:0<=u)(hu1:u<=18446744073709551615)(h0:0<=k)(h1:k<=15):(Du .u64 u (D9 .u64 1 k) != 0)=Agv u k:=by
 have hp:=KJ (n:=k.toNat) (by omega);have:=A01 u.toNat k.toNat;unfold Agv;rw[Bcz h0 h1];generalize 2 ^ k.toNat=m at hp this ⊢;rw[Aeq hu hu1 (by omega) (by omega),Iq];cases hb:u.toNat.testBit k.toNat
 ·rw[hb] at this;simp only[ne_eq,Bool.false_eq_true,iff_false,Decidable.not_not] at this;rw[this];rfl
 ·rw[hb] at this;simp only[ne_eq,iff_true] at this;simp only[bne_iff_ne,ne_eq];omega
theorem UE{u k:Int}(hu:0<=u)(hu1:u<=18446744073709551615)(h0:0<=k)(h1:k<=15):(Du .u64 (F3 .u64 u k) 1==1)=Agv u k:=by
 have e:F3 .u64 u k=((u.toNat >>> k.toNat:Nat):Int):=by
  unfold F3;rw[Nat.shiftRight_eq_div_pow];obtain⟨n,rfl⟩:=Int.eq_ofNat_of_zero_le hu;rw[Int.fdiv_eq_ediv_of_nonneg _ (by exact Int.le_of_lt (Int.pow_pos (by omega))),Nat.min_eq_left (by show k.toNat<=64;omega)]
  simp
 have Ys:u.toNat >>> k.toNat<=u.toNat:=by rw[Nat.shiftRight_eq_div_pow];exact Nat.div_le_self _ _
 have e2:Du .u64 ((u.toNat >>> k.toNat:Nat):Int) 1=((u.toNat >>> k.toNat % 2:Nat):Int):=by
  generalize u.toNat >>> k.toNat=m at Ys ⊢;rw[Aeq (by omega) (by omega) (by omega) (by omega),Iq,show Int.toNat 1=1 from rfl,Nat.and_one_is_mod]
 rw[e,e2];unfold Agv;rw[Nat.testBit_eq_decide_div_mod_eq,Nat.shiftRight_eq_div_pow];rw[Bool.eq_iff_iff];simp only[beq_iff_eq,FJ];generalize u.toNat / 2 ^ k.toNat=m;omega
def Ahf(u k:Int):Int:=Xf .u64 u (D9 .u64 1 k)
theorem A6x{u k:Int}(hu:0<=u)(hu1:u<=18446744073709551615)(h0:0<=k)(h1:k<=15):0<=Ahf u k/\Ahf u k<=18446744073709551615:=by have hp:=KJ (n:=k.toNat) (by omega);unfold Ahf;rw[Bcz h0 h1];generalize 2 ^ k.toNat=m at hp ⊢;rw[Az3 hu hu1 (by omega) (by omega)];have Ci:u.toNat ||| ((m:Nat):Int).toNat<2 ^ 64:=Nat.or_lt_two_pow (by omega) (by omega);omega
def put(f lf:Int):List (Int × Int)->Option (List (Int × Int))
 |[]=>some [(f,lf)]
 |p::r=>if p.1<f then (put f lf r).map (p :: ·) else if p.1=f then (if lf<=p.2 then none else some ((f,lf)::r)) else some ((f,lf)::p::r)
def Asc:List (Int × Int)->Prop
 |[]=>True
 |p::r=>(∀q∈r,p.1<q.1)/\Asc r
theorem Ale{f lf:Int}:∀{l r:List (Int × Int)},put f lf l=some r->∀q∈r,q=(f,lf)\/q∈l
 |[],r,h,q,hq=>by cases h;simp at hq;exact .inl hq
 |p::l,r,h,q,hq=>by
  unfold put at h;split at h
  ·cases hp:put f lf l with
   |none=>rw[hp] at h;cases h
   |some r'=>
    rw[hp] at h;cases h;rcases Ce.1 hq with rfl|hq
    ·exact .inr (by simp)
    ·exact (Ale hp q hq).imp id fun h=>by simp[h]
  ·split at h
   ·split at h
    ·cases h
    ·cases h;rcases Ce.1 hq with rfl|hq
     ·exact .inl rfl
     ·exact .inr (by simp[hq])
   ·cases h;rcases Ce.1 hq with rfl|hq
    ·exact .inl rfl
    ·exact .inr hq
theorem Ama{f lf:Int}:∀{l r:List (Int × Int)},Asc l->put f lf l=some r->Asc r
 |[],r,_,h=>by cases h;exact⟨by simp,trivial⟩
 |p::l,r,ha,h=>by
  unfold put at h;split at h
  ·rename_i h1;cases hp:put f lf l with
   |none=>rw[hp] at h;cases h
   |some r'=>
    rw[hp] at h;cases h;refine⟨fun q hq=>?_,Ama ha.2 hp⟩;rcases Ale hp q hq with rfl|hq
    ·exact h1
    ·exact ha.1 q hq
  ·split at h
   ·rename_i h2;split at h
    ·cases h
    ·cases h;exact⟨fun q hq=>by have:=ha.1 q hq;simp only;omega,ha.2⟩
   ·cases h;refine⟨fun q hq=>?_,ha⟩;rcases Ce.1 hq with rfl|hq
    ·simp only;omega
    ·have:=ha.1 q hq;simp only;omega
def GU(c:Sd)(leaf from_:Int):Bool:=decide (c.ht<0)||decide (c.ht>4)||decide (from_<0)||decide (from_>leaf)||decide (leaf>=D9 .i64 1 c.ht)
def Ig(c:Sd)(leaf from_ now:Int):Sd × Int:=
 if GU c leaf from_=true then (c,9)
 else if c.sus=true then (c,39)
 else if Agv c.used leaf=true then ({ c with sus:=true },37)
 else match put from_ leaf c.rg with
  |none=>(c,37)
  |some r=>({ c with used:=Ahf c.used leaf,rg:=r,last:=now },0)
structure Sd.ok(c:Sd):Prop where
 idB:Db c.id
 idL:c.id.length<=1000000
 u0:0<=c.used
 u1:c.used<=18446744073709551615
 asc:Asc c.rg
 rgn:c.rg.length<=1000
theorem Ab1{f lf:Int}:∀{l r:List (Int × Int)},put f lf l=some r->r.length<=l.length+1
 |[],r,h=>by cases h;simp
 |p::l,r,h=>by
  unfold put at h;split at h
  ·cases hp:put f lf l with
   |none=>rw[hp] at h;cases h
   |some r'=>
    rw[hp] at h;cases h;have:=Ab1 hp;simp;omega
  ·split at h
   ·split at h
    ·cases h
    ·cases h;simp
   ·cases h;simp
theorem Xw{c:Sd}{leaf from_:Int}(h:GU c leaf from_=false):0<=from_/\from_<=leaf/\leaf<=15/\0<=c.ht/\c.ht<=4/\leaf<((2 ^ c.ht.toNat:Nat):Int):=by
 unfold GU at h;simp only[Bool.or_eq_false_iff,decide_eq_false_iff_not] at h;obtain⟨⟨⟨⟨h1,h2⟩,h3⟩,h4⟩,h5⟩:=h;rw[A8t (by omega) (by omega)] at h5;have hp:(2:Nat) ^ c.ht.toNat<=2 ^ 4:=Nat.pow_le_pow_right (by omega) (by omega);have h16:(2:Nat) ^ 4=16:=by decide
 omega
section
variable {xs:FuncId->Option (Ae->Option Bq)}(fu d:Nat)(call:Ap)
def Ur(Z:Nat)(Y:Ae)(X W:Int)(V U:Int)(T:Bool)(S:Int)(Q:Nat)(P:Ae)(O:Bool)(N M:Int)(L K J:Int)(I:Nat)(H G E:Int)(D:Nat)(B A:Int)(z w:Int)(v:Bool)(u:Int)(t:Nat)(y11:Bool)(y12 y13:Int)(y14 y15:Ae)(y16:Nat)(y17 y18:Int)(y19 y20:Int)(y21:Bool)(y22:Int)(y23:Nat)(QW:Bool)(RI LZ:Int)(DU LW:Ae):Option Bq:=Kj fu call 55 Tryz.f55 [.agg [Am 1 Z Y,X,Ag W,Ag V,U,T,Ag S,Am 2 Q P,O,N,M],L,K,J] [.r,.r,.r] I ⟨lk [(1,H),(2,G),(3,E),(4,.ptr 4 0),(8,.ptr 8 0)],Ct [(4,.st [.view 120 1 0 D,B,Ag A,Ag z,w,v,Ag u,.view 932 2 0 t,y11,y12,y13]),(120,.ar false y14),(932,.ar false y15),(8,.st [.view 124 1 0 y16,y17,Ag y18,Ag y19,y20,y21,Ag y22,.view 936 2 0 y23,QW,RI,LZ]),(124,.ar false DU),(936,.ar false LW)]⟩
def Jk(Z:Nat)(Y:Ae)(X W:Int)(V U:Int)(T:Bool)(S:Int)(Q:Nat)(P:Ae)(O:Bool)(N M:Int)(L K J:Int)(I:Nat)(H G:Int)(E D B:Int)(A:Nat)(z w:Int)(v u:Int)(t:Bool)(y11:Int)(y12:Nat)(y13:Bool)(y14 y15:Int)(y16 y17:Ae)(y18:Nat)(y19 y20:Int)(y21 y22:Int)(y23:Bool)(QW:Int)(RI:Nat)(LZ:Bool)(DU LW:Int)(MA MB:Ae):Option Bq:=Kj fu call 55 Tryz.f55 [.agg [Am 1 Z Y,X,Ag W,Ag V,U,T,Ag S,Am 2 Q P,O,N,M],L,K,J] [.r,.r,.r,.r,.r,.r,.r,.r,.l,.l] I ⟨lk [(1,H),(2,G),(3,E),(4,.ptr 4 0),(8,.ptr 8 0),(11,Ag D),(12,B)],Ct [(4,.st [.view 120 1 0 A,z,Ag w,Ag v,u,t,Ag y11,.view 932 2 0 y12,y13,y14,y15]),(120,.ar false y16),(932,.ar false y17),(8,.st [.view 124 1 0 y18,y19,Ag y20,Ag y21,y22,y23,Ag QW,.view 936 2 0 RI,LZ,DU,LW]),(124,.ar false MA),(936,.ar false MB)]⟩
theorem EL(J:Nat)(I:Ae)(H G:Int)(E D:Int)(B:Bool)(A:Int)(z:Nat)(w:Ae)(v:Bool)(u t:Int)(a1 a2 a3:Int)(U:Nat)(Hs:0<U)(T y1 y2:Int)(Z:Nat)(S Q:Int)(P O:Int)(N:Bool)(V:Int)(Y:Nat)(M:Bool)(L K:Int)(X W:Ae)(y16:Nat)(y17 y18:Int)(y19 y20:Int)(y21:Bool)(y22:Int)(y23:Nat)(QW:Bool)(RI LZ:Int)(DU LW:Ae):Ur fu call J I H G E D B A z w v u t a1 a2 a3 U T y1 y2 Z S Q P O N V Y M L K X W y16 y17 y18 y19 y20 y21 y22 y23 QW RI LZ DU LW=(Ax M (Ar (decide (0+Z*1<=X.length))<|Ar (decide (0+Y*2<=W.length))<|Bh [.agg [Am 1 Z (List.take (Z*1) (X.drop 0)),S,Ag Q,Ag P,O,N,Ag V,Am 2 Y (List.take (Y*2) (W.drop 0)),M,L,K],(39:Int)]) (Ar (decide (0<=T))<|Aa (D9 .u64 1 T) fun a=>Aa (Du .u64 V a) fun b=>Ax (b != 0) (Ar (decide (0+Z*1<=X.length))<|Ar (decide (0+Y*2<=W.length))<|Bh [.agg [Am 1 Z (List.take (Z*1) (X.drop 0)),S,Ag Q,Ag P,O,N,Ag V,Am 2 Y (List.take (Y*2) (W.drop 0)),true,L,K],(37:Int)]) (Jk fu call J I H G E D B A z w v u t a1 a2 a3 fu T y1 y2 a 0 Z S Q P O N V Y M L K X W y16 y17 y18 y19 y20 y21 y22 y23 QW RI LZ DU LW))):=by cases U with|zero=>exact absurd Hs (Nat.lt_irrefl 0)|succ U=>kernel_rfl
theorem Rj(G:Nat)(E:Ae)(D B:Int)(A z:Int)(w:Bool)(v:Int)(u:Nat)(t:Ae)(Bbe:Bool)(Bbt A1z:Int)(a1 a2 a3:Int)(nn:Nat)(U K:Int)(J I Z:Int)(X:Nat)(T S:Int)(Q P:Int)(O:Bool)(N:Int)(Y:Nat)(M:Bool)(L H:Int)(V W:Ae)(y18:Nat)(y19 y20:Int)(y21 y22:Int)(y23:Bool)(QW:Int)(RI:Nat)(LZ:Bool)(DU LW:Int)(MA MB:Ae):Jk fu call G E D B A z w v u t Bbe Bbt A1z a1 a2 a3 (nn+1) U K J I Z X T S Q P O N Y M L H V W y18 y19 y20 y21 y22 y23 QW RI LZ DU LW MA MB=(Ax (decide (Z<(↑Y:Int))) (Ar (decide (0<=Z)&&decide (Z<(↑Y:Int)))<|Bk .i64 (W.getD (0+Z.toNat*2+0) .top) fun a=>Ax (decide (a<K)) (Aa (wrap .i64 (Z+1)) fun a=>Jk fu call G E D B A z w v u t Bbe Bbt A1z a1 a2 a3 nn U K J I a X T S Q P O N Y M L H V W y18 y19 y20 y21 y22 y23 QW RI LZ DU LW MA MB) (Ax (Z==(↑Y:Int)) (Ar (decide (Y*2<=W.length))<|Aw (call 99 [.own 2 Y (W.take (Y*2)),Z,PV.tup [.own 2 1 [K,U]]]) fun a b=>XI 2 a fun a c e=>Ak e<|Ad b fun b e=>Ak e<|Ar (decide (0<=Z)&&decide (Z<(↑a:Int)))<|Ar (decide (0+Z.toNat*2+1+1<=c.length))<|Aa (B3 c [U] (0+Z.toNat*2+1)) fun b=>Aa (Xf .u64 N I) fun c=>Ar (decide (0+X*1<=V.length))<|Ar (decide (0+a*2<=b.length))<|Bh [.agg [Am 1 X (List.take (X*1) (V.drop 0)),T,Ag S,Ag Q,P,O,Ag c,Am 2 a (List.take (a*2) (b.drop 0)),M,L,J],(0:Int)]) (Ar (decide (0<=Z)&&decide (Z<(↑Y:Int)))<|Bk .i64 (W.getD (0+Z.toNat*2+0) .top) fun a=>Ax (a != K) (Ar (decide (Y*2<=W.length))<|Aw (call 99 [.own 2 Y (W.take (Y*2)),Z,PV.tup [.own 2 1 [K,U]]]) fun a b=>XI 2 a fun a c e=>Ak e<|Ad b fun b e=>Ak e<|Ar (decide (0<=Z)&&decide (Z<(↑a:Int)))<|Ar (decide (0+Z.toNat*2+1+1<=c.length))<|Aa (B3 c [U] (0+Z.toNat*2+1)) fun b=>Aa (Xf .u64 N I) fun c=>Ar (decide (0+X*1<=V.length))<|Ar (decide (0+a*2<=b.length))<|Bh [.agg [Am 1 X (List.take (X*1) (V.drop 0)),T,Ag S,Ag Q,P,O,Ag c,Am 2 a (List.take (a*2) (b.drop 0)),M,L,J],(0:Int)]) (Ar (decide (0<=Z)&&decide (Z<(↑Y:Int)))<|Bk .i64 (W.getD (0+Z.toNat*2+1) .top) fun a=>Ax (decide (a>=U)) (Ar (decide (0+X*1<=V.length))<|Ar (decide (0+Y*2<=W.length))<|Bh [.agg [Am 1 X (List.take (X*1) (V.drop 0)),T,Ag S,Ag Q,P,O,Ag N,Am 2 Y (List.take (Y*2) (W.drop 0)),M,L,H],(37:Int)]) (Ar (decide (0<=Z)&&decide (Z<(↑Y:Int)))<|Ar (decide (0+Z.toNat*2+1+1<=W.length))<|Aa (B3 W [U] (0+Z.toNat*2+1)) fun a=>Aa (Xf .u64 N I) fun b=>Ar (decide (0+X*1<=V.length))<|Ar (decide (0+Y*2<=a.length))<|Bh [.agg [Am 1 X (List.take (X*1) (V.drop 0)),T,Ag S,Ag Q,P,O,Ag b,Am 2 Y (List.take (Y*2) (a.drop 0)),M,L,J],(0:Int)]))))) (Ax (Z==(↑Y:Int)) (Ar (decide (Y*2<=W.length))<|Aw (call 99 [.own 2 Y (W.take (Y*2)),Z,PV.tup [.own 2 1 [K,U]]]) fun a b=>XI 2 a fun a c e=>Ak e<|Ad b fun b e=>Ak e<|Ar (decide (0<=Z)&&decide (Z<(↑a:Int)))<|Ar (decide (0+Z.toNat*2+1+1<=c.length))<|Aa (B3 c [U] (0+Z.toNat*2+1)) fun b=>Aa (Xf .u64 N I) fun c=>Ar (decide (0+X*1<=V.length))<|Ar (decide (0+a*2<=b.length))<|Bh [.agg [Am 1 X (List.take (X*1) (V.drop 0)),T,Ag S,Ag Q,P,O,Ag c,Am 2 a (List.take (a*2) (b.drop 0)),M,L,J],(0:Int)]) (Ar (decide (0<=Z)&&decide (Z<(↑Y:Int)))<|Bk .i64 (W.getD (0+Z.toNat*2+0) .top) fun a=>Ax (a != K) (Ar (decide (Y*2<=W.length))<|Aw (call 99 [.own 2 Y (W.take (Y*2)),Z,PV.tup [.own 2 1 [K,U]]]) fun a b=>XI 2 a fun a c e=>Ak e<|Ad b fun b e=>Ak e<|Ar (decide (0<=Z)&&decide (Z<(↑a:Int)))<|Ar (decide (0+Z.toNat*2+1+1<=c.length))<|Aa (B3 c [U] (0+Z.toNat*2+1)) fun b=>Aa (Xf .u64 N I) fun c=>Ar (decide (0+X*1<=V.length))<|Ar (decide (0+a*2<=b.length))<|Bh [.agg [Am 1 X (List.take (X*1) (V.drop 0)),T,Ag S,Ag Q,P,O,Ag c,Am 2 a (List.take (a*2) (b.drop 0)),M,L,J],(0:Int)]) (Ar (decide (0<=Z)&&decide (Z<(↑Y:Int)))<|Bk .i64 (W.getD (0+Z.toNat*2+1) .top) fun a=>Ax (decide (a>=U)) (Ar (decide (0+X*1<=V.length))<|Ar (decide (0+Y*2<=W.length))<|Bh [.agg [Am 1 X (List.take (X*1) (V.drop 0)),T,Ag S,Ag Q,P,O,Ag N,Am 2 Y (List.take (Y*2) (W.drop 0)),M,L,H],(37:Int)]) (Ar (decide (0<=Z)&&decide (Z<(↑Y:Int)))<|Ar (decide (0+Z.toNat*2+1+1<=W.length))<|Aa (B3 W [U] (0+Z.toNat*2+1)) fun a=>Aa (Xf .u64 N I) fun b=>Ar (decide (0+X*1<=V.length))<|Ar (decide (0+Y*2<=a.length))<|Bh [.agg [Am 1 X (List.take (X*1) (V.drop 0)),T,Ag S,Ag Q,P,O,Ag b,Am 2 Y (List.take (Y*2) (a.drop 0)),M,L,J],(0:Int)]))))):=by kernel_rfl
theorem NP{p:Option (Ae->Option Bq)}(fu d X:Nat)(W:Ae)(V U:Int)(T S:Int)(Q:Bool)(P:Int)(O:Nat)(N:Ae)(M:Bool)(L K:Int)(Z Y J:Int):Ac (CP p) prog fu (d+1) 55 [.agg [Am 1 X W,V,Ag U,Ag T,S,Q,Ag P,Am 2 O N,M,L,K],Z,Y,J]=(fun (call:Ap)=>D8 (call 98 [.agg [Am 1 X W,V,Ag U,Ag T,S,Q,Ag P,Am 2 O N,M,L,K]]) fun a b=>Eo a fun a=>XI 1 a fun a c e=>Dw .i64 e fun e f=>Dw .u64 f fun f g=>Dw .u64 g fun g h=>Dw .i64 h fun h i=>Ad i fun i j=>Bn i fun i=>Dw .u64 j fun j k=>XI 2 k fun k m n=>Ad n fun n o=>Bn n fun n=>Dw .i64 o fun o q=>B8 .i64 q fun q=>Ak b<|Ax (decide (e<0)) (Ar (decide (0+a*1<=c.length))<|Ar (decide (0+k*2<=m.length))<|Bh [.agg [Am 1 a (List.take (a*1) (c.drop 0)),e,Ag f,Ag g,h,i,Ag j,Am 2 k (List.take (k*2) (m.drop 0)),n,o,q],(9:Int)]) (Ax (decide (e>4)) (Ar (decide (0+a*1<=c.length))<|Ar (decide (0+k*2<=m.length))<|Bh [.agg [Am 1 a (List.take (a*1) (c.drop 0)),e,Ag f,Ag g,h,i,Ag j,Am 2 k (List.take (k*2) (m.drop 0)),n,o,q],(9:Int)]) (Ax (decide (Y<0)) (Ar (decide (0+a*1<=c.length))<|Ar (decide (0+k*2<=m.length))<|Bh [.agg [Am 1 a (List.take (a*1) (c.drop 0)),e,Ag f,Ag g,h,i,Ag j,Am 2 k (List.take (k*2) (m.drop 0)),n,o,q],(9:Int)]) (Ax (decide (Y>Z)) (Ar (decide (0+a*1<=c.length))<|Ar (decide (0+k*2<=m.length))<|Bh [.agg [Am 1 a (List.take (a*1) (c.drop 0)),e,Ag f,Ag g,h,i,Ag j,Am 2 k (List.take (k*2) (m.drop 0)),n,o,q],(9:Int)]) (Ar (decide (0<=e))<|Aa (D9 .i64 1 e) fun b=>Ax (decide (Z>=b)) (Ar (decide (0+a*1<=c.length))<|Ar (decide (0+k*2<=m.length))<|Bh [.agg [Am 1 a (List.take (a*1) (c.drop 0)),e,Ag f,Ag g,h,i,Ag j,Am 2 k (List.take (k*2) (m.drop 0)),n,o,q],(9:Int)]) (Ur fu call X W V U T S Q P O N M L K Z Y J fu Z Y J a e f g h i j k n o q c m 0 0 0 0 0 false 0 0 false 0 0 ([]) ([]))))))) (Ac (CP p) prog fu d):=by kernel_rfl
end
section
variable {xs:FuncId->Option (Ae->Option Bq)}(fu d:Nat)(call:Ap)
theorem Zn{p:Option (Ae->Option Bq)}(fu d:Nat)(Y:Int)(X:Bool)(W V:Int)(U:Bool)(T:Int)(S:Bool)(Q:Nat)(P:Ae)(O N:Int)(Z M:Int)(L K:Int)(J:Nat)(I:Ae)(H G:Int):Ac (CP p) prog fu (d+1) 94 [.agg [Y,X,W,V,U,T,S,Am 1 Q P,O],.agg [Ag N,Z,M,L,Ag K,Am 1 J I,H,Ag G]]=(fun (call:Ap)=>Aa (Du .i64 Z 1) fun a=>Ax (a==0) (Bh [(22:Int)]) (Ax (Y==2) (Aa (Du .i64 Z 4) fun a=>Ax (a==0) (Bh [(23:Int)]) (Bh [(0:Int)])) (Bh [(0:Int)]))) (Ac (CP p) prog fu d):=by kernel_rfl
theorem ET{p:Option (Ae->Option Bq)}(fu d:Nat)(U:Int)(T:Bool)(S Q:Int)(P:Bool)(O:Int)(Y:Bool)(X:Nat)(W:Ae)(N V Z:Int):Ac (CP p) prog fu (d+1) 95 [.agg [U,T,S,Q,P,O,Y,Am 1 X W,N],Ag V,Z]=(fun (call:Ap)=>Ax (Z==3) (Bh [(39:Int)]) (Ax (Z==4) (Bh [(39:Int)]) (D8 (call 134 [Am 1 X W,Ag V]) fun a b=>Bn a fun a=>Ak b<|Ax a (Bh [(40:Int)]) (Ax (Z==2) (Ax (!Y) (Bh [(40:Int)]) (Bh [(0:Int)])) (Bh [(0:Int)]))))) (Ac (CP p) prog fu d):=by kernel_rfl
theorem NB{p:Option (Ae->Option Bq)}(fu d:Nat)(Z:Int)(Y:Bool)(X W:Int)(V:Bool)(U:Int)(T:Bool)(S:Nat)(Q:Ae)(P M:Int)(O L:Int)(K J:Int)(I:Nat)(H:Ae)(G E:Int)(A:Nat)(z:Ae)(w v:Int)(N u:Int)(D:Bool)(A4p:Int)(A8m:Nat)(A53:Ae)(Bek:Bool)(Bh4 Ba9 B:Int):Ac (CP p) prog fu (d+1) 53 [.agg [Z,Y,X,W,V,U,T,Am 1 S Q,P],.agg [Ag M,O,L,K,Ag J,Am 1 I H,G,Ag E],.agg [Am 1 A z,w,Ag v,Ag N,u,D,Ag A4p,Am 2 A8m A53,Bek,Bh4,Ba9],B]=(fun (call:Ap)=>Gs .i64 (call 94 [.agg [Z,Y,X,W,V,U,T,Am 1 S Q,P],.agg [Ag M,O,L,K,Ag J,Am 1 I H,G,Ag E]]) fun a=>Ax (a != 0) (Bh [a]) (Aa (Du .i64 O 8) fun a=>Ax (!(a != 0)==D) (Bh [(40:Int)]) (Ax (N==0) (Bh [(0:Int)]) (Gs .i64 (call 95 [.agg [Z,Y,X,W,V,U,T,Am 1 S Q,P],Ag N,B]) fun a=>Bh [a])))) (Ac (CP p) prog fu d):=by kernel_rfl
theorem Vl{p:Option (Ae->Option Bq)}(fu d Z:Nat)(Y:Ae)(X:Int):Ac (CP p) prog fu (d+1) 134 [Am 1 Z Y,Ag X]=(fun (call:Ap)=>Gs .i64 (call 161 [Am 1 Z Y,Ag X]) fun a=>Bh [C5 (decide (a>=0))]) (Ac (CP p) prog fu d):=by kernel_rfl
def Gm(Z:Nat)(Y:Ae)(X:Int)(W V:Nat)(U:Ae)(T S Q:Int):Option Bq:=Kj fu call 161 Tryz.f161 [Am 1 Z Y,Ag X] [.r,.l,.r,.l] W ⟨lk [(0,Am 1 V U),(1,Ag T),(7,S),(8,Q)],Ct []⟩
theorem Lj(U:Nat)(T:Ae)(S:Int)(Q Y:Nat)(X:Ae)(W V Z:Int):Gm fu call U T S (Q+1) Y X W V Z=(Ax (decide (Z<V)) (Ar (decide (0<=Z)&&decide (Z<(↑Y:Int)))<|Bk .u64 (X.getD (Z.toNat*1) .top) fun a=>Ax (W==a) (Bh [Z]) (Aa (wrap .i64 (Z+1)) fun a=>Gm fu call U T S Q Y X W V a)) (Bh [(-1:Int)])):=by kernel_rfl
theorem Zm{p:Option (Ae->Option Bq)}(fu d Z:Nat)(Y:Ae)(X:Int):Ac (CP p) prog fu (d+1) 161 [Am 1 Z Y,Ag X]=(fun (call:Ap)=>Gm fu call Z Y X fu Z Y X (↑Z:Int) 0) (Ac (CP p) prog fu d):=by kernel_rfl
end
theorem Lt{α:Type}(f:Nat->α)(i:Nat):(List.range (i+1)).map f=(List.range i).map f++[f i]:=by rw[List.range_succ,List.map_append];rfl
section
variable {fu d:Nat}
theorem Yi(h:Int):Ac C1 prog fu (d+1) 57 [As h]=some ⟨[C5 (!E1 h)],[]⟩:=by
 rw[BW];unfold E1;by_cases h0:h<0
 ·simp(disch:=omega)only[Be,Bd,h0,decide_true,Bool.true_or,F1]
 ·have e:decide (h<=4) = !decide (h>4):=by
   by_cases c:h<=4
   ·have:¬h>4:=by omega
    simp[c,this]
   ·have:h>4:=by omega
    simp[c,this]
  simp(disch:=omega)only[Be,Bd,h0,decide_false,Bool.false_or,e]
theorem Ajy{ws:Al}(hl:ws.length<=100)(Bv:1000<=fu)(dom:Int):Ac C1 prog fu (d+4) 69 [As dom,.lst false 1 (A6 ws).length (Af .u8 (A6 ws))]=some ⟨[Ag (Fb dom (A6 ws))],[]⟩:=
 JT (xs:=WR) (V5 ws) (by rw[E0];omega) (by omega) (by rw[E0];omega) dom
theorem OK{call:Ap}{a0 m:Int}:∀(k nn:Nat)(i:Nat),i+k=16->k<nn ->
  Hd fu call a0 nn m ((List.range i).map (Hq m)).length (Lv m i) (15-(i:Int)) (Af .i64 ((List.range i).map (Hq m)))=some ⟨[.own 1 18 (Af .i64 (dgs m))],[]⟩
 |_,0,_,_,h=>by omega
 |0,nn+1,i,hi,hn=>by
  have e:i=16:=by omega
  subst e;have hs:=Mj m 16
  have wq:wrap .i64 (Int.tdiv (Lv m 16) 16)=Lv m 16 / 16:=by
   rw[Int.tdiv_eq_ediv_of_nonneg (by omega),Bj]
  have wm:Int.tmod (Lv m 16) 16=Lv m 16 % 16:=Int.tmod_eq_emod_of_nonneg (by omega)
  have e2:Af .i64 ((List.range 16).map (Hq m))++[PV.sc (.int .i64 (Lv m 16 / 16)),PV.sc (.int .i64 (Lv m 16 % 16))]=Af .i64 (dgs m):=by
   unfold dgs;rw[Af,Af,List.flatMap_append];rfl
  have L:(Af .i64 (dgs m)).length=18:=by rw[An,Al6]
  have tk:List.take 18 (Af .i64 (dgs m))=Af .i64 (dgs m):=Iu (by omega);have l16:((List.range 16).map (Hq m)).length=16:=by simp
  have L16:=An .i64 ((List.range 16).map (Hq m));have t16:=LY .i64 ((List.range 16).map (Hq m));rw[l16] at L16 t16 ⊢;rw[Mz,F7 _ _ _ (by omega)];simp(disch:=omega)only[Be,Bd,wq,wm,Jc,t16,e2,L16,Nat.reduceAdd,L,tk]
 |k+1,nn+1,i,hi,hn=>by
  have ih:=OK (call:=call) (a0:=a0) (m:=m) k nn (i+1) (by omega) (by omega);have hb:=Uw m i;have hs:=Mj m i;have w1:wrap .i64 (4*(15-(i:Int)))=60-4*(i:Int):=Bl
  have w2:wrap .u64 (60-4*(i:Int))=60-4*(i:Int):=Ec;have hd:wrap .i64 (Du .u64 (F3 .u64 m (60-4*(i:Int))) 15)=Hq m i:=rfl;have w15:wrap .i64 (15-Hq m i)=15-Hq m i:=Bj;have ws:wrap .i64 (Lv m i+(15-Hq m i))=Lv m (i+1):=by rw[Bj];rfl
  have wi:wrap .i64 (15-(i:Int)-1)=15-((i+1:Nat):Int):=Bl
  have L:=An .i64 ((List.range i).map (Hq m));have l16:((List.range i).map (Hq m)).length=i:=by simp
  rw[Lt,Vk,List.length_singleton,<-Nd] at ih;rw[Mz];simp(disch:=omega)only[Be,Bd,w1,w2,hd,w15,ws,wi,Jc,LY,L];exact ih
theorem Aac(Bv:1000<=fu)(m:Int):Ac C1 prog fu (d+1) 100 [Ag m]=some ⟨[.own 1 18 (Af .i64 (dgs m))],[]⟩:=by rw[DY];exact OK (fu:=fu) (a0:=m) (m:=m) 16 fu 0 (by omega) (by omega)
theorem YG{leaf chain:Int}{a0 a1 a2 a3 a4:Int}(Bv:1000<=fu){t:Int}(ht:t<=15):∀(k nn:Nat)(p x:Int),(k:Int)=t-p->0<=p->k<nn ->
  Iy fu (Ac C1 prog fu (d+4)) a0 a1 a2 a3 a4 nn leaf chain t x p=some ⟨[Ag (Wr leaf chain k p x)],[]⟩
 |_,0,_,_,_,_,h=>by omega
 |0,nn+1,p,x,hk,hp,hn=>by
  rw[Pu];simp only[Gw];rw[Br (by omega),F7 _ _ _ (by omega)];rfl
 |k+1,nn+1,p,x,hk,hp,hn=>by
  have w:wrap .i64 (p+1)=p+1:=Bj;have wd:Ac C1 prog fu (d+4) 62 [.lst false 1 4 [Ag (wrap .u64 leaf),Ag (wrap .u64 chain),Ag (wrap .u64 p),Ag x]]=_:=Kk (xs:=WR) (ws:=[wrap .u64 leaf,wrap .u64 chain,wrap .u64 p,x]) (by simp) (by omega) (by simp;omega)
  have hs:=Ajy (fu:=fu) (d:=d) (ws:=[wrap .u64 leaf,wrap .u64 chain,wrap .u64 p,x]) (by simp) Bv 1;have ih:=YG (leaf:=leaf) (chain:=chain) (a0:=a0) (a1:=a1) (a2:=a2) (a3:=a3) (a4:=a4) Bv ht k nn (p+1) (Fb 1 (A6 [wrap .u64 leaf,wrap .u64 chain,wrap .u64 p,x])) (by omega) (by omega) (by omega);have L:=An .u8 (A6 [wrap .u64 leaf,wrap .u64 chain,wrap .u64 p,x]);have eR:Wr leaf chain (k+1) p x=Wr leaf chain k (p+1) (Fb 1 (A6 [wrap .u64 leaf,wrap .u64 chain,wrap .u64 p,x])):=rfl;rw[eR];generalize A6 [wrap .u64 leaf,wrap .u64 chain,wrap .u64 p,x]=W at wd hs ih L ⊢;have e15:(if (15:Int)<t then 15 else t)=t:=Br (by omega);rw[Pu]
  simp(disch:=omega)only[Be,Bd,e15,wd,Jc,Ir,Ls,LY,L,hs,w];exact ih
theorem Adh{leaf chain:Int}(Bv:1000<=fu)(k:Nat)(f t x:Int)(hk:(k:Int)=t-f)(h0:0<=f)(h1:t<=15):Ac C1 prog fu (d+5) 101 [As leaf,As chain,As f,As t,Ag x]=some ⟨[Ag (Wr leaf chain k f x)],[]⟩:=by rw[LP];simp only[Gw];rw[Br (by omega)];exact YG Bv h1 k fu f x hk h0 (by omega)
theorem VE(Bv:1000<=fu)(seed leaf chain:Int):Ac C1 prog fu (d+5) 111 [Ag seed,As leaf,As chain]=some ⟨[Ag (Aka seed leaf chain)],[]⟩:=by
 have wd:Ac C1 prog fu (d+4) 62 [.lst false 1 2 [Ag (wrap .u64 leaf),Ag (wrap .u64 chain)]]=_:=Kk (xs:=WR) (ws:=[wrap .u64 leaf,wrap .u64 chain]) (by simp) (by omega) (by simp;omega)
 have hs:=Amu (xs:=WR) (fu:=fu) (d:=d) (V5 [wrap .u64 leaf,wrap .u64 chain]) (by rw[E0];simp) (by omega) (by rw[E0];simp;omega) seed 1
 have L:=An .u8 (A6 [wrap .u64 leaf,wrap .u64 chain]);rw[Z8];unfold Aka;generalize A6 [wrap .u64 leaf,wrap .u64 chain]=W at wd hs L ⊢;simp(disch:=omega)only[Be,Bd,wd,Jc,Ir,Ls,LY,L,hs]
theorem A0s(Bv:1000<=fu)(w:Int):Ac C1 prog fu (d+1) 62 [.lst false 1 1 [Ag w]]=some ⟨[.own 1 8 (Af .u8 (B5 w))],[]⟩:=by
 have:=Kk (xs:=WR) (fu:=fu) (d:=d) (ws:=[w]) (by simp) (by omega) (by simp;omega)
 simp only[A6,J4,List.flatMap_nil,List.append_nil,Tt,YX,C8] at this;exact this
theorem Aeu(Bv:1000<=fu)(leaf:Int){E:Al}(hE:E.length<=50):Ac C1 prog fu (d+5) 102 [As leaf,.lst false 1 E.length (Af .u64 E)]=some ⟨[Ag (PK leaf E)],[]⟩:=by
 have w1:=A0s (fu:=fu) (d:=d+3) Bv (wrap .u64 leaf);have w2:=Kk (xs:=WR) (fu:=fu) (d:=d+3) (ws:=E) (by omega) (by omega) (by omega);have hs:=Ajy (fu:=fu) (d:=d) (ws:=wrap .u64 leaf::E) (by simp;omega) Bv 2
 have eW:A6 (wrap .u64 leaf::E)=B5 (wrap .u64 leaf)++A6 E:=rfl
 have eC:Af .u8 (B5 (wrap .u64 leaf))++Af .u8 (A6 E)=Af .u8 (A6 (wrap .u64 leaf::E)):=by
  rw[eW,Af,Af,Af,List.flatMap_append]
 have l0:(B5 (wrap .u64 leaf)).length=8:=C8 _;have l1:=E0 E;have l2:(A6 (wrap .u64 leaf::E)).length=8+(A6 E).length:=by rw[eW,Vk,l0]
 have L0:=An .u8 (B5 (wrap .u64 leaf));rw[l0] at L0;have L1:=An .u8 (A6 E);have L2:=An .u8 (A6 (wrap .u64 leaf::E));have t8:List.take 8 (Af .u8 (B5 (wrap .u64 leaf)))=Af .u8 (B5 (wrap .u64 leaf)):=Iu (by omega);have tW:List.take (8+(A6 E).length) (Af .u8 (A6 (wrap .u64 leaf::E)))=Af .u8 (A6 (wrap .u64 leaf::E)):=Iu (by omega);rw[l2] at hs;rw[HH];simp(disch:=omega)only[Be,Bd,w1,w2,Jc,Ir,Ls,LY,t8,L0,L1,eC,L2,tW,hs];rfl
theorem UP{a0 a1 seed leaf:Int}(Bv:1000<=fu):∀(k nn i:Nat),i+k=18->k<nn ->
  Hu fu (Ac C1 prog fu (d+5)) a0 a1 nn seed leaf ((List.range i).map (Abz seed leaf)).length i (Af .u64 ((List.range i).map (Abz seed leaf)))=some ⟨[Ag (MK seed leaf)],[]⟩
 |_,0,_,_,h=>by omega
 |0,nn+1,i,hi,hn=>by
  have e:i=18:=by omega
  subst e;have l18:((List.range 18).map (Abz seed leaf)).length=18:=by simp
  have en:=Aeu (fu:=fu) (d:=d) Bv leaf (E:=(List.range 18).map (Abz seed leaf)) (by omega);have L:=An .u64 ((List.range 18).map (Abz seed leaf));rw[N4,F7 _ _ _ (by omega)];simp(disch:=omega)only[Be,Bd,Jc,Ir,Ls,LY,L,en];rfl
 |k+1,nn+1,i,hi,hn=>by
  have ih:=UP (a0:=a0) (a1:=a1) (seed:=seed) (leaf:=leaf) Bv k nn (i+1) (by omega) (by omega);have sc:=VE (fu:=fu) (d:=d) Bv seed leaf i;have rn:=Adh (fu:=fu) (d:=d) (leaf:=leaf) (chain:=i) Bv 15 0 15 (Aka seed leaf i) (by omega) (by omega) (by omega);have w:wrap .i64 ((i:Int)+1)=((i+1:Nat):Int):=Bl
  have L:=An .u64 ((List.range i).map (Abz seed leaf));have li:((List.range i).map (Abz seed leaf)).length=i:=by simp
  rw[Lt,Vk,List.length_singleton,<-Nd] at ih;rw[N4];simp(disch:=omega)only[Be,Bd,sc,rn,Jc,LY,L,w];exact ih
theorem Asr(Bv:1000<=fu)(seed leaf:Int):Ac C1 prog fu (d+6) 112 [Ag seed,As leaf]=some ⟨[Ag (MK seed leaf)],[]⟩:=by rw[HJ];exact UP (fu:=fu) (d:=d) Bv 18 fu 0 (by omega) (by omega)
theorem A29(m:Int){i:Nat}(h:i<18):(dgs m)[i]?=some (dg m i):=by
 unfold dg;rw[List.getD_eq_getElem?_getD,List.getElem?_eq_getElem (by rw[Al6];omega)]
 rfl
theorem CO{a0 a1 a2 seed leaf m:Int}(Bv:1000<=fu):∀(k nn i:Nat),i+k=18->k<nn ->
  F6 fu (Ac C1 prog fu (d+5)) a0 a1 a2 nn seed leaf 18 ((List.range i).map (Ac7 seed leaf m)).length i (Af .i64 (dgs m)) (Af .u64 ((List.range i).map (Ac7 seed leaf m)))=some ⟨[.own 1 18 (Af .u64 (BK seed leaf m))],[]⟩
 |_,0,_,_,h=>by omega
 |0,nn+1,i,hi,hn=>by
  have e:i=18:=by omega
  subst e;have l18:((List.range 18).map (Ac7 seed leaf m)).length=18:=by simp
  have L:=An .u64 ((List.range 18).map (Ac7 seed leaf m));rw[Ks,F7 _ _ _ (by omega)];simp(disch:=omega)only[Be,Bd,Jc,LY,L];rw[l18];rfl
 |k+1,nn+1,i,hi,hn=>by
  have ih:=CO (a0:=a0) (a1:=a1) (a2:=a2) (seed:=seed) (leaf:=leaf) (m:=m) Bv k nn (i+1) (by omega) (by omega);have hb:=DF m i;have sc:=VE (fu:=fu) (d:=d) Bv seed leaf i;have rn:=Adh (fu:=fu) (d:=d) (leaf:=leaf) (chain:=i) Bv (dg m i).toNat 0 (dg m i) (Aka seed leaf i) (by omega) (by omega) (by omega);have w:wrap .i64 ((i:Int)+1)=((i+1:Nat):Int):=Bl
  have L:=An .u64 ((List.range i).map (Ac7 seed leaf m));have li:((List.range i).map (Ac7 seed leaf m)).length=i:=by simp
  rw[Lt,Vk,List.length_singleton,<-Nd] at ih;rw[Ks];simp(disch:=omega)only[Be,Bd,Iq,Jc,Ir,R6 (A29 m (show i<18 by omega)),sc,rn,LY,L,w];exact ih
theorem Adq(Bv:1000<=fu)(seed leaf m:Int):Ac C1 prog fu (d+6) 70 [Ag seed,As leaf,Ag m]=some ⟨[.own 1 18 (Af .u64 (BK seed leaf m))],[]⟩:=by rw[Yz];have sp:=Aac (fu:=fu) (d:=d+4) Bv m;simp only[Be,Bd,sp];exact CO (fu:=fu) (d:=d) Bv 18 fu 0 (by omega) (by omega)
theorem FN{a0 a1:Int}{n:Nat}{c:Ae}{leaf m:Int}{s:Al}(hs:s.length=18)(Bv:1000<=fu):∀(k nn i:Nat),i+k=18->k<nn ->
  Gg fu (Ac C1 prog fu (d+5)) a0 a1 n c nn leaf s.length (Af .u64 s) 18 ((List.range i).map (EO leaf m s)).length i (Af .i64 (dgs m)) (Af .u64 ((List.range i).map (EO leaf m s)))=some ⟨[Ag (Ab6 leaf m s),As 0],[]⟩
 |_,0,_,_,h=>by omega
 |0,nn+1,i,hi,hn=>by
  have e:i=18:=by omega
  subst e;have l18:((List.range 18).map (EO leaf m s)).length=18:=by simp
  have en:=Aeu (fu:=fu) (d:=d) Bv leaf (E:=(List.range 18).map (EO leaf m s)) (by omega);have L:=An .u64 ((List.range 18).map (EO leaf m s));rw[K1,F7 _ _ _ (by omega)];simp(disch:=omega)only[Be,Bd,Jc,Ir,Ls,LY,L,en];rfl
 |k+1,nn+1,i,hi,hn=>by
  have ih:=FN (a0:=a0) (a1:=a1) (n:=n) (c:=c) (leaf:=leaf) (m:=m) hs Bv k nn (i+1) (by omega) (by omega);obtain⟨x,hx⟩:∃x,s[i]?=some x:=⟨_,List.getElem?_eq_getElem (by omega)⟩
  have hb:=DF m i;have rn:=Adh (fu:=fu) (d:=d) (leaf:=leaf) (chain:=i) Bv (15-dg m i).toNat (dg m i) 15 x (by omega) (by omega) (by omega)
  have ev:Wr leaf i (15-dg m i).toNat (dg m i) x=EO leaf m s i:=by
   unfold EO;rw[List.getD_eq_getElem?_getD,hx];rfl
  rw[ev] at rn;have w:wrap .i64 ((i:Int)+1)=((i+1:Nat):Int):=Bl
  have L:=An .u64 ((List.range i).map (EO leaf m s));have li:((List.range i).map (EO leaf m s)).length=i:=by simp
  rw[Lt,Vk,List.length_singleton,<-Nd] at ih;rw[K1];simp(disch:=omega)only[Be,Bd,Iq,Jc,Ir,R6 (A29 m (show i<18 by omega)),R6 hx,rn,LY,L,w];exact ih
theorem Ag0(Bv:1000<=fu)(leaf m:Int)(s:Al):Ac C1 prog fu (d+6) 58 [As leaf,Ag m,.lst false 1 s.length (Af .u64 s)]=some ⟨(if s.length=18 then [Ag (Ab6 leaf m s),As 0] else [Ag 0,As 4]),[]⟩:=by
 refine (Z3 fu (d+5) leaf m s.length (Af .u64 s)).trans ?_;by_cases h:s.length=18
 ·have sp:=Aac (fu:=fu) (d:=d+4) Bv m;have lp:=FN (fu:=fu) (d:=d) (a0:=leaf) (a1:=m) (n:=s.length) (c:=Af .u64 s) (leaf:=leaf) (m:=m) h Bv 18 fu 0 (by omega) (by omega);simp only[E4];rw[Ch h,Ch (by omega)];simp only[Be,Bd,sp];exact lp
 ·simp only[E4];rw[Br h,Br (by omega)]
theorem HR(Bv:1000<=fu)(level a b:Int):Ac C1 prog fu (d+5) 59 [As level,Ag a,Ag b]=some ⟨[Ag (R0 level a b)],[]⟩:=by
 have wd:Ac C1 prog fu (d+4) 62 [.lst false 1 3 [Ag (wrap .u64 level),Ag a,Ag b]]=_:=Kk (xs:=WR) (ws:=[wrap .u64 level,a,b]) (by simp) (by omega) (by simp;omega)
 have hs:=Ajy (fu:=fu) (d:=d) (ws:=[wrap .u64 level,a,b]) (by simp) Bv 3;have L:=An .u8 (A6 [wrap .u64 level,a,b]);rw[AX];unfold R0;generalize A6 [wrap .u64 level,a,b]=W at wd hs L ⊢;simp(disch:=omega)only[Be,Bd,wd,Jc,Ir,Ls,LY,L,hs]
theorem IJ(Bv:1000<=fu)(seed:Int):∀(l:Nat)(i B:Int),0<=i->i<=B->(2 ^ l:Nat)*(B+1)<=1000000000->l<=20->Ac C1 prog fu (d+7+l) 71 [Ag seed,As l,As i]=some ⟨[Ag (K6 seed l i)],[]⟩
 |0,i,B,h0,h1,h2,hl=>by
  have lf:=Asr (fu:=fu) (d:=d) Bv seed i;refine (Tf fu (d+6) seed 0 i).trans ?_;simp only[Be,Bd,Lk,if_true,lf];rfl
 |l+1,i,B,h0,h1,h2,hl=>by
  have hq:(2 ^ (l+1):Nat)=2 ^ l*2:=Nat.pow_succ _ _;have Agp:0<2 ^ l:=Nat.pow_pos (by omega);rw[hq] at h2;generalize hQ:2 ^ l=q at h2 Agp
  have hb:((q*2:Nat):Int)*(B+1)=(q:Int)*(2*B+1+1):=by
   rw[Int.natCast_mul,Int.mul_assoc]
   congr 1
   omega
  rw[hb] at h2
  have hBq:2*B+1+1<=(q:Int)*(2*B+1+1):=by
   have:=Int.mul_le_mul_of_nonneg_right (show (1:Int)<=q by omega) (show (0:Int)<=2*B+1+1 by omega);omega
  have n1:=IJ Bv seed l (2*i) (2*B+1) (by omega) (by omega) (by rw[hQ];exact h2) (by omega)
  have n2:=IJ Bv seed l (2*i+1) (2*B+1) (by omega) (by omega) (by rw[hQ];exact h2) (by omega)
  have pr:=HR (fu:=fu) (d:=d+2+l) Bv ((l+1:Nat):Int) (K6 seed l (2*i)) (K6 seed l (2*i+1));rw[show d+2+l+5=d+7+l by omega] at pr;have w1:wrap .i64 (((l+1:Nat):Int)-1)=(l:Int):=Bl
  have w2:wrap .i64 (2*i)=2*i:=Bj;have w3:wrap .i64 (2*i+1)=2*i+1:=Bj;have ne:¬(((l+1:Nat):Int)=0):=by omega
  refine (Tf fu (d+7+l) seed ((l+1:Nat):Int) i).trans ?_;simp only[Be,Bd,Lk,ne,if_false,w1,w2,w3,n1,n2,pr];rfl
end
theorem wu{h:Int}(h0:0<=h)(h4:h<=4):wrap .u64 h=h:=Ec
theorem Ajd{leaf h:Int}(h0:0<=h)(h4:h<=4)(ho:I0 leaf h=false):0<=leaf/\leaf<2 ^ h.toNat:=by
 unfold I0 at ho;simp only[Bool.or_eq_false_iff,decide_eq_false_iff_not] at ho;have:h=0\/h=1\/h=2\/h=3\/h=4:=by omega
 rcases this with rfl|rfl|rfl|rfl|rfl
 ·have e:D9 .i64 1 0=1:=by decide
  rw[e] at ho;exact⟨by omega,by show leaf<1;omega⟩
 ·have e:D9 .i64 1 1=2:=by decide
  rw[e] at ho;exact⟨by omega,by show leaf<2;omega⟩
 ·have e:D9 .i64 1 2=4:=by decide
  rw[e] at ho;exact⟨by omega,by show leaf<4;omega⟩
 ·have e:D9 .i64 1 3=8:=by decide
  rw[e] at ho;exact⟨by omega,by show leaf<8;omega⟩
 ·have e:D9 .i64 1 4=16:=by decide
  rw[e] at ho;exact⟨by omega,by show leaf<16;omega⟩
theorem A3z{h:Int}(h0:0<=h)(h4:h<=4):(2:Int) ^ h.toNat<=16:=by
 have:h=0\/h=1\/h=2\/h=3\/h=4:=by omega
 rcases this with rfl|rfl|rfl|rfl|rfl<;>decide
theorem Aix{leaf:Int}(h0:0<=leaf)(h1:leaf<16){k:Nat}(hk:k<4):0<=Zi leaf k/\Zi leaf k<=15:=by
 have H:∀n:Fin 16,∀k:Fin 4,0<=Zi (n.val:Int) k.val/\Zi (n.val:Int) k.val<=15:=by decide
 obtain⟨n,rfl⟩:=Int.eq_ofNat_of_zero_le h0;exact H ⟨n,by omega⟩ ⟨k,hk⟩
section
variable {fu d:Nat}
theorem Aic(Bv:1000<=fu)(seed h:Int):Ac C1 prog fu (d+12) 61 [Ag seed,As h]=some ⟨[.agg (V9 seed h).cells,As (if E1 h=true then 9 else 0)],[]⟩:=by
 refine (BJ fu (d+11) seed h).trans ?_;have h1:=Yi (fu:=fu) (d:=d+10) h;unfold V9;cases c1:E1 h
 ·rw[c1] at h1;have hb:=Mu c1
  have nd:=IJ (fu:=fu) (d:=d+4-h.toNat) Bv seed h.toNat 0 0 (by omega) (by omega) (by
   have:h=0\/h=1\/h=2\/h=3\/h=4:=by omega
   rcases this with rfl|rfl|rfl|rfl|rfl<;>decide) (by omega)
  rw[show d+4-h.toNat+7+h.toNat=d+11 by omega,show ((h.toNat:Nat):Int)=h by omega] at nd;simp only[Be,Bd,h1,nd];rfl
 ·rw[c1] at h1;simp only[Be,Bd,h1];rfl
theorem SI{a0 a1 a2 a3:Int}{seed leaf h:Int}(hh:0<=h/\h<=4)(hl:0<=leaf/\leaf<16)(Bv:1000<=fu){y4 y9:Int}{y5 y6:Nat}{y7 y8:Ae}{ch:Al}:∀(k nn i:Nat),i+k=h.toNat->k<nn ->
  Hx fu (Ac C1 prog fu (d+11)) a0 a1 a2 a3 nn seed h leaf i y4 y5 y6 y7 y8 leaf ch.length ((List.range i).map fun k=>K6 seed k (Zi leaf k)).length (Af .u64 ch) (Af .u64 ((List.range i).map fun k=>K6 seed k (Zi leaf k)))=some ⟨[.agg (Sg.mk leaf ch ((List.range h.toNat).map fun k=>K6 seed k (Zi leaf k))).owned,As 0],[]⟩
 |_,0,_,_,h=>by omega
 |0,nn+1,i,hi,hn=>by
  have e:i=h.toNat:=by omega
  subst e;have L1:=An .u64 ch;have L2:=An .u64 ((List.range h.toNat).map fun k=>K6 seed k (Zi leaf k));rw[Ny,F7 _ _ _ (by omega)];simp(disch:=omega)only[Be,Bd,Jc,LY,L1,L2];rfl
 |k+1,nn+1,i,hi,hn=>by
  have ih:=SI (a0:=a0) (a1:=a1) (a2:=a2) (a3:=a3) (seed:=seed) (y4:=y4) (y9:=y9) (y5:=y5) (y6:=y6) (y7:=y7) (y8:=y8) (ch:=ch) hh hl Bv k nn (i+1) (by omega) (by omega);have sb:=Aix hl.1 hl.2 (k:=i) (by omega)
  have nd:=IJ (fu:=fu) (d:=d+4-i) Bv seed i (Zi leaf i) 15 sb.1 sb.2 (by
   have:i=0\/i=1\/i=2\/i=3:=by omega
   rcases this with rfl|rfl|rfl|rfl<;>decide) (by omega)
  rw[show d+4-i+7+i=d+11 by omega] at nd;have es:Ez .i64 (F3 .i64 leaf (i:Int)) 1=Zi leaf i:=rfl;have w:wrap .i64 ((i:Int)+1)=((i+1:Nat):Int):=Bl
  have wi:wrap .u64 (i:Int)=i:=Ec;have L:=An .u64 ((List.range i).map fun k=>K6 seed k (Zi leaf k));have li:((List.range i).map fun k=>K6 seed k (Zi leaf k)).length=i:=by simp
  rw[Lt,Vk,List.length_singleton,<-Nd] at ih;rw[Ny];simp(disch:=omega)only[Be,Bd,wi,es,nd,Jc,LY,L,w];exact ih
theorem Ats(Bv:1000<=fu)(seed h leaf m:Int):Ac C1 prog fu (d+12) 37 [Ag seed,As h,As leaf,Ag m]=some ⟨Acj (Afc seed h leaf m),[]⟩:=by
 refine (HF fu (d+11) seed h leaf m).trans ?_;have h1:=Yi (fu:=fu) (d:=d+10) h;unfold Afc;cases c1:E1 h
 ·rw[c1] at h1;have hb:=Mu c1;have w:=wu hb.1 hb.2;rw[Br (by simp)];by_cases hn:leaf<0
  ·have ho:I0 leaf h=true:=by unfold I0;simp[hn]
   rw[Ch ho];simp(disch:=omega)only[Be,Bd,h1];rfl
  ·by_cases hg:leaf>=D9 .i64 1 h
   ·have ho:I0 leaf h=true:=by unfold I0;simp[hg]
    rw[Ch ho];simp (disch:=first|omega|exact hg) only[Be,Bd,h1,w];rfl
   ·have ho:I0 leaf h=false:=by unfold I0;simp only[Bool.or_eq_false_iff,decide_eq_false_iff_not];exact⟨hn,hg⟩
    have Ci:=Ajd hb.1 hb.2 ho;have h16:=A3z hb.1 hb.2;rw[Br (by rw[ho];simp)]
    have sl:=Adq (fu:=fu) (d:=d+5) Bv seed leaf m;have lp:=SI (fu:=fu) (d:=d) (a0:=seed) (a1:=h) (a2:=leaf) (a3:=m) (seed:=seed) (leaf:=leaf) (h:=h) hb (by omega) Bv (y4:=0) (y9:=0) (y5:=0) (y6:=0) (y7:=[]) (y8:=[]) (ch:=BK seed leaf m) h.toNat fu 0 (by omega) (by omega);have l18:(BK seed leaf m).length=18:=by simp[BK]
    rw[l18] at lp;simp (disch:=first|omega|exact hg) only[Be,Bd,h1,w,sl];exact lp
 ·rw[c1] at h1;rw[Ch rfl];simp(disch:=omega)only[Be,Bd,h1];rfl
theorem JE{a0 a1 a2 a3:Int}{n1 n2 n3:Nat}{c1 c2 c3:Ae}{root leaf:Int}{path:Al}(hp:path.length<=100)(Bv:1000<=fu):∀(r:Al)(i nn:Nat)(x:Int),path.drop i=r->r.length<nn->i<=path.length ->
  Fj fu (Ac C1 prog fu (d+5)) a0 a1 a2 a3 n1 c1 n2 c2 nn x i path.length root leaf n3 c3 path.length (Af .u64 path)=some ⟨[As (okE (AD leaf i x r) root)],[]⟩
 |_,_,0,_,_,h,_=>by omega
 |[],i,nn+1,x,h,hn,hi=>by
  have:=drop_nil h;rw[Md,F7 _ _ _ (by omega),E4];rw[SA];unfold okE;by_cases e:x=root
  ·rw[Ch e,Ch e]
  ·rw[Br e,Br e]
 |s::r,i,nn+1,x,h,hn,hi=>by
  obtain⟨h1,h2,h3⟩:=Dx h;simp only[Tt] at hn;have w:wrap .i64 ((i:Int)+1)=((i+1:Nat):Int):=Bl
  have wi:wrap .u64 (i:Int)=i:=Ec;have ih:=fun x=>JE (a0:=a0) (a1:=a1) (a2:=a2) (a3:=a3) (n1:=n1) (n2:=n2) (n3:=n3) (c1:=c1) (c2:=c2) (c3:=c3) (root:=root) (leaf:=leaf) hp Bv r (i+1) nn x h3 (by omega) (by omega);have p1:=HR (fu:=fu) (d:=d) Bv ((i+1:Nat):Int) x s;have p2:=HR (fu:=fu) (d:=d) Bv ((i+1:Nat):Int) s x;rw[Md,CA];by_cases hb:Du .i64 (F3 .i64 leaf i) 1=0
  ·rw[Ch hb,<-ih];simp(disch:=omega)only[Be,Bd,Iq,Jc,R6 h2,Lk,wi,hb,w,p1,if_true]
  ·rw[Br hb,<-ih];simp(disch:=omega)only[Be,Bd,Iq,Jc,R6 h2,Lk,wi,hb,w,p2,if_false]
theorem Ak5(Bv:1000<=fu)(k:Ky)(m:Int)(s:Sg):Ac C1 prog fu (d+7) 25 [.agg k.cells,Ag m,.agg s.cells]=some ⟨[As (PY k m s)],[]⟩:=by
 refine (CF fu (d+6) k.h k.root m s.leaf s.chains.length (Af .u64 s.chains) s.path.length (Af .u64 s.path)).trans ?_;have h1:=Yi (fu:=fu) (d:=d+5) k.h;unfold PY;cases c1:E1 k.h
 ·rw[c1] at h1;have hb:=Mu c1;have w:=wu hb.1 hb.2;rw[Br (by simp)];by_cases hn:s.leaf<0
  ·have ho:I0 s.leaf k.h=true:=by unfold I0;simp[hn]
   rw[Ch ho];simp(disch:=omega)only[Be,Bd,h1]
  ·by_cases hg:s.leaf>=D9 .i64 1 k.h
   ·have ho:I0 s.leaf k.h=true:=by unfold I0;simp[hg]
    rw[Ch ho];simp (disch:=first|omega|exact hg) only[Be,Bd,h1,w]
   ·have ho:I0 s.leaf k.h=false:=by unfold I0;simp only[Bool.or_eq_false_iff,decide_eq_false_iff_not];exact⟨hn,hg⟩
    rw[Br (by rw[ho];simp)]
    by_cases c3:s.chains.length=18
    ·by_cases c4:(s.path.length:Int)=k.h
     ·have rc:=Ag0 (fu:=fu) (d:=d) Bv s.leaf m s.chains;rw[Ch c3] at rc;have vl:=JE (fu:=fu) (d:=d+1) (a0:=k.h) (a1:=k.root) (a2:=m) (a3:=s.leaf) (n1:=s.chains.length) (n2:=s.path.length) (n3:=s.chains.length) (c1:=Af .u64 s.chains) (c2:=Af .u64 s.path) (c3:=Af .u64 s.chains) (root:=k.root) (leaf:=s.leaf) (path:=s.path) (by omega) Bv s.path 0 fu (Ab6 s.leaf m s.chains) rfl (by omega) (by omega);rw[Br (by omega),Br (by omega),<-vl];simp (disch:=first|omega|exact hg) only[Be,Bd,h1,w,E4,rc,c4,if_true];rw[Ch (by omega)];rfl
     ·rw[Br (by omega),Ch c4];simp (disch:=first|omega|exact hg) only[Be,Bd,h1,w,E4,c4,if_false];rw[Ch (by omega)]
    ·rw[Ch c3];simp (disch:=first|omega|exact hg) only[Be,Bd,h1,w,E4];rw[Br (by omega)]
 ·rw[c1] at h1;rw[Ch rfl];simp(disch:=omega)only[Be,Bd,h1]
theorem Ai3(Bv:1000<=fu)(k:Ky):Ac C1 prog fu (d+2) 68 [.agg k.cells]=some ⟨(if E1 k.h=true then [.own 1 0 [],As 9] else [.own 1 9 (Af .u8 (Ay4 k)),As 0]),[]⟩:=by
 refine (Xi fu (d+1) k.h k.root).trans ?_;have h1:=Yi (fu:=fu) (d:=d) k.h;have wd:=A0s (fu:=fu) (d:=d) Bv k.root;have L:=An .u8 (B5 k.root);rw[C8] at L;have t8:List.take 8 (Af .u8 (B5 k.root))=Af .u8 (B5 k.root):=Iu (by omega)
 have t9:List.take 9 ([PV.sc (.int .u8 (wrap .u8 k.h))]++Af .u8 (B5 k.root))=Af .u8 (Ay4 k):=by
  rw[Iu (by rw[Vk,L];simp)]
  rfl
 have L9:([PV.sc (.int .u8 (wrap .u8 k.h))]++Af .u8 (B5 k.root)).length=9:=by rw[Vk,L];rfl
 cases c1:E1 k.h
 ·rw[c1] at h1;rw[Br (by simp)];simp(disch:=omega)only[Be,Bd,h1,wd,Jc,Ir,Ls,L,t8,Nat.reduceAdd,L9,t9]
 ·rw[c1] at h1;rw[Ch rfl];simp(disch:=omega)only[Be,Bd,h1]
theorem TK{call:Ap}{n:Nat}{c:Ae}{l:Al}(hl:l.length=8):∀(r:Al)(j nn:Nat)(x:Int),l.drop j=r->r.length<nn->j<=8 ->
  Hv fu call n c nn l.length (Af .u8 l) x j=some ⟨[Ag (r.foldl K5 x)],[]⟩
 |_,_,0,_,_,h,_=>by omega
 |[],j,nn+1,x,h,hn,hj=>by
  have:=drop_nil h;rw[Nt,F7 _ _ _ (by omega)];rfl
 |b::r,j,nn+1,x,h,hn,hj=>by
  obtain⟨h1,h2,h3⟩:=Dx h;simp only[Tt] at hn;have w:wrap .i64 ((j:Int)+1)=((j+1:Nat):Int):=Bl
  have ih:=TK (call:=call) (n:=n) (c:=c) hl r (j+1) nn (K5 x b) h3 (by omega) (by omega);rw[List.foldl_cons,<-ih,Nt];simp(disch:=omega)only[Be,Bd,Iq,Jc,R6 h2,w]
theorem At0(Bv:1000<=fu){l:Al}(hl:l.length=8):Ac C1 prog fu (d+1) 56 [.lst false 1 8 (Af .u8 l)]=some ⟨[Ag (Abf l)],[]⟩:=by rw[HU];have:=TK (fu:=fu) (call:=Ac C1 prog fu d) (n:=8) (c:=Af .u8 l) hl l 0 fu 0 rfl (by omega) (by omega);rw[hl] at this;exact this
end
section
variable {fu d:Nat}
theorem Ar1(n:Nat):E1 (n:Int)=decide ((n:Int)>4):=by
 unfold E1;have:¬((n:Int)<0):=by omega
 simp[this]
theorem ST(Bv:1000<=fu)(s:Sg)(hp:s.path.length<=1000000000):Ac C1 prog fu (d+2) 40 [.agg s.cells]=some ⟨(if E1 s.path.length=true then [.own 1 0 [],As 9] else if I0 s.leaf s.path.length=true then [.own 1 0 [],As 9] else if s.chains.length≠18 then [.own 1 0 [],As 4] else [.own 1 (sgB s).length (Af .u8 (sgB s)),As 0]),[]⟩:=by
 refine (Qa fu (d+1) s.leaf s.chains.length (Af .u64 s.chains) s.path.length (Af .u64 s.path)).trans ?_;rw[Ar1];by_cases c1:(s.path.length:Int)>4
 ·rw[Ch (by simp[c1])];simp(disch:=omega)only[Be,Bd]
 ·rw[Br (by simp[c1])];have w:=wu (h:=s.path.length) (by omega) (by omega);by_cases hn:s.leaf<0
  ·have ho:I0 s.leaf s.path.length=true:=by unfold I0;simp[hn]
   rw[Ch ho];simp(disch:=omega)only[Be,Bd]
  ·by_cases hg:s.leaf>=D9 .i64 1 s.path.length
   ·have ho:I0 s.leaf s.path.length=true:=by unfold I0;simp[hg]
    rw[Ch ho];simp (disch:=first|omega|exact hg) only[Be,Bd,w]
   ·have ho:I0 s.leaf s.path.length=false:=by unfold I0;simp only[Bool.or_eq_false_iff,decide_eq_false_iff_not];exact⟨hn,hg⟩
    rw[Br (by rw[ho];simp)]
    by_cases c3:s.chains.length=18
    ·have w1:=Kk (xs:=WR) (fu:=fu) (d:=d) (ws:=s.chains) (by omega) (by omega) (by omega);have w2:=Kk (xs:=WR) (fu:=fu) (d:=d) (ws:=s.path) (by omega) (by omega) (by omega);have l1:=E0 s.chains;have l2:=E0 s.path;have L1:=An .u8 (A6 s.chains);have L2:=An .u8 (A6 s.path)
     have eB:Af .u8 (sgB s)=[PV.sc (.int .u8 (wrap .u8 s.leaf)),PV.sc (.int .u8 (wrap .u8 s.path.length))]++Af .u8 (A6 s.chains)++Af .u8 (A6 s.path):=by
      unfold sgB;simp
     have eL:(sgB s).length=2+(A6 s.chains).length+(A6 s.path).length:=by
      unfold sgB;simp;omega
     rw[Br (by omega),eB,eL];have t2:List.take (2+(A6 s.chains).length) ([PV.sc (.int .u8 (wrap .u8 s.leaf)),PV.sc (.int .u8 (wrap .u8 s.path.length))]++Af .u8 (A6 s.chains))=[PV.sc (.int .u8 (wrap .u8 s.leaf)),PV.sc (.int .u8 (wrap .u8 s.path.length))]++Af .u8 (A6 s.chains):=Iu (by rw[Vk,L1];simp)
     have t3:List.take (2+(A6 s.chains).length+(A6 s.path).length) ([PV.sc (.int .u8 (wrap .u8 s.leaf)),PV.sc (.int .u8 (wrap .u8 s.path.length))]++Af .u8 (A6 s.chains)++Af .u8 (A6 s.path))=[PV.sc (.int .u8 (wrap .u8 s.leaf)),PV.sc (.int .u8 (wrap .u8 s.path.length))]++Af .u8 (A6 s.chains)++Af .u8 (A6 s.path):=Iu (by rw[Vk,Vk,L1,L2];simp)
     have k2:([PV.sc (.int .u8 (wrap .u8 s.leaf)),PV.sc (.int .u8 (wrap .u8 s.path.length))]++Af .u8 (A6 s.chains)).length=2+(A6 s.chains).length:=by rw[Vk,L1];rfl
     have k3:([PV.sc (.int .u8 (wrap .u8 s.leaf)),PV.sc (.int .u8 (wrap .u8 s.path.length))]++Af .u8 (A6 s.chains)++Af .u8 (A6 s.path)).length=2+(A6 s.chains).length+(A6 s.path).length:=by rw[Vk,k2,L2]
     simp (disch:=first|omega|exact hg) only[Be,Bd,w,E4,w1,w2,Jc,Ir,Ls,L1,L2,LY,t2,t3,k2,k3];rw[Ch (by omega)]
    ·rw[Ch c3];simp (disch:=first|omega|exact hg) only[Be,Bd,w,E4];rw[Br (by omega)]
def AZ(l:Al)(i:Nat):Int:=Abf ((l.drop (2+8*i)).take 8)
theorem Axm{l:Al}{i:Nat}(hi:i<18):Oo ((l.drop 2).take 144) i=AZ l i:=by unfold Oo AZ;rw[List.drop_take,List.take_take,List.drop_drop,Nat.min_eq_left (by omega)]
theorem Axl{l:Al}{i:Nat}:Oo (l.drop 146) i=AZ l (18+i):=by unfold Oo AZ;rw[List.drop_drop,show 146+8*i=2+8*(18+i) by omega]
theorem KE{n:Nat}{c:Ae}{l:Al}(hl:l.length<=1000){y:Int}(hy1:l[1]?=some y)(hy:0<=y/\y<=4)(Ek:(l.length:Int)=2+8*(18+y))(Bv:1000<=fu){y3 y4:Int}{n5 n6 n7:Nat}{c5 c6:Ae}{x:Int}:∀(k nn i:Nat),i+k=18+y.toNat->k<nn ->
  Dm fu (Ac C1 prog fu (d+1)) n c nn l.length (Af .u8 l) i y3 n5 n6 c5 c6 x ((List.range (min i 18)).map (AZ l)).length ((List.range (i-18)).map fun j=>AZ l (18+j)).length (Af .u64 ((List.range (min i 18)).map (AZ l))) (Af .u64 ((List.range (i-18)).map fun j=>AZ l (18+j)))=some ⟨[.agg (Sg.mk x ((List.range 18).map (AZ l)) ((List.range y.toNat).map fun j=>AZ l (18+j))).owned,As 0],[]⟩
 |_,0,_,_,h=>by omega
 |k,nn+1,i,hi,hn=>by
  have wy:wrap .i64 y=y:=Bj;have w18:wrap .i64 (18+y)=18+y:=Bj;have L1:=An .u64 ((List.range (min i 18)).map (AZ l));have L2:=An .u64 ((List.range (i-18)).map fun j=>AZ l (18+j));have m1:((List.range (min i 18)).map (AZ l)).length=min i 18:=by simp
  have m2:((List.range (i-18)).map fun j=>AZ l (18+j)).length=i-18:=by simp
  rw[Na];cases k with
  |zero=>
   have e:i=18+y.toNat:=by omega
   have e1:min i 18=18:=by omega
   have e2:i-18=y.toNat:=by omega
   simp(disch:=omega)only[Be,Bd,R6 hy1,wy,w18,Jc,LY,L1,L2];rw[e1,e2];rfl
  |succ k=>
   have ih:=KE (n:=n) (c:=c) hl hy1 hy Ek Bv (y3:=y3) (y4:=y4) (n5:=n5) (n6:=n6) (n7:=n7) (c5:=c5) (c6:=c6) (x:=x) k nn (i+1) (by omega) (by omega);have w8:wrap .i64 (8*(i:Int))=((8*i:Nat):Int):=Bl
   have w2:wrap .i64 (2+((8*i:Nat):Int))=((2+8*i:Nat):Int):=Bl
   have w10:wrap .i64 (10+((8*i:Nat):Int))=((10+8*i:Nat):Int):=Bl
   have w:wrap .i64 ((i:Int)+1)=((i+1:Nat):Int):=Bl
   have e8:10+8*i-(2+8*i)=8:=by omega
   have XO:((l.drop (2+8*i)).take 8).length=8:=by rw[List.length_take,List.length_drop];omega
   have wd:=At0 (fu:=fu) (d:=d) Bv XO;have ew:Abf ((l.drop (2+8*i)).take 8)=AZ l i:=rfl;rw[ew] at wd;by_cases c18:i<18
   ·have a1:min (i+1) 18=min i 18+1:=by omega
    have a2:min i 18=i:=by omega
    have a3:i+1-18=i-18:=by omega
    rw[a1,a3,Lt,Vk,List.length_singleton,<-Nd,a2] at ih;rw[a2] at L1 m1 ⊢;simp(disch:=omega)only[Be,Bd,R6 hy1,wy,w18,w8,w2,w10,Iq,Jc,e8,I8,G8,List.take_length,wd,L1,L2,w];exact ih
   ·have a1:min (i+1) 18=min i 18:=by omega
    have a3:i+1-18=(i-18)+1:=by omega
    rw[a1,a3,Lt,Vk,List.length_singleton,<-Nd,show 18+(i-18)=i by omega] at ih;simp(disch:=omega)only[Be,Bd,R6 hy1,wy,w18,w8,w2,w10,Iq,Jc,e8,I8,G8,List.take_length,wd,L1,L2,w];exact ih
theorem Ajf(Bv:1000<=fu){l:Al}(hb:Db l):Ac C1 prog fu (d+2) 24 [.lst false 1 l.length (Af .u8 l)]=some ⟨ZN (sgD l),[]⟩:=by
 refine (Qt fu (d+1) l.length (Af .u8 l)).trans ?_;unfold sgD;by_cases h2:2<=l.length
 ·obtain⟨x,hx⟩:∃x,l[0]?=some x:=⟨_,List.getElem?_eq_getElem (by omega)⟩
  obtain⟨y,hy⟩:∃y,l[1]?=some y:=⟨_,List.getElem?_eq_getElem (by omega)⟩
  have hxb:=hb x (List.mem_of_getElem? hx);have hyb:=hb y (List.mem_of_getElem? hy);have wx:wrap .i64 x=x:=Bj;have wy:wrap .i64 y=y:=Bj;have wyu:wrap .u64 y=y:=Ec;have gx:l.getD 0 0=x:=by rw[List.getD_eq_getElem?_getD,hx];rfl
  have gy:l.getD 1 0=y:=by rw[List.getD_eq_getElem?_getD,hy];rfl
  have w1:wrap .i64 (18+y)=18+y:=Bj;have w2:wrap .i64 (8*(18+y))=8*(18+y):=Bj;have w3:wrap .i64 (2+8*(18+y))=2+8*(18+y):=Bj;rw[gx,gy]
  have ehi:E1 y=decide (y>4):=by
   unfold E1;have:¬(y<0):=by omega
   simp[this]
  have eou:I0 x y=decide (x>=D9 .i64 1 y):=by
   unfold I0;have:¬(x<0):=by omega
   simp[this]
  rw[ehi,eou];by_cases c1:y>4
  ·rw[Br (by simp[c1])];simp(disch:=omega)only[Be,Bd,R6 hx,R6 hy,wx,wy];rfl
  ·by_cases c2:x>=D9 .i64 1 y
   ·rw[Br (by simp[c2])];simp (disch:=first|omega|exact c2) only[Be,Bd,R6 hx,R6 hy,wx,wy,wyu];rfl
   ·by_cases c3:(l.length:Int)=2+8*(18+y)
    ·rw[Ch ⟨h2,by simp[c1],by simp[c2],c3⟩];have lp:=KE (fu:=fu) (d:=d) (n:=l.length) (c:=Af .u8 l) (l:=l) (by omega) hy (by omega) c3 Bv (y3:=0) (y4:=0) (n5:=0) (n6:=0) (n7:=0) (c5:=[]) (c6:=[]) (x:=x) (18+y.toNat) fu 0 (by omega) (by omega);simp (disch:=first|omega|exact c2) only[Be,Bd,E4,R6 hx,R6 hy,wx,wy,wyu,w1,w2,w3];rw[Ch c3];simp(disch:=omega)only[Be,Bd,Mr,R6 hx,wx];refine Eq.trans lp ?_
     have e1:Fy ((l.drop 2).take 144)=(List.range 18).map (AZ l):=by
      unfold Fy;rw[show ((l.drop 2).take 144).length / 8=18 by rw[List.length_take,List.length_drop];omega]
      exact List.map_congr_left fun i hi=>Axm (List.mem_range.1 hi)
     have e2:Fy (l.drop 146)=(List.range y.toNat).map fun j=>AZ l (18+j):=by
      unfold Fy;rw[show (l.drop 146).length / 8=y.toNat by rw[List.length_drop];omega]
      exact List.map_congr_left fun i hi=>Axl
     rw[e1,e2];rfl
    ·rw[Br (by simp[c3])];simp (disch:=first|omega|exact c2) only[Be,Bd,E4,R6 hx,R6 hy,wx,wy,wyu,w1,w2,w3];rw[Br c3];rfl
 ·rw[Br (by simp[h2])];simp(disch:=omega)only[Be,Bd];rfl
end
theorem Atg(seed leaf m:Int):Ab6 leaf m (BK seed leaf m)=MK seed leaf:=by
 unfold Ab6 MK UM
 congr 1
 refine List.map_congr_left fun i hi=>?_;have hi:=List.mem_range.1 hi;have hb:=DF m i;unfold EO Abz
 have e:(BK seed leaf m).getD i 0=Ac7 seed leaf m i:=by
  unfold BK;rw[List.getD_eq_getElem?_getD,List.getElem?_map,List.getElem?_range hi];rfl
 rw[e];unfold Ac7;have:=Ahk leaf i (dg m i).toNat (15-dg m i).toNat 0 (Aka seed leaf i);rw[show (dg m i).toNat+(15-dg m i).toNat=15 by omega,show (0:Int)+((dg m i).toNat:Nat)=dg m i by omega] at this;exact this.symm
theorem Aqc:∀n:Fin 16,∀k:Fin 4,
  (Du .i64 (F3 .i64 (n.val:Int) k.val) 1=0/\F3 .i64 (n.val:Int) k.val=2*F3 .i64 (n.val:Int) ((k.val+1:Nat):Int)/\Zi n.val k.val=2*F3 .i64 (n.val:Int) ((k.val+1:Nat):Int)+1) \/
  (Du .i64 (F3 .i64 (n.val:Int) k.val) 1≠0/\F3 .i64 (n.val:Int) k.val=2*F3 .i64 (n.val:Int) ((k.val+1:Nat):Int)+1/\Zi n.val k.val=2*F3 .i64 (n.val:Int) ((k.val+1:Nat):Int)):=by decide
theorem UQ(seed:Int){leaf:Int}(h0:0<=leaf)(h1:leaf<16):∀(k i:Nat),i+k<=4 ->
  AD leaf i (K6 seed i (F3 .i64 leaf i)) ((List.range' i k).map fun j=>K6 seed j (Zi leaf j))=K6 seed (i+k) (F3 .i64 leaf ((i+k:Nat):Int))
 |0,i,_=>rfl
 |k+1,i,h=>by
  rw[List.range'_succ,Xv,CA];obtain⟨n,rfl⟩:=Int.eq_ofNat_of_zero_le h0;have ih:=UQ seed h0 h1 k (i+1) (by omega);rw[show i+(k+1)=i+1+k by omega,<-ih]
  congr 1
  rcases Aqc ⟨n,by omega⟩ ⟨i,by omega⟩ with⟨a,b,c⟩|⟨a,b,c⟩
  ·simp only at a b c;rw[Ch a,b,c];rfl
  ·simp only at a b c;rw[Br a,b,c];rfl
theorem Avr{seed h leaf m:Int}(hh:E1 h=false)(ho:I0 leaf h=false):PY (V9 seed h) m ⟨leaf,BK seed leaf m,(List.range h.toNat).map fun k=>K6 seed k (Zi leaf k)⟩=0:=by
 have hb:=Mu hh;have hl:=Ajd hb.1 hb.2 ho;have h16:=A3z hb.1 hb.2
 have eP:V9 seed h=⟨h,K6 seed h.toNat 0⟩:=by
  unfold V9;rw[hh];rfl
 rw[eP];unfold PY;simp only;rw[Br (show ¬E1 h=true by rw[hh];simp),Br (show ¬I0 leaf h=true by rw[ho];simp),Br (show ¬(BK seed leaf m).length≠18 by simp[BK]),Br (by rw[List.length_map,List.length_range];omega),Atg]
 have c:=UQ seed hl.1 (show leaf<16 by omega) h.toNat 0 (by omega)
 have e0:F3 .i64 leaf ((0:Nat):Int)=leaf:=by
  show leaf.fdiv (2 ^ (min ((0:Nat):Int).toNat IntKind.i64.bits))=leaf;have:(2:Int) ^ (min ((0:Nat):Int).toNat IntKind.i64.bits)=1:=by decide
  rw[this,Int.fdiv_one]
 have eh:F3 .i64 leaf ((0+h.toNat:Nat):Int)=0:=by
  have H:∀n:Fin 16,∀k:Fin 5,(n.val:Int)<2 ^ k.val->F3 .i64 (n.val:Int) ((0+k.val:Nat):Int)=0:=by decide
  obtain⟨n,hn⟩:=Int.eq_ofNat_of_zero_le hl.1;have:=H ⟨n,by omega⟩ ⟨h.toNat,by omega⟩ (by simp only;rw[<-hn];exact hl.2)
  rw[hn];exact this
 rw[e0,eh,Ir] at c;have er:List.range' 0 h.toNat=List.range h.toNat:=List.range_eq_range'.symm;rw[er] at c;have el:K6 seed 0 leaf=MK seed leaf:=rfl;rw[el] at c;rw[c];unfold okE;rw[Ch rfl]
abbrev isU(x:Int):Prop:=0<=x/\x<=18446744073709551615
abbrev isW(l:Al):Prop:=∀x∈l,isU x
theorem II:∀{ws:Al}{i:Nat}{w:Int},isW ws->ws[i]?=some w->Oo (A6 ws) i=w
 |[],i,w,_,h=>by simp at h
 |a::ws,0,w,hw,h=>by
  simp at h;subst h;have e:A6 (a::ws)=B5 a++A6 ws:=rfl;unfold Oo;rw[Nat.mul_zero,Ls,e,List.take_left' (C8 a)];have:=hw a (by simp);exact Aae this.1 this.2
 |a::ws,i+1,w,hw,h=>by
  simp at h;have ih:=II (ws:=ws) (fun x hx=>hw x (Tu _ hx)) h;have e:A6 (a::ws)=B5 a++A6 ws:=rfl;unfold Oo at ih ⊢;rw[show 8*(i+1)=(B5 a).length+8*i by rw[C8];omega,e,<-List.drop_drop,List.drop_left' rfl]
  exact ih
theorem LI{ws:Al}(hw:isW ws):Fy (A6 ws)=ws:=by
 have hl:(A6 ws).length / 8=ws.length:=by rw[E0];omega
 apply List.ext_getElem?;intro i;unfold Fy;rw[hl];by_cases h:i<ws.length
 ·rw[List.getElem?_map,List.getElem?_range h,List.getElem?_eq_getElem h];simp only[Option.map_some];rw[II hw (List.getElem?_eq_getElem h)]
 ·rw[List.getElem?_eq_none (by simp;omega),List.getElem?_eq_none (by omega)]
structure Sg.ok(s:Sg):Prop where
 ch:isW s.chains
 pa:isW s.path
theorem Bbm(s:Sg):Db (sgB s):=by
 have w8:∀v:Int,0<=wrap .u8 v/\wrap .u8 v<=255:=by
  intro v;simp only[wrap,IntKind.signed,IntKind.bits];simp;omega
 intro x hx;unfold sgB at hx;rcases Ce.1 hx with rfl|hx
 ·exact w8 _
 rcases Ce.1 hx with rfl|hx
 ·exact w8 _
 rcases B2.1 hx with hx|hx
 ·exact V5 _ x hx
 ·exact V5 _ x hx
theorem Ay3{s:Sg}(hs:s.ok)(h1:E1 s.path.length=false)(h2:I0 s.leaf s.path.length=false)(h3:s.chains.length=18):sgD (sgB s)=some s:=by
 obtain⟨leaf,ch,pa⟩:=s;obtain⟨hc,hp⟩:=hs;simp only at h1 h2 h3 hc hp;have hb:=Mu h1;have ho:=Ajd hb.1 hb.2 h2;have h16:=A3z hb.1 hb.2;have w1:wrap .u8 leaf=leaf:=Pg (by omega) (by omega);have w2:wrap .u8 (pa.length:Int)=pa.length:=Pg (by omega) (by omega);have lc:(A6 ch).length=144:=by rw[E0];omega
 have lp:(A6 pa).length=8*pa.length:=E0 pa
 have len:(sgB ⟨leaf,ch,pa⟩).length=2+144+8*pa.length:=by
  unfold sgB;simp only[Tt,Vk,lc,lp];omega
 have g0:(sgB ⟨leaf,ch,pa⟩).getD 0 0=leaf:=w1;have g1:(sgB ⟨leaf,ch,pa⟩).getD 1 0=pa.length:=w2;have d2:(sgB ⟨leaf,ch,pa⟩).drop 2=A6 ch++A6 pa:=rfl
 have d146:(sgB ⟨leaf,ch,pa⟩).drop 146=A6 pa:=by
  rw[show 146=2+144 from rfl,<-List.drop_drop,d2,List.drop_left' lc]
 unfold sgD;rw[Ch ⟨by omega,by rw[g1];exact h1,by rw[g0,g1];exact h2,by rw[g1,len];omega⟩,g0,d2,d146,List.take_left' lc,LI hc,LI hp]
theorem RD(dom:Int)(l:Al):isU (Fb dom l):=Su _
theorem A3y(key dom:Int)(l:Al):isU (Ayi key dom l):=Su _
theorem Asb(leaf chain:Int):∀(k:Nat)(p:Int){x:Int},isU x->isU (Wr leaf chain k p x)
 |0,_,_,h=>h
 |k+1,p,x,h=>Asb leaf chain k (p+1) (RD _ _)
theorem A61(seed leaf m:Int):isW (BK seed leaf m):=by intro x hx;obtain⟨k,_,rfl⟩:=List.mem_map.1 hx;exact Asb _ _ _ _ (A3y _ _ _)
theorem Axx(seed:Int):∀(l:Nat)(i:Int),isU (K6 seed l i)
 |0,i=>RD _ _
 |l+1,i=>RD _ _
theorem Abu{seed h:Int}(hh:E1 h=false):(V9 seed h).h=h:=by unfold V9;rw[Br (by simp[hh])]
theorem Ayo{seed h leaf m:Int}(hh:E1 h=false)(ho:I0 leaf h=false):∃s,Afc seed h leaf m=some s/\s.ok/\s.leaf=leaf/\s.chains.length=18/\(s.path.length:Int)=h/\PY (V9 seed h) m s=0:=by
 have hb:=Mu hh;refine⟨⟨leaf,BK seed leaf m,(List.range h.toNat).map fun k=>K6 seed k (Zi leaf k)⟩,?_,⟨A61 _ _ _,?_⟩,rfl,by simp[BK],?_,Avr hh ho⟩
 ·unfold Afc;rw[Br (by simp[hh]),Br (by simp[ho])]
 ·intro x hx;obtain⟨k,_,rfl⟩:=List.mem_map.1 hx;exact Axx _ _ _
 ·simp only[List.length_map,List.length_range];omega
theorem A0j{s:Sg}:(sgB s).length=2+8*s.chains.length+8*s.path.length:=by unfold sgB;simp only[Tt,Vk,E0];omega
theorem Afs{α:Type}{l:List α}{i:Nat}{a:α}(h:l[i]?=some a):l.set i a=l:=by
 refine List.ext_getElem? fun j=>?_;rw[List.getElem?_set];by_cases hj:i=j
 ·subst hj;rw[Ch rfl,Ch (Yr h),h]
 ·rw[Br hj]
section
variable {xs:FuncId->Option (Ae->Option Bq)}{fu d:Nat}
theorem YV{n:Nat}{c:Ae}(hc:c.length=n)(hn:n<=1000000):Ac (CX xs) prog fu (d+1) 84 [.lst false 1 n c]=some ⟨[.own 1 n c],[]⟩:=by
 rw[XZ];have t1:List.take n c=c:=Iu (by omega);by_cases h:0<n
 ·simp(disch:=omega)only[Be,Bd,Ir,WU,t1,hc,Jc]
 ·have h0:n=0:=by omega
  subst h0;have:=List.length_eq_zero_iff.1 hc;subst this;simp(disch:=omega)only[Be,Bd,Ir,WU,YX,Jc,Nat.zero_mul,List.take_nil]
theorem Ap5{n:Nat}{c:Ae}(hc:c.length=n*2)(hn:n<=1000000):Ac (CX xs) prog fu (d+1) 137 [.lst false 2 n c]=some ⟨[.own 2 n c],[]⟩:=by
 rw[BI];have t1:List.take (n*2) c=c:=Iu (by omega);by_cases h:0<n
 ·simp(disch:=omega)only[Be,Bd,Ir,WU,t1,hc]
 ·have h0:n=0:=by omega
  subst h0;have:=List.length_eq_zero_iff.1 hc;subst this;simp(disch:=omega)only[Be,Bd,Ir,WU,YX,Nat.zero_mul,List.take_nil]
def Sd.ocells(x:Sd):Ae:=[.own 1 x.id.length (Af .u8 x.id),As x.ht,Ag x.root,Ag x.model,As x.fmt,C5 (x.sh),Ag x.used,.own 2 x.rg.length (Pk x.rg),C5 (x.sus),As x.since,As x.last]
theorem XJ{c:Sd}(h1:c.id.length<=1000000)(h2:c.rg.length<=1000000):Ac (CX xs) prog fu (d+2) 98 [.agg c.cells]=some ⟨[.agg c.ocells],[]⟩:=by refine (AP fu (d+1) c.id.length (Af .u8 c.id) c.ht c.root c.model c.fmt c.sh c.used c.rg.length (Pk c.rg) c.sus c.since c.last).trans ?_;have q1:=YV (xs:=xs) (fu:=fu) (d:=d) (An .u8 c.id) h1;have q2:=Ap5 (xs:=xs) (fu:=fu) (d:=d) (Pj c.rg) h2;have l1:=An .u8 c.id;have l2:=Pj c.rg;have t1:List.take (c.id.length*1) (Af .u8 c.id)=Af .u8 c.id:=Iu (by omega);have t2:List.take (c.rg.length*2) (Pk c.rg)=Pk c.rg:=Iu (by omega);simp(disch:=omega)only[Be,Bd,q1,q2,t1,t2];rfl
end
section
variable {fu d:Nat}
theorem Ano{c:Ae}{n:Nat}{i f l:Int}(hc:c.length=n*2)(h0:0<=i)(h1:i<=n)(hn:n<=100000)(ha:c.all VP=true):
  Ac C1 prog fu (d+1) 99 [.own 2 n c,As i,.tup [.own 2 1 [As f,As l]]] =
   some ⟨[.own 2 (n+1) (c.take (i.toNat*2)++(As f :: As l::c.drop (i.toNat*2)))],[[As f,As l]]⟩:=by
 have h:Ac C1 prog fu (d+1) 99 [.own 2 n c,As i,.tup [.own 2 1 [As f,As l]]]=Av9 [.own 2 n c,As i,.tup [.own 2 1 [As f,As l]]]:=by kernel_rfl
 rw[h];unfold Av9
 have e:(Nat.beq c.length (n*2)&&decide (0<=i)&&decide (i<=n)&&Nat.ble n 100000&&c.all VP)=true:=by
  simp[ha,hc,h0,h1,hn]
 simp only[e,cond_true]
theorem A09(l:List (Int × Int)):(Pk l).all VP=true:=by
 rw[List.all_eq_true];intro x hx;obtain⟨p,_,hp⟩:=List.mem_flatMap.1 hx;rcases Ce.1 hp with rfl|hp
 ·rfl
 ·rw[Q2] at hp;subst hp;rfl
theorem Bg1{l:List (Int × Int)}{i:Nat}{p:Int × Int}(h:l[i]?=some p):(Pk l).getD (i*2) .top=As p.1:=by have:=IE (f:=fun p:Int × Int=>[PV.sc (.int .i64 p.1),As p.2]) (k:=2) (fun _=>rfl) h (j:=0) (by omega);exact this
theorem Be0{l:List (Int × Int)}{i:Nat}{p:Int × Int}(h:l[i]?=some p):(Pk l).getD (i*2+1) .top=As p.2:=by have:=IE (f:=fun p:Int × Int=>[PV.sc (.int .i64 p.1),As p.2]) (k:=2) (fun _=>rfl) h (j:=1) (by omega);exact this
def Adv(c:Sd)(leaf now:Int):Option (List (Int × Int))->Bq
 |none=>⟨[.agg c.cells,As 37],[]⟩
 |some r=>⟨[.agg ({ c with used:=Ahf c.used leaf,rg:=r,last:=now }:Sd).cells,As 0],[]⟩
theorem Asf{c:Sd}{leaf from_ now:Int}(hl:0<=leaf/\leaf<=15)(hr:c.rg.length<=1000)(B1:c.id.length<=1000000){call:Ap}(Az8:∀i:Nat,i<=c.rg.length->call 99 [.own 2 c.rg.length (Pk c.rg),As (i:Int),.tup [.own 2 1 [As from_,As leaf]]]=some ⟨[.own 2 (c.rg.length+1) ((Pk c.rg).take (i*2)++(As from_ :: As leaf::(Pk c.rg).drop (i*2)))],[[As from_,As leaf]]⟩){a0n:Nat}{a0:Ae}{a1 a2 a3 a4 a6 a9 a10 b1 b2 b3:Int}{a5 a8:Bool}{a7n:Nat}{a7:Ae}{z1:Nat}{z2 z3 z4 z5 z7 z10 z11:Int}{z6 z9:Bool}{z8:Nat}{z12 z13:Ae}:
  ∀(r:List (Int × Int)) (i nn:Nat),c.rg.drop i=r->r.length<nn->i<=c.rg.length->(∀p∈c.rg.take i,p.1<from_) ->
   Jk fu call a0n a0 a1 a2 a3 a4 a5 a6 a7n a7 a8 a9 a10 b1 b2 b3 nn leaf from_ now (D9 .u64 1 leaf) (i:Int) c.id.length c.ht c.root c.model c.fmt c.sh c.used c.rg.length c.sus c.since c.last (Af .u8 c.id) (Pk c.rg) z1 z2 z3 z4 z5 z6 z7 z8 z9 z10 z11 z12 z13 =
    some (Adv c leaf now ((put from_ leaf r).map (c.rg.take i ++ ·))):=by
 intro r;have l1:=An .u8 c.id;have l2:=Pj c.rg;have t1:List.take (c.id.length*1) (Af .u8 c.id)=Af .u8 c.id:=Iu (by omega);have t2:List.take (c.rg.length*2) (Pk c.rg)=Pk c.rg:=Iu (by omega);have eS:Xf .u64 c.used (D9 .u64 1 leaf)=Ahf c.used leaf:=rfl
 have insR:∀(i:Nat) (s:List (Int × Int)),i<=c.rg.length->c.rg.drop i=s->(Pk c.rg).take (i*2)++(As from_ :: As leaf::(Pk c.rg).drop (i*2))=Pk (c.rg.take i++(from_,leaf)::s):=by
  intro i s hi hs;have e1:=Acq (f:=fun p:Int × Int=>[PV.sc (.int .i64 p.1),As p.2]) (k:=2) (fun _=>rfl) c.rg i;have e2:=RG (f:=fun p:Int × Int=>[PV.sc (.int .i64 p.1),As p.2]) (k:=2) (fun _=>rfl) c.rg i;rw[Ay8,Awm,<-hs];unfold Pk;rw[e1,e2]
 have setR:∀(i:Nat) (l:List (Int × Int)) (p:Int × Int),l[i]?=some p->B3 (Pk l) [As leaf] (0+i*2+1)=Pk (l.set i (p.1,leaf)):=by
  intro i l p h;have Ci:=Yr h;have Wc:=Pj l;rw[Iv (by omega)];have:=Akk (f:=fun p:Int × Int=>[PV.sc (.int .i64 p.1),As p.2]) (k:=2) (fun _=>rfl) (p:=As leaf) (j:=1) (by omega) (y:=(p.1,leaf)) h rfl;unfold Pk;rw[<-this]
  congr 1
  omega
 induction r with
 |nil=>
  intro i nn hd Hs hi hp;have hi':i=c.rg.length:=by have:=drop_nil hd;omega
  obtain⟨nn,rfl⟩:∃k,nn=k+1:=⟨nn-1,by omega⟩
  rw[Rj];have q:=Az8 i hi;have eI:=insR i [] hi hd;rw[eI] at q;have ht:c.rg.take i=c.rg:=Iu (by omega);rw[ht] at q;have eG:(c.rg++[(from_,leaf)])[i]?=some (from_,leaf):=by rw[hi'];simp
  have eS2:=setR i _ _ eG;have eS3:=Afs eG;rw[eS3] at eS2;have lR:=Pj (c.rg++[(from_,leaf)]);have lA:(c.rg++[(from_,leaf)]).length=c.rg.length+1:=by simp
  have tR:List.take ((c.rg.length+1)*2) (Pk (c.rg++[(from_,leaf)]))=Pk (c.rg++[(from_,leaf)]):=Iu (by omega);have eq1:((i:Int)==(c.rg.length:Int))=true:=by simp[hi']
  have tn:Int.toNat (i:Int)=i:=rfl;have eX:put from_ leaf []=some [(from_,leaf)]:=rfl;rw[eX];simp only[Option.map_some,ht]
  repeat(with_reducible(first|apply A9|apply Au|apply Bb|apply A5|apply K3|apply Jt|apply At|apply Ba|apply Gn);· first|constructor|(simp(disch:=omega)only[Gp,q,t1,t2,tR,eS,eS2,eq1,tn,Ls,lR,lA]<;>first|constructor|omega)|omega)
  try simp(disch:=omega)only[Aa,q,t1,t2,tR,eS,eS2,eq1,tn,Ls,lR,lA]
  simp only[Adv,Sd.cells,lA]
 |cons p r ih=>
  intro i nn hd Hs hi hp;obtain⟨Ci,MT,hd'⟩:=Dx hd;obtain⟨nn,rfl⟩:∃k,nn=k+1:=⟨nn-1,by omega⟩
  rw[Rj];have eF:=Bg1 MT;have eL:=Be0 MT;have tn:Int.toNat (i:Int)=i:=rfl;have a0':(0:Nat)+i*2+0=i*2:=by omega
  have a1':(0:Nat)+i*2+1=i*2+1:=by omega
  have lt1:decide ((i:Int)<(c.rg.length:Int))=true:=by simp;omega
  have ne1:((i:Int)==(c.rg.length:Int))=false:=by simp;omega
  have w1:wrap .i64 ((i:Int)+1)=((i+1:Nat):Int):=Bl
  have tk:c.rg.take (i+1)=c.rg.take i++[p]:=by rw[List.take_add_one,MT];rfl
  unfold put;by_cases c1:p.1<from_
  ·rw[Ch c1]
   have ihh:=ih (i+1) nn hd' (by simp at Hs;omega) (by omega) (by
    intro q hq;rw[tk] at hq;rcases B2.1 hq with hq|hq
    ·exact hp q hq
    ·rw[Q2] at hq;subst hq;exact c1)
   have e:((put from_ leaf r).map (p :: ·)).map (c.rg.take i ++ ·)=(put from_ leaf r).map (c.rg.take (i+1) ++ ·):=by
    rw[Option.map_map,tk]
    congr 1
    funext x
    simp
   rw[e,<-ihh];have d1:decide (p.1<from_)=true:=by simp[c1]
   simp(disch:=omega)only[Be,Bd,tn,a0',eF,w1,lt1,d1]
  ·rw[Br c1];have d1:decide (p.1<from_)=false:=by simp;omega
   by_cases c2:p.1=from_
   ·rw[Ch c2];have d2:(p.1 != from_)=false:=by simp[c2]
    by_cases c3:leaf<=p.2
    ·rw[Ch c3];have d3:decide (p.2>=leaf)=true:=by simp;omega
     simp(disch:=omega)only[Be,Bd,tn,a0',a1',eF,eL,lt1,d1,ne1,d2,d3,t1,t2,Ls,Option.map_none];rfl
    ·rw[Br c3];have d3:decide (p.2>=leaf)=false:=by simp;omega
     have eS2:=setR i _ _ MT;have lR:=Pj (c.rg.set i (p.1,leaf));have lA:(c.rg.set i (p.1,leaf)).length=c.rg.length:=by simp
     have eA:c.rg.set i (p.1,leaf)=c.rg.take i++(from_,leaf)::r:=by
      rw[List.set_eq_take_append_cons_drop,Ch Ci,hd',c2]
     have tR:List.take (c.rg.length*2) (Pk (c.rg.set i (p.1,leaf)))=Pk (c.rg.set i (p.1,leaf)):=Iu (by omega);rw[a1'] at eS2;have hS3:i*2+1+1<=(Pk c.rg).length:=by omega
     simp(disch:=omega)only[Be,Bd,tn,a0',a1',eF,eL,lt1,d1,ne1,d2,d3,t1,tR,Ls,Option.map_some,eS2,eS,lR,lA];simp only[Adv,Sd.cells,<-eA,lA]
   ·rw[Br c2];have d2:(p.1 != from_)=true:=by simp[c2]
    have q:=Az8 i hi;have eI:=insR i (p::r) hi hd;rw[eI] at q
    have eG:(c.rg.take i++(from_,leaf)::p::r)[i]?=some (from_,leaf):=by
     rw[List.getElem?_append_right (by rw[List.length_take];omega),List.length_take,Nat.min_eq_left (by omega),Nat.sub_self];rfl
    have eS2:=setR i _ _ eG;have eS3:=Afs eG;rw[eS3] at eS2
    have lA:(c.rg.take i++(from_,leaf)::p::r).length=c.rg.length+1:=by
     have:=congrArg List.length hd;simp at this ⊢;omega
    have lR:=Pj (c.rg.take i++(from_,leaf)::p::r);rw[Option.map_some];generalize hL:c.rg.take i++(from_,leaf)::p::r=L at *
    have tR:List.take ((c.rg.length+1)*2) (Pk L)=Pk L:=Iu (by omega);rw[a1'] at eS2;have hS3:i*2+1+1<=(Pk L).length:=by omega
    simp(disch:=omega)only[Be,Bd,tn,a0',a1',eF,lt1,d1,ne1,d2,t1,t2,q,tR,Ls,eS2,eS,lR,lA];simp only[Adv,Sd.cells,lA]
theorem Aqr{c:Sd}(hk:c.ok)(Bv:2000<=fu)(leaf from_ now:Int):Ac C1 prog fu (d+4) 55 [.agg c.cells,As leaf,As from_,As now]=some ⟨[.agg (Ig c leaf from_ now).1.cells,As (Ig c leaf from_ now).2],[]⟩:=by
 refine (NP fu (d+3) c.id.length (Af .u8 c.id) c.ht c.root c.model c.fmt c.sh c.used c.rg.length (Pk c.rg) c.sus c.since c.last leaf from_ now).trans ?_;have q:=XJ (xs:=WR) (fu:=fu) (d:=d+1) hk.idL (Nat.le_trans hk.rgn (by omega));simp only[Sd.cells,Sd.ocells] at q;have l1:=An .u8 c.id;have l2:=Pj c.rg;have t1:List.take (c.id.length*1) (Af .u8 c.id)=Af .u8 c.id:=Iu (by omega);have t2:List.take (c.rg.length*2) (Pk c.rg)=Pk c.rg:=Iu (by omega);simp(disch:=omega)only[Be,Bd,q,t1,t2,Ls,l1,l2];by_cases h1:c.ht<0
 ·have hb:GU c leaf from_=true:=by simp[GU,h1]
  unfold Ig;rw[Ch hb];simp(disch:=omega)only[Be,Bd];rfl
 by_cases h2:c.ht>4
 ·have hb:GU c leaf from_=true:=by simp[GU,h2]
  unfold Ig;rw[Ch hb];simp(disch:=omega)only[Be,Bd];rfl
 by_cases h3:from_<0
 ·have hb:GU c leaf from_=true:=by simp[GU,h3]
  unfold Ig;rw[Ch hb];simp(disch:=omega)only[Be,Bd];rfl
 by_cases h4:from_>leaf
 ·have hb:GU c leaf from_=true:=by simp[GU,h4]
  unfold Ig;rw[Ch hb];simp(disch:=omega)only[Be,Bd];rfl
 by_cases h5:leaf>=D9 .i64 1 c.ht
 ·have hb:GU c leaf from_=true:=by simp[GU,h5]
  unfold Ig;rw[Ch hb];simp(disch:=omega)only[Be,Bd];rfl
 have hb:GU c leaf from_=false:=by simp[GU,h1,h2,h3,h4,h5]
 obtain⟨r1,r2,r3,r4,r5,r6⟩:=Xw hb;unfold Ig;rw[Br (by rw[hb];simp)]
 simp(disch:=omega)only[Be,Bd];rw[EL (Hs:=by omega)];have ub:=Apb hk.u0 hk.u1 (k:=leaf) (by omega) (by omega);by_cases hs:c.sus=true
 ·have hsT:∀x y:Option Bq,Ax c.sus x y=x:=fun x y=>by rw[hs];rfl
  rw[Ch hs];simp(disch:=omega)only[Be,Bd,hsT,t1,t2,Ls];rfl
 ·have hsF:∀x y:Option Bq,Ax c.sus x y=y:=fun x y=>by rw[Bool.not_eq_true] at hs;rw[hs];rfl
  rw[Br hs];by_cases EI:Agv c.used leaf=true
  ·rw[EI] at ub;rw[Ch EI];simp(disch:=omega)only[Be,Bd,hsF,ub,t1,t2,Ls];rfl
  ·rw[Bool.not_eq_true] at EI;rw[EI] at ub;rw[Br (by simp[EI])];simp(disch:=omega)only[Be,Bd,hsF,ub];refine (Asf (c:=c) (leaf:=leaf) (from_:=from_) (now:=now) (by omega) hk.rgn hk.idL (fun i hi=>Ano (Pj _) (by omega) (by omega) (by have:=hk.rgn;omega) (A09 _)) c.rg 0 fu rfl (by have:=hk.rgn;omega) (by omega) (by simp)).trans ?_
   have e0:(Option.map (List.take 0 c.rg ++ ·) (put from_ leaf c.rg))=put from_ leaf c.rg:=by
    rw[List.take_zero];cases put from_ leaf c.rg<;>rfl
   rw[e0];cases put from_ leaf c.rg<;>rfl
end
theorem Axo(c:Sd)(leaf f now:Int):(Ig c leaf f now).1.rg.length<=c.rg.length+1:=by
 unfold Ig;split
 ·simp
 split
 ·simp
 split
 ·simp
 split
 ·simp
 ·rename_i r h;exact Ab1 h
theorem Al8{c:Sd}(h:c.ok)(hr:c.rg.length<1000)(leaf f now:Int):(Ig c leaf f now).1.ok:=by
 unfold Ig;split
 ·exact h
 rename_i hb;rw[Bool.not_eq_true] at hb;obtain⟨r1,r2,r3,_⟩:=Xw hb;split
 ·exact h
 split
 ·exact⟨h.idB,h.idL,h.u0,h.u1,h.asc,h.rgn⟩
 split
 ·exact h
 ·rename_i r hp;have sB:=A6x h.u0 h.u1 (k:=leaf) (by omega) (by omega);have:=Ab1 hp;exact⟨h.idB,h.idL,sB.1,sB.2,Ama h.asc hp,by show r.length<=1000;omega⟩
section
variable {fu d:Nat}
end
structure WN where
 vf:Int
 rs:Bool
 ht:Int
 pr:Int
 sh:Bool
 fm:Int
 od:Bool
 dn:Al
 op:Int
def WN.cells(p:WN):Ae:=[As p.vf,C5 (p.rs),As p.ht,As p.pr,C5 (p.sh),As p.fm,C5 (p.od),.lst false 1 p.dn.length (Af .u64 p.dn),As p.op]
def WN.own(p:WN):Ae:=[As p.vf,C5 (p.rs),As p.ht,As p.pr,C5 (p.sh),As p.fm,C5 (p.od),.own 1 p.dn.length (Af .u64 p.dn),As p.op]
structure Zy where
 rp:Int
 fl:Int
 ct:Int
 rg:Int
 md:Int
 idn:Nat
 id:Ae
 kh:Int
 kr:Int
def Zy.cells(a:Zy):Ae:=[Ag a.rp,As a.fl,As a.ct,As a.rg,Ag a.md,.lst false 1 a.idn a.id,As a.kh,Ag a.kr]
structure Stc where
 n0:Nat
 c0:Ae
 i1:Int
 i2:Int
 md:Int
 i4:Int
 sh:Bool
 i6:Int
 n7:Nat
 c7:Ae
 b8:Bool
 i9:Int
 i10:Int
def Stc.cells(a:Stc):Ae:=[.lst false 1 a.n0 a.c0,As a.i1,Ag a.i2,Ag a.md,As a.i4,C5 (a.sh),Ag a.i6,.lst false 2 a.n7 a.c7,C5 (a.b8),As a.i9,As a.i10]
def TY(vf fl:Int):Int:=if Du .i64 fl 1=0 then 22 else if vf=2 then if Du .i64 fl 4=0 then 23 else 0 else 0
def Axw(dn:Al)(od:Bool)(m st:Int):Int:=if st=3 then 39 else if st=4 then 39 else if m∈dn then 40 else if st=2 then if od=true then 0 else 40 else 0
def Aez(p:WN)(a:Zy)(sh:Bool)(md st:Int):Int:=
 if TY p.vf a.fl=0 then if ((Du .i64 a.fl 8 != 0)==sh)=true then if md=0 then 0 else Axw p.dn p.od md st else 40 else TY p.vf a.fl
abbrev WN.okR(p:WN):Prop:=0<=p.vf/\p.vf<=2/\1<=p.ht/\p.ht<=4/\1<=p.pr/\p.pr<=3/\0<=p.fm/\p.fm<=2/\1<=p.op/\p.op<=1099511627776
section
variable {fu d:Nat}
theorem Axh(p:WN)(a:Zy):Ac C1 prog fu (d+1) 94 [.agg p.cells,.agg a.cells]=some ⟨[As (TY p.vf a.fl)],[]⟩:=by unfold WN.cells Zy.cells;rw[Zn];simp only[Gw,Lk,Ak3,TY]
theorem UJ{call:Ap}{n:Nat}{c:Ae}{t:Int}{l:Al}{m:Int}(hl:l.length<=maxLen):∀(r:Al)(i nn:Nat),l.drop i=r->r.length<nn ->
  ∃k:Int,Gm fu call n c t nn l.length (Af .u64 l) m (l.length:Int) i=some ⟨[As k],[]⟩/\(0<=k↔m∈r)
 |r,i,0,_,h=>by omega
 |[],i,nn+1,h,_=>by
  have:=drop_nil h;rw[Lj];refine⟨-1,?_,by simp⟩;simp(disch:=omega)only[Be,Bd]
 |x::r,i,nn+1,h,hn=>by
  obtain⟨h1,h2,h3⟩:=Dx h;simp only[maxLen] at hl;simp only[Tt] at hn;rw[Lj];have hg:=R6 (k:=.u64) h2;simp(disch:=omega)only[Be,Bd,Iq,Jc,hg,Lk];by_cases hm:m=x
  ·refine⟨i,by rw[Ch hm],by simp[hm]⟩
  ·obtain⟨k,h4,h5⟩:=UJ (m:=m) (call:=call) (n:=n) (c:=c) (t:=t) (by simp only[maxLen];omega) r (i+1) nn h3 (by omega)
   refine⟨k,by rw[Br hm,Bj];exact h4,by rw[h5];simp[hm]⟩
theorem Aff{l:Al}(hl:l.length<=maxLen)(Bv:l.length<fu)(m:Int):Ac C1 prog fu (d+2) 134 [.lst false 1 l.length (Af .u64 l),Ag m]=some ⟨[C5 (decide (m∈l))],[]⟩:=by
 rw[Vl];obtain⟨k,h1,h2⟩:=UJ (fu:=fu) (call:=Ac C1 prog fu d) (n:=l.length) (c:=Af .u64 l) (t:=m) (m:=m) hl l 0 fu rfl Bv
 have h3:Ac C1 prog fu (d+1) 161 [.lst false 1 l.length (Af .u64 l),Ag m]=some ⟨[As k],[]⟩:=by
  rw[Zm];exact h1
 simp only[Be,Bd,h3];have:decide (k>=0)=decide (m∈l):=by simp only[ge_iff_le,h2]
 rw[this]
theorem Aui(p:WN)(hl:p.dn.length<=maxLen)(Bv:p.dn.length<fu)(m st:Int):Ac C1 prog fu (d+3) 95 [.agg p.cells,Ag m,As st]=some ⟨[As (Axw p.dn p.od m st)],[]⟩:=by unfold WN.cells;rw[ET];simp only[Aff hl Bv,DN,MM,DO,KT,Lk,Auq,HE];simp only[Al2,Ak3,Axw,FJ]
theorem A7b(p:WN)(hl:p.dn.length<=maxLen)(Bv:p.dn.length<fu)(a:Zy)(c:Stc)(st:Int):
  Ac C1 prog fu (d+4) 53 [.agg p.cells,.agg a.cells,.agg c.cells,As st]=some ⟨[As (Aez p a c.sh c.md st)],[]⟩:=by
 have h1:=Axh (fu:=fu) (d:=d+2) p a;have h2:=Aui (fu:=fu) (d:=d) p hl Bv c.md st;unfold WN.cells Zy.cells Stc.cells at *
 rw[NB];simp only[h1,h2,DN,MM,DO,TM,Gw,Lk,E4,Auq];simp only[Al2,Ak3,Aez]
end
section
variable {xs:FuncId->Option (Ae->Option Bq)}(fu d:Nat)(call:Ap)
theorem HP{p:Option (Ae->Option Bq)}(fu d:Nat)(Z:Int):Ac (CP p) prog fu (d+1) 130 [.lst true 1 0 [],Z]=(fun (call:Ap)=>Ax (decide (Z<0)) none (Aa (wrap .i64 (Z-0)) fun a=>Ax (decide (a>0)) (Ar (decide (0<=a)&&decide (a.toNat*1<=1099511627776)&&decide (a<=1099511627776))<|Bh [.own 1 0 []]) (Bh [.own 1 0 []]))) (Ac (CP p) prog fu d):=by kernel_rfl
def Jd(Z:Nat)(Y:Ae)(X W:Nat)(V:Ae)(U:Int)(T:Nat)(S:Ae)(Q P:Int):Option Bq:=Kj fu call 90 Tryz.f90 [Am 1 Z Y] [.r,.r,.l,.r,.l] X ⟨lk [(0,Am 1 W V),(3,U),(9,Am 1 T S),(10,Q),(11,P)],Ct []⟩
def Je(Z:Nat)(Y:Ae)(X W V:Nat)(U:Ae)(T S:Int)(Q:Ae):Option Bq:=Kj fu call 90 Tryz.f90 [Am 1 Z Y] [.r,.r,.r,.r,.l,.r,.l] X ⟨lk [(6,.view 6 1 0 W),(25,Am 1 V U),(26,T),(27,S)],Ct [(6,.ar false Q)]⟩
theorem H3(X:Nat)(W:Ae)(P Y:Nat)(V:Ae)(U:Int)(T:Nat)(S:Ae)(Q Z:Int):Jd fu call X W (P+1) Y V U T S Q Z=(Ax (decide (Z<Q)) (Ar (decide (0<=Z)&&decide (Z<(↑T:Int)))<|Xs 1 (S.getD (Z.toNat*1) .top) fun a b c=>Aa (wrap .i64 (U+(↑b:Int))) fun a=>Ax (decide (a<0)) none (Aa (wrap .i64 (Z+1)) fun b=>Jd fu call X W P Y V a T S Q b)) (D8 (call 130 [.lst true 1 0 [],U]) fun a b=>Lh 1 a fun a c=>Ak b<|Je fu call X W fu a Y V (↑Y:Int) 0 c)):=by kernel_rfl
theorem H6(T:Nat)(S:Ae)(Q Z W:Nat)(V:Ae)(U Y:Int)(X:Ae):Je fu call T S (Q+1) Z W V U Y X=(Ax (decide (Y<U)) (Ar (decide (0<=Y)&&decide (Y<(↑W:Int)))<|Xs 1 (V.getD (Y.toNat*1) .top) fun a b c=>Ar (decide (Z*1<=X.length)&&decide (c.length=b*1)&&decide ((Z+b)*1<=1099511627776)&&decide (Z+b<=1099511627776))<|Aa (Z+b) fun a=>Aa (List.take (Z*1) X++c) fun b=>Aa (wrap .i64 (Y+1)) fun c=>Je fu call T S Q a W V U c b) (Ar (decide (Z*1<=X.length))<|Bh [.own 1 Z (X.take (Z*1))])):=by kernel_rfl
theorem AC{p:Option (Ae->Option Bq)}(fu d Z:Nat)(Y:Ae):Ac (CP p) prog fu (d+1) 90 [Am 1 Z Y]=(fun (call:Ap)=>Jd fu call Z Y fu Z Y 0 Z Y (↑Z:Int) 0) (Ac (CP p) prog fu d):=by kernel_rfl
def Kl(Z:Nat)(Y:Ae)(X:Nat)(W:Int)(V:Nat)(U:Ae)(T S:Int):Option Bq:=Kj fu call 81 Tryz.f81 [Am 1 Z Y] [.r,.r,.l,.r,.l] X ⟨lk [(3,Ag W),(6,Am 1 V U),(7,T),(8,S)],Ct []⟩
theorem S5(U:Nat)(T:Ae)(S:Nat)(Y:Int)(X:Nat)(W:Ae)(V Z:Int):Kl fu call U T (S+1) Y X W V Z=(Ax (decide (Z<V)) (Ar (decide (0<=Z)&&decide (Z<(↑X:Int)))<|Bk .u8 (W.getD (Z.toNat*1) .top) fun a=>Aa (D9 .u64 Y 8) fun b=>Aa (wrap .u64 a) fun a=>Aa (Xf .u64 b a) fun a=>Aa (wrap .i64 (Z+1)) fun b=>Kl fu call U T S a X W V b) (Bh [Ag Y])):=by kernel_rfl
theorem QF{p:Option (Ae->Option Bq)}(fu d Z:Nat)(Y:Ae):Ac (CP p) prog fu (d+1) 81 [Am 1 Z Y]=(fun (call:Ap)=>Kl fu call Z Y fu 0 Z Y (↑Z:Int) 0) (Ac (CP p) prog fu d):=by kernel_rfl
theorem UY{p:Option (Ae->Option Bq)}(fu d:Nat)(X Z:Int)(W V U:Int)(T:Nat)(S:Ae)(Q P Y:Int):Ac (CP p) prog fu (d+1) 82 [.agg [Ag X,Z,W,V,Ag U,Am 1 T S,Q,Ag P],Y]=(fun (call:Ap)=>Aa (Du .i64 Z Y) fun a=>Bh [C5 (a != 0)]) (Ac (CP p) prog fu d):=by kernel_rfl
def Qd(Z Y:Int)(X W V:Int)(U:Nat)(T:Ae)(S Q:Int)(P:Nat)(O N:Int)(M L K:Int)(J:Nat)(I:Ae)(H G:Int):Option Bq:=Kj fu call 85 Tryz.f85 [.agg [Ag Z,Y,X,W,Ag V,Am 1 U T,S,Ag Q]] [.r] P ⟨lk [(1,.ptr 1 0)],Ct [(1,.st [Ag O,N,M,L,Ag K,Am 1 J I,H,Ag G])]⟩
theorem Yu(O N:Int)(M L K:Int)(J:Nat)(I:Ae)(H G:Int)(P:Nat)(Hs:0<P)(V U:Int)(T S W:Int)(Z:Nat)(Q:Ae)(Y X:Int):Qd fu call O N M L K J I H G P V U T S W Z Q Y X=(D8 (call 82 [.agg [Ag V,U,T,S,Ag W,Am 1 Z Q,Y,Ag X],(16:Int)]) fun a b=>Bn a fun a=>Ak b<|Ax a (D8 (call 82 [.agg [Ag V,U,T,S,Ag W,Am 1 Z Q,Y,Ag X],(8:Int)]) fun a b=>Bn a fun a=>Ak b<|Ax (!a) (Bh [(18:Int)]) (D8 (call 82 [.agg [Ag V,U,T,S,Ag W,Am 1 Z Q,Y,Ag X],(64:Int)]) fun a b=>Bn a fun a=>Ak b<|Ax (!a) (Ax (W != 0) (Bh [(4:Int)]) (Ax ((↑Z:Int) != 0) (Bh [(4:Int)]) (Ax (!(Y==0&&(X==0&&true))) (Bh [(4:Int)]) (Bh [(0:Int)])))) (Ax ((↑Z:Int) != 176) (Bh [(4:Int)]) (D8 (call 128 [.agg [Y,Ag X]]) fun a b=>Lh 1 a fun a c=>B8 .i64 b fun a=>Bh [a])))) (D8 (call 82 [.agg [Ag V,U,T,S,Ag W,Am 1 Z Q,Y,Ag X],(64:Int)]) fun a b=>Bn a fun a=>Ak b<|Ax (!a) (Ax (W != 0) (Bh [(4:Int)]) (Ax ((↑Z:Int) != 0) (Bh [(4:Int)]) (Ax (!(Y==0&&(X==0&&true))) (Bh [(4:Int)]) (Bh [(0:Int)])))) (Ax ((↑Z:Int) != 176) (Bh [(4:Int)]) (D8 (call 128 [.agg [Y,Ag X]]) fun a b=>Lh 1 a fun a c=>B8 .i64 b fun a=>Bh [a])))):=by cases P with|zero=>exact absurd Hs (Nat.lt_irrefl 0)|succ P=>kernel_rfl
theorem DW{p:Option (Ae->Option Bq)}(fu d:Nat)(W X:Int)(Z Y V:Int)(U:Nat)(T:Ae)(S Q:Int):Ac (CP p) prog fu (d+1) 85 [.agg [Ag W,X,Z,Y,Ag V,Am 1 U T,S,Ag Q]]=(fun (call:Ap)=>Aa (Y0 .i64 X 93) fun a=>Ax (a != 0) (Bh [(9:Int)]) (Ax (decide (Z<0)) (Bh [(9:Int)]) (Ax (decide (Z>16)) (Bh [(9:Int)]) (Ax (decide (Y<0)) (Bh [(9:Int)]) (Ax (decide (Y>=16)) (Bh [(9:Int)]) (Qd fu call W X Z Y V U T S Q fu W X Z Y V U T S Q)))))) (Ac (CP p) prog fu d):=by kernel_rfl
theorem KK{p:Option (Ae->Option Bq)}(fu d Z:Nat)(Y:Ae):Ac (CP p) prog fu (d+1) 47 [Am 1 Z Y]=(fun (call:Ap)=>Ax (decide ((↑Z:Int)<11)) (Bh [.agg [Ag 0,(0:Int),(0:Int),(0:Int),Ag 0,.own 1 0 [],(0:Int),Ag 0],(2:Int)]) (Ar (decide (8<=Z))<|Aa (List.take 8 (Y.drop 0)) fun a=>Gs .u64 (call 81 [Am 1 8 a]) fun a=>Ar (decide (8<(↑Z:Int)))<|Bk .u8 (Y.getD 8 .top) fun b=>Aa (wrap .i64 b) fun b=>Ar (decide (9<(↑Z:Int)))<|Bk .u8 (Y.getD 9 .top) fun c=>Aa (wrap .i64 c) fun c=>Ar (decide (10<(↑Z:Int)))<|Bk .u8 (Y.getD 10 .top) fun e=>Aa (wrap .i64 e) fun e=>D8 (call 82 [.agg [Ag a,b,c,e,Ag 0,Am 1 0 [],(0:Int),Ag 0],(64:Int)]) fun f g=>Bn f fun f=>Ak g<|Ax f (Ax (decide ((↑Z:Int)<195)) (Bh [.agg [Ag 0,(0:Int),(0:Int),(0:Int),Ag 0,.own 1 0 [],(0:Int),Ag 0],(2:Int)]) (Ar (decide (195<=Z)&&decide (Z<=Z))<|Aa (Z-195) fun f=>Aa (List.take (f*1) (Y.drop 195)) fun g=>D8 (call 83 [Am 1 f g]) fun f g=>Eo f fun f=>Dw .i64 f fun f h=>B8 .u64 h fun h=>B8 .i64 g fun g=>Ax (g != 0) (Bh [.agg [Ag 0,(0:Int),(0:Int),(0:Int),Ag 0,.own 1 0 [],(0:Int),Ag 0],(2:Int)]) (Ar (decide (19<=Z))<|Aa (List.take 8 (Y.drop 11)) fun g=>Gs .u64 (call 81 [Am 1 8 g]) fun g=>Ar (decide (195<=Z))<|Aa (List.take 176 (Y.drop 19)) fun i=>D8 (call 84 [Am 1 176 i]) fun i j=>Lh 1 i fun i k=>Ak j<|Ar (decide (0+i*1<=k.length))<|Gs .i64 (call 85 [.agg [Ag a,b,c,e,Ag g,Am 1 i (List.take (i*1) (k.drop 0)),f,Ag h]]) fun j=>Ax (j != 0) (Bh [.agg [Ag 0,(0:Int),(0:Int),(0:Int),Ag 0,.own 1 0 [],(0:Int),Ag 0],(2:Int)]) (Ar (decide (i*1<=k.length))<|Bh [.agg [Ag a,b,c,e,Ag g,.own 1 i (k.take (i*1)),f,Ag h],(0:Int)])))) (Ax (decide ((↑Z:Int)>11)) (Bh [.agg [Ag 0,(0:Int),(0:Int),(0:Int),Ag 0,.own 1 0 [],(0:Int),Ag 0],(2:Int)]) (Gs .i64 (call 85 [.agg [Ag a,b,c,e,Ag 0,Am 1 0 [],(0:Int),Ag 0]]) fun f=>Ax (f != 0) (Bh [.agg [Ag 0,(0:Int),(0:Int),(0:Int),Ag 0,.own 1 0 [],(0:Int),Ag 0],(2:Int)]) (Bh [.agg [Ag a,b,c,e,Ag 0,.own 1 0 [],(0:Int),Ag 0],(0:Int)]))))) (Ac (CP p) prog fu d):=by kernel_rfl
theorem IA{p:Option (Ae->Option Bq)}(fu d:Nat)(Z:ByteArray):Ac (CP p) prog fu (d+1) 48 [Z]=(fun (call:Ap)=>Ar (decide (ByteArray.size Z<=1099511627776))<|Ar (decide (0+ByteArray.size Z*1<=List.length (D5 Z)))<|Gs .u64 (call 86 [(9:Int),Am 1 (ByteArray.size Z) (List.take (ByteArray.size Z*1) (List.drop 0 (D5 Z)))]) fun a=>Bh [Ag a]) (Ac (CP p) prog fu d):=by kernel_rfl
theorem GE{p:Option (Ae->Option Bq)}(fu d Z:Nat)(Y:Ae)(X:Int):Ac (CP p) prog fu (d+1) 50 [Am 1 Z Y,Ag X]=(fun (call:Ap)=>D8 (call 91 [Am 1 1 [Ag X]]) fun a b=>Lh 1 a fun a c=>Ak b<|Ar (decide (0+a*1<=c.length))<|D8 (call 90 [Am 1 2 [Am 1 Z Y,Am 1 a (List.take (a*1) (c.drop 0))]]) fun a b=>Lh 1 a fun a c=>Ak b<|Ar (decide (0+a*1<=c.length))<|Gs .u64 (call 86 [(13:Int),Am 1 a (List.take (a*1) (c.drop 0))]) fun a=>Bh [Ag a]) (Ac (CP p) prog fu d):=by kernel_rfl
theorem Zj{p:Option (Ae->Option Bq)}(fu d:Nat)(Z Y X:Int):Ac (CP p) prog fu (d+1) 110 [Z,Y,X]=(fun (call:Ap)=>Ax (decide (Z>=Y)) (Bh [C5 (decide (Z<=X))]) (Bh [false])) (Ac (CP p) prog fu d):=by kernel_rfl
theorem Ru{p:Option (Ae->Option Bq)}(fu d:Nat)(S Z:Int)(U T V:Int)(Y:Nat)(Q:Ae)(X W:Int):Ac (CP p) prog fu (d+1) 67 [.agg [Ag S,Z,U,T,Ag V,Am 1 Y Q,X,Ag W]]=(fun (call:Ap)=>Aa (Y0 .i64 Z 93) fun a=>Ax (a != 0) (Bh [(9:Int)]) (D8 (call 110 [U,(0:Int),(16:Int)]) fun a b=>Bn a fun a=>Ak b<|Ax (!a) (Bh [(9:Int)]) (D8 (call 110 [T,(0:Int),(15:Int)]) fun a b=>Bn a fun a=>Ak b<|Ax (!a) (Bh [(9:Int)]) (Aa (Du .i64 Z 16) fun a=>Ax (a != 0) (Aa (Du .i64 Z 8) fun a=>Ax (a==0) (Bh [(18:Int)]) (Aa (Du .i64 Z 64) fun a=>Ax (a==0) (Ax (V != 0) (Bh [(4:Int)]) (Ax (decide ((↑Y:Int)>0)) (Bh [(4:Int)]) (Ax (!(X==0&&(W==0&&true))) (Bh [(4:Int)]) (Bh [(0:Int)])))) (Ax ((↑Y:Int) != 176) (Bh [(4:Int)]) (D8 (call 68 [.agg [X,Ag W]]) fun a b=>Lh 1 a fun a c=>B8 .i64 b fun a=>Bh [a])))) (Aa (Du .i64 Z 64) fun a=>Ax (a==0) (Ax (V != 0) (Bh [(4:Int)]) (Ax (decide ((↑Y:Int)>0)) (Bh [(4:Int)]) (Ax (!(X==0&&(W==0&&true))) (Bh [(4:Int)]) (Bh [(0:Int)])))) (Ax ((↑Y:Int) != 176) (Bh [(4:Int)]) (D8 (call 68 [.agg [X,Ag W]]) fun a b=>Lh 1 a fun a c=>B8 .i64 b fun a=>Bh [a]))))))) (Ac (CP p) prog fu d):=by kernel_rfl
theorem Z4{p:Option (Ae->Option Bq)}(fu d:Nat)(Z:ByteArray):Ac (CP p) prog fu (d+1) 35 [Z]=(fun (call:Ap)=>Ar (decide (ByteArray.size Z<=1099511627776))<|Ar (decide (0+ByteArray.size Z*1<=List.length (D5 Z)))<|Gs .u64 (call 69 [(9:Int),Am 1 (ByteArray.size Z) (List.take (ByteArray.size Z*1) (List.drop 0 (D5 Z)))]) fun a=>Bh [Ag a]) (Ac (CP p) prog fu d):=by kernel_rfl
theorem X4{p:Option (Ae->Option Bq)}(fu d Z:Nat)(Y:Ae)(X:Int):Ac (CP p) prog fu (d+1) 38 [Am 1 Z Y,Ag X]=(fun (call:Ap)=>Ar (decide (Y.length=Z*1)&&decide (Z*1<=1099511627776)&&decide (Z<=1099511627776))<|D8 (call 62 [Am 1 1 [Ag X]]) fun a b=>Lh 1 a fun a c=>Ak b<|Ar (decide (0+a*1<=c.length))<|Ar (decide (Z*1<=Y.length)&&decide (List.length (List.take (a*1) (c.drop 0))=a*1)&&decide ((Z+a)*1<=1099511627776)&&decide (Z+a<=1099511627776))<|Aa (Z+a) fun b=>Aa (List.take (Z*1) Y++List.take (a*1) (c.drop 0)) fun a=>Ar (decide (0+b*1<=a.length))<|Gs .u64 (call 69 [(13:Int),Am 1 b (List.take (b*1) (a.drop 0))]) fun a=>Bh [Ag a]) (Ac (CP p) prog fu d):=by kernel_rfl
end
end
end Go.Proofs.YtohcncipgljdkaaGreatDoor.Pv
