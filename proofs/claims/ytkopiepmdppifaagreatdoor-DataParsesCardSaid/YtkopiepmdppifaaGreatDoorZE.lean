/-
  The proof of DataParses, part 5.
-/
import Derived.Test.YtkopiepmdppifaaGreatDoorZD
import Derived.Laws.ResultCell
import Derived.Test.YtkopiepmdppifaaGreatDoorRows
import Derived.Lib.ValidLaws
set_option linter.unusedSimpArgs false
set_option linter.unusedVariables false
namespace Go.Proofs.YtkopiepmdppifaaGreatDoor.Pv
open Go.IntKind (wrap)
open Go.Proofs.Tryz (prog)
set_option maxRecDepth 1000000
noncomputable section
theorem dT{q:Prop}[Decidable q](h:q):decide q=true:=decide_eq_true h
theorem dF{q:Prop}[Decidable q](h:¬q):decide q=false:=decide_eq_false h
theorem bT{q:Prop}[Decidable q](h:q):(!decide q)=false:=by simp[h]
theorem bF{q:Prop}[Decidable q](h:¬q):(!decide q)=true:=by simp[h]
def okB(n i:Nat)(c:Int):Bool:=XQ c||(c==45&&decide (0<i)&&decide (i+1<n))
def BB(n:Nat):Nat->Am->Bool
 |_,[]=>true
 |i,c::r=>okB n i c&&BB n (i+1) r
theorem LN(n i:Nat)(c:Int)(r:Am):BB n i (c::r)=(okB n i c&&BB n (i+1) r):=rfl
theorem Ajs:XQ 45=false:=rfl
theorem Aah(n:Nat):∀(r:Am)(i:Nat),i+r.length=n->BB n i r=(r.all (fun x=>XQ x||x==45) && !(decide (i=0)&&r.head?==some 45) && !(r.getLast?==some 45))
 |[],i,_=>by simp[BB]
 |[c],i,h=>by
  simp only[Ub,Zzh] at h;unfold BB okB;by_cases hc:c=45
  ·subst hc;have:¬i+1<n:=by omega
   simp[BB,Ajs,this]
  ·have hcb:(c==45)=false:=by simp[hc]
   simp[BB,hcb]
 |c::x::r,i,h=>by
  have ih:=Aah n (x::r) (i+1) (by simp at h ⊢;omega)
  have hl:(c::x::r).getLast?=(x::r).getLast?:=by simp
  unfold BB;rw[ih,hl];have h1:i+1<n:=by simp at h;omega
  unfold okB;by_cases hc:c=45
  ·subst hc;by_cases hi:i=0
   ·subst hi;simp[Ajs]
   ·have:0<i:=by omega
    simp[Ajs,h1,hi,this]
  ·have hcb:(c==45)=false:=by simp[hc]
   simp[hcb,Bool.and_assoc]
theorem Akw{l:Am}(h1:1<=l.length)(h2:l.length<=63):Jt l=BB l.length 0 l:=by rw[Aah _ l 0 (by simp)];unfold Jt;rw[dT h1,dT h2];cases l.all (fun x=>XQ x||x==45)<;>cases (l.head?==some 45)<;>cases (l.getLast?==some 45)<;>rfl
section
variable {fu d:Nat}{p:Option (Al->Option Bz)}
theorem SB{call:A7}{a0:ByteArray}{l:Am}(hB:Ct l)(hs:l.length<=63):∀(r:Am)(i nn:Nat),l.drop i=r->r.length+1<=nn ->
  Bl fu call a0 nn (Aa l) (l.length:Int) (i:Int)=some ⟨[.sc (.bool (BB l.length i r))],[]⟩
 |[],i,nn,hd,hn=>by
  obtain⟨k,rfl⟩:∃k,nn=k+1:=⟨nn-1,by omega⟩
  have hi:=drop_nil hd;have a1:decide ((i:Int)<(l.length:Int))=false:=by simp;omega
  rw[Mo];simp only[A2,A1,a1];rfl
 |c::r,i,nn,hd,hn=>by
  obtain⟨k,rfl⟩:∃k,nn=k+1:=⟨nn-1,by omega⟩
  obtain⟨hi,hc,Lz⟩:=E0 hd;have ih:=SB (call:=call) (a0:=a0) hB hs r (i+1) k Lz (by simp at hn;omega)
  have AP:=hB c (List.mem_of_getElem? hc);have a1:decide ((i:Int)<(l.length:Int))=true:=by simp;omega
  have a2:decide ((0:Int)<=(i:Int))=true:=by simp
  have a3:(Array.toList (Aa l).data)[Int.toNat (i:Int)]?=some c.toNat.toUInt8:=by
   rw[Kc];show (l.map fun n=>n.toNat.toUInt8)[i]?=_;rw[List.getElem?_map,hc];rfl
  have a4:=Je AP;have a5:wrap .i64 ((i:Int)+1)=((i+1:Nat):Int):=by rw[Ar (by omega) (by omega)];omega
  have a6:wrap .i64 ((l.length:Int)-1)=(l.length:Int)-1:=Ar (by omega) (by omega)
  have good:okB l.length i c=true->(Bl fu call a0 k (Aa l) (l.length:Int) ((i+1:Nat):Int)=some ⟨[.sc (.bool (BB l.length i (c::r)))],[]⟩):=by
   intro h;rw[ih,LN,h,QD]
  have bad:okB l.length i c=false->some (Bz.mk [PV.sc (.bool false)] [])=some ⟨[.sc (.bool (BB l.length i (c::r)))],[]⟩:=by
   intro h;rw[LN,h,CS]
  rw[Mo];by_cases hA:97<=c/\c<=122
  ·have q1:=dT hA.1;have q2:=dT hA.2;have q3:(c==45)=false:=by simp;omega
   have q4:=dT (q:=(48:Int)<=c) (by omega);have q5:=bF (q:=c<=57) (by omega);simp only[A2,A1,a1,a2,a3,a4,a5,a6,Ag,q1,q2,q3,q4,q5];exact good (by unfold okB XQ;simp[hA])
  by_cases hD:48<=c/\c<=57
  ·have q1:=dF (q:=(97:Int)<=c) (by omega);have q2:=dT (q:=c<=122) (by omega);have q3:(c==45)=false:=by simp;omega
   have q4:=dT hD.1;have q5:=bT hD.2;simp only[A2,A1,a1,a2,a3,a4,a5,a6,Ag,q1,q2,q3,q4,q5];exact good (by unfold okB XQ Oi;simp[hD])
  have Cx:XQ c=false:=by
   unfold XQ Oi;simp;exact⟨fun h=>by omega,fun h=>by omega⟩
  by_cases hM:c=45
  ·subst hM;have q1:decide ((97:Int)<=45)=false:=rfl;have q2:decide ((45:Int)<=122)=true:=rfl;have q3:((45:Int)==45)=true:=rfl;have q4:decide ((48:Int)<=45)=false:=rfl;have q5:(!decide ((45:Int)<=57))=false:=rfl;by_cases h0:0<i
   ·have q6:=dT (q:=(i:Int)>0) (by omega);by_cases h1:i+1<l.length
    ·have q7:=bT (q:=(i:Int)<(l.length:Int)-1) (by omega);simp only[A2,A1,a1,a2,a3,a4,a5,a6,Ag,q1,q2,q3,q4,q5,q6,q7];exact good (by unfold okB;simp[h0,h1])
    ·have q7:=bF (q:=(i:Int)<(l.length:Int)-1) (by omega);simp only[A2,A1,a1,a2,a3,a4,a5,a6,Ag,q1,q2,q3,q4,q5,q6,q7];exact bad (by unfold okB;simp[h1,Cx])
   ·have q6:=dF (q:=(i:Int)>0) (by omega);simp only[A2,A1,a1,a2,a3,a4,a5,a6,Ag,q1,q2,q3,q4,q5,q6];exact bad (by unfold okB;simp[h0,Cx])
  have q3:(c==45)=false:=by simp[hM]
  have Acv:okB l.length i c=false:=by unfold okB;simp[Cx,hM]
  by_cases h97:97<=c
  ·have q1:=dT h97;have q2:=dF (q:=c<=122) (by omega);have q4:=dT (q:=(48:Int)<=c) (by omega);have q5:=bF (q:=c<=57) (by omega);simp only[A2,A1,a1,a2,a3,a4,a5,a6,Ag,q1,q2,q3,q4,q5];exact bad Acv
  ·have q1:=dF h97;have q2:=dT (q:=c<=122) (by omega);by_cases h48:48<=c
   ·have q4:=dT h48;have q5:=bF (q:=c<=57) (by omega);simp only[A2,A1,a1,a2,a3,a4,a5,a6,Ag,q1,q2,q3,q4,q5];exact bad Acv
   ·have q4:=dF h48;have q5:=bT (q:=c<=57) (by omega);simp only[A2,A1,a1,a2,a3,a4,a5,a6,Ag,q1,q2,q3,q4,q5];exact bad Acv
theorem Anv{l:Am}(hB:Ct l)(Ce:100<=fu):Ae (CP p) prog fu (d+1) 62 [.sc (.string (Aa l))]=some ⟨[.sc (.bool (Jt l))],[]⟩:=by
 rw[Zi];by_cases h1:1<=l.length
 ·by_cases h2:l.length<=63
  ·have a1:decide (((l.length:Nat):Int)<1)=false:=by simp;omega
   have a2:decide (((l.length:Nat):Int)>63)=false:=by simp;omega
   rw[Akw h1 h2];simp only[A2,A1,Ag,a1,a2];exact SB hB h2 l 0 fu rfl (by omega)
  ·have a1:decide (((l.length:Nat):Int)<1)=false:=by simp;omega
   have a2:decide (((l.length:Nat):Int)>63)=true:=by simp;omega
   have e:Jt l=false:=by unfold Jt;simp[h2]
   rw[e];simp only[A2,A1,Ag,a1,a2]
 ·have a1:decide (((l.length:Nat):Int)<1)=true:=by simp;omega
  have e:Jt l=false:=by unfold Jt;simp[h1]
  rw[e];simp only[A2,A1,Ag,a1]
theorem Afr(l cs:List UInt8):(Lib.trimS l cs==[])=l.all (cs.contains ·):=by
 have key:∀(q:UInt8->Bool) (m:List UInt8),m.dropWhile q=[]↔m.all q=true:=by
  intro q m
  induction m with
  |nil=>simp
  |cons x m ih=>
   by_cases hx:q x=true
   ·rw[List.dropWhile_cons_of_pos hx,ih];simp[hx]
   ·rw[List.dropWhile_cons_of_neg hx];simp[hx]
 unfold Lib.trimS Lib.trimLeftS Lib.trimRightS;rw[Bool.eq_iff_iff,beq_iff_eq,key,List.all_reverse,<-key,key,List.all_eq_true]
 have h2:∀(q:UInt8->Bool) (m:List UInt8),(m.dropWhile q).all q=true↔m.all q=true:=by
  intro q m
  induction m with
  |nil=>simp
  |cons x m ih=>
   by_cases hx:q x=true
   ·rw[List.dropWhile_cons_of_pos hx,ih];simp[hx]
   ·rw[List.dropWhile_cons_of_neg hx]
 rw[<-List.all_eq_true,h2,List.all_reverse]
def Ut:ByteArray:=⟨#[48,49,50,51,52,53,54,55,56,57]⟩
theorem Aqf:∀n:Fin 256,Ut.data.toList.contains (n.val:Int).toNat.toUInt8=Oi (n.val:Int):=by decide +kernel
theorem As4{l:Am}(h:Ct l):((l.map fun n=>n.toNat.toUInt8).all (Ut.data.toList.contains ·))=l.all Oi:=by
 induction l with
 |nil=>rfl
 |cons c r ih=>
  obtain⟨hc,hr⟩:=Bi h;obtain⟨n,rfl⟩:=Int.eq_ofNat_of_zero_le hc.1;rw[Xy,List.all_cons,List.all_cons,ih hr]
  congr 1
  exact Aqf ⟨n,by omega⟩
theorem Arp{l:Am}(hB:Ct l)(hs:l.length<=1000000):∃x,Ae (CP p) prog fu (d+1) 63 [.sc (.string (Aa l)),.sc (.string Ut)]=some ⟨[.sc (.string x)],[]⟩/\(Array.toList x.data==Array.toList (ByteArray.mk #[]).data)=l.all Oi:=by
 refine⟨⟨(Lib.trimS (Aa l).data.toList Ut.data.toList).toArray⟩,?_,?_⟩
 ·have e:Ae (CP p) prog fu (d+1) 63 [.sc (.string (Aa l)),.sc (.string Ut)]=UC [.sc (.string (Aa l)),.sc (.string Ut)]:=rfl;rw[e];unfold UC
  have:(Nat.ble Ut.size 1000&&Ut.data.toList.all (fun b=>decide (b.toNat<128))&&decide ((Aa l).size<=1000000000))=true:=by
   rw[Ag];have h1:(Nat.ble Ut.size 1000&&Ut.data.toList.all (fun b=>decide (b.toNat<128)))=true:=by decide +kernel
   rw[h1,dT (q:=l.length<=1000000000) (by omega)];rfl
  simp only[this,cond_true]
 ·show (Lib.trimS (Aa l).data.toList Ut.data.toList==[])=_;rw[Afr];exact As4 hB
theorem Vs(c:Int):∀{l:Am},Ct l->∀x∈A8 c l,Ct x/\x.length<=l.length
 |[],_,x,hx=>by simp[A8] at hx;subst hx;exact⟨(fun y hy=>nomatch hy),Cc _⟩
 |a::r,h,x,hx=>by
  obtain⟨ha,hr⟩:=Bi h;have ih:=Vs c hr;unfold A8 at hx;split at hx
  ·rcases List.mem_cons.1 hx with rfl|hx
   ·exact⟨(fun y hy=>nomatch hy),Nat.zero_le _⟩
   ·exact⟨(ih x hx).1,Nat.le_succ_of_le (ih x hx).2⟩
  ·cases hs:A8 c r with
   |nil=>exact absurd hs (Oc c r)
   |cons b t=>
    rw[hs] at hx ih;rcases List.mem_cons.1 hx with rfl|hx
    ·obtain⟨q1,q2⟩:=ih b (by simp);refine⟨fun y hy=>?_,by simp;omega⟩
     rcases List.mem_cons.1 hy with rfl|hy
     ·exact ha
     ·exact q1 y hy
    ·exact⟨(ih x (by simp[hx])).1,Nat.le_succ_of_le (ih x (by simp[hx])).2⟩
theorem SE{a0:ByteArray}(Ce:200<=fu){ls:List Am}(hB:∀x∈ls,Ct x/\x.length<=1000)(h0:ls≠[])(hN:ls.length<=1000):∀(r:List Am) (i nn:Nat),ls.drop i=r->r.length+1<=nn ->
  I3 fu (Ae (CP p) prog fu (d+1)) a0 nn ls.length ls.length (ls.length:Int) (i:Int) (ls.map Tq)=some ⟨[B9 (if r.all Jt=false then 2 else if (ls.getLastD []).all Oi=true then 2 else 0)],[]⟩
 |[],i,nn,hd,hn=>by
  obtain⟨k,rfl⟩:∃k,nn=k+1:=⟨nn-1,by omega⟩
  have hi:=drop_nil hd;have Acl:0<ls.length:=List.length_pos_iff.2 h0;have a1:decide ((i:Int)<(ls.length:Int))=false:=by simp;omega
  have a2:wrap .i64 ((ls.length:Int)-1)=((ls.length-1:Nat):Int):=by rw[Ar (by omega) (by omega)];omega
  have a3:decide ((0:Int)<=((ls.length-1:Nat):Int))=true:=by simp
  have a4:decide (((ls.length-1:Nat):Int)<(ls.length:Int))=true:=by simp;omega
  have SJ:ls.getLastD []=ls[ls.length-1]'(by omega):=by
   rw[List.getLastD_eq_getLast?,List.getLast?_eq_getElem?,List.getElem?_eq_getElem (by omega)];rfl
  have a5:List.getD (ls.map Tq) (0+Int.toNat ((ls.length-1:Nat):Int)*1) PV.top=.sc (.string (Aa (ls.getLastD []))):=by
   rw[Kc,Ob,KJ,List.getD_eq_getElem?_getD,List.getElem?_map,List.getElem?_eq_getElem (by omega),SJ];rfl
  have hm:=hB (ls.getLastD []) (by rw[SJ];exact List.getElem_mem _)
  obtain⟨x,e,hx⟩:=Arp (fu:=fu) (d:=d) (p:=p) hm.1 (by omega);have e2:Ae (CP p) prog fu (d+1) 63 [.sc (.string (Aa (ls.getLastD []))),.sc (.string (ByteArray.mk #[(48:UInt8),(49:UInt8),(50:UInt8),(51:UInt8),(52:UInt8),(53:UInt8),(54:UInt8),(55:UInt8),(56:UInt8),(57:UInt8)]))]=some ⟨[.sc (.string x)],[]⟩:=e;rw[Pm];cases hq:(ls.getLastD []).all Oi
  ·rw[hq] at hx;simp only[A2,A1,a1,a2,a3,a4,a5,e2,hx,List.all_nil,Bool.true_eq_false,if_false,Bool.false_eq_true]
  ·rw[hq] at hx;simp only[A2,A1,a1,a2,a3,a4,a5,e2,hx,List.all_nil,Bool.true_eq_false,if_false,if_true]
 |x::r,i,nn,hd,hn=>by
  obtain⟨k,rfl⟩:∃k,nn=k+1:=⟨nn-1,by omega⟩
  obtain⟨hi,hc,Lz⟩:=E0 hd;have ih:=SE (a0:=a0) Ce hB h0 hN r (i+1) k Lz (by simp at hn;omega)
  have hm:=hB x (List.mem_of_getElem? hc);have e:Ae (CP p) prog fu (d+1) 62 [.sc (.string (Aa x))]=_:=Anv (fu:=fu) (d:=d) (p:=p) hm.1 (by omega);have a1:decide ((i:Int)<(ls.length:Int))=true:=by simp;omega
  have a2:decide ((0:Int)<=(i:Int))=true:=by simp
  have a5:List.getD (ls.map Tq) (0+Int.toNat (i:Int)*1) PV.top=.sc (.string (Aa x)):=by
   rw[Kc,Ob,KJ,List.getD_eq_getElem?_getD,List.getElem?_map,hc];rfl
  have a6:wrap .i64 ((i:Int)+1)=((i+1:Nat):Int):=by rw[Ar (by omega) (by omega)];omega
  rw[Pm];cases hq:Jt x
  ·rw[hq] at e;have:((x::r).all Jt=false):=by simp[hq]
   rw[Bq this];simp only[A2,A1,a1,a2,a5,e,F9]
  ·rw[hq] at e;have:(x::r).all Jt=r.all Jt:=by simp[hq]
   rw[this];simp only[A2,A1,a1,a2,a5,e,E1,a6];exact ih
theorem Aq9{l:Am}(hB:Ct l)(hs:l.length<=1000000)(Ce:200<=fu):Ae (CP p) prog fu (d+6) 37 [.sc (.string (Aa l))]=some ⟨[B9 (Qe l)],[]⟩:=by
 rw[EK];unfold Qe;by_cases h:100<l.length
 ·have a1:decide (((l.length:Nat):Int)>100)=true:=by simp;omega
  rw[Bq h];simp only[A2,A1,Ag,a1]
 ·have a1:decide (((l.length:Nat):Int)>100)=false:=by simp;omega
  have e:Ae (CP p) prog fu (d+5) 61 [.sc (.string (Aa l)),.sc (.string (ByteArray.mk #[(46:UInt8)]))]=_:=Amv (fu:=fu) (d:=d) (p:=p) (c:=46) (by omega) hB (by omega) (by omega);have hn:=Wb 46 l;have hd:=SE (a0:=Aa l) (fu:=fu) (d:=d+4) (p:=p) (by omega) (ls:=A8 46 l) (fun x hx=>⟨(Vs 46 hB x hx).1,by have:=(Vs 46 hB x hx).2;omega⟩) (Oc 46 l) (by omega) (A8 46 l) 0 fu rfl (by omega)
  rw[Bg h];simp only[A2,A1,Ag,a1,e];exact hd
theorem Aln(s:Bool):Ae (CP p) prog fu (d+1) 38 [.sc (.bool s)]=some ⟨[B9 (dfl s)],[]⟩:=by rw[Uv];cases s<;>simp only[A2,A1]<;>rfl
theorem Zo(c:Int):Oi c=true↔48<=c/\c<=57:=by unfold Oi;simp
theorem NZ{call:A7}{a0:ByteArray}{l:Am}(hB:Ct l)(hs:l.length<=5):∀(r:Am)(i nn:Nat)(n:Int),l.drop i=r->r.length+1<=nn->0<=n->n<10 ^ i ->
  G0 fu call a0 nn (Aa l) n (l.length:Int) (i:Int)=some (if r.all Oi=true then ⟨[B9 (r.foldl (fun n x=>10*n+(x-48)) n),.sc (.bool (decide (r.foldl (fun n x=>10*n+(x-48)) n<=65535)))],[]⟩ else ⟨[B9 0,.sc (.bool false)],[]⟩)
 |[],i,nn,n,hd,hn,h0,h1=>by
  obtain⟨k,rfl⟩:∃k,nn=k+1:=⟨nn-1,by omega⟩
  have hi:=drop_nil hd;have a1:decide ((i:Int)<(l.length:Int))=false:=by simp;omega
  rw[Lc];simp only[A2,A1,a1];rfl
 |c::r,i,nn,n,hd,hn,h0,h1=>by
  obtain⟨k,rfl⟩:∃k,nn=k+1:=⟨nn-1,by omega⟩
  obtain⟨hi,hc,Lz⟩:=E0 hd;have AP:=hB c (List.mem_of_getElem? hc)
  have hp:(10:Int) ^ i<=10 ^ 4:=by
   have h:=Nat.pow_le_pow_right (n:=10) (by omega) (show i<=4 by omega)
   exact_mod_cast h
  have hp2:(10:Int) ^ (i+1)=10 ^ i*10:=Int.pow_succ ..;have a1:decide ((i:Int)<(l.length:Int))=true:=by simp;omega
  have a2:decide ((0:Int)<=(i:Int))=true:=by simp
  have a3:(Array.toList (Aa l).data)[Int.toNat (i:Int)]?=some c.toNat.toUInt8:=by
   rw[Kc];show (l.map fun n=>n.toNat.toUInt8)[i]?=_;rw[List.getElem?_map,hc];rfl
  have a4:=Je AP;rw[Lc];by_cases hq:48<=c/\c<=57
  ·have q1:=dF (q:=c<48) (by omega);have q2:=dF (q:=c>57) (by omega);have a5:wrap .i64 (10*n)=10*n:=Ar (by omega) (by omega);have a6:wrap .u8 (c-48)=c-48:=Iy (by omega) (by omega);have a7:wrap .i64 (c-48)=c-48:=Ar (by omega) (by omega);have a8:wrap .i64 (10*n+(c-48))=10*n+(c-48):=Ar (by omega) (by omega);have a9:wrap .i64 ((i:Int)+1)=((i+1:Nat):Int):=by rw[Ar (by omega) (by omega)];omega
   have ih:=NZ (call:=call) (a0:=a0) hB hs r (i+1) k (10*n+(c-48)) Lz (by simp at hn;omega) (by omega) (by omega)
   have e:(c::r).all Oi=r.all Oi:=by rw[List.all_cons,(Zo c).2 hq,QD]
   simp only[A2,A1,a1,a2,a3,a4,q1,q2,a5,a6,a7,a8,a9];rw[ih,e];rfl
  ·have e:(c::r).all Oi=false:=by
    have:Oi c=false:=by
     cases hb:Oi c
     ·rfl
     ·exact absurd ((Zo c).1 hb) hq
    rw[List.all_cons,this,CS]
   rw[e];by_cases h48:c<48
   ·have q1:=dT h48;simp only[A2,A1,a1,a2,a3,a4,q1,Bool.false_eq_true,if_false]
   ·have q1:=dF h48;have q2:=dT (q:=c>57) (by omega);simp only[A2,A1,a1,a2,a3,a4,q1,q2,Bool.false_eq_true,if_false]
theorem As8{l:Am}(hB:Ct l)(Ce:100<=fu):Ae (CP p) prog fu (d+1) 39 [.sc (.string (Aa l))]=some (if I4 l=true then ⟨[B9 (X3 l),.sc (.bool (decide (X3 l<=65535)))],[]⟩ else ⟨[B9 0,.sc (.bool false)],[]⟩):=by
 rw[Yb];by_cases h1:1<=l.length
 ·by_cases h2:l.length<=5
  ·have a1:decide (((l.length:Nat):Int)<1)=false:=by simp;omega
   have a2:decide (((l.length:Nat):Int)>5)=false:=by simp;omega
   cases l with
   |nil=>simp at h1
   |cons c r=>
    have AP:=hB c (by simp);have a3:(Array.toList (Aa (c::r)).data)[0]?=some c.toNat.toUInt8:=rfl;have a4:=Je AP;by_cases h0:c=48
    ·subst h0;have e:I4 (48::r)=false:=by unfold I4;simp
     have q:((48:Int)==48)=true:=rfl;rw[e];simp only[A2,A1,Ag,a1,a2,a3,a4,q,Bool.false_eq_true,if_false]
    ·have q:(c==48)=false:=by simp[h0]
     have e:I4 (c::r)=(c::r).all Oi:=by
      unfold I4;rw[dT h1,dT h2];simp[h0]
     have hl:=NZ (call:=Ae (CP p) prog fu d) (fu:=fu) (a0:=Aa (c::r)) hB h2 (c::r) 0 fu 0 rfl (by omega) (by omega) (by decide);rw[e];simp only[A2,A1,Ag,a1,a2,a3,a4,q];exact hl
  ·have a1:decide (((l.length:Nat):Int)<1)=false:=by simp;omega
   have a2:decide (((l.length:Nat):Int)>5)=true:=by simp;omega
   have e:I4 l=false:=by unfold I4;simp[h2]
   rw[e];simp only[A2,A1,Ag,a1,a2,Bool.false_eq_true,if_false]
 ·have a1:decide (((l.length:Nat):Int)<1)=true:=by simp;omega
  have e:I4 l=false:=by unfold I4;simp[h1]
  rw[e];simp only[A2,A1,Ag,a1,Bool.false_eq_true,if_false]
theorem Apc{l:Am}(hB:Ct l)(hs:l.length<=1000000)(Ce:200<=fu):∃o1 o2 o3,Ae (CP p) prog fu (d+7) 23 [.sc (.string (Aa l))]=some ⟨[.agg [.sc (.bool o1),.sc (.string o2),B9 o3],B9 (Fc l)],[]⟩:=by
  have hsp:=Apx (fu:=fu) (d:=d+2) (p:=p) hB (w:=[104,116,116,112,115,58,47,47]) (fun x hx=>by simp at hx;omega)
  have Sl:=Apx (fu:=fu) (d:=d+2) (p:=p) hB (w:=[104,116,116,112,58,47,47]) (fun x hx=>by simp at hx;omega)
  have e1:Ae (CP p) prog fu (d+6) 35 [.sc (.string (Aa l)),.sc (.string (ByteArray.mk #[(104:UInt8),(116:UInt8),(116:UInt8),(112:UInt8),(115:UInt8),(58:UInt8),(47:UInt8),(47:UInt8)]))]=_:=hsp
  have e2:Ae (CP p) prog fu (d+6) 35 [.sc (.string (Aa l)),.sc (.string (ByteArray.mk #[(104:UInt8),(116:UInt8),(116:UInt8),(112:UInt8),(58:UInt8),(47:UInt8),(47:UInt8)]))]=_:=Sl
  have tail:∀(s:Bool) (r:Am),Ct r->r.length<=1000000->∃o1 o2 o3,(Ah (Ae (CP p) prog fu (d+6) 36 [PV.sc (Value.string (Aa r)),PV.sc (Value.string (ByteArray.mk #[(58:UInt8)]))]) fun x17 x18=>
    Af (x18) <|
    Ac (x17) fun x19 x20=>
    Ai (x19) fun x21=>
    Ac (x20) fun x22 x23=>
    Ai (x22) fun x24=>
    Ac (x23) fun x25 x26=>
    Cb (x25) fun x27=>
    Af (x26) <|
    Ah (Ae (CP p) prog fu (d+6) 37 [PV.sc (Value.string x21)]) fun x28 x29=>
    Af (x29) <|
    Ac (x28) fun x30 x31=>
    Eh (IntKind.i64) (x30) fun x32=>
    Af (x31) <|
    As (x32 != (0:Int))
     (
     some (Bz.mk [PV.agg [PV.sc (Value.bool false),PV.sc (Value.string (ByteArray.mk #[])),PV.sc (Value.int IntKind.i64 (0:Int))],PV.sc (Value.int IntKind.i64 x32)] []))
     (
     Ah (Ae (CP p) prog fu (d+6) 38 [PV.sc (Value.bool s)]) fun x33 x34=>
     Af (x34) <|
     Ac (x33) fun x35 x36=>
     Eh (IntKind.i64) (x35) fun x37=>
     Af (x36) <|
     As (x27)
      (
      Ah (Ae (CP p) prog fu (d+6) 39 [PV.sc (Value.string x24)]) fun x38 x39=>
      Af (x39) <|
      Ac (x38) fun x40 x41=>
      Eh (IntKind.i64) (x40) fun x42=>
      Ac (x41) fun x43 x44=>
      Cb (x43) fun x45=>
      Af (x44) <|
      As (!x45)
       (
       some (Bz.mk [PV.agg [PV.sc (Value.bool false),PV.sc (Value.string (ByteArray.mk #[])),PV.sc (Value.int IntKind.i64 (0:Int))],PV.sc (Value.int IntKind.i64 (2:Int))] []))
       (
       As (x42==x37)
        (
        some (Bz.mk [PV.agg [PV.sc (Value.bool false),PV.sc (Value.string (ByteArray.mk #[])),PV.sc (Value.int IntKind.i64 (0:Int))],PV.sc (Value.int IntKind.i64 (2:Int))] []))
        (
        some (Bz.mk [PV.agg [PV.sc (Value.bool s),PV.sc (Value.string x21),PV.sc (Value.int IntKind.i64 x42)],PV.sc (Value.int IntKind.i64 (0:Int))] []))))
      (
      some (Bz.mk [PV.agg [PV.sc (Value.bool s),PV.sc (Value.string x21),PV.sc (Value.int IntKind.i64 x37)],PV.sc (Value.int IntKind.i64 (0:Int))] []))))=some ⟨[.agg [.sc (.bool o1),.sc (.string o2),B9 o3],B9 (Us s r)],[]⟩:=by
    intro s r hr hrl
    have c1:Ae (CP p) prog fu (d+6) 36 [.sc (.string (Aa r)),.sc (.string (ByteArray.mk #[(58:UInt8)]))]=_:=Auz (fu:=fu) (d:=d+2) (p:=p) (c:=58) (by omega) hr hrl
    have Rj:=FU 58 r
    have hbB:Ct (Br 58 r):=by rw[Po];exact fun x hx=>hr x (List.mem_of_mem_take hx)
    have hdB:Ct (r.drop ((Br 58 r).length+1)):=fun x hx=>hr x (List.mem_of_mem_drop hx)
    have c2:Ae (CP p) prog fu (d+6) 37 [.sc (.string (Aa (Br 58 r)))]=_:=Aq9 (fu:=fu) (d:=d) (p:=p) hbB (by omega) Ce
    have c3:Ae (CP p) prog fu (d+6) 38 [.sc (.bool s)]=_:=Aln (fu:=fu) (d:=d+5) (p:=p) s
    have c4:Ae (CP p) prog fu (d+6) 39 [.sc (.string (Aa (r.drop ((Br 58 r).length+1))))]=_:=As8 (fu:=fu) (d:=d+5) (p:=p) hdB (by omega)
    unfold Us
    by_cases hh:Qe (Br 58 r)=0
    · have b1:(Qe (Br 58 r) != 0)=false:=by simp[hh]
      simp only[ne_eq,hh,not_true_eq_false,if_false]
      by_cases hw:(Br 58 r).length<r.length
      · rw[dT hw] at c1
        rw[Bg (show ¬(Br 58 r).length=r.length by omega)]
        by_cases hp:I4 (r.drop ((Br 58 r).length+1))=true
        · rw[Bq hp] at c4
          by_cases hv:X3 (r.drop ((Br 58 r).length+1))<=65535
          · rw[dT hv] at c4
            by_cases hdp:X3 (r.drop ((Br 58 r).length+1))=dfl s
            · have b2:(X3 (r.drop ((Br 58 r).length+1))==dfl s)=true:=by simp[hdp]
              rw[Bg (by rintro⟨_,_,h⟩;exact h hdp)]
              exact⟨_,_,_,by simp only[A2,A1,c1,c2,hh,c3,c4,b2,E1,show ((0:Int) != 0)=false from rfl];rfl⟩
            · have b2:(X3 (r.drop ((Br 58 r).length+1))==dfl s)=false:=by simp[hdp]
              rw[Bq ⟨hp,hv,hdp⟩]
              exact⟨_,_,_,by simp only[A2,A1,c1,c2,hh,c3,c4,b2,E1,show ((0:Int) != 0)=false from rfl];rfl⟩
          · rw[dF hv] at c4
            rw[Bg (by rintro⟨_,h,_⟩;exact hv h)]
            exact⟨_,_,_,by simp only[A2,A1,c1,c2,hh,c3,c4,F9,show ((0:Int) != 0)=false from rfl];rfl⟩
        · rw[Bg hp] at c4
          rw[Bg (by rintro⟨h,_,_⟩;exact hp h)]
          exact⟨_,_,_,by simp only[A2,A1,c1,c2,hh,c3,c4,F9,show ((0:Int) != 0)=false from rfl];rfl⟩
      · rw[dF hw] at c1
        rw[Bq (show (Br 58 r).length=r.length by omega)]
        exact⟨_,_,_,by simp only[A2,A1,c1,c2,hh,c3,show ((0:Int) != 0)=false from rfl];rfl⟩
    · have b1:(Qe (Br 58 r) != 0)=true:=by simp[hh]
      simp only[ne_eq,hh,not_false_eq_true,if_true]
      exact⟨_,_,_,by simp only[A2,A1,c1,c2,b1];rfl⟩
  have er:=JW (p:=p) fu (d+6) (Aa l)
  unfold Fc
  cases h1:List.isPrefixOf [104,116,116,112,115,58,47,47] l
  · rw[h1] at e1
    simp only[Bool.false_eq_true,if_false] at e1 ⊢
    cases h2:List.isPrefixOf [104,116,116,112,58,47,47] l
    · rw[h2] at e2
      simp only[Bool.false_eq_true,if_false] at e2 ⊢
      exact⟨_,_,_,er.trans (by simp only[A2,A1,e1,e2,F9];rfl)⟩
    · rw[h2] at e2
      simp only[if_true] at e2 ⊢
      obtain⟨o1,o2,o3,ht⟩:=tail false (l.drop 7) (fun x hx=>hB x (List.mem_of_mem_drop hx)) (by simp;omega)
      refine⟨o1,o2,o3,er.trans ?_⟩
      simp only[FL,PQ,FS,FQ,PN,PX,OI,e1,e2,F9,E1]
      exact ht
  · rw[h1] at e1
    simp only[if_true] at e1 ⊢
    obtain⟨o1,o2,o3,ht⟩:=tail true (l.drop 8) (fun x hx=>hB x (List.mem_of_mem_drop hx)) (by simp;omega)
    refine⟨o1,o2,o3,er.trans ?_⟩
    simp only[FL,PQ,FS,FQ,PN,PX,OI,e1,F9,E1]
    exact ht
end
section
open Go Go.RowKit Go.Lib
def RtP(w':World)(l:Am)(e:Ending):Prop:=
 match BH 8 l with
 |.ok ms=>∃mb,e=.returned (.tuple #[.map (some mb),.int .i64 0])/\FZ w' mb ms
 |.error er=>er≠0/\∃m,e=.returned (.tuple #[m,.int .i64 er])
theorem Lr(l:Am):BH 8 l=match An [123] (Ao l) with
  |some r=>(match Q2 (B3 8) true r with
   |.error e=>.error e
   |.ok (ms,r')=>if Ao r'=[] then .ok ms else .error 2)
  |none=>.error 2:=by
 unfold BH;rw[Ck];cases Ao l with
 |nil=>rfl
 |cons y s=>
  by_cases hy:y=123
  ·subst hy;rfl
  ·simp only[Bg hy];split
   ·rename_i e;injection e with e1 _;exact absurd e1 hy
   ·rfl
theorem Ew.toBelow{w w':World}{b mb B:Nat}(k:Ew w w' b mb)(hb:B<=b)(QZ:B<=mb)(hB:B<=w.heap.size):Below B w w':=
 ⟨k.os,k.tape,k.output,k.size,fun i hi=>k.other i (by omega) (by omega) (by omega)⟩
theorem IJ{w:World}(hU:gU.ok w)(hUl:∀k,gU.bl k->k<w.heap.size){w':World}(hb:Below w.heap.size w w'){b:Nat}(hbb:w.heap.size<=b):Nk w' b:=
 ⟨gU.stable w w' (fun j _ hl=>hb.block j hl) hU,fun k hk=>⟨Gy (hUl k hk) hb.size,by have:=hUl k hk;omega⟩⟩
set_option maxHeartbeats 4000000 in
theorem Ans{t:ByteArray}(ht:t.size<=1000000){w:World}(hU:gU.ok w)(hUl:∀k,gU.bl k->k<w.heap.size):
  Calls prog 26 #[.string t] w fun e w'=>Below w.heap.size w w'/\RtP w' (Eu t) e:=by
 have mixed:prog.follows Departure.mixedOrders=true:=by kernel_rfl
 have WH:=@run_makeMap prog;have Fy:Below w.heap.size w (w.alloc (.cells #[.string t,.int .i64 0] 97)):=(Below.refl _ w).alloc (Cc _) _;have It:Below w.heap.size w ((w.alloc (.cells #[.string t,.int .i64 0] 97)).alloc (.map #[] 0)):=Fy.alloc Fy.size _;have hs1:(w.alloc (.cells #[.string t,.int .i64 0] 97)).heap.size=w.heap.size+1:=Array.size_push _
 have h2:Zd ((w.alloc (.cells #[.string t,.int .i64 0] 97)).alloc (.map #[] 0)) w.heap.size 0 t (Eu t):=by
  have hg:((w.alloc (.cells #[.string t,.int .i64 0] 97)).alloc (.map #[] 0)).heap[w.heap.size]?=some (.cells #[.string t,.int .i64 0] 97):=by
   show ((w.heap.push _).push _)[w.heap.size]?=_;rw[Array.getElem?_push_lt (by simp)];simp
  have hp:A9 t (Eu t)=0:=by unfold A9;rw[Ik];omega
  refine⟨?_,?_,?_,?_,?_⟩
  ·show w.heap.size<((w.heap.push _).push _).size;rw[Array.size_push,Array.size_push];omega
  ·unfold World.cell?;simp only[hg];rfl
  ·unfold World.cell?;simp only[hg,hp];rfl
  ·unfold World.frozen?;simp only[hg];rfl
  ·unfold World.frozen?;simp only[hg];rfl
 have hM2:FZ ((w.alloc (.cells #[.string t,.int .i64 0] 97)).alloc (.map #[] 0)) (w.heap.size+1) []:=by
  show ((w.heap.push _).push (Obj.map #[] 0))[w.heap.size+1]?=some (.map #[] 0);have:w.heap.size+1=(w.heap.push (Obj.cells #[.string t,.int .i64 0] 97)).size:=by simp
  rw[this];exact Array.getElem?_push_size
 have hU2:=IJ hU hUl It (Cc _);have hmU:¬gU.bl (w.heap.size+1):=fun h=>by have:=hUl _ h;omega
 have hS:=Dp.all t;have hsk:=Jv hS ht hU2 h2
 go_enter Tryz.func26,Tryz.ntmps26
 go_wp2_with (go_at_call 43;refine hsk.mono ?_)
 rintro e W3 ⟨rfl,h3,k3⟩
 have hS3:=Bw hS;have hM3:=hM2.keep k3 (by omega);have hU3:=hU2.keep k3;have hro:=Anq hS3 ht hU3 h3 hM3 (by omega) hmU;have Mx:Below w.heap.size w W3:=It.trans ((Ew.of (mb:=w.heap.size+1) k3).toBelow (Cc _) (by omega) It.size)
 go_wp2_with (go_at_call 44;refine hro.mono ?_)
 rintro e W4 ⟨k4,r4,FM,h4,RH⟩
 have V3:Below w.heap.size w W4:=Mx.trans (k4.toBelow (Cc _) (by omega) Mx.size);have hU4:Nk W4 w.heap.size:=IJ hU hUl V3 (Cc _)
 have hRt:∀W e,(match An [123] (Ao (Eu t)) with
  |some r=>(match Q2 (B3 8) true r with
   |.error er=>er≠0/\∃m,e=.returned (.tuple #[m,.int .i64 er])
   |.ok (ms,r')=>if Ao r'=[] then ∃mb,e=.returned (.tuple #[.map (some mb),.int .i64 0])/\FZ W mb ms else ∃m,e=.returned (.tuple #[m,.int .i64 2]))
  |none=>∃m,e=.returned (.tuple #[m,.int .i64 2]))->RtP W (Eu t) e:=by
  intro W e;unfold RtP;rw[Lr];cases An [123] (Ao (Eu t)) with
  |none=>exact fun h=>⟨by decide,h⟩
  |some r=>
   cases hob:Q2 (B3 8) true r with
   |error er=>simp only[hob];exact id
   |ok x=>
    obtain⟨ms,r'⟩:=x;simp only[hob];by_cases g:Ao r'=[]
    ·simp only[Bq g];exact id
    ·simp only[Bg g];exact fun h=>⟨by decide,h⟩
 unfold RoP at RH;cases hq:An [123] (Ao (Eu t)) with
 |none=>
  rw[hq] at RH hRt;subst RH
  go_wp2
  go_ret2
  exact⟨V3,hRt _ _ ⟨_,rfl⟩⟩
 |some r=>
  rw[hq] at RH hRt;simp only at RH hRt;cases ho:Q2 (B3 8) true r with
  |error er=>
   rw[ho] at RH hRt;obtain⟨he,rfl⟩:=RH;have hbe:(er != (0:Int))=true:=by simp[he]
   go_wp2
   go_ret2
   exact⟨V3,hRt _ _ ⟨he,_,rfl⟩⟩
  |ok x=>
   obtain⟨ms,r'⟩:=x;rw[ho] at RH hRt;obtain⟨rfl,rfl,hM4⟩:=RH;have Ar5:=Jv FM ht hU4 h4
   go_wp2_with (go_at_call 43;refine Ar5.mono ?_)
   rintro e W5 ⟨rfl,h5,k5⟩
   have YH:Below w.heap.size w W5:=V3.trans ((Ew.of (mb:=w.heap.size+1) k5).toBelow (Cc _) (by omega) V3.size);have hM5:=hM4.keep k5 (by omega);obtain⟨Cx,hc0,KI,hf0,hf1⟩:=h5;have K5:=Bw FM;have hl5:=K5.len;cases hx:Ao r4 with
   |nil=>
    rw[hx] at KI hRt;rw[L8] at KI
    go_wp2
    go_region_o
    go_wp2
    go_ret2
    exact⟨YH.drew,hRt _ _ (by rw[Bq trivial];exact⟨_,rfl,hM5⟩)⟩
   |cons c q=>
    rw[hx] at KI hRt hl5
    have A88:(A9 t (c::q):Int)<t.size:=by
     unfold A9;rw[Ub] at hl5 ⊢;omega
    have A15:¬(c::q=[]):=by simp
    go_wp2
    go_region_o
    go_wp2
    go_ret2
    exact⟨YH.drew,hRt _ _ (by rw[Bg A15];exact⟨_,rfl⟩)⟩
end
section
open Go Go.RowKit Go.Lib
def K4:Am:=[116,121,112,101]
def M2:Am:=[99,104,97,108,108,101,110,103,101]
def Yi:Am:=[111,114,105,103,105,110]
def Bs(nm:Am)(ms:List (Am × JV)):JV:=(Hq nm ms).getD (0,[],false)
theorem JT{w:World}{b:Nat}{ms:List (Am × JV)}(h:FZ w b ms)(hB:∀m∈ms,Ct m.1){nm:Am}(hn:Ct nm):(Instr.lookup 54 (.map (some b)) (.string (Aa nm)) false).run prog w=.ok (.agg #[.int .i64 (Bs nm ms).1,.string (Aa (Bs nm ms).2.1),.bool (Bs nm ms).2.2]) w:=by have:=GM h hB hn false;rw[this];unfold UF Bs;cases Hq nm ms<;>rfl
theorem al4(w:World)(o0 x1 x2 x3:Obj):((((w.alloc o0).alloc x1).alloc x2).alloc x3).drew.heap[w.heap.size]?=some o0/\((((w.alloc o0).alloc x1).alloc x2).alloc x3).drew.heap[w.heap.size+1]?=some x1/\((((w.alloc o0).alloc x1).alloc x2).alloc x3).drew.heap[w.heap.size+1+1]?=some x2/\((((w.alloc o0).alloc x1).alloc x2).alloc x3).drew.heap[w.heap.size+1+1+1]?=some x3:=by
 show ((((w.heap.push o0).push x1).push x2).push x3)[w.heap.size]?=some o0/\((((w.heap.push o0).push x1).push x2).push x3)[w.heap.size+1]?=some x1/\((((w.heap.push o0).push x1).push x2).push x3)[w.heap.size+1+1]?=some x2/\((((w.heap.push o0).push x1).push x2).push x3)[w.heap.size+1+1+1]?=some x3;refine⟨?_,?_,?_,?_⟩
 ·rw[Array.getElem?_push_lt (by simp;omega),Array.getElem_push_lt (by simp;omega),Array.getElem_push_lt (by simp),Array.getElem_push_eq]
 ·have:w.heap.size+1=(w.heap.push o0).size:=by simp
  rw[Array.getElem?_push_lt (by simp),Array.getElem_push_lt (by simp)];simp only[this,Array.getElem_push_eq]
 ·have:w.heap.size+1+1=((w.heap.push o0).push x1).size:=by simp
  rw[Array.getElem?_push_lt (by simp)];simp only[this,Array.getElem_push_eq]
 ·have:w.heap.size+1+1+1=(((w.heap.push o0).push x1).push x2).size:=by simp
  rw[this];exact Array.getElem?_push_size
theorem al2(w:World)(x1 x2:Obj):((w.alloc x1).alloc x2).drew.heap[w.heap.size]?=some x1/\((w.alloc x1).alloc x2).drew.heap[w.heap.size+1]?=some x2:=by
 show ((w.heap.push x1).push x2)[w.heap.size]?=some x1/\((w.heap.push x1).push x2)[w.heap.size+1]?=some x2;refine⟨?_,?_⟩
 ·simp[Array.getElem?_push]
 ·have:w.heap.size+1=(w.heap.push x1).size:=by simp
  rw[this];exact Array.getElem?_push_size
def AZ:Am:=[99,114,111,115,115,79,114,105,103,105,110]
def Sk:Am:=[116,111,112,79,114,105,103,105,110]
def Aco(v:JV):Obj:=.cells #[.int .i64 v.1,.string (Aa v.2.1),.bool v.2.2] 100
def cd0:Obj:=.cells #[.int .i64 0,.slice none 0 0,.string ⟨#[]⟩,.bool false,.string ⟨#[]⟩] 31
def tyC:Am:=[112,97,115,115,107,101,121,46,99,114,101,97,116,101]
def tyG:Am:=[112,97,115,115,107,101,121,46,103,101,116]
abbrev CD:=Int × Am × Am × Bool × Am
def Uk(k:Int)(C O X P:JV):JR CD:=
 match Ji C.2.1 with
 |none=>.error 2
 |some b=>if b.length<1\/64<b.length then .error 9 else if Fc O.2.1≠0 then .error (Fc O.2.1) else if X.2.2=true/\Fc P.2.1≠0 then .error (Fc P.2.1) else .ok (k,b,O.2.1,X.2.2,P.2.1)
def Jg(T C O X P:JV):JR CD:=
 if T.1≠4\/C.1≠4\/O.1≠4 then .error 4
 else if X.1≠0/\X.1≠2 then .error 4
 else if (X.2.2=true/\P.1≠4)\/(X.2.2=false/\P.1≠0) then .error 4
 else if T.2.1=tyC then Uk 1 C O X P else if T.2.1=tyG then Uk 2 C O X P else .error 3
def AG(w:World)(a:Addr)(b:Am):Prop:=a.spot=none/\a.block<w.heap.size/\∀j x,b[j]?=some x->w.cell? (a.add j)=some (.int .u8 x)
def ItP(w w':World)(r:JR CD)(e:Ending):Prop:=
 match r with
 |.ok (k,b,o,x,p)=>∃ad cap,e=.returned (.tuple #[.agg #[.int .i64 k,.slice (some ad) b.length cap,.string (Aa o),.bool x,.string (Aa p)],.int .i64 0])/\b.length<=cap/\w.heap.size<=ad.block/\AG w' ad b
 |.error er=>er≠0/\e=.returned (.tuple #[.agg #[.int .i64 0,.slice none 0 0,.string ⟨#[]⟩,.bool false,.string ⟨#[]⟩],.int .i64 er])
def DbP(w w':World)(s:Am)(e:Ending):Prop:=
 match Ji s with
 |none=>∃ad cap,e=.returned (.tuple #[.slice ad 0 cap,.int .i64 2])
 |some b=>∃ad cap,e=.returned (.tuple #[.slice ad b.length cap,.int .i64 0])/\(b≠[]->∃a,ad=some a/\b.length<=cap/\w.heap.size<=a.block/\AG w' a b)
theorem IL{w:World}{b:Nat}{v:JV}(h:w.heap[b]?=some (Aco v)):w.cell? ⟨b,0,none⟩=some (.int .i64 v.1)/\w.cell? ⟨b,1,none⟩=some (.string (Aa v.2.1))/\w.cell? ⟨b,2,none⟩=some (.bool v.2.2):=by refine⟨?_,?_,?_⟩<;>(unfold World.cell?;simp only[h];rfl)
theorem Aje{w:World}{b:Nat}(h:w.heap[b]?=some cd0):(w.cell? ⟨b,0,none⟩=some (.int .i64 0)/\w.cell? ⟨b,1,none⟩=some (.slice none 0 0)/\w.cell? ⟨b,2,none⟩=some (.string ⟨#[]⟩)/\w.cell? ⟨b,3,none⟩=some (.bool false)/\w.cell? ⟨b,4,none⟩=some (.string ⟨#[]⟩))/\w.frozen? ⟨b,0,none⟩=false/\w.frozen? ⟨b,1,none⟩=false/\w.frozen? ⟨b,2,none⟩=false/\w.frozen? ⟨b,3,none⟩=false/\w.frozen? ⟨b,4,none⟩=false:=by refine⟨⟨?_,?_,?_,?_,?_⟩,?_,?_,?_,?_,?_⟩<;>first|(unfold World.cell?;simp only[h];rfl)|(unfold World.frozen?;simp only[h];rfl)
theorem Adg(s:ByteArray):s.toList=s.data.toList:=by
 have h:∀(n i:Nat) (r:List UInt8),n=s.size-i->ByteArray.toList.loop s i r=r.reverse++s.data.toList.drop i:=by
  intro n
  induction n with
  |zero=>
   intro i r hn;unfold ByteArray.toList.loop;rw[Bg (by omega),List.drop_eq_nil_of_le (by rw[<-Lib.size_eq];omega),List.append_nil]
  |succ n ih=>
   intro i r hn;have hi:i<s.size:=by omega
   unfold ByteArray.toList.loop;rw[Bq hi,ih (i+1) _ (by omega),List.reverse_cons,Zzv]
   congr 1
   have hl:i<s.data.toList.length:=by rw[<-Lib.size_eq];exact hi
   rw[List.drop_eq_getElem_cons hl]
   have e:s.get! i=s.data.toList[i]:=by
    show (s.data[i]!)=_;rw[getElem!_pos s.data i hi];rfl
   rw[e];rfl
 have:=h _ 0 [] rfl;exact this
theorem JI{a b:Am}(ha:Ct a)(hb:Ct b):((Aa a).toList==b.map fun n=>n.toNat.toUInt8)=decide (a=b):=by
 rw[Adg,Bool.eq_iff_iff,beq_iff_eq,decide_eq_true_iff];constructor
 ·intro h;have e:Aa a=Aa b:=congrArg (fun l:List UInt8=>(⟨l.toArray⟩:ByteArray)) (show (Aa a).data.toList=(Aa b).data.toList from h);exact DH ha hb e
 ·rintro rfl;rfl
def Azi(w:World)(vT vC vO:JV)(s4 s5 s6:Value)(wx:World):Prop:=
 ∃bT bC bO,s4=.pointer (some ⟨bT,0,none⟩)/\s5=.pointer (some ⟨bC,0,none⟩)/\s6=.pointer (some ⟨bO,0,none⟩)/\w.heap.size<bT/\w.heap.size<bC/\w.heap.size<bO/\wx.heap[w.heap.size]?=some cd0/\wx.heap[bT]?=some (Aco vT)/\wx.heap[bC]?=some (Aco vC)/\wx.heap[bO]?=some (Aco vO)/\Below w.heap.size w wx
def A2z(w wc:World)(vX vP:JV)(s7 s8:Value)(wx:World):Prop:=
 ∃bX bP,s7=.pointer (some ⟨bX,0,none⟩)/\s8=.pointer (some ⟨bP,0,none⟩)/\wc.heap.size<=bX/\wc.heap.size<=bP/\wx.heap[bX]?=some (Aco vX)/\wx.heap[bP]?=some (Aco vP)/\Below wc.heap.size wc wx
theorem Aib{w:World}{b:Nat}{x0 x1 x2 x3 x4:Value}(h:w.heap[b]?=some (.cells #[x0,x1,x2,x3,x4] 31)):(w.cell? ⟨b,0,none⟩=some x0/\w.cell? ⟨b,1,none⟩=some x1/\w.cell? ⟨b,2,none⟩=some x2/\w.cell? ⟨b,3,none⟩=some x3/\w.cell? ⟨b,4,none⟩=some x4)/\w.frozen? ⟨b,0,none⟩=false/\w.frozen? ⟨b,1,none⟩=false/\w.frozen? ⟨b,2,none⟩=false/\w.frozen? ⟨b,3,none⟩=false/\w.frozen? ⟨b,4,none⟩=false:=by refine⟨⟨?_,?_,?_,?_,?_⟩,?_,?_,?_,?_,?_⟩<;>first|(unfold World.cell?;simp only[h];rfl)|(unfold World.frozen?;simp only[h];rfl)
theorem QU{w:World}{b:Nat}{x0 x1 x2 x3 x4:Value}(h0:w.cell? ⟨b,0,none⟩=some x0)(h1:w.cell? ⟨b,1,none⟩=some x1)(h2:w.cell? ⟨b,2,none⟩=some x2)(h3:w.cell? ⟨b,3,none⟩=some x3)(h4:w.cell? ⟨b,4,none⟩=some x4):(loadVar 31 ⟨b,0,none⟩).run prog w=.ok (.agg #[x0,x1,x2,x3,x4]) w:=by
 have hf:∀j,j<5->w.cell? ((⟨b,0,none⟩:Addr).add j)=some (([x0,x1,x2,x3,x4][j]?).getD undef):=by
  intro j hj;rw[Ft,Ob]
  match j,hj with
  |0,_=>exact h0
  |1,_=>exact h1
  |2,_=>exact h2
  |3,_=>exact h3
  |4,_=>exact h4
 simp only[loadVar,Sem.run_bind,Tryz.isAgg31,Result.andThen_ok,if_true,Tryz.sizeOf31,run_loadCells w _ 5 _ hf];rfl
theorem F5{w:World}{b i j:Nat}{v:Value}(h:i≠j):(w.setCell ⟨b,j,none⟩ v).cell? ⟨b,i,none⟩=w.cell? ⟨b,i,none⟩:=World.cell?_setCell_other _ _ _ _ (fun e=>h (by injection e with _ e2;exact e2.symm))
theorem AX(w:World)(b:Nat)(x0 x1 x2 x3 x4:Value)(h:(w.cell? ⟨b,0,none⟩).isSome=true/\(w.cell? ⟨b,1,none⟩).isSome=true/\(w.cell? ⟨b,2,none⟩).isSome=true/\(w.cell? ⟨b,3,none⟩).isSome=true/\(w.cell? ⟨b,4,none⟩).isSome=true):(loadVar 31 ⟨b,0,none⟩).run prog (((((w.setCell ⟨b,0,none⟩ x0).setCell ⟨b,1,none⟩ x1).setCell ⟨b,2,none⟩ x2).setCell ⟨b,3,none⟩ x3).setCell ⟨b,4,none⟩ x4)=.ok (.agg #[x0,x1,x2,x3,x4]) (((((w.setCell ⟨b,0,none⟩ x0).setCell ⟨b,1,none⟩ x1).setCell ⟨b,2,none⟩ x2).setCell ⟨b,3,none⟩ x3).setCell ⟨b,4,none⟩ x4):=by
 obtain⟨g0,g1,g2,g3,g4⟩:=h;obtain⟨y0,g0⟩:=Option.isSome_iff_exists.1 g0;obtain⟨y1,g1⟩:=Option.isSome_iff_exists.1 g1;obtain⟨y2,g2⟩:=Option.isSome_iff_exists.1 g2;obtain⟨y3,g3⟩:=Option.isSome_iff_exists.1 g3;obtain⟨y4,g4⟩:=Option.isSome_iff_exists.1 g4;apply QU
 ·rw[F5 (by decide),F5 (by decide),F5 (by decide),F5 (by decide)];exact World.cell?_setCell_same _ _ _ g0
 ·rw[F5 (by decide),F5 (by decide),F5 (by decide)];exact World.cell?_setCell_same _ _ _ ((F5 (by decide)).trans g1)
 ·rw[F5 (by decide),F5 (by decide)];exact World.cell?_setCell_same _ _ _ ((F5 (by decide)).trans ((F5 (by decide)).trans g2))
 ·rw[F5 (by decide)];exact World.cell?_setCell_same _ _ _ ((F5 (by decide)).trans ((F5 (by decide)).trans ((F5 (by decide)).trans g3)))
 ·exact World.cell?_setCell_same _ _ _ ((F5 (by decide)).trans ((F5 (by decide)).trans ((F5 (by decide)).trans ((F5 (by decide)).trans g4))))
theorem Kl{B:Nat}{a w:World}(h:Below B a w){b:Nat}(hb:B<=b)(x0 x1 x2 x3 x4:Value):Below B a (((((w.setCell ⟨b,0,none⟩ x0).setCell ⟨b,1,none⟩ x1).setCell ⟨b,2,none⟩ x2).setCell ⟨b,3,none⟩ x3).setCell ⟨b,4,none⟩ x4):=
 ((((h.setCell (p:=⟨b,0,none⟩) hb x0).setCell (p:=⟨b,1,none⟩) hb x1).setCell (p:=⟨b,2,none⟩) hb x2).setCell (p:=⟨b,3,none⟩) hb x3).setCell (p:=⟨b,4,none⟩) hb x4
theorem J2{R:Ending->World->Prop}{a:Act}{W:World}{v:Value}{b:Nat}(h2:a.tmps.getD 2 undef=.pointer (some ⟨b,0,none⟩))(hd:a.defers=[])(hl:(loadVar 31 ⟨b,0,none⟩).run prog W=.ok v W)(hR:R (.returned (.tuple #[v,a.tmps.getD 3 undef])) W):bodyPost prog Tryz.f27 R .ret a W:=by refine bodyPost_ret ?_ hd hR;rw[results_cell_tmp rfl,h2];have e:(asAddr (.pointer (some ⟨b,0,none⟩))).run prog W=.ok ⟨b,0,none⟩ W:=rfl;rw[e,Result.andThen_ok,hl,Result.andThen_ok]
theorem AG.below{w w':World}{a:Addr}{b:Am}{B:Nat}(h:AG w a b)(k:Below B w w')(ha:a.block<B):AG w' a b:=
 ⟨h.1,Gy h.2.1 k.size,fun j x hx=>(k.cell (p:=a.add j) (by rw[F6];exact ha)).trans (h.2.2 j x hx)⟩
theorem AG.set{w:World}{a:Addr}{b:Am}{b0 j:Nat}{v:Value}(h:AG w a b)(Er:a.block≠b0):AG (w.setCell ⟨b0,j,none⟩ v) a b:=
 ⟨h.1,by rw[World.size_setCell];exact h.2.1,fun i x hx=>(World.cell?_setCell_other _ _ _ _ (fun e=>Er (by rw[<-F6 a i,<-e]))).trans (h.2.2 i x hx)⟩
theorem AG.set5{w:World}{a:Addr}{b:Am}{b0:Nat}{x0 x1 x2 x3 x4:Value}(h:AG w a b)(Er:a.block≠b0):AG (((((w.setCell ⟨b0,0,none⟩ x0).setCell ⟨b0,1,none⟩ x1).setCell ⟨b0,2,none⟩ x2).setCell ⟨b0,3,none⟩ x3).setCell ⟨b0,4,none⟩ x4) a b:=
 ((((h.set Er).set Er).set Er).set Er).set Er
def RC(w:World)(b:Nat):Prop:=(w.cell? ⟨b,0,none⟩=some (.int .i64 0)/\w.cell? ⟨b,1,none⟩=some (.slice none 0 0)/\w.cell? ⟨b,2,none⟩=some (.string ⟨#[]⟩)/\w.cell? ⟨b,3,none⟩=some (.bool false)/\w.cell? ⟨b,4,none⟩=some (.string ⟨#[]⟩))/\w.frozen? ⟨b,0,none⟩=false/\w.frozen? ⟨b,1,none⟩=false/\w.frozen? ⟨b,2,none⟩=false/\w.frozen? ⟨b,3,none⟩=false/\w.frozen? ⟨b,4,none⟩=false
theorem RC.below{w w':World}{b B:Nat}(h:RC w b)(k:Below B w w')(hb:b<B):RC w' b:=by have e:∀j,w'.cell? ⟨b,j,none⟩=w.cell? ⟨b,j,none⟩:=fun j=>k.cell (p:=⟨b,j,none⟩) hb;have f:∀j,w'.frozen? ⟨b,j,none⟩=w.frozen? ⟨b,j,none⟩:=fun j=>k.frozen (p:=⟨b,j,none⟩) hb;unfold RC;rw[e,e,e,e,e,f,f,f,f,f];exact h
theorem RC.some{w:World}{b:Nat}(h:RC w b):(w.cell? ⟨b,0,none⟩).isSome=true/\(w.cell? ⟨b,1,none⟩).isSome=true/\(w.cell? ⟨b,2,none⟩).isSome=true/\(w.cell? ⟨b,3,none⟩).isSome=true/\(w.cell? ⟨b,4,none⟩).isSome=true:=by obtain⟨⟨h0,h1,h2,h3,h4⟩,_⟩:=h;rw[h0,h1,h2,h3,h4];exact⟨rfl,rfl,rfl,rfl,rfl⟩
theorem Anj{w:World}{b:Nat}{v:Value}{x:Obj}(hb:b<w.heap.size)(h:∃x0 x1 x2 x3 x4,v=.agg #[x0,x1,x2,x3,x4]/\w.cell? ⟨b,0,none⟩=some x0/\w.cell? ⟨b,1,none⟩=some x1/\w.cell? ⟨b,2,none⟩=some x2/\w.cell? ⟨b,3,none⟩=some x3/\w.cell? ⟨b,4,none⟩=some x4):(loadVar 31 ⟨b,0,none⟩).run prog (w.alloc x)=.ok v (w.alloc x):=by obtain⟨x0,x1,x2,x3,x4,rfl,h0,h1,h2,h3,h4⟩:=h;have k:Below w.heap.size w (w.alloc x):=(Below.refl _ w).alloc (Cc _) _;exact QU ((k.cell (p:=⟨b,0,none⟩) hb).trans h0) ((k.cell (p:=⟨b,1,none⟩) hb).trans h1) ((k.cell (p:=⟨b,2,none⟩) hb).trans h2) ((k.cell (p:=⟨b,3,none⟩) hb).trans h3) ((k.cell (p:=⟨b,4,none⟩) hb).trans h4)
theorem Pb(w:World)(b:Nat)(hb:b<w.heap.size)(x0 x1 x2 x3 x4:Value)(x:Obj)(h:RC w b):(loadVar 31 ⟨b,0,none⟩).run prog ((((((w.setCell ⟨b,0,none⟩ x0).setCell ⟨b,1,none⟩ x1).setCell ⟨b,2,none⟩ x2).setCell ⟨b,3,none⟩ x3).setCell ⟨b,4,none⟩ x4).alloc x)=.ok (.agg #[x0,x1,x2,x3,x4]) ((((((w.setCell ⟨b,0,none⟩ x0).setCell ⟨b,1,none⟩ x1).setCell ⟨b,2,none⟩ x2).setCell ⟨b,3,none⟩ x3).setCell ⟨b,4,none⟩ x4).alloc x):=by
 refine Anj (by simp only[World.size_setCell];exact hb) ⟨x0,x1,x2,x3,x4,rfl,?_⟩
 obtain⟨⟨g0,g1,g2,g3,g4⟩,_⟩:=h;refine⟨?_,?_,?_,?_,?_⟩
 ·rw[F5 (by decide),F5 (by decide),F5 (by decide),F5 (by decide)];exact World.cell?_setCell_same _ _ _ g0
 ·rw[F5 (by decide),F5 (by decide),F5 (by decide)];exact World.cell?_setCell_same _ _ _ ((F5 (by decide)).trans g1)
 ·rw[F5 (by decide),F5 (by decide)];exact World.cell?_setCell_same _ _ _ ((F5 (by decide)).trans ((F5 (by decide)).trans g2))
 ·rw[F5 (by decide)];exact World.cell?_setCell_same _ _ _ ((F5 (by decide)).trans ((F5 (by decide)).trans ((F5 (by decide)).trans g3)))
 ·exact World.cell?_setCell_same _ _ _ ((F5 (by decide)).trans ((F5 (by decide)).trans ((F5 (by decide)).trans ((F5 (by decide)).trans g4))))
theorem Ig{B:Nat}{a w:World}(h:Below B a w){b:Nat}(hb:B<=b)(hB:B<=w.heap.size)(x0 x1 x2 x3 x4:Value)(x:Obj):Below B a ((((((w.setCell ⟨b,0,none⟩ x0).setCell ⟨b,1,none⟩ x1).setCell ⟨b,2,none⟩ x2).setCell ⟨b,3,none⟩ x3).setCell ⟨b,4,none⟩ x4).alloc x):=
 have k:=Kl h hb x0 x1 x2 x3 x4
 k.alloc (by simp only[World.size_setCell];exact hB) _
theorem AG.set5al{w:World}{a:Addr}{b:Am}{b0:Nat}{x0 x1 x2 x3 x4:Value}{x:Obj}(h:AG w a b)(Er:a.block≠b0):AG ((((((w.setCell ⟨b0,0,none⟩ x0).setCell ⟨b0,1,none⟩ x1).setCell ⟨b0,2,none⟩ x2).setCell ⟨b0,3,none⟩ x3).setCell ⟨b0,4,none⟩ x4).alloc x) a b:=
 have q:=h.set5 (x0:=x0) (x1:=x1) (x2:=x2) (x3:=x3) (x4:=x4) Er
 q.below ((Below.refl _ _).alloc (Cc _) _) q.2.1
theorem al1(w:World)(x:Obj):(w.alloc x).heap[w.heap.size]?=some x:=Array.getElem?_push_size
def okW(w:World):Prop:=gU.ok w/\∀k,gU.bl k->k<w.heap.size
theorem okW.below{w w':World}(h:okW w)(k:Below w.heap.size w w'):okW w':=⟨gU.stable w w' (fun j hj hl=>k.block j hl) h.1,fun j hj=>Gy (h.2 j hj) k.size⟩
set_option maxHeartbeats 8000000 in
theorem Aoa(Axr:∀(W:World)(s:Am),okW W->Ct s->s.length<=1000000->Calls prog 45 #[.string (Aa s)] W fun e w'=>Below W.heap.size W w'/\DbP W w' s e)(Amn:∀(W:World)(s:Am),okW W->Ct s->s.length<=1000000->Calls prog 23 #[.string (Aa s)] W fun e w'=>Below W.heap.size W w'/\∃o1 o2 o3,e=.returned (.tuple #[.agg #[.bool o1,.string o2,.int .i64 o3],.int .i64 (Fc s)])){ms:List (Am × JV)}(hB:∀m∈ms,Ct m.1)(hB2:∀m∈ms,Ct m.2.2.1/\m.2.2.1.length<=1000000){mb:Nat}{w:World}(hU:okW w)(hM:FZ w mb ms):
  Calls prog 27 #[.map (some mb)] w fun e w'=>Below w.heap.size w w'/\ItP w w' (Jg (Bs K4 ms) (Bs M2 ms) (Bs Yi ms) (Bs AZ ms) (Bs Sk ms)) e:=by
 have hgB:∀nm,Ct (Bs nm ms).2.1/\(Bs nm ms).2.1.length<=1000000:=by
  intro nm;unfold Bs Hq;cases hq:ms.find? fun m=>m.1==nm with
  |none=>exact⟨(fun x hx=>nomatch hx),Nat.zero_le _⟩
  |some m=>exact hB2 m (List.mem_of_find?_eq_some hq)
 obtain⟨hTB,hTL⟩:=hgB K4;obtain⟨hCB,hCL⟩:=hgB M2;obtain⟨hOB,hOL⟩:=hgB Yi;obtain⟨hXB,hXL⟩:=hgB AZ;obtain⟨hPB,hPL⟩:=hgB Sk;clear hgB;have mixed:prog.follows Departure.mixedOrders=true:=by kernel_rfl
 have key:∀{W:World},FZ W mb ms->(Instr.lookup 54 (.map (some mb)) (.string ⟨#[116,121,112,101]⟩) false).run prog W=.ok (.agg #[.int .i64 (Bs K4 ms).1,.string (Aa (Bs K4 ms).2.1),.bool (Bs K4 ms).2.2]) W/\(Instr.lookup 54 (.map (some mb)) (.string ⟨#[99,104,97,108,108,101,110,103,101]⟩) false).run prog W=.ok (.agg #[.int .i64 (Bs M2 ms).1,.string (Aa (Bs M2 ms).2.1),.bool (Bs M2 ms).2.2]) W/\(Instr.lookup 54 (.map (some mb)) (.string ⟨#[111,114,105,103,105,110]⟩) false).run prog W=.ok (.agg #[.int .i64 (Bs Yi ms).1,.string (Aa (Bs Yi ms).2.1),.bool (Bs Yi ms).2.2]) W:=
  fun h=>⟨JT h hB (nm:=K4) (fun x hx=>by simp[K4] at hx;omega),JT h hB (nm:=M2) (fun x hx=>by simp[M2] at hx;omega),JT h hB (nm:=Yi) (fun x hx=>by simp[Yi] at hx;omega)⟩
 have key2:∀{W:World},FZ W mb ms->(Instr.lookup 54 (.map (some mb)) (.string ⟨#[99,114,111,115,115,79,114,105,103,105,110]⟩) false).run prog W=.ok (.agg #[.int .i64 (Bs AZ ms).1,.string (Aa (Bs AZ ms).2.1),.bool (Bs AZ ms).2.2]) W/\(Instr.lookup 54 (.map (some mb)) (.string ⟨#[116,111,112,79,114,105,103,105,110]⟩) false).run prog W=.ok (.agg #[.int .i64 (Bs Sk ms).1,.string (Aa (Bs Sk ms).2.1),.bool (Bs Sk ms).2.2]) W:=
  fun h=>⟨JT h hB (nm:=AZ) (fun x hx=>by simp[AZ] at hx;omega),JT h hB (nm:=Sk) (fun x hx=>by simp[Sk] at hx;omega)⟩
 have b0:Below w.heap.size w (w.alloc (.cells #[.int .i64 0,.slice none 0 0,.string ⟨#[]⟩,.bool false,.string ⟨#[]⟩] 31)):=(Below.refl _ w).alloc (Cc _) _;have b1:=b0.alloc b0.size (.cells #[.int .i64 0,.string ⟨#[]⟩,.bool false] 100);have b2:=b1.alloc b1.size (.cells #[.int .i64 0,.string ⟨#[]⟩,.bool false] 100);have b3:=b2.alloc b2.size (.cells #[.int .i64 0,.string ⟨#[]⟩,.bool false] 100);obtain⟨k0,k1,k2⟩:=key (hM.below b0.drew);obtain⟨l0,l1,l2⟩:=key (hM.below b1.drew);obtain⟨m0,m1,m2⟩:=key (hM.below b2.drew);obtain⟨n0,n1,n2⟩:=key (hM.below b3.drew)
 have bb:∀x1 x2 x3,Below w.heap.size w ((((w.alloc (.cells #[.int .i64 0,.slice none 0 0,.string ⟨#[]⟩,.bool false,.string ⟨#[]⟩] 31)).alloc x1).alloc x2).alloc x3).drew:=fun x1 x2 x3=>by
  have c1:=b0.alloc b0.size x1;have c2:=c1.alloc c1.size x2;exact (c2.alloc c2.size x3).drew
 obtain⟨_,p1,q1⟩:=key (hM.below (bb (.cells #[.int .i64 (Bs K4 ms).1,.string (Aa (Bs K4 ms).2.1),.bool (Bs K4 ms).2.2] 100) (.cells #[.int .i64 0,.string ⟨#[]⟩,.bool false] 100) (.cells #[.int .i64 0,.string ⟨#[]⟩,.bool false] 100)));obtain⟨_,p2,q2⟩:=key (hM.below (bb (.cells #[.int .i64 0,.string ⟨#[]⟩,.bool false] 100) (.cells #[.int .i64 (Bs K4 ms).1,.string (Aa (Bs K4 ms).2.1),.bool (Bs K4 ms).2.2] 100) (.cells #[.int .i64 0,.string ⟨#[]⟩,.bool false] 100)));obtain⟨_,p3,q3⟩:=key (hM.below (bb (.cells #[.int .i64 0,.string ⟨#[]⟩,.bool false] 100) (.cells #[.int .i64 0,.string ⟨#[]⟩,.bool false] 100) (.cells #[.int .i64 (Bs K4 ms).1,.string (Aa (Bs K4 ms).2.1),.bool (Bs K4 ms).2.2] 100)))
 obtain⟨_,_,q4⟩:=key (hM.below (bb (.cells #[.int .i64 (Bs K4 ms).1,.string (Aa (Bs K4 ms).2.1),.bool (Bs K4 ms).2.2] 100) (.cells #[.int .i64 (Bs M2 ms).1,.string (Aa (Bs M2 ms).2.1),.bool (Bs M2 ms).2.2] 100) (.cells #[.int .i64 0,.string ⟨#[]⟩,.bool false] 100)));obtain⟨_,_,q5⟩:=key (hM.below (bb (.cells #[.int .i64 (Bs K4 ms).1,.string (Aa (Bs K4 ms).2.1),.bool (Bs K4 ms).2.2] 100) (.cells #[.int .i64 0,.string ⟨#[]⟩,.bool false] 100) (.cells #[.int .i64 (Bs M2 ms).1,.string (Aa (Bs M2 ms).2.1),.bool (Bs M2 ms).2.2] 100)));obtain⟨_,_,q6⟩:=key (hM.below (bb (.cells #[.int .i64 (Bs M2 ms).1,.string (Aa (Bs M2 ms).2.1),.bool (Bs M2 ms).2.2] 100) (.cells #[.int .i64 (Bs K4 ms).1,.string (Aa (Bs K4 ms).2.1),.bool (Bs K4 ms).2.2] 100) (.cells #[.int .i64 0,.string ⟨#[]⟩,.bool false] 100)))
 obtain⟨_,_,q7⟩:=key (hM.below (bb (.cells #[.int .i64 (Bs M2 ms).1,.string (Aa (Bs M2 ms).2.1),.bool (Bs M2 ms).2.2] 100) (.cells #[.int .i64 0,.string ⟨#[]⟩,.bool false] 100) (.cells #[.int .i64 (Bs K4 ms).1,.string (Aa (Bs K4 ms).2.1),.bool (Bs K4 ms).2.2] 100)));obtain⟨_,_,q8⟩:=key (hM.below (bb (.cells #[.int .i64 0,.string ⟨#[]⟩,.bool false] 100) (.cells #[.int .i64 (Bs K4 ms).1,.string (Aa (Bs K4 ms).2.1),.bool (Bs K4 ms).2.2] 100) (.cells #[.int .i64 (Bs M2 ms).1,.string (Aa (Bs M2 ms).2.1),.bool (Bs M2 ms).2.2] 100)));obtain⟨_,_,q9⟩:=key (hM.below (bb (.cells #[.int .i64 0,.string ⟨#[]⟩,.bool false] 100) (.cells #[.int .i64 (Bs M2 ms).1,.string (Aa (Bs M2 ms).2.1),.bool (Bs M2 ms).2.2] 100) (.cells #[.int .i64 (Bs K4 ms).1,.string (Aa (Bs K4 ms).2.1),.bool (Bs K4 ms).2.2] 100)))
 have hbb:∀x1 x2 x3,Below w.heap.size w ((((w.alloc cd0).alloc x1).alloc x2).alloc x3).drew:=bb;clear key bb;generalize Bs K4 ms=vT at *
 generalize Bs M2 ms=vC at *
 generalize Bs Yi ms=vO at *
 generalize Bs AZ ms=vX at *
 generalize Bs Sk ms=vP at *
 go_enter Tryz.func27,Tryz.ntmps27
 go_upto_region 1 with fail
 go_cut [4,5,6] (fun s4 s5 s6 wx=>Azi w vT vC vO s4 s5 s6 wx)
 case first=>
  go_region_o
  all_goals (go_wp2_with fail;go_meet;(refine⟨_,_,_,rfl,rfl,rfl,by omega,by omega,by omega,?_,?_,?_,?_,hbb _ _ _⟩<;>first|exact (al4 _ _ _ _ _).1|exact (al4 _ _ _ _ _).2.1|exact (al4 _ _ _ _ _).2.2.1|exact (al4 _ _ _ _ _).2.2.2))
 case rest=>
  rename World=>w2
  obtain⟨bT,bC,bO,rfl,rfl,rfl,hbT,hbC,hbO,hc,hT,hC,hO,hbw⟩:=hcut;clear k0 k1 k2 l0 l1 l2 m0 m1 m2 n0 n1 n2 p1 p2 p3 q1 q2 q3 q4 q5 q6 q7 q8 q9;have hMc:=hM.below hbw;have d1:Below w2.heap.size w2 (w2.alloc (.cells #[.int .i64 0,.string ⟨#[]⟩,.bool false] 100)):=(Below.refl _ w2).alloc (Cc _) _;have d2:=d1.alloc d1.size (.cells #[.int .i64 0,.string ⟨#[]⟩,.bool false] 100)
  have dd:∀x1 x2,Below w2.heap.size w2 ((w2.alloc x1).alloc x2).drew:=fun x1 x2=>by
   have c1:Below w2.heap.size w2 (w2.alloc x1):=(Below.refl _ w2).alloc (Cc _) _;exact (c1.alloc c1.size x2).drew
  obtain⟨k0,k1⟩:=key2 (hMc.below (Below.refl w2.heap.size w2).drew);obtain⟨l0,l1⟩:=key2 (hMc.below d1.drew);obtain⟨m0,m1⟩:=key2 (hMc.below d2.drew);obtain⟨_,p1⟩:=key2 (hMc.below (dd (.cells #[.int .i64 vX.1,.string (Aa vX.2.1),.bool vX.2.2] 100) (.cells #[.int .i64 0,.string ⟨#[]⟩,.bool false] 100)));obtain⟨_,p2⟩:=key2 (hMc.below (dd (.cells #[.int .i64 0,.string ⟨#[]⟩,.bool false] 100) (.cells #[.int .i64 vX.1,.string (Aa vX.2.1),.bool vX.2.2] 100)));clear key2
  go_upto_region 2 with fail
  go_cut [7,8] (fun s7 s8 wx=>A2z w w2 vX vP s7 s8 wx)
  case first=>
   go_region_o
   all_goals (go_wp2_with fail;go_meet;(refine⟨_,_,rfl,rfl,by omega,by omega,?_,?_,dd _ _⟩<;>first|exact (al2 _ _ _).1|exact (al2 _ _ _).2))
  case rest=>
   clear k0 k1 l0 l1 m0 m1 p1 p2;obtain⟨bX,bP,rfl,rfl,hbX,hbP,hX,hP,SX⟩:=hcut
   rename World=>wd
   have hwc:w.heap.size<w2.heap.size:=by
    rcases Ht w.heap.size w2.heap.size with q|q
    ·exact q
    ·rw[Array.getElem?_eq_none q] at hc;cases hc
   have Cx:∀{b:Nat} {o:Obj},w2.heap[b]?=some o->b<w2.heap.size:=fun {b o} h=>by
    rcases Ht b w2.heap.size with q|q
    ·exact q
    ·rw[Array.getElem?_eq_none q] at h;cases h
   obtain⟨⟨c0,c1,c2,c3,c4⟩,f0,f1,f2,f3,f4⟩:=Aje ((SX.block _ (Cx hc)).trans hc);have hrc:RC wd w.heap.size:=⟨⟨c0,c1,c2,c3,c4⟩,f0,f1,f2,f3,f4⟩
   have hsm:=hrc.some;obtain⟨T0,T1,T2⟩:=IL ((SX.block _ (Cx hT)).trans hT);obtain⟨C0,C1,C2⟩:=IL ((SX.block _ (Cx hC)).trans hC);obtain⟨O0,O1,O2⟩:=IL ((SX.block _ (Cx hO)).trans hO);obtain⟨X0,X1,X2⟩:=IL hX;obtain⟨P0,P1,P2⟩:=IL hP;have VZ:Below w.heap.size w wd:=hbw.trans ((SX).mono hbw.size);by_cases hT4:vT.1=4
   rotate_left
   ·have hq:(vT.1 != 4)=true:=by simp[hT4]
    have hI:Jg vT vC vO vX vP=.error 4:=by unfold Jg;rw[Bq (.inl hT4)]
    go_wp2
    (try simp only[Exit.inBlock,Exit.then])
    exact J2 (b:=w.heap.size) rfl rfl (AX wd w.heap.size _ _ _ _ _ hsm) ⟨Kl VZ (Cc _) _ _ _ _ _,by rw[hI];exact⟨by decide,rfl⟩⟩
   by_cases hC4:vC.1=4
   rotate_left
   ·have hq:(vC.1 != 4)=true:=by simp[hC4]
    have hI:Jg vT vC vO vX vP=.error 4:=by unfold Jg;rw[Bq (.inr (.inl hC4))]
    go_wp2
    (try simp only[Exit.inBlock,Exit.then])
    exact J2 (b:=w.heap.size) rfl rfl (AX wd w.heap.size _ _ _ _ _ hsm) ⟨Kl VZ (Cc _) _ _ _ _ _,by rw[hI];exact⟨by decide,rfl⟩⟩
   by_cases hO4:vO.1=4
   rotate_left
   ·have hq:(vO.1 != 4)=true:=by simp[hO4]
    have hI:Jg vT vC vO vX vP=.error 4:=by unfold Jg;rw[Bq (.inr (.inr hO4))]
    go_wp2
    (try simp only[Exit.inBlock,Exit.then])
    exact J2 (b:=w.heap.size) rfl rfl (AX wd w.heap.size _ _ _ _ _ hsm) ⟨Kl VZ (Cc _) _ _ _ _ _,by rw[hI];exact⟨by decide,rfl⟩⟩
   have FT:Jg vT vC vO vX vP=if vX.1≠0/\vX.1≠2 then .error 4
    else if (vX.2.2=true/\vP.1≠4)\/(vX.2.2=false/\vP.1≠0) then .error 4
    else if vT.2.1=tyC then Uk 1 vC vO vX vP else if vT.2.1=tyG then Uk 2 vC vO vX vP else .error 3:=by
    unfold Jg;rw[Bg (by rintro (h|h|h)<;>first|exact h hT4|exact h hC4|exact h hO4)]
   go_upto_region 5 with fail
   go_cut [47] (fun s47 wx=>∃q:Bool,s47=.bool q/\(q=true↔(vX.1≠0/\vX.1≠2))/\wx=wd)
   case first=>
    by_cases h0:vX.1=0
    ·have h1:(vX.1 != 0)=false:=by simp[h0]
     go_wp2_with fail
     go_meet
     exact⟨false,rfl,by simp[h0],rfl⟩
    ·have h1:(vX.1 != 0)=true:=by simp[h0]
     by_cases h2:vX.1=2
     ·have h3:(vX.1 != 2)=false:=by simp[h2]
      go_wp2_with fail
      go_meet
      exact⟨false,rfl,by simp[h2],rfl⟩
     ·have h3:(vX.1 != 2)=true:=by simp[h2]
      go_wp2_with fail
      go_meet
      exact⟨true,rfl,by simp[h0,h2],rfl⟩
   case rest=>
    obtain⟨q5,rfl,hq5,hwe⟩:=hcut;subst hwe;cases q5 with
    |true=>
     have hx1:=hq5.1 rfl;have hI:Jg vT vC vO vX vP=.error 4:=by rw[FT,Bq hx1]
     go_wp2
     (try simp only[Exit.inBlock,Exit.then])
     exact J2 (b:=w.heap.size) rfl rfl (AX wc w.heap.size _ _ _ _ _ hsm) ⟨Kl VZ (Cc _) _ _ _ _ _,by rw[hI];exact⟨by decide,rfl⟩⟩
    |false=>
     have hx1:¬(vX.1≠0/\vX.1≠2):=fun h=>Bool.noConfusion (hq5.2 h);rw[Bg hx1] at FT
     go_upto_region 7 with fail
     go_cut [65] (fun s65 wx=>∃q:Bool,s65=.bool q/\(q=true↔((vX.2.2=true/\vP.1≠4)\/(vX.2.2=false/\vP.1≠0)))/\wx=wc)
     case first=>
      cases LQ:vX.2.2 with
      |true=>
       rw[LQ] at X2;by_cases h4:vP.1=4
       ·have h1:(vP.1 != 4)=false:=by simp[h4]
        go_wp2_with fail
        go_meet
        exact⟨false,rfl,by simp[h4,LQ],rfl⟩
       ·have h1:(vP.1 != 4)=true:=by simp[h4]
        go_wp2_with fail
        go_meet
        exact⟨true,rfl,by simp[h4,LQ],rfl⟩
      |false=>
       rw[LQ] at X2;by_cases h4:vP.1=0
       ·have h1:(vP.1 != 0)=false:=by simp[h4]
        go_wp2_with fail
        go_meet
        exact⟨false,rfl,by simp[h4,LQ],rfl⟩
       ·have h1:(vP.1 != 0)=true:=by simp[h4]
        go_wp2_with fail
        go_meet
        exact⟨true,rfl,by simp[h4,LQ],rfl⟩
     case rest=>
      obtain⟨q7,rfl,hq7,hwe⟩:=hcut;subst hwe;cases q7 with
      |true=>
       have R4:=hq7.1 rfl;have hI:Jg vT vC vO vX vP=.error 4:=by rw[FT,Bq R4]
       go_wp2
       (try simp only[Exit.inBlock,Exit.then])
       exact J2 (b:=w.heap.size) rfl rfl (AX wc w.heap.size _ _ _ _ _ hsm) ⟨Kl VZ (Cc _) _ _ _ _ _,by rw[hI];exact⟨by decide,rfl⟩⟩
      |false=>
       have R4:¬((vX.2.2=true/\vP.1≠4)\/(vX.2.2=false/\vP.1≠0)):=fun h=>Bool.noConfusion (hq7.2 h);rw[Bg R4] at FT;clear hq5 hq7 hx1 R4;have hwd:w.heap.size<wc.heap.size:=Gy hwc SX.size;have A9p:bT<wc.heap.size:=Gy (Cx hT) SX.size;have Bad:bC<wc.heap.size:=Gy (Cx hC) SX.size;have hbC:((Aa vT.2.1).toList==[112,97,115,115,107,101,121,46,99,114,101,97,116,101])=decide (vT.2.1=tyC):=JI hTB (b:=tyC) (fun x hx=>by simp[tyC] at hx;omega)
       have hbG:((Aa vT.2.1).toList==[112,97,115,115,107,101,121,46,103,101,116])=decide (vT.2.1=tyG):=JI hTB (b:=tyG) (fun x hx=>by simp[tyG] at hx;omega)
       by_cases hTc:vT.2.1=tyC
       rotate_left
       ·rw[decide_eq_false hTc] at hbC;rw[Bg hTc] at FT;by_cases hTg:vT.2.1=tyG
        rotate_left
        ·rw[decide_eq_false hTg] at hbG;have hI:Jg vT vC vO vX vP=.error 3:=by rw[FT,Bg hTg]
         go_wp2
         (try simp only[Exit.inBlock,Exit.then])
         exact J2 (b:=w.heap.size) rfl rfl (Pb wc w.heap.size hwd _ _ _ _ _ _ hrc) ⟨Ig VZ (Cc _) VZ.size _ _ _ _ _ _,by rw[hI];exact⟨by decide,rfl⟩⟩
        ·rw[decide_eq_true hTg] at hbG;rw[Bq hTg] at FT;clear hTg hTc;have hbA:=VZ.alloc VZ.size (.cells #[.int .i64 2,.slice none 0 0,.string (Aa vO.2.1),.bool vX.2.2,.string (Aa vP.2.1)] 31);have hsA:(wc.alloc (.cells #[.int .i64 2,.slice none 0 0,.string (Aa vO.2.1),.bool vX.2.2,.string (Aa vP.2.1)] 31)).heap.size=wc.heap.size+1:=Array.size_push _;have hkA:=al1 wc (.cells #[.int .i64 2,.slice none 0 0,.string (Aa vO.2.1),.bool vX.2.2,.string (Aa vP.2.1)] 31);have hrA:=hrc.below ((Below.refl wc.heap.size wc).alloc (Cc _) (.cells #[.int .i64 2,.slice none 0 0,.string (Aa vO.2.1),.bool vX.2.2,.string (Aa vP.2.1)] 31)) hwd
         go_wp2_with (go_at_call 45;refine (Axr _ vC.2.1 (hU.below hbA) hCB hCL).mono ?_)
         rintro e W3 ⟨X9,QE⟩
         have Yz:Below w.heap.size w W3:=hbA.trans (X9.mono hbA.size);have hr3:=hrA.below X9 (by rw[hsA];omega)
         have hm3:=hr3.some;obtain⟨⟨r30,r31,r32,r33,r34⟩,s30,s31,s32,s33,s34⟩:=hr3;have hs3:wc.heap.size+1<=W3.heap.size:=by have:=X9.size;rw[hsA] at this;exact this
         have Mx:=(X9.block _ (by rw[hsA];omega)).trans hkA
         obtain⟨⟨k0,k1,k2,k3,k4⟩,kf0,kf1,kf2,kf3,kf4⟩:=Aib Mx;unfold DbP at QE;cases hdc:Ji vC.2.1 with
         |none=>
          rw[hdc] at QE;obtain⟨ad,capN,rfl⟩:=QE;have hI:Jg vT vC vO vX vP=.error 2:=by rw[FT];unfold Uk;rw[hdc]
          go_wp2
          (try simp only[Exit.inBlock,Exit.then])
          exact J2 (b:=w.heap.size) rfl rfl (AX W3 w.heap.size _ _ _ _ _ hm3) ⟨Kl Yz (Cc _) _ _ _ _ _,by rw[hI];exact⟨by decide,rfl⟩⟩
         |some b=>
          rw[hdc] at QE;obtain⟨ad,cap,rfl,Rj⟩:=QE;by_cases Fy:b.length<1
          ·have hI:Jg vT vC vO vX vP=.error 9:=by rw[FT];unfold Uk;rw[hdc];simp only;rw[Bq (.inl Fy)]
           have V8:(b.length:Int)<1:=by omega
           go_wp2
           (try simp only[Exit.inBlock,Exit.then])
           exact J2 (b:=w.heap.size) rfl rfl (AX W3 w.heap.size _ _ _ _ _ hm3) ⟨Kl Yz (Cc _) _ _ _ _ _,by rw[hI];exact⟨by decide,rfl⟩⟩
          by_cases It:64<b.length
          ·have hI:Jg vT vC vO vX vP=.error 9:=by rw[FT];unfold Uk;rw[hdc];simp only;rw[Bq (.inr It)]
           have V8:¬(b.length:Int)<1:=by omega
           have K7:(b.length:Int)>64:=by omega
           go_wp2
           (try simp only[Exit.inBlock,Exit.then])
           exact J2 (b:=w.heap.size) rfl rfl (AX W3 w.heap.size _ _ _ _ _ hm3) ⟨Kl Yz (Cc _) _ _ _ _ _,by rw[hI];exact⟨by decide,rfl⟩⟩
          have V8:¬(b.length:Int)<1:=by omega
          have K7:¬(b.length:Int)>64:=by omega
          obtain⟨a,rfl,hac,haw,hla⟩:=Rj (by rintro rfl;exact Fy (by decide))
          have A2c:wc.heap.size+1<=a.block:=by rw[hsA] at haw;exact haw
          have YA:Jg vT vC vO vX vP=if Fc vO.2.1≠0 then .error (Fc vO.2.1) else if vX.2.2=true/\Fc vP.2.1≠0 then .error (Fc vP.2.1) else .ok (2,b,vO.2.1,vX.2.2,vP.2.1):=by
           rw[FT];unfold Uk;rw[hdc];simp only;rw[Bg (by omega)]
          have ER:Below w.heap.size w (W3.setCell ⟨wc.heap.size,1,none⟩ (.slice (some a) b.length cap)):=Yz.setCell (p:=⟨wc.heap.size,1,none⟩) (Nat.le_of_lt hwd) _;have Asx:Below wc.heap.size W3 (W3.setCell ⟨wc.heap.size,1,none⟩ (.slice (some a) b.length cap)):=(Below.refl wc.heap.size W3).setCell (p:=⟨wc.heap.size,1,none⟩) (Cc _) _;have RH:=(show RC W3 w.heap.size from ⟨⟨r30,r31,r32,r33,r34⟩,s30,s31,s32,s33,s34⟩).below Asx hwd;have Ap8:=hla.set (b0:=wc.heap.size) (j:=1) (v:=.slice (some a) b.length cap) (by omega);have VX:(W3.setCell ⟨wc.heap.size,1,none⟩ (.slice (some a) b.length cap)).heap.size=W3.heap.size:=World.size_setCell ..;have j0:(W3.setCell ⟨wc.heap.size,1,none⟩ (.slice (some a) b.length cap)).cell? ⟨wc.heap.size,0,none⟩=some (.int .i64 2):=(F5 (by decide)).trans k0
          have j1:(W3.setCell ⟨wc.heap.size,1,none⟩ (.slice (some a) b.length cap)).cell? ⟨wc.heap.size,1,none⟩=some (.slice (some a) b.length cap):=World.cell?_setCell_same _ _ _ k1;have j2:(W3.setCell ⟨wc.heap.size,1,none⟩ (.slice (some a) b.length cap)).cell? ⟨wc.heap.size,2,none⟩=some (.string (Aa vO.2.1)):=(F5 (by decide)).trans k2;have j3:(W3.setCell ⟨wc.heap.size,1,none⟩ (.slice (some a) b.length cap)).cell? ⟨wc.heap.size,3,none⟩=some (.bool vX.2.2):=(F5 (by decide)).trans k3;have j4:(W3.setCell ⟨wc.heap.size,1,none⟩ (.slice (some a) b.length cap)).cell? ⟨wc.heap.size,4,none⟩=some (.string (Aa vP.2.1)):=(F5 (by decide)).trans k4
          go_wp2_with (go_at_call 23;refine (Amn _ vO.2.1 (hU.below ER) hOB hOL).mono ?_)
          rintro e W5 ⟨QY,o1,o2,o3,rfl⟩
          have hs5:W3.heap.size<=W5.heap.size:=by have:=QY.size;rw[VX] at this;exact this
          have CJ:Below w.heap.size w W5:=ER.trans (QY.mono ER.size);have hr5:=RH.below QY (by rw[VX];omega)
          have Asy:=hr5;obtain⟨⟨r50,r51,r52,r53,r54⟩,s50,s51,s52,s53,s54⟩:=Asy;have hw5:w.heap.size<W5.heap.size:=by omega
          have hc5:wc.heap.size<W5.heap.size:=by omega
          have YU:=Ap8.below QY (by rw[VX];exact hla.2.1)
          have Mz:wc.heap.size<(W3.setCell ⟨wc.heap.size,1,none⟩ (.slice (some a) b.length cap)).heap.size:=by rw[VX];omega
          have i0:=(QY.cell (p:=⟨wc.heap.size,0,none⟩) Mz).trans j0;have i1:=(QY.cell (p:=⟨wc.heap.size,1,none⟩) Mz).trans j1;have i2:=(QY.cell (p:=⟨wc.heap.size,2,none⟩) Mz).trans j2;have i3:=(QY.cell (p:=⟨wc.heap.size,3,none⟩) Mz).trans j3;have i4:=(QY.cell (p:=⟨wc.heap.size,4,none⟩) Mz).trans j4;have hbL:=(Below.refl W5.heap.size W5).alloc (Cc _) (.cells #[.bool o1,.string o2,.int .i64 o3] 51);have YT:Below w.heap.size w (W5.alloc (.cells #[.bool o1,.string o2,.int .i64 o3] 51)):=CJ.alloc CJ.size _;by_cases ho:Fc vO.2.1=0
          rotate_left
          ·have hoB:(Fc vO.2.1 != 0)=true:=by simp[ho]
           have hI:Jg vT vC vO vX vP=.error (Fc vO.2.1):=by rw[YA,Bq ho]
           go_wp2
           (try simp only[Exit.inBlock,Exit.then])
           exact J2 (b:=w.heap.size) rfl rfl (Pb W5 w.heap.size hw5 _ _ _ _ _ _ hr5) ⟨Ig CJ (Cc _) CJ.size _ _ _ _ _ _,by rw[hI];exact⟨ho,rfl⟩⟩
          have hoB:(Fc vO.2.1 != 0)=false:=by simp[ho]
          rw[Bg (by simp[ho])] at YA;have Afn:=YU.below hbL (by have:=YU.2.1;exact this)
          cases LQ:vX.2.2 with
          |false=>
           rw[LQ] at i3;have hI:Jg vT vC vO vX vP=.ok (2,b,vO.2.1,false,vP.2.1):=by rw[YA,Bg (by simp[LQ]),LQ]
           go_wp2
           (try simp only[Exit.inBlock,Exit.then])
           exact J2 (b:=w.heap.size) rfl rfl (Pb W5 w.heap.size hw5 _ _ _ _ _ _ hr5) ⟨Ig CJ (Cc _) CJ.size _ _ _ _ _ _,by rw[hI];exact⟨a,cap,rfl,hac,by omega,YU.set5al (by omega)⟩⟩
          |true=>
           rw[LQ] at i3
           go_wp2_with (go_at_call 23;refine (Amn _ vP.2.1 (hU.below YT) hPB hPL).mono ?_)
           rintro e W7 ⟨hb7,p1,p2,p3,rfl⟩
           have hsL:(W5.alloc (.cells #[.bool o1,.string o2,.int .i64 o3] 51)).heap.size=W5.heap.size+1:=Array.size_push _;have BE:Below w.heap.size w W7:=YT.trans (hb7.mono YT.size);have hr7:=(hr5.below hbL hw5).below hb7 (by rw[hsL];omega)
           have Ar6:=hr7;obtain⟨⟨r70,r71,r72,r73,r74⟩,s70,s71,s72,s73,s74⟩:=Ar6;have YR:=Afn.below hb7 (by have:=Afn.2.1;exact this)
           have CG:=(hbL.trans (hb7.mono hbL.size))
           have l0:=(CG.cell (p:=⟨wc.heap.size,0,none⟩) (show wc.heap.size<W5.heap.size by omega)).trans i0;have l1:=(CG.cell (p:=⟨wc.heap.size,1,none⟩) (show wc.heap.size<W5.heap.size by omega)).trans i1;have l2:=(CG.cell (p:=⟨wc.heap.size,2,none⟩) (show wc.heap.size<W5.heap.size by omega)).trans i2;have l3:=(CG.cell (p:=⟨wc.heap.size,3,none⟩) (show wc.heap.size<W5.heap.size by omega)).trans i3;have l4:=(CG.cell (p:=⟨wc.heap.size,4,none⟩) (show wc.heap.size<W5.heap.size by omega)).trans i4;have hs7:=CG.size;have hw7:w.heap.size<W7.heap.size:=by omega
           have hc7:wc.heap.size<W7.heap.size:=by omega
           have hbM:=(Below.refl W7.heap.size W7).alloc (Cc _) (.cells #[.bool p1,.string p2,.int .i64 p3] 51);have A3l:Below w.heap.size w (W7.alloc (.cells #[.bool p1,.string p2,.int .i64 p3] 51)):=BE.alloc BE.size _;by_cases hp:Fc vP.2.1=0
           rotate_left
           ·have hoB:(Fc vP.2.1 != 0)=true:=by simp[hp]
            have hI:Jg vT vC vO vX vP=.error (Fc vP.2.1):=by rw[YA,Bq ⟨LQ,hp⟩]
            go_wp2
            (try simp only[Exit.inBlock,Exit.then])
            exact J2 (b:=w.heap.size) rfl rfl (Pb W7 w.heap.size hw7 _ _ _ _ _ _ hr7) ⟨Ig BE (Cc _) BE.size _ _ _ _ _ _,by rw[hI];exact⟨hp,rfl⟩⟩
           have hpB:(Fc vP.2.1 != 0)=false:=by simp[hp]
           have A11:=YR.below hbM (by have:=YR.2.1;exact this)
           have hI:Jg vT vC vO vX vP=.ok (2,b,vO.2.1,true,vP.2.1):=by rw[YA,Bg (by simp[hp]),LQ]
           go_wp2
           (try simp only[Exit.inBlock,Exit.then])
           exact J2 (b:=w.heap.size) rfl rfl (Pb W7 w.heap.size hw7 _ _ _ _ _ _ hr7) ⟨Ig BE (Cc _) BE.size _ _ _ _ _ _,by rw[hI];exact⟨a,cap,rfl,hac,by omega,YR.set5al (by omega)⟩⟩
       ·rw[decide_eq_true hTc] at hbC;rw[Bq hTc] at FT;clear hTc hbG;have hbA:=VZ.alloc VZ.size (.cells #[.int .i64 1,.slice none 0 0,.string (Aa vO.2.1),.bool vX.2.2,.string (Aa vP.2.1)] 31);have hsA:(wc.alloc (.cells #[.int .i64 1,.slice none 0 0,.string (Aa vO.2.1),.bool vX.2.2,.string (Aa vP.2.1)] 31)).heap.size=wc.heap.size+1:=Array.size_push _;have hkA:=al1 wc (.cells #[.int .i64 1,.slice none 0 0,.string (Aa vO.2.1),.bool vX.2.2,.string (Aa vP.2.1)] 31);have hrA:=hrc.below ((Below.refl wc.heap.size wc).alloc (Cc _) (.cells #[.int .i64 1,.slice none 0 0,.string (Aa vO.2.1),.bool vX.2.2,.string (Aa vP.2.1)] 31)) hwd
        go_wp2_with (go_at_call 45;refine (Axr _ vC.2.1 (hU.below hbA) hCB hCL).mono ?_)
        rintro e W3 ⟨X9,QE⟩
        have Yz:Below w.heap.size w W3:=hbA.trans (X9.mono hbA.size);have hr3:=hrA.below X9 (by rw[hsA];omega)
        have hm3:=hr3.some;obtain⟨⟨r30,r31,r32,r33,r34⟩,s30,s31,s32,s33,s34⟩:=hr3;have hs3:wc.heap.size+1<=W3.heap.size:=by have:=X9.size;rw[hsA] at this;exact this
        have Mx:=(X9.block _ (by rw[hsA];omega)).trans hkA
        obtain⟨⟨k0,k1,k2,k3,k4⟩,kf0,kf1,kf2,kf3,kf4⟩:=Aib Mx;unfold DbP at QE;cases hdc:Ji vC.2.1 with
        |none=>
         rw[hdc] at QE;obtain⟨ad,capN,rfl⟩:=QE;have hI:Jg vT vC vO vX vP=.error 2:=by rw[FT];unfold Uk;rw[hdc]
         go_wp2
         (try simp only[Exit.inBlock,Exit.then])
         exact J2 (b:=w.heap.size) rfl rfl (AX W3 w.heap.size _ _ _ _ _ hm3) ⟨Kl Yz (Cc _) _ _ _ _ _,by rw[hI];exact⟨by decide,rfl⟩⟩
        |some b=>
         rw[hdc] at QE;obtain⟨ad,cap,rfl,Rj⟩:=QE;by_cases Fy:b.length<1
         ·have hI:Jg vT vC vO vX vP=.error 9:=by rw[FT];unfold Uk;rw[hdc];simp only;rw[Bq (.inl Fy)]
          have V8:(b.length:Int)<1:=by omega
          go_wp2
          (try simp only[Exit.inBlock,Exit.then])
          exact J2 (b:=w.heap.size) rfl rfl (AX W3 w.heap.size _ _ _ _ _ hm3) ⟨Kl Yz (Cc _) _ _ _ _ _,by rw[hI];exact⟨by decide,rfl⟩⟩
         by_cases It:64<b.length
         ·have hI:Jg vT vC vO vX vP=.error 9:=by rw[FT];unfold Uk;rw[hdc];simp only;rw[Bq (.inr It)]
          have V8:¬(b.length:Int)<1:=by omega
          have K7:(b.length:Int)>64:=by omega
          go_wp2
          (try simp only[Exit.inBlock,Exit.then])
          exact J2 (b:=w.heap.size) rfl rfl (AX W3 w.heap.size _ _ _ _ _ hm3) ⟨Kl Yz (Cc _) _ _ _ _ _,by rw[hI];exact⟨by decide,rfl⟩⟩
         have V8:¬(b.length:Int)<1:=by omega
         have K7:¬(b.length:Int)>64:=by omega
         obtain⟨a,rfl,hac,haw,hla⟩:=Rj (by rintro rfl;exact Fy (by decide))
         have A2c:wc.heap.size+1<=a.block:=by rw[hsA] at haw;exact haw
         have YA:Jg vT vC vO vX vP=if Fc vO.2.1≠0 then .error (Fc vO.2.1) else if vX.2.2=true/\Fc vP.2.1≠0 then .error (Fc vP.2.1) else .ok (1,b,vO.2.1,vX.2.2,vP.2.1):=by
          rw[FT];unfold Uk;rw[hdc];simp only;rw[Bg (by omega)]
         have ER:Below w.heap.size w (W3.setCell ⟨wc.heap.size,1,none⟩ (.slice (some a) b.length cap)):=Yz.setCell (p:=⟨wc.heap.size,1,none⟩) (Nat.le_of_lt hwd) _;have Asx:Below wc.heap.size W3 (W3.setCell ⟨wc.heap.size,1,none⟩ (.slice (some a) b.length cap)):=(Below.refl wc.heap.size W3).setCell (p:=⟨wc.heap.size,1,none⟩) (Cc _) _;have RH:=(show RC W3 w.heap.size from ⟨⟨r30,r31,r32,r33,r34⟩,s30,s31,s32,s33,s34⟩).below Asx hwd;have Ap8:=hla.set (b0:=wc.heap.size) (j:=1) (v:=.slice (some a) b.length cap) (by omega);have VX:(W3.setCell ⟨wc.heap.size,1,none⟩ (.slice (some a) b.length cap)).heap.size=W3.heap.size:=World.size_setCell ..;have j0:(W3.setCell ⟨wc.heap.size,1,none⟩ (.slice (some a) b.length cap)).cell? ⟨wc.heap.size,0,none⟩=some (.int .i64 1):=(F5 (by decide)).trans k0
         have j1:(W3.setCell ⟨wc.heap.size,1,none⟩ (.slice (some a) b.length cap)).cell? ⟨wc.heap.size,1,none⟩=some (.slice (some a) b.length cap):=World.cell?_setCell_same _ _ _ k1;have j2:(W3.setCell ⟨wc.heap.size,1,none⟩ (.slice (some a) b.length cap)).cell? ⟨wc.heap.size,2,none⟩=some (.string (Aa vO.2.1)):=(F5 (by decide)).trans k2;have j3:(W3.setCell ⟨wc.heap.size,1,none⟩ (.slice (some a) b.length cap)).cell? ⟨wc.heap.size,3,none⟩=some (.bool vX.2.2):=(F5 (by decide)).trans k3;have j4:(W3.setCell ⟨wc.heap.size,1,none⟩ (.slice (some a) b.length cap)).cell? ⟨wc.heap.size,4,none⟩=some (.string (Aa vP.2.1)):=(F5 (by decide)).trans k4
         go_wp2_with (go_at_call 23;refine (Amn _ vO.2.1 (hU.below ER) hOB hOL).mono ?_)
         rintro e W5 ⟨QY,o1,o2,o3,rfl⟩
         have hs5:W3.heap.size<=W5.heap.size:=by have:=QY.size;rw[VX] at this;exact this
         have CJ:Below w.heap.size w W5:=ER.trans (QY.mono ER.size);have hr5:=RH.below QY (by rw[VX];omega)
         have Asy:=hr5;obtain⟨⟨r50,r51,r52,r53,r54⟩,s50,s51,s52,s53,s54⟩:=Asy;have hw5:w.heap.size<W5.heap.size:=by omega
         have hc5:wc.heap.size<W5.heap.size:=by omega
         have YU:=Ap8.below QY (by rw[VX];exact hla.2.1)
         have Mz:wc.heap.size<(W3.setCell ⟨wc.heap.size,1,none⟩ (.slice (some a) b.length cap)).heap.size:=by rw[VX];omega
         have i0:=(QY.cell (p:=⟨wc.heap.size,0,none⟩) Mz).trans j0;have i1:=(QY.cell (p:=⟨wc.heap.size,1,none⟩) Mz).trans j1;have i2:=(QY.cell (p:=⟨wc.heap.size,2,none⟩) Mz).trans j2;have i3:=(QY.cell (p:=⟨wc.heap.size,3,none⟩) Mz).trans j3;have i4:=(QY.cell (p:=⟨wc.heap.size,4,none⟩) Mz).trans j4;have hbL:=(Below.refl W5.heap.size W5).alloc (Cc _) (.cells #[.bool o1,.string o2,.int .i64 o3] 51);have YT:Below w.heap.size w (W5.alloc (.cells #[.bool o1,.string o2,.int .i64 o3] 51)):=CJ.alloc CJ.size _;by_cases ho:Fc vO.2.1=0
         rotate_left
         ·have hoB:(Fc vO.2.1 != 0)=true:=by simp[ho]
          have hI:Jg vT vC vO vX vP=.error (Fc vO.2.1):=by rw[YA,Bq ho]
          go_wp2
          (try simp only[Exit.inBlock,Exit.then])
          exact J2 (b:=w.heap.size) rfl rfl (Pb W5 w.heap.size hw5 _ _ _ _ _ _ hr5) ⟨Ig CJ (Cc _) CJ.size _ _ _ _ _ _,by rw[hI];exact⟨ho,rfl⟩⟩
         have hoB:(Fc vO.2.1 != 0)=false:=by simp[ho]
         rw[Bg (by simp[ho])] at YA;have Afn:=YU.below hbL (by have:=YU.2.1;exact this)
         cases LQ:vX.2.2 with
         |false=>
          rw[LQ] at i3;have hI:Jg vT vC vO vX vP=.ok (1,b,vO.2.1,false,vP.2.1):=by rw[YA,Bg (by simp[LQ]),LQ]
          go_wp2
          (try simp only[Exit.inBlock,Exit.then])
          exact J2 (b:=w.heap.size) rfl rfl (Pb W5 w.heap.size hw5 _ _ _ _ _ _ hr5) ⟨Ig CJ (Cc _) CJ.size _ _ _ _ _ _,by rw[hI];exact⟨a,cap,rfl,hac,by omega,YU.set5al (by omega)⟩⟩
         |true=>
          rw[LQ] at i3
          go_wp2_with (go_at_call 23;refine (Amn _ vP.2.1 (hU.below YT) hPB hPL).mono ?_)
          rintro e W7 ⟨hb7,p1,p2,p3,rfl⟩
          have hsL:(W5.alloc (.cells #[.bool o1,.string o2,.int .i64 o3] 51)).heap.size=W5.heap.size+1:=Array.size_push _;have BE:Below w.heap.size w W7:=YT.trans (hb7.mono YT.size);have hr7:=(hr5.below hbL hw5).below hb7 (by rw[hsL];omega)
          have Ar6:=hr7;obtain⟨⟨r70,r71,r72,r73,r74⟩,s70,s71,s72,s73,s74⟩:=Ar6;have YR:=Afn.below hb7 (by have:=Afn.2.1;exact this)
          have CG:=(hbL.trans (hb7.mono hbL.size))
          have l0:=(CG.cell (p:=⟨wc.heap.size,0,none⟩) (show wc.heap.size<W5.heap.size by omega)).trans i0;have l1:=(CG.cell (p:=⟨wc.heap.size,1,none⟩) (show wc.heap.size<W5.heap.size by omega)).trans i1;have l2:=(CG.cell (p:=⟨wc.heap.size,2,none⟩) (show wc.heap.size<W5.heap.size by omega)).trans i2;have l3:=(CG.cell (p:=⟨wc.heap.size,3,none⟩) (show wc.heap.size<W5.heap.size by omega)).trans i3;have l4:=(CG.cell (p:=⟨wc.heap.size,4,none⟩) (show wc.heap.size<W5.heap.size by omega)).trans i4;have hs7:=CG.size;have hw7:w.heap.size<W7.heap.size:=by omega
          have hc7:wc.heap.size<W7.heap.size:=by omega
          have hbM:=(Below.refl W7.heap.size W7).alloc (Cc _) (.cells #[.bool p1,.string p2,.int .i64 p3] 51);have A3l:Below w.heap.size w (W7.alloc (.cells #[.bool p1,.string p2,.int .i64 p3] 51)):=BE.alloc BE.size _;by_cases hp:Fc vP.2.1=0
          rotate_left
          ·have hoB:(Fc vP.2.1 != 0)=true:=by simp[hp]
           have hI:Jg vT vC vO vX vP=.error (Fc vP.2.1):=by rw[YA,Bq ⟨LQ,hp⟩]
           go_wp2
           (try simp only[Exit.inBlock,Exit.then])
           exact J2 (b:=w.heap.size) rfl rfl (Pb W7 w.heap.size hw7 _ _ _ _ _ _ hr7) ⟨Ig BE (Cc _) BE.size _ _ _ _ _ _,by rw[hI];exact⟨hp,rfl⟩⟩
          have hpB:(Fc vP.2.1 != 0)=false:=by simp[hp]
          have A11:=YR.below hbM (by have:=YR.2.1;exact this)
          have hI:Jg vT vC vO vX vP=.ok (1,b,vO.2.1,true,vP.2.1):=by rw[YA,Bg (by simp[hp]),LQ]
          go_wp2
          (try simp only[Exit.inBlock,Exit.then])
          exact J2 (b:=w.heap.size) rfl rfl (Pb W7 w.heap.size hw7 _ _ _ _ _ _ hr7) ⟨Ig BE (Cc _) BE.size _ _ _ _ _ _,by rw[hI];exact⟨a,cap,rfl,hac,by omega,YR.set5al (by omega)⟩⟩
end
section
open Go Go.RowKit Go.Lib
def RL(L:Nat)(s:Am):Prop:=Ct s/\s.length<=4*L
theorem JP:∀(n:Nat)(out l s q:Am),Ct l->Gf n out l=(some s,q)->s.length<=out.length+4*l.length
  |0,_,_,_,_,_,h=>by cases h
  |_+1,_,[],_,_,_,h=>by cases h
  |n+1,out,c::l,s,q,hl,h=>by
    have e:Gf (n+1) out (c::l)=if c<32 then (none,c::l) else if c=34 then (some out,l) else if c=92 then
        (match Kh l with
         |(some x,r')=>Gf n (out++Lib.encodeRuneZ x) r'
         |(none,r')=>(none,r')) else Gf n (out++[c]) l:=rfl
    have Pu:=Bi hl
    rw[e] at h
    split at h
    · cases h
    split at h
    · cases h;simp
    split at h
    · have h2:=Rp (Dp.self Pu.2)
      rcases hq:Kh l with⟨o,r⟩
      rw[hq] at h2 h
      cases o with
      |none=>cases h
      |some x=>
        have:=JP n _ r s q h2.B h
        have h3:=Lib.encodeRuneZ_length x
        have h4:r.length<=l.length:=h2.le
        simp at this ⊢
        omega
    · have:=JP n _ l s q Pu.2 h
      simp at this ⊢
      omega
theorem TG{l s q:Am}(hl:Ct l)(h:De l=(some s,q)):RL l.length s:=by
 refine⟨PE hl h,?_⟩;cases l with
 |nil=>cases h
 |cons c l=>
  have e:De (c::l)=if c=34 then Gf (l.length+1) [] l else (none,c::l):=rfl
  rw[e] at h;split at h
  ·have:=JP _ _ _ _ _ (Bi hl).2 h;simp at this ⊢;omega
  ·cases h
theorem RL.mono{L M:Nat}{s:Am}(h:RL L s)(hm:L<=M):RL M s:=⟨h.1,by have:=h.2;omega⟩
theorem RL.nil(L:Nat):RL L []:=⟨(fun x hx=>nomatch hx),Nat.zero_le _⟩
theorem Aid{l r:Am}{v:JV}(hl:Ct l)(hs:l.length<=1000000)(h:B3 8 l=.ok (v,r)):Dp (Aa l) r:=by
 obtain⟨res,_,hr⟩:=Ai3 (fu:=1000001) (d:=0) (t:=Aa l) (by rw[Ag];exact hs) (by rw[Ag];omega) 8 1 (by omega) (by omega) l (Dp.self hl)
 rw[h] at hr;exact hr.1
theorem Ak0:∀{k:Nat}{l r:Am}{v:JV},Ct l->B3 k l=.ok (v,r)->RL l.length v.2.1:=by
 intro k l r v hl h;unfold B3 at h;split at h
 ·split at h
  ·cases h
  ·split at h
   ·cases h
   ·cases h;exact RL.nil _
 ·split at h
  ·cases h
  ·split at h
   ·cases h
   ·cases h;exact RL.nil _
 ·rename_i r0;unfold Tp at h;rcases hq:De (34::r0) with⟨o,q⟩;rw[hq] at h;cases o with
  |none=>cases h
  |some s=>cases h;exact TG hl hq
 ·repeat' split at h
  all_goals first|(cases h;exact RL.nil _)|cases h
theorem An5{L:Nat}(hL:L<=1000000):∀(n:Nat)(ms:List (Am × JV)) (l r:Am)(ms':List (Am × JV)),Ct l->l.length<=L->(∀m∈ms,RL L m.1/\RL L m.2.2.1)->Jz (B3 8) true n ms l=.ok (ms',r)->∀m∈ms',RL L m.1/\RL L m.2.2.1:=by
 intro n
 induction n with
 |zero=>intro ms l r ms' _ _ _ h;cases h
 |succ n ih=>
  intro ms l r ms' hl hs hm h;rw[G3] at h;rcases hx:De l with⟨o,q⟩;rw[hx] at h;cases o with
  |none=>cases h
  |some nm=>
   have EW:=TG hl hx;have hq:=Gl (Dp.self hl);rw[hx] at hq;simp only at h;split at h
   ·cases h
   cases h1:An [58] (Ao q) with
   |none=>rw[h1] at h;cases h
   |some r1=>
    rw[h1] at h;have KF:=Bw (Ay (Bw hq) h1);simp only at h;cases hv:B3 8 (Ao r1) with
    |error e=>rw[hv] at h;cases h
    |ok x=>
     obtain⟨v,r2⟩:=x;rw[hv] at h;have BU:=KF.le;have hvo:=Ak0 KF.B hv;have MR:=KF.trans (Aid KF.B (by omega) hv)
     have M9:∀m∈ms++[(nm,v)],RL L m.1/\RL L m.2.2.1:=by
      intro m Jw;rcases Bu.1 Jw with Jw|Jw
      ·exact hm m Jw
      ·simp at Jw;subst Jw;exact⟨EW.mono hs,hvo.mono (by omega)⟩
     simp only at h;cases h2:An [125] (Ao r2) with
     |some r3=>rw[h2] at h;cases h;exact M9
     |none=>
      rw[h2] at h;simp only at h;cases h3:An [44] (Ao r2) with
      |none=>rw[h3] at h;cases h
      |some r3=>
       rw[h3] at h;have hr3:=Bw (Ay (Bw MR) h3);exact ih _ _ _ _ hr3.B (by have:=hr3.le;omega) M9 h
theorem ZZ{l:Am}{ms:List (Am × JV)}(hl:Ct l)(hs:l.length<=1000000)(h:BH 8 l=.ok ms):∀m∈ms,RL l.length m.1/\RL l.length m.2.2.1:=by
 rw[Lr] at h;have h0:=Bw (Dp.self hl);cases h1:An [123] (Ao l) with
 |none=>rw[h1] at h;cases h
 |some r=>
  rw[h1] at h;have hr:=Ay h0 h1;simp only at h;rw[Hz] at h;have MR:=Bw hr;cases h2:An [125] (Ao r) with
  |some r'=>
   rw[h2] at h;simp only at h;split at h
   ·cases h;exact fun m hm=>by cases hm
   ·cases h
  |none=>
   rw[h2] at h;simp only at h;cases h3:Jz (B3 8) true ((Ao r).length+1) [] (Ao r) with
   |error e=>rw[h3] at h;cases h
   |ok x=>
    obtain⟨ms',r'⟩:=x;rw[h3] at h;simp only at h;split at h
    ·cases h;exact An5 hs _ _ _ _ _ MR.B MR.le (fun m hm=>by cases hm) h3
    ·cases h
def DI(ms:List (Am × JV)):JR CD:=Jg (Bs K4 ms) (Bs M2 ms) (Bs Yi ms) (Bs AZ ms) (Bs Sk ms)
def Jq(t:ByteArray):JR CD:=
 if 1024<t.size then .error 8 else if Lib.validD t.data.toList=false then .error 6 else match BH 8 (Eu t) with
  |.error e=>.error e
  |.ok ms=>DI ms
theorem Alu{G:Yl}{P:Program}{f:FuncId}{args vals:Al}{us rs:List Value}(hs:Eb G P f args ⟨vals,[]⟩)(ha:Bo HY args us)(hr:Bo HY vals rs){w:World}(hG:G.ok w)(hGl:∀k,G.bl k->k<w.heap.size):Calls P f us.toArray w fun e w'=>e=.returned (Jc rs)/\Below w.heap.size w w':=by
 have hi:Ins w (fun _=>False) VO args us:=⟨fun _ h=>h.elim,fun _ h=>h.elim,fun k h=>absurd h (Rl k),fun i j i' j' b o o' h=>(by cases h),fun i q h=>(by cases h),AE ha⟩
 refine (hs.2 w _ _ _ hi hG (fun k hk=>⟨hGl k hk,Rl k⟩)).mono ?_
 rintro e w' ⟨ws,own,rfl,out⟩
 have hv:=GC hr out.vals;subst hv;exact⟨rfl,out.os,out.tape,out.output,out.ext.size,fun k hk=>out.ext.keep k hk (Rl k)⟩
theorem Ack(W:World)(s:Am)(hW:okW W)(hB:Ct s)(hs:s.length<=1000000):Calls prog 23 #[.string (Aa s)] W fun e w'=>Below W.heap.size W w'/\∃o1 o2 o3,e=.returned (.tuple #[.agg #[.bool o1,.string o2,.int .i64 o3],.int .i64 (Fc s)]):=by
 obtain⟨o1,o2,o3,e⟩:=Apc (fu:=1000001) (d:=0) (p:=none) hB hs (by omega);have hsd:Eb gU prog 23 [.sc (.string (Aa s))] ⟨[.agg ([Value.bool o1,.string o2,.int .i64 o3].map .sc),B9 (Fc s)],[]⟩:=J9 ngR mxR Aru 7 _ _ _ e;refine (Alu (us:=[.string (Aa s)]) (rs:=[.agg #[.bool o1,.string o2,.int .i64 o3],.int .i64 (Fc s)]) hsd ⟨.inl rfl,trivial⟩ ⟨.inr ⟨_,rfl,rfl⟩,.inl rfl,trivial⟩ hW.1 hW.2).mono ?_
 rintro e w' ⟨rfl,hb⟩
 exact⟨hb,o1,o2,o3,rfl⟩
theorem Aei(W:World)(s:Am)(hW:okW W)(hB:Ct s)(hs:s.length<=1000000):Calls prog 45 #[.string (Aa s)] W fun e w'=>Below W.heap.size W w'/\DbP W w' s e:=by
 have e:=Ark (fu:=1000001) (d:=0) (p:=none) hB hs (by omega) (by omega);have hi:Ins W (fun _=>False) VO [.sc (.string (Aa s))] [.string (Aa s)]:=⟨fun _ h=>h.elim,fun _ h=>h.elim,fun k h=>absurd h (Rl k),fun i j i' j' b o o' h=>(by cases h),fun i q h=>(by cases h),AE (show Bo HY [.sc (.string (Aa s))] [.string (Aa s)] from ⟨.inl rfl,trivial⟩)⟩
 have hsd:Eb gU prog 45 [.sc (.string (Aa s))] _:=J9 ngR mxR Aru 3 _ _ _ e;refine (hsd.2 W _ _ _ hi hW.1 (fun k hk=>⟨hW.2 k hk,Rl k⟩)).mono ?_
 rintro e w' ⟨ws,own,rfl,out⟩
 refine⟨⟨out.os,out.tape,out.output,out.ext.size,fun k hk=>out.ext.keep k hk (Rl k)⟩,?_⟩;have hv:=out.vals;have hfr:=out.fresh;generalize hA:FY VO own (fun _=>False)=A at hv;unfold DbP;cases hd:Ji s with
 |none=>
  rw[hd] at hv
  match ws,hv with
  |[u1,u2],hv=>
   obtain⟨h1,h2,_⟩:=hv;have e2:u2=.int .i64 2:=A3.val (show A3 w' A (B9 2) u2 from h2);rcases (show Hn w' A (own 0) (.own 1 0 []) u1 from h1) with⟨_,_,_,ad,rfl⟩|⟨b,o,cap,ho,rfl,h⟩
   ·rw[e2];exact⟨ad,0,rfl⟩
   ·rw[e2];exact⟨_,cap,rfl⟩
  |[],hv=>exact hv.elim
  |[_],hv=>exact hv.2.elim
  |_::_::_::_,hv=>exact hv.2.2.elim
 |some b=>
  rw[hd] at hv
  match ws,hv with
  |[u1,u2],hv=>
   obtain⟨h1,h2,_⟩:=hv;have e2:u2=.int .i64 0:=A3.val (show A3 w' A (B9 0) u2 from h2);rw[e2];rcases (show Hn w' A (own 0) (.own 1 b.length (Bk .u8 b)) u1 from h1) with⟨_,hn,_,ad,rfl⟩|⟨bb,o,cap,ho,rfl,hc,hf,Cx,hr,hz⟩
   ·have KZ:b=[]:=List.eq_nil_of_length_eq_zero hn;subst KZ;exact⟨ad,0,rfl,fun h=>absurd rfl h⟩
   ·refine⟨some ⟨bb,o,none⟩,cap,rfl,fun _=>⟨⟨bb,o,none⟩,rfl,hc,?_,rfl,Cx,fun j x hx=>?_⟩⟩
    ·have:=(hfr 0 bb o ho).2;rcases Ht bb W.heap.size with q|q
     ·obtain⟨⟨i,k,o',h⟩,_⟩:=this q;cases h
     ·exact q
    ·have hj:(Bk .u8 b)[j]?=some (.sc (.int .u8 x)):=by
      rw[Rt,List.getElem?_map,hx];rfl
     obtain⟨v,hv1,_,hv2⟩:=hr j _ hj;rw[hv1];exact congrArg some hv2.val
  |[],hv=>exact hv.elim
  |[_],hv=>exact hv.2.elim
  |_::_::_::_,hv=>exact hv.2.2.elim
def PaP(w w':World)(t:ByteArray)(e:Ending):Prop:=ItP w w' (Jq t) e
theorem SW{R:Ending->World->Prop}{a:Act}{W:World}{v:Value}{b:Nat}(h2:a.tmps.getD 2 undef=.pointer (some ⟨b,0,none⟩))(hd:a.defers=[])(hl:(loadVar 31 ⟨b,0,none⟩).run prog W=.ok v W)(hR:R (.returned (.tuple #[v,a.tmps.getD 3 undef])) W):bodyPost prog Tryz.f12 R .ret a W:=by refine bodyPost_ret ?_ hd hR;rw[results_cell_tmp rfl,h2];have e:(asAddr (.pointer (some ⟨b,0,none⟩))).run prog W=.ok ⟨b,0,none⟩ W:=rfl;rw[e,Result.andThen_ok,hl,Result.andThen_ok]
def VsP(w w':World)(t:ByteArray)(e:Ending):Prop:=e=.returned (.bool (Lib.validD t.data.toList))/\Below w.heap.size w w'
def RtQ(w w':World)(t:ByteArray)(e:Ending):Prop:=Below w.heap.size w w'/\RtP w' (Eu t) e
def ItQ(w w':World)(r:JR CD)(e:Ending):Prop:=Below w.heap.size w w'/\ItP w w' r e
set_option maxHeartbeats 4000000 in
theorem Amz{t:ByteArray}(ht:t.size<=9223372036854775807){w:World}(hU:okW w):Calls prog 12 #[.string t] w fun e w'=>Below w.heap.size w w'/\PaP w w' t e:=by
 have mixed:prog.follows Departure.mixedOrders=true:=by kernel_rfl
 have Fy:Below w.heap.size w (w.alloc (.cells #[.int .i64 0,.slice none 0 0,.string ⟨#[]⟩,.bool false,.string ⟨#[]⟩] 31)):=(Below.refl _ w).alloc (Cc _) _;have hg1:=al1 w (.cells #[.int .i64 0,.slice none 0 0,.string ⟨#[]⟩,.bool false,.string ⟨#[]⟩] 31);have hs1:(w.alloc (.cells #[.int .i64 0,.slice none 0 0,.string ⟨#[]⟩,.bool false,.string ⟨#[]⟩] 31)).heap.size=w.heap.size+1:=Array.size_push _;have KF:RC (w.alloc (.cells #[.int .i64 0,.slice none 0 0,.string ⟨#[]⟩,.bool false,.string ⟨#[]⟩] 31)) w.heap.size:=Aje hg1;have hU1:=hU.below Fy
 have hvc:Calls prog 25 #[.string t] (w.alloc (.cells #[.int .i64 0,.slice none 0 0,.string ⟨#[]⟩,.bool false,.string ⟨#[]⟩] 31)) fun e w'=>VsP (w.alloc (.cells #[.int .i64 0,.slice none 0 0,.string ⟨#[]⟩,.bool false,.string ⟨#[]⟩] 31)) w' t e:=(Any.utf8_ValidString laysVS t (w.alloc (.cells #[.int .i64 0,.slice none 0 0,.string ⟨#[]⟩,.bool false,.string ⟨#[]⟩] 31)) ht hU1.1.2.2).mono (fun _ _ h=>h)
 go_enter Tryz.func12,Tryz.ntmps12
 by_cases Do:1024<t.size
 ·have hI:Jq t=.error 8:=by unfold Jq;rw[Bq Do]
  have hq:(t.size:Int)>1024:=by omega
  go_wp2
  (try simp only[Exit.inBlock,Exit.then])
  obtain⟨⟨r0,r1,r2,r3,r4⟩,_⟩:=KF;exact SW (b:=w.heap.size) rfl rfl (QU r0 r1 r2 r3 r4) ⟨Fy,by unfold PaP;rw[hI];exact⟨by decide,rfl⟩⟩
 have hq:¬(t.size:Int)>1024:=by omega
 go_wp2_with (go_at_call 25;refine hvc.mono ?_)
 rintro e W2 ⟨rfl,It⟩
 have Amu:Below w.heap.size w W2:=Fy.trans (It.mono Fy.size);have MR:=KF.below It (by rw[hs1];omega)
 have FI:w.heap.size+1<=W2.heap.size:=by have:=It.size;rw[hs1] at this;exact this
 have hw2:w.heap.size<W2.heap.size:=by omega
 have hU2:=hU.below Amu;cases hvd:Lib.validD t.data.toList with
 |false=>
  have hI:Jq t=.error 6:=by unfold Jq;rw[Bg Do,hvd,Bq rfl]
  obtain⟨⟨r0,r1,r2,r3,r4⟩,s0,s1,s2,s3,s4⟩:=id MR
  go_wp2
  (try simp only[Exit.inBlock,Exit.then])
  exact SW (b:=w.heap.size) rfl rfl (AX W2 w.heap.size _ _ _ _ _ MR.some) ⟨Kl Amu (Cc _) _ _ _ _ _,by unfold PaP;rw[hI];exact⟨by decide,rfl⟩⟩
 |true=>
  have FT:Jq t=match BH 8 (Eu t) with | .error e=>.error e | .ok ms=>DI ms:=by unfold Jq;rw[Bg Do,hvd,Bg (by decide)]
  have hrt:Calls prog 26 #[.string t] W2 fun e w'=>RtQ W2 w' t e:=Ans (by omega) hU2.1 hU2.2
  go_wp2_with (go_at_call 26;refine hrt.mono ?_)
  rintro e W3 ⟨X9,QE⟩
  have Yz:Below w.heap.size w W3:=Amu.trans (X9.mono Amu.size);have hr3:=MR.below X9 hw2;have hw3:w.heap.size<W3.heap.size:=Gy hw2 X9.size;have hU3:=hU.below Yz;unfold RtP at QE;cases Asi:BH 8 (Eu t) with
  |error er=>
   rw[Asi] at QE FT;obtain⟨he,m,rfl⟩:=QE;have hbe:(er != (0:Int))=true:=by simp[he]
   obtain⟨⟨r0,r1,r2,r3,r4⟩,s0,s1,s2,s3,s4⟩:=id hr3
   go_wp2
   (try simp only[Exit.inBlock,Exit.then])
   exact SW (b:=w.heap.size) rfl rfl (AX W3 w.heap.size _ _ _ _ _ hr3.some) ⟨Kl Yz (Cc _) _ _ _ _ _,by unfold PaP;rw[FT];exact⟨he,rfl⟩⟩
  |ok ms=>
   rw[Asi] at QE FT;obtain⟨mb,rfl,hM3⟩:=QE;have Oa:(Eu t).length<=1000000:=by rw[Ik];omega
   have hok:=ZZ (QH t) Oa Asi;have hl4:4*(Eu t).length<=1000000:=by rw[Ik];omega
   have Xg:Calls prog 27 #[.map (some mb)] W3 fun e w'=>ItQ W3 w' (DI ms) e:=Aoa Aei Ack (fun m hm=>(hok m hm).1.1) (fun m hm=>⟨(hok m hm).2.1,by have:=(hok m hm).2.2;omega⟩) hU3 hM3
   go_wp2_with (go_at_call 27;refine Xg.mono ?_)
   rintro e W4 ⟨hb4,hp4⟩
   have ER:Below w.heap.size w W4:=Yz.trans (hb4.mono Yz.size);have RH:=hr3.below hb4 hw3;have hw4:w.heap.size<W4.heap.size:=Gy hw3 hb4.size;unfold ItP at hp4;cases WH:DI ms with
   |error er=>
    rw[WH] at hp4 FT;obtain⟨he,rfl⟩:=hp4;have hbe:(er != (0:Int))=true:=by simp[he]
    obtain⟨⟨r0,r1,r2,r3,r4⟩,s0,s1,s2,s3,s4⟩:=id RH
    go_wp2
    (try simp only[Exit.inBlock,Exit.then])
    exact SW (b:=w.heap.size) rfl rfl (Pb W4 w.heap.size hw4 _ _ _ _ _ _ RH) ⟨Ig ER (Cc _) ER.size _ _ _ _ _ _,by unfold PaP;rw[FT];exact⟨he,rfl⟩⟩
   |ok x=>
    obtain⟨k,b,o,x,p⟩:=x;rw[WH] at hp4 FT;obtain⟨ad,cap,rfl,hc,hwa,hla⟩:=hp4;obtain⟨⟨r0,r1,r2,r3,r4⟩,s0,s1,s2,s3,s4⟩:=id RH
    go_wp2
    (try simp only[Exit.inBlock,Exit.then])
    exact SW (b:=w.heap.size) rfl rfl (Pb W4 w.heap.size hw4 _ _ _ _ _ _ RH) ⟨Ig ER (Cc _) ER.size _ _ _ _ _ _,by unfold PaP;rw[FT];exact⟨ad,cap,rfl,hc,by omega,hla.set5al (by omega)⟩⟩
def Dq(args:Al):Option Bz:=
 match args with
 |[.sc (.string t)]=>bif decide (t.size<=9223372036854775807) then some (match Jq t with
  |.ok (k,b,o,x,p)=>⟨[.agg [B9 k,.lst false 1 b.length (Bk .u8 b),.sc (.string (Aa o)),.sc (.bool x),.sc (.string (Aa p))],B9 0],[]⟩
  |.error e=>⟨[.agg [B9 0,.lst false 1 0 [],.sc (.string ⟨#[]⟩),.sc (.bool false),.sc (.string ⟨#[]⟩)],B9 e],[]⟩) else none
 |_=>none
theorem GQ{w w':World}{Y:Nat->Prop}{bt:AO}{args vals:Al}{vs:List Value}(hb:Below w.heap.size w w')(hv:MJ w' (FY bt (fun _=>none) Y) (fun _=>none) w.heap.size 0 vals vs)(ho:Xe w' (FY bt (fun _=>none) Y) (fun _=>none) bt (M1 vals) 0 args []):
  Out w w' Y bt args (fun _=>none) ⟨vals,[]⟩ vs where
 os:=hb.os
 tape:=hb.tape
 output:=hb.output
 ext:=⟨hb.size,fun b h _=>hb.block b h,fun b h=>Iw.same (hb.block b h)⟩
 rng:=fun b j h _=>⟨by unfold World.cell?;simp only[hb.block b h],by unfold World.frozen?;simp only[hb.block b h]⟩
 vals:=hv
 outs:=ho
 fresh:=fun j b o h=>by cases h
 inj:=fun j j' b o o' h=>by cases h
theorem RT(args:Al)(res:Bz)(h:Dq args=some res):Eb gU prog 12 args res:=by
 refine⟨⟨_,Tryz.func12,by kernel_rfl⟩,fun w Y bt us hi hok hgl=>?_⟩;unfold Dq at h;split at h
 rotate_left
 ·cases h
 rename_i t;cases hq:decide (t.size<=9223372036854775807)
 ·rw[hq] at h;cases h
 rw[hq,cond_true] at h;have hs:=of_decide_eq_true hq;have ps:=hi.args
 match us,ps with
 |[u],ps=>
  have hu:u=.string t:=A3.val (show A3 w _ (.sc (.string t)) u from ps.1.2);subst hu;refine (Amz hs ⟨hok,fun k hk=>(hgl k hk).1⟩).mono ?_
  rintro e w' ⟨hb,hp⟩
  unfold PaP at hp;unfold ItP at hp;cases EQ:Jq t with
  |error er=>
   rw[EQ] at hp h;obtain⟨_,rfl⟩:=hp;cases h;refine⟨[.agg #[.int .i64 0,.slice none 0 0,.string ⟨#[]⟩,.bool false,.string ⟨#[]⟩],.int .i64 er],fun _=>none,rfl,GQ hb ⟨⟨_,rfl,?_⟩,A3.sc _,trivial⟩ rfl⟩;exact⟨A3.sc _,A3.lnil _ _,A3.sc _,A3.sc _,A3.sc _,trivial⟩
  |ok x=>
   obtain⟨k,b,o,x,p⟩:=x;rw[EQ] at hp h;obtain⟨ad,cap,rfl,hc,hwa,hla⟩:=hp;cases h;refine⟨[.agg #[.int .i64 k,.slice (some ad) b.length cap,.string (Aa o),.bool x,.string (Aa p)],.int .i64 0],fun _=>none,rfl,GQ hb ⟨⟨_,rfl,?_⟩,A3.sc _,trivial⟩ rfl⟩;refine⟨A3.sc _,?_,A3.sc _,A3.sc _,A3.sc _,trivial⟩;refine A3.lst 1 b.length (Bk .u8 b) ad cap (fun j=>.int .u8 (b.getD j 0)) hla.1 hla.2.1 ?_ hc ?_ ?_ ?_
   ·rintro (⟨j,o,h⟩|⟨i,o,h⟩|h)
    ·cases h
    ·have:=hi.lt ad.block ⟨i,0,o,h⟩;omega
    ·have:=hi.Ylt _ h;omega
   ·intro j c hj;rw[Rt,List.getElem?_map] at hj;obtain⟨y,hy,rfl⟩:=Option.map_eq_some_iff.1 hj;rw[hla.2.2 j y hy];simp[List.getD_eq_getElem?_getD,hy]
   ·intro j c hj;rfl
   ·intro j c hj;rw[Rt,List.getElem?_map] at hj;obtain⟨y,hy,rfl⟩:=Option.map_eq_some_iff.1 hj;have:b.getD j 0=y:=by simp[List.getD_eq_getElem?_getD,hy]
    rw[this];exact A3.sc _
 |[],ps=>exact ps.elim
 |_::_::_,ps=>exact ps.2.elim
abbrev C1:H2:=CP (some Dq)
theorem extV:MU gU prog C1:=Ape (fun g h args res hg=>by cases h;exact RT args res hg)
end
section
variable {xs:FuncId->Option (Al->Option Bz)}(fu d:Nat)(call:A7)
def Df(Z:Nat)(Y:Al)(X W:Nat)(V:Al)(U:ByteArray)(T:Int):Option Bz:=Ri fu call 17 Tryz.f17 [Ed 1 Z Y] [.r,.r,.l,.r,.l] X ⟨lk [(0,Ed 1 W V),(3,.sc (.string U)),(4,T)],H4 []⟩
def Co(Z:Nat)(Y:Al)(X W V:Nat)(U:Al)(T:ByteArray)(S Q P:Int):Option Bz:=Ri fu call 17 Tryz.f17 [Ed 1 Z Y] [.r,.r,.l,.r,.l,.i X,.r,.l,.l,.r,.r,.r,.r,.l] W ⟨lk [(0,Ed 1 V U),(3,.sc (.string T)),(4,S),(5,E4 Q),(6,P)],H4 []⟩
theorem Fp(V:Nat)(U:Al)(T Y:Nat)(X:Al)(W:ByteArray)(Z:Int):Df fu call V U (T+1) Y X W Z=(As (decide (Z<(↑Y:Int))) (A6 (decide (0<=Z)&&decide (Z<(↑Y:Int)))<|Eh .u8 (X.getD (Z.toNat*1) .top) fun a=>Ab (wrap .u64 a) fun a=>Ab (H6 .u64 a 16) fun a=>Ab (wrap .i64 (Z+1)) fun b=>As (decide (b<(↑Y:Int))) (Ab (wrap .i64 (Z+1)) fun b=>A6 (decide (0<=b)&&decide (b<(↑Y:Int)))<|Eh .u8 (X.getD (b.toNat*1) .top) fun b=>Ab (wrap .u64 b) fun b=>Ab (H6 .u64 b 8) fun b=>Ab (EO .u64 a b) fun a=>Ab (wrap .i64 (Z+2)) fun b=>As (decide (b<(↑Y:Int))) (Ab (wrap .i64 (Z+2)) fun b=>A6 (decide (0<=b)&&decide (b<(↑Y:Int)))<|Eh .u8 (X.getD (b.toNat*1) .top) fun b=>Ab (wrap .u64 b) fun b=>Ab (EO .u64 a b) fun a=>Co fu call V U T fu Y X W Z a 0) (Co fu call V U T fu Y X W Z a 0)) (Ab (wrap .i64 (Z+2)) fun b=>As (decide (b<(↑Y:Int))) (Ab (wrap .i64 (Z+2)) fun b=>A6 (decide (0<=b)&&decide (b<(↑Y:Int)))<|Eh .u8 (X.getD (b.toNat*1) .top) fun b=>Ab (wrap .u64 b) fun b=>Ab (EO .u64 a b) fun a=>Co fu call V U T fu Y X W Z a 0) (Co fu call V U T fu Y X W Z a 0))) (Cg [.sc (.string W)])):=by kernel_rfl
theorem Hx(V:Nat)(U:Al)(T P Z:Nat)(S:Al)(Y:ByteArray)(X Q W:Int):Co fu call V U T (P+1) Z S Y X Q W=(As (decide (W<4)) (Ab (wrap .i64 ((↑Z:Int)-X)) fun a=>As (decide (W<=a)) (Ab (wrap .u64 W) fun a=>Ab (wrap .u64 (6*a)) fun a=>Ab (wrap .u64 (18-a)) fun a=>A6 (decide (0<=a))<|Ab (S0 .u64 Q a) fun a=>Ab (CO .u64 a 63) fun a=>Ab (wrap .u64 (a+1)) fun b=>A6 (decide (0<=a))<|A6 (decide (0<=b))<|A6 (decide (a.toNat<=b.toNat)&&decide (b.toNat<=64))<|Ab (ByteArray.extract (ByteArray.mk #[65,66,67,68,69,70,71,72,73,74,75,76,77,78,79,80,81,82,83,84,85,86,87,88,89,90,97,98,99,100,101,102,103,104,105,106,107,108,109,110,111,112,113,114,115,116,117,118,119,120,121,122,48,49,50,51,52,53,54,55,56,57,45,95]) a.toNat b.toNat) fun a=>A6 (decide (ByteArray.size Y+ByteArray.size a<=9223372036854775807))<|Ab (Y++a) fun a=>Ab (wrap .i64 (W+1)) fun b=>Co fu call V U T P Z S a X Q b) (Ab (wrap .i64 (X+3)) fun a=>Df fu call V U T Z S Y a)) (Ab (wrap .i64 (X+3)) fun a=>Df fu call V U T Z S Y a)):=by kernel_rfl
theorem Pt{p:Option (Al->Option Bz)}(fu d Z:Nat)(Y:Al):Ae (CP p) prog fu (d+1) 17 [Ed 1 Z Y]=(fun (call:A7)=>Df fu call Z Y fu Z Y (ByteArray.mk #[]) 0) (Ae (CP p) prog fu d):=by kernel_rfl
def Gg(Z:Int)(Y:Nat)(X W:Int):Option Bz:=Ri fu call 54 Tryz.f54 [.sc (.int .u8 Z)] [.r,.l,.r,.l] Y ⟨lk [(0,.sc (.int .u8 X)),(3,W)],H4 []⟩
theorem Kd(X:Int)(W:Nat)(Y Z:Int):Gg fu call X (W+1) Y Z=(As (decide (Z<64)) (A6 (decide (0<=Z))<|Dk ((Array.toList (ByteArray.data (ByteArray.mk #[65,66,67,68,69,70,71,72,73,74,75,76,77,78,79,80,81,82,83,84,85,86,87,88,89,90,97,98,99,100,101,102,103,104,105,106,107,108,109,110,111,112,113,114,115,116,117,118,119,120,121,122,48,49,50,51,52,53,54,55,56,57,45,95])))[Z.toNat]?) fun a=>As ((↑(UInt8.toNat a):Int)==Y) (Ab (wrap .u64 Z) fun a=>Cg [E4 a]) (Ab (wrap .i64 (Z+1)) fun a=>Gg fu call X W Y a)) (Cg [E4 64])):=by kernel_rfl
theorem Va{p:Option (Al->Option Bz)}(fu d:Nat)(Z:Int):Ae (CP p) prog fu (d+1) 54 [.sc (.int .u8 Z)]=(fun (call:A7)=>Gg fu call Z fu Z 0) (Ae (CP p) prog fu d):=by kernel_rfl
def D4(Z:ByteArray)(Y:Nat)(X:ByteArray)(W:Nat)(V U T:Int)(S:Al):Option Bz:=Ri fu call 33 Tryz.f33 [.sc (.string Z)] [.r,.r,.r,.l,.r,.l] Y ⟨lk [(0,.sc (.string X)),(4,.view 4 1 0 W),(5,E4 V),(6,E4 U),(7,T)],H4 [(4,.ar false S)]⟩
theorem Hw(V:ByteArray)(U:Nat)(X:ByteArray)(Z:Nat)(T S W:Int)(Y:Al):D4 fu call V (U+1) X Z T S W Y=(As (decide (W<(↑(ByteArray.size X):Int))) (A6 (decide (0<=W))<|Dk ((Array.toList (ByteArray.data X))[W.toNat]?) fun a=>Z1 .u64 (call 54 [.sc (.int .u8 (↑(UInt8.toNat a):Int))]) fun a=>As (decide (a>63)) (Cg [.own 1 0 [],(2:Int)]) (Ab (H6 .u64 T 6) fun b=>Ab (EO .u64 b a) fun a=>Ab (CO .u64 a 65535) fun a=>Ab (wrap .u64 (S+6)) fun b=>As (decide (b>=8)) (Ab (wrap .u64 (b-8)) fun b=>A6 (decide (0<=b))<|Ab (S0 .u64 a b) fun c=>Ab (wrap .u8 c) fun c=>ZzA Z 1 1 Y [.sc (.int .u8 c)] fun c e=>Ab (wrap .i64 (W+1)) fun f=>D4 fu call V U X c a b f e) (Ab (wrap .i64 (W+1)) fun c=>D4 fu call V U X Z a b c Y))) (A6 (decide (0+Z*1<=Y.length))<|Fv (call 17 [Ed 1 Z (List.take (Z*1) (Y.drop 0))]) fun a b=>Ai a fun a=>Af b<|As (!Array.toList (ByteArray.data a)==Array.toList (ByteArray.data X)) (Cg [.own 1 0 [],(2:Int)]) (A6 (decide (Z*1<=Y.length))<|Cg [.own 1 Z (Y.take (Z*1)),(0:Int)]))):=by kernel_rfl
theorem Pw{p:Option (Al->Option Bz)}(fu d:Nat)(Z:ByteArray):Ae (CP p) prog fu (d+1) 33 [.sc (.string Z)]=(fun (call:A7)=>D4 fu call Z fu Z 0 0 0 0 ([])) (Ae (CP p) prog fu d):=by kernel_rfl
theorem Tz{p:Option (Al->Option Bz)}(fu d:Nat)(Z:Int):Ae (CP p) prog fu (d+1) 32 [Z]=(fun (call:A7)=>As (Z==1) (Cg [.sc (.string (ByteArray.mk #[112,97,115,115,107,101,121,46,99,114,101,97,116,101]))]) (As (Z==2) (Cg [.sc (.string (ByteArray.mk #[112,97,115,115,107,101,121,46,103,101,116]))]) (Cg [.sc (.string (ByteArray.mk #[]))]))) (Ae (CP p) prog fu d):=by kernel_rfl
theorem J4{p:Option (Al->Option Bz)}(fu d:Nat)(X:Int)(W:Nat)(Z:Al)(V:ByteArray)(U:Bool)(T:ByteArray)(S:Int)(Q:Nat)(Y:Al)(P:ByteArray)(O:Bool)(N:ByteArray):Ae (CP p) prog fu (d+1) 13 [.agg [X,Ed 1 W Z,.sc (.string V),.sc (.bool U),.sc (.string T)],.agg [S,Ed 1 Q Y,.sc (.string P),.sc (.bool O),.sc (.string N)]]=(fun (call:A7)=>As (X==S) (A6 (decide (Z.length=W))<|Dk (Ly Z) fun a=>A6 (decide (Y.length=Q))<|Dk (Ly Y) fun b=>As (Array.toList (ByteArray.data (ByteArray.mk (List.toArray a)))==Array.toList (ByteArray.data (ByteArray.mk (List.toArray b)))) (As (Array.toList (ByteArray.data V)==Array.toList (ByteArray.data P)) (As (U==O) (Cg [.sc (.bool (Array.toList (ByteArray.data T)==Array.toList (ByteArray.data N)))]) (Cg [.sc (.bool false)])) (Cg [.sc (.bool false)])) (Cg [.sc (.bool false)])) (Cg [.sc (.bool false)])) (Ae (CP p) prog fu d):=by kernel_rfl
theorem Wk{p:Option (Al->Option Bz)}(fu d:Nat)(U:Int)(X:Nat)(V:Al)(Y:ByteArray)(W:Bool)(Z:ByteArray):Ae (CP p) prog fu (d+1) 11 [.agg [U,Ed 1 X V,.sc (.string Y),.sc (.bool W),.sc (.string Z)]]=(fun (call:A7)=>As (U==1) (As (decide ((↑X:Int)<1)) (Cg [.sc (.string (ByteArray.mk #[])),(9:Int)]) (As (decide ((↑X:Int)>64)) (Cg [.sc (.string (ByteArray.mk #[])),(9:Int)]) (Fv (call 23 [.sc (.string Y)]) fun a b=>Fo a fun a=>Ac a fun a c=>Cb a fun a=>Ac c fun a c=>Ai a fun a=>Au .i64 c fun a=>Au .i64 b fun a=>As (a != 0) (Cg [.sc (.string (ByteArray.mk #[])),a]) (As (!Array.toList (ByteArray.data Z)==Array.toList (ByteArray.data (ByteArray.mk #[]))) (As (!W) (Cg [.sc (.string (ByteArray.mk #[])),(4:Int)]) (Fv (call 24 [Ed 1 X V]) fun a b=>Ai a fun a=>Af b<|A6 (decide (38+ByteArray.size a<=9223372036854775807))<|Ab (ByteArray.mk #[123,34,116,121,112,101,34,58,34]++ByteArray.mk #[112,97,115,115,107,101,121,46,99,114,101,97,116,101]++ByteArray.mk #[34,44,34,99,104,97,108,108,101,110,103,101,34,58,34]++a) fun a=>A6 (decide (ByteArray.size a+12<=9223372036854775807))<|Ab (a++ByteArray.mk #[34,44,34,111,114,105,103,105,110,34,58,34]) fun a=>A6 (decide (ByteArray.size a+ByteArray.size Y<=9223372036854775807))<|Ab (a++Y) fun a=>As (!W) (A6 (decide (ByteArray.size a+22<=9223372036854775807))<|Ab (a++ByteArray.mk #[34,44,34,99,114,111,115,115,79,114,105,103,105,110,34,58,102,97,108,115,101,125]) fun a=>Cg [.sc (.string a),(0:Int)]) (Fv (call 23 [.sc (.string Z)]) fun b c=>Fo b fun b=>Ac b fun b e=>Cb b fun b=>Ac e fun b e=>Ai b fun b=>Au .i64 e fun b=>Au .i64 c fun b=>As (b != 0) (Cg [.sc (.string (ByteArray.mk #[])),b]) (A6 (decide (ByteArray.size a+34<=9223372036854775807))<|Ab (a++ByteArray.mk #[34,44,34,99,114,111,115,115,79,114,105,103,105,110,34,58,116,114,117,101,44,34,116,111,112,79,114,105,103,105,110,34,58,34]) fun a=>A6 (decide (ByteArray.size a+ByteArray.size Z<=9223372036854775807))<|Ab (a++Z) fun a=>A6 (decide (ByteArray.size a+2<=9223372036854775807))<|Ab (a++ByteArray.mk #[34,125]) fun a=>Cg [.sc (.string a),(0:Int)])))) (Fv (call 24 [Ed 1 X V]) fun a b=>Ai a fun a=>Af b<|A6 (decide (38+ByteArray.size a<=9223372036854775807))<|Ab (ByteArray.mk #[123,34,116,121,112,101,34,58,34]++ByteArray.mk #[112,97,115,115,107,101,121,46,99,114,101,97,116,101]++ByteArray.mk #[34,44,34,99,104,97,108,108,101,110,103,101,34,58,34]++a) fun a=>A6 (decide (ByteArray.size a+12<=9223372036854775807))<|Ab (a++ByteArray.mk #[34,44,34,111,114,105,103,105,110,34,58,34]) fun a=>A6 (decide (ByteArray.size a+ByteArray.size Y<=9223372036854775807))<|Ab (a++Y) fun a=>As (!W) (A6 (decide (ByteArray.size a+22<=9223372036854775807))<|Ab (a++ByteArray.mk #[34,44,34,99,114,111,115,115,79,114,105,103,105,110,34,58,102,97,108,115,101,125]) fun a=>Cg [.sc (.string a),(0:Int)]) (Fv (call 23 [.sc (.string Z)]) fun b c=>Fo b fun b=>Ac b fun b e=>Cb b fun b=>Ac e fun b e=>Ai b fun b=>Au .i64 e fun b=>Au .i64 c fun b=>As (b != 0) (Cg [.sc (.string (ByteArray.mk #[])),b]) (A6 (decide (ByteArray.size a+34<=9223372036854775807))<|Ab (a++ByteArray.mk #[34,44,34,99,114,111,115,115,79,114,105,103,105,110,34,58,116,114,117,101,44,34,116,111,112,79,114,105,103,105,110,34,58,34]) fun a=>A6 (decide (ByteArray.size a+ByteArray.size Z<=9223372036854775807))<|Ab (a++Z) fun a=>A6 (decide (ByteArray.size a+2<=9223372036854775807))<|Ab (a++ByteArray.mk #[34,125]) fun a=>Cg [.sc (.string a),(0:Int)]))))))) (As (U==2) (As (decide ((↑X:Int)<1)) (Cg [.sc (.string (ByteArray.mk #[])),(9:Int)]) (As (decide ((↑X:Int)>64)) (Cg [.sc (.string (ByteArray.mk #[])),(9:Int)]) (Fv (call 23 [.sc (.string Y)]) fun a b=>Fo a fun a=>Ac a fun a c=>Cb a fun a=>Ac c fun a c=>Ai a fun a=>Au .i64 c fun a=>Au .i64 b fun a=>As (a != 0) (Cg [.sc (.string (ByteArray.mk #[])),a]) (As (!Array.toList (ByteArray.data Z)==Array.toList (ByteArray.data (ByteArray.mk #[]))) (As (!W) (Cg [.sc (.string (ByteArray.mk #[])),(4:Int)]) (Fv (call 24 [Ed 1 X V]) fun a b=>Ai a fun a=>Af b<|A6 (decide (35+ByteArray.size a<=9223372036854775807))<|Ab (ByteArray.mk #[123,34,116,121,112,101,34,58,34]++ByteArray.mk #[112,97,115,115,107,101,121,46,103,101,116]++ByteArray.mk #[34,44,34,99,104,97,108,108,101,110,103,101,34,58,34]++a) fun a=>A6 (decide (ByteArray.size a+12<=9223372036854775807))<|Ab (a++ByteArray.mk #[34,44,34,111,114,105,103,105,110,34,58,34]) fun a=>A6 (decide (ByteArray.size a+ByteArray.size Y<=9223372036854775807))<|Ab (a++Y) fun a=>As (!W) (A6 (decide (ByteArray.size a+22<=9223372036854775807))<|Ab (a++ByteArray.mk #[34,44,34,99,114,111,115,115,79,114,105,103,105,110,34,58,102,97,108,115,101,125]) fun a=>Cg [.sc (.string a),(0:Int)]) (Fv (call 23 [.sc (.string Z)]) fun b c=>Fo b fun b=>Ac b fun b e=>Cb b fun b=>Ac e fun b e=>Ai b fun b=>Au .i64 e fun b=>Au .i64 c fun b=>As (b != 0) (Cg [.sc (.string (ByteArray.mk #[])),b]) (A6 (decide (ByteArray.size a+34<=9223372036854775807))<|Ab (a++ByteArray.mk #[34,44,34,99,114,111,115,115,79,114,105,103,105,110,34,58,116,114,117,101,44,34,116,111,112,79,114,105,103,105,110,34,58,34]) fun a=>A6 (decide (ByteArray.size a+ByteArray.size Z<=9223372036854775807))<|Ab (a++Z) fun a=>A6 (decide (ByteArray.size a+2<=9223372036854775807))<|Ab (a++ByteArray.mk #[34,125]) fun a=>Cg [.sc (.string a),(0:Int)])))) (Fv (call 24 [Ed 1 X V]) fun a b=>Ai a fun a=>Af b<|A6 (decide (35+ByteArray.size a<=9223372036854775807))<|Ab (ByteArray.mk #[123,34,116,121,112,101,34,58,34]++ByteArray.mk #[112,97,115,115,107,101,121,46,103,101,116]++ByteArray.mk #[34,44,34,99,104,97,108,108,101,110,103,101,34,58,34]++a) fun a=>A6 (decide (ByteArray.size a+12<=9223372036854775807))<|Ab (a++ByteArray.mk #[34,44,34,111,114,105,103,105,110,34,58,34]) fun a=>A6 (decide (ByteArray.size a+ByteArray.size Y<=9223372036854775807))<|Ab (a++Y) fun a=>As (!W) (A6 (decide (ByteArray.size a+22<=9223372036854775807))<|Ab (a++ByteArray.mk #[34,44,34,99,114,111,115,115,79,114,105,103,105,110,34,58,102,97,108,115,101,125]) fun a=>Cg [.sc (.string a),(0:Int)]) (Fv (call 23 [.sc (.string Z)]) fun b c=>Fo b fun b=>Ac b fun b e=>Cb b fun b=>Ac e fun b e=>Ai b fun b=>Au .i64 e fun b=>Au .i64 c fun b=>As (b != 0) (Cg [.sc (.string (ByteArray.mk #[])),b]) (A6 (decide (ByteArray.size a+34<=9223372036854775807))<|Ab (a++ByteArray.mk #[34,44,34,99,114,111,115,115,79,114,105,103,105,110,34,58,116,114,117,101,44,34,116,111,112,79,114,105,103,105,110,34,58,34]) fun a=>A6 (decide (ByteArray.size a+ByteArray.size Z<=9223372036854775807))<|Ab (a++Z) fun a=>A6 (decide (ByteArray.size a+2<=9223372036854775807))<|Ab (a++ByteArray.mk #[34,125]) fun a=>Cg [.sc (.string a),(0:Int)]))))))) (Cg [.sc (.string (ByteArray.mk #[])),(3:Int)]))) (Ae (CP p) prog fu d):=by kernel_rfl
theorem Ug{p:Option (Al->Option Bz)}(fu d:Nat):Ae (CP p) prog fu (d+1) 4 []=(fun (call:A7)=>Fv (call 11 [.agg [(2:Int),Ed 1 2 [.sc (.int .u8 251),.sc (.int .u8 255)],.sc (.string (ByteArray.mk #[104,116,116,112,115,58,47,47,97,46,98])),.sc (.bool false),.sc (.string (ByteArray.mk #[]))]]) fun a b=>Ai a fun a=>Au .i64 b fun b=>Fv (call 12 [.sc (.string a)]) fun c e=>Fo c fun c=>Ca .i64 c fun c f=>K2 1 f fun f g h=>Ac h fun h i=>Ai h fun h=>Ac i fun i j=>Cb i fun i=>Ac j fun j k=>Ai j fun j=>Af k<|Au .i64 e fun e=>As (b==0) (As (e==0) (As (Array.toList (ByteArray.data a)==Array.toList (ByteArray.data (ByteArray.mk (List.toArray (List.append [123,34,116,121,112,101,34,58,34,112,97,115,115,107,101,121,46,103,101,116,34,44,34,99,104,97,108,108,101,110,103,101,34,58,34,45,95,56,34,44,34] [111,114,105,103,105,110,34,58,34,104,116,116,112,115,58,47,47,97,46,98,34,44,34,99,114,111,115,115,79,114,105,103,105,110,34,58,102,97,108,115,101,125]))))) (Fv (call 13 [.agg [(2:Int),Ed 1 2 [.sc (.int .u8 251),.sc (.int .u8 255)],.sc (.string (ByteArray.mk #[104,116,116,112,115,58,47,47,97,46,98])),.sc (.bool false),.sc (.string (ByteArray.mk #[]))],.agg [c,Ed 1 f g,.sc (.string h),.sc (.bool i),.sc (.string j)]]) fun a b=>Cb a fun a=>Af b<|Cg [.sc (.bool a)]) (Cg [.sc (.bool false)])) (Cg [.sc (.bool false)])) (Cg [.sc (.bool false)])) (Ae (CP p) prog fu d):=by kernel_rfl
end
theorem Agw(a b:Nat)(ha:a<18446744073709551616)(hb:b<18446744073709551616):CO .u64 ((a:Nat):Int) ((b:Nat):Int)=((a &&& b:Nat):Int):=by
 have hx:a &&& b<2 ^ 64:=Nat.and_lt_two_pow _ (by omega)
 have h1:(BitVec.ofInt 64 (a:Int)).toNat=a:=by
  rw[BitVec.ofInt_natCast,BitVec.toNat_ofNat];exact Nat.mod_eq_of_lt (by omega)
 have h2:(BitVec.ofInt 64 (b:Int)).toNat=b:=by
  rw[BitVec.ofInt_natCast,BitVec.toNat_ofNat];exact Nat.mod_eq_of_lt (by omega)
 show IntKind.u64.wrap ((BitVec.ofInt 64 (a:Int) &&& BitVec.ofInt 64 (b:Int)).toNat:Int)=_;rw[BitVec.toNat_and,h1,h2];simp only[wrap,IntKind.bits,IntKind.signed,CS,Bool.false_eq_true,if_false];omega
theorem Aqx{x:Int}(h0:0<=x)(h1:x<16777216):CO .u64 x 63=x % 64:=by obtain⟨n,rfl⟩:=Int.eq_ofNat_of_zero_le h0;have:=Agw n 63 (by omega) (by omega);refine this.trans ?_;rw[show (63:Nat)=2 ^ 6-1 by decide,Nat.and_two_pow_sub_one_eq_mod n 6];omega
theorem Ad3{x:Int}(h0:0<=x)(h1:x<16777216):CO .u64 x 65535=x % 65536:=by obtain⟨n,rfl⟩:=Int.eq_ofNat_of_zero_le h0;have:=Agw n 65535 (by omega) (by omega);refine this.trans ?_;rw[show (65535:Nat)=2 ^ 16-1 by decide,Nat.and_two_pow_sub_one_eq_mod n 16];omega
theorem Aot{x:Int}{k:Nat}(hk:k<=64):S0 .u64 x (k:Int)=x / ((2 ^ k:Nat):Int):=by
 show x.fdiv (2 ^ (min (k:Int).toNat IntKind.u64.bits))=_
 have:min (k:Int).toNat IntKind.u64.bits=k:=by
  rw[Kc];exact Nat.min_eq_left (by show k<=64;omega)
 rw[this];have e:(2:Int) ^ k=((2 ^ k:Nat):Int):=by simp
 rw[e,Int.fdiv_eq_ediv_of_nonneg _ (Int.natCast_nonneg _)]
theorem Ajm:∀n:Fin 64,Ow.extract n.val (n.val+1)=Aa [F0 (n.val:Int)]:=by decide +kernel
theorem Ie(a b:Am):Aa a++Aa b=Aa (a++b):=by apply ByteArray.ext;rw[ByteArray.data_append];unfold Aa;simp
def RO(x:Int)(k:Nat):Int:=F0 (x / ((2 ^ (18-6*k):Nat):Int) % 64)
section
variable {fu d:Nat}{p:Option (Al->Option Bz)}
theorem Aba{Qs:Nat}{a0:Al}{m0:Nat}{y0:Nat}{y1:Al}{i:Nat}{x:Int}(hx0:0<=x)(hx:x<16777216)(hi:i<y0)(hy:y0<=1000000)(m:Nat)(hm:m=min (y0-i) 3+1):∀(r k nn:Nat)(out:Am),k+r=m->r+1<=nn->out.length+r<=10000000 ->
  Co fu (Ae (CP p) prog fu d) Qs a0 m0 nn y0 y1 (Aa out) (i:Int) x (k:Int)=Df fu (Ae (CP p) prog fu d) Qs a0 m0 y0 y1 (Aa (out++(List.range' k r).map (RO x))) ((i+3:Nat):Int)
 |0,k,nn,out,hkr,Jo,ho=>by
  obtain⟨q,rfl⟩:∃q,nn=q+1:=⟨nn-1,by omega⟩
  have a3:wrap .i64 ((i:Int)+3)=((i+3:Nat):Int):=by rw[Ar (by omega) (by omega)];omega
  have e:out++(List.range' k 0).map (RO x)=out:=by simp
  rw[e,Hx];by_cases h4:k<4
  ·have a1:=dT (q:=(k:Int)<4) (by omega);have a2:wrap .i64 ((y0:Int)-(i:Int))=(y0:Int)-(i:Int):=Ar (by omega) (by omega);have a4:=dF (q:=(k:Int)<=(y0:Int)-(i:Int)) (by omega);simp only[A2,A1,a1,a2,a4,a3]
  ·have a1:=dF (q:=(k:Int)<4) (by omega);simp only[A2,A1,a1,a3]
 |r+1,k,nn,out,hkr,Jo,ho=>by
  obtain⟨q,rfl⟩:∃q,nn=q+1:=⟨nn-1,by omega⟩
  have V3:k<4:=by omega
  have a1:=dT (q:=(k:Int)<4) (by omega);have a2:wrap .i64 ((y0:Int)-(i:Int))=(y0:Int)-(i:Int):=Ar (by omega) (by omega);have a4:=dT (q:=(k:Int)<=(y0:Int)-(i:Int)) (by omega);have b1:wrap .u64 (k:Int)=(k:Int):=E9 (by omega) (by omega);have b2:wrap .u64 (6*(k:Int))=6*(k:Int):=E9 (by omega) (by omega);have b3:wrap .u64 (18-6*(k:Int))=((18-6*k:Nat):Int):=by rw[E9 (by omega) (by omega)];omega
  have b4:decide ((0:Int)<=((18-6*k:Nat):Int))=true:=by simp
  have b5:=Aot (x:=x) (k:=18-6*k) (by omega);have hp:0<2 ^ (18-6*k):=Nat.pow_pos (by omega);have Nz:0<=x / ((2 ^ (18-6*k):Nat):Int):=Int.ediv_nonneg hx0 (Int.natCast_nonneg _)
  have RI:x / ((2 ^ (18-6*k):Nat):Int)<16777216:=by
   have:=Int.ediv_le_self ((2 ^ (18-6*k):Nat):Int) hx0;omega
  have b6:=Aqx Nz RI;generalize hv:x / ((2 ^ (18-6*k):Nat):Int) % 64=v at b6;have hv0:0<=v:=by omega
  have hv1:v<64:=by omega
  have b7:wrap .u64 (v+1)=v+1:=E9 (by omega) (by omega);have b8:=dT (q:=(0:Int)<=v) hv0;have b9:=dT (q:=(0:Int)<=v+1) (by omega);have c1:decide (Int.toNat v<=Int.toNat (v+1))=true:=dT (by omega);have c2:decide (Int.toNat (v+1)<=64)=true:=dT (by omega)
  have c3:Ow.extract (Int.toNat v) (Int.toNat (v+1))=Aa [RO x k]:=by
   have:=Ajm ⟨Int.toNat v,by omega⟩;rw[show Int.toNat (v+1)=Int.toNat v+1 by omega];refine this.trans ?_;unfold RO;rw[hv]
   congr 3
   show ((Int.toNat v:Nat):Int)=v;omega
  have c4:decide ((Aa out).size+(Aa [RO x k]).size<=9223372036854775807)=true:=dT (by rw[Ag,Ag];simp;omega)
  have c5:wrap .i64 ((k:Int)+1)=((k+1:Nat):Int):=by rw[Ar (by omega) (by omega)];omega
  have ih:=Aba (Qs:=Qs) (a0:=a0) (m0:=m0) (y1:=y1) hx0 hx hi hy m hm r (k+1) q (out++[RO x k]) (by omega) (by omega) (by simp;omega)
  have e:out++(List.range' k (r+1)).map (RO x)=(out++[RO x k])++(List.range' (k+1) r).map (RO x):=by
   rw[List.range'_succ];simp
  have ea:(ByteArray.mk #[(65:UInt8),(66:UInt8),(67:UInt8),(68:UInt8),(69:UInt8),(70:UInt8),(71:UInt8),(72:UInt8),(73:UInt8),(74:UInt8),(75:UInt8),(76:UInt8),(77:UInt8),(78:UInt8),(79:UInt8),(80:UInt8),(81:UInt8),(82:UInt8),(83:UInt8),(84:UInt8),(85:UInt8),(86:UInt8),(87:UInt8),(88:UInt8),(89:UInt8),(90:UInt8),(97:UInt8),(98:UInt8),(99:UInt8),(100:UInt8),(101:UInt8),(102:UInt8),(103:UInt8),(104:UInt8),(105:UInt8),(106:UInt8),(107:UInt8),(108:UInt8),(109:UInt8),(110:UInt8),(111:UInt8),(112:UInt8),(113:UInt8),(114:UInt8),(115:UInt8),(116:UInt8),(117:UInt8),(118:UInt8),(119:UInt8),(120:UInt8),(121:UInt8),(122:UInt8),(48:UInt8),(49:UInt8),(50:UInt8),(51:UInt8),(52:UInt8),(53:UInt8),(54:UInt8),(55:UInt8),(56:UInt8),(57:UInt8),(45:UInt8),(95:UInt8)])=Ow:=rfl;rw[e,Hx,ea];simp only[A2,A1,a1,a2,a4,b1,b2,b3,b4,b5,b6,b7,b8,b9,c1,c2,c3,c4,Ie,c5];exact ih
theorem XV{a b c:Int}(h:Ct [a,b,c])(m:Nat)(hm:m<=4):(List.range' 0 m).map (RO (a*65536+b*256+c))=(K6 a b c).take m:=by
 obtain⟨ha,h⟩:=Bi h;obtain⟨hb,h⟩:=Bi h;obtain⟨hc,h⟩:=Bi h;have e0:RO (a*65536+b*256+c) 0=F0 (a / 4):=by unfold RO;congr 1;simp;omega
 have e1:RO (a*65536+b*256+c) 1=F0 (a % 4*16+b / 16):=by unfold RO;congr 1;simp;omega
 have e2:RO (a*65536+b*256+c) 2=F0 (b % 16*4+c / 64):=by unfold RO;congr 1;simp;omega
 have e3:RO (a*65536+b*256+c) 3=F0 (c % 64):=by unfold RO;congr 1;simp;omega
 match m,hm with
 |0,_=>rfl
 |1,_=>simp[List.range',K6,e0]
 |2,_=>simp[List.range',K6,e0,e1]
 |3,_=>simp[List.range',K6,e0,e1,e2]
 |4,_=>simp[List.range',K6,e0,e1,e2,e3]
theorem Awf{a b:Int}(ha:0<=a/\a<=255)(hb:0<=b/\b<=255):EO .u64 (a*65536) (b*256)=a*65536+b*256:=by
 obtain⟨a,rfl⟩:=Int.eq_ofNat_of_zero_le ha.1;have:=(FH (a:=b*256) (c:=(a:Int)*65536) 16 a (by omega) (by simp;omega) (by simp) (by omega)).2
 rw[this];omega
theorem A00{y c:Int}(hy:0<=y/\y<=65535)(hc:0<=c/\c<=255):EO .u64 (y*256) c=y*256+c:=by
 obtain⟨y,rfl⟩:=Int.eq_ofNat_of_zero_le hy.1;have:=(FH (a:=c) (c:=(y:Int)*256) 8 y (by omega) (by simp;omega) (by simp) (by omega)).2
 rw[this];omega
theorem Am4{Qs:Nat}{a0:Al}{l:Am}(hB:Ct l)(hl:l.length<=100000)(Ce:10<=fu):∀(q:Nat)(r:Am)(i nn:Nat)(out:Am),l.drop i=r->i<=l.length+3->r.length<=q->q+1<=nn->out.length+4*r.length<=1000000 ->
  Df fu (Ae (CP p) prog fu d) Qs a0 nn l.length (Bk .u8 l) (Aa out) (i:Int)=some ⟨[.sc (.string (Aa (out++Eo r)))],[]⟩:=by
 intro q
 induction q with
 |zero=>
  intro r i nn out hd hi3 hq Jo ho;have hr:r=[]:=List.eq_nil_of_length_eq_zero (by omega);subst hr;obtain⟨k,rfl⟩:∃k,nn=k+1:=⟨nn-1,by omega⟩
  have hi:=drop_nil hd;have a1:=dF (q:=(i:Int)<(l.length:Int)) (by omega);rw[Fp];simp only[A2,A1,a1,Eo,List.append_nil]
 |succ q ih=>
  intro r i nn out hd hi3 hq Jo ho;obtain⟨k,rfl⟩:∃k,nn=k+1:=⟨nn-1,by omega⟩
  cases r with
  |nil=>
   have hi:=drop_nil hd;have a1:=dF (q:=(i:Int)<(l.length:Int)) (by omega);rw[Fp];simp only[A2,A1,a1,Eo,List.append_nil]
  |cons a r1=>
   obtain⟨hi,ha,RI⟩:=E0 hd;have haB:=hB a (List.mem_of_getElem? ha);have Do:=congrArg List.length hd;rw[List.length_drop] at Do;have a1:=dT (q:=(i:Int)<(l.length:Int)) (by omega);have a2:decide ((0:Int)<=(i:Int))=true:=by simp
   have a3:List.getD (Bk .u8 l) (Int.toNat (i:Int)*1) PV.top=.sc (.int .u8 a):=by rw[Kc,KJ];exact ati ha
   have a4:wrap .u64 a=a:=E9 (by omega) (by omega)
   have a5:H6 .u64 a 16=a*65536:=by
    have:=FO (a:=a) (k:=16) haB.1 (by omega) (by omega) (by simp;omega)
    rw[this];simp
   have a6:wrap .i64 ((i:Int)+1)=((i+1:Nat):Int):=by rw[Ar (by omega) (by omega)];omega
   have a7:wrap .i64 ((i:Int)+2)=((i+2:Nat):Int):=by rw[Ar (by omega) (by omega)];omega
   have b2:decide ((0:Int)<=((i+1:Nat):Int))=true:=dT (by omega);have b3:decide ((0:Int)<=((i+2:Nat):Int))=true:=dT (by omega);rw[Fp];cases r1 with
   |nil=>
    simp only[Ub,Zzh] at Do;have b1:=dF (q:=((i+1:Nat):Int)<(l.length:Int)) (by omega);have c1:=dF (q:=((i+2:Nat):Int)<(l.length:Int)) (by omega);have Xg:=Aba (fu:=fu) (d:=d) (p:=p) (Qs:=Qs) (a0:=a0) (m0:=k) (y0:=l.length) (y1:=Bk .u8 l) (i:=i) (x:=a*65536) (by omega) (by omega) hi (by omega) 2 (by omega) 2 0 fu out rfl (by omega) (by simp at ho;omega)
    have K7:=XV (a:=a) (b:=0) (c:=0) (fun x hx=>by simp at hx;rcases hx with rfl|rfl<;>omega) 2 (by omega)
    rw[show a*65536+0*256+0=a*65536 by omega] at K7;rw[K7] at Xg;have hr:=ih [] (i+3) k (out++(K6 a 0 0).take 2) (List.drop_eq_nil_of_le (by omega)) (by omega) (by simp) (by omega) (by simp[K6] at ho ⊢;omega)
    simp only[A2,A1,a1,a2,a3,a4,a5,a6,a7,b1,c1];refine Xg.trans (hr.trans ?_);simp[Eo,K6]
   |cons b r2=>
    obtain⟨hi1,hb,Lz⟩:=E0 RI;have hbB:=hB b (List.mem_of_getElem? hb);have b1:=dT (q:=((i+1:Nat):Int)<(l.length:Int)) (by omega);have b4:List.getD (Bk .u8 l) (Int.toNat ((i+1:Nat):Int)*1) PV.top=.sc (.int .u8 b):=by rw[Kc,KJ];exact ati hb
    have b5:wrap .u64 b=b:=E9 (by omega) (by omega)
    have b6:H6 .u64 b 8=b*256:=by
     have:=FO (a:=b) (k:=8) hbB.1 (by omega) (by omega) (by simp;omega)
     rw[this];simp
    have b7:=Awf haB hbB;cases r2 with
    |nil=>
     simp only[Ub,Zzh] at Do;have c1:=dF (q:=((i+2:Nat):Int)<(l.length:Int)) (by omega);have Xg:=Aba (fu:=fu) (d:=d) (p:=p) (Qs:=Qs) (a0:=a0) (m0:=k) (y0:=l.length) (y1:=Bk .u8 l) (i:=i) (x:=a*65536+b*256) (by omega) (by omega) hi (by omega) 3 (by omega) 3 0 fu out rfl (by omega) (by simp at ho;omega)
     have K7:=XV (a:=a) (b:=b) (c:=0) (fun x hx=>by simp at hx;rcases hx with rfl|rfl|rfl<;>omega) 3 (by omega)
     rw[show a*65536+b*256+0=a*65536+b*256 by omega] at K7;rw[K7] at Xg;have hr:=ih [] (i+3) k (out++(K6 a b 0).take 3) (List.drop_eq_nil_of_le (by omega)) (by omega) (by simp) (by omega) (by simp[K6] at ho ⊢;omega)
     simp only[A2,A1,a1,a2,a3,a4,a5,a6,a7,b1,b2,b4,b5,b6,b7,c1];refine Xg.trans (hr.trans ?_);simp[Eo,K6]
    |cons c t=>
     obtain⟨hi2,hc,hd3⟩:=E0 Lz;have AP:=hB c (List.mem_of_getElem? hc);simp only[Ub] at Do;have c1:=dT (q:=((i+2:Nat):Int)<(l.length:Int)) (by omega);have c2:List.getD (Bk .u8 l) (Int.toNat ((i+2:Nat):Int)*1) PV.top=.sc (.int .u8 c):=by rw[Kc,KJ];exact ati hc
     have c3:wrap .u64 c=c:=E9 (by omega) (by omega)
     have c4:EO .u64 (a*65536+b*256) c=a*65536+b*256+c:=by
      have:=A00 (y:=a*256+b) (c:=c) (by omega) AP;rw[show (a*256+b)*256=a*65536+b*256 by omega] at this;exact this
     have Xg:=Aba (fu:=fu) (d:=d) (p:=p) (Qs:=Qs) (a0:=a0) (m0:=k) (y0:=l.length) (y1:=Bk .u8 l) (i:=i) (x:=a*65536+b*256+c) (by omega) (by omega) hi (by omega) 4 (by omega) 4 0 fu out rfl (by omega) (by simp at ho;omega)
     have K7:=XV (a:=a) (b:=b) (c:=c) (fun x hx=>by simp at hx;rcases hx with rfl|rfl|rfl<;>omega) 4 (by omega)
     rw[K7] at Xg;have hr:=ih t (i+3) k (out++(K6 a b c).take 4) hd3 (by omega) (by simp at hq;omega) (by omega) (by simp[K6] at ho ⊢;omega)
     simp only[A2,A1,a1,a2,a3,a4,a5,a6,a7,b1,b2,b4,b5,b6,b7,b3,c1,c2,c3,c4];refine Xg.trans (hr.trans ?_);simp[Eo,K6]
theorem Abj{l:Am}(hB:Ct l)(hl:l.length<=100000)(Ce:10<=fu)(Xf:l.length+1<=fu):Ae (CP p) prog fu (d+1) 17 [.lst false 1 l.length (Bk .u8 l)]=some ⟨[.sc (.string (Aa (Eo l)))],[]⟩:=by
 rw[Pt];have:=Am4 (fu:=fu) (d:=d) (p:=p) (Qs:=l.length) (a0:=Bk .u8 l) hB hl Ce l.length l 0 fu [] rfl (by omega) (Cc _) Xf (by simp;omega)
 exact this
theorem Apm:∀{l:Am},Ct l->Ct (Eo l)
 |[],_=>fun x hx=>nomatch hx
 |[a],h=>by
  obtain⟨ha,_⟩:=Bi h;intro x hx;simp[Eo] at hx;rcases hx with rfl|rfl<;>apply JQ<;>omega
 |[a,b],h=>by
  obtain⟨ha,h⟩:=Bi h;obtain⟨hb,_⟩:=Bi h;intro x hx;simp[Eo] at hx;rcases hx with rfl|rfl|rfl<;>apply JQ<;>omega
 |a::b::c::r,h=>by
  obtain⟨ha,h⟩:=Bi h;obtain⟨hb,h⟩:=Bi h;obtain⟨hc,h⟩:=Bi h;intro x hx;have e:Eo (a::b::c::r)=F0 (a / 4)::F0 (a % 4*16+b / 16)::F0 (b % 16*4+c / 64)::F0 (c % 64)::Eo r:=rfl;rw[e] at hx;rcases List.mem_cons.1 hx with rfl|hx
  ·apply JQ<;>omega
  rcases List.mem_cons.1 hx with rfl|hx
  ·apply JQ<;>omega
  rcases List.mem_cons.1 hx with rfl|hx
  ·apply JQ<;>omega
  rcases List.mem_cons.1 hx with rfl|hx
  ·apply JQ<;>omega
  exact Apm h x hx
def fI(c:Int):Am->Int->Int
 |[],_=>64
 |x::r,i=>if x=c then i else fI c r (i+1)
theorem Aqg:∀n:Fin 256,fI (n.val:Int) (Eu Ow) 0=Ba (n.val:Int):=by decide +kernel
theorem ZM{call:A7}{a0 c:Int}:∀(r:Am)(i nn:Nat),(Eu Ow).drop i=r->r.length+1<=nn->i<=64 ->
  Gg fu call a0 nn c (i:Int)=some ⟨[E4 (fI c r i)],[]⟩
 |[],i,nn,hd,Jo,hi=>by
  obtain⟨k,rfl⟩:∃k,nn=k+1:=⟨nn-1,by omega⟩
  have h:=drop_nil hd;have h64:(Eu Ow).length=64:=rfl;have a1:=dF (q:=(i:Int)<64) (by omega);rw[Kd];simp only[A2,A1,a1];rfl
 |x::r,i,nn,hd,Jo,hi=>by
  obtain⟨k,rfl⟩:∃k,nn=k+1:=⟨nn-1,by omega⟩
  obtain⟨hi1,hx,RI⟩:=E0 hd;have h64:(Eu Ow).length=64:=rfl;have ih:=ZM (call:=call) (a0:=a0) (c:=c) r (i+1) k RI (by simp at Jo;omega) (by omega)
  have a1:=dT (q:=(i:Int)<64) (by omega);have a2:decide ((0:Int)<=(i:Int))=true:=by simp
  obtain⟨b,hb,rfl⟩:∃b:UInt8,(Array.toList Ow.data)[i]?=some b/\(b.toNat:Int)=x:=by
   unfold Eu at hx;rw[List.getElem?_map] at hx;obtain⟨b,hb,h⟩:=Option.map_eq_some_iff.1 hx;exact⟨b,hb,h⟩
  have a3:(Array.toList Ow.data)[Int.toNat (i:Int)]?=some b:=by rw[Kc];exact hb
  have a4:wrap .u64 (i:Int)=(i:Int):=E9 (by omega) (by omega);have a5:wrap .i64 ((i:Int)+1)=((i+1:Nat):Int):=by rw[Ar (by omega) (by omega)];omega
  have ea:(ByteArray.mk #[(65:UInt8),(66:UInt8),(67:UInt8),(68:UInt8),(69:UInt8),(70:UInt8),(71:UInt8),(72:UInt8),(73:UInt8),(74:UInt8),(75:UInt8),(76:UInt8),(77:UInt8),(78:UInt8),(79:UInt8),(80:UInt8),(81:UInt8),(82:UInt8),(83:UInt8),(84:UInt8),(85:UInt8),(86:UInt8),(87:UInt8),(88:UInt8),(89:UInt8),(90:UInt8),(97:UInt8),(98:UInt8),(99:UInt8),(100:UInt8),(101:UInt8),(102:UInt8),(103:UInt8),(104:UInt8),(105:UInt8),(106:UInt8),(107:UInt8),(108:UInt8),(109:UInt8),(110:UInt8),(111:UInt8),(112:UInt8),(113:UInt8),(114:UInt8),(115:UInt8),(116:UInt8),(117:UInt8),(118:UInt8),(119:UInt8),(120:UInt8),(121:UInt8),(122:UInt8),(48:UInt8),(49:UInt8),(50:UInt8),(51:UInt8),(52:UInt8),(53:UInt8),(54:UInt8),(55:UInt8),(56:UInt8),(57:UInt8),(45:UInt8),(95:UInt8)])=Ow:=rfl;rw[Kd,ea];by_cases hc:(b.toNat:Int)=c
  ·have q:((b.toNat:Int)==c)=true:=by simp[hc]
   have e:fI c ((b.toNat:Int)::r) i=i:=by
    show (if (b.toNat:Int)=c then (i:Int) else _)=_;rw[Bq hc]
   rw[e];simp only[A2,A1,a1,a2,a3,q,a4]
  ·have q:((b.toNat:Int)==c)=false:=by simp[hc]
   have e:fI c ((b.toNat:Int)::r) i=fI c r ((i+1:Nat):Int):=by
    show (if (b.toNat:Int)=c then (i:Int) else fI c r ((i:Int)+1))=_;rw[Bg hc];rfl
   rw[e];simp only[A2,A1,a1,a2,a3,q,a5];exact ih
theorem Arz{c:Int}(hc:0<=c/\c<=255)(Ce:100<=fu):Ae (CP p) prog fu (d+1) 54 [.sc (.int .u8 c)]=some ⟨[E4 (Ba c)],[]⟩:=by
 rw[Va];have h:=ZM (fu:=fu) (call:=Ae (CP p) prog fu d) (a0:=c) (c:=c) (Eu Ow) 0 fu rfl (by have:(Eu Ow).length=64:=rfl;omega) (by omega)
 refine h.trans ?_;obtain⟨n,rfl⟩:=Int.eq_ofNat_of_zero_le hc.1;have:=Aqg ⟨n,by omega⟩;have e:fI ((n:Nat):Int) (Eu Ow) ((0:Nat):Int)=Ba ((n:Nat):Int):=this;rw[e]
theorem XZ:∀{l:Am}{n bits:Int}{b:Am},Mw n bits l=some b->Ct b
 |[],_,_,_,h=>by cases h;exact fun x hx=>nomatch hx
 |c::r,n,bits,b,h=>by
  unfold Mw at h;split at h
  ·cases h
  split at h
  ·cases hq:Mw ((n*64+Ba c) % 65536) (bits-2) r with
   |none=>rw[hq] at h;cases h
   |some b'=>
    rw[hq] at h;cases h;intro x hx;rcases List.mem_cons.1 hx with rfl|hx
    ·omega
    ·exact XZ hq x hx
  ·exact XZ h
theorem Anm(l:Am):Ji l=match Mw 0 0 l with|none=>none|some b=>if Eo b=l then some b else none:=by
 cases hd:Ji l with
 |some b=>
  obtain⟨h1,h2⟩:=Aax hd;have h3:=ZK h2 0 (by omega);rw[h1] at h3;rw[h3];simp only[h1,if_true]
 |none=>
  cases ha:Mw 0 0 l with
  |none=>rfl
  |some b=>
   simp only;split
   ·rename_i h;have:=QB (XZ ha);rw[h,hd] at this;cases this
   ·rfl
theorem Azh{n v:Int}(hn:0<=n/\n<65536)(hv:0<=v/\v<64):EO .u64 (H6 .u64 n 6) v=n*64+v:=by
 have h:=FO (a:=n) (k:=6) hn.1 (by omega) (by omega) (by simp;omega)
 have h':H6 .u64 n 6=n*64:=by rw[h];simp
 rw[h'];obtain⟨n,rfl⟩:=Int.eq_ofNat_of_zero_le hn.1;have:=(FH (a:=v) (c:=(n:Int)*64) 6 n (by omega) (by simp;omega) (by simp) (by omega)).2
 rw[this];omega
theorem QF{a0:ByteArray}{l:Am}(hB:Ct l)(hl:l.length<=100000)(Ce:100<=fu)(Xf:l.length+1<=fu):∀(r:Am)(i nn:Nat)(n bits:Int)(acc:Am),l.drop i=r->r.length+1<=nn->0<=n->n<65536->(bits=0\/bits=2\/bits=4\/bits=6)->acc.length+r.length<=l.length->Ct acc ->
  D4 fu (Ae (CP p) prog fu (d+1)) a0 nn (Aa l) acc.length n bits (i:Int) (Bk .u8 acc)=some (match Mw n bits r with|none=>⟨[.own 1 0 [],B9 2],[]⟩|some b=>if Eo (acc++b)=l then ⟨[.own 1 (acc++b).length (Bk .u8 (acc++b)),B9 0],[]⟩ else ⟨[.own 1 0 [],B9 2],[]⟩)
 |[],i,nn,n,bits,acc,hd,Jo,h0,h1,hb,ha,haB=>by
  obtain⟨k,rfl⟩:∃k,nn=k+1:=⟨nn-1,by omega⟩
  have hi:=drop_nil hd;have a1:=dF (q:=(i:Int)<(((Aa l).size:Nat):Int)) (by rw[Ag];omega)
  have a2:decide (0+acc.length*1<=List.length (Bk .u8 acc))=true:=by rw[C3];simp
  have a2':decide (acc.length*1<=List.length (Bk .u8 acc))=true:=by rw[C3];simp
  have a3:List.take (acc.length*1) (List.drop 0 (Bk .u8 acc))=Bk .u8 acc:=FF (by rw[SL,C3];omega)
  have a3':List.take (acc.length*1) (Bk .u8 acc)=Bk .u8 acc:=FF (by rw[C3];omega)
  have e:Ae (CP p) prog fu (d+1) 17 [.lst false 1 acc.length (Bk .u8 acc)]=_:=Abj (fu:=fu) (d:=d) (p:=p) haB (by simp at ha;omega) (by omega) (by simp at ha;omega)
  rw[Hw];have e0:Mw n bits []=some []:=rfl;rw[e0];simp only[List.append_nil];by_cases hc:Eo acc=l
  ·have q:(Array.toList (Aa (Eo acc)).data==Array.toList (Aa l).data)=true:=by rw[hc];simp
   rw[Bq hc];simp only[A2,A1,a1,a2,a2',a3,a3',e,q,E1]
  ·have q:(Array.toList (Aa (Eo acc)).data==Array.toList (Aa l).data)=false:=by
    rw[Bool.eq_false_iff,ne_eq,beq_iff_eq];intro h;apply hc
    have h2:Aa (Eo acc)=Aa l:=by
     cases hx:Aa (Eo acc);cases hy:Aa l;rw[hx,hy] at h;exact congrArg ByteArray.mk (Array.toList_inj.1 h)
    have h3:=congrArg Eu h2
    rwa [Cs hB,Cs (Apm haB)] at h3
   rw[Bg hc];simp only[A2,A1,a1,a2,a2',a3,a3',e,q,F9]
 |c::r,i,nn,n,bits,acc,hd,Jo,h0,h1,hb,ha,haB=>by
  obtain⟨k,rfl⟩:∃k,nn=k+1:=⟨nn-1,by omega⟩
  obtain⟨hi,hc,RI⟩:=E0 hd;have AP:=hB c (List.mem_of_getElem? hc);have hv:=G6 c;have e:Ae (CP p) prog fu (d+1) 54 [.sc (.int .u8 c)]=_:=Arz (fu:=fu) (d:=d) (p:=p) AP Ce;have a1:=dT (q:=(i:Int)<(((Aa l).size:Nat):Int)) (by rw[Ag];omega)
  have a2:decide ((0:Int)<=(i:Int))=true:=by simp
  have a3:(Array.toList (Aa l).data)[Int.toNat (i:Int)]?=some c.toNat.toUInt8:=by
   rw[Kc];show (l.map fun n=>n.toNat.toUInt8)[i]?=_;rw[List.getElem?_map,hc];rfl
  have a4:=Je AP;have a5:wrap .i64 ((i:Int)+1)=((i+1:Nat):Int):=by rw[Ar (by omega) (by omega)];omega
  have e0:Mw n bits (c::r)=if Ba c>63 then none else if bits+6>=8 then (Mw ((n*64+Ba c) % 65536) (bits-2) r).map (((n*64+Ba c) % 65536 / 2 ^ (bits-2).toNat % 256) :: ·) else Mw ((n*64+Ba c) % 65536) (bits+6) r:=rfl
  rw[Hw,e0];by_cases hv6:Ba c>63
  ·have b1:=dT hv6;rw[Bq hv6];simp only[A2,A1,a1,a2,a3,a4,e,b1]
  ·have b1:=dF hv6;have b2:=Azh (n:=n) (v:=Ba c) ⟨h0,h1⟩ ⟨hv.1,by omega⟩;have b3:=Ad3 (x:=n*64+Ba c) (by omega) (by omega);have b4:wrap .u64 (bits+6)=bits+6:=E9 (by omega) (by omega);rw[Bg hv6];by_cases h8:bits+6>=8
   ·have b5:=dT h8;have b6:wrap .u64 (bits+6-8)=bits-2:=by rw[E9 (by omega) (by omega)];omega
    have b7:=dT (q:=(0:Int)<=bits-2) (by omega)
    have b8:S0 .u64 ((n*64+Ba c) % 65536) (bits-2)=(n*64+Ba c) % 65536 / 2 ^ (bits-2).toNat:=by
     have:=Aot (x:=(n*64+Ba c) % 65536) (k:=(bits-2).toNat) (by omega);rw[show (((bits-2).toNat:Nat):Int)=bits-2 by omega] at this;rw[this];simp
    have b9:wrap .u8 ((n*64+Ba c) % 65536 / 2 ^ (bits-2).toNat)=(n*64+Ba c) % 65536 / 2 ^ (bits-2).toNat % 256:=by
     simp only[wrap,IntKind.bits,IntKind.signed,CS,Bool.false_eq_true,if_false];rfl
    generalize hy:(n*64+Ba c) % 65536 / 2 ^ (bits-2).toNat % 256=y at b9;have hyB:0<=y/\y<=255:=by omega
    have c1:decide (acc.length*1<=List.length (Bk .u8 acc))=true:=by rw[C3];simp
    have c2:=dT (q:=(acc.length+1)*1<=1099511627776) (by simp at ha;omega)
    have c3:=dT (q:=acc.length+1<=1099511627776) (by simp at ha;omega)
    have c4:List.take (acc.length*1) (Bk .u8 acc)++[PV.sc (.int .u8 y)]=Bk .u8 (acc++[y]):=by
     rw[FF (by rw[C3];omega)]
     exact UK .u8 acc y
    have ih:=QF (a0:=a0) hB hl Ce Xf r (i+1) k ((n*64+Ba c) % 65536) (bits-2) (acc++[y]) RI (by simp at Jo;omega) (by omega) (by omega) (by omega) (by simp at ha ⊢;omega) (Js haB (fun x hx=>by simp at hx;omega))
    rw[show (acc++[y]).length=acc.length+1 by simp] at ih;rw[Bq h8];simp only[A2,A1,a1,a2,a3,a4,e,b1,b2,b3,b4,b5,b6,b7,b8,b9,c1,c2,c3,c4,a5];refine ih.trans ?_;cases Mw ((n*64+Ba c) % 65536) (bits-2) r with
    |none=>rfl
    |some b=>simp
   ·have b5:=dF h8;have ih:=QF (a0:=a0) hB hl Ce Xf r (i+1) k ((n*64+Ba c) % 65536) (bits+6) acc RI (by simp at Jo;omega) (by omega) (by omega) (by omega) (by simp at ha ⊢;omega) haB
    rw[Bg h8];simp only[A2,A1,a1,a2,a3,a4,e,b1,b2,b3,b4,b5,a5];exact ih
theorem Ang{l:Am}(hB:Ct l)(hl:l.length<=100000)(Ce:100<=fu)(Xf:l.length+1<=fu):Ae (CP p) prog fu (d+2) 33 [.sc (.string (Aa l))]=some (match Ji l with|none=>⟨[.own 1 0 [],B9 2],[]⟩|some b=>⟨[.own 1 b.length (Bk .u8 b),B9 0],[]⟩):=by
 rw[Pw];have h:=QF (fu:=fu) (d:=d) (p:=p) (a0:=Aa l) hB hl Ce Xf l 0 fu 0 0 [] rfl Xf (by omega) (by omega) (.inl rfl) (by simp) (fun x hx=>nomatch hx);refine h.trans ?_;rw[Anm];cases Mw 0 0 l with
 |none=>rfl
 |some b=>
  simp only[Zzq];split<;>rfl
end
def awT:Am:=[123,34,116,121,112,101,34,58,34,112,97,115,115,107,101,121,46,103,101,116,34,44,34,99,104,97,108,108,101,110,103,101,34,58,34,45,95,56,34,44,34,111,114,105,103,105,110,34,58,34,104,116,116,112,115,58,47,47,97,46,98,34,44,34,99,114,111,115,115,79,114,105,103,105,110,34,58,102,97,108,115,101,125]
def awO:Am:=[104,116,116,112,115,58,47,47,97,46,98]
theorem Alp:Fc awO=0:=by decide +kernel
theorem Ab0:Jq (Aa awT)=.ok (2,[251,255],awO,false,[]):=by kernel_rfl
section
variable {fu d:Nat}
theorem ZU(Ce:200<=fu):Ae C1 prog fu (d+9) 4 []=some ⟨[.sc (.bool true)],[]⟩:=by
 obtain⟨o1,o2,o3,ho⟩:=Apc (fu:=fu) (d:=d) (p:=some Dq) (l:=awO) (fun x hx=>by simp[awO] at hx;omega) (by decide) Ce
 rw[Alp] at ho;have h32:Ae C1 prog fu (d+7) 23 [.sc (.string (ByteArray.mk #[(104:UInt8),(116:UInt8),(116:UInt8),(112:UInt8),(115:UInt8),(58:UInt8),(47:UInt8),(47:UInt8),(97:UInt8),(46:UInt8),(98:UInt8)]))]=_:=ho;have h12:Ae C1 prog fu (d+7) 24 [.lst false 1 2 [.sc (.int .u8 251),.sc (.int .u8 255)]]=some ⟨[.sc (.string (Aa [45,95,56]))],[]⟩:=by kernel_rfl
 have h18:Ae C1 prog fu (d+8) 11 [.agg [B9 2,.lst false 1 2 [.sc (.int .u8 251),.sc (.int .u8 255)],.sc (.string (ByteArray.mk #[(104:UInt8),(116:UInt8),(116:UInt8),(112:UInt8),(115:UInt8),(58:UInt8),(47:UInt8),(47:UInt8),(97:UInt8),(46:UInt8),(98:UInt8)])),.sc (.bool false),.sc (.string (ByteArray.mk #[]))]]=some ⟨[.sc (.string (Aa awT)),B9 0],[]⟩:=by
  refine (Wk (p:=some Dq) fu (d+7) _ _ _ _ _ _).trans ?_;have a1:((2:Int)==1)=false:=rfl;have a2:((2:Int)==2)=true:=rfl;have a3:decide (((2:Nat):Int)<1)=false:=rfl;have a4:decide (((2:Nat):Int)>64)=false:=rfl;have a5:((0:Int) != 0)=false:=rfl;have a6:(!Array.toList (ByteArray.mk #[]).data==Array.toList (ByteArray.mk #[]).data)=false:=rfl;simp only[A2,A1,a1,a2,a3,a4,a5,a6,h32,h12,F9];show _=some (Bz.mk [.sc (.string (Aa awT)),B9 0] [])
  first|kernel_rfl|rfl
 have h19:Ae C1 prog fu (d+8) 12 [.sc (.string (Aa awT))]=some ⟨[.agg [B9 2,.lst false 1 2 [.sc (.int .u8 251),.sc (.int .u8 255)],.sc (.string (Aa awO)),.sc (.bool false),.sc (.string (Aa []))],B9 0],[]⟩:=by
  have e:Ae C1 prog fu (d+8) 12 [.sc (.string (Aa awT))]=Dq [.sc (.string (Aa awT))]:=rfl;rw[e];unfold Dq;have hs:decide ((Aa awT).size<=9223372036854775807)=true:=rfl;simp only[hs,cond_true,Ab0];rfl
 have h20:Ae C1 prog fu (d+8) 13 [.agg [B9 2,.lst false 1 2 [.sc (.int .u8 251),.sc (.int .u8 255)],.sc (.string (ByteArray.mk #[(104:UInt8),(116:UInt8),(116:UInt8),(112:UInt8),(115:UInt8),(58:UInt8),(47:UInt8),(47:UInt8),(97:UInt8),(46:UInt8),(98:UInt8)])),.sc (.bool false),.sc (.string (ByteArray.mk #[]))],.agg [B9 2,.lst false 1 2 [.sc (.int .u8 251),.sc (.int .u8 255)],.sc (.string (Aa awO)),.sc (.bool false),.sc (.string (Aa []))]]=some ⟨[.sc (.bool true)],[]⟩:=
  (J4 (p:=some Dq) fu (d+7) _ _ _ _ _ _ _ _ _ _ _ _).trans (by kernel_rfl)
 refine (Ug (p:=some Dq) fu (d+8)).trans ?_;have b1:((0:Int)==0)=true:=rfl
 have b2:(Array.toList (Aa awT).data==Array.toList (ByteArray.mk (List.toArray (List.append [(123:UInt8),(34:UInt8),(116:UInt8),(121:UInt8),(112:UInt8),(101:UInt8),(34:UInt8),(58:UInt8),(34:UInt8),(112:UInt8),(97:UInt8),(115:UInt8),(115:UInt8),(107:UInt8),(101:UInt8),(121:UInt8),(46:UInt8),(103:UInt8),(101:UInt8),(116:UInt8),(34:UInt8),(44:UInt8),(34:UInt8),(99:UInt8),(104:UInt8),(97:UInt8),(108:UInt8),(108:UInt8),(101:UInt8),(110:UInt8),(103:UInt8),(101:UInt8),(34:UInt8),(58:UInt8),(34:UInt8),(45:UInt8),(95:UInt8),(56:UInt8),(34:UInt8),(44:UInt8),(34:UInt8)] [(111:UInt8),(114:UInt8),(105:UInt8),(103:UInt8),(105:UInt8),(110:UInt8),(34:UInt8),(58:UInt8),(34:UInt8),(104:UInt8),(116:UInt8),(116:UInt8),(112:UInt8),(115:UInt8),(58:UInt8),(47:UInt8),(47:UInt8),(97:UInt8),(46:UInt8),(98:UInt8),(34:UInt8),(44:UInt8),(34:UInt8),(99:UInt8),(114:UInt8),(111:UInt8),(115:UInt8),(115:UInt8),(79:UInt8),(114:UInt8),(105:UInt8),(103:UInt8),(105:UInt8),(110:UInt8),(34:UInt8),(58:UInt8),(102:UInt8),(97:UInt8),(108:UInt8),(115:UInt8),(101:UInt8),(125:UInt8)]))).data)=true:=by kernel_rfl
 have b3:decide (0+2*1<=List.length [PV.sc (.int .u8 251),PV.sc (.int .u8 255)])=true:=rfl;have b4:List.take (2*1) (List.drop 0 [PV.sc (.int .u8 251),PV.sc (.int .u8 255)])=[PV.sc (.int .u8 251),PV.sc (.int .u8 255)]:=rfl;simp only[A2,A1,h18,h19,b1,b2,b3,b4,h20]
end
section
variable {xs:FuncId->Option (Al->Option Bz)}(fu d:Nat)(call:A7)
theorem Y3{p:Option (Al->Option Bz)}(fu d Z:Nat)(Y:Al):Ae (CP p) prog fu (d+1) 5 [Ed 1 Z Y]=(fun (call:A7)=>Cg [.pbox [Ed 1 Z Y,(0:Int)]]) (Ae (CP p) prog fu d):=by kernel_rfl
theorem Z6{p:Option (Al->Option Bz)}(fu d:Nat)(Z Y:Int):Ae (CP p) prog fu (d+1) 14 [Z,Y]=(fun (call:A7)=>Ab (wrap .u64 Z) fun a=>Ab (wrap .u64 Y) fun b=>A6 (decide (b≠0))<|Ab (Int.tmod a b) fun a=>Ab (wrap .i64 a) fun a=>Cg [a]) (Ae (CP p) prog fu d):=by kernel_rfl
theorem Ka{p:Option (Al->Option Bz)}(fu d Z:Nat)(Y:Al)(X W:Int):Ae (CP p) prog fu (d+1) 6 [.pbox [Ed 1 Z Y,X],W]=(fun (call:A7)=>As (decide (X>=(↑Z:Int))) (some ⟨[(0:Int)],[[Ed 1 Z Y,X]]⟩) (Ab (wrap .i64 (X+1)) fun a=>Ab (wrap .i64 (a-1)) fun b=>A6 (decide (0<=b)&&decide (b<(↑Z:Int)))<|Eh .i64 (Y.getD (b.toNat*1) .top) fun b=>Z1 .i64 (call 14 [b,W]) fun b=>some ⟨[b],[[Ed 1 Z Y,a]]⟩)) (Ae (CP p) prog fu d):=by kernel_rfl
theorem Qz{p:Option (Al->Option Bz)}(fu d:Nat)(Z:Int):Ae (CP p) prog fu (d+1) 20 [Z]=(fun (call:A7)=>Z1 .i64 (call 14 [Z,(6:Int)]) fun a=>A6 (decide (0<=a)&&decide (a<6))<|Ai (List.getD [.sc (.string (ByteArray.mk #[104,116,116,112,115,58,47,47,101,120,97,109,112,108,101,46,99,111,109])),.sc (.string (ByteArray.mk #[104,116,116,112,115,58,47,47,108,111,103,105,110,46,101,120,97,109,112,108,101,46,99,111,109])),.sc (.string (ByteArray.mk #[104,116,116,112,115,58,47,47,101,118,105,108,46,116,101,115,116])),.sc (.string (ByteArray.mk #[104,116,116,112,58,47,47,108,111,99,97,108,104,111,115,116,58,56,48,56,48])),.sc (.string (ByteArray.mk #[104,116,116,112,115,58,47,47,98,46,99,111,46,117,107])),.sc (.string (ByteArray.mk #[104,116,116,112,58,47,47,101,120,97,109,112,108,101,46,99,111,109]))] (0+a.toNat*1) .top) fun a=>Cg [.sc (.string a)]) (Ae (CP p) prog fu d):=by kernel_rfl
theorem Yg{p:Option (Al->Option Bz)}(fu d:Nat)(Z:Int):Ae (CP p) prog fu (d+1) 21 [Z]=(fun (call:A7)=>Z1 .i64 (call 14 [Z,(28:Int)]) fun a=>A6 (decide (0<=a)&&decide (a<28))<|Ai (List.getD [.sc (.string (ByteArray.mk #[101,120,97,109,112,108,101,46,99,111,109])),.sc (.string (ByteArray.mk #[108,111,103,105,110,46,101,120,97,109,112,108,101,46,99,111,109])),.sc (.string (ByteArray.mk #[97,46,98,46,99,111,46,117,107])),.sc (.string (ByteArray.mk #[98,46,99,111,46,117,107])),.sc (.string (ByteArray.mk #[99,111,46,117,107])),.sc (.string (ByteArray.mk #[117,107])),.sc (.string (ByteArray.mk #[120,46,121,46,99,107])),.sc (.string (ByteArray.mk #[119,119,119,46,99,107])),.sc (.string (ByteArray.mk #[99,107])),.sc (.string (ByteArray.mk #[108,111,99,97,108,104,111,115,116])),.sc (.string (ByteArray.mk #[101,118,105,108,46,116,101,115,116])),.sc (.string (ByteArray.mk #[101,120,97,109,112,108,101,46,99,111,109,46,101,118,105,108,46,116,101,115,116])),.sc (.string (ByteArray.mk #[97,46,108,111,103,105,110,46,101,120,97,109,112,108,101,46,99,111,109])),.sc (.string (ByteArray.mk #[120,97,109,112,108,101,46,99,111,109])),.sc (.string (ByteArray.mk #[121,46,99,107])),.sc (.string (ByteArray.mk #[122,46,120,46,121,46,99,107])),.sc (.string (ByteArray.mk #[103,105,116,104,117,98,46,105,111])),.sc (.string (ByteArray.mk #[109,101,46,103,105,116,104,117,98,46,105,111])),.sc (.string (ByteArray.mk #[121,111,117,46,103,105,116,104,117,98,46,105,111])),.sc (.string (ByteArray.mk #[105,111])),.sc (.string (ByteArray.mk #[49,46,50,46,51,46,52])),.sc (.string (ByteArray.mk #[])),.sc (.string (ByteArray.mk #[97,46,46,98])),.sc (.string (ByteArray.mk #[69,120,97,109,112,108,101,46,99,111,109])),.sc (.string (ByteArray.mk #[45,97,46,99,111,109])),.sc (.string (ByteArray.mk #[97,46,99,111,109,46])),.sc (.string (ByteArray.mk #[97,45,98,46,99,49])),.sc (.string (ByteArray.mk #[99,49]))] (0+a.toNat*1) .top) fun a=>Cg [.sc (.string a)]) (Ae (CP p) prog fu d):=by kernel_rfl
theorem Me{p:Option (Al->Option Bz)}(fu d Z:Nat)(Y:Al)(X:Int):Ae (CP p) prog fu (d+1) 9 [.pbox [Ed 1 Z Y,X]]=(fun (call:A7)=>Ah (call 6 [.pbox [Ed 1 Z Y,X],(6:Int)]) fun a b=>Au .i64 a fun a=>Ac b fun b c=>K2 1 b fun b e f=>Au .i64 f fun f=>Af c<|A6 (decide (0<=a)&&decide (a<6))<|Eh .i64 (List.getD [(1:Int),(2:Int),(2:Int),(1:Int),(0:Int),(3:Int)] (0+a.toNat*1) .top) fun a=>Ah (call 6 [.pbox [Ed 1 b e,f],(9:Int)]) fun b c=>Au .i64 b fun b=>Ac c fun c e=>K2 1 c fun c f g=>Au .i64 g fun g=>Af e<|Ah (call 6 [.pbox [Ed 1 c f,g],(7:Int)]) fun c e=>Au .i64 c fun c=>Ac e fun e f=>K2 1 e fun e g h=>Au .i64 h fun h=>Af f<|A6 (decide (0<=c)&&decide (c<7))<|Eh .i64 (List.getD [(16:Int),(1:Int),(64:Int),(2:Int),(3:Int),(0:Int),(65:Int)] (0+c.toNat*1) .top) fun c=>Fv (call 19 [b,c]) fun b c=>FJ 1 b fun b f=>Af c<|Ah (call 6 [.pbox [Ed 1 e g,h],(6:Int)]) fun c e=>Au .i64 c fun c=>Ac e fun e g=>K2 1 e fun e h i=>Au .i64 i fun i=>Af g<|Fv (call 20 [c]) fun c g=>Ai c fun c=>Af g<|Ah (call 6 [.pbox [Ed 1 e h,i],(3:Int)]) fun e g=>Au .i64 e fun e=>Ac g fun g h=>K2 1 g fun g i j=>Au .i64 j fun j=>Af h<|As (e==2) (Ah (call 6 [.pbox [Ed 1 g i,j],(6:Int)]) fun e g=>Au .i64 e fun e=>Ac g fun g h=>K2 1 g fun g i j=>Au .i64 j fun j=>Af h<|Fv (call 20 [e]) fun e h=>Ai e fun e=>Af h<|Ah (call 6 [.pbox [Ed 1 g i,j],(12:Int)]) fun g h=>Au .i64 g fun g=>Ac h fun h i=>K2 1 h fun h j k=>Au .i64 k fun k=>Af i<|As (g==10) (Ah (call 6 [.pbox [Ed 1 h j,k],(28:Int)]) fun c g=>Au .i64 c fun c=>Ac g fun g h=>K2 1 g fun g i j=>Au .i64 j fun j=>Af h<|Fv (call 21 [c]) fun c h=>Ai c fun c=>Af h<|A6 (decide (8+ByteArray.size c<=9223372036854775807))<|Ab (ByteArray.mk #[104,116,116,112,115,58,47,47]++c) fun c=>A6 (decide (ByteArray.size c+1<=9223372036854775807))<|Ab (c++ByteArray.mk #[47]) fun c=>A6 (decide (b*1<=f.length))<|some ⟨[.agg [a,.own 1 b (f.take (b*1)),.sc (.string c),.sc (.bool true),.sc (.string e)]],[[Ed 1 g i,j]]⟩) (As (g==11) (Ah (call 6 [.pbox [Ed 1 h j,k],(6:Int)]) fun e g=>Au .i64 e fun e=>Ac g fun g h=>K2 1 g fun g i j=>Au .i64 j fun j=>Af h<|Fv (call 20 [e]) fun e h=>Ai e fun e=>Af h<|A6 (decide (b*1<=f.length))<|some ⟨[.agg [a,.own 1 b (f.take (b*1)),.sc (.string c),.sc (.bool true),.sc (.string e)]],[[Ed 1 g i,j]]⟩) (A6 (decide (b*1<=f.length))<|some ⟨[.agg [a,.own 1 b (f.take (b*1)),.sc (.string c),.sc (.bool true),.sc (.string e)]],[[Ed 1 h j,k]]⟩))) (Ah (call 6 [.pbox [Ed 1 g i,j],(12:Int)]) fun e g=>Au .i64 e fun e=>Ac g fun g h=>K2 1 g fun g i j=>Au .i64 j fun j=>Af h<|As (e==10) (Ah (call 6 [.pbox [Ed 1 g i,j],(28:Int)]) fun c e=>Au .i64 c fun c=>Ac e fun e g=>K2 1 e fun e h i=>Au .i64 i fun i=>Af g<|Fv (call 21 [c]) fun c g=>Ai c fun c=>Af g<|A6 (decide (8+ByteArray.size c<=9223372036854775807))<|Ab (ByteArray.mk #[104,116,116,112,115,58,47,47]++c) fun c=>A6 (decide (ByteArray.size c+1<=9223372036854775807))<|Ab (c++ByteArray.mk #[47]) fun c=>A6 (decide (b*1<=f.length))<|some ⟨[.agg [a,.own 1 b (f.take (b*1)),.sc (.string c),.sc (.bool false),.sc (.string (ByteArray.mk #[]))]],[[Ed 1 e h,i]]⟩) (As (e==11) (Ah (call 6 [.pbox [Ed 1 g i,j],(6:Int)]) fun e g=>Au .i64 e fun e=>Ac g fun g h=>K2 1 g fun g i j=>Au .i64 j fun j=>Af h<|Fv (call 20 [e]) fun e h=>Ai e fun e=>Af h<|A6 (decide (b*1<=f.length))<|some ⟨[.agg [a,.own 1 b (f.take (b*1)),.sc (.string c),.sc (.bool false),.sc (.string e)]],[[Ed 1 g i,j]]⟩) (A6 (decide (b*1<=f.length))<|some ⟨[.agg [a,.own 1 b (f.take (b*1)),.sc (.string c),.sc (.bool false),.sc (.string (ByteArray.mk #[]))]],[[Ed 1 g i,j]]⟩)))) (Ae (CP p) prog fu d):=by kernel_rfl
end
abbrev L9(l:Am)(a:Nat):Al:=[.lst false 1 l.length (Bk .i64 l),B9 (a:Int)]
section
variable {fu d:Nat}{p:Option (Al->Option Bz)}
theorem A1i{l:Am}:Ae (CP p) prog fu (d+1) 5 [.lst false 1 l.length (Bk .i64 l)]=some ⟨[.pbox (L9 l 0)],[]⟩:=by rw[Y3];rfl
theorem Ahj(v n:Int)(hn:0<n)(hm:n<=9223372036854775807):∃r,0<=r/\r<n/\∀{fu d:Nat}{p:Option (Al->Option Bz)},Ae (CP p) prog fu (d+1) 14 [B9 v,B9 n]=some ⟨[B9 r],[]⟩:=by have h1:=HJ v;have h2:wrap .u64 n=n:=E9 (by omega) (by omega);have h3:0<=Int.tmod (wrap .u64 v) n:=Int.tmod_nonneg _ h1.1;have h4:Int.tmod (wrap .u64 v) n<n:=Int.tmod_lt_of_pos _ hn;refine⟨_,h3,h4,fun {fu d p}=>?_⟩;rw[Z6];simp only[Pg,h2];rw[QI _ _ (by omega),Ar (by omega) (by omega)]
theorem Hb{l:Am}(hl:l.length<=maxLen)(a:Nat)(n:Int)(hn:0<n)(hm:n<=9223372036854775807):∃(v:Int)(a':Nat),0<=v/\v<n /\
  ∀{fu d:Nat} {p:Option (Al->Option Bz)},Ae (CP p) prog fu (d+2) 6 [.pbox (L9 l a),B9 n]=some ⟨[B9 v],[L9 l a']⟩:=by
 simp only[maxLen] at hl;by_cases h:a<l.length
 ·obtain⟨r,h1,h2,h3⟩:=Ahj l[a] n hn hm;refine⟨r,a+1,h1,h2,fun {fu d p}=>?_⟩;rw[Ka]
  have hg:(Bk .i64 l).getD (Int.toNat ((a:Int)+1-1)*1) .top=B9 l[a]:=by
   have:=ati (k:=.i64) (List.getElem?_eq_getElem h);rw[show Int.toNat ((a:Int)+1-1)*1=a by omega];exact this
  simp(disch:=omega)only[A2,A1,Ar,hg,h3];rfl
 ·refine⟨0,a,by omega,hn,fun {fu d p}=>?_⟩;rw[Ka];simp(disch:=omega)only[A2,A1]
end
section
variable {fu d:Nat}{p:Option (Al->Option Bz)}
theorem Ahi(l:List UInt8):(l==l)=true:=by simp
end
section
variable {fu:Nat}
end
section
variable {xs:FuncId->Option (Al->Option Bz)}(fu d:Nat)(call:A7)
theorem La{p:Option (Al->Option Bz)}(fu d:Nat)(Z:Bool):Ae (CP p) prog fu (d+1) 55 [.sc (.bool Z)]=(fun (call:A7)=>As Z (Cg [.sc (.string (ByteArray.mk #[104,116,116,112,115,58,47,47]))]) (Cg [.sc (.string (ByteArray.mk #[104,116,116,112,58,47,47]))])) (Ae (CP p) prog fu d):=by kernel_rfl
theorem Ov{p:Option (Al->Option Bz)}(fu d:Nat)(Z:Bool):Ae (CP p) prog fu (d+1) 57 [.sc (.bool Z)]=(fun (call:A7)=>As Z (Cg [(443:Int)]) (Cg [(80:Int)])) (Ae (CP p) prog fu d):=by kernel_rfl
def Gp(Z:ByteArray)(Y:Bool)(X:Nat)(W:ByteArray)(V:Bool)(U T:Int):Option Bz:=Ri fu call 58 Tryz.f58 [.sc (.string Z),.sc (.bool Y)] [.r,.r,.r,.l,.r,.l] X ⟨lk [(0,.sc (.string W)),(1,.sc (.bool V)),(6,U),(7,T)],H4 []⟩
theorem Ks(V:ByteArray)(U:Bool)(T:Nat)(X:ByteArray)(W:Bool)(Y Z:Int):Gp fu call V U (T+1) X W Y Z=(As (decide (Z<(↑(ByteArray.size X):Int))) (A6 (decide (0<=Z))<|Dk ((Array.toList (ByteArray.data X))[Z.toNat]?) fun a=>Fv (call 76 [.sc (.int .u8 (↑(UInt8.toNat a):Int))]) fun a b=>Cb a fun a=>Af b<|As (!a) (Cg [(0:Int),.sc (.bool false)]) (Ab (wrap .i64 (10*Y)) fun a=>A6 (decide (0<=Z))<|Dk ((Array.toList (ByteArray.data X))[Z.toNat]?) fun b=>Ab (wrap .u8 ((↑(UInt8.toNat b):Int)-48)) fun b=>Ab (wrap .i64 b) fun b=>Ab (wrap .i64 (a+b)) fun a=>Ab (wrap .i64 (Z+1)) fun b=>Gp fu call V U T X W a b)) (As (decide (Y<=65535)) (Z1 .i64 (call 57 [.sc (.bool W)]) fun a=>Cg [Y,.sc (.bool (Y != a))]) (Cg [Y,.sc (.bool false)]))):=by kernel_rfl
theorem Xa{p:Option (Al->Option Bz)}(fu d:Nat)(Z:ByteArray)(Y:Bool):Ae (CP p) prog fu (d+1) 58 [.sc (.string Z),.sc (.bool Y)]=(fun (call:A7)=>As (decide ((↑(ByteArray.size Z):Int)<1)) (Cg [(0:Int),.sc (.bool false)]) (As (decide ((↑(ByteArray.size Z):Int)>5)) (Cg [(0:Int),.sc (.bool false)]) (Dk ((Array.toList (ByteArray.data Z))[0]?) fun a=>As ((↑(UInt8.toNat a):Int)==48) (Cg [(0:Int),.sc (.bool false)]) (Gp fu call Z Y fu Z Y 0 0)))) (Ae (CP p) prog fu d):=by kernel_rfl
def Fa(Z:ByteArray)(Y:Int)(X:Nat)(W:ByteArray)(V:Int)(U:Nat)(T S:Int)(Q:Al):Option Bz:=Ri fu call 74 Tryz.f74 [.sc (.string Z),.sc (.int .u8 Y)] [.r,.r,.r,.l,.r,.l] X ⟨lk [(0,.sc (.string W)),(1,.sc (.int .u8 V)),(5,.view 5 1 0 U),(6,T),(7,S)],H4 [(5,.ar false Q)]⟩
theorem J6(T:ByteArray)(S:Int)(Q:Nat)(Z:ByteArray)(W:Int)(V:Nat)(X Y:Int)(U:Al):Fa fu call T S (Q+1) Z W V X Y U=(As (decide (Y<(↑(ByteArray.size Z):Int))) (A6 (decide (0<=Y))<|Dk ((Array.toList (ByteArray.data Z))[Y.toNat]?) fun a=>As ((↑(UInt8.toNat a):Int)==W) (A6 (decide (0<=X))<|A6 (decide (0<=Y))<|A6 (decide (X.toNat<=Y.toNat)&&decide (Y.toNat<=ByteArray.size Z))<|Ab (ByteArray.extract Z X.toNat Y.toNat) fun a=>ZzA V 1 16 U [.sc (.string a)] fun a b=>Ab (wrap .i64 (Y+1)) fun c=>Ab (wrap .i64 (Y+1)) fun e=>Fa fu call T S Q Z W a c e b) (Ab (wrap .i64 (Y+1)) fun a=>Fa fu call T S Q Z W V X a U)) (A6 (decide (0<=X))<|A6 (decide (X.toNat<=ByteArray.size Z)&&decide (ByteArray.size Z<=ByteArray.size Z))<|Ab (ByteArray.extract Z X.toNat (ByteArray.size Z)) fun a=>ZzA V 1 16 U [.sc (.string a)] fun a b=>A6 (decide (a*1<=b.length))<|Cg [.own 1 a (b.take (a*1))])):=by kernel_rfl
theorem Vb{p:Option (Al->Option Bz)}(fu d:Nat)(Z:ByteArray)(Y:Int):Ae (CP p) prog fu (d+1) 74 [.sc (.string Z),.sc (.int .u8 Y)]=(fun (call:A7)=>Fa fu call Z Y fu Z Y 0 0 0 ([])) (Ae (CP p) prog fu d):=by kernel_rfl
theorem Vg{p:Option (Al->Option Bz)}(fu d:Nat)(Z:Int):Ae (CP p) prog fu (d+1) 76 [.sc (.int .u8 Z)]=(fun (call:A7)=>As (decide (Z>=48)) (Cg [.sc (.bool (decide (Z<=57)))]) (Cg [.sc (.bool false)])) (Ae (CP p) prog fu d):=by kernel_rfl
def Ld(Z:ByteArray)(Y:Nat)(X:ByteArray):Option Bz:=Ri fu call 75 Tryz.f75 [.sc (.string Z)] [.r] Y ⟨lk [(0,.sc (.string X))],H4 []⟩
def Dc(Z:ByteArray)(Y:Nat)(X:ByteArray)(W:Int):Option Bz:=Ri fu call 75 Tryz.f75 [.sc (.string Z)] [.r,.r,.l,.r,.l] Y ⟨lk [(0,.sc (.string X)),(3,W)],H4 []⟩
theorem Ru(Y:ByteArray)(Z:Nat)(Jo:0<Z)(X:ByteArray):Ld fu call Y Z X=(Dc fu call Y fu X 0):=by cases Z with|zero=>exact absurd Jo (Nat.lt_irrefl 0)|succ Z=>kernel_rfl
theorem Kb(X:ByteArray)(W:Nat)(Y:ByteArray)(Z:Int):Dc fu call X (W+1) Y Z=(As (decide (Z<(↑(ByteArray.size Y):Int))) (A6 (decide (0<=Z))<|Dk ((Array.toList (ByteArray.data Y))[Z.toNat]?) fun a=>As (decide ((↑(UInt8.toNat a):Int)>=97)) (A6 (decide (0<=Z))<|Dk ((Array.toList (ByteArray.data Y))[Z.toNat]?) fun a=>As (!decide ((↑(UInt8.toNat a):Int)<=122)) (A6 (decide (0<=Z))<|Dk ((Array.toList (ByteArray.data Y))[Z.toNat]?) fun a=>Fv (call 76 [.sc (.int .u8 (↑(UInt8.toNat a):Int))]) fun a b=>Cb a fun a=>Af b<|As (!a) (A6 (decide (0<=Z))<|Dk ((Array.toList (ByteArray.data Y))[Z.toNat]?) fun a=>As ((↑(UInt8.toNat a):Int) != 45) (Cg [.sc (.bool false)]) (Ab (wrap .i64 (Z+1)) fun a=>Dc fu call X W Y a)) (Ab (wrap .i64 (Z+1)) fun a=>Dc fu call X W Y a)) (Ab (wrap .i64 (Z+1)) fun a=>Dc fu call X W Y a)) (A6 (decide (0<=Z))<|Dk ((Array.toList (ByteArray.data Y))[Z.toNat]?) fun a=>Fv (call 76 [.sc (.int .u8 (↑(UInt8.toNat a):Int))]) fun a b=>Cb a fun a=>Af b<|As (!a) (A6 (decide (0<=Z))<|Dk ((Array.toList (ByteArray.data Y))[Z.toNat]?) fun a=>As ((↑(UInt8.toNat a):Int) != 45) (Cg [.sc (.bool false)]) (Ab (wrap .i64 (Z+1)) fun a=>Dc fu call X W Y a)) (Ab (wrap .i64 (Z+1)) fun a=>Dc fu call X W Y a))) (Cg [.sc (.bool true)])):=by kernel_rfl
theorem Vo{p:Option (Al->Option Bz)}(fu d:Nat)(Z:ByteArray):Ae (CP p) prog fu (d+1) 75 [.sc (.string Z)]=(fun (call:A7)=>As (decide ((↑(ByteArray.size Z):Int)<1)) (Cg [.sc (.bool false)]) (As (decide ((↑(ByteArray.size Z):Int)>63)) (Cg [.sc (.bool false)]) (Dk ((Array.toList (ByteArray.data Z))[0]?) fun a=>As ((↑(UInt8.toNat a):Int)==45) (Cg [.sc (.bool false)]) (Ab (wrap .i64 ((↑(ByteArray.size Z):Int)-1)) fun a=>A6 (decide (0<=a))<|Dk ((Array.toList (ByteArray.data Z))[a.toNat]?) fun a=>As ((↑(UInt8.toNat a):Int)==45) (Cg [.sc (.bool false)]) (Ld fu call Z fu Z))))) (Ae (CP p) prog fu d):=by kernel_rfl
def Fj(Z:ByteArray)(Y X:Nat)(W:Int)(V:Al):Option Bz:=Ri fu call 56 Tryz.f56 [.sc (.string Z)] [.r,.r,.r,.l,.r,.l] Y ⟨lk [(3,.view 3 1 0 X),(4,W)],H4 [(3,.ar false V)]⟩
def Fi(Z:ByteArray)(Y:Nat)(X:ByteArray)(W:Int):Option Bz:=Ri fu call 56 Tryz.f56 [.sc (.string Z)] [.r,.r,.r,.r,.r,.l,.r,.l] Y ⟨lk [(5,.sc (.string X)),(6,W)],H4 []⟩
theorem Io(W:ByteArray)(V Z:Nat)(Y:Int)(X:Al):Fj fu call W (V+1) Z Y X=(As (decide (Y<(↑Z:Int))) (A6 (decide (0<=Y)&&decide (Y<(↑Z:Int)))<|Ai (X.getD (0+Y.toNat*1) .top) fun a=>Fv (call 75 [.sc (.string a)]) fun a b=>Cb a fun a=>Af b<|As (!a) (Cg [(2:Int)]) (Ab (wrap .i64 (Y+1)) fun a=>Fj fu call W V Z a X)) (Ab (wrap .i64 ((↑Z:Int)-1)) fun a=>A6 (decide (0<=a)&&decide (a<(↑Z:Int)))<|Ai (X.getD (0+a.toNat*1) .top) fun a=>Fi fu call W fu a 0)):=by kernel_rfl
theorem Ij(X:ByteArray)(W:Nat)(Y:ByteArray)(Z:Int):Fi fu call X (W+1) Y Z=(As (decide (Z<(↑(ByteArray.size Y):Int))) (A6 (decide (0<=Z))<|Dk ((Array.toList (ByteArray.data Y))[Z.toNat]?) fun a=>Fv (call 76 [.sc (.int .u8 (↑(UInt8.toNat a):Int))]) fun a b=>Cb a fun a=>Af b<|As (!a) (Cg [(0:Int)]) (Ab (wrap .i64 (Z+1)) fun a=>Fi fu call X W Y a)) (Cg [(2:Int)])):=by kernel_rfl
theorem Sd{p:Option (Al->Option Bz)}(fu d:Nat)(Z:ByteArray):Ae (CP p) prog fu (d+1) 56 [.sc (.string Z)]=(fun (call:A7)=>As (decide ((↑(ByteArray.size Z):Int)>100)) (Cg [(8:Int)]) (Fv (call 74 [.sc (.string Z),.sc (.int .u8 46)]) fun a b=>FJ 1 a fun a c=>Af b<|Fj fu call Z fu a 0 c)) (Ae (CP p) prog fu d):=by kernel_rfl
def Bv(Z:ByteArray)(Y:Nat)(X:ByteArray)(W V:Int)(U:Bool)(T:ByteArray)(S:Int)(Q:Bool)(P:ByteArray)(O:Int):Option Bz:=Ri fu call 34 Tryz.f34 [.sc (.string Z)] [.r,.r,.r,.r,.r,.r,.l,.r,.l] Y ⟨lk [(2,.ptr 2 0),(4,.ptr 4 0),(6,.sc (.string X)),(7,W),(8,V)],H4 [(2,.st [.sc (.bool U),.sc (.string T),S]),(4,.st [.sc (.bool Q),.sc (.string P),O])]⟩
theorem Hi(V:ByteArray)(U:Nat)(Z:ByteArray)(Y X:Int)(T:Bool)(S:ByteArray)(Q:Int)(W:Bool)(P:ByteArray)(O:Int):Bv fu call V (U+1) Z Y X T S Q W P O=(As (decide (X>=0)) (A6 (decide (0<=X))<|Dk ((Array.toList (ByteArray.data Z))[X.toNat]?) fun a=>As ((↑(UInt8.toNat a):Int)==58) (Ab (wrap .i64 (X-1)) fun a=>Bv fu call V U Z X a T S Q W P O) (Ab (wrap .i64 (X-1)) fun a=>Bv fu call V U Z Y a T S Q W P O)) (A6 (decide (0<=Y))<|A6 (decide (Y.toNat<=ByteArray.size Z))<|Ab (ByteArray.extract Z 0 Y.toNat) fun a=>Z1 .i64 (call 56 [.sc (.string a)]) fun a=>As (a != 0) (Cg [.agg [.sc (.bool false),.sc (.string (ByteArray.mk #[])),(0:Int)],a]) (A6 (decide (0<=Y))<|A6 (decide (Y.toNat<=ByteArray.size Z))<|Ab (ByteArray.extract Z 0 Y.toNat) fun a=>Z1 .i64 (call 57 [.sc (.bool W)]) fun b=>As (decide (Y<(↑(ByteArray.size Z):Int))) (Ab (wrap .i64 (Y+1)) fun b=>A6 (decide (0<=b))<|A6 (decide (b.toNat<=ByteArray.size Z)&&decide (ByteArray.size Z<=ByteArray.size Z))<|Ab (ByteArray.extract Z b.toNat (ByteArray.size Z)) fun b=>Fv (call 58 [.sc (.string b),.sc (.bool W)]) fun b c=>Eh .i64 b fun b=>F8 c fun c=>As (!c) (Cg [.agg [.sc (.bool false),.sc (.string (ByteArray.mk #[])),(0:Int)],(2:Int)]) (Cg [.agg [.sc (.bool W),.sc (.string a),b],(0:Int)])) (Cg [.agg [.sc (.bool W),.sc (.string a),b],(0:Int)])))):=by kernel_rfl
theorem O4{p:Option (Al->Option Bz)}(fu d:Nat)(Z:ByteArray):Ae (CP p) prog fu (d+1) 34 [.sc (.string Z)]=(fun (call:A7)=>As (decide ((↑(ByteArray.size Z):Int)>=8)) (A6 (decide (8<=ByteArray.size Z))<|Ab (ByteArray.extract Z 0 8) fun a=>Fv (call 55 [.sc (.bool (Array.toList (ByteArray.data a)==Array.toList (ByteArray.data (ByteArray.mk #[104,116,116,112,115,58,47,47]))))]) fun b c=>Ai b fun b=>Af c<|As (decide ((↑(ByteArray.size Z):Int)<(↑(ByteArray.size b):Int))) (Cg [.agg [.sc (.bool false),.sc (.string (ByteArray.mk #[])),(0:Int)],(2:Int)]) (A6 (decide (Int.toNat (↑(ByteArray.size b):Int)<=ByteArray.size Z))<|Ab (ByteArray.extract Z 0 (Int.toNat (↑(ByteArray.size b):Int))) fun c=>As (!Array.toList (ByteArray.data c)==Array.toList (ByteArray.data b)) (Cg [.agg [.sc (.bool false),.sc (.string (ByteArray.mk #[])),(0:Int)],(2:Int)]) (A6 (decide (Int.toNat (↑(ByteArray.size b):Int)<=ByteArray.size Z)&&decide (ByteArray.size Z<=ByteArray.size Z))<|Ab (ByteArray.extract Z (Int.toNat (↑(ByteArray.size b):Int)) (ByteArray.size Z)) fun b=>Ab (wrap .i64 ((↑(ByteArray.size b):Int)-1)) fun c=>Bv fu call Z fu b ((↑(ByteArray.size b):Int)) c false (ByteArray.mk #[]) 0 (Array.toList (ByteArray.data a)==Array.toList (ByteArray.data (ByteArray.mk #[104,116,116,112,115,58,47,47]))) (ByteArray.mk #[]) 0))) (Fv (call 55 [.sc (.bool false)]) fun a b=>Ai a fun a=>Af b<|As (decide ((↑(ByteArray.size Z):Int)<(↑(ByteArray.size a):Int))) (Cg [.agg [.sc (.bool false),.sc (.string (ByteArray.mk #[])),(0:Int)],(2:Int)]) (A6 (decide (Int.toNat (↑(ByteArray.size a):Int)<=ByteArray.size Z))<|Ab (ByteArray.extract Z 0 (Int.toNat (↑(ByteArray.size a):Int))) fun b=>As (!Array.toList (ByteArray.data b)==Array.toList (ByteArray.data a)) (Cg [.agg [.sc (.bool false),.sc (.string (ByteArray.mk #[])),(0:Int)],(2:Int)]) (A6 (decide (Int.toNat (↑(ByteArray.size a):Int)<=ByteArray.size Z)&&decide (ByteArray.size Z<=ByteArray.size Z))<|Ab (ByteArray.extract Z (Int.toNat (↑(ByteArray.size a):Int)) (ByteArray.size Z)) fun a=>Ab (wrap .i64 ((↑(ByteArray.size a):Int)-1)) fun b=>Bv fu call Z fu a ((↑(ByteArray.size a):Int)) b false (ByteArray.mk #[]) 0 false (ByteArray.mk #[]) 0)))) (Ae (CP p) prog fu d):=by kernel_rfl
end
theorem Aa8{l:Am}(hl:Ct l)(a b:Nat):(Aa l).extract a b=Aa ((l.drop a).take (b-a)):=by
 have h:(Aa l).extract a b=Aa (Eu ((Aa l).extract a b)):=(Kv _).symm;rw[h]
 congr 1
 unfold Eu;rw[ByteArray.data_extract,Array.toList_extract,List.extract_eq_take_drop,List.map_take,List.map_drop];have:(List.map (fun b:UInt8=>(b.toNat:Int)) (Aa l).data.toList)=l:=Cs hl;rw[this]
theorem U6{a b:Am}(ha:Ct a)(hb:Ct b):(Array.toList (Aa a).data==Array.toList (Aa b).data)=decide (a=b):=by
 rw[Bool.eq_iff_iff,beq_iff_eq,decide_eq_true_iff];constructor
 ·intro h
  have h2:Aa a=Aa b:=by
   cases hx:Aa a;cases hy:Aa b;rw[hx,hy] at h;exact congrArg ByteArray.mk (Array.toList_inj.1 h)
  have h3:=congrArg Eu h2
  rwa [Cs ha,Cs hb] at h3
 ·rintro rfl;rfl
theorem UN{w l:Am}(h:w.length<=l.length):decide (l.take w.length=w)=w.isPrefixOf l:=by rw[Bool.eq_iff_iff,decide_eq_true_iff,List.isPrefixOf_iff_prefix,List.prefix_iff_eq_take];exact⟨fun h=>h.symm,fun h=>h.symm⟩
theorem MO(c:Int):∀{cur:Am},(∀x∈cur,x≠c)->∀r,A8 c (cur++c::r)=cur::A8 c r
 |[],_,r=>by
  show (if c=c then []::A8 c r else _)=_;rw[Bq rfl]
 |x::cur,h,r=>by
  have hx:=h x (by simp);have ih:=MO c (cur:=cur) (fun y hy=>h y (by simp[hy])) r;show (if x=c then []::A8 c (cur++c::r) else match A8 c (cur++c::r) with|a::t=>(x::a)::t|[]=>[[x]])=_;rw[Bg hx,ih]
theorem IE(c:Int):∀{cur:Am},(∀x∈cur,x≠c)->A8 c cur=[cur]
 |[],_=>rfl
 |x::cur,h=>by
  have hx:=h x (by simp);have ih:=IE c (cur:=cur) (fun y hy=>h y (by simp[hy]));show (if x=c then []::A8 c cur else match A8 c cur with|a::t=>(x::a)::t|[]=>[[x]])=_;rw[Bg hx,ih]
section
variable {fu d:Nat}{p:Option (Al->Option Bz)}
theorem BJ{c:Int}:Ae (CP p) prog fu (d+1) 76 [.sc (.int .u8 c)]=some ⟨[.sc (.bool (Oi c))],[]⟩:=by
 rw[Vg];unfold Oi;by_cases h:48<=c
 ·have a1:=dT (q:=c>=48) h;have a2:=dT h;simp only[A2,A1,a1,a2,QD]
 ·have a1:=dF (q:=c>=48) h;have a2:=dF h;simp only[A2,A1,a1,a2,CS]
def lbB(x:Int):Bool:=XQ x||x==45
theorem ZX{a0:ByteArray}{l:Am}(hB:Ct l)(hs:l.length<=63):∀(r:Am)(i nn:Nat),l.drop i=r->r.length+1<=nn ->
  Dc fu (Ae (CP p) prog fu (d+1)) a0 nn (Aa l) (i:Int)=some ⟨[.sc (.bool (r.all lbB))],[]⟩
 |[],i,nn,hd,hn=>by
  obtain⟨k,rfl⟩:∃k,nn=k+1:=⟨nn-1,by omega⟩
  have hi:=drop_nil hd;have a1:decide ((i:Int)<(l.length:Int))=false:=dF (by omega);rw[Kb];simp only[A2,A1,Ag,a1];rfl
 |c::r,i,nn,hd,hn=>by
  obtain⟨k,rfl⟩:∃k,nn=k+1:=⟨nn-1,by omega⟩
  obtain⟨hi,hc,Lz⟩:=E0 hd;have ih:=ZX (a0:=a0) hB hs r (i+1) k Lz (by simp at hn;omega)
  have AP:=hB c (List.mem_of_getElem? hc);have a1:decide ((i:Int)<(l.length:Int))=true:=dT (by omega);have a2:decide ((0:Int)<=(i:Int))=true:=by simp
  have a3:(Array.toList (Aa l).data)[Int.toNat (i:Int)]?=some c.toNat.toUInt8:=by
   rw[Kc];show (l.map fun n=>n.toNat.toUInt8)[i]?=_;rw[List.getElem?_map,hc];rfl
  have a4:=Je AP;have a5:wrap .i64 ((i:Int)+1)=((i+1:Nat):Int):=by rw[Ar (by omega) (by omega)];omega
  have e:Ae (CP p) prog fu (d+1) 76 [.sc (.int .u8 c)]=_:=BJ (fu:=fu) (d:=d) (p:=p) (c:=c);have step:(c::r).all lbB=(lbB c&&r.all lbB):=List.all_cons;rw[Kb,step];by_cases hA:97<=c/\c<=122
  ·have q1:=dT (q:=c>=97) hA.1;have q2:=bT hA.2;have hl:lbB c=true:=by unfold lbB XQ;simp[hA]
   rw[hl,QD];simp only[A2,A1,Ag,a1,a2,a3,a4,a5,q1,q2];exact ih
  cases hD:Oi c
  ·rw[hD] at e
   have Cx:XQ c=false:=by
    unfold XQ;rw[hD,Bool.or_false];simp;omega
   by_cases hM:c=45
   ·subst hM;have q1:decide ((45:Int)>=97)=false:=rfl;have q3:((45:Int) != 45)=false:=rfl;have hl:lbB 45=true:=rfl;rw[hl,QD];simp only[A2,A1,Ag,a1,a2,a3,a4,a5,q1,e,F9,q3];exact ih
   ·have q3:(c != 45)=true:=by simp[hM]
    have hl:lbB c=false:=by unfold lbB;simp[Cx,hM]
    rw[hl,CS];by_cases h97:97<=c
    ·have q1:=dT (q:=c>=97) h97;have q2:=bF (q:=c<=122) (by omega);simp only[A2,A1,Ag,a1,a2,a3,a4,a5,q1,q2,e,F9,q3]
    ·have q1:=dF (q:=c>=97) h97;simp only[A2,A1,Ag,a1,a2,a3,a4,a5,q1,e,F9,q3]
  ·rw[hD] at e;have h48:=(Zo c).1 hD;have hl:lbB c=true:=by unfold lbB XQ;simp[hD]
   have q1:=dF (q:=c>=97) (by omega);rw[hl,QD];simp only[A2,A1,Ag,a1,a2,a3,a4,a5,q1,e,E1];exact ih
theorem Ai0{l:Am}(hB:Ct l)(Ce:100<=fu):Ae (CP p) prog fu (d+2) 75 [.sc (.string (Aa l))]=some ⟨[.sc (.bool (Jt l))],[]⟩:=by
 rw[Vo];by_cases h1:1<=l.length
 ·have a1:decide (((l.length:Nat):Int)<1)=false:=dF (by omega);by_cases h2:l.length<=63
  ·have a2:decide (((l.length:Nat):Int)>63)=false:=dF (by omega)
   have e0:Jt l=(!(l.head?==some 45) && !(l.getLast?==some 45)&&l.all lbB):=by
    unfold Jt;rw[dT h1,dT h2];rfl
   cases l with
   |nil=>simp at h1
   |cons c r=>
    have AP:=hB c (by simp);have a3:(Array.toList (Aa (c::r)).data)[0]?=some c.toNat.toUInt8:=rfl;have a4:=Je AP;by_cases h0:c=45
    ·subst h0;have q:((45:Int)==45)=true:=rfl;have e:Jt (45::r)=false:=by rw[e0];simp
     rw[e];simp only[A2,A1,Ag,a1,a2,a3,a4,q]
    ·have q:(c==45)=false:=by simp[h0]
     obtain⟨z,hz⟩:∃z,(c::r).getLast?=some z:=⟨_,List.getLast?_eq_some_getLast (by simp)⟩
     have Ue:(c::r)[(c::r).length-1]?=some z:=by rw[<-List.getLast?_eq_getElem?];exact hz
     have hzB:=hB z (List.mem_of_getElem? Ue);have b1:wrap .i64 (((c::r).length:Int)-1)=(((c::r).length-1:Nat):Int):=by rw[Ar (by omega) (by omega)];omega
     have b2:decide ((0:Int)<=(((c::r).length-1:Nat):Int))=true:=dT (by omega)
     have b3:(Array.toList (Aa (c::r)).data)[Int.toNat (((c::r).length-1:Nat):Int)]?=some z.toNat.toUInt8:=by
      rw[Kc];show ((c::r).map fun n=>n.toNat.toUInt8)[(c::r).length-1]?=_;rw[List.getElem?_map,Ue];rfl
     have b4:=Je hzB;by_cases Ask:z=45
     ·subst Ask;have q2:((45:Int)==45)=true:=rfl;have e:Jt (c::r)=false:=by rw[e0,hz];simp
      rw[e];simp only[A2,A1,Ag,a1,a2,a3,a4,q,b1,b2,b3,b4,q2]
     ·have q2:(z==45)=false:=by simp[Ask]
      have e:Jt (c::r)=(c::r).all lbB:=by rw[e0,hz];simp[h0,Ask]
      have hl:=ZX (fu:=fu) (d:=d) (p:=p) (a0:=Aa (c::r)) hB h2 (c::r) 0 fu rfl (by omega);rw[e];simp only[A2,A1,Ag,a1,a2,a3,a4,q,b1,b2,b3,b4,q2];rw[Ru (Jo:=by omega)];exact hl
  ·have a2:decide (((l.length:Nat):Int)>63)=true:=dT (by omega);have e:Jt l=false:=by unfold Jt;simp[h2]
   rw[e];simp only[A2,A1,Ag,a1,a2]
 ·have a1:decide (((l.length:Nat):Int)<1)=true:=dT (by omega);have e:Jt l=false:=by unfold Jt;simp[h1]
  rw[e];simp only[A2,A1,Ag,a1]
theorem PF{call:A7}{a0:ByteArray}{a1 c:Int}{l:Am}(hB:Ct l)(hl:l.length<=100000):∀(r cur:Am)(done:List Am) (f nn:Nat),l.drop f=cur++r->(∀x∈cur,x≠c)->done.length<=f->f<=l.length->r.length+1<=nn ->
  Fa fu call a0 a1 nn (Aa l) c done.length (f:Int) ((f+cur.length:Nat):Int) (done.map Tq)=some ⟨[.own 1 (done++A8 c (cur++r)).length ((done++A8 c (cur++r)).map Tq)],[]⟩
 |[],cur,done,f,nn,hd,hc,Wv,hf,hn=>by
  obtain⟨k,rfl⟩:∃k,nn=k+1:=⟨nn-1,by omega⟩
  rw[List.append_nil] at hd;have Do:=congrArg List.length hd;rw[List.length_drop] at Do;have b1:decide (((f+cur.length:Nat):Int)<(l.length:Int))=false:=dF (by omega);have b2:decide ((0:Int)<=(f:Int))=true:=by simp
  have b3:decide (Int.toNat (f:Int)<=l.length)=true:=dT (by omega)
  have b4:(Aa l).extract (Int.toNat (f:Int)) l.length=Aa cur:=by
   rw[Aa8 hB,Kc,hd,FF (by omega)]
  have b5:decide (done.length*1<=List.length (done.map Tq))=true:=by simp
  have b6:decide ((done.length+1)*16<=1099511627776)=true:=dT (by omega);have b7:decide (done.length+1<=1099511627776)=true:=dT (by omega)
  have b8:List.take (done.length*1) (done.map Tq)++[PV.sc (.string (Aa cur))]=(done++[cur]).map Tq:=by
   rw[FF (by simp)];simp[Tq]
  have b9:decide ((done.length+1)*1<=List.length ((done++[cur]).map Tq))=true:=by simp
  have c1:List.take ((done.length+1)*1) ((done++[cur]).map Tq)=(done++[cur]).map Tq:=FF (by simp);rw[J6,List.append_nil,IE c hc];simp only[A2,A1,Ag,dle,b1,b2,b3,b4,b5,b6,b7,b8,b9,c1];simp
 |x::r,cur,done,f,nn,hd,hc,Wv,hf,hn=>by
  obtain⟨k,rfl⟩:∃k,nn=k+1:=⟨nn-1,by omega⟩
  have Do:=congrArg List.length hd;rw[List.length_drop] at Do;simp only[LG,Ub] at Do
  have hx:l[f+cur.length]?=some x:=by
   have:(l.drop f)[cur.length]?=some x:=by rw[hd];simp
   rwa [List.getElem?_drop] at this
  have hxB:=hB x (List.mem_of_getElem? hx);have b1:decide (((f+cur.length:Nat):Int)<(l.length:Int))=true:=dT (by omega);have b2:decide ((0:Int)<=((f+cur.length:Nat):Int))=true:=dT (by omega);have b2':decide ((0:Int)<=(f:Int))=true:=by simp
  have b3:(Array.toList (Aa l).data)[Int.toNat ((f+cur.length:Nat):Int)]?=some x.toNat.toUInt8:=by
   rw[Kc];show (l.map fun n=>n.toNat.toUInt8)[f+cur.length]?=_;rw[List.getElem?_map,hx];rfl
  have b4:=Je hxB;have b5:wrap .i64 (((f+cur.length:Nat):Int)+1)=((f+cur.length+1:Nat):Int):=by rw[Ar (by omega) (by omega)];omega
  rw[J6];by_cases hxc:x=c
  ·subst hxc;have q:(x==x)=true:=by simp
   have c1:decide (Int.toNat (f:Int)<=Int.toNat ((f+cur.length:Nat):Int))=true:=dT (by omega);have c2:decide (Int.toNat ((f+cur.length:Nat):Int)<=l.length)=true:=dT (by omega)
   have c3:(Aa l).extract (Int.toNat (f:Int)) (Int.toNat ((f+cur.length:Nat):Int))=Aa cur:=by
    rw[Aa8 hB,Kc,Kc,hd,Nat.add_sub_cancel_left,List.take_left]
   have c4:decide (done.length*1<=List.length (done.map Tq))=true:=by simp
   have c5:decide ((done.length+1)*16<=1099511627776)=true:=dT (by omega);have c6:decide (done.length+1<=1099511627776)=true:=dT (by omega)
   have c7:List.take (done.length*1) (done.map Tq)++[PV.sc (.string (Aa cur))]=(done++[cur]).map Tq:=by
    rw[FF (by simp)];simp[Tq]
   have Lz:l.drop (f+cur.length+1)=[]++r:=by
    rw[<-List.drop_drop,<-List.drop_drop,hd,List.drop_left];rfl
   have ih:=PF (call:=call) (a0:=a0) (a1:=a1) (c:=x) hB hl r [] (done++[cur]) (f+cur.length+1) k Lz (fun y hy=>nomatch hy) (by simp;omega) (by omega) (by simp at hn;omega)
   rw[MO x hc];simp only[A2,A1,Ag,b1,b2,b2',b3,b4,q,c1,c2,c3,c4,c5,c6,c7,b5];rw[show (done++[cur]).length=done.length+1 by simp,show f+cur.length+1+([]:Am).length=f+cur.length+1 from rfl] at ih;refine ih.trans ?_;simp
  ·have q:(x==c)=false:=by simp[hxc]
   have ih:=PF (call:=call) (a0:=a0) (a1:=a1) hB hl r (cur++[x]) done f k (by rw[hd];simp) (fun y hy=>by
    rcases Bu.1 hy with hy|hy
    ·exact hc y hy
    ·simp at hy;subst hy;exact hxc) Wv hf (by simp at hn;omega)
   simp only[A2,A1,Ag,b1,b2,b3,b4,q,b5];rw[show f+(cur++[x]).length=f+cur.length+1 by simp;omega] at ih
   refine ih.trans ?_;simp
theorem Ajl{c:Int}{l:Am}(hB:Ct l)(hl:l.length<=100000)(Ce:l.length+1<=fu):Ae (CP p) prog fu (d+1) 74 [.sc (.string (Aa l)),.sc (.int .u8 c)]=some ⟨[.own 1 (A8 c l).length ((A8 c l).map Tq)],[]⟩:=by rw[Vb];have:=PF (fu:=fu) (call:=Ae (CP p) prog fu d) (a0:=Aa l) (a1:=c) (c:=c) hB hl l [] [] 0 fu rfl (fun y hy=>nomatch hy) (Cc _) (by omega) Ce;exact this
theorem SH{a0:ByteArray}{l:Am}(hB:Ct l)(hs:l.length<=100000):∀(r:Am)(i nn:Nat),l.drop i=r->r.length+1<=nn ->
  Fi fu (Ae (CP p) prog fu (d+1)) a0 nn (Aa l) (i:Int)=some ⟨[B9 (if r.all Oi=true then 2 else 0)],[]⟩
 |[],i,nn,hd,hn=>by
  obtain⟨k,rfl⟩:∃k,nn=k+1:=⟨nn-1,by omega⟩
  have hi:=drop_nil hd;have a1:decide ((i:Int)<(l.length:Int))=false:=dF (by omega);rw[Ij];simp only[A2,A1,Ag,a1];rfl
 |c::r,i,nn,hd,hn=>by
  obtain⟨k,rfl⟩:∃k,nn=k+1:=⟨nn-1,by omega⟩
  obtain⟨hi,hc,Lz⟩:=E0 hd;have ih:=SH (a0:=a0) hB hs r (i+1) k Lz (by simp at hn;omega)
  have AP:=hB c (List.mem_of_getElem? hc);have a1:decide ((i:Int)<(l.length:Int))=true:=dT (by omega);have a2:decide ((0:Int)<=(i:Int))=true:=by simp
  have a3:(Array.toList (Aa l).data)[Int.toNat (i:Int)]?=some c.toNat.toUInt8:=by
   rw[Kc];show (l.map fun n=>n.toNat.toUInt8)[i]?=_;rw[List.getElem?_map,hc];rfl
  have a4:=Je AP;have a5:wrap .i64 ((i:Int)+1)=((i+1:Nat):Int):=by rw[Ar (by omega) (by omega)];omega
  have e:Ae (CP p) prog fu (d+1) 76 [.sc (.int .u8 c)]=_:=BJ (fu:=fu) (d:=d) (p:=p) (c:=c);rw[Ij,List.all_cons];cases hD:Oi c
  ·rw[hD] at e;simp only[A2,A1,Ag,a1,a2,a3,a4,e,F9,CS,Bool.false_eq_true,if_false]
  ·rw[hD] at e;simp only[A2,A1,Ag,a1,a2,a3,a4,e,E1,QD,a5];exact ih
theorem MG{a0:ByteArray}(Ce:2000<=fu){ls:List Am}(hB:∀x∈ls,Ct x/\x.length<=1000)(h0:ls≠[])(hN:ls.length<=1000):∀(r:List Am) (i nn:Nat),ls.drop i=r->r.length+1<=nn ->
  Fj fu (Ae (CP p) prog fu (d+2)) a0 nn ls.length (i:Int) (ls.map Tq)=some ⟨[B9 (if r.all Jt=false then 2 else if (ls.getLastD []).all Oi=true then 2 else 0)],[]⟩
 |[],i,nn,hd,hn=>by
  obtain⟨k,rfl⟩:∃k,nn=k+1:=⟨nn-1,by omega⟩
  have hi:=drop_nil hd;have Acl:0<ls.length:=List.length_pos_iff.2 h0;have a1:decide ((i:Int)<(ls.length:Int))=false:=dF (by omega);have a2:wrap .i64 ((ls.length:Int)-1)=((ls.length-1:Nat):Int):=by rw[Ar (by omega) (by omega)];omega
  have a3:decide ((0:Int)<=((ls.length-1:Nat):Int))=true:=dT (by omega);have a4:decide (((ls.length-1:Nat):Int)<(ls.length:Int))=true:=dT (by omega)
  have SJ:ls.getLastD []=ls[ls.length-1]'(by omega):=by
   rw[List.getLastD_eq_getLast?,List.getLast?_eq_getElem?,List.getElem?_eq_getElem (by omega)];rfl
  have a5:List.getD (ls.map Tq) (0+Int.toNat ((ls.length-1:Nat):Int)*1) PV.top=.sc (.string (Aa (ls.getLastD []))):=by
   rw[Kc,Ob,KJ,List.getD_eq_getElem?_getD,List.getElem?_map,List.getElem?_eq_getElem (by omega),SJ];rfl
  have hm:=hB (ls.getLastD []) (by rw[SJ];exact List.getElem_mem _)
  have hdl:=SH (fu:=fu) (d:=d+1) (p:=p) (a0:=a0) hm.1 (by omega) (ls.getLastD []) 0 fu rfl (by omega);rw[Io];simp only[A2,A1,a1,a2,a3,a4,a5,List.all_nil,Bool.true_eq_false,if_false];exact hdl
 |x::r,i,nn,hd,hn=>by
  obtain⟨k,rfl⟩:∃k,nn=k+1:=⟨nn-1,by omega⟩
  obtain⟨hi,hc,Lz⟩:=E0 hd;have ih:=MG (a0:=a0) Ce hB h0 hN r (i+1) k Lz (by simp at hn;omega)
  have hm:=hB x (List.mem_of_getElem? hc);have e:Ae (CP p) prog fu (d+2) 75 [.sc (.string (Aa x))]=_:=Ai0 (fu:=fu) (d:=d) (p:=p) hm.1 (by omega);have a1:decide ((i:Int)<(ls.length:Int))=true:=dT (by omega);have a2:decide ((0:Int)<=(i:Int))=true:=by simp
  have a5:List.getD (ls.map Tq) (0+Int.toNat (i:Int)*1) PV.top=.sc (.string (Aa x)):=by
   rw[Kc,Ob,KJ,List.getD_eq_getElem?_getD,List.getElem?_map,hc];rfl
  have a6:wrap .i64 ((i:Int)+1)=((i+1:Nat):Int):=by rw[Ar (by omega) (by omega)];omega
  rw[Io];cases hq:Jt x
  ·rw[hq] at e;have:((x::r).all Jt=false):=by simp[hq]
   rw[Bq this];simp only[A2,A1,a1,a2,a5,e,F9]
  ·rw[hq] at e;have:(x::r).all Jt=r.all Jt:=by simp[hq]
   rw[this];simp only[A2,A1,a1,a2,a5,e,E1,a6];exact ih
theorem Alr{l:Am}(hB:Ct l)(hs:l.length<=1000000)(Ce:2000<=fu):Ae (CP p) prog fu (d+4) 56 [.sc (.string (Aa l))]=some ⟨[B9 (Qe l)],[]⟩:=by
 rw[Sd];unfold Qe;by_cases h:100<l.length
 ·have a1:decide (((l.length:Nat):Int)>100)=true:=dT (by omega);rw[Bq h];simp only[A2,A1,Ag,a1]
 ·have a1:decide (((l.length:Nat):Int)>100)=false:=dF (by omega);have e:Ae (CP p) prog fu (d+3) 74 [.sc (.string (Aa l)),.sc (.int .u8 46)]=_:=Ajl (fu:=fu) (d:=d+2) (p:=p) (c:=46) hB (by omega) (by omega);have hn:=Wb 46 l;have hd:=MG (a0:=Aa l) (fu:=fu) (d:=d+1) (p:=p) (by omega) (ls:=A8 46 l) (fun x hx=>⟨(Vs 46 hB x hx).1,by have:=(Vs 46 hB x hx).2;omega⟩) (Oc 46 l) (by omega) (A8 46 l) 0 fu rfl (by omega)
  rw[Bg h];simp only[A2,A1,Ag,a1,e];exact hd
end
section
variable {fu d:Nat}{p:Option (Al->Option Bz)}
theorem UR(s:Bool):Ae (CP p) prog fu (d+1) 57 [.sc (.bool s)]=some ⟨[B9 (dfl s)],[]⟩:=by rw[Ov];cases s<;>simp only[A2,A1]<;>rfl
theorem HB{a0:ByteArray}{l:Am}{s a1:Bool}(hB:Ct l)(hs:l.length<=5):∀(r:Am)(i nn:Nat)(n:Int),l.drop i=r->r.length+1<=nn->0<=n->n<10 ^ i ->
  Gp fu (Ae (CP p) prog fu (d+1)) a0 a1 nn (Aa l) s n (i:Int)=some (if r.all Oi=true then ⟨[B9 (r.foldl (fun n x=>10*n+(x-48)) n),.sc (.bool (decide (r.foldl (fun n x=>10*n+(x-48)) n<=65535)&&decide (r.foldl (fun n x=>10*n+(x-48)) n≠dfl s)))],[]⟩ else ⟨[B9 0,.sc (.bool false)],[]⟩)
 |[],i,nn,n,hd,hn,h0,h1=>by
  obtain⟨k,rfl⟩:∃k,nn=k+1:=⟨nn-1,by omega⟩
  have hi:=drop_nil hd;have a1':decide ((i:Int)<(l.length:Int))=false:=dF (by omega);have e:Ae (CP p) prog fu (d+1) 57 [.sc (.bool s)]=_:=UR (fu:=fu) (d:=d) (p:=p) s;rw[Ks];show _=some (Bz.mk [B9 n,.sc (.bool (decide (n<=65535)&&decide (n≠dfl s)))] []);by_cases hv:n<=65535
  ·have q:=dT hv
   have q2:(n != dfl s)=decide (n≠dfl s):=by
    by_cases h:n=dfl s<;>simp[h]
   simp only[A2,A1,Ag,a1',q,e,q2,QD]
  ·have q:=dF hv;simp only[A2,A1,Ag,a1',q,CS]
 |c::r,i,nn,n,hd,hn,h0,h1=>by
  obtain⟨k,rfl⟩:∃k,nn=k+1:=⟨nn-1,by omega⟩
  obtain⟨hi,hc,Lz⟩:=E0 hd;have AP:=hB c (List.mem_of_getElem? hc)
  have hp:(10:Int) ^ i<=10 ^ 4:=by
   have h:=Nat.pow_le_pow_right (n:=10) (by omega) (show i<=4 by omega)
   exact_mod_cast h
  have hp2:(10:Int) ^ (i+1)=10 ^ i*10:=Int.pow_succ ..;have a1':decide ((i:Int)<(l.length:Int))=true:=dT (by omega);have a2:decide ((0:Int)<=(i:Int))=true:=by simp
  have a3:(Array.toList (Aa l).data)[Int.toNat (i:Int)]?=some c.toNat.toUInt8:=by
   rw[Kc];show (l.map fun n=>n.toNat.toUInt8)[i]?=_;rw[List.getElem?_map,hc];rfl
  have a4:=Je AP;have e:Ae (CP p) prog fu (d+1) 76 [.sc (.int .u8 c)]=_:=BJ (fu:=fu) (d:=d) (p:=p) (c:=c);rw[Ks];cases hD:Oi c
  ·rw[hD] at e;have ea:(c::r).all Oi=false:=by rw[List.all_cons,hD,CS]
   rw[ea];simp only[A2,A1,Ag,a1',a2,a3,a4,e,F9,Bool.false_eq_true,if_false]
  ·rw[hD] at e;have hq:=(Zo c).1 hD;have a5:wrap .i64 (10*n)=10*n:=Ar (by omega) (by omega);have a6:wrap .u8 (c-48)=c-48:=Iy (by omega) (by omega);have a7:wrap .i64 (c-48)=c-48:=Ar (by omega) (by omega);have a8:wrap .i64 (10*n+(c-48))=10*n+(c-48):=Ar (by omega) (by omega);have a9:wrap .i64 ((i:Int)+1)=((i+1:Nat):Int):=by rw[Ar (by omega) (by omega)];omega
   have ih:=HB (a0:=a0) (s:=s) (a1:=a1) hB hs r (i+1) k (10*n+(c-48)) Lz (by simp at hn;omega) (by omega) (by omega)
   have ea:(c::r).all Oi=r.all Oi:=by rw[List.all_cons,hD,QD]
   simp only[A2,A1,Ag,a1',a2,a3,a4,e,E1,a5,a6,a7,a8,a9];rw[ih,ea];rfl
theorem Am0{l:Am}{s:Bool}(hB:Ct l)(Ce:100<=fu):Ae (CP p) prog fu (d+2) 58 [.sc (.string (Aa l)),.sc (.bool s)]=some (if I4 l=true then ⟨[B9 (X3 l),.sc (.bool (decide (X3 l<=65535)&&decide (X3 l≠dfl s)))],[]⟩ else ⟨[B9 0,.sc (.bool false)],[]⟩):=by
 rw[Xa];by_cases h1:1<=l.length
 ·by_cases h2:l.length<=5
  ·have a1:decide (((l.length:Nat):Int)<1)=false:=dF (by omega);have a2:decide (((l.length:Nat):Int)>5)=false:=dF (by omega);cases l with
   |nil=>simp at h1
   |cons c r=>
    have AP:=hB c (by simp);have a3:(Array.toList (Aa (c::r)).data)[0]?=some c.toNat.toUInt8:=rfl;have a4:=Je AP;by_cases h0:c=48
    ·subst h0;have e:I4 (48::r)=false:=by unfold I4;simp
     have q:((48:Int)==48)=true:=rfl;rw[e];simp only[A2,A1,Ag,a1,a2,a3,a4,q,Bool.false_eq_true,if_false]
    ·have q:(c==48)=false:=by simp[h0]
     have e:I4 (c::r)=(c::r).all Oi:=by
      unfold I4;rw[dT h1,dT h2];simp[h0]
     have hl:=HB (fu:=fu) (d:=d) (p:=p) (a0:=Aa (c::r)) (a1:=s) (s:=s) hB h2 (c::r) 0 fu 0 rfl (by omega) (by omega) (by decide);rw[e];simp only[A2,A1,Ag,a1,a2,a3,a4,q];exact hl
  ·have a1:decide (((l.length:Nat):Int)<1)=false:=dF (by omega);have a2:decide (((l.length:Nat):Int)>5)=true:=dT (by omega);have e:I4 l=false:=by unfold I4;simp[h2]
   rw[e];simp only[A2,A1,Ag,a1,a2,Bool.false_eq_true,if_false]
 ·have a1:decide (((l.length:Nat):Int)<1)=true:=dT (by omega);have e:I4 l=false:=by unfold I4;simp[h1]
  rw[e];simp only[A2,A1,Ag,a1,Bool.false_eq_true,if_false]
theorem Aq4{a0 s4 s7:ByteArray}{y3 y6:Bool}{y5 y8:Int}{r:Am}(hr:Ct r)(hrl:r.length<=1000000)(Ce:2000<=fu){nn:Nat}:∃o1 o2 o3,Bv fu (Ae (CP p) prog fu (d+4)) a0 (nn+1) (Aa r) ((Br 58 r).length:Int) (-1) y3 s4 y5 y6 s7 y8=some ⟨[.agg [.sc (.bool o1),.sc (.string o2),B9 o3],B9 (Us y6 r)],[]⟩:=by
 have Rj:=FU 58 r;have hbB:Ct (Br 58 r):=by rw[Po];exact fun x hx=>hr x (List.mem_of_mem_take hx)
 have hdB:Ct (r.drop ((Br 58 r).length+1)):=fun x hx=>hr x (List.mem_of_mem_drop hx);have c2:Ae (CP p) prog fu (d+4) 56 [.sc (.string (Aa (Br 58 r)))]=_:=Alr (fu:=fu) (d:=d) (p:=p) hbB (by omega) Ce;have c3:Ae (CP p) prog fu (d+4) 57 [.sc (.bool y6)]=_:=UR (fu:=fu) (d:=d+3) (p:=p) y6;have c4:Ae (CP p) prog fu (d+4) 58 [.sc (.string (Aa (r.drop ((Br 58 r).length+1)))),.sc (.bool y6)]=_:=Am0 (fu:=fu) (d:=d+2) (p:=p) (s:=y6) hdB (by omega);have a1:decide ((-1:Int)>=0)=false:=rfl;have a2:decide ((0:Int)<=((Br 58 r).length:Int))=true:=by simp
 have a3:decide (Int.toNat ((Br 58 r).length:Int)<=r.length)=true:=dT (by omega);have a4:(Aa r).extract 0 (Int.toNat ((Br 58 r).length:Int))=Aa (Br 58 r):=by rw[Kc,Rv hr,<-Po]
 rw[Hi];unfold Us;by_cases hh:Qe (Br 58 r)=0
 ·have z:((0:Int) != 0)=false:=rfl;rw[hh] at c2;simp only[ne_eq,hh,not_true_eq_false,if_false];by_cases hw:(Br 58 r).length<r.length
  ·have a5:=dT (q:=((Br 58 r).length:Int)<(r.length:Int)) (by omega);have a6:wrap .i64 (((Br 58 r).length:Int)+1)=(((Br 58 r).length+1:Nat):Int):=by rw[Ar (by omega) (by omega)];omega
   have a7:decide ((0:Int)<=(((Br 58 r).length+1:Nat):Int))=true:=dT (by omega);have a8:decide (Int.toNat (((Br 58 r).length+1:Nat):Int)<=r.length)=true:=dT (by omega);have a9:(Aa r).extract (Int.toNat (((Br 58 r).length+1:Nat):Int)) r.length=Aa (r.drop ((Br 58 r).length+1)):=by rw[Kc,Ss hr]
   rw[Bg (show ¬(Br 58 r).length=r.length by omega)];by_cases hp:I4 (r.drop ((Br 58 r).length+1))=true
   ·rw[Bq hp] at c4;by_cases hv:X3 (r.drop ((Br 58 r).length+1))<=65535/\X3 (r.drop ((Br 58 r).length+1))≠dfl y6
    ·rw[dT hv.1,dT hv.2] at c4;rw[Bq ⟨hp,hv.1,hv.2⟩];exact⟨_,_,_,by simp only[A2,A1,Ag,dle,a1,a2,a3,a4,c2,z,c3,a5,a6,a7,a8,a9,c4,Zzn,E1];rfl⟩
    ·have hb:(decide (X3 (r.drop ((Br 58 r).length+1))<=65535)&&decide (X3 (r.drop ((Br 58 r).length+1))≠dfl y6))=false:=by
      rw[Bool.eq_false_iff];intro h;rw[Fb,decide_eq_true_iff,decide_eq_true_iff] at h;exact hv h
     rw[hb] at c4;rw[Bg (by rintro⟨_,h1,h2⟩;exact hv ⟨h1,h2⟩)]
     exact⟨_,_,_,by simp only[A2,A1,Ag,dle,a1,a2,a3,a4,c2,z,c3,a5,a6,a7,a8,a9,c4,F9];rfl⟩
   ·rw[Bg hp] at c4;rw[Bg (by rintro⟨h,_,_⟩;exact hp h)]
    exact⟨_,_,_,by simp only[A2,A1,Ag,dle,a1,a2,a3,a4,c2,z,c3,a5,a6,a7,a8,a9,c4,F9];rfl⟩
  ·have a5:=dF (q:=((Br 58 r).length:Int)<(r.length:Int)) (by omega);rw[Bq (show (Br 58 r).length=r.length by omega)];exact⟨_,_,_,by simp only[A2,A1,Ag,a1,a2,a3,a4,c2,z,c3,a5];rfl⟩
 ·have b1:(Qe (Br 58 r) != 0)=true:=by simp[hh]
  simp only[ne_eq,hh,not_false_eq_true,if_true];exact⟨_,_,_,by simp only[A2,A1,Ag,a1,a2,a3,a4,c2,b1];rfl⟩
theorem Aik{r:Am}{k:Nat}(hk:k<r.length){c:Int}(hc:r[k]?=some c):(Br 58 (r.drop k)).length=if c=58 then 0 else (Br 58 (r.drop (k+1))).length+1:=by
 have e:r.drop k=c::r.drop (k+1):=by
  rw[List.drop_eq_getElem_cons hk];rw[List.getElem?_eq_getElem hk] at hc;cases hc;rfl
 rw[e];by_cases h:c=58
 ·subst h;rw[PI,Bq rfl];rfl
 ·rw[TV _ h,Bg h];rfl
theorem Anu{a0 s4 s7:ByteArray}{y3 y6:Bool}{y5 y8:Int}{r:Am}(hr:Ct r)(hrl:r.length<=1000000)(Ce:2000<=fu):∀(k nn:Nat),k<=r.length->k+1<=nn->∃o1 o2 o3,Bv fu (Ae (CP p) prog fu (d+4)) a0 nn (Aa r) ((k+(Br 58 (r.drop k)).length:Nat):Int) ((k:Int)-1) y3 s4 y5 y6 s7 y8=some ⟨[.agg [.sc (.bool o1),.sc (.string o2),B9 o3],B9 (Us y6 r)],[]⟩:=by
 intro k
 induction k with
 |zero=>
  intro nn hk Jo;obtain⟨q,rfl⟩:∃q,nn=q+1:=⟨nn-1,by omega⟩
  have:=Aq4 (fu:=fu) (d:=d) (p:=p) (a0:=a0) (s4:=s4) (s7:=s7) (y3:=y3) (y6:=y6) (y5:=y5) (y8:=y8) hr hrl Ce (nn:=q);rw[SL,Ob];exact this
 |succ k ih=>
  intro nn hk Jo;obtain⟨q,rfl⟩:∃q,nn=q+1:=⟨nn-1,by omega⟩
  obtain⟨c,hc⟩:∃c,r[k]?=some c:=⟨_,List.getElem?_eq_getElem (by omega)⟩
  have AP:=hr c (List.mem_of_getElem? hc);have VZ:=Aik (show k<r.length by omega) hc;obtain⟨o1,o2,o3,h⟩:=ih q (by omega) (by omega);refine⟨o1,o2,o3,?_⟩;have a1:decide (((k+1:Nat):Int)-1>=0)=true:=dT (by omega);have a2:decide ((0:Int)<=((k+1:Nat):Int)-1)=true:=dT (by omega)
  have a3:(Array.toList (Aa r).data)[Int.toNat (((k+1:Nat):Int)-1)]?=some c.toNat.toUInt8:=by
   rw[show Int.toNat (((k+1:Nat):Int)-1)=k by omega];show (r.map fun n=>n.toNat.toUInt8)[k]?=_;rw[List.getElem?_map,hc];rfl
  have a4:=Je AP;have a5:wrap .i64 (((k+1:Nat):Int)-1-1)=(k:Int)-1:=by rw[Ar (by omega) (by omega)];omega
  rw[Hi];by_cases h58:c=58
  ·rw[Bq h58] at VZ;have q1:(c==58)=true:=by simp[h58]
   rw[VZ] at h;simp only[A2,A1,a1,a2,a3,a4,q1,a5];rw[show ((k+1:Nat):Int)-1=((k+0:Nat):Int) by omega];exact h
  ·rw[Bg h58] at VZ;have q1:(c==58)=false:=by simp[h58]
   rw[VZ] at h;simp only[A2,A1,a1,a2,a3,a4,q1,a5];rw[show k+1+(Br 58 (r.drop (k+1))).length=k+((Br 58 (r.drop (k+1))).length+1) by omega];exact h
theorem Agj{l:Am}(hB:Ct l)(hs:l.length<=1000000)(Ce:2000<=fu)(Xf:l.length+1<=fu):∃o1 o2 o3,Ae (CP p) prog fu (d+5) 34 [.sc (.string (Aa l))]=some ⟨[.agg [.sc (.bool o1),.sc (.string o2),B9 o3],B9 (Fc l)],[]⟩:=by
  have er:=O4 (p:=p) fu (d+4) (Aa l)
  have sT:Ae (CP p) prog fu (d+4) 55 [.sc (.bool true)]=some ⟨[.sc (.string (Aa [104,116,116,112,115,58,47,47]))],[]⟩:=by
    refine (La (p:=p) fu (d+3) true).trans ?_
    simp only[A2,A1]
    rfl
  have sF:Ae (CP p) prog fu (d+4) 55 [.sc (.bool false)]=some ⟨[.sc (.string (Aa [104,116,116,112,58,47,47]))],[]⟩:=by
    refine (La (p:=p) fu (d+3) false).trans ?_
    simp only[A2,A1]
    rfl
  have hB8:Ct [104,116,116,112,115,58,47,47]:=fun x hx=>by simp at hx;omega
  have hB7:Ct [104,116,116,112,58,47,47]:=fun x hx=>by simp at hx;omega
  have l8:(Aa [104,116,116,112,115,58,47,47]).size=8:=rfl
  have l7:(Aa [104,116,116,112,58,47,47]).size=7:=rfl
  have n8:([104,116,116,112,115,58,47,47]:Am).length=8:=rfl
  have n7:([104,116,116,112,58,47,47]:Am).length=7:=rfl
  have e8:(ByteArray.mk #[(104:UInt8),(116:UInt8),(116:UInt8),(112:UInt8),(115:UInt8),(58:UInt8),(47:UInt8),(47:UInt8)])=Aa [104,116,116,112,115,58,47,47]:=rfl
  have tk:∀n,Ct (l.take n):=fun n x hx=>hB x (List.mem_of_mem_take hx)
  have loop:∀(m:Nat) (s:Bool),m<=l.length->∃o1 o2 o3,Bv fu (Ae (CP p) prog fu (d+4)) (Aa l) fu (Aa (l.drop m)) (((Aa (l.drop m)).size:Nat):Int) (wrap .i64 ((((Aa (l.drop m)).size:Nat):Int)-1)) false (ByteArray.mk #[]) 0 s (ByteArray.mk #[]) 0=some ⟨[.agg [.sc (.bool o1),.sc (.string o2),B9 o3],B9 (Us s (l.drop m))],[]⟩:=by
    intro m s hm
    have hd:Ct (l.drop m):=fun x hx=>hB x (List.mem_of_mem_drop hx)
    have hdl:(l.drop m).length=l.length-m:=List.length_drop
    obtain⟨o1,o2,o3,h⟩:=Anu (fu:=fu) (d:=d) (p:=p) (a0:=Aa l) (s4:=ByteArray.mk #[]) (s7:=ByteArray.mk #[]) (y3:=false) (y6:=s) (y5:=0) (y8:=0) hd (by omega) Ce (l.drop m).length fu (Cc _) (by omega)
    refine⟨o1,o2,o3,?_⟩
    rw[Ag,Ar (by omega) (by omega)]
    have e:(l.drop m).length+(Br 58 ((l.drop m).drop (l.drop m).length)).length=(l.drop m).length:=by
      rw[List.drop_length];rfl
    rw[e] at h
    exact h
  unfold Fc
  have plain:∀(h7:List.isPrefixOf [104,116,116,112,115,58,47,47] l=false),∃o1 o2 o3,(As (decide (((l.length:Nat):Int)<((7:Nat):Int)))
    (some (Bz.mk [PV.agg [PV.sc (Value.bool false),PV.sc (Value.string (ByteArray.mk #[])),PV.sc (Value.int IntKind.i64 (0:Int))],PV.sc (Value.int IntKind.i64 (2:Int))] []))
    (As (!decide (l.take 7=[104,116,116,112,58,47,47]))
     (some (Bz.mk [PV.agg [PV.sc (Value.bool false),PV.sc (Value.string (ByteArray.mk #[])),PV.sc (Value.int IntKind.i64 (0:Int))],PV.sc (Value.int IntKind.i64 (2:Int))] []))
     (Bv fu (Ae (CP p) prog fu (d+4)) (Aa l) fu (Aa (l.drop 7)) (((Aa (l.drop 7)).size:Nat):Int) (wrap .i64 ((((Aa (l.drop 7)).size:Nat):Int)-1)) false (ByteArray.mk #[]) 0 false (ByteArray.mk #[]) 0)))=some ⟨[.agg [.sc (.bool o1),.sc (.string o2),B9 o3],B9 (if List.isPrefixOf [104,116,116,112,58,47,47] l=true then Us false (l.drop 7) else 2)],[]⟩:=by
    intro _
    by_cases hl7:l.length<7
    · have hn:List.isPrefixOf [104,116,116,112,58,47,47] l=false:=by
        rw[Bool.eq_false_iff,ne_eq,List.isPrefixOf_iff_prefix]
        intro h
        have:=h.length_le
        simp at this
        omega
      rw[dT (show ((l.length:Nat):Int)<((7:Nat):Int) by omega),hn]
      exact⟨_,_,_,rfl⟩
    · rw[dF (show ¬((l.length:Nat):Int)<((7:Nat):Int) by omega)]
      have hp:=UN (w:=[104,116,116,112,58,47,47]) (l:=l) (by simp;omega)
      rw[show ([104,116,116,112,58,47,47]:Am).length=7 from rfl] at hp
      rw[hp]
      cases List.isPrefixOf [104,116,116,112,58,47,47] l
      · exact⟨_,_,_,rfl⟩
      · obtain⟨o1,o2,o3,h⟩:=loop 7 false (by omega)
        exact⟨o1,o2,o3,h⟩
  have x7:(Aa l).extract 0 (Int.toNat ((7:Nat):Int))=Aa (l.take 7):=Rv hB 7
  have y7:(Aa l).extract (Int.toNat ((7:Nat):Int)) l.length=Aa (l.drop 7):=Ss hB 7
  have x8:(Aa l).extract 0 8=Aa (l.take 8):=Rv hB 8
  have x8':(Aa l).extract 0 (Int.toNat ((8:Nat):Int))=Aa (l.take 8):=Rv hB 8
  have y8:(Aa l).extract (Int.toNat ((8:Nat):Int)) l.length=Aa (l.drop 8):=Ss hB 8
  have q7:=U6 (tk 7) hB7
  have q8:=U6 (tk 8) hB8
  by_cases h8:l.length>=8
  · have a1:=dT (q:=((l.length:Nat):Int)>=8) (by omega)
    have a2:=dT (q:=8<=l.length) h8
    have hp:=UN (w:=[104,116,116,112,115,58,47,47]) (l:=l) (by simp;omega)
    rw[show ([104,116,116,112,115,58,47,47]:Am).length=8 from rfl] at hp
    rw[hp] at q8
    have a3:=dT (q:=Int.toNat ((7:Nat):Int)<=l.length) (by omega)
    have a4:=dT (q:=Int.toNat ((8:Nat):Int)<=l.length) (by omega)
    cases h1:List.isPrefixOf [104,116,116,112,115,58,47,47] l
    · rw[h1] at q8
      simp only[Bool.false_eq_true,if_false]
      obtain⟨o1,o2,o3,Sl⟩:=plain h1
      refine⟨o1,o2,o3,er.trans ?_⟩
      rw[e8]
      simp only[A2,A1,Ag,dle,a1,a2,x8,q8,sF]
      simp only[A2,A1,l7,n7,a3,x7,q7,y7] at Sl ⊢
      exact Sl
    · rw[h1] at q8
      simp only[if_true]
      have a5:=dF (q:=((l.length:Nat):Int)<((8:Nat):Int)) (by omega)
      obtain⟨o1,o2,o3,h⟩:=loop 8 true h8
      refine⟨o1,o2,o3,er.trans ?_⟩
      rw[e8]
      simp only[A2,A1,Ag,dle,a1,a2,x8,q8,sT]
      simp only[A2,A1,l8,n8,a5,a4,x8',q8,y8,E1]
      exact h
  · have a1:=dF (q:=((l.length:Nat):Int)>=8) (by omega)
    have h1:List.isPrefixOf [104,116,116,112,115,58,47,47] l=false:=by
      rw[Bool.eq_false_iff,ne_eq,List.isPrefixOf_iff_prefix]
      intro h
      have:=h.length_le
      simp at this
      omega
    rw[h1]
    simp only[Bool.false_eq_true,if_false]
    obtain⟨o1,o2,o3,Sl⟩:=plain h1
    refine⟨o1,o2,o3,er.trans ?_⟩
    simp only[A2,A1,Ag,dle,a1,sF]
    by_cases h7:l.length<7
    · have a2:=dT (q:=((l.length:Nat):Int)<((7:Nat):Int)) (by omega)
      rw[a2] at Sl
      simp only[A2,A1,l7,n7,a2] at Sl ⊢
      exact Sl
    · have a2:=dF (q:=((l.length:Nat):Int)<((7:Nat):Int)) (by omega)
      have a3:=dT (q:=Int.toNat ((7:Nat):Int)<=l.length) (by omega)
      rw[a2] at Sl
      simp only[A2,A1,l7,n7,a2,a3,x7,q7,y7] at Sl ⊢
      exact Sl
end
def fA1:Am:=[123,34,116,121,112,101,34,58,34]
def fA2:Am:=[34,44,34,99,104,97,108,108,101,110,103,101,34,58,34]
def fA3:Am:=[34,44,34,111,114,105,103,105,110,34,58,34]
def fA4:Am:=[34,44,34,99,114,111,115,115,79,114,105,103,105,110,34,58,102,97,108,115,101,125]
def fA5:Am:=[34,44,34,99,114,111,115,115,79,114,105,103,105,110,34,58,116,114,117,101,44,34,116,111,112,79,114,105,103,105,110,34,58,34]
def fA6:Am:=[34,125]
theorem Amm:(ByteArray.mk #[(112:UInt8),(97:UInt8),(115:UInt8),(115:UInt8),(107:UInt8),(101:UInt8),(121:UInt8),(46:UInt8),(99:UInt8),(114:UInt8),(101:UInt8),(97:UInt8),(116:UInt8),(101:UInt8)])=Aa tyC:=rfl
theorem Amt:(ByteArray.mk #[(112:UInt8),(97:UInt8),(115:UInt8),(115:UInt8),(107:UInt8),(101:UInt8),(121:UInt8),(46:UInt8),(103:UInt8),(101:UInt8),(116:UInt8)])=Aa tyG:=rfl
def tyS(k:Int):Option Am:=if k=1 then some tyC else if k=2 then some tyG else none
def fmH(ty ch o:Am):Am:=fA1++ty++fA2++Eo ch++fA3++o
def Arj(k:Int)(ch o t:Am)(x:Bool):JR Am:=
 match tyS k with
 |none=>.error 3
 |some ty=>if ch.length<1\/64<ch.length then .error 9 else if Fc o≠0 then .error (Fc o)
  else if x=false then (if t=[] then .ok (fmH ty ch o++fA4) else .error 4)
  else if Fc t≠0 then .error (Fc t) else .ok (fmH ty ch o++fA5++t++fA6)
section
variable {fu d:Nat}{p:Option (Al->Option Bz)}
abbrev cdA(k:Int)(ch o t:Am)(x:Bool):PV:=.agg [B9 k,.lst false 1 ch.length (Bk .u8 ch),.sc (.string (Aa o)),.sc (.bool x),.sc (.string (Aa t))]
theorem nn0(e:Int)(h:e≠0):(e != 0)=true:=by simp[h]
theorem Aai(k:Int):Ae (CP p) prog fu (d+1) 32 [B9 k]=some ⟨[.sc (.string (Aa ((tyS k).getD [])))],[]⟩:=by
 rw[Tz];unfold tyS;by_cases h1:k=1
 ·subst h1;have k1:((1:Int)==1)=true:=rfl;rw[Bq rfl];simp only[A2,A1,k1];rfl
 have k1:(k==1)=false:=by simp[h1]
 by_cases h2:k=2
 ·subst h2;have k2:((2:Int)==2)=true:=rfl;rw[Bg h1,Bq rfl];simp only[A2,A1,k1,k2];rfl
 have k2:(k==2)=false:=by simp[h2]
 rw[Bg h1,Bg h2];simp only[A2,A1,k1,k2];rfl
end
section
variable {xs:FuncId->Option (Al->Option Bz)}(fu d:Nat)(call:A7)
def Gh(Z Y X:Int)(W:Nat)(V U T:Int)(S:Nat)(Q:Int)(P:Al):Option Bz:=Ri fu call 28 Tryz.f28 [E4 Z,E4 Y,X] [.r,.r,.r,.l,.r,.l] W ⟨lk [(0,E4 V),(1,E4 U),(2,T),(7,.view 7 1 0 S),(8,Q)],H4 [(7,.ar false P)]⟩
theorem G8(T S Q:Int)(P:Nat)(W V Y:Int)(Z:Nat)(U:Int)(X:Al):Gh fu call T S Q (P+1) W V Y Z U X=(As (decide ((↑Z:Int)<Y)) (Ab (wrap .u64 U) fun a=>Fv (call 46 [Ed 1 2 [E4 V,E4 a]]) fun a b=>FJ 1 a fun a c=>Af b<|A6 (decide (0+a*1<=c.length))<|Z1 .u64 (call 47 [E4 W,(5:Int),Ed 1 a (List.take (a*1) (c.drop 0))]) fun a=>Fv (call 46 [Ed 1 1 [E4 a]]) fun a b=>FJ 1 a fun a c=>Af b<|A6 (decide (0+a*1<=c.length))<|A6 (decide (Z*1<=X.length)&&decide (List.length (List.take (a*1) (c.drop 0))=a*1)&&decide ((Z+a)*1<=1099511627776)&&decide (Z+a<=1099511627776))<|Ab (Z+a) fun b=>Ab (List.take (Z*1) X++List.take (a*1) (c.drop 0)) fun a=>Ab (wrap .i64 (U+1)) fun c=>Gh fu call T S Q P W V Y b c a) (A6 (decide (0<=Y))<|A6 (decide (Y.toNat<=Z))<|Ab (Y.toNat-0) fun a=>A6 (decide (a*1<=X.length))<|Cg [.own 1 a (X.take (a*1))])):=by kernel_rfl
theorem Ve{p:Option (Al->Option Bz)}(fu d:Nat)(Y X Z:Int):Ae (CP p) prog fu (d+1) 28 [E4 Y,E4 X,Z]=(fun (call:A7)=>Ab (if Z<0 then 0 else Z) fun a=>Ab (if 1024<a then 1024 else a) fun a=>Gh fu call Y X Z fu Y X a 0 0 ([])) (Ae (CP p) prog fu d):=by kernel_rfl
theorem W0{p:Option (Al->Option Bz)}(fu d:Nat)(Y Z:Int):Ae (CP p) prog fu (d+1) 19 [Y,Z]=(fun (call:A7)=>Ab (wrap .u64 Y) fun a=>Ab (wrap .u64 (a+1)) fun a=>Ab (if 1024<Z then 1024 else Z) fun b=>Ab (if b<0 then 0 else b) fun b=>Fv (call 28 [E4 a,E4 7,b]) fun a b=>FJ 1 a fun a c=>Af b<|A6 (decide (a*1<=c.length))<|Cg [.own 1 a (c.take (a*1))]) (Ae (CP p) prog fu d):=by kernel_rfl
end
section
variable {fu d:Nat}{p:Option (Al->Option Bz)}
theorem A5y(Ce:1000<=fu)(w:Int):Ae (CP p) prog fu (d+1) 46 [.lst false 1 1 [E4 w]]=some ⟨[.own 1 8 (Bk .u8 (Rr w))],[]⟩:=by
 have:=NK (xs:=RQ p) (fu:=fu) (d:=d) (ws:=[w]) (by simp) (by omega) (by simp;omega)
 simp only[G2,Kg,List.flatMap_nil,List.append_nil,Ub,Zzh,Ls] at this;exact this
theorem Am2(Ce:1000<=fu){a0 a1 a2:Int}{key nonce:Int}{n:Nat}(hn:n<=1024):∀(k nn:Nat)(i:Int)(l:Am),n<=l.length+8*k->k<nn->Ct l->l.length<=2000 ->
  0<=i->i+k<=100000->∃r,Ct r/\r.length=n/\Gh fu (Ae (CP p) prog fu (d+4)) a0 a1 a2 nn key nonce (n:Int) l.length i (Bk .u8 l)=some ⟨[.own 1 n (Bk .u8 r)],[]⟩:=by
 intro k
 induction k with
 |zero=>
  intro nn i l h1 h2 hb hl i0 i1;obtain⟨m,rfl⟩:∃m,nn=m+1:=⟨nn-1,by omega⟩
  refine⟨l.take n,hb.take n,by rw[List.length_take];omega,?_⟩
  have L:=C3 .u8 l;have nt:Int.toNat (n:Int)=n:=Kc _;rw[G8]
  repeat(with_reducible(first|apply Be|apply A0|apply Bd|apply Bc|apply Ag4|apply Afu|apply Az|apply Bf|apply Hj);· first|constructor|(simp(disch:=omega)only[Hh,L,nt,Nat.sub_zero,KJ,Vx]<;>first|constructor|omega)|omega)
  try simp(disch:=omega)only[Ab,L,nt,Nat.sub_zero,KJ,Vx]
 |succ k ih=>
  intro nn i l h1 h2 hb hl i0 i1;obtain⟨m,rfl⟩:∃m,nn=m+1:=⟨nn-1,by omega⟩
  have L:=C3 .u8 l;have nt:Int.toNat (n:Int)=n:=Kc _;by_cases Cx:l.length<n
  rotate_left
  ·refine⟨l.take n,hb.take n,by rw[List.length_take];omega,?_⟩
   rw[G8]
   repeat(with_reducible(first|apply Be|apply A0|apply Bd|apply Bc|apply Ag4|apply Afu|apply Az|apply Bf|apply Hj);· first|constructor|(simp(disch:=omega)only[Hh,L,nt,Nat.sub_zero,KJ,Vx]<;>first|constructor|omega)|omega)
   try simp(disch:=omega)only[Ab,L,nt,Nat.sub_zero,KJ,Vx]
  have w1:wrap .u64 i=i:=E9 (by omega) (by omega);have w2:wrap .i64 (i+1)=i+1:=Ar (by omega) (by omega);have wd:Ae (CP p) prog fu (d+4) 46 [.lst false 1 2 [E4 nonce,E4 i]]=some ⟨[.own 1 (G2 [nonce,i]).length (Bk .u8 (G2 [nonce,i]))],[]⟩:=NK (xs:=RQ p) (ws:=[nonce,i]) (by simp) (by omega) (by simp;omega)
  have mc:=Akn (xs:=RQ p) (fu:=fu) (d:=d) (l:=G2 [nonce,i]) (Ahv _) (by rw[HI];simp) (by omega) (by rw[HI];simp;omega) key 5
  have L2:=C3 .u8 (G2 [nonce,i]);have t2:=tki .u8 (G2 [nonce,i]);generalize Awy key 5 (G2 [nonce,i])=q at mc;have ow:=A5y (fu:=fu) (d:=d+3) (p:=p) Ce q;have Lq:(Bk .u8 (Rr q)).length=8:=by rw[C3,Ls]
  have tq:List.take 8 (Bk .u8 (Rr q))=Bk .u8 (Rr q):=FF (by omega);have tl:=tki .u8 l;have ea:Bk .u8 l++Bk .u8 (Rr q)=Bk .u8 (l++Rr q):=by rw[Bk,Bk,Bk,List.flatMap_append]
  obtain⟨r,r1,r2,r3⟩:=ih m (i+1) (l++Rr q) (by rw[LG,Ls];omega) (by omega) (Js hb (Aa0 q)) (by rw[LG,Ls];omega) (by omega) (by omega)
  refine⟨r,r1,r2,?_⟩;rw[LG,Ls] at r3;rw[<-r3,G8];generalize G2 [nonce,i]=W at *
  generalize W.length=wn at *
  repeat(with_reducible(first|apply Be|apply A0|apply Bd|apply Bc|apply Ag4|apply Afu|apply Az|apply Bf|apply Hj);· first|constructor|(simp(disch:=omega)only[Hh,w1,w2,wd,SL,Ob,KJ,L,L2,t2,mc,ow,Lq,tq,tl,ea]<;>first|constructor|omega)|omega)
  try simp(disch:=omega)only[Ab,w1,w2,wd,SL,Ob,KJ,L,L2,t2,mc,ow,Lq,tq,tl,ea]
  all_goals rfl
theorem Aso(Ce:1000<=fu)(seed:Int){n:Nat}(hn:n<=1024):∃r,Ct r/\r.length=n/\Ae (CP p) prog fu (d+6) 19 [B9 seed,B9 n]=some ⟨[.own 1 n (Bk .u8 r)],[]⟩:=by
 obtain⟨r,r1,r2,r3⟩:=Am2 (fu:=fu) (d:=d) (p:=p) Ce (a0:=wrap .u64 (wrap .u64 seed+1)) (a1:=7) (a2:=n) (key:=wrap .u64 (wrap .u64 seed+1)) (nonce:=7) hn 128 fu 0 [] (by omega) (by omega) (by intro x hx;cases hx) (by simp) (by omega) (by omega)
 refine⟨r,r1,r2,?_⟩
 have e:Ae (CP p) prog fu (d+5) 28 [E4 (wrap .u64 (wrap .u64 seed+1)),E4 7,B9 n]=some ⟨[.own 1 n (Bk .u8 r)],[]⟩:=by
  rw[Ve];have f1:(if (n:Int)<0 then (0:Int) else (n:Int))=n:=Bg (by omega);have f2:(if (1024:Int)<(n:Int) then (1024:Int) else (n:Int))=n:=Bg (by omega);simp only[Pg,f1,f2];exact r3
 have f1:(if (n:Int)<0 then (0:Int) else (n:Int))=n:=Bg (by omega);have f2:(if (1024:Int)<(n:Int) then (1024:Int) else (n:Int))=n:=Bg (by omega);have L:=C3 .u8 r;have t:List.take n (Bk .u8 r)=Bk .u8 r:=by rw[<-r2];exact tki .u8 r
 rw[W0];simp(disch:=omega)only[A2,A1,f1,f2,e,KJ,L,t]
def Aol(q:PV):Bool:=match q with | .sc (.string s)=>Nat.ble s.size 40|_=>false
def Apb(q:PV):Bool:=match q with | .sc (.int .i64 n)=>decide (0<=n)&&decide (n<=100)|_=>false
theorem Ajx{L:Al}{i:Nat}{K:ByteArray->Option Bz}{X:Option Bz}(e:X=Ai (List.getD L i PV.top) K)(hL:L.all Aol=true)(hi:i<L.length):∃s:ByteArray,s.size<=40/\X=K s:=by
 have hm:=List.all_eq_true.1 hL (L[i]'hi) (List.getElem_mem hi);rw[List.getD_eq_getElem?_getD,List.getElem?_eq_getElem hi,Option.getD_some] at e;generalize L[i]'hi=q at hm e;unfold Aol at hm;split at hm
 ·rename_i s;exact⟨s,Rc hm,e⟩
 ·cases hm
theorem Aoi{L:Al}{i:Nat}{K:Int->Option Bz}{X:Option Bz}(e:X=Eh .i64 (List.getD L i PV.top) K)(hL:L.all Apb=true)(hi:i<L.length):∃n:Int,0<=n/\n<=100/\X=K n:=by
 have hm:=List.all_eq_true.1 hL (L[i]'hi) (List.getElem_mem hi);rw[List.getD_eq_getElem?_getD,List.getElem?_eq_getElem hi,Option.getD_some] at e;generalize L[i]'hi=q at hm e;unfold Apb at hm;split at hm
 ·rename_i n;rw[Fb,decide_eq_true_iff,decide_eq_true_iff] at hm;exact⟨n,hm.1,hm.2,e.trans (HF .i64 n K)⟩
 ·cases hm
theorem otD(v:Int):∃s:ByteArray,s.size<=40/\Ae (CP p) prog fu (d+2) 20 [B9 v]=some ⟨[.sc (.string s)],[]⟩:=by
 obtain⟨r,h0,h1,hm⟩:=Ahj v 6 (by omega) (by omega);have hm:Ae (CP p) prog fu (d+1) 14 [B9 v,B9 6]=_:=hm;have e:=Qz (p:=p) fu (d+1) v;have a1:=dT (q:=(0:Int)<=r) h0;have a2:=dT (q:=r<6) h1;simp only[A2,A1,hm,a1,a2] at e;obtain⟨s,hs,h⟩:=Ajx e (by kernel_rfl) (by show 0+Int.toNat r*1<6;omega)
 exact⟨s,hs,h⟩
theorem Aow(v:Int):∃s:ByteArray,s.size<=40/\Ae (CP p) prog fu (d+2) 21 [B9 v]=some ⟨[.sc (.string s)],[]⟩:=by
 obtain⟨r,h0,h1,hm⟩:=Ahj v 28 (by omega) (by omega);have hm:Ae (CP p) prog fu (d+1) 14 [B9 v,B9 28]=_:=hm;have e:=Yg (p:=p) fu (d+1) v;have a1:=dT (q:=(0:Int)<=r) h0;have a2:=dT (q:=r<28) h1;simp only[A2,A1,hm,a1,a2] at e;obtain⟨s,hs,h⟩:=Ajx e (by kernel_rfl) (by show 0+Int.toNat r*1<28;omega)
 exact⟨s,hs,h⟩
set_option maxHeartbeats 2000000 in
theorem Aqa{l:Am}(hl:l.length<=maxLen)(a:Nat)(Ce:1000<=fu):∃(k:Int)(ch:Am)(o t:ByteArray)(x:Bool)(a':Nat),Ct ch/\ch.length<=100/\o.size<=100/\t.size<=100 /\
  Ae (CP p) prog fu (d+7) 9 [.pbox (L9 l a)]=some ⟨[.agg [B9 k,.own 1 ch.length (Bk .u8 ch),.sc (.string o),.sc (.bool x),.sc (.string t)]],[L9 l a']⟩:=by
 have e:=Me (p:=p) fu (d+6) l.length (Bk .i64 l) (a:Int);obtain⟨v1,a1,p1,q1,n1⟩:=Hb hl a 6 (by omega) (by omega);have n1:Ae (CP p) prog fu (d+6) 6 [.pbox (L9 l a),B9 6]=_:=n1 (fu:=fu) (d:=d+4) (p:=p);simp only[A2,A1,n1,dT p1,dT q1] at e;obtain⟨k,k0,k1,e⟩:=Aoi e (by kernel_rfl) (by show 0+Int.toNat v1*1<6;omega)
 obtain⟨v2,a2,p2,q2,n2⟩:=Hb hl a1 9 (by omega) (by omega);have n2:Ae (CP p) prog fu (d+6) 6 [.pbox (L9 l a1),B9 9]=_:=n2 (fu:=fu) (d:=d+4) (p:=p);obtain⟨v3,a3,p3,q3,n3⟩:=Hb hl a2 7 (by omega) (by omega);have n3:Ae (CP p) prog fu (d+6) 6 [.pbox (L9 l a2),B9 7]=_:=n3 (fu:=fu) (d:=d+4) (p:=p);simp only[A2,A1,n2,n3,dT p3,dT q3] at e;obtain⟨m,m0,m1,e⟩:=Aoi e (by kernel_rfl) (by show 0+Int.toNat v3*1<7;omega)
 obtain⟨m,rfl⟩:=Int.eq_ofNat_of_zero_le m0;obtain⟨ch,WA,Mz,eb⟩:=Aso (fu:=fu) (d:=d) (p:=p) Ce v2 (n:=m) (by omega);have eb:Ae (CP p) prog fu (d+6) 19 [B9 v2,B9 ((m:Nat):Int)]=_:=eb;obtain⟨v4,a4,p4,q4,n4⟩:=Hb hl a3 6 (by omega) (by omega);have n4:Ae (CP p) prog fu (d+6) 6 [.pbox (L9 l a3),B9 6]=_:=n4 (fu:=fu) (d:=d+4) (p:=p);obtain⟨o,ho,eo⟩:=otD (fu:=fu) (d:=d+4) (p:=p) v4;obtain⟨v5,a5,p5,q5,n5⟩:=Hb hl a4 3 (by omega) (by omega);have n5:Ae (CP p) prog fu (d+6) 6 [.pbox (L9 l a4),B9 3]=_:=n5 (fu:=fu) (d:=d+4) (p:=p);subst Mz;have tk:List.take (ch.length*1) (Bk .u8 ch)=Bk .u8 ch:=FF (by rw[C3];omega)
 have tl:decide (ch.length*1<=List.length (Bk .u8 ch))=true:=by rw[C3];simp
 have big:∀h:ByteArray,h.size<=40->decide (8+h.size<=9223372036854775807)=true/\decide ((ByteArray.mk #[(104:UInt8),(116:UInt8),(116:UInt8),(112:UInt8),(115:UInt8),(58:UInt8),(47:UInt8),(47:UInt8)]++h).size+1<=9223372036854775807)=true/\(ByteArray.mk #[(104:UInt8),(116:UInt8),(116:UInt8),(112:UInt8),(115:UInt8),(58:UInt8),(47:UInt8),(47:UInt8)]++h++ByteArray.mk #[(47:UInt8)]).size<=100:=by
  intro h hh;have e8:(ByteArray.mk #[(104:UInt8),(116:UInt8),(116:UInt8),(112:UInt8),(115:UInt8),(58:UInt8),(47:UInt8),(47:UInt8)]).size=8:=rfl;have e1:(ByteArray.mk #[(47:UInt8)]).size=1:=rfl;refine⟨dT (by omega),dT (by rw[ByteArray.size_append,e8];omega),by rw[ByteArray.size_append,ByteArray.size_append,e8,e1];omega⟩
 have fin:∀(x:Bool) (t:ByteArray) (b:Nat),t.size<=40->∀(Y:Int->PV->Option Bz),True:=fun _ _ _ _ _=>trivial;clear fin;by_cases h2:v5=2
 ·have z:(v5==2)=true:=by simp[h2]
  obtain⟨v6,a6,p6,q6,n6⟩:=Hb hl a5 6 (by omega) (by omega);have n6:Ae (CP p) prog fu (d+6) 6 [.pbox (L9 l a5),B9 6]=_:=n6 (fu:=fu) (d:=d+4) (p:=p);obtain⟨t,ht,et⟩:=otD (fu:=fu) (d:=d+4) (p:=p) v6;obtain⟨v7,a7,p7,q7,n7⟩:=Hb hl a6 12 (by omega) (by omega);have n7:Ae (CP p) prog fu (d+6) 6 [.pbox (L9 l a6),B9 12]=_:=n7 (fu:=fu) (d:=d+4) (p:=p);by_cases h10:v7=10
  ·have z1:(v7==10)=true:=by simp[h10]
   obtain⟨v8,a8,p8,q8,n8⟩:=Hb hl a7 28 (by omega) (by omega);have n8:Ae (CP p) prog fu (d+6) 6 [.pbox (L9 l a7),B9 28]=_:=n8 (fu:=fu) (d:=d+4) (p:=p);obtain⟨h,hh,eh⟩:=Aow (fu:=fu) (d:=d+4) (p:=p) v8;obtain⟨g1,g2,g3⟩:=big h hh;simp only[A2,A1,eb,n4,eo,n5,z,n6,et,n7,z1,n8,eh,g1,g2,tl,tk] at e;exact⟨k,ch,_,t,true,a8,WA,by omega,g3,by omega,e⟩
  have z1:(v7==10)=false:=by simp[h10]
  by_cases h11:v7=11
  ·have z2:(v7==11)=true:=by simp[h11]
   obtain⟨v8,a8,p8,q8,n8⟩:=Hb hl a7 6 (by omega) (by omega);have n8:Ae (CP p) prog fu (d+6) 6 [.pbox (L9 l a7),B9 6]=_:=n8 (fu:=fu) (d:=d+4) (p:=p);obtain⟨t2,ht2,et2⟩:=otD (fu:=fu) (d:=d+4) (p:=p) v8;simp only[A2,A1,eb,n4,eo,n5,z,n6,et,n7,z1,z2,n8,et2,tl,tk] at e;exact⟨k,ch,o,t2,true,a8,WA,by omega,by omega,by omega,e⟩
  have z2:(v7==11)=false:=by simp[h11]
  simp only[A2,A1,eb,n4,eo,n5,z,n6,et,n7,z1,z2,tl,tk] at e;exact⟨k,ch,o,t,true,a7,WA,by omega,by omega,by omega,e⟩
 ·have z:(v5==2)=false:=by simp[h2]
  obtain⟨v7,a7,p7,q7,n7⟩:=Hb hl a5 12 (by omega) (by omega);have n7:Ae (CP p) prog fu (d+6) 6 [.pbox (L9 l a5),B9 12]=_:=n7 (fu:=fu) (d:=d+4) (p:=p);by_cases h10:v7=10
  ·have z1:(v7==10)=true:=by simp[h10]
   obtain⟨v8,a8,p8,q8,n8⟩:=Hb hl a7 28 (by omega) (by omega);have n8:Ae (CP p) prog fu (d+6) 6 [.pbox (L9 l a7),B9 28]=_:=n8 (fu:=fu) (d:=d+4) (p:=p);obtain⟨h,hh,eh⟩:=Aow (fu:=fu) (d:=d+4) (p:=p) v8;obtain⟨g1,g2,g3⟩:=big h hh;simp only[A2,A1,eb,n4,eo,n5,z,n7,z1,n8,eh,g1,g2,tl,tk] at e;exact⟨k,ch,_,_,false,a8,WA,by omega,g3,Nat.zero_le _,e⟩
  have z1:(v7==10)=false:=by simp[h10]
  by_cases h11:v7=11
  ·have z2:(v7==11)=true:=by simp[h11]
   obtain⟨v8,a8,p8,q8,n8⟩:=Hb hl a7 6 (by omega) (by omega);have n8:Ae (CP p) prog fu (d+6) 6 [.pbox (L9 l a7),B9 6]=_:=n8 (fu:=fu) (d:=d+4) (p:=p);obtain⟨t2,ht2,et2⟩:=otD (fu:=fu) (d:=d+4) (p:=p) v8;simp only[A2,A1,eb,n4,eo,n5,z,n7,z1,z2,n8,et2,tl,tk] at e;exact⟨k,ch,o,t2,false,a8,WA,by omega,by omega,by omega,e⟩
  have z2:(v7==11)=false:=by simp[h11]
  simp only[A2,A1,eb,n4,eo,n5,z,n7,z1,z2,tl,tk] at e;exact⟨k,ch,o,_,false,a7,WA,by omega,by omega,Nat.zero_le _,e⟩
end
def DX(c:Int):Bool:=decide (33<=c)&&decide (c<=126)&&c != 34&&c != 92
theorem S3{c:Int}:DX c=true↔33<=c/\c<=126/\c≠34/\c≠92:=by unfold DX;simp;omega
theorem CW(c:Int):∀{l:Am}{x:Int},x∈l->x=c\/∃q∈A8 c l,x∈q
 |a::r,x,hx=>by
  unfold A8;by_cases ha:a=c
  ·rw[Bq ha];rcases List.mem_cons.1 hx with rfl|hx
   ·exact .inl ha
   ·rcases CW c hx with h|⟨q,hq,h⟩
    ·exact .inl h
    ·exact .inr ⟨q,by simp[hq],h⟩
  ·rw[Bg ha];cases hs:A8 c r with
   |nil=>exact absurd hs (Oc c r)
   |cons b t=>
    rcases List.mem_cons.1 hx with rfl|hx
    ·exact .inr ⟨x::b,by simp,by simp⟩
    ·rcases CW c hx with h|⟨q,hq,h⟩
     ·exact .inl h
     ·rw[hs] at hq;rcases List.mem_cons.1 hq with rfl|hq
      ·exact .inr ⟨a::q,by simp,by simp[h]⟩
      ·exact .inr ⟨q,by simp[hq],h⟩
theorem YS{l:Am}(h:Qe l=0):l.all DX=true:=by
 unfold Qe at h;split at h
 ·cases h
 split at h
 ·cases h
 rename_i _ h2
 have h2:(A8 46 l).all Jt=true:=by
  cases hq:(A8 46 l).all Jt
  ·exact absurd hq h2
  ·rfl
 rw[List.all_eq_true];intro x hx;rcases CW 46 hx with rfl|⟨q,hq,hxq⟩
 ·rfl
 ·have hl:=List.all_eq_true.1 h2 q hq;unfold Jt at hl;rw[Fb] at hl;have hb:=List.all_eq_true.1 hl.2 x hxq;unfold XQ Oi at hb;rw[S3];simp at hb;omega
theorem IA{s:Bool}{r:Am}(h:Us s r=0):r.all DX=true:=by
 unfold Us at h;simp only at h;by_cases hh:Qe (Br 58 r)=0
 ·rw[Bg (by simp[hh])] at h;have hc:=YS hh;by_cases hl:(Br 58 r).length=r.length
  ·rwa [Abr 58 r (by omega)] at hc
  ·rw[Bg hl] at h;split at h
   ·rename_i hp
    have hd:(r.drop ((Br 58 r).length+1)).all Oi=true:=by
     have:=hp.1;unfold I4 at this;rw[Fb] at this;exact this.2
    have Cx:(Br 58 r).length<r.length:=by have:=FU 58 r;omega
    have Axp:r[(Br 58 r).length]?=some 58:=by
     obtain⟨c,ZT⟩:∃c,r[(Br 58 r).length]?=some c:=⟨_,List.getElem?_eq_getElem Cx⟩
     have e:r.drop (Br 58 r).length=r.dropWhile (fun x=>x != 58):=by
      have h1:r.takeWhile (fun x=>x != 58)++r.dropWhile (fun x=>x != 58)=r:=List.takeWhile_append_dropWhile;have h2:=congrArg (List.drop (Br 58 r).length) h1;have h3:(List.takeWhile (fun x=>x != 58) r++List.dropWhile (fun x=>x != 58) r).drop (Br 58 r).length=List.dropWhile (fun x=>x != 58) r:=List.drop_left;rw[<-h2];exact h3
     have e2:(r.dropWhile (fun x=>x != 58))[0]?=some c:=by rw[<-e,List.getElem?_drop];simpa using ZT
     cases hdw:r.dropWhile (fun x=>x != 58) with
     |nil=>rw[hdw] at e2;cases e2
     |cons y t=>
      rw[hdw] at e2;have:y=c:=by simpa using e2
      subst this;have hn:=List.head?_dropWhile_not (fun x:Int=>x != 58) r;rw[hdw] at hn;simp at hn;rw[ZT,hn]
    have e:r=Br 58 r++58::r.drop ((Br 58 r).length+1):=by
     have h1:=(List.take_append_drop (Br 58 r).length r).symm;rw[<-Po] at h1;rw[List.getElem?_eq_getElem Cx] at Axp;rw[List.drop_eq_getElem_cons Cx] at h1;have:r[(Br 58 r).length]=58:=by simpa using Axp
     rw[this] at h1;exact h1
    rw[e,List.all_append,hc,List.all_cons]
    have:(r.drop ((Br 58 r).length+1)).all DX=true:=by
     rw[List.all_eq_true] at hd ⊢;intro x hx;have:=(Zo x).1 (hd x hx);rw[S3];omega
    rw[this];rfl
   ·cases h
 ·rw[Bq hh] at h;exact absurd h hh
theorem NI{l:Am}(h:Fc l=0):l.all DX=true:=by
 unfold Fc at h
 have key:∀w:Am,w.all DX=true->w.isPrefixOf l=true->(l.drop w.length).all DX=true->l.all DX=true:=by
  intro w hw hp hd;have e:=List.prefix_iff_eq_append.1 (List.isPrefixOf_iff_prefix.1 hp);rw[<-e,List.all_append,hw,hd];rfl
 split at h
 ·rename_i hp;exact key _ (by decide) hp (IA h)
 split at h
 ·rename_i hp;exact key _ (by decide) hp (IA h)
 ·cases h
theorem I2{v:Int}(h0:0<=v)(h1:v<64):DX (F0 v)=true:=by
 rw[S3];unfold F0;split
 ·omega
 split
 ·omega
 split
 ·omega
 split<;>omega
theorem CL:∀{l:Am},Ct l->(Eo l).all DX=true
 |[],_=>rfl
 |[a],h=>by
  obtain⟨ha,_⟩:=Bi h;unfold Eo;rw[List.all_cons,List.all_cons,I2 (by omega) (by omega),I2 (by omega) (by omega)];rfl
 |[a,b],h=>by
  obtain⟨ha,h⟩:=Bi h;obtain⟨hb,_⟩:=Bi h;unfold Eo;rw[List.all_cons,List.all_cons,List.all_cons,I2 (by omega) (by omega),I2 (by omega) (by omega),I2 (by omega) (by omega)];rfl
 |a::b::c::r,h=>by
  obtain⟨ha,h⟩:=Bi h;obtain⟨hb,h⟩:=Bi h;obtain⟨hc,h⟩:=Bi h;have e:Eo (a::b::c::r)=F0 (a / 4)::F0 (a % 4*16+b / 16)::F0 (b % 16*4+c / 64)::F0 (c % 64)::Eo r:=rfl;rw[e,List.all_cons,List.all_cons,List.all_cons,List.all_cons,I2 (by omega) (by omega),I2 (by omega) (by omega),I2 (by omega) (by omega),I2 (by omega) (by omega),CL h];rfl
theorem IQ:∀(s:Am)(n:Nat)(out r:Am),s.all DX=true->s.length<n->Gf n out (s++34::r)=(some (out++s),r)
  |[],n,out,r,_,hn=>by
    obtain⟨m,rfl⟩:∃m,n=m+1:=⟨n-1,by simp at hn;omega⟩
    show (if (34:Int)<32 then _ else if (34:Int)=34 then (some out,r) else _)=_
    rw[Bg (by decide),Bq rfl,List.append_nil]
  |c::s,n,out,r,h,hn=>by
    obtain⟨m,rfl⟩:∃m,n=m+1:=⟨n-1,by simp at hn;omega⟩
    rw[List.all_cons,Fb] at h
    have hc:=S3.1 h.1
    have e:Gf (m+1) out (c::(s++34::r))=if c<32 then (none,c::(s++34::r)) else if c=34 then (some out,s++34::r) else if c=92 then
        (match Kh (s++34::r) with
         |(some x,r')=>Gf m (out++Lib.encodeRuneZ x) r'
         |(none,r')=>(none,r')) else Gf m (out++[c]) (s++34::r):=rfl
    rw[WM,e,Bg (by omega),Bg (by omega),Bg (by omega),IQ s m (out++[c]) r h.2 (by simp at hn;omega)]
    simp
theorem Qp{s r:Am}(h:s.all DX=true):De (34::(s++34::r))=(some s,r):=by
 have e:De (34::(s++34::r))=if (34:Int)=34 then Gf ((s++34::r).length+1) [] (s++34::r) else (none,34::(s++34::r)):=rfl
 rw[e,Bq rfl,IQ s _ [] r h (by simp;omega)]
 rfl
def VOk(vt:Am)(v:JV):Prop:=(∀r,B3 8 (vt++r)=.ok (v,r))/\∃y z,vt=y::z/\Jr y=false
theorem FV{s:Am}(h:s.all DX=true):VOk (34::(s++[34])) (4,s,false):=by
 refine⟨fun r=>?_,34,_,rfl,rfl⟩;have e:(34::(s++[34]))++r=34::(s++34::r):=by simp
 rw[e];have e2:B3 8 (34::(s++34::r))=(match Tp (34::(s++34::r)) with|none=>.error 2|some (s,r')=>.ok ((4,s,false),r')):=rfl;have e3:Tp (34::(s++34::r))=some (s,r):=by unfold Tp;rw[Qp h]
 rw[e2,e3]
theorem Ac5:VOk [102,97,108,115,101] (2,[],false):=⟨fun r=>rfl,102,_,rfl,rfl⟩
theorem Aia:VOk [116,114,117,101] (2,[],true):=⟨fun r=>rfl,116,_,rfl,rfl⟩
theorem Nd{y:Int}{r:Am}(h:Jr y=false):Ao (y::r)=y::r:=by show (if Jr y=true then Ao r else y::r)=_;rw[Bg (by rw[h];decide)]
def P4(nm vt:Am):Am:=34::(nm++34::58::vt)
theorem V9{n:Nat}{ms:List (Am × JV)}{nm vt:Am}{v:JV}{c:Int}{rest:Am}(hn:nm.all DX=true)(hv:VOk vt v)(hd:(ms.any fun m=>m.1==nm)=false)(hc:c=44\/c=125):
  Jz (B3 8) true (n+1) ms (P4 nm vt++c::rest)=if c=125 then .ok (ms++[(nm,v)],rest) else Jz (B3 8) true n (ms++[(nm,v)]) (Ao rest):=by
 obtain⟨hv,y,z,rfl,hy⟩:=hv;have e:P4 nm (y::z)++c::rest=34::(nm++34::(58::(y::z++c::rest))):=by unfold P4;simp
 have hws:Jr c=false:=by rcases hc with rfl|rfl<;>rfl
 rw[e,G3,Qp hn];simp only;rw[QD,hd,Bg (by decide),Nd (show Jr 58=false from rfl)];have e58:An [58] (58::(y::z++c::rest))=some (y::z++c::rest):=by rw[Ck];rfl
 rw[e58];simp only;rw[WM,Nd hy,<-WM,hv];simp only;rw[Nd hws];rcases hc with rfl|rfl
 ·have e1:An [125] (44::rest)=none:=by rw[Ck];rfl
  have e2:An [44] (44::rest)=some rest:=by rw[Ck];rfl
  rw[e1,e2,Bg (by decide)]
 ·have e1:An [125] (125::rest)=some rest:=by rw[Ck];rfl
  rw[e1,Bq rfl]
def Aqv(ty ch o t:Am)(x:Bool):List (Am × JV):=
 [(K4,(4,ty,false)),(M2,(4,Eo ch,false)),(Yi,(4,o,false)),(AZ,(2,[],x))]++(if x=true then [(Sk,(4,t,false))] else [])
def wsL(w:Am):Prop:=w.all Jr=true
theorem CK:∀{w:Am}(r:Am),wsL w->Ao (w++r)=Ao r
 |[],_,_=>rfl
 |c::w,r,h=>by
  unfold wsL at h;rw[List.all_cons,Fb] at h;show (if Jr c=true then Ao (w++r) else _)=_;rw[Bq h.1];exact CK r h.2
def H9(ty ch o t:Am)(x:Bool):Am:=
 P4 K4 (34::(ty++[34]))++44::(P4 M2 (34::(Eo ch++[34]))++44::(P4 Yi (34::(o++[34]))++44::(P4 AZ (if x=true then [116,114,117,101] else [102,97,108,115,101])++(if x=true then 44::(P4 Sk (34::(t++[34]))++[125]) else [125]))))
theorem VR{ty ch o t:Am}{x:Bool}{w:Am}(hw:wsL w)(hty:ty.all DX=true)(WA:Ct ch)(ho:o.all DX=true)(ht:t.all DX=true):
  BH 8 (w++(123::H9 ty ch o t x)++w)=.ok (Aqv ty ch o t x):=by
 have hww:Ao w=[]:=by
  have:=CK (w:=w) [] hw
  rwa [List.append_nil] at this
 have e0:w++(123::H9 ty ch o t x)++w=w++(123::(H9 ty ch o t x++w)):=by simp
 rw[Lr,e0,CK _ hw,Nd (show Jr 123=false from rfl)];have e1:An [123] (123::(H9 ty ch o t x++w))=some (H9 ty ch o t x++w):=by rw[Ck];rfl
 rw[e1];simp only;have eb:H9 ty ch o t x++w=34::((H9 ty ch o t x++w).tail):=by unfold H9 P4;rfl
 have esk:Ao (H9 ty ch o t x++w)=H9 ty ch o t x++w:=by rw[eb];exact Nd rfl
 have e125:An [125] (H9 ty ch o t x++w)=none:=by rw[eb,Ck];rfl
 rw[Hz,esk,e125];simp only
 obtain⟨N,hN⟩:∃N,(H9 ty ch o t x++w).length+1=N+5:=⟨(H9 ty ch o t x++w).length-4,by
  have:4<=(H9 ty ch o t x++w).length:=by unfold H9 P4;simp;omega
  omega⟩
 rw[hN];have skm:∀nm vt r,Ao (P4 nm vt++r)=P4 nm vt++r:=fun nm vt r=>Nd rfl
 have b1:H9 ty ch o t x++w=P4 K4 (34::(ty++[34]))++44::(P4 M2 (34::(Eo ch++[34]))++44::(P4 Yi (34::(o++[34]))++44::(P4 AZ (if x=true then [116,114,117,101] else [102,97,108,115,101])++((if x=true then 44::(P4 Sk (34::(t++[34]))++[125]) else [125])++w)))):=by
  unfold H9;simp only[Zzv,WM]
 rw[b1,V9 (by decide) (FV hty) rfl (.inl rfl),Bg (by decide),skm,
  V9 (by decide) (FV (CL WA)) rfl (.inl rfl),Bg (by decide),skm,
  V9 (by decide) (FV ho) rfl (.inl rfl),Bg (by decide),skm]
 cases x with
 |false=>
  rw[Bg (by decide),Bg (by decide),WM,Zzq,V9 (by decide) Ac5 rfl (.inr rfl),Bq rfl];simp only[Zzq];rw[Bq hww];rfl
 |true=>
  have es:P4 Sk (34::(t++[34]))++[125]++w=P4 Sk (34::(t++[34]))++125::w:=by simp
  rw[Bq rfl,Bq rfl,WM,es,V9 (by decide) Aia rfl (.inl rfl),Bg (by decide),skm,
   V9 (by decide) (FV ht) rfl (.inr rfl),Bq rfl]
  simp only[Zzq];rw[Bq hww];rfl
theorem OX{ty ch o t:Am}{x:Bool}{k:Int}(hk:tyS k=some ty)(WA:Ct ch)(h1:1<=ch.length)(h2:ch.length<=64)(ho:Fc o=0)(ht:x=true->Fc t=0)(hn:x=false->t=[]):
  DI (Aqv ty ch o t x)=.ok (k,ch,o,x,t):=by
 have fin:∀T:JV,Uk k (4,Eo ch,false) (4,o,false) (2,[],x) (if x=true then (4,t,false) else (0,[],false))=.ok (k,ch,o,x,t):=by
  intro _;unfold Uk;simp only;rw[QB WA];simp only;rw[Bg (by omega),Bg (by simp[ho])];cases x with
  |false=>rw[hn rfl];simp
  |true=>simp[ht rfl]
 have hg:DI (Aqv ty ch o t x)=Jg (4,ty,false) (4,Eo ch,false) (4,o,false) (2,[],x) (if x=true then (4,t,false) else (0,[],false)):=by
  cases x<;>rfl
 rw[hg];unfold Jg;rw[Bg (by simp),Bg (by simp),Bg (by cases x<;>simp)]
 unfold tyS at hk;split at hk
 ·rename_i h;cases hk;subst h
  simp only;rw[Bq trivial];exact fin (0,[],false)
 split at hk
 ·rename_i h;cases hk;subst h
  simp only;rw[Bg (by decide),Bq trivial];exact fin (0,[],false)
 ·cases hk
theorem Aix{k:Int}{ch o t s:Am}{x:Bool}(h:Arj k ch o t x=.ok s):∃ty,tyS k=some ty/\s=123::H9 ty ch o t x/\1<=ch.length/\ch.length<=64/\Fc o=0/\(x=true->Fc t=0)/\(x=false->t=[]):=by
 unfold Arj at h;cases hk:tyS k with
 |none=>rw[hk] at h;cases h
 |some ty=>
  rw[hk] at h;simp only at h;split at h
  ·cases h
  rename_i hl;split at h
  ·cases h
  rename_i ho
  have ho:Fc o=0:=by
   by_cases q:Fc o=0
   ·exact q
   ·exact absurd q ho
  cases x with
  |false=>
   rw[Bq rfl] at h;split at h
   ·rename_i ht;cases h;refine⟨ty,rfl,?_,by omega,by omega,ho,(fun h=>by cases h),fun _=>ht⟩;unfold fmH H9 P4 fA1 fA2 fA3 fA4 K4 M2 Yi AZ;simp
   ·cases h
  |true=>
   rw[Bg (by decide)] at h;split at h
   ·cases h
   ·rename_i ht;cases h
    have ht:Fc t=0:=by
     by_cases q:Fc t=0
     ·exact q
     ·exact absurd q ht
    refine⟨ty,rfl,?_,by omega,by omega,ho,fun _=>ht,(fun h=>by cases h)⟩;unfold fmH H9 P4 fA1 fA2 fA3 fA5 fA6 K4 M2 Yi AZ Sk;simp
theorem VF{l:Am}(h:∀x∈l,0<=x/\x<128):Lib.validD (Aa l).data.toList=true:=by
 have e:(Aa l).data.toList=l.map fun n=>n.toNat.toUInt8:=rfl
 rw[e,Lib.validD_ascii (l.map fun n=>n.toNat.toUInt8).length _ (fun b hb=>by
  have hb:=List.mem_of_mem_take hb;obtain⟨n,hn,rfl⟩:=List.mem_map.1 hb;have:=h n hn;have e2:n.toNat.toUInt8.toNat=n.toNat % 256:=by rw[Nat.toUInt8,UInt8.toNat_ofNat']
  omega),List.drop_length]
 rfl
def asc(l:Am):Prop:=∀y∈l,0<=y/\y<128
theorem Kt{p q:Am}(hp:asc p)(hq:asc q):asc (p++q):=fun y hy=>(Bu.1 hy).elim (hp y) (hq y)
theorem Fx{a:Int}{p:Am}(ha:0<=a/\a<128)(hp:asc p):asc (a::p):=fun y hy=>by
 rcases List.mem_cons.1 hy with rfl|hy
 ·exact ha
 ·exact hp y hy
theorem Aqd{k:Int}{ch o t s w:Am}{x:Bool}(WA:Ct ch)(h:Arj k ch o t x=.ok s)(hw:wsL w)(hl:(w++s++w).length<=1024):Jq (Aa (w++s++w))=.ok (k,ch,o,x,t):=by
 obtain⟨ty,hk,rfl,h1,h2,ho,ht,hn⟩:=Aix h;have oc:=NI ho
 have tc:t.all DX=true:=by
  cases x with
  |true=>exact NI (ht rfl)
  |false=>rw[hn rfl];rfl
 have yc:ty.all DX=true:=by
  unfold tyS at hk;split at hk
  ·cases hk;decide
  split at hk
  ·cases hk;decide
  ·cases hk
 have ec:=CL WA
 have cl128:∀{q:Am},q.all DX=true->∀y∈q,0<=y/\y<128:=fun hq y hy=>by
  have:=S3.1 (List.all_eq_true.1 hq y hy);omega
 have wc:∀y∈w,0<=y/\y<128:=fun y hy=>by
  have:=List.all_eq_true.1 hw y hy;unfold Jr at this;simp at this;omega
 have bc:asc (H9 ty ch o t x):=by
  have v:∀{q:Am},q.all DX=true->asc (34::(q++[34])):=fun hq=>Fx (by decide) (Kt (cl128 hq) (Fx (by decide) (fun _ h=>nomatch h)));have mt:∀{nm vt:Am},asc nm->asc vt->asc (P4 nm vt):=fun h1 h2=>Fx (by decide) (Kt h1 (Fx (by decide) (Fx (by decide) h2)));have nT:asc K4:=by unfold asc K4;decide
  have nC:asc M2:=by unfold asc M2;decide
  have nO:asc Yi:=by unfold asc Yi;decide
  have nX:asc AZ:=by unfold asc AZ;decide
  have nP:asc Sk:=by unfold asc Sk;decide
  have wd:asc [116,114,117,101]:=by unfold asc;decide
  have wf:asc [102,97,108,115,101]:=by unfold asc;decide
  have w1:asc [125]:=by unfold asc;decide
  unfold H9;refine Kt (mt nT (v yc)) (Fx (by decide) (Kt (mt nC (v ec)) (Fx (by decide) (Kt (mt nO (v oc)) (Fx (by decide) (Kt (mt nX ?_) ?_))))))
  ·cases x with
   |true=>exact wd
   |false=>exact wf
  ·cases x with
   |true=>exact Fx (by decide) (Kt (mt nP (v tc)) w1)
   |false=>exact w1
 have all128:∀y∈w++(123::H9 ty ch o t x)++w,0<=y/\y<128:=by
  intro y hy;rcases Bu.1 hy with hy|hy
  ·rcases Bu.1 hy with hy|hy
   ·exact wc y hy
   ·rcases List.mem_cons.1 hy with rfl|hy
    ·omega
    ·exact bc y hy
  ·exact wc y hy
 have hB:Ct (w++(123::H9 ty ch o t x)++w):=fun y hy=>by have:=all128 y hy;omega
 unfold Jq;rw[Ag,Bg (by omega),VF all128,Bg (by decide),Cs hB,VR hw yc WA oc tc];exact OX hk WA h1 h2 ho ht hn
theorem Afs{fu d:Nat}{k:Int}{b o q:Am}{x:Bool}:Ae C1 prog fu (d+1) 13 [cdA k b o q x,cdA k b o q x]=some ⟨[.sc (.bool true)],[]⟩:=by
 refine (J4 (p:=some Dq) fu d k b.length (Bk .u8 b) (Aa o) x (Aa q) k b.length (Bk .u8 b) (Aa o) x (Aa q)).trans ?_;have c2:decide (List.length (Bk .u8 b)=b.length)=true:=by rw[C3];simp
 have c3:=DN b;have c4:(k==k)=true:=by simp
 have c5:(x==x)=true:=by simp
 simp only[A2,A1,c2,c3,c4,c5,Ahi]
section
variable {fu:Nat}
end
theorem Ze:asc []:=fun _ h=>nomatch h
theorem Amd{l:Am}(h:l.all DX=true):asc l:=fun y hy=>by
 have:=S3.1 (List.all_eq_true.1 h y hy);omega
def Qd1(c:Int)(e:Am):Prop:=(∀m out r,Gf (m+1) out (e++r)=Gf m (out++[c]) r)/\asc e/\1<=e.length/\e.length<=6
theorem Anr{c:Int}(h:DX c=true):Qd1 c [c]:=by
  have hc:=S3.1 h
  refine⟨fun m out r=>?_,Fx (by omega) Ze,Cc _,by simp⟩
  have e:Gf (m+1) out (c::r)=if c<32 then (none,c::r) else if c=34 then (some out,r) else if c=92 then
      (match Kh r with
       |(some x,r')=>Gf m (out++Lib.encodeRuneZ x) r'
       |(none,r')=>(none,r')) else Gf m (out++[c]) r:=rfl
  show Gf (m+1) out (c::r)=_
  rw[e,Bg (by omega),Bg (by omega),Bg (by omega)]
structure Qd(s q:Am):Prop where
 rd:∀n out r,s.length<=n->Gf n out (q++r)=Gf (n-s.length) (out++s) r
 asc:asc q
 lo:s.length<=q.length
 hi:q.length<=6*s.length
theorem Qd.nil:Qd [] []:=⟨fun n out r _=>by simp,Ze,Cc _,Cc _⟩
theorem Qd.text{s q:Am}(h:Qd s q)(r:Am):De (34::(q++34::r))=(some s,r):=by
 have e:De (34::(q++34::r))=if (34:Int)=34 then Gf ((q++34::r).length+1) [] (q++34::r) else (none,34::(q++34::r)):=rfl
 have hl:=h.lo;rw[e,Bq rfl,h.rd _ _ _ (by simp;omega)]
 obtain⟨m,hm⟩:∃m,(q++34::r).length+1-s.length=m+1:=⟨(q++34::r).length-s.length,by simp;omega⟩
 rw[hm,Zzq];rfl
theorem Qd.same{s:Am}(h:s.all DX=true):Qd s s where
 rd:=by
  induction s with
  |nil=>intro n out r _;simp
  |cons c s ih=>
   intro n out r hn;rw[List.all_cons,Fb] at h;obtain⟨m,rfl⟩:∃m,n=m+1:=⟨n-1,by simp at hn;omega⟩
   have:=(Anr h.1).1 m out (s++r);rw[show (c::s)++r=[c]++(s++r) from rfl,this,ih h.2 m (out++[c]) r (by simp at hn;omega)]
   simp
 asc:=Amd h
 lo:=Cc _
 hi:=by omega
def Arr(c:Int):Bool:=Jr c||c==44||c==125||c==93
theorem We{c:Int}(h:Arr c=true):c=32\/c=9\/c=10\/c=13\/c=44\/c=125\/c=93:=by unfold Arr Jr at h;simp at h;omega
structure VT(m:Nat)(vt:Am)(v:JV):Prop where
 hd:∃y z,vt=y::z/\Jr y=false
 asc:asc vt
 rd:∀c r,Arr c=true->B3 m (vt++c::r)=.ok (v,c::r)
theorem VT.str{m:Nat}{s q:Am}(h:Qd s q):VT m (34::(q++[34])) (4,s,false) where
 hd:=⟨34,_,rfl,rfl⟩
 asc:=Fx (by decide) (Kt h.asc (Fx (by decide) Ze))
 rd c r _:=by
  have e:(34::(q++[34]))++c::r=34::(q++34::(c::r)):=by simp
  have e2:B3 m (34::(q++34::(c::r)))=(match Tp (34::(q++34::(c::r))) with|none=>.error 2|some (s,r')=>.ok ((4,s,false),r')):=by cases m<;>rfl
  have e3:Tp (34::(q++34::(c::r)))=some (s,c::r):=by unfold Tp;rw[h.text]
  rw[e,e2,e3]
theorem VT.tru{m:Nat}:VT m [116,114,117,101] (2,[],true):=⟨⟨_,_,rfl,rfl⟩,by unfold Pv.asc;decide,fun c r _=>by cases m<;>rfl⟩
theorem VT.nul{m:Nat}:VT m [110,117,108,108] (1,[],false):=⟨⟨_,_,rfl,rfl⟩,by unfold Pv.asc;decide,fun c r _=>by cases m<;>rfl⟩
theorem VT.zero{m:Nat}:VT m [48] (3,[],false):=⟨⟨_,_,rfl,rfl⟩,by unfold Pv.asc;decide,fun c r h=>by rcases We h with rfl|rfl|rfl|rfl|rfl|rfl|rfl<;>cases m<;>rfl⟩
theorem VT.one{m:Nat}:VT m [49] (3,[],false):=⟨⟨_,_,rfl,rfl⟩,by unfold Pv.asc;decide,fun c r h=>by rcases We h with rfl|rfl|rfl|rfl|rfl|rfl|rfl<;>cases m<;>rfl⟩
theorem VT.half{m:Nat}:VT m [45,48,46,53,69,45,51] (3,[],false):=⟨⟨_,_,rfl,rfl⟩,by unfold Pv.asc;decide,fun c r h=>by rcases We h with rfl|rfl|rfl|rfl|rfl|rfl|rfl<;>cases m<;>rfl⟩
theorem VT.big{m:Nat}:VT m [49,101,53] (3,[],false):=⟨⟨_,_,rfl,rfl⟩,by unfold Pv.asc;decide,fun c r h=>by rcases We h with rfl|rfl|rfl|rfl|rfl|rfl|rfl<;>cases m<;>rfl⟩
theorem VT.arr0{m:Nat}:VT (m+1) [91,93] (5,[],false):=⟨⟨_,_,rfl,rfl⟩,by unfold Pv.asc;decide,fun c r _=>rfl⟩
theorem VT.obj0{m:Nat}:VT (m+1) [123,125] (6,[],false):=⟨⟨_,_,rfl,rfl⟩,by unfold Pv.asc;decide,fun c r _=>rfl⟩
theorem VT.qe{m:Nat}:VT m [34,113,92,34,92,117,48,48,101,57,34] (4,[113,34,195,169],false):=⟨⟨_,_,rfl,rfl⟩,by unfold Pv.asc;decide,fun c r _=>by cases m<;>rfl⟩
theorem VT.arr{m:Nat}{vt:Am}{v:JV}(h:VT m vt v):VT (m+1) (91::49::44::(vt++[93])) (5,[],false) where
 hd:=⟨91,_,rfl,rfl⟩
 asc:=Fx (by decide) (Fx (by decide) (Fx (by decide) (Kt h.asc (Fx (by decide) Ze))))
 rd c r hc:=by
  obtain⟨y,z,hyz,hy⟩:=h.hd;have e:(91::49::44::(vt++[93]))++c::r=91::49::44::(vt++93::c::r):=by simp
  have e1:B3 (m+1) (91::49::44::(vt++93::c::r))=(match Xb (B3 m) (49::44::(vt++93::c::r)) with | .error e=>.error e | .ok r'=>.ok ((5,[],false),r')):=rfl;have e2:Xb (B3 m) (49::44::(vt++93::c::r))=Ti (B3 m) ((49::44::(vt++93::c::r)).length+1) (49::44::(vt++93::c::r)):=rfl
  have e3:∀n,Ti (B3 m) (n+1) (49::44::(vt++93::c::r))=Ti (B3 m) n (Ao (vt++93::c::r)):=fun n=>by
   have h1:B3 m (49::44::(vt++93::c::r))=.ok ((3,[],false),44::(vt++93::c::r)):=VT.one.rd 44 _ rfl;have h2:Ti (B3 m) (n+1) (49::44::(vt++93::c::r))=(match B3 m (49::44::(vt++93::c::r)) with | .error e=>.error e | .ok (_,r)=>match Ao r with|93::r'=>.ok r'|44::r'=>Ti (B3 m) n (Ao r')|_=>.error 2):=rfl;rw[h2,h1];rfl
  have e4:∀n,Ti (B3 m) (n+1) (vt++93::c::r)=.ok (c::r):=fun n=>by
   have h2:Ti (B3 m) (n+1) (vt++93::c::r)=(match B3 m (vt++93::c::r) with | .error e=>.error e | .ok (_,r)=>match Ao r with|93::r'=>.ok r'|44::r'=>Ti (B3 m) n (Ao r')|_=>.error 2):=rfl;rw[h2,h.rd 93 (c::r) rfl];rfl
  have e5:Ao (vt++93::c::r)=vt++93::c::r:=by rw[hyz];exact Nd hy
  have e6:(49::44::(vt++93::c::r)).length+1=(vt++93::c::r).length+1+1+1:=by simp
  rw[e,e1,e2,e6,e3,e5,e4]
theorem VT.obj{m:Nat}{vt:Am}{v:JV}(h:VT m vt v):VT (m+1) (123::34::116::121::112::101::34::58::(vt++[32,44,32,34,116,121,112,101,34,32,58,32,49,101,53,125])) (6,[],false) where
 hd:=⟨123,_,rfl,rfl⟩
 asc:=by
  have h1:Pv.asc [123,34,116,121,112,101,34,58]:=by unfold Pv.asc;decide
  have h2:Pv.asc [32,44,32,34,116,121,112,101,34,32,58,32,49,101,53,125]:=by unfold Pv.asc;decide
  exact Kt h1 (Kt h.asc h2)
 rd c r hc:=by
  obtain⟨y,z,hyz,hy⟩:=h.hd;have e:(123::34::116::121::112::101::34::58::(vt++[32,44,32,34,116,121,112,101,34,32,58,32,49,101,53,125]))++c::r=123::(34::([116,121,112,101]++34::(58::(vt++32::44::32::(34::([116,121,112,101]++34::(32::58::32::([49,101,53]++125::c::r)))))))):=by simp
  rw[e];generalize hR2:32::58::32::([49,101,53]++125::c::r)=R2;generalize hR1:32::44::32::(34::([116,121,112,101]++34::R2))=R1;have e1:∀l:Am,B3 (m+1) (123::l)=(match Q2 (B3 m) false l with | .error e=>.error e | .ok (_,r')=>.ok ((6,[],false),r')):=fun _=>rfl;have tn:List.all [116,121,112,101] DX=true:=by decide
  have esk:Ao (34::([116,121,112,101]++34::(58::(vt++R1))))=34::([116,121,112,101]++34::(58::(vt++R1))):=Nd rfl;have ew:An [125] (34::([116,121,112,101]++34::(58::(vt++R1))))=none:=by rw[Ck];rfl
  obtain⟨N,hN⟩:∃N,(34::([116,121,112,101]++34::(58::(vt++R1)))).length+1=N+1+1:=⟨(34::([116,121,112,101]++34::(58::(vt++R1)))).length-1,by simp⟩
  rw[e1,Hz,esk,ew];simp only;have s58:∀l:Am,An [58] (Ao (58::l))=some l:=fun l=>by rw[Nd rfl,Ck];rfl
  have hv:B3 m (Ao (vt++R1))=.ok (v,R1):=by
   have:Ao (vt++R1)=vt++R1:=by rw[hyz];exact Nd hy
   rw[this,<-hR1];exact h.rd 32 _ rfl
  have k1:An [125] (Ao R1)=none:=by rw[<-hR1];rfl
  have k2:An [44] (Ao R1)=some (32::(34::([116,121,112,101]++34::R2))):=by rw[<-hR1];rfl
  have k3:Ao (32::(34::([116,121,112,101]++34::R2)))=34::([116,121,112,101]++34::R2):=rfl;have k4:An [58] (Ao R2)=some (32::([49,101,53]++125::c::r)):=by rw[<-hR2];rfl
  have k5:B3 m (Ao (32::([49,101,53]++125::c::r)))=.ok ((3,[],false),125::c::r):=VT.big.rd 125 (c::r) rfl;have k6:An [125] (Ao (125::c::r))=some (c::r):=rfl;rw[hN,G3,Qp tn];simp only;rw[CS,Bg (by decide),s58];simp only;rw[hv];simp only;rw[k1];simp only;rw[k2];simp only;rw[k3,G3,Qp tn];simp only;rw[CS,Bg (by decide),k4];simp only;rw[k5];simp only;rw[k6]
structure MT(t nm:Am)(v:JV):Prop where
 hd:∃z,t=34::z
 asc:asc t
 rd:∀n ms c r w,wsL w->(c=44\/c=125)->(ms.any fun m=>m.1==nm)=false->Jz (B3 8) true (n+1) ms (t++(w++c::r))=if c=125 then .ok (ms++[(nm,v)],r) else Jz (B3 8) true n (ms++[(nm,v)]) (Ao r)
structure Acc(ms:List (Am × JV))(a:Am):Prop where
 asc:asc a
 rd:∀N r,Jz (B3 8) true (N+ms.length) [] (Ao (a++r))=Jz (B3 8) true N ms (Ao r)
 len:∀r,ms.length+(Ao r).length<=(Ao (a++r)).length
 no:∀r,An [125] (Ao r)=none->An [125] (Ao (a++r))=none
theorem Acc.nil:Acc [] []:=⟨Ze,fun _ _=>rfl,fun _=>by simp,fun _ h=>h⟩
theorem Acc.top{ms:List (Am × JV)}{a w w' t nm w0 w2:Am}{v:JV}(h:Acc ms a)(hw:wsL w)(hw':wsL w')(ht:MT t nm v)(hn:(ms.any fun m=>m.1==nm)=false)(hw0:wsL w0)(hw2:wsL w2):
  BH 8 (w0++123::(a++(w++(t++(w'++125::w2)))))=.ok (ms++[(nm,v)]):=by
 obtain⟨z,hz⟩:=ht.hd;have sk:Ao (w++(t++(w'++125::w2)))=t++(w'++125::w2):=by rw[CK _ hw,hz];exact Nd rfl
 have e1:An [123] (123::(a++(w++(t++(w'++125::w2)))))=some (a++(w++(t++(w'++125::w2)))):=by rw[Ck];rfl
 have e2:An [125] (Ao (a++(w++(t++(w'++125::w2)))))=none:=h.no _ (by rw[sk,hz,WM,Ck];rfl)
 have h1:=h.len (w++(t++(w'++125::w2)))
 have A08:Ao w2=[]:=by
  have:=CK (w:=w2) [] hw2
  rwa [List.append_nil] at this
 obtain⟨N,hN⟩:∃N,(Ao (a++(w++(t++(w'++125::w2))))).length+1=(N+1)+ms.length:=⟨(Ao (a++(w++(t++(w'++125::w2))))).length-ms.length,by omega⟩
 rw[Lr,CK _ hw0,Nd (show Jr 123=false from rfl),e1];simp only;rw[Hz,e2];simp only;rw[hN,h.rd,sk,ht.rd N ms 125 w2 w' hw' (.inr rfl) hn,Bq rfl];simp only;rw[Bq A08]
section
variable {xs:FuncId->Option (Al->Option Bz)}(fu d:Nat)(call:A7)
theorem Vr{p:Option (Al->Option Bz)}(fu d:Nat)(Z:Int):Ae (CP p) prog fu (d+1) 7 [Z]=(fun (call:A7)=>Z1 .i64 (call 14 [Z,(41:Int)]) fun a=>A6 (decide (0<=a)&&decide (a<41))<|Ai (List.getD [.sc (.string (ByteArray.mk #[123])),.sc (.string (ByteArray.mk #[125])),.sc (.string (ByteArray.mk #[91])),.sc (.string (ByteArray.mk #[93])),.sc (.string (ByteArray.mk #[44])),.sc (.string (ByteArray.mk #[58])),.sc (.string (ByteArray.mk #[34])),.sc (.string (ByteArray.mk #[92])),.sc (.string (ByteArray.mk #[34,116,121,112,101,34])),.sc (.string (ByteArray.mk #[34,99,104,97,108,108,101,110,103,101,34])),.sc (.string (ByteArray.mk #[34,111,114,105,103,105,110,34])),.sc (.string (ByteArray.mk #[34,99,114,111,115,115,79,114,105,103,105,110,34])),.sc (.string (ByteArray.mk #[34,116,111,112,79,114,105,103,105,110,34])),.sc (.string (ByteArray.mk #[34,112,97,115,115,107,101,121,46,103,101,116,34])),.sc (.string (ByteArray.mk #[34,65,81,34])),.sc (.string (ByteArray.mk #[34,104,116,116,112,115,58,47,47,97,46,98,34])),.sc (.string (ByteArray.mk #[116,114,117,101])),.sc (.string (ByteArray.mk #[102,97,108,115,101])),.sc (.string (ByteArray.mk #[110,117,108,108])),.sc (.string (ByteArray.mk #[48])),.sc (.string (ByteArray.mk #[45,49])),.sc (.string (ByteArray.mk #[49,46,53,101,43,55])),.sc (.string (ByteArray.mk #[48,49])),.sc (.string (ByteArray.mk #[49,46])),.sc (.string (ByteArray.mk #[32])),.sc (.string (ByteArray.mk #[10])),.sc (.string (ByteArray.mk #[92,117,48,48,52,49])),.sc (.string (ByteArray.mk #[92,117,100,56,51,100,92,117,100,101,48,48])),.sc (.string (ByteArray.mk #[92,117,100,56,48,48])),.sc (.string (ByteArray.mk #[92,47])),.sc (.string (ByteArray.mk #[31])),.sc (.string (ByteArray.mk #[195,169])),.sc (.string (ByteArray.mk #[255])),.sc (.string (ByteArray.mk #[34,120,34])),.sc (.string (ByteArray.mk #[116,114,117])),.sc (.string (ByteArray.mk #[34,104,116,116,112,115,58,92,47,92,47,97,46,98,34])),.sc (.string (ByteArray.mk #[34,116,92,117,48,48,55,57,112,101,34])),.sc (.string (ByteArray.mk #[91,91,91,91,91,91,91])),.sc (.string (ByteArray.mk #[123,34,97,34,58])),.sc (.string (ByteArray.mk #[91,93])),.sc (.string (ByteArray.mk #[123,125]))] (0+a.toNat*1) .top) fun a=>Cg [.sc (.string a)]) (Ae (CP p) prog fu d):=by kernel_rfl
theorem Zv{p:Option (Al->Option Bz)}(fu d Z:Nat)(Y:Al)(X:Int):Ae (CP p) prog fu (d+1) 15 [.pbox [Ed 1 Z Y,X]]=(fun (call:A7)=>Ah (call 6 [.pbox [Ed 1 Z Y,X],(5:Int)]) fun a b=>Au .i64 a fun a=>Ac b fun b c=>K2 1 b fun b e f=>Au .i64 f fun f=>Af c<|A6 (decide (0<=a)&&decide (a<5))<|Ai (List.getD [.sc (.string (ByteArray.mk #[])),.sc (.string (ByteArray.mk #[])),.sc (.string (ByteArray.mk #[32])),.sc (.string (ByteArray.mk #[10,9])),.sc (.string (ByteArray.mk #[13]))] (0+a.toNat*1) .top) fun a=>some ⟨[.sc (.string a)],[[Ed 1 b e,f]]⟩) (Ae (CP p) prog fu d):=by kernel_rfl
def B0(Z:Nat)(Y:Al)(X:Int)(W:ByteArray)(V:Nat)(U T:ByteArray)(S:Int)(Q:Nat)(P:Al)(O:Int):Option Bz:=Ri fu call 16 Tryz.f16 [.pbox [Ed 1 Z Y,X],.sc (.string W)] [.r,.r,.l,.r,.l] V ⟨lk [(0,.ptr 104000 0),(1,.sc (.string U)),(5,.sc (.string T)),(6,S)],H4 [(104000,.st [Ed 1 Q P,O])]⟩
theorem Ei(W:Nat)(V:Al)(U:Int)(T:ByteArray)(S:Nat)(X Z:ByteArray)(Y:Int)(Q:Nat)(P:Al)(O:Int):B0 fu call W V U T (S+1) X Z Y Q P O=(As (decide (Y<(↑(ByteArray.size X):Int))) (A6 (decide (0<=Y))<|Dk ((Array.toList (ByteArray.data X))[Y.toNat]?) fun a=>Ah (call 6 [.pbox [Ed 1 Q P,O],(9:Int)]) fun b c=>Au .i64 b fun b=>Ac c fun c e=>K2 1 c fun c f g=>Au .i64 g fun g=>Af e<|As (b==8) (Ab (S0 .u8 (↑(UInt8.toNat a):Int) 4) fun b=>Ab (S0 .u8 (↑(UInt8.toNat a):Int) 4) fun e=>Ab (wrap .u8 (e+1)) fun e=>A6 (decide (0<=b))<|A6 (decide (0<=e))<|A6 (decide (b.toNat<=e.toNat)&&decide (e.toNat<=16))<|Ab (ByteArray.extract (ByteArray.mk #[48,49,50,51,52,53,54,55,56,57,97,98,99,100,101,102]) b.toNat e.toNat) fun b=>A6 (decide (4+ByteArray.size b<=9223372036854775807))<|Ab (ByteArray.mk #[92,117,48,48]++b) fun b=>Ab (CO .u8 (↑(UInt8.toNat a):Int) 15) fun e=>Ab (CO .u8 (↑(UInt8.toNat a):Int) 15) fun a=>Ab (wrap .u8 (a+1)) fun a=>A6 (decide (0<=e))<|A6 (decide (0<=a))<|A6 (decide (e.toNat<=a.toNat)&&decide (a.toNat<=16))<|Ab (ByteArray.extract (ByteArray.mk #[48,49,50,51,52,53,54,55,56,57,65,66,67,68,69,70]) e.toNat a.toNat) fun a=>A6 (decide (ByteArray.size b+ByteArray.size a<=9223372036854775807))<|Ab (b++a) fun a=>A6 (decide (ByteArray.size Z+ByteArray.size a<=9223372036854775807))<|Ab (Z++a) fun a=>Ab (wrap .i64 (Y+1)) fun b=>B0 fu call W V U T S X a b c f g) (As ((↑(UInt8.toNat a):Int)==47) (Ah (call 6 [.pbox [Ed 1 c f,g],(3:Int)]) fun b c=>Au .i64 b fun b=>Ac c fun c e=>K2 1 c fun c f g=>Au .i64 g fun g=>Af e<|As (b==2) (A6 (decide (ByteArray.size Z+1<=9223372036854775807))<|Ab (Z++ByteArray.mk #[92]) fun b=>A6 (decide (ByteArray.size b+ByteArray.size (ByteArray.mk (List.toArray ((fun x=>Nat.toUInt8 (Int.toNat (↑(UInt8.toNat a):Int))::x) [])))<=9223372036854775807))<|Ab (b++ByteArray.mk (List.toArray ((fun x=>Nat.toUInt8 (Int.toNat (↑(UInt8.toNat a):Int))::x) []))) fun a=>Ab (wrap .i64 (Y+1)) fun b=>B0 fu call W V U T S X a b c f g) (A6 (decide (ByteArray.size Z+ByteArray.size (ByteArray.mk (List.toArray ((fun x=>Nat.toUInt8 (Int.toNat (↑(UInt8.toNat a):Int))::x) [])))<=9223372036854775807))<|Ab (Z++ByteArray.mk (List.toArray ((fun x=>Nat.toUInt8 (Int.toNat (↑(UInt8.toNat a):Int))::x) []))) fun a=>Ab (wrap .i64 (Y+1)) fun b=>B0 fu call W V U T S X a b c f g)) (A6 (decide (ByteArray.size Z+ByteArray.size (ByteArray.mk (List.toArray ((fun x=>Nat.toUInt8 (Int.toNat (↑(UInt8.toNat a):Int))::x) [])))<=9223372036854775807))<|Ab (Z++ByteArray.mk (List.toArray ((fun x=>Nat.toUInt8 (Int.toNat (↑(UInt8.toNat a):Int))::x) []))) fun a=>Ab (wrap .i64 (Y+1)) fun b=>B0 fu call W V U T S X a b c f g))) (A6 (decide (ByteArray.size Z+1<=9223372036854775807))<|Ab (Z++ByteArray.mk #[34]) fun a=>some ⟨[.sc (.string a)],[[Ed 1 Q P,O]]⟩)):=by kernel_rfl
theorem T7{p:Option (Al->Option Bz)}(fu d Z:Nat)(Y:Al)(X:Int)(W:ByteArray):Ae (CP p) prog fu (d+1) 16 [.pbox [Ed 1 Z Y,X],.sc (.string W)]=(fun (call:A7)=>B0 fu call Z Y X W fu W (ByteArray.mk #[34]) 0 Z Y X) (Ae (CP p) prog fu d):=by kernel_rfl
theorem Mj{p:Option (Al->Option Bz)}(fu d:Nat)(Z Y:Int):Ae (CP p) prog fu (d+1) 18 [Z,Y]=(fun (call:A7)=>As (decide (Y>0)) (Ab (CO .i64 Z 1) fun a=>As (a==1) (Ab (wrap .i64 (Int.tdiv Z 2)) fun a=>Ab (wrap .i64 (Y-1)) fun b=>Fv (call 18 [a,b]) fun a b=>Ai a fun a=>Af b<|A6 (decide (3+ByteArray.size a<=9223372036854775807))<|Ab (ByteArray.mk #[91,49,44]++a) fun a=>A6 (decide (ByteArray.size a+1<=9223372036854775807))<|Ab (a++ByteArray.mk #[93]) fun a=>Cg [.sc (.string a)]) (Ab (wrap .i64 (Int.tdiv Z 2)) fun a=>Ab (wrap .i64 (Y-1)) fun b=>Fv (call 18 [a,b]) fun a b=>Ai a fun a=>Af b<|A6 (decide (8+ByteArray.size a<=9223372036854775807))<|Ab (ByteArray.mk #[123,34,116,121,112,101,34,58]++a) fun a=>A6 (decide (ByteArray.size a+16<=9223372036854775807))<|Ab (a++ByteArray.mk #[32,44,32,34,116,121,112,101,34,32,58,32,49,101,53,125]) fun a=>Cg [.sc (.string a)])) (Z1 .i64 (call 14 [Z,(8:Int)]) fun a=>A6 (decide (0<=a)&&decide (a<8))<|Ai (List.getD [.sc (.string (ByteArray.mk #[110,117,108,108])),.sc (.string (ByteArray.mk #[34,113,92,34,92,117,48,48,101,57,34])),.sc (.string (ByteArray.mk #[45,48,46,53,69,45,51])),.sc (.string (ByteArray.mk #[116,114,117,101])),.sc (.string (ByteArray.mk #[91,93])),.sc (.string (ByteArray.mk #[123,125])),.sc (.string (ByteArray.mk #[48])),.sc (.string (ByteArray.mk #[34,34]))] (0+a.toNat*1) .top) fun a=>Cg [.sc (.string a)])) (Ae (CP p) prog fu d):=by kernel_rfl
def B5(Z:Nat)(Y:Al)(X W:Int)(V:Nat)(U:Al)(T:ByteArray)(S:Bool)(Q:ByteArray)(P O:Nat)(N:Int)(M:Nat)(L:Al)(K:Int)(J:Al):Option Bz:=Ri fu call 8 Tryz.f8 [.pbox [Ed 1 Z Y,X],.agg [W,Ed 1 V U,.sc (.string T),.sc (.bool S),.sc (.string Q)]] [.r,.r,.r,.r,.r,.l,.r,.l] P ⟨lk [(0,.ptr 248000 0),(6,.view 6 1 0 O),(7,N)],H4 [(248000,.st [Ed 1 M L,K]),(6,.ar false J)]⟩
def Em(Z:Nat)(Y:Al)(X W:Int)(V:Nat)(U:Al)(T:ByteArray)(S:Bool)(Q:ByteArray)(P O:Nat)(N:ByteArray)(M:Int)(L:Nat)(K:Al)(J:Int)(I:Al):Option Bz:=Ri fu call 8 Tryz.f8 [.pbox [Ed 1 Z Y,X],.agg [W,Ed 1 V U,.sc (.string T),.sc (.bool S),.sc (.string Q)]] [.r,.r,.r,.r,.r,.r,.r,.l,.r,.l] P ⟨lk [(0,.ptr 248000 0),(6,.view 6 1 0 O),(8,.sc (.string N)),(9,M)],H4 [(248000,.st [Ed 1 L K,J]),(6,.ar false I)]⟩
theorem I7(X:Nat)(W:Al)(V U:Int)(T:Nat)(S:Al)(Q:ByteArray)(P:Bool)(O:ByteArray)(J Z:Nat)(Y:Int)(N:Nat)(M:Al)(L:Int)(K:Al):B5 fu call X W V U T S Q P O (J+1) Z Y N M L K=(As (decide (Y>0)) (Ab (wrap .i64 (48+Y)) fun a=>Ab (wrap .u8 a) fun a=>Ab (ByteArray.mk #[120]++ByteArray.mk (List.toArray ((fun x=>Nat.toUInt8 a.toNat::x) []))) fun a=>Ah (call 16 [.pbox [Ed 1 N M,L],.sc (.string a)]) fun a b=>Ac a fun a c=>Ai a fun a=>Af c<|Ac b fun b c=>K2 1 b fun b e f=>Au .i64 f fun f=>Af c<|A6 (decide (ByteArray.size a+1<=9223372036854775807))<|Ab (a++ByteArray.mk #[58]) fun a=>Ah (call 6 [.pbox [Ed 1 b e,f],(64:Int)]) fun b c=>Au .i64 b fun b=>Ac c fun c e=>K2 1 c fun c f g=>Au .i64 g fun g=>Af e<|Ah (call 6 [.pbox [Ed 1 c f,g],(8:Int)]) fun c e=>Au .i64 c fun c=>Ac e fun e f=>K2 1 e fun e g h=>Au .i64 h fun h=>Af f<|Fv (call 18 [b,c]) fun b c=>Ai b fun b=>Af c<|A6 (decide (ByteArray.size a+ByteArray.size b<=9223372036854775807))<|Ab (a++b) fun a=>ZzA Z 1 16 K [.sc (.string a)] fun a b=>Ab (wrap .i64 (Y-1)) fun c=>B5 fu call X W V U T S Q P O J a c e g h b) (Ah (call 15 [.pbox [Ed 1 N M,L]]) fun a b=>Ac a fun a c=>Ai a fun a=>Af c<|Ac b fun b c=>K2 1 b fun b e f=>Au .i64 f fun f=>Af c<|A6 (decide (ByteArray.size a+1<=9223372036854775807))<|Ab (a++ByteArray.mk #[123]) fun a=>Em fu call X W V U T S Q P O fu Z a (↑Z:Int) b e f K)):=by kernel_rfl
theorem I8(V:Nat)(U:Al)(T S:Int)(Q:Nat)(P:Al)(O:ByteArray)(N:Bool)(M:ByteArray)(L Y:Nat)(X:ByteArray)(Z:Int)(K:Nat)(J:Al)(I:Int)(W:Al):Em fu call V U T S Q P O N M (L+1) Y X Z K J I W=(As (decide (Z>0)) (Ah (call 6 [.pbox [Ed 1 K J,I],Z]) fun a b=>Au .i64 a fun a=>Ac b fun b c=>K2 1 b fun b e f=>Au .i64 f fun f=>Af c<|Ah (call 15 [.pbox [Ed 1 b e,f]]) fun b c=>Ac b fun b e=>Ai b fun b=>Af e<|Ac c fun c e=>K2 1 c fun c f g=>Au .i64 g fun g=>Af e<|A6 (decide (0<=a)&&decide (a<(↑Y:Int)))<|Ai (W.getD (0+a.toNat*1) .top) fun e=>A6 (decide (ByteArray.size b+ByteArray.size e<=9223372036854775807))<|Ab (b++e) fun b=>Ah (call 15 [.pbox [Ed 1 c f,g]]) fun c e=>Ac c fun c f=>Ai c fun c=>Af f<|Ac e fun e f=>K2 1 e fun e g h=>Au .i64 h fun h=>Af f<|A6 (decide (ByteArray.size b+ByteArray.size c<=9223372036854775807))<|Ab (b++c) fun b=>A6 (decide (ByteArray.size X+ByteArray.size b<=9223372036854775807))<|Ab (X++b) fun b=>Ab (wrap .i64 (Z-1)) fun c=>A6 (decide (0<=c)&&decide (c<(↑Y:Int)))<|Ai (W.getD (0+c.toNat*1) .top) fun c=>A6 (decide (0<=a)&&decide (a<(↑Y:Int)))<|A6 (decide (0+a.toNat*1+1<=W.length))<|Ab (Cw W [.sc (.string c)] (0+a.toNat*1)) fun a=>As (decide (Z>1)) (A6 (decide (ByteArray.size b+1<=9223372036854775807))<|Ab (b++ByteArray.mk #[44]) fun b=>Ab (wrap .i64 (Z-1)) fun c=>Em fu call V U T S Q P O N M L Y b c e g h a) (Ab (wrap .i64 (Z-1)) fun c=>Em fu call V U T S Q P O N M L Y b c e g h a)) (A6 (decide (ByteArray.size X+1<=9223372036854775807))<|Ab (X++ByteArray.mk #[125]) fun a=>Ah (call 15 [.pbox [Ed 1 K J,I]]) fun b c=>Ac b fun b e=>Ai b fun b=>Af e<|Ac c fun c e=>K2 1 c fun c f g=>Au .i64 g fun g=>Af e<|A6 (decide (ByteArray.size a+ByteArray.size b<=9223372036854775807))<|Ab (a++b) fun a=>some ⟨[.sc (.string a)],[[Ed 1 c f,g]]⟩)):=by kernel_rfl
theorem Sz{p:Option (Al->Option Bz)}(fu d Z:Nat)(Y:Al)(X Q:Int)(W:Nat)(V:Al)(U:ByteArray)(T:Bool)(S:ByteArray):Ae (CP p) prog fu (d+1) 8 [.pbox [Ed 1 Z Y,X],.agg [Q,Ed 1 W V,.sc (.string U),.sc (.bool T),.sc (.string S)]]=(fun (call:A7)=>As (Q==1) (Ah (call 15 [.pbox [Ed 1 Z Y,X]]) fun a b=>Ac a fun a c=>Ai a fun a=>Af c<|Ac b fun b c=>K2 1 b fun b e f=>Au .i64 f fun f=>Af c<|A6 (decide (6+ByteArray.size a<=9223372036854775807))<|Ab (ByteArray.mk #[34,116,121,112,101,34]++a) fun a=>A6 (decide (ByteArray.size a+1<=9223372036854775807))<|Ab (a++ByteArray.mk #[58]) fun a=>Ah (call 15 [.pbox [Ed 1 b e,f]]) fun b c=>Ac b fun b e=>Ai b fun b=>Af e<|Ac c fun c e=>K2 1 c fun c f g=>Au .i64 g fun g=>Af e<|A6 (decide (ByteArray.size a+ByteArray.size b<=9223372036854775807))<|Ab (a++b) fun a=>Ah (call 16 [.pbox [Ed 1 c f,g],.sc (.string (ByteArray.mk #[112,97,115,115,107,101,121,46,99,114,101,97,116,101]))]) fun b c=>Ac b fun b e=>Ai b fun b=>Af e<|Ac c fun c e=>K2 1 c fun c f g=>Au .i64 g fun g=>Af e<|A6 (decide (ByteArray.size a+ByteArray.size b<=9223372036854775807))<|Ab (a++b) fun a=>Ah (call 16 [.pbox [Ed 1 c f,g],.sc (.string (ByteArray.mk #[99,104,97,108,108,101,110,103,101]))]) fun b c=>Ac b fun b e=>Ai b fun b=>Af e<|Ac c fun c e=>K2 1 c fun c f g=>Au .i64 g fun g=>Af e<|A6 (decide (ByteArray.size b+1<=9223372036854775807))<|Ab (b++ByteArray.mk #[58]) fun b=>Fv (call 17 [Ed 1 W V]) fun e h=>Ai e fun e=>Af h<|Ah (call 16 [.pbox [Ed 1 c f,g],.sc (.string e)]) fun c e=>Ac c fun c f=>Ai c fun c=>Af f<|Ac e fun e f=>K2 1 e fun e g h=>Au .i64 h fun h=>Af f<|A6 (decide (ByteArray.size b+ByteArray.size c<=9223372036854775807))<|Ab (b++c) fun b=>Ah (call 15 [.pbox [Ed 1 e g,h]]) fun c e=>Ac c fun c f=>Ai c fun c=>Af f<|Ac e fun e f=>K2 1 e fun e g h=>Au .i64 h fun h=>Af f<|A6 (decide (9+ByteArray.size c<=9223372036854775807))<|Ab (ByteArray.mk #[34,111,114,105,103,105,110,34,58]++c) fun c=>Ah (call 16 [.pbox [Ed 1 e g,h],.sc (.string U)]) fun e f=>Ac e fun e g=>Ai e fun e=>Af g<|Ac f fun f g=>K2 1 f fun f h i=>Au .i64 i fun i=>Af g<|A6 (decide (ByteArray.size c+ByteArray.size e<=9223372036854775807))<|Ab (c++e) fun c=>As T (Ah (call 16 [.pbox [Ed 1 f h,i],.sc (.string S)]) fun e f=>Ac e fun e g=>Ai e fun e=>Af g<|Ac f fun f g=>K2 1 f fun f h i=>Au .i64 i fun i=>Af g<|A6 (decide (12+ByteArray.size e<=9223372036854775807))<|Ab (ByteArray.mk #[34,116,111,112,79,114,105,103,105,110,34,58]++e) fun e=>Ah (call 6 [.pbox [Ed 1 f h,i],(3:Int)]) fun f g=>Au .i64 f fun f=>Ac g fun g h=>K2 1 g fun g i j=>Au .i64 j fun j=>Af h<|B5 fu call Z Y X Q W V U T S fu 5 f g i j ([.sc (.string a),.sc (.string b),.sc (.string c),.sc (.string (ByteArray.mk #[34,99,114,111,115,115,79,114,105,103,105,110,34,58,116,114,117,101])),.sc (.string e)])) (Ah (call 6 [.pbox [Ed 1 f h,i],(2:Int)]) fun e f=>Au .i64 e fun e=>Ac f fun f g=>K2 1 f fun f h i=>Au .i64 i fun i=>Af g<|As (e==1) (Ah (call 6 [.pbox [Ed 1 f h,i],(3:Int)]) fun e f=>Au .i64 e fun e=>Ac f fun f g=>K2 1 f fun f h i=>Au .i64 i fun i=>Af g<|B5 fu call Z Y X Q W V U T S fu 4 e f h i ([.sc (.string a),.sc (.string b),.sc (.string c),.sc (.string (ByteArray.mk #[34,99,114,111,115,115,79,114,105,103,105,110,34,58,102,97,108,115,101]))])) (Ah (call 6 [.pbox [Ed 1 f h,i],(3:Int)]) fun e f=>Au .i64 e fun e=>Ac f fun f g=>K2 1 f fun f h i=>Au .i64 i fun i=>Af g<|B5 fu call Z Y X Q W V U T S fu 3 e f h i ([.sc (.string a),.sc (.string b),.sc (.string c)])))) (Ah (call 15 [.pbox [Ed 1 Z Y,X]]) fun a b=>Ac a fun a c=>Ai a fun a=>Af c<|Ac b fun b c=>K2 1 b fun b e f=>Au .i64 f fun f=>Af c<|A6 (decide (6+ByteArray.size a<=9223372036854775807))<|Ab (ByteArray.mk #[34,116,121,112,101,34]++a) fun a=>A6 (decide (ByteArray.size a+1<=9223372036854775807))<|Ab (a++ByteArray.mk #[58]) fun a=>Ah (call 15 [.pbox [Ed 1 b e,f]]) fun b c=>Ac b fun b e=>Ai b fun b=>Af e<|Ac c fun c e=>K2 1 c fun c f g=>Au .i64 g fun g=>Af e<|A6 (decide (ByteArray.size a+ByteArray.size b<=9223372036854775807))<|Ab (a++b) fun a=>Ah (call 16 [.pbox [Ed 1 c f,g],.sc (.string (ByteArray.mk #[112,97,115,115,107,101,121,46,103,101,116]))]) fun b c=>Ac b fun b e=>Ai b fun b=>Af e<|Ac c fun c e=>K2 1 c fun c f g=>Au .i64 g fun g=>Af e<|A6 (decide (ByteArray.size a+ByteArray.size b<=9223372036854775807))<|Ab (a++b) fun a=>Ah (call 16 [.pbox [Ed 1 c f,g],.sc (.string (ByteArray.mk #[99,104,97,108,108,101,110,103,101]))]) fun b c=>Ac b fun b e=>Ai b fun b=>Af e<|Ac c fun c e=>K2 1 c fun c f g=>Au .i64 g fun g=>Af e<|A6 (decide (ByteArray.size b+1<=9223372036854775807))<|Ab (b++ByteArray.mk #[58]) fun b=>Fv (call 17 [Ed 1 W V]) fun e h=>Ai e fun e=>Af h<|Ah (call 16 [.pbox [Ed 1 c f,g],.sc (.string e)]) fun c e=>Ac c fun c f=>Ai c fun c=>Af f<|Ac e fun e f=>K2 1 e fun e g h=>Au .i64 h fun h=>Af f<|A6 (decide (ByteArray.size b+ByteArray.size c<=9223372036854775807))<|Ab (b++c) fun b=>Ah (call 15 [.pbox [Ed 1 e g,h]]) fun c e=>Ac c fun c f=>Ai c fun c=>Af f<|Ac e fun e f=>K2 1 e fun e g h=>Au .i64 h fun h=>Af f<|A6 (decide (9+ByteArray.size c<=9223372036854775807))<|Ab (ByteArray.mk #[34,111,114,105,103,105,110,34,58]++c) fun c=>Ah (call 16 [.pbox [Ed 1 e g,h],.sc (.string U)]) fun e f=>Ac e fun e g=>Ai e fun e=>Af g<|Ac f fun f g=>K2 1 f fun f h i=>Au .i64 i fun i=>Af g<|A6 (decide (ByteArray.size c+ByteArray.size e<=9223372036854775807))<|Ab (c++e) fun c=>As T (Ah (call 16 [.pbox [Ed 1 f h,i],.sc (.string S)]) fun e f=>Ac e fun e g=>Ai e fun e=>Af g<|Ac f fun f g=>K2 1 f fun f h i=>Au .i64 i fun i=>Af g<|A6 (decide (12+ByteArray.size e<=9223372036854775807))<|Ab (ByteArray.mk #[34,116,111,112,79,114,105,103,105,110,34,58]++e) fun e=>Ah (call 6 [.pbox [Ed 1 f h,i],(3:Int)]) fun f g=>Au .i64 f fun f=>Ac g fun g h=>K2 1 g fun g i j=>Au .i64 j fun j=>Af h<|B5 fu call Z Y X Q W V U T S fu 5 f g i j ([.sc (.string a),.sc (.string b),.sc (.string c),.sc (.string (ByteArray.mk #[34,99,114,111,115,115,79,114,105,103,105,110,34,58,116,114,117,101])),.sc (.string e)])) (Ah (call 6 [.pbox [Ed 1 f h,i],(2:Int)]) fun e f=>Au .i64 e fun e=>Ac f fun f g=>K2 1 f fun f h i=>Au .i64 i fun i=>Af g<|As (e==1) (Ah (call 6 [.pbox [Ed 1 f h,i],(3:Int)]) fun e f=>Au .i64 e fun e=>Ac f fun f g=>K2 1 f fun f h i=>Au .i64 i fun i=>Af g<|B5 fu call Z Y X Q W V U T S fu 4 e f h i ([.sc (.string a),.sc (.string b),.sc (.string c),.sc (.string (ByteArray.mk #[34,99,114,111,115,115,79,114,105,103,105,110,34,58,102,97,108,115,101]))])) (Ah (call 6 [.pbox [Ed 1 f h,i],(3:Int)]) fun e f=>Au .i64 e fun e=>Ac f fun f g=>K2 1 f fun f h i=>Au .i64 i fun i=>Af g<|B5 fu call Z Y X Q W V U T S fu 3 e f h i ([.sc (.string a),.sc (.string b),.sc (.string c)]))))) (Ae (CP p) prog fu d):=by kernel_rfl
end
def MW(n:Int):Int:=if n<10 then 48+n else 87+n
def hxu(n:Int):Int:=if n<10 then 48+n else 55+n
theorem An1:∀n:Fin 16,(ByteArray.mk #[(48:UInt8),(49:UInt8),(50:UInt8),(51:UInt8),(52:UInt8),(53:UInt8),(54:UInt8),(55:UInt8),(56:UInt8),(57:UInt8),(97:UInt8),(98:UInt8),(99:UInt8),(100:UInt8),(101:UInt8),(102:UInt8)]).extract n.val (n.val+1)=Aa [MW (n.val:Int)]/\Wu (MW (n.val:Int))=some (n.val:Int):=by decide +kernel
theorem Ali:∀n:Fin 16,(ByteArray.mk #[(48:UInt8),(49:UInt8),(50:UInt8),(51:UInt8),(52:UInt8),(53:UInt8),(54:UInt8),(55:UInt8),(56:UInt8),(57:UInt8),(65:UInt8),(66:UInt8),(67:UInt8),(68:UInt8),(69:UInt8),(70:UInt8)]).extract n.val (n.val+1)=Aa [hxu (n.val:Int)]/\Wu (hxu (n.val:Int))=some (n.val:Int):=by decide +kernel
theorem Ama:∀n:Fin 256,S0 .u8 (n.val:Int) 4=(n.val:Int) / 16/\CO .u8 (n.val:Int) 15=(n.val:Int) % 16:=by decide +kernel
theorem nib{c:Int}(h:0<=c/\c<=255):S0 .u8 c 4=c / 16/\CO .u8 c 15=c % 16:=by obtain⟨n,rfl⟩:=Int.eq_ofNat_of_zero_le h.1;exact Ama ⟨n,by omega⟩
theorem Arn{n:Int}(h0:0<=n)(h1:n<16):(ByteArray.mk #[(48:UInt8),(49:UInt8),(50:UInt8),(51:UInt8),(52:UInt8),(53:UInt8),(54:UInt8),(55:UInt8),(56:UInt8),(57:UInt8),(97:UInt8),(98:UInt8),(99:UInt8),(100:UInt8),(101:UInt8),(102:UInt8)]).extract (Int.toNat n) (Int.toNat (n+1))=Aa [MW n]/\Wu (MW n)=some n:=by obtain⟨k,rfl⟩:=Int.eq_ofNat_of_zero_le h0;have:=An1 ⟨k,by omega⟩;simp only at this;rw[Kc,show Int.toNat ((k:Int)+1)=k+1 by omega];exact this
theorem Aqp{n:Int}(h0:0<=n)(h1:n<16):(ByteArray.mk #[(48:UInt8),(49:UInt8),(50:UInt8),(51:UInt8),(52:UInt8),(53:UInt8),(54:UInt8),(55:UInt8),(56:UInt8),(57:UInt8),(65:UInt8),(66:UInt8),(67:UInt8),(68:UInt8),(69:UInt8),(70:UInt8)]).extract (Int.toNat n) (Int.toNat (n+1))=Aa [hxu n]/\Wu (hxu n)=some n:=by obtain⟨k,rfl⟩:=Int.eq_ofNat_of_zero_le h0;have:=Ali ⟨k,by omega⟩;simp only at this;rw[Kc,show Int.toNat ((k:Int)+1)=k+1 by omega];exact this
section
variable {fu d:Nat}{p:Option (Al->Option Bz)}
theorem spD{l:Am}(hl:l.length<=maxLen)(a:Nat):∃(w:Am)(a':Nat),wsL w/\w.length<=2/\Ae (CP p) prog fu (d+3) 15 [.pbox (L9 l a)]=some ⟨[.sc (.string (Aa w))],[L9 l a']⟩:=by
 have e:=Zv (p:=p) fu (d+2) l.length (Bk .i64 l) (a:Int);obtain⟨v,a',p1,q1,n1⟩:=Hb hl a 5 (by omega) (by omega);have n1:Ae (CP p) prog fu (d+2) 6 [.pbox (L9 l a),B9 5]=_:=n1 (fu:=fu) (d:=d) (p:=p);simp only[A2,A1,n1,dT p1,dT q1] at e;have hv:v=0\/v=1\/v=2\/v=3\/v=4:=by omega
 rcases hv with rfl|rfl|rfl|rfl|rfl
 ·exact⟨[],a',rfl,by decide,e⟩
 ·exact⟨[],a',rfl,by decide,e⟩
 ·exact⟨[32],a',rfl,by decide,e⟩
 ·exact⟨[10,9],a',rfl,by decide,e⟩
 ·exact⟨[13],a',rfl,by decide,e⟩
end
section
variable {fu d:Nat}{p:Option (Al->Option Bz)}
theorem Afi:∀(k:Nat)(n:Int),k<=1000->∃(vt:Am)(v:JV),(∀m,k<m->VT m vt v)/\vt.length<=24*k+12/\Ae (CP p) prog fu (d+k+2) 18 [B9 n,B9 (k:Int)]=some ⟨[.sc (.string (Aa vt))],[]⟩
 |0,n,_=>by
  obtain⟨r,h0,h1,hm⟩:=Ahj n 8 (by omega) (by omega);have hm:Ae (CP p) prog fu (d+0+1) 14 [B9 n,B9 8]=_:=hm;have e:=Mj (p:=p) fu (d+0+1) n 0;have a0:decide ((0:Int)>0)=false:=rfl;have a1:=dT (q:=(0:Int)<=r) h0;have a2:=dT (q:=r<8) h1;simp only[A2,A1,hm,a0,a1,a2] at e;have hr:r=0\/r=1\/r=2\/r=3\/r=4\/r=5\/r=6\/r=7:=by omega
  rcases hr with rfl|rfl|rfl|rfl|rfl|rfl|rfl|rfl
  ·exact⟨_,_,fun m _=>VT.nul,by decide,e⟩
  ·exact⟨_,_,fun m _=>VT.qe,by decide,e⟩
  ·exact⟨_,_,fun m _=>VT.half,by decide,e⟩
  ·exact⟨_,_,fun m _=>VT.tru,by decide,e⟩
  ·exact⟨[91,93],_,fun m h=>by obtain⟨j,rfl⟩:∃j,m=j+1:=⟨m-1,by omega⟩;exact VT.arr0,by decide,e⟩
  ·exact⟨[123,125],_,fun m h=>by obtain⟨j,rfl⟩:∃j,m=j+1:=⟨m-1,by omega⟩;exact VT.obj0,by decide,e⟩
  ·exact⟨_,_,fun m _=>VT.zero,by decide,e⟩
  ·exact⟨[34,34],_,fun m _=>VT.str Qd.nil,by decide,e⟩
 |k+1,n,hk=>by
  obtain⟨vt,v,h1,h2,h3⟩:=Afi k (wrap .i64 (Int.tdiv n 2)) (by omega);have h3:Ae (CP p) prog fu (d+(k+1)+1) 18 [B9 (wrap .i64 (Int.tdiv n 2)),B9 (k:Int)]=_:=h3;have e:=Mj (p:=p) fu (d+(k+1)+1) n ((k+1:Nat):Int);have a0:decide (((k+1:Nat):Int)>0)=true:=dT (by omega);have a1:wrap .i64 (((k+1:Nat):Int)-1)=(k:Int):=by rw[Ar (by omega) (by omega)];omega
  have l1:ByteArray.mk #[(91:UInt8),(49:UInt8),(44:UInt8)]=Aa [91,49,44]:=rfl;have l2:ByteArray.mk #[(93:UInt8)]=Aa [93]:=rfl;have l3:ByteArray.mk #[(123:UInt8),(34:UInt8),(116:UInt8),(121:UInt8),(112:UInt8),(101:UInt8),(34:UInt8),(58:UInt8)]=Aa [123,34,116,121,112,101,34,58]:=rfl;have l4:ByteArray.mk #[(32:UInt8),(44:UInt8),(32:UInt8),(34:UInt8),(116:UInt8),(121:UInt8),(112:UInt8),(101:UInt8),(34:UInt8),(32:UInt8),(58:UInt8),(32:UInt8),(49:UInt8),(101:UInt8),(53:UInt8),(125:UInt8)]=Aa [32,44,32,34,116,121,112,101,34,32,58,32,49,101,53,125]:=rfl;have c1:decide (3+vt.length<=9223372036854775807)=true:=dT (by omega);have c2:decide (([91,49,44]++vt).length+1<=9223372036854775807)=true:=dT (by simp;omega)
  have c3:decide (8+vt.length<=9223372036854775807)=true:=dT (by omega);have c4:decide (([123,34,116,121,112,101,34,58]++vt).length+16<=9223372036854775807)=true:=dT (by simp;omega)
  cases hb:(CO IntKind.i64 n 1==1) with
  |true=>
   simp only[A2,A1,a0,hb,a1,h3,Ag,l1,l2,Ie,c1,c2] at e;refine⟨_,(5,[],false),fun m hm=>?_,?_,e⟩
   ·obtain⟨j,rfl⟩:∃j,m=j+1:=⟨m-1,by omega⟩
    have:=(h1 j (by omega)).arr
    simpa using this
   ·simp;omega
  |false=>
   simp only[A2,A1,a0,hb,a1,h3,Ag,l3,l4,Ie,c3,c4] at e;refine⟨_,(6,[],false),fun m hm=>?_,?_,e⟩
   ·obtain⟨j,rfl⟩:∃j,m=j+1:=⟨m-1,by omega⟩
    have:=(h1 j (by omega)).obj
    simpa using this
   ·simp;omega
end
theorem Aca:ByteArray.mk #[(99:UInt8),(104:UInt8),(97:UInt8),(108:UInt8),(108:UInt8),(101:UInt8),(110:UInt8),(103:UInt8),(101:UInt8)]=Aa [99,104,97,108,108,101,110,103,101]:=rfl
section
variable {fu d:Nat}{p:Option (Al->Option Bz)}
end
end
end Go.Proofs.YtkopiepmdppifaaGreatDoor.Pv
