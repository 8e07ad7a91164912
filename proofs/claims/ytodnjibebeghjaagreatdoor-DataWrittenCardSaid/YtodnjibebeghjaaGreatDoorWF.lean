/-
  The proof of DataWritten, part 6.
-/
import Derived.Test.YtodnjibebeghjaaGreatDoorWE
import Derived.Lib.ValidLaws
import Derived.Test.YtodnjibebeghjaaGreatDoorRows
set_option linter.unusedSimpArgs false
set_option linter.unusedVariables false
namespace Go.Proofs.YtodnjibebeghjaaGreatDoor.Pv
section
open Go.Proofs.Tryz (prog)
open Go.IntKind (wrap)
set_option maxRecDepth 100000
section
variable {fu d:Nat} {p:Option (List PV->Option Ap)}
theorem A90 (Eu:1000<=fu)(w:Int):Ae (CP p) prog fu (d+1) Fu [.lst false 1 1 [.sc (.int .u64 w)]]=some ⟨[.own 1 8 (Bl .u8 (P4 w))],[]⟩:=by
 have:=LR (xs:=SM p) (fu:=fu) (d:=d) (ws:=[w]) (by simp) (by omega) (by simp;omega)
 simp only[Gg,List.flatMap_cons,List.flatMap_nil,List.append_nil,Uk,QY,J6] at this;exact this
theorem Aqq (Eu:1000<=fu){a0 a1 a2:Int}{key nonce:Int}{n:Nat}(hn:n<=1024):∀(k nn:Nat)(i:Int)(l:List Int),n<=l.length+8*k->k<nn->Cx l->l.length<=2000 ->
  0<=i->i+k<=100000->∃r,Cx r∧r.length=n∧Fb fu (Ae (CP p) prog fu (d+4)) a0 a1 a2 nn key nonce (n:Int) l.length i (Bl .u8 l)=some ⟨[.own 1 n (Bl .u8 r)],[]⟩:=by
 intro k
 induction k with
 |zero=>
  intro nn i l h1 h2 hb hl i0 i1;obtain⟨m,rfl⟩:∃m,nn=m+1:=⟨nn-1,by omega⟩
  refine⟨l.take n,hb.take n,by rw[List.length_take];omega,?_⟩
  have L:=Ek .u8 l;have nt:Int.toNat (n:Int)=n:=Kj _;rw[F5]
  try unfold Ac
  repeat first
   |((with_reducible first|apply A5|apply Ax|apply A6|apply A9|apply Alj|apply Ais|apply Aw|apply A4|apply A7);· first|with_reducible rfl|(simp (disch:=omega) only[gT,L,nt,Nat.sub_zero,EB,Mx]<;>first|with_reducible rfl|omega)|omega)
   |(with_reducible apply A8;· first|with_reducible rfl|(simp (disch:=omega) only[gF,L,nt,Nat.sub_zero,EB,Mx]<;>omega))
  try simp (disch:=omega) only[L,nt,Nat.sub_zero,EB,Mx]
 |succ k ih=>
  intro nn i l h1 h2 hb hl i0 i1;obtain⟨m,rfl⟩:∃m,nn=m+1:=⟨nn-1,by omega⟩
  have L:=Ek .u8 l;have nt:Int.toNat (n:Int)=n:=Kj _;by_cases Cb:l.length<n
  rotate_left
  ·refine⟨l.take n,hb.take n,by rw[List.length_take];omega,?_⟩
   rw[F5]
   try unfold Ac
   repeat first
    |((with_reducible first|apply A5|apply Ax|apply A6|apply A9|apply Alj|apply Ais|apply Aw|apply A4|apply A7);· first|with_reducible rfl|(simp (disch:=omega) only[gT,L,nt,Nat.sub_zero,EB,Mx]<;>first|with_reducible rfl|omega)|omega)
    |(with_reducible apply A8;· first|with_reducible rfl|(simp (disch:=omega) only[gF,L,nt,Nat.sub_zero,EB,Mx]<;>omega))
   try simp (disch:=omega) only[L,nt,Nat.sub_zero,EB,Mx]
  have w1:wrap .u64 i=i:=E6 (by omega) (by omega)
  have w2:wrap .i64 (i+1)=i+1:=Au (by omega) (by omega)
  have wd:Ae (CP p) prog fu (d+4) Fu [.lst false 1 2 [.sc (.int .u64 nonce),.sc (.int .u64 i)]]=some ⟨[.own 1 (Gg [nonce,i]).length (Bl .u8 (Gg [nonce,i]))],[]⟩:=LR (xs:=SM p) (ws:=[nonce,i]) (by simp) (by omega) (by simp;omega)
  have mc:=Apq (xs:=SM p) (fu:=fu) (d:=d) (l:=Gg [nonce,i]) (Ajw _) (by rw[FA];simp) (by omega) (by rw[FA];simp;omega) key 5
  have L2:=Ek .u8 (Gg [nonce,i]);have t2:=tki .u8 (Gg [nonce,i]);generalize A2v key 5 (Gg [nonce,i])=q at mc;have ow:=A90 (fu:=fu) (d:=d+3) (p:=p) Eu q;have Lq:(Bl .u8 (P4 q)).length=8:=by rw[Ek,J6]
  have tq:List.take 8 (Bl .u8 (P4 q))=Bl .u8 (P4 q):=QT (by omega)
  have tl:=tki .u8 l;have ea:Bl .u8 l++Bl .u8 (P4 q)=Bl .u8 (l++P4 q):=by rw[Bl,Bl,Bl,List.flatMap_append]
  obtain⟨r,r1,r2,r3⟩:=ih m (i+1) (l++P4 q) (by rw[BZ,J6];omega) (by omega) (Kk hb (Abm q)) (by rw[BZ,J6];omega) (by omega) (by omega)
  refine⟨r,r1,r2,?_⟩;rw[BZ,J6] at r3;rw[←r3,F5];generalize Gg [nonce,i]=W at *
  generalize W.length=wn at *
  try unfold Ac
  repeat first
   |((with_reducible first|apply A5|apply Ax|apply A6|apply A9|apply Alj|apply Ais|apply Aw|apply A4|apply A7);· first|with_reducible rfl|(simp (disch:=omega) only[gT,w1,w2,wd,Zze,WS,EB,L,L2,t2,mc,ow,Lq,tq,tl,ea]<;>first|with_reducible rfl|omega)|omega)
   |(with_reducible apply A8;· first|with_reducible rfl|(simp (disch:=omega) only[gF,w1,w2,wd,Zze,WS,EB,L,L2,t2,mc,ow,Lq,tq,tl,ea]<;>omega))
  try simp (disch:=omega) only[w1,w2,wd,Zze,WS,EB,L,L2,t2,mc,ow,Lq,tq,tl,ea]
  all_goals rfl
theorem Awe (Eu:1000<=fu)(seed:Int){n:Nat}(hn:n<=1024):∃r,Cx r∧r.length=n∧Ae (CP p) prog fu (d+6) L0 [.sc (.int .i64 seed),.sc (.int .i64 n)]=some ⟨[.own 1 n (Bl .u8 r)],[]⟩:=by
 obtain⟨r,r1,r2,r3⟩:=Aqq (fu:=fu) (d:=d) (p:=p) Eu (a0:=wrap .u64 (wrap .u64 seed+1)) (a1:=7) (a2:=n) (key:=wrap .u64 (wrap .u64 seed+1)) (nonce:=7) hn 128 fu 0 [] (by omega) (by omega) (by intro x hx;cases hx) (by simp) (by omega) (by omega)
 refine⟨r,r1,r2,?_⟩
 have e:Ae (CP p) prog fu (d+5) Lf [.sc (.int .u64 (wrap .u64 (wrap .u64 seed+1))),.sc (.int .u64 7),.sc (.int .i64 n)]=some ⟨[.own 1 n (Bl .u8 r)],[]⟩:=by
  rw[Tq];have f1:(if (n:Int)<0 then (0:Int) else (n:Int))=n:=Ct (by omega)
  have f2:(if (1024:Int)<(n:Int) then (1024:Int) else (n:Int))=n:=Ct (by omega)
  simp only[M7,f1,f2];exact r3
 have f1:(if (n:Int)<0 then (0:Int) else (n:Int))=n:=Ct (by omega)
 have f2:(if (1024:Int)<(n:Int) then (1024:Int) else (n:Int))=n:=Ct (by omega)
 have L:=Ek .u8 r;have t:List.take n (Bl .u8 r)=Bl .u8 r:=by rw[←r2];exact tki .u8 r
 rw[Ur];simp (disch:=omega) only[B4,f1,f2,e,EB,L,t]
def Asi (q:PV):Bool:=match q with | .sc (.string s)=>Nat.ble s.size 40|_=>false
def Asn (q:PV):Bool:=match q with | .sc (.int .i64 n)=>decide (0<=n)&&decide (n<=100)|_=>false
theorem Arz {L:List PV}{i:Nat}{K:ByteArray->Option Ap}{X:Option Ap}(e:X=Ar (List.getD L i PV.top) K) (hL:L.all Asi=true)(hi:i<L.length):∃s:ByteArray,s.size<=40∧X=K s:=by
 have hm:=List.all_eq_true.1 hL (L[i]'hi) (List.getElem_mem hi);rw[List.getD_eq_getElem?_getD,List.getElem?_eq_getElem hi,Option.getD_some] at e;generalize L[i]'hi=q at hm e;unfold Asi at hm;split at hm
 ·rename_i s;exact⟨s,Nat.le_of_ble_eq_true hm,e⟩
 ·cases hm
theorem Asq {L:List PV}{i:Nat}{K:Int->Option Ap}{X:Option Ap}(e:X=Aj .i64 (List.getD L i PV.top) K) (hL:L.all Asn=true)(hi:i<L.length):∃n:Int,0<=n∧n<=100∧X=K n:=by
 have hm:=List.all_eq_true.1 hL (L[i]'hi) (List.getElem_mem hi);rw[List.getD_eq_getElem?_getD,List.getElem?_eq_getElem hi,Option.getD_some] at e;generalize L[i]'hi=q at hm e;unfold Asn at hm;split at hm
 ·rename_i n;rw[Bool.and_eq_true,decide_eq_true_iff,decide_eq_true_iff] at hm;exact⟨n,hm.1,hm.2,e.trans (HK .i64 n K)⟩
 ·cases hm
theorem otD (v:Int):∃s:ByteArray,s.size<=40∧Ae (CP p) prog fu (d+2) 22 [.sc (.int .i64 v)]=some ⟨[.sc (.string s)],[]⟩:=by
 obtain⟨r,h0,h1,hm⟩:=An7 v 6 (by omega) (by omega)
 have hm:Ae (CP p) prog fu (d+1) 16 [.sc (.int .i64 v),.sc (.int .i64 6)]=_:=hm;have e:=O8 (p:=p) fu (d+1) v;have a1:=dT (q:=(0:Int)<=r) h0;have a2:=dT (q:=r<6) h1;simp only[B4,hm,a1,a2] at e;obtain⟨s,hs,h⟩:=Arz e (by kernel_rfl) (by show 0+Int.toNat r*1<6;omega)
 exact⟨s,hs,h⟩
theorem Asd (v:Int):∃s:ByteArray,s.size<=40∧Ae (CP p) prog fu (d+2) 23 [.sc (.int .i64 v)]=some ⟨[.sc (.string s)],[]⟩:=by
 obtain⟨r,h0,h1,hm⟩:=An7 v 28 (by omega) (by omega)
 have hm:Ae (CP p) prog fu (d+1) 16 [.sc (.int .i64 v),.sc (.int .i64 28)]=_:=hm;have e:=Wt (p:=p) fu (d+1) v;have a1:=dT (q:=(0:Int)<=r) h0;have a2:=dT (q:=r<28) h1;simp only[B4,hm,a1,a2] at e;obtain⟨s,hs,h⟩:=Arz e (by kernel_rfl) (by show 0+Int.toNat r*1<28;omega)
 exact⟨s,hs,h⟩
set_option maxHeartbeats 2000000 in
theorem Ayy {l:List Int}(hl:l.length<=maxLen)(a:Nat)(Eu:1000<=fu):∃(k:Int)(ch:List Int)(o t:ByteArray)(x:Bool)(a':Nat),Cx ch∧ch.length<=100∧o.size<=100∧t.size<=100 ∧
  Ae (CP p) prog fu (d+7) 10 [.pbox (Mu l a)]=some ⟨[.agg [.sc (.int .i64 k),.own 1 ch.length (Bl .u8 ch),.sc (.string o),.sc (.bool x),.sc (.string t)]],[Mu l a']⟩:=by
 have e:=Lc (p:=p) fu (d+6) l.length (Bl .i64 l) (a:Int);obtain⟨v1,a1,p1,q1,n1⟩:=Hv hl a 6 (by omega) (by omega)
 have n1:Ae (CP p) prog fu (d+6) 7 [.pbox (Mu l a),.sc (.int .i64 6)]=_:=n1 (fu:=fu) (d:=d+4) (p:=p);simp only[B4,n1,dT p1,dT q1] at e;obtain⟨k,k0,k1,e⟩:=Asq e (by kernel_rfl) (by show 0+Int.toNat v1*1<6;omega)
 obtain⟨v2,a2,p2,q2,n2⟩:=Hv hl a1 9 (by omega) (by omega)
 have n2:Ae (CP p) prog fu (d+6) 7 [.pbox (Mu l a1),.sc (.int .i64 9)]=_:=n2 (fu:=fu) (d:=d+4) (p:=p);obtain⟨v3,a3,p3,q3,n3⟩:=Hv hl a2 7 (by omega) (by omega)
 have n3:Ae (CP p) prog fu (d+6) 7 [.pbox (Mu l a2),.sc (.int .i64 7)]=_:=n3 (fu:=fu) (d:=d+4) (p:=p);simp only[B4,n2,n3,dT p3,dT q3] at e;obtain⟨m,m0,m1,e⟩:=Asq e (by kernel_rfl) (by show 0+Int.toNat v3*1<7;omega)
 obtain⟨m,rfl⟩:=Int.eq_ofNat_of_zero_le m0;obtain⟨ch,ED,I7,eb⟩:=Awe (fu:=fu) (d:=d) (p:=p) Eu v2 (n:=m) (by omega)
 have eb:Ae (CP p) prog fu (d+6) 21 [.sc (.int .i64 v2),.sc (.int .i64 ((m:Nat):Int))]=_:=eb;obtain⟨v4,a4,p4,q4,n4⟩:=Hv hl a3 6 (by omega) (by omega)
 have n4:Ae (CP p) prog fu (d+6) 7 [.pbox (Mu l a3),.sc (.int .i64 6)]=_:=n4 (fu:=fu) (d:=d+4) (p:=p);obtain⟨o,ho,eo⟩:=otD (fu:=fu) (d:=d+4) (p:=p) v4;obtain⟨v5,a5,p5,q5,n5⟩:=Hv hl a4 3 (by omega) (by omega)
 have n5:Ae (CP p) prog fu (d+6) 7 [.pbox (Mu l a4),.sc (.int .i64 3)]=_:=n5 (fu:=fu) (d:=d+4) (p:=p);subst I7;have tk:List.take (ch.length*1) (Bl .u8 ch)=Bl .u8 ch:=QT (by rw[Ek];omega)
 have tl:decide (ch.length*1<=List.length (Bl .u8 ch))=true:=by rw[Ek];simp
 have big:∀h:ByteArray,h.size<=40->decide (8+h.size<=9223372036854775807)=true∧decide ((ByteArray.mk #[(104:UInt8),(116:UInt8),(116:UInt8),(112:UInt8),(115:UInt8),(58:UInt8),(47:UInt8),(47:UInt8)]++h).size+1<=9223372036854775807)=true∧(ByteArray.mk #[(104:UInt8),(116:UInt8),(116:UInt8),(112:UInt8),(115:UInt8),(58:UInt8),(47:UInt8),(47:UInt8)]++h++ByteArray.mk #[(47:UInt8)]).size<=100:=by
  intro h hh;have e8:(ByteArray.mk #[(104:UInt8),(116:UInt8),(116:UInt8),(112:UInt8),(115:UInt8),(58:UInt8),(47:UInt8),(47:UInt8)]).size=8:=rfl;have e1:(ByteArray.mk #[(47:UInt8)]).size=1:=rfl;refine⟨dT (by omega),dT (by rw[ByteArray.size_append,e8];omega),by rw[ByteArray.size_append,ByteArray.size_append,e8,e1];omega⟩
 have fin:∀(x:Bool) (t:ByteArray) (b:Nat),t.size<=40->∀(Y:Int->PV->Option Ap),True:=fun _ _ _ _ _=>trivial
 clear fin;by_cases h2:v5=2
 ·have z:(v5==2)=true:=by simp[h2]
  obtain⟨v6,a6,p6,q6,n6⟩:=Hv hl a5 6 (by omega) (by omega)
  have n6:Ae (CP p) prog fu (d+6) 7 [.pbox (Mu l a5),.sc (.int .i64 6)]=_:=n6 (fu:=fu) (d:=d+4) (p:=p);obtain⟨t,ht,et⟩:=otD (fu:=fu) (d:=d+4) (p:=p) v6;obtain⟨v7,a7,p7,q7,n7⟩:=Hv hl a6 12 (by omega) (by omega)
  have n7:Ae (CP p) prog fu (d+6) 7 [.pbox (Mu l a6),.sc (.int .i64 12)]=_:=n7 (fu:=fu) (d:=d+4) (p:=p);by_cases h10:v7=10
  ·have z1:(v7==10)=true:=by simp[h10]
   obtain⟨v8,a8,p8,q8,n8⟩:=Hv hl a7 28 (by omega) (by omega)
   have n8:Ae (CP p) prog fu (d+6) 7 [.pbox (Mu l a7),.sc (.int .i64 28)]=_:=n8 (fu:=fu) (d:=d+4) (p:=p);obtain⟨h,hh,eh⟩:=Asd (fu:=fu) (d:=d+4) (p:=p) v8;obtain⟨g1,g2,g3⟩:=big h hh;simp only[B4,eb,n4,eo,n5,z,n6,et,n7,z1,n8,eh,g1,g2,tl,tk] at e;exact⟨k,ch,_,t,true,a8,ED,by omega,g3,by omega,e⟩
  have z1:(v7==10)=false:=by simp[h10]
  by_cases h11:v7=11
  ·have z2:(v7==11)=true:=by simp[h11]
   obtain⟨v8,a8,p8,q8,n8⟩:=Hv hl a7 6 (by omega) (by omega)
   have n8:Ae (CP p) prog fu (d+6) 7 [.pbox (Mu l a7),.sc (.int .i64 6)]=_:=n8 (fu:=fu) (d:=d+4) (p:=p);obtain⟨t2,ht2,et2⟩:=otD (fu:=fu) (d:=d+4) (p:=p) v8;simp only[B4,eb,n4,eo,n5,z,n6,et,n7,z1,z2,n8,et2,tl,tk] at e;exact⟨k,ch,o,t2,true,a8,ED,by omega,by omega,by omega,e⟩
  have z2:(v7==11)=false:=by simp[h11]
  simp only[B4,eb,n4,eo,n5,z,n6,et,n7,z1,z2,tl,tk] at e;exact⟨k,ch,o,t,true,a7,ED,by omega,by omega,by omega,e⟩
 ·have z:(v5==2)=false:=by simp[h2]
  obtain⟨v7,a7,p7,q7,n7⟩:=Hv hl a5 12 (by omega) (by omega)
  have n7:Ae (CP p) prog fu (d+6) 7 [.pbox (Mu l a5),.sc (.int .i64 12)]=_:=n7 (fu:=fu) (d:=d+4) (p:=p);by_cases h10:v7=10
  ·have z1:(v7==10)=true:=by simp[h10]
   obtain⟨v8,a8,p8,q8,n8⟩:=Hv hl a7 28 (by omega) (by omega)
   have n8:Ae (CP p) prog fu (d+6) 7 [.pbox (Mu l a7),.sc (.int .i64 28)]=_:=n8 (fu:=fu) (d:=d+4) (p:=p);obtain⟨h,hh,eh⟩:=Asd (fu:=fu) (d:=d+4) (p:=p) v8;obtain⟨g1,g2,g3⟩:=big h hh;simp only[B4,eb,n4,eo,n5,z,n7,z1,n8,eh,g1,g2,tl,tk] at e;exact⟨k,ch,_,_,false,a8,ED,by omega,g3,Nat.zero_le _,e⟩
  have z1:(v7==10)=false:=by simp[h10]
  by_cases h11:v7=11
  ·have z2:(v7==11)=true:=by simp[h11]
   obtain⟨v8,a8,p8,q8,n8⟩:=Hv hl a7 6 (by omega) (by omega)
   have n8:Ae (CP p) prog fu (d+6) 7 [.pbox (Mu l a7),.sc (.int .i64 6)]=_:=n8 (fu:=fu) (d:=d+4) (p:=p);obtain⟨t2,ht2,et2⟩:=otD (fu:=fu) (d:=d+4) (p:=p) v8;simp only[B4,eb,n4,eo,n5,z,n7,z1,z2,n8,et2,tl,tk] at e;exact⟨k,ch,o,t2,false,a8,ED,by omega,by omega,by omega,e⟩
  have z2:(v7==11)=false:=by simp[h11]
  simp only[B4,eb,n4,eo,n5,z,n7,z1,z2,tl,tk] at e;exact⟨k,ch,o,_,false,a7,ED,by omega,by omega,Nat.zero_le _,e⟩
end
end
section
open Go.IntKind (wrap)
set_option maxRecDepth 100000
def Ve (c:Int):Bool:=decide (33<=c)&&decide (c<=126)&&c != 34&&c != 92
theorem Kp {c:Int}:Ve c=true↔33<=c∧c<=126∧c≠34∧c≠92:=by
 unfold Ve;simp;omega
theorem AZ (c:Int):∀{l:List Int}{x:Int},x∈l->x=c∨∃q∈A1 c l,x∈q
 |a::r,x,hx=>by
  unfold A1;by_cases ha:a=c
  ·rw[Dy ha];rcases List.mem_cons.1 hx with rfl|hx
   ·exact .inl ha
   ·rcases AZ c hx with h|⟨q,hq,h⟩
    ·exact .inl h
    ·exact .inr ⟨q,by simp[hq],h⟩
  ·rw[Ct ha];cases hs:A1 c r with
   |nil=>exact absurd hs (Mw c r)
   |cons b t=>
    rcases List.mem_cons.1 hx with rfl|hx
    ·exact .inr ⟨x::b,by simp,by simp⟩
    ·rcases AZ c hx with h|⟨q,hq,h⟩
     ·exact .inl h
     ·rw[hs] at hq;rcases List.mem_cons.1 hq with rfl|hq
      ·exact .inr ⟨a::q,by simp,by simp[h]⟩
      ·exact .inr ⟨q,by simp[hq],h⟩
theorem Abe {l:List Int}(h:Oq l=0):l.all Ve=true:=by
 unfold Oq at h;split at h
 ·cases h
 split at h
 ·cases h
 rename_i _ h2
 have h2:(A1 46 l).all Ie=true:=by
  cases hq:(A1 46 l).all Ie
  ·exact absurd hq h2
  ·rfl
 rw[List.all_eq_true];intro x hx;rcases AZ 46 hx with rfl|⟨q,hq,hxq⟩
 ·rfl
 ·have hl:=List.all_eq_true.1 h2 q hq;unfold Ie at hl;rw[Bool.and_eq_true] at hl;have hb:=List.all_eq_true.1 hl.2 x hxq;unfold XI Vh at hb;rw[Kp];simp at hb;omega
theorem FC {s:Bool}{r:List Int}(h:Sj s r=0):r.all Ve=true:=by
 unfold Sj at h;simp only at h;by_cases hh:Oq (Bi 58 r)=0
 ·rw[Ct (by simp[hh])] at h
  have hc:=Abe hh;by_cases hl:(Bi 58 r).length=r.length
  ·rwa [Ack 58 r (by omega)] at hc
  ·rw[Ct hl] at h;split at h
   ·rename_i hp
    have hd:(r.drop ((Bi 58 r).length+1)).all Vh=true:=by
     have:=hp.1;unfold Hu at this;rw[Bool.and_eq_true] at this;exact this.2
    have Cb:(Bi 58 r).length<r.length:=by have:=EQ 58 r;omega
    have A21:r[(Bi 58 r).length]?=some 58:=by
     obtain⟨c,hcc⟩:∃c,r[(Bi 58 r).length]?=some c:=⟨_,List.getElem?_eq_getElem Cb⟩
     have e:r.drop (Bi 58 r).length=r.dropWhile (fun x=>x != 58):=by
      have h1:r.takeWhile (fun x=>x != 58)++r.dropWhile (fun x=>x != 58)=r:=List.takeWhile_append_dropWhile
      have h2:=congrArg (List.drop (Bi 58 r).length) h1;have h3:(List.takeWhile (fun x=>x != 58) r++List.dropWhile (fun x=>x != 58) r).drop (Bi 58 r).length=List.dropWhile (fun x=>x != 58) r:=List.drop_left
      rw[←h2];exact h3
     have e2:(r.dropWhile (fun x=>x != 58))[0]?=some c:=by rw[←e,List.getElem?_drop];simpa using hcc
     cases hdw:r.dropWhile (fun x=>x != 58) with
     |nil=>rw[hdw] at e2;cases e2
     |cons y t=>
      rw[hdw] at e2;have:y=c:=by simpa using e2
      subst this;have hn:=List.head?_dropWhile_not (fun x:Int=>x != 58) r
      rw[hdw] at hn;simp at hn;rw[hcc,hn]
    have e:r=Bi 58 r++58::r.drop ((Bi 58 r).length+1):=by
     have h1:=(List.take_append_drop (Bi 58 r).length r).symm;rw[←Nw] at h1;rw[List.getElem?_eq_getElem Cb] at A21;rw[List.drop_eq_getElem_cons Cb] at h1;have:r[(Bi 58 r).length]=58:=by simpa using A21
     rw[this] at h1;exact h1
    rw[e,List.all_append,hc,List.all_cons]
    have:(r.drop ((Bi 58 r).length+1)).all Ve=true:=by
     rw[List.all_eq_true] at hd ⊢;intro x hx;have:=(Zd x).1 (hd x hx);rw[Kp];omega
    rw[this];rfl
   ·cases h
 ·rw[Dy hh] at h;exact absurd h hh
theorem Tv {l:List Int}(h:Ec l=0):l.all Ve=true:=by
 unfold Ec at h
 have key:∀w:List Int,w.all Ve=true->w.isPrefixOf l=true->(l.drop w.length).all Ve=true->l.all Ve=true:=by
  intro w hw hp hd;have e:=List.prefix_iff_eq_append.1 (List.isPrefixOf_iff_prefix.1 hp);rw[←e,List.all_append,hw,hd];rfl
 split at h
 ·rename_i hp;exact key _ (by decide) hp (FC h)
 split at h
 ·rename_i hp;exact key _ (by decide) hp (FC h)
 ·cases h
theorem Hn {v:Int}(h0:0<=v)(h1:v<64):Ve (Fp v)=true:=by
 rw[Kp];unfold Fp;split
 ·omega
 split
 ·omega
 split
 ·omega
 split<;>omega
theorem Tx:∀{l:List Int},Cx l->(Ef l).all Ve=true
 |[],_=>rfl
 |[a],h=>by
  obtain⟨ha,_⟩:=Bq h;unfold Ef;rw[List.all_cons,List.all_cons,Hn (by omega) (by omega),Hn (by omega) (by omega)]
  rfl
 |[a,b],h=>by
  obtain⟨ha,h⟩:=Bq h;obtain⟨hb,_⟩:=Bq h;unfold Ef;rw[List.all_cons,List.all_cons,List.all_cons,Hn (by omega) (by omega),Hn (by omega) (by omega),Hn (by omega) (by omega)]
  rfl
 |a::b::c::r,h=>by
  obtain⟨ha,h⟩:=Bq h;obtain⟨hb,h⟩:=Bq h;obtain⟨hc,h⟩:=Bq h;have e:Ef (a::b::c::r)=Fp (a / 4)::Fp (a % 4*16+b / 16)::Fp (b % 16*4+c / 64)::Fp (c % 64)::Ef r:=rfl;rw[e,List.all_cons,List.all_cons,List.all_cons,List.all_cons,Hn (by omega) (by omega),Hn (by omega) (by omega),Hn (by omega) (by omega),Hn (by omega) (by omega),Tx h]
  rfl
theorem FY:∀(s:List Int)(n:Nat)(out r:List Int),s.all Ve=true->s.length<n->Fq n out (s++34::r)=(some (out++s),r)
  |[],n,out,r,_,hn=>by
    obtain⟨m,rfl⟩:∃m,n=m+1:=⟨n-1,by simp at hn;omega⟩
    show (if (34:Int)<32 then _ else if (34:Int)=34 then (some out,r) else _)=_
    rw[Ct (by decide),Dy rfl,List.append_nil]
  |c::s,n,out,r,h,hn=>by
    obtain⟨m,rfl⟩:∃m,n=m+1:=⟨n-1,by simp at hn;omega⟩
    rw[List.all_cons,Bool.and_eq_true] at h
    have hc:=Kp.1 h.1
    have e:Fq (m+1) out (c::(s++34::r))=if c<32 then (none,c::(s++34::r)) else if c=34 then (some out,s++34::r) else if c=92 then
        (match Lb (s++34::r) with
         |(some x,r')=>Fq m (out++Lib.encodeRuneZ x) r'
         |(none,r')=>(none,r')) else Fq m (out++[c]) (s++34::r):=rfl
    rw[Zzp,e,Ct (by omega),Ct (by omega),Ct (by omega),FY s m (out++[c]) r h.2 (by simp at hn;omega)]
    simp
theorem Ot {s r:List Int}(h:s.all Ve=true):Ev (34::(s++34::r))=(some s,r):=by
 have e:Ev (34::(s++34::r))=if (34:Int)=34 then Fq ((s++34::r).length+1) [] (s++34::r) else (none,34::(s++34::r)):=rfl
 rw[e,Dy rfl,FY s _ [] r h (by simp;omega)]
 rfl
def VOk (vt:List Int)(v:JV):Prop:=(∀r,Dj 8 (vt++r)=.ok (v,r))∧∃y z,vt=y::z∧Po y=false
theorem EP {s:List Int}(h:s.all Ve=true):VOk (34::(s++[34])) (4,s,false):=by
 refine⟨fun r=>?_,34,_,rfl,rfl⟩
 have e:(34::(s++[34]))++r=34::(s++34::r):=by simp
 rw[e];have e2:Dj 8 (34::(s++34::r))=(match Rr (34::(s++34::r)) with|none=>.error 2|some (s,r')=>.ok ((4,s,false),r')):=rfl
 have e3:Rr (34::(s++34::r))=some (s,r):=by unfold Rr;rw[Ot h]
 rw[e2,e3]
theorem Adz:VOk [102,97,108,115,101] (2,[],false):=⟨fun r=>rfl,102,_,rfl,rfl⟩
theorem Ajh:VOk [116,114,117,101] (2,[],true):=⟨fun r=>rfl,116,_,rfl,rfl⟩
theorem H6 {y:Int}{r:List Int}(h:Po y=false):A3 (y::r)=y::r:=by
 show (if Po y=true then A3 r else y::r)=_
 rw[Ct (by rw[h];decide)]
def N5 (nm vt:List Int):List Int:=34::(nm++34::58::vt)
theorem Up {n:Nat}{ms:List (List Int × JV)} {nm vt:List Int}{v:JV}{c:Int}{rest:List Int}(hn:nm.all Ve=true)(hv:VOk vt v)(hd:(ms.any fun m=>m.1==nm)=false) (hc:c=44∨c=125):
  Oh (Dj 8) true (n+1) ms (N5 nm vt++c::rest)=if c=125 then .ok (ms++[(nm,v)],rest) else Oh (Dj 8) true n (ms++[(nm,v)]) (A3 rest):=by
 obtain⟨hv,y,z,rfl,hy⟩:=hv;have e:N5 nm (y::z)++c::rest=34::(nm++34::(58::(y::z++c::rest))):=by unfold N5;simp
 have hws:Po c=false:=by rcases hc with rfl|rfl<;>rfl
 rw[e,Np,Ot hn];simp only;rw[Zzm,hd,Ct (by decide),H6 (show Po 58=false from rfl)]
 have e58:Ao [58] (58::(y::z++c::rest))=some (y::z++c::rest):=by rw[Df];rfl
 rw[e58];simp only;rw[Zzp,H6 hy,←Zzp,hv];simp only;rw[H6 hws];rcases hc with rfl|rfl
 ·have e1:Ao [125] (44::rest)=none:=by rw[Df];rfl
  have e2:Ao [44] (44::rest)=some rest:=by rw[Df];rfl
  rw[e1,e2,Ct (by decide)]
 ·have e1:Ao [125] (125::rest)=some rest:=by rw[Df];rfl
  rw[e1,Dy rfl]
def Aob (ty ch o t:List Int)(x:Bool):List (List Int × JV):=
 [(Jx,(4,ty,false)),(Nr,(4,Ef ch,false)),(Y0,(4,o,false)),(X5,(2,[],x))]++(if x=true then [(CH,(4,t,false))] else [])
def RB (w:List Int):Prop:=w.all Po=true
theorem Pa:∀{w:List Int}(r:List Int),RB w->A3 (w++r)=A3 r
 |[],_,_=>rfl
 |c::w,r,h=>by
  unfold RB at h;rw[List.all_cons,Bool.and_eq_true] at h;show (if Po c=true then A3 (w++r) else _)=_
  rw[Dy h.1];exact Pa r h.2
def Gw (ty ch o t:List Int)(x:Bool):List Int:=
 N5 Jx (34::(ty++[34]))++44::(N5 Nr (34::(Ef ch++[34]))++44::(N5 Y0 (34::(o++[34]))++44::(N5 X5 (if x=true then [116,114,117,101] else [102,97,108,115,101])++(if x=true then 44::(N5 CH (34::(t++[34]))++[125]) else [125]))))
theorem WM {ty ch o t:List Int}{x:Bool}{w:List Int}(hw:RB w)(hty:ty.all Ve=true)(ED:Cx ch)(ho:o.all Ve=true)(ht:t.all Ve=true):
  AW 8 (w++(123::Gw ty ch o t x)++w)=.ok (Aob ty ch o t x):=by
 have hww:A3 w=[]:=by
  have:=Pa (w:=w) [] hw
  rwa [List.append_nil] at this
 have e0:w++(123::Gw ty ch o t x)++w=w++(123::(Gw ty ch o t x++w)):=by simp
 rw[Ue,e0,Pa _ hw,H6 (show Po 123=false from rfl)]
 have e1:Ao [123] (123::(Gw ty ch o t x++w))=some (Gw ty ch o t x++w):=by rw[Df];rfl
 rw[e1];simp only;have eb:Gw ty ch o t x++w=34::((Gw ty ch o t x++w).tail):=by unfold Gw N5;rfl
 have esk:A3 (Gw ty ch o t x++w)=Gw ty ch o t x++w:=by rw[eb];exact H6 rfl
 have e125:Ao [125] (Gw ty ch o t x++w)=none:=by rw[eb,Df];rfl
 rw[Mz,esk,e125];simp only
 obtain⟨N,hN⟩:∃N,(Gw ty ch o t x++w).length+1=N+5:=⟨(Gw ty ch o t x++w).length-4,by
  have:4<=(Gw ty ch o t x++w).length:=by unfold Gw N5;simp;omega
  omega⟩
 rw[hN];have skm:∀nm vt r,A3 (N5 nm vt++r)=N5 nm vt++r:=fun nm vt r=>H6 rfl
 have b1:Gw ty ch o t x++w=N5 Jx (34::(ty++[34]))++44::(N5 Nr (34::(Ef ch++[34]))++44::(N5 Y0 (34::(o++[34]))++44::(N5 X5 (if x=true then [116,114,117,101] else [102,97,108,115,101])++((if x=true then 44::(N5 CH (34::(t++[34]))++[125]) else [125])++w)))):=by
  unfold Gw;simp only[Zzv,Zzp]
 rw[b1,Up (by decide) (EP hty) rfl (.inl rfl),Ct (by decide),skm,
  Up (by decide) (EP (Tx ED)) rfl (.inl rfl),Ct (by decide),skm,
  Up (by decide) (EP ho) rfl (.inl rfl),Ct (by decide),skm]
 cases x with
 |false=>
  rw[Ct (by decide),Ct (by decide),Zzp,List.nil_append,Up (by decide) Adz rfl (.inr rfl),Dy rfl]
  simp only[List.nil_append];rw[Dy hww];rfl
 |true=>
  have es:N5 CH (34::(t++[34]))++[125]++w=N5 CH (34::(t++[34]))++125::w:=by simp
  rw[Dy rfl,Dy rfl,Zzp,es,Up (by decide) Ajh rfl (.inl rfl),Ct (by decide),skm,
   Up (by decide) (EP ht) rfl (.inr rfl),Dy rfl]
  simp only[List.nil_append];rw[Dy hww];rfl
theorem Mh {ty ch o t:List Int}{x:Bool}{k:Int}(hk:tyS k=some ty)(ED:Cx ch)(h1:1<=ch.length)(h2:ch.length<=64)(ho:Ec o=0)(ht:x=true->Ec t=0)(hn:x=false->t=[]):
  Jd (Aob ty ch o t x)=.ok (k,ch,o,x,t):=by
 have fin:∀T:JV,Wr k (4,Ef ch,false) (4,o,false) (2,[],x) (if x=true then (4,t,false) else (0,[],false))=.ok (k,ch,o,x,t):=by
  intro _;unfold Wr;simp only;rw[Ab6 ED];simp only;rw[Ct (by omega),Ct (by simp[ho])]
  cases x with
  |false=>rw[hn rfl];simp
  |true=>simp[ht rfl]
 have hg:Jd (Aob ty ch o t x)=Hm (4,ty,false) (4,Ef ch,false) (4,o,false) (2,[],x) (if x=true then (4,t,false) else (0,[],false)):=by
  cases x<;>rfl
 rw[hg];unfold Hm;rw[Ct (by simp),Ct (by simp),Ct (by cases x<;>simp)]
 unfold tyS at hk;split at hk
 ·rename_i h;cases hk;subst h
  simp only;rw[Dy trivial];exact fin (0,[],false)
 split at hk
 ·rename_i h;cases hk;subst h
  simp only;rw[Ct (by decide),Dy trivial]
  exact fin (0,[],false)
 ·cases hk
theorem UJ {k:Int}{ch o t s:List Int}{x:Bool}(h:WG k ch o t x=.ok s):∃ty,tyS k=some ty∧s=123::Gw ty ch o t x∧1<=ch.length∧ch.length<=64∧Ec o=0∧(x=true->Ec t=0)∧(x=false->t=[]):=by
 unfold WG at h;cases hk:tyS k with
 |none=>rw[hk] at h;cases h
 |some ty=>
  rw[hk] at h;simp only at h;split at h
  ·cases h
  rename_i hl;split at h
  ·cases h
  rename_i ho
  have ho:Ec o=0:=by
   by_cases q:Ec o=0
   ·exact q
   ·exact absurd q ho
  cases x with
  |false=>
   rw[Dy rfl] at h;split at h
   ·rename_i ht;cases h;refine⟨ty,rfl,?_,by omega,by omega,ho,(fun h=>by cases h),fun _=>ht⟩
    unfold fmH Gw N5 IW MA WV fA4 Jx Nr Y0 X5;simp
   ·cases h
  |true=>
   rw[Ct (by decide)] at h
   split at h
   ·cases h
   ·rename_i ht;cases h
    have ht:Ec t=0:=by
     by_cases q:Ec t=0
     ·exact q
     ·exact absurd q ht
    refine⟨ty,rfl,?_,by omega,by omega,ho,fun _=>ht,(fun h=>by cases h)⟩
    unfold fmH Gw N5 IW MA WV fA5 fA6 Jx Nr Y0 X5 CH;simp
theorem BS {l:List Int}(h:∀x∈l,0<=x∧x<128):Lib.validD (Ab l).data.toList=true:=by
 have e:(Ab l).data.toList=l.map fun n=>n.toNat.toUInt8:=rfl
 rw[e,Lib.validD_ascii (l.map fun n=>n.toNat.toUInt8).length _ (fun b hb=>by
  have hb:=List.mem_of_mem_take hb;obtain⟨n,hn,rfl⟩:=List.mem_map.1 hb;have:=h n hn;have e2:n.toNat.toUInt8.toNat=n.toNat % 256:=by rw[Nat.toUInt8,UInt8.toNat_ofNat']
  omega),List.drop_length]
 rfl
def asc (l:List Int):Prop:=∀y∈l,0<=y∧y<128
theorem Dw {p q:List Int}(hp:asc p)(hq:asc q):asc (p++q):=fun y hy=>(List.mem_append.1 hy).elim (hp y) (hq y)
theorem Ck {a:Int}{p:List Int}(ha:0<=a∧a<128)(hp:asc p):asc (a::p):=fun y hy=>by
 rcases List.mem_cons.1 hy with rfl|hy
 ·exact ha
 ·exact hp y hy
theorem Ay5 {k:Int}{ch o t s w:List Int}{x:Bool}(ED:Cx ch)(h:WG k ch o t x=.ok s)(hw:RB w)(hl:(w++s++w).length<=1024):G7 (Ab (w++s++w))=.ok (k,ch,o,x,t):=by
 obtain⟨ty,hk,rfl,h1,h2,ho,ht,hn⟩:=UJ h;have oc:=Tv ho
 have tc:t.all Ve=true:=by
  cases x with
  |true=>exact Tv (ht rfl)
  |false=>rw[hn rfl];rfl
 have yc:ty.all Ve=true:=by
  unfold tyS at hk;split at hk
  ·cases hk;decide
  split at hk
  ·cases hk;decide
  ·cases hk
 have ec:=Tx ED
 have cl128:∀{q:List Int},q.all Ve=true->∀y∈q,0<=y∧y<128:=fun hq y hy=>by
  have:=Kp.1 (List.all_eq_true.1 hq y hy);omega
 have wc:∀y∈w,0<=y∧y<128:=fun y hy=>by
  have:=List.all_eq_true.1 hw y hy;unfold Po at this;simp at this;omega
 have bc:asc (Gw ty ch o t x):=by
  have v:∀{q:List Int},q.all Ve=true->asc (34::(q++[34])):=fun hq=>Ck (by decide) (Dw (cl128 hq) (Ck (by decide) (fun _ h=>nomatch h)))
  have mt:∀{nm vt:List Int},asc nm->asc vt->asc (N5 nm vt):=fun h1 h2=>Ck (by decide) (Dw h1 (Ck (by decide) (Ck (by decide) h2)))
  have nT:asc Jx:=by unfold asc Jx;decide
  have nC:asc Nr:=by unfold asc Nr;decide
  have nO:asc Y0:=by unfold asc Y0;decide
  have nX:asc X5:=by unfold asc X5;decide
  have nP:asc CH:=by unfold asc CH;decide
  have wd:asc [116,114,117,101]:=by unfold asc;decide
  have wf:asc [102,97,108,115,101]:=by unfold asc;decide
  have w1:asc [125]:=by unfold asc;decide
  unfold Gw;refine Dw (mt nT (v yc)) (Ck (by decide) (Dw (mt nC (v ec)) (Ck (by decide) (Dw (mt nO (v oc)) (Ck (by decide) (Dw (mt nX ?_) ?_))))))
  ·cases x with
   |true=>exact wd
   |false=>exact wf
  ·cases x with
   |true=>exact Ck (by decide) (Dw (mt nP (v tc)) w1)
   |false=>exact w1
 have all128:∀y∈w++(123::Gw ty ch o t x)++w,0<=y∧y<128:=by
  intro y hy;rcases List.mem_append.1 hy with hy|hy
  ·rcases List.mem_append.1 hy with hy|hy
   ·exact wc y hy
   ·rcases List.mem_cons.1 hy with rfl|hy
    ·omega
    ·exact bc y hy
  ·exact wc y hy
 have hB:Cx (w++(123::Gw ty ch o t x)++w):=fun y hy=>by have:=all128 y hy;omega
 unfold G7;rw[Af,Ct (by omega),BS all128,Ct (by decide),Cd hB,WM hw yc ED oc tc]
 exact Mh hk ED h1 h2 ho ht hn
end
section
open Go.Proofs.Tryz (prog)
open Go.IntKind (wrap)
set_option maxRecDepth 100000
theorem Aqc {fu d:Nat}{t:ByteArray}{k:Int}{b o q:List Int}{x:Bool}(h:t.size<=2000)(hp:G7 t=.ok (k,b,o,x,q)):Ae C1 prog fu (d+1) 13 [.sc (.string t)]=some ⟨[.agg [.sc (.int .i64 k),.lst false 1 b.length (Bl .u8 b),.sc (.string (Ab o)),.sc (.bool x),.sc (.string (Ab q))],.sc (.int .i64 0)],[]⟩:=by
 have e:Ae C1 prog fu (d+1) 13 [.sc (.string t)]=F2 [.sc (.string t)]:=rfl;rw[e];unfold F2;simp only[dT (q:=t.size<=9223372036854775807) (by omega),cond_true,hp]
theorem Azz {fu d:Nat}{k:Int}{b o q:List Int}{x:Bool}:Ae C1 prog fu (d+1) 14 [cdA k b o q x,cdA k b o q x]=some ⟨[.sc (.bool true)],[]⟩:=by
 refine (Io (p:=some F2) fu d k b.length (Bl .u8 b) (Ab o) x (Ab q) k b.length (Bl .u8 b) (Ab o) x (Ab q)).trans ?_;have c2:decide (List.length (Bl .u8 b)=b.length)=true:=by rw[Ek];simp
 have c3:=BV b;have c4:(k==k)=true:=by simp
 have c5:(x==x)=true:=by simp
 simp only[B4,c2,c3,c4,c5,Ah9]
theorem Apt {k e:Int}{ch o t:List Int}{x:Bool}(h:WG k ch o t x=.error e):e≠0:=by
 unfold WG at h;split at h
 ·cases h;decide
 split at h
 ·cases h;decide
 split at h
 ·rename_i q;cases h;exact q
 split at h
 ·split at h<;>cases h
  decide
 split at h
 ·rename_i q;cases h;exact q
 ·cases h
section
variable {fu:Nat}
end
end
section
open Go.IntKind (wrap)
set_option maxRecDepth 100000
theorem Ra:asc []:=fun _ h=>nomatch h
theorem Aqj {l:List Int}(h:l.all Ve=true):asc l:=fun y hy=>by
 have:=Kp.1 (List.all_eq_true.1 h y hy);omega
theorem Ti {w:List Int}(h:RB w):asc w:=fun y hy=>by
 have:=List.all_eq_true.1 h y hy;unfold Po at this;simp at this;omega
def Qd1 (c:Int)(e:List Int):Prop:=(∀m out r,Fq (m+1) out (e++r)=Fq m (out++[c]) r)∧asc e∧1<=e.length∧e.length<=6
theorem NY {c:Int}(h:Ve c=true):Qd1 c [c]:=by
  have hc:=Kp.1 h
  refine⟨fun m out r=>?_,Ck (by omega) Ra,Nat.le_refl _,by simp⟩
  have e:Fq (m+1) out (c::r)=if c<32 then (none,c::r) else if c=34 then (some out,r) else if c=92 then
      (match Lb r with
       |(some x,r')=>Fq m (out++Lib.encodeRuneZ x) r'
       |(none,r')=>(none,r')) else Fq m (out++[c]) r:=rfl
  show Fq (m+1) out (c::r)=_
  rw[e,Ct (by omega),Ct (by omega),Ct (by omega)]
theorem SR (m:Nat)(out l:List Int):Fq (m+1) out (92::l)=(match Lb l with
       |(some x,r')=>Fq m (out++Lib.encodeRuneZ x) r'
       |(none,r')=>(none,r')):=rfl
theorem Af8:Qd1 47 [92,47]:=by
 refine⟨fun m out r=>?_,by unfold asc;decide,by decide,by decide⟩
 show Fq (m+1) out (92::47::r)=_;rw[SR];rfl
theorem Apy {c a b:Int}(h:Ve c=true)(ha:Wp a=some (c / 16)) (hb:Wp b=some (c % 16)) (hA:0<=a∧a<128)(hB:0<=b∧b<128):Qd1 c [92,117,48,48,a,b]:=by
 have hc:=Kp.1 h;refine⟨fun m out r=>?_,Ck (by decide) (Ck (by decide) (Ck (by decide) (Ck (by decide) (Ck hA (Ck hB Ra))))),by simp,by simp⟩
 show Fq (m+1) out (92::117::48::48::a::b::r)=_
 have e2:Me 4 0 (48::48::a::b::r)=(some c,r):=by
  have s1:Me 4 0 (48::48::a::b::r)=Me 2 0 (a::b::r):=rfl;have s2:Me 2 0 (a::b::r)=(match Wp a with|some v=>Me 1 (0*16+v) (b::r)|none=>(none,a::b::r)):=rfl
  have s3:Me 1 (0*16+c / 16) (b::r)=(match Wp b with|some v=>Me 0 ((0*16+c / 16)*16+v) r|none=>(none,b::r)):=rfl
  rw[s1,s2,ha];simp only;rw[s3,hb];simp only;have s4:∀x,Me 0 x r=(some x,r):=fun _=>rfl
  rw[s4];have:(0*16+c / 16)*16+c % 16=c:=by omega
  rw[this]
 have e1:Lb (117::48::48::a::b::r)=(some c,r):=by
  have s1:Lb (117::48::48::a::b::r)=Nl (48::48::a::b::r):=rfl;rw[s1];unfold Nl;rw[e2];simp only;have hl:IA c=false:=by unfold IA;rw[dF (by omega)];rfl
  rw[hl,Ct (by decide),Dy (.inl (by omega))]
 rw[SR,e1];simp only;have e3:Lib.encodeRuneZ c=[c]:=Lib.encodeRuneZ_one (by omega) (by omega)
 rw[e3]
structure Qd (s q:List Int):Prop where
 rd:∀n out r,s.length<=n->Fq n out (q++r)=Fq (n-s.length) (out++s) r
 asc:asc q
 lo:s.length<=q.length
 hi:q.length<=6*s.length
theorem Qd.nil:Qd [] []:=⟨fun n out r _=>by simp,Ra,Nat.le_refl _,Nat.le_refl _⟩
theorem Qd.snoc {s q e:List Int}{c:Int}(h:Qd s q)(h1:Qd1 c e):Qd (s++[c]) (q++e) where
 rd n out r hn:=by
  rw[BZ,List.length_singleton] at hn;rw[Zzv,h.rd n out (e++r) (by omega)]
  obtain⟨m,hm⟩:∃m,n-s.length=m+1:=⟨n-s.length-1,by omega⟩
  rw[hm,h1.1,Zzv,BZ,List.length_singleton,show n-(s.length+1)=m by omega]
 asc:=Dw h.asc h1.2.1
 lo:=by simp;have:=h.lo;have:=h1.2.2.1;omega
 hi:=by simp;have:=h.hi;have:=h1.2.2.2;omega
theorem Qd.text {s q:List Int}(h:Qd s q)(r:List Int):Ev (34::(q++34::r))=(some s,r):=by
 have e:Ev (34::(q++34::r))=if (34:Int)=34 then Fq ((q++34::r).length+1) [] (q++34::r) else (none,34::(q++34::r)):=rfl
 have hl:=h.lo;rw[e,Dy rfl,h.rd _ _ _ (by simp;omega)]
 obtain⟨m,hm⟩:∃m,(q++34::r).length+1-s.length=m+1:=⟨(q++34::r).length-s.length,by simp;omega⟩
 rw[hm,List.nil_append];rfl
theorem Qd.same {s:List Int}(h:s.all Ve=true):Qd s s where
 rd:=by
  induction s with
  |nil=>intro n out r _;simp
  |cons c s ih=>
   intro n out r hn;rw[List.all_cons,Bool.and_eq_true] at h;obtain⟨m,rfl⟩:∃m,n=m+1:=⟨n-1,by simp at hn;omega⟩
   have:=(NY h.1).1 m out (s++r);rw[show (c::s)++r=[c]++(s++r) from rfl,this,ih h.2 m (out++[c]) r (by simp at hn;omega)]
   simp
 asc:=Aqj h
 lo:=Nat.le_refl _
 hi:=by omega
def Aao (c:Int):Bool:=Po c||c==44||c==125||c==93
theorem Un {c:Int}(h:Aao c=true):c=32∨c=9∨c=10∨c=13∨c=44∨c=125∨c=93:=by
 unfold Aao Po at h;simp at h;omega
theorem A0k {w:List Int}(hw:RB w){c:Int}(hc:Aao c=true)(r:List Int):∃c' r',w++c::r=c'::r'∧Aao c'=true:=by
 cases w with
 |nil=>exact⟨c,r,rfl,hc⟩
 |cons a w=>
  unfold RB at hw;rw[List.all_cons,Bool.and_eq_true] at hw;exact⟨a,w++c::r,rfl,by unfold Aao;rw[hw.1];rfl⟩
structure VT (m:Nat) (vt:List Int) (v:JV):Prop where
 hd:∃y z,vt=y::z∧Po y=false
 asc:asc vt
 rd:∀c r,Aao c=true->Dj m (vt++c::r)=.ok (v,c::r)
theorem VT.str {m:Nat}{s q:List Int}(h:Qd s q):VT m (34::(q++[34])) (4,s,false) where
 hd:=⟨34,_,rfl,rfl⟩
 asc:=Ck (by decide) (Dw h.asc (Ck (by decide) Ra))
 rd c r _:=by
  have e:(34::(q++[34]))++c::r=34::(q++34::(c::r)):=by simp
  have e2:Dj m (34::(q++34::(c::r)))=(match Rr (34::(q++34::(c::r))) with|none=>.error 2|some (s,r')=>.ok ((4,s,false),r')):=by cases m<;>rfl
  have e3:Rr (34::(q++34::(c::r)))=some (s,c::r):=by unfold Rr;rw[h.text]
  rw[e,e2,e3]
theorem VT.tru {m:Nat}:VT m [116,114,117,101] (2,[],true):=⟨⟨_,_,rfl,rfl⟩,by unfold Pv.asc;decide,fun c r _=>by cases m<;>rfl⟩
theorem VT.fal {m:Nat}:VT m [102,97,108,115,101] (2,[],false):=⟨⟨_,_,rfl,rfl⟩,by unfold Pv.asc;decide,fun c r _=>by cases m<;>rfl⟩
theorem VT.nul {m:Nat}:VT m [110,117,108,108] (1,[],false):=⟨⟨_,_,rfl,rfl⟩,by unfold Pv.asc;decide,fun c r _=>by cases m<;>rfl⟩
theorem VT.zero {m:Nat}:VT m [48] (3,[],false):=⟨⟨_,_,rfl,rfl⟩,by unfold Pv.asc;decide,fun c r h=>by rcases Un h with rfl|rfl|rfl|rfl|rfl|rfl|rfl<;>cases m<;>rfl⟩
theorem VT.one {m:Nat}:VT m [49] (3,[],false):=⟨⟨_,_,rfl,rfl⟩,by unfold Pv.asc;decide,fun c r h=>by rcases Un h with rfl|rfl|rfl|rfl|rfl|rfl|rfl<;>cases m<;>rfl⟩
theorem VT.half {m:Nat}:VT m [45,48,46,53,69,45,51] (3,[],false):=⟨⟨_,_,rfl,rfl⟩,by unfold Pv.asc;decide,fun c r h=>by rcases Un h with rfl|rfl|rfl|rfl|rfl|rfl|rfl<;>cases m<;>rfl⟩
theorem VT.big {m:Nat}:VT m [49,101,53] (3,[],false):=⟨⟨_,_,rfl,rfl⟩,by unfold Pv.asc;decide,fun c r h=>by rcases Un h with rfl|rfl|rfl|rfl|rfl|rfl|rfl<;>cases m<;>rfl⟩
theorem VT.arr0 {m:Nat}:VT (m+1) [91,93] (5,[],false):=⟨⟨_,_,rfl,rfl⟩,by unfold Pv.asc;decide,fun c r _=>rfl⟩
theorem VT.obj0 {m:Nat}:VT (m+1) [123,125] (6,[],false):=⟨⟨_,_,rfl,rfl⟩,by unfold Pv.asc;decide,fun c r _=>rfl⟩
theorem VT.qe {m:Nat}:VT m [34,113,92,34,92,117,48,48,101,57,34] (4,[113,34,195,169],false):=⟨⟨_,_,rfl,rfl⟩,by unfold Pv.asc;decide,fun c r _=>by cases m<;>rfl⟩
theorem VT.arr {m:Nat}{vt:List Int}{v:JV}(h:VT m vt v):VT (m+1) (91::49::44::(vt++[93])) (5,[],false) where
 hd:=⟨91,_,rfl,rfl⟩
 asc:=Ck (by decide) (Ck (by decide) (Ck (by decide) (Dw h.asc (Ck (by decide) Ra))))
 rd c r hc:=by
  obtain⟨y,z,hyz,hy⟩:=h.hd;have e:(91::49::44::(vt++[93]))++c::r=91::49::44::(vt++93::c::r):=by simp
  have e1:Dj (m+1) (91::49::44::(vt++93::c::r))=(match RT (Dj m) (49::44::(vt++93::c::r)) with | .error e=>.error e | .ok r'=>.ok ((5,[],false),r')):=rfl
  have e2:RT (Dj m) (49::44::(vt++93::c::r))=S9 (Dj m) ((49::44::(vt++93::c::r)).length+1) (49::44::(vt++93::c::r)):=rfl
  have e3:∀n,S9 (Dj m) (n+1) (49::44::(vt++93::c::r))=S9 (Dj m) n (A3 (vt++93::c::r)):=fun n=>by
   have h1:Dj m (49::44::(vt++93::c::r))=.ok ((3,[],false),44::(vt++93::c::r)):=VT.one.rd 44 _ rfl;have h2:S9 (Dj m) (n+1) (49::44::(vt++93::c::r))=(match Dj m (49::44::(vt++93::c::r)) with | .error e=>.error e | .ok (_,r)=>match A3 r with|93::r'=>.ok r'|44::r'=>S9 (Dj m) n (A3 r')|_=>.error 2):=rfl
   rw[h2,h1];rfl
  have e4:∀n,S9 (Dj m) (n+1) (vt++93::c::r)=.ok (c::r):=fun n=>by
   have h2:S9 (Dj m) (n+1) (vt++93::c::r)=(match Dj m (vt++93::c::r) with | .error e=>.error e | .ok (_,r)=>match A3 r with|93::r'=>.ok r'|44::r'=>S9 (Dj m) n (A3 r')|_=>.error 2):=rfl
   rw[h2,h.rd 93 (c::r) rfl];rfl
  have e5:A3 (vt++93::c::r)=vt++93::c::r:=by rw[hyz];exact H6 hy
  have e6:(49::44::(vt++93::c::r)).length+1=(vt++93::c::r).length+1+1+1:=by simp
  rw[e,e1,e2,e6,e3,e5,e4]
theorem VT.obj {m:Nat}{vt:List Int}{v:JV}(h:VT m vt v):VT (m+1) (123::34::116::121::112::101::34::58::(vt++[32,44,32,34,116,121,112,101,34,32,58,32,49,101,53,125])) (6,[],false) where
 hd:=⟨123,_,rfl,rfl⟩
 asc:=by
  have h1:Pv.asc [123,34,116,121,112,101,34,58]:=by unfold Pv.asc;decide
  have h2:Pv.asc [32,44,32,34,116,121,112,101,34,32,58,32,49,101,53,125]:=by unfold Pv.asc;decide
  exact Dw h1 (Dw h.asc h2)
 rd c r hc:=by
  obtain⟨y,z,hyz,hy⟩:=h.hd;have e:(123::34::116::121::112::101::34::58::(vt++[32,44,32,34,116,121,112,101,34,32,58,32,49,101,53,125]))++c::r=123::(34::([116,121,112,101]++34::(58::(vt++32::44::32::(34::([116,121,112,101]++34::(32::58::32::([49,101,53]++125::c::r)))))))):=by simp
  rw[e];generalize hR2:32::58::32::([49,101,53]++125::c::r)=R2;generalize hR1:32::44::32::(34::([116,121,112,101]++34::R2))=R1;have e1:∀l:List Int,Dj (m+1) (123::l)=(match V8 (Dj m) false l with | .error e=>.error e | .ok (_,r')=>.ok ((6,[],false),r')):=fun _=>rfl
  have tn:List.all [116,121,112,101] Ve=true:=by decide
  have esk:A3 (34::([116,121,112,101]++34::(58::(vt++R1))))=34::([116,121,112,101]++34::(58::(vt++R1))):=H6 rfl;have ew:Ao [125] (34::([116,121,112,101]++34::(58::(vt++R1))))=none:=by rw[Df];rfl
  obtain⟨N,hN⟩:∃N,(34::([116,121,112,101]++34::(58::(vt++R1)))).length+1=N+1+1:=⟨(34::([116,121,112,101]++34::(58::(vt++R1)))).length-1,by simp⟩
  rw[e1,Mz,esk,ew];simp only;have s58:∀l:List Int,Ao [58] (A3 (58::l))=some l:=fun l=>by rw[H6 rfl,Df];rfl
  have hv:Dj m (A3 (vt++R1))=.ok (v,R1):=by
   have:A3 (vt++R1)=vt++R1:=by rw[hyz];exact H6 hy
   rw[this,←hR1];exact h.rd 32 _ rfl
  have k1:Ao [125] (A3 R1)=none:=by rw[←hR1];rfl
  have k2:Ao [44] (A3 R1)=some (32::(34::([116,121,112,101]++34::R2))):=by rw[←hR1];rfl
  have k3:A3 (32::(34::([116,121,112,101]++34::R2)))=34::([116,121,112,101]++34::R2):=rfl;have k4:Ao [58] (A3 R2)=some (32::([49,101,53]++125::c::r)):=by rw[←hR2];rfl
  have k5:Dj m (A3 (32::([49,101,53]++125::c::r)))=.ok ((3,[],false),125::c::r):=VT.big.rd 125 (c::r) rfl;have k6:Ao [125] (A3 (125::c::r))=some (c::r):=rfl;rw[hN,Np,Ot tn];simp only;rw[OC,Ct (by decide),s58]
  simp only;rw[hv];simp only;rw[k1];simp only;rw[k2];simp only;rw[k3,Np,Ot tn];simp only;rw[OC,Ct (by decide),k4]
  simp only;rw[k5];simp only;rw[k6]
structure MT (t nm:List Int) (v:JV):Prop where
 hd:∃z,t=34::z
 asc:asc t
 rd:∀n ms c r w,RB w->(c=44∨c=125)->(ms.any fun m=>m.1==nm)=false->Oh (Dj 8) true (n+1) ms (t++(w++c::r))=if c=125 then .ok (ms++[(nm,v)],r) else Oh (Dj 8) true n (ms++[(nm,v)]) (A3 r)
theorem HE {nm q w1 w2 vt:List Int}{v:JV}(hq:Qd nm q)(hw1:RB w1)(TB:RB w2)(hv:VT 8 vt v):MT (34::(q++34::(w1++58::(w2++vt)))) nm v where
 hd:=⟨_,rfl⟩
 asc:=Ck (by decide) (Dw hq.asc (Ck (by decide) (Dw (Ti hw1) (Ck (by decide) (Dw (Ti TB) hv.asc)))))
 rd n ms c r w hw hc hd:=by
  obtain⟨y,z,hyz,hy⟩:=hv.hd;have e:(34::(q++34::(w1++58::(w2++vt))))++(w++c::r)=34::(q++34::(w1++58::(w2++(vt++(w++c::r))))):=by simp
  have hws:Po c=false:=by rcases hc with rfl|rfl<;>rfl
  have hf:Aao c=true:=by rcases hc with rfl|rfl<;>rfl
  obtain⟨c',r',NB,hf'⟩:=A0k hw hf r;have s58:Ao [58] (A3 (w1++58::(w2++(vt++(w++c::r)))))=some (w2++(vt++(w++c::r))):=by rw[Pa _ hw1,H6 rfl,Df];rfl
  have sv:A3 (w2++(vt++(w++c::r)))=vt++(w++c::r):=by rw[Pa _ TB,hyz];exact H6 hy
  have N2:Dj 8 (vt++(w++c::r))=.ok (v,w++c::r):=by rw[NB];exact hv.rd c' r' hf'
  have sw:A3 (w++c::r)=c::r:=by rw[Pa _ hw];exact H6 hws
  rw[e,Np,hq.text];simp only;rw[Zzm,hd,Ct (by decide),s58]
  simp only;rw[sv,N2];simp only;rw[sw];rcases hc with rfl|rfl
  ·have e1:Ao [125] (44::r)=none:=by rw[Df];rfl
   have e2:Ao [44] (44::r)=some r:=by rw[Df];rfl
   rw[e1,Ct (by decide)]
   simp only;rw[e2]
  ·have e1:Ao [125] (125::r)=some r:=by rw[Df];rfl
   rw[e1,Dy rfl]
structure Acc (ms:List (List Int × JV)) (a:List Int):Prop where
 asc:asc a
 rd:∀N r,Oh (Dj 8) true (N+ms.length) [] (A3 (a++r))=Oh (Dj 8) true N ms (A3 r)
 len:∀r,ms.length+(A3 r).length<=(A3 (a++r)).length
 no:∀r,Ao [125] (A3 r)=none->Ao [125] (A3 (a++r))=none
theorem Acc.nil:Acc [] []:=⟨Ra,fun _ _=>rfl,fun _=>by simp,fun _ h=>h⟩
theorem Acc.snoc {ms:List (List Int × JV)} {a w w' t nm:List Int}{v:JV}(h:Acc ms a)(hw:RB w)(hw':RB w')(ht:MT t nm v)(hn:(ms.any fun m=>m.1==nm)=false):Acc (ms++[(nm,v)]) (a++(w++(t++(w'++[44])))):=by
 obtain⟨z,hz⟩:=ht.hd;have e:∀r,(a++(w++(t++(w'++[44]))))++r=a++(w++(t++(w'++44::r))):=fun r=>by simp
 have sk:∀r,A3 (w++(t++(w'++44::r)))=t++(w'++44::r):=fun r=>by rw[Pa _ hw,hz];exact H6 rfl
 refine⟨Dw h.asc (Dw (Ti hw) (Dw ht.asc (Dw (Ti hw') (Ck (by decide) Ra)))),fun N r=>?_,fun r=>?_,fun r _=>?_⟩
 ·rw[e,BZ,List.length_singleton,show N+(ms.length+1)=(N+1)+ms.length by omega,h.rd,sk,ht.rd N ms 44 r w' hw' (.inl rfl) hn,Ct (by decide)]
 ·have h1:=h.len (w++(t++(w'++44::r)));rw[e];rw[sk] at h1;have h2:=P3 r;simp at h1 ⊢;omega
 ·rw[e];refine h.no _ ?_;rw[sk,hz,Zzp,Df];rfl
theorem Acc.top {ms:List (List Int × JV)} {a w w' t nm w0 w2:List Int}{v:JV}(h:Acc ms a)(hw:RB w)(hw':RB w')(ht:MT t nm v)(hn:(ms.any fun m=>m.1==nm)=false) (hw0:RB w0)(TB:RB w2):
  AW 8 (w0++123::(a++(w++(t++(w'++125::w2)))))=.ok (ms++[(nm,v)]):=by
 obtain⟨z,hz⟩:=ht.hd;have sk:A3 (w++(t++(w'++125::w2)))=t++(w'++125::w2):=by rw[Pa _ hw,hz];exact H6 rfl
 have e1:Ao [123] (123::(a++(w++(t++(w'++125::w2)))))=some (a++(w++(t++(w'++125::w2)))):=by rw[Df];rfl
 have e2:Ao [125] (A3 (a++(w++(t++(w'++125::w2)))))=none:=h.no _ (by rw[sk,hz,Zzp,Df];rfl)
 have h1:=h.len (w++(t++(w'++125::w2)))
 have Baf:A3 w2=[]:=by
  have:=Pa (w:=w2) [] TB
  rwa [List.append_nil] at this
 obtain⟨N,hN⟩:∃N,(A3 (a++(w++(t++(w'++125::w2))))).length+1=(N+1)+ms.length:=⟨(A3 (a++(w++(t++(w'++125::w2))))).length-ms.length,by omega⟩
 rw[Ue,Pa _ hw0,H6 (show Po 123=false from rfl),e1]
 simp only;rw[Mz,e2];simp only;rw[hN,h.rd,sk,ht.rd N ms 125 w2 w' hw' (.inr rfl) hn,Dy rfl];simp only;rw[Dy Baf]
theorem TN {α:Type}{nm:List Int}{v:α}:∀{ms:List (List Int × α)},(ms.map (·.1)).Nodup->(nm,v)∈ms->ms.find? (fun m=>m.1==nm)=some (nm,v)
 |m::ms,hd,hm=>by
  rw[Zzw,List.nodup_cons] at hd;rw[List.find?_cons];rcases List.mem_cons.1 hm with rfl|hm
  ·simp
  ·have E2:(m.1==nm)=false:=by
    rw[beq_eq_false_iff_ne];intro h;exact hd.1 (List.mem_map.2 ⟨_,hm,h.symm⟩)
   rw[E2];exact TN hd.2 hm
theorem Ae3 {ms ms':List (List Int × JV)} (hd:(ms.map (·.1)).Nodup) (hp:ms'.Perm ms)(nm:List Int):Hx nm ms'=Hx nm ms:=by
 have hd':(ms'.map (·.1)).Nodup:=(hp.map _).nodup_iff.2 hd
 unfold Hx
 congr 1
 cases h:ms.find? (fun m=>m.1==nm) with
 |some m=>
  have h1:=List.mem_of_find?_eq_some h;have h2:m.1=nm:=by simpa using List.find?_some h
  obtain⟨a,v⟩:=m;simp only at h2;subst h2;exact TN hd' (hp.mem_iff.2 h1)
 |none=>
  rw[List.find?_eq_none] at h ⊢;intro x hx;exact h x (hp.mem_iff.1 hx)
theorem Adk {ms ms':List (List Int × JV)} (hd:(ms.map (·.1)).Nodup) (hp:ms'.Perm ms):Jd ms'=Jd ms:=by
 unfold Jd Co;simp only[Ae3 hd hp]
theorem Ajo {ms:List (List Int × JV)} {nm:List Int}(h:nm ∉ ms.map (·.1)):(ms.any fun m=>m.1==nm)=false:=by
 rw[List.any_eq_false];intro m hm h2;exact h (List.mem_map.2 ⟨m,hm,by simpa using h2⟩)
theorem RW {α:Type}:∀{ys:List α}{k:Nat}(h:k<ys.length)(z:α),(ys[k]::ys.set k z).Perm (z::ys)
 |y::t,0,_,z=>List.Perm.swap z y t
 |y::t,k+1,h,z=>by
  have h':k<t.length:=by simpa using h
  have ih:=RW h' z;show (t[k]::y::t.set k z).Perm _;exact (List.Perm.swap y t[k] _).trans ((ih.cons y).trans (List.Perm.swap z y t))
theorem Ae2 {α:Type}{xs:List α}{k n:Nat}(hn:xs.length=n+1)(hk:k<n+1):(xs[k]'(by omega)::(xs.set k (xs[n]'(by omega))).take n).Perm xs:=by
 obtain⟨ys,z,rfl⟩:∃ys z,xs=ys++[z]:=by
  refine⟨xs.dropLast,xs.getLast (by intro h;rw[h] at hn;cases hn),(List.dropLast_concat_getLast _).symm⟩
 have hy:ys.length=n:=by simpa using hn
 have hz:(ys++[z])[n]'(by omega)=z:=by rw[List.getElem_append_right (by omega)];simp[hy]
 rw[hz];by_cases h:k=n
 ·subst h;rw[hz];have:(ys++[z]).set k z=ys++[z]:=by rw[List.set_append_right _ _ (by omega)];simp[hy]
  rw[this,List.take_append_of_le_length (by omega),QT (by omega)]
  exact (List.perm_append_singleton z ys).symm
 ·have Ep:k<ys.length:=by omega
  rw[List.getElem_append_left Ep,List.set_append_left _ _ Ep,List.take_append_of_le_length (by simp;omega),QT (by simp;omega)]
  refine (RW Ep z).trans ?_;exact (List.perm_append_singleton z ys).symm
end
section
open Go.Proofs.Tryz (prog)
open Go.IntKind (wrap)
set_option maxRecDepth 100000
abbrev Zf:FuncId:=17
theorem Y7 {p:Option (List PV->Option Ap)} (fu d Dl:Nat)(Bg:List PV)(Bf:Int):Ae (CP p) prog fu (d+1) Zf [.pbox [.lst false 1 Dl Bg,.sc (.int .i64 Bf)]]=(fun (call:Am)=>Ah (call 7 [.pbox [.lst false 1 Dl Bg,.sc (.int .i64 Bf)],.sc (.int .i64 5)]) fun x1 x2=>Aa x1 fun x3 x4=>Aj .i64 x3 fun x5=>Ad x4<|Aa x2 fun x6 x7=>Aa x6 fun x8 x9=>F1 1 x8 fun E4 Is Iu=>Aa x9 fun Ey Gt=>Aj .i64 Ey fun Ja=>Ad Gt<|Ad x7<|A2 (decide (0<=x5)&&decide (x5<5))<|Ar (List.getD [.sc (.string (ByteArray.mk #[])),.sc (.string (ByteArray.mk #[])),.sc (.string (ByteArray.mk #[32])),.sc (.string (ByteArray.mk #[10,9])),.sc (.string (ByteArray.mk #[13]))] (0+Int.toNat x5*1) .top) fun Gs=>some (Ap.mk [.sc (.string Gs)] [[.lst false 1 Is Iu,.sc (.int .i64 Ja)]])) (Ae (CP p) prog fu d):=by kernel_rfl
abbrev Sb:FuncId:=18
noncomputable def Cu (fu:Nat)(call:Am)(Dl:Nat)(Bg:List PV)(Bf:Int)(a1:ByteArray)(nn:Nat)(y0 y1:ByteArray)(y2:Int)(y3:Nat)(y4:List PV)(y5:Int):Option Ap:=Fh CB prog fu call 18 Tryz.f18 (D2 Tryz.f18) [.pbox [.lst false 1 Dl Bg,.sc (.int .i64 Bf)],.sc (.string a1)] [.r,.r,.l,.r,.l] nn ⟨lk [(0,(.ptr 104000 0)),(1,(.sc (.string y0))),(5,(.sc (.string y1))),(6,(.sc (.int .i64 y2)))],Iw [(104000,(.st [(.lst false 1 y3 y4),(.sc (.int .i64 y5))]))]⟩
theorem Dp (fu:Nat)(call:Am)(Dl:Nat)(Bg:List PV)(Bf:Int)(a1:ByteArray)(nn:Nat)(y0 y1:ByteArray)(y2:Int)(y3:Nat)(y4:List PV)(y5:Int):Cu fu call Dl Bg Bf a1 (nn+1) y0 y1 y2 y3 y4 y5=(Ba (decide (y2<(↑(ByteArray.size y0):Int))) (A2 (decide (0<=y2))<|C5 ((Array.toList (ByteArray.data y0))[Int.toNat y2]?) fun x1=>Ah (call 7 [.pbox [.lst false 1 y3 y4,.sc (.int .i64 y5)],.sc (.int .i64 9)]) fun x2 x3=>Aa x2 fun x4 x5=>Aj .i64 x4 fun x6=>Ad x5<|Aa x3 fun x7 x8=>Aa x7 fun x9 E4=>F1 1 x9 fun Is Iu Ey=>Aa E4 fun Gt Ja=>Aj .i64 Gt fun Gs=>Ad Ja<|Ad x8<|Ba (x6==8) (Ac (Ut .u8 (↑(UInt8.toNat x1):Int) 4) fun Hk=>Ac (Ut .u8 (↑(UInt8.toNat x1):Int) 4) fun I6=>Ac (wrap .u8 (I6+1)) fun H9=>A2 (decide (0<=Hk))<|A2 (decide (0<=H9))<|A2 (decide (Int.toNat Hk<=Int.toNat H9)&&decide (Int.toNat H9<=16))<|Ac (ByteArray.extract (ByteArray.mk #[48,49,50,51,52,53,54,55,56,57,97,98,99,100,101,102]) Hk.toNat H9.toNat) fun I9=>A2 (decide (4+ByteArray.size I9<=9223372036854775807))<|Ac (ByteArray.mk #[92,117,48,48]++I9) fun I5=>Ac (JN .u8 (↑(UInt8.toNat x1):Int) 15) fun Jr=>Ac (JN .u8 (↑(UInt8.toNat x1):Int) 15) fun I4=>Ac (wrap .u8 (I4+1)) fun Hw=>A2 (decide (0<=Jr))<|A2 (decide (0<=Hw))<|A2 (decide (Int.toNat Jr<=Int.toNat Hw)&&decide (Int.toNat Hw<=16))<|Ac (ByteArray.extract (ByteArray.mk #[48,49,50,51,52,53,54,55,56,57,65,66,67,68,69,70]) Jr.toNat Hw.toNat) fun Iz=>A2 (decide (ByteArray.size I5+ByteArray.size Iz<=9223372036854775807))<|Ac (I5++Iz) fun Kr=>A2 (decide (ByteArray.size y1+ByteArray.size Kr<=9223372036854775807))<|Ac (y1++Kr) fun L1=>Ac (wrap .i64 (y2+1)) fun Ms=>Cu fu call Dl Bg Bf a1 (nn) (y0) L1 Ms Iu Ey Gs) (Ba ((↑(UInt8.toNat x1):Int)==47) (Ah (call 7 [.pbox [.lst false 1 Iu Ey,.sc (.int .i64 Gs)],.sc (.int .i64 3)]) fun L6 N4=>Aa L6 fun N1 Pf=>Aj .i64 N1 fun N6=>Ad Pf<|Aa N4 fun O4 Pq=>Aa O4 fun Pm Q2=>F1 1 Pm fun Qs Pi Vw=>Aa Q2 fun Xj Pb=>Aj .i64 Xj fun Pp=>Ad Pb<|Ad Pq<|Ba (N6==2) (A2 (decide (ByteArray.size y1+1<=9223372036854775807))<|Ac (y1++ByteArray.mk #[92]) fun V7=>A2 (decide (ByteArray.size V7+ByteArray.size (ByteArray.mk (List.toArray ((fun x=>Nat.toUInt8 (Int.toNat (↑(UInt8.toNat x1):Int))::x) [])))<=9223372036854775807))<|Ac (V7++ByteArray.mk (List.toArray ((fun x=>Nat.toUInt8 (Int.toNat (↑(UInt8.toNat x1):Int))::x) []))) fun Vn=>Ac (wrap .i64 (y2+1)) fun Xv=>Cu fu call Dl Bg Bf a1 (nn) (y0) Vn Xv Pi Vw Pp) (A2 (decide (ByteArray.size y1+ByteArray.size (ByteArray.mk (List.toArray ((fun x=>Nat.toUInt8 (Int.toNat (↑(UInt8.toNat x1):Int))::x) [])))<=9223372036854775807))<|Ac (y1++ByteArray.mk (List.toArray ((fun x=>Nat.toUInt8 (Int.toNat (↑(UInt8.toNat x1):Int))::x) []))) fun Yb=>Ac (wrap .i64 (y2+1)) fun X9=>Cu fu call Dl Bg Bf a1 (nn) (y0) Yb X9 Pi Vw Pp)) (A2 (decide (ByteArray.size y1+ByteArray.size (ByteArray.mk (List.toArray ((fun x=>Nat.toUInt8 (Int.toNat (↑(UInt8.toNat x1):Int))::x) [])))<=9223372036854775807))<|Ac (y1++ByteArray.mk (List.toArray ((fun x=>Nat.toUInt8 (Int.toNat (↑(UInt8.toNat x1):Int))::x) []))) fun Vp=>Ac (wrap .i64 (y2+1)) fun Wb=>Cu fu call Dl Bg Bf a1 (nn) (y0) Vp Wb Iu Ey Gs))) (A2 (decide (ByteArray.size y1+1<=9223372036854775807))<|Ac (y1++ByteArray.mk #[34]) fun Xh=>some (Ap.mk [.sc (.string Xh)] [[.lst false 1 y3 y4,.sc (.int .i64 y5)]]))):=by kernel_rfl
theorem R3 {p:Option (List PV->Option Ap)} (fu d Dl:Nat)(Bg:List PV)(Bf:Int)(a1:ByteArray):Ae (CP p) prog fu (d+1) Sb [.pbox [.lst false 1 Dl Bg,.sc (.int .i64 Bf)],.sc (.string a1)]=(fun (call:Am)=>Cu fu call Dl Bg Bf a1 (fu) (a1) (ByteArray.mk #[34]) 0 (Dl) (Bg) (Bf)) (Ae (CP p) prog fu d):=by kernel_rfl
abbrev Si:FuncId:=20
theorem Kv {p:Option (List PV->Option Ap)} (fu d:Nat)(a0 a1:Int):Ae (CP p) prog fu (d+1) Si [.sc (.int .i64 a0),.sc (.int .i64 a1)]=(fun (call:Am)=>Ba (decide (a1>0)) (Ac (JN .i64 a0 1) fun x1=>Ba (x1==1) (Ac (wrap .i64 (Int.tdiv a0 2)) fun x2=>Ac (wrap .i64 (a1-1)) fun x3=>Ah (call 20 [.sc (.int .i64 x2),.sc (.int .i64 x3)]) fun x4 x5=>Ad x5<|Aa x4 fun x6 x7=>Ar x6 fun x8=>Ad x7<|A2 (decide (3+ByteArray.size x8<=9223372036854775807))<|Ac (ByteArray.mk #[91,49,44]++x8) fun x9=>A2 (decide (ByteArray.size x9+1<=9223372036854775807))<|Ac (x9++ByteArray.mk #[93]) fun E4=>some (Ap.mk [.sc (.string E4)] [])) (Ac (wrap .i64 (Int.tdiv a0 2)) fun Is=>Ac (wrap .i64 (a1-1)) fun Iu=>Ah (call 20 [.sc (.int .i64 Is),.sc (.int .i64 Iu)]) fun Ey Gt=>Ad Gt<|Aa Ey fun Ja Gs=>Ar Ja fun Hk=>Ad Gs<|A2 (decide (8+ByteArray.size Hk<=9223372036854775807))<|Ac (ByteArray.mk #[123,34,116,121,112,101,34,58]++Hk) fun I6=>A2 (decide (ByteArray.size I6+16<=9223372036854775807))<|Ac (I6++ByteArray.mk #[32,44,32,34,116,121,112,101,34,32,58,32,49,101,53,125]) fun H9=>some (Ap.mk [.sc (.string H9)] []))) (Ah (call 16 [.sc (.int .i64 a0),.sc (.int .i64 8)]) fun I9 I5=>Ad I5<|Aa I9 fun Jr I4=>Aj .i64 Jr fun Hw=>Ad I4<|A2 (decide (0<=Hw)&&decide (Hw<8))<|Ar (List.getD [.sc (.string (ByteArray.mk #[110,117,108,108])),.sc (.string (ByteArray.mk #[34,113,92,34,92,117,48,48,101,57,34])),.sc (.string (ByteArray.mk #[45,48,46,53,69,45,51])),.sc (.string (ByteArray.mk #[116,114,117,101])),.sc (.string (ByteArray.mk #[91,93])),.sc (.string (ByteArray.mk #[123,125])),.sc (.string (ByteArray.mk #[48])),.sc (.string (ByteArray.mk #[34,34]))] (0+Int.toNat Hw*1) .top) fun Iz=>some (Ap.mk [.sc (.string Iz)] []))) (Ae (CP p) prog fu d):=by kernel_rfl
abbrev Qy:FuncId:=9
noncomputable def Bo (fu:Nat)(call:Am)(Dl:Nat)(Bg:List PV)(Bf Nu:Int)(G0:Nat)(Lt:List PV)(Mn:ByteArray)(Ma:Bool)(Mq:ByteArray)(nn y0:Nat)(y1:Int)(y2:Nat)(y3:List PV)(y4:Int)(y5:List PV):Option Ap:=Fh CB prog fu call 9 Tryz.f9 (D2 Tryz.f9) [.pbox [.lst false 1 Dl Bg,.sc (.int .i64 Bf)],.agg [.sc (.int .i64 Nu),.lst false 1 G0 Lt,.sc (.string Mn),.sc (.bool Ma),.sc (.string Mq)]] [.r,.r,.r,.r,.r,.l,.r,.l] nn ⟨lk [(0,(.ptr 248000 0)),(6,(.view 6 1 0 y0)),(7,(.sc (.int .i64 y1)))],Iw [(248000,(.st [(.lst false 1 y2 y3),(.sc (.int .i64 y4))])),(6,(.ar false y5))]⟩
noncomputable def Du (fu:Nat)(call:Am)(Dl:Nat)(Bg:List PV)(Bf Nu:Int)(G0:Nat)(Lt:List PV)(Mn:ByteArray)(Ma:Bool)(Mq:ByteArray)(nn y0:Nat)(y1:ByteArray)(y2:Int)(y3:Nat)(y4:List PV)(y5:Int)(y6:List PV):Option Ap:=Fh CB prog fu call 9 Tryz.f9 (D2 Tryz.f9) [.pbox [.lst false 1 Dl Bg,.sc (.int .i64 Bf)],.agg [.sc (.int .i64 Nu),.lst false 1 G0 Lt,.sc (.string Mn),.sc (.bool Ma),.sc (.string Mq)]] [.r,.r,.r,.r,.r,.r,.r,.l,.r,.l] nn ⟨lk [(0,(.ptr 248000 0)),(6,(.view 6 1 0 y0)),(8,(.sc (.string y1))),(9,(.sc (.int .i64 y2)))],Iw [(248000,(.st [(.lst false 1 y3 y4),(.sc (.int .i64 y5))])),(6,(.ar false y6))]⟩
theorem Ht (fu:Nat)(call:Am)(Dl:Nat)(Bg:List PV)(Bf Nu:Int)(G0:Nat)(Lt:List PV)(Mn:ByteArray)(Ma:Bool)(Mq:ByteArray)(nn y0:Nat)(y1:Int)(y2:Nat)(y3:List PV)(y4:Int)(y5:List PV):Bo fu call Dl Bg Bf Nu G0 Lt Mn Ma Mq (nn+1) y0 y1 y2 y3 y4 y5=(Ba (decide (y1>0)) (Ac (wrap .i64 (48+y1)) fun Aw5=>Ac (wrap .u8 Aw5) fun Atd=>Ac (ByteArray.mk #[120]++ByteArray.mk (List.toArray ((fun x=>Nat.toUInt8 Atd.toNat::x) []))) fun Awg=>Ah (call 18 [.pbox [.lst false 1 y2 y3,.sc (.int .i64 y4)],.sc (.string Awg)]) fun Au7 Avk=>Aa Au7 fun Azm A0p=>Ar Azm fun Anv=>Ad A0p<|Aa Avk fun Avu Ayv=>Aa Avu fun Ay0 Azt=>F1 1 Ay0 fun A33 Ax9 Axm=>Aa Azt fun Azi Azo=>Aj .i64 Azi fun Awd=>Ad Azo<|Ad Ayv<|A2 (decide (ByteArray.size Anv+1<=9223372036854775807))<|Ac (Anv++ByteArray.mk #[58]) fun Anq=>Ah (call 7 [.pbox [.lst false 1 Ax9 Axm,.sc (.int .i64 Awd)],.sc (.int .i64 64)]) fun Atx Ay2=>Aa Atx fun Axj Axh=>Aj .i64 Axj fun As2=>Ad Axh<|Aa Ay2 fun Azd Ayk=>Aa Azd fun Ata Ax5=>F1 1 Ata fun A3m Av2 Av7=>Aa Ax5 fun Aue Auw=>Aj .i64 Aue fun Aze=>Ad Auw<|Ad Ayk<|Ah (call 7 [.pbox [.lst false 1 Av2 Av7,.sc (.int .i64 Aze)],.sc (.int .i64 8)]) fun Ax7 Axg=>Aa Ax7 fun Aui Apm=>Aj .i64 Aui fun Aus=>Ad Apm<|Aa Axg fun Ay9 Ana=>Aa Ay9 fun Aya Az1=>F1 1 Aya fun A11 A0n As9=>Aa Az1 fun Atf Axe=>Aj .i64 Atf fun Au0=>Ad Axe<|Ad Ana<|Ah (call 20 [.sc (.int .i64 As2),.sc (.int .i64 Aus)]) fun Azh Aq5=>Ad Aq5<|Aa Azh fun Axy Ayb=>Ar Axy fun Aih=>Ad Ayb<|A2 (decide (ByteArray.size Anq+ByteArray.size Aih<=9223372036854775807))<|Ac (Anq++Aih) fun Av0=>A2 (decide (y0*1<=y5.length)&&true&&decide ((y0+1)*16<=1099511627776)&&decide (y0+1<=1099511627776))<|Ac (y0+1) fun As3=>Ac (List.take (y0*1) y5++[.sc (.string Av0)]) fun At9=>Ac (wrap .i64 (y1-1)) fun Ay6=>Bo fu call Dl Bg Bf Nu G0 Lt Mn Ma Mq (nn) As3 Ay6 A0n As9 Au0 At9) (Ah (call 17 [.pbox [.lst false 1 y2 y3,.sc (.int .i64 y4)]]) fun A3r Aux=>Aa A3r fun A0j Ax1=>Ar A0j fun Aoj=>Ad Ax1<|Aa Aux fun Aup Av9=>Aa Aup fun Atl Awo=>F1 1 Atl fun A3d Atm Avf=>Aa Awo fun Axu Axq=>Aj .i64 Axu fun Azl=>Ad Axq<|Ad Av9<|A2 (decide (ByteArray.size Aoj+1<=9223372036854775807))<|Ac (Aoj++ByteArray.mk #[123]) fun Axx=>Du fu call Dl Bg Bf Nu G0 Lt Mn Ma Mq (fu) (y0) Axx ((↑y0:Int)) Atm Avf Azl (y5))):=by kernel_rfl
theorem Fe (fu:Nat)(call:Am)(Dl:Nat)(Bg:List PV)(Bf Nu:Int)(G0:Nat)(Lt:List PV)(Mn:ByteArray)(Ma:Bool)(Mq:ByteArray)(nn y0:Nat)(y1:ByteArray)(y2:Int)(y3:Nat)(y4:List PV)(y5:Int)(y6:List PV):Du fu call Dl Bg Bf Nu G0 Lt Mn Ma Mq (nn+1) y0 y1 y2 y3 y4 y5 y6=(Ba (decide (y2>0)) (Ah (call 7 [.pbox [.lst false 1 y3 y4,.sc (.int .i64 y5)],.sc (.int .i64 y2)]) fun Ayx Ayh=>Aa Ayx fun A0a Av1=>Aj .i64 A0a fun OS=>Ad Av1<|Aa Ayh fun Ay7 Azc=>Aa Ay7 fun Awb A0q=>F1 1 Awb fun A3p Auk Av8=>Aa A0q fun Avv Aw0=>Aj .i64 Avv fun Azs=>Ad Aw0<|Ad Azc<|Ah (call 17 [.pbox [.lst false 1 Auk Av8,.sc (.int .i64 Azs)]]) fun At8 Au6=>Aa At8 fun Axl Ato=>Ar Axl fun An8=>Ad Ato<|Aa Au6 fun Au5 Awi=>Aa Au5 fun Av3 Awj=>F1 1 Av3 fun A3x Awc Az8=>Aa Awj fun Ath Aor=>Aj .i64 Ath fun Avg=>Ad Aor<|Ad Awi<|A2 (decide (0<=OS)&&decide (OS<(↑y0:Int)))<|Ar (List.getD y6 (0+Int.toNat OS*1) .top) fun Apr=>A2 (decide (ByteArray.size An8+ByteArray.size Apr<=9223372036854775807))<|Ac (An8++Apr) fun Ahr=>Ah (call 17 [.pbox [.lst false 1 Awc Az8,.sc (.int .i64 Avg)]]) fun Aua Au4=>Aa Aua fun Az9 Atw=>Ar Az9 fun Apk=>Ad Atw<|Aa Au4 fun Ayw Auu=>Aa Ayw fun Atn Auv=>F1 1 Atn fun Atc Aoq Aq1=>Aa Auv fun Anp Atp=>Aj .i64 Anp fun Ap4=>Ad Atp<|Ad Auu<|A2 (decide (ByteArray.size Ahr+ByteArray.size Apk<=9223372036854775807))<|Ac (Ahr++Apk) fun Aol=>A2 (decide (ByteArray.size y1+ByteArray.size Aol<=9223372036854775807))<|Ac (y1++Aol) fun Al1=>Ac (wrap .i64 (y2-1)) fun Apu=>A2 (decide (0<=Apu)&&decide (Apu<(↑y0:Int)))<|Ar (List.getD y6 (0+Int.toNat Apu*1) .top) fun Ate=>A2 (decide (0<=OS)&&decide (OS<(↑y0:Int)))<|A2 (decide (0+Int.toNat OS*1+1<=y6.length))<|Ac (Ca y6 [.sc (.string Ate)] (0+Int.toNat OS*1)) fun Apw=>Ba (decide (y2>1)) (A2 (decide (ByteArray.size Al1+1<=9223372036854775807))<|Ac (Al1++ByteArray.mk #[44]) fun Auq=>Ac (wrap .i64 (y2-1)) fun Ayi=>Du fu call Dl Bg Bf Nu G0 Lt Mn Ma Mq (nn) (y0) Auq Ayi Aoq Aq1 Ap4 Apw) (Ac (wrap .i64 (y2-1)) fun Az4=>Du fu call Dl Bg Bf Nu G0 Lt Mn Ma Mq (nn) (y0) Al1 Az4 Aoq Aq1 Ap4 Apw)) (A2 (decide (ByteArray.size y1+1<=9223372036854775807))<|Ac (y1++ByteArray.mk #[125]) fun Aoo=>Ah (call 17 [.pbox [.lst false 1 y3 y4,.sc (.int .i64 y5)]]) fun Au2 At5=>Aa Au2 fun A0c Azp=>Ar A0c fun Aos=>Ad Azp<|Aa At5 fun Avi At2=>Aa Avi fun Ayu Av5=>F1 1 Ayu fun A3t Avs Aw9=>Aa Av5 fun Axb Avm=>Aj .i64 Axb fun Aw1=>Ad Avm<|Ad At2<|A2 (decide (ByteArray.size Aoo+ByteArray.size Aos<=9223372036854775807))<|Ac (Aoo++Aos) fun Avb=>some (Ap.mk [.sc (.string Avb)] [[.lst false 1 Avs Aw9,.sc (.int .i64 Aw1)]]))):=by kernel_rfl
theorem Q5 {p:Option (List PV->Option Ap)} (fu d Dl:Nat)(Bg:List PV)(Bf Nu:Int)(G0:Nat)(Lt:List PV)(Mn:ByteArray)(Ma:Bool)(Mq:ByteArray):Ae (CP p) prog fu (d+1) Qy [.pbox [.lst false 1 Dl Bg,.sc (.int .i64 Bf)],.agg [.sc (.int .i64 Nu),.lst false 1 G0 Lt,.sc (.string Mn),.sc (.bool Ma),.sc (.string Mq)]]=(fun (call:Am)=>Ba (Nu==1) (Ah (call 17 [.pbox [.lst false 1 Dl Bg,.sc (.int .i64 Bf)]]) fun x1 x2=>Aa x1 fun x3 x4=>Ar x3 fun x5=>Ad x4<|Aa x2 fun x6 x7=>Aa x6 fun x8 x9=>F1 1 x8 fun E4 Is Iu=>Aa x9 fun Ey Gt=>Aj .i64 Ey fun Ja=>Ad Gt<|Ad x7<|A2 (decide (6+ByteArray.size x5<=9223372036854775807))<|Ac (ByteArray.mk #[34,116,121,112,101,34]++x5) fun Gs=>A2 (decide (ByteArray.size Gs+1<=9223372036854775807))<|Ac (Gs++ByteArray.mk #[58]) fun Hk=>Ah (call 17 [.pbox [.lst false 1 Is Iu,.sc (.int .i64 Ja)]]) fun I6 H9=>Aa I6 fun I9 I5=>Ar I9 fun Jr=>Ad I5<|Aa H9 fun I4 Hw=>Aa I4 fun Iz Kr=>F1 1 Iz fun L1 Ms L6=>Aa Kr fun N4 N1=>Aj .i64 N4 fun Pf=>Ad N1<|Ad Hw<|A2 (decide (ByteArray.size Hk+ByteArray.size Jr<=9223372036854775807))<|Ac (Hk++Jr) fun N6=>Ah (call 18 [.pbox [.lst false 1 Ms L6,.sc (.int .i64 Pf)],.sc (.string (ByteArray.mk #[112,97,115,115,107,101,121,46,99,114,101,97,116,101]))]) fun O4 Pq=>Aa O4 fun Pm Q2=>Ar Pm fun Qs=>Ad Q2<|Aa Pq fun Pi Vw=>Aa Pi fun Xj Pb=>F1 1 Xj fun Pp V7 Vn=>Aa Pb fun Xv Yb=>Aj .i64 Xv fun X9=>Ad Yb<|Ad Vw<|A2 (decide (ByteArray.size N6+ByteArray.size Qs<=9223372036854775807))<|Ac (N6++Qs) fun Vp=>Ah (call 18 [.pbox [.lst false 1 V7 Vn,.sc (.int .i64 X9)],.sc (.string (ByteArray.mk #[99,104,97,108,108,101,110,103,101]))]) fun Wb Xh=>Aa Wb fun Oa R8=>Ar Oa fun Xk=>Ad R8<|Aa Xh fun DJ BW=>Aa DJ fun Z9 Z5=>F1 1 Z9 fun EJ FH EZ=>Aa Z5 fun MC RX=>Aj .i64 MC fun ND=>Ad RX<|Ad BW<|A2 (decide (ByteArray.size Xk+1<=9223372036854775807))<|Ac (Xk++ByteArray.mk #[58]) fun JK=>Ah (call 19 [.lst false 1 G0 Lt]) fun PQ KP=>Ad KP<|Aa PQ fun NQ QW=>Ar NQ fun QA=>Ad QW<|Ah (call 18 [.pbox [.lst false 1 FH EZ,.sc (.int .i64 ND)],.sc (.string QA)]) fun LQ JF=>Aa LQ fun FM KK=>Ar FM fun LO=>Ad KK<|Aa JF fun SG VF=>Aa SG fun RE WB=>F1 1 RE fun JU QP RR=>Aa WB fun WN OB=>Aj .i64 WN fun TI=>Ad OB<|Ad VF<|A2 (decide (ByteArray.size JK+ByteArray.size LO<=9223372036854775807))<|Ac (JK++LO) fun RQ=>Ah (call 17 [.pbox [.lst false 1 QP RR,.sc (.int .i64 TI)]]) fun XB NV=>Aa XB fun QX WO=>Ar QX fun PY=>Ad WO<|Aa NV fun QN VH=>Aa QN fun QZ UX=>F1 1 QZ fun YS OP RJ=>Aa UX fun WA Qq=>Aj .i64 WA fun U9=>Ad Qq<|Ad VH<|A2 (decide (9+ByteArray.size PY<=9223372036854775807))<|Ac (ByteArray.mk #[34,111,114,105,103,105,110,34,58]++PY) fun Ri=>Ah (call 18 [.pbox [.lst false 1 OP RJ,.sc (.int .i64 U9)],.sc (.string Mn)]) fun Sg Tc=>Aa Sg fun Ob Rx=>Ar Ob fun Q9=>Ad Rx<|Aa Tc fun Uw W0=>Aa Uw fun Uq Wl=>F1 1 Uq fun BI S6 Uv=>Aa Wl fun V0 Wf=>Aj .i64 V0 fun Va=>Ad Wf<|Ad W0<|A2 (decide (ByteArray.size Ri+ByteArray.size Q9<=9223372036854775807))<|Ac (Ri++Q9) fun S3=>Ba (Ma) (Ah (call 18 [.pbox [.lst false 1 S6 Uv,.sc (.int .i64 Va)],.sc (.string Mq)]) fun Ry R0=>Aa Ry fun Vz Wo=>Ar Vz fun Sc=>Ad Wo<|Aa R0 fun Wd Wm=>Aa Wd fun U6 Vc=>F1 1 U6 fun Ww R5 Vi=>Aa Vc fun BB AH=>Aj .i64 BB fun BD=>Ad AH<|Ad Wm<|A2 (decide (12+ByteArray.size Sc<=9223372036854775807))<|Ac (ByteArray.mk #[34,116,111,112,79,114,105,103,105,110,34,58]++Sc) fun BK=>Ah (call 7 [.pbox [.lst false 1 R5 Vi,.sc (.int .i64 BD)],.sc (.int .i64 3)]) fun AU Z2=>Aa AU fun AJ DH=>Aj .i64 AJ fun AO=>Ad DH<|Aa Z2 fun Xl DG=>Aa Xl fun AP Uu=>F1 1 AP fun X7 Zy Yq=>Aa Uu fun Yo Y6=>Aj .i64 Yo fun DN=>Ad Y6<|Ad DG<|Bo fu call Dl Bg Bf Nu G0 Lt Mn Ma Mq (fu) 5 AO Zy Yq DN ([.sc (.string Vp),.sc (.string RQ),.sc (.string S3),.sc (.string (ByteArray.mk #[34,99,114,111,115,115,79,114,105,103,105,110,34,58,116,114,117,101])),.sc (.string BK)])) (Ah (call 7 [.pbox [.lst false 1 S6 Uv,.sc (.int .i64 Va)],.sc (.int .i64 2)]) fun DA PA=>Aa DA fun PC HR=>Aj .i64 PC fun ON=>Ad HR<|Aa PA fun WL JG=>Aa WL fun Aba Aak=>F1 1 Aba fun Agb UA YI=>Aa Aak fun Aaq VL=>Aj .i64 Aaq fun UM=>Ad VL<|Ad JG<|Ba (ON==1) (Ah (call 7 [.pbox [.lst false 1 UA YI,.sc (.int .i64 UM)],.sc (.int .i64 3)]) fun Abg UG=>Aa Abg fun ZI Aa8=>Aj .i64 ZI fun ZK=>Ad Aa8<|Aa UG fun SL Aa1=>Aa SL fun Aaf XF=>F1 1 Aaf fun Ae8 Afe KD=>Aa XF fun NU XZ=>Aj .i64 NU fun WJ=>Ad XZ<|Ad Aa1<|Bo fu call Dl Bg Bf Nu G0 Lt Mn Ma Mq (fu) 4 ZK Afe KD WJ ([.sc (.string Vp),.sc (.string RQ),.sc (.string S3),.sc (.string (ByteArray.mk #[34,99,114,111,115,115,79,114,105,103,105,110,34,58,102,97,108,115,101]))])) (Ah (call 7 [.pbox [.lst false 1 UA YI,.sc (.int .i64 UM)],.sc (.int .i64 3)]) fun OO ZL=>Aa OO fun Aaz XU=>Aj .i64 Aaz fun ZQ=>Ad XU<|Aa ZL fun XT YT=>Aa XT fun YP ZU=>F1 1 YP fun ZZ Afl ZH=>Aa ZU fun WH Aa3=>Aj .i64 WH fun ZM=>Ad Aa3<|Ad YT<|Bo fu call Dl Bg Bf Nu G0 Lt Mn Ma Mq (fu) 3 ZQ Afl ZH ZM ([.sc (.string Vp),.sc (.string RQ),.sc (.string S3)])))) (Ah (call 17 [.pbox [.lst false 1 Dl Bg,.sc (.int .i64 Bf)]]) fun ZV Aa0=>Aa ZV fun Aa4 Aad=>Ar Aa4 fun TX=>Ad Aad<|Aa Aa0 fun UI VI=>Aa UI fun WK ZD=>F1 1 WK fun Afj NX Aax=>Aa ZD fun ZX UK=>Aj .i64 ZX fun Aa7=>Ad UK<|Ad VI<|A2 (decide (6+ByteArray.size TX<=9223372036854775807))<|Ac (ByteArray.mk #[34,116,121,112,101,34]++TX) fun SY=>A2 (decide (ByteArray.size SY+1<=9223372036854775807))<|Ac (SY++ByteArray.mk #[58]) fun UF=>Ah (call 17 [.pbox [.lst false 1 NX Aax,.sc (.int .i64 Aa7)]]) fun Aei XL=>Aa Aei fun ZA Aaj=>Ar ZA fun SK=>Ad Aaj<|Aa XL fun YD RH=>Aa YD fun YB Aas=>F1 1 YB fun XK ZF Aif=>Aa Aas fun Ajq Aj2=>Aj .i64 Ajq fun Anj=>Ad Aj2<|Ad RH<|A2 (decide (ByteArray.size UF+ByteArray.size SK<=9223372036854775807))<|Ac (UF++SK) fun Ad6=>Ah (call 18 [.pbox [.lst false 1 ZF Aif,.sc (.int .i64 Anj)],.sc (.string (ByteArray.mk #[112,97,115,115,107,101,121,46,103,101,116]))]) fun Ait Alk=>Aa Ait fun Akn Ail=>Ar Akn fun Aeh=>Ad Ail<|Aa Alk fun Aiw Alw=>Aa Aiw fun Ag7 Ald=>F1 1 Ag7 fun Ani Aj1 Amg=>Aa Ald fun Ahk Ajv=>Aj .i64 Ahk fun Amh=>Ad Ajv<|Ad Alw<|A2 (decide (ByteArray.size Ad6+ByteArray.size Aeh<=9223372036854775807))<|Ac (Ad6++Aeh) fun Aa5=>Ah (call 18 [.pbox [.lst false 1 Aj1 Amg,.sc (.int .i64 Amh)],.sc (.string (ByteArray.mk #[99,104,97,108,108,101,110,103,101]))]) fun Ahl Akt=>Aa Ahl fun Afc Amf=>Ar Afc fun Ad0=>Ad Amf<|Aa Akt fun Aet Ako=>Aa Aet fun Ale Amj=>F1 1 Ale fun Aqo Ag5 Akp=>Aa Amj fun Amd Aia=>Aj .i64 Amd fun Aiq=>Ad Aia<|Ad Ako<|A2 (decide (ByteArray.size Ad0+1<=9223372036854775807))<|Ac (Ad0++ByteArray.mk #[58]) fun Aan=>Ah (call 19 [.lst false 1 G0 Lt]) fun Ahe Akx=>Ad Akx<|Aa Ahe fun Afs Al4=>Ar Afs fun Aiv=>Ad Al4<|Ah (call 18 [.pbox [.lst false 1 Ag5 Akp,.sc (.int .i64 Aiq)],.sc (.string Aiv)]) fun Aku Ag9=>Aa Aku fun Aln Akr=>Ar Aln fun Ady=>Ad Akr<|Aa Ag9 fun Aec Ai6=>Aa Aec fun Afn Afp=>F1 1 Afn fun Aq2 Aen Ala=>Aa Afp fun Amr Al5=>Aj .i64 Amr fun Ajb=>Ad Al5<|Ad Ai6<|A2 (decide (ByteArray.size Aan+ByteArray.size Ady<=9223372036854775807))<|Ac (Aan++Ady) fun YL=>Ah (call 17 [.pbox [.lst false 1 Aen Ala,.sc (.int .i64 Ajb)]]) fun Aj0 Ak2=>Aa Aj0 fun Aff Alr=>Ar Aff fun Aag=>Ad Alr<|Aa Ak2 fun Ae6 Alm=>Aa Ae6 fun Adn Alf=>F1 1 Adn fun Aq0 An5 Ajr=>Aa Alf fun Alo Ahi=>Aj .i64 Alo fun Ajy=>Ad Ahi<|Ad Alm<|A2 (decide (9+ByteArray.size Aag<=9223372036854775807))<|Ac (ByteArray.mk #[34,111,114,105,103,105,110,34,58]++Aag) fun Afa=>Ah (call 18 [.pbox [.lst false 1 An5 Ajr,.sc (.int .i64 Ajy)],.sc (.string Mn)]) fun Aj6 Agd=>Aa Aj6 fun Aly Ai7=>Ar Aly fun XG=>Ad Ai7<|Aa Agd fun A0o At1=>Aa A0o fun A0m Axc=>F1 1 A0m fun A5i Aq6 Aqh=>Aa Axc fun Atj Awq=>Aj .i64 Atj fun Ap0=>Ad Awq<|Ad At1<|A2 (decide (ByteArray.size Afa+ByteArray.size XG<=9223372036854775807))<|Ac (Afa++XG) fun Ame=>Ba (Ma) (Ah (call 18 [.pbox [.lst false 1 Aq6 Aqh,.sc (.int .i64 Ap0)],.sc (.string Mq)]) fun Az6 Av4=>Aa Az6 fun Au9 A0i=>Ar Au9 fun Ap1=>Ad A0i<|Aa Av4 fun Axz Atq=>Aa Axz fun A0e Axo=>F1 1 A0e fun A4c Axd Awz=>Aa Axo fun Avl Atz=>Aj .i64 Avl fun Axp=>Ad Atz<|Ad Atq<|A2 (decide (12+ByteArray.size Ap1<=9223372036854775807))<|Ac (ByteArray.mk #[34,116,111,112,79,114,105,103,105,110,34,58]++Ap1) fun A0h=>Ah (call 7 [.pbox [.lst false 1 Axd Awz,.sc (.int .i64 Axp)],.sc (.int .i64 3)]) fun Awt Atr=>Aa Awt fun Axr Ax0=>Aj .i64 Axr fun Awx=>Ad Ax0<|Aa Atr fun Aw8 Aod=>Aa Aw8 fun Avx Aww=>F1 1 Avx fun Atg Awa Au1=>Aa Aww fun Atu Awv=>Aj .i64 Atu fun Azw=>Ad Awv<|Ad Aod<|Bo fu call Dl Bg Bf Nu G0 Lt Mn Ma Mq (fu) 5 Awx Awa Au1 Azw ([.sc (.string Aa5),.sc (.string YL),.sc (.string Ame),.sc (.string (ByteArray.mk #[34,99,114,111,115,115,79,114,105,103,105,110,34,58,116,114,117,101])),.sc (.string A0h)])) (Ah (call 7 [.pbox [.lst false 1 Aq6 Aqh,.sc (.int .i64 Ap0)],.sc (.int .i64 2)]) fun Azf Aud=>Aa Azf fun Auo Ayp=>Aj .i64 Auo fun App=>Ad Ayp<|Aa Aud fun Auj Aws=>Aa Auj fun Aoh Az5=>F1 1 Aoh fun A5d Aqf Aoc=>Aa Az5 fun Aye Axf=>Aj .i64 Aye fun Aqp=>Ad Axf<|Ad Aws<|Ba (App==1) (Ah (call 7 [.pbox [.lst false 1 Aqf Aoc,.sc (.int .i64 Aqp)],.sc (.int .i64 3)]) fun Ayl Aza=>Aa Ayl fun Aog A0b=>Aj .i64 Aog fun Atv=>Ad A0b<|Aa Aza fun Apv At0=>Aa Apv fun Awu Aw2=>F1 1 Awu fun A42 Az0 Az7=>Aa Aw2 fun Ayj Aul=>Aj .i64 Ayj fun Aw6=>Ad Aul<|Ad At0<|Bo fu call Dl Bg Bf Nu G0 Lt Mn Ma Mq (fu) 4 Atv Az0 Az7 Aw6 ([.sc (.string Aa5),.sc (.string YL),.sc (.string Ame),.sc (.string (ByteArray.mk #[34,99,114,111,115,115,79,114,105,103,105,110,34,58,102,97,108,115,101]))])) (Ah (call 7 [.pbox [.lst false 1 Aqf Aoc,.sc (.int .i64 Aqp)],.sc (.int .i64 3)]) fun Aov Aub=>Aa Aov fun As4 Apg=>Aj .i64 As4 fun Ay4=>Ad Apg<|Aa Aub fun Azr Avt=>Aa Azr fun Awh A4u=>F1 1 Awh fun A2j Avr Ayg=>Aa A4u fun A0d Ave=>Aj .i64 A0d fun Awp=>Ad Ave<|Ad Avt<|Bo fu call Dl Bg Bf Nu G0 Lt Mn Ma Mq (fu) 3 Ay4 Avr Ayg Awp ([.sc (.string Aa5),.sc (.string YL),.sc (.string Ame)]))))) (Ae (CP p) prog fu d):=by kernel_rfl
abbrev Hf:FuncId:=4
theorem Nc {p:Option (List PV->Option Ap)} (fu d Hg:Nat)(a0:List PV)(a1n:Nat)(a1:List PV):Ae (CP p) prog fu (d+1) Hf [.lst false 1 Hg a0,.lst false 1 a1n a1]=(fun (call:Am)=>Ah (call 6 [.lst false 1 Hg a0]) fun x1 x2=>Ad x2<|Aa x1 fun x3 x4=>Sn x3 fun x5=>Aa x5 fun x6 x7=>F1 1 x6 fun x8 x9 E4=>Aa x7 fun Is Iu=>Aj .i64 Is fun Ey=>Ad Iu<|Ad x4<|Ah (call 10 [.pbox [.lst false 1 x9 E4,.sc (.int .i64 Ey)]]) fun Gt Ja=>Aa Gt fun Gs Hk=>F7 Gs fun I6=>Aa I6 fun H9 I9=>Aj .i64 H9 fun I5=>Aa I9 fun Jr I4=>IU 1 Jr fun Hw Iz=>Aa I4 fun Kr L1=>Ar Kr fun Ms=>Aa L1 fun L6 N4=>Aq L6 fun N1=>Aa N4 fun Pf N6=>Ar Pf fun O4=>Ad N6<|Ad Hk<|Aa Ja fun Pq Pm=>Aa Pq fun Q2 Qs=>F1 1 Q2 fun Pi Vw Xj=>Aa Qs fun Pb Pp=>Aj .i64 Pb fun V7=>Ad Pp<|Ad Pm<|A2 (decide (0+Hw*1<=Iz.length))<|Ah (call 12 [.agg [.sc (.int .i64 I5),.lst false 1 Hw (List.take (Hw*1) (List.drop 0 Iz)),.sc (.string Ms),.sc (.bool N1),.sc (.string O4)]]) fun Vn Xv=>Ad Xv<|Aa Vn fun Yb X9=>Ar Yb fun Vp=>Aa X9 fun Wb Xh=>Aj .i64 Wb fun Oa=>Ad Xh<|Ba (Oa != 0) (Ah (call 5 []) fun R8 Xk=>Ad Xk<|Aa R8 fun DJ BW=>Aq DJ fun Z9=>Ad BW<|some (Ap.mk [.sc (.bool Z9)] [])) (Ba (decide ((↑a1n:Int)>300)) (Ah (call 5 []) fun Z5 EJ=>Ad EJ<|Aa Z5 fun FH EZ=>Aq FH fun MC=>Ad EZ<|some (Ap.mk [.sc (.bool MC)] [])) (Ah (call 6 [.lst false 1 a1n a1]) fun RX ND=>Ad ND<|Aa RX fun JK PQ=>Sn JK fun KP=>Aa KP fun NQ QW=>F1 1 NQ fun QA LQ JF=>Aa QW fun FM KK=>Aj .i64 FM fun LO=>Ad KK<|Ad PQ<|A2 (decide (0+Hw*1<=Iz.length))<|Ah (call 9 [.pbox [.lst false 1 LQ JF,.sc (.int .i64 LO)],.agg [.sc (.int .i64 I5),.lst false 1 Hw (List.take (Hw*1) (List.drop 0 Iz)),.sc (.string Ms),.sc (.bool N1),.sc (.string O4)]]) fun SG VF=>Aa SG fun RE WB=>Ar RE fun JU=>Ad WB<|Aa VF fun QP RR=>Aa QP fun WN OB=>F1 1 WN fun TI RQ XB=>Aa OB fun NV QX=>Aj .i64 NV fun WO=>Ad QX<|Ad RR<|Ah (call 13 [.sc (.string JU)]) fun PY QN=>Ad QN<|Aa PY fun VH QZ=>F7 VH fun UX=>Aa UX fun YS OP=>Aj .i64 YS fun RJ=>Aa OP fun WA Qq=>F1 1 WA fun U9 Ri Sg=>Aa Qq fun Tc Ob=>Ar Tc fun Rx=>Aa Ob fun Q9 Uw=>Aq Q9 fun W0=>Aa Uw fun Uq Wl=>Ar Uq fun BI=>Ad Wl<|Aa QZ fun S6 Uv=>Aj .i64 S6 fun V0=>Ad Uv<|Ba (decide ((↑(ByteArray.size JU):Int)>1024)) (Ba (V0==8) (Ah (call 5 []) fun Wf Va=>Ad Va<|Aa Wf fun S3 Ry=>Aq S3 fun R0=>Ad Ry<|some (Ap.mk [.sc (.bool R0)] [])) (some (Ap.mk [.sc (.bool false)] []))) (Ba (V0==0) (A2 (decide (0+Hw*1<=Iz.length))<|Ah (call 14 [.agg [.sc (.int .i64 RJ),.lst false 1 Ri Sg,.sc (.string Rx),.sc (.bool W0),.sc (.string BI)],.agg [.sc (.int .i64 I5),.lst false 1 Hw (List.take (Hw*1) (List.drop 0 Iz)),.sc (.string Ms),.sc (.bool N1),.sc (.string O4)]]) fun Vz Wo=>Ad Wo<|Aa Vz fun Sc Wd=>Aq Sc fun Wm=>Ad Wd<|Ba Wm (Ah (call 5 []) fun U6 Vc=>Ad Vc<|Aa U6 fun Ww R5=>Aq Ww fun Vi=>Ad R5<|some (Ap.mk [.sc (.bool Vi)] [])) (some (Ap.mk [.sc (.bool false)] []))) (some (Ap.mk [.sc (.bool false)] [])))))) (Ae (CP p) prog fu d):=by kernel_rfl
end
section
open Go.Proofs.Tryz (prog)
open Go.IntKind (wrap)
set_option maxRecDepth 100000
def IX (n:Int):Int:=if n<10 then 48+n else 87+n
def hxu (n:Int):Int:=if n<10 then 48+n else 55+n
theorem Aqg:∀n:Fin 16,(ByteArray.mk #[(48:UInt8),(49:UInt8),(50:UInt8),(51:UInt8),(52:UInt8),(53:UInt8),(54:UInt8),(55:UInt8),(56:UInt8),(57:UInt8),(97:UInt8),(98:UInt8),(99:UInt8),(100:UInt8),(101:UInt8),(102:UInt8)]).extract n.val (n.val+1)=Ab [IX (n.val:Int)]∧Wp (IX (n.val:Int))=some (n.val:Int):=by decide +kernel
theorem Apa:∀n:Fin 16,(ByteArray.mk #[(48:UInt8),(49:UInt8),(50:UInt8),(51:UInt8),(52:UInt8),(53:UInt8),(54:UInt8),(55:UInt8),(56:UInt8),(57:UInt8),(65:UInt8),(66:UInt8),(67:UInt8),(68:UInt8),(69:UInt8),(70:UInt8)]).extract n.val (n.val+1)=Ab [hxu (n.val:Int)]∧Wp (hxu (n.val:Int))=some (n.val:Int):=by decide +kernel
theorem Aoa:∀n:Fin 256,Ut .u8 (n.val:Int) 4=(n.val:Int) / 16∧JN .u8 (n.val:Int) 15=(n.val:Int) % 16:=by decide +kernel
theorem nib {c:Int}(h:0<=c∧c<=255):Ut .u8 c 4=c / 16∧JN .u8 c 15=c % 16:=by
 obtain⟨n,rfl⟩:=Int.eq_ofNat_of_zero_le h.1;exact Aoa ⟨n,by omega⟩
theorem Atk {n:Int}(h0:0<=n)(h1:n<16):(ByteArray.mk #[(48:UInt8),(49:UInt8),(50:UInt8),(51:UInt8),(52:UInt8),(53:UInt8),(54:UInt8),(55:UInt8),(56:UInt8),(57:UInt8),(97:UInt8),(98:UInt8),(99:UInt8),(100:UInt8),(101:UInt8),(102:UInt8)]).extract (Int.toNat n) (Int.toNat (n+1))=Ab [IX n]∧Wp (IX n)=some n:=by
 obtain⟨k,rfl⟩:=Int.eq_ofNat_of_zero_le h0;have:=Aqg ⟨k,by omega⟩
 simp only at this;rw[Kj,show Int.toNat ((k:Int)+1)=k+1 by omega]
 exact this
theorem Awl {n:Int}(h0:0<=n)(h1:n<16):(ByteArray.mk #[(48:UInt8),(49:UInt8),(50:UInt8),(51:UInt8),(52:UInt8),(53:UInt8),(54:UInt8),(55:UInt8),(56:UInt8),(57:UInt8),(65:UInt8),(66:UInt8),(67:UInt8),(68:UInt8),(69:UInt8),(70:UInt8)]).extract (Int.toNat n) (Int.toNat (n+1))=Ab [hxu n]∧Wp (hxu n)=some n:=by
 obtain⟨k,rfl⟩:=Int.eq_ofNat_of_zero_le h0;have:=Apa ⟨k,by omega⟩
 simp only at this;rw[Kj,show Int.toNat ((k:Int)+1)=k+1 by omega]
 exact this
theorem Aju {n:Int}(h0:0<=n)(h1:n<16):(0<=IX n∧IX n<128)∧(0<=hxu n∧hxu n<128):=by
 unfold IX hxu;split<;>omega
section
variable {fu d:Nat} {p:Option (List PV->Option Ap)}
theorem spD {l:List Int}(hl:l.length<=maxLen)(a:Nat):∃(w:List Int)(a':Nat),RB w∧w.length<=2∧Ae (CP p) prog fu (d+3) 17 [.pbox (Mu l a)]=some ⟨[.sc (.string (Ab w))],[Mu l a']⟩:=by
 have e:=Y7 (p:=p) fu (d+2) l.length (Bl .i64 l) (a:Int);obtain⟨v,a',p1,q1,n1⟩:=Hv hl a 5 (by omega) (by omega)
 have n1:Ae (CP p) prog fu (d+2) 7 [.pbox (Mu l a),.sc (.int .i64 5)]=_:=n1 (fu:=fu) (d:=d) (p:=p);simp only[B4,n1,dT p1,dT q1] at e;have hv:v=0∨v=1∨v=2∨v=3∨v=4:=by omega
 rcases hv with rfl|rfl|rfl|rfl|rfl
 ·exact⟨[],a',rfl,by decide,e⟩
 ·exact⟨[],a',rfl,by decide,e⟩
 ·exact⟨[32],a',rfl,by decide,e⟩
 ·exact⟨[10,9],a',rfl,by decide,e⟩
 ·exact⟨[13],a',rfl,by decide,e⟩
theorem Ld {l s:List Int}(hl:l.length<=maxLen)(hs:s.all Ve=true)(EM:s.length<=100000){Hg:Nat}{a0:List PV}{WI:Int}{aB:ByteArray}:∀(r:List Int)(i nn a:Nat)(q:List Int),s.drop i=r->r.length+1<=nn->Qd (s.take i) q ->
  ∃q' a',Qd s q'∧Cu fu (Ae (CP p) prog fu (d+2)) Hg a0 WI aB nn (Ab s) (Ab (34::q)) (i:Int) l.length (Bl .i64 l) (a:Int)=some ⟨[.sc (.string (Ab (34::(q'++[34]))))],[Mu l a']⟩
 |[],i,nn,a,q,hd,hn,hq=>by
  obtain⟨k,rfl⟩:∃k,nn=k+1:=⟨nn-1,by omega⟩
  have hi:=drop_nil hd;rw[QT (by omega)] at hq
  have hql:=hq.hi;have a1:decide ((i:Int)<(s.length:Int))=false:=dF (by omega)
  have a2:decide ((34::q).length+1<=9223372036854775807)=true:=dT (by simp;omega)
  have l34:ByteArray.mk #[(34:UInt8)]=Ab [34]:=rfl;refine⟨q,a,hq,?_⟩;rw[Dp];simp only[B4,Af,a1,a2,l34,Br,Zzp]
 |c::r,i,nn,a,q,hd,hn,hq=>by
  obtain⟨k,rfl⟩:∃k,nn=k+1:=⟨nn-1,by omega⟩
  obtain⟨hi,hc,Il⟩:=Ff hd;have I7:Ve c=true:=List.all_eq_true.1 hs c (List.mem_of_getElem? hc);have NB:=Kp.1 I7;have hql:=hq.hi;have htl:(s.take i).length<=100000:=by rw[List.length_take];omega
  have htk:s.take (i+1)=s.take i++[c]:=by rw[List.take_add_one,hc];rfl
  have nx:∀e,Qd1 c e->Qd (s.take (i+1)) (q++e):=fun e he=>by rw[htk];exact hq.snoc he
  have a1:decide ((i:Int)<(s.length:Int))=true:=dT (by omega)
  have a2:decide ((0:Int)<=(i:Int))=true:=by simp
  have a3:(Array.toList (Ab s).data)[Int.toNat (i:Int)]?=some c.toNat.toUInt8:=by
   rw[Kj];show (s.map fun n=>n.toNat.toUInt8)[i]?=_
   rw[List.getElem?_map,hc];rfl
  have a4:=Jh (c:=c) (by omega)
  have a5:wrap .i64 ((i:Int)+1)=((i+1:Nat):Int):=by rw[Au (by omega) (by omega)];omega
  have hbc:ByteArray.mk (List.toArray [Nat.toUInt8 (Int.toNat c)])=Ab [c]:=rfl;have l92:ByteArray.mk #[(92:UInt8)]=Ab [92]:=rfl;have a6:decide ((34::q).length+1<=9223372036854775807)=true:=dT (by simp;omega)
  have a7:decide ((34::(q++[92])).length+1<=9223372036854775807)=true:=dT (by simp;omega)
  have sz1:([c]:List Int).length=1:=rfl;obtain⟨v,b,p1,q1,n1⟩:=Hv hl a 9 (by omega) (by omega)
  have n1:Ae (CP p) prog fu (d+2) 7 [.pbox (Mu l a),.sc (.int .i64 9)]=_:=n1 (fu:=fu) (d:=d) (p:=p);by_cases h8:v=8
  ·have z:(v==8)=true:=by simp[h8]
   obtain⟨n4,n15⟩:=nib (c:=c) (by omega)
   obtain⟨x1,x2⟩:=Atk (n:=c / 16) (by omega) (by omega)
   obtain⟨y1,y2⟩:=Awl (n:=c % 16) (by omega) (by omega)
   have hA:=(Aju (n:=c / 16) (by omega) (by omega)).1
   have hB:=(Aju (n:=c % 16) (by omega) (by omega)).2
   have w1:wrap .u8 (c / 16+1)=c / 16+1:=Ol (by omega) (by omega)
   have w2:wrap .u8 (c % 16+1)=c % 16+1:=Ol (by omega) (by omega)
   have b1:=dT (q:=(0:Int)<=c / 16) (by omega)
   have b2:=dT (q:=(0:Int)<=c / 16+1) (by omega)
   have b3:=dT (q:=Int.toNat (c / 16)<=Int.toNat (c / 16+1)) (by omega)
   have b4:=dT (q:=Int.toNat (c / 16+1)<=16) (by omega)
   have c1:=dT (q:=(0:Int)<=c % 16) (by omega)
   have c2:=dT (q:=(0:Int)<=c % 16+1) (by omega)
   have c3:=dT (q:=Int.toNat (c % 16)<=Int.toNat (c % 16+1)) (by omega)
   have c4:=dT (q:=Int.toNat (c % 16+1)<=16) (by omega)
   have lu:ByteArray.mk #[(92:UInt8),(117:UInt8),(48:UInt8),(48:UInt8)]=Ab [92,117,48,48]:=rfl;have d1:decide (4+[IX (c / 16)].length<=9223372036854775807)=true:=rfl;have d2:decide (([92,117,48,48]++[IX (c / 16)]).length+[hxu (c % 16)].length<=9223372036854775807)=true:=rfl;have d3:decide ((34::q).length+([92,117,48,48]++[IX (c / 16)]++[hxu (c % 16)]).length<=9223372036854775807)=true:=dT (by simp;omega)
   obtain⟨q',a',h1,h2⟩:=Ld hl hs EM (Hg:=Hg) (a0:=a0) (WI:=WI) (aB:=aB) r (i+1) k b (q++[92,117,48,48,IX (c / 16),hxu (c % 16)]) Il (by simp at hn;omega) (nx _ (Apy I7 x2 y2 hA hB))
   refine⟨q',a',h1,?_⟩;rw[Dp];simp only[B4,Af,a1,a2,a3,a4,n1,z,n4,n15,w1,w2,b1,b2,b3,b4,c1,c2,c3,c4,x1,y1,lu,Br,d1,d2,d3,a5];exact h2
  have z:(v==8)=false:=by simp[h8]
  by_cases h47:c=47
  ·subst h47;have z2:((47:Int)==47)=true:=rfl;obtain⟨v2,b2,p2,q2,n2⟩:=Hv hl b 3 (by omega) (by omega)
   have n2:Ae (CP p) prog fu (d+2) 7 [.pbox (Mu l b),.sc (.int .i64 3)]=_:=n2 (fu:=fu) (d:=d) (p:=p);by_cases hv2:v2=2
   ·have z3:(v2==2)=true:=by simp[hv2]
    obtain⟨q',a',h1,h2⟩:=Ld hl hs EM (Hg:=Hg) (a0:=a0) (WI:=WI) (aB:=aB) r (i+1) k b2 (q++[92,47]) Il (by simp at hn;omega) (nx _ Af8)
    have a8:decide (((34::q)++[92]).length+[(47:Int)].length<=9223372036854775807)=true:=dT (by simp;omega)
    refine⟨q',a',h1,?_⟩;rw[Dp];simp only[B4,Af,a1,a2,a3,a4,n1,z,z2,n2,z3,l92,Br,hbc,a6,a8,a5];rw[show (34::q)++[92]++[47]=34::(q++[92,47]) by simp]
    exact h2
   ·have z3:(v2==2)=false:=by simp[hv2]
    obtain⟨q',a',h1,h2⟩:=Ld hl hs EM (Hg:=Hg) (a0:=a0) (WI:=WI) (aB:=aB) r (i+1) k b2 (q++[47]) Il (by simp at hn;omega) (nx _ (NY I7))
    have a8:decide ((34::q).length+[(47:Int)].length<=9223372036854775807)=true:=dT (by simp;omega)
    refine⟨q',a',h1,?_⟩;rw[Dp];simp only[B4,Af,a1,a2,a3,a4,n1,z,z2,n2,z3,Br,hbc,a8,a5];exact h2
  ·have z2:(c==47)=false:=by simp[h47]
   obtain⟨q',a',h1,h2⟩:=Ld hl hs EM (Hg:=Hg) (a0:=a0) (WI:=WI) (aB:=aB) r (i+1) k b (q++[c]) Il (by simp at hn;omega) (nx _ (NY I7))
   have a8:decide ((34::q).length+[c].length<=9223372036854775807)=true:=dT (by simp;omega)
   refine⟨q',a',h1,?_⟩;rw[Dp];simp only[B4,Af,a1,a2,a3,a4,n1,z,z2,Br,hbc,a8,a5];exact h2
theorem Ud {l s:List Int}(hl:l.length<=maxLen)(hs:s.all Ve=true)(EM:s.length<=100000)(Eu:s.length+1<=fu)(a:Nat):∃(q:List Int)(a':Nat),Qd s q∧Ae (CP p) prog fu (d+3) 18 [.pbox (Mu l a),.sc (.string (Ab s))]=some ⟨[.sc (.string (Ab (34::(q++[34]))))],[Mu l a']⟩:=by
 obtain⟨q,a',h1,h2⟩:=Ld (fu:=fu) (d:=d) (p:=p) hl hs EM (Hg:=l.length) (a0:=Bl .i64 l) (WI:=(a:Int)) (aB:=Ab s) s 0 fu a [] rfl Eu Qd.nil;exact⟨q,a',h1,(R3 (p:=p) fu (d+2) l.length (Bl .i64 l) (a:Int) (Ab s)).trans h2⟩
end
end
section
open Go.Proofs.Tryz (prog)
open Go.IntKind (wrap)
set_option maxRecDepth 100000
section
variable {fu d:Nat} {p:Option (List PV->Option Ap)}
theorem Aka:∀(k:Nat)(n:Int),k<=1000->∃(vt:List Int)(v:JV),(∀m,k<m->VT m vt v)∧vt.length<=24*k+12∧Ae (CP p) prog fu (d+k+2) 20 [.sc (.int .i64 n),.sc (.int .i64 (k:Int))]=some ⟨[.sc (.string (Ab vt))],[]⟩
 |0,n,_=>by
  obtain⟨r,h0,h1,hm⟩:=An7 n 8 (by omega) (by omega)
  have hm:Ae (CP p) prog fu (d+0+1) 16 [.sc (.int .i64 n),.sc (.int .i64 8)]=_:=hm;have e:=Kv (p:=p) fu (d+0+1) n 0;have a0:decide ((0:Int)>0)=false:=rfl;have a1:=dT (q:=(0:Int)<=r) h0;have a2:=dT (q:=r<8) h1;simp only[B4,hm,a0,a1,a2] at e;have hr:r=0∨r=1∨r=2∨r=3∨r=4∨r=5∨r=6∨r=7:=by omega
  rcases hr with rfl|rfl|rfl|rfl|rfl|rfl|rfl|rfl
  ·exact⟨_,_,fun m _=>VT.nul,by decide,e⟩
  ·exact⟨_,_,fun m _=>VT.qe,by decide,e⟩
  ·exact⟨_,_,fun m _=>VT.half,by decide,e⟩
  ·exact⟨_,_,fun m _=>VT.tru,by decide,e⟩
  ·exact⟨[91,93],_,fun m h=>by obtain⟨j,rfl⟩:∃j,m=j+1:=⟨m-1,by omega⟩;exact VT.arr0,by decide,e⟩
  ·exact⟨[123,125],_,fun m h=>by obtain⟨j,rfl⟩:∃j,m=j+1:=⟨m-1,by omega⟩;exact VT.obj0,by decide,e⟩
  ·exact⟨_,_,fun m _=>VT.zero,by decide,e⟩
  ·exact⟨[34,34],_,fun m _=>VT.str Qd.nil,by decide,e⟩
 |k+1,n,hk=>by
  obtain⟨vt,v,h1,h2,h3⟩:=Aka k (wrap .i64 (Int.tdiv n 2)) (by omega)
  have h3:Ae (CP p) prog fu (d+(k+1)+1) 20 [.sc (.int .i64 (wrap .i64 (Int.tdiv n 2))),.sc (.int .i64 (k:Int))]=_:=h3;have e:=Kv (p:=p) fu (d+(k+1)+1) n ((k+1:Nat):Int);have a0:decide (((k+1:Nat):Int)>0)=true:=dT (by omega)
  have a1:wrap .i64 (((k+1:Nat):Int)-1)=(k:Int):=by rw[Au (by omega) (by omega)];omega
  have l1:ByteArray.mk #[(91:UInt8),(49:UInt8),(44:UInt8)]=Ab [91,49,44]:=rfl;have l2:ByteArray.mk #[(93:UInt8)]=Ab [93]:=rfl;have l3:ByteArray.mk #[(123:UInt8),(34:UInt8),(116:UInt8),(121:UInt8),(112:UInt8),(101:UInt8),(34:UInt8),(58:UInt8)]=Ab [123,34,116,121,112,101,34,58]:=rfl;have l4:ByteArray.mk #[(32:UInt8),(44:UInt8),(32:UInt8),(34:UInt8),(116:UInt8),(121:UInt8),(112:UInt8),(101:UInt8),(34:UInt8),(32:UInt8),(58:UInt8),(32:UInt8),(49:UInt8),(101:UInt8),(53:UInt8),(125:UInt8)]=Ab [32,44,32,34,116,121,112,101,34,32,58,32,49,101,53,125]:=rfl;have c1:decide (3+vt.length<=9223372036854775807)=true:=dT (by omega)
  have c2:decide (([91,49,44]++vt).length+1<=9223372036854775807)=true:=dT (by simp;omega)
  have c3:decide (8+vt.length<=9223372036854775807)=true:=dT (by omega)
  have c4:decide (([123,34,116,121,112,101,34,58]++vt).length+16<=9223372036854775807)=true:=dT (by simp;omega)
  cases hb:(JN IntKind.i64 n 1==1) with
  |true=>
   simp only[B4,a0,hb,a1,h3,Af,l1,l2,Br,c1,c2] at e;refine⟨_,(5,[],false),fun m hm=>?_,?_,e⟩
   ·obtain⟨j,rfl⟩:∃j,m=j+1:=⟨m-1,by omega⟩
    have:=(h1 j (by omega)).arr
    simpa using this
   ·simp;omega
  |false=>
   simp only[B4,a0,hb,a1,h3,Af,l3,l4,Br,c3,c4] at e;refine⟨_,(6,[],false),fun m hm=>?_,?_,e⟩
   ·obtain⟨j,rfl⟩:∃j,m=j+1:=⟨m-1,by omega⟩
    have:=(h1 j (by omega)).obj
    simpa using this
   ·simp;omega
abbrev Mem:=List Int × List Int × JV
def wC (xs:List Mem):List PV:=xs.map fun x=>.sc (.string (Ab x.1))
theorem ZP {xs:List Mem}{i:Nat}(h:i<xs.length):List.getD (wC xs) i .top=.sc (.string (Ab xs[i].1)):=by
 unfold wC;rw[List.getD_eq_getElem?_getD,List.getElem?_map,List.getElem?_eq_getElem h];rfl
theorem YH (xs:List Mem):(wC xs).length=xs.length:=by unfold wC;rw[List.length_map]
theorem Ak9 {xs:List Mem}{i:Nat}{x:Mem}(h:i<xs.length):Ca (wC xs) [.sc (.string (Ab x.1))] i=wC (xs.set i x):=by
 unfold Ca wC;rw[List.map_set,List.set_eq_take_append_cons_drop,Dy (by rw[List.length_map];exact h),List.length_singleton,Zzv]
 rfl
theorem A22 {α:Type}{xs:List α}{v n:Nat}(hn:n<xs.length)(hv:v<n+1):(xs[v]::(xs.set v xs[n]).take n).Perm (xs.take (n+1)):=by
 have h:=Ae2 (xs:=xs.take (n+1)) (k:=v) (n:=n) (by rw[List.length_take];omega) hv
 have e:((xs.take (n+1)).set v xs[n]).take n=(xs.set v xs[n]).take n:=by rw[List.take_set,List.take_set,List.take_take,Nat.min_eq_left (show n<=n+1 by omega)]
 rw[List.getElem_take,List.getElem_take,e] at h;exact h
def WrQ (l:List Int)(L:List (List Int × JV)) (r:Option Ap):Prop:=∃(W:List Int)(a':Nat)(ms:List (List Int × JV)),r=some ⟨[.sc (.string (Ab W))],[Mu l a']⟩∧asc W∧W.length<=1000000∧AW 8 W=.ok ms∧ms.Perm L
set_option maxHeartbeats 2000000 in
theorem Ah2 {l:List Int}(hl:l.length<=maxLen){L:List (List Int × JV)} (hd:(L.map (·.1)).Nodup) {Hg a1n:Nat}{a0 a1:List PV}{WI a10:Int}{b2 b4:ByteArray}{b3:Bool}{w0:List Int}(hw0:RB w0)(Be2:w0.length<=2):
  ∀(n:Nat) (xs:List Mem) (ms:List (List Int × JV)) (acc:List Int) (a nn:Nat),n<xs.length->xs.length<=1000->n+3<=nn->(∀x∈xs.take (n+1),MT x.1 x.2.1 x.2.2∧x.1.length<=8000)->(ms++(xs.take (n+1)).map (·.2)).Perm L->Acc ms acc->acc.length+n*8010<=500000 ->
   WrQ l L (Du fu (Ae (CP p) prog fu (d+3)) Hg a0 WI a10 a1n a1 b2 b3 b4 nn xs.length (Ab (w0++123::acc)) ((n+1:Nat):Int) l.length (Bl .i64 l) (a:Int) (wC xs)):=by
 intro n
 induction n with
 |zero=>
  intro xs ms acc a nn hn IX N7 hM hP hA My;obtain⟨q,rfl⟩:∃q,nn=q+1+1:=⟨nn-2,by omega⟩
  obtain⟨v,b1,p1,q1,n1⟩:=Hv hl a ((0+1:Nat):Int) (by omega) (by omega)
  have n1:Ae (CP p) prog fu (d+3) 7 [.pbox (Mu l a),.sc (.int .i64 ((0+1:Nat):Int))]=_:=n1 (fu:=fu) (d:=d+1) (p:=p);obtain rfl:v=0:=by omega
  obtain⟨w,b2',hw,hwl,s1⟩:=spD (fu:=fu) (d:=d) (p:=p) hl b1;obtain⟨w',b3',hw',A6y,s2⟩:=spD (fu:=fu) (d:=d) (p:=p) hl b2';obtain⟨w2,b4',TB,A8p,s3⟩:=spD (fu:=fu) (d:=d) (p:=p) hl b3';obtain⟨hm,hml⟩:=hM xs[0] (by rw[List.take_succ_eq_append_getElem hn];simp)
  have ht1:xs.take (0+1)=[xs[0]]:=by rw[List.take_succ_eq_append_getElem hn];rfl
  rw[ht1] at hP;have hN:((ms++[xs[0].2]).map (·.1)).Nodup:=(hP.map _).nodup_iff.2 hd
  have Y2:(ms.any fun m=>m.1==xs[0].2.1)=false:=Ajo (by
   rw[List.map_append,List.nodup_append] at hN;intro O7;exact hN.2.2 _ O7 _ (by simp) rfl)
  have g0:=ZP hn;have st:=Ak9 (x:=xs[0]) hn;have wl:=YH xs;have k1:decide (((0+1:Nat):Int)>0)=true:=rfl;have k2:decide (((0+1:Nat):Int)>1)=false:=rfl;have k3:wrap .i64 (((0+1:Nat):Int)-1)=0:=rfl;have k4:decide ((0:Int)<=0)=true:=rfl;have k5:decide ((0:Int)<((xs.length:Nat):Int))=true:=dT (by omega)
  have k6:decide ((0:Int)>0)=false:=rfl;have k7:(0+Int.toNat 0*1)=0:=rfl;have k8:decide (0+1<=xs.length)=true:=dT (by omega)
  have l1:ByteArray.mk #[(125:UInt8)]=Ab [125]:=rfl;have c1:decide (w.length+xs[0].1.length<=9223372036854775807)=true:=dT (by omega)
  have c2:decide ((w++xs[0].1).length+w'.length<=9223372036854775807)=true:=dT (by simp;omega)
  have c3:decide ((w0++(123:Int)::acc).length+(w++xs[0].1++w').length<=9223372036854775807)=true:=dT (by simp;omega)
  have c4:decide ((w0++(123:Int)::acc++(w++xs[0].1++w')).length+1<=9223372036854775807)=true:=dT (by simp;omega)
  have c5:decide ((w0++(123:Int)::acc++(w++xs[0].1++w')++[(125:Int)]).length+w2.length<=9223372036854775807)=true:=dT (by simp;omega)
  have eW:w0++(123:Int)::acc++(w++xs[0].1++w')++[(125:Int)]++w2=w0++(123:Int)::(acc++(w++(xs[0].1++(w'++125::w2)))):=by simp
  refine⟨w0++123::acc++(w++xs[0].1++w')++[125]++w2,b4',ms++[xs[0].2],?_,?_,?_,?_,hP⟩
  ·rw[Fe];simp only[B4,k1,n1,s1,k4,k5,k7,g0,Af,c1,Br,s2,c2,c3,k3,wl,k8,st,k2];rw[Fe];simp only[B4,k6,Af,c4,l1,Br,s3,c5]
  ·rw[eW];exact Dw (Ti hw0) (Ck (by decide) (Dw hA.asc (Dw (Ti hw) (Dw hm.asc (Dw (Ti hw') (Ck (by decide) (Ti TB)))))))
  ·simp;omega
  ·rw[eW];exact hA.top hw hw' hm Y2 hw0 TB
 |succ n ih=>
  intro xs ms acc a nn hn IX N7 hM hP hA My;obtain⟨q,rfl⟩:∃q,nn=q+1:=⟨nn-1,by omega⟩
  obtain⟨v,b1,p1,q1,n1⟩:=Hv hl a ((n+1+1:Nat):Int) (by omega) (by omega)
  have n1:Ae (CP p) prog fu (d+3) 7 [.pbox (Mu l a),.sc (.int .i64 ((n+1+1:Nat):Int))]=_:=n1 (fu:=fu) (d:=d+1) (p:=p);obtain⟨v,rfl⟩:=Int.eq_ofNat_of_zero_le p1;have hv:v<n+1+1:=by omega
  obtain⟨w,b2',hw,hwl,s1⟩:=spD (fu:=fu) (d:=d) (p:=p) hl b1;obtain⟨w',b3',hw',A6y,s2⟩:=spD (fu:=fu) (d:=d) (p:=p) hl b2';have hvx:v<xs.length:=by omega
  have pk:=A22 hn hv;obtain⟨hm,hml⟩:=hM xs[v] (pk.mem_iff.1 (List.mem_cons_self))
  have hP2:(ms++(xs[v].2::((xs.set v xs[n+1]).take (n+1)).map (·.2))).Perm L:=by
   have:=pk.map (·.2)
   rw[Zzw] at this;exact (this.append_left ms).trans hP
  have hN:((ms++(xs[v].2::((xs.set v xs[n+1]).take (n+1)).map (·.2))).map (·.1)).Nodup:=(hP2.map _).nodup_iff.2 hd
  have Y2:(ms.any fun m=>m.1==xs[v].2.1)=false:=Ajo (by
   rw[List.map_append,List.nodup_append] at hN;intro O7;exact hN.2.2 _ O7 _ (by simp) rfl)
  have g0:=ZP hvx;have g1:=ZP hn;have st:=Ak9 (x:=xs[n+1]) hvx;have wl:=YH xs;have k1:decide (((n+1+1:Nat):Int)>0)=true:=dT (by omega)
  have k2:decide (((n+1+1:Nat):Int)>1)=true:=dT (by omega)
  have k3:wrap .i64 (((n+1+1:Nat):Int)-1)=((n+1:Nat):Int):=by rw[Au (by omega) (by omega)];omega
  have k4:decide ((0:Int)<=((v:Nat):Int))=true:=dT (by omega)
  have k5:decide (((v:Nat):Int)<((xs.length:Nat):Int))=true:=dT (by omega)
  have k6:decide ((0:Int)<=((n+1:Nat):Int))=true:=dT (by omega)
  have k7:decide (((n+1:Nat):Int)<((xs.length:Nat):Int))=true:=dT (by omega)
  have k8:(0+Int.toNat ((v:Nat):Int)*1)=v:=by omega
  have k9:(0+Int.toNat ((n+1:Nat):Int)*1)=n+1:=by omega
  have kA:decide (v+1<=xs.length)=true:=dT (by omega)
  have l1:ByteArray.mk #[(44:UInt8)]=Ab [44]:=rfl;have c1:decide (w.length+xs[v].1.length<=9223372036854775807)=true:=dT (by omega)
  have c2:decide ((w++xs[v].1).length+w'.length<=9223372036854775807)=true:=dT (by simp;omega)
  have c3:decide ((w0++(123:Int)::acc).length+(w++xs[v].1++w').length<=9223372036854775807)=true:=dT (by simp;omega)
  have c4:decide ((w0++(123:Int)::acc++(w++xs[v].1++w')).length+1<=9223372036854775807)=true:=dT (by simp;omega)
  have eW:w0++(123:Int)::acc++(w++xs[v].1++w')++[(44:Int)]=w0++(123:Int)::(acc++(w++(xs[v].1++(w'++[(44:Int)])))):=by simp
  have ih:=ih (xs.set v xs[n+1]) (ms++[xs[v].2]) (acc++(w++(xs[v].1++(w'++[44])))) b3' q (by rw[List.length_set];omega) (by rw[List.length_set];omega) (by omega) (fun x hx=>hM x (pk.mem_iff.1 (List.mem_cons_of_mem _ hx))) (by rw[Zzv];exact hP2) (hA.snoc hw hw' hm Y2) (by simp;omega)
  rw[List.length_set] at ih;rw[Fe];simp only[B4,k1,n1,s1,k4,k5,k6,k7,k8,k9,kA,g0,g1,Af,c1,Br,s2,c2,c3,k3,wl,st,k2,c4,l1,eW];exact ih
end
end
section
open Go.Proofs.Tryz (prog)
open Go.IntKind (wrap)
set_option maxRecDepth 100000
theorem Tr {A B:List (List Int × JV)} {nm:List Int}(h:∀m∈B,m.1.head?=some 120)(hn:nm.head?≠some 120):Hx nm (A++B)=Hx nm A:=by
 unfold Hx;rw[List.find?_append]
 have:B.find? (fun m=>m.1==nm)=none:=by
  rw[List.find?_eq_none];intro m hm h2;have:m.1=nm:=by simpa using h2
  exact hn (this ▸ h m hm)
 rw[this];cases A.find? (fun m=>m.1==nm)<;>rfl
theorem Akc {A B:List (List Int × JV)} (h:∀m∈B,m.1.head?=some 120):Jd (A++B)=Jd A:=by
 unfold Jd Co;rw[Tr h (by decide),Tr h (by decide),Tr h (by decide),Tr h (by decide),Tr h (by decide)]
theorem JZ {ty ch o:List Int}{k:Int}(hk:tyS k=some ty)(ED:Cx ch)(h1:1<=ch.length)(h2:ch.length<=64)(ho:Ec o=0):
  Jd [(Jx,(4,ty,false)),(Nr,(4,Ef ch,false)),(Y0,(4,o,false))]=.ok (k,ch,o,false,[]):=by
 rw[←Mh (x:=false) (t:=[]) hk ED h1 h2 ho (fun h=>by cases h) (fun _=>rfl)]
 have e1:Jd [(Jx,(4,ty,false)),(Nr,(4,Ef ch,false)),(Y0,(4,o,false))]=Hm (4,ty,false) (4,Ef ch,false) (4,o,false) (0,[],false) (0,[],false):=rfl;have e2:Jd (Aob ty ch o [] false)=Hm (4,ty,false) (4,Ef ch,false) (4,o,false) (2,[],false) (0,[],false):=rfl;rw[e1,e2];unfold Hm Wr;simp
section
variable {fu d:Nat} {p:Option (List PV->Option Ap)}
set_option maxHeartbeats 2000000 in
theorem Aiy {l:List Int}(hl:l.length<=maxLen)(Eu:2000<=fu){Hg a1n:Nat}{a0 a1:List PV}{WI a10:Int}{b2 b4:ByteArray}{b3:Bool}:
  ∀(j:Nat) (xs:List Mem) (a nn:Nat),j<=2->1<=xs.length->xs.length+j<=20->j+1<=nn->(∀x∈xs,MT x.1 x.2.1 x.2.2∧x.1.length<=8000)->(xs.map (·.2.1)).Nodup->(∀i:Nat,i<=j->[120,48+(i:Int)] ∉ xs.map (·.2.1)) ->
   ∃ex:List Mem,(∀m∈ex.map (·.2),m.1.head?=some 120)∧((xs++ex).map (·.2.1)).Nodup∧WrQ l ((xs++ex).map (·.2)) (Bo fu (Ae (CP p) prog fu (d+9)) Hg a0 WI a10 a1n a1 b2 b3 b4 nn xs.length (j:Int) l.length (Bl .i64 l) (a:Int) (wC xs)):=by
 intro j
 induction j with
 |zero=>
  intro xs a nn hj hx1 IX N7 hM hN Y2;obtain⟨q,rfl⟩:∃q,nn=q+1:=⟨nn-1,by omega⟩
  obtain⟨w,b1,hw,hwl,s1⟩:=spD (fu:=fu) (d:=d+6) (p:=p) hl a;have s1:Ae (CP p) prog fu (d+9) 17 [.pbox (Mu l a)]=_:=s1;obtain⟨n,hn⟩:∃n,xs.length=n+1:=⟨xs.length-1,by omega⟩
  have ht:xs.take (n+1)=xs:=QT (by omega)
  have e:=Ah2 (fu:=fu) (d:=d+6) (p:=p) hl (L:=xs.map (·.2)) (by rw[List.map_map];exact hN) (Hg:=Hg) (a1n:=a1n) (a0:=a0) (a1:=a1) (WI:=WI) (a10:=a10) (b2:=b2) (b4:=b4) (b3:=b3) hw hwl n xs [] [] b1 fu (by omega) (by omega) (by omega) (by rw[ht];exact hM) (by rw[ht];exact List.Perm.refl _) Acc.nil (by simp;omega)
  rw[←hn] at e;refine⟨[],(fun m hm=>by cases hm),by rw[List.append_nil];exact hN,?_⟩
  rw[List.append_nil];have k1:decide (((0:Nat):Int)>0)=false:=rfl;have l1:ByteArray.mk #[(123:UInt8)]=Ab [123]:=rfl;have c1:decide (w.length+1<=9223372036854775807)=true:=dT (by omega)
  rw[Ht];simp only[B4,k1,s1,Af,c1,l1,Br];exact e
 |succ j ih=>
  intro xs a nn hj hx1 IX N7 hM hN Y2;obtain⟨q,rfl⟩:∃q,nn=q+1:=⟨nn-1,by omega⟩
  have I7:([120,48+((j+1:Nat):Int)]:List Int).all Ve=true:=by
   rw[List.all_eq_true];intro x hx;rw[Kp];simp at hx;omega
  obtain⟨qt,b1,hq,s1⟩:=Ud (fu:=fu) (d:=d+6) (p:=p) hl I7 (by simp) (by simp;omega) a
  have s1:Ae (CP p) prog fu (d+9) 18 [.pbox (Mu l a),.sc (.string (Ab [120,48+((j+1:Nat):Int)]))]=_:=s1;obtain⟨v,b2',p1,q1,n1⟩:=Hv hl b1 64 (by omega) (by omega)
  have n1:Ae (CP p) prog fu (d+9) 7 [.pbox (Mu l b1),.sc (.int .i64 64)]=_:=n1 (fu:=fu) (d:=d+7) (p:=p);obtain⟨u,b3',p2,q2,n2⟩:=Hv hl b2' 8 (by omega) (by omega)
  have n2:Ae (CP p) prog fu (d+9) 7 [.pbox (Mu l b2'),.sc (.int .i64 8)]=_:=n2 (fu:=fu) (d:=d+7) (p:=p);obtain⟨u,rfl⟩:=Int.eq_ofNat_of_zero_le p2;obtain⟨vt,vv,hvt,hvl,s2⟩:=Aka (fu:=fu) (d:=d+(7-u)) (p:=p) u v (by omega)
  rw[show d+(7-u)+u+2=d+9 by omega] at s2
  have hVT:=hvt 8 (by omega)
  have hql:=hq.hi;simp only[Uk,QY] at hql
  have hmt:MT ((34::(qt++[34]))++[58]++vt) [120,48+((j+1:Nat):Int)] vv:=by
   have:=HE (w1:=[]) (w2:=[]) hq rfl rfl hVT
   simpa using this
  have w1:wrap .i64 (48+((j+1:Nat):Int))=48+((j+1:Nat):Int):=Au (by omega) (by omega)
  have w2:wrap .u8 (48+((j+1:Nat):Int))=48+((j+1:Nat):Int):=Ol (by omega) (by omega)
  have w3:wrap .i64 (((j+1:Nat):Int)-1)=(j:Int):=by rw[Au (by omega) (by omega)];omega
  have k1:decide (((j+1:Nat):Int)>0)=true:=dT (by omega)
  have l1:ByteArray.mk #[(120:UInt8)]=Ab [120]:=rfl;have l2:ByteArray.mk (List.toArray [Nat.toUInt8 (Int.toNat (48+((j+1:Nat):Int)))])=Ab [48+((j+1:Nat):Int)]:=rfl;have l3:([120]:List Int)++[48+((j+1:Nat):Int)]=[120,48+((j+1:Nat):Int)]:=rfl;have l4:ByteArray.mk #[(58:UInt8)]=Ab [58]:=rfl;have c1:decide ((34::(qt++[34])).length+1<=9223372036854775807)=true:=dT (by simp;omega)
  have c2:decide ((34::(qt++[34])++[58]).length+vt.length<=9223372036854775807)=true:=dT (by simp;omega)
  have wl:=YH xs;have c3:decide (xs.length*1<=xs.length)=true:=dT (by omega)
  have c4:decide ((xs.length+1)*16<=1099511627776)=true:=dT (by omega)
  have c5:decide (xs.length+1<=1099511627776)=true:=dT (by omega)
  have c6:List.take (xs.length*1) (wC xs)=wC xs:=QT (by rw[wl];omega)
  have c7:wC xs++[.sc (.string (Ab (34::(qt++[34])++[58]++vt)))]=wC (xs++[((34::(qt++[34])++[58]++vt),[120,48+((j+1:Nat):Int)],vv)]):=by
   unfold wC;rw[List.map_append];rfl
  have Bbz:=Y2 (j+1) (Nat.le_refl _)
  obtain⟨ex,h1,h2,h3⟩:=ih (xs++[((34::(qt++[34])++[58]++vt),[120,48+((j+1:Nat):Int)],vv)]) b3' q (by omega) (by simp) (by rw[BZ,List.length_singleton];omega) (by omega) (fun x hx=>by
    rcases List.mem_append.1 hx with hx|hx
    ·exact hM x hx
    ·rw[List.mem_singleton] at hx;subst hx;exact⟨hmt,by simp;omega⟩)
   (by
    rw[List.map_append,List.nodup_append];refine⟨hN,by simp,?_⟩
    intro x hx y hy he;simp only[Zzw,List.map_nil,List.mem_singleton] at hy;subst hy;subst he;exact Bbz hx)
   (fun i hi O7=>by
    rw[List.map_append,List.mem_append] at O7;rcases O7 with O7|O7
    ·exact Y2 i (by omega) O7
    ·simp at O7;omega)
  refine⟨((34::(qt++[34])++[58]++vt),[120,48+((j+1:Nat):Int)],vv)::ex,?_,?_,?_⟩
  ·intro m hm;rw[Zzw] at hm;rcases List.mem_cons.1 hm with rfl|hm
   ·rfl
   ·exact h1 m hm
  ·rw[List.append_cons];exact h2
  ·rw[List.append_cons];rw[BZ,List.length_singleton] at h3;rw[Ht];simp only[B4,k1,w1,w2,l1,l2,Br,l3,s1,Af,c1,l4,n1,n2,s2,c2,wl,c3,c4,c5,c6,c7,w3];exact h3
end
end
section
open Go.Proofs.Tryz (prog)
open Go.IntKind (wrap)
set_option maxRecDepth 100000
theorem Afy:ByteArray.mk #[(34:UInt8),(116:UInt8),(121:UInt8),(112:UInt8),(101:UInt8),(34:UInt8)]=Ab [34,116,121,112,101,34]:=rfl
theorem LX:ByteArray.mk #[(58:UInt8)]=Ab [58]:=rfl
theorem Adg:ByteArray.mk #[(99:UInt8),(104:UInt8),(97:UInt8),(108:UInt8),(108:UInt8),(101:UInt8),(110:UInt8),(103:UInt8),(101:UInt8)]=Ab [99,104,97,108,108,101,110,103,101]:=rfl
theorem Aea:ByteArray.mk #[(34:UInt8),(111:UInt8),(114:UInt8),(105:UInt8),(103:UInt8),(105:UInt8),(110:UInt8),(34:UInt8),(58:UInt8)]=Ab [34,111,114,105,103,105,110,34,58]:=rfl
theorem Add:ByteArray.mk #[(34:UInt8),(116:UInt8),(111:UInt8),(112:UInt8),(79:UInt8),(114:UInt8),(105:UInt8),(103:UInt8),(105:UInt8),(110:UInt8),(34:UInt8),(58:UInt8)]=Ab [34,116,111,112,79,114,105,103,105,110,34,58]:=rfl
theorem Arq:ByteArray.mk #[(34:UInt8),(99:UInt8),(114:UInt8),(111:UInt8),(115:UInt8),(115:UInt8),(79:UInt8),(114:UInt8),(105:UInt8),(103:UInt8),(105:UInt8),(110:UInt8),(34:UInt8),(58:UInt8),(116:UInt8),(114:UInt8),(117:UInt8),(101:UInt8)]=Ab [34,99,114,111,115,115,79,114,105,103,105,110,34,58,116,114,117,101]:=rfl
theorem Ab4:ByteArray.mk #[(34:UInt8),(99:UInt8),(114:UInt8),(111:UInt8),(115:UInt8),(115:UInt8),(79:UInt8),(114:UInt8),(105:UInt8),(103:UInt8),(105:UInt8),(110:UInt8),(34:UInt8),(58:UInt8),(102:UInt8),(97:UInt8),(108:UInt8),(115:UInt8),(101:UInt8)]=Ab [34,99,114,111,115,115,79,114,105,103,105,110,34,58,102,97,108,115,101]:=rfl
section
variable {fu d:Nat} {p:Option (List PV->Option Ap)}
set_option maxHeartbeats 4000000 in
theorem Amn {l:List Int}(hl:l.length<=maxLen)(a:Nat){k:Int}{ty ch o t:List Int}{x:Bool}(Eu:2000<=fu)(hk:tyS k=some ty)(ED:Cx ch)(h1:1<=ch.length)(h2:ch.length<=64)(ho:Ec o=0)(ht:x=true->Ec t=0)(hn:x=false->t=[]) (hol:o.length<=100)(htl:t.length<=100):
  ∃(W:List Int) (a':Nat) (ms:List (List Int × JV)),Ae (CP p) prog fu (d+10) 9 [.pbox (Mu l a),cdA k ch o t x]=some ⟨[.sc (.string (Ab W))],[Mu l a']⟩∧asc W∧W.length<=1000000∧AW 8 W=.ok ms∧Jd ms=.ok (k,ch,o,x,t):=by
 have e:=Q5 (p:=p) fu (d+9) l.length (Bl .i64 l) (a:Int) k ch.length (Bl .u8 ch) (Ab o) x (Ab t)
 have yc:ty.all Ve=true:=by
  unfold tyS at hk;split at hk
  ·cases hk;decide
  split at hk
  ·cases hk;decide
  ·cases hk
 obtain⟨_,_,hy⟩:=SQ hk;have hel:=PT ch;have ecl:=Tx ED;have ocl:=Tv ho
 have tcl:t.all Ve=true:=by
  cases x with
  |true=>exact Tv (ht rfl)
  |false=>rw[hn rfl];rfl
 obtain⟨w1,a1,hw1,Be8,s1⟩:=spD (fu:=fu) (d:=d+6) (p:=p) hl a;have s1:Ae (CP p) prog fu (d+9) 17 [.pbox (Mu l a)]=_:=s1;obtain⟨w2,a2,TB,A8p,s2⟩:=spD (fu:=fu) (d:=d+6) (p:=p) hl a1;have s2:Ae (CP p) prog fu (d+9) 17 [.pbox (Mu l a1)]=_:=s2;obtain⟨q1,a3,Se,qt⟩:=Ud (fu:=fu) (d:=d+6) (p:=p) hl yc (by omega) (by omega) a2
 have qt:Ae (CP p) prog fu (d+9) 18 [.pbox (Mu l a2),.sc (.string (Ab ty))]=_:=qt;have ncl:Nr.length=9:=rfl;obtain⟨q2,a4,Jm,qc⟩:=Ud (fu:=fu) (d:=d+6) (p:=p) hl (s:=Nr) (by decide) (by decide) (by omega) a3
 have qc:Ae (CP p) prog fu (d+9) 18 [.pbox (Mu l a3),.sc (.string (Ab [99,104,97,108,108,101,110,103,101]))]=_:=qc;have ec:Ae (CP p) prog fu (d+9) 19 [.lst false 1 ch.length (Bl .u8 ch)]=_:=Acf (fu:=fu) (d:=d+8) (p:=p) ED (by omega) (by omega) (by omega)
 obtain⟨q3,a5,hq3,qe⟩:=Ud (fu:=fu) (d:=d+6) (p:=p) hl ecl (by omega) (by omega) a4
 have qe:Ae (CP p) prog fu (d+9) 18 [.pbox (Mu l a4),.sc (.string (Ab (Ef ch)))]=_:=qe;obtain⟨w3,a6,hw3,Bfb,s3⟩:=spD (fu:=fu) (d:=d+6) (p:=p) hl a5;have s3:Ae (CP p) prog fu (d+9) 17 [.pbox (Mu l a5)]=_:=s3;obtain⟨q4,a7,hq4,qo⟩:=Ud (fu:=fu) (d:=d+6) (p:=p) hl ocl (by omega) (by omega) a6
 have qo:Ae (CP p) prog fu (d+9) 18 [.pbox (Mu l a6),.sc (.string (Ab o))]=_:=qo;have b1:=Se.hi;have b2:=Jm.hi;have b3:=hq3.hi;have b4:=hq4.hi
 have m1:MT ([34,116,121,112,101,34]++w1++[58]++w2++(34::(q1++[34]))) Jx (4,ty,false):=by
  have:=HE (Qd.same (s:=Jx) (by decide)) hw1 TB (VT.str Se)
  simpa [Jx] using this
 have m2:MT (34::(q2++[34])++[58]++(34::(q3++[34]))) Nr (4,Ef ch,false):=by
  have:=HE (w1:=[]) (w2:=[]) Jm rfl rfl (VT.str hq3)
  simpa using this
 have m3:MT ([34,111,114,105,103,105,110,34,58]++w3++(34::(q4++[34]))) Y0 (4,o,false):=by
  have:=HE (w1:=[]) (Qd.same (s:=Y0) (by decide)) rfl hw3 (VT.str hq4)
  simpa [Y0] using this
 have mx1:MT [34,99,114,111,115,115,79,114,105,103,105,110,34,58,116,114,117,101] X5 (2,[],true):=by
  have:=HE (w1:=[]) (w2:=[]) (Qd.same (s:=X5) (by decide)) rfl rfl VT.tru
  simpa [X5] using this
 have mx0:MT [34,99,114,111,115,115,79,114,105,103,105,110,34,58,102,97,108,115,101] X5 (2,[],false):=by
  have:=HE (w1:=[]) (w2:=[]) (Qd.same (s:=X5) (by decide)) rfl rfl VT.fal
  simpa [X5] using this
 have l1:(34::(q1++[34])).length<=100:=by simp;omega
 have l2:(34::(q2++[34])).length<=100:=by simp;omega
 have l3:(34::(q3++[34])).length<=1000:=by simp;omega
 have l4:(34::(q4++[34])).length<=1000:=by simp;omega
 have c1:decide (6+w1.length<=9223372036854775807)=true:=dT (by omega)
 have c2:decide (([34,116,121,112,101,34]++w1).length+1<=9223372036854775807)=true:=dT (by simp;omega)
 have c3:decide (([34,116,121,112,101,34]++w1++[58]).length+w2.length<=9223372036854775807)=true:=dT (by simp;omega)
 have c4:decide (([34,116,121,112,101,34]++w1++[58]++w2).length+(34::(q1++[34])).length<=9223372036854775807)=true:=dT (by simp;omega)
 have c5:decide ((34::(q2++[34])).length+1<=9223372036854775807)=true:=dT (by omega)
 have c6:decide ((34::(q2++[34])++[58]).length+(34::(q3++[34])).length<=9223372036854775807)=true:=dT (by rw[BZ,List.length_singleton];omega)
 have c7:decide (9+w3.length<=9223372036854775807)=true:=dT (by omega)
 have c8:decide (([34,111,114,105,103,105,110,34,58]++w3).length+(34::(q4++[34])).length<=9223372036854775807)=true:=dT (by simp;omega)
 have z1:((1:Int)==1)=true:=rfl;have z2:((2:Int)==1)=false:=rfl
 have hkt:(k=1∧ty=tyC)∨(k=2∧ty=tyG):=by
  unfold tyS at hk;split at hk
  ·rename_i h;cases hk;exact .inl ⟨h,rfl⟩
  split at hk
  ·rename_i h;cases hk;exact .inr ⟨h,rfl⟩
  ·cases hk
 have fin:∀(xs:List Mem) (v:Int) (b:Nat),0<=v->v<3->1<=xs.length->xs.length<=5->(∀m∈xs,MT m.1 m.2.1 m.2.2∧m.1.length<=8000)->(xs.map (·.2.1)).Nodup->(∀i:Nat,i<=2->[120,48+(i:Int)] ∉ xs.map (·.2.1))->Jd (xs.map (·.2))=.ok (k,ch,o,x,t) ->
   ∃(W:List Int) (a':Nat) (ms:List (List Int × JV)),Bo fu (Ae (CP p) prog fu (d+9)) l.length (Bl .i64 l) (a:Int) k ch.length (Bl .u8 ch) (Ab o) x (Ab t) fu xs.length v l.length (Bl .i64 l) (b:Int) (wC xs)=some ⟨[.sc (.string (Ab W))],[Mu l a']⟩∧asc W∧W.length<=1000000∧AW 8 W=.ok ms∧Jd ms=.ok (k,ch,o,x,t):=by
  intro xs v b hv0 hv1 hx1 hx5 hM hN Y2 Jc;obtain⟨j,rfl⟩:=Int.eq_ofNat_of_zero_le hv0;obtain⟨ex,g1,g2,W,a',ms,g3,g4,g5,g6,g7⟩:=Aiy (fu:=fu) (d:=d) (p:=p) hl Eu (Hg:=l.length) (a1n:=ch.length) (a0:=Bl .i64 l) (a1:=Bl .u8 ch) (WI:=(a:Int)) (a10:=k) (b2:=Ab o) (b4:=Ab t) (b3:=x) j xs b fu (by omega) hx1 (by omega) (by omega) hM hN (fun i hi=>Y2 i (by omega))
  refine⟨W,a',ms,g3,g4,g5,g6,?_⟩;rw[Adk (by rw[List.map_map];exact g2) g7,List.map_append,Akc g1]
  exact Jc
 have nodX:∀i:Nat,i<=2->[120,48+(i:Int)] ∉ [Jx,Nr,Y0,X5,CH]:=by
  intro i hi h;simp[Jx,Nr,Y0,X5,CH] at h
 cases x with
 |true=>
  obtain⟨q5,a8,hq5,qp⟩:=Ud (fu:=fu) (d:=d+6) (p:=p) hl tcl (by omega) (by omega) a7
  have qp:Ae (CP p) prog fu (d+9) 18 [.pbox (Mu l a7),.sc (.string (Ab t))]=_:=qp;obtain⟨v,a9,p1,p2,n1⟩:=Hv hl a8 3 (by omega) (by omega)
  have n1:Ae (CP p) prog fu (d+9) 7 [.pbox (Mu l a8),.sc (.int .i64 3)]=_:=n1 (fu:=fu) (d:=d+7) (p:=p);have b5:=hq5.hi
  have m5:MT ([34,116,111,112,79,114,105,103,105,110,34,58]++(34::(q5++[34]))) CH (4,t,false):=by
   have:=HE (w1:=[]) (w2:=[]) (Qd.same (s:=CH) (by decide)) rfl rfl (VT.str hq5)
   simpa [CH] using this
  have l5:(34::(q5++[34])).length<=1000:=by simp;omega
  have c9:decide (12+(34::(q5++[34])).length<=9223372036854775807)=true:=dT (by omega)
  obtain⟨W,a',ms,r1,r2⟩:=fin [([34,116,121,112,101,34]++w1++[58]++w2++(34::(q1++[34])),Jx,(4,ty,false)),(34::(q2++[34])++[58]++(34::(q3++[34])),Nr,(4,Ef ch,false)),([34,111,114,105,103,105,110,34,58]++w3++(34::(q4++[34])),Y0,(4,o,false)),([34,99,114,111,115,115,79,114,105,103,105,110,34,58,116,114,117,101],X5,(2,[],true)),([34,116,111,112,79,114,105,103,105,110,34,58]++(34::(q5++[34])),CH,(4,t,false))] v a9 p1 p2 (by simp) (by simp)
   (by
    intro m hm;simp only[List.mem_cons,List.not_mem_nil,or_false] at hm;rcases hm with rfl|rfl|rfl|rfl|rfl
    ·exact⟨m1,by simp only[BZ,Uk,QY] at *;omega⟩
    ·exact⟨m2,by simp only[BZ,Uk,QY] at *;omega⟩
    ·exact⟨m3,by simp only[BZ,Uk,QY] at *;omega⟩
    ·exact⟨mx1,by decide⟩
    ·exact⟨m5,by simp only[BZ,Uk,QY] at *;omega⟩)
   (by show [Jx,Nr,Y0,X5,CH].Nodup;decide)
   (fun i hi h=>nodX i hi h)
   (Mh (x:=true) hk ED h1 h2 ho ht hn)
  refine⟨W,a',ms,?_,r2⟩;refine Eq.trans ?_ r1;refine e.trans ?_;rcases hkt with⟨rfl,rfl⟩|⟨rfl,rfl⟩
  ·simp only[B4,z1,s1,s2,OU,qt,Adg,qc,ec,qe,s3,qo,qp,n1,Af,Afy,LX,Aea,Add,Arq,Br,c1,c2,c3,c4,c5,c6,c7,c8,c9];rfl
  ·simp only[B4,z2,s1,s2,OD,qt,Adg,qc,ec,qe,s3,qo,qp,n1,Af,Afy,LX,Aea,Add,Arq,Br,c1,c2,c3,c4,c5,c6,c7,c8,c9];rfl
 |false=>
  obtain rfl:=hn rfl;obtain⟨u,a8,p1,p2,n0⟩:=Hv hl a7 2 (by omega) (by omega)
  have n0:Ae (CP p) prog fu (d+9) 7 [.pbox (Mu l a7),.sc (.int .i64 2)]=_:=n0 (fu:=fu) (d:=d+7) (p:=p);obtain⟨v,a9,v1,v2,n1⟩:=Hv hl a8 3 (by omega) (by omega)
  have n1:Ae (CP p) prog fu (d+9) 7 [.pbox (Mu l a8),.sc (.int .i64 3)]=_:=n1 (fu:=fu) (d:=d+7) (p:=p);by_cases hu:u=1
  ·have zu:(u==1)=true:=by simp[hu]
   obtain⟨W,a',ms,r1,r2⟩:=fin [([34,116,121,112,101,34]++w1++[58]++w2++(34::(q1++[34])),Jx,(4,ty,false)),(34::(q2++[34])++[58]++(34::(q3++[34])),Nr,(4,Ef ch,false)),([34,111,114,105,103,105,110,34,58]++w3++(34::(q4++[34])),Y0,(4,o,false)),([34,99,114,111,115,115,79,114,105,103,105,110,34,58,102,97,108,115,101],X5,(2,[],false))] v a9 v1 v2 (by simp) (by simp)
    (by
     intro m hm;simp only[List.mem_cons,List.not_mem_nil,or_false] at hm;rcases hm with rfl|rfl|rfl|rfl
     ·exact⟨m1,by simp only[BZ,Uk,QY] at *;omega⟩
     ·exact⟨m2,by simp only[BZ,Uk,QY] at *;omega⟩
     ·exact⟨m3,by simp only[BZ,Uk,QY] at *;omega⟩
     ·exact⟨mx0,by decide⟩)
    (by show [Jx,Nr,Y0,X5].Nodup;decide)
    (fun i hi h=>nodX i hi (List.mem_append_left [CH] h))
    (Mh (x:=false) hk ED h1 h2 ho ht hn)
   refine⟨W,a',ms,?_,r2⟩;refine Eq.trans ?_ r1;refine e.trans ?_;rcases hkt with⟨rfl,rfl⟩|⟨rfl,rfl⟩
   ·simp only[B4,z1,s1,s2,OU,qt,Adg,qc,ec,qe,s3,qo,n0,zu,n1,Af,Afy,LX,Aea,Add,Ab4,Br,c1,c2,c3,c4,c5,c6,c7,c8];rfl
   ·simp only[B4,z2,s1,s2,OD,qt,Adg,qc,ec,qe,s3,qo,n0,zu,n1,Af,Afy,LX,Aea,Add,Ab4,Br,c1,c2,c3,c4,c5,c6,c7,c8];rfl
  ·have zu:(u==1)=false:=by simp[hu]
   obtain⟨W,a',ms,r1,r2⟩:=fin [([34,116,121,112,101,34]++w1++[58]++w2++(34::(q1++[34])),Jx,(4,ty,false)),(34::(q2++[34])++[58]++(34::(q3++[34])),Nr,(4,Ef ch,false)),([34,111,114,105,103,105,110,34,58]++w3++(34::(q4++[34])),Y0,(4,o,false))] v a9 v1 v2 (by simp) (by simp)
    (by
     intro m hm;simp only[List.mem_cons,List.not_mem_nil,or_false] at hm;rcases hm with rfl|rfl|rfl
     ·exact⟨m1,by simp only[BZ,Uk,QY] at *;omega⟩
     ·exact⟨m2,by simp only[BZ,Uk,QY] at *;omega⟩
     ·exact⟨m3,by simp only[BZ,Uk,QY] at *;omega⟩)
    (by show [Jx,Nr,Y0].Nodup;decide)
    (fun i hi h=>nodX i hi (List.mem_append_left [X5,CH] h))
    (JZ hk ED h1 h2 ho)
   refine⟨W,a',ms,?_,r2⟩;refine Eq.trans ?_ r1;refine e.trans ?_;rcases hkt with⟨rfl,rfl⟩|⟨rfl,rfl⟩
   ·simp only[B4,z1,s1,s2,OU,qt,Adg,qc,ec,qe,s3,qo,n0,zu,n1,Af,Afy,LX,Aea,Add,Ab4,Br,c1,c2,c3,c4,c5,c6,c7,c8];rfl
   ·simp only[B4,z2,s1,s2,OD,qt,Adg,qc,ec,qe,s3,qo,n0,zu,n1,Af,Afy,LX,Aea,Add,Ab4,Br,c1,c2,c3,c4,c5,c6,c7,c8];rfl
end
end
section
open Go.Proofs.Tryz (prog)
open Go.IntKind (wrap)
set_option maxRecDepth 100000
theorem Ade {fu d:Nat}{t:ByteArray}(h:t.size<=9223372036854775807)(h2:1024<t.size):Ae C1 prog fu (d+1) 13 [.sc (.string t)]=some ⟨[.agg [.sc (.int .i64 0),.lst false 1 0 [],.sc (.string ⟨#[]⟩),.sc (.bool false),.sc (.string ⟨#[]⟩)],.sc (.int .i64 8)],[]⟩:=by
 have e:Ae C1 prog fu (d+1) 13 [.sc (.string t)]=F2 [.sc (.string t)]:=rfl;have e2:G7 t=.error 8:=by unfold G7;rw[Dy h2]
 rw[e];unfold F2;simp only[dT h,cond_true,e2]
theorem Aeg {W:List Int}{ms:List (List Int × JV)} {r:CD}(hW:asc W)(hl:W.length<=1024)(ht:AW 8 W=.ok ms)(hm:Jd ms=.ok r):G7 (Ab W)=.ok r:=by
 unfold G7;rw[Af,Ct (by omega),BS hW,Ct (by decide),Cd (fun y hy=>by have:=hW y hy;omega),ht]
 exact hm
set_option maxHeartbeats 2000000 in
theorem dataWritten_plain (qs:List PV)(h:Bh (WTv prog) [22,22] qs):∃fu d,Ae C1 prog fu d Hf qs=some ⟨[.sc (.bool true)],[]⟩:=by
 obtain⟨q0,_,rfl,h0,g⟩:=h.cons_inv;obtain⟨q1,_,rfl,h1,g⟩:=g.cons_inv;obtain rfl:=g.nil_inv;clear h g;obtain⟨l,rfl,hl,_⟩:=RP (k:=.i64) (e:=3) (by kernel_rfl) (by kernel_rfl) (by kernel_rfl) (by kernel_rfl) h0
 obtain⟨l2,rfl,Ru,_⟩:=RP (k:=.i64) (e:=3) (by kernel_rfl) (by kernel_rfl) (by kernel_rfl) (by kernel_rfl) h1
 clear h0 h1;obtain⟨fu,Eu⟩:∃fu,fu=30000:=⟨_,rfl⟩;refine⟨fu,11,?_⟩;refine (Nc (p:=some F2) fu 10 _ _ _ _).trans ?_;have aw:Ae C1 prog fu 10 5 []=_:=Apn (fu:=fu) (d:=1) (by omega)
 have nw:Ae C1 prog fu 10 6 [.lst false 1 l.length (Bl .i64 l)]=_:=A2g (fu:=fu) (d:=9) (p:=some F2) (l:=l);have nw2:Ae C1 prog fu 10 6 [.lst false 1 l2.length (Bl .i64 l2)]=_:=A2g (fu:=fu) (d:=9) (p:=some F2) (l:=l2);obtain⟨k,ch,o',t',x,a',hc,I7,hol,htl,hcd⟩:=Ayy (fu:=fu) (d:=3) (p:=some F2) hl 0 (by omega)
 obtain⟨o,ho,rfl⟩:∃o,Cx o∧o'=Ab o:=⟨Fn o',QL o',(Hl o').symm⟩;obtain⟨t,ht,rfl⟩:∃t,Cx t∧t'=Ab t:=⟨Fn t',QL t',(Hl t').symm⟩;rw[Af] at hol htl;have hcd:Ae C1 prog fu 10 10 [.pbox (Mu l 0)]=_:=hcd;have c0:List.take (ch.length*1) (List.drop 0 (Bl .u8 ch))=Bl .u8 ch:=by rw[Zze];exact QT (by rw[Ek];omega)
 have c1:decide (0+ch.length*1<=List.length (Bl .u8 ch))=true:=by rw[Ek];simp
 have ef:Ae C1 prog fu 10 12 [.agg [.sc (.int .i64 k),.lst false 1 ch.length (Bl .u8 ch),.sc (.string (Ab o)),.sc (.bool x),.sc (.string (Ab t))]]=_:=Aee (fu:=fu) (d:=4) (p:=some F2) hc ho ht (by omega) (by omega) (by omega) (by omega) (by omega) (by omega) (by omega)
 cases hf:WG k ch o t x with
 |error e=>
  rw[hf] at ef;have ef:Ae C1 prog fu 10 12 [.agg [.sc (.int .i64 k),.lst false 1 ch.length (Bl .u8 ch),.sc (.string (Ab o)),.sc (.bool x),.sc (.string (Ab t))]]=some ⟨[.sc (.string (Ab [])),.sc (.int .i64 e)],[]⟩:=ef;have z:=nn0 e (Apt hf);simp only[B4,nw,hcd,c0,c1,ef,z,aw]
 |ok s=>
  rw[hf] at ef;have ef:Ae C1 prog fu 10 12 [.agg [.sc (.int .i64 k),.lst false 1 ch.length (Bl .u8 ch),.sc (.string (Ab o)),.sc (.bool x),.sc (.string (Ab t))]]=some ⟨[.sc (.string (Ab s)),.sc (.int .i64 0)],[]⟩:=ef;have z:((0:Int) != 0)=false:=rfl;by_cases h3:300<l2.length
  ·have a3:=dT (q:=((l2.length:Nat):Int)>300) (by omega)
   simp only[B4,nw,hcd,c0,c1,ef,z,a3,aw]
  have a3:=dF (q:=((l2.length:Nat):Int)>300) (by omega)
  obtain⟨ty,hk,_,h1,h2,hoo,hto,htn⟩:=UJ hf;obtain⟨W,b,ms,w1,w2,w3,w4,w5⟩:=Amn (fu:=fu) (d:=0) (p:=some F2) Ru 0 (by omega) hk hc h1 h2 hoo hto htn hol htl
  have w1:Ae C1 prog fu 10 9 [.pbox (Mu l2 0),.agg [.sc (.int .i64 k),.lst false 1 ch.length (Bl .u8 ch),.sc (.string (Ab o)),.sc (.bool x),.sc (.string (Ab t))]]=_:=w1;by_cases hb:1024<W.length
  ·have p1:Ae C1 prog fu 10 13 [.sc (.string (Ab W))]=_:=Ade (fu:=fu) (d:=9) (by rw[Af];omega) (by rw[Af];exact hb)
   have a4:=dT (q:=((W.length:Nat):Int)>1024) (by omega)
   have z8:((8:Int)==8)=true:=rfl;simp only[B4,nw,hcd,c0,c1,ef,z,a3,nw2,w1,p1,Af,a4,z8,aw]
  ·have p1:Ae C1 prog fu 10 13 [.sc (.string (Ab W))]=_:=Aqc (fu:=fu) (d:=9) (by rw[Af];omega) (Aeg w2 (by omega) w4 w5)
   have a4:=dF (q:=((W.length:Nat):Int)>1024) (by omega)
   have z0:((0:Int)==0)=true:=rfl;have e3:Ae C1 prog fu 10 14 [.agg [.sc (.int .i64 k),.lst false 1 ch.length (Bl .u8 ch),.sc (.string (Ab o)),.sc (.bool x),.sc (.string (Ab t))],.agg [.sc (.int .i64 k),.lst false 1 ch.length (Bl .u8 ch),.sc (.string (Ab o)),.sc (.bool x),.sc (.string (Ab t))]]=_:=Azz (fu:=fu) (d:=9);simp only[B4,nw,hcd,c0,c1,ef,z,a3,nw2,w1,p1,Af,a4,z0,e3,aw]
end
end Go.Proofs.YtodnjibebeghjaaGreatDoor.Pv
