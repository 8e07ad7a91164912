/-
  The proof of SigninAny, part 6.
-/
import Derived.Test.YthlonbjmnomlcaaGreatDoorAE
import Derived.Lib.ValidLaws
import Derived.Test.YthlonbjmnomlcaaGreatDoorRows
set_option linter.unusedSimpArgs false
set_option linter.unusedVariables false
namespace Go.Proofs.YthlonbjmnomlcaaGreatDoor.Pv
open Go.IntKind (wrap)
open Go.Proofs.Tryz (prog)
set_option maxRecDepth 1000000
noncomputable section
section
variable {u d:Nat}{p:Option (Ae->Option A8)}
theorem Ag4(s:Bool):Ac (CP p) prog u (d+1) 85 [Cn s]=some ⟨[A0 (dfl s)],[]⟩:=by rw[Uk];cases s<;>simp only[Av,Au]<;>rfl
theorem XU{a0:ByteArray}{l:Ak}{s a1:Bool}(g:Ce l)(y:l.length<=5):∀(r:Ak)(i nn:Nat)(n:Int),l.drop i=r->r.length+1<=nn->0<=n->n<10 ^ i ->
  Hr u (Ac (CP p) prog u (d+1)) a0 a1 nn (Ab l) s n (i:Int)=some (if r.all Uy=true then ⟨[A0 (r.foldl (λn x=>10*n+(x-48)) n),Cn (decide (r.foldl (λn x=>10*n+(x-48)) n<=65535)&&decide (r.foldl (λn x=>10*n+(x-48)) n≠dfl s))],[]⟩ else ⟨[A0 0,Cn false],[]⟩)
 |[],i,nn,n,hd,j,z,A=>by
  obtain⟨k,rfl⟩:∃k,nn=k+1:=⟨nn-1,Ω⟩
  have hi:=drop_nil hd;have a:decide ((i:Int)<(l.length:Int))=false:=dF Ω;have e:Ac (CP p) prog u (d+1) 85 [Cn s]=_:=Ag4 (u:=u) (d:=d) (p:=p) s;rw[Nv];show _=some (A8.mk [A0 n,Cn (decide (n<=65535)&&decide (n≠dfl s))] []);by_cases m:n<=65535
  ·have q:=dT m
   have C:(n != dfl s)=decide (n≠dfl s):=by
    by_cases h:n=dfl s<;>simp[h]
   simp only[Av,Au,Ai,a,q,e,C,Zzm]
  ·have q:=dF m;simp only[Av,Au,Ai,a,q,NT]
 |c::r,i,nn,n,hd,j,z,A=>by
  obtain⟨k,rfl⟩:∃k,nn=k+1:=⟨nn-1,Ω⟩
  obtain⟨hi,o,Ta⟩:=Cl hd;have KI:=g c (List.mem_of_getElem? o)
  have hp:(10:Int) ^ i<=10 ^ 4:=by
   have h:=Nat.pow_le_pow_right (n:=10) Ω (show i<=4 by omega)
   exact_mod_cast h
  have D:(10:Int) ^ (i+1)=10 ^ i*10:=Int.pow_succ ..;have a:decide ((i:Int)<(l.length:Int))=true:=dT Ω;have t:decide ((0:Int)<=(i:Int))=true:=Ψ
  have v:(Array.toList (Ab l).data)[Int.toNat (i:Int)]?=some c.toNat.toUInt8:=by
   rw[H8];show (l.map λn=>n.toNat.toUInt8)[i]?=_;rw[List.getElem?_map,o];rfl
  have w:=M2 KI;have e:Ac (CP p) prog u (d+1) 121 [.sc (.int .u8 c)]=_:=QO (u:=u) (d:=d) (p:=p) (c:=c);rw[Nv];cases b:Uy c
  ·rw[b] at e;have f:(c::r).all Uy=false:=by rw[List.all_cons,b,NT]
   rw[f];simp only[Av,Au,Ai,a,t,v,w,e,Gg,Bool.false_eq_true,if_false]
  ·rw[b] at e;have L:=(MT c).1 b;have E:wrap .i64 (10*n)=10*n:=Bc;have G:wrap .u8 (c-48)=c-48:=I8 Ω Ω;have H:wrap .i64 (c-48)=c-48:=Bc;have I:wrap .i64 (10*n+(c-48))=10*n+(c-48):=Bc;have J:wrap .i64 ((i:Int)+1)=((i+1:Nat):Int):=Bi
   have K:=XU (a0:=a0) (s:=s) (a1:=a1) g y r (i+1) k (10*n+(c-48)) Ta (by simp at j;omega) Ω Ω
   have f:(c::r).all Uy=r.all Uy:=by rw[List.all_cons,b,Zzm]
   simp only[Av,Au,Ai,a,t,v,w,e,Es,E,G,H,I,J];rw[K,f];rfl
theorem A0d{l:Ak}{s:Bool}(i:Ce l)(Bg:100<=u):Ac (CP p) prog u (d+2) 86 [Bf (Ab l),Cn s]=some (if Lg l=true then ⟨[A0 (KA l),Cn (decide (KA l<=65535)&&decide (KA l≠dfl s))],[]⟩ else ⟨[A0 0,Cn false],[]⟩):=by
 rw[GM];by_cases f:1<=l.length
 ·by_cases g:l.length<=5
  ·have a:decide (((l.length:Nat):Int)<1)=false:=dF Ω;have b:decide (((l.length:Nat):Int)>5)=false:=dF Ω;cases l with
   |nil=>simp at f
   |cons c r=>
    have KI:=i c Ψ;have j:(Array.toList (Ab (c::r)).data)[0]?=some c.toNat.toUInt8:=rfl;have k:=M2 KI;by_cases h:c=48
    ·subst h;have e:Lg (48::r)=false:=by unfold Lg;simp
     have q:((48:Int)==48)=true:=rfl;rw[e];simp only[Av,Au,Ai,a,b,j,k,q,Bool.false_eq_true,if_false]
    ·have q:(c==48)=false:=by simp[h]
     have e:Lg (c::r)=(c::r).all Uy:=by
      unfold Lg;rw[dT f,dT g];simp[h]
     have m:=XU (u:=u) (d:=d) (p:=p) (a0:=Ab (c::r)) (a1:=s) (s:=s) i g (c::r) 0 u 0 rfl Ω Ω Δ;rw[e];simp only[Av,Au,Ai,a,b,j,k,q];exact m
  ·have a:decide (((l.length:Nat):Int)<1)=false:=dF Ω;have b:decide (((l.length:Nat):Int)>5)=true:=dT Ω;have e:Lg l=false:=by unfold Lg;simp[g]
   rw[e];simp only[Av,Au,Ai,a,b,Bool.false_eq_true,if_false]
 ·have a:decide (((l.length:Nat):Int)<1)=true:=dT Ω;have e:Lg l=false:=by unfold Lg;simp[f]
  rw[e];simp only[Av,Au,Ai,a,Bool.false_eq_true,if_false]
theorem A7z{a0 s4 s7:ByteArray}{y3 y6:Bool}{y5 y8:Int}{r:Ak}(j:Ce r)(A:r.length<=1000000)(Bg:2000<=u){nn:Nat}:∃C D E,B3 u (Ac (CP p) prog u (d+4)) a0 (nn+1) (Ab r) ((Bz 58 r).length:Int) (-1) y3 s4 y5 y6 s7 y8=some ⟨[.agg [Cn C,Bf D,A0 E],A0 (DH y6 r)],[]⟩:=by
 have Vm:=UN 58 r;have m:Ce (Bz 58 r):=by rw[Uj];exact λx n=>j x (List.mem_of_mem_take n)
 have o:Ce (r.drop ((Bz 58 r).length+1)):=λx n=>j x (List.mem_of_mem_drop n);have c2:Ac (CP p) prog u (d+4) 84 [Bf (Ab (Bz 58 r))]=_:=A3b (u:=u) (d:=d) (p:=p) m Ω Bg;have k:Ac (CP p) prog u (d+4) 85 [Cn y6]=_:=Ag4 (u:=u) (d:=d+3) (p:=p) y6;have a:Ac (CP p) prog u (d+4) 86 [Bf (Ab (r.drop ((Bz 58 r).length+1))),Cn y6]=_:=A0d (u:=u) (d:=d+2) (p:=p) (s:=y6) o Ω;have c:decide ((-1:Int)>=0)=false:=rfl;have e:decide ((0:Int)<=((Bz 58 r).length:Int))=true:=Ψ
 have f:decide (Int.toNat ((Bz 58 r).length:Int)<=r.length)=true:=dT Ω;have g:(Ab r).extract 0 (Int.toNat ((Bz 58 r).length:Int))=Ab (Bz 58 r):=by rw[H8,Yn j,<-Uj]
 rw[Iz];unfold DH;by_cases l:Ws (Bz 58 r)=0
 ·have z:((0:Int) != 0)=false:=rfl;rw[l] at c2;simp only[ne_eq,l,not_true_eq_false,if_false];by_cases K:(Bz 58 r).length<r.length
  ·have i:=dT (q:=((Bz 58 r).length:Int)<(r.length:Int)) Ω;have t:wrap .i64 (((Bz 58 r).length:Int)+1)=(((Bz 58 r).length+1:Nat):Int):=Bi
   have v:decide ((0:Int)<=(((Bz 58 r).length+1:Nat):Int))=true:=dT Ω;have w:decide (Int.toNat (((Bz 58 r).length+1:Nat):Int)<=r.length)=true:=dT Ω;have y:(Ab r).extract (Int.toNat (((Bz 58 r).length+1:Nat):Int)) r.length=Ab (r.drop ((Bz 58 r).length+1)):=by rw[H8,Zv j]
   rw[Bb (show ¬(Bz 58 r).length=r.length by omega)];by_cases hp:Lg (r.drop ((Bz 58 r).length+1))=true
   ·rw[Bq hp] at a;by_cases b:KA (r.drop ((Bz 58 r).length+1))<=65535/\KA (r.drop ((Bz 58 r).length+1))≠dfl y6
    ·rw[dT b.1,dT b.2] at a;rw[Bq ⟨hp,b.1,b.2⟩];exact⟨_,_,_,by simp only[Av,Au,Ai,dle,c,e,f,g,c2,z,k,i,t,v,w,y,a,Zzn,Es];rfl⟩
    ·have G:(decide (KA (r.drop ((Bz 58 r).length+1))<=65535)&&decide (KA (r.drop ((Bz 58 r).length+1))≠dfl y6))=false:=by
      rw[Bool.eq_false_iff];intro h;rw[Ge,decide_eq_true_iff,decide_eq_true_iff] at h;exact b h
     rw[G] at a;rw[Bb (by rintro⟨_,H,I⟩;exact b ⟨H,I⟩)]
     exact⟨_,_,_,by simp only[Av,Au,Ai,dle,c,e,f,g,c2,z,k,i,t,v,w,y,a,Gg];rfl⟩
   ·rw[Bb hp] at a;rw[Bb (by rintro⟨h,_,_⟩;exact hp h)]
    exact⟨_,_,_,by simp only[Av,Au,Ai,dle,c,e,f,g,c2,z,k,i,t,v,w,y,a,Gg];rfl⟩
  ·have i:=dF (q:=((Bz 58 r).length:Int)<(r.length:Int)) Ω;rw[Bq (show (Bz 58 r).length=r.length by omega)];exact⟨_,_,_,by simp only[Av,Au,Ai,c,e,f,g,c2,z,k,i];rfl⟩
 ·have J:(Ws (Bz 58 r) != 0)=true:=by simp[l]
  simp only[ne_eq,l,not_false_eq_true,if_true];exact⟨_,_,_,by simp only[Av,Au,Ai,c,e,f,g,c2,J];rfl⟩
theorem Au0{r:Ak}{k:Nat}(a:k<r.length){c:Int}(b:r[k]?=some c):(Bz 58 (r.drop k)).length=if c=58 then 0 else (Bz 58 (r.drop (k+1))).length+1:=by
 have e:r.drop k=c::r.drop (k+1):=by
  rw[List.drop_eq_getElem_cons a];rw[List.getElem?_eq_getElem a] at b;cases b;rfl
 rw[e];by_cases h:c=58
 ·subst h;rw[Adn,Bq rfl];rfl
 ·rw[Akq _ h,Bb h];rfl
theorem A2l{a0 s4 s7:ByteArray}{y3 y6:Bool}{y5 y8:Int}{r:Ak}(m:Ce r)(e:r.length<=1000000)(Bg:2000<=u):∀(k nn:Nat),k<=r.length->k+1<=nn->∃f g i,B3 u (Ac (CP p) prog u (d+4)) a0 nn (Ab r) ((k+(Bz 58 (r.drop k)).length:Nat):Int) ((k:Int)-1) y3 s4 y5 y6 s7 y8=some ⟨[.agg [Cn f,Bf g,A0 i],A0 (DH y6 r)],[]⟩:=by
 intro k
 induction k with
 |zero=>
  intro nn x y;obtain⟨q,rfl⟩:∃q,nn=q+1:=⟨nn-1,Ω⟩
  have:=A7z (u:=u) (d:=d) (p:=p) (a0:=a0) (s4:=s4) (s7:=s7) (y3:=y3) (y6:=y6) (y5:=y5) (y8:=y8) m e Bg (nn:=q);rw[Nr,Ka];exact this
 |succ k z=>
  intro nn x y;obtain⟨q,rfl⟩:∃q,nn=q+1:=⟨nn-1,Ω⟩
  obtain⟨c,j⟩:∃c,r[k]?=some c:=⟨_,List.getElem?_eq_getElem Ω⟩
  have KI:=m c (List.mem_of_getElem? j);have a:=Au0 (show k<r.length by omega) j;obtain⟨f,g,i,h⟩:=z q Ω Ω;refine⟨f,g,i,?_⟩;have o:decide (((k+1:Nat):Int)-1>=0)=true:=dT Ω;have s:decide ((0:Int)<=((k+1:Nat):Int)-1)=true:=dT Ω
  have t:(Array.toList (Ab r).data)[Int.toNat (((k+1:Nat):Int)-1)]?=some c.toNat.toUInt8:=by
   rw[show Int.toNat (((k+1:Nat):Int)-1)=k by omega];show (r.map λn=>n.toNat.toUInt8)[k]?=_;rw[List.getElem?_map,j];rfl
  have v:=M2 KI;have w:wrap .i64 (((k+1:Nat):Int)-1-1)=(k:Int)-1:=Bi
  rw[Iz];by_cases b:c=58
  ·rw[Bq b] at a;have l:(c==58)=true:=by simp[b]
   rw[a] at h;simp only[Av,Au,o,s,t,v,l,w];rw[show ((k+1:Nat):Int)-1=((k+0:Nat):Int) by omega];exact h
  ·rw[Bb b] at a;have l:(c==58)=false:=by simp[b]
   rw[a] at h;simp only[Av,Au,o,s,t,v,l,w];rw[show k+1+(Bz 58 (r.drop (k+1))).length=k+((Bz 58 (r.drop (k+1))).length+1) by omega];exact h
theorem Aem{l:Ak}(g:Ce l)(T:l.length<=1000000)(Bg:2000<=u)(DO:l.length+1<=u):∃a b c,Ac (CP p) prog u (d+5) 42 [Bf (Ab l)]=some ⟨[.agg [Cn a,Bf b,A0 c],A0 (Fg l)],[]⟩:=by
  have r:=Uw (p:=p) u (d+4) (Ab l)
  have sT:Ac (CP p) prog u (d+4) 83 [Cn true]=some ⟨[Bf (Ab [104,116,116,112,115,58,47,47])],[]⟩:=by
    refine (Pa (p:=p) u (d+3) true).trans ?_
    simp only[Av,Au]
    rfl
  have sF:Ac (CP p) prog u (d+4) 83 [Cn false]=some ⟨[Bf (Ab [104,116,116,112,58,47,47])],[]⟩:=by
    refine (Pa (p:=p) u (d+3) false).trans ?_
    simp only[Av,Au]
    rfl
  have t:Ce [104,116,116,112,115,58,47,47]:=λx i=>by simp at i;omega
  have v:Ce [104,116,116,112,58,47,47]:=λx i=>by simp at i;omega
  have K:(Ab [104,116,116,112,115,58,47,47]).size=8:=rfl
  have y:(Ab [104,116,116,112,58,47,47]).size=7:=rfl
  have L:([104,116,116,112,115,58,47,47]:Ak).length=8:=rfl
  have n7:([104,116,116,112,58,47,47]:Ak).length=7:=rfl
  have C:(ByteArray.mk #[104,116,116,112,115,58,47,47])=Ab [104,116,116,112,115,58,47,47]:=rfl
  have D:∀n,Ce (l.take n):=λn x i=>g x (List.mem_of_mem_take i)
  have loop:∀(m:Nat) (s:Bool),m<=l.length->∃a b c,B3 u (Ac (CP p) prog u (d+4)) (Ab l) u (Ab (l.drop m)) (((Ab (l.drop m)).size:Nat):Int) (wrap .i64 ((((Ab (l.drop m)).size:Nat):Int)-1)) false (ByteArray.mk #[]) 0 s (ByteArray.mk #[]) 0=some ⟨[.agg [Cn a,Bf b,A0 c],A0 (DH s (l.drop m))],[]⟩:=by
    intro m s U
    have hd:Ce (l.drop m):=λx i=>g x (List.mem_of_mem_drop i)
    have M:(l.drop m).length=l.length-m:=List.length_drop
    obtain⟨a,b,c,h⟩:=A2l (u:=u) (d:=d) (p:=p) (a0:=Ab l) (s4:=ByteArray.mk #[]) (s7:=ByteArray.mk #[]) (y3:=false) (y6:=s) (y5:=0) (y8:=0) hd Ω Bg (l.drop m).length u (Cg _) Ω
    refine⟨a,b,c,?_⟩
    rw[Ai,Bc]
    have e:(l.drop m).length+(Bz 58 ((l.drop m).drop (l.drop m).length)).length=(l.drop m).length:=by
      rw[List.drop_length];rfl
    rw[e] at h
    exact h
  unfold Fg
  have plain:∀(N:List.isPrefixOf [104,116,116,112,115,58,47,47] l=false),∃a b c,(Aq (decide (((l.length:Nat):Int)<((7:Nat):Int)))
    (some (A8.mk [PV.agg [PV.sc (Value.bool false),PV.sc (Value.string ⟨#[]⟩),PV.sc (Value.int IntKind.i64 (0:Int))],PV.sc (Value.int IntKind.i64 (2:Int))] []))
    (Aq (!decide (l.take 7=[104,116,116,112,58,47,47]))
     (some (A8.mk [PV.agg [PV.sc (Value.bool false),PV.sc (Value.string ⟨#[]⟩),PV.sc (Value.int IntKind.i64 (0:Int))],PV.sc (Value.int IntKind.i64 (2:Int))] []))
     (B3 u (Ac (CP p) prog u (d+4)) (Ab l) u (Ab (l.drop 7)) (((Ab (l.drop 7)).size:Nat):Int) (wrap .i64 ((((Ab (l.drop 7)).size:Nat):Int)-1)) false (ByteArray.mk #[]) 0 false (ByteArray.mk #[]) 0)))=some ⟨[.agg [Cn a,Bf b,A0 c],A0 (if List.isPrefixOf [104,116,116,112,58,47,47] l=true then DH false (l.drop 7) else 2)],[]⟩:=by
    intro _
    by_cases O:l.length<7
    · have P:List.isPrefixOf [104,116,116,112,58,47,47] l=false:=by
        rw[Bool.eq_false_iff,ne_eq,List.isPrefixOf_iff_prefix]
        intro h
        have:=h.length_le
        simp at this
        omega
      rw[dT (show ((l.length:Nat):Int)<((7:Nat):Int) by omega),P]
      exact⟨_,_,_,rfl⟩
    · rw[dF (show ¬((l.length:Nat):Int)<((7:Nat):Int) by omega)]
      have hp:=Ajj (w:=[104,116,116,112,58,47,47]) (l:=l) (by simp;omega)
      rw[show ([104,116,116,112,58,47,47]:Ak).length=7 from rfl] at hp
      rw[hp]
      cases List.isPrefixOf [104,116,116,112,58,47,47] l
      · exact⟨_,_,_,rfl⟩
      · obtain⟨a,b,c,h⟩:=loop 7 false Ω
        exact⟨a,b,c,h⟩
  have E:(Ab l).extract 0 (Int.toNat ((7:Nat):Int))=Ab (l.take 7):=Yn g 7
  have G:(Ab l).extract (Int.toNat ((7:Nat):Int)) l.length=Ab (l.drop 7):=Zv g 7
  have H:(Ab l).extract 0 8=Ab (l.take 8):=Yn g 8
  have z:(Ab l).extract 0 (Int.toNat ((8:Nat):Int))=Ab (l.take 8):=Yn g 8
  have Q:(Ab l).extract (Int.toNat ((8:Nat):Int)) l.length=Ab (l.drop 8):=Zv g 8
  have I:=T9 (D 7) v
  have j:=T9 (D 8) t
  by_cases J:l.length>=8
  · have o:=dT (q:=((l.length:Nat):Int)>=8) Ω
    have f:=dT (q:=8<=l.length) J
    have hp:=Ajj (w:=[104,116,116,112,115,58,47,47]) (l:=l) (by simp;omega)
    rw[show ([104,116,116,112,115,58,47,47]:Ak).length=8 from rfl] at hp
    rw[hp] at j
    have A:=dT (q:=Int.toNat ((7:Nat):Int)<=l.length) Ω
    have R:=dT (q:=Int.toNat ((8:Nat):Int)<=l.length) Ω
    cases k:List.isPrefixOf [104,116,116,112,115,58,47,47] l
    · rw[k] at j
      simp only[Bool.false_eq_true,if_false]
      obtain⟨a,b,c,Zo⟩:=plain k
      refine⟨a,b,c,r.trans ?_⟩
      rw[C]
      simp only[Av,Au,Ai,dle,o,f,H,j,sF]
      simp only[Av,Au,y,n7,A,E,I,G] at Zo ⊢
      exact Zo
    · rw[k] at j
      simp only[if_true]
      have S:=dF (q:=((l.length:Nat):Int)<((8:Nat):Int)) Ω
      obtain⟨a,b,c,h⟩:=loop 8 true J
      refine⟨a,b,c,r.trans ?_⟩
      rw[C]
      simp only[Av,Au,Ai,dle,o,f,H,j,sT]
      simp only[Av,Au,K,L,S,R,z,j,Q,Es]
      exact h
  · have o:=dF (q:=((l.length:Nat):Int)>=8) Ω
    have k:List.isPrefixOf [104,116,116,112,115,58,47,47] l=false:=by
      rw[Bool.eq_false_iff,ne_eq,List.isPrefixOf_iff_prefix]
      intro h
      have:=h.length_le
      simp at this
      omega
    rw[k]
    simp only[Bool.false_eq_true,if_false]
    obtain⟨a,b,c,Zo⟩:=plain k
    refine⟨a,b,c,r.trans ?_⟩
    simp only[Av,Au,Ai,dle,o,sF]
    by_cases N:l.length<7
    · have f:=dT (q:=((l.length:Nat):Int)<((7:Nat):Int)) Ω
      rw[f] at Zo
      simp only[Av,Au,y,n7,f] at Zo ⊢
      exact Zo
    · have f:=dF (q:=((l.length:Nat):Int)<((7:Nat):Int)) Ω
      have A:=dT (q:=Int.toNat ((7:Nat):Int)<=l.length) Ω
      rw[f] at Zo
      simp only[Av,Au,y,n7,f,A,E,I,G] at Zo ⊢
      exact Zo
end
def UO:Ak:=[123,34,116,121,112,101,34,58,34]
def ZR:Ak:=[34,44,34,99,104,97,108,108,101,110,103,101,34,58,34]
def fA3:Ak:=[34,44,34,111,114,105,103,105,110,34,58,34]
def fA4:Ak:=[34,44,34,99,114,111,115,115,79,114,105,103,105,110,34,58,102,97,108,115,101,125]
def fA5:Ak:=[34,44,34,99,114,111,115,115,79,114,105,103,105,110,34,58,116,114,117,101,44,34,116,111,112,79,114,105,103,105,110,34,58,34]
def fA6:Ak:=[34,125]
def fA7:Ak:=[34,44,34,99,114,111,115,115,79,114,105,103,105,110,34,58]
def fA8:Ak:=[102,97,108,115,101,125]
def fA9:Ak:=[116,114,117,101,44,34,116,111,112,79,114,105,103,105,110,34,58,34]
theorem Aft:(ByteArray.mk #[123,34,116,121,112,101,34,58,34])=Ab UO:=rfl
theorem Af1:(ByteArray.mk #[34,44,34,99,104,97,108,108,101,110,103,101,34,58,34])=Ab ZR:=rfl
theorem Afu:(ByteArray.mk #[34,44,34,111,114,105,103,105,110,34,58,34])=Ab fA3:=rfl
theorem Au9:(ByteArray.mk #[34,125])=Ab fA6:=rfl
theorem Ael:(ByteArray.mk #[34,44,34,99,114,111,115,115,79,114,105,103,105,110,34,58])=Ab fA7:=rfl
theorem Awm:(ByteArray.mk #[102,97,108,115,101,125])=Ab fA8:=rfl
theorem Axj:(ByteArray.mk #[116,114,117,101,44,34,116,111,112,79,114,105,103,105,110,34,58,34])=Ab fA9:=rfl
theorem QQ:(ByteArray.mk #[])=Ab []:=rfl
theorem A0i:fA4=fA7++fA8:=rfl
theorem A1v:fA5=fA7++fA9:=rfl
theorem Bbr:Ce []:=λx a=>by cases a
def tyS(k:Int):Option Ak:=if k=1 then some tyC else if k=2 then some tyG else none
def fmH(ty ch o:Ak):Ak:=UO++ty++ZR++Fw ch++fA3++o
def TA(k:Int)(ch o t:Ak)(x:Bool):JR Ak:=
 match tyS k with
 |none=>.error 3
 |some a=>if ch.length<1\/64<ch.length then .error 9 else if Fg o≠0 then .error (Fg o)
  else if x=false then (if t=[] then .ok (fmH a ch o++fA4) else .error 4)
  else if Fg t≠0 then .error (Fg t) else .ok (fmH a ch o++fA5++t++fA6)
def A2t(r:JR Ak):A8:=match r with | .ok s=>⟨[Bf (Ab s),A0 0],[]⟩ | .error e=>⟨[Bf (Ab []),A0 e],[]⟩
section
variable {u d:Nat}{p:Option (Ae->Option A8)}
abbrev cdA(k:Int)(ch o t:Ak)(x:Bool):PV:=.agg [A0 k,.lst false 1 ch.length (Af .u8 ch),Bf (Ab o),Cn x,Bf (Ab t)]
theorem nn0(e:Int)(h:e≠0):(e != 0)=true:=by simp[h]
theorem Afm(k:Int):Ac (CP p) prog u (d+1) 41 [A0 k]=some ⟨[Bf (Ab ((tyS k).getD []))],[]⟩:=by
 rw[CG];unfold tyS;by_cases a:k=1
 ·subst a;have b:((1:Int)==1)=true:=rfl;rw[Bq rfl];simp only[Av,Au,b];rfl
 have b:(k==1)=false:=by simp[a]
 by_cases c:k=2
 ·subst c;have e:((2:Int)==2)=true:=rfl;rw[Bb a,Bq rfl];simp only[Av,Au,b,e];rfl
 have e:(k==2)=false:=by simp[c]
 rw[Bb a,Bb c];simp only[Av,Au,b,e];rfl
theorem Au4{k:Int}{ty:Ak}(h:tyS k=some ty):Ce ty/\ty≠[]/\ty.length<=14:=by
 unfold tyS at h;split at h
 ·cases h;exact⟨λx a=>by simp[tyC] at a;omega,Δ,Δ⟩
 split at h
 ·cases h;exact⟨λx a=>by simp[tyG] at a;omega,Δ,Δ⟩
 ·cases h
set_option maxHeartbeats 4000000 in
theorem Aq6{k:Int}{ch o t:Ak}{x:Bool}(A:Ce ch)(N:Ce o)(ht:Ce t)(So:ch.length<=100000)(C:o.length<=1000000)(D:t.length<=1000000)(Bg:2000<=u)(E:ch.length+1<=u)(G:o.length+1<=u)(H:t.length+1<=u):
  Ac (CP p) prog u (d+6) 17 [cdA k ch o t x]=some (A2t (TA k ch o t x)):=by
 have O:=Vo (p:=p) u (d+5) k ch.length (Af .u8 ch) (Ab o) x (Ab t);refine O.trans ?_;obtain⟨U,V,W,h⟩:=Aem (u:=u) (d:=d) (p:=p) N C Ω G;obtain⟨X,Y,Z,m⟩:=Aem (u:=u) (d:=d) (p:=p) ht D Ω H;have h:Ac (CP p) prog u (d+5) 42 [Bf (Ab o)]=_:=h;have m:Ac (CP p) prog u (d+5) 42 [Bf (Ab t)]=_:=m;have n:Ac (CP p) prog u (d+5) 43 [.lst false 1 ch.length (Af .u8 ch)]=_:=Ao6 (u:=u) (d:=d+4) (p:=p) A So Ω E;have c:Ac (CP p) prog u (d+5) 41 [A0 k]=_:=Afm (u:=u) (d:=d+4) (p:=p) k;have P:=UH ch;have r:((0:Int) != 0)=false:=rfl;have s:(Array.toList (Ab t).data==[])=decide (t=[]):=T9 (b:=[]) ht Bbr;unfold TA;cases j:tyS k with
 |none=>
  rw[j] at c;have q:((([]:List UInt8)==[])=true):=rfl;simp only[Av,Au,c,Option.getD_none,QQ,q];rfl
 |some a=>
  rw[j] at c;obtain⟨I,J,Bk3⟩:=Au4 j;have q:(Array.toList (Ab a).data==[])=false:=(T9 (b:=[]) I Bbr).trans (dF J);have c1:decide (9+a.length<=9223372036854775807)=true:=dT Ω;have c2:decide ((UO++a).length+15<=9223372036854775807)=true:=dT (by simp[UO];omega)
  have v:decide ((UO++a++ZR).length+(Fw ch).length<=9223372036854775807)=true:=dT (by simp[UO,ZR];omega)
  have w:decide ((UO++a++ZR++Fw ch).length+12<=9223372036854775807)=true:=dT (by simp[UO,ZR];omega)
  have y:decide ((UO++a++ZR++Fw ch++fA3).length+o.length<=9223372036854775807)=true:=dT (by simp[UO,ZR,fA3];omega)
  have z:decide ((UO++a++ZR++Fw ch++fA3++o).length+16<=9223372036854775807)=true:=dT (by simp[UO,ZR,fA3];omega)
  have c7:decide ((UO++a++ZR++Fw ch++fA3++o++fA7).length+6<=9223372036854775807)=true:=dT (by simp[UO,ZR,fA3,fA7];omega)
  have K:decide ((UO++a++ZR++Fw ch++fA3++o++fA7).length+18<=9223372036854775807)=true:=dT (by simp[UO,ZR,fA3,fA7];omega)
  have L:decide ((UO++a++ZR++Fw ch++fA3++o++fA7++fA9).length+t.length<=9223372036854775807)=true:=dT (by simp[UO,ZR,fA3,fA7,fA9];omega)
  have M:decide ((UO++a++ZR++Fw ch++fA3++o++fA7++fA9++t).length+2<=9223372036854775807)=true:=dT (by simp[UO,ZR,fA3,fA7,fA9];omega)
  simp only;by_cases Q:ch.length<1
  ·have i:=dT (q:=((ch.length:Nat):Int)<1) Ω;rw[Bq (.inl Q)];simp only[Av,Au,c,Option.getD_some,QQ,q,i];rfl
  have i:=dF (q:=((ch.length:Nat):Int)<1) Ω;by_cases R:64<ch.length
  ·have l:=dT (q:=((ch.length:Nat):Int)>64) Ω;rw[Bq (.inr R)];simp only[Av,Au,c,Option.getD_some,QQ,q,i,l];rfl
  have l:=dF (q:=((ch.length:Nat):Int)>64) Ω;rw[Bb Ω];by_cases e:Fg o=0
  rotate_left
  ·have S:=nn0 _ e;rw[Bq e];simp only[Av,Au,c,Option.getD_some,QQ,q,i,l,h,S];rfl
  rw[Bb (by simp[e])];rw[e] at h;cases x with
  |false=>
   rw[Bq rfl];by_cases f:t=[]
   ·rw[dT f] at s;rw[Bq f];simp only[Av,Au,c,Option.getD_some,QQ,q,i,l,h,r,s,Es,Gg,n,Ai,Aft,Af1,Afu,Ael,Awm,Kg,c1,c2,v,w,y,z,c7];show some (A8.mk _ [])=_;unfold A2t fmH;rw[A0i];simp only[Zzv]
   ·rw[dF f] at s;rw[Bb f];simp only[Av,Au,c,Option.getD_some,QQ,q,i,l,h,r,s,Es,Gg,n,Ai,Aft,Af1,Afu,Ael,Awm,Kg,c1,c2,v,w,y,z,c7];rfl
  |true=>
   rw[Bb Δ];by_cases g:Fg t=0
   ·rw[g] at m;rw[Bb (by simp[g])];simp only[Av,Au,c,Option.getD_some,QQ,q,i,l,h,m,r,Es,Gg,n,Ai,Aft,Af1,Afu,Au9,Ael,Axj,Kg,c1,c2,v,w,y,z,K,L,M];show some (A8.mk _ [])=_;unfold A2t fmH;rw[A1v];simp only[Zzv]
   ·have T:=nn0 _ g;rw[Bq g];simp only[Av,Au,c,Option.getD_some,QQ,q,i,l,h,m,r,T,Es,Gg,n,Ai,Aft,Af1,Afu,Au9,Ael,Axj,Kg,c1,c2,v,w,y,z,K,L,M];rfl
end
def ZI(c:Int):Bool:=decide (33<=c)&&decide (c<=126)&&c != 34&&c != 92
theorem LU{c:Int}:ZI c=true↔33<=c/\c<=126/\c≠34/\c≠92:=by unfold ZI;simp;omega
theorem QB(c:Int):∀{l:Ak}{x:Int},x∈l->x=c\/∃q∈Bh c l,x∈q
 |a::r,x,d=>by
  unfold Bh;by_cases f:a=c
  ·rw[Bq f];rcases List.mem_cons.1 d with rfl|d
   ·exact .inl f
   ·rcases QB c d with h|⟨q,e,h⟩
    ·exact .inl h
    ·exact .inr ⟨q,by simp[e],h⟩
  ·rw[Bb f];cases g:Bh c r with
   |nil=>exact absurd g (To c r)
   |cons b t=>
    rcases List.mem_cons.1 d with rfl|d
    ·exact .inr ⟨x::b,Ψ,Ψ⟩
    ·rcases QB c d with h|⟨q,e,h⟩
     ·exact .inl h
     ·rw[g] at e;rcases List.mem_cons.1 e with rfl|e
      ·exact .inr ⟨a::q,Ψ,by simp[h]⟩
      ·exact .inr ⟨q,by simp[e],h⟩
theorem Anb{l:Ak}(h:Ws l=0):l.all ZI=true:=by
 unfold Ws at h;split at h
 ·cases h
 split at h
 ·cases h
 rename_i _ a
 have a:(Bh 46 l).all M1=true:=by
  cases b:(Bh 46 l).all M1
  ·exact absurd b a
  ·rfl
 rw[List.all_eq_true];intro x f;rcases QB 46 f with rfl|⟨q,b,c⟩
 ·rfl
 ·have d:=List.all_eq_true.1 a q b;unfold M1 at d;rw[Ge] at d;have e:=List.all_eq_true.1 d.2 x c;unfold ltB Uy at e;rw[LU];simp at e;omega
theorem YD{s:Bool}{r:Ak}(h:DH s r=0):r.all ZI=true:=by
 unfold DH at h;simp only at h;by_cases f:Ws (Bz 58 r)=0
 ·rw[Bb (by simp[f])] at h;have j:=Anb f;by_cases k:(Bz 58 r).length=r.length
  ·rwa [An6 58 r Ω] at j
  ·rw[Bb k] at h;split at h
   ·rename_i hp
    have hd:(r.drop ((Bz 58 r).length+1)).all Uy=true:=by
     have:=hp.1;unfold Lg at this;rw[Ge] at this;exact this.2
    have Cs:(Bz 58 r).length<r.length:=by have:=UN 58 r;omega
    have Bae:r[(Bz 58 r).length]?=some 58:=by
     obtain⟨c,d⟩:∃c,r[(Bz 58 r).length]?=some c:=⟨_,List.getElem?_eq_getElem Cs⟩
     have e:r.drop (Bz 58 r).length=r.dropWhile (λx=>x != 58):=by
      have b:r.takeWhile (λx=>x != 58)++r.dropWhile (λx=>x != 58)=r:=List.takeWhile_append_dropWhile;have l:=congrArg (List.drop (Bz 58 r).length) b;have m:(List.takeWhile (λx=>x != 58) r++List.dropWhile (λx=>x != 58) r).drop (Bz 58 r).length=List.dropWhile (λx=>x != 58) r:=List.drop_left;rw[<-l];exact m
     have g:(r.dropWhile (λx=>x != 58))[0]?=some c:=by rw[<-e,List.getElem?_drop];simpa using d
     cases a:r.dropWhile (λx=>x != 58) with
     |nil=>rw[a] at g;cases g
     |cons y t=>
      rw[a] at g;have:y=c:=by simpa using g
      subst this;have i:=List.head?_dropWhile_not (λx:Int=>x != 58) r;rw[a] at i;simp at i;rw[d,i]
    have e:r=Bz 58 r++58::r.drop ((Bz 58 r).length+1):=by
     have b:=(List.take_append_drop (Bz 58 r).length r).symm;rw[<-Uj] at b;rw[List.getElem?_eq_getElem Cs] at Bae;rw[List.drop_eq_getElem_cons Cs] at b;have:r[(Bz 58 r).length]=58:=by simpa using Bae
     rw[this] at b;exact b
    rw[e,List.all_append,j,List.all_cons]
    have:(r.drop ((Bz 58 r).length+1)).all ZI=true:=by
     rw[List.all_eq_true] at hd ⊢;intro x n;have:=(MT x).1 (hd x n);rw[LU];omega
    rw[this];rfl
   ·cases h
 ·rw[Bq f] at h;exact absurd h f
theorem Acp{l:Ak}(h:Fg l=0):l.all ZI=true:=by
 unfold Fg at h
 have a:∀w:Ak,w.all ZI=true->w.isPrefixOf l=true->(l.drop w.length).all ZI=true->l.all ZI=true:=by
  intro w b hp hd;have e:=List.prefix_iff_eq_append.1 (List.isPrefixOf_iff_prefix.1 hp);rw[<-e,List.all_append,b,hd];rfl
 split at h
 ·rename_i hp;exact a _ Δ hp (YD h)
 split at h
 ·rename_i hp;exact a _ Δ hp (YD h)
 ·cases h
theorem K4{v:Int}(a:0<=v)(b:v<64):ZI (J9 v)=true:=by
 rw[LU];unfold J9;split
 ·omega
 split
 ·omega
 split
 ·omega
 split<;>omega
theorem OI:∀{l:Ak},Ce l->(Fw l).all ZI=true
 |[],_=>rfl
 |[a],h=>by
  obtain⟨d,_⟩:=Ca h;unfold Fw;rw[List.all_cons,List.all_cons,K4 Ω Ω,K4 Ω Ω];rfl
 |[a,b],h=>by
  obtain⟨d,h⟩:=Ca h;obtain⟨f,_⟩:=Ca h;unfold Fw;rw[List.all_cons,List.all_cons,List.all_cons,K4 Ω Ω,K4 Ω Ω,K4 Ω Ω];rfl
 |a::b::c::r,h=>by
  obtain⟨d,h⟩:=Ca h;obtain⟨f,h⟩:=Ca h;obtain⟨g,h⟩:=Ca h;have e:Fw (a::b::c::r)=J9 (a / 4)::J9 (a % 4*16+b / 16)::J9 (b % 16*4+c / 64)::J9 (c % 64)::Fw r:=rfl;rw[e,List.all_cons,List.all_cons,List.all_cons,List.all_cons,K4 Ω Ω,K4 Ω Ω,K4 Ω Ω,K4 Ω Ω,OI h];rfl
theorem VO:∀(s:Ak)(n:Nat)(a r:Ak),s.all ZI=true->s.length<n->Jh n a (s++34::r)=(some (a++s),r)
  |[],n,a,r,_,b=>by
    obtain⟨m,rfl⟩:∃m,n=m+1:=⟨n-1,by simp at b;omega⟩
    show (if (34:Int)<32 then _ else if (34:Int)=34 then (some a,r) else _)=_
    rw[Bb Δ,Bq rfl,List.append_nil]
  |c::s,n,a,r,h,b=>by
    obtain⟨m,rfl⟩:∃m,n=m+1:=⟨n-1,by simp at b;omega⟩
    rw[List.all_cons,Ge] at h
    have d:=LU.1 h.1
    have e:Jh (m+1) a (c::(s++34::r))=if c<32 then (none,c::(s++34::r)) else if c=34 then (some a,s++34::r) else if c=92 then
        (match Ob (s++34::r) with
         |(some x,r')=>Jh m (a++Lib.encodeRuneZ x) r'
         |(none,r')=>(none,r')) else Jh m (a++[c]) (s++34::r):=rfl
    rw[Zzp,e,Bb Ω,Bb Ω,Bb Ω,VO s m (a++[c]) r h.2 (by simp at b;omega)]
    simp
theorem RP{s r:Ak}(h:s.all ZI=true):Dp (34::(s++34::r))=(some s,r):=by
 have e:Dp (34::(s++34::r))=if (34:Int)=34 then Jh ((s++34::r).length+1) [] (s++34::r) else (none,34::(s++34::r)):=rfl
 rw[e,Bq rfl,VO s _ [] r h (by simp;omega)]
 rfl
def VOk(a:Ak)(v:JV):Prop:=(∀r,Cx 8 (a++r)=.ok (v,r))/\∃y z,a=y::z/\P3 y=false
theorem UR{s:Ak}(h:s.all ZI=true):VOk (34::(s++[34])) (4,s,false):=by
 refine⟨λr=>?_,34,_,rfl,rfl⟩;have e:(34::(s++[34]))++r=34::(s++34::r):=Ψ
 rw[e];have a:Cx 8 (34::(s++34::r))=(match KY (34::(s++34::r)) with|none=>.error 2|some (s,r')=>.ok ((4,s,false),r')):=rfl;have b:KY (34::(s++34::r))=some (s,r):=by unfold KY;rw[RP h]
 rw[a,b]
theorem Ary:VOk [102,97,108,115,101] (2,[],false):=⟨λr=>rfl,102,_,rfl,rfl⟩
theorem Axb:VOk [116,114,117,101] (2,[],true):=⟨λr=>rfl,116,_,rfl,rfl⟩
theorem OL{y:Int}{r:Ak}(h:P3 y=false):Ax (y::r)=y::r:=by show (if P3 y=true then Ax r else y::r)=_;rw[Bb (by rw[h];decide)]
def V1(nm a:Ak):Ak:=34::(nm++34::58::a)
theorem FS{n:Nat}{ms:List (Ak × JV)}{nm g:Ak}{v:JV}{c:Int}{rest:Ak}(i:nm.all ZI=true)(a:VOk g v)(hd:(ms.any λm=>m.1==nm)=false)(h:c=44\/c=125):
  P6 (Cx 8) true (n+1) ms (V1 nm g++c::rest)=if c=125 then .ok (ms++[(nm,v)],rest) else P6 (Cx 8) true n (ms++[(nm,v)]) (Ax rest):=by
 obtain⟨a,y,z,rfl,j⟩:=a;have e:V1 nm (y::z)++c::rest=34::(nm++34::(58::(y::z++c::rest))):=by unfold V1;simp
 have b:P3 c=false:=by rcases h with rfl|rfl<;>rfl
 rw[e,Ko,RP i];simp only;rw[Zzm,hd,Bb Δ,OL (show P3 58=false from rfl)];have d:Ar [58] (58::(y::z++c::rest))=some (y::z++c::rest):=by rw[C4];rfl
 rw[d];simp only;rw[Zzp,OL j,<-Zzp,a];simp only;rw[OL b];rcases h with rfl|rfl
 ·have f:Ar [125] (44::rest)=none:=by rw[C4];rfl
  have k:Ar [44] (44::rest)=some rest:=by rw[C4];rfl
  rw[f,k,Bb Δ]
 ·have f:Ar [125] (125::rest)=some rest:=by rw[C4];rfl
  rw[f,Bq rfl]
def A5p(ty ch o t:Ak)(x:Bool):List (Ak × JV):=
 [(On,(4,ty,false)),(Te,(4,Fw ch,false)),(JQ,(4,o,false)),(QC,(2,[],x))]++(if x=true then [(Zm,(4,t,false))] else [])
def wsL(w:Ak):Prop:=w.all P3=true
theorem Al3:∀{w:Ak}(r:Ak),wsL w->Ax (w++r)=Ax r
 |[],_,_=>rfl
 |c::w,r,h=>by
  unfold wsL at h;rw[List.all_cons,Ge] at h;show (if P3 c=true then Ax (w++r) else _)=_;rw[Bq h.1];exact Al3 r h.2
def J1(ty ch o t:Ak)(x:Bool):Ak:=
 V1 On (34::(ty++[34]))++44::(V1 Te (34::(Fw ch++[34]))++44::(V1 JQ (34::(o++[34]))++44::(V1 QC (if x=true then [116,114,117,101] else [102,97,108,115,101])++(if x=true then 44::(V1 Zm (34::(t++[34]))++[125]) else [125]))))
theorem Ahq{ty ch o t:Ak}{x:Bool}{w:Ak}(h:wsL w)(c:ty.all ZI=true)(d:Ce ch)(j:o.all ZI=true)(ht:t.all ZI=true):
  TL 8 (w++(123::J1 ty ch o t x)++w)=.ok (A5p ty ch o t x):=by
 have b:Ax w=[]:=by
  have:=Al3 (w:=w) [] h
  rwa [List.append_nil] at this
 have k:w++(123::J1 ty ch o t x)++w=w++(123::(J1 ty ch o t x++w)):=Ψ
 rw[Tp,k,Al3 _ h,OL (show P3 123=false from rfl)];have l:Ar [123] (123::(J1 ty ch o t x++w))=some (J1 ty ch o t x++w):=by rw[C4];rfl
 rw[l];simp only;have i:J1 ty ch o t x++w=34::((J1 ty ch o t x++w).tail):=by unfold J1 V1;rfl
 have e:Ax (J1 ty ch o t x++w)=J1 ty ch o t x++w:=by rw[i];exact OL rfl
 have e125:Ar [125] (J1 ty ch o t x++w)=none:=by rw[i,C4];rfl
 rw[M5,e,e125];simp only
 obtain⟨N,m⟩:∃N,(J1 ty ch o t x++w).length+1=N+5:=⟨(J1 ty ch o t x++w).length-4,by
  have:4<=(J1 ty ch o t x++w).length:=by unfold J1 V1;simp;omega
  omega⟩
 rw[m];have a:∀f g r,Ax (V1 f g++r)=V1 f g++r:=λf g r=>OL rfl
 have n:J1 ty ch o t x++w=V1 On (34::(ty++[34]))++44::(V1 Te (34::(Fw ch++[34]))++44::(V1 JQ (34::(o++[34]))++44::(V1 QC (if x=true then [116,114,117,101] else [102,97,108,115,101])++((if x=true then 44::(V1 Zm (34::(t++[34]))++[125]) else [125])++w)))):=by
  unfold J1;simp only[Zzv,Zzp]
 rw[n,FS Δ (UR c) rfl (.inl rfl),Bb Δ,a,
  FS Δ (UR (OI d)) rfl (.inl rfl),Bb Δ,a,
  FS Δ (UR j) rfl (.inl rfl),Bb Δ,a]
 cases x with
 |false=>
  rw[Bb Δ,Bb Δ,Zzp,Zzq,FS Δ Ary rfl (.inr rfl),Bq rfl];simp only[Zzq];rw[Bq b];rfl
 |true=>
  have es:V1 Zm (34::(t++[34]))++[125]++w=V1 Zm (34::(t++[34]))++125::w:=Ψ
  rw[Bq rfl,Bq rfl,Zzp,es,FS Δ Axb rfl (.inl rfl),Bb Δ,a,
   FS Δ (UR ht) rfl (.inr rfl),Bq rfl]
  simp only[Zzq];rw[Bq b];rfl
theorem Aep{ty ch o t:Ak}{x:Bool}{k:Int}(a:tyS k=some ty)(c:Ce ch)(g:1<=ch.length)(i:ch.length<=64)(d:Fg o=0)(ht:x=true->Fg t=0)(e:x=false->t=[]):
  SL (A5p ty ch o t x)=.ok (k,ch,o,x,t):=by
 have b:∀T:JV,ED k (4,Fw ch,false) (4,o,false) (2,[],x) (if x=true then (4,t,false) else (0,[],false))=.ok (k,ch,o,x,t):=by
  intro _;unfold ED;simp only;rw[Afk c];simp only;rw[Bb Ω,Bb (by simp[d])];cases x with
  |false=>rw[e rfl];simp
  |true=>simp[ht rfl]
 have f:SL (A5p ty ch o t x)=Lr (4,ty,false) (4,Fw ch,false) (4,o,false) (2,[],x) (if x=true then (4,t,false) else (0,[],false)):=by
  cases x<;>rfl
 rw[f];unfold Lr;rw[Bb Ψ,Bb Ψ,Bb (by cases x<;>simp)]
 unfold tyS at a;split at a
 ·rename_i h;cases a;subst h
  simp only;rw[Bq trivial];exact b (0,[],false)
 split at a
 ·rename_i h;cases a;subst h
  simp only;rw[Bb Δ,Bq trivial];exact b (0,[],false)
 ·cases a
theorem Awy{k:Int}{ch o t s:Ak}{x:Bool}(h:TA k ch o t x=.ok s):∃ty,tyS k=some ty/\s=123::J1 ty ch o t x/\1<=ch.length/\ch.length<=64/\Fg o=0/\(x=true->Fg t=0)/\(x=false->t=[]):=by
 unfold TA at h;cases b:tyS k with
 |none=>rw[b] at h;cases h
 |some ty=>
  rw[b] at h;simp only at h;split at h
  ·cases h
  rename_i c;split at h
  ·cases h
  rename_i a
  have a:Fg o=0:=by
   by_cases q:Fg o=0
   ·exact q
   ·exact absurd q a
  cases x with
  |false=>
   rw[Bq rfl] at h;split at h
   ·rename_i ht;cases h;refine⟨ty,rfl,?_,Ω,Ω,a,(λh=>by cases h),λ_=>ht⟩;unfold fmH J1 V1 UO ZR fA3 fA4 On Te JQ QC;simp
   ·cases h
  |true=>
   rw[Bb Δ] at h;split at h
   ·cases h
   ·rename_i ht;cases h
    have ht:Fg t=0:=by
     by_cases q:Fg t=0
     ·exact q
     ·exact absurd q ht
    refine⟨ty,rfl,?_,Ω,Ω,a,λ_=>ht,(λh=>by cases h)⟩;unfold fmH J1 V1 UO ZR fA3 fA5 fA6 On Te JQ QC Zm;simp
theorem Ah3{l:Ak}(h:∀x∈l,0<=x/\x<128):Lib.validD (Ab l).data.toList=true:=by
 have e:(Ab l).data.toList=l.map λn=>n.toNat.toUInt8:=rfl
 rw[e,Lib.validD_ascii (l.map λn=>n.toNat.toUInt8).length _ (λb a=>by
  have a:=List.mem_of_mem_take a;obtain⟨n,c,rfl⟩:=List.mem_map.1 a;have:=h n c;have d:n.toNat.toUInt8.toNat=n.toNat % 256:=by rw[Nat.toUInt8,UInt8.toNat_ofNat']
  omega),List.drop_length]
 rfl
def asc(l:Ak):Prop:=∀y∈l,0<=y/\y<128
theorem Zw{p q:Ak}(hp:asc p)(a:asc q):asc (p++q):=λy b=>(B2.1 b).elim (hp y) (a y)
theorem Nz{a:Int}{p:Ak}(c:0<=a/\a<128)(hp:asc p):asc (a::p):=λy b=>by
 rcases List.mem_cons.1 b with rfl|b
 ·exact c
 ·exact hp y b
theorem A3v{k:Int}{ch o t s w:Ak}{x:Bool}(b:Ce ch)(h:TA k ch o t x=.ok s)(i:wsL w)(I:(w++s++w).length<=1024):Kk (Ab (w++s++w))=.ok (k,ch,o,x,t):=by
 obtain⟨d,c,rfl,e,f,j,ht,l⟩:=Awy h;have m:=Acp j
 have n:t.all ZI=true:=by
  cases x with
  |true=>exact Acp (ht rfl)
  |false=>rw[l rfl];rfl
 have p:d.all ZI=true:=by
  unfold tyS at c;split at c
  ·cases c;decide
  split at c
  ·cases c;decide
  ·cases c
 have C:=OI b
 have cl128:∀{q:Ak},q.all ZI=true->∀y∈q,0<=y/\y<128:=λg y a=>by
  have:=LU.1 (List.all_eq_true.1 g y a);omega
 have wc:∀y∈w,0<=y/\y<128:=λy a=>by
  have:=List.all_eq_true.1 i y a;unfold P3 at this;simp at this;omega
 have D:asc (J1 d ch o t x):=by
  have v:∀{q:Ak},q.all ZI=true->asc (34::(q++[34])):=λg=>Nz Δ (Zw (cl128 g) (Nz Δ (λ_ h=>nomatch h)));have mt:∀{r z:Ak},asc r->asc z->asc (V1 r z):=λe f=>Nz Δ (Zw e (Nz Δ (Nz Δ f)));have nT:asc On:=by unfold asc On;decide
  have nC:asc Te:=by unfold asc Te;decide
  have nO:asc JQ:=by unfold asc JQ;decide
  have nX:asc QC:=by unfold asc QC;decide
  have nP:asc Zm:=by unfold asc Zm;decide
  have E:asc [116,114,117,101]:=by unfold asc;decide
  have G:asc [102,97,108,115,101]:=by unfold asc;decide
  have A:asc [125]:=by unfold asc;decide
  unfold J1;refine Zw (mt nT (v p)) (Nz Δ (Zw (mt nC (v C)) (Nz Δ (Zw (mt nO (v m)) (Nz Δ (Zw (mt nX ?_) ?_))))))
  ·cases x with
   |true=>exact E
   |false=>exact G
  ·cases x with
   |true=>exact Nz Δ (Zw (mt nP (v n)) A)
   |false=>exact A
 have all128:∀y∈w++(123::J1 d ch o t x)++w,0<=y/\y<128:=by
  intro y a;rcases B2.1 a with a|a
  ·rcases B2.1 a with a|a
   ·exact wc y a
   ·rcases List.mem_cons.1 a with rfl|a
    ·omega
    ·exact D y a
  ·exact wc y a
 have H:Ce (w++(123::J1 d ch o t x)++w):=λy a=>by have:=all128 y a;omega
 unfold Kk;rw[Ai,Bb Ω,Ah3 all128,Bb Δ,Ct H,Ahq i p b m n];exact Aep c b e f j ht l
theorem OT{x:Int}(e:0<=x)(i:x<=1114111)(j:x<55296\/57343<x):runesBytes [x]=Ab (Lib.encodeRuneZ x):=by
 obtain⟨n,rfl⟩:=Int.eq_ofNat_of_zero_le e
 have f:Utf8.valid (n:Int)=true:=by
  unfold Utf8.valid;simp;omega
 have g:runesBytes [(n:Int)]=Utf8.encode (n:Int):=by
  show ByteArray.empty++Utf8.encode (n:Int)=_;exact ByteArray.empty_append
 rw[g];unfold Utf8.encode;simp only[f,if_true,H8];by_cases c1:n<128
 ·rw[Bq c1,Lib.encodeRuneZ_one Ω Ω];rfl
 rw[Bb c1];by_cases c2:n<2048
 ·rw[Bq c2,Lib.encodeRuneZ_two Ω Ω];have a:(192+(n:Int) / 64).toNat=192+n / 64:=Ω
  have b:(128+(n:Int) % 64).toNat=128+n % 64:=Ω
  show _=ByteArray.mk (List.toArray [(192+(n:Int) / 64).toNat.toUInt8,(128+(n:Int) % 64).toNat.toUInt8]);rw[a,b]
 rw[Bb c2];by_cases d:n<65536
 ·rw[Bq d,Lib.encodeRuneZ_three Ω];have a:(224+(n:Int) / 4096).toNat=224+n / 4096:=Ω
  have b:(128+(n:Int) / 64 % 64).toNat=128+n / 64 % 64:=Ω
  have c:(128+(n:Int) % 64).toNat=128+n % 64:=Ω
  show _=ByteArray.mk (List.toArray [(224+(n:Int) / 4096).toNat.toUInt8,(128+(n:Int) / 64 % 64).toNat.toUInt8,(128+(n:Int) % 64).toNat.toUInt8]);rw[a,b,c]
 ·rw[Bb d,Lib.encodeRuneZ_four Ω Ω];have h:(240+(n:Int) / 262144).toNat=240+n / 262144:=Ω
  have a:(128+(n:Int) / 4096 % 64).toNat=128+n / 4096 % 64:=Ω
  have b:(128+(n:Int) / 64 % 64).toNat=128+n / 64 % 64:=Ω
  have c:(128+(n:Int) % 64).toNat=128+n % 64:=Ω
  show _=ByteArray.mk (List.toArray [(240+(n:Int) / 262144).toNat.toUInt8,(128+(n:Int) / 4096 % 64).toNat.toUInt8,(128+(n:Int) / 64 % 64).toNat.toUInt8,(128+(n:Int) % 64).toNat.toUInt8]);rw[h,a,b,c]
abbrev RS:=JR Ak
def JS(t:ByteArray)(i e:Int):RS->Prop
 |.ok r=>e=0/\Dw t r/\i=(Bm t r:Int)
 |.error c=>e=c/\c≠0/\0<=i/\i<=(t.size:Int)+1
abbrev jC(t:ByteArray)(i e:Int):Ae:=[Bf t,A0 i,A0 e]
def Ek:RS->Int
 |.ok r=>QJ r
 |.error _=>0
def Ev:RS->RS
 |.ok (_::r)=>.ok r
 |s=>s
def jfl(c:Int):RS->RS
 |.ok _=>.error c
 |s=>s
theorem JS.rng{t:ByteArray}{i e:Int}{s:RS}(h:JS t i e s):0<=i/\i<=(t.size:Int)+1:=by
 cases s with
 |ok r=>
  obtain⟨_,_,rfl⟩:=h;unfold Bm;omega
 |error c=>exact⟨h.2.2.1,h.2.2.2⟩
theorem JS.hd{t:ByteArray}{i e:Int}{s:RS}(h:JS t i e s):0<=Ek s/\Ek s<=255:=by
 cases s with
 |ok r=>
  cases r with
  |nil=>exact⟨Int.le_refl _,Δ⟩
  |cons c r=>exact h.2.1.B c Ψ
 |error c=>exact⟨Int.le_refl _,by show (0:Int)<=255;decide⟩
theorem JS.adv{t:ByteArray}{i e:Int}{s:RS}(h:JS t i e s)(ht:t.size<=1000000)(a:Ek s≠0):JS t (i+1) e (Ev s)/\wrap .i64 (i+1)=i+1:=by
 have g:=h.rng;refine⟨?_,Bc⟩;cases s with
 |ok r=>
  cases r with
  |nil=>exact absurd rfl a
  |cons c r=>
   obtain⟨d,b,f⟩:=h;exact⟨d,b.tail,by rw[f,Jm b];omega⟩
 |error c=>exact absurd rfl a
theorem JS.fail{t:ByteArray}{i e:Int}{s:RS}(h:JS t i e s){c:Int}(f:c≠0):JS t i (if e=0 then c else e) (jfl c s):=by
 have b:=h.rng;cases s with
 |ok r=>
  obtain⟨rfl,a,d⟩:=h;rw[Bq rfl];exact⟨rfl,f,b.1,b.2⟩
 |error c2=>
  obtain⟨rfl,a,d,g⟩:=h;rw[Bb a];exact⟨rfl,a,d,g⟩
section
variable {u d:Nat}{p:Option (Ae->Option A8)}
theorem Gv{t:ByteArray}{i e:Int}{s:RS}(h:JS t i e s):Ac (CP p) prog u (d+1) 143 [.pbox (jC t i e)]=some ⟨[.sc (.int .u8 (Ek s))],[jC t i e]⟩:=by
 refine (Xb (p:=p) u d t i e).trans ?_;cases s with
 |error c=>
  obtain⟨rfl,f,l,m⟩:=h;have z:(e != 0)=true:=by simp[f]
  simp only[Av,Au,z];rfl
 |ok r=>
  obtain⟨rfl,f,rfl⟩:=h;have z:((0:Int) != 0)=false:=rfl;cases r with
  |nil=>
   have a:decide ((Bm t []:Int)>=(t.size:Int))=true:=dT (by rw[Qg];omega)
   simp only[Av,Au,z,a];rfl
  |cons c r=>
   have j:=f.len
   have hp:Bm t (c::r)<t.size:=by
    unfold Bm;rw[Ox] at j ⊢;omega
   obtain⟨b,g,rfl⟩:=f.at;have a:decide ((Bm t ((b.toNat:Int)::r):Int)>=(t.size:Int))=false:=dF Ω;have k:decide ((0:Int)<=(Bm t ((b.toNat:Int)::r):Int))=true:=Ψ
   rw[<-H8 (Bm t ((b.toNat:Int)::r))] at g;simp only[Av,Au,z,a,k,g];rfl
theorem N6(t:ByteArray)(i e c:Int):Ac (CP p) prog u (d+1) 145 [.pbox (jC t i e),A0 c]=some ⟨[],[jC t i (if e=0 then c else e)]⟩:=by
 refine (Xt (p:=p) u d t i e c).trans ?_;by_cases h:e=0
 ·have z:(e==0)=true:=by simp[h]
  rw[Bq h];simp only[Av,Au,z]
 ·have z:(e==0)=false:=by simp[h]
  rw[Bb h];simp only[Av,Au,z]
def NS:RS->RS
 |.ok r=>.ok (Ax r)
 |s=>s
def SP:RS->Nat
 |.ok r=>r.length
 |.error _=>0
theorem JS.len{t:ByteArray}{i e:Int}{s:RS}(h:JS t i e s):SP s<=t.size:=by
 cases s with
 |ok r=>exact h.2.1.len
 |error c=>exact Nat.zero_le _
theorem Auw{s:RS}(h:P3 (Ek s)=true):NS (Ev s)=NS s/\SP (Ev s)+1=SP s:=by
 cases s with
 |ok r=>
  cases r with
  |nil=>cases h
  |cons c r=>
   have h:P3 c=true:=h;refine⟨?_,rfl⟩;show Except.ok (Ax r)=Except.ok (Ax (c::r));have:Ax (c::r)=if P3 c=true then Ax r else c::r:=rfl
   rw[this,Bq h]
 |error c=>cases h
theorem Ayy{s:RS}(h:P3 (Ek s)=false):NS s=s:=by
 cases s with
 |ok r=>
  cases r with
  |nil=>rfl
  |cons c r=>exact congrArg Except.ok (by
    have:Ax (c::r)=if P3 c=true then Ax r else c::r:=rfl
    have h:P3 c=false:=h;rw[this,Bb (by rw[h];decide)])
 |error c=>rfl
theorem Anv{t:ByteArray}(ht:t.size<=1000000){t0:ByteArray}{i0 e0:Int}:∀(n nn:Nat)(i e:Int)(s:RS),SP s=n->n+1<=nn->JS t i e s->∃l,JS t l e (NS s)/\E7 u (Ac (CP p) prog u (d+1)) t0 i0 e0 nn t i e=some ⟨[],[jC t l e]⟩:=by
 intro n
 induction n using Nat.strongRecOn with
 |_ n v=>
  intro nn i e s z A h;obtain⟨k,rfl⟩:∃k,nn=k+1:=⟨nn-1,Ω⟩
  have g:=Gv (u:=u) (d:=d) (p:=p) h;rw[Rv];by_cases a:P3 (Ek s)=true
  ·have w:Ek s≠0:=by intro x;rw[x] at a;cases a
   obtain⟨y,wr⟩:=h.adv ht w;obtain⟨s1,s2⟩:=Auw a;obtain⟨l,q,m⟩:=v (SP (Ev s)) Ω k (i+1) e (Ev s) rfl Ω y;rw[s1] at q;refine⟨l,q,?_⟩
   have r:Ek s=32\/Ek s=9\/Ek s=10\/Ek s=13:=by
    unfold P3 at a;simp at a;omega
   generalize Ek s=c at g r;rcases r with rfl|rfl|rfl|rfl
   ·have b:((32:Int) != 32)=false:=rfl;simp only[Av,Au,g,b,wr];exact m
   ·have b:((9:Int) != 32)=true:=rfl;have f:((9:Int) != 9)=false:=rfl;simp only[Av,Au,g,b,f,wr];exact m
   ·have b:((10:Int) != 32)=true:=rfl;have f:((10:Int) != 9)=true:=rfl;have j:((10:Int) != 10)=false:=rfl;simp only[Av,Au,g,b,f,j,wr];exact m
   ·have b:((13:Int) != 32)=true:=rfl;have f:((13:Int) != 9)=true:=rfl;have j:((13:Int) != 10)=true:=rfl;have o:((13:Int) != 13)=false:=rfl;simp only[Av,Au,g,b,f,j,o,wr];exact m
  ·have a:P3 (Ek s)=false:=Bool.eq_false_iff.2 a;rw[Ayy a];refine⟨i,h,?_⟩;unfold P3 at a;simp at a;have b:(Ek s != 32)=true:=by simp[a]
   have f:(Ek s != 9)=true:=by simp[a]
   have j:(Ek s != 10)=true:=by simp[a]
   have o:(Ek s != 13)=true:=by simp[a]
   simp only[Av,Au,g,b,f,j,o]
theorem Hs{t:ByteArray}(ht:t.size<=1000000)(Bg:t.size+1<=u){i e:Int}{s:RS}(h:JS t i e s):∃a,JS t a e (NS s)/\Ac (CP p) prog u (d+2) 141 [.pbox (jC t i e)]=some ⟨[],[jC t a e]⟩:=by
 obtain⟨a,b,c⟩:=Anv (u:=u) (d:=d) (p:=p) ht (t0:=t) (i0:=i) (e0:=e) (SP s) u i e s rfl (by have:=h.len;omega) h
 exact⟨a,b,(Vp (p:=p) u (d+1) t i e).trans c⟩
def Us(c:Int)(s:RS):RS:=if Ek s=c then Ev s else jfl 2 s
theorem Jl{t:ByteArray}(ht:t.size<=1000000){i e c:Int}{s:RS}(g:c≠0)(h:JS t i e s):∃j k,JS t j k (Us c s)/\Ac (CP p) prog u (d+2) 142 [.pbox (jC t i e),.sc (.int .u8 c)]=some ⟨[],[jC t j k]⟩:=by
 have b:=Gv (u:=u) (d:=d) (p:=p) h;have fl:=N6 (u:=u) (d:=d) (p:=p) t i e 2;have l:=T6 (p:=p) u (d+1) t i e c;unfold Us;by_cases a:Ek s=c
 ·obtain⟨m,wr⟩:=h.adv ht (by rw[a];exact g)
  rw[Bq a];refine⟨i+1,e,m,l.trans ?_⟩;rw[a] at b;have f:(c != c)=false:=Ψ
  have n:(c==0)=false:=by simp[g]
  simp only[Av,Au,b,f,n,wr]
 ·rw[Bb a];refine⟨i,_,h.fail (c:=2) Δ,l.trans ?_⟩;have f:(Ek s != c)=true:=by simp[a]
  simp only[Av,Au,b,f,fl]
def jwd:Ak->RS->RS
 |[],s=>s
 |c::w,s=>jwd w (Us c s)
theorem Ab2{t:ByteArray}(ht:t.size<=1000000){w:Ak}(j:Ce w)(a:∀c∈w,c≠0)(b:w.length<=100){t0:ByteArray}{i0 e0:Int}{w0:ByteArray}:∀(r:Ak)(k nn:Nat)(i e:Int)(s:RS),w.drop k=r->r.length+1<=nn->JS t i e s ->
  ∃l o,JS t l o (jwd r s)/\Fs u (Ac (CP p) prog u (d+2)) t0 i0 e0 w0 nn (Ab w) (k:Int) t i e=some ⟨[],[jC t l o]⟩
 |[],k,nn,i,e,s,hd,q,h=>by
  obtain⟨m,rfl⟩:∃m,nn=m+1:=⟨nn-1,Ω⟩
  have hi:=drop_nil hd;have f:decide ((k:Int)<(w.length:Int))=false:=dF Ω;refine⟨i,e,h,?_⟩;rw[J4];simp only[Av,Au,Ai,f]
 |c::r,k,nn,i,e,s,hd,q,h=>by
  obtain⟨m,rfl⟩:∃m,nn=m+1:=⟨nn-1,Ω⟩
  obtain⟨hi,g,Ta⟩:=Cl hd;have KI:=j c (List.mem_of_getElem? g);obtain⟨i1,v,x,y⟩:=Jl (u:=u) (d:=d) (p:=p) ht (a c (List.mem_of_getElem? g)) h;obtain⟨i2,z,A,C⟩:=Ab2 ht j a b (t0:=t0) (i0:=i0) (e0:=e0) (w0:=w0) r (k+1) m i1 v _ Ta (by simp at q;omega) x
  have f:decide ((k:Int)<(w.length:Int))=true:=dT Ω;have D:decide ((0:Int)<=(k:Int))=true:=Ψ
  have E:(Array.toList (Ab w).data)[Int.toNat (k:Int)]?=some c.toNat.toUInt8:=by
   rw[H8];show (w.map λn=>n.toNat.toUInt8)[k]?=_;rw[List.getElem?_map,g];rfl
  have G:=M2 KI;have H:wrap .i64 ((k:Int)+1)=((k+1:Nat):Int):=Bi
  refine⟨i2,z,A,?_⟩;rw[J4];simp only[Av,Au,Ai,f,D,E,G,y,H];exact C
theorem Ama{t:ByteArray}(ht:t.size<=1000000)(Bg:200<=u){w:Ak}(j:Ce w)(f:∀c∈w,c≠0)(g:w.length<=100){i e:Int}{s:RS}(h:JS t i e s):∃a b,JS t a b (jwd w s)/\Ac (CP p) prog u (d+3) 161 [.pbox (jC t i e),Bf (Ab w)]=some ⟨[],[jC t a b]⟩:=by obtain⟨a,b,k,l⟩:=Ab2 (u:=u) (d:=d) (p:=p) ht j f g (t0:=t) (i0:=i) (e0:=e) (w0:=Ab w) w 0 u i e s rfl Ω h;exact⟨a,b,k,(Xr (p:=p) u (d+2) t i e (Ab w)).trans l⟩
def jdr:RS->RS
 |.ok r=>.ok (Hp r)
 |s=>s
def jdg(s:RS):RS:=if Uy (Ek s)=true then jdr s else jfl 2 s
theorem Azc{s:RS}(h:Uy (Ek s)=true):jdr (Ev s)=jdr s/\SP (Ev s)+1=SP s:=by
 cases s with
 |ok r=>
  cases r with
  |nil=>cases h
  |cons c r=>
   have h:UJ c=true:=h;refine⟨?_,rfl⟩;show Except.ok (Hp r)=Except.ok (Hp (c::r));have:Hp (c::r)=if UJ c=true then Hp r else c::r:=rfl
   rw[this,Bq h]
 |error c=>cases h
theorem Aw1{s:RS}(h:Uy (Ek s)=false):jdr s=s:=by
 cases s with
 |ok r=>
  cases r with
  |nil=>rfl
  |cons c r=>exact congrArg Except.ok (by
    have:Hp (c::r)=if UJ c=true then Hp r else c::r:=rfl
    have h:UJ c=false:=h;rw[this,Bb (by rw[h];decide)])
 |error c=>rfl
theorem HS{t:ByteArray}(ht:t.size<=1000000){t0:ByteArray}{i0 e0:Int}:∀(n nn:Nat)(i e:Int)(s:RS),SP s=n->n+1<=nn->JS t i e s->∃b,JS t b e (jdr s)/\D3 u (Ac (CP p) prog u (d+1)) t0 i0 e0 nn t i e=some ⟨[],[jC t b e]⟩:=by
 intro n
 induction n using Nat.strongRecOn with
 |_ n j=>
  intro nn i e s r v h;obtain⟨k,rfl⟩:∃k,nn=k+1:=⟨nn-1,Ω⟩
  have f:=Gv (u:=u) (d:=d) (p:=p) h;have dg:Ac (CP p) prog u (d+1) 121 [.sc (.int .u8 (Ek s))]=_:=QO (u:=u) (d:=d) (p:=p) (c:=Ek s);rw[Qv];cases a:Uy (Ek s) with
  |true=>
   have l:Ek s≠0:=by intro m;rw[m] at a;cases a
   obtain⟨o,wr⟩:=h.adv ht l;obtain⟨s1,s2⟩:=Azc a;obtain⟨b,g,q⟩:=j (SP (Ev s)) Ω k (i+1) e (Ev s) rfl Ω o;rw[s1] at g;refine⟨b,g,?_⟩;rw[a] at dg;simp only[Av,Au,f,dg,wr];exact q
  |false=>
   rw[Aw1 a];refine⟨i,h,?_⟩;rw[a] at dg;simp only[Av,Au,f,dg]
theorem A8v(c:Int)(s:RS):jdr (jfl c s)=jfl c s:=by cases s<;>rfl
theorem A1r(c:Int)(s:RS):SP (jfl c s)=0:=by cases s<;>rfl
theorem Nu{t:ByteArray}(ht:t.size<=1000000)(Bg:t.size+1<=u){i e:Int}{s:RS}(h:JS t i e s):∃a g,JS t a g (jdg s)/\Ac (CP p) prog u (d+2) 178 [.pbox (jC t i e)]=some ⟨[],[jC t a g]⟩:=by
 have j:=Gv (u:=u) (d:=d) (p:=p) h;have dg:Ac (CP p) prog u (d+1) 121 [.sc (.int .u8 (Ek s))]=_:=QO (u:=u) (d:=d) (p:=p) (c:=Ek s);have k:=Tv (p:=p) u (d+1) t i e;unfold jdg;cases l:Uy (Ek s) with
 |true=>
  rw[l] at dg;obtain⟨a,b,f⟩:=HS (u:=u) (d:=d) (p:=p) ht (t0:=t) (i0:=i) (e0:=e) (SP s) u i e s rfl (by have:=h.len;omega) h
  rw[Bq rfl];refine⟨a,e,b,k.trans ?_⟩;simp only[Av,Au,j,dg,Es];exact f
 |false=>
  rw[l] at dg;have fl:=N6 (u:=u) (d:=d) (p:=p) t i e 2;have m:=h.fail (c:=2) Δ;obtain⟨a,b,f⟩:=HS (u:=u) (d:=d) (p:=p) ht (t0:=t) (i0:=i) (e0:=e) 0 u i _ _ (A1r 2 s) Ω m;rw[Bb Δ];rw[A8v] at b;refine⟨a,_,b,k.trans ?_⟩;simp only[Av,Au,j,dg,Gg,fl];exact f
end
theorem Aw6{x v:Int}(d:0<=x)(j:x<65536)(c:0<=v)(e:v<=15):Vg .i32 (x*16) v=x*16+v:=by
 obtain⟨a,rfl⟩:=Int.eq_ofNat_of_zero_le d;obtain⟨b,rfl⟩:=Int.eq_ofNat_of_zero_le c
 have f:(BitVec.ofInt 32 ((a:Int)*16)).toNat=a*16:=by
  have:((a:Int)*16)=((a*16:Nat):Int):=Ω
  rw[this,BitVec.ofInt_natCast,BitVec.toNat_ofNat];exact Nat.mod_eq_of_lt Ω
 have g:(BitVec.ofInt 32 (b:Int)).toNat=b:=by
  rw[BitVec.ofInt_natCast,BitVec.toNat_ofNat];exact Nat.mod_eq_of_lt Ω
 have h:a*16 ||| b=a*16+b:=by
  have:=Nat.two_pow_add_eq_or_of_lt (i:=4) (b:=b) Ω a;rw[show 2 ^ 4*a=a*16 by omega] at this;exact this.symm
 show IntKind.i32.wrap ((BitVec.ofInt 32 ((a:Int)*16) ||| BitVec.ofInt 32 (b:Int)).toNat:Int)=_;rw[BitVec.toNat_or,f,g,h,Ed Ω Ω];omega
def SM:Nat->Int->RS->Int × RS
 |0,n,s=>(n,s)
 |k+1,n,s=>match ST (Ek s) with
  |some v=>SM k (n*16+v) (Ev s)
  |none=>(0,jfl 2 s)
theorem Af5:∀(k:Nat)(n:Int)(r:Ak),SM k n (.ok r)=match Tm k n r with
  |(some x,r')=>(x,.ok r')
  |(none,_)=>(0,.error 2)
 |0,n,r=>rfl
 |k+1,n,[]=>rfl
 |k+1,n,c::r=>by
  have a:SM (k+1) n (.ok (c::r))=match ST c with
   |some v=>SM k (n*16+v) (.ok r)
   |none=>(0,.error 2):=rfl
  have b:Tm (k+1) n (c::r)=match ST c with
   |some v=>Tm k (n*16+v) r
   |none=>(none,c::r):=rfl
  rw[a,b];cases ST c with
  |some v=>exact Af5 k _ r
  |none=>rfl
theorem A0w(k:Nat)(n c:Int):SM (k+1) n (.error c)=(0,.error c):=rfl
section
variable {u d:Nat}{p:Option (Ae->Option A8)}
theorem AP{t:ByteArray}(ht:t.size<=1000000){t0:ByteArray}{i0 e0:Int}:∀(k nn:Nat)(x i e:Int)(s:RS),k<=4->k+1<=nn->0<=x->x<16 ^ (4-k)->JS t i e s ->
  0<=(SM k x s).1/\(SM k x s).1<65536/\∃b f,JS t b f (SM k x s).2/\Du u (Ac (CP p) prog u (d+1)) t0 i0 e0 nn x ((4-k:Nat):Int) t i e=some ⟨[.sc (.int .i32 (SM k x s).1)],[jC t b f]⟩
 |0,nn,x,i,e,s,_,R,n,H,h=>by
  obtain⟨m,rfl⟩:∃m,nn=m+1:=⟨nn-1,Ω⟩
  refine⟨n,H,i,e,h,?_⟩;rw[Kl];simp only[Av,Au,show decide (((4-0:Nat):Int)<4)=false from rfl];rfl
 |k+1,nn,x,i,e,s,X,R,n,H,h=>by
  obtain⟨m,rfl⟩:∃m,nn=m+1:=⟨nn-1,Ω⟩
  have j:=Gv (u:=u) (d:=d) (p:=p) h;have dg:Ac (CP p) prog u (d+1) 121 [.sc (.int .u8 (Ek s))]=_:=QO (u:=u) (d:=d) (p:=p) (c:=Ek s);have fl:=N6 (u:=u) (d:=d) (p:=p) t i e 2
  have Y:x<4096:=by
   have:k+1=1\/k+1=2\/k+1=3\/k+1=4:=Ω
   rcases this with e|e|e|e<;>rw[e] at H<;>simp at H<;>omega
  have Zt:∀v,0<=v->v<=15->x*16+v<16 ^ (4-k):=by
   intro v S T;have e:4-k=(4-(k+1))+1:=Ω
   rw[e,Int.pow_succ];omega
  have o:decide (((4-(k+1):Nat):Int)<4)=true:=by simp;omega
  have K:wrap .i64 (((4-(k+1):Nat):Int)+1)=((4-k:Nat):Int):=Bi
  have sh:=A30 n Ω;have O:SM (k+1) x s=match ST (Ek s) with|some v=>SM k (x*16+v) (Ev s)|none=>(0,jfl 2 s):=rfl
  have L:=h.hd;have adv:=λU=>h.adv ht U;have DO:=h.fail (c:=2) Δ;rw[O,Kl];generalize V:Ek s=c at j dg O L adv;rcases QG c with⟨I,J,r⟩|⟨I,J,r⟩|⟨I,J,r⟩|⟨I,J,r,W⟩
  ·rw[r];obtain⟨w,wr⟩:=adv Ω;have hd:Uy c=true:=by unfold Uy;rw[dT I,dT J];rfl
   rw[hd] at dg;have y:wrap .u8 (c-48)=c-48:=I8 Ω Ω;have z:wrap .i32 (c-48)=c-48:=Ed Ω Ω;have a:=Aw6 (x:=x) (v:=c-48) n Ω Ω Ω;obtain⟨A,C,b,f,D,E⟩:=AP ht (t0:=t0) (i0:=i0) (e0:=e0) k m (x*16+(c-48)) (i+1) e (Ev s) Ω Ω Ω (Zt _ Ω Ω) w;refine⟨A,C,b,f,D,?_⟩;simp only[Av,Au,o,j,dg,sh,y,z,a,wr,K];exact E
  ·rw[r];obtain⟨w,wr⟩:=adv Ω;have hd:Uy c=false:=by unfold Uy;rw[dF (q:=c<=57) Ω,Zzt]
   rw[hd] at dg;have g:=dT (q:=c>=97) Ω;have G:=dT (q:=c<=102) Ω;have y:wrap .u8 (c-97)=c-97:=I8 Ω Ω;have M:wrap .u8 (c-97+10)=c-87:=by rw[I8 Ω Ω];omega
   have z:wrap .i32 (c-87)=c-87:=Ed Ω Ω;have a:=Aw6 (x:=x) (v:=c-87) n Ω Ω Ω;obtain⟨A,C,b,f,D,E⟩:=AP ht (t0:=t0) (i0:=i0) (e0:=e0) k m (x*16+(c-87)) (i+1) e (Ev s) Ω Ω Ω (Zt _ Ω Ω) w;refine⟨A,C,b,f,D,?_⟩;simp only[Av,Au,o,j,dg,g,G,sh,y,z,M,a,wr,K];exact E
  ·rw[r];obtain⟨w,wr⟩:=adv Ω;have hd:Uy c=false:=by unfold Uy;rw[dF (q:=c<=57) Ω,Zzt]
   rw[hd] at dg;have g:=dF (q:=c>=97) Ω;have G:=dT (q:=c>=65) Ω;have l:=dT (q:=c<=70) Ω;have y:wrap .u8 (c-65)=c-65:=I8 Ω Ω;have M:wrap .u8 (c-65+10)=c-55:=by rw[I8 Ω Ω];omega
   have z:wrap .i32 (c-55)=c-55:=Ed Ω Ω;have a:=Aw6 (x:=x) (v:=c-55) n Ω Ω Ω;obtain⟨A,C,b,f,D,E⟩:=AP ht (t0:=t0) (i0:=i0) (e0:=e0) k m (x*16+(c-55)) (i+1) e (Ev s) Ω Ω Ω (Zt _ Ω Ω) w;refine⟨A,C,b,f,D,?_⟩;simp only[Av,Au,o,j,dg,g,G,l,sh,y,z,M,a,wr,K];exact E
  ·rw[W]
   have hd:Uy c=false:=by
    unfold Uy;by_cases q:48<=c
    ·rw[dF (q:=c<=57) Ω,Zzt]
    ·rw[dF q,NT]
   rw[hd] at dg;refine⟨Int.le_refl _,by show (0:Int)<65536;decide,i,_,DO,?_⟩
   by_cases P:97<=c
   ·have g:=dT (q:=c>=97) P;have G:=dF (q:=c<=102) Ω;have l:=dT (q:=c>=65) Ω;have N:=dF (q:=c<=70) Ω;simp only[Av,Au,o,j,dg,g,G,l,N,fl]
   ·have g:=dF (q:=c>=97) P;by_cases Q:65<=c
    ·have l:=dT (q:=c>=65) Q;have N:=dF (q:=c<=70) Ω;simp only[Av,Au,o,j,dg,g,l,N,fl]
    ·have l:=dF (q:=c>=65) Q;simp only[Av,Au,o,j,dg,g,l,fl]
theorem A4y{t:ByteArray}(ht:t.size<=1000000)(Bg:5<=u){i e:Int}{s:RS}(h:JS t i e s):0<=(SM 4 0 s).1/\(SM 4 0 s).1<65536/\∃a b,JS t a b (SM 4 0 s).2/\Ac (CP p) prog u (d+2) 177 [.pbox (jC t i e)]=some ⟨[.sc (.int .i32 (SM 4 0 s).1)],[jC t a b]⟩:=by obtain⟨c,f,a,b,g,j⟩:=AP (u:=u) (d:=d) (p:=p) ht (t0:=t) (i0:=i) (e0:=e) 4 u 0 i e s Ω Ω Ω Δ h;exact⟨c,f,a,b,g,(X9 (p:=p) u (d+1) t i e).trans j⟩
theorem Ro(x:Int):(runesBytes [x]).size<=4:=by
 have b:runesBytes [x]=Utf8.encode x:=by
  show ByteArray.empty++Utf8.encode x=_;exact ByteArray.empty_append
 rw[b];unfold Utf8.encode;simp only;generalize (if Utf8.valid x=true then x.toNat else Utf8.runeError)=c;by_cases c1:c<128
 ·rw[Bq c1];show (1:Nat)<=4
  decide
 rw[Bb c1];by_cases c2:c<2048
 ·rw[Bq c2];show (2:Nat)<=4
  decide
 rw[Bb c2];by_cases a:c<65536
 ·rw[Bq a];show (3:Nat)<=4
  decide
 ·rw[Bb a];show (4:Nat)<=4
  decide
def jes(r:Ak):RS:=match Ob r with
 |(some _,r')=>.ok r'
 |(none,_)=>.error 2
def EsQ(t:ByteArray)(r:Ak)(q:Option A8):Prop:=∃a b o,JS t a b (jes r)/\(∀x r',Ob r=(some x,r')->o=Ab (Lib.encodeRuneZ x))/\o.size<=4/\q=some ⟨[Bf o],[jC t a b]⟩
theorem A3a{s:RS}(h:(∃r,s=.ok r)\/s=.error 2):jfl 2 s=.error 2:=by rcases h with⟨r,rfl⟩|rfl<;>rfl
theorem Apu{c:Int}{s:RS}(h:(∃r,s=.ok r)\/s=.error 2):(∃r,Us c s=.ok r)\/Us c s=.error 2:=by
 rcases h with⟨r,rfl⟩|rfl
 ·unfold Us;split
  ·cases r with
   |nil=>exact .inl ⟨_,rfl⟩
   |cons a r=>exact .inl ⟨_,rfl⟩
  ·exact .inr rfl
 ·unfold Us;split<;>exact .inr rfl
theorem A21{s:RS}(h:(∃r,s=.ok r)\/s=.error 2):(∃r,(SM 4 0 s).2=.ok r)\/(SM 4 0 s).2=.error 2:=by
 rcases h with⟨r,rfl⟩|rfl
 ·rw[Af5];rcases Tm 4 0 r with⟨o,r'⟩;cases o with
  |some x=>exact .inl ⟨_,rfl⟩
  |none=>exact .inr rfl
 ·exact .inr rfl
set_option maxHeartbeats 4000000 in
theorem Aze{t:ByteArray}(ht:t.size<=1000000)(Bg:5<=u){r:Ak}(hr:Dw t r):EsQ t r (Ac (CP p) prog u (d+3) 159 [.pbox (jC t (Bm t r) 0)]):=by
 have h0:JS t (Bm t r) 0 (.ok r):=⟨rfl,hr,rfl⟩
 have g:=Gv (u:=u) (d:=d+1) (p:=p) h0;have i:=Uz (p:=p) u (d+2) t (Bm t r) 0;have hrg:=h0.rng;have wr:wrap .i64 ((Bm t r:Int)+1)=(Bm t r:Int)+1:=Bc;have fl:=N6 (u:=u) (d:=d+1) (p:=p) t ((Bm t r:Int)+1) 0 2;rw[Bq rfl] at fl;cases r with
 |nil=>
  have e1:jes []=.error 2:=rfl;unfold EsQ;rw[e1];refine⟨(Bm t []:Int)+1,2,⟨#[]⟩,⟨rfl,Δ,Ω,by rw[Qg];omega⟩,(λx r' h=>by cases h),Δ,i.trans ?_⟩
  have g:Ac (CP p) prog u (d+2) 143 [.pbox (jC t (Bm t []) 0)]=some ⟨[.sc (.int .u8 0)],[jC t (Bm t []) 0]⟩:=g;have z:∀k:Int,k≠0->((0:Int)==k)=false:=λk A=>by simp[Ne.symm A]
  simp only[Av,Au,g,wr,z 34 Δ,z 92 Δ,z 47 Δ,z 98 Δ,z 102 Δ,z 110 Δ,z 114 Δ,z 116 Δ,z 117 Δ,fl]
 |cons c r=>
  have g:Ac (CP p) prog u (d+2) 143 [.pbox (jC t (Bm t (c::r)) 0)]=some ⟨[.sc (.int .u8 c)],[jC t (Bm t (c::r)) 0]⟩:=g;have hs:=Jm hr;have hp:(Bm t (c::r):Int)+1=(Bm t r:Int):=Ω
  rw[hp] at fl;have wr:wrap .i64 ((Bm t (c::r):Int)+1)=(Bm t r:Int):=wr.trans hp;have C:JS t (Bm t r) 0 (.ok r):=⟨rfl,hr.tail,rfl⟩
  have f:Ob (c::r)=if c=117 then Um r else match AA c with|some x=>(some x,r)|none=>(none,c::r):=rfl
  by_cases hu:c=117
  rotate_left
  ·rw[Bb hu] at f
   have Agv:∀{x:Int} {o:ByteArray},AA c=some x->o=Ab (Lib.encodeRuneZ x)->o.size<=4->Ac (CP p) prog u (d+3) 159 [.pbox (jC t (Bm t (c::r)) 0)]=some ⟨[Bf o],[jC t (Bm t r) 0]⟩->EsQ t (c::r) (Ac (CP p) prog u (d+3) 159 [.pbox (jC t (Bm t (c::r)) 0)]):=by
    intro x o n ho hos hq;rw[n] at f;refine⟨Bm t r,0,o,?_,?_,hos,hq⟩
    ·unfold jes;rw[f];exact C
    ·intro D r' h;rw[f] at h;cases h;exact ho
   by_cases q1:c=34
   ·subst q1;refine Agv (x:=34) rfl rfl Δ (i.trans ?_);have z:((34:Int)==34)=true:=rfl;simp only[Av,Au,g,wr,z];rfl
   have v:(c==34)=false:=by simp[q1]
   by_cases q2:c=92
   ·subst q2;refine Agv (x:=92) rfl rfl Δ (i.trans ?_);have z:((92:Int)==92)=true:=rfl;simp only[Av,Au,g,wr,v,z];rfl
   have E:(c==92)=false:=by simp[q2]
   by_cases q3:c=47
   ·subst q3;refine Agv (x:=47) rfl rfl Δ (i.trans ?_);have z:((47:Int)==47)=true:=rfl;simp only[Av,Au,g,wr,v,E,z];rfl
   have S:(c==47)=false:=by simp[q3]
   by_cases q4:c=98
   ·subst q4;refine Agv (x:=8) rfl rfl Δ (i.trans ?_);have z:((98:Int)==98)=true:=rfl;simp only[Av,Au,g,wr,v,E,S,z];rfl
   have V:(c==98)=false:=by simp[q4]
   by_cases q5:c=102
   ·subst q5;refine Agv (x:=12) rfl rfl Δ (i.trans ?_);have z:((102:Int)==102)=true:=rfl;simp only[Av,Au,g,wr,v,E,S,V,z];rfl
   have z5:(c==102)=false:=by simp[q5]
   by_cases q6:c=110
   ·subst q6;refine Agv (x:=10) rfl rfl Δ (i.trans ?_);have z:((110:Int)==110)=true:=rfl;simp only[Av,Au,g,wr,v,E,S,V,z5,z];rfl
   have z6:(c==110)=false:=by simp[q6]
   by_cases q7:c=114
   ·subst q7;refine Agv (x:=13) rfl rfl Δ (i.trans ?_);have z:((114:Int)==114)=true:=rfl;simp only[Av,Au,g,wr,v,E,S,V,z5,z6,z];rfl
   have z7:(c==114)=false:=by simp[q7]
   by_cases q8:c=116
   ·subst q8;refine Agv (x:=9) rfl rfl Δ (i.trans ?_);have z:((116:Int)==116)=true:=rfl;simp only[Av,Au,g,wr,v,E,S,V,z5,z6,z7,z];rfl
   have z8:(c==116)=false:=by simp[q8]
   have z9:(c==117)=false:=by simp[hu]
   have hn:AA c=none:=by unfold AA;simp[q1,q2,q3,q4,q5,q6,q7,q8]
   rw[hn] at f;refine⟨Bm t r,2,⟨#[]⟩,?_,?_,Δ,i.trans ?_⟩
   ·unfold jes;rw[f];have:=C.rng;exact⟨rfl,Δ,this.1,this.2⟩
   ·intro D r' h;rw[f] at h;cases h
   ·simp only[Av,Au,g,wr,v,E,S,V,z5,z6,z7,z8,z9,fl]
  subst hu;rw[Bq rfl] at f;have G:((117:Int)==34)=false:=rfl;have H:((117:Int)==92)=false:=rfl;have I:((117:Int)==47)=false:=rfl;have J:((117:Int)==98)=false:=rfl;have K:((117:Int)==102)=false:=rfl;have L:((117:Int)==110)=false:=rfl;have M:((117:Int)==114)=false:=rfl;have N:((117:Int)==116)=false:=rfl;have O:((117:Int)==117)=true:=rfl;obtain⟨n0,n1,i2,T,P,n⟩:=A4y (u:=u) (d:=d) (p:=p) ht Bg C;have f2:=N6 (u:=u) (d:=d+1) (p:=p) t i2 T 2;have W:=P.fail (c:=2) Δ;have A:=Af5 4 0 r
  have hcd:Um r=match Tm 4 0 r with
   |(none,r)=>(none,r)
   |(some x,r)=>if Xq x=true then (none,r) else if x<55296\/56319<x then (some x,r) else if Ane r=true then Ac6 x (r.drop 2) else (none,r):=rfl
  rw[hcd] at f;rcases hq:Tm 4 0 r with⟨o,j⟩;rw[hq] at A f;cases o with
  |none=>
   simp only at A f;rw[A] at n0 n1 P n;refine⟨i2,T,runesBytes [0],?_,?_,Ro _,i.trans ?_⟩
   ·unfold jes;rw[f];exact P
   ·intro D r' h;rw[f] at h;cases h
   ·have s:decide ((0:Int)>=56320)=false:=rfl;have X:decide ((0:Int)>=55296)=false:=rfl;simp only[Av,Au,g,wr,G,H,I,J,K,L,M,N,O,n,s,X]
  |some x=>
   simp only at A f;rw[A] at n0 n1 P n W;by_cases Y:56320<=x
   ·have s:=dT (q:=x>=56320) Y;have w:=dT (q:=x>=55296) Ω;have U:=dF (q:=x<=56319) Ω;by_cases hA:x<=57343
    ·have X:=dT (q:=x<=57343) hA;have Z:Xq x=true:=by unfold Xq;rw[dT Y,dT hA];rfl
     rw[Bq Z] at f;refine⟨i2,(if T=0 then 2 else T),runesBytes [x],?_,?_,Ro _,i.trans ?_⟩
     ·unfold jes;rw[f];exact W
     ·intro D r' h;rw[f] at h;cases h
     ·simp only[Av,Au,g,wr,G,H,I,J,K,L,M,N,O,n,s,X,f2,w,U]
    ·have X:=dF (q:=x<=57343) hA;have Z:Xq x=false:=by unfold Xq;rw[dT Y,dF hA];rfl
     rw[Z,Bb Δ,Bq (.inr Ω)] at f;refine⟨i2,T,runesBytes [x],?_,?_,Ro _,i.trans ?_⟩
     ·unfold jes;rw[f];exact P
     ·intro D r' h;rw[f] at h;cases h;exact OT n0 Ω (.inr Ω)
     ·simp only[Av,Au,g,wr,G,H,I,J,K,L,M,N,O,n,s,X,w,U]
   have s:=dF (q:=x>=56320) Y;have Z:Xq x=false:=by unfold Xq;rw[dF Y];rfl
   rw[Z,Bb Δ] at f;by_cases hC:x<55296
   ·have w:=dF (q:=x>=55296) Ω;rw[Bq (.inl hC)] at f;refine⟨i2,T,runesBytes [x],?_,?_,Ro _,i.trans ?_⟩
    ·unfold jes;rw[f];exact P
    ·intro D r' h;rw[f] at h;cases h;exact OT n0 Ω (.inl Ω)
    ·simp only[Av,Au,g,wr,G,H,I,J,K,L,M,N,O,n,s,w]
   have w:=dT (q:=x>=55296) Ω;have U:=dT (q:=x<=56319) Ω;rw[Bb Ω] at f;obtain⟨i3,e3,j3,x3⟩:=Jl (u:=u) (d:=d) (p:=p) ht (c:=92) Δ P;obtain⟨i4,e4,j4,x4⟩:=Jl (u:=u) (d:=d) (p:=p) ht (c:=117) Δ j3;obtain⟨m0,m1,i5,e5,j5,x5⟩:=A4y (u:=u) (d:=d) (p:=p) ht Bg j4;have f5:=N6 (u:=u) (d:=d+1) (p:=p) t i5 e5 2;have j5f:=j5.fail (c:=2) Δ;have tw:=A21 (Apu (c:=117) (Apu (c:=92) (.inl ⟨j,rfl⟩)));rw[A3a tw] at j5f
   have Ay4:(Ob (117::r)=if 56320<=(SM 4 0 (Us 117 (Us 92 (.ok j)))).1/\(SM 4 0 (Us 117 (Us 92 (.ok j)))).1<=57343 then (some (65536+(x-55296)*1024+((SM 4 0 (Us 117 (Us 92 (.ok j)))).1-56320)),(match (SM 4 0 (Us 117 (Us 92 (.ok j)))).2 with | .ok r'=>r' | .error _=>[])) else (none,(Ob (117::r)).2))/\((56320<=(SM 4 0 (Us 117 (Us 92 (.ok j)))).1/\(SM 4 0 (Us 117 (Us 92 (.ok j)))).1<=57343)->∃r',(SM 4 0 (Us 117 (Us 92 (.ok j)))).2=.ok r'):=by
    by_cases m:Ane j=true
    ·obtain⟨l,rfl⟩:∃l,j=92::117::l:=by
      match j,m with
      |92::117::l,_=>exact⟨l,rfl⟩
     rw[Bq m] at f;have s4:Us 117 (Us 92 (.ok (92::117::l)))=.ok l:=rfl
     have Q:Ac6 x (List.drop 2 (92::117::l))=match Tm 4 0 l with
      |(some y,r)=>if Xq y=true then (some (65536+(x-55296)*1024+(y-56320)),r) else (none,r)
      |(none,r)=>(none,r):=rfl
     rw[Q] at f;rw[s4,Af5];rcases hq3:Tm 4 0 l with⟨o3,r4⟩;rw[hq3] at f;cases o3 with
     |none=>
      simp only at f ⊢;refine⟨?_,λh=>Ω⟩;rw[Bb Ω,f]
     |some y=>
      simp only at f ⊢;refine⟨?_,λ_=>⟨r4,rfl⟩⟩;by_cases hy:56320<=y/\y<=57343
      ·have R:Xq y=true:=by unfold Xq;rw[dT hy.1,dT hy.2];rfl
       rw[Bq hy,f,Bq R]
      ·have R:Xq y=false:=by
        unfold Xq;by_cases q:56320<=y
        ·rw[dF (q:=y<=57343) Ω,Zzt]
        ·rw[dF q,NT]
       rw[Bb hy,f,R,Bb Δ]
    ·rw[Bb m] at f
     have s4:Us 117 (Us 92 (.ok j))=.error 2:=by
      match j,m with
      |[],_=>rfl
      |[a],_=>
       unfold Us;by_cases ha:a=92
       ·subst ha;rfl
       ·have:Ek (.ok [a])=a:=rfl;rw[this,Bb ha];rfl
      |a::b::l,m=>
       by_cases ha:a=92
       ·subst ha;by_cases hb:b=117
        ·subst hb;exact absurd rfl m
        ·show Us 117 (.ok (b::l))=_;unfold Us;have:Ek (.ok (b::l))=b:=rfl;rw[this,Bb hb];rfl
       ·have e:Us 92 (.ok (a::b::l))=.error 2:=by
         unfold Us;have:Ek (.ok (a::b::l))=a:=rfl;rw[this,Bb ha];rfl
        rw[e];rfl
     rw[s4,A0w];simp only;refine⟨?_,λh=>Ω⟩;rw[Bb Ω,f]
   generalize SM 4 0 (Us 117 (Us 92 (.ok j)))=ys at m0 m1 j5 x5 Ay4 tw;obtain⟨y,s5⟩:=ys;simp only at m0 m1 j5 x5 Ay4 tw;obtain⟨Dz,Q⟩:=Ay4;by_cases hY:56320<=y/\y<=57343
   ·obtain⟨r5,rfl⟩:=Q hY;rw[Bq hY] at Dz;simp only at Dz;have c1:=dF (q:=y<56320) Ω;have c2:=dF (q:=y>57343) Ω;have w1:wrap .i32 (x-55296)=x-55296:=Ed Ω Ω;have w2:=Ayp (x:=x-55296) Ω Ω;have w3:wrap .i32 (65536+(x-55296)*1024)=65536+(x-55296)*1024:=Ed Ω Ω;have w4:wrap .i32 (y-56320)=y-56320:=Ed Ω Ω;have w5:wrap .i32 (65536+(x-55296)*1024+(y-56320))=65536+(x-55296)*1024+(y-56320):=Ed Ω Ω;refine⟨i5,e5,runesBytes [65536+(x-55296)*1024+(y-56320)],?_,?_,Ro _,i.trans ?_⟩
    ·unfold jes;rw[Dz];exact j5
    ·intro D r' h;rw[Dz] at h;cases h;exact OT Ω Ω (.inr Ω)
    ·simp only[Av,Au,g,wr,G,H,I,J,K,L,M,N,O,n,s,w,U,x3,x4,x5,c1,c2,w1,w2,w3,w4,w5]
   ·rw[Bb hY] at Dz;refine⟨i5,(if e5=0 then 2 else e5),⟨#[]⟩,?_,?_,Δ,i.trans ?_⟩
    ·unfold jes;rw[Dz];exact j5f
    ·intro D r' h;rw[Dz] at h;cases h
    ·by_cases hz:y<56320
     ·have c1:=dT hz;simp only[Av,Au,g,wr,G,H,I,J,K,L,M,N,O,n,s,w,U,x3,x4,x5,c1,f5]
     ·have c1:=dF hz;have c2:=dT (q:=y>57343) Ω;simp only[Av,Au,g,wr,G,H,I,J,K,L,M,N,O,n,s,w,U,x3,x4,x5,c1,c2,f5]
end
def jtP(q:PR Ak):Ak × RS:=match q with
 |(some s,r)=>(s,.ok r)
 |(none,_)=>([],.error 2)
def ZX:RS->Ak × RS
 |.ok l=>jtP (Dp l)
 |.error c=>([],.error c)
section
variable {u d:Nat}{p:Option (Ae->Option A8)}
theorem Aa0{t:ByteArray}{t0 y0:ByteArray}{i0 e0 i e:Int}(a:e≠0)(nn:Nat):Dq u (Ac (CP p) prog u (d+3)) t0 i0 e0 (nn+1) y0 t i e=some ⟨[Bf (Ab [])],[jC t i e]⟩:=by
 have z:(e==0)=false:=by simp[a]
 rw[G1];simp only[Av,Au,z];rfl
theorem EZ{t:ByteArray}(ht:t.size<=1000000)(Bg:5<=u){t0:ByteArray}{i0 e0:Int}:∀(n nn:Nat)(f r:Ak),r.length<n->n<=nn->Dw t r->f.length+4*r.length<=4*t.size ->
    ∃w y,JS t w y (jtP (Jh n f r)).2/\Dq u (Ac (CP p) prog u (d+3)) t0 i0 e0 nn (Ab f) t (Bm t r) 0=some ⟨[Bf (Ab (jtP (Jh n f r)).1)],[jC t w y]⟩
  |0,nn,f,r,h,_,_,_=>Ω
  |n+1,nn,f,[],h,V,g,S=>by
    obtain⟨m,rfl⟩:∃m,nn=m+1:=⟨nn-1,Ω⟩
    have K:JS t (Bm t []) 0 (.ok []):=⟨rfl,g,rfl⟩
    have A:=K.fail (c:=2) Δ
    rw[Bq rfl] at A
    have fl:=N6 (u:=u) (d:=d+2) (p:=p) t (Bm t []) 0 2
    rw[Bq rfl] at fl
    have z:((0:Int)==0)=true:=rfl
    have a:decide ((Bm t []:Int)>=(t.size:Int))=true:=dT (by rw[Qg];omega)
    refine⟨Bm t [],2,A,?_⟩
    rw[G1]
    simp only[Av,Au,z,a,fl]
    rfl
  |n+1,nn,f,c::r,h,V,g,S=>by
    obtain⟨m,rfl⟩:∃m,nn=m+1:=⟨nn-1,Ω⟩
    have W:r.length+1<n+1:=by simpa using h
    have X:f.length+4*(r.length+1)<=4*t.size:=by simpa using S
    have Y:=g.len
    have hp:Bm t (c::r)<t.size:=by
      unfold Bm
      rw[Ox] at Y ⊢
      omega
    have K:JS t (Bm t (c::r)) 0 (.ok (c::r)):=⟨rfl,g,rfl⟩
    have A:=K.fail (c:=2) Δ
    rw[Bq rfl] at A
    have fl:=N6 (u:=u) (d:=d+2) (p:=p) t (Bm t (c::r)) 0 2
    rw[Bq rfl] at fl
    have hs:=Jm g
    have wr:wrap .i64 ((Bm t (c::r):Int)+1)=(Bm t r:Int):=Bi
    have L:JS t (Bm t r) 0 (.ok r):=⟨rfl,g.tail,rfl⟩
    have z:((0:Int)==0)=true:=rfl
    have KI:=g.B c Ψ
    obtain⟨b,s,j⟩:=g.at
    rw[<-H8 (Bm t (c::r))] at s
    have a:decide ((Bm t (c::r):Int)>=(t.size:Int))=false:=dF Ω
    have C:decide ((0:Int)<=(Bm t (c::r):Int))=true:=Ψ
    have M:Jh (n+1) f (c::r)=if c<32 then (none,c::r) else if c=34 then (some f,r) else if c=92 then
      (match Ob r with
       |(some x,r')=>Jh n (f++Lib.encodeRuneZ x) r'
       |(none,r')=>(none,r')) else Jh n (f++[c]) r:=rfl
    rw[M,G1]
    by_cases I:c<32
    · rw[Bq I]
      have v:=dT I
      refine⟨Bm t (c::r),2,A,?_⟩
      simp only[Av,Au,z,a,C,s,j,v,fl]
      rfl
    have v:=dF I
    rw[Bb I]
    by_cases N:c=34
    · subst N
      have D:((34:Int)==34)=true:=rfl
      rw[Bq rfl]
      refine⟨Bm t r,0,L,?_⟩
      simp only[Av,Au,z,a,C,s,j,v,wr,D]
      rfl
    have D:(c==34)=false:=by simp[N]
    rw[Bb N]
    by_cases O:c=92
    · subst O
      have J:((92:Int)==92)=true:=rfl
      rw[Bq rfl]
      obtain⟨w,y,o,E,Z,j3,T⟩:=Aze (u:=u) (d:=d) (p:=p) ht Bg g.tail
      have G:=Ai8 (l:=r) g.tail.B
      have CH:=Yd g.tail
      have c1:decide ((Ab f).size+o.size<=9223372036854775807)=true:=dT (by rw[Ai];omega)
      unfold jes at E
      rcases U:Ob r with⟨q,r'⟩
      rw[U] at E G CH
      simp only at G CH
      cases q with
      |none=>
        have P:=E
        obtain⟨e1,H,_,_⟩:=P
        obtain⟨k,rfl⟩:∃k,m=k+1:=⟨m-1,Ω⟩
        have st:=Aa0 (u:=u) (d:=d) (p:=p) (t:=t) (t0:=t0) (y0:=Ab f++o) (i0:=i0) (e0:=e0) (i:=w) (e:=y) (by rw[e1];exact H) k
        refine⟨w,y,E,?_⟩
        simp only[Av,Au,z,a,C,s,j,v,wr,D,J,T,c1]
        exact st
      |some x=>
        obtain rfl:=Z x r' U
        obtain⟨rfl,_,rfl⟩:=E
        have hx4:=(Lib.encodeRuneZ_length x).2
        obtain⟨i2,H,Q,R⟩:=EZ ht Bg (t0:=t0) (i0:=i0) (e0:=e0) n m (f++Lib.encodeRuneZ x) r' Ω Ω CH (by rw[Vl];omega)
        refine⟨i2,H,Q,?_⟩
        simp only[Av,Au,z,a,C,s,j,v,wr,D,J,T,c1,Kg]
        exact R
    · have J:(c==92)=false:=by simp[O]
      rw[Bb O]
      have Vm:ByteArray.mk (List.toArray [Nat.toUInt8 (Int.toNat c)])=Ab [c]:=rfl
      have c1:decide (f.length+[c].length<=9223372036854775807)=true:=dT (by simp;omega)
      obtain⟨i2,H,Q,R⟩:=EZ ht Bg (t0:=t0) (i0:=i0) (e0:=e0) n m (f++[c]) r Ω Ω g.tail (by simp;omega)
      refine⟨i2,H,Q,?_⟩
      simp only[Av,Au,z,a,C,s,j,v,wr,D,J,Vm,Ai,c1,Kg]
      exact R
theorem Am1{t:ByteArray}(ht:t.size<=1000000)(Bg:5<=u)(x:t.size+2<=u){i e:Int}{s:RS}(h:JS t i e s):∃b g,JS t b g (ZX s).2/\Ac (CP p) prog u (d+4) 144 [.pbox (jC t i e)]=some ⟨[Bf (Ab (ZX s).1)],[jC t b g]⟩:=by
 have o:=X4 (p:=p) u (d+3) t i e;obtain⟨i1,q,j,v⟩:=Jl (u:=u) (d:=d+1) (p:=p) ht (c:=34) Δ h;obtain⟨f,y⟩:∃f,u=f+1:=⟨u-1,Ω⟩
 have stop:∀c,Us 34 s=.error c->ZX s=([],.error c)->∃b g,JS t b g (ZX s).2/\Ac (CP p) prog u (d+4) 144 [.pbox (jC t i e)]=some ⟨[Bf (Ab (ZX s).1)],[jC t b g]⟩:=by
  intro c z A;rw[z] at j;have k:=j;obtain⟨C,D,_,_⟩:=k;have st:=Aa0 (u:=u) (d:=d) (p:=p) (t:=t) (t0:=t) (y0:=Ab []) (i0:=i) (e0:=e) (i:=i1) (e:=q) (by rw[C];exact D) f
  rw[<-y] at st;rw[A];refine⟨i1,q,j,o.trans ?_⟩;simp only[Av,Au,v];exact st
 cases s with
 |error c=>exact stop c (by unfold Us;split<;>rfl) rfl
 |ok l=>
  cases l with
  |nil=>exact stop 2 rfl rfl
  |cons a r=>
   by_cases m:a=34
   ·subst m;have n:Us 34 (.ok (34::r))=.ok r:=rfl;rw[n] at j;obtain⟨rfl,w,rfl⟩:=j;have J:=w.len;have E:Dp (34::r)=Jh (r.length+1) [] r:=rfl;obtain⟨i2,n,G,H⟩:=EZ (u:=u) (d:=d) (p:=p) ht Bg (t0:=t) (i0:=i) (e0:=e) (r.length+1) u [] r Ω Ω w (by simp;omega)
    have I:ZX (.ok (34::r))=jtP (Jh (r.length+1) [] r):=by
     show jtP (Dp (34::r))=_;rw[E]
    rw[I];refine⟨i2,n,G,o.trans ?_⟩;simp only[Av,Au,v];exact H
   ·exact stop 2 (by
     unfold Us;have:Ek (.ok (a::r))=a:=rfl;rw[this,Bb m];rfl) (by
     have:Dp (a::r)=if a=34 then Jh (r.length+1) [] r else (none,a::r):=rfl
     show jtP (Dp (a::r))=_;rw[this,Bb m];rfl)
end
def Aub(s:RS):RS:=if Ek s=45 then Ev s else s
def Alx(s:RS):RS:=if Ek s=48 then Ev s else jdg s
def SH(s:RS):RS:=if Ek s=46 then jdg (Ev s) else s
def jpm(s:RS):RS:=if Ek s=43\/Ek s=45 then Ev s else s
def Q4(s:RS):RS:=if Ek s=101\/Ek s=69 then jdg (jpm (Ev s)) else s
def A1f(s:RS):RS:=Q4 (SH (Alx (Aub s)))
section
variable {u d:Nat}{p:Option (Ae->Option A8)}
theorem HZ{a b:Int}(h:a=b)(c:b≠0):a≠0:=by rw[h];exact c
theorem Bc7{t:ByteArray}(ht:t.size<=1000000)(Bg:t.size+1<=u){i e a b:Int}{t0:ByteArray}{s:RS}(h:JS t i e s):∃i' e',JS t i' e' (Q4 s)/\E1 u (Ac (CP p) prog u (d+2)) t0 a b u t i e=some ⟨[],[jC t i' e']⟩:=by
 have c:=Qq u (Ac (CP p) prog u (d+2)) t0 a b u Ω t i e;have v:Ac (CP p) prog u (d+2) 143 [.pbox (jC t (i) (e))]=_:=Gv (u:=u) (d:=d+1) (p:=p) h;by_cases c2:Ek (s)=101
 ·rw[show Q4 (s)=jdg (jpm (Ev (s))) from Bq (.inl c2)];have z3:(Ek (s)==(101:Int))=true:=by simp[c2]
  obtain⟨r,w5⟩:=h.adv ht (HZ c2 Δ);simp only[Av,Au,v,z3,w5] at c;have w:Ac (CP p) prog u (d+2) 143 [.pbox (jC t (i+1) (e))]=_:=Gv (u:=u) (d:=d+1) (p:=p) r;by_cases c7:Ek (Ev (s))=43
  ·rw[show jpm (Ev (s))=Ev (Ev (s)) from Bq (.inl c7)];have z8:(Ek (Ev (s))==(43:Int))=true:=by simp[c7]
   obtain⟨h9,x⟩:=r.adv ht (HZ c7 Δ);obtain⟨i11,e12,y,z⟩:=Nu (u:=u) (d:=d) (p:=p) ht Bg h9;simp only[Av,Au,w,z8,x,z] at c;exact⟨_,_,y,c⟩
  have n:(Ek (Ev (s))==(43:Int))=false:=by simp[c7]
  by_cases f:Ek (Ev (s))=45
  ·rw[show jpm (Ev (s))=Ev (Ev (s)) from Bq (.inr f)];have A:(Ek (Ev (s))==(45:Int))=true:=by simp[f]
   obtain⟨C,D⟩:=r.adv ht (HZ f Δ);obtain⟨i20,e21,E,G⟩:=Nu (u:=u) (d:=d) (p:=p) ht Bg C;simp only[Av,Au,w,n,A,D,G] at c;exact⟨_,_,E,c⟩
  ·rw[show jpm (Ev (s))=Ev (s) from Bb (λh=>h.elim c7 f)];have H:(Ek (Ev (s))==(45:Int))=false:=by simp[f]
   obtain⟨i25,e26,I,J⟩:=Nu (u:=u) (d:=d) (p:=p) ht Bg r;simp only[Av,Au,w,n,H,J] at c;exact⟨_,_,I,c⟩
 have o:(Ek (s)==(101:Int))=false:=by simp[c2]
 by_cases g:Ek (s)=69
 ·rw[show Q4 (s)=jdg (jpm (Ev (s))) from Bq (.inr g)];have K:(Ek (s)==(69:Int))=true:=by simp[g]
  obtain⟨l,L⟩:=h.adv ht (HZ g Δ);simp only[Av,Au,v,o,K,L] at c;have m:Ac (CP p) prog u (d+2) 143 [.pbox (jC t (i+1) (e))]=_:=Gv (u:=u) (d:=d+1) (p:=p) l;by_cases j:Ek (Ev (s))=43
  ·rw[show jpm (Ev (s))=Ev (Ev (s)) from Bq (.inl j)];have M:(Ek (Ev (s))==(43:Int))=true:=by simp[j]
   obtain⟨N,O⟩:=l.adv ht (HZ j Δ);obtain⟨i39,e40,P,Q⟩:=Nu (u:=u) (d:=d) (p:=p) ht Bg N;simp only[Av,Au,m,M,O,Q] at c;exact⟨_,_,P,c⟩
  have q:(Ek (Ev (s))==(43:Int))=false:=by simp[j]
  by_cases k:Ek (Ev (s))=45
  ·rw[show jpm (Ev (s))=Ev (Ev (s)) from Bq (.inr k)];have R:(Ek (Ev (s))==(45:Int))=true:=by simp[k]
   obtain⟨S,T⟩:=l.adv ht (HZ k Δ);obtain⟨i48,e49,U,V⟩:=Nu (u:=u) (d:=d) (p:=p) ht Bg S;simp only[Av,Au,m,q,R,T,V] at c;exact⟨_,_,U,c⟩
  ·rw[show jpm (Ev (s))=Ev (s) from Bb (λh=>h.elim j k)];have W:(Ek (Ev (s))==(45:Int))=false:=by simp[k]
   obtain⟨i53,e54,X,Y⟩:=Nu (u:=u) (d:=d) (p:=p) ht Bg l;simp only[Av,Au,m,q,W,Y] at c;exact⟨_,_,X,c⟩
 ·rw[show Q4 (s)=s from Bb (λh=>h.elim c2 g)];have Z:(Ek (s)==(69:Int))=false:=by simp[g]
  simp only[Av,Au,v,o,Z] at c;exact⟨_,_,h,c⟩
theorem A0t{t:ByteArray}(ht:t.size<=1000000)(Bg:t.size+1<=u){i e a b:Int}{t0:ByteArray}{s:RS}(h:JS t i e s):∃g j,JS t g j (Q4 (SH s))/\Dc u (Ac (CP p) prog u (d+2)) t0 a b u t i e=some ⟨[],[jC t g j]⟩:=by
 have c:=Qs u (Ac (CP p) prog u (d+2)) t0 a b u Ω t i e;have k:Ac (CP p) prog u (d+2) 143 [.pbox (jC t (i) (e))]=_:=Gv (u:=u) (d:=d+1) (p:=p) h;by_cases c2:Ek (s)=46
 ·rw[show SH (s)=jdg (Ev (s)) from Bq c2];have l:(Ek (s)==(46:Int))=true:=by simp[c2]
  obtain⟨m,n⟩:=h.adv ht (HZ c2 Δ);obtain⟨i6,r,o,q⟩:=Nu (u:=u) (d:=d) (p:=p) ht Bg m;simp only[Av,Au,k,l,n,q] at c;rw[c];exact Bc7 ht Bg o
 ·rw[show SH (s)=s from Bb c2];have f:(Ek (s)==(46:Int))=false:=by simp[c2]
  simp only[Av,Au,k,f] at c;rw[c];exact Bc7 ht Bg h
theorem Ayk{t:ByteArray}(ht:t.size<=1000000)(Bg:t.size+1<=u){i e:Int}{s:RS}(h:JS t i e s):∃x y,JS t x y (A1f s)/\Ac (CP p) prog u (d+3) 162 [.pbox (jC t i e)]=some ⟨[],[jC t x y]⟩:=by
 have b:Ac (CP p) prog u (d+3) 162 [.pbox (jC t i e)]=_:=U9 (p:=p) u (d+2) t i e;unfold A1f;have z:Ac (CP p) prog u (d+2) 143 [.pbox (jC t (i) (e))]=_:=Gv (u:=u) (d:=d+1) (p:=p) h;by_cases c2:Ek (s)=45
 ·rw[show Aub (s)=Ev (s) from Bq c2];have C:(Ek (s)==(45:Int))=true:=by simp[c2]
  obtain⟨f,D⟩:=h.adv ht (HZ c2 Δ);simp only[Av,Au,z,C,D] at b;have A:Ac (CP p) prog u (d+2) 143 [.pbox (jC t (i+1) (e))]=_:=Gv (u:=u) (d:=d+1) (p:=p) f;by_cases c7:Ek (Ev (s))=48
  ·rw[show Alx (Ev (s))=Ev (Ev (s)) from Bq c7];have E:(Ek (Ev (s))==(48:Int))=true:=by simp[c7]
   obtain⟨G,g⟩:=f.adv ht (HZ c7 Δ);simp only[Av,Au,A,E,g] at b;rw[b];exact A0t ht Bg G
  ·rw[show Alx (Ev (s))=jdg (Ev (s)) from Bb c7];have j:(Ek (Ev (s))==(48:Int))=false:=by simp[c7]
   obtain⟨H,I,k,l⟩:=Nu (u:=u) (d:=d) (p:=p) ht Bg f;simp only[Av,Au,A,j,l] at b;rw[b];exact A0t ht Bg k
 ·rw[show Aub (s)=s from Bb c2];have m:(Ek (s)==(45:Int))=false:=by simp[c2]
  simp only[Av,Au,z,m] at b;have c:Ac (CP p) prog u (d+2) 143 [.pbox (jC t (i) (e))]=_:=Gv (u:=u) (d:=d+1) (p:=p) h;by_cases a:Ek (s)=48
  ·rw[show Alx (s)=Ev (s) from Bq a];have n:(Ek (s)==(48:Int))=true:=by simp[a]
   obtain⟨o,q⟩:=h.adv ht (HZ a Δ);simp only[Av,Au,c,n,q] at b;rw[b];exact A0t ht Bg o
  ·rw[show Alx (s)=jdg (s) from Bb a];have r:(Ek (s)==(48:Int))=false:=by simp[a]
   obtain⟨J,K,v,w⟩:=Nu (u:=u) (d:=d) (p:=p) ht Bg h;simp only[Av,Au,c,r,w] at b;rw[b];exact A0t ht Bg v
end
def ro:Option Ak->RS
 |some r=>.ok r
 |none=>.error 2
def CQ{α:Type}:JR (α × Ak)->RS
 |.ok (_,r)=>.ok r
 |.error c=>.error c
theorem Aez{α:Type}{c:Int}(b:c≠0)(l:Ak)(A:RS->α)(B:α):(if Ek (.ok l)=c then A (Ev (.ok l)) else B)=(match Ar [c] l with|some r=>A (.ok r)|none=>B):=by
 cases l with
 |nil=>
  have:Ek (.ok [])=0:=rfl;rw[this,Bb (Ne.symm b),C4]
 |cons a r=>
  have:Ek (.ok (a::r))=a:=rfl;rw[this,C4];simp only;by_cases h:a=c
  ·rw[Bq h,Bq h];rfl
  ·rw[Bb h,Bb h]
theorem EA{c:Int}(a:c≠0)(l:Ak):Us c (.ok l)=ro (Ar [c] l):=by have:=Aez a l (λs=>s) (jfl 2 (.ok l));unfold Us;rw[this];cases Ar [c] l<;>rfl
theorem V7{c:Int}(a:c≠0)(k:Int):Us c (.error k)=.error k:=by unfold Us;have:Ek (.error k:RS)=0:=rfl;rw[this,Bb (Ne.symm a)];rfl
theorem YC(l:Ak):jdg (.ok l)=ro (C7 l):=by
 cases l with
 |nil=>rfl
 |cons a r=>
  unfold jdg;have b:Uy (Ek (.ok (a::r)))=UJ a:=rfl;have c:C7 (a::r)=if UJ a=true then some (Hp r) else none:=rfl
  have d:jdr (.ok (a::r))=.ok (Hp (a::r)):=rfl;have e:Hp (a::r)=if UJ a=true then Hp r else a::r:=rfl
  rw[b,c,d,e];by_cases h:UJ a=true
  ·rw[Bq h,Bq h,Bq h];rfl
  ·rw[Bb h,Bb h];rfl
theorem Ayd(r:Ak):jdg (jpm (.ok r))=ro (Ru r):=by
 unfold Ru;cases r with
 |nil=>rfl
 |cons a r=>
  unfold jpm;have c:Ek (.ok (a::r))=a:=rfl;rw[c,C4,C4];simp only;by_cases h:a=43
  ·rw[Bq (.inl h),Bq h];exact YC r
  ·by_cases b:a=45
   ·rw[Bq (.inr b),Bb h,Bq b];exact YC r
   ·rw[Bb (λq=>q.elim h b),Bb h,Bb b];exact YC (a::r)
theorem Aje(l:Ak):Q4 (.ok l)=ro (FB l):=by
 rw[Ts];cases l with
 |nil=>rfl
 |cons a r=>
  unfold Q4;have c:Ek (.ok (a::r))=a:=rfl;rw[c,C4,C4];simp only;by_cases h:a=101
  ·rw[Bq (.inl h),Bq h];exact Ayd r
  ·by_cases b:a=69
   ·rw[Bq (.inr b),Bb h,Bq b];exact Ayd r
   ·rw[Bb (λq=>q.elim h b),Bb h,Bb b];rfl
theorem Axz(o:Option Ak):Q4 (ro o)=ro (o.bind FB):=by
 cases o with
 |none=>rfl
 |some r=>exact Aje r
theorem Axl(l:Ak):Q4 (SH (.ok l))=ro (HN l):=by
 have:=Aez (c:=46) Δ l (λs=>Q4 (jdg s)) (Q4 (.ok l))
 have e:Q4 (SH (.ok l))=if Ek (.ok l)=46 then Q4 (jdg (Ev (.ok l))) else Q4 (.ok l):=by
  unfold SH;split<;>rfl
 rw[e,this,AL];cases Ar [46] l with
 |some r=>
  show Q4 (jdg (.ok r))=_;rw[YC,Axz]
 |none=>exact Aje l
theorem Auh(o:Option Ak):Q4 (SH (ro o))=ro (o.bind HN):=by
 cases o with
 |none=>rfl
 |some r=>exact Axl r
theorem A20(l:Ak):Alx (.ok l)=ro (Ato l):=by
 have:=Aez (c:=48) Δ l (λs=>s) (jdg (.ok l));unfold Alx;rw[this,GC];cases Ar [48] l with
 |some r=>rfl
 |none=>exact YC l
theorem A0f(l:Ak):A1f (.ok l)=ro (G0 l):=by
 have e:Aub (.ok l)=.ok (Ahx 45 l):=by
  have:=Aez (c:=45) Δ l (λs=>s) (.ok l:RS);unfold Aub;rw[this,Yg];cases Ar [45] l<;>rfl
 unfold A1f;rw[e,A20,Auh];rfl
theorem Aga(k:Int):∀(w:Ak),(∀c∈w,c≠0)->jwd w (.error k)=.error k
 |[],_=>rfl
 |c::w,h=>by
  show jwd w (Us c (.error k))=_;rw[V7 (h c Ψ),Aga k w (λx a=>h x (by simp[a]))]
theorem Aer:∀(w l:Ak),(∀c∈w,c≠0)->jwd w (.ok l)=ro (Ar w l)
 |[],l,_=>rfl
 |c::w,l,h=>by
  show jwd w (Us c (.ok l))=_;rw[EA (h c Ψ),C4];cases l with
  |nil=>
   show jwd w (.error 2)=_;rw[Aga 2 w (λx b=>h x (by simp[b]))];rfl
  |cons a l=>
   simp only;by_cases d:a=c
   ·subst d;rw[Bq rfl];show jwd w (.ok l)=_;rw[Aer w l (λx b=>h x (by simp[b]))];unfold Ar;simp
   ·rw[Bb d];show jwd w (.error 2)=_;rw[Aga 2 w (λx b=>h x (by simp[b]))];unfold Ar;have e:c≠a:=Ne.symm d;simp[e];rfl
theorem At5(l:Ak):(ZX (.ok l)).2=(match Dp l with|(some _,r)=>.ok r|(none,_)=>.error 2):=by have e:ZX (.ok l)=jtP (Dp l):=rfl;rw[e];rcases Dp l with⟨o,r⟩;cases o<;>rfl
def kdR(v:JV):Int:=if v.1=4 then 1 else if v.1=2 then (if v.2.2=true then 2 else 3) else 0
def txR(v:JV):Ak:=if v.1=4 then v.2.1 else []
def jv(V:Ak->JR (JV × Ak)):RS->RS
 |.ok l=>CQ (V l)
 |.error c=>.error c
def Ani(t:ByteArray)(V:Ak->JR (JV × Ak))(s:RS)(q:Option A8):Prop:=
 ∃i e a b,JS t i e (jv V s)/\(∀l v r,s=.ok l->V l=.ok (v,r)->a=kdR v/\b=Ab (txR v))/\q=some ⟨[A0 a,Bf b],[jC t i e]⟩
section
variable {u d:Nat}{p:Option (Ae->Option A8)}
theorem Apd(c:Int):NS (.error c)=.error c:=rfl
set_option maxHeartbeats 2000000 in
theorem Anq{t:ByteArray}(ht:t.size<=1000000)(Bg:t.size+5<=u){D:Int}(Q:0<=D)(R:D<=100)(V:Ak->JR (JV × Ak))(HV:∀i e s,JS t i e s->Ani t V s (Ac (CP p) prog u (d+4) 146 [.pbox (jC t i e),A0 (D+1)]))(HL:∀l v r,Ce l->l.length<=1000000->V l=.ok (v,r)->r.length<=l.length){t0:ByteArray}{i0 e0 D0:Int}{b0:Bool}:∀(n nn:Nat) (l0:Ak),(Ax l0).length<n->n+1<=nn->Dw t l0 ->
   ∃w x,JS t w x (YO V n (Ax l0))/\B8 u (Ac (CP p) prog u (d+4)) t0 i0 e0 b0 D0 nn false D 93 t (Bm t l0) 0=some ⟨[],[jC t w x]⟩:=by
 intro n
 induction n with
 |zero=>intro nn l0 h;omega
 |succ n S=>
  intro nn l0 Ef F7 I;obtain⟨m,rfl⟩:∃m,nn=m+1:=⟨nn-1,Ω⟩
  have T:JS t (Bm t l0) 0 (.ok l0):=⟨rfl,I,rfl⟩
  obtain⟨i1,U,J⟩:=Hs (u:=u) (d:=d+2) (p:=p) ht Ω T;obtain⟨i2,K,kd,tx,z,_,L⟩:=HV i1 0 _ U;obtain⟨i3,j,M⟩:=Hs (u:=u) (d:=d+2) (p:=p) ht Ω z;have k:=Gv (u:=u) (d:=d+3) (p:=p) j;have N:((0:Int)==0)=true:=rfl;have wD:wrap .i64 (D+1)=D+1:=Bc;rw[Ain,D2]
  have Sw:Ek (NS (jv V (NS (.ok l0))))≠44->∀X:RS,Us 93 (NS (jv V (NS (.ok l0))))=X->∃w x,JS t w x X/\(B8 u (Ac (CP p) prog u (d+4)) t0 i0 e0 b0 D0 (m+1) false D 93 t (Bm t l0) 0)=some ⟨[],[jC t w x]⟩:=by
   intro A X W;obtain⟨i4,Y,O,Z⟩:=Jl (u:=u) (d:=d+2) (p:=p) ht (c:=93) Δ j;rw[W] at O;refine⟨i4,Y,O,?_⟩;have C:(Ek (NS (jv V (NS (.ok l0)))) != 44)=true:=by simp[A]
   rw[D2];simp only[Av,Au,N,J,wD,L,M,k,C,Z]
  rw[D2] at Sw;have hl:NS (.ok l0)=.ok (Ax l0):=rfl;rw[hl] at Sw z j k;have y:=B4 I;cases E:V (Ax l0) with
  |error c=>
   have G:jv V (.ok (Ax l0))=.error c:=by show CQ (V (Ax l0))=_;rw[E];rfl
   rw[G] at Sw;exact Sw (by show (0:Int)≠44;decide) _ (V7 Δ c)
  |ok q=>
   obtain⟨v,r⟩:=q;have G:jv V (.ok (Ax l0))=.ok r:=by show CQ (V (Ax l0))=_;rw[E];rfl
   rw[G] at Sw z j k;have hrl:=HL _ _ _ y.B (by have:=y.len;omega) E
   have hr:Dw t r:=z.2.1;have K:NS (.ok r)=.ok (Ax r):=rfl;rw[K] at Sw j k;simp only;cases f:Ar [44] (Ax r) with
   |none=>
    have A:Ek (.ok (Ax r))≠44:=by
     intro o;rw[C4] at f;cases g:Ax r with
     |nil=>rw[g] at o;cases o
     |cons a b=>
      rw[g] at o f;have o:a=44:=o;simp only at f;rw[Bq o] at f;cases f
    refine Sw A _ ?_;rw[EA Δ];cases Ar [93] (Ax r)<;>rfl
   |some r'=>
    have g:Ax r=44::r':=by
     rw[C4] at f;cases g:Ax r with
     |nil=>rw[g] at f;cases f
     |cons a b=>
      rw[g] at f;simp only at f;split at f
      ·rename_i ha;cases f;rw[ha]
      ·cases f
    have H:Ar [93] (Ax r)=none:=by rw[g,C4];rfl
    rw[H];simp only;rw[g] at j k;obtain⟨ja,wa⟩:=j.adv ht (by show (44:Int)≠0;decide)
    obtain⟨je,js,jp⟩:=ja
    have hlr:r'.length+1<=(Ax l0).length:=by
     have h1:=Ha r;rw[g,Ox] at h1;omega
    have Tn:=Ha r';obtain⟨i5,e5,j5,P⟩:=S m r' Ω Ω js;refine⟨i5,e5,j5,?_⟩;have C:(Ek (.ok (44::r')) != 44)=false:=rfl;subst je;rw[<-jp] at P;simp only[Av,Au,N,J,wD,L,M,k,C,wa];exact P
end
theorem Q9:∀l:Ak,Ax (Ax l)=Ax l
 |[]=>rfl
 |c::l=>by
  have e:Ax (c::l)=if P3 c=true then Ax l else c::l:=rfl
  by_cases h:P3 c=true
  ·rw[e,Bq h];exact Q9 l
  ·rw[e,Bb h,e,Bb h]
theorem Ahk{l s r:Ak}{o:Option Ak}(a:Ce l)(h:Dp l=(o,r)):r.length<=l.length:=by have:=Hk (Dw.self a);rw[h] at this;exact Dw.le this
def YV(V:Ak->JR (JV × Ak))(s:RS):RS:=NS (jv V (NS (Us 58 (NS s))))
theorem Afr(V:Ak->JR (JV × Ak))(c:Int):YV V (.error c)=.error c:=by unfold YV;rw[Apd,V7 Δ,Apd];rfl
theorem Aws(V:Ak->JR (JV × Ak))(HL:∀l v r,Ce l->l.length<=1000000->V l=.ok (v,r)->r.length<=l.length){r:Ak}(e:Ce r)(f:r.length<=1000000):
  (∃c,YV V (.ok r)=.error c/\(match Ar [58] (Ax r) with|none=>(.error 2:JR (JV × Ak))|some a=>V (Ax a))=.error c) \/
  (∃v b,YV V (.ok r)=.ok (Ax b)/\b.length<=r.length/\(match Ar [58] (Ax r) with|none=>(.error 2:JR (JV × Ak))|some a=>V (Ax a))=.ok (v,b)):=by
 unfold YV;have g:NS (.ok r)=.ok (Ax r):=rfl;rw[g,EA Δ];cases d:Ar [58] (Ax r) with
 |none=>exact .inl ⟨2,rfl,rfl⟩
 |some a=>
  have h:NS (ro (some a))=.ok (Ax a):=rfl;have i:jv V (.ok (Ax a))=CQ (V (Ax a)):=rfl;have m:=LS d;have n:=Ha r;have o:=Ha a;have j:Ce (Ax a):=(B4 (A6 (B4 (Dw.self e)) d)).B;rw[h,i];simp only;cases k:V (Ax a) with
  |error c=>exact .inl ⟨c,rfl,rfl⟩
  |ok q=>
   obtain⟨v,b⟩:=q;have:=HL _ _ _ j Ω k;exact .inr ⟨v,b,rfl,Ω,rfl⟩
theorem Aw5{V:Ak->JR (JV × Ak)}{n:Nat}{kp:Bool}{ms:List (Ak × JV)}{l nm r:Ak}(h:Dp l=(some nm,r))(hd:(kp&&ms.any λm=>m.1==nm)=false):
  P6 V kp (n+1) ms l=match (match Ar [58] (Ax r) with|none=>(.error 2:JR (JV × Ak))|some d=>V (Ax d)) with
   |.error c=>.error c
   |.ok (v,b)=>match Ar [125] (Ax b) with
    |some a=>.ok (ms++[(nm,v)],a)
    |none=>match Ar [44] (Ax b) with
     |some a=>P6 V kp n (ms++[(nm,v)]) (Ax a)
     |none=>.error 2:=by
 rw[Ko,h];simp only;rw[hd,Bb Δ];cases Ar [58] (Ax r)<;>rfl
theorem A4a{l:Ak}(h:Ar [44] l=none):Ek (.ok l)≠44:=by
 intro c;rw[C4] at h;cases l with
 |nil=>cases c
 |cons a b=>
  have c:a=44:=c;simp only at h;rw[Bq c] at h;cases h
theorem Avz{l r:Ak}{c:Int}(h:Ar [c] l=some r):l=c::r:=by
 rw[C4] at h;cases l with
 |nil=>cases h
 |cons a b=>
  simp only at h;split at h
  ·rename_i d;cases h;rw[d]
  ·cases h
section
variable {u d:Nat}{p:Option (Ae->Option A8)}
set_option maxHeartbeats 4000000 in
theorem An3{t:ByteArray}(ht:t.size<=1000000)(Bg:t.size+5<=u){D:Int}(Y:0<=D)(Z:D<=100)(V:Ak->JR (JV × Ak))(HV:∀i e s,JS t i e s->Ani t V s (Ac (CP p) prog u (d+4) 146 [.pbox (jC t i e),A0 (D+1)]))(HL:∀l v r,Ce l->l.length<=1000000->V l=.ok (v,r)->r.length<=l.length){t0:ByteArray}{i0 e0 D0:Int}{b0:Bool}:∀(n nn:Nat) (ms:List (Ak × JV)) (l0:Ak),(Ax l0).length<n->n+1<=nn->Dw t l0 ->
   ∃b f,JS t b f (CQ (P6 V false n ms (Ax l0)))/\B8 u (Ac (CP p) prog u (d+4)) t0 i0 e0 b0 D0 nn true D 125 t (Bm t l0) 0=some ⟨[],[jC t b f]⟩:=by
 intro n
 induction n with
 |zero=>intro nn ms l0 h;omega
 |succ n ih=>
  intro nn ms l0 Ef F7 H;obtain⟨m,rfl⟩:∃m,nn=m+1:=⟨nn-1,Ω⟩
  have h0:JS t (Bm t l0) 0 (.ok l0):=⟨rfl,H,rfl⟩
  have g:=B4 H;obtain⟨i1,I,J⟩:=Hs (u:=u) (d:=d+2) (p:=p) ht Ω h0;have hl:NS (.ok l0)=.ok (Ax l0):=rfl;rw[hl] at I;obtain⟨i2,K,j2,L⟩:=Am1 (u:=u) (d:=d) (p:=p) ht Ω Ω I;obtain⟨i3,j3,M⟩:=Hs (u:=u) (d:=d+2) (p:=p) ht Ω j2;obtain⟨i4,e4,j4,N⟩:=Jl (u:=u) (d:=d+2) (p:=p) ht (c:=58) Δ j3;obtain⟨i5,j5,O⟩:=Hs (u:=u) (d:=d+2) (p:=p) ht Ω j4;obtain⟨i6,z,kd,tx,j6,_,P⟩:=HV i5 e4 _ j5;obtain⟨A,a,Q⟩:=Hs (u:=u) (d:=d+2) (p:=p) ht Ω j6;have a:JS t A z (YV V (ZX (.ok (Ax l0))).2):=a;have j:Ac (CP p) prog u (d+4) 143 [.pbox (jC t A z)]=some ⟨[.sc (.int .u8 (Ek (YV V (ZX (.ok (Ax l0))).2)))],[jC t A z]⟩:=Gv (u:=u) (d:=d+3) (p:=p) a;have R:((0:Int)==0)=true:=rfl;have wD:wrap .i64 (D+1)=D+1:=Bc
  have Sw:Ek (YV V (ZX (.ok (Ax l0))).2)≠44->∀X:RS,Us 125 (YV V (ZX (.ok (Ax l0))).2)=X->∃b f,JS t b f X/\(B8 u (Ac (CP p) prog u (d+4)) t0 i0 e0 b0 D0 (m+1) true D 125 t (Bm t l0) 0)=some ⟨[],[jC t b f]⟩:=by
   intro F1 X hX;obtain⟨i8,e8,S,x8⟩:=Jl (u:=u) (d:=d+2) (p:=p) ht (c:=125) Δ a;rw[hX] at S;refine⟨i8,e8,S,?_⟩;have C:(Ek (YV V (ZX (.ok (Ax l0))).2) != 44)=true:=by simp[F1]
   rw[D2];simp only[Av,Au,R,J,L,M,N,O,wD,P,Q,j,C,x8]
  have k:=At5 (Ax l0);rcases q:Dp (Ax l0) with⟨o,r⟩;rw[q] at k;cases o with
  |none=>
   simp only at k;rw[k,Afr] at Sw;have K:P6 V false (n+1) ms (Ax l0)=.error 2:=by rw[Ko,q]
   rw[K];exact Sw (by show (0:Int)≠44;decide) _ (V7 Δ 2)
  |some nm=>
   simp only at k
   have w:Dw t r:=by
    have:=Hk g;rw[q] at this;exact this
   have hrl:=Ahk (s:=[]) g.B q;have T:=Aw5 (V:=V) (n:=n) (kp:=false) (ms:=ms) q rfl;rw[k] at Sw a j;rcases Aws V HL w.B (by have:=w.len;omega) with⟨c,E,U⟩|⟨v,y,E,U,g3⟩
   ·rw[T,U];rw[E] at Sw;exact Sw (by show (0:Int)≠44;decide) _ (V7 Δ c)
   ·rw[T,g3];rw[E] at Sw a j;simp only;cases x:Ar [44] (Ax y) with
    |none=>
     refine Sw (A4a x) _ ?_;rw[EA Δ];cases Ar [125] (Ax y)<;>rfl
    |some r'=>
     have G:=Avz x;have PF:Ar [125] (Ax y)=none:=by rw[G,C4];rfl
     rw[PF];simp only;rw[G] at a j;obtain⟨ja,wa⟩:=a.adv ht (by show (44:Int)≠0;decide)
     obtain⟨je,js,jp⟩:=ja
     have hlr:r'.length+1<=(Ax l0).length:=by
      have h1:=Ha y;rw[G,Ox] at h1;omega
     have Tn:=Ha r';obtain⟨i9,e9,j9,W⟩:=ih m (ms++[(nm,v)]) r' Ω Ω js;refine⟨i9,e9,j9,?_⟩;have C:(Ek (.ok (44::r')) != 44)=false:=rfl;subst je;rw[<-jp] at W;rw[D2];simp only[Av,Au,R,J,L,M,N,O,wD,P,Q,j,C,wa];exact W
def jls(ob:Bool)(V:Ak->JR (JV × Ak))(r:Ak):RS:=if ob=true then CQ (Ya V false r) else LX V r
set_option maxHeartbeats 4000000 in
theorem A7r{t:ByteArray}(ht:t.size<=1000000)(Bg:t.size+5<=u){D:Int}(m:0<=D)(N:D<=8)(V:Ak->JR (JV × Ak))(HV:∀i e s,JS t i e s->Ani t V s (Ac (CP p) prog u (d+4) 146 [.pbox (jC t i e),A0 (D+1)]))(HL:∀l v r,Ce l->l.length<=1000000->V l=.ok (v,r)->r.length<=l.length){c:Int}{r:Ak}(ob:Bool)(n:Dw t (c::r)):
   ∃L M,JS t L M (jls ob V r)/\Ac (CP p) prog u (d+5) 160 [.pbox (jC t (Bm t (c::r)) 0),Cn ob,A0 D]=some ⟨[],[jC t L M]⟩:=by
 have y:Ac (CP p) prog u (d+5) 160 [.pbox (jC t (Bm t (c::r)) 0),Cn ob,A0 D]=_:=Mn (p:=p) u (d+4) t (Bm t (c::r)) 0 ob D;have hp:=Jm n;have O:=n.len;have IV:Bm t (c::r)<=t.size:=Nat.sub_le _ _;have wr:wrap .i64 ((Bm t (c::r):Int)+1)=(Bm t r:Int):=Bi
 have C:JS t (Bm t r) 0 (.ok r):=⟨rfl,n.tail,rfl⟩
 obtain⟨i1,j,A⟩:=Hs (u:=u) (d:=d+2) (p:=p) ht Ω C;have E:NS (.ok r)=.ok (Ax r):=rfl;rw[E] at j;have k:Ac (CP p) prog u (d+4) 143 [.pbox (jC t i1 0)]=some ⟨[.sc (.int .u8 (Ek (.ok (Ax r))))],[jC t i1 0]⟩:=Gv (u:=u) (d:=d+3) (p:=p) j;have zD:decide (D>8)=false:=dF Ω;have Q:=(B4 n.tail).len;have o:i1=(Bm t (Ax r):Int):=j.2.2;have q:=B4 n.tail;cases ob with
 |true=>
  have G:jls true V r=CQ (Ya V false r):=rfl;rw[G,M5];cases h:Ar [125] (Ax r) with
  |some r'=>
   have g:=Avz h;rw[g] at j k;obtain⟨H,I⟩:=j.adv ht (by show (125:Int)≠0;decide)
   refine⟨i1+1,0,H,y.trans ?_⟩;have z:(Ek (.ok (125::r'))==125)=true:=rfl;simp only[Av,Au,zD,wr,A,k,z,I]
  |none=>
   have J:Ek (.ok (Ax r))≠125:=by
    intro f;rw[C4] at h;cases g:Ax r with
    |nil=>rw[g] at f;cases f
    |cons a b=>
     rw[g] at f h;have f:a=125:=f;simp only at h;rw[Bq f] at h;cases h
   obtain⟨i2,K,w,x⟩:=An3 (u:=u) (d:=d) (p:=p) ht Bg m Ω V HV HL (t0:=t) (i0:=Bm t (c::r)) (e0:=0) (D0:=D) (b0:=true) ((Ax r).length+1) u [] (Ax r) (by rw[Q9];omega) Ω q
   rw[Q9] at w;refine⟨i2,K,w,y.trans ?_⟩;have z:(Ek (.ok (Ax r))==125)=false:=by simp[J]
   rw[<-o] at x;simp only[Av,Au,zD,wr,A,k,z];exact x
 |false=>
  have G:jls false V r=LX V r:=rfl
  have P:LX V r=match Ar [93] (Ax r) with|some r'=>.ok r'|none=>YO V ((Ax r).length+1) (Ax r):=by
   unfold LX;rw[C4];cases Ax r with
   |nil=>rfl
   |cons a b=>
    simp only;by_cases h:a=93
    ·subst h;rfl
    ·rw[Bb h];split
     ·rename_i e;injection e with E _;exact absurd E h
     ·rfl
  rw[G,P];cases h:Ar [93] (Ax r) with
  |some r'=>
   have g:=Avz h;rw[g] at j k;obtain⟨H,I⟩:=j.adv ht (by show (93:Int)≠0;decide)
   refine⟨i1+1,0,H,y.trans ?_⟩;have z:(Ek (.ok (93::r'))==93)=true:=rfl;simp only[Av,Au,zD,wr,A,k,z,I]
  |none=>
   have J:Ek (.ok (Ax r))≠93:=by
    intro f;rw[C4] at h;cases g:Ax r with
    |nil=>rw[g] at f;cases f
    |cons a b=>
     rw[g] at f h;have f:a=93:=f;simp only at h;rw[Bq f] at h;cases h
   obtain⟨i2,K,w,x⟩:=Anq (u:=u) (d:=d) (p:=p) ht Bg m Ω V HV HL (t0:=t) (i0:=Bm t (c::r)) (e0:=0) (D0:=D) (b0:=false) ((Ax r).length+1) u (Ax r) (by rw[Q9];omega) Ω q
   rw[Q9] at w;refine⟨i2,K,w,y.trans ?_⟩;have z:(Ek (.ok (Ax r))==93)=false:=by simp[J]
   rw[<-o] at x;simp only[Av,Au,zD,wr,A,k,z];exact x
end
theorem G6{c:Int}{w l:Ak}(h:QJ l≠c)(d:c≠0):Ar (c::w) l=none:=by
 unfold Ar;cases l with
 |nil=>rfl
 |cons a l=>
  have b:c≠a:=λq=>h q.symm;simp[b]
theorem YT{l:Ak}(b:QJ l≠45)(c:QJ l<48\/57<QJ l):G0 l=none:=by
 have e:G0 l=(Ato (Ahx 45 l)).bind HN:=rfl
 have d:Ahx 45 l=l:=by
  rw[Yg,G6 b Δ];rfl
 rw[e,d,GC];cases l with
 |nil=>rfl
 |cons a l=>
  have f:QJ (a::l)=a:=rfl;rw[f] at b c;rw[C4];simp only;rw[Bb Ω];have g:C7 (a::l)=if UJ a=true then some (Hp l) else none:=rfl
  have hd:UJ a=false:=by
   unfold UJ;rcases c with h|h
   ·rw[dF (q:=48<=a) Ω,NT]
   ·rw[dF (q:=a<=57) Ω,Zzt]
  rw[g,hd];rfl
theorem Ao7{k:Nat}(f:k<=8){l r:Ak}{v:JV}(b:Ce l)(c:l.length<=1000000)(h:Cx k l=.ok (v,r)):r.length<=l.length:=by
 obtain⟨e,_,a⟩:=Avx (u:=1000001) (d:=0) (t:=Ab l) (by rw[Ai];exact c) (by rw[Ai];omega) k (9-(k:Int)) Ω Ω l (Dw.self b)
 rw[h] at a;exact Dw.le a.1
theorem Ahl(k:Nat)(r:Ak):Cx (k+1) (91::r)=match LX (Cx k) r with | .error e=>.error e | .ok r'=>.ok ((5,[],false),r'):=rfl
theorem Apm(k:Nat)(r:Ak):Cx (k+1) (123::r)=match Ya (Cx k) false r with | .error e=>.error e | .ok (_,r')=>.ok ((6,[],false),r'):=rfl
section
variable {u d:Nat}{p:Option (Ae->Option A8)}
theorem A04(V:Ak->JR (JV × Ak))(r:Ak):jls false V r=LX V r:=rfl
theorem A1y(V:Ak->JR (JV × Ak))(r:Ak):jls true V r=CQ (Ya V false r):=rfl
set_option maxHeartbeats 4000000 in
theorem QV{t:ByteArray}(ht:t.size<=1000000)(Bg:t.size+200<=u)(k:Nat){D i e:Int}{s:RS}(h:JS t i e s)(L:Ek s≠34)(M:Ek s≠123)(N:Ek s≠91):
  Ani t (Cx k) s (Ac (CP p) prog u (d+5) 146 [.pbox (jC t i e),A0 D]):=by
 have E:Ac (CP p) prog u (d+5) 146 [.pbox (jC t i e),A0 D]=_:=Fo (p:=p) u (d+4) t i e D;have G:Ac (CP p) prog u (d+4) 143 [.pbox (jC t i e)]=_:=Gv (u:=u) (d:=d+3) (p:=p) h;have H:(Ek s==34)=false:=by simp[L]
 have I:(Ek s==123)=false:=by simp[M]
 have J:(Ek s==91)=false:=by simp[N]
 have lT:ByteArray.mk #[116,114,117,101]=Ab [116,114,117,101]:=rfl;have lF:ByteArray.mk #[102,97,108,115,101]=Ab [102,97,108,115,101]:=rfl;have lN:ByteArray.mk #[110,117,108,108]=Ab [110,117,108,108]:=rfl
 have C:∀l,s=.ok l->Cx k l=KT l:=by
  intro l n;subst n;exact PM k M N L
 by_cases q:Ek s=116
 ·obtain⟨i1,m,b,o⟩:=Ama (u:=u) (d:=d+1) (p:=p) ht Ω (w:=[116,114,117,101]) (λx a=>by simp at a;omega) (λx a=>by simp at a;omega) Δ h
  have z:(Ek s==116)=true:=by simp[q]
  cases s with
  |error c=>cases q
  |ok l=>
   have j:QJ l=116:=q;have g:=C l rfl;rw[Aer _ _ (λx a=>by simp at a;omega)] at b
   have eW:KT l=match Ar [116,114,117,101] l with|some r=>.ok ((2,[],true),r)|none=>.error 2:=by
    unfold KT;rw[G6 (c:=102) (by rw[j];decide) Δ,G6 (c:=110) (by rw[j];decide) Δ,YT (by rw[j];decide) (.inr (by rw[j];decide))]
    cases Ar [116,114,117,101] l<;>rfl
   refine⟨i1,m,2,Ab [],?_,?_,E.trans ?_⟩
   ·show JS t i1 m (CQ (Cx k l));rw[g,eW];cases a:Ar [116,114,117,101] l with
    |none=>rw[a] at b;exact b
    |some r=>rw[a] at b;exact b
   ·intro O v r n f;cases n;rw[g,eW] at f;cases a:Ar [116,114,117,101] l with
    |none=>rw[a] at f;cases f
    |some r=>rw[a] at f;cases f;exact⟨rfl,rfl⟩
   ·simp only[Av,Au,G,H,I,J,z,lT,o];rfl
 have K:(Ek s==116)=false:=by simp[q]
 by_cases y:Ek s=102
 ·obtain⟨i1,m,b,o⟩:=Ama (u:=u) (d:=d+1) (p:=p) ht Ω (w:=[102,97,108,115,101]) (λx a=>by simp at a;omega) (λx a=>by simp at a;omega) Δ h
  have z:(Ek s==102)=true:=by simp[y]
  cases s with
  |error c=>cases y
  |ok l=>
   have j:QJ l=102:=y;have g:=C l rfl;rw[Aer _ _ (λx a=>by simp at a;omega)] at b
   have eW:KT l=match Ar [102,97,108,115,101] l with|some r=>.ok ((2,[],false),r)|none=>.error 2:=by
    unfold KT;rw[G6 (c:=116) (by rw[j];decide) Δ,G6 (c:=110) (by rw[j];decide) Δ,YT (by rw[j];decide) (.inr (by rw[j];decide))]
    cases Ar [102,97,108,115,101] l<;>rfl
   refine⟨i1,m,3,Ab [],?_,?_,E.trans ?_⟩
   ·show JS t i1 m (CQ (Cx k l));rw[g,eW];cases a:Ar [102,97,108,115,101] l with
    |none=>rw[a] at b;exact b
    |some r=>rw[a] at b;exact b
   ·intro O v r n f;cases n;rw[g,eW] at f;cases a:Ar [102,97,108,115,101] l with
    |none=>rw[a] at f;cases f
    |some r=>rw[a] at f;cases f;exact⟨rfl,rfl⟩
   ·simp only[Av,Au,G,H,I,J,K,z,lF,o];rfl
 have P:(Ek s==102)=false:=by simp[y]
 by_cases A:Ek s=110
 ·obtain⟨i1,m,b,o⟩:=Ama (u:=u) (d:=d+1) (p:=p) ht Ω (w:=[110,117,108,108]) (λx a=>by simp at a;omega) (λx a=>by simp at a;omega) Δ h
  have z:(Ek s==110)=true:=by simp[A]
  cases s with
  |error c=>cases A
  |ok l=>
   have j:QJ l=110:=A;have g:=C l rfl;rw[Aer _ _ (λx a=>by simp at a;omega)] at b
   have eW:KT l=match Ar [110,117,108,108] l with|some r=>.ok ((1,[],false),r)|none=>.error 2:=by
    unfold KT;rw[G6 (c:=116) (by rw[j];decide) Δ,G6 (c:=102) (by rw[j];decide) Δ,YT (by rw[j];decide) (.inr (by rw[j];decide))]
    cases Ar [110,117,108,108] l<;>rfl
   refine⟨i1,m,0,Ab [],?_,?_,E.trans ?_⟩
   ·show JS t i1 m (CQ (Cx k l));rw[g,eW];cases a:Ar [110,117,108,108] l with
    |none=>rw[a] at b;exact b
    |some r=>rw[a] at b;exact b
   ·intro O v r n f;cases n;rw[g,eW] at f;cases a:Ar [110,117,108,108] l with
    |none=>rw[a] at f;cases f
    |some r=>rw[a] at f;cases f;exact⟨rfl,rfl⟩
   ·simp only[Av,Au,G,H,I,J,K,P,z,lN,o];rfl
 have Q:(Ek s==110)=false:=by simp[A]
 obtain⟨i1,m,b,o⟩:=Ayk (u:=u) (d:=d+1) (p:=p) ht Ω h;refine⟨i1,m,0,Ab [],?_,?_,E.trans ?_⟩
 ·cases s with
  |error c=>exact b
  |ok l=>
   have g:=C l rfl;show JS t i1 m (CQ (Cx k l));rw[A0f] at b
   have eW:KT l=match G0 l with|some r=>.ok ((3,[],false),r)|none=>.error 2:=by
    unfold KT;rw[G6 (c:=116) q Δ,G6 (c:=102) y Δ,G6 (c:=110) A Δ];cases G0 l<;>rfl
   rw[g,eW];cases a:G0 l with
   |none=>rw[a] at b;exact b
   |some r=>rw[a] at b;exact b
 ·intro l v r n f;subst n
  have eW:KT l=match G0 l with|some r=>.ok ((3,[],false),r)|none=>.error 2:=by
   unfold KT;rw[G6 (c:=116) q Δ,G6 (c:=102) y Δ,G6 (c:=110) A Δ];cases G0 l<;>rfl
  rw[C l rfl,eW] at f;cases a:G0 l with
  |none=>rw[a] at f;cases f
  |some r=>rw[a] at f;cases f;exact⟨rfl,rfl⟩
 ·simp only[Av,Au,G,H,I,J,K,P,Q,o];rfl
theorem Acw{t:ByteArray}(ht:t.size<=1000000)(Bg:t.size+200<=u)(k:Nat){D i e:Int}{l:Ak}(h:JS t i e (.ok (34::l))):
  Ani t (Cx k) (.ok (34::l)) (Ac (CP p) prog u (d+5) 146 [.pbox (jC t i e),A0 D]):=by
 have j:Ac (CP p) prog u (d+5) 146 [.pbox (jC t i e),A0 D]=_:=Fo (p:=p) u (d+4) t i e D;have m:Ac (CP p) prog u (d+4) 143 [.pbox (jC t i e)]=some ⟨[.sc (.int .u8 34)],[jC t i e]⟩:=Gv (u:=u) (d:=d+3) (p:=p) h;obtain⟨i1,f,b,n⟩:=Am1 (u:=u) (d:=d) (p:=p) ht Ω Ω h;have z:((34:Int)==34)=true:=rfl;have g:ZX (.ok (34::l))=jtP (Dp (34::l)):=rfl;refine⟨i1,f,1,Ab (ZX (.ok (34::l))).1,?_,?_,j.trans ?_⟩
 ·show JS t i1 f (CQ (Cx k (34::l)));rw[Ad8];rw[g] at b;rcases c:Dp (34::l) with⟨o,r⟩;rw[c] at b;cases o<;>exact b
 ·intro w v r q a;cases q;rw[Ad8] at a;rw[g];rcases c:Dp (34::l) with⟨o,r'⟩;rw[c] at a;cases o with
  |none=>cases a
  |some s=>cases a;exact⟨rfl,rfl⟩
 ·simp only[Av,Au,m,z,n]
set_option maxHeartbeats 4000000 in
theorem A4h{t:ByteArray}(ht:t.size<=1000000)(Bg:t.size+200<=u):∀(k:Nat)(D:Int),D+k=9->1<=D->∀i e s,JS t i e s->Ani t (Cx k) s (Ac (CP p) prog u (d+2*k+5) 146 [.pbox (jC t i e),A0 D]):=by
 intro k
 induction k with
 |zero=>
  intro D O P i e s h;by_cases j:Ek s=34
  ·cases s with
   |error c=>cases j
   |ok l=>
    cases l with
    |nil=>cases j
    |cons a l=>
     have j:a=34:=j;subst j;exact Acw ht Bg 0 h
  by_cases f:Ek s=123\/Ek s=91
  ·have w:Ac (CP p) prog u (d+4) 143 [.pbox (jC t i e)]=_:=Gv (u:=u) (d:=d+3) (p:=p) h;have z:Ac (CP p) prog u (d+5) 146 [.pbox (jC t i e),A0 D]=_:=Fo (p:=p) u (d+4) t i e D;have fl:=N6 (u:=u) (d:=d+2) (p:=p) t i e 5;have K:=h.fail (c:=5) Δ;have zD:decide (D>8)=true:=dT Ω
   have el:∀b,Ac (CP p) prog u (d+4) 160 [.pbox (jC t i e),Cn b,A0 D]=some ⟨[],[jC t i (if e=0 then 5 else e)]⟩:=by
    intro b;refine (Mn (p:=p) u (d+3) t i e b D).trans ?_;simp only[Av,Au,zD,fl]
   have x:(Ek s==34)=false:=by simp[j]
   cases s with
   |error c=>rcases f with f|f<;>cases f
   |ok l=>
    cases l with
    |nil=>rcases f with f|f<;>cases f
    |cons a l=>
     have E:Ek (.ok (a::l))=a:=rfl;rw[E] at f x w;rcases f with f|f
     ·subst f;have y:((123:Int)==123)=true:=rfl;refine⟨i,_,0,Ab [],K,(λG v r o g=>by cases o;cases g),z.trans ?_⟩
      simp only[Av,Au,w,x,y,el];rfl
     ·subst f;have y:((91:Int)==123)=false:=rfl;have H:((91:Int)==91)=true:=rfl;refine⟨i,_,0,Ab [],K,(λG v r o g=>by cases o;cases g),z.trans ?_⟩
      simp only[Av,Au,w,x,y,H,el];rfl
  ·exact QV ht Bg 0 h j (λq=>f (.inl q)) (λq=>f (.inr q))
 |succ k Q=>
  intro D O P i e s h;by_cases j:Ek s=34
  ·cases s with
   |error c=>cases j
   |ok l=>
    cases l with
    |nil=>cases j
    |cons a l=>
     have j:a=34:=j;subst j;exact Acw (d:=d+2*(k+1)) ht Bg (k+1) h
  by_cases f:Ek s=123\/Ek s=91
  ·have w:Ac (CP p) prog u (d+2*(k+1)+4) 143 [.pbox (jC t i e)]=_:=Gv (u:=u) (d:=d+2*(k+1)+3) (p:=p) h;have z:Ac (CP p) prog u (d+2*(k+1)+5) 146 [.pbox (jC t i e),A0 D]=_:=Fo (p:=p) u (d+2*(k+1)+4) t i e D;have x:(Ek s==34)=false:=by simp[j]
   have HV:∀i e s,JS t i e s->Ani t (Cx k) s (Ac (CP p) prog u ((d+2*k+1)+4) 146 [.pbox (jC t i e),A0 (D+1)]):=λi e s I=>Q (D+1) Ω Ω i e s I;have HL:∀l v r,Ce l->l.length<=1000000->Cx k l=.ok (v,r)->r.length<=l.length:=λl v r o I g=>Ao7 Ω o I g;cases s with
   |error c=>rcases f with f|f<;>cases f
   |ok l=>
    cases l with
    |nil=>rcases f with f|f<;>cases f
    |cons a l=>
     have E:Ek (.ok (a::l))=a:=rfl;rw[E] at f x w;obtain⟨rfl,R,rfl⟩:=h
     have L:∀C,∃M N,JS t M N (jls C (Cx k) l)/\Ac (CP p) prog u (d+2*(k+1)+4) 160 [.pbox (jC t (Bm t (a::l)) 0),Cn C,A0 D]=some ⟨[],[jC t M N]⟩:=λC=>
      A7r (u:=u) (d:=d+2*k+1) (p:=p) ht Ω Ω Ω (Cx k) HV HL C R
     rcases f with f|f
     ·subst f;obtain⟨i1,A,m,J⟩:=L true;have y:((123:Int)==123)=true:=rfl;rw[A1y] at m;refine⟨i1,A,0,Ab [],?_,?_,z.trans ?_⟩
      ·show JS t i1 A (CQ (Cx (k+1) (123::l)));rw[Apm];cases n:Ya (Cx k) false l with
       |error c=>rw[n] at m;exact m
       |ok q=>rw[n] at m;exact m
      ·intro G v r o g;cases o;rw[Apm] at g;cases n:Ya (Cx k) false l with
       |error c=>rw[n] at g;cases g
       |ok q=>rw[n] at g;cases g;exact⟨rfl,rfl⟩
      ·simp only[Av,Au,w,x,y,J];rfl
     ·subst f;obtain⟨i1,A,m,J⟩:=L false;have y:((91:Int)==123)=false:=rfl;have H:((91:Int)==91)=true:=rfl;rw[A04] at m;refine⟨i1,A,0,Ab [],?_,?_,z.trans ?_⟩
      ·show JS t i1 A (CQ (Cx (k+1) (91::l)));rw[Ahl];cases n:LX (Cx k) l with
       |error c=>rw[n] at m;exact m
       |ok q=>rw[n] at m;exact m
      ·intro G v r o g;cases o;rw[Ahl] at g;cases n:LX (Cx k) l with
       |error c=>rw[n] at g;cases g
       |ok q=>rw[n] at g;cases g;exact⟨rfl,rfl⟩
      ·simp only[Av,Au,w,x,y,H,J];rfl
  ·exact QV (d:=d+2*(k+1)) ht Bg (k+1) h j (λq=>f (.inl q)) (λq=>f (.inr q))
end
abbrev RM:=Ak × Int × ByteArray
def Gp(ls:List RM):Ae:=ls.flatMap λm=>[Bf (Ab m.1),A0 m.2.1,Bf (m.2.2)]
theorem Ahn(ls:List RM):(Gp ls).length=ls.length*3:=by
 unfold Gp
 induction ls with
 |nil=>rfl
 |cons m ls a=>
  rw[L6,Vl,a];show 3+ls.length*3=(ls.length+1)*3;omega
theorem Ajy(a b:List RM):Gp (a++b)=Gp a++Gp b:=by unfold Gp;rw[List.flatMap_append]
theorem A3l{ls:List RM}{i:Nat}{m:RM}(h:ls[i]?=some m):List.getD (Gp ls) (i*3) .top=Bf (Ab m.1)/\List.getD (Gp ls) (i*3+1) .top=A0 m.2.1/\List.getD (Gp ls) (i*3+1+1) .top=Bf (m.2.2):=by
 induction ls generalizing i with
 |nil=>cases h
 |cons a ls b=>
  have e:Gp (a::ls)=Bf (Ab a.1) :: A0 a.2.1 :: Bf (a.2.2)::Gp ls:=rfl;rw[e];cases i with
  |zero=>cases h;exact⟨rfl,rfl,rfl⟩
  |succ i=>
   have h:ls[i]?=some m:=h;obtain⟨c,d,f⟩:=b h;rw[show (i+1)*3=i*3+1+1+1 by omega];exact⟨c,d,f⟩
def YE(ls:List RM)(nm:Ak):A8:=match ls.find? (λm=>m.1==nm) with
 |some m=>⟨[.agg [Bf (Ab m.1),A0 m.2.1,Bf (m.2.2)],Cn true],[]⟩
 |none=>⟨[.agg [Bf (Ab []),A0 0,Bf (Ab [])],Cn false],[]⟩
def Uc(m:Ak × JV):RM:=(m.1,kdR m.2,Ab (txR m.2))
section
variable {u d:Nat}{p:Option (Ae->Option A8)}
theorem SF{ls:List RM}{nm:Ak}(a:∀m∈ls,Ce m.1)(b:Ce nm)(j:ls.length<=2000000){F:Ao}{ZH:Nat}{a0:Ae}{a1 y4 y6:ByteArray}{y5:Int}:∀(r:List RM)(i nn:Nat),ls.drop i=r->r.length+1<=nn ->
  Ht u F ZH a0 a1 nn ls.length (Gp ls) (Ab nm) (i:Int) y4 y5 y6=some (YE r nm)
 |[],i,nn,hd,c=>by
  obtain⟨k,rfl⟩:∃k,nn=k+1:=⟨nn-1,Ω⟩
  have hi:=drop_nil hd;have a1:decide ((i:Int)<(ls.length:Int))=false:=dF Ω;rw[Nx];simp only[Av,Au,a1];rfl
 |m::r,i,nn,hd,c=>by
  obtain⟨k,rfl⟩:∃k,nn=k+1:=⟨nn-1,Ω⟩
  obtain⟨hi,d,Ta⟩:=Cl hd;have l:=SF a b j (F:=F) (ZH:=ZH) (a0:=a0) (a1:=a1) (y4:=y4) (y5:=y5) (y6:=y6) r (i+1) k Ta (by simp at c;omega)
  obtain⟨e,n,o⟩:=A3l d;have a1:decide ((i:Int)<(ls.length:Int))=true:=dT Ω;have f:decide ((0:Int)<=(i:Int))=true:=Ψ
  have g:Int.toNat (i:Int)*3=i*3:=by rw[H8]
  have p:wrap .i64 ((i:Int)+1)=((i+1:Nat):Int):=Bi
  have q:=T9 (a m (List.mem_of_getElem? d)) b
  have s:YE (m::r) nm=if m.1=nm then ⟨[.agg [Bf (Ab m.1),A0 m.2.1,Bf (m.2.2)],Cn true],[]⟩ else YE r nm:=by
   unfold YE;rw[List.find?_cons];by_cases h:m.1=nm
   ·have:(m.1==nm)=true:=by simp[h]
    rw[this,Bq h]
   ·have:(m.1==nm)=false:=by simp[h]
    rw[this,Bb h]
  rw[Nx,s];by_cases h:m.1=nm
  ·rw[Bq h];rw[dT h] at q;simp only[Av,Au,a1,f,g,e,n,o,Zzr,q]
  ·rw[Bb h];rw[dF h] at q;simp only[Av,Au,a1,f,g,e,Zzr,q,p];exact l
theorem Awg{ls:List RM}{nm:Ak}(a:∀m∈ls,Ce m.1)(b:Ce nm)(c:ls.length<=2000000)(Bg:ls.length+1<=u):Ac (CP p) prog u (d+1) 126 [.lst false 3 ls.length (Gp ls),Bf (Ab nm)]=some (YE ls nm):=
 (GY (p:=p) u d ls.length (Gp ls) (Ab nm)).trans (SF a b c ls 0 u rfl Bg)
def US(s:RS):RS:=match NS s with
 |.ok []=>.ok []
 |.ok (_::_)=>.error 2
 |.error c=>.error c
theorem An9{t:ByteArray}(ht:t.size<=1000000)(Bg:t.size+1<=u){i e:Int}{s:RS}(h:JS t i e s):∃b,Ac (CP p) prog u (d+2) 141 [.pbox (jC t i e)]=some ⟨[],[jC t b e]⟩ /\
  (decide (b<(t.size:Int))=true->JS t b (if e=0 then 2 else e) (US s))/\(decide (b<(t.size:Int))=false->JS t b e (US s)):=by
 obtain⟨b,f,k⟩:=Hs (u:=u) (d:=d) (p:=p) ht Bg h;refine⟨b,k,?_,?_⟩
 ·intro hd;have hd:b<(t.size:Int):=by simpa using hd
  have j:=f.fail (c:=2) Δ;unfold US;cases g:NS s with
  |error c=>rw[g] at j;exact j
  |ok r=>
   rw[g] at j f;cases r with
   |nil=>
    obtain⟨_,_,hp⟩:=f;rw[Qg] at hp;omega
   |cons a r=>exact j
 ·intro hd;have hd:¬b<(t.size:Int):=by simpa using hd
  unfold US;cases g:NS s with
  |error c=>rw[g] at f;exact f
  |ok r=>
   rw[g] at f;cases r with
   |nil=>exact f
   |cons a r=>
    obtain⟨_,l,hp⟩:=f;have m:=l.len;rw[Ox] at m;unfold Bm at hp;rw[Ox] at hp;omega
def Amz(t:ByteArray)(X:JR (List (Ak × JV) × Ak))(q:Option A8):Prop:=
 ∃i e a,JS t i e (US (CQ X))/\(∀b r,X=.ok (b,r)->a=b.map Uc)/\q=some ⟨[.own 3 a.length (Gp a)],[jC t i e]⟩
theorem EQ(ls:List RM):decide (ls.length*3<=(Gp ls).length)=true/\List.take (ls.length*3) (Gp ls)=Gp ls:=by refine⟨dT (by rw[Ahn];omega),Jo (by rw[Ahn];omega)⟩
theorem Ad0{t t0:ByteArray}(ht:t.size<=1000000)(Bg:t.size+5<=u){i0 e0 i e c:Int}(h:JS t i e (.error c))(ls:List RM)(nn:Nat){X:JR (List (Ak × JV) × Ak)}(j:X=.error c):
  Amz t X (Bu u (Ac (CP p) prog u (d+4)) t0 i0 e0 (nn+1) ls.length t i e (Gp ls)):=by
 obtain⟨a,b,k,l⟩:=An9 (u:=u) (d:=d+2) (p:=p) ht Ω h;have m:e≠0:=by obtain⟨n,o,_⟩:=h;rw[n];exact o
 have z:(e==0)=false:=by simp[m]
 obtain⟨f,g⟩:=EQ ls;have fl:=N6 (u:=u) (d:=d+3) (p:=p) t a e 2;subst j;rw[Eg];cases hd:decide (a<(t.size:Int)) with
 |true=>
  refine⟨a,_,ls,k hd,(λq r h=>by cases h),?_⟩;simp only[Av,Au,z,b,hd,fl,f,g]
 |false=>
  refine⟨a,_,ls,l hd,(λq r h=>by cases h),?_⟩;simp only[Av,Au,z,b,hd,f,g]
end
theorem Ayi(ms:List (Ak × JV))(nm:Ak):(ms.any λm=>m.1==nm)=((ms.map Uc).find? (λm=>m.1==nm)).isSome:=by
 induction ms with
 |nil=>rfl
 |cons m ms a=>
  rw[List.any_cons,CZ,List.find?_cons];have e:(Uc m).1=m.1:=rfl;rw[e];cases m.1==nm with
  |true=>rfl
  |false=>rw[a];rfl
theorem Bai{l:Ak}(b:Ce l):Ce (ZX (.ok l)).1:=by
 have e:ZX (.ok l)=jtP (Dp l):=rfl;rw[e];rcases a:Dp l with⟨o,r⟩;cases o with
 |none=>exact λx a=>nomatch a
 |some s=>exact Ae9 b a
section
variable {u d:Nat}{p:Option (Ae->Option A8)}
set_option maxHeartbeats 8000000 in
theorem VK{t:ByteArray}(ht:t.size<=1000000)(Bg:t.size+300<=u){t0:ByteArray}{i0 e0:Int}:∀(n nn:Nat)(ms:List (Ak × JV)) (ls:List RM)(l0:Ak),ls=ms.map Uc->(Ax l0).length<n->n+2<=nn->Dw t l0->(∀m∈ms,Ce m.1)->ms.length+(Ax l0).length<=t.size ->
  Amz t (P6 (Cx 8) true n ms (Ax l0)) (Bu u (Ac (CP p) prog u (d+21)) t0 i0 e0 nn ls.length t (Bm t l0) 0 (Gp ls)):=by
 intro n
 induction n with
 |zero=>intro nn ms ls l0 _ h;omega
 |succ n ih=>
  intro nn ms ls l0 y Ef F7 hs hmB hml;obtain⟨m,rfl⟩:∃m,nn=m+1:=⟨nn-1,Ω⟩
  have h0:JS t (Bm t l0) 0 (.ok l0):=⟨rfl,hs,rfl⟩
  have A:=B4 hs;have hll:ls.length=ms.length:=by rw[y,List.length_map]
  have hlB:∀q∈ls,Ce q.1:=by
   intro q z;rw[y] at z;obtain⟨w,hw,rfl⟩:=List.mem_map.1 z;exact hmB w hw
  obtain⟨i1,j1,x1⟩:=Hs (u:=u) (d:=d+19) (p:=p) ht Ω h0;have e1:NS (.ok l0)=.ok (Ax l0):=rfl;rw[e1] at j1;obtain⟨i2,e2,j2,Q⟩:=Am1 (u:=u) (d:=d+17) (p:=p) ht Ω Ω j1;have C:=Bai A.B;have Zt:=At5 (Ax l0)
  have SX:∀D r,Dp (Ax l0)=(some D,r)->(ZX (.ok (Ax l0))).1=D:=by
   intro D r h;have e:ZX (.ok (Ax l0))=jtP (Dp (Ax l0)):=rfl;rw[e,h];rfl
  generalize (ZX (.ok (Ax l0))).1=b at Q C SX;generalize (ZX (.ok (Ax l0))).2=s2 at j2 Zt;have E:=Awg (u:=u) (d:=d+20) (p:=p) hlB C Ω Ω;have Adl:=Ayi ms b;rw[<-y] at Adl;have z0:((0:Int)==0)=true:=rfl;obtain⟨R,S⟩:=EQ ls;have o3:decide (0+ls.length*3<=(Gp ls).length)=true:=by rw[Ka];exact R
  have o4:List.take (ls.length*3) (List.drop 0 (Gp ls))=Gp ls:=by rw[Nr];exact S
  have c1:decide ((ls.length+1)*40<=1099511627776)=true:=dT Ω;have c2:decide (ls.length+1<=1099511627776)=true:=dT Ω;have hL8:∀l v r,Ce l->l.length<=1000000->Cx 8 l=.ok (v,r)->r.length<=l.length:=λl v r hl hs hv=>Ao7 Δ hl hs hv;cases hf:ls.find? (λq=>q.1==b) with
  |some q=>
   have fr:YE ls b=⟨[.agg [Bf (Ab q.1),A0 q.2.1,Bf (q.2.2)],Cn true],[]⟩:=by unfold YE;rw[hf]
   rw[fr] at E;rw[hf] at Adl;have Adl:(ms.any λm=>m.1==b)=true:=Adl;have fl:=N6 (u:=u) (d:=d+20) (p:=p) t i2 e2 10;have h3:=j2.fail (c:=10) Δ;obtain⟨i4,j4,T⟩:=Hs (u:=u) (d:=d+19) (p:=p) ht Ω h3;obtain⟨i5,G,j5,U⟩:=Jl (u:=u) (d:=d+19) (p:=p) ht (c:=58) Δ j4;obtain⟨i6,j6,W⟩:=Hs (u:=u) (d:=d+19) (p:=p) ht Ω j5;obtain⟨i7,H,Y,Z,j7,kt,k⟩:=A4h (u:=u) (d:=d) (p:=p) ht Ω 8 1 Δ Δ i6 G _ j6;have k:Ac (CP p) prog u (d+21) 146 [.pbox (jC t i6 G),A0 1]=_:=k;obtain⟨I,f,x8⟩:=Hs (u:=u) (d:=d+19) (p:=p) ht Ω j7;have f:JS t I H (YV (Cx 8) (jfl 10 s2)):=f;have J:Ac (CP p) prog u (d+21) 143 [.pbox (jC t I H)]=some ⟨[.sc (.int .u8 (Ek (YV (Cx 8) (jfl 10 s2))))],[jC t I H]⟩:=Gv (u:=u) (d:=d+20) (p:=p) f
   obtain⟨a,Ara⟩:∃x,x=ls++[(b,Y,Z)]:=⟨_,rfl⟩
   have Tn:a.length=ls.length+1:=by rw[Ara,Vl];rfl
   have ea:Gp ls++[Bf (Ab b),A0 Y,Bf Z]=Gp a:=by rw[Ara,Ajy];rfl
   obtain⟨K,L⟩:=EQ a;rw[Tn] at K L
   have Sw:Ek (YV (Cx 8) (jfl 10 s2))≠44->∀X:JR (List (Ak × JV) × Ak),US (CQ X)=US (Us 125 (YV (Cx 8) (jfl 10 s2)))->(∀ms r,X=.ok (ms,r)->a=ms.map Uc)->Amz t X (Bu u (Ac (CP p) prog u (d+21)) t0 i0 e0 (m+1) ls.length t (Bm t l0) 0 (Gp ls)):=by
    intro F1 X M g;obtain⟨i9,e9,j9,x9⟩:=Jl (u:=u) (d:=d+19) (p:=p) ht (c:=125) Δ f;obtain⟨i10,i,y1,y2⟩:=An9 (u:=u) (d:=d+19) (p:=p) ht Ω j9;have N:=N6 (u:=u) (d:=d+20) (p:=p) t i10 e9 2;have O:(Ek (YV (Cx 8) (jfl 10 s2)) != 44)=true:=by simp[F1]
    rw[<-M] at y1 y2;rw[Eg];cases hd:decide (i10<(t.size:Int)) with
    |true=>
     refine⟨i10,_,a,y1 hd,g,?_⟩;rw[Tn];simp only[Av,Au,z0,x1,Q,o3,o4,E,fl,T,U,W,k,R,c1,c2,S,Zzn,ea,x8,J,O,x9,i,hd,N,K,L]
    |false=>
     refine⟨i10,_,a,y2 hd,g,?_⟩;rw[Tn];simp only[Av,Au,z0,x1,Q,o3,o4,E,fl,T,U,W,k,R,c1,c2,S,Zzn,ea,x8,J,O,x9,i,hd,K,L]
   have A0z:∀c,(jfl 10 s2)=.error c->∀X:JR (List (Ak × JV) × Ak),X=.error c->Amz t X (Bu u (Ac (CP p) prog u (d+21)) t0 i0 e0 (m+1) ls.length t (Bm t l0) 0 (Gp ls)):=by
    intro c hc X M;have hj:YV (Cx 8) (jfl 10 s2)=.error c:=by rw[hc];exact Afr _ c
    subst M;refine Sw (by rw[hj];show (0:Int)≠44;decide) _ ?_ (λms r h=>by cases h)
    rw[hj,V7 Δ];rfl
   rcases j:Dp (Ax l0) with⟨o,r⟩;rw[j] at Zt;cases o with
   |none=>
    exact A0z 2 (by rw[Zt];rfl) _ (by rw[Ko,j])
   |some D=>
    have:=SX D r j;subst this;exact A0z 10 (by rw[Zt];rfl) _ (by rw[Ko,j];simp only;rw[Adl];rfl)
  |none=>
   have fr:YE ls b=⟨[.agg [Bf (Ab []),A0 0,Bf (Ab [])],Cn false],[]⟩:=by unfold YE;rw[hf]
   rw[fr] at E;rw[hf] at Adl;have Adl:(ms.any λm=>m.1==b)=false:=Adl;have h3:=j2;obtain⟨i4,j4,T⟩:=Hs (u:=u) (d:=d+19) (p:=p) ht Ω h3;obtain⟨i5,G,j5,U⟩:=Jl (u:=u) (d:=d+19) (p:=p) ht (c:=58) Δ j4;obtain⟨i6,j6,W⟩:=Hs (u:=u) (d:=d+19) (p:=p) ht Ω j5;obtain⟨i7,H,Y,Z,j7,kt,k⟩:=A4h (u:=u) (d:=d) (p:=p) ht Ω 8 1 Δ Δ i6 G _ j6;have k:Ac (CP p) prog u (d+21) 146 [.pbox (jC t i6 G),A0 1]=_:=k;obtain⟨I,f,x8⟩:=Hs (u:=u) (d:=d+19) (p:=p) ht Ω j7;have f:JS t I H (YV (Cx 8) s2):=f;have J:Ac (CP p) prog u (d+21) 143 [.pbox (jC t I H)]=some ⟨[.sc (.int .u8 (Ek (YV (Cx 8) s2)))],[jC t I H]⟩:=Gv (u:=u) (d:=d+20) (p:=p) f;obtain⟨a,Ara⟩:∃x,x=ls++[(b,Y,Z)]:=⟨_,rfl⟩
   have Tn:a.length=ls.length+1:=by rw[Ara,Vl];rfl
   have ea:Gp ls++[Bf (Ab b),A0 Y,Bf Z]=Gp a:=by rw[Ara,Ajy];rfl
   obtain⟨K,L⟩:=EQ a;rw[Tn] at K L
   have Sw:Ek (YV (Cx 8) s2)≠44->∀X:JR (List (Ak × JV) × Ak),US (CQ X)=US (Us 125 (YV (Cx 8) s2))->(∀ms r,X=.ok (ms,r)->a=ms.map Uc)->Amz t X (Bu u (Ac (CP p) prog u (d+21)) t0 i0 e0 (m+1) ls.length t (Bm t l0) 0 (Gp ls)):=by
    intro F1 X M g;obtain⟨i9,e9,j9,x9⟩:=Jl (u:=u) (d:=d+19) (p:=p) ht (c:=125) Δ f;obtain⟨i10,i,y1,y2⟩:=An9 (u:=u) (d:=d+19) (p:=p) ht Ω j9;have N:=N6 (u:=u) (d:=d+20) (p:=p) t i10 e9 2;have O:(Ek (YV (Cx 8) s2) != 44)=true:=by simp[F1]
    rw[<-M] at y1 y2;rw[Eg];cases hd:decide (i10<(t.size:Int)) with
    |true=>
     refine⟨i10,_,a,y1 hd,g,?_⟩;rw[Tn];simp only[Av,Au,z0,x1,Q,o3,o4,E,T,U,W,k,R,c1,c2,S,Zzn,ea,x8,J,O,x9,i,hd,N,K,L]
    |false=>
     refine⟨i10,_,a,y2 hd,g,?_⟩;rw[Tn];simp only[Av,Au,z0,x1,Q,o3,o4,E,T,U,W,k,R,c1,c2,S,Zzn,ea,x8,J,O,x9,i,hd,K,L]
   have A0z:∀c,s2=.error c->∀X:JR (List (Ak × JV) × Ak),X=.error c->Amz t X (Bu u (Ac (CP p) prog u (d+21)) t0 i0 e0 (m+1) ls.length t (Bm t l0) 0 (Gp ls)):=by
    intro c hc X M;have hj:YV (Cx 8) s2=.error c:=by rw[hc];exact Afr _ c
    subst M;refine Sw (by rw[hj];show (0:Int)≠44;decide) _ ?_ (λms r h=>by cases h)
    rw[hj,V7 Δ];rfl
   rcases j:Dp (Ax l0) with⟨o,r⟩;rw[j] at Zt;cases o with
   |none=>
    exact A0z 2 Zt _ (by rw[Ko,j])
   |some D=>
    have:=SX D r j;subst this;simp only at Zt
    have hrS:Dw t r:=by
     have:=Hk A;rw[j] at this;exact this
    have hrl:=Ahk (s:=[]) A.B j;have hm:=Aw5 (V:=Cx 8) (n:=n) (kp:=true) (ms:=ms) j (by rw[Adl];rfl)
    subst Zt;rcases Aws (Cx 8) hL8 hrS.B (by have:=hrS.len;omega) with⟨c,P,g2⟩|⟨v,r2,P,g2,g3⟩
    ·rw[hm,g2];refine Sw (by rw[P];show (0:Int)≠44;decide) _ ?_ (λms r h=>by cases h)
     rw[P,V7 Δ];rfl
    ·have hkt:Y=kdR v/\Z=Ab (txR v):=by
      have G:NS (.ok r)=.ok (Ax r):=rfl;rw[G,EA Δ] at kt;cases h58:Ar [58] (Ax r) with
      |none=>rw[h58] at g3;cases g3
      |some r1=>
       rw[h58] at g3 kt;exact kt (Ax r1) v r2 rfl g3
     have Beh:a=(ms++[(b,v)]).map Uc:=by
      rw[Ara,List.map_append,y,hkt.1,hkt.2];rfl
     rw[hm,g3];simp only;cases h44:Ar [44] (Ax r2) with
     |none=>
      have F1:Ek (YV (Cx 8) (.ok r))≠44:=by rw[P];exact A4a h44
      cases PF:Ar [125] (Ax r2) with
      |none=>
       refine Sw F1 _ ?_ (λms r h=>by cases h);rw[P,EA Δ,PF];rfl
      |some r3=>
       refine Sw F1 _ ?_ (λms r h=>by cases h;exact Beh)
       rw[P,EA Δ,PF];rfl
     |some r'=>
      have hk:=Avz h44;have PF:Ar [125] (Ax r2)=none:=by rw[hk,C4];rfl
      rw[PF];simp only;rw[P,hk] at f J;obtain⟨ja,wa⟩:=f.adv ht (by show (44:Int)≠0;decide)
      obtain⟨je,js,jp⟩:=ja
      have hlr:r'.length+1<=(Ax l0).length:=by
       have h1:=Ha r2;rw[hk,Ox] at h1;omega
      have hsl:=Ha r'
      have ih:=ih m (ms++[(b,v)]) a r' Beh Ω Ω js (λq z=>by
       rcases B2.1 z with z|z
       ·exact hmB q z
       ·rw[Xx] at z;subst z;exact C) (by rw[Vl,List.length_singleton];omega)
      have O:(Ek (.ok (44::r')) != 44)=false:=rfl;subst je;rw[<-jp,Tn] at ih;rw[Eg];simp only[Av,Au,z0,x1,Q,o3,o4,E,T,U,W,k,R,c1,c2,S,Zzn,ea,x8,J,O,wa];exact ih
theorem Auo(t:ByteArray):Bm t (Ci t)=0:=by unfold Bm;rw[Cb];omega
set_option maxHeartbeats 8000000 in
theorem Ark{t:ByteArray}(ht:t.size<=1000000)(Bg:t.size+300<=u):∃i e ls,(match TL 8 (Ci t) with | .ok ms=>e=0/\ls=ms.map Uc | .error c=>e=c/\c≠0)/\Ac (CP p) prog u (d+22) 124 [.pbox (jC t 0 0)]=some ⟨[.own 3 ls.length (Gp ls)],[jC t i e]⟩:=by
 have s:=S3 (p:=p) u (d+21) t 0 0;have I:=Dw.all t;have J:JS t 0 0 (.ok (Ci t)):=⟨rfl,I,by rw[Auo];rfl⟩
 obtain⟨i1,K,v⟩:=Hs (u:=u) (d:=d+19) (p:=p) ht Ω J;obtain⟨i2,l,L,x⟩:=Jl (u:=u) (d:=d+19) (p:=p) ht (c:=123) Δ K;obtain⟨m,g,y⟩:=Hs (u:=u) (d:=d+19) (p:=p) ht Ω L;have M:NS (.ok (Ci t))=.ok (Ax (Ci t)):=rfl;rw[M,EA Δ] at g;rw[Tp]
 have conv:∀{X:JR (List (Ak × JV) × Ak)} {q:Option A8},Amz t X q->Ac (CP p) prog u (d+22) 124 [.pbox (jC t 0 0)]=q->∃i e ls,(match (match X with | .error e=>(.error e:JR (List (Ak × JV))) | .ok (ms,r')=>if Ax r'=[] then .ok ms else .error 2) with | .ok ms=>e=0/\ls=ms.map Uc | .error c=>e=c/\c≠0)/\Ac (CP p) prog u (d+22) 124 [.pbox (jC t 0 0)]=some ⟨[.own 3 ls.length (Gp ls)],[jC t i e]⟩:=by
  intro X q k N;obtain⟨i,e,ls,j,O,P⟩:=k;refine⟨i,e,ls,?_,N.trans P⟩;cases X with
  |error c=>exact⟨j.1,j.2.1⟩
  |ok w=>
   obtain⟨ms,r'⟩:=w;have j:JS t i e (US (.ok r')):=j;unfold US at j;have Q:NS (.ok r')=.ok (Ax r'):=rfl;rw[Q] at j;simp only;cases n:Ax r' with
   |nil=>
    rw[n] at j;rw[Bq rfl];exact⟨j.1,O ms r' rfl⟩
   |cons a b=>
    rw[n] at j;rw[Bb Ψ];exact⟨j.1,j.2.1⟩
 cases A97:Ar [123] (Ax (Ci t)) with
 |none=>
  rw[A97] at g;have g:JS t m l (.error 2):=g;have o:Ac (CP p) prog u (d+21) 143 [.pbox (jC t m l)]=some ⟨[.sc (.int .u8 0)],[jC t m l]⟩:=Gv (u:=u) (d:=d+20) (p:=p) g;have z:((0:Int)==125)=false:=rfl;obtain⟨f,R⟩:∃f,u=f+1:=⟨u-1,Ω⟩
  have st:=Ad0 (u:=u) (d:=d+17) (p:=p) ht Ω (t0:=t) (i0:=0) (e0:=0) g [] f (X:=.error 2) rfl;rw[<-R] at st;refine conv st (s.trans ?_);simp only[Av,Au,v,x,y,o,z];rfl
 |some r=>
  rw[A97] at g;have g:JS t m l (.ok (Ax r)):=g;have o:Ac (CP p) prog u (d+21) 143 [.pbox (jC t m l)]=some ⟨[.sc (.int .u8 (Ek (.ok (Ax r))))],[jC t m l]⟩:=Gv (u:=u) (d:=d+20) (p:=p) g;simp only;rw[M5];cases PF:Ar [125] (Ax r) with
  |some r'=>
   have n:=Avz PF;rw[n] at g o;obtain⟨A,E⟩:=g.adv ht (by show (125:Int)≠0;decide)
   have A:JS t (m+1) l (.ok r'):=A;obtain⟨i4,G,S,T⟩:=An9 (u:=u) (d:=d+19) (p:=p) ht Ω A;have fl:=N6 (u:=u) (d:=d+20) (p:=p) t i4 l 2;have z:(Ek (.ok (125::r'))==125)=true:=rfl;cases hd:decide (i4<(t.size:Int)) with
   |true=>
    refine conv (X:=.ok ([],r')) ⟨i4,_,[],S hd,(λms r h=>by cases h;rfl),rfl⟩ (s.trans ?_)
    simp only[Av,Au,v,x,y,o,z,E,G,hd,fl];rfl
   |false=>
    refine conv (X:=.ok ([],r')) ⟨i4,_,[],T hd,(λms r h=>by cases h;rfl),rfl⟩ (s.trans ?_)
    simp only[Av,Au,v,x,y,o,z,E,G,hd];rfl
  |none=>
   have U:Ek (.ok (Ax r))≠125:=by
    intro k;rw[C4] at PF;cases n:Ax r with
    |nil=>rw[n] at k;cases k
    |cons a b=>
     rw[n] at k PF;have k:a=125:=k;simp only at PF;rw[Bq k] at PF;cases PF
   obtain⟨V,H,W⟩:=g;have C:=H.len;have D:=VK (u:=u) (d:=d) (p:=p) ht Bg (t0:=t) (i0:=0) (e0:=0) ((Ax r).length+1) u [] [] (Ax r) rfl (by rw[Q9];omega) Ω H (λq k=>nomatch k) (by rw[Q9];simpa using C)
   rw[Q9] at D;have z:(Ek (.ok (Ax r))==125)=false:=by simp[U]
   subst V;rw[<-W] at D;refine conv D (s.trans ?_);simp only[Av,Au,v,x,y,o,z];rfl
end
def KV(v:JV):Prop:=1<=v.1/\v.1<=6/\(v.2.2=true->v.1=2)
theorem Atm{k:Nat}{l r:Ak}{v:JV}(h:Cx k l=.ok (v,r)):KV v:=by
 unfold Cx at h;split at h
 ·split at h
  ·cases h
  ·split at h
   ·cases h
   ·cases h;exact⟨Δ,Δ,λh=>by cases h⟩
 ·split at h
  ·cases h
  ·split at h
   ·cases h
   ·cases h;exact⟨Δ,Δ,λh=>by cases h⟩
 ·split at h
  ·cases h
  ·cases h;exact⟨by show (1:Int)<=4;decide,by show (4:Int)<=6;decide,λh=>by cases h⟩
 ·repeat' split at h
  all_goals first|(cases h;exact⟨Δ,Δ,λh=>by first|rfl|cases h⟩)|cases h
theorem Ard:∀(n:Nat)(ms:List (Ak × JV)) (l r:Ak)(ms':List (Ak × JV)),(∀m∈ms,KV m.2)->P6 (Cx 8) true n ms l=.ok (ms',r)->∀m∈ms',KV m.2:=by
 intro n
 induction n with
 |zero=>intro ms l r ms' _ h;cases h
 |succ n i=>
  intro ms l r ms' j h;rw[Ko] at h;rcases k:Dp l with⟨o,q⟩;rw[k] at h;cases o with
  |none=>cases h
  |some p=>
   simp only at h;split at h
   ·cases h
   cases b:Ar [58] (Ax q) with
   |none=>rw[b] at h;cases h
   |some s=>
    rw[b] at h;simp only at h;cases a:Cx 8 (Ax s) with
    |error e=>rw[a] at h;cases h
    |ok x=>
     obtain⟨v,c⟩:=x;rw[a] at h
     have d:∀m∈ms++[(p,v)],KV m.2:=by
      intro m My;rcases B2.1 My with My|My
      ·exact j m My
      ·simp at My;subst My;exact Atm a
     simp only at h;cases f:Ar [125] (Ax c) with
     |some t=>rw[f] at h;cases h;exact d
     |none=>
      rw[f] at h;simp only at h;cases g:Ar [44] (Ax c) with
      |none=>rw[g] at h;cases h
      |some t=>
       rw[g] at h;exact i _ _ _ _ d h
theorem Aq1{l:Ak}{ms:List (Ak × JV)}(h:TL 8 l=.ok ms):∀m∈ms,KV m.2:=by
 rw[Tp] at h;cases c:Ar [123] (Ax l) with
 |none=>rw[c] at h;cases h
 |some r=>
  rw[c] at h;simp only at h;rw[M5] at h;cases d:Ar [125] (Ax r) with
  |some r'=>
   rw[d] at h;simp only at h;split at h
   ·cases h;exact λm a=>by cases a
   ·cases h
  |none=>
   rw[d] at h;simp only at h;cases b:P6 (Cx 8) true ((Ax r).length+1) [] (Ax r) with
   |error e=>rw[b] at h;cases h
   |ok x=>
    obtain⟨f,r'⟩:=x;rw[b] at h;simp only at h;split at h
    ·cases h;exact Ard _ _ _ _ _ (λm a=>by cases a) b
    ·cases h
def fB(ms:List (Ak × JV))(nm:Ak):Bool:=(Ji nm ms).isSome
def fK(ms:List (Ak × JV))(nm:Ak):Int:=match Ji nm ms with|some v=>kdR v|none=>0
def fX(ms:List (Ak × JV))(nm:Ak):Ak:=match Ji nm ms with|some v=>txR v|none=>[]
theorem Ayj(ms:List (Ak × JV))(nm:Ak):∃n1,YE (ms.map Uc) nm=⟨[.agg [Bf n1,A0 (fK ms nm),Bf (Ab (fX ms nm))],Cn (fB ms nm)],[]⟩:=by
 have e:(ms.map Uc).find? (λm=>m.1==nm)=(ms.find? (λm=>m.1==nm)).map Uc:=by
  rw[List.find?_map];rfl
 unfold YE fB fK fX Ji;rw[e];cases ms.find? (λm=>m.1==nm) with
 |none=>exact⟨_,rfl⟩
 |some m=>exact⟨_,rfl⟩
theorem Aa6{ms:List (Ak × JV)}(h:∀m∈ms,KV m.2){nm:Ak}{v:JV}(a:Ji nm ms=some v):KV v:=by unfold Ji at a;obtain⟨m,b,rfl⟩:=Option.map_eq_some_iff.1 a;exact h m (List.mem_of_find?_eq_some b)
theorem N7{ms:List (Ak × JV)}(h:∀m∈ms,KV m.2)(nm:Ak):
  (fB ms nm=true/\fK ms nm=1/\(B0 nm ms).1=4/\fX ms nm=(B0 nm ms).2.1)\/(fB ms nm=false/\fK ms nm=0/\B0 nm ms=(0,[],false)/\fX ms nm=[])\/(fB ms nm=true/\fK ms nm≠1/\(B0 nm ms).1≠4/\(B0 nm ms).1≠0):=by
 unfold fB fK fX B0;cases b:Ji nm ms with
 |none=>exact .inr (.inl ⟨rfl,rfl,rfl,rfl⟩)
 |some v=>
  obtain⟨c,d,e⟩:=Aa6 h b;by_cases a:v.1=4
  ·refine .inl ⟨rfl,?_,a,?_⟩
   ·show kdR v=1;unfold kdR;rw[Bq a]
   ·show txR v=v.2.1;unfold txR;rw[Bq a]
  ·refine .inr (.inr ⟨rfl,?_,a,?_⟩)
   ·show kdR v≠1;unfold kdR;rw[Bb a];split
    ·split<;>decide
    ·decide
   ·show v.1≠0;omega
theorem Atf{ms:List (Ak × JV)}(h:∀m∈ms,KV m.2)(nm:Ak):
  (fB ms nm=false/\B0 nm ms=(0,[],false))\/(fB ms nm=true/\fK ms nm=2/\(B0 nm ms).1=2/\(B0 nm ms).2.2=true)\/(fB ms nm=true/\fK ms nm=3/\(B0 nm ms).1=2/\(B0 nm ms).2.2=false)\/(fB ms nm=true/\fK ms nm≠2/\fK ms nm≠3/\(B0 nm ms).1≠0/\(B0 nm ms).1≠2):=by
 unfold fB fK B0;cases c:Ji nm ms with
 |none=>exact .inl ⟨rfl,rfl⟩
 |some v=>
  obtain⟨d,e,f⟩:=Aa6 h c;show _\/(_/\kdR v=2/\v.1=2/\v.2.2=true)\/(_/\kdR v=3/\v.1=2/\v.2.2=false)\/(_/\kdR v≠2/\kdR v≠3/\v.1≠0/\v.1≠2);by_cases b:v.1=4
  ·refine .inr (.inr (.inr ⟨rfl,?_,?_,Ω,Ω⟩))<;>(unfold kdR;rw[Bq b];decide)
  ·by_cases a:v.1=2
   ·cases ht:v.2.2 with
    |true=>exact .inr (.inl ⟨rfl,by unfold kdR;rw[Bb b,Bq a,Bq ht],a,rfl⟩)
    |false=>exact .inr (.inr (.inl ⟨rfl,by unfold kdR;rw[Bb b,Bq a,Bb (by rw[ht];decide)],a,rfl⟩))
   ·refine .inr (.inr (.inr ⟨rfl,?_,?_,Ω,a⟩))<;>(unfold kdR;rw[Bb b,Bb a];decide)
def Ar2(T C O X P:JV):Bool:=decide (T.1=4)&&(decide (C.1=4)&&(decide (O.1=4)&&((decide (X.1=0)||decide (X.1=2))&&(bif X.2.2 then decide (P.1=4) else decide (P.1=0)))))
theorem A6g(T C O X P:JV):Lr T C O X P=if Ar2 T C O X P=true then (if T.2.1=tyC then ED 1 C O X P else if T.2.1=tyG then ED 2 C O X P else .error 3) else .error 4:=by
 unfold Lr Ar2;by_cases b:T.1=4
 ·by_cases c:C.1=4
  ·by_cases d:O.1=4
   ·rw[Bb (by simp[b,c,d]),dT b,dT c,dT d];by_cases e:X.1≠0/\X.1≠2
    ·rw[Bq e,dF e.1,dF e.2];simp
    ·rw[Bb e]
     have f:(decide (X.1=0)||decide (X.1=2))=true:=by
      by_cases q:X.1=0
      ·rw[dT q];rfl
      ·rw[dT (q:=X.1=2) Ω,Bool.or_true]
     rw[f];cases g:X.2.2 with
     |true=>
      by_cases a:P.1=4
      ·rw[dT a,Bb (by simp[a])];rfl
      ·rw[dF a,Bq (.inl ⟨rfl,a⟩)];rfl
     |false=>
      by_cases a:P.1=0
      ·rw[dT a,Bb (by simp[a])];rfl
      ·rw[dF a,Bq (.inr ⟨rfl,a⟩)];rfl
   ·rw[Bq (.inr (.inr d)),dF d];simp
  ·rw[Bq (.inr (.inl c)),dF c];simp
 ·rw[Bq (.inl b),dF b];rfl
section
variable {u d:Nat}{p:Option (Ae->Option A8)}
theorem MH{ms:List (Ak × JV)}(b:∀m∈ms,Ce m.1)(i:ms.length<=1000000)(Bg:1000002<=u){nm:Ak}(c:Ce nm):∃n1,Ac (CP p) prog u (d+1) 126 [.lst false 3 (ms.map Uc).length (Gp (ms.map Uc)),Bf (Ab nm)]=some ⟨[.agg [Bf n1,A0 (fK ms nm),Bf (Ab (fX ms nm))],Cn (fB ms nm)],[]⟩:=by
 have a:∀q∈ms.map Uc,Ce q.1:=by
  intro q e;obtain⟨w,f,rfl⟩:=List.mem_map.1 e;exact b w f
 have h:=Awg (u:=u) (d:=d) (p:=p) a c (by rw[List.length_map];omega) (by rw[List.length_map];omega)
 obtain⟨n1,g⟩:=Ayj ms nm;exact⟨n1,h.trans (by rw[g])⟩
theorem A4q:Ce On:=λx a=>by simp[On] at a;omega
theorem A4z:Ce Te:=λx a=>by simp[Te] at a;omega
theorem A4x:Ce JQ:=λx a=>by simp[JQ] at a;omega
theorem Bdr:Ce QC:=λx a=>by simp[QC] at a;omega
theorem A4b:Ce Zm:=λx a=>by simp[Zm] at a;omega
theorem GN:ByteArray.mk #[116,121,112,101]=Ab On:=rfl
theorem HF:ByteArray.mk #[99,104,97,108,108,101,110,103,101]=Ab Te:=rfl
theorem HJ:ByteArray.mk #[111,114,105,103,105,110]=Ab JQ:=rfl
theorem Aaq:ByteArray.mk #[99,114,111,115,115,79,114,105,103,105,110]=Ab QC:=rfl
theorem Rw:ByteArray.mk #[116,111,112,79,114,105,103,105,110]=Ab Zm:=rfl
theorem DM{ms:List (Ak × JV)}{ZH nn:Nat}{a0:Ae}{F:Ao}{cells:Ae}{i:Nat}{nm:Ak}{n1:ByteArray}(hi:i<3)(c:List.getD cells i .top=Bf (Ab nm))(a:F 126 [.lst false 3 (ms.map Uc).length (Gp (ms.map Uc)),Bf (Ab nm)]=some ⟨[.agg [Bf n1,A0 (fK ms nm),Bf (Ab (fX ms nm))],Cn (fB ms nm)],[]⟩):
  E8 u F ZH a0 (nn+1) (ms.map Uc).length (Gp (ms.map Uc)) 3 (i:Int) cells=(bif fB ms nm&&(fK ms nm==1) then E8 u F ZH a0 nn (ms.map Uc).length (Gp (ms.map Uc)) 3 ((i+1:Nat):Int) cells else some ⟨[Cn false],[]⟩):=by
 have d:decide ((i:Int)<((3:Nat):Int))=true:=dT Ω;have e:decide ((0:Int)<=(i:Int))=true:=Ψ
 have f:0+Int.toNat (i:Int)*1=i:=Ω
 have k:wrap .i64 ((i:Int)+1)=((i+1:Nat):Int):=Bi
 rw[Mc];cases j:fB ms nm with
 |false=>
  rw[j] at a;simp only[Av,Au,d,e,f,c,a,Gg,NT,cond_false]
 |true=>
  rw[j] at a;by_cases b:fK ms nm=1
  ·have g:(fK ms nm==1)=true:=by simp[b]
   have h:(fK ms nm != 1)=false:=by simp[b]
   simp only[Av,Au,d,e,f,c,a,Es,g,h,k,Bool.and_self,cond_true]
  ·have g:(fK ms nm==1)=false:=by simp[b]
   have h:(fK ms nm != 1)=true:=by simp[b]
   simp only[Av,Au,d,e,f,c,a,Es,g,h,Zzt,cond_false]
theorem A6q{ms:List (Ak × JV)}(h:∀m∈ms,KV m.2)(nm:Ak):(fB ms nm&&(fK ms nm==1))=decide ((B0 nm ms).1=4):=by
 rcases N7 h nm with⟨a,c,b,_⟩|⟨a,c,b,_⟩|⟨a,c,b,_⟩
 ·rw[a,c,dT b];rfl
 ·rw[a,b];rfl
 ·rw[a,dF b];simp[c]
set_option maxHeartbeats 4000000 in
theorem Ax8{ms:List (Ak × JV)}(n:∀m∈ms,Ce m.1)(o:∀m∈ms,KV m.2)(r:ms.length<=1000000)(Bg:1000002<=u):Ac (CP p) prog u (d+2) 125 [.lst false 3 (ms.map Uc).length (Gp (ms.map Uc))]=some ⟨[Cn (Ar2 (B0 On ms) (B0 Te ms) (B0 JQ ms) (B0 QC ms) (B0 Zm ms))],[]⟩:=by
 refine (CI (p:=p) u (d+1) (ms.map Uc).length (Gp (ms.map Uc))).trans ?_;obtain⟨u1,f1⟩:=MH (u:=u) (d:=d) (p:=p) n r Bg A4q;obtain⟨J,D⟩:=MH (u:=u) (d:=d) (p:=p) n r Bg A4z;obtain⟨K,E⟩:=MH (u:=u) (d:=d) (p:=p) n r Bg A4x;obtain⟨L,e⟩:=MH (u:=u) (d:=d) (p:=p) n r Bg Bdr;obtain⟨M,a⟩:=MH (u:=u) (d:=d) (p:=p) n r Bg A4b;obtain⟨f,rfl⟩:∃f,u=f+4:=⟨u-4,Ω⟩
 simp only[GN,HF,HJ];have s1:=DM (u:=f+4) (ms:=ms) (ZH:=(ms.map Uc).length) (nn:=f+3) (a0:=Gp (ms.map Uc)) (F:=Ac (CP p) prog (f+4) (d+1)) (cells:=[Bf (Ab On),Bf (Ab Te),Bf (Ab JQ)]) (i:=0) Δ rfl f1;have s2:=DM (u:=f+4) (ms:=ms) (ZH:=(ms.map Uc).length) (nn:=f+2) (a0:=Gp (ms.map Uc)) (F:=Ac (CP p) prog (f+4) (d+1)) (cells:=[Bf (Ab On),Bf (Ab Te),Bf (Ab JQ)]) (i:=1) Δ rfl D;have y:=DM (u:=f+4) (ms:=ms) (ZH:=(ms.map Uc).length) (nn:=f+1) (a0:=Gp (ms.map Uc)) (F:=Ac (CP p) prog (f+4) (d+1)) (cells:=[Bf (Ab On),Bf (Ab Te),Bf (Ab JQ)]) (i:=2) Δ rfl E;rw[A6q o] at s1 s2 y;refine s1.trans ?_;unfold Ar2
 cases N:decide ((B0 On ms).1=4) with
 |false=>rfl
 |true=>
 rw[cond_true,Zzm];refine s2.trans ?_;cases O:decide ((B0 Te ms).1=4) with
 |false=>rfl
 |true=>
 rw[cond_true,Zzm];refine y.trans ?_;cases P:decide ((B0 JQ ms).1=4) with
 |false=>rfl
 |true=>
 rw[cond_true,Zzm,Mc];have h:decide (((2+1:Nat):Int)<((3:Nat):Int))=false:=rfl;have G:(true==true)=true:=rfl;have H:(false==true)=false:=rfl;have A:(true==false)=false:=rfl;have C:(false==false)=true:=rfl;rcases Atf o QC with⟨k,l⟩|⟨k,l,s,t⟩|⟨k,l,s,t⟩|⟨k,l,s,t,I⟩
 ·rw[k] at e;rw[l];rcases N7 o Zm with⟨b,c,g,_⟩|⟨b,c,g,_⟩|⟨b,c,g,x⟩
  ·rw[b,c] at a;have z:((1:Int) != 1)=false:=rfl;rw[dF (q:=(B0 Zm ms).1=0) Ω];simp only[Av,Au,h,Aaq,Rw,e,a,z,A];rfl
  ·rw[b,c] at a;rw[g];simp only[Av,Au,h,Aaq,Rw,e,a,C];rfl
  ·rw[b] at a;have z:(fK ms Zm != 1)=true:=by simp[c]
   rw[dF x];simp only[Av,Au,h,Aaq,Rw,e,a,z];rfl
 ·rw[k,l] at e;rw[s,t];have j:((2:Int) != 2)=false:=rfl;have v:((2:Int)==2)=true:=rfl;rcases N7 o Zm with⟨b,c,g,_⟩|⟨b,c,g,_⟩|⟨b,c,g,x⟩
  ·rw[b,c] at a;have z:((1:Int) != 1)=false:=rfl;rw[dT g];simp only[Av,Au,h,Aaq,Rw,e,a,z,j,v,G];rfl
  ·rw[b,c] at a;rw[g];simp only[Av,Au,h,Aaq,Rw,e,a,j,v,H];rfl
  ·rw[b] at a;have z:(fK ms Zm != 1)=true:=by simp[c]
   rw[dF g];simp only[Av,Au,h,Aaq,Rw,e,a,z,j];rfl
 ·rw[k,l] at e;rw[s,t];have j:((3:Int) != 2)=true:=rfl;have v:((3:Int)==2)=false:=rfl;have w:((3:Int) != 3)=false:=rfl;rcases N7 o Zm with⟨b,c,g,_⟩|⟨b,c,g,_⟩|⟨b,c,g,x⟩
  ·rw[b,c] at a;have z:((1:Int) != 1)=false:=rfl;rw[dF (q:=(B0 Zm ms).1=0) Ω];simp only[Av,Au,h,Aaq,Rw,e,a,z,j,v,w,A];rfl
  ·rw[b,c] at a;rw[g];simp only[Av,Au,h,Aaq,Rw,e,a,j,v,w,C];rfl
  ·rw[b] at a;have z:(fK ms Zm != 1)=true:=by simp[c]
   rw[dF x];simp only[Av,Au,h,Aaq,Rw,e,a,z,j,w];rfl
 ·rw[k] at e;have j:(fK ms QC != 2)=true:=by simp[l]
  have w:(fK ms QC != 3)=true:=by simp[s]
  rw[dF t,dF I];simp only[Av,Au,h,Aaq,Rw,e,a,j,w];rfl
end
theorem Ayv:∀(n:Nat)(ms:List (Ak × JV)) (l r:Ak)(ms':List (Ak × JV)),P6 (Cx 8) true n ms l=.ok (ms',r)->ms'.length<=ms.length+n:=by
 intro n
 induction n with
 |zero=>intro ms l r ms' h;cases h
 |succ n g=>
  intro ms l r ms' h;rw[Ko] at h;rcases i:Dp l with⟨o,q⟩;rw[i] at h;cases o with
  |none=>cases h
  |some m=>
   simp only at h;split at h
   ·cases h
   cases a:Ar [58] (Ax q) with
   |none=>rw[a] at h;cases h
   |some j=>
    rw[a] at h;simp only at h;cases b:Cx 8 (Ax j) with
    |error e=>rw[b] at h;cases h
    |ok x=>
     obtain⟨v,c⟩:=x;rw[b] at h;simp only at h;cases d:Ar [125] (Ax c) with
     |some k=>rw[d] at h;cases h;simp
     |none=>
      rw[d] at h;simp only at h;cases f:Ar [44] (Ax c) with
      |none=>rw[f] at h;cases h
      |some k=>
       rw[f] at h;have:=g _ _ _ _ h;simp at this;omega
theorem Auf{l:Ak}{ms:List (Ak × JV)}(h:TL 8 l=.ok ms):ms.length<=l.length+1:=by
 rw[Tp] at h;cases a:Ar [123] (Ax l) with
 |none=>rw[a] at h;cases h
 |some r=>
  rw[a] at h;simp only at h;rw[M5] at h;have f:=LS a;have g:=Ha l;have i:=Ha r;cases c:Ar [125] (Ax r) with
  |some r'=>
   rw[c] at h;simp only at h;split at h
   ·cases h;simp
   ·cases h
  |none=>
   rw[c] at h;simp only at h;cases b:P6 (Cx 8) true ((Ax r).length+1) [] (Ax r) with
   |error e=>rw[b] at h;cases h
   |ok x=>
    obtain⟨d,r'⟩:=x;rw[b] at h;simp only at h;split at h
    ·cases h;have:=Ayv _ _ _ _ _ b;simp at this;omega
    ·cases h
def pdR:JR CD->A8
 |.ok (k,b,o,x,q)=>⟨[.agg [A0 k,.own 1 b.length (Af .u8 b),Bf (Ab o),Cn x,Bf (Ab q)],A0 0],[]⟩
 |.error e=>⟨[.agg [A0 0,.own 1 0 [],Bf ⟨#[]⟩,Cn false,Bf ⟨#[]⟩],A0 e],[]⟩
section
variable {u d:Nat}
theorem A0o(s:ByteArray)(h:s.size<=9223372036854775807):Ac C1 prog u (d+1) 103 [Bf s]=some ⟨[Cn (Lib.validD s.data.toList)],[]⟩:=by have e:Ac C1 prog u (d+1) 103 [Bf s]=XL [Bf s]:=rfl;rw[e];unfold XL;simp only[dT h,cond_true]
set_option maxHeartbeats 8000000 in
theorem A1h{t:ByteArray}(Bg:1000400<=u):Ac C1 prog u (d+23) 94 [Bf t]=some (pdR (Kk t)):=by
 have er:=X6 (p:=some Dg) u (d+22) t;refine er.trans ?_;clear er;unfold Kk;by_cases hs:1024<t.size
 ·have k:=dT (q:=((t.size:Nat):Int)>1024) Ω;rw[Bq hs];simp only[Av,Au,k];rfl
 have k:=dF (q:=((t.size:Nat):Int)>1024) Ω;have g:=A0o (u:=u) (d:=d+21) t Ω;have g:Ac C1 prog u (d+22) 103 [Bf t]=_:=g;rw[Bb hs];cases hv:Lib.validD t.data.toList with
 |false=>
  rw[hv] at g;rw[Bq rfl];simp only[Av,Au,k,g,Gg];rfl
 |true=>
 rw[hv] at g;rw[Bb Δ];obtain⟨i,e,ls,Y,n⟩:=Ark (u:=u) (d:=d) (p:=some Dg) (t:=t) Ω Ω;have n:Ac C1 prog u (d+22) 124 [.pbox (jC t 0 0)]=_:=n;have hB:=AM t;cases ht:TL 8 (Ci t) with
 |error c=>
  rw[ht] at Y;obtain⟨rfl,hc⟩:=Y;have z:(e != 0)=true:=by simp[hc]
  simp only[Av,Au,k,g,Es,n,z];rfl
 |ok a=>
 rw[ht] at Y;obtain⟨rfl,rfl⟩:=Y;have Bg0:=Auf ht;rw[Cb] at Bg0;have U:=Ap8 hB (by rw[Cb];omega) ht
 have I:∀m∈a,Ce m.1:=λm hm=>(U m hm).1.1;have S:=Aq1 ht;have sh:=Ax8 (u:=u) (d:=d+20) (p:=some Dg) I S Ω Ω;have sh:Ac C1 prog u (d+22) 125 [.lst false 3 (a.map Uc).length (Gp (a.map Uc))]=_:=sh;obtain⟨u1,f1⟩:=MH (u:=u) (d:=d+21) (p:=some Dg) I Ω Ω A4q;have f1:Ac C1 prog u (d+22) 126 [.lst false 3 (a.map Uc).length (Gp (a.map Uc)),Bf (Ab On)]=_:=f1;obtain⟨u2,o⟩:=MH (u:=u) (d:=d+21) (p:=some Dg) I Ω Ω A4z;have o:Ac C1 prog u (d+22) 126 [.lst false 3 (a.map Uc).length (Gp (a.map Uc)),Bf (Ab Te)]=_:=o;obtain⟨u3,r⟩:=MH (u:=u) (d:=d+21) (p:=some Dg) I Ω Ω A4x
 have r:Ac C1 prog u (d+22) 126 [.lst false 3 (a.map Uc).length (Gp (a.map Uc)),Bf (Ab JQ)]=_:=r;obtain⟨u5,l⟩:=MH (u:=u) (d:=d+21) (p:=some Dg) I Ω Ω A4b;have l:Ac C1 prog u (d+22) 126 [.lst false 3 (a.map Uc).length (Gp (a.map Uc)),Bf (Ab Zm)]=_:=l;obtain⟨o1,o2⟩:=EQ (a.map Uc);have y:decide (0+(a.map Uc).length*3<=(Gp (a.map Uc)).length)=true:=by rw[Ka];exact o1
 have A:List.take ((a.map Uc).length*3) (List.drop 0 (Gp (a.map Uc)))=Gp (a.map Uc):=by rw[Nr];exact o2
 have D:((0:Int) != 0)=false:=rfl;show _=some (pdR (SL a));unfold SL;rw[A6g];cases R:Ar2 (B0 On a) (B0 Te a) (B0 JQ a) (B0 QC a) (B0 Zm a) with
 |false=>
  rw[R] at sh;rw[Bb Δ];simp only[Av,Au,k,g,Es,n,D,y,A,sh,Gg];rfl
 |true=>
 rw[R] at sh;rw[Bq rfl];have Amf:=R;unfold Ar2 at Amf;simp only[Ge,decide_eq_true_iff] at Amf;obtain⟨hT,hC,hO,hX,J⟩:=Amf;have gT:fX a On=(B0 On a).2.1:=by rcases N7 S On with⟨_,_,_,h⟩|⟨_,_,h,_⟩|⟨_,_,h,_⟩<;>first|exact h|(rw[h] at hT;cases hT)|exact absurd hT h
 have gC:fX a Te=(B0 Te a).2.1:=by rcases N7 S Te with⟨_,_,_,h⟩|⟨_,_,h,_⟩|⟨_,_,h,_⟩<;>first|exact h|(rw[h] at hC;cases hC)|exact absurd hC h
 have gO:fX a JQ=(B0 JQ a).2.1:=by rcases N7 S JQ with⟨_,_,_,h⟩|⟨_,_,h,_⟩|⟨_,_,h,_⟩<;>first|exact h|(rw[h] at hO;cases hO)|exact absurd hO h
 have gP:fX a Zm=(B0 Zm a).2.1/\fB a Zm=(B0 QC a).2.2:=by
  cases N:(B0 QC a).2.2 with
  |true=>
   rw[N] at J;have J:(B0 Zm a).1=4:=by simpa using J
   rcases N7 S Zm with⟨Q,_,_,h⟩|⟨_,_,h,_⟩|⟨_,_,h,_⟩
   ·exact⟨h,Q⟩
   ·rw[h] at J;cases J
   ·exact absurd J h
  |false=>
   rw[N] at J;have J:(B0 Zm a).1=0:=by simpa using J
   rcases N7 S Zm with⟨_,_,h,_⟩|⟨Q,_,h,L⟩|⟨_,_,_,h⟩
   ·omega
   ·exact⟨by rw[L,h],Q⟩
   ·exact absurd J h
 have vB:∀Z,Ce (B0 Z a).2.1/\(B0 Z a).2.1.length<=4*t.size:=by
  intro Z;unfold B0 Ji;cases hq:a.find? (λm=>m.1==Z) with
  |none=>exact⟨(λx N=>nomatch N),Nat.zero_le _⟩
  |some m=>
   have h:=(U m (List.mem_of_find?_eq_some hq)).2;have L:=h.2;rw[Cb] at L;exact⟨h.1,L⟩
 rw[gT] at f1;rw[gC] at o;rw[gO] at r;rw[gP.1,gP.2] at l;obtain⟨tB,tL⟩:=vB On;obtain⟨cB,cL⟩:=vB Te;obtain⟨oB,oL⟩:=vB JQ;obtain⟨pB,pL⟩:=vB Zm;generalize (B0 On a).2.1=T at f1 tB tL ⊢;unfold ED;generalize (B0 Te a).2.1=C at o cB cL ⊢;generalize (B0 JQ a).2.1=O at r oB oL ⊢;generalize (B0 Zm a).2.1=P at l pB pL ⊢;generalize (B0 QC a).2.2=X at l ⊢;have f:Ac C1 prog u (d+22) 41 [A0 1]=some ⟨[Bf (Ab tyC)],[]⟩:=Afm (u:=u) (d:=d+21) (p:=some Dg) 1;have v:Ac C1 prog u (d+22) 41 [A0 2]=some ⟨[Bf (Ab tyG)],[]⟩:=Afm (u:=u) (d:=d+21) (p:=some Dg) 2;have s:Ac C1 prog u (d+22) 127 [Bf (Ab C)]=_:=A16 (u:=u) (d:=d+20) (p:=some Dg) cB Ω Ω Ω
 obtain⟨r1,r2,r3,H⟩:=Aem (u:=u) (d:=d+17) (p:=some Dg) oB Ω Ω Ω;have H:Ac C1 prog u (d+22) 42 [Bf (Ab O)]=_:=H;obtain⟨r4,r5,r6,j⟩:=Aem (u:=u) (d:=d+17) (p:=some Dg) pB Ω Ω Ω;have j:Ac C1 prog u (d+22) 42 [Bf (Ab P)]=_:=j;have tCB:Ce tyC:=λx N=>by simp[tyC] at N;omega
 have tGB:Ce tyG:=λx N=>by simp[tyG] at N;omega
 have w:=T9 tB tCB;have K:=T9 tB tGB;by_cases Q:T=tyC
 ·rw[dT Q] at w;rw[Bq Q];cases hd:Ly C with
  |none=>
   rw[hd] at s;have zz:((2:Int) != 0)=true:=rfl;simp only[Av,Au,k,g,Es,n,D,y,A,sh,GN,HF,HJ,Rw,f1,o,r,l,f,w,s,zz];rfl
  |some b=>
   rw[hd] at s;simp only;have V:decide (b.length*1<=(Af .u8 b).length)=true:=by rw[Am];simp
   have W:List.take (b.length*1) (Af .u8 b)=Af .u8 b:=Jo (by rw[Am];omega)
   by_cases Gf:b.length<1
   ·have E:=dT (q:=((b.length:Nat):Int)<1) Ω;rw[Bq (.inl Gf)];simp only[Av,Au,k,g,Es,n,D,y,A,sh,GN,HF,HJ,Rw,f1,o,r,l,f,w,s,E];rfl
   have E:=dF (q:=((b.length:Nat):Int)<1) Ω;by_cases Jv:64<b.length
   ·have G:=dT (q:=((b.length:Nat):Int)>64) Ω;rw[Bq (.inr Jv)];simp only[Av,Au,k,g,Es,n,D,y,A,sh,GN,HF,HJ,Rw,f1,o,r,l,f,w,s,E,G];rfl
   have G:=dF (q:=((b.length:Nat):Int)>64) Ω;rw[Bb (λh=>h.elim Gf Jv)];by_cases M:Fg O=0
   rotate_left
   ·have zo:=nn0 _ M;rw[Bq M];simp only[Av,Au,k,g,Es,n,D,y,A,sh,GN,HF,HJ,Rw,f1,o,r,l,f,w,s,E,G,H,zo];rfl
   rw[M] at H;rw[Bb (by simp[M])];cases X with
   |false=>
    rw[Bb Ψ];simp only[Av,Au,k,g,Es,n,D,y,A,sh,GN,HF,HJ,Rw,f1,o,r,l,f,w,s,E,G,H,j,V,W];rfl
   |true=>
    by_cases hp:Fg P=0
    ·rw[hp] at j;rw[Bb (by simp[hp])];simp only[Av,Au,k,g,Es,n,D,y,A,sh,GN,HF,HJ,Rw,f1,o,r,l,f,w,s,E,G,H,j,V,W];rfl
    ·have zp:=nn0 _ hp;rw[Bq ⟨rfl,hp⟩];simp only[Av,Au,k,g,Es,n,D,y,A,sh,GN,HF,HJ,Rw,f1,o,r,l,f,w,s,E,G,H,j,zp];rfl
 ·rw[dF Q] at w;rw[Bb Q];by_cases L:T=tyG
  rotate_left
  ·rw[dF L] at K;rw[Bb L];simp only[Av,Au,k,g,Es,n,D,y,A,sh,GN,HF,HJ,Rw,f1,o,r,l,f,w,v,K,Gg];rfl
  rw[dT L] at K;rw[Bq L];cases hd:Ly C with
  |none=>
   rw[hd] at s;have zz:((2:Int) != 0)=true:=rfl;simp only[Av,Au,k,g,Es,n,D,y,A,sh,GN,HF,HJ,Rw,f1,o,r,l,f,w,v,K,Gg,s,zz];rfl
  |some b=>
   rw[hd] at s;simp only;have V:decide (b.length*1<=(Af .u8 b).length)=true:=by rw[Am];simp
   have W:List.take (b.length*1) (Af .u8 b)=Af .u8 b:=Jo (by rw[Am];omega)
   by_cases Gf:b.length<1
   ·have E:=dT (q:=((b.length:Nat):Int)<1) Ω;rw[Bq (.inl Gf)];simp only[Av,Au,k,g,Es,n,D,y,A,sh,GN,HF,HJ,Rw,f1,o,r,l,f,w,v,K,Gg,s,E];rfl
   have E:=dF (q:=((b.length:Nat):Int)<1) Ω;by_cases Jv:64<b.length
   ·have G:=dT (q:=((b.length:Nat):Int)>64) Ω;rw[Bq (.inr Jv)];simp only[Av,Au,k,g,Es,n,D,y,A,sh,GN,HF,HJ,Rw,f1,o,r,l,f,w,v,K,Gg,s,E,G];rfl
   have G:=dF (q:=((b.length:Nat):Int)>64) Ω;rw[Bb (λh=>h.elim Gf Jv)];by_cases M:Fg O=0
   rotate_left
   ·have zo:=nn0 _ M;rw[Bq M];simp only[Av,Au,k,g,Es,n,D,y,A,sh,GN,HF,HJ,Rw,f1,o,r,l,f,w,v,K,Gg,s,E,G,H,zo];rfl
   rw[M] at H;rw[Bb (by simp[M])];cases X with
   |false=>
    rw[Bb Ψ];simp only[Av,Au,k,g,Es,n,D,y,A,sh,GN,HF,HJ,Rw,f1,o,r,l,f,w,v,K,Gg,s,E,G,H,j,V,W];rfl
   |true=>
    by_cases hp:Fg P=0
    ·rw[hp] at j;rw[Bb (by simp[hp])];simp only[Av,Au,k,g,Es,n,D,y,A,sh,GN,HF,HJ,Rw,f1,o,r,l,f,w,v,K,Gg,s,E,G,H,j,V,W];rfl
    ·have zp:=nn0 _ hp;rw[Bq ⟨rfl,hp⟩];simp only[Av,Au,k,g,Es,n,D,y,A,sh,GN,HF,HJ,Rw,f1,o,r,l,f,w,v,K,Gg,s,E,G,H,j,zp];rfl
end
structure Sd where
 id:Ak
 ht:Int
 root:Int
 model:Int
 fmt:Int
 sh:Bool
 used:Int
 rg:List (Int × Int)
 sus:Bool
 since:Int
 last:Int
def PY(l:List (Int × Int)):Ae:=l.flatMap λp=>[A0 p.1,A0 p.2]
theorem Afn(l:List (Int × Int)):(PY l).length=l.length*2:=by
 induction l with
 |nil=>rfl
 |cons p r a=>show ([_,_]++PY r).length=_;rw[Vl,a,Ox];simp;omega
def Sd.cells(x:Sd):Ae:=[.lst false 1 x.id.length (Af .u8 x.id),A0 x.ht,Ag x.root,Ag x.model,A0 x.fmt,Cn (x.sh),Ag x.used,.lst false 2 x.rg.length (PY x.rg),Cn (x.sus),A0 x.since,A0 x.last]
def WK(used leaf:Int):Bool:=used.toNat.testBit leaf.toNat
theorem Ajz{a b:Int}(d:0<=a)(c:a<=18446744073709551615)(f:0<=b)(Gf:b<=18446744073709551615):C5 .u64 a b=((a.toNat &&& b.toNat:Nat):Int):=by
 have e:(BitVec.ofInt 64 a &&& BitVec.ofInt 64 b).toNat=a.toNat &&& b.toNat:=by
  rw[BitVec.toNat_and,BitVec.toNat_ofInt,BitVec.toNat_ofInt]
  congr 1<;>omega
 have IV:a.toNat &&& b.toNat<=a.toNat:=Nat.and_le_left;show wrap .u64 ((BitVec.ofInt 64 a &&& BitVec.ofInt 64 b).toNat:Int)=_;rw[e];exact Do
theorem A23{a b:Int}(d:0<=a)(c:a<=18446744073709551615)(f:0<=b)(Gf:b<=18446744073709551615):Vg .u64 a b=((a.toNat ||| b.toNat:Nat):Int):=by
 have e:(BitVec.ofInt 64 a ||| BitVec.ofInt 64 b).toNat=a.toNat ||| b.toNat:=by
  rw[BitVec.toNat_or,BitVec.toNat_ofInt,BitVec.toNat_ofInt]
  congr 1<;>omega
 have Cs:a.toNat ||| b.toNat<2 ^ 64:=Nat.or_lt_two_pow Ω Ω;show wrap .u64 ((BitVec.ofInt 64 a ||| BitVec.ofInt 64 b).toNat:Int)=_;rw[e];exact Do
theorem MY{n:Nat}(h:n<=15):(2:Nat) ^ n<=32768:=Nat.le_trans (Nat.pow_le_pow_right Ω h) Δ
theorem Bbf{k:Int}(a:0<=k)(b:k<=15):Dx .u64 1 k=((2 ^ k.toNat:Nat):Int):=by
 have hp:=MY (n:=k.toNat) Ω;have e:min k.toNat IntKind.u64.bits=k.toNat:=Nat.min_eq_left (by show k.toNat<=64;omega)
 show wrap .u64 (1*2 ^ (min k.toNat IntKind.u64.bits))=_;rw[e,Int.one_mul,show (2:Int) ^ k.toNat=((2 ^ k.toNat:Nat):Int) by simp];generalize 2 ^ k.toNat=m at hp ⊢;exact Do
theorem Bcv{k:Int}(a:0<=k)(b:k<=15):Dx .i64 1 k=((2 ^ k.toNat:Nat):Int):=by
 have hp:=MY (n:=k.toNat) Ω;have e:min k.toNat IntKind.i64.bits=k.toNat:=Nat.min_eq_left (by show k.toNat<=64;omega)
 show wrap .i64 (1*2 ^ (min k.toNat IntKind.i64.bits))=_;rw[e,Int.one_mul,show (2:Int) ^ k.toNat=((2 ^ k.toNat:Nat):Int) by simp];generalize 2 ^ k.toNat=m at hp ⊢;exact Bc
theorem A2c(a k:Nat):(a &&& 2 ^ k≠0)↔a.testBit k=true:=by
 constructor
 ·intro h;cases b:a.testBit k
  ·refine absurd (Nat.eq_of_testBit_eq λi=>?_) h;rw[Nat.testBit_and,Nat.testBit_two_pow,Nat.zero_testBit];by_cases e:k=i
   ·subst e;simp[b]
   ·simp[e]
  ·rfl
 ·intro h e;have:=Nat.testBit_and a (2 ^ k) k;rw[e,Nat.zero_testBit,h,Nat.testBit_two_pow] at this;simp at this
theorem Aqo{u k:Int}(c:0<=u)(a:u<=18446744073709551615)(d:0<=k)(e:k<=15):(C5 .u64 u (Dx .u64 1 k) != 0)=WK u k:=by
 have hp:=MY (n:=k.toNat) Ω;have:=A2c u.toNat k.toNat;unfold WK;rw[Bbf d e];generalize 2 ^ k.toNat=m at hp this ⊢;rw[Ajz c a Ω Ω,H8];cases b:u.toNat.testBit k.toNat
 ·rw[b] at this;simp only[ne_eq,Bool.false_eq_true,iff_false,Decidable.not_not] at this;rw[this];rfl
 ·rw[b] at this;simp only[ne_eq,iff_true] at this;simp only[bne_iff_ne,ne_eq];omega
theorem Al2{u k:Int}(a:0<=u)(b:u<=18446744073709551615)(d:0<=k)(f:k<=15):(C5 .u64 (Gs .u64 u k) 1==1)=WK u k:=by
 have e:Gs .u64 u k=((u.toNat >>> k.toNat:Nat):Int):=by
  unfold Gs;rw[Nat.shiftRight_eq_div_pow];obtain⟨n,rfl⟩:=Int.eq_ofNat_of_zero_le a;rw[Int.fdiv_eq_ediv_of_nonneg _ (by exact Int.le_of_lt (Int.pow_pos Ω)),Nat.min_eq_left (by show k.toNat<=64;omega)]
  simp
 have IV:u.toNat >>> k.toNat<=u.toNat:=by rw[Nat.shiftRight_eq_div_pow];exact Nat.div_le_self _ _
 have c:C5 .u64 ((u.toNat >>> k.toNat:Nat):Int) 1=((u.toNat >>> k.toNat % 2:Nat):Int):=by
  generalize u.toNat >>> k.toNat=m at IV ⊢;rw[Ajz Ω Ω Ω Ω,H8,show Int.toNat 1=1 from rfl,Nat.and_one_is_mod]
 rw[e,c];unfold WK;rw[Nat.testBit_eq_decide_div_mod_eq,Nat.shiftRight_eq_div_pow];rw[Bool.eq_iff_iff];simp only[beq_iff_eq,JI];generalize u.toNat / 2 ^ k.toNat=m;omega
def Asr(u k:Int):Int:=Vg .u64 u (Dx .u64 1 k)
theorem A6e{u k:Int}(b:0<=u)(a:u<=18446744073709551615)(c:0<=k)(d:k<=15):0<=Asr u k/\Asr u k<=18446744073709551615:=by have hp:=MY (n:=k.toNat) Ω;unfold Asr;rw[Bbf c d];generalize 2 ^ k.toNat=m at hp ⊢;rw[A23 b a Ω Ω];have Cs:u.toNat ||| ((m:Nat):Int).toNat<2 ^ 64:=Nat.or_lt_two_pow Ω Ω;omega
def put(f lf:Int):List (Int × Int)->Option (List (Int × Int))
 |[]=>some [(f,lf)]
 |p::r=>if p.1<f then (put f lf r).map (p :: ·) else if p.1=f then (if lf<=p.2 then none else some ((f,lf)::r)) else some ((f,lf)::p::r)
def Asc:List (Int × Int)->Prop
 |[]=>True
 |p::r=>(∀q∈r,p.1<q.1)/\Asc r
theorem Apv{f lf:Int}:∀{l r:List (Int × Int)},put f lf l=some r->∀q∈r,q=(f,lf)\/q∈l
 |[],r,h,q,a=>by cases h;simp at a;exact .inl a
 |p::l,r,h,q,a=>by
  unfold put at h;split at h
  ·cases hp:put f lf l with
   |none=>rw[hp] at h;cases h
   |some r'=>
    rw[hp] at h;cases h;rcases List.mem_cons.1 a with rfl|a
    ·exact .inr Ψ
    ·exact (Apv hp q a).imp id λh=>by simp[h]
  ·split at h
   ·split at h
    ·cases h
    ·cases h;rcases List.mem_cons.1 a with rfl|a
     ·exact .inl rfl
     ·exact .inr (by simp[a])
   ·cases h;rcases List.mem_cons.1 a with rfl|a
    ·exact .inl rfl
    ·exact .inr a
theorem Ao0{f lf:Int}:∀{l r:List (Int × Int)},Asc l->put f lf l=some r->Asc r
 |[],r,_,h=>by cases h;exact⟨Ψ,trivial⟩
 |p::l,r,b,h=>by
  unfold put at h;split at h
  ·rename_i c;cases hp:put f lf l with
   |none=>rw[hp] at h;cases h
   |some r'=>
    rw[hp] at h;cases h;refine⟨λq a=>?_,Ao0 b.2 hp⟩;rcases Apv hp q a with rfl|a
    ·exact c
    ·exact b.1 q a
  ·split at h
   ·rename_i d;split at h
    ·cases h
    ·cases h;exact⟨λq a=>by have:=b.1 q a;simp only;omega,b.2⟩
   ·cases h;refine⟨λq a=>?_,b⟩;rcases List.mem_cons.1 a with rfl|a
    ·simp only;omega
    ·have:=b.1 q a;simp only;omega
def Tu(c:Sd)(leaf from_:Int):Bool:=decide (c.ht<0)||decide (c.ht>4)||decide (from_<0)||decide (from_>leaf)||decide (leaf>=Dx .i64 1 c.ht)
def Lo(c:Sd)(leaf from_ now:Int):Sd × Int:=
 if Tu c leaf from_=true then (c,9)
 else if c.sus=true then (c,39)
 else if WK c.used leaf=true then ({ c with sus:=true },37)
 else match put from_ leaf c.rg with
  |none=>(c,37)
  |some r=>({ c with used:=Asr c.used leaf,rg:=r,last:=now },0)
structure Sd.ok(c:Sd):Prop where
 idB:Ce c.id
 idL:c.id.length<=1000000
 u0:0<=c.used
 u1:c.used<=18446744073709551615
 asc:Asc c.rg
 rgn:c.rg.length<=1000
theorem Aqc{f lf:Int}:∀{l r:List (Int × Int)},put f lf l=some r->r.length<=l.length+1
 |[],r,h=>by cases h;simp
 |p::l,r,h=>by
  unfold put at h;split at h
  ·cases hp:put f lf l with
   |none=>rw[hp] at h;cases h
   |some r'=>
    rw[hp] at h;cases h;have:=Aqc hp;simp;omega
  ·split at h
   ·split at h
    ·cases h
    ·cases h;simp
   ·cases h;simp
theorem JW{c:Sd}{leaf from_:Int}(h:Tu c leaf from_=false):0<=from_/\from_<=leaf/\leaf<=15/\0<=c.ht/\c.ht<=4/\leaf<((2 ^ c.ht.toNat:Nat):Int):=by
 unfold Tu at h;simp only[Bool.or_eq_false_iff,decide_eq_false_iff_not] at h;obtain⟨⟨⟨⟨d,e⟩,f⟩,g⟩,a⟩:=h;rw[Bcv Ω Ω] at a;have hp:(2:Nat) ^ c.ht.toNat<=2 ^ 4:=Nat.pow_le_pow_right Ω Ω;have b:(2:Nat) ^ 4=16:=Δ
 omega
section
variable {B:FuncId->Option (Ae->Option A8)}(u d:Nat)(F:Ao)
theorem BS{p:Option (Ae->Option A8)}(u d:Nat)(Z Y X:Int):Ac (CP p) prog u (d+1) 102 [Z,Y,X]=(λ(F:Ao)=>Aq (decide (Z>=Y)) (Bd [Cn (decide (Z<=X))]) (Bd [false])) (Ac (CP p) prog u d):=Κ
def Wl(Z:Nat)(Y:Ae)(X W:Int)(V U:Int)(T:Bool)(S:Int)(Q:Nat)(P:Ae)(O:Bool)(N M:Int)(L K J:Int)(I:Nat)(H G E:Int)(D:Nat)(B A:Int)(z w:Int)(v:Bool)(a:Int)(t:Nat)(ZQ:Bool)(y12 ZJ:Int)(SY b:Ae)(OW:Nat)(c UZ:Int)(NY OC:Int)(OD:Bool)(OA:Int)(OE:Nat)(OG:Bool)(NV NZ:Int)(FK NW:Ae):Option A8:=H6 u F 38 Tryz.f38 [.agg [Ap 1 Z Y,X,Ag W,Ag V,U,T,Ag S,Ap 2 Q P,O,N,M],L,K,J] [.r,.r,.r] I ⟨lk [(1,H),(2,G),(3,E),(4,.ptr 4 0),(8,.ptr 8 0)],Fe [(4,.st [.view 120 1 0 D,B,Ag A,Ag z,w,v,Ag a,.view 932 2 0 t,ZQ,y12,ZJ]),(120,.ar false SY),(932,.ar false b),(8,.st [.view 124 1 0 OW,c,Ag UZ,Ag NY,OC,OD,Ag OA,.view 936 2 0 OE,OG,NV,NZ]),(124,.ar false FK),(936,.ar false NW)]⟩
def Oj(Z:Nat)(Y:Ae)(X W:Int)(V U:Int)(T:Bool)(S:Int)(Q:Nat)(P:Ae)(O:Bool)(N M:Int)(L K J:Int)(I:Nat)(H G:Int)(E D B:Int)(A:Nat)(z w:Int)(v a:Int)(t:Bool)(ZQ:Int)(y12:Nat)(ZJ:Bool)(SY b:Int)(OW c:Ae)(UZ:Nat)(NY OC:Int)(OD OA:Int)(OE:Bool)(OG:Int)(NV:Nat)(NZ:Bool)(FK NW:Int)(VU d:Ae):Option A8:=H6 u F 38 Tryz.f38 [.agg [Ap 1 Z Y,X,Ag W,Ag V,U,T,Ag S,Ap 2 Q P,O,N,M],L,K,J] [.r,.r,.r,.r,.r,.r,.r,.r,.l,.l] I ⟨lk [(1,H),(2,G),(3,E),(4,.ptr 4 0),(8,.ptr 8 0),(11,Ag D),(12,B)],Fe [(4,.st [.view 120 1 0 A,z,Ag w,Ag v,a,t,Ag ZQ,.view 932 2 0 y12,ZJ,SY,b]),(120,.ar false OW),(932,.ar false c),(8,.st [.view 124 1 0 UZ,NY,Ag OC,Ag OD,OA,OE,Ag OG,.view 936 2 0 NV,NZ,FK,NW]),(124,.ar false VU),(936,.ar false d)]⟩
theorem HC(J:Nat)(I:Ae)(H G:Int)(E D:Int)(B:Bool)(A:Int)(z:Nat)(w:Ae)(v:Bool)(c t:Int)(a1 a2 a3:Int)(U:Nat)(F7:0<U)(T y1 e:Int)(Z:Nat)(S Q:Int)(P O:Int)(N:Bool)(V:Int)(Y:Nat)(M:Bool)(L K:Int)(X W:Ae)(OW:Nat)(d UZ:Int)(NY OC:Int)(OD:Bool)(OA:Int)(OE:Nat)(OG:Bool)(NV NZ:Int)(FK NW:Ae):Wl u F J I H G E D B A z w v c t a1 a2 a3 U T y1 e Z S Q P O N V Y M L K X W OW d UZ NY OC OD OA OE OG NV NZ FK NW=(Aq M (Aw (decide (0+Z*1<=X.length))<|Aw (decide (0+Y*2<=W.length))<|Bd [.agg [Ap 1 Z (List.take (Z*1) (X.drop 0)),S,Ag Q,Ag P,O,N,Ag V,Ap 2 Y (List.take (Y*2) (W.drop 0)),M,L,K],(39:Int)]) (Aw (decide (0<=T))<|Aa (Dx .u64 1 T) λa=>Aa (C5 .u64 V a) λb=>Aq (b != 0) (Aw (decide (0+Z*1<=X.length))<|Aw (decide (0+Y*2<=W.length))<|Bd [.agg [Ap 1 Z (List.take (Z*1) (X.drop 0)),S,Ag Q,Ag P,O,N,Ag V,Ap 2 Y (List.take (Y*2) (W.drop 0)),true,L,K],(37:Int)]) (Oj u F J I H G E D B A z w v c t a1 a2 a3 u T y1 e a 0 Z S Q P O N V Y M L K X W OW d UZ NY OC OD OA OE OG NV NZ FK NW))):=by cases U with|zero=>exact absurd F7 (Nat.lt_irrefl 0)|succ U=>kernel_rfl
theorem HG(G:Nat)(E:Ae)(D B:Int)(A z:Int)(w:Bool)(v:Int)(d:Nat)(t:Ae)(Al0:Bool)(Amw WG:Int)(a1 a2 a3:Int)(nn:Nat)(U K:Int)(J I Z:Int)(X:Nat)(T S:Int)(Q P:Int)(O:Bool)(N:Int)(Y:Nat)(M:Bool)(L H:Int)(V W:Ae)(UZ:Nat)(NY OC:Int)(OD OA:Int)(OE:Bool)(OG:Int)(NV:Nat)(NZ:Bool)(FK NW:Int)(VU f:Ae):Oj u F G E D B A z w v d t Al0 Amw WG a1 a2 a3 (nn+1) U K J I Z X T S Q P O N Y M L H V W UZ NY OC OD OA OE OG NV NZ FK NW VU f=(Aq (decide (Z<(↑Y:Int))) (Aw (decide (0<=Z)&&decide (Z<(↑Y:Int)))<|Bn .i64 (W.getD (0+Z.toNat*2+0) .top) λa=>Aq (decide (a<K)) (Aa (wrap .i64 (Z+1)) λa=>Oj u F G E D B A z w v d t Al0 Amw WG a1 a2 a3 nn U K J I a X T S Q P O N Y M L H V W UZ NY OC OD OA OE OG NV NZ FK NW VU f) (Aq (Z==(↑Y:Int)) (Aw (decide (Y*2<=W.length))<|An (F 82 [.own 2 Y (W.take (Y*2)),Z,PV.tup [.own 2 1 [K,U]]]) λa b=>ZzO 2 a λa c e=>Ah e<|Ad b λb e=>Ah e<|Aw (decide (0<=Z)&&decide (Z<(↑a:Int)))<|Aw (decide (0+Z.toNat*2+1+1<=c.length))<|Aa (B1 c [U] (0+Z.toNat*2+1)) λb=>Aa (Vg .u64 N I) λc=>Aw (decide (0+X*1<=V.length))<|Aw (decide (0+a*2<=b.length))<|Bd [.agg [Ap 1 X (List.take (X*1) (V.drop 0)),T,Ag S,Ag Q,P,O,Ag c,Ap 2 a (List.take (a*2) (b.drop 0)),M,L,J],(0:Int)]) (Aw (decide (0<=Z)&&decide (Z<(↑Y:Int)))<|Bn .i64 (W.getD (0+Z.toNat*2+0) .top) λa=>Aq (a != K) (Aw (decide (Y*2<=W.length))<|An (F 82 [.own 2 Y (W.take (Y*2)),Z,PV.tup [.own 2 1 [K,U]]]) λa b=>ZzO 2 a λa c e=>Ah e<|Ad b λb e=>Ah e<|Aw (decide (0<=Z)&&decide (Z<(↑a:Int)))<|Aw (decide (0+Z.toNat*2+1+1<=c.length))<|Aa (B1 c [U] (0+Z.toNat*2+1)) λb=>Aa (Vg .u64 N I) λc=>Aw (decide (0+X*1<=V.length))<|Aw (decide (0+a*2<=b.length))<|Bd [.agg [Ap 1 X (List.take (X*1) (V.drop 0)),T,Ag S,Ag Q,P,O,Ag c,Ap 2 a (List.take (a*2) (b.drop 0)),M,L,J],(0:Int)]) (Aw (decide (0<=Z)&&decide (Z<(↑Y:Int)))<|Bn .i64 (W.getD (0+Z.toNat*2+1) .top) λa=>Aq (decide (a>=U)) (Aw (decide (0+X*1<=V.length))<|Aw (decide (0+Y*2<=W.length))<|Bd [.agg [Ap 1 X (List.take (X*1) (V.drop 0)),T,Ag S,Ag Q,P,O,Ag N,Ap 2 Y (List.take (Y*2) (W.drop 0)),M,L,H],(37:Int)]) (Aw (decide (0<=Z)&&decide (Z<(↑Y:Int)))<|Aw (decide (0+Z.toNat*2+1+1<=W.length))<|Aa (B1 W [U] (0+Z.toNat*2+1)) λa=>Aa (Vg .u64 N I) λb=>Aw (decide (0+X*1<=V.length))<|Aw (decide (0+Y*2<=a.length))<|Bd [.agg [Ap 1 X (List.take (X*1) (V.drop 0)),T,Ag S,Ag Q,P,O,Ag b,Ap 2 Y (List.take (Y*2) (a.drop 0)),M,L,J],(0:Int)]))))) (Aq (Z==(↑Y:Int)) (Aw (decide (Y*2<=W.length))<|An (F 82 [.own 2 Y (W.take (Y*2)),Z,PV.tup [.own 2 1 [K,U]]]) λa b=>ZzO 2 a λa c e=>Ah e<|Ad b λb e=>Ah e<|Aw (decide (0<=Z)&&decide (Z<(↑a:Int)))<|Aw (decide (0+Z.toNat*2+1+1<=c.length))<|Aa (B1 c [U] (0+Z.toNat*2+1)) λb=>Aa (Vg .u64 N I) λc=>Aw (decide (0+X*1<=V.length))<|Aw (decide (0+a*2<=b.length))<|Bd [.agg [Ap 1 X (List.take (X*1) (V.drop 0)),T,Ag S,Ag Q,P,O,Ag c,Ap 2 a (List.take (a*2) (b.drop 0)),M,L,J],(0:Int)]) (Aw (decide (0<=Z)&&decide (Z<(↑Y:Int)))<|Bn .i64 (W.getD (0+Z.toNat*2+0) .top) λa=>Aq (a != K) (Aw (decide (Y*2<=W.length))<|An (F 82 [.own 2 Y (W.take (Y*2)),Z,PV.tup [.own 2 1 [K,U]]]) λa b=>ZzO 2 a λa c e=>Ah e<|Ad b λb e=>Ah e<|Aw (decide (0<=Z)&&decide (Z<(↑a:Int)))<|Aw (decide (0+Z.toNat*2+1+1<=c.length))<|Aa (B1 c [U] (0+Z.toNat*2+1)) λb=>Aa (Vg .u64 N I) λc=>Aw (decide (0+X*1<=V.length))<|Aw (decide (0+a*2<=b.length))<|Bd [.agg [Ap 1 X (List.take (X*1) (V.drop 0)),T,Ag S,Ag Q,P,O,Ag c,Ap 2 a (List.take (a*2) (b.drop 0)),M,L,J],(0:Int)]) (Aw (decide (0<=Z)&&decide (Z<(↑Y:Int)))<|Bn .i64 (W.getD (0+Z.toNat*2+1) .top) λa=>Aq (decide (a>=U)) (Aw (decide (0+X*1<=V.length))<|Aw (decide (0+Y*2<=W.length))<|Bd [.agg [Ap 1 X (List.take (X*1) (V.drop 0)),T,Ag S,Ag Q,P,O,Ag N,Ap 2 Y (List.take (Y*2) (W.drop 0)),M,L,H],(37:Int)]) (Aw (decide (0<=Z)&&decide (Z<(↑Y:Int)))<|Aw (decide (0+Z.toNat*2+1+1<=W.length))<|Aa (B1 W [U] (0+Z.toNat*2+1)) λa=>Aa (Vg .u64 N I) λb=>Aw (decide (0+X*1<=V.length))<|Aw (decide (0+Y*2<=a.length))<|Bd [.agg [Ap 1 X (List.take (X*1) (V.drop 0)),T,Ag S,Ag Q,P,O,Ag b,Ap 2 Y (List.take (Y*2) (a.drop 0)),M,L,J],(0:Int)]))))):=Κ
theorem PE{p:Option (Ae->Option A8)}(u d X:Nat)(W:Ae)(V U:Int)(T S:Int)(Q:Bool)(P:Int)(O:Nat)(N:Ae)(M:Bool)(L K:Int)(Z Y J:Int):Ac (CP p) prog u (d+1) 38 [.agg [Ap 1 X W,V,Ag U,Ag T,S,Q,Ag P,Ap 2 O N,M,L,K],Z,Y,J]=(λ(F:Ao)=>De (F 81 [.agg [Ap 1 X W,V,Ag U,Ag T,S,Q,Ag P,Ap 2 O N,M,L,K]]) λa b=>Dr a λa=>ZzO 1 a λa c e=>Bw .i64 e λe f=>Bw .u64 f λf g=>Bw .u64 g λg h=>Bw .i64 h λh i=>Ad i λi j=>Be i λi=>Bw .u64 j λj k=>ZzO 2 k λk m n=>Ad n λn o=>Be n λn=>Bw .i64 o λo q=>Br .i64 q λq=>Ah b<|Aq (decide (e<0)) (Aw (decide (0+a*1<=c.length))<|Aw (decide (0+k*2<=m.length))<|Bd [.agg [Ap 1 a (List.take (a*1) (c.drop 0)),e,Ag f,Ag g,h,i,Ag j,Ap 2 k (List.take (k*2) (m.drop 0)),n,o,q],(9:Int)]) (Aq (decide (e>4)) (Aw (decide (0+a*1<=c.length))<|Aw (decide (0+k*2<=m.length))<|Bd [.agg [Ap 1 a (List.take (a*1) (c.drop 0)),e,Ag f,Ag g,h,i,Ag j,Ap 2 k (List.take (k*2) (m.drop 0)),n,o,q],(9:Int)]) (Aq (decide (Y<0)) (Aw (decide (0+a*1<=c.length))<|Aw (decide (0+k*2<=m.length))<|Bd [.agg [Ap 1 a (List.take (a*1) (c.drop 0)),e,Ag f,Ag g,h,i,Ag j,Ap 2 k (List.take (k*2) (m.drop 0)),n,o,q],(9:Int)]) (Aq (decide (Y>Z)) (Aw (decide (0+a*1<=c.length))<|Aw (decide (0+k*2<=m.length))<|Bd [.agg [Ap 1 a (List.take (a*1) (c.drop 0)),e,Ag f,Ag g,h,i,Ag j,Ap 2 k (List.take (k*2) (m.drop 0)),n,o,q],(9:Int)]) (Aw (decide (0<=e))<|Aa (Dx .i64 1 e) λb=>Aq (decide (Z>=b)) (Aw (decide (0+a*1<=c.length))<|Aw (decide (0+k*2<=m.length))<|Bd [.agg [Ap 1 a (List.take (a*1) (c.drop 0)),e,Ag f,Ag g,h,i,Ag j,Ap 2 k (List.take (k*2) (m.drop 0)),n,o,q],(9:Int)]) (Wl u F X W V U T S Q P O N M L K Z Y J u Z Y J a e f g h i j k n o q c m 0 0 0 0 0 false 0 0 false 0 0 ([]) ([]))))))) (Ac (CP p) prog u d):=Κ
end
section
variable {B:FuncId->Option (Ae->Option A8)}(u d:Nat)(F:Ao)
def Gx(Z:Nat)(Y:Ae)(X W:Int)(V U:Int)(T:Bool)(S:Int)(Q:Nat)(P:Ae)(O:Bool)(N M:Int)(L K J:Int)(I:Nat)(H G E:Int)(D:Bool)(B:Nat)(A:Ae)(z w:Int)(v a:Int)(t:Bool)(ZQ:Int)(y12:Nat)(ZJ:Ae)(SY:Bool)(b OW:Int)(c:Nat)(UZ NY:Int)(OC OD:Int)(OA:Bool)(OE:Int)(OG:Nat)(NV:Bool)(NZ FK:Int)(NW VU:Ae):Option A8:=H6 u F 60 Tryz.f60 [.agg [Ap 1 Z Y,X,Ag W,Ag V,U,T,Ag S,Ap 2 Q P,O,N,M],L,K,J] [.r,.l,.l] I ⟨lk [(1,H),(2,G),(3,E),(4,.ptr 4 0),(8,.ptr 8 0),(14,D)],Fe [(4,.st [Ap 1 B A,z,Ag w,Ag v,a,t,Ag ZQ,Ap 2 y12 ZJ,SY,b,OW]),(8,.st [.view 122 1 0 c,UZ,Ag NY,Ag OC,OD,OA,Ag OE,.view 920 2 0 OG,NV,NZ,FK]),(122,.ar false NW),(920,.ar false VU)]⟩
def Fi(Z:Nat)(Y:Ae)(X W:Int)(V U:Int)(T:Bool)(S:Int)(Q:Nat)(P:Ae)(O:Bool)(N M:Int)(L K J:Int)(I:Nat)(H G E:Int)(D:Nat)(B:Bool)(A:Int)(z:Nat)(w:Ae)(v a:Int)(t ZQ:Int)(y12:Bool)(ZJ:Int)(SY:Nat)(b:Ae)(OW:Bool)(c UZ:Int)(NY:Nat)(OC OD:Int)(OA OE:Int)(OG:Bool)(NV:Int)(NZ:Nat)(FK:Bool)(NW VU:Int)(d e f:Ae):Option A8:=H6 u F 60 Tryz.f60 [.agg [Ap 1 Z Y,X,Ag W,Ag V,U,T,Ag S,Ap 2 Q P,O,N,M],L,K,J] [.r,.r,.r,.r,.l,.r,.l] I ⟨lk [(1,H),(2,G),(3,E),(4,.ptr 4 0),(8,.ptr 8 0),(10,.view 10 2 0 D),(11,B),(12,A)],Fe [(4,.st [Ap 1 z w,v,Ag a,Ag t,ZQ,y12,Ag ZJ,Ap 2 SY b,OW,c,UZ]),(8,.st [.view 122 1 0 NY,OC,Ag OD,Ag OA,OE,OG,Ag NV,.view 920 2 0 NZ,FK,NW,VU]),(122,.ar false d),(920,.ar false e),(10,.ar false f)]⟩
theorem Me(J:Nat)(I:Ae)(H G:Int)(E D:Int)(B:Bool)(A:Int)(z:Nat)(w:Ae)(v:Bool)(c t:Int)(a1 a2 a3:Int)(L:Nat)(F7:0<L)(K y1 e:Int)(y3:Bool)(Y:Nat)(X:Ae)(W V:Int)(U T:Int)(S:Bool)(Z:Int)(Q:Nat)(P:Ae)(O:Bool)(N M:Int)(d:Nat)(UZ NY:Int)(OC OD:Int)(OA:Bool)(OE:Int)(OG:Nat)(NV:Bool)(NZ FK:Int)(NW VU:Ae):Gx u F J I H G E D B A z w v c t a1 a2 a3 L K y1 e y3 Y X W V U T S Z Q P O N M d UZ NY OC OD OA OE OG NV NZ FK NW VU=((λb:PV=>Aq y3 (Bd [b,(9:Int)]) (Aq O (Bd [b,(39:Int)]) (Aa (wrap .u64 K) λa=>Aw (decide (0<=a))<|Aa (Gs .u64 Z a) λa=>Aa (C5 .u64 a 1) λa=>Aq (a==1) (Bd [.agg [Ap 1 Y X,W,Ag V,Ag U,T,S,Ag Z,Ap 2 Q P,true,N,M],(37:Int)]) (Fi u F J I H G E D B A z w v c t a1 a2 a3 u K y1 e 0 false 0 Y X W V U T S Z Q P O N M d UZ NY OC OD OA OE OG NV NZ FK NW VU ([]))))) (.agg [Ap 1 Y X,W,Ag V,Ag U,T,S,Ag Z,Ap 2 Q P,O,N,M])):=by cases L with|zero=>exact absurd F7 (Nat.lt_irrefl 0)|succ L=>kernel_rfl
theorem Xl(E:Nat)(D:Ae)(B A:Int)(z w:Int)(v:Bool)(d:Int)(t:Nat)(Asy:Ae)(Al0:Bool)(Amw WG:Int)(a1 a2 a3:Int)(nn:Nat)(Z Y H:Int)(W:Nat)(y4:Bool)(X:Int)(V:Nat)(U:Ae)(T S:Int)(Q P:Int)(O:Bool)(N:Int)(M:Nat)(L:Ae)(K:Bool)(J G:Int)(NY:Nat)(OC OD:Int)(OA OE:Int)(OG:Bool)(NV:Int)(NZ:Nat)(FK:Bool)(NW VU:Int)(h i I:Ae):Fi u F E D B A z w v d t Asy Al0 Amw WG a1 a2 a3 (nn+1) Z Y H W y4 X V U T S Q P O N M L K J G NY OC OD OA OE OG NV NZ FK NW VU h i I=(Aq (decide (X<(↑M:Int))) (Aw (decide (0<=X)&&decide (X<(↑M:Int)))<|Bn .i64 (L.getD (X.toNat*2) .top) λa=>Bn .i64 (L.getD (X.toNat*2+1) .top) λb=>(λf:Option A8=>(λg:Option A8=>Aq (a==Y) (Aq (decide (b>=Z)) (Bd [.agg [Ap 1 V U,T,Ag S,Ag Q,P,O,Ag N,Ap 2 M L,K,J,G],(37:Int)]) (Aq (decide (a>Y)) f f)) (Aq (decide (a>Y)) (Aq (!y4) (ZzA W 2 16 I [Y,Z] λc e=>ZzA c 2 16 e [a,b] λa b=>Aa (wrap .i64 (X+1)) λc=>Fi u F E D B A z w v d t Asy Al0 Amw WG a1 a2 a3 nn Z Y H a true c V U T S Q P O N M L K J G NY OC OD OA OE OG NV NZ FK NW VU h i b) g) g)) (ZzA W 2 16 I [a,b] λa b=>Aa (wrap .i64 (X+1)) λc=>Fi u F E D B A z w v d t Asy Al0 Amw WG a1 a2 a3 nn Z Y H a y4 c V U T S Q P O N M L K J G NY OC OD OA OE OG NV NZ FK NW VU h i b)) (ZzA W 2 16 I [a,Z] λa b=>Aa (wrap .i64 (X+1)) λc=>Fi u F E D B A z w v d t Asy Al0 Amw WG a1 a2 a3 nn Z Y H a true c V U T S Q P O N M L K J G NY OC OD OA OE OG NV NZ FK NW VU h i b)) (Aq (!y4) (ZzA W 2 16 I [Y,Z] λa b=>Aa (wrap .u64 Z) λc=>Aw (decide (0<=c))<|Aa (Dx .u64 1 c) λc=>Aa (Vg .u64 N c) λc=>Aw (decide (0+a*2<=b.length))<|Bd [.agg [Ap 1 V U,T,Ag S,Ag Q,P,O,Ag c,Ap 2 a (List.take (a*2) (b.drop 0)),K,J,H],(0:Int)]) (Aa (wrap .u64 Z) λa=>Aw (decide (0<=a))<|Aa (Dx .u64 1 a) λa=>Aa (Vg .u64 N a) λa=>Aw (decide (0+W*2<=I.length))<|Bd [.agg [Ap 1 V U,T,Ag S,Ag Q,P,O,Ag a,Ap 2 W (List.take (W*2) (I.drop 0)),K,J,H],(0:Int)]))):=Κ
theorem BZ{p:Option (Ae->Option A8)}(u d W:Nat)(V:Ae)(Z U:Int)(T S:Int)(Q:Bool)(P:Int)(O:Nat)(N:Ae)(M:Bool)(L K:Int)(Y X J:Int):Ac (CP p) prog u (d+1) 60 [.agg [Ap 1 W V,Z,Ag U,Ag T,S,Q,Ag P,Ap 2 O N,M,L,K],Y,X,J]=(λ(F:Ao)=>De (F 102 [Z,(0:Int),(4:Int)]) λa b=>Be a λa=>(λc:Option A8=>Ah b<|Aq (!a) c (Aq (decide (X<0)) c (Aq (decide (Y<X)) c (Aa (wrap .u64 Z) λa=>Aw (decide (0<=a))<|Aa (Dx .i64 1 a) λa=>Gx u F W V Z U T S Q P O N M L K Y X J u Y X J (decide (Y>=a)) W V Z U T S Q P O N M L K 0 0 0 0 0 false 0 0 false 0 0 ([]) ([]))))) (Gx u F W V Z U T S Q P O N M L K Y X J u Y X J true W V Z U T S Q P O N M L K 0 0 0 0 0 false 0 0 false 0 0 ([]) ([]))) (Ac (CP p) prog u d):=Κ
def E9(Z:Nat)(Y:Ae)(X:Nat)(W:Ae)(V U:Nat)(T:Ae)(S:Nat)(Q:Ae)(P:Int):Option A8:=H6 u F 61 Tryz.f61 [Ap 2 Z Y,Ap 2 X W] [.r,.r,.l,.r,.l] V ⟨lk [(0,Ap 2 U T),(1,Ap 2 S Q),(5,P)],Fe []⟩
theorem Jj(U:Nat)(T:Ae)(S:Nat)(Q:Ae)(P Y:Nat)(X:Ae)(V:Nat)(W:Ae)(Z:Int):E9 u F U T S Q (P+1) Y X V W Z=(Aq (decide (Z<(↑Y:Int))) (Aw (decide (0<=Z)&&decide (Z<(↑Y:Int)))<|Bn .i64 (X.getD (Z.toNat*2) .top) λa=>Bn .i64 (X.getD (Z.toNat*2+1) .top) λb=>Aw (decide (0<=Z)&&decide (Z<(↑V:Int)))<|Bn .i64 (W.getD (Z.toNat*2) .top) λc=>Bn .i64 (W.getD (Z.toNat*2+1) .top) λe=>Aq (!(a==c&&(b==e&&true))) (Bd [false]) (Aa (wrap .i64 (Z+1)) λa=>E9 u F U T S Q P Y X V W a)) (Bd [true])):=Κ
theorem Vq{p:Option (Ae->Option A8)}(u d Z:Nat)(X:Ae)(Y:Nat)(W:Ae):Ac (CP p) prog u (d+1) 61 [Ap 2 Z X,Ap 2 Y W]=(λ(F:Ao)=>Aq ((↑Z:Int) != (↑Y:Int)) (Bd [false]) (E9 u F Z X Y W u Z X Y W 0)) (Ac (CP p) prog u d):=Κ
theorem V0{p:Option (Ae->Option A8)}(u d X:Nat)(Z:Ae)(W V:Int)(U T:Int)(S:Bool)(Q:Int)(P:Nat)(O:Ae)(N:Bool)(M L:Int)(K:Nat)(Y:Ae)(J I:Int)(H G:Int)(E:Bool)(D:Int)(B:Nat)(A:Ae)(z:Bool)(w v:Int):Ac (CP p) prog u (d+1) 27 [.agg [Ap 1 X Z,W,Ag V,Ag U,T,S,Ag Q,Ap 2 P O,N,M,L],.agg [Ap 1 K Y,J,Ag I,Ag H,G,E,Ag D,Ap 2 B A,z,w,v]]=(λ(F:Ao)=>Aw (decide (Z.length=X))<|Dj (H9 Z) λa=>Aw (decide (Y.length=K))<|Dj (H9 Y) λb=>Aq (Array.toList (ByteArray.data (ByteArray.mk (List.toArray a)))==Array.toList (ByteArray.data (ByteArray.mk (List.toArray b)))) (Aq (W==J&&(V==I&&true)) (Aq (U==H) (Aq (T==G) (Aq (S==E) (Aq (Q==D) (De (F 61 [Ap 2 P O,Ap 2 B A]) λa b=>Be a λa=>Ah b<|Aq a (Aq (N==z) (Aq (M==w) (Bd [Cn (L==v)]) (Bd [false])) (Bd [false])) (Bd [false])) (Bd [false])) (Bd [false])) (Bd [false])) (Bd [false])) (Bd [false])) (Bd [false])) (Ac (CP p) prog u d):=Κ
end
section
variable {B:FuncId->Option (Ae->Option A8)}(u d:Nat)(F:Ao)
theorem CO{p:Option (Ae->Option A8)}(u d:Nat)(Y:Int)(X:Bool)(W V:Int)(U:Bool)(T:Int)(S:Bool)(Q:Nat)(P:Ae)(O N:Int)(Z M:Int)(L K:Int)(J:Nat)(I:Ae)(H G:Int):Ac (CP p) prog u (d+1) 77 [.agg [Y,X,W,V,U,T,S,Ap 1 Q P,O],.agg [Ag N,Z,M,L,Ag K,Ap 1 J I,H,Ag G]]=(λ(F:Ao)=>Aa (C5 .i64 Z 1) λa=>Aq (a==0) (Bd [(22:Int)]) (Aq (Y==2) (Aa (C5 .i64 Z 4) λa=>Aq (a==0) (Bd [(23:Int)]) (Bd [(0:Int)])) (Bd [(0:Int)]))) (Ac (CP p) prog u d):=Κ
theorem HH{p:Option (Ae->Option A8)}(u d:Nat)(U:Int)(T:Bool)(S Q:Int)(P:Bool)(O:Int)(Y:Bool)(X:Nat)(W:Ae)(N V Z:Int):Ac (CP p) prog u (d+1) 78 [.agg [U,T,S,Q,P,O,Y,Ap 1 X W,N],Ag V,Z]=(λ(F:Ao)=>Aq (Z==3) (Bd [(39:Int)]) (Aq (Z==4) (Bd [(39:Int)]) (De (F 113 [Ap 1 X W,Ag V]) λa b=>Be a λa=>Ah b<|Aq a (Bd [(40:Int)]) (Aq (Z==2) (Aq (!Y) (Bd [(40:Int)]) (Bd [(0:Int)])) (Bd [(0:Int)]))))) (Ac (CP p) prog u d):=Κ
theorem PP{p:Option (Ae->Option A8)}(u d:Nat)(Z:Int)(Y:Bool)(X W:Int)(V:Bool)(U:Int)(T:Bool)(S:Nat)(Q:Ae)(P M:Int)(O L:Int)(K J:Int)(I:Nat)(H:Ae)(G E:Int)(A:Nat)(z:Ae)(w v:Int)(N c:Int)(D:Bool)(Ahb:Int)(Abx:Nat)(XS:Ae)(Adq:Bool)(Afl MW B:Int):Ac (CP p) prog u (d+1) 36 [.agg [Z,Y,X,W,V,U,T,Ap 1 S Q,P],.agg [Ag M,O,L,K,Ag J,Ap 1 I H,G,Ag E],.agg [Ap 1 A z,w,Ag v,Ag N,c,D,Ag Ahb,Ap 2 Abx XS,Adq,Afl,MW],B]=(λ(F:Ao)=>(λb:PV=>Gm .i64 (F 77 [b,.agg [Ag M,O,L,K,Ag J,Ap 1 I H,G,Ag E]]) λa=>Aq (a != 0) (Bd [a]) (Aa (C5 .i64 O 8) λa=>Aq (!(a != 0)==D) (Bd [(40:Int)]) (Aq (N==0) (Bd [(0:Int)]) (Gm .i64 (F 78 [b,Ag N,B]) λa=>Bd [a])))) (.agg [Z,Y,X,W,V,U,T,Ap 1 S Q,P])) (Ac (CP p) prog u d):=Κ
theorem AF{p:Option (Ae->Option A8)}(u d:Nat)(Y:Int)(X:Bool)(W V:Int)(U:Bool)(T:Int)(S:Bool)(Q:Nat)(P:Ae)(O Z:Int):Ac (CP p) prog u (d+1) 99 [.agg [Y,X,W,V,U,T,S,Ap 1 Q P,O],Z]=(λ(F:Ao)=>Aa (C5 .i64 Z 1) λa=>Aq (a==0) (Bd [(22:Int)]) (Aq (Y==2) (Aa (C5 .i64 Z 4) λa=>Aq (a==0) (Bd [(23:Int)]) (Bd [(0:Int)])) (Bd [(0:Int)]))) (Ac (CP p) prog u d):=Κ
def Fx(Z:Int)(Y:Bool)(X W:Int)(V:Bool)(U:Int)(T:Bool)(S:Nat)(Q:Ae)(P O N:Int)(M:Nat)(L K:Int)(J I:Int)(H:Bool)(G E:Int)(D:Bool)(B:Int)(A:Bool)(z:Nat)(w:Ae)(v:Int):Option A8:=H6 u F 100 Tryz.f100 [.agg [Z,Y,X,W,V,U,T,Ap 1 S Q,P],Ag O,N] [.r,.r,.l,.r,.l] M ⟨lk [(1,Ag L),(2,K),(3,.ptr 3 0),(7,J)],Fe [(3,.st [I,H,G,E,D,B,A,Ap 1 z w,v])]⟩
theorem Nh(T:Int)(S:Bool)(Q P:Int)(O:Bool)(N:Int)(M:Bool)(L:Nat)(K:Ae)(J I H:Int)(G:Nat)(X W:Int)(Z E:Int)(D:Bool)(B A:Int)(z:Bool)(w:Int)(V:Bool)(Y:Nat)(U:Ae)(v:Int):Fx u F T S Q P O N M L K J I H (G+1) X W Z E D B A z w V Y U v=(Aq (decide (Z<(↑Y:Int))) (Aw (decide (0<=Z)&&decide (Z<(↑Y:Int)))<|Bn .u64 (U.getD (Z.toNat*1) .top) λa=>Aq (a==X) (Bd [(40:Int)]) (Aa (wrap .i64 (Z+1)) λa=>Fx u F T S Q P O N M L K J I H G X W a E D B A z w V Y U v)) (Aq (W==2) (Aq (!V) (Bd [(40:Int)]) (Bd [(0:Int)])) (Bd [(0:Int)]))):=Κ
theorem FE{p:Option (Ae->Option A8)}(u d:Nat)(Y:Int)(X:Bool)(W V:Int)(U:Bool)(T:Int)(S:Bool)(Q:Nat)(P:Ae)(O N Z:Int):Ac (CP p) prog u (d+1) 100 [.agg [Y,X,W,V,U,T,S,Ap 1 Q P,O],Ag N,Z]=(λ(F:Ao)=>Aq (Z==3) (Bd [(39:Int)]) (Aq (Z==4) (Bd [(39:Int)]) (Fx u F Y X W V U T S Q P O N Z u N Z 0 Y X W V U T S Q P O))) (Ac (CP p) prog u d):=Κ
theorem AN{p:Option (Ae->Option A8)}(u d:Nat)(Z:Int)(Y:Bool)(X W:Int)(V:Bool)(U:Int)(T:Bool)(S:Nat)(Q:Ae)(P K:Int)(O J:Int)(I H:Int)(G:Nat)(E:Ae)(D B:Int)(A:Nat)(z:Ae)(w v:Int)(N c:Int)(M:Bool)(Ahb:Int)(Abx:Nat)(XS:Ae)(Adq:Bool)(Afl MW L:Int):Ac (CP p) prog u (d+1) 58 [.agg [Z,Y,X,W,V,U,T,Ap 1 S Q,P],.agg [Ag K,O,J,I,Ag H,Ap 1 G E,D,Ag B],.agg [Ap 1 A z,w,Ag v,Ag N,c,M,Ag Ahb,Ap 2 Abx XS,Adq,Afl,MW],L]=(λ(F:Ao)=>(λb:PV=>Gm .i64 (F 99 [b,O]) λa=>Aq (a != 0) (Bd [a]) (Aa (C5 .i64 O 8) λa=>Aq (!(a != 0)==M) (Bd [(40:Int)]) (Aq (N==0) (Bd [(0:Int)]) (Gm .i64 (F 100 [b,Ag N,L]) λa=>Bd [a])))) (.agg [Z,Y,X,W,V,U,T,Ap 1 S Q,P])) (Ac (CP p) prog u d):=Κ
theorem Xk{p:Option (Ae->Option A8)}(u d Z:Nat)(Y:Ae)(X:Int):Ac (CP p) prog u (d+1) 113 [Ap 1 Z Y,Ag X]=(λ(F:Ao)=>Gm .i64 (F 136 [Ap 1 Z Y,Ag X]) λa=>Bd [Cn (decide (a>=0))]) (Ac (CP p) prog u d):=Κ
def G2(Z:Nat)(Y:Ae)(X:Int)(W V:Nat)(U:Ae)(T S Q:Int):Option A8:=H6 u F 136 Tryz.f136 [Ap 1 Z Y,Ag X] [.r,.l,.r,.l] W ⟨lk [(0,Ap 1 V U),(1,Ag T),(7,S),(8,Q)],Fe []⟩
theorem Mi(U:Nat)(T:Ae)(S:Int)(Q Y:Nat)(X:Ae)(W V Z:Int):G2 u F U T S (Q+1) Y X W V Z=(Aq (decide (Z<V)) (Aw (decide (0<=Z)&&decide (Z<(↑Y:Int)))<|Bn .u64 (X.getD (Z.toNat*1) .top) λa=>Aq (W==a) (Bd [Z]) (Aa (wrap .i64 (Z+1)) λa=>G2 u F U T S Q Y X W V a)) (Bd [(-1:Int)])):=Κ
theorem BN{p:Option (Ae->Option A8)}(u d Z:Nat)(Y:Ae)(X:Int):Ac (CP p) prog u (d+1) 136 [Ap 1 Z Y,Ag X]=(λ(F:Ao)=>G2 u F Z Y X u Z Y X (↑Z:Int) 0) (Ac (CP p) prog u d):=Κ
end
theorem Mz{α:Type}(f:Nat->α)(i:Nat):(List.range (i+1)).map f=(List.range i).map f++[f i]:=by rw[List.range_succ,List.map_append];rfl
section
variable {u d:Nat}
theorem Vf(h:Int):Ac C1 prog u (d+1) 48 [A0 h]=some ⟨[Cn (!Er h)],[]⟩:=by
 rw[EB];unfold Er;by_cases a:h<0
 ·simp(disch:=omega)only[Av,Au,a,decide_true,Bool.true_or,Es]
 ·have e:decide (h<=4) = !decide (h>4):=by
   by_cases c:h<=4
   ·have:¬h>4:=Ω
    simp[c,this]
   ·have:h>4:=Ω
    simp[c,this]
  simp(disch:=omega)only[Av,Au,a,decide_false,Bool.false_or,e]
theorem Am4{ws:Ak}(a:ws.length<=100)(Bg:1000<=u)(dom:Int):Ac C1 prog u (d+4) 47 [A0 dom,.lst false 1 (A7 ws).length (Af .u8 (A7 ws))]=some ⟨[Ag (Fa dom (A7 ws))],[]⟩:=
 LT (B:=ZM) (Y6 ws) (by rw[Ff];omega) Ω (by rw[Ff];omega) dom
theorem RG{F:Ao}{a0 m:Int}:∀(k nn:Nat)(i:Nat),i+k=16->k<nn ->
  Hv u F a0 nn m ((List.range i).map (H7 m)).length (Mv m i) (15-(i:Int)) (Af .i64 ((List.range i).map (H7 m)))=some ⟨[.own 1 18 (Af .i64 (dgs m))],[]⟩
 |_,0,_,_,h=>Ω
 |0,nn+1,i,hi,f=>by
  have e:i=16:=Ω
  subst e;have g:=M4 m 16
  have j:wrap .i64 (Int.tdiv (Mv m 16) 16)=Mv m 16 / 16:=by
   rw[Int.tdiv_eq_ediv_of_nonneg Ω,Bc]
  have l:Int.tmod (Mv m 16) 16=Mv m 16 % 16:=Int.tmod_eq_emod_of_nonneg Ω
  have n:Af .i64 ((List.range 16).map (H7 m))++[PV.sc (.int .i64 (Mv m 16 / 16)),PV.sc (.int .i64 (Mv m 16 % 16))]=Af .i64 (dgs m):=by
   unfold dgs;rw[Af,Af,List.flatMap_append];rfl
  have L:(Af .i64 (dgs m)).length=18:=by rw[Am,Apg]
  have o:List.take 18 (Af .i64 (dgs m))=Af .i64 (dgs m):=Jo Ω;have a:((List.range 16).map (H7 m)).length=16:=Ψ
  have L16:=Am .i64 ((List.range 16).map (H7 m));have b:=PH .i64 ((List.range 16).map (H7 m));rw[a] at L16 b ⊢;rw[N5,Fd _ _ _ Ω];simp(disch:=omega)only[Av,Au,j,l,Jy,b,n,L16,Nat.reduceAdd,L,o]
 |k+1,nn+1,i,hi,f=>by
  have d:=RG (F:=F) (a0:=a0) (m:=m) k nn (i+1) Ω Ω;have t:=Wd m i;have g:=M4 m i;have p:wrap .i64 (4*(15-(i:Int)))=60-4*(i:Int):=Bi
  have q:wrap .u64 (60-4*(i:Int))=60-4*(i:Int):=Do;have hd:wrap .i64 (C5 .u64 (Gs .u64 m (60-4*(i:Int))) 15)=H7 m i:=rfl;have c:wrap .i64 (15-H7 m i)=15-H7 m i:=Bc;have r:wrap .i64 (Mv m i+(15-H7 m i))=Mv m (i+1):=by rw[Bc];rfl
  have s:wrap .i64 (15-(i:Int)-1)=15-((i+1:Nat):Int):=Bi
  have L:=Am .i64 ((List.range i).map (H7 m));have a:((List.range i).map (H7 m)).length=i:=Ψ
  rw[Mz,Vl,List.length_singleton,<-Mh] at d;rw[N5];simp(disch:=omega)only[Av,Au,p,q,hd,c,r,s,Jy,PH,L];exact d
theorem Ab3(Bg:1000<=u)(m:Int):Ac C1 prog u (d+1) 89 [Ag m]=some ⟨[.own 1 18 (Af .i64 (dgs m))],[]⟩:=by rw[GZ];exact RG (u:=u) (a0:=m) (m:=m) 16 u 0 Ω Ω
theorem Acb{leaf chain:Int}{a0 a1 a2 a3 a4:Int}(Bg:1000<=u){t:Int}(ht:t<=15):∀(k nn:Nat)(p x:Int),(k:Int)=t-p->0<=p->k<nn ->
  Ja u (Ac C1 prog u (d+4)) a0 a1 a2 a3 a4 nn leaf chain t x p=some ⟨[Ag (Za leaf chain k p x)],[]⟩
 |_,0,_,_,_,_,h=>Ω
 |0,nn+1,p,x,f,hp,g=>by
  rw[Qr];simp only[Fv];rw[Bb Ω,Fd _ _ _ Ω];rfl
 |k+1,nn+1,p,x,f,hp,g=>by
  have w:wrap .i64 (p+1)=p+1:=Bc;have b:Ac C1 prog u (d+4) 45 [.lst false 1 4 [Ag (wrap .u64 leaf),Ag (wrap .u64 chain),Ag (wrap .u64 p),Ag x]]=_:=K1 (B:=ZM) (ws:=[wrap .u64 leaf,wrap .u64 chain,wrap .u64 p,x]) Ψ Ω (by simp;omega)
  have c:=Am4 (u:=u) (d:=d) (ws:=[wrap .u64 leaf,wrap .u64 chain,wrap .u64 p,x]) Ψ Bg 1;have e:=Acb (leaf:=leaf) (chain:=chain) (a0:=a0) (a1:=a1) (a2:=a2) (a3:=a3) (a4:=a4) Bg ht k nn (p+1) (Fa 1 (A7 [wrap .u64 leaf,wrap .u64 chain,wrap .u64 p,x])) Ω Ω Ω;have L:=Am .u8 (A7 [wrap .u64 leaf,wrap .u64 chain,wrap .u64 p,x]);have eR:Za leaf chain (k+1) p x=Za leaf chain k (p+1) (Fa 1 (A7 [wrap .u64 leaf,wrap .u64 chain,wrap .u64 p,x])):=rfl;rw[eR];generalize A7 [wrap .u64 leaf,wrap .u64 chain,wrap .u64 p,x]=W at b c e L ⊢;have a:(if (15:Int)<t then 15 else t)=t:=Bb Ω;rw[Qr]
  simp(disch:=omega)only[Av,Au,a,b,Jy,Ka,Nr,PH,L,c,w];exact e
theorem Ae6{leaf chain:Int}(Bg:1000<=u)(k:Nat)(f t x:Int)(a:(k:Int)=t-f)(b:0<=f)(c:t<=15):Ac C1 prog u (d+5) 90 [A0 leaf,A0 chain,A0 f,A0 t,Ag x]=some ⟨[Ag (Za leaf chain k f x)],[]⟩:=by rw[MR];simp only[Fv];rw[Bb Ω];exact Acb Bg c k u f x a b Ω
theorem VH(Bg:1000<=u)(seed leaf chain:Int):Ac C1 prog u (d+5) 91 [Ag seed,A0 leaf,A0 chain]=some ⟨[Ag (Amk seed leaf chain)],[]⟩:=by
 have a:Ac C1 prog u (d+4) 45 [.lst false 1 2 [Ag (wrap .u64 leaf),Ag (wrap .u64 chain)]]=_:=K1 (B:=ZM) (ws:=[wrap .u64 leaf,wrap .u64 chain]) Ψ Ω (by simp;omega)
 have b:=Apr (B:=ZM) (u:=u) (d:=d) (Y6 [wrap .u64 leaf,wrap .u64 chain]) (by rw[Ff];simp) Ω (by rw[Ff];simp;omega) seed 1
 have L:=Am .u8 (A7 [wrap .u64 leaf,wrap .u64 chain]);rw[ES];unfold Amk;generalize A7 [wrap .u64 leaf,wrap .u64 chain]=W at a b L ⊢;simp(disch:=omega)only[Av,Au,a,Jy,Ka,Nr,PH,L,b]
theorem A2i(Bg:1000<=u)(w:Int):Ac C1 prog u (d+1) 45 [.lst false 1 1 [Ag w]]=some ⟨[.own 1 8 (Af .u8 (B5 w))],[]⟩:=by
 have:=K1 (B:=ZM) (u:=u) (d:=d) (ws:=[w]) Ψ Ω (by simp;omega)
 simp only[A7,L6,List.flatMap_nil,List.append_nil,Ox,SS,C3] at this;exact this
theorem Ait(Bg:1000<=u)(leaf:Int){E:Ak}(j:E.length<=50):Ac C1 prog u (d+5) 123 [A0 leaf,.lst false 1 E.length (Af .u64 E)]=some ⟨[Ag (RU leaf E)],[]⟩:=by
 have c:=A2i (u:=u) (d:=d+3) Bg (wrap .u64 leaf);have e:=K1 (B:=ZM) (u:=u) (d:=d+3) (ws:=E) Ω Ω Ω;have a:=Am4 (u:=u) (d:=d) (ws:=wrap .u64 leaf::E) (by simp;omega) Bg 2
 have eW:A7 (wrap .u64 leaf::E)=B5 (wrap .u64 leaf)++A7 E:=rfl
 have eC:Af .u8 (B5 (wrap .u64 leaf))++Af .u8 (A7 E)=Af .u8 (A7 (wrap .u64 leaf::E)):=by
  rw[eW,Af,Af,Af,List.flatMap_append]
 have l0:(B5 (wrap .u64 leaf)).length=8:=C3 _;have k:=Ff E;have f:(A7 (wrap .u64 leaf::E)).length=8+(A7 E).length:=by rw[eW,Vl,l0]
 have b:=Am .u8 (B5 (wrap .u64 leaf));rw[l0] at b;have g:=Am .u8 (A7 E);have h:=Am .u8 (A7 (wrap .u64 leaf::E));have i:List.take 8 (Af .u8 (B5 (wrap .u64 leaf)))=Af .u8 (B5 (wrap .u64 leaf)):=Jo Ω;have tW:List.take (8+(A7 E).length) (Af .u8 (A7 (wrap .u64 leaf::E)))=Af .u8 (A7 (wrap .u64 leaf::E)):=Jo Ω;rw[f] at a;rw[IU];simp(disch:=omega)only[Av,Au,c,e,Jy,Ka,Nr,PH,i,b,g,eC,h,tW,a];rfl
theorem XO{a0 a1 seed leaf:Int}(Bg:1000<=u):∀(k nn i:Nat),i+k=18->k<nn ->
  Ic u (Ac C1 prog u (d+5)) a0 a1 nn seed leaf ((List.range i).map (Adm seed leaf)).length i (Af .u64 ((List.range i).map (Adm seed leaf)))=some ⟨[Ag (PD seed leaf)],[]⟩
 |_,0,_,_,h=>Ω
 |0,nn+1,i,hi,b=>by
  have e:i=18:=Ω
  subst e;have c:((List.range 18).map (Adm seed leaf)).length=18:=Ψ
  have f:=Ait (u:=u) (d:=d) Bg leaf (E:=(List.range 18).map (Adm seed leaf)) Ω;have L:=Am .u64 ((List.range 18).map (Adm seed leaf));rw[Ot,Fd _ _ _ Ω];simp(disch:=omega)only[Av,Au,Jy,Ka,Nr,PH,L,f];rfl
 |k+1,nn+1,i,hi,b=>by
  have a:=XO (a0:=a0) (a1:=a1) (seed:=seed) (leaf:=leaf) Bg k nn (i+1) Ω Ω;have sc:=VH (u:=u) (d:=d) Bg seed leaf i;have g:=Ae6 (u:=u) (d:=d) (leaf:=leaf) (chain:=i) Bg 15 0 15 (Amk seed leaf i) Ω Ω Ω;have w:wrap .i64 ((i:Int)+1)=((i+1:Nat):Int):=Bi
  have L:=Am .u64 ((List.range i).map (Adm seed leaf));have j:((List.range i).map (Adm seed leaf)).length=i:=Ψ
  rw[Mz,Vl,List.length_singleton,<-Mh] at a;rw[Ot];simp(disch:=omega)only[Av,Au,sc,g,Jy,PH,L,w];exact a
theorem Au5(Bg:1000<=u)(seed leaf:Int):Ac C1 prog u (d+6) 92 [Ag seed,A0 leaf]=some ⟨[Ag (PD seed leaf)],[]⟩:=by rw[JJ];exact XO (u:=u) (d:=d) Bg 18 u 0 Ω Ω
theorem A4g(m:Int){i:Nat}(h:i<18):(dgs m)[i]?=some (dg m i):=by
 unfold dg;rw[List.getD_eq_getElem?_getD,List.getElem?_eq_getElem (by rw[Apg];omega)]
 rfl
theorem EL{a0 a1 a2 seed leaf m:Int}(Bg:1000<=u):∀(k nn i:Nat),i+k=18->k<nn ->
  Gi u (Ac C1 prog u (d+5)) a0 a1 a2 nn seed leaf 18 ((List.range i).map (Ae2 seed leaf m)).length i (Af .i64 (dgs m)) (Af .u64 ((List.range i).map (Ae2 seed leaf m)))=some ⟨[.own 1 18 (Af .u64 (GU seed leaf m))],[]⟩
 |_,0,_,_,h=>Ω
 |0,nn+1,i,hi,c=>by
  have e:i=18:=Ω
  subst e;have a:((List.range 18).map (Ae2 seed leaf m)).length=18:=Ψ
  have L:=Am .u64 ((List.range 18).map (Ae2 seed leaf m));rw[K6,Fd _ _ _ Ω];simp(disch:=omega)only[Av,Au,Jy,PH,L];rw[a];rfl
 |k+1,nn+1,i,hi,c=>by
  have b:=EL (a0:=a0) (a1:=a1) (a2:=a2) (seed:=seed) (leaf:=leaf) (m:=m) Bg k nn (i+1) Ω Ω;have g:=FX m i;have sc:=VH (u:=u) (d:=d) Bg seed leaf i;have f:=Ae6 (u:=u) (d:=d) (leaf:=leaf) (chain:=i) Bg (dg m i).toNat 0 (dg m i) (Amk seed leaf i) Ω Ω Ω;have w:wrap .i64 ((i:Int)+1)=((i+1:Nat):Int):=Bi
  have L:=Am .u64 ((List.range i).map (Ae2 seed leaf m));have j:((List.range i).map (Ae2 seed leaf m)).length=i:=Ψ
  rw[Mz,Vl,List.length_singleton,<-Mh] at b;rw[K6];simp(disch:=omega)only[Av,Au,H8,Jy,Ka,Sr (A4g m (show i<18 by omega)),sc,f,PH,L,w];exact b
theorem Ae8(Bg:1000<=u)(seed leaf m:Int):Ac C1 prog u (d+6) 49 [Ag seed,A0 leaf,Ag m]=some ⟨[.own 1 18 (Af .u64 (GU seed leaf m))],[]⟩:=by rw[Zq];have a:=Ab3 (u:=u) (d:=d+4) Bg m;simp only[Av,Au,a];exact EL (u:=u) (d:=d) Bg 18 u 0 Ω Ω
theorem ID{a0 a1:Int}{n:Nat}{c:Ae}{leaf m:Int}{s:Ak}(g:s.length=18)(Bg:1000<=u):∀(k nn i:Nat),i+k=18->k<nn ->
  Gw u (Ac C1 prog u (d+5)) a0 a1 n c nn leaf s.length (Af .u64 s) 18 ((List.range i).map (GW leaf m s)).length i (Af .i64 (dgs m)) (Af .u64 ((List.range i).map (GW leaf m s)))=some ⟨[Ag (Adp leaf m s),A0 0],[]⟩
 |_,0,_,_,h=>Ω
 |0,nn+1,i,hi,j=>by
  have e:i=18:=Ω
  subst e;have l:((List.range 18).map (GW leaf m s)).length=18:=Ψ
  have o:=Ait (u:=u) (d:=d) Bg leaf (E:=(List.range 18).map (GW leaf m s)) Ω;have L:=Am .u64 ((List.range 18).map (GW leaf m s));rw[Mj,Fd _ _ _ Ω];simp(disch:=omega)only[Av,Au,Jy,Ka,Nr,PH,L,o];rfl
 |k+1,nn+1,i,hi,j=>by
  have a:=ID (a0:=a0) (a1:=a1) (n:=n) (c:=c) (leaf:=leaf) (m:=m) g Bg k nn (i+1) Ω Ω;obtain⟨x,b⟩:∃x,s[i]?=some x:=⟨_,List.getElem?_eq_getElem Ω⟩
  have q:=FX m i;have f:=Ae6 (u:=u) (d:=d) (leaf:=leaf) (chain:=i) Bg (15-dg m i).toNat (dg m i) 15 x Ω Ω Ω
  have p:Za leaf i (15-dg m i).toNat (dg m i) x=GW leaf m s i:=by
   unfold GW;rw[List.getD_eq_getElem?_getD,b];rfl
  rw[p] at f;have w:wrap .i64 ((i:Int)+1)=((i+1:Nat):Int):=Bi
  have L:=Am .u64 ((List.range i).map (GW leaf m s));have r:((List.range i).map (GW leaf m s)).length=i:=Ψ
  rw[Mz,Vl,List.length_singleton,<-Mh] at a;rw[Mj];simp(disch:=omega)only[Av,Au,H8,Jy,Ka,Sr (A4g m (show i<18 by omega)),Sr b,f,PH,L,w];exact a
theorem Ahj(Bg:1000<=u)(leaf m:Int)(s:Ak):Ac C1 prog u (d+6) 98 [A0 leaf,Ag m,.lst false 1 s.length (Af .u64 s)]=some ⟨(if s.length=18 then [Ag (Adp leaf m s),A0 0] else [Ag 0,A0 4]),[]⟩:=by
 refine (CN u (d+5) leaf m s.length (Af .u64 s)).trans ?_;by_cases h:s.length=18
 ·have a:=Ab3 (u:=u) (d:=d+4) Bg m;have b:=ID (u:=u) (d:=d) (a0:=leaf) (a1:=m) (n:=s.length) (c:=Af .u64 s) (leaf:=leaf) (m:=m) h Bg 18 u 0 Ω Ω;simp only[D8];rw[Bq h,Bq Ω];simp only[Av,Au,a];exact b
 ·simp only[D8];rw[Bb h,Bb Ω]
theorem JP(Bg:1000<=u)(level a b:Int):Ac C1 prog u (d+5) 93 [A0 level,Ag a,Ag b]=some ⟨[Ag (Td level a b)],[]⟩:=by
 have c:Ac C1 prog u (d+4) 45 [.lst false 1 3 [Ag (wrap .u64 level),Ag a,Ag b]]=_:=K1 (B:=ZM) (ws:=[wrap .u64 level,a,b]) Ψ Ω (by simp;omega)
 have e:=Am4 (u:=u) (d:=d) (ws:=[wrap .u64 level,a,b]) Ψ Bg 3;have L:=Am .u8 (A7 [wrap .u64 level,a,b]);rw[EP];unfold Td;generalize A7 [wrap .u64 level,a,b]=W at c e L ⊢;simp(disch:=omega)only[Av,Au,c,Jy,Ka,Nr,PH,L,e]
theorem LL(Bg:1000<=u)(seed:Int):∀(l:Nat)(i B:Int),0<=i->i<=B->(2 ^ l:Nat)*(B+1)<=1000000000->l<=20->Ac C1 prog u (d+7+l) 50 [Ag seed,A0 l,A0 i]=some ⟨[Ag (L8 seed l i)],[]⟩
 |0,i,B,c,e,a,f=>by
  have lf:=Au5 (u:=u) (d:=d) Bg seed i;refine (Tx u (d+6) seed 0 i).trans ?_;simp only[Av,Au,Hx,if_true,lf];rfl
 |l+1,i,B,c,e,a,f=>by
  have g:(2 ^ (l+1):Nat)=2 ^ l*2:=Nat.pow_succ _ _;have Ai2:0<2 ^ l:=Nat.pow_pos Ω;rw[g] at a;generalize b:2 ^ l=q at a Ai2
  have h:((q*2:Nat):Int)*(B+1)=(q:Int)*(2*B+1+1):=by
   rw[Int.natCast_mul,Int.mul_assoc]
   congr 1
   omega
  rw[h] at a
  have j:2*B+1+1<=(q:Int)*(2*B+1+1):=by
   have:=Int.mul_le_mul_of_nonneg_right (show (1:Int)<=q by omega) (show (0:Int)<=2*B+1+1 by omega);omega
  have n1:=LL Bg seed l (2*i) (2*B+1) Ω Ω (by rw[b];exact a) Ω
  have n2:=LL Bg seed l (2*i+1) (2*B+1) Ω Ω (by rw[b];exact a) Ω
  have pr:=JP (u:=u) (d:=d+2+l) Bg ((l+1:Nat):Int) (L8 seed l (2*i)) (L8 seed l (2*i+1));rw[show d+2+l+5=d+7+l by omega] at pr;have k:wrap .i64 (((l+1:Nat):Int)-1)=(l:Int):=Bi
  have m:wrap .i64 (2*i)=2*i:=Bc;have n:wrap .i64 (2*i+1)=2*i+1:=Bc;have ne:¬(((l+1:Nat):Int)=0):=Ω
  refine (Tx u (d+7+l) seed ((l+1:Nat):Int) i).trans ?_;simp only[Av,Au,Hx,ne,if_false,k,m,n,n1,n2,pr];rfl
end
theorem wu{h:Int}(a:0<=h)(b:h<=4):wrap .u64 h=h:=Do
theorem Ank{leaf h:Int}(b:0<=h)(c:h<=4)(a:Jc leaf h=false):0<=leaf/\leaf<2 ^ h.toNat:=by
 unfold Jc at a;simp only[Bool.or_eq_false_iff,decide_eq_false_iff_not] at a;have:h=0\/h=1\/h=2\/h=3\/h=4:=Ω
 rcases this with rfl|rfl|rfl|rfl|rfl
 ·have e:Dx .i64 1 0=1:=Δ
  rw[e] at a;exact⟨Ω,by show leaf<1;omega⟩
 ·have e:Dx .i64 1 1=2:=Δ
  rw[e] at a;exact⟨Ω,by show leaf<2;omega⟩
 ·have e:Dx .i64 1 2=4:=Δ
  rw[e] at a;exact⟨Ω,by show leaf<4;omega⟩
 ·have e:Dx .i64 1 3=8:=Δ
  rw[e] at a;exact⟨Ω,by show leaf<8;omega⟩
 ·have e:Dx .i64 1 4=16:=Δ
  rw[e] at a;exact⟨Ω,by show leaf<16;omega⟩
theorem A5t{h:Int}(a:0<=h)(b:h<=4):(2:Int) ^ h.toNat<=16:=by
 have:h=0\/h=1\/h=2\/h=3\/h=4:=Ω
 rcases this with rfl|rfl|rfl|rfl|rfl<;>decide
theorem Ak2{leaf:Int}(a:0<=leaf)(c:leaf<16){k:Nat}(b:k<4):0<=CE leaf k/\CE leaf k<=15:=by
 have H:∀n:Fin 16,∀k:Fin 4,0<=CE (n.val:Int) k.val/\CE (n.val:Int) k.val<=15:=Δ
 obtain⟨n,rfl⟩:=Int.eq_ofNat_of_zero_le a;exact H ⟨n,Ω⟩ ⟨k,b⟩
section
variable {u d:Nat}
theorem Am0(Bg:1000<=u)(seed h:Int):Ac C1 prog u (d+12) 40 [Ag seed,A0 h]=some ⟨[.agg (Yp seed h).cells,A0 (if Er h=true then 9 else 0)],[]⟩:=by
 refine (DV u (d+11) seed h).trans ?_;have a:=Vf (u:=u) (d:=d+10) h;unfold Yp;cases c1:Er h
 ·rw[c1] at a;have c:=Qc c1
  have b:=LL (u:=u) (d:=d+4-h.toNat) Bg seed h.toNat 0 0 Ω Ω (by
   have:h=0\/h=1\/h=2\/h=3\/h=4:=Ω
   rcases this with rfl|rfl|rfl|rfl|rfl<;>decide) Ω
  rw[show d+4-h.toNat+7+h.toNat=d+11 by omega,show ((h.toNat:Nat):Int)=h by omega] at b;simp only[Av,Au,a,b];rfl
 ·rw[c1] at a;simp only[Av,Au,a];rfl
theorem XZ{a0 a1 a2 a3:Int}{seed leaf h:Int}(g:0<=h/\h<=4)(a:0<=leaf/\leaf<16)(Bg:1000<=u){y4 y9:Int}{y5 y6:Nat}{y7 y8:Ae}{ch:Ak}:∀(k nn i:Nat),i+k=h.toNat->k<nn ->
  Id u (Ac C1 prog u (d+11)) a0 a1 a2 a3 nn seed h leaf i y4 y5 y6 y7 y8 leaf ch.length ((List.range i).map λk=>L8 seed k (CE leaf k)).length (Af .u64 ch) (Af .u64 ((List.range i).map λk=>L8 seed k (CE leaf k)))=some ⟨[.agg (Sg.mk leaf ch ((List.range h.toNat).map λk=>L8 seed k (CE leaf k))).owned,A0 0],[]⟩
 |_,0,_,_,h=>Ω
 |0,nn+1,i,hi,j=>by
  have e:i=h.toNat:=Ω
  subst e;have l:=Am .u64 ch;have m:=Am .u64 ((List.range h.toNat).map λk=>L8 seed k (CE leaf k));rw[Pi,Fd _ _ _ Ω];simp(disch:=omega)only[Av,Au,Jy,PH,l,m];rfl
 |k+1,nn+1,i,hi,j=>by
  have b:=XZ (a0:=a0) (a1:=a1) (a2:=a2) (a3:=a3) (seed:=seed) (y4:=y4) (y9:=y9) (y5:=y5) (y6:=y6) (y7:=y7) (y8:=y8) (ch:=ch) g a Bg k nn (i+1) Ω Ω;have c:=Ak2 a.1 a.2 (k:=i) Ω
  have f:=LL (u:=u) (d:=d+4-i) Bg seed i (CE leaf i) 15 c.1 c.2 (by
   have:i=0\/i=1\/i=2\/i=3:=Ω
   rcases this with rfl|rfl|rfl|rfl<;>decide) Ω
  rw[show d+4-i+7+i=d+11 by omega] at f;have es:E4 .i64 (Gs .i64 leaf (i:Int)) 1=CE leaf i:=rfl;have w:wrap .i64 ((i:Int)+1)=((i+1:Nat):Int):=Bi
  have n:wrap .u64 (i:Int)=i:=Do;have L:=Am .u64 ((List.range i).map λk=>L8 seed k (CE leaf k));have o:((List.range i).map λk=>L8 seed k (CE leaf k)).length=i:=Ψ
  rw[Mz,Vl,List.length_singleton,<-Mh] at b;rw[Pi];simp(disch:=omega)only[Av,Au,n,es,f,Jy,PH,L,w];exact b
theorem Aux(Bg:1000<=u)(seed h leaf m:Int):Ac C1 prog u (d+12) 21 [Ag seed,A0 h,A0 leaf,Ag m]=some ⟨Adr (Anm seed h leaf m),[]⟩:=by
 refine (JB u (d+11) seed h leaf m).trans ?_;have b:=Vf (u:=u) (d:=d+10) h;unfold Anm;cases c1:Er h
 ·rw[c1] at b;have a:=Qc c1;have w:=wu a.1 a.2;rw[Bb Ψ];by_cases g:leaf<0
  ·have c:Jc leaf h=true:=by unfold Jc;simp[g]
   rw[Bq c];simp(disch:=omega)only[Av,Au,b];rfl
  ·by_cases e:leaf>=Dx .i64 1 h
   ·have c:Jc leaf h=true:=by unfold Jc;simp[e]
    rw[Bq c];simp (disch:=first|omega|exact e) only[Av,Au,b,w];rfl
   ·have c:Jc leaf h=false:=by unfold Jc;simp only[Bool.or_eq_false_iff,decide_eq_false_iff_not];exact⟨g,e⟩
    have Cs:=Ank a.1 a.2 c;have j:=A5t a.1 a.2;rw[Bb (by rw[c];simp)]
    have sl:=Ae8 (u:=u) (d:=d+5) Bg seed leaf m;have i:=XZ (u:=u) (d:=d) (a0:=seed) (a1:=h) (a2:=leaf) (a3:=m) (seed:=seed) (leaf:=leaf) (h:=h) a Ω Bg (y4:=0) (y9:=0) (y5:=0) (y6:=0) (y7:=[]) (y8:=[]) (ch:=GU seed leaf m) h.toNat u 0 Ω Ω;have f:(GU seed leaf m).length=18:=by simp[GU]
    rw[f] at i;simp (disch:=first|omega|exact e) only[Av,Au,b,w,sl];exact i
 ·rw[c1] at b;rw[Bq rfl];simp(disch:=omega)only[Av,Au,b];rfl
theorem KW{a0 a1 a2 a3:Int}{n1 n2 n3:Nat}{c1 c2 c3:Ae}{root leaf:Int}{path:Ak}(hp:path.length<=100)(Bg:1000<=u):∀(r:Ak)(i nn:Nat)(x:Int),path.drop i=r->r.length<nn->i<=path.length ->
  Fy u (Ac C1 prog u (d+5)) a0 a1 a2 a3 n1 c1 n2 c2 nn x i path.length root leaf n3 c3 path.length (Af .u64 path)=some ⟨[A0 (okE (EK leaf i x r) root)],[]⟩
 |_,_,0,_,_,h,_=>Ω
 |[],i,nn+1,x,h,b,hi=>by
  have:=drop_nil h;rw[Ng,Fd _ _ _ Ω,D8];rw[ZB];unfold okE;by_cases e:x=root
  ·rw[Bq e,Bq e]
  ·rw[Bb e,Bb e]
 |s::r,i,nn+1,x,h,b,hi=>by
  obtain⟨m,c,j⟩:=Cl h;simp only[Ox] at b;have w:wrap .i64 ((i:Int)+1)=((i+1:Nat):Int):=Bi
  have f:wrap .u64 (i:Int)=i:=Do;have g:=λx=>KW (a0:=a0) (a1:=a1) (a2:=a2) (a3:=a3) (n1:=n1) (n2:=n2) (n3:=n3) (c1:=c1) (c2:=c2) (c3:=c3) (root:=root) (leaf:=leaf) hp Bg r (i+1) nn x j Ω Ω;have k:=JP (u:=u) (d:=d) Bg ((i+1:Nat):Int) x s;have l:=JP (u:=u) (d:=d) Bg ((i+1:Nat):Int) s x;rw[Ng,FG];by_cases a:C5 .i64 (Gs .i64 leaf i) 1=0
  ·rw[Bq a,<-g];simp(disch:=omega)only[Av,Au,H8,Jy,Sr c,Hx,f,a,w,k,if_true]
  ·rw[Bb a,<-g];simp(disch:=omega)only[Av,Au,H8,Jy,Sr c,Hx,f,a,w,l,if_false]
theorem Al9(Bg:1000<=u)(k:Ky)(m:Int)(s:Sg):Ac C1 prog u (d+7) 56 [.agg k.cells,Ag m,.agg s.cells]=some ⟨[A0 (TM k m s)],[]⟩:=by
 refine (DS u (d+6) k.h k.root m s.leaf s.chains.length (Af .u64 s.chains) s.path.length (Af .u64 s.path)).trans ?_;have a:=Vf (u:=u) (d:=d+5) k.h;unfold TM;cases c1:Er k.h
 ·rw[c1] at a;have f:=Qc c1;have w:=wu f.1 f.2;rw[Bb Ψ];by_cases g:s.leaf<0
  ·have c:Jc s.leaf k.h=true:=by unfold Jc;simp[g]
   rw[Bq c];simp(disch:=omega)only[Av,Au,a]
  ·by_cases b:s.leaf>=Dx .i64 1 k.h
   ·have c:Jc s.leaf k.h=true:=by unfold Jc;simp[b]
    rw[Bq c];simp (disch:=first|omega|exact b) only[Av,Au,a,w]
   ·have c:Jc s.leaf k.h=false:=by unfold Jc;simp only[Bool.or_eq_false_iff,decide_eq_false_iff_not];exact⟨g,b⟩
    rw[Bb (by rw[c];simp)]
    by_cases h:s.chains.length=18
    ·by_cases e:(s.path.length:Int)=k.h
     ·have i:=Ahj (u:=u) (d:=d) Bg s.leaf m s.chains;rw[Bq h] at i;have j:=KW (u:=u) (d:=d+1) (a0:=k.h) (a1:=k.root) (a2:=m) (a3:=s.leaf) (n1:=s.chains.length) (n2:=s.path.length) (n3:=s.chains.length) (c1:=Af .u64 s.chains) (c2:=Af .u64 s.path) (c3:=Af .u64 s.chains) (root:=k.root) (leaf:=s.leaf) (path:=s.path) Ω Bg s.path 0 u (Adp s.leaf m s.chains) rfl Ω Ω;rw[Bb Ω,Bb Ω,<-j];simp (disch:=first|omega|exact b) only[Av,Au,a,w,D8,i,e,if_true];rw[Bq Ω];rfl
     ·rw[Bb Ω,Bq e];simp (disch:=first|omega|exact b) only[Av,Au,a,w,D8,e,if_false];rw[Bq Ω]
    ·rw[Bq h];simp (disch:=first|omega|exact b) only[Av,Au,a,w,D8];rw[Bb Ω]
 ·rw[c1] at a;rw[Bq rfl];simp(disch:=omega)only[Av,Au,a]
theorem Amp(Bg:1000<=u)(k:Ky):Ac C1 prog u (d+2) 46 [.agg k.cells]=some ⟨(if Er k.h=true then [.own 1 0 [],A0 9] else [.own 1 9 (Af .u8 (A0p k)),A0 0]),[]⟩:=by
 refine (Y5 u (d+1) k.h k.root).trans ?_;have a:=Vf (u:=u) (d:=d) k.h;have b:=A2i (u:=u) (d:=d) Bg k.root;have L:=Am .u8 (B5 k.root);rw[C3] at L;have c:List.take 8 (Af .u8 (B5 k.root))=Af .u8 (B5 k.root):=Jo Ω
 have e:List.take 9 ([PV.sc (.int .u8 (wrap .u8 k.h))]++Af .u8 (B5 k.root))=Af .u8 (A0p k):=by
  rw[Jo (by rw[Vl,L];simp)]
  rfl
 have f:([PV.sc (.int .u8 (wrap .u8 k.h))]++Af .u8 (B5 k.root)).length=9:=by rw[Vl,L];rfl
 cases c1:Er k.h
 ·rw[c1] at a;rw[Bb Ψ];simp(disch:=omega)only[Av,Au,a,b,Jy,Ka,Nr,L,c,Nat.reduceAdd,f,e]
 ·rw[c1] at a;rw[Bq rfl];simp(disch:=omega)only[Av,Au,a]
theorem YF{F:Ao}{n:Nat}{c:Ae}{l:Ak}(d:l.length=8):∀(r:Ak)(j nn:Nat)(x:Int),l.drop j=r->r.length<nn->j<=8 ->
  Ia u F n c nn l.length (Af .u8 l) x j=some ⟨[Ag (r.foldl Mg x)],[]⟩
 |_,_,0,_,_,h,_=>Ω
 |[],j,nn+1,x,h,a,e=>by
  have:=drop_nil h;rw[Po,Fd _ _ _ Ω];rfl
 |b::r,j,nn+1,x,h,a,e=>by
  obtain⟨k,f,g⟩:=Cl h;simp only[Ox] at a;have w:wrap .i64 ((j:Int)+1)=((j+1:Nat):Int):=Bi
  have i:=YF (F:=F) (n:=n) (c:=c) d r (j+1) nn (Mg x b) g Ω Ω;rw[List.foldl_cons,<-i,Po];simp(disch:=omega)only[Av,Au,H8,Jy,Sr f,w]
theorem FD(Bg:1000<=u){l:Ak}(a:l.length=8):Ac C1 prog u (d+1) 96 [.lst false 1 8 (Af .u8 l)]=some ⟨[Ag (ZZ l)],[]⟩:=by rw[IL];have:=YF (u:=u) (F:=Ac C1 prog u d) (n:=8) (c:=Af .u8 l) a l 0 u 0 rfl Ω Ω;rw[a] at this;exact this
theorem Ano(Bg:1000<=u){l:Ak}(h:Ce l):Ac C1 prog u (d+2) 97 [.lst false 1 l.length (Af .u8 l)]=some ⟨QK (Aah l),[]⟩:=by
 refine (Zl u (d+1) l.length (Af .u8 l)).trans ?_;unfold Aah;by_cases a:l.length=9
 ·obtain⟨x,b⟩:∃x,l[0]?=some x:=⟨_,List.getElem?_eq_getElem Ω⟩
  have i:=h x (List.mem_of_getElem? b);have f:wrap .i64 x=x:=Bc;have j:l.getD 0 0=x:=by rw[List.getD_eq_getElem?_getD,b];rfl
  have c:=Vf (u:=u) (d:=d) x;rw[j];cases c1:Er x
  ·rw[c1] at c;have e:(l.drop 1).length=8:=by rw[List.length_drop];omega
   have g:=FD (u:=u) (d:=d) Bg e
   have k:ZZ (l.drop 1)=Ms (l.drop 1) 0:=by
    unfold Ms;rw[Nat.mul_zero,Nr,Jo Ω]
   rw[k] at g;have m:9-1=8:=rfl;have n:List.take 8 (Af .u8 (l.drop 1))=Af .u8 (l.drop 1):=Jo (by rw[Am];omega)
   rw[Bq ⟨a,rfl⟩,a];simp(disch:=omega)only[Av,Au,D8,Sr b,f,c,Jy,Gj,m,n,g];rfl
  ·rw[c1] at c;rw[Bb Ψ,a];simp(disch:=omega)only[Av,Au,D8,Sr b,f,c];rfl
 ·rw[Bb (by simp[a])];simp(disch:=omega)only[D8];rw[Bb Ω];rfl
end
section
variable {u d:Nat}
theorem Awd(n:Nat):Er (n:Int)=decide ((n:Int)>4):=by
 unfold Er;have:¬((n:Int)<0):=Ω
 simp[this]
theorem WF(Bg:1000<=u)(s:Sg)(hp:s.path.length<=1000000000):Ac C1 prog u (d+2) 24 [.agg s.cells]=some ⟨(if Er s.path.length=true then [.own 1 0 [],A0 9] else if Jc s.leaf s.path.length=true then [.own 1 0 [],A0 9] else if s.chains.length≠18 then [.own 1 0 [],A0 4] else [.own 1 (sgB s).length (Af .u8 (sgB s)),A0 0]),[]⟩:=by
 refine (Qi u (d+1) s.leaf s.chains.length (Af .u64 s.chains) s.path.length (Af .u64 s.path)).trans ?_;rw[Awd];by_cases c1:(s.path.length:Int)>4
 ·rw[Bq (by simp[c1])];simp(disch:=omega)only[Av,Au]
 ·rw[Bb (by simp[c1])];have w:=wu (h:=s.path.length) Ω Ω;by_cases f:s.leaf<0
  ·have a:Jc s.leaf s.path.length=true:=by unfold Jc;simp[f]
   rw[Bq a];simp(disch:=omega)only[Av,Au]
  ·by_cases b:s.leaf>=Dx .i64 1 s.path.length
   ·have a:Jc s.leaf s.path.length=true:=by unfold Jc;simp[b]
    rw[Bq a];simp (disch:=first|omega|exact b) only[Av,Au,w]
   ·have a:Jc s.leaf s.path.length=false:=by unfold Jc;simp only[Bool.or_eq_false_iff,decide_eq_false_iff_not];exact⟨f,b⟩
    rw[Bb (by rw[a];simp)]
    by_cases i:s.chains.length=18
    ·have j:=K1 (B:=ZM) (u:=u) (d:=d) (ws:=s.chains) Ω Ω Ω;have k:=K1 (B:=ZM) (u:=u) (d:=d) (ws:=s.path) Ω Ω Ω;have o:=Ff s.chains;have p:=Ff s.path;have c:=Am .u8 (A7 s.chains);have e:=Am .u8 (A7 s.path)
     have eB:Af .u8 (sgB s)=[PV.sc (.int .u8 (wrap .u8 s.leaf)),PV.sc (.int .u8 (wrap .u8 s.path.length))]++Af .u8 (A7 s.chains)++Af .u8 (A7 s.path):=by
      unfold sgB;simp
     have eL:(sgB s).length=2+(A7 s.chains).length+(A7 s.path).length:=by
      unfold sgB;simp;omega
     rw[Bb Ω,eB,eL];have l:List.take (2+(A7 s.chains).length) ([PV.sc (.int .u8 (wrap .u8 s.leaf)),PV.sc (.int .u8 (wrap .u8 s.path.length))]++Af .u8 (A7 s.chains))=[PV.sc (.int .u8 (wrap .u8 s.leaf)),PV.sc (.int .u8 (wrap .u8 s.path.length))]++Af .u8 (A7 s.chains):=Jo (by rw[Vl,c];simp)
     have m:List.take (2+(A7 s.chains).length+(A7 s.path).length) ([PV.sc (.int .u8 (wrap .u8 s.leaf)),PV.sc (.int .u8 (wrap .u8 s.path.length))]++Af .u8 (A7 s.chains)++Af .u8 (A7 s.path))=[PV.sc (.int .u8 (wrap .u8 s.leaf)),PV.sc (.int .u8 (wrap .u8 s.path.length))]++Af .u8 (A7 s.chains)++Af .u8 (A7 s.path):=Jo (by rw[Vl,Vl,c,e];simp)
     have g:([PV.sc (.int .u8 (wrap .u8 s.leaf)),PV.sc (.int .u8 (wrap .u8 s.path.length))]++Af .u8 (A7 s.chains)).length=2+(A7 s.chains).length:=by rw[Vl,c];rfl
     have n:([PV.sc (.int .u8 (wrap .u8 s.leaf)),PV.sc (.int .u8 (wrap .u8 s.path.length))]++Af .u8 (A7 s.chains)++Af .u8 (A7 s.path)).length=2+(A7 s.chains).length+(A7 s.path).length:=by rw[Vl,g,e]
     simp (disch:=first|omega|exact b) only[Av,Au,w,D8,j,k,Jy,Ka,Nr,c,e,PH,l,m,g,n];rw[Bq Ω]
    ·rw[Bq i];simp (disch:=first|omega|exact b) only[Av,Au,w,D8];rw[Bb Ω]
def FH(l:Ak)(i:Nat):Int:=ZZ ((l.drop (2+8*i)).take 8)
theorem A3n{l:Ak}{i:Nat}(hi:i<18):Ms ((l.drop 2).take 144) i=FH l i:=by unfold Ms FH;rw[List.drop_take,List.take_take,List.drop_drop,Nat.min_eq_left Ω]
theorem A3p{l:Ak}{i:Nat}:Ms (l.drop 146) i=FH l (18+i):=by unfold Ms FH;rw[List.drop_drop,show 146+8*i=2+8*(18+i) by omega]
theorem ND{n:Nat}{c:Ae}{l:Ak}(D:l.length<=1000){y:Int}(a:l[1]?=some y)(E:0<=y/\y<=4)(Ef:(l.length:Int)=2+8*(18+y))(Bg:1000<=u){y3 y4:Int}{n5 n6 n7:Nat}{c5 c6:Ae}{x:Int}:∀(k nn i:Nat),i+k=18+y.toNat->k<nn ->
  Dl u (Ac C1 prog u (d+1)) n c nn l.length (Af .u8 l) i y3 n5 n6 c5 c6 x ((List.range (min i 18)).map (FH l)).length ((List.range (i-18)).map λj=>FH l (18+j)).length (Af .u64 ((List.range (min i 18)).map (FH l))) (Af .u64 ((List.range (i-18)).map λj=>FH l (18+j)))=some ⟨[.agg (Sg.mk x ((List.range 18).map (FH l)) ((List.range y.toNat).map λj=>FH l (18+j))).owned,A0 0],[]⟩
 |_,0,_,_,h=>Ω
 |k,nn+1,i,hi,L=>by
  have o:wrap .i64 y=y:=Bc;have b:wrap .i64 (18+y)=18+y:=Bc;have g:=Am .u64 ((List.range (min i 18)).map (FH l));have p:=Am .u64 ((List.range (i-18)).map λj=>FH l (18+j));have G:((List.range (min i 18)).map (FH l)).length=min i 18:=Ψ
  have M:((List.range (i-18)).map λj=>FH l (18+j)).length=i-18:=Ψ
  rw[Oh];cases k with
  |zero=>
   have e:i=18+y.toNat:=Ω
   have H:min i 18=18:=Ω
   have I:i-18=y.toNat:=Ω
   simp(disch:=omega)only[Av,Au,Sr a,o,b,Jy,PH,g,p];rw[H,I];rfl
  |succ k=>
   have m:=ND (n:=n) (c:=c) D a E Ef Bg (y3:=y3) (y4:=y4) (n5:=n5) (n6:=n6) (n7:=n7) (c5:=c5) (c6:=c6) (x:=x) k nn (i+1) Ω Ω;have v:wrap .i64 (8*(i:Int))=((8*i:Nat):Int):=Bi
   have z:wrap .i64 (2+((8*i:Nat):Int))=((2+8*i:Nat):Int):=Bi
   have f:wrap .i64 (10+((8*i:Nat):Int))=((10+8*i:Nat):Int):=Bi
   have w:wrap .i64 ((i:Int)+1)=((i+1:Nat):Int):=Bi
   have A:10+8*i-(2+8*i)=8:=Ω
   have q:((l.drop (2+8*i)).take 8).length=8:=by rw[List.length_take,List.length_drop];omega
   have r:=FD (u:=u) (d:=d) Bg q;have J:ZZ ((l.drop (2+8*i)).take 8)=FH l i:=rfl;rw[J] at r;by_cases K:i<18
   ·have s:min (i+1) 18=min i 18+1:=Ω
    have C:min i 18=i:=Ω
    have t:i+1-18=i-18:=Ω
    rw[s,t,Mz,Vl,List.length_singleton,<-Mh,C] at m;rw[C] at g G ⊢;simp(disch:=omega)only[Av,Au,Sr a,o,b,v,z,f,H8,Jy,A,Gj,Fj,List.take_length,r,g,p,w];exact m
   ·have s:min (i+1) 18=min i 18:=Ω
    have t:i+1-18=(i-18)+1:=Ω
    rw[s,t,Mz,Vl,List.length_singleton,<-Mh,show 18+(i-18)=i by omega] at m;simp(disch:=omega)only[Av,Au,Sr a,o,b,v,z,f,H8,Jy,A,Gj,Fj,List.take_length,r,g,p,w];exact m
theorem Anx(Bg:1000<=u){l:Ak}(o:Ce l):Ac C1 prog u (d+2) 55 [.lst false 1 l.length (Af .u8 l)]=some ⟨WS (sgD l),[]⟩:=by
 refine (Ra u (d+1) l.length (Af .u8 l)).trans ?_;unfold sgD;by_cases p:2<=l.length
 ·obtain⟨x,a⟩:∃x,l[0]?=some x:=⟨_,List.getElem?_eq_getElem Ω⟩
  obtain⟨y,b⟩:∃y,l[1]?=some y:=⟨_,List.getElem?_eq_getElem Ω⟩
  have t:=o x (List.mem_of_getElem? a);have v:=o y (List.mem_of_getElem? b);have f:wrap .i64 x=x:=Bc;have h:wrap .i64 y=y:=Bc;have e:wrap .u64 y=y:=Do;have w:l.getD 0 0=x:=by rw[List.getD_eq_getElem?_getD,a];rfl
  have z:l.getD 1 0=y:=by rw[List.getD_eq_getElem?_getD,b];rfl
  have q:wrap .i64 (18+y)=18+y:=Bc;have r:wrap .i64 (8*(18+y))=8*(18+y):=Bc;have s:wrap .i64 (2+8*(18+y))=2+8*(18+y):=Bc;rw[w,z]
  have k:Er y=decide (y>4):=by
   unfold Er;have:¬(y<0):=Ω
   simp[this]
  have m:Jc x y=decide (x>=Dx .i64 1 y):=by
   unfold Jc;have:¬(x<0):=Ω
   simp[this]
  rw[k,m];by_cases c1:y>4
  ·rw[Bb (by simp[c1])];simp(disch:=omega)only[Av,Au,Sr a,Sr b,f,h];rfl
  ·by_cases c2:x>=Dx .i64 1 y
   ·rw[Bb (by simp[c2])];simp (disch:=first|omega|exact c2) only[Av,Au,Sr a,Sr b,f,h,e];rfl
   ·by_cases g:(l.length:Int)=2+8*(18+y)
    ·rw[Bq ⟨p,by simp[c1],by simp[c2],g⟩];have A:=ND (u:=u) (d:=d) (n:=l.length) (c:=Af .u8 l) (l:=l) Ω b Ω g Bg (y3:=0) (y4:=0) (n5:=0) (n6:=0) (n7:=0) (c5:=[]) (c6:=[]) (x:=x) (18+y.toNat) u 0 Ω Ω;simp (disch:=first|omega|exact c2) only[Av,Au,D8,Sr a,Sr b,f,h,e,q,r,s];rw[Bq g];simp(disch:=omega)only[Av,Au,N9,Sr a,f];refine Eq.trans A ?_
     have C:Gc ((l.drop 2).take 144)=(List.range 18).map (FH l):=by
      unfold Gc;rw[show ((l.drop 2).take 144).length / 8=18 by rw[List.length_take,List.length_drop];omega]
      exact List.map_congr_left λi hi=>A3n (List.mem_range.1 hi)
     have D:Gc (l.drop 146)=(List.range y.toNat).map λj=>FH l (18+j):=by
      unfold Gc;rw[show (l.drop 146).length / 8=y.toNat by rw[List.length_drop];omega]
      exact List.map_congr_left λi hi=>A3p
     rw[C,D];rfl
    ·rw[Bb (by simp[g])];simp (disch:=first|omega|exact c2) only[Av,Au,D8,Sr a,Sr b,f,h,e,q,r,s];rw[Bb g];rfl
 ·rw[Bb (by simp[p])];simp(disch:=omega)only[Av,Au];rfl
end
theorem Ay1(seed leaf m:Int):Adp leaf m (GU seed leaf m)=PD seed leaf:=by
 unfold Adp PD VF
 congr 1
 refine List.map_congr_left λi hi=>?_;have hi:=List.mem_range.1 hi;have a:=FX m i;unfold GW Adm
 have e:(GU seed leaf m).getD i 0=Ae2 seed leaf m i:=by
  unfold GU;rw[List.getD_eq_getElem?_getD,List.getElem?_map,List.getElem?_range hi];rfl
 rw[e];unfold Ae2;have:=Ahm leaf i (dg m i).toNat (15-dg m i).toNat 0 (Amk seed leaf i);rw[show (dg m i).toNat+(15-dg m i).toNat=15 by omega,show (0:Int)+((dg m i).toNat:Nat)=dg m i by omega] at this;exact this.symm
theorem Asb:∀n:Fin 16,∀k:Fin 4,
  (C5 .i64 (Gs .i64 (n.val:Int) k.val) 1=0/\Gs .i64 (n.val:Int) k.val=2*Gs .i64 (n.val:Int) ((k.val+1:Nat):Int)/\CE n.val k.val=2*Gs .i64 (n.val:Int) ((k.val+1:Nat):Int)+1) \/
  (C5 .i64 (Gs .i64 (n.val:Int) k.val) 1≠0/\Gs .i64 (n.val:Int) k.val=2*Gs .i64 (n.val:Int) ((k.val+1:Nat):Int)+1/\CE n.val k.val=2*Gs .i64 (n.val:Int) ((k.val+1:Nat):Int)):=Δ
theorem WY(seed:Int){leaf:Int}(d:0<=leaf)(e:leaf<16):∀(k i:Nat),i+k<=4 ->
  EK leaf i (L8 seed i (Gs .i64 leaf i)) ((List.range' i k).map λj=>L8 seed j (CE leaf j))=L8 seed (i+k) (Gs .i64 leaf ((i+k:Nat):Int))
 |0,i,_=>rfl
 |k+1,i,h=>by
  rw[List.range'_succ,CZ,FG];obtain⟨n,rfl⟩:=Int.eq_ofNat_of_zero_le d;have f:=WY seed d e k (i+1) Ω;rw[show i+(k+1)=i+1+k by omega,<-f]
  congr 1
  rcases Asb ⟨n,Ω⟩ ⟨i,Ω⟩ with⟨a,b,c⟩|⟨a,b,c⟩
  ·simp only at a b c;rw[Bq a,b,c];rfl
  ·simp only at a b c;rw[Bb a,b,c];rfl
theorem Awv{seed h leaf m:Int}(b:Er h=false)(e:Jc leaf h=false):TM (Yp seed h) m ⟨leaf,GU seed leaf m,(List.range h.toNat).map λk=>L8 seed k (CE leaf k)⟩=0:=by
 have a:=Qc b;have d:=Ank a.1 a.2 e;have g:=A5t a.1 a.2
 have eP:Yp seed h=⟨h,L8 seed h.toNat 0⟩:=by
  unfold Yp;rw[b];rfl
 rw[eP];unfold TM;simp only;rw[Bb (show ¬Er h=true by rw[b];simp),Bb (show ¬Jc leaf h=true by rw[e];simp),Bb (show ¬(GU seed leaf m).length≠18 by simp[GU]),Bb (by rw[List.length_map,List.length_range];omega),Ay1]
 have c:=WY seed d.1 (show leaf<16 by omega) h.toNat 0 Ω
 have i:Gs .i64 leaf ((0:Nat):Int)=leaf:=by
  show leaf.fdiv (2 ^ (min ((0:Nat):Int).toNat IntKind.i64.bits))=leaf;have:(2:Int) ^ (min ((0:Nat):Int).toNat IntKind.i64.bits)=1:=Δ
  rw[this,Int.fdiv_one]
 have j:Gs .i64 leaf ((0+h.toNat:Nat):Int)=0:=by
  have H:∀n:Fin 16,∀k:Fin 5,(n.val:Int)<2 ^ k.val->Gs .i64 (n.val:Int) ((0+k.val:Nat):Int)=0:=Δ
  obtain⟨n,f⟩:=Int.eq_ofNat_of_zero_le d.1;have:=H ⟨n,Ω⟩ ⟨h.toNat,Ω⟩ (by simp only;rw[<-f];exact d.2)
  rw[f];exact this
 rw[i,j,Ka] at c;have l:List.range' 0 h.toNat=List.range h.toNat:=List.range_eq_range'.symm;rw[l] at c;have el:L8 seed 0 leaf=PD seed leaf:=rfl;rw[el] at c;rw[c];unfold okE;rw[Bq rfl]
abbrev isU(x:Int):Prop:=0<=x/\x<=18446744073709551615
abbrev isW(l:Ak):Prop:=∀x∈l,isU x
theorem NF:∀{ws:Ak}{i:Nat}{w:Int},isW ws->ws[i]?=some w->Ms (A7 ws) i=w
 |[],i,w,_,h=>by simp at h
 |a::ws,0,w,b,h=>by
  simp at h;subst h;have e:A7 (a::ws)=B5 a++A7 ws:=rfl;unfold Ms;rw[Nat.mul_zero,Nr,e,List.take_left' (C3 a)];have:=b a Ψ;exact Ab0 this.1 this.2
 |a::ws,i+1,w,b,h=>by
  simp at h;have c:=NF (ws:=ws) (λx d=>b x (Yh _ d)) h;have e:A7 (a::ws)=B5 a++A7 ws:=rfl;unfold Ms at c ⊢;rw[show 8*(i+1)=(B5 a).length+8*i by rw[C3];omega,e,<-List.drop_drop,List.drop_left' rfl]
  exact c
theorem LG{ws:Ak}(a:isW ws):Gc (A7 ws)=ws:=by
 have b:(A7 ws).length / 8=ws.length:=by rw[Ff];omega
 apply List.ext_getElem?;intro i;unfold Gc;rw[b];by_cases h:i<ws.length
 ·rw[List.getElem?_map,List.getElem?_range h,List.getElem?_eq_getElem h];simp only[Option.map_some];rw[NF a (List.getElem?_eq_getElem h)]
 ·rw[List.getElem?_eq_none (by simp;omega),List.getElem?_eq_none Ω]
structure Sg.ok(s:Sg):Prop where
 ch:isW s.chains
 pa:isW s.path
theorem Bb2(s:Sg):Ce (sgB s):=by
 have b:∀v:Int,0<=wrap .u8 v/\wrap .u8 v<=255:=by
  intro v;simp only[wrap,IntKind.signed,IntKind.bits];simp;omega
 intro x a;unfold sgB at a;rcases List.mem_cons.1 a with rfl|a
 ·exact b _
 rcases List.mem_cons.1 a with rfl|a
 ·exact b _
 rcases B2.1 a with a|a
 ·exact Y6 _ x a
 ·exact Y6 _ x a
theorem Aol{s:Sg}(i:s.ok)(b:Er s.path.length=false)(c:Jc s.leaf s.path.length=false)(j:s.chains.length=18):sgD (sgB s)=some s:=by
 obtain⟨leaf,ch,pa⟩:=s;obtain⟨f,hp⟩:=i;simp only at b c j f hp;have a:=Qc b;have o:=Ank a.1 a.2 c;have k:=A5t a.1 a.2;have l:wrap .u8 leaf=leaf:=I8 Ω Ω;have m:wrap .u8 (pa.length:Int)=pa.length:=I8 Ω Ω;have d:(A7 ch).length=144:=by rw[Ff];omega
 have n:(A7 pa).length=8*pa.length:=Ff pa
 have len:(sgB ⟨leaf,ch,pa⟩).length=2+144+8*pa.length:=by
  unfold sgB;simp only[Ox,Vl,d,n];omega
 have g:(sgB ⟨leaf,ch,pa⟩).getD 0 0=leaf:=l;have e:(sgB ⟨leaf,ch,pa⟩).getD 1 0=pa.length:=m;have h:(sgB ⟨leaf,ch,pa⟩).drop 2=A7 ch++A7 pa:=rfl
 have d146:(sgB ⟨leaf,ch,pa⟩).drop 146=A7 pa:=by
  rw[show 146=2+144 from rfl,<-List.drop_drop,h,List.drop_left' d]
 unfold sgD;rw[Bq ⟨Ω,by rw[e];exact b,by rw[g,e];exact c,by rw[e,len];omega⟩,g,h,d146,List.take_left' d,LG f,LG hp]
theorem UG(dom:Int)(l:Ak):isU (Fa dom l):=Vk _
theorem A5w(key dom:Int)(l:Ak):isU (A1n key dom l):=Vk _
theorem Ay7(leaf chain:Int):∀(k:Nat)(p:Int){x:Int},isU x->isU (Za leaf chain k p x)
 |0,_,_,h=>h
 |k+1,p,x,h=>Ay7 leaf chain k (p+1) (UG _ _)
theorem A5r(seed leaf m:Int):isW (GU seed leaf m):=by intro x a;obtain⟨k,_,rfl⟩:=List.mem_map.1 a;exact Ay7 _ _ _ _ (A5w _ _ _)
theorem A24(seed:Int):∀(l:Nat)(i:Int),isU (L8 seed l i)
 |0,i=>UG _ _
 |l+1,i=>UG _ _
theorem Af0{seed h:Int}(a:Er h=false):(Yp seed h).h=h:=by unfold Yp;rw[Bb (by simp[a])]
theorem Aoe{seed h leaf m:Int}(a:Er h=false)(b:Jc leaf h=false):∃s,Anm seed h leaf m=some s/\s.ok/\s.leaf=leaf/\s.chains.length=18/\(s.path.length:Int)=h/\TM (Yp seed h) m s=0:=by
 have d:=Qc a;refine⟨⟨leaf,GU seed leaf m,(List.range h.toNat).map λk=>L8 seed k (CE leaf k)⟩,?_,⟨A5r _ _ _,?_⟩,rfl,by simp[GU],?_,Awv a b⟩
 ·unfold Anm;rw[Bb (by simp[a]),Bb (by simp[b])]
 ·intro x c;obtain⟨k,_,rfl⟩:=List.mem_map.1 c;exact A24 _ _ _
 ·simp only[List.length_map,List.length_range];omega
section
variable {B:FuncId->Option (Ae->Option A8)}{u d:Nat}
theorem Acg{n:Nat}{c:Ae}(a:c.length=n)(f:n<=1000000):Ac (CX B) prog u (d+1) 67 [.lst false 1 n c]=some ⟨[.own 1 n c],[]⟩:=by
 rw[Aai];have b:List.take n c=c:=Jo Ω;by_cases h:0<n
 ·simp(disch:=omega)only[Av,Au,Ka,Zzq,b,a,Jy]
 ·have e:n=0:=Ω
  subst e;have:=List.length_eq_zero_iff.1 a;subst this;simp(disch:=omega)only[Av,Au,Ka,Zzq,SS,Jy,Nat.zero_mul,List.take_nil]
theorem Asv{n:Nat}{c:Ae}(a:c.length=n*2)(f:n<=1000000):Ac (CX B) prog u (d+1) 116 [.lst false 2 n c]=some ⟨[.own 2 n c],[]⟩:=by
 rw[EM];have b:List.take (n*2) c=c:=Jo Ω;by_cases h:0<n
 ·simp(disch:=omega)only[Av,Au,Ka,Zzq,b,a]
 ·have e:n=0:=Ω
  subst e;have:=List.length_eq_zero_iff.1 a;subst this;simp(disch:=omega)only[Av,Au,Ka,Zzq,SS,Nat.zero_mul,List.take_nil]
def Sd.ocells(x:Sd):Ae:=[.own 1 x.id.length (Af .u8 x.id),A0 x.ht,Ag x.root,Ag x.model,A0 x.fmt,Cn (x.sh),Ag x.used,.own 2 x.rg.length (PY x.rg),Cn (x.sus),A0 x.since,A0 x.last]
theorem Aat{c:Sd}(a:c.id.length<=1000000)(b:c.rg.length<=1000000):Ac (CX B) prog u (d+2) 81 [.agg c.cells]=some ⟨[.agg c.ocells],[]⟩:=by refine (DK u (d+1) c.id.length (Af .u8 c.id) c.ht c.root c.model c.fmt c.sh c.used c.rg.length (PY c.rg) c.sus c.since c.last).trans ?_;have e:=Acg (B:=B) (u:=u) (d:=d) (Am .u8 c.id) a;have f:=Asv (B:=B) (u:=u) (d:=d) (Afn c.rg) b;have i:=Am .u8 c.id;have j:=Afn c.rg;have g:List.take (c.id.length*1) (Af .u8 c.id)=Af .u8 c.id:=Jo Ω;have h:List.take (c.rg.length*2) (PY c.rg)=PY c.rg:=Jo Ω;simp(disch:=omega)only[Av,Au,e,f,g,h];rfl
end
section
variable {u d:Nat}
theorem Bjd(u d : Nat)(f l : Int): Ac C1 prog u (d + 1) 82 [.own 2 0 [], A0 0, .tup [.own 2 1 [A0 f, A0 l]]] =
      some ⟨[.own 2 1 [A0 f, A0 l]], [[A0 f, A0 l]]⟩ := by kernel_rfl
theorem Bh1{l:List (Int × Int)}{i:Nat}{p:Int × Int}(h:l[i]?=some p):(PY l).getD (i*2) .top=A0 p.1:=by have:=Aow (f:=λp:Int × Int=>[PV.sc (.int .i64 p.1),A0 p.2]) (k:=2) (λ_=>rfl) h (j:=0) Ω;exact this
theorem Bgd{l:List (Int × Int)}{i:Nat}{p:Int × Int}(h:l[i]?=some p):(PY l).getD (i*2+1) .top=A0 p.2:=by have:=Aow (f:=λp:Int × Int=>[PV.sc (.int .i64 p.1),A0 p.2]) (k:=2) (λ_=>rfl) h (j:=1) Ω;exact this
theorem Ari{c:Sd}(g:c.ok){leaf:Int}(s:c.rg=[]\/WK c.used leaf=true)(Bg:2000<=u)(from_ now:Int):Ac C1 prog u (d+4) 38 [.agg c.cells,A0 leaf,A0 from_,A0 now]=some ⟨[.agg (Lo c leaf from_ now).1.cells,A0 (Lo c leaf from_ now).2],[]⟩:=by
 refine (PE u (d+3) c.id.length (Af .u8 c.id) c.ht c.root c.model c.fmt c.sh c.used c.rg.length (PY c.rg) c.sus c.since c.last leaf from_ now).trans ?_;have q:=Aat (B:=ZM) (u:=u) (d:=d+1) g.idL (Nat.le_trans g.rgn Ω);simp only[Sd.cells,Sd.ocells] at q;have t:=Am .u8 c.id;have v:=Afn c.rg;have b:List.take (c.id.length*1) (Af .u8 c.id)=Af .u8 c.id:=Jo Ω;have h:List.take (c.rg.length*2) (PY c.rg)=PY c.rg:=Jo Ω;simp(disch:=omega)only[Av,Au,q,b,h,Nr,t,v];by_cases j:c.ht<0
 ·have a:Tu c leaf from_=true:=by simp[Tu,j]
  unfold Lo;rw[Bq a];simp(disch:=omega)only[Av,Au];rfl
 by_cases l:c.ht>4
 ·have a:Tu c leaf from_=true:=by simp[Tu,l]
  unfold Lo;rw[Bq a];simp(disch:=omega)only[Av,Au];rfl
 by_cases m:from_<0
 ·have a:Tu c leaf from_=true:=by simp[Tu,m]
  unfold Lo;rw[Bq a];simp(disch:=omega)only[Av,Au];rfl
 by_cases n:from_>leaf
 ·have a:Tu c leaf from_=true:=by simp[Tu,n]
  unfold Lo;rw[Bq a];simp(disch:=omega)only[Av,Au];rfl
 by_cases o:leaf>=Dx .i64 1 c.ht
 ·have a:Tu c leaf from_=true:=by simp[Tu,o]
  unfold Lo;rw[Bq a];simp(disch:=omega)only[Av,Au];rfl
 have a:Tu c leaf from_=false:=by simp[Tu,j,l,m,n,o]
 obtain⟨z,A,C,D,E,G⟩:=JW a;unfold Lo;rw[Bb (by rw[a];simp)]
 simp(disch:=omega)only[Av,Au];rw[HC (F7:=Ω)];have ub:=Aqo g.u0 g.u1 (k:=leaf) Ω Ω;by_cases e:c.sus=true
 ·have i:∀x y:Option A8,Aq c.sus x y=x:=λx y=>by rw[e];rfl
  rw[Bq e];simp(disch:=omega)only[Av,Au,i,b,h,Nr];rfl
 ·have f:∀x y:Option A8,Aq c.sus x y=y:=λx y=>by rw[Bool.not_eq_true] at e;rw[e];rfl
  rw[Bb e];by_cases Tg:WK c.used leaf=true
  ·rw[Tg] at ub;rw[Bq Tg];simp(disch:=omega)only[Av,Au,f,ub,b,h,Nr];rfl
  ·rw[Bool.not_eq_true] at Tg;rw[Tg] at ub;rw[Bb (by simp[Tg])];simp(disch:=omega)only[Av,Au,f,ub];have w:=s.resolve_right (by rw[Tg];simp)
   obtain⟨id,ht,root,model,fmt,sh,used,rg,sus,since,last⟩:=c;subst w;obtain⟨u,rfl⟩:∃k,u=k+1:=⟨u-1,Ω⟩
   have q:Ac C1 prog (u+1) (d+2+1) 82 [.own 2 0 (List.take (0*2) []),A0 0,.tup [.own 2 1 [A0 from_,A0 leaf]]]=_:=Bjd (u+1) (d+2) from_ leaf;have eS:Vg .u64 used (Dx .u64 1 leaf)=Asr used leaf:=rfl;have p:B1 [PV.sc (.int .i64 from_),PV.sc (.int .i64 leaf)] [PV.sc (.int .i64 leaf)] (0+Int.toNat 0*2+1)=[PV.sc (.int .i64 from_),PV.sc (.int .i64 leaf)]:=rfl;have r:((0:Int)==((0:Nat):Int))=true:=rfl;simp only[PY,List.flatMap_nil,SS];rw[HG]
   repeat(with_reducible(first|apply Bl|apply A2|apply Bk|apply A5|apply QZ|apply Kr|apply A1|apply Bj|apply H4);· first|constructor|(simp(disch:=omega)only[H5,r,q,p,b,eS,Am,Nr,Ox,SS]<;>first|constructor|omega)|omega)
   try simp(disch:=omega)only[Aa,r,q,p,b,eS,Am,Nr,Ox,SS]
   rfl
end
section
variable {u d:Nat}
theorem Ant(a b c:Int):Ac C1 prog u (d+1) 102 [A0 a,A0 b,A0 c]=some ⟨[Cn (decide (b<=a)&&decide (a<=c))],[]⟩:=by
 rw[BS];by_cases e:b<=a
 ·simp(disch:=omega)only[Av,Au,e,decide_true,Zzm]
 ·have ZU:¬a>=b:=Ω
  simp[Aq,e,ZU]
theorem Amg{c:Sd}(o:c.ok){leaf:Int}(p:c.rg=[]\/WK c.used leaf=true)(Bg:2000<=u)(from_ now:Int):Ac C1 prog u (d+2) 60 [.agg c.cells,A0 leaf,A0 from_,A0 now]=some ⟨[.agg (Lo c leaf from_ now).1.cells,A0 (Lo c leaf from_ now).2],[]⟩:=by
 refine (BZ u (d+1) c.id.length (Af .u8 c.id) c.ht c.root c.model c.fmt c.sh c.used c.rg.length (PY c.rg) c.sus c.since c.last leaf from_ now).trans ?_;have q:=Ant (u:=u) (d:=d) c.ht 0 4;simp only[Av,Au,q]
 have badT:∀(b:Tu c leaf from_=true),Gx u (Ac C1 prog u (d+1)) c.id.length (Af .u8 c.id) c.ht c.root c.model c.fmt c.sh c.used c.rg.length (PY c.rg) c.sus c.since c.last leaf from_ now u leaf from_ now true c.id.length (Af .u8 c.id) c.ht c.root c.model c.fmt c.sh c.used c.rg.length (PY c.rg) c.sus c.since c.last 0 0 0 0 0 false 0 0 false 0 0 [] []=some ⟨[.agg (Lo c leaf from_ now).1.cells,A0 (Lo c leaf from_ now).2],[]⟩:=by
  intro b;unfold Lo;rw[Bq b,Me (F7:=Ω)];rfl
 by_cases a:(decide (0<=c.ht)&&decide (c.ht<=4))=true
 rotate_left
 ·have b:Tu c leaf from_=true:=by
   simp only[Ge,JI] at a;unfold Tu;by_cases i:c.ht<0
   ·simp[i]
   ·have:c.ht>4:=Ω
    simp[this]
  rw[Bool.not_eq_true] at a;rw[a];exact badT b
 rw[a];simp only[Ge,JI] at a;have bF:∀x y:Option A8,Aq (!true) x y=y:=λ_ _=>rfl;rw[bF];by_cases g:from_<0
 ·rw[EY _ _ _ g];exact badT (by simp[Tu,g])
 rw[Fd _ _ _ g];by_cases j:leaf<from_
 ·rw[EY _ _ _ j];exact badT (by have:from_>leaf:=j;simp[Tu,this])
 rw[Fd _ _ _ j];have w0:wrap .u64 c.ht=c.ht:=Do;rw[w0,KR _ _ a.1];by_cases h:leaf>=Dx .i64 1 c.ht
 ·rw[decide_eq_true h];exact badT (by simp[Tu,h])
 rw[decide_eq_false h]
 have b:Tu c leaf from_=false:=by
  have i:¬c.ht<0:=Ω
  have r:¬c.ht>4:=Ω
  have l:¬from_>leaf:=Ω
  simp[Tu,i,r,g,l,h]
 obtain⟨t,v,w,z,A,C⟩:=JW b;unfold Lo;rw[Bb (by rw[b];simp)]
 rw[Me (F7:=Ω)];dsimp only;have ub:=Al2 o.u0 o.u1 (k:=leaf) Ω Ω;have m:wrap .u64 leaf=leaf:=Do;have fF:∀x y:Option A8,Aq false x y=y:=λ_ _=>rfl;rw[fF];by_cases e:c.sus=true
 ·have n:∀x y:Option A8,Aq c.sus x y=x:=λx y=>by rw[e];rfl
  rw[Bq e];simp(disch:=omega)only[Av,Au,n];rfl
 ·have f:∀x y:Option A8,Aq c.sus x y=y:=λx y=>by rw[Bool.not_eq_true] at e;rw[e];rfl
  rw[Bb e];by_cases Tg:WK c.used leaf=true
  ·rw[Tg] at ub;rw[Bq Tg];simp(disch:=omega)only[Av,Au,f,m,ub];rfl
  ·rw[Bool.not_eq_true] at Tg;rw[Tg] at ub;rw[Bb (by simp[Tg])];simp(disch:=omega)only[Av,Au,f,m,ub];have s:=p.resolve_right (by rw[Tg];simp)
   obtain⟨id,ht,root,model,fmt,sh,used,rg,sus,since,last⟩:=c;subst s;obtain⟨u,rfl⟩:∃k,u=k+1:=⟨u-1,Ω⟩
   have eS:Vg .u64 used (Dx .u64 1 leaf)=Asr used leaf:=rfl;simp only[PY,List.flatMap_nil,SS];rw[Xl];simp(disch:=omega)only[Av,Au,Gg,m,eS,Nr,SS];rfl
end
theorem A3h{c:Sd}(h:c.ok)(b:c.rg.length<1000)(leaf f now:Int):(Lo c leaf f now).1.ok:=by
 unfold Lo;split
 ·exact h
 rename_i a;rw[Bool.not_eq_true] at a;obtain⟨d,e,g,_⟩:=JW a;split
 ·exact h
 split
 ·exact⟨h.idB,h.idL,h.u0,h.u1,h.asc,h.rgn⟩
 split
 ·exact h
 ·rename_i r hp;have sB:=A6e h.u0 h.u1 (k:=leaf) Ω Ω;have:=Aqc hp;exact⟨h.idB,h.idL,sB.1,sB.2,Ao0 h.asc hp,by show r.length<=1000;omega⟩
section
variable {u d:Nat}
theorem Aki{n m:Nat}{a b:Ae}{F:Ao}{l:List (Int × Int)}(h:l.length<=100000):∀(r:List (Int × Int)) (i nn:Nat),l.drop i=r->r.length<nn->i<=l.length ->
  E9 u F n a m b nn l.length (PY l) l.length (PY l) (i:Int)=some ⟨[Cn true],[]⟩:=by
 intro r
 induction r with
 |nil=>
  intro i nn hd d hi;have:=drop_nil hd;obtain⟨nn,rfl⟩:∃k,nn=k+1:=⟨nn-1,Ω⟩
  rw[Jj];simp(disch:=omega)only[Av,Au]
 |cons p r e=>
  intro i nn hd d hi;obtain⟨Cs,VI,c⟩:=Cl hd;obtain⟨nn,rfl⟩:∃k,nn=k+1:=⟨nn-1,Ω⟩
  rw[Jj];have eF:=Bh1 VI;have eL:=Bgd VI;have n1:Int.toNat (i:Int)=i:=H8 _;have f:wrap .i64 ((i:Int)+1)=((i+1:Nat):Int):=Bi
  have q:=e (i+1) nn c (by simp at d;omega) Ω
  have g:(!(p.1==p.1&&p.2==p.2))=false:=Ψ
  simp(disch:=omega)only[Av,Au,n1,eF,eL,Zzn,g,f,q]
theorem Aq3{l:List (Int × Int)}(a:l.length<=100000)(Bg:l.length<u):Ac C1 prog u (d+1) 61 [.lst false 2 l.length (PY l),.lst false 2 l.length (PY l)]=some ⟨[Cn true],[]⟩:=by
 rw[Vq];have b:((l.length:Int) != (l.length:Int))=false:=Ψ
 simp(disch:=omega)only[Av,Au,b];exact Aki a l 0 u rfl Bg Ω
theorem Aq2{c:Sd}(a:c.ok)(Bg:2000<=u):Ac C1 prog u (d+2) 27 [.agg c.cells,.agg c.cells]=some ⟨[Cn true],[]⟩:=by
 refine (V0 u (d+1) c.id.length (Af .u8 c.id) c.ht c.root c.model c.fmt c.sh c.used c.rg.length (PY c.rg) c.sus c.since c.last c.id.length (Af .u8 c.id) c.ht c.root c.model c.fmt c.sh c.used c.rg.length (PY c.rg) c.sus c.since c.last).trans ?_;have b:=Am .u8 c.id;have q:=Aq3 (u:=u) (d:=d) (l:=c.rg) (by have:=a.rgn;omega) (by have:=a.rgn;omega)
 have e:=I3 c.id;have f:∀l:List UInt8,(l==l)=true:=λl=>Ψ
 have g:∀x:Int,(x==x)=true:=λx=>Ψ
 have h:∀x:Bool,(x==x)=true:=λx=>by cases x<;>rfl
 repeat(with_reducible(first|apply Bl|apply A2|apply Bk|apply A5|apply Fm|apply A1|apply Bj|apply H4);· first|constructor|(simp(disch:=omega)only[H5,b,e,f,g,h,q,Zzn]<;>first|constructor|omega)|omega)
 try simp(disch:=omega)only[Aa,b,e,f,g,h,q,Zzn]
end
structure OV where
 vf:Int
 rs:Bool
 ht:Int
 pr:Int
 sh:Bool
 fm:Int
 od:Bool
 dn:Ak
 op:Int
def OV.cells(p:OV):Ae:=[A0 p.vf,Cn (p.rs),A0 p.ht,A0 p.pr,Cn (p.sh),A0 p.fm,Cn (p.od),.lst false 1 p.dn.length (Af .u64 p.dn),A0 p.op]
def OV.own(p:OV):Ae:=[A0 p.vf,Cn (p.rs),A0 p.ht,A0 p.pr,Cn (p.sh),A0 p.fm,Cn (p.od),.own 1 p.dn.length (Af .u64 p.dn),A0 p.op]
structure R7 where
 rp:Int
 fl:Int
 ct:Int
 rg:Int
 md:Int
 idn:Nat
 id:Ae
 kh:Int
 kr:Int
def R7.cells(a:R7):Ae:=[Ag a.rp,A0 a.fl,A0 a.ct,A0 a.rg,Ag a.md,.lst false 1 a.idn a.id,A0 a.kh,Ag a.kr]
structure Stc where
 n0:Nat
 c0:Ae
 i1:Int
 i2:Int
 md:Int
 i4:Int
 sh:Bool
 i6:Int
 n7:Nat
 c7:Ae
 b8:Bool
 i9:Int
 i10:Int
def Stc.cells(a:Stc):Ae:=[.lst false 1 a.n0 a.c0,A0 a.i1,Ag a.i2,Ag a.md,A0 a.i4,Cn (a.sh),Ag a.i6,.lst false 2 a.n7 a.c7,Cn (a.b8),A0 a.i9,A0 a.i10]
def KO(vf fl:Int):Int:=if C5 .i64 fl 1=0 then 22 else if vf=2 then if C5 .i64 fl 4=0 then 23 else 0 else 0
def Aqr(dn:Ak)(od:Bool)(m st:Int):Int:=if st=3 then 39 else if st=4 then 39 else if m∈dn then 40 else if st=2 then if od=true then 0 else 40 else 0
def UT(p:OV)(a:R7)(sh:Bool)(md st:Int):Int:=
 if KO p.vf a.fl=0 then if ((C5 .i64 a.fl 8 != 0)==sh)=true then if md=0 then 0 else Aqr p.dn p.od md st else 40 else KO p.vf a.fl
section
variable {u d:Nat}
theorem A3t(p:OV)(a:R7):Ac C1 prog u (d+1) 77 [.agg p.cells,.agg a.cells]=some ⟨[A0 (KO p.vf a.fl)],[]⟩:=by unfold OV.cells R7.cells;rw[CO];simp only[Fv,Hx,IG,KO]
theorem Avp(p:OV)(fl:Int):Ac C1 prog u (d+1) 99 [.agg p.cells,A0 fl]=some ⟨[A0 (KO p.vf fl)],[]⟩:=by unfold OV.cells;rw[AF];simp only[Fv,Hx,IG,KO]
theorem XK{F:Ao}{n:Nat}{c:Ae}{t:Int}{l:Ak}{m:Int}(b:l.length<=maxLen):∀(r:Ak)(i nn:Nat),l.drop i=r->r.length<nn ->
  ∃k:Int,G2 u F n c t nn l.length (Af .u64 l) m (l.length:Int) i=some ⟨[A0 k],[]⟩/\(0<=k↔m∈r)
 |r,i,0,_,h=>Ω
 |[],i,nn+1,h,_=>by
  have:=drop_nil h;rw[Mi];refine⟨-1,?_,Ψ⟩;simp(disch:=omega)only[Av,Au]
 |x::r,i,nn+1,h,d=>by
  obtain⟨p,e,f⟩:=Cl h;simp only[maxLen] at b;simp only[Ox] at d;rw[Mi];have g:=Sr (k:=.u64) e;simp(disch:=omega)only[Av,Au,H8,Jy,g,Hx];by_cases a:m=x
  ·refine⟨i,by rw[Bq a],by simp[a]⟩
  ·obtain⟨k,j,o⟩:=XK (m:=m) (F:=F) (n:=n) (c:=c) (t:=t) (by simp only[maxLen];omega) r (i+1) nn f Ω
   refine⟨k,by rw[Bb a,Bc];exact j,by rw[o];simp[a]⟩
theorem Aih{l:Ak}(a:l.length<=maxLen)(Bg:l.length<u)(m:Int):Ac C1 prog u (d+2) 113 [.lst false 1 l.length (Af .u64 l),Ag m]=some ⟨[Cn (decide (m∈l))],[]⟩:=by
 rw[Xk];obtain⟨k,b,e⟩:=XK (u:=u) (F:=Ac C1 prog u d) (n:=l.length) (c:=Af .u64 l) (t:=m) (m:=m) a l 0 u rfl Bg
 have f:Ac C1 prog u (d+1) 136 [.lst false 1 l.length (Af .u64 l),Ag m]=some ⟨[A0 k],[]⟩:=by
  rw[BN];exact b
 simp only[Av,Au,f];have:decide (k>=0)=decide (m∈l):=by simp only[ge_iff_le,e]
 rw[this]
theorem Ayb(p:OV)(a:p.dn.length<=maxLen)(Bg:p.dn.length<u)(m st:Int):Ac C1 prog u (d+3) 78 [.agg p.cells,Ag m,A0 st]=some ⟨[A0 (Aqr p.dn p.od m st)],[]⟩:=by unfold OV.cells;rw[HH];simp only[Aih a Bg,Zx,IY,Z1,MS,Hx,Aex,IK];simp only[UC,IG,Aqr,JI]
theorem RW{F:Ao}{z0:Int}{z1:Bool}{z2 z3:Int}{z4:Bool}{z5:Int}{z6:Bool}{n:Nat}{c:Ae}{z8 z9 z10:Int}{y3 y5 y6 y8 y12:Int}{y4 y7:Bool}{m st:Int}{od:Bool}{l:Ak}(d:l.length<=maxLen):∀(r:Ak)(i nn:Nat),l.drop i=r->r.length<nn ->
  Fx u F z0 z1 z2 z3 z4 z5 z6 n c z8 z9 z10 nn m st (i:Int) y3 y4 y5 y6 y7 y8 od l.length (Af .u64 l) y12=some ⟨[A0 (if m∈r then 40 else if st=2 then if od=true then 0 else 40 else 0)],[]⟩
 |r,i,0,_,h=>Ω
 |[],i,nn+1,h,_=>by
  have:=drop_nil h;rw[Nh];rw[Fd _ _ _ Ω];simp only[Hx,Aex];simp only[UC,IG,List.not_mem_nil,if_false]
 |x::r,i,nn+1,h,f=>by
  obtain⟨p,g,j⟩:=Cl h;simp only[maxLen] at d;simp only[Ox] at f;rw[Nh];have o:=Sr (k:=.u64) g;rw[EY _ _ _ Ω];simp(disch:=omega)only[Aen,KR,JD,Fv,H8,Jy,o,Hx];by_cases a:x=m
  ·rw[Bq a,Bq (by simp[a])]
  ·rw[Bb a,Bc];have:=RW (F:=F) (z0:=z0) (z1:=z1) (z2:=z2) (z3:=z3) (z4:=z4) (z5:=z5) (z6:=z6) (n:=n) (c:=c) (z8:=z8) (z9:=z9) (z10:=z10) (y3:=y3) (y4:=y4) (y5:=y5) (y6:=y6) (y7:=y7) (y8:=y8) (y12:=y12) (m:=m) (st:=st) (od:=od) (by simp only[maxLen];omega) r (i+1) nn j Ω
   refine Eq.trans this ?_
   have b:m∈x::r↔m∈r:=by
    rw[List.mem_cons];exact⟨λh=>h.elim (λe=>absurd e.symm a) id,.inr⟩
   simp only[b]
theorem Aqk(p:OV)(a:p.dn.length<=maxLen)(Bg:p.dn.length<u)(m st:Int):Ac C1 prog u (d+1) 100 [.agg p.cells,Ag m,A0 st]=some ⟨[A0 (Aqr p.dn p.od m st)],[]⟩:=by unfold OV.cells;rw[FE];have:=RW (u:=u) (F:=Ac C1 prog u d) (z0:=p.vf) (z1:=p.rs) (z2:=p.ht) (z3:=p.pr) (z4:=p.sh) (z5:=p.fm) (z6:=p.od) (n:=p.dn.length) (c:=Af .u64 p.dn) (z8:=p.op) (z9:=m) (z10:=st) (y3:=p.vf) (y4:=p.rs) (y5:=p.ht) (y6:=p.pr) (y7:=p.sh) (y8:=p.fm) (y12:=p.op) (m:=m) (st:=st) (od:=p.od) a p.dn 0 u rfl Bg;simp only[Int.natCast_zero,Int.ofNat_zero] at this;have b:Fx u (Ac C1 prog u d) p.vf p.rs p.ht p.pr p.sh p.fm p.od p.dn.length (Af .u64 p.dn) p.op m st u m st 0 p.vf p.rs p.ht p.pr p.sh p.fm p.od p.dn.length (Af .u64 p.dn) p.op=_:=this;simp only[b,Hx,IG,Aqr]
theorem A50(p:OV)(b:p.dn.length<=maxLen)(Bg:p.dn.length<u)(a:R7)(c:Stc)(st:Int):
  Ac C1 prog u (d+4) 36 [.agg p.cells,.agg a.cells,.agg c.cells,A0 st]=some ⟨[A0 (UT p a c.sh c.md st)],[]⟩:=by
 have e:=A3t (u:=u) (d:=d+2) p a;have f:=Ayb (u:=u) (d:=d) p b Bg c.md st;unfold OV.cells R7.cells Stc.cells at *
 rw[PP];simp only[e,f,Zx,IY,Z1,JD,Fv,Hx,D8,Aex];simp only[UC,IG,UT]
theorem A0b(p:OV)(b:p.dn.length<=maxLen)(Bg:p.dn.length<u)(a:R7)(c:Stc)(st:Int):
  Ac C1 prog u (d+4) 58 [.agg p.cells,.agg a.cells,.agg c.cells,A0 st]=some ⟨[A0 (UT p a c.sh c.md st)],[]⟩:=by
 have e:=Avp (u:=u) (d:=d+2) p a.fl;have f:=Aqk (u:=u) (d:=d+2) p b Bg c.md st;unfold OV.cells R7.cells Stc.cells at *
 rw[AN];simp only[e,f,Zx,IY,Z1,JD,Fv,Hx,D8,Aex];simp only[UC,IG,UT]
end
section
variable {B:FuncId->Option (Ae->Option A8)}(u d:Nat)(F:Ao)
theorem IF{p:Option (Ae->Option A8)}(u d:Nat)(Z:Int):Ac (CP p) prog u (d+1) 109 [.lst true 1 0 [],Z]=(λ(F:Ao)=>Aq (decide (Z<0)) none (Aa (wrap .i64 (Z-0)) λa=>Aq (decide (a>0)) (Aw (decide (0<=a)&&decide (a.toNat*1<=1099511627776)&&decide (a<=1099511627776))<|Bd [.own 1 0 []]) (Bd [.own 1 0 []]))) (Ac (CP p) prog u d):=Κ
def Js(Z:Nat)(Y:Ae)(X W:Nat)(V:Ae)(U:Int)(T:Nat)(S:Ae)(Q P:Int):Option A8:=H6 u F 73 Tryz.f73 [Ap 1 Z Y] [.r,.r,.l,.r,.l] X ⟨lk [(0,Ap 1 W V),(3,U),(9,Ap 1 T S),(10,Q),(11,P)],Fe []⟩
def Ju(Z:Nat)(Y:Ae)(X W V:Nat)(U:Ae)(T S:Int)(Q:Ae):Option A8:=H6 u F 73 Tryz.f73 [Ap 1 Z Y] [.r,.r,.r,.r,.l,.r,.l] X ⟨lk [(6,.view 6 1 0 W),(25,Ap 1 V U),(26,T),(27,S)],Fe [(6,.ar false Q)]⟩
theorem Iw(X:Nat)(W:Ae)(P Y:Nat)(V:Ae)(U:Int)(T:Nat)(S:Ae)(Q Z:Int):Js u F X W (P+1) Y V U T S Q Z=(Aq (decide (Z<Q)) (Aw (decide (0<=Z)&&decide (Z<(↑T:Int)))<|FF 1 (S.getD (Z.toNat*1) .top) λa b c=>Aa (wrap .i64 (U+(↑b:Int))) λa=>Aq (decide (a<0)) none (Aa (wrap .i64 (Z+1)) λb=>Js u F X W P Y V a T S Q b)) (De (F 109 [.lst true 1 0 [],U]) λa b=>Na 1 a λa c=>Ah b<|Ju u F X W u a Y V (↑Y:Int) 0 c)):=Κ
theorem Ie(T:Nat)(S:Ae)(Q Z W:Nat)(V:Ae)(U Y:Int)(X:Ae):Ju u F T S (Q+1) Z W V U Y X=(Aq (decide (Y<U)) (Aw (decide (0<=Y)&&decide (Y<(↑W:Int)))<|FF 1 (V.getD (Y.toNat*1) .top) λa b c=>Aw (decide (Z*1<=X.length)&&decide (c.length=b*1)&&decide ((Z+b)*1<=1099511627776)&&decide (Z+b<=1099511627776))<|Aa (Z+b) λa=>Aa (List.take (Z*1) X++c) λb=>Aa (wrap .i64 (Y+1)) λc=>Ju u F T S Q a W V U c b) (Aw (decide (Z*1<=X.length))<|Bd [.own 1 Z (X.take (Z*1))])):=Κ
theorem EV{p:Option (Ae->Option A8)}(u d Z:Nat)(Y:Ae):Ac (CP p) prog u (d+1) 73 [Ap 1 Z Y]=(λ(F:Ao)=>Js u F Z Y u Z Y 0 Z Y (↑Z:Int) 0) (Ac (CP p) prog u d):=Κ
def Kz(Z:Nat)(Y:Ae)(X:Nat)(W:Int)(V:Nat)(U:Ae)(T S:Int):Option A8:=H6 u F 64 Tryz.f64 [Ap 1 Z Y] [.r,.r,.l,.r,.l] X ⟨lk [(3,Ag W),(6,Ap 1 V U),(7,T),(8,S)],Fe []⟩
theorem Uu(U:Nat)(T:Ae)(S:Nat)(Y:Int)(X:Nat)(W:Ae)(V Z:Int):Kz u F U T (S+1) Y X W V Z=(Aq (decide (Z<V)) (Aw (decide (0<=Z)&&decide (Z<(↑X:Int)))<|Bn .u8 (W.getD (Z.toNat*1) .top) λa=>Aa (Dx .u64 Y 8) λb=>Aa (wrap .u64 a) λa=>Aa (Vg .u64 b a) λa=>Aa (wrap .i64 (Z+1)) λb=>Kz u F U T S a X W V b) (Bd [Ag Y])):=Κ
theorem TN{p:Option (Ae->Option A8)}(u d Z:Nat)(Y:Ae):Ac (CP p) prog u (d+1) 64 [Ap 1 Z Y]=(λ(F:Ao)=>Kz u F Z Y u 0 Z Y (↑Z:Int) 0) (Ac (CP p) prog u d):=Κ
theorem YA{p:Option (Ae->Option A8)}(u d:Nat)(X Z:Int)(W V U:Int)(T:Nat)(S:Ae)(Q P Y:Int):Ac (CP p) prog u (d+1) 65 [.agg [Ag X,Z,W,V,Ag U,Ap 1 T S,Q,Ag P],Y]=(λ(F:Ao)=>Aa (C5 .i64 Z Y) λa=>Bd [Cn (a != 0)]) (Ac (CP p) prog u d):=Κ
def Qx(Z Y:Int)(X W V:Int)(U:Nat)(T:Ae)(S Q:Int)(P:Nat)(O N:Int)(M L K:Int)(J:Nat)(I:Ae)(H G:Int):Option A8:=H6 u F 68 Tryz.f68 [.agg [Ag Z,Y,X,W,Ag V,Ap 1 U T,S,Ag Q]] [.r] P ⟨lk [(1,.ptr 1 0)],Fe [(1,.st [Ag O,N,M,L,Ag K,Ap 1 J I,H,Ag G])]⟩
theorem Z5(O N:Int)(M L K:Int)(J:Nat)(I:Ae)(H G:Int)(P:Nat)(F7:0<P)(V U:Int)(T S W:Int)(Z:Nat)(Q:Ae)(Y X:Int):Qx u F O N M L K J I H G P V U T S W Z Q Y X=((λf:PV=>De (F 65 [f,(16:Int)]) λa b=>Be a λa=>(λe:Option A8=>Ah b<|Aq a (De (F 65 [f,(8:Int)]) λa b=>Be a λa=>Ah b<|Aq (!a) (Bd [(18:Int)]) (De (F 65 [f,(64:Int)]) λa b=>Be a λa=>Ah b<|Aq (!a) e (Aq ((↑Z:Int) != 176) (Bd [(4:Int)]) (De (F 107 [.agg [Y,Ag X]]) λa b=>Na 1 a λa c=>Br .i64 b λa=>Bd [a])))) (De (F 65 [f,(64:Int)]) λa b=>Be a λa=>Ah b<|Aq (!a) e (Aq ((↑Z:Int) != 176) (Bd [(4:Int)]) (De (F 107 [.agg [Y,Ag X]]) λa b=>Na 1 a λa c=>Br .i64 b λa=>Bd [a])))) (Aq (W != 0) (Bd [(4:Int)]) (Aq ((↑Z:Int) != 0) (Bd [(4:Int)]) (Aq (!(Y==0&&(X==0&&true))) (Bd [(4:Int)]) (Bd [(0:Int)]))))) (.agg [Ag V,U,T,S,Ag W,Ap 1 Z Q,Y,Ag X])):=by cases P with|zero=>exact absurd F7 (Nat.lt_irrefl 0)|succ P=>kernel_rfl
theorem GI{p:Option (Ae->Option A8)}(u d:Nat)(W X:Int)(Z Y V:Int)(U:Nat)(T:Ae)(S Q:Int):Ac (CP p) prog u (d+1) 68 [.agg [Ag W,X,Z,Y,Ag V,Ap 1 U T,S,Ag Q]]=(λ(F:Ao)=>Aa (Zp .i64 X 93) λa=>(λb:Option A8=>Aq (a != 0) b (Aq (decide (Z<0)) b (Aq (decide (Z>16)) b (Aq (decide (Y<0)) b (Aq (decide (Y>=16)) b (Qx u F W X Z Y V U T S Q u W X Z Y V U T S Q)))))) (Bd [(9:Int)])) (Ac (CP p) prog u d):=Κ
theorem NB{p:Option (Ae->Option A8)}(u d Z:Nat)(Y:Ae):Ac (CP p) prog u (d+1) 30 [Ap 1 Z Y]=(λ(F:Ao)=>(λm:Option A8=>Aq (decide ((↑Z:Int)<11)) m (Aw (decide (8<=Z))<|Aa (List.take 8 (Y.drop 0)) λa=>Gm .u64 (F 64 [Ap 1 8 a]) λa=>Aw (decide (8<(↑Z:Int)))<|Bn .u8 (Y.getD 8 .top) λb=>Aa (wrap .i64 b) λb=>Aw (decide (9<(↑Z:Int)))<|Bn .u8 (Y.getD 9 .top) λc=>Aa (wrap .i64 c) λc=>Aw (decide (10<(↑Z:Int)))<|Bn .u8 (Y.getD 10 .top) λe=>Aa (wrap .i64 e) λe=>(λn:PV=>De (F 65 [n,(64:Int)]) λf g=>Be f λf=>Ah g<|Aq f (Aq (decide ((↑Z:Int)<195)) m (Aw (decide (195<=Z)&&decide (Z<=Z))<|Aa (Z-195) λf=>Aa (List.take (f*1) (Y.drop 195)) λg=>De (F 66 [Ap 1 f g]) λf g=>Dr f λf=>Bw .i64 f λf h=>Br .u64 h λh=>Br .i64 g λg=>Aq (g != 0) m (Aw (decide (19<=Z))<|Aa (List.take 8 (Y.drop 11)) λg=>Gm .u64 (F 64 [Ap 1 8 g]) λg=>Aw (decide (195<=Z))<|Aa (List.take 176 (Y.drop 19)) λi=>De (F 67 [Ap 1 176 i]) λi j=>Na 1 i λi k=>Ah j<|Aw (decide (0+i*1<=k.length))<|Gm .i64 (F 68 [.agg [Ag a,b,c,e,Ag g,Ap 1 i (List.take (i*1) (k.drop 0)),f,Ag h]]) λj=>Aq (j != 0) m (Aw (decide (i*1<=k.length))<|Bd [.agg [Ag a,b,c,e,Ag g,.own 1 i (k.take (i*1)),f,Ag h],(0:Int)])))) (Aq (decide ((↑Z:Int)>11)) m (Gm .i64 (F 68 [n]) λf=>Aq (f != 0) m (Bd [.agg [Ag a,b,c,e,Ag 0,.own 1 0 [],(0:Int),Ag 0],(0:Int)])))) (.agg [Ag a,b,c,e,Ag 0,Ap 1 0 [],(0:Int),Ag 0]))) (Bd [.agg [Ag 0,(0:Int),(0:Int),(0:Int),Ag 0,.own 1 0 [],(0:Int),Ag 0],(2:Int)])) (Ac (CP p) prog u d):=Κ
theorem KN{p:Option (Ae->Option A8)}(u d:Nat)(Z:ByteArray):Ac (CP p) prog u (d+1) 31 [Z]=(λ(F:Ao)=>Aw (decide (ByteArray.size Z<=1099511627776))<|Aw (decide (0+ByteArray.size Z*1<=List.length (D1 Z)))<|Gm .u64 (F 69 [(9:Int),Ap 1 (ByteArray.size Z) (List.take (ByteArray.size Z*1) (List.drop 0 (D1 Z)))]) λa=>Bd [Ag a]) (Ac (CP p) prog u d):=Κ
theorem JT{p:Option (Ae->Option A8)}(u d Z:Nat)(Y:Ae)(X:Int):Ac (CP p) prog u (d+1) 33 [Ap 1 Z Y,Ag X]=(λ(F:Ao)=>De (F 74 [Ap 1 1 [Ag X]]) λa b=>Na 1 a λa c=>Ah b<|Aw (decide (0+a*1<=c.length))<|De (F 73 [Ap 1 2 [Ap 1 Z Y,Ap 1 a (List.take (a*1) (c.drop 0))]]) λa b=>Na 1 a λa c=>Ah b<|Aw (decide (0+a*1<=c.length))<|Gm .u64 (F 69 [(13:Int),Ap 1 a (List.take (a*1) (c.drop 0))]) λa=>Bd [Ag a]) (Ac (CP p) prog u d):=Κ
theorem BV{p:Option (Ae->Option A8)}(u d:Nat)(Z Y X:Int):Ac (CP p) prog u (d+1) 87 [Z,Y,X]=(λ(F:Ao)=>Aq (decide (Z>=Y)) (Bd [Cn (decide (Z<=X))]) (Bd [false])) (Ac (CP p) prog u d):=Κ
theorem Tb{p:Option (Ae->Option A8)}(u d:Nat)(S Z:Int)(U T V:Int)(Y:Nat)(Q:Ae)(X W:Int):Ac (CP p) prog u (d+1) 44 [.agg [Ag S,Z,U,T,Ag V,Ap 1 Y Q,X,Ag W]]=(λ(F:Ao)=>Aa (Zp .i64 Z 93) λa=>(λg:Option A8=>Aq (a != 0) g (De (F 87 [U,(0:Int),(16:Int)]) λa b=>Be a λa=>Ah b<|Aq (!a) g (De (F 87 [T,(0:Int),(15:Int)]) λa b=>Be a λa=>Ah b<|Aq (!a) g (Aa (C5 .i64 Z 16) λa=>(λf:Option A8=>(λe:Option A8=>Aq (a != 0) (Aa (C5 .i64 Z 8) λa=>Aq (a==0) (Bd [(18:Int)]) (Aa (C5 .i64 Z 64) λa=>Aq (a==0) e (Aq ((↑Y:Int) != 176) f (De (F 46 [.agg [X,Ag W]]) λa b=>Na 1 a λa c=>Br .i64 b λa=>Bd [a])))) (Aa (C5 .i64 Z 64) λa=>Aq (a==0) e (Aq ((↑Y:Int) != 176) f (De (F 46 [.agg [X,Ag W]]) λa b=>Na 1 a λa c=>Br .i64 b λa=>Bd [a])))) (Aq (V != 0) f (Aq (decide ((↑Y:Int)>0)) f (Aq (!(X==0&&(W==0&&true))) f (Bd [(0:Int)]))))) (Bd [(4:Int)]))))) (Bd [(9:Int)])) (Ac (CP p) prog u d):=Κ
theorem V2{p:Option (Ae->Option A8)}(u d Z:Nat)(Y:Ae):Ac (CP p) prog u (d+1) 54 [Ap 1 Z Y]=(λ(F:Ao)=>(λm:Option A8=>(λk:Option A8=>Aq ((↑Z:Int) != 11) (Aq ((↑Z:Int) != 204) m k) k) (Aw (decide (8<=Z))<|Aa (List.take 8 (Y.drop 0)) λa=>Gm .u64 (F 96 [Ap 1 8 a]) λa=>Aw (decide (8<(↑Z:Int)))<|Bn .u8 (Y.getD 8 .top) λb=>Aa (wrap .i64 b) λb=>Aw (decide (9<(↑Z:Int)))<|Bn .u8 (Y.getD 9 .top) λc=>Aa (wrap .i64 c) λc=>Aw (decide (10<(↑Z:Int)))<|Bn .u8 (Y.getD 10 .top) λe=>Aa (wrap .i64 e) λe=>(λo:PV=>Aq (decide ((↑Z:Int)>11)) (Aw (decide (195<=Z)&&decide (Z<=Z))<|Aa (Z-195) λf=>Aa (List.take (f*1) (Y.drop 195)) λg=>De (F 97 [Ap 1 f g]) λf g=>Dr f λf=>Bw .i64 f λf h=>Br .u64 h λh=>Br .i64 g λg=>Aq (g != 0) m (Aw (decide (19<=Z))<|Aa (List.take 8 (Y.drop 11)) λg=>Gm .u64 (F 96 [Ap 1 8 g]) λg=>Aw (decide (195<=Z))<|Aa (List.take 176 (Y.drop 19)) λi=>(λn:PV=>Aw (decide (i.length=176)&&true&&true)<|Aw (decide (176<=i.length))<|Gm .i64 (F 44 [n]) λj=>Aq (j != 0) m (Aa (C5 .i64 b 64) λj=>Aq (!decide ((↑Z:Int)>11)==(j != 0)) m (Aw (decide (176<=i.length))<|Bd [n,(0:Int)]))) (.agg [Ag a,b,c,e,Ag g,Ap 1 176 (List.take 176 (i.drop 0)),f,Ag h]))) (Gm .i64 (F 44 [o]) λf=>Aq (f != 0) m (Aa (C5 .i64 b 64) λf=>Aq (!decide ((↑Z:Int)>11)==(f != 0)) m (Bd [o,(0:Int)])))) (.agg [Ag a,b,c,e,Ag 0,Ap 1 0 [],(0:Int),Ag 0]))) (Bd [.agg [Ag 0,(0:Int),(0:Int),(0:Int),Ag 0,Ap 1 0 [],(0:Int),Ag 0],(2:Int)])) (Ac (CP p) prog u d):=Κ
theorem BQ{p:Option (Ae->Option A8)}(u d:Nat)(Z:ByteArray):Ac (CP p) prog u (d+1) 19 [Z]=(λ(F:Ao)=>Aw (decide (ByteArray.size Z<=1099511627776))<|Aw (decide (0+ByteArray.size Z*1<=List.length (D1 Z)))<|Gm .u64 (F 47 [(9:Int),Ap 1 (ByteArray.size Z) (List.take (ByteArray.size Z*1) (List.drop 0 (D1 Z)))]) λa=>Bd [Ag a]) (Ac (CP p) prog u d):=Κ
theorem Zr{p:Option (Ae->Option A8)}(u d Z:Nat)(Y:Ae)(X:Int):Ac (CP p) prog u (d+1) 22 [Ap 1 Z Y,Ag X]=(λ(F:Ao)=>Aw (decide (Y.length=Z*1)&&decide (Z*1<=1099511627776)&&decide (Z<=1099511627776))<|De (F 45 [Ap 1 1 [Ag X]]) λa b=>Na 1 a λa c=>Ah b<|Aw (decide (0+a*1<=c.length))<|Aw (decide (Z*1<=Y.length)&&decide (List.length (List.take (a*1) (c.drop 0))=a*1)&&decide ((Z+a)*1<=1099511627776)&&decide (Z+a<=1099511627776))<|Aa (Z+a) λb=>Aa (List.take (Z*1) Y++List.take (a*1) (c.drop 0)) λa=>Aw (decide (0+b*1<=a.length))<|Gm .u64 (F 47 [(13:Int),Ap 1 b (List.take (b*1) (a.drop 0))]) λa=>Bd [Ag a]) (Ac (CP p) prog u d):=Κ
end
end
end Go.Proofs.YthlonbjmnomlcaaGreatDoor.Pv
