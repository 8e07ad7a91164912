/-
  The proof of SigninVerifies, part 7.
-/
import Derived.Test.YtfmabfhjccngbaaGreatDoorVF
import Derived.Test.YtfmabfhjccngbaaGreatDoorRows
set_option linter.unusedSimpArgs false
set_option linter.unusedVariables false
namespace Go.Proofs.YtfmabfhjccngbaaGreatDoor.Pv
open Go.IntKind (wrap)
open Go.Proofs.Tryz (prog)
set_option maxRecDepth 1000000
noncomputable section
variable{CI a7n i n nn:Nat}{f h leaf now seed v:Int}{l:List (Int × Int)}{p:Option (Ae->Option A3)}{F:An}{a0 a7:Ae}{a b ch o:Ak}{rp s us:ByteArray}{os:List ByteArray}{sh vf:Bool}
open List renaming take->yt,length_eq_zero_iff->bd,take_nil->be,mem_flatMap->zk,mem_cons->zl,take_add_one->yl,getElem?_append_right->kf,length_take->x7,length->wy,take_zero->zs,append_nil->vy,singleton_append->gi,not_mem_nil->ue,drop->nb,toArray->bc,getD->f9,flatMap_append->kk,getD_eq_getElem?_getD->zj,mem_of_getElem?->zn,getElem?_eq_getElem->zd,length_drop->yr,find?_cons_of_pos->fw,find?_cons_of_neg->fx,foldl_cons->zu,foldl_nil->uf,any_cons->xt
open Nat renaming zero_mul->jk,ble->jg,lt_irrefl->wo,ble_eq_true_of_le->gl
open Int renaming toNat->wj,tmod->nr,eq_ofNat_of_zero_le->g8
open Option renaming map_some->jz,map_map->ug,map_none->uh,map->ui
open Bool renaming not_eq_true->uj,eq_iff_iff->fk,true_or->bz,false_or->gv,cond_eq_ite->uk
open _root_.ByteArray renaming size->mm,data->ml,extract->mn
open _root_.Array renaming toList->mf
theorem Anx{α:Type}{l:List α}{a:α}(h:l[i]?=some a):l.set i a=l:=by
 refine List.ext_getElem? λj=>?_;rw[List.getElem?_set];by_cases b:i=j
 ·subst b;rw[Bv rfl,Bv (DZ h),h]
 ·rw[Bd b]
section
variable {I:FuncId->Option (Ae->Option A3)}{u d:Nat}
theorem Af2{c:Ae}(a:c.length=n)(f:n<=1000000):Ac (CX I) prog u (d+1) 91 [.lst false 1 n c]=some ⟨[.own 1 n c],[]⟩:=by
 rw[Adm];have b:yt n c=c:=Gp Ω;by_cases h:0<n
 ·simp(disch:=omega)only[Aq,Ar,I8,SJ,b,a,Jp]
 ·have e:n=0:=Ω
  subst e;have:=bd.1 a;subst this;simp(disch:=omega)only[Aq,Ar,I8,SJ,SO,Jp,jk,be]
theorem Avm{c:Ae}(a:c.length=n*2)(f:n<=1000000):Ac (CX I) prog u (d+1) 137 [.lst false 2 n c]=some ⟨[.own 2 n c],[]⟩:=by
 rw[HP];have b:yt (n*2) c=c:=Gp Ω;by_cases h:0<n
 ·simp(disch:=omega)only[Aq,Ar,I8,SJ,b,a]
 ·have e:n=0:=Ω
  subst e;have:=bd.1 a;subst this;simp(disch:=omega)only[Aq,Ar,I8,SJ,SO,jk,be]
def Sd.ocells(x:Sd):Ae:=[.own 1 x.id.length (Af .u8 x.id),Av x.ht,Ah x.root,Ah x.model,Av x.fmt,C3 (x.sh),Ah x.used,.own 2 x.rg.length (Gv x.rg),C3 (x.sus),Av x.since,Av x.last]
theorem Ad0{c:Sd}(a:c.id.length<=1000000)(b:c.rg.length<=1000000):Ac (CX I) prog u (d+2) 105 [.agg c.cells]=some ⟨[.agg c.ocells],[]⟩:=by refine (GJ u (d+1) c.id.length (Af .u8 c.id) c.ht c.root c.model c.fmt c.sh c.used c.rg.length (Gv c.rg) c.sus c.since c.last).trans ?_;have e:=Af2 (I:=I) (u:=u) (d:=d) (Al .u8 c.id) a;have f:=Avm (I:=I) (u:=u) (d:=d) (He c.rg) b;have i:=Al .u8 c.id;have j:=He c.rg;have g:yt (c.id.length*1) (Af .u8 c.id)=Af .u8 c.id:=Gp Ω;have h:yt (c.rg.length*2) (Gv c.rg)=Gv c.rg:=Gp Ω;simp(disch:=omega)only[Aq,Ar,e,f,g,h];rfl
end
section
variable {u d:Nat}
theorem Axz{c:Ae}{i l:Int}(a:c.length=n*2)(b:0<=i)(g:i<=n)(j:n<=100000)(k:c.all ZK=true):
  Ac C1 prog u (d+1) 106 [.own 2 n c,Av i,.tup [.own 2 1 [Av f,Av l]]] =
   some ⟨[.own 2 (n+1) (c.take (i.toNat*2)++(Av f :: Av l::c.drop (i.toNat*2)))],[[Av f,Av l]]⟩:=by
 have h:Ac C1 prog u (d+1) 106 [.own 2 n c,Av i,.tup [.own 2 1 [Av f,Av l]]]=A3l [.own 2 n c,Av i,.tup [.own 2 1 [Av f,Av l]]]:=Κ
 rw[h];unfold A3l
 have e:(Nat.beq c.length (n*2)&&decide (0<=i)&&decide (i<=n)&&jg n 100000&&c.all ZK)=true:=by
  simp[k,a,b,g,j]
 simp only[e,cond_true]
theorem A6c(l:List (Int × Int)):(Gv l).all ZK=true:=by
 rw[List.all_eq_true];intro x a;obtain⟨p,_,hp⟩:=zk.1 a;rcases zl.1 hp with rfl|hp
 ·rfl
 ·rw[Tx] at hp;subst hp;rfl
theorem A3v{p:Int × Int}(h:l[i]?=some p):(Gv l).getD (i*2) .top=Av p.1:=by have:=Vr (f:=λp:Int × Int=>[PV.sc (.int .i64 p.1),Av p.2]) (k:=2) (λ_=>rfl) h (j:=0) Ω;exact this
theorem A2l{p:Int × Int}(h:l[i]?=some p):(Gv l).getD (i*2+1) .top=Av p.2:=by have:=Vr (f:=λp:Int × Int=>[PV.sc (.int .i64 p.1),Av p.2]) (k:=2) (λ_=>rfl) h (j:=1) Ω;exact this
def MS(c:Sd)(leaf now:Int):Option (List (Int × Int))->A3
 |none=>⟨[.agg c.cells,Av 37],[]⟩
 |some r=>⟨[.agg ({ c with used:=Anr c.used leaf,rg:=r,last:=now }:Sd).cells,Av 0],[]⟩
theorem Azr{c:Sd}{from_:Int}(P:0<=leaf/\leaf<=15)(Q:c.rg.length<=1000)(Ce:c.id.length<=1000000)(A6f:∀i:Nat,i<=c.rg.length->F 106 [.own 2 c.rg.length (Gv c.rg),Av (i:Int),.tup [.own 2 1 [Av from_,Av leaf]]]=some ⟨[.own 2 (c.rg.length+1) ((Gv c.rg).take (i*2)++(Av from_ :: Av leaf::(Gv c.rg).drop (i*2)))],[[Av from_,Av leaf]]⟩){a1 a2 a3 a4 a6 a9 a10 b1 b2 b3:Int}{a5 a8:Bool}{z1:Nat}{z2 z3 z4 z5 z7 z10 z11:Int}{z6 z9:Bool}{z8:Nat}{z12 z13:Ae}:
  ∀(r:List (Int × Int)) (i nn:Nat),c.rg.drop i=r->r.length<nn->i<=c.rg.length->(∀p∈c.rg.take i,p.1<from_) ->
   K2 u F CI a0 a1 a2 a3 a4 a5 a6 a7n a7 a8 a9 a10 b1 b2 b3 nn leaf from_ now (Dv .u64 1 leaf) (i:Int) c.id.length c.ht c.root c.model c.fmt c.sh c.used c.rg.length c.sus c.since c.last (Af .u8 c.id) (Gv c.rg) z1 z2 z3 z4 z5 z6 z7 z8 z9 z10 z11 z12 z13 =
    some (MS c leaf now ((put from_ leaf r).map (c.rg.take i ++ ·))):=by
 intro r;have R:=Al .u8 c.id;have S:=He c.rg;have o:yt (c.id.length*1) (Af .u8 c.id)=Af .u8 c.id:=Gp Ω;have A:yt (c.rg.length*2) (Gv c.rg)=Gv c.rg:=Gp Ω;have eS:Vm .u64 c.used (Dv .u64 1 leaf)=Anr c.used leaf:=rfl
 have insR:∀(i:Nat) (s:List (Int × Int)),i<=c.rg.length->c.rg.drop i=s->(Gv c.rg).take (i*2)++(Av from_ :: Av leaf::(Gv c.rg).drop (i*2))=Gv (c.rg.take i++(from_,leaf)::s):=by
  intro i s hi J;have K:=Aig (f:=λp:Int × Int=>[PV.sc (.int .i64 p.1),Av p.2]) (k:=2) (λ_=>rfl) c.rg i;have M:=YH (f:=λp:Int × Int=>[PV.sc (.int .i64 p.1),Av p.2]) (k:=2) (λ_=>rfl) c.rg i;rw[Yo,A4k,<-J];unfold Gv;rw[K,M]
 have setR:∀(i:Nat) (l:List (Int × Int)) (p:Int × Int),l[i]?=some p->B9 (Gv l) [Av leaf] (0+i*2+1)=Gv (l.set i (p.1,leaf)):=by
  intro i l p h;have Ct:=DZ h;have Uk:=He l;rw[J4 Ω];have:=Apt (f:=λp:Int × Int=>[PV.sc (.int .i64 p.1),Av p.2]) (k:=2) (λ_=>rfl) (p:=Av leaf) (j:=1) Ω (y:=(p.1,leaf)) h rfl;unfold Gv;rw[<-this]
  congr 1
  omega
 induction r with
 |nil=>
  intro i nn hd Es hi hp;have t:i=c.rg.length:=by have:=drop_nil hd;omega
  obtain⟨nn,rfl⟩:∃k,nn=k+1:=⟨nn-1,Ω⟩
  rw[Uq];have q:=A6f i hi;have eI:=insR i [] hi hd;rw[eI] at q;have ht:c.rg.take i=c.rg:=Gp Ω;rw[ht] at q;have eG:(c.rg++[(from_,leaf)])[i]?=some (from_,leaf):=by rw[t];simp
  have eS2:=setR i _ _ eG;have eS3:=Anx eG;rw[eS3] at eS2;have lR:=He (c.rg++[(from_,leaf)]);have lA:(c.rg++[(from_,leaf)]).length=c.rg.length+1:=Ψ
  have tR:yt ((c.rg.length+1)*2) (Gv (c.rg++[(from_,leaf)]))=Gv (c.rg++[(from_,leaf)]):=Gp Ω;have v:((i:Int)==(c.rg.length:Int))=true:=by simp[t]
  have g:wj (i:Int)=i:=rfl;have eX:put from_ leaf []=some [(from_,leaf)]:=rfl;rw[eX];simp only[jz,ht]
  repeat(with_reducible(first|apply Bk|apply A5|apply Bm|apply Bj|apply K0|apply I6|apply A4|apply Bn|apply H7);· first|constructor|(simp(disch:=omega)only[H9,q,o,A,tR,eS,eS2,v,g,Jo,lR,lA]<;>first|constructor|omega)|omega)
  try simp(disch:=omega)only[Aa,q,o,A,tR,eS,eS2,v,g,Jo,lR,lA]
  simp only[MS,Sd.cells,lA]
 |cons p r N=>
  intro i nn hd Es hi hp;obtain⟨Ct,Wc,w⟩:=Cb hd;obtain⟨nn,rfl⟩:∃k,nn=k+1:=⟨nn-1,Ω⟩
  rw[Uq];have eF:=A3v Wc;have eL:=A2l Wc;have g:wj (i:Int)=i:=rfl;have b:(0:Nat)+i*2+0=i*2:=Ω
  have a:(0:Nat)+i*2+1=i*2+1:=Ω
  have d:decide ((i:Int)<(c.rg.length:Int))=true:=by simp;omega
  have m:((i:Int)==(c.rg.length:Int))=false:=by simp;omega
  have O:wrap .i64 ((i:Int)+1)=((i+1:Nat):Int):=Bc
  have G:c.rg.take (i+1)=c.rg.take i++[p]:=by rw[yl,Wc];rfl
  unfold put;by_cases c1:p.1<from_
  ·rw[Bv c1]
   have C:=N (i+1) nn w (by simp at Es;omega) Ω (by
    intro q n;rw[G] at n;rcases B8.1 n with n|n
    ·exact hp q n
    ·rw[Tx] at n;subst n;exact c1)
   have e:((put from_ leaf r).map (p :: ·)).map (c.rg.take i ++ ·)=(put from_ leaf r).map (c.rg.take (i+1) ++ ·):=by
    rw[ug,G]
    congr 1
    funext x
    simp
   rw[e,<-C];have z:decide (p.1<from_)=true:=by simp[c1]
   simp(disch:=omega)only[Aq,Ar,g,b,eF,O,d,z]
  ·rw[Bd c1];have z:decide (p.1<from_)=false:=by simp;omega
   by_cases c2:p.1=from_
   ·rw[Bv c2];have B:(p.1 != from_)=false:=by simp[c2]
    by_cases H:leaf<=p.2
    ·rw[Bv H];have D:decide (p.2>=leaf)=true:=by simp;omega
     simp(disch:=omega)only[Aq,Ar,g,b,a,eF,eL,d,z,m,B,D,o,A,Jo,uh];rfl
    ·rw[Bd H];have D:decide (p.2>=leaf)=false:=by simp;omega
     have eS2:=setR i _ _ Wc;have lR:=He (c.rg.set i (p.1,leaf));have lA:(c.rg.set i (p.1,leaf)).length=c.rg.length:=Ψ
     have eA:c.rg.set i (p.1,leaf)=c.rg.take i++(from_,leaf)::r:=by
      rw[List.set_eq_take_append_cons_drop,Bv Ct,w,c2]
     have tR:yt (c.rg.length*2) (Gv (c.rg.set i (p.1,leaf)))=Gv (c.rg.set i (p.1,leaf)):=Gp Ω;rw[a] at eS2;have E:i*2+1+1<=(Gv c.rg).length:=Ω
     simp(disch:=omega)only[Aq,Ar,g,b,a,eF,eL,d,z,m,B,D,o,tR,Jo,jz,eS2,eS,lR,lA];simp only[MS,Sd.cells,<-eA,lA]
   ·rw[Bd c2];have B:(p.1 != from_)=true:=by simp[c2]
    have q:=A6f i hi;have eI:=insR i (p::r) hi hd;rw[eI] at q
    have eG:(c.rg.take i++(from_,leaf)::p::r)[i]?=some (from_,leaf):=by
     rw[kf (by rw[x7];omega),x7,Nat.min_eq_left Ω,Nat.sub_self];rfl
    have eS2:=setR i _ _ eG;have eS3:=Anx eG;rw[eS3] at eS2
    have lA:(c.rg.take i++(from_,leaf)::p::r).length=c.rg.length+1:=by
     have:=congrArg wy hd;simp at this ⊢;omega
    have lR:=He (c.rg.take i++(from_,leaf)::p::r);rw[jz];generalize T:c.rg.take i++(from_,leaf)::p::r=L at *
    have tR:yt ((c.rg.length+1)*2) (Gv L)=Gv L:=Gp Ω;rw[a] at eS2;have E:i*2+1+1<=(Gv L).length:=Ω
    simp(disch:=omega)only[Aq,Ar,g,b,a,eF,d,z,m,B,o,A,q,tR,Jo,eS2,eS,lR,lA];simp only[MS,Sd.cells,lA]
theorem Avt{c:Sd}(b:c.ok)(Be:2000<=u)(leaf from_ now:Int):Ac C1 prog u (d+4) 60 [.agg c.cells,Av leaf,Av from_,Av now]=some ⟨[.agg (K9 c leaf from_ now).1.cells,Av (K9 c leaf from_ now).2],[]⟩:=by
 refine (TS u (d+3) c.id.length (Af .u8 c.id) c.ht c.root c.model c.fmt c.sh c.used c.rg.length (Gv c.rg) c.sus c.since c.last leaf from_ now).trans ?_;have q:=Ad0 (I:=xs1) (u:=u) (d:=d+1) b.idL (Nat.le_trans b.rgn Ω);simp only[Sd.cells,Sd.ocells] at q;have r:=Al .u8 c.id;have s:=He c.rg;have g:yt (c.id.length*1) (Af .u8 c.id)=Af .u8 c.id:=Gp Ω;have h:yt (c.rg.length*2) (Gv c.rg)=Gv c.rg:=Gp Ω;simp(disch:=omega)only[Aq,Ar,q,g,h,Jo,r,s];by_cases l:c.ht<0
 ·have a:Wz c leaf from_=true:=by simp[Wz,l]
  unfold K9;rw[Bv a];simp(disch:=omega)only[Aq,Ar];rfl
 by_cases m:c.ht>4
 ·have a:Wz c leaf from_=true:=by simp[Wz,m]
  unfold K9;rw[Bv a];simp(disch:=omega)only[Aq,Ar];rfl
 by_cases n:from_<0
 ·have a:Wz c leaf from_=true:=by simp[Wz,n]
  unfold K9;rw[Bv a];simp(disch:=omega)only[Aq,Ar];rfl
 by_cases o:from_>leaf
 ·have a:Wz c leaf from_=true:=by simp[Wz,o]
  unfold K9;rw[Bv a];simp(disch:=omega)only[Aq,Ar];rfl
 by_cases p:leaf>=Dv .i64 1 c.ht
 ·have a:Wz c leaf from_=true:=by simp[Wz,p]
  unfold K9;rw[Bv a];simp(disch:=omega)only[Aq,Ar];rfl
 have a:Wz c leaf from_=false:=by simp[Wz,l,m,n,o,p]
 obtain⟨v,w,z,A,B,C⟩:=NX a;unfold K9;rw[Bd (by rw[a];simp)]
 simp(disch:=omega)only[Aq,Ar];rw[KN (Es:=Ω)];have ub:=Aus b.u0 b.u1 (k:=leaf) Ω Ω;by_cases e:c.sus=true
 ·have j:∀x y:Option A3,Ap c.sus x y=x:=λx y=>by rw[e];rfl
  rw[Bv e];simp(disch:=omega)only[Aq,Ar,j,g,h,Jo];rfl
 ·have f:∀x y:Option A3,Ap c.sus x y=y:=λx y=>by rw[uj] at e;rw[e];rfl
  rw[Bd e];by_cases Xz:Aqa c.used leaf=true
  ·rw[Xz] at ub;rw[Bv Xz];simp(disch:=omega)only[Aq,Ar,f,ub,g,h,Jo];rfl
  ·rw[uj] at Xz;rw[Xz] at ub;rw[Bd (by simp[Xz])];simp(disch:=omega)only[Aq,Ar,f,ub];refine (Azr (c:=c) (leaf:=leaf) (from_:=from_) (now:=now) Ω b.rgn b.idL (λi hi=>Axz (He _) Ω Ω (by have:=b.rgn;omega) (A6c _)) c.rg 0 u rfl (by have:=b.rgn;omega) Ω Ψ).trans ?_
   have t:(ui (yt 0 c.rg ++ ·) (put from_ leaf c.rg))=put from_ leaf c.rg:=by
    rw[zs];cases put from_ leaf c.rg<;>rfl
   rw[t];cases put from_ leaf c.rg<;>rfl
end
section
variable {u d:Nat}
theorem Aq8(a b c:Int):Ac C1 prog u (d+1) 22 [Av a,Av b,Av c]=some ⟨[C3 (decide (b<=a)&&decide (a<=c))],[]⟩:=by
 rw[FE];by_cases f:b<=a
 ·simp(disch:=omega)only[Aq,Ar,f,decide_true,Zzm]
 ·have e:¬a>=b:=Ω
  simp[Ap,f,e]
theorem Aea{c:Sd}{from_:Int}(o:0<=leaf/\leaf<=15)(s:c.rg.length<=1000){a1 a2 a3 a4 a6 a9 a10 b1 b2 b3:Int}{a5 a8:Bool}{z1 z8:Nat}{z2 z3 z4 z5 z7 z10 z11:Int}{z6 z9:Bool}{z12 z13:Ae}:
  ∀(r:List (Int × Int)) (i nn:Nat) (a:List (Int × Int)),c.rg.drop i=r->r.length<nn->i<=c.rg.length->a.length<=i+1->(∀p∈r,from_<p.1) ->
   Cx u F CI a0 a1 a2 a3 a4 a5 a6 a7n a7 a8 a9 a10 b1 b2 b3 nn leaf from_ now a.length true (i:Int) c.id.length (Af .u8 c.id) c.ht c.root c.model c.fmt c.sh c.used c.rg.length (Gv c.rg) c.sus c.since c.last z1 z2 z3 z4 z5 z6 z7 z8 z9 z10 z11 z12 z13 (Gv a) =
    some (MS c leaf now (some (a++r))):=by
 intro r;have t:=He c.rg;have w0:wrap .u64 leaf=leaf:=Cq;have eS:Vm .u64 c.used (Dv .u64 1 leaf)=Anr c.used leaf:=rfl
 induction r with
 |nil=>
  intro i nn a hd Es hi e hp;have f:i=c.rg.length:=by have:=drop_nil hd;omega
  obtain⟨nn,rfl⟩:∃k,nn=k+1:=⟨nn-1,Ω⟩
  rw[Gs];have lO:=He a;have tO:yt (a.length*2) (Gv a)=Gv a:=Gp Ω;simp(disch:=omega)only[Aq,Ar,Gc,w0,eS,tO,Jo,vy,lO];rfl
 |cons p r g=>
  intro i nn a hd Es hi e hp;obtain⟨Ct,Wc,d⟩:=Cb hd;obtain⟨nn,rfl⟩:∃k,nn=k+1:=⟨nn-1,Ω⟩
  rw[Gs];have eF:=A3v Wc;have eL:=A2l Wc;have h:wj (i:Int)=i:=rfl;have lO:=He a;have tO:yt (a.length*2) (Gv a)=Gv a:=Gp Ω;have j:wrap .i64 ((i:Int)+1)=((i+1:Nat):Int):=Bc
  have Fs:=hp p Ψ;have l:(p.1==from_)=false:=by simp;omega
  have m:decide (p.1>from_)=true:=by simp;omega
  have b:=g (i+1) nn (a++[p]) d (by simp at Es;omega) Ω (by simp;omega) (λq n=>hp q (by simp[n]))
  rw[Zzv,gi] at b;have eO:Gv a++[Av p.1,Av p.2]=Gv (a++[p]):=by rw[Yo];rfl
  have lO1:(a++[p]).length=a.length+1:=Ψ
  rw[lO1] at b;simp(disch:=omega)only[Aq,Ar,h,eF,eL,l,m,Gc,j,tO,eO,b]
theorem Axd{c:Sd}{from_:Int}(o:0<=leaf/\leaf<=15)(s:c.rg.length<=1000){a1 a2 a3 a4 a6 a9 a10 b1 b2 b3:Int}{a5 a8:Bool}{z1 z8:Nat}{z2 z3 z4 z5 z7 z10 z11:Int}{z6 z9:Bool}{z12 z13:Ae}:
  ∀(r:List (Int × Int)) (i nn:Nat),c.rg.drop i=r->r.length<nn->i<=c.rg.length->Asc r ->
   Cx u F CI a0 a1 a2 a3 a4 a5 a6 a7n a7 a8 a9 a10 b1 b2 b3 nn leaf from_ now i false (i:Int) c.id.length (Af .u8 c.id) c.ht c.root c.model c.fmt c.sh c.used c.rg.length (Gv c.rg) c.sus c.since c.last z1 z2 z3 z4 z5 z6 z7 z8 z9 z10 z11 z12 z13 (Gv (c.rg.take i)) =
    some (MS c leaf now ((put from_ leaf r).map (c.rg.take i ++ ·))):=by
 intro r;have y:=He c.rg;have w0:wrap .u64 leaf=leaf:=Cq;have eS:Vm .u64 c.used (Dv .u64 1 leaf)=Anr c.used leaf:=rfl
 induction r with
 |nil=>
  intro i nn hd Es hi f;have h:i=c.rg.length:=by have:=drop_nil hd;omega
  obtain⟨nn,rfl⟩:∃k,nn=k+1:=⟨nn-1,Ω⟩
  rw[Gs];have ht:c.rg.take i=c.rg:=Gp Ω;rw[ht];have tO:yt (i*2) (Gv c.rg)=Gv c.rg:=Gp Ω;have eO:Gv c.rg++[Av from_,Av leaf]=Gv (c.rg++[(from_,leaf)]):=by rw[Yo];rfl
  have lN:=He (c.rg++[(from_,leaf)]);have lN1:(c.rg++[(from_,leaf)]).length=i+1:=by simp[h]
  have tN:yt ((i+1)*2) (Gv (c.rg++[(from_,leaf)]))=Gv (c.rg++[(from_,leaf)]):=Gp Ω;simp(disch:=omega)only[Aq,Ar,Ix,w0,eS,tO,eO,tN,Jo,put,jz];simp only[MS,Sd.cells,lN1]
 |cons p r w=>
  intro i nn hd Es hi f;obtain⟨Ct,Wc,a⟩:=Cb hd;obtain⟨nn,rfl⟩:∃k,nn=k+1:=⟨nn-1,Ω⟩
  rw[Gs];have eF:=A3v Wc;have eL:=A2l Wc;have g:wj (i:Int)=i:=rfl;have lO:=He (c.rg.take i);have lT:(c.rg.take i).length=i:=by rw[x7];omega
  have tO:yt (i*2) (Gv (c.rg.take i))=Gv (c.rg.take i):=Gp Ω;have j:wrap .i64 ((i:Int)+1)=((i+1:Nat):Int):=Bc
  have t:c.rg.take (i+1)=c.rg.take i++[p]:=by rw[yl,Wc];rfl
  unfold put;by_cases c1:p.1<from_
  ·rw[Bv c1];have l:=w (i+1) nn a (by simp at Es;omega) Ω f.2
   have e:((put from_ leaf r).map (p :: ·)).map (c.rg.take i ++ ·)=(put from_ leaf r).map (c.rg.take (i+1) ++ ·):=by
    rw[ug,t]
    congr 1
    funext x
    simp
   rw[e,<-l];have b:(p.1==from_)=false:=by simp;omega
   have d:decide (p.1>from_)=false:=by simp;omega
   have eO:Gv (c.rg.take i)++[Av p.1,Av p.2]=Gv (c.rg.take (i+1)):=by rw[t,Yo];rfl
   simp(disch:=omega)only[Aq,Ar,g,eF,eL,b,d,j,tO,eO]
  ·rw[Bd c1];by_cases c2:p.1=from_
   ·rw[Bv c2];have b:(p.1==from_)=true:=by simp[c2]
    by_cases v:leaf<=p.2
    ·rw[Bv v];have m:decide (p.2>=leaf)=true:=by simp;omega
     simp(disch:=omega)only[Aq,Ar,g,eF,eL,b,m,uh];rfl
    ·rw[Bd v];have m:decide (p.2>=leaf)=false:=by simp;omega
     have d:decide (p.1>from_)=false:=by simp;omega
     have dn:=Aea (u:=u) (c:=c) (leaf:=leaf) (from_:=from_) (now:=now) o s (F:=F) (CI:=CI) (a0:=a0) (a1:=a1) (a2:=a2) (a3:=a3) (a4:=a4) (a6:=a6) (a9:=a9) (a10:=a10) (b1:=b1) (b2:=b2) (b3:=b3) (a5:=a5) (a8:=a8) (a7n:=a7n) (a7:=a7) (z1:=z1) (z2:=z2) (z3:=z3) (z4:=z4) (z5:=z5) (z6:=z6) (z7:=z7) (z8:=z8) (z9:=z9) (z10:=z10) (z11:=z11) (z12:=z12) (z13:=z13) r (i+1) nn (c.rg.take i++[(from_,leaf)]) a (by simp at Es;omega) Ω (by simp;omega) (λq n=>by have:=f.1 q n;omega)
     have lN1:(c.rg.take i++[(from_,leaf)]).length=i+1:=by simp[lT]
     rw[lN1,Zzv,gi] at dn;have eO:Gv (c.rg.take i)++[Av p.1,Av leaf]=Gv (c.rg.take i++[(from_,leaf)]):=by rw[Yo,c2];rfl
     simp(disch:=omega)only[Aq,Ar,g,eF,eL,b,d,m,j,tO,eO,dn,jz]
   ·rw[Bd c2];have b:(p.1==from_)=false:=by simp[c2]
    have d:decide (p.1>from_)=true:=by simp;omega
    have dn:=Aea (u:=u) (c:=c) (leaf:=leaf) (from_:=from_) (now:=now) o s (F:=F) (CI:=CI) (a0:=a0) (a1:=a1) (a2:=a2) (a3:=a3) (a4:=a4) (a6:=a6) (a9:=a9) (a10:=a10) (b1:=b1) (b2:=b2) (b3:=b3) (a5:=a5) (a8:=a8) (a7n:=a7n) (a7:=a7) (z1:=z1) (z2:=z2) (z3:=z3) (z4:=z4) (z5:=z5) (z6:=z6) (z7:=z7) (z8:=z8) (z9:=z9) (z10:=z10) (z11:=z11) (z12:=z12) (z13:=z13) r (i+1) nn (c.rg.take i++[(from_,leaf),p]) a (by simp at Es;omega) Ω (by simp;omega) (λq n=>by have:=f.1 q n;omega)
    have lN1:(c.rg.take i++[(from_,leaf),p]).length=i+1+1:=by simp[lT]
    rw[lN1,Zzv] at dn;have eO:Gv (c.rg.take i)++[Av from_,Av leaf]=Gv (c.rg.take i++[(from_,leaf)]):=by rw[Yo];rfl
    have eO2:Gv (c.rg.take i++[(from_,leaf)])++[Av p.1,Av p.2]=Gv (c.rg.take i++[(from_,leaf),p]):=by rw[Yo,Yo,Zzv];rfl
    have lN:=He (c.rg.take i++[(from_,leaf)]);have lN2:(c.rg.take i++[(from_,leaf)]).length=i+1:=by simp[lT]
    have tN:yt ((i+1)*2) (Gv (c.rg.take i++[(from_,leaf)]))=Gv (c.rg.take i++[(from_,leaf)]):=Gp Ω;simp(disch:=omega)only[Aq,Ar,g,eF,eL,b,d,Ix,j,tO,eO,tN,eO2,dn,jz];rfl
theorem Aa3{c:Sd}(e:c.ok)(Be:2000<=u)(leaf from_ now:Int):Ac C1 prog u (d+2) 10 [.agg c.cells,Av leaf,Av from_,Av now]=some ⟨[.agg (K9 c leaf from_ now).1.cells,Av (K9 c leaf from_ now).2],[]⟩:=by
 refine (GA u (d+1) c.id.length (Af .u8 c.id) c.ht c.root c.model c.fmt c.sh c.used c.rg.length (Gv c.rg) c.sus c.since c.last leaf from_ now).trans ?_;have q:=Aq8 (u:=u) (d:=d) c.ht 0 4;simp only[Aq,Ar,q]
 have badT:∀(b:Wz c leaf from_=true),Eu u (Ac C1 prog u (d+1)) c.id.length (Af .u8 c.id) c.ht c.root c.model c.fmt c.sh c.used c.rg.length (Gv c.rg) c.sus c.since c.last leaf from_ now u leaf from_ now true c.id.length (Af .u8 c.id) c.ht c.root c.model c.fmt c.sh c.used c.rg.length (Gv c.rg) c.sus c.since c.last 0 0 0 0 0 false 0 0 false 0 0 [] []=some ⟨[.agg (K9 c leaf from_ now).1.cells,Av (K9 c leaf from_ now).2],[]⟩:=by
  intro b;unfold K9;rw[Bv b,Nb (Es:=Ω)];rfl
 by_cases a:(decide (0<=c.ht)&&decide (c.ht<=4))=true
 rotate_left
 ·have b:Wz c leaf from_=true:=by
   simp only[Gh,JT] at a;unfold Wz;by_cases j:c.ht<0
   ·simp[j]
   ·have:c.ht>4:=Ω
    simp[this]
  rw[uj] at a;rw[a];exact badT b
 rw[a];simp only[Gh,JT] at a;have bF:∀x y:Option A3,Ap (!true) x y=y:=λ_ _=>rfl;rw[bF];by_cases h:from_<0
 ·rw[GN _ _ _ h];exact badT (by simp[Wz,h])
 rw[Fn _ _ _ h];by_cases l:leaf<from_
 ·rw[GN _ _ _ l];exact badT (by have:from_>leaf:=l;simp[Wz,this])
 rw[Fn _ _ _ l];have w0:wrap .u64 c.ht=c.ht:=Cq;rw[w0,QD _ _ a.1];by_cases i:leaf>=Dv .i64 1 c.ht
 ·rw[decide_eq_true i];exact badT (by simp[Wz,i])
 rw[decide_eq_false i]
 have b:Wz c leaf from_=false:=by
  have j:¬c.ht<0:=Ω
  have p:¬c.ht>4:=Ω
  have m:¬from_>leaf:=Ω
  simp[Wz,j,p,h,m,i]
 obtain⟨s,t,v,w,z,A⟩:=NX b;unfold K9;rw[Bd (by rw[b];simp)]
 rw[Nb (Es:=Ω)];have ub:=Ap0 e.u0 e.u1 (k:=leaf) Ω Ω;have o:wrap .u64 leaf=leaf:=Cq;have fF:∀x y:Option A3,Ap false x y=y:=λ_ _=>rfl;rw[fF];by_cases f:c.sus=true
 ·have n:∀x y:Option A3,Ap c.sus x y=x:=λx y=>by rw[f];rfl
  rw[Bv f];simp(disch:=omega)only[Aq,Ar,n];rfl
 ·have g:∀x y:Option A3,Ap c.sus x y=y:=λx y=>by rw[uj] at f;rw[f];rfl
  rw[Bd f];by_cases Xz:Aqa c.used leaf=true
  ·rw[Xz] at ub;rw[Bv Xz];simp(disch:=omega)only[Aq,Ar,g,o,ub];rfl
  ·rw[uj] at Xz;rw[Xz] at ub;rw[Bd (by simp[Xz])];simp(disch:=omega)only[Aq,Ar,g,o,ub];refine (Axd (u:=u) (c:=c) (leaf:=leaf) (from_:=from_) (now:=now) Ω e.rgn c.rg 0 u rfl (by have:=e.rgn;omega) Ω e.asc).trans ?_
   have r:(ui (yt 0 c.rg ++ ·) (put from_ leaf c.rg))=put from_ leaf c.rg:=by
    rw[zs];cases put from_ leaf c.rg<;>rfl
   rw[r];cases put from_ leaf c.rg<;>rfl
end
theorem A7q(c:Sd)(leaf f now:Int):(K9 c leaf f now).1.rg.length<=c.rg.length+1:=by
 unfold K9;split
 ·simp
 split
 ·simp
 split
 ·simp
 split
 ·simp
 ·rename_i r h;exact Ahq h
theorem Aso{c:Sd}(h:c.ok)(b:c.rg.length<1000)(leaf f now:Int):(K9 c leaf f now).1.ok:=by
 unfold K9;split
 ·exact h
 rename_i a;rw[uj] at a;obtain⟨d,e,g,_⟩:=NX a;split
 ·exact h
 split
 ·exact⟨h.idB,h.idL,h.u0,h.u1,h.asc,h.rgn⟩
 split
 ·exact h
 ·rename_i r hp;have sB:=Ber h.u0 h.u1 (k:=leaf) Ω Ω;have:=Ahq hp;exact⟨h.idB,h.idL,sB.1,sB.2,Asn h.asc hp,by show r.length<=1000;omega⟩
section
variable {u d:Nat}
theorem Ama{m:Nat}{a b:Ae}(g:l.length<=100000):∀(r:List (Int × Int)) (i nn:Nat),l.drop i=r->r.length<nn->i<=l.length ->
  Fy u F n a m b nn l.length (Gv l) l.length (Gv l) (i:Int)=some ⟨[C3 true],[]⟩:=by
 intro r
 induction r with
 |nil=>
  intro i nn hd Es hi;have:=drop_nil hd;obtain⟨nn,rfl⟩:∃k,nn=k+1:=⟨nn-1,Ω⟩
  rw[Kh];simp(disch:=omega)only[Aq,Ar]
 |cons p r d=>
  intro i nn hd Es hi;obtain⟨Ct,Wc,c⟩:=Cb hd;obtain⟨nn,rfl⟩:∃k,nn=k+1:=⟨nn-1,Ω⟩
  rw[Kh];have eF:=A3v Wc;have eL:=A2l Wc;have n1:wj (i:Int)=i:=Hy _;have e:wrap .i64 ((i:Int)+1)=((i+1:Nat):Int):=Bc
  have q:=d (i+1) nn c (by simp at Es;omega) Ω
  have f:(!(p.1==p.1&&p.2==p.2))=false:=Ψ
  simp(disch:=omega)only[Aq,Ar,n1,eF,eL,Zzn,f,e,q]
theorem Axg(a:l.length<=100000)(Be:l.length<u):Ac C1 prog u (d+1) 69 [.lst false 2 l.length (Gv l),.lst false 2 l.length (Gv l)]=some ⟨[C3 true],[]⟩:=by
 rw[Xw];have b:((l.length:Int) != (l.length:Int))=false:=Ψ
 simp(disch:=omega)only[Aq,Ar,b];exact Ama a l 0 u rfl Be Ω
theorem Avy{c:Sd}(a:c.ok)(Be:2000<=u):Ac C1 prog u (d+2) 35 [.agg c.cells,.agg c.cells]=some ⟨[C3 true],[]⟩:=by
 refine (Xt u (d+1) c.id.length (Af .u8 c.id) c.ht c.root c.model c.fmt c.sh c.used c.rg.length (Gv c.rg) c.sus c.since c.last c.id.length (Af .u8 c.id) c.ht c.root c.model c.fmt c.sh c.used c.rg.length (Gv c.rg) c.sus c.since c.last).trans ?_;have b:=Al .u8 c.id;have q:=Axg (u:=u) (d:=d) (l:=c.rg) (by have:=a.rgn;omega) (by have:=a.rgn;omega)
 have e:=Hl c.id;have f:∀l:List UInt8,(l==l)=true:=λl=>Ψ
 have g:∀x:Int,(x==x)=true:=λx=>Ψ
 have h:∀x:Bool,(x==x)=true:=λx=>by cases x<;>rfl
 repeat(with_reducible(first|apply Bk|apply A5|apply Bm|apply Bj|apply Ff|apply A4|apply Bn|apply H7);· first|constructor|(simp(disch:=omega)only[H9,b,e,f,g,h,q,Zzn]<;>first|constructor|omega)|omega)
 try simp(disch:=omega)only[Aa,b,e,f,g,h,q,Zzn]
end
structure UK where
 vf:Int
 rs:Bool
 ht:Int
 pr:Int
 sh:Bool
 fm:Int
 od:Bool
 dn:Ak
 op:Int
def UK.cells(p:UK):Ae:=[Av p.vf,C3 (p.rs),Av p.ht,Av p.pr,C3 (p.sh),Av p.fm,C3 (p.od),.lst false 1 p.dn.length (Af .u64 p.dn),Av p.op]
def UK.own(p:UK):Ae:=[Av p.vf,C3 (p.rs),Av p.ht,Av p.pr,C3 (p.sh),Av p.fm,C3 (p.od),.own 1 p.dn.length (Af .u64 p.dn),Av p.op]
structure Uh where
 rp:Int
 fl:Int
 ct:Int
 rg:Int
 md:Int
 idn:Nat
 id:Ae
 kh:Int
 kr:Int
def Uh.cells(a:Uh):Ae:=[Ah a.rp,Av a.fl,Av a.ct,Av a.rg,Ah a.md,.lst false 1 a.idn a.id,Av a.kh,Ah a.kr]
structure Stc where
 n0:Nat
 c0:Ae
 i1:Int
 i2:Int
 md:Int
 i4:Int
 sh:Bool
 i6:Int
 n7:Nat
 c7:Ae
 b8:Bool
 i9:Int
 i10:Int
def Stc.cells(a:Stc):Ae:=[.lst false 1 a.n0 a.c0,Av a.i1,Ah a.i2,Ah a.md,Av a.i4,C3 (a.sh),Ah a.i6,.lst false 2 a.n7 a.c7,C3 (a.b8),Av a.i9,Av a.i10]
def QZ(vf fl:Int):Int:=if C8 .i64 fl 1=0 then 22 else if vf=2 then if C8 .i64 fl 4=0 then 23 else 0 else 0
def Avj(dn:Ak)(od:Bool)(m st:Int):Int:=if st=3 then 39 else if st=4 then 39 else if m∈dn then 40 else if st=2 then if od=true then 0 else 40 else 0
def Abw(p:UK)(a:Uh)(sh:Bool)(md st:Int):Int:=
 if QZ p.vf a.fl=0 then if ((C8 .i64 a.fl 8 != 0)==sh)=true then if md=0 then 0 else Avj p.dn p.od md st else 40 else QZ p.vf a.fl
section
variable {u d:Nat}
theorem A7w(p:UK)(a:Uh):Ac C1 prog u (d+1) 101 [.agg p.cells,.agg a.cells]=some ⟨[Av (QZ p.vf a.fl)],[]⟩:=by unfold UK.cells Uh.cells;rw[EU];simp only[Ga,E9,NC,QZ]
theorem A0o(p:UK)(fl:Int):Ac C1 prog u (d+1) 112 [.agg p.cells,Av fl]=some ⟨[Av (QZ p.vf fl)],[]⟩:=by unfold UK.cells;rw[DU];simp only[Ga,E9,NC,QZ]
theorem Abn{F:An}{n:Nat}{c:Ae}{t:Int}{l:Ak}{m:Int}(b:l.length<=maxLen):∀(r:Ak)(i nn:Nat),l.drop i=r->r.length<nn ->
  ∃k:Int,Ha u F n c t nn l.length (Af .u64 l) m (l.length:Int) i=some ⟨[Av k],[]⟩/\(0<=k↔m∈r)
 |r,i,0,_,h=>Ω
 |[],i,nn+1,h,_=>by
  have:=drop_nil h;rw[M5];refine⟨-1,?_,Ψ⟩;simp(disch:=omega)only[Aq,Ar]
 |x::r,i,nn+1,h,d=>by
  obtain⟨p,e,f⟩:=Cb h;simp only[maxLen] at b;simp only[M9] at d;rw[M5];have g:=Tm (k:=.u64) e;simp(disch:=omega)only[Aq,Ar,Hy,Jp,g,E9];by_cases a:m=x
  ·refine⟨i,by rw[Bv a],by simp[a]⟩
  ·obtain⟨k,j,o⟩:=Abn (m:=m) (F:=F) (n:=n) (c:=c) (t:=t) (by simp only[maxLen];omega) r (i+1) nn f Ω
   refine⟨k,by rw[Bd a,Ba];exact j,by rw[o];simp[a]⟩
theorem Amk{l:Ak}(a:l.length<=maxLen)(Be:l.length<u)(m:Int):Ac C1 prog u (d+2) 134 [.lst false 1 l.length (Af .u64 l),Ah m]=some ⟨[C3 (decide (m∈l))],[]⟩:=by
 rw[Zl];obtain⟨k,b,e⟩:=Abn (u:=u) (F:=Ac C1 prog u d) (n:=l.length) (c:=Af .u64 l) (t:=m) (m:=m) a l 0 u rfl Be
 have f:Ac C1 prog u (d+1) 154 [.lst false 1 l.length (Af .u64 l),Ah m]=some ⟨[Av k],[]⟩:=by
  rw[FG];exact b
 simp only[Aq,Ar,f];have:decide (k>=0)=decide (m∈l):=by simp only[ge_iff_le,e]
 rw[this]
theorem A1s(p:UK)(a:p.dn.length<=maxLen)(Be:p.dn.length<u)(m st:Int):Ac C1 prog u (d+3) 102 [.agg p.cells,Ah m,Av st]=some ⟨[Av (Avj p.dn p.od m st)],[]⟩:=by unfold UK.cells;rw[LI];simp only[Amk a Be,CR,NM,EA,RJ,E9,Ag0,NR];simp only[XY,NC,Avj,JT]
theorem VG{F:An}{z0:Int}{z1:Bool}{z2 z3:Int}{z4:Bool}{z5:Int}{z6:Bool}{n:Nat}{c:Ae}{z8 z9 z10:Int}{y3 y5 y6 y8 y12:Int}{y4 y7:Bool}{m st:Int}{od:Bool}{l:Ak}(d:l.length<=maxLen):∀(r:Ak)(i nn:Nat),l.drop i=r->r.length<nn ->
  Gd u F z0 z1 z2 z3 z4 z5 z6 n c z8 z9 z10 nn m st (i:Int) y3 y4 y5 y6 y7 y8 od l.length (Af .u64 l) y12=some ⟨[Av (if m∈r then 40 else if st=2 then if od=true then 0 else 40 else 0)],[]⟩
 |r,i,0,_,h=>Ω
 |[],i,nn+1,h,_=>by
  have:=drop_nil h;rw[Ov];rw[Fn _ _ _ Ω];simp only[E9,Ag0];simp only[XY,NC,ue,if_false]
 |x::r,i,nn+1,h,f=>by
  obtain⟨p,g,j⟩:=Cb h;simp only[maxLen] at d;simp only[M9] at f;rw[Ov];have o:=Tm (k:=.u64) g;rw[GN _ _ _ Ω];simp(disch:=omega)only[Ah5,QD,OQ,Ga,Hy,Jp,o,E9];by_cases a:x=m
  ·rw[Bv a,Bv (by simp[a])]
  ·rw[Bd a,Ba];have:=VG (F:=F) (z0:=z0) (z1:=z1) (z2:=z2) (z3:=z3) (z4:=z4) (z5:=z5) (z6:=z6) (n:=n) (c:=c) (z8:=z8) (z9:=z9) (z10:=z10) (y3:=y3) (y4:=y4) (y5:=y5) (y6:=y6) (y7:=y7) (y8:=y8) (y12:=y12) (m:=m) (st:=st) (od:=od) (by simp only[maxLen];omega) r (i+1) nn j Ω
   refine Eq.trans this ?_
   have b:m∈x::r↔m∈r:=by
    rw[zl];exact⟨λh=>h.elim (λe=>absurd e.symm a) id,.inr⟩
   simp only[b]
theorem Awq(p:UK)(a:p.dn.length<=maxLen)(Be:p.dn.length<u)(m st:Int):Ac C1 prog u (d+1) 113 [.agg p.cells,Ah m,Av st]=some ⟨[Av (Avj p.dn p.od m st)],[]⟩:=by unfold UK.cells;rw[IM];have:=VG (u:=u) (F:=Ac C1 prog u d) (z0:=p.vf) (z1:=p.rs) (z2:=p.ht) (z3:=p.pr) (z4:=p.sh) (z5:=p.fm) (z6:=p.od) (n:=p.dn.length) (c:=Af .u64 p.dn) (z8:=p.op) (z9:=m) (z10:=st) (y3:=p.vf) (y4:=p.rs) (y5:=p.ht) (y6:=p.pr) (y7:=p.sh) (y8:=p.fm) (y12:=p.op) (m:=m) (st:=st) (od:=p.od) a p.dn 0 u rfl Be;simp only[Int.natCast_zero,Int.ofNat_zero] at this;have b:Gd u (Ac C1 prog u d) p.vf p.rs p.ht p.pr p.sh p.fm p.od p.dn.length (Af .u64 p.dn) p.op m st u m st 0 p.vf p.rs p.ht p.pr p.sh p.fm p.od p.dn.length (Af .u64 p.dn) p.op=_:=this;simp only[b,E9,NC,Avj]
theorem Bd0(p:UK)(b:p.dn.length<=maxLen)(Be:p.dn.length<u)(a:Uh)(c:Stc)(st:Int):
  Ac C1 prog u (d+4) 58 [.agg p.cells,.agg a.cells,.agg c.cells,Av st]=some ⟨[Av (Abw p a c.sh c.md st)],[]⟩:=by
 have e:=A7w (u:=u) (d:=d+2) p a;have f:=A1s (u:=u) (d:=d) p b Be c.md st;unfold UK.cells Uh.cells Stc.cells at *
 rw[SR];simp only[e,f,CR,NM,EA,OQ,Ga,E9,Ej,Ag0];simp only[XY,NC,Abw]
theorem A9l(p:UK)(b:p.dn.length<=maxLen)(Be:p.dn.length<u)(a:Uh)(c:Stc)(st:Int):
  Ac C1 prog u (d+4) 67 [.agg p.cells,.agg a.cells,.agg c.cells,Av st]=some ⟨[Av (Abw p a c.sh c.md st)],[]⟩:=by
 have e:=A0o (u:=u) (d:=d+2) p a.fl;have f:=Awq (u:=u) (d:=d+2) p b Be c.md st;unfold UK.cells Uh.cells Stc.cells at *
 rw[DC];simp only[e,f,CR,NM,EA,OQ,Ga,E9,Ej,Ag0];simp only[XY,NC,Abw]
end
section
variable {I:FuncId->Option (Ae->Option A3)}(u d:Nat)(F:An)
theorem OM(u d:Nat)(Z:Int):Ac (CP p) prog u (d+1) 130 [.lst true 1 0 [],Z]=(λ(F:An)=>Ap (decide (Z<0)) none (Aa (wrap .i64 (Z-0)) λa=>Ap (decide (a>0)) (As (decide (0<=a)&&decide (a.toNat*1<=1099511627776)&&decide (a<=1099511627776))<|A9 [.own 1 0 []]) (A9 [.own 1 0 []]))) (Ac (CP p) prog u d):=Κ
def Kr(Z:Nat)(Y:Ae)(X W:Nat)(V:Ae)(U:Int)(T:Nat)(S:Ae)(Q P:Int):Option A3:=Hq u F 97 Tryz.f97 [Am 1 Z Y] [.r,.r,.l,.r,.l] X ⟨lk [(0,Am 1 W V),(3,U),(9,Am 1 T S),(10,Q),(11,P)],Fb []⟩
def Ks(Z:Nat)(Y:Ae)(X W V:Nat)(U:Ae)(T S:Int)(Q:Ae):Option A3:=Hq u F 97 Tryz.f97 [Am 1 Z Y] [.r,.r,.r,.r,.l,.r,.l] X ⟨lk [(6,.view 6 1 0 W),(25,Am 1 V U),(26,T),(27,S)],Fb [(6,.ar false Q)]⟩
theorem Jk(X:Nat)(W:Ae)(P Y:Nat)(V:Ae)(U:Int)(T:Nat)(S:Ae)(Q Z:Int):Kr u F X W (P+1) Y V U T S Q Z=(Ap (decide (Z<Q)) (As (decide (0<=Z)&&decide (Z<(↑T:Int)))<|Y9 1 (S.getD (Z.toNat*1) .top) λa b c=>Aa (wrap .i64 (U+(↑b:Int))) λa=>Ap (decide (a<0)) none (Aa (wrap .i64 (Z+1)) λb=>Kr u F X W P Y V a T S Q b)) (Cn (F 130 [.lst true 1 0 [],U]) λa b=>K5 1 a λa c=>Ag b<|Ks u F X W u a Y V (↑Y:Int) 0 c)):=Κ
theorem Jc(T:Nat)(S:Ae)(Q Z W:Nat)(V:Ae)(U Y:Int)(X:Ae):Ks u F T S (Q+1) Z W V U Y X=(Ap (decide (Y<U)) (As (decide (0<=Y)&&decide (Y<(↑W:Int)))<|Y9 1 (V.getD (Y.toNat*1) .top) λa b c=>As (decide (Z*1<=X.length)&&decide (c.length=b*1)&&decide ((Z+b)*1<=1099511627776)&&decide (Z+b<=1099511627776))<|Aa (Z+b) λa=>Aa (yt (Z*1) X++c) λb=>Aa (wrap .i64 (Y+1)) λc=>Ks u F T S Q a W V U c b) (As (decide (Z*1<=X.length))<|A9 [.own 1 Z (X.take (Z*1))])):=Κ
theorem IY(u d Z:Nat)(Y:Ae):Ac (CP p) prog u (d+1) 97 [Am 1 Z Y]=(λ(F:An)=>Kr u F Z Y u Z Y 0 Z Y (↑Z:Int) 0) (Ac (CP p) prog u d):=Κ
def Mg(Z:Nat)(Y:Ae)(X:Nat)(W:Int)(V:Nat)(U:Ae)(T S:Int):Option A3:=Hq u F 88 Tryz.f88 [Am 1 Z Y] [.r,.r,.l,.r,.l] X ⟨lk [(3,Ah W),(6,Am 1 V U),(7,T),(8,S)],Fb []⟩
theorem Vo(U:Nat)(T:Ae)(S:Nat)(Y:Int)(X:Nat)(W:Ae)(V Z:Int):Mg u F U T (S+1) Y X W V Z=(Ap (decide (Z<V)) (As (decide (0<=Z)&&decide (Z<(↑X:Int)))<|Bi .u8 (W.getD (Z.toNat*1) .top) λa=>Aa (Dv .u64 Y 8) λb=>Aa (wrap .u64 a) λa=>Aa (Vm .u64 b a) λa=>Aa (wrap .i64 (Z+1)) λb=>Mg u F U T S a X W V b) (A9 [Ah Y])):=Κ
theorem XU(u d Z:Nat)(Y:Ae):Ac (CP p) prog u (d+1) 88 [Am 1 Z Y]=(λ(F:An)=>Mg u F Z Y u 0 Z Y (↑Z:Int) 0) (Ac (CP p) prog u d):=Κ
theorem Abj(u d:Nat)(X Z:Int)(W V U:Int)(T:Nat)(S:Ae)(Q P Y:Int):Ac (CP p) prog u (d+1) 89 [.agg [Ah X,Z,W,V,Ah U,Am 1 T S,Q,Ah P],Y]=(λ(F:An)=>Aa (C8 .i64 Z Y) λa=>A9 [C3 (a != 0)]) (Ac (CP p) prog u d):=Κ
def Rx(Z Y:Int)(X W V:Int)(U:Nat)(T:Ae)(S Q:Int)(P:Nat)(O N:Int)(M L K:Int)(J:Nat)(I:Ae)(H G:Int):Option A3:=Hq u F 92 Tryz.f92 [.agg [Ah Z,Y,X,W,Ah V,Am 1 U T,S,Ah Q]] [.r] P ⟨lk [(1,.ptr 1 0)],Fb [(1,.st [Ah O,N,M,L,Ah K,Am 1 J I,H,Ah G])]⟩
theorem CW(O N:Int)(M L K:Int)(J:Nat)(I:Ae)(H G:Int)(P:Nat)(Es:0<P)(V U:Int)(T S W:Int)(Z:Nat)(Q:Ae)(Y X:Int):Rx u F O N M L K J I H G P V U T S W Z Q Y X=((λf:PV=>Cn (F 89 [f,(16:Int)]) λa b=>Bh a λa=>(λe:Option A3=>Ag b<|Ap a (Cn (F 89 [f,(8:Int)]) λa b=>Bh a λa=>Ag b<|Ap (!a) (A9 [(18:Int)]) (Cn (F 89 [f,(64:Int)]) λa b=>Bh a λa=>Ag b<|Ap (!a) e (Ap ((↑Z:Int) != 176) (A9 [(4:Int)]) (Cn (F 128 [.agg [Y,Ah X]]) λa b=>K5 1 a λa c=>Bq .i64 b λa=>A9 [a])))) (Cn (F 89 [f,(64:Int)]) λa b=>Bh a λa=>Ag b<|Ap (!a) e (Ap ((↑Z:Int) != 176) (A9 [(4:Int)]) (Cn (F 128 [.agg [Y,Ah X]]) λa b=>K5 1 a λa c=>Bq .i64 b λa=>A9 [a])))) (Ap (W != 0) (A9 [(4:Int)]) (Ap ((↑Z:Int) != 0) (A9 [(4:Int)]) (Ap (!(Y==0&&(X==0&&true))) (A9 [(4:Int)]) (A9 [(0:Int)]))))) (.agg [Ah V,U,T,S,Ah W,Am 1 Z Q,Y,Ah X])):=by cases P with|zero=>exact absurd Es (wo 0)|succ P=>kernel_rfl
theorem KX(u d:Nat)(W X:Int)(Z Y V:Int)(U:Nat)(T:Ae)(S Q:Int):Ac (CP p) prog u (d+1) 92 [.agg [Ah W,X,Z,Y,Ah V,Am 1 U T,S,Ah Q]]=(λ(F:An)=>Aa (DK .i64 X 93) λa=>(λb:Option A3=>Ap (a != 0) b (Ap (decide (Z<0)) b (Ap (decide (Z>16)) b (Ap (decide (Y<0)) b (Ap (decide (Y>=16)) b (Rx u F W X Z Y V U T S Q u W X Z Y V U T S Q)))))) (A9 [(9:Int)])) (Ac (CP p) prog u d):=Κ
theorem RI(u d Z:Nat)(Y:Ae):Ac (CP p) prog u (d+1) 52 [Am 1 Z Y]=(λ(F:An)=>(λm:Option A3=>Ap (decide ((↑Z:Int)<11)) m (As (decide (8<=Z))<|Aa (yt 8 (Y.drop 0)) λa=>Gn .u64 (F 88 [Am 1 8 a]) λa=>As (decide (8<(↑Z:Int)))<|Bi .u8 (Y.getD 8 .top) λb=>Aa (wrap .i64 b) λb=>As (decide (9<(↑Z:Int)))<|Bi .u8 (Y.getD 9 .top) λc=>Aa (wrap .i64 c) λc=>As (decide (10<(↑Z:Int)))<|Bi .u8 (Y.getD 10 .top) λe=>Aa (wrap .i64 e) λe=>(λn:PV=>Cn (F 89 [n,(64:Int)]) λf g=>Bh f λf=>Ag g<|Ap f (Ap (decide ((↑Z:Int)<195)) m (As (decide (195<=Z)&&decide (Z<=Z))<|Aa (Z-195) λf=>Aa (yt (f*1) (Y.drop 195)) λg=>Cn (F 90 [Am 1 f g]) λf g=>Cr f λf=>Bu .i64 f λf h=>Bq .u64 h λh=>Bq .i64 g λg=>Ap (g != 0) m (As (decide (19<=Z))<|Aa (yt 8 (Y.drop 11)) λg=>Gn .u64 (F 88 [Am 1 8 g]) λg=>As (decide (195<=Z))<|Aa (yt 176 (Y.drop 19)) λi=>Cn (F 91 [Am 1 176 i]) λi j=>K5 1 i λi k=>Ag j<|As (decide (0+i*1<=k.length))<|Gn .i64 (F 92 [.agg [Ah a,b,c,e,Ah g,Am 1 i (yt (i*1) (k.drop 0)),f,Ah h]]) λj=>Ap (j != 0) m (As (decide (i*1<=k.length))<|A9 [.agg [Ah a,b,c,e,Ah g,.own 1 i (k.take (i*1)),f,Ah h],(0:Int)])))) (Ap (decide ((↑Z:Int)>11)) m (Gn .i64 (F 92 [n]) λf=>Ap (f != 0) m (A9 [.agg [Ah a,b,c,e,Ah 0,.own 1 0 [],(0:Int),Ah 0],(0:Int)])))) (.agg [Ah a,b,c,e,Ah 0,Am 1 0 [],(0:Int),Ah 0]))) (A9 [.agg [Ah 0,(0:Int),(0:Int),(0:Int),Ah 0,.own 1 0 [],(0:Int),Ah 0],(2:Int)])) (Ac (CP p) prog u d):=Κ
theorem OX(u d:Nat)(Z:ByteArray):Ac (CP p) prog u (d+1) 53 [Z]=(λ(F:An)=>As (decide (mm Z<=1099511627776))<|As (decide (0+mm Z*1<=wy (Dt Z)))<|Gn .u64 (F 93 [(9:Int),Am 1 (mm Z) (yt (mm Z*1) (nb 0 (Dt Z)))]) λa=>A9 [Ah a]) (Ac (CP p) prog u d):=Κ
theorem MV(u d Z:Nat)(Y:Ae)(X:Int):Ac (CP p) prog u (d+1) 55 [Am 1 Z Y,Ah X]=(λ(F:An)=>Cn (F 98 [Am 1 1 [Ah X]]) λa b=>K5 1 a λa c=>Ag b<|As (decide (0+a*1<=c.length))<|Cn (F 97 [Am 1 2 [Am 1 Z Y,Am 1 a (yt (a*1) (c.drop 0))]]) λa b=>K5 1 a λa c=>Ag b<|As (decide (0+a*1<=c.length))<|Gn .u64 (F 93 [(13:Int),Am 1 a (yt (a*1) (c.drop 0))]) λa=>A9 [Ah a]) (Ac (CP p) prog u d):=Κ
theorem FR(u d:Nat)(Z Y X:Int):Ac (CP p) prog u (d+1) 75 [Z,Y,X]=(λ(F:An)=>Ap (decide (Z>=Y)) (A9 [C3 (decide (Z<=X))]) (A9 [false])) (Ac (CP p) prog u d):=Κ
theorem Ve(u d:Nat)(S Z:Int)(U T V:Int)(Y:Nat)(Q:Ae)(X W:Int):Ac (CP p) prog u (d+1) 43 [.agg [Ah S,Z,U,T,Ah V,Am 1 Y Q,X,Ah W]]=(λ(F:An)=>Aa (DK .i64 Z 93) λa=>(λg:Option A3=>Ap (a != 0) g (Cn (F 75 [U,(0:Int),(16:Int)]) λa b=>Bh a λa=>Ag b<|Ap (!a) g (Cn (F 75 [T,(0:Int),(15:Int)]) λa b=>Bh a λa=>Ag b<|Ap (!a) g (Aa (C8 .i64 Z 16) λa=>(λf:Option A3=>(λe:Option A3=>Ap (a != 0) (Aa (C8 .i64 Z 8) λa=>Ap (a==0) (A9 [(18:Int)]) (Aa (C8 .i64 Z 64) λa=>Ap (a==0) e (Ap ((↑Y:Int) != 176) f (Cn (F 44 [.agg [X,Ah W]]) λa b=>K5 1 a λa c=>Bq .i64 b λa=>A9 [a])))) (Aa (C8 .i64 Z 64) λa=>Ap (a==0) e (Ap ((↑Y:Int) != 176) f (Cn (F 44 [.agg [X,Ah W]]) λa b=>K5 1 a λa c=>Bq .i64 b λa=>A9 [a])))) (Ap (V != 0) f (Ap (decide ((↑Y:Int)>0)) f (Ap (!(X==0&&(W==0&&true))) f (A9 [(0:Int)]))))) (A9 [(4:Int)]))))) (A9 [(9:Int)])) (Ac (CP p) prog u d):=Κ
theorem X8(u d Z:Nat)(Y:Ae):Ac (CP p) prog u (d+1) 63 [Am 1 Z Y]=(λ(F:An)=>(λm:Option A3=>(λk:Option A3=>Ap ((↑Z:Int) != 11) (Ap ((↑Z:Int) != 204) m k) k) (As (decide (8<=Z))<|Aa (yt 8 (Y.drop 0)) λa=>Gn .u64 (F 109 [Am 1 8 a]) λa=>As (decide (8<(↑Z:Int)))<|Bi .u8 (Y.getD 8 .top) λb=>Aa (wrap .i64 b) λb=>As (decide (9<(↑Z:Int)))<|Bi .u8 (Y.getD 9 .top) λc=>Aa (wrap .i64 c) λc=>As (decide (10<(↑Z:Int)))<|Bi .u8 (Y.getD 10 .top) λe=>Aa (wrap .i64 e) λe=>(λo:PV=>Ap (decide ((↑Z:Int)>11)) (As (decide (195<=Z)&&decide (Z<=Z))<|Aa (Z-195) λf=>Aa (yt (f*1) (Y.drop 195)) λg=>Cn (F 110 [Am 1 f g]) λf g=>Cr f λf=>Bu .i64 f λf h=>Bq .u64 h λh=>Bq .i64 g λg=>Ap (g != 0) m (As (decide (19<=Z))<|Aa (yt 8 (Y.drop 11)) λg=>Gn .u64 (F 109 [Am 1 8 g]) λg=>As (decide (195<=Z))<|Aa (yt 176 (Y.drop 19)) λi=>(λn:PV=>As (decide (i.length=176)&&true&&true)<|As (decide (176<=i.length))<|Gn .i64 (F 43 [n]) λj=>Ap (j != 0) m (Aa (C8 .i64 b 64) λj=>Ap (!decide ((↑Z:Int)>11)==(j != 0)) m (As (decide (176<=i.length))<|A9 [n,(0:Int)]))) (.agg [Ah a,b,c,e,Ah g,Am 1 176 (yt 176 (i.drop 0)),f,Ah h]))) (Gn .i64 (F 43 [o]) λf=>Ap (f != 0) m (Aa (C8 .i64 b 64) λf=>Ap (!decide ((↑Z:Int)>11)==(f != 0)) m (A9 [o,(0:Int)])))) (.agg [Ah a,b,c,e,Ah 0,Am 1 0 [],(0:Int),Ah 0]))) (A9 [.agg [Ah 0,(0:Int),(0:Int),(0:Int),Ah 0,Am 1 0 [],(0:Int),Ah 0],(2:Int)])) (Ac (CP p) prog u d):=Κ
theorem FB(u d:Nat)(Z:ByteArray):Ac (CP p) prog u (d+1) 25 [Z]=(λ(F:An)=>As (decide (mm Z<=1099511627776))<|As (decide (0+mm Z*1<=wy (Dt Z)))<|Gn .u64 (F 45 [(9:Int),Am 1 (mm Z) (yt (mm Z*1) (nb 0 (Dt Z)))]) λa=>A9 [Ah a]) (Ac (CP p) prog u d):=Κ
theorem DY(u d Z:Nat)(Y:Ae)(X:Int):Ac (CP p) prog u (d+1) 28 [Am 1 Z Y,Ah X]=(λ(F:An)=>As (decide (Y.length=Z*1)&&decide (Z*1<=1099511627776)&&decide (Z<=1099511627776))<|Cn (F 38 [Am 1 1 [Ah X]]) λa b=>K5 1 a λa c=>Ag b<|As (decide (0+a*1<=c.length))<|As (decide (Z*1<=Y.length)&&decide (wy (yt (a*1) (c.drop 0))=a*1)&&decide ((Z+a)*1<=1099511627776)&&decide (Z+a<=1099511627776))<|Aa (Z+a) λb=>Aa (yt (Z*1) Y++yt (a*1) (c.drop 0)) λa=>As (decide (0+b*1<=a.length))<|Gn .u64 (F 45 [(13:Int),Am 1 b (yt (b*1) (a.drop 0))]) λa=>A9 [Ah a]) (Ac (CP p) prog u d):=Κ
end
section
variable {I:FuncId->Option (Ae->Option A3)}(u d:Nat)(F:An)
def Hi(Z:Nat)(Y:Ae)(X:ByteArray)(W V:Nat)(U:Ae)(T:ByteArray)(S Q:Int):Option A3:=Hq u F 127 Tryz.f127 [Am 1 Z Y,X] [.r,.l,.r,.l] W ⟨lk [(0,Am 1 V U),(1,T),(7,S),(8,Q)],Fb []⟩
theorem Nm(U:Nat)(T:Ae)(S:ByteArray)(Q Y:Nat)(X:Ae)(W:ByteArray)(V Z:Int):Hi u F U T S (Q+1) Y X W V Z=(Ap (decide (Z<V)) (As (decide (0<=Z)&&decide (Z<(↑Y:Int)))<|At (X.getD (Z.toNat*1) .top) λa=>Ap (mf (ml W)==mf (ml a)) (A9 [Z]) (Aa (wrap .i64 (Z+1)) λa=>Hi u F U T S Q Y X W V a)) (A9 [(-1:Int)])):=Κ
theorem FW(u d Z:Nat)(Y:Ae)(X:ByteArray):Ac (CP p) prog u (d+1) 127 [Am 1 Z Y,X]=(λ(F:An)=>Hi u F Z Y X u Z Y X (↑Z:Int) 0) (Ac (CP p) prog u d):=Κ
theorem Z0(u d Z:Nat)(Y:Ae)(X:ByteArray):Ac (CP p) prog u (d+1) 87 [Am 1 Z Y,X]=(λ(F:An)=>Gn .i64 (F 127 [Am 1 Z Y,X]) λa=>A9 [C3 (decide (a>=0))]) (Ac (CP p) prog u d):=Κ
theorem Zk(u d:Nat)(T S:ByteArray)(Z:Nat)(Y:Ae)(Q:Int)(P:Bool)(O N:Int)(M:Bool)(L:Int)(K:Bool)(J:Nat)(I:Ae)(H G:Int)(E D:Int)(X:Nat)(W:Ae)(V:Int)(U:ByteArray)(B:Nat)(A:Ae)(z:Nat)(w:Ae)(v:Nat)(j:Ae)(A6p:Int)(Bk1:Nat)(Amb:Ae)(Ab3:ByteArray):Ac (CP p) prog u (d+1) 50 [.agg [T,S,Am 1 Z Y,Q,P,O,N,M,L,K,Am 1 J I,H,Ah G,E,Ah D],Am 1 X W,.agg [V,U,Am 1 B A,Am 1 z w,Am 1 v j,A6p,Am 1 Bk1 Amb,Ab3]]=(λ(F:An)=>Ap (V != 2) (A9 [(3:Int)]) (Cn (F 86 [U]) λa b=>Cr a λa=>Bu .i64 a λa c=>Hd 1 c λc e f=>Ad f λf g=>At f λf=>Ad g λg h=>Bh g λg=>Ad h λh i=>At h λh=>Ag i<|Bq .i64 b λb=>Ap (b != 0) (A9 [b]) (Ap (a != 2) (A9 [(3:Int)]) (Cn (F 51 [Am 1 c e,Am 1 X W]) λa b=>Bh a λa=>Ag b<|Ap (!a) (A9 [(35:Int)]) (Cn (F 87 [Am 1 Z Y,f]) λa b=>Bh a λa=>Ag b<|Ap (!a) (A9 [(34:Int)]) (Ap g (Cn (F 87 [Am 1 Z Y,h]) λa b=>Bh a λa=>Ag b<|Ap (!a) (A9 [(34:Int)]) (A9 [(0:Int)])) (A9 [(0:Int)]))))))) (Ac (CP p) prog u d):=Κ
theorem WS(u d:Nat)(Q Ade:ByteArray)(Aj7:Nat)(Adi:Ae)(P:Int)(O:Bool)(N M:Int)(L:Bool)(K:Int)(J:Bool)(I:Nat)(H:Ae)(G Aku:Int)(Ana Al7:Int)(A0a A1v A30:Int)(An4:Nat)(A0t:Ae)(Azf:Int)(Anz:Nat)(A0r:Ae)(An9:Nat)(A37:Ae)(Y:Nat)(X:Ae)(W V:Int)(U E:Int)(D:Bool)(B:Int)(A:Nat)(z:Ae)(w:Bool)(v l:Int)(r:Nat)(a3:Ae)(Z Ak6:Int)(Aih:ByteArray)(T:Nat)(S:Ae)(Ad6:Nat)(Avo:Ae)(WM:Nat)(Amc:Ae)(Al2:Int)(Agk:Nat)(Avc:Ae)(An3:ByteArray):Ac (CP p) prog u (d+1) 33 [.agg [Q,Ade,Am 1 Aj7 Adi,P,O,N,M,L,K,J,Am 1 I H,G,Ah Aku,Ana,Ah Al7],.agg [A0a,A1v,A30,Am 3 An4 A0t,Azf,Am 1 Anz A0r,Am 1 An9 A37],.agg [Am 1 Y X,W,Ah V,Ah U,E,D,Ah B,Am 2 A z,w,v,l],Am 1 r a3,Z,.agg [Ak6,Aih,Am 1 T S,Am 1 Ad6 Avo,Am 1 WM Amc,Al2,Am 1 Agk Avc,An3]]=(λ(F:An)=>(λR:PV=>Ap (decide (Z<0)) (A9 [R,(9:Int)]) (Ap (decide (Z>1099511627776)) (A9 [R,(9:Int)]) (Gn .i64 (F 50 [.agg [Q,Ade,Am 1 Aj7 Adi,P,O,N,M,L,K,J,Am 1 I H,G,Ah Aku,Ana,Ah Al7],Am 1 r a3,.agg [Ak6,Aih,Am 1 T S,Am 1 Ad6 Avo,Am 1 WM Amc,Al2,Am 1 Agk Avc,An3]]) λa=>Ap (a != 0) (A9 [R,a]) (Cn (F 51 [Am 1 Agk Avc,Am 1 Y X]) λa b=>Bh a λa=>Ag b<|Ap (!a) (A9 [R,(36:Int)]) (Cn (F 52 [Am 1 T S]) λa b=>Cr a λa=>Bu .u64 a λa c=>Bu .i64 c λc e=>Bu .i64 e λe f=>Bu .i64 f λf g=>Bu .u64 g λg h=>ZzO 1 h λh i j=>Bu .i64 j λj k=>Bq .u64 k λk=>Bq .i64 b λb=>Ap (b != 0) (A9 [R,b]) (Aa (C8 .i64 c 64) λb=>Ap (b != 0) (A9 [R,(4:Int)]) (Gn .u64 (F 53 [Q]) λb=>Ap (a != b) (A9 [R,(34:Int)]) (Cn (F 54 [Am 1 Ad6 Avo]) λb m=>Cr b λb=>Bu .i64 b λb n=>ZzO 1 n λn o q=>ZzO 1 q λq s t=>Ag t<|Bq .i64 m λm=>Ap (m != 0) (A9 [R,m]) (Gn .u64 (F 56 [Aih]) λm=>Gn .u64 (F 55 [Am 1 T S,Ah m]) λm=>As (decide (0+n*1<=o.length))<|As (decide (0+q*1<=s.length))<|Gn .i64 (F 57 [.agg [W,Ah V],Ah m,.agg [b,Am 1 n (yt (n*1) (o.drop 0)),Am 1 q (yt (q*1) (s.drop 0))]]) λm=>Ap (m != 0) (A9 [R,m]) (Aa (wrap .i64 (b+1)) λm=>Ap (e != m) (A9 [R,(33:Int)]) (Gn .i64 (F 59 [.agg [A0a,A1v,A30,Am 3 An4 A0t,Azf,Am 1 Anz A0r,Am 1 An9 A37],Ah U,Z]) λm=>(λz2:PV=>As (decide (0+h*1<=i.length))<|Gn .i64 (F 58 [.agg [P,O,N,M,L,K,J,Am 1 I H,G],.agg [Ah a,c,e,f,Ah g,Am 1 h (yt (h*1) (i.drop 0)),j,Ah k],z2,m]) λa=>Ap (a != 0) (A9 [R,a]) (Cn (F 60 [z2,b,f,Z]) λa b=>Cr a λa=>Hd 1 a λa c e=>Bu .i64 e λe f=>Bu .u64 f λf g=>Bu .u64 g λg h=>Bu .i64 h λh i=>Ad i λi j=>Bh i λi=>Bu .u64 j λj k=>Hd 2 k λk m n=>Ad n λn o=>Bh n λn=>Bu .i64 o λo q=>Bq .i64 q λq=>Bq .i64 b λb=>(λz1:Option A3=>Ap (b != 0) (Ap (b != 37) (A9 [R,b]) z1) z1) (A9 [.agg [Am 1 a c,e,Ah f,Ah g,h,i,Ah j,Am 2 k m,n,o,q],b]))) (.agg [Am 1 Y X,W,Ah V,Ah U,E,D,Ah B,Am 2 A z,w,v,l])))))))))))) (.agg [Am 1 0 [],(0:Int),Ah 0,Ah 0,(0:Int),false,Ah 0,Am 2 0 [],false,(0:Int),(0:Int)])) (Ac (CP p) prog u d):=Κ
theorem FH(u d:Nat)(Z Y X:Int):Ac (CP p) prog u (d+1) 61 [Z,Y,X]=(λ(F:An)=>Ap (decide (Z>=Y)) (A9 [C3 (decide (Z<=X))]) (A9 [false])) (Ac (CP p) prog u d):=Κ
def H0(Z:ByteArray)(Y:Nat)(X:Ae)(W:Nat)(V:ByteArray)(U:Nat)(T:Ae)(S:Int):Option A3:=Hq u F 108 Tryz.f108 [Z,Am 1 Y X] [.r,.l,.r,.l] W ⟨lk [(0,V),(1,Am 1 U T),(5,S)],Fb []⟩
theorem On(V:ByteArray)(U:Nat)(T:Ae)(S:Nat)(X:ByteArray)(Y:Nat)(W:Ae)(Z:Int):H0 u F V U T (S+1) X Y W Z=(Ap (decide (Z<(↑Y:Int))) (As (decide (0<=Z)&&decide (Z<(↑Y:Int)))<|At (W.getD (Z.toNat*1) .top) λa=>Ap (mf (ml a)==mf (ml X)) (A9 [true]) (Aa (wrap .i64 (Z+1)) λa=>H0 u F V U T S X Y W a)) (A9 [false])):=Κ
theorem GU(u d:Nat)(Z:ByteArray)(Y:Nat)(X:Ae):Ac (CP p) prog u (d+1) 108 [Z,Am 1 Y X]=(λ(F:An)=>H0 u F Z Y X u Z Y X 0) (Ac (CP p) prog u d):=Κ
theorem FF(u d:Nat)(S Q:ByteArray)(Z:Nat)(Y:Ae)(P:Int)(O:Bool)(N M:Int)(L:Bool)(K:Int)(J:Bool)(I:Nat)(H:Ae)(G E:Int)(D B X:Int)(V:Nat)(W:Ae)(U:Int)(T:ByteArray)(A:Nat)(z:Ae)(w:Nat)(v:Ae)(j:Nat)(Bp7:Ae)(Bot:Int)(Bjx:Nat)(Bpe:Ae)(Bpp:ByteArray):Ac (CP p) prog u (d+1) 62 [.agg [S,Q,Am 1 Z Y,P,O,N,M,L,K,J,Am 1 I H,G,Ah E,D,Ah B],X,Am 1 V W,.agg [U,T,Am 1 A z,Am 1 w v,Am 1 j Bp7,Bot,Am 1 Bjx Bpe,Bpp]]=(λ(F:An)=>Ap (U != X) (A9 [(3:Int)]) (Cn (F 107 [T]) λa b=>Cr a λa=>Bu .i64 a λa c=>ZzO 1 c λc e f=>Ad f λf g=>At f λf=>Ad g λg h=>Bh g λg=>Ad h λh i=>At h λh=>Ag i<|Bq .i64 b λb=>Ap (b != 0) (A9 [b]) (Ap (a != X) (A9 [(3:Int)]) (As (decide (0+c*1<=e.length))<|As (decide (wy (yt (c*1) (e.drop 0))=c))<|Dq (H2 (yt (c*1) (e.drop 0))) λa=>As (decide (W.length=V))<|Dq (H2 W) λb=>Ap (!mf (ml (ByteArray.mk (bc a)))==mf (ml (ByteArray.mk (bc b)))) (A9 [(35:Int)]) (Cn (F 108 [f,Am 1 Z Y]) λa b=>Bh a λa=>Ag b<|Ap (!a) (A9 [(34:Int)]) (Ap g (Cn (F 108 [h,Am 1 Z Y]) λa b=>Bh a λa=>Ag b<|Ap (!a) (A9 [(34:Int)]) (A9 [(0:Int)])) (A9 [(0:Int)]))))))) (Ac (CP p) prog u d):=Κ
theorem DF(u d:Nat)(W:Int)(Z:ByteArray)(Y:Nat)(X:Ae)(V:Nat)(U:Ae)(T:Nat)(S:Ae)(Q:Int)(P:Nat)(O:Ae)(N:ByteArray):Ac (CP p) prog u (d+1) 66 [.agg [W,Z,Am 1 Y X,Am 1 V U,Am 1 T S,Q,Am 1 P O,N]]=(λ(F:An)=>Gn .u64 (F 29 [Z]) λa=>Gn .u64 (F 28 [Am 1 Y X,Ah a]) λa=>A9 [Ah a]) (Ac (CP p) prog u d):=Κ
theorem FO(u d:Nat)(M Ade:ByteArray)(Aj7:Nat)(Adi:Ae)(L:Int)(K:Bool)(J I:Int)(H:Bool)(G:Int)(E:Bool)(D:Nat)(B:Ae)(A Aku:Int)(Ana Al7:Int)(A0a A1v A30:Int)(An4:Nat)(A0t:Ae)(Azf:Int)(Anz:Nat)(A0r:Ae)(An9:Nat)(A37:Ae)(X:Nat)(Z:Ae)(W V:Int)(U z:Int)(w:Bool)(v:Int)(l:Nat)(Ab3:Ae)(Ai1:Bool)(Ahk QP:Int)(r:Nat)(a3:Ae)(T Ak6:Int)(Aih:ByteArray)(S:Nat)(Q:Ae)(P:Nat)(O:Ae)(WM:Nat)(Amc:Ae)(Al2:Int)(N:Nat)(Y:Ae)(An3:ByteArray):Ac (CP p) prog u (d+1) 34 [.agg [M,Ade,Am 1 Aj7 Adi,L,K,J,I,H,G,E,Am 1 D B,A,Ah Aku,Ana,Ah Al7],.agg [A0a,A1v,A30,Am 3 An4 A0t,Azf,Am 1 Anz A0r,Am 1 An9 A37],.agg [Am 1 X Z,W,Ah V,Ah U,z,w,Ah v,Am 2 l Ab3,Ai1,Ahk,QP],Am 1 r a3,T,.agg [Ak6,Aih,Am 1 S Q,Am 1 P O,Am 1 WM Amc,Al2,Am 1 N Y,An3]]=(λ(F:An)=>Cn (F 61 [T,(0:Int),(1099511627776:Int)]) λa b=>Bh a λa=>(λR:PV=>(λz1:PV=>Ag b<|Ap (!a) (A9 [R,(9:Int)]) (Gn .i64 (F 62 [.agg [M,Ade,Am 1 Aj7 Adi,L,K,J,I,H,G,E,Am 1 D B,A,Ah Aku,Ana,Ah Al7],(2:Int),Am 1 r a3,z1]) λa=>Ap (a != 0) (A9 [R,a]) (As (decide (Y.length=N))<|Dq (H2 Y) λa=>As (decide (Z.length=X))<|Dq (H2 Z) λb=>Ap (!mf (ml (ByteArray.mk (bc a)))==mf (ml (ByteArray.mk (bc b)))) (A9 [R,(36:Int)]) (Cn (F 63 [Am 1 S Q]) λa b=>Cr a λa=>Bu .u64 a λa c=>Bu .i64 c λc e=>Bu .i64 e λe f=>Bu .i64 f λf g=>Bu .u64 g λg h=>Hd 1 h λh i j=>Bu .i64 j λj k=>Bq .u64 k λk=>Bq .i64 b λb=>Ap (b != 0) (A9 [R,b]) (Aa (C8 .i64 c 64) λb=>Ap (b != 0) (A9 [R,(4:Int)]) (Gn .u64 (F 25 [M]) λb=>Ap (a != b) (A9 [R,(34:Int)]) (Cn (F 64 [Am 1 P O]) λb m=>Cr b λb=>Bu .i64 b λb n=>ZzO 1 n λn o q=>ZzO 1 q λq s t=>Ag t<|Bq .i64 m λm=>Ap (m != 0) (A9 [R,m]) (Gn .u64 (F 66 [z1]) λm=>As (decide (0+n*1<=o.length))<|As (decide (0+q*1<=s.length))<|Gn .i64 (F 65 [.agg [W,Ah V],Ah m,.agg [b,Am 1 n (yt (n*1) (o.drop 0)),Am 1 q (yt (q*1) (s.drop 0))]]) λm=>Ap (m != 0) (A9 [R,m]) (Aa (wrap .i64 (b+1)) λm=>Ap (e != m) (A9 [R,(33:Int)]) (Gn .i64 (F 68 [.agg [A0a,A1v,A30,Am 3 An4 A0t,Azf,Am 1 Anz A0r,Am 1 An9 A37],Ah U,T]) λm=>(λz2:PV=>Gn .i64 (F 67 [.agg [L,K,J,I,H,G,E,Am 1 D B,A],.agg [Ah a,c,e,f,Ah g,Am 1 h i,j,Ah k],z2,m]) λa=>Ap (a != 0) (A9 [R,a]) (Cn (F 10 [z2,b,f,T]) λa b=>Cr a λa=>Hd 1 a λa c e=>Bu .i64 e λe f=>Bu .u64 f λf g=>Bu .u64 g λg h=>Bu .i64 h λh i=>Ad i λi j=>Bh i λi=>Bu .u64 j λj k=>Hd 2 k λk m n=>Ad n λn o=>Bh n λn=>Bu .i64 o λo q=>Bq .i64 q λq=>Bq .i64 b λb=>(λz3:Option A3=>Ap (b != 0) (Ap (b != 37) (A9 [R,b]) z3) z3) (A9 [.agg [Am 1 a c,e,Ah f,Ah g,h,i,Ah j,Am 2 k m,n,o,q],b]))) (.agg [Am 1 X Z,W,Ah V,Ah U,z,w,Ah v,Am 2 l Ab3,Ai1,Ahk,QP]))))))))))) (.agg [Ak6,Aih,Am 1 S Q,Am 1 P O,Am 1 WM Amc,Al2,Am 1 N Y,An3])) (.agg [Am 1 0 [],(0:Int),Ah 0,Ah 0,(0:Int),false,Ah 0,Am 2 0 [],false,(0:Int),(0:Int)])) (Ac (CP p) prog u d):=Κ
def Hf(Z Y X:Int)(W:Nat)(V:Ae)(U:Int)(T:Nat)(S:Ae)(Q:Nat)(P:Ae)(O:Int)(N:Nat)(M L:Int)(K J I:Int)(H:Nat)(G:Ae)(E:Int)(D:Nat)(B:Ae)(A:Nat)(z:Ae)(w:Int)(v a:Nat)(t b:Ae):Option A3:=Hq u F 114 Tryz.f114 [.agg [Z,Y,X,Am 3 W V,U,Am 1 T S,Am 1 Q P],Ah O] [.r,.l,.r,.l] N ⟨lk [(1,Ah M),(2,.ptr 2 0),(4,.ptr 4 0),(6,L)],Fb [(2,.st [K,J,I,Am 3 H G,E,Am 1 D B,Am 1 A z]),(4,.st [Ah w,.view 60 3 0 v,.view 88 2 0 a]),(60,.ar false t),(88,.ar false b)]⟩
theorem Nl(V U T:Int)(S:Nat)(Q:Ae)(P:Int)(O:Nat)(N:Ae)(M:Nat)(L:Ae)(K:Int)(J:Nat)(W Z:Int)(I H G:Int)(X:Nat)(Y:Ae)(E:Int)(D:Nat)(B:Ae)(A:Nat)(z:Ae)(w:Int)(v d:Nat)(t h:Ae):Hf u F V U T S Q P O N M L K (J+1) W Z I H G X Y E D B A z w v d t h=(Ap (decide (Z<(↑X:Int))) (As (decide (0<=Z)&&decide (Z<(↑X:Int)))<|Bi .u64 (Y.getD (Z.toNat*3+0) .top) λa=>Ap (a==W) (As (decide (0<=Z)&&decide (Z<(↑X:Int)))<|Bi .u64 (Y.getD (Z.toNat*3) .top) λa=>Y9 3 (Y.getD (Z.toNat*3+1) .top) λb c e=>Y9 2 (Y.getD (Z.toNat*3+1+1) .top) λb f g=>A9 [.agg [Ah a,Am 3 c e,Am 2 f g],true]) (Aa (wrap .i64 (Z+1)) λa=>Hf u F V U T S Q P O N M L K J W a I H G X Y E D B A z w v d t h)) (A9 [.agg [Ah 0,Am 3 0 [],Am 2 0 []],false])):=Κ
theorem FI(u d:Nat)(Z Y X:Int)(W:Nat)(V:Ae)(U:Int)(T:Nat)(S:Ae)(Q:Nat)(P:Ae)(O:Int):Ac (CP p) prog u (d+1) 114 [.agg [Z,Y,X,Am 3 W V,U,Am 1 T S,Am 1 Q P],Ah O]=(λ(F:An)=>Hf u F Z Y X W V U T S Q P O u O 0 Z Y X W V U T S Q P 0 0 0 ([]) ([])) (Ac (CP p) prog u d):=Κ
def E5(Z Y X:Int)(W:Nat)(V:Ae)(U:Int)(T:Nat)(S:Ae)(Q:Nat)(P:Ae)(O N:Int)(M:Nat)(L K:Int)(J I:Int)(H:Nat)(G:Ae)(E:Nat)(D:Ae):Option A3:=Hq u F 68 Tryz.f68 [.agg [Z,Y,X,Am 3 W V,U,Am 1 T S,Am 1 Q P],Ah O,N] [.r,.r,.r,.l,.r,.l] M ⟨lk [(2,L),(7,.ptr 7 0),(9,K),(10,J)],Fb [(7,.st [Ah I,Am 3 H G,Am 2 E D])]⟩
theorem Lg(V U T:Int)(S:Nat)(Q:Ae)(P:Int)(O:Nat)(N:Ae)(M:Nat)(L:Ae)(K J:Int)(I:Nat)(W H:Int)(Z G:Int)(E:Nat)(D:Ae)(Y:Nat)(X:Ae):E5 u F V U T S Q P O N M L K J (I+1) W H Z G E D Y X=(Ap (decide (Z<(↑Y:Int))) (As (decide (0<=Z)&&decide (Z<(↑Y:Int)))<|Bi .i64 (X.getD (Z.toNat*2+1) .top) λa=>Ap (decide (a<=W)) (As (decide (0<=Z)&&decide (Z<(↑Y:Int)))<|Bi .i64 (X.getD (Z.toNat*2+0) .top) λa=>Aa (wrap .i64 (Z+1)) λb=>E5 u F V U T S Q P O N M L K J I W a b G E D Y X) (Aa (wrap .i64 (Z+1)) λa=>E5 u F V U T S Q P O N M L K J I W H a G E D Y X)) (A9 [H])):=Κ
theorem CA(u d:Nat)(Z Y X:Int)(W:Nat)(V:Ae)(U:Int)(T:Nat)(S:Ae)(Q:Nat)(P:Ae)(O N:Int):Ac (CP p) prog u (d+1) 68 [.agg [Z,Y,X,Am 3 W V,U,Am 1 T S,Am 1 Q P],Ah O,N]=(λ(F:An)=>Cn (F 114 [.agg [Z,Y,X,Am 3 W V,U,Am 1 T S,Am 1 Q P],Ah O]) λa b=>Cr a λa=>Bu .u64 a λa c=>Hd 3 c λc e f=>Hd 2 f λf g h=>Ag h<|Qa b λb=>E5 u F Z Y X W V U T S Q P O N u N 0 0 a c e f g) (Ac (CP p) prog u d):=Κ
end
section
variable {I:FuncId->Option (Ae->Option A3)}(u d:Nat)(F:An)
theorem PB(u d:Nat)(Z Y:Int):Ac (CP p) prog u (d+1) 20 [Ah Z,Y]=(λ(F:An)=>Cn (F 37 [Ah Z,Y]) λa b=>Cr a λa=>Bu .i64 a λa c=>Bq .u64 c λc=>Bq .i64 b λb=>A9 [.agg [a,Ah c]]) (Ac (CP p) prog u d):=Κ
theorem Zr(u d:Nat)(Z Y:Int)(X:Bool):Ac (CP p) prog u (d+1) 8 [Z,Y,X]=(λ(F:An)=>Aa (wrap .u64 Z) λa=>Aa (wrap .u64 (1000+a)) λa=>Aa (wrap .i64 (500+Z)) λb=>Cn (F 6 [b,(176:Int)]) λb c=>K5 1 b λb e=>Ag c<|As (decide (b*1<=e.length))<|A9 [.agg [Ah a,Y,.own 1 b (e.take (b*1)),X]]) (Ac (CP p) prog u d):=Κ
theorem Zg(u d:Nat)(X W:Int)(V:Nat)(U:Ae)(Z Y:Bool):Ac (CP p) prog u (d+1) 26 [.agg [Ah X,W,Am 1 V U,Z],Y]=(λ(F:An)=>Ap Y (Ap Z (A9 [(13:Int)]) (A9 [(5:Int)])) (Ap Z (A9 [(9:Int)]) (A9 [(1:Int)]))) (Ac (CP p) prog u d):=Κ
theorem X6(u d:Nat)(Z Y:Int)(X:Nat)(W:Ae)(U:Bool)(T S:ByteArray)(Q:Nat)(P:Ae)(O:Bool)(V N:Int)(M:ByteArray):Ac (CP p) prog u (d+1) 11 [.agg [Ah Z,Y,Am 1 X W,U],T,S,Am 1 Q P,O,V,N,M]=(λ(F:An)=>Cn (F 23 [.agg [(2:Int),Am 1 Q P,S,false,Bg ⟨#[]⟩]]) λa b=>At a λa=>Bq .i64 b λb=>Gn .u64 (F 25 [T]) λb=>Gn .i64 (F 26 [.agg [Ah Z,Y,Am 1 X W,U],O]) λc=>Aa (wrap .i64 (V+1)) λe=>Cn (F 24 [.agg [Ah b,c,e,N,Ah 0,Am 1 0 [],(0:Int),Ah 0]]) λb c=>K5 1 b λb e=>Bq .i64 c λc=>Gn .u64 (F 29 [a]) λc=>(λm:PV=>As (decide (0+b*1<=e.length))<|Gn .u64 (F 28 [m,Ah c]) λc=>Cn (F 27 [Ah Z,Y,V,Ah c]) λc f=>Cr c λc=>Bu .i64 c λc g=>ZzO 1 g λg h i=>ZzO 1 i λi j k=>Ag k<|Bq .i64 f λf=>As (decide (0+g*1<=h.length))<|As (decide (0+i*1<=j.length))<|Cn (F 30 [.agg [c,Am 1 g (yt (g*1) (h.drop 0)),Am 1 i (yt (i*1) (j.drop 0))]]) λc f=>K5 1 c λc g=>Bq .i64 f λf=>As (decide (0+b*1<=e.length))<|As (decide (0+c*1<=g.length))<|A9 [.agg [(2:Int),a,m,Am 1 c (yt (c*1) (g.drop 0)),Am 1 0 [],(0:Int),Am 1 X W,M]]) (Am 1 b (yt (b*1) (e.drop 0)))) (Ac (CP p) prog u d):=Κ
theorem Xm(u d:Nat)(W Y:Int)(V U T:Int)(Z:Nat)(X:Ae)(S Q:Int):Ac (CP p) prog u (d+1) 24 [.agg [Ah W,Y,V,U,Ah T,Am 1 Z X,S,Ah Q]]=(λ(F:An)=>Gn .i64 (F 43 [.agg [Ah W,Y,V,U,Ah T,Am 1 Z X,S,Ah Q]]) λa=>Ap (a != 0) (A9 [.own 1 0 [],a]) (Cn (F 38 [Am 1 1 [Ah W]]) λa b=>K5 1 a λa c=>Ag b<|Aa (wrap .u8 Y) λb=>Aa (wrap .u8 V) λe=>Aa (wrap .u8 U) λf=>As (decide (a*1<=c.length)&&true&&decide ((a+3)*1<=1099511627776)&&decide (a+3<=1099511627776))<|Aa (a+3) λg=>Aa (yt (a*1) c++[.sc (.int .u8 b),.sc (.int .u8 e),.sc (.int .u8 f)]) λa=>Aa (C8 .i64 Y 64) λb=>Ap (b != 0) (Cn (F 44 [.agg [S,Ah Q]]) λb c=>K5 1 b λb e=>Bq .i64 c λc=>Cn (F 38 [Am 1 1 [Ah T]]) λc f=>K5 1 c λc h=>Ag f<|As (decide (0+c*1<=h.length))<|As (decide (g*1<=a.length)&&decide (wy (yt (c*1) (h.drop 0))=c*1)&&decide ((g+c)*1<=1099511627776)&&decide (g+c<=1099511627776))<|Aa (g+c) λf=>Aa (yt (g*1) a++yt (c*1) (h.drop 0)) λa=>As (decide (f*1<=a.length)&&decide (X.length=Z*1)&&decide ((f+Z)*1<=1099511627776)&&decide (f+Z<=1099511627776))<|Aa (f+Z) λc=>Aa (yt (f*1) a++X) λa=>As (decide (0+b*1<=e.length))<|As (decide (c*1<=a.length)&&decide (wy (yt (b*1) (e.drop 0))=b*1)&&decide ((c+b)*1<=1099511627776)&&decide (c+b<=1099511627776))<|Aa (c+b) λf=>Aa (yt (c*1) a++yt (b*1) (e.drop 0)) λa=>As (decide (f*1<=a.length))<|A9 [.own 1 f (a.take (f*1)),(0:Int)]) (As (decide (g*1<=a.length))<|A9 [.own 1 g (a.take (g*1)),(0:Int)]))) (Ac (CP p) prog u d):=Κ
theorem Wi(u d Z:Nat)(Y:Ae)(X:Int):Ac (CP p) prog u (d+1) 31 [Am 1 Z Y,X]=(λ(F:An)=>Ap ((↑Z:Int)==0) (Aa (wrap .u8 X) λa=>A9 [.own 1 1 [.sc (.int .u8 a)]]) (As (decide (Y.length=Z*1)&&decide (Z*1<=1099511627776)&&decide (Z<=1099511627776))<|As (decide ((↑Z:Int)≠0))<|Aa (nr X (↑Z:Int)) λa=>As (decide (0<=a)&&decide (a<(↑Z:Int)))<|Bi .u8 (Y.getD (0+a.toNat*1) .top) λb=>Aa (C8 .i64 X 7) λc=>Aa (wrap .u64 c) λc=>As (decide (0<=c))<|Aa (Dv .u8 1 c) λc=>Aa (Fh .u8 b c) λb=>As (decide (0<=a)&&decide (a<(↑Z:Int)))<|As (decide (0+a.toNat*1+1<=Y.length))<|Aa (B9 Y [.sc (.int .u8 b)] (0+a.toNat*1)) λa=>As (decide (Z*1<=a.length))<|A9 [.own 1 Z (a.take (Z*1))])) (Ac (CP p) prog u d):=Κ
theorem NA(u d Z:Nat)(Y:Ae)(X:Int):Ac (CP p) prog u (d+1) 14 [Am 1 Z Y,X]=(λ(F:An)=>Gn .i64 (F 17 [X,(4096:Int)]) λa=>Cn (F 31 [Am 1 Z Y,a]) λa b=>K5 1 a λa c=>Ag b<|As (decide (a*1<=c.length))<|A9 [.own 1 a (c.take (a*1))]) (Ac (CP p) prog u d):=Κ
theorem H6(u d Z:Nat)(Y:Ae)(X:Int):Ac (CP p) prog u (d+1) 19 [.pbox [Am 1 Z Y,X]]=(λ(F:An)=>Ao (F 7 [.pbox [Am 1 Z Y,X],(3:Int)]) λa b=>Bq .i64 a λa=>Ad b λb c=>Hd 1 b λb e f=>Bq .i64 f λf=>Ag c<|Ao (F 7 [.pbox [Am 1 b e,f],(2:Int)]) λb c=>Bq .i64 b λb=>Ad c λc e=>Hd 1 c λc f g=>Bq .i64 g λg=>Ag e<|Ao (F 7 [.pbox [Am 1 c f,g],(2:Int)]) λc e=>Bq .i64 c λc=>Ad e λe f=>Hd 1 e λe g h=>Bq .i64 h λh=>Ag f<|Aa (wrap .i64 (1+c)) λc=>Ao (F 7 [.pbox [Am 1 e g,h],(3:Int)]) λe f=>Bq .i64 e λe=>Ad f λf g=>Hd 1 f λf h i=>Bq .i64 i λi=>Ag g<|Aa (wrap .i64 (1+e)) λe=>Ao (F 7 [.pbox [Am 1 f h,i],(2:Int)]) λf g=>Bq .i64 f λf=>Ad g λg h=>Hd 1 g λg i j=>Bq .i64 j λj=>Ag h<|Ao (F 7 [.pbox [Am 1 g i,j],(3:Int)]) λg h=>Bq .i64 g λg=>Ad h λh i=>Hd 1 h λh j k=>Bq .i64 k λk=>Ag i<|Ao (F 7 [.pbox [Am 1 h j,k],(2:Int)]) λh i=>Bq .i64 h λh=>Ad i λi j=>Hd 1 i λi k m=>Bq .i64 m λm=>Ag j<|Ao (F 7 [.pbox [Am 1 i k,m],(3:Int)]) λi j=>Bq .i64 i λi=>Ad j λj k=>Hd 1 j λj m n=>Bq .i64 n λn=>Ag k<|As (decide (0<=i)&&decide (i<3))<|Bi .i64 (f9 [(50:Int),(5:Int),(500:Int)] (0+i.toNat*1) .top) λi=>Ao (F 7 [.pbox [Am 1 j m,n],(4:Int)]) λj k=>Bq .i64 j λj=>Ad k λk m=>Hd 1 k λk n o=>Bq .i64 o λo=>Ag m<|Ap (j==3) (Ao (F 7 [.pbox [Am 1 k n,o],(2:Int)]) λj k=>Bq .i64 j λj=>Ad k λk m=>Hd 1 k λk n o=>Bq .i64 o λo=>Ag m<|Aa (wrap .i64 (1+j)) λj=>As (decide (0<=j))<|As (decide (j.toNat<=2))<|Aa (j.toNat-0) λj=>As (decide (j*1<=2))<|some ⟨[.agg [a,C3 (b==1),c,e,C3 (f==1),g,C3 (h==1),.own 1 j (yt (j*1) [Ah 3,Ah 7]),i]],[[Am 1 k n,o]]⟩) (some ⟨[.agg [a,C3 (b==1),c,e,C3 (f==1),g,C3 (h==1),.own 1 0 [],i]],[[Am 1 k n,o]]⟩)) (Ac (CP p) prog u d):=Κ
theorem Mo(u d Z:Nat)(Y:Ae)(X:Int):Ac (CP p) prog u (d+1) 5 [.pbox [Am 1 Z Y,X]]=(λ(F:An)=>Ao (F 19 [.pbox [Am 1 Z Y,X]]) λa b=>Ad a λa c=>Cr a λa=>Bu .i64 a λa e=>Ad e λe f=>Bh e λe=>Bu .i64 f λf g=>Bu .i64 g λg h=>Ad h λh i=>Bh h λh=>Bu .i64 i λi j=>Ad j λj k=>Bh j λj=>ZzO 1 k λk m n=>Bq .i64 n λn=>Ag c<|Ad b λb c=>Hd 1 b λb o q=>Bq .i64 q λq=>Ag c<|Ao (F 7 [.pbox [Am 1 b o,q],(3:Int)]) λb c=>Bq .i64 b λb=>Ad c λc o=>Hd 1 c λc q s=>Bq .i64 s λs=>Ag o<|Aa (wrap .u64 b) λb=>Aa (wrap .u64 (5+b)) λb=>Cn (F 20 [Ah 31,(4:Int)]) λo t=>Cr o λo=>Bu .i64 o λo l=>Bq .u64 l λl=>Ag t<|As (decide (0+k*1<=m.length))<|some ⟨[.agg [Bg ⟨#[101,120,97,109,112,108,101,46,99,111,109]⟩,Bg ⟨#[69,120,97,109,112,108,101]⟩,Am 1 2 [Bg ⟨#[104,116,116,112,115,58,47,47,101,120,97,109,112,108,101,46,99,111,109]⟩,Bg ⟨#[104,116,116,112,115,58,47,47,108,111,103,105,110,46,101,120,97,109,112,108,101,46,99,111,109]⟩],a,e,f,g,h,i,j,Am 1 k (yt (k*1) (m.drop 0)),n,Ah b,o,Ah l]],[[Am 1 c q,s]]⟩) (Ac (CP p) prog u d):=Κ
theorem FY(u d:Nat)(Z Y:Int)(X:Nat)(W:Ae)(V:Bool)(U:Int):Ac (CP p) prog u (d+1) 9 [.agg [Ah Z,Y,Am 1 X W,V],Ah U]=(λ(F:An)=>Cn (F 20 [Ah Z,Y]) λa b=>Cr a λa=>Bu .i64 a λa c=>Bq .u64 c λc=>Ag b<|A9 [.agg [Am 1 X W,a,Ah c,Ah U,(0:Int),V,Ah 0,Am 2 0 [],false,(1:Int),(1:Int)]]) (Ac (CP p) prog u d):=Κ
def Pe(Z:Nat)(Y X:ByteArray)(W:Nat)(V:Ae)(U:Int)(T:Bool)(S Q:Int)(P:Bool)(O:Int)(N:Bool)(M:Nat)(L:Ae)(K J:Int)(I H:Int):Option A3:=Hq u F 36 Tryz.f36 [] [.r] Z ⟨lk [(0,.ptr 0 0)],Fb [(0,.st [Y,X,Am 1 W V,U,T,S,Q,P,O,N,Am 1 M L,K,Ah J,I,Ah H])]⟩
theorem Z3(Z:Nat)(Es:0<Z)(Y X:ByteArray)(W:Nat)(V:Ae)(U:Int)(T:Bool)(S Q:Int)(P:Bool)(O:Int)(N:Bool)(M:Nat)(L:Ae)(K J:Int)(I H:Int):Pe u F Z Y X W V U T S Q P O N M L K J I H=(A9 [.agg [Y,X,Am 1 W V,U,T,S,Q,P,O,N,Am 1 M L,K,Ah J,I,Ah H]]):=by cases Z with|zero=>exact absurd Es (wo 0)|succ Z=>kernel_rfl
theorem FD(u d:Nat):Ac (CP p) prog u (d+1) 36 []=(λ(F:An)=>Cn (F 4 [Am 1 0 []]) λa b=>IR a λa=>Hd 1 a λa c e=>Bq .i64 e λe=>Ag b<|Ao (F 5 [.pbox [Am 1 a c,e]]) λa b=>Ad a λa c=>Cr a λa=>Ad a λa e=>At a λa=>Ad e λe f=>At e λe=>Hd 1 f λf g h=>Bu .i64 h λh i=>Ad i λi j=>Bh i λi=>Bu .i64 j λj k=>Bu .i64 k λk m=>Ad m λm n=>Bh m λm=>Bu .i64 n λn o=>Ad o λo q=>Bh o λo=>Hd 1 q λq s t=>Bu .i64 t λt l=>Bu .u64 l λl v=>Bu .i64 v λv w=>Bq .u64 w λw=>Ag c<|Ad b λb c=>Hd 1 b λb z A=>Bq .i64 A λb=>Ag c<|Pe u F u a e f g h i j k m n o q s t l v w) (Ac (CP p) prog u d):=Κ
theorem LV(u d:Nat)(Z Y:ByteArray)(X:Nat)(W:Ae)(V:Int)(U:Bool)(T S:Int)(Q:Bool)(P:Int)(O:Bool)(N:Nat)(M:Ae)(L K:Int)(J I:Int)(H G E:Int)(D:Nat)(B:Ae)(A:Int)(z:Nat)(w:Ae)(v:Nat)(l:Ae)(A9x:Nat)(Bh9:Ae)(Bhh Bgl:Int)(Bij Bgx:Int)(A6p:Bool)(Amb:Int)(Agh:Nat)(Ab3:Ae)(Ai1:Bool)(Ahk QP:Int)(r:Nat)(a3:Ae)(a4 Ak6:Int)(Aih:ByteArray)(Bbd:Nat)(Bih:Ae)(Ad6:Nat)(Avo:Ae)(WM:Nat)(Amc:Ae)(Al2:Int)(Agk:Nat)(Avc:Ae)(An3:ByteArray):Ac (CP p) prog u (d+1) 16 [.agg [Z,Y,Am 1 X W,V,U,T,S,Q,P,O,Am 1 N M,L,Ah K,J,Ah I],.agg [H,G,E,Am 3 D B,A,Am 1 z w,Am 1 v l],.agg [Am 1 A9x Bh9,Bhh,Ah Bgl,Ah Bij,Bgx,A6p,Ah Amb,Am 2 Agh Ab3,Ai1,Ahk,QP],Am 1 r a3,a4,.agg [Ak6,Aih,Am 1 Bbd Bih,Am 1 Ad6 Avo,Am 1 WM Amc,Al2,Am 1 Agk Avc,An3]]=(λ(F:An)=>(λR:PV=>(λz1:PV=>(λz2:PV=>(λz3:PV=>Cn (F 33 [z2,z3,R,Am 1 r a3,a4,z1]) λa b=>Cr a λa=>Hd 1 a λa c e=>Bu .i64 e λe f=>Bu .u64 f λf g=>Bu .u64 g λg h=>Bu .i64 h λh i=>Ad i λi j=>Bh i λi=>Bu .u64 j λj k=>Hd 2 k λk m n=>Ad n λn o=>Bh n λn=>Bu .i64 o λo q=>Bq .i64 q λq=>Bq .i64 b λb=>Cn (F 34 [z2,z3,R,Am 1 r a3,a4,z1]) λs t=>Cr s λs=>Hd 1 s λs x y=>Bu .i64 y λC x57=>Bu .u64 x57 λx61 x60=>Bu .u64 x60 λx64 x63=>Bu .i64 x63 λx67 x66=>Ad x66 λx68 x69=>Bh x68 λx70=>Bu .u64 x69 λx73 x72=>Hd 2 x72 λx77 x78 x75=>Ad x75 λx79 x80=>Bh x79 λx81=>Bu .i64 x80 λx84 x83=>Bq .i64 x83 λx87=>Bq .i64 t λt=>Ap (b==t) (Cn (F 35 [.agg [Am 1 a c,e,Ah f,Ah g,h,i,Ah j,Am 2 k m,n,o,q],.agg [Am 1 s x,C,Ah x61,Ah x64,x67,x70,Ah x73,Am 2 x77 x78,x81,x84,x87]]) λa b=>Bh a λa=>Ag b<|A9 [a]) (A9 [false])) (.agg [H,G,E,Am 3 D B,A,Am 1 z w,Am 1 v l])) (.agg [Z,Y,Am 1 X W,V,U,T,S,Q,P,O,Am 1 N M,L,Ah K,J,Ah I])) (.agg [Ak6,Aih,Am 1 Bbd Bih,Am 1 Ad6 Avo,Am 1 WM Amc,Al2,Am 1 Agk Avc,An3])) (.agg [Am 1 A9x Bh9,Bhh,Ah Bgl,Ah Bij,Bgx,A6p,Ah Amb,Am 2 Agh Ab3,Ai1,Ahk,QP])) (Ac (CP p) prog u d):=Κ
end
section
variable {I:FuncId->Option (Ae->Option A3)}(u d:Nat)(F:An)
def Q4(Z Y:Nat)(X W:Int)(V:Nat)(U:Bool)(T S:Ae)(Q:Int)(P:ByteArray)(O:Nat)(N:Ae)(M:Nat)(L:Ae)(K:Nat)(J:Ae)(I:Int)(H:Nat)(G:Ae)(E:ByteArray):Option A3:=Hq u F 18 Tryz.f18 [] [.r,.r,.r] Z ⟨lk [(1,.ptr 1 0),(2,.view 2 1 0 Y),(3,.ptr 3 0)],Fb [(1,.st [Ah X,W,.view 157 1 0 V,U]),(157,.ar true T),(2,.ar true S),(3,.st [Q,P,Am 1 O N,Am 1 M L,Am 1 K J,I,Am 1 H G,E])]⟩
def Qr(Z Y:Nat)(X:Int)(W:Ae)(V:Int)(U:ByteArray)(T:Nat)(S:Ae)(Q:Nat)(P:Ae)(O:Nat)(N:Ae)(M:Int)(L:Nat)(K:Ae)(J:ByteArray)(I:Nat)(H:Ae)(G E:Int)(D B:Int)(A:Bool)(z:Int)(w:Nat)(v:Ae)(a:Bool)(t DI:Int):Option A3:=Hq u F 18 Tryz.f18 [] [.r,.r,.r,.r] Z ⟨lk [(2,.view 2 1 0 Y),(3,.ptr 3 0),(4,.ptr 4 0),(5,X)],Fb [(2,.ar true W),(3,.st [V,U,Am 1 T S,Am 1 Q P,Am 1 O N,M,Am 1 L K,J]),(4,.st [Am 1 I H,G,Ah E,Ah D,B,A,Ah z,Am 2 w v,a,t,DI])]⟩
def Qi(Z:Nat)(Y X:Int)(W:Nat)(V:Ae)(U T:Int)(S Q:Int)(P:Bool)(O:Int)(N:Nat)(M:Ae)(L:Bool)(K J:Int)(I:Nat)(H:Ae)(G E:Int)(D B:Int)(A:Bool)(z:Int)(w:Nat)(v:Ae)(a:Bool)(t DI:Int):Option A3:=Hq u F 18 Tryz.f18 [] [.r,.r,.r,.r,.r] Z ⟨lk [(4,.ptr 4 0),(5,Y),(6,.ptr 6 0),(7,X)],Fb [(4,.st [Am 1 W V,U,Ah T,Ah S,Q,P,Ah O,Am 2 N M,L,K,J]),(6,.st [Am 1 I H,G,Ah E,Ah D,B,A,Ah z,Am 2 w v,a,t,DI])]⟩
theorem AR(Y:Nat)(Es:0<Y)(Z:Nat)(H G:Int)(X:Nat)(E:Bool)(V W:Ae)(U:Int)(T:ByteArray)(S:Nat)(Q:Ae)(P:Nat)(O:Ae)(N:Nat)(M:Ae)(L:Int)(K:Nat)(J:Ae)(I:ByteArray):Q4 u F Y Z H G X E V W U T S Q P O N M L K J I=(Cn (F 36 []) λa b=>Cr a λa=>Ad a λa c=>At a λa=>Ad c λc e=>At c λc=>Hd 1 e λe f g=>Bu .i64 g λg h=>Ad h λh i=>Bh h λh=>Bu .i64 i λi j=>Bu .i64 j λj k=>Ad k λk m=>Bh k λk=>Bu .i64 m λm n=>Ad n λn o=>Bh n λn=>Hd 1 o λo p q=>Bu .i64 q λq s=>Bu .u64 s λs t=>Bu .i64 t λt d=>Bq .u64 d λd=>Ag b<|As (decide (0+X*1<=V.length))<|Cn (F 9 [.agg [Ah H,G,Am 1 X (yt (X*1) (V.drop 0)),E],Ah 0]) λb v=>Cr b λb=>Hd 1 b λb w z=>Bu .i64 z λz A=>Bu .u64 A λA B=>Bu .u64 B λB D=>Bu .i64 D λD Bqz=>Ad Bqz λBqm Bne=>Bh Bqm λBqf=>Bu .u64 Bne λBo9 Bnf=>Hd 2 Bnf λBrg Bmp Bpo=>Ad Bpo λBoa Bp2=>Bh Boa λBq4=>Bu .i64 Bp2 λBnn Bo7=>Bq .i64 Bo7 λBpd=>Ag v<|As (decide (0+Z*1<=W.length))<|Cn (F 33 [.agg [a,c,Am 1 e f,g,h,i,j,k,m,n,Am 1 o p,q,Ah s,t,Ah d],.agg [(0:Int),(0:Int),(0:Int),Am 3 0 [],(0:Int),Am 1 0 [],Am 1 0 []],.agg [Am 1 b w,z,Ah A,Ah B,D,Bqf,Ah Bo9,Am 2 Brg Bmp,Bq4,Bnn,Bpd],Am 1 Z (yt (Z*1) (W.drop 0)),(5:Int),.agg [U,T,Am 1 S Q,Am 1 P O,Am 1 N M,L,Am 1 K J,I]]) λa b=>Cr a λa=>Hd 1 a λa c e=>Bu .i64 e λe f=>Bu .u64 f λf g=>Bu .u64 g λg h=>Bu .i64 h λh i=>Ad i λi j=>Bh i λi=>Bu .u64 j λj k=>Hd 2 k λk m n=>Ad n λn o=>Bh n λn=>Bu .i64 o λo p=>Bq .i64 p λp=>Bq .i64 b λb=>Qr u F u Z b W U T S Q P O N M L K J I a c e f g h i j k m n o p):=by cases Y with|zero=>exact absurd Es (wo 0)|succ Y=>kernel_rfl
theorem AF(Z:Nat)(Es:0<Z)(Y:Nat)(I:Int)(X:Ae)(H:Int)(G:ByteArray)(E:Nat)(D:Ae)(B:Nat)(A:Ae)(z:Nat)(w:Ae)(v:Int)(d:Nat)(t:Ae)(l:ByteArray)(W:Nat)(V:Ae)(U T:Int)(S Q:Int)(P:Bool)(O:Int)(N:Nat)(M:Ae)(L:Bool)(K J:Int):Qr u F Z Y I X H G E D B A z w v d t l W V U T S Q P O N M L K J=(Cn (F 36 []) λa b=>Cr a λa=>Ad a λa c=>At a λa=>Ad c λc e=>At c λc=>Hd 1 e λe f g=>Bu .i64 g λg h=>Ad h λh i=>Bh h λh=>Bu .i64 i λi j=>Bu .i64 j λj k=>Ad k λk m=>Bh k λk=>Bu .i64 m λm n=>Ad n λn o=>Bh n λn=>Hd 1 o λo p q=>Bu .i64 q λq s=>Bu .u64 s λs Bqh=>Bu .i64 Bqh λBq5 Boj=>Bq .u64 Boj λBmy=>Ag b<|As (decide (0+Y*1<=X.length))<|Cn (F 33 [.agg [a,c,Am 1 e f,g,h,i,j,k,m,n,Am 1 o p,q,Ah s,Bq5,Ah Bmy],.agg [(0:Int),(0:Int),(0:Int),Am 3 0 [],(0:Int),Am 1 0 [],Am 1 0 []],.agg [Am 1 W V,U,Ah T,Ah S,Q,P,Ah O,Am 2 N M,L,K,J],Am 1 Y (yt (Y*1) (X.drop 0)),(5:Int),.agg [H,G,Am 1 E D,Am 1 B A,Am 1 z w,v,Am 1 d t,l]]) λa b=>Cr a λa=>Hd 1 a λa c e=>Bu .i64 e λe f=>Bu .u64 f λf g=>Bu .u64 g λg h=>Bu .i64 h λh i=>Ad i λi j=>Bh i λi=>Bu .u64 j λj k=>Hd 2 k λk m n=>Ad n λn o=>Bh n λn=>Bu .i64 o λo p=>Bq .i64 p λp=>Bq .i64 b λb=>Qi u F u I b W V U T S Q P O N M L K J a c e f g h i j k m n o p):=by cases Z with|zero=>exact absurd Es (wo 0)|succ Z=>kernel_rfl
theorem BN(Z:Nat)(Es:0<Z)(Y X:Int)(T:Nat)(S:Ae)(Q P:Int)(O N:Int)(M:Bool)(W:Int)(L:Nat)(K:Ae)(J:Bool)(I V:Int)(H:Nat)(G:Ae)(E D:Int)(B A:Int)(z:Bool)(w:Int)(v:Nat)(a:Ae)(U:Bool)(t DI:Int):Qi u F Z Y X T S Q P O N M W L K J I V H G E D B A z w v a U t DI=(Ap (Y==0) (Ap (W==4) (Ap (V==5) (Ap (X==37) (A9 [U]) (A9 [false])) (A9 [false])) (A9 [false])) (A9 [false])):=by cases Z with|zero=>exact absurd Es (wo 0)|succ Z=>kernel_rfl
theorem GZ(u d:Nat):Ac (CP p) prog u (d+1) 18 []=(λ(F:An)=>Cn (F 8 [(1:Int),(2:Int),false]) λa b=>Cr a λa=>Bu .u64 a λa c=>Bu .i64 c λc e=>ZzO 1 e λe f g=>Qa g λg=>Ag b<|Cn (F 6 [(1:Int),(16:Int)]) λb h=>K5 1 b λb i=>Ag h<|As (decide (0+e*1<=f.length))<|As (decide (0+b*1<=i.length))<|Cn (F 11 [.agg [Ah a,c,Am 1 e (yt (e*1) (f.drop 0)),g],Bg ⟨#[101,120,97,109,112,108,101,46,99,111,109]⟩,Bg ⟨#[104,116,116,112,115,58,47,47,101,120,97,109,112,108,101,46,99,111,109]⟩,Am 1 b (yt (b*1) (i.drop 0)),false,(2:Int),(0:Int),Bg ⟨#[117]⟩]) λh j=>Cr h λh=>Bu .i64 h λh k=>Ad k λk m=>At k λk=>Hd 1 m λm n o=>Hd 1 o λo q s=>Hd 1 s λs t l=>Bu .i64 l λl v=>Hd 1 v λv w z=>Ad z λz A=>At z λz=>Ag A<|Ag j<|Q4 u F u b a c e g f i h k m n o q s t l v w z) (Ac (CP p) prog u d):=Κ
end
def eqB(a b:Ak):Bool:=(a.map λn=>n.toNat.toUInt8)==(b.map λn=>n.toNat.toUInt8)
theorem Agy(a b:Ak):(mf (ml (ByteArray.mk (bc (a.map λn=>n.toNat.toUInt8))))==mf (ml (ByteArray.mk (bc (b.map λn=>n.toNat.toUInt8)))))=eqB a b:=by exact id rfl
theorem Ala(a:Ak):eqB a a=true:=by unfold eqB;simp
def NT(b:Ak)(c:Int):Int:=Fk 13 (b++B6 c)
section
variable {u d:Nat}
theorem An1(a b:Ak):Ac C1 prog u (d+1) 51 [.lst false 1 a.length (Af .u8 a),.lst false 1 b.length (Af .u8 b)]=some ⟨[C3 (eqB a b)],[]⟩:=by refine (Adz u d a.length (Af .u8 a) b.length (Af .u8 b)).trans ?_;have La:=Al .u8 a;have Lb:=Al .u8 b;have c:=Hl a;have e:=Hl b;have q:=Agy a b;simp(disch:=omega)only[Aq,Ar,La,Lb,c,e,q]
theorem Bea(b:s.size<=1000000)(Be:1000400<=u):Ac C1 prog u (d+6) 53 [Bg s]=some ⟨[Ah (Fk 9 (Cp s))],[]⟩:=by
 refine (OX u (d+5) s).trans ?_;have a:=XW (I:=xs1) (u:=u) (d:=d) (l:=Cp s) (Vn s) (by rw[Cj];omega) Ω (by rw[Cj];omega) 9
 have L:(Dt s).length=s.size:=by rw[Ia,Al,Cj]
 have t:yt s.size (Dt s)=Af .u8 (Cp s):=by rw[Ia,Gp (by rw[Al,Cj];omega)]
 rw[Cj] at a;simp(disch:=omega)only[Aq,Ar,L,t,Jo,Jp,a]
theorem A3o(b:s.size<=1000000)(Be:1000400<=u):Ac C1 prog u (d+6) 56 [Bg s]=some ⟨[Ah (Fk 11 (Cp s))],[]⟩:=by
 refine (PS u (d+5) s).trans ?_;have a:=XW (I:=xs1) (u:=u) (d:=d) (l:=Cp s) (Vn s) (by rw[Cj];omega) Ω (by rw[Cj];omega) 11
 have L:(Dt s).length=s.size:=by rw[Ia,Al,Cj]
 have t:yt s.size (Dt s)=Af .u8 (Cp s):=by rw[Ia,Gp (by rw[Al,Cj];omega)]
 rw[Cj] at a;simp(disch:=omega)only[Aq,Ar,L,t,Jo,Jp,a]
theorem A0d(b:s.size<=1000000)(Be:1000400<=u):Ac C1 prog u (d+5) 25 [Bg s]=some ⟨[Ah (Fk 9 (Cp s))],[]⟩:=by
 refine (FB u (d+4) s).trans ?_;have a:=IQ (I:=xs1) (u:=u) (d:=d) (l:=Cp s) (Vn s) (by rw[Cj];omega) Ω (by rw[Cj];omega) 9
 have L:(Dt s).length=s.size:=by rw[Ia,Al,Cj]
 have t:yt s.size (Dt s)=Af .u8 (Cp s):=by rw[Ia,Gp (by rw[Al,Cj];omega)]
 rw[Cj] at a;simp(disch:=omega)only[Aq,Ar,L,t,Jo,Jp,a]
theorem Aet(b:s.size<=1000000)(Be:1000400<=u):Ac C1 prog u (d+5) 29 [Bg s]=some ⟨[Ah (Fk 11 (Cp s))],[]⟩:=by
 refine (BO u (d+4) s).trans ?_;have a:=IQ (I:=xs1) (u:=u) (d:=d) (l:=Cp s) (Vn s) (by rw[Cj];omega) Ω (by rw[Cj];omega) 11
 have L:(Dt s).length=s.size:=by rw[Ia,Al,Cj]
 have t:yt s.size (Dt s)=Af .u8 (Cp s):=by rw[Ia,Gp (by rw[Al,Cj];omega)]
 rw[Cj] at a;simp(disch:=omega)only[Aq,Ar,L,t,Jo,Jp,a]
theorem Asb(e:Ch b)(k:b.length<=100000)(Be:1000400<=u)(c:Int):Ac C1 prog u (d+5) 28 [.lst false 1 b.length (Af .u8 b),Ah c]=some ⟨[Ah (NT b c)],[]⟩:=by
 refine (DY u (d+4) b.length (Af .u8 b) c).trans ?_;unfold NT;have f:=A3b (u:=u) (d:=d+3) Ω c;have Lq:(Af .u8 (B6 c)).length=8:=by rw[Al,Cu]
 have g:yt 8 (Af .u8 (B6 c))=Af .u8 (B6 c):=Gp Ω;have L:=Al .u8 b;have t:=NH .u8 b;have h:Af .u8 b++Af .u8 (B6 c)=Af .u8 (b++B6 c):=by rw[Af,Af,Af,kk]
 have Uk:(b++B6 c).length=b.length+8:=by rw[Ru,Cu]
 have a:=IQ (I:=xs1) (u:=u) (d:=d) (l:=b++B6 c) (Ajp e (PU c)) Ω Ω Ω 13;have i:=Al .u8 (b++B6 c);have j:yt (b.length+8) (Af .u8 (b++B6 c))=Af .u8 (b++B6 c):=Gp Ω;rw[Uk] at a;simp(disch:=omega)only[Aq,Ar,f,Jo,I8,Jp,Lq,g,L,t,h,i,j,a]
theorem A32{n:Int}(e:0<=n)(j:n<=1000000):Ac C1 prog u (d+1) 130 [.lst true 1 0 [],Av n]=some ⟨[.own 1 0 []],[]⟩:=by
 refine (OM u d n).trans ?_;have b:=dF (q:=n<0) Ω;have c:wrap .i64 (n-0)=n:=Bc
 by_cases h:n>0
 ·have a:=dT h;have f:=dT e;have g:=dT (q:=wj n*1<=1099511627776) Ω;have i:=dT (q:=n<=1099511627776) Ω;simp only[Aq,Ar,b,c,a,f,g,i]
 ·have a:=dF h;simp only[Aq,Ar,b,c,a]
set_option maxHeartbeats 1000000 in
theorem A7i(E:a.length<=100000)(G:b.length<=100000)(Be:1000<=u):Ac C1 prog u (d+2) 97 [.lst false 1 2 [.lst false 1 a.length (Af .u8 a),.lst false 1 b.length (Af .u8 b)]]=some ⟨[.own 1 (a.length+b.length) (Af .u8 (a++b))],[]⟩:=by
 obtain⟨f,rfl⟩:∃f,u=f+3:=⟨u-3,Ω⟩
 refine (IY (f+3) (d+1) 2 _).trans ?_;have La:=Al .u8 a;have Lb:=Al .u8 b;have m:wrap .i64 (0+(a.length:Int))=((a.length:Nat):Int):=Bc
 have o:wrap .i64 (((a.length:Nat):Int)+(b.length:Int))=((a.length+b.length:Nat):Int):=Bc
 have c:wrap .i64 (0+1)=1:=Δ
 have e:wrap .i64 (1+1)=2:=Δ
 have l0:decide ((0:Int)<((2:Nat):Int))=true:=rfl;have g:decide ((1:Int)<((2:Nat):Int))=true:=rfl;have h:decide ((2:Int)<((2:Nat):Int))=false:=rfl;have i:decide ((0:Int)<=0)=true:=rfl;have j:decide ((0:Int)<=1)=true:=rfl;have k:f9 [PV.lst false 1 a.length (Af .u8 a),PV.lst false 1 b.length (Af .u8 b)] (wj 0*1) PV.top=PV.lst false 1 a.length (Af .u8 a):=rfl;have l:f9 [PV.lst false 1 a.length (Af .u8 a),PV.lst false 1 b.length (Af .u8 b)] (wj 1*1) PV.top=PV.lst false 1 b.length (Af .u8 b):=rfl;have n1:=dF (q:=((a.length:Nat):Int)<0) Ω;have n2:=dF (q:=((a.length+b.length:Nat):Int)<0) Ω;have p:=A32 (u:=f+3) (d:=d) (n:=((a.length+b.length:Nat):Int)) Ω Ω;have c1:decide (0*1<=wy ([]:Ae))=true:=rfl;have c2:decide (wy (Af .u8 a)=a.length*1)=true:=dT Ω
 have r:=dT (q:=a.length*1<=1099511627776) Ω;have s:=dT (q:=a.length<=1099511627776) Ω;have t:yt (0*1) ([]:Ae)=[]:=rfl;have v:([]:Ae)++Af .u8 a=Af .u8 a:=SJ _;have n0:0+a.length=a.length:=I8 _;have w:decide (a.length*1<=wy (Af .u8 a))=true:=dT Ω;have x:decide (wy (Af .u8 b)=b.length*1)=true:=dT Ω;have c7:=dT (q:=(a.length+b.length)*1<=1099511627776) Ω;have y:=dT (q:=a.length+b.length<=1099511627776) Ω;have z:yt (a.length*1) (Af .u8 a)=Af .u8 a:=Gp Ω;have A:Af .u8 a++Af .u8 b=Af .u8 (a++b):=by rw[Af,Af,Af,kk]
 have B:=Al .u8 (a++b);rw[Ru] at B;have C:decide ((a.length+b.length)*1<=wy (Af .u8 (a++b)))=true:=dT Ω;have D:yt ((a.length+b.length)*1) (Af .u8 (a++b))=Af .u8 (a++b):=Gp Ω
 (try dsimp only)
 rw[Jk];simp only[Aq,Ar,l0,i,k,m,n1,c]
 (try dsimp only)
 rw[Jk];simp only[Aq,Ar,g,j,l,o,n2,e]
 (try dsimp only)
 rw[Jk];simp only[Aq,Ar,h,p];rw[Jc];simp only[Aq,Ar,l0,i,k,c1,c2,r,s,t,v,n0,c];rw[Jc];simp only[Aq,Ar,g,j,l,w,x,c7,y,z,A,e];rw[Jc];simp only[Aq,Ar,h,C,D]
theorem A6o(f:Ch b)(g:b.length<=100000)(Be:1000400<=u)(c:Int):Ac C1 prog u (d+6) 55 [.lst false 1 b.length (Af .u8 b),Ah c]=some ⟨[Ah (NT b c)],[]⟩:=by
 refine (MV u (d+5) b.length (Af .u8 b) c).trans ?_;unfold NT;have h:=owd (I:=xs1) (u:=u) (d:=d+4) Ω c;have Lq:(Af .u8 (B6 c)).length=8:=by rw[Al,Cu]
 have c1:decide (0+8*1<=wy (Af .u8 (B6 c)))=true:=dT Ω;have i:yt (8*1) (nb 0 (Af .u8 (B6 c)))=Af .u8 (B6 c):=Gp (by rw[Jo];omega)
 have Uk:(b++B6 c).length=b.length+8:=by rw[Ru,Cu]
 have cc:=A7i (u:=u) (d:=d+3) (a:=b) (b:=B6 c) g (by rw[Cu];omega) Ω
 rw[Cu] at cc;have e:=XW (I:=xs1) (u:=u) (d:=d) (l:=b++B6 c) (Ajp f (PU c)) Ω Ω Ω 13;have k:=Al .u8 (b++B6 c);have c2:decide (0+(b.length+8)*1<=wy (Af .u8 (b++B6 c)))=true:=dT Ω;have j:yt ((b.length+8)*1) (nb 0 (Af .u8 (b++B6 c)))=Af .u8 (b++B6 c):=Gp (by rw[Jo];omega)
 rw[Uk] at e;simp only[Aq,Ar,h,c1,i,cc,c2,j,e]
end
def Uh.owned(a:Uh):Ae:=[Ah a.rp,Av a.fl,Av a.ct,Av a.rg,Ah a.md,.own 1 a.idn a.id,Av a.kh,Ah a.kr]
abbrev ad0:Uh:=⟨0,0,0,0,0,0,[],0,0⟩
def vT(a:Uh):Int:=
 bif C8 .i64 a.fl 64==0 then (bif a.md != 0 then 4 else bif ((a.idn:Nat):Int) != 0 then 4 else bif !(a.kh==0&&(a.kr==0&&true)) then 4 else 0)
 else bif ((a.idn:Nat):Int) != 176 then 4 else if E6 a.kh=true then 9 else 0
def vE(a:Uh):Int:=
 bif DK .i64 a.fl 93 != 0 then 9 else bif decide (a.ct<0) then 9 else bif decide (a.ct>16) then 9 else bif decide (a.rg<0) then 9 else bif decide (a.rg>=16) then 9 else
 bif C8 .i64 a.fl 16 != 0 then (bif C8 .i64 a.fl 8==0 then 18 else vT a) else vT a
theorem A3m(a:Int):(a != 0) = !(a==0):=rfl
section
variable {u d:Nat}
theorem Ajl(a:Uh)(k:Int):Ac C1 prog u (d+1) 89 [.agg a.cells,Av k]=some ⟨[C3 (C8 .i64 a.fl k != 0)],[]⟩:=
 (Abj u d a.rp a.fl a.ct a.rg a.md a.idn a.id a.kh a.kr k).trans (by simp only[Aq,Ar])
set_option maxHeartbeats 1000000 in
theorem At9(Be:1000<=u)(a:Uh):Ac C1 prog u (d+3) 92 [.agg a.cells]=some ⟨[Av (vE a)],[]⟩:=by
 have l:=Ajl (u:=u) (d:=d+1) a 8;have e:=Ajl (u:=u) (d:=d+1) a 16;have f:=Ajl (u:=u) (d:=d+1) a 64;have b:=Aw7 (I:=xs1) (u:=u) (d:=d) Be ⟨a.kh,a.kr⟩;simp only[Ky.cells] at b
 obtain⟨v,w,q⟩:∃n c,Ac C1 prog u (d+2) 128 [.agg [Av a.kh,Ah a.kr]]=some ⟨[.own 1 n c,Av (if E6 a.kh=true then 9 else 0)],[]⟩:=by
  by_cases j:E6 a.kh=true
  ·exact⟨_,_,by rw[Bv j] at b;rw[Bv j];exact b⟩
  ·exact⟨_,_,by rw[Bd j] at b;rw[Bd j];exact b⟩
 simp only[Uh.cells] at l e f;refine (KX u (d+2) a.rp a.fl a.ct a.rg a.md a.idn a.id a.kh a.kr).trans ?_;unfold vE;cases g:DK .i64 a.fl 93 != 0
 rotate_left
 ·simp only[Aq,Ar,g,cond_true]
 cases h:decide (a.ct<0)
 rotate_left
 ·simp only[Aq,Ar,g,h,cond_true,cond_false]
 cases i:decide (a.ct>16)
 rotate_left
 ·simp only[Aq,Ar,g,h,i,cond_true,cond_false]
 cases k:decide (a.rg<0)
 rotate_left
 ·simp only[Aq,Ar,g,h,i,k,cond_true,cond_false]
 cases m:decide (a.rg>=16)
 rotate_left
 ·simp only[Aq,Ar,g,h,i,k,m,cond_true,cond_false]
 simp only[Aq,Ar,g,h,i,k,m,cond_true,cond_false];clear g h i k m;rw[CW (Es:=Ω)];unfold vT;simp only[A3m] at l e f ⊢;cases o:C8 .i64 a.fl 16==0<;>cases b8:C8 .i64 a.fl 8==0<;>cases p:C8 .i64 a.fl 64==0<;>simp only[Aq,Ar,l,e,f,b8,o,p,cond_true,cond_false]
 all_goals first
  |(cases r:a.md==0<;>cases s:((a.idn:Nat):Int)==0<;>cases t:(a.kh==0&&a.kr==0)<;>simp only[Aq,Ar,r,s,t,cond_true,cond_false]<;>done)
  |(cases bl:((a.idn:Nat):Int) != 176<;>simp only[Aq,Ar,bl,q,cond_true,cond_false])
theorem WC(n lo hi:Int):Ac C1 prog u (d+1) 75 [Av n,Av lo,Av hi]=some ⟨[C3 (decide (lo<=n)&&decide (n<=hi))],[]⟩:=by
 refine (FR u d n lo hi).trans ?_;by_cases h:lo<=n
 ·simp(disch:=omega)only[Aq,Ar,h,decide_true,Zzm]
 ·simp(disch:=omega)only[Aq,Ar,h,decide_false,SK]
set_option maxHeartbeats 1000000 in
theorem UV(Be:1000<=u)(a:Uh):Ac C1 prog u (d+3) 43 [.agg a.cells]=some ⟨[Av (vE a)],[]⟩:=by
 have b:=WC (u:=u) (d:=d+1) a.ct 0 16;have f:=WC (u:=u) (d:=d+1) a.rg 0 15;have e:=YX (u:=u) (d:=d) Be ⟨a.kh,a.kr⟩;simp only[Ky.cells] at e
 obtain⟨x,y,p⟩:∃n c,Ac C1 prog u (d+2) 44 [.agg [Av a.kh,Ah a.kr]]=some ⟨[.own 1 n c,Av (if E6 a.kh=true then 9 else 0)],[]⟩:=by
  by_cases h:E6 a.kh=true
  ·exact⟨_,_,by rw[Bv h] at e;rw[Bv h];exact e⟩
  ·exact⟨_,_,by rw[Bd h] at e;rw[Bd h];exact e⟩
 refine (Ve u (d+2) a.rp a.fl a.ct a.rg a.md a.idn a.id a.kh a.kr).trans ?_;unfold vE;cases g:DK .i64 a.fl 93 != 0
 rotate_left
 ·simp only[Aq,Ar,g,cond_true]
 have q:(decide ((0:Int)<=a.ct)&&decide (a.ct<=16))=(!decide (a.ct<0) && !decide (a.ct>16)):=by rw[fk];simp<;>omega
 have r:(decide ((0:Int)<=a.rg)&&decide (a.rg<=15))=(!decide (a.rg<0) && !decide (a.rg>=16)):=by rw[fk];simp<;>omega
 rw[q] at b;rw[r] at f;cases i:decide (a.ct<0)
 rotate_left
 ·rw[i] at b;simp only[Gc,SK] at b;simp only[Aq,Ar,g,b,cond_true,cond_false]
 cases m:decide (a.ct>16)
 rotate_left
 ·rw[i,m] at b;simp only[Gc,Ix,Zzt] at b;simp only[Aq,Ar,g,b,cond_true,cond_false]
 rw[i,m] at b;simp only[Ix,Zzn] at b;cases j:decide (a.rg<0)
 rotate_left
 ·rw[j] at f;simp only[Gc,SK] at f;simp only[Aq,Ar,g,b,f,cond_true,cond_false]
 cases o:decide (a.rg>=16)
 rotate_left
 ·rw[j,o] at f;simp only[Gc,Ix,Zzt] at f;simp only[Aq,Ar,g,b,f,cond_true,cond_false]
 rw[j,o] at f;simp only[Ix,Zzn] at f;unfold vT;have s:decide (((a.idn:Nat):Int)>0) = !(((a.idn:Nat):Int)==0):=by rw[fk];simp<;>omega
 rw[A3m] at g;simp only[Aq,Ar,A3m,g,b,f,s,cond_true,cond_false];cases k:C8 .i64 a.fl 16==0<;>cases b8:C8 .i64 a.fl 8==0<;>cases l:C8 .i64 a.fl 64==0<;>simp only[Aq,Ar,b8,k,l,cond_true,cond_false]
 all_goals first
  |(cases t:a.md==0<;>cases v:((a.idn:Nat):Int)==0<;>cases w:(a.kh==0&&a.kr==0)<;>simp only[Aq,Ar,t,v,w,cond_true,cond_false]<;>done)
  |(cases bl:((a.idn:Nat):Int) != 176<;>simp only[Aq,Ar,bl,p,cond_true,cond_false])
end
def adN(b:Ak):Uh:=⟨Ado (b.take 8),b.getD 8 0,b.getD 9 0,b.getD 10 0,0,0,[],0,0⟩
def adK(b:Ak)(k:Ky):Uh:=⟨Ado (b.take 8),b.getD 8 0,b.getD 9 0,b.getD 10 0,Ado ((b.drop 11).take 8),176,Af .u8 ((b.drop 19).take 176),k.h,k.root⟩
def AO(b:Ak):Option Uh:=
 if b.length=11 then (if C8 .i64 (b.getD 8 0) 64=0 then (if vE (adN b)=0 then some (adN b) else none) else none)
 else if b.length=204 then (if C8 .i64 (b.getD 8 0) 64=0 then none else match Adv (b.drop 195) with|some k=>if vE (adK b k)=0 then some (adK b k) else none|none=>none)
 else none
theorem Asq(h:b.length=11)(a:C8 .i64 (b.getD 8 0) 64=0):AO b=if vE (adN b)=0 then some (adN b) else none:=by unfold AO;rw[Bv h,Bv a]
theorem Aab(c:C8 .i64 (b.getD 8 0) 64≠0):AO b=if b.length=204 then (match Adv (b.drop 195) with|some k=>if vE (adK b k)=0 then some (adK b k) else none|none=>none) else none:=by
 unfold AO;by_cases h:b.length=11
 ·rw[Bv h,Bd c,Bd Ω]
 ·rw[Bd h];by_cases a:b.length=204
  ·rw[Bv a,Bv a,Bd c]
  ·rw[Bd a,Bd a]
theorem Az0(h:b.length≠11)(c:C8 .i64 (b.getD 8 0) 64=0):AO b=none:=by
 unfold AO;rw[Bd h];by_cases a:b.length=204
 ·rw[Bv a,Bv c]
 ·rw[Bd a]
theorem Akj(h:b.length≠11)(a:b.length≠204):AO b=none:=by unfold AO;rw[Bd h,Bd a]
def A3p(o:Option Uh):Ae:=match o with|some a=>[.agg a.owned,Av 0]|none=>[.agg ad0.owned,Av 2]
def Apa(o:Option Uh):Ae:=match o with|some a=>[.agg a.cells,Av 0]|none=>[.agg ad0.cells,Av 2]
section
variable {u d:Nat}
theorem Ax5{c:Ae}{l:Ak}(p:l.length<=1000):∀(r:Ak)(j nn:Nat)(x:Int),l.drop j=r->r.length<nn->j<=l.length ->
  Mg u F n c nn x l.length (Af .u8 l) (l.length:Int) (j:Int)=some ⟨[Ah (r.foldl M3 x)],[]⟩:=by
 intro r
 induction r with
 |nil=>
  intro j nn x hd b d;obtain⟨m,rfl⟩:∃m,nn=m+1:=⟨nn-1,Ω⟩
  have:=drop_nil hd;rw[Vo,Fn _ _ _ Ω];rfl
 |cons y r f=>
  intro j nn x hd b d;obtain⟨m,rfl⟩:∃m,nn=m+1:=⟨nn-1,Ω⟩
  obtain⟨Ct,h,a⟩:=Cb hd;have g:=Tm (k:=.u8) h;have i:wj (j:Int)=j:=Hy _;have o:wrap .i64 ((j:Int)+1)=((j+1:Nat):Int):=Bc
  have e:=f (j+1) m (M3 x y) a (by simp at b;omega) Ω
  rw[Vo];simp(disch:=omega)only[Aq,Ar,i,Jp,g,o];exact e
theorem Ale(Be:1000<=u){l:Ak}(a:l.length=8):Ac C1 prog u (d+1) 88 [.lst false 1 8 (Af .u8 l)]=some ⟨[Ah (Ado l)],[]⟩:=by refine (XU u d 8 (Af .u8 l)).trans ?_;have e:=Ax5 (u:=u) (F:=Ac C1 prog u d) (n:=8) (c:=Af .u8 l) (l:=l) Ω l 0 u 0 rfl Ω Ω;rw[a] at e;exact e
theorem Azi{l:Ak}(h:l.length≠9):Adv l=none:=by unfold Adv;rw[Bd (λq=>h q.1)]
theorem DW(a:Ch b)(i:Nat):0<=b.getD i 0/\b.getD i 0<=255:=by
 rw[zj];cases h:b[i]? with
 |none=>exact⟨Ψ,Ψ⟩
 |some y=>exact a y (zn h)
theorem CJ(h:i<b.length):(Af .u8 b).getD i .top=.sc (.int .u8 (b.getD i 0)):=by have g:b[i]?=some b[i]:=zd h;have e:=Tm (k:=.u8) g;rw[e,zj,g];rfl
set_option maxHeartbeats 2000000 in
theorem A9p(Be:1000<=u)(D:Ch b)(X:b.length<=100000):Ac C1 prog u (d+4) 52 [.lst false 1 b.length (Af .u8 b)]=some ⟨A3p (AO b),[]⟩:=by
 refine (RI u (d+3) b.length (Af .u8 b)).trans ?_;by_cases R:b.length<11
 ·have o:=dT (q:=((b.length:Nat):Int)<11) Ω;rw[Akj Ω Ω];simp only[Aq,Ar,o];rfl
 have o:=dF (q:=((b.length:Nat):Int)<11) Ω;have c1:=dT (q:=8<=b.length) Ω;have c2:=dT (q:=(8:Int)<((b.length:Nat):Int)) Ω;have s:=dT (q:=(9:Int)<((b.length:Nat):Int)) Ω;have t:=dT (q:=(10:Int)<((b.length:Nat):Int)) Ω;have v:yt 8 (nb 0 (Af .u8 b))=Af .u8 (b.take 8):=by rw[Jo,Fz]
 have w:=Ale (u:=u) (d:=d+2) Be (l:=b.take 8) (by rw[x7];omega)
 have x:=CJ (b:=b) (i:=8) Ω;have y:=CJ (b:=b) (i:=9) Ω;have a:=CJ (b:=b) (i:=10) Ω;have u8:wrap .i64 (b.getD 8 0)=b.getD 8 0:=by have:=DW D 8;exact Ba
 have A:wrap .i64 (b.getD 9 0)=b.getD 9 0:=by have:=DW D 9;exact Ba
 have f:wrap .i64 (b.getD 10 0)=b.getD 10 0:=by have:=DW D 10;exact Ba
 have j:=Ajl (u:=u) (d:=d+2) (adN b) 64;simp only[Uh.cells,adN] at j;cases E:C8 .i64 (b.getD 8 0) 64 != 0 with
 |false=>
  rw[E] at j;have g:C8 .i64 (b.getD 8 0) 64=0:=by simpa using E
  by_cases S:11<b.length
  ·have m:=dT (q:=((b.length:Nat):Int)>11) Ω;rw[Az0 Ω g];simp only[Aq,Ar,o,c1,c2,s,t,v,w,x,y,a,u8,A,f,j,m];rfl
  have m:=dF (q:=((b.length:Nat):Int)>11) Ω;have h:=At9 (u:=u) (d:=d) Be (adN b);rw[Asq Ω g];by_cases p:vE (adN b)=0
  ·rw[Bv p];rw[p] at h;simp only[Uh.cells,adN] at h;have z:((0:Int) != 0)=false:=rfl;simp only[Aq,Ar,o,c1,c2,s,t,v,w,x,y,a,u8,A,f,j,m,h,z];rfl
  ·rw[Bd p];have z:(vE (adN b) != 0)=true:=by simpa using p
   generalize vE (adN b)=T at h z;simp only[Uh.cells,adN] at h;simp only[Aq,Ar,o,c1,c2,s,t,v,w,x,y,a,u8,A,f,j,m,h,z];rfl
 |true=>
  rw[E] at j;have g:C8 .i64 (b.getD 8 0) 64≠0:=by simpa using E
  by_cases Bw0:b.length<195
  ·have m:=dT (q:=((b.length:Nat):Int)<195) Ω;rw[Aab g,Bd Ω];simp only[Aq,Ar,o,c1,c2,s,t,v,w,x,y,a,u8,A,f,j,m];rfl
  have m:=dF (q:=((b.length:Nat):Int)<195) Ω;have G:=dT (q:=195<=b.length) Ω;have H:=dT (q:=b.length<=b.length) (Cz _)
  have J:yt ((b.length-195)*1) (nb 195 (Af .u8 b))=Af .u8 (b.drop 195):=by
   rw[G5];exact Gp (by rw[Al,yr];omega)
  have r:=Axc (I:=xs1) (u:=u) (d:=d+1) Be (l:=b.drop 195) (D.drop 195);rw[yr] at r;cases B:Adv (b.drop 195) with
  |none=>
   rw[B] at r;simp only[UY,Ky.cells] at r
   have e:AO b=none:=by
    rw[Aab g,B];split<;>rfl
   have z:((2:Int) != 0)=true:=rfl;rw[e];simp only[Aq,Ar,o,c1,c2,s,t,v,w,x,y,a,u8,A,f,j,m,G,H,J,r,z];rfl
  |some k=>
   rw[B] at r;simp only[UY,Ky.cells] at r
   have A7v:b.length=204:=by
    rcases Nat.decEq (b.drop 195).length 9 with q|q
    ·rw[Azi q] at B;cases B
    ·rw[yr] at q;omega
   have K:((0:Int) != 0)=false:=rfl;have L:=dT (q:=19<=b.length) Ω;have M:yt 8 (nb 11 (Af .u8 b))=Af .u8 ((b.drop 11).take 8):=by rw[G5,Fz]
   have C:=Ale (u:=u) (d:=d+2) Be (l:=(b.drop 11).take 8) (by rw[x7,yr];omega)
   have N:yt 176 (nb 19 (Af .u8 b))=Af .u8 ((b.drop 19).take 176):=by rw[G5,Fz]
   have U:(Af .u8 ((b.drop 19).take 176)).length=176:=by rw[Al,x7,yr];omega
   have O:=Af2 (I:=xs1) (u:=u) (d:=d+2) (n:=176) (c:=Af .u8 ((b.drop 19).take 176)) U Ω;have P:decide (0+176*1<=wy (Af .u8 ((b.drop 19).take 176)))=true:=dT Ω;have Q:yt (176*1) (nb 0 (Af .u8 ((b.drop 19).take 176)))=Af .u8 ((b.drop 19).take 176):=Gp (by rw[Jo];omega)
   have V:decide (176*1<=wy (Af .u8 ((b.drop 19).take 176)))=true:=dT Ω;have W:yt (176*1) (Af .u8 ((b.drop 19).take 176))=Af .u8 ((b.drop 19).take 176):=Gp Ω;have h:=At9 (u:=u) (d:=d) Be (adK b k);rw[Aab g,Bv A7v,B];by_cases p:vE (adK b k)=0
   ·simp only[p,if_true];rw[p] at h;simp only[Uh.cells,adK] at h;simp only[Aq,Ar,o,c1,c2,s,t,v,w,x,y,a,u8,A,f,j,m,G,H,J,r,K,L,M,C,N,O,P,Q,h,V,W];rfl
   ·simp only[p,if_false];have z:(vE (adK b k) != 0)=true:=by simpa using p
    generalize vE (adK b k)=T at h z;simp only[Uh.cells,adK] at h;simp only[Aq,Ar,o,c1,c2,s,t,v,w,x,y,a,u8,A,f,j,m,G,H,J,r,K,L,M,C,N,O,P,Q,h,z];rfl
set_option maxHeartbeats 2000000 in
theorem A9r(Be:1000<=u)(y:Ch b)(T:b.length<=100000):Ac C1 prog u (d+4) 63 [.lst false 1 b.length (Af .u8 b)]=some ⟨Apa (AO b),[]⟩:=by
 refine (X8 u (d+3) b.length (Af .u8 b)).trans ?_;by_cases A:b.length=11
 rotate_left
 ·have h:(((b.length:Nat):Int) != 11)=true:=by simp;omega
  by_cases A7v:b.length=204
  rotate_left
  ·have D:(((b.length:Nat):Int) != 204)=true:=by simp;omega
   rw[Akj A A7v];simp only[Aq,Ar,h,D];rfl
  have D:(((b.length:Nat):Int) != 204)=false:=by simp;omega
  have c1:=dT (q:=8<=b.length) Ω;have c2:=dT (q:=(8:Int)<((b.length:Nat):Int)) Ω;have o:=dT (q:=(9:Int)<((b.length:Nat):Int)) Ω;have p:=dT (q:=(10:Int)<((b.length:Nat):Int)) Ω;have r:yt 8 (nb 0 (Af .u8 b))=Af .u8 (b.take 8):=by rw[Jo,Fz]
  have s:=GQ (u:=u) (d:=d+2) Be (l:=b.take 8) (by rw[x7];omega)
  have t:=CJ (b:=b) (i:=8) Ω;have v:=CJ (b:=b) (i:=9) Ω;have a:=CJ (b:=b) (i:=10) Ω;have u8:wrap .i64 (b.getD 8 0)=b.getD 8 0:=by have:=DW y 8;exact Ba
  have w:wrap .i64 (b.getD 9 0)=b.getD 9 0:=by have:=DW y 9;exact Ba
  have c:wrap .i64 (b.getD 10 0)=b.getD 10 0:=by have:=DW y 10;exact Ba
  have x:=dT (q:=((b.length:Nat):Int)>11) Ω;have G:=dT (q:=195<=b.length) Ω;have H:=dT (q:=b.length<=b.length) (Cz _)
  have J:yt ((b.length-195)*1) (nb 195 (Af .u8 b))=Af .u8 (b.drop 195):=by
   rw[G5];exact Gp (by rw[Al,yr];omega)
  have j:=Ars (u:=u) (d:=d+1) Be (l:=b.drop 195) (y.drop 195);rw[yr] at j;unfold AO;rw[Bd A,Bv A7v];cases Q:Adv (b.drop 195) with
  |none=>
   rw[Q] at j;simp only[UY,Ky.cells] at j;have z:((2:Int) != 0)=true:=rfl;have e:(if C8 .i64 (b.getD 8 0) 64=0 then (none:Option Uh) else match (none:Option Ky) with|some k=>if vE (adK b k)=0 then some (adK b k) else none|none=>none)=none:=by split<;>rfl
   rw[e];simp only[Aq,Ar,h,D,c1,c2,o,p,r,s,t,v,a,u8,w,c,x,G,H,J,j,z];rfl
  |some k=>
   rw[Q] at j;simp only[UY,Ky.cells] at j;have E:((0:Int) != 0)=false:=rfl;have K:=dT (q:=19<=b.length) Ω;have L:yt 8 (nb 11 (Af .u8 b))=Af .u8 ((b.drop 11).take 8):=by rw[G5,Fz]
   have B:=GQ (u:=u) (d:=d+2) Be (l:=(b.drop 11).take 8) (by rw[x7,yr];omega)
   have M:yt 176 (nb 19 (Af .u8 b))=Af .u8 ((b.drop 19).take 176):=by rw[G5,Fz]
   have R:(Af .u8 ((b.drop 19).take 176)).length=176:=by rw[Al,x7,yr];omega
   have N:decide (wy (Af .u8 ((b.drop 19).take 176))=176)=true:=dT R;have O:decide (176<=wy (Af .u8 ((b.drop 19).take 176)))=true:=dT Ω;have P:yt 176 (nb 0 (Af .u8 ((b.drop 19).take 176)))=Af .u8 ((b.drop 19).take 176):=Gp (by rw[Jo];omega)
   have f:=UV (u:=u) (d:=d) Be (adK b k);by_cases m:vE (adK b k)=0
   ·rw[m] at f;simp only[Uh.cells,adK] at f;cases n:C8 .i64 (b.getD 8 0) 64 != 0 with
    |true=>
     have g:C8 .i64 (b.getD 8 0) 64≠0:=by simpa using n
     have C:(!true==true)=false:=rfl;rw[Bd g];simp only[m,if_true];simp only[Aq,Ar,h,D,c1,c2,o,p,r,s,t,v,a,u8,w,c,x,G,H,J,j,E,K,L,B,M,N,O,P,f,n,C];rfl
    |false=>
     have g:C8 .i64 (b.getD 8 0) 64=0:=by simpa using n
     have C:(!true==false)=true:=rfl;rw[Bv g];simp only[Aq,Ar,h,D,c1,c2,o,p,r,s,t,v,a,u8,w,c,x,G,H,J,j,E,K,L,B,M,N,O,P,f,n,C];rfl
   ·have z:(vE (adK b k) != 0)=true:=by simpa using m
    have e:(if C8 .i64 (b.getD 8 0) 64=0 then (none:Option Uh) else match some k with|some k=>if vE (adK b k)=0 then some (adK b k) else none|none=>none)=none:=by
     split
     ·rfl
     ·simp only[m,if_false]
    rw[e];generalize vE (adK b k)=S at f z;simp only[Uh.cells,adK] at f;simp only[Aq,Ar,h,D,c1,c2,o,p,r,s,t,v,a,u8,w,c,x,G,H,J,j,E,K,L,B,M,N,O,P,f,z];rfl
 have h:(((b.length:Nat):Int) != 11)=false:=by simp;omega
 have c1:=dT (q:=8<=b.length) Ω;have c2:=dT (q:=(8:Int)<((b.length:Nat):Int)) Ω;have o:=dT (q:=(9:Int)<((b.length:Nat):Int)) Ω;have p:=dT (q:=(10:Int)<((b.length:Nat):Int)) Ω;have r:yt 8 (nb 0 (Af .u8 b))=Af .u8 (b.take 8):=by rw[Jo,Fz]
 have s:=GQ (u:=u) (d:=d+2) Be (l:=b.take 8) (by rw[x7];omega)
 have t:=CJ (b:=b) (i:=8) Ω;have v:=CJ (b:=b) (i:=9) Ω;have a:=CJ (b:=b) (i:=10) Ω;have u8:wrap .i64 (b.getD 8 0)=b.getD 8 0:=by have:=DW y 8;exact Ba
 have w:wrap .i64 (b.getD 9 0)=b.getD 9 0:=by have:=DW y 9;exact Ba
 have c:wrap .i64 (b.getD 10 0)=b.getD 10 0:=by have:=DW y 10;exact Ba
 have x:=dF (q:=((b.length:Nat):Int)>11) Ω;have f:=UV (u:=u) (d:=d) Be (adN b);have E:((0:Int) != 0)=false:=rfl;unfold AO;rw[Bv A];by_cases m:vE (adN b)=0
 ·rw[m] at f;simp only[Uh.cells,adN] at f;cases n:C8 .i64 (b.getD 8 0) 64 != 0 with
  |true=>
   have g:C8 .i64 (b.getD 8 0) 64≠0:=by simpa using n
   have C:(!false==true)=true:=rfl;rw[Bd g];simp only[Aq,Ar,h,c1,c2,o,p,r,s,t,v,a,u8,w,c,x,f,E,n,C];rfl
  |false=>
   have g:C8 .i64 (b.getD 8 0) 64=0:=by simpa using n
   have C:(!false==false)=false:=rfl;rw[Bv g,Bv m];simp only[Aq,Ar,h,c1,c2,o,p,r,s,t,v,a,u8,w,c,x,f,E,n,C];rfl
 ·have z:(vE (adN b) != 0)=true:=by simpa using m
  have e:(if C8 .i64 (b.getD 8 0) 64=0 then (if vE (adN b)=0 then some (adN b) else none) else none)=(none:Option Uh):=by
   rw[Bd m];split<;>rfl
  rw[e];generalize vE (adN b)=S at f z;simp only[Uh.cells,adN] at f;simp only[Aq,Ar,h,c1,c2,o,p,r,s,t,v,a,u8,w,c,x,f,z];rfl
end
structure Cf where
 rp:ByteArray
 ti:ByteArray
 os:List ByteArray
 p:UK
 sec:Int
 kh:Int
 kr:Int
variable{c:Cf}
def CZ(l:List ByteArray):Ae:=l.flatMap λs=>[Bg s]
theorem A0x{l:List ByteArray}(h:l[i]?=some s):(CZ l).getD (i*1) .top=Bg s:=Vr (k:=1) (λ_=>rfl) h (j:=0) Ω
def Cf.cells(c:Cf):Ae:=[Bg (c.rp),Bg (c.ti),.lst false 1 c.os.length (CZ c.os),Av c.p.vf,C3 (c.p.rs),Av c.p.ht,Av c.p.pr,C3 (c.p.sh),Av c.p.fm,C3 (c.p.od),.lst false 1 c.p.dn.length (Af .u64 c.p.dn),Av c.p.op,Ah c.sec,Av c.kh,Ah c.kr]
structure Cf.ok(c:Cf):Prop where
 rp:c.rp.size<=100000
 os:c.os.length<=1000
 dn:c.p.dn.length<=1000
structure Rq where
 kind:Int
 cd:ByteArray
 ad:Ak
 sg:Ak
 cn:Nat
 cc:Ae
 fm:Int
 id:Ak
 us:ByteArray
variable{r:Rq}
def Rq.cells(r:Rq):Ae:=[Av r.kind,Bg (r.cd),.lst false 1 r.ad.length (Af .u8 r.ad),.lst false 1 r.sg.length (Af .u8 r.sg),.lst false 1 r.cn r.cc,Av r.fm,.lst false 1 r.id.length (Af .u8 r.id),Bg (r.us)]
structure Rq.ok(r:Rq):Prop where
 cd:r.cd.size<=100000
 adB:Ch r.ad
 ad:r.ad.length<=90000
 sgB:Ch r.sg
structure Mn where
 k:Int
 na:Nat
 an:Ae
 st:List (Int × Int)
def Mn.cells(e:Mn):Ae:=[Ah e.k,.lst false 3 e.na e.an,.lst false 2 e.st.length (Gv e.st)]
def mnC(l:List Mn):Ae:=l.flatMap Mn.cells
structure Mt where
 v:Int
 i:Int
 x:Int
 es:List Mn
 lf:Int
 n1:Nat
 c1:Ae
 n2:Nat
 c2:Ae
variable{m:Mt}
def Mt.cells(m:Mt):Ae:=[Av m.v,Av m.i,Av m.x,.lst false 3 m.es.length (mnC m.es),Av m.lf,.lst false 1 m.n1 m.c1,.lst false 1 m.n2 m.c2]
structure Mt.ok(m:Mt):Prop where
 n:m.es.length<=1000
 e:∀e∈m.es,e.an.length=e.na*3/\e.na<=1000/\e.st.length<=1000
def stS(m:Mt)(model now:Int):Int:=Zv now (match m.es.find? λe=>e.k==model with|some e=>e.st|none=>[])
theorem A8l(l:List Mn):(mnC l).length=l.length*3:=TZ (f:=Mn.cells) (k:=3) (λ_=>rfl) l
theorem Az7{l:List Mn}{e:Mn}(h:l[i]?=some e){j:Nat}(a:j<3):(mnC l).getD (i*3+j) .top=e.cells.getD j .top:=Vr (f:=Mn.cells) (k:=3) (λ_=>rfl) h a
def mnE(e:Mn):En:=⟨e.k,e.na,e.an,e.st.length,Gv e.st⟩
theorem Afl:∀{l:List Mn},(∀e∈l,e.an.length=e.na*3/\e.na<=1000/\e.st.length<=1000)->DR (mnC l)=some (l.map mnE)
 |[],_=>rfl
 |x::l,h=>by
  have a:=h x Ψ;have c:=Afl (l:=l) λy d=>h y (by simp[d])
  have b:(Nat.beq x.an.length (x.na*3)&&Nat.beq (Gv x.st).length (x.st.length*2)&&jg x.na 1000&&jg x.st.length 1000)=true:=by
   rw[He,a.1];simp only[Uz,Zzm,Gh];exact⟨gl a.2.1,gl a.2.2⟩
  show DR (Ah x.k :: .lst false 3 x.na x.an :: .lst false 2 x.st.length (Gv x.st)::mnC l)=_;rw[DR,b,cond_true,c];rfl
theorem ZC:∀(l:List (Int × Int)),U9 (Gv l)=some l
 |[]=>rfl
 |s::l=>by
  show U9 (Av s.1 :: Av s.2::Gv l)=_;rw[U9,ZC l];rfl
theorem Asd(model:Int):∀(l:List Mn),Aw4 model (l.map mnE)=match l.find? λe=>e.k==model with|some e=>Gv e.st|none=>[]
 |[]=>rfl
 |x::l=>by
  have a:=Asd model l;unfold Aw4 at a ⊢;by_cases h:x.k=model
  ·rw[ER,fw (by simpa [mnE] using h),fw (by simpa using h)];rfl
  ·rw[ER,fx (by simpa [mnE] using h),fx (by simpa using h)];exact a
def stF(now:Int)(k:Int)(l:List (Int × Int)):Int:=l.foldl (λk p=>if p.2<=now then p.1 else k) k
theorem A3z(now:Int)(l:List (Int × Int)):stF now 0 l=Zv now l:=by
 obtain⟨r,rfl⟩:∃r,l=r.reverse:=⟨l.reverse,Ψ⟩
 unfold Zv;rw[List.reverse_reverse]
 induction r with
 |nil=>rfl
 |cons p r a=>
  unfold stF at a ⊢;rw[List.reverse_cons,List.foldl_append,a];by_cases h:p.2<=now
  ·rw[fw (by simpa using h)];simp only[zu,uf,h,if_true]
  ·rw[fx (by simpa using h)];simp only[zu,uf,h,if_false]
def inO(os:List ByteArray)(s:ByteArray):Bool:=os.any λo=>mf s.data==mf o.data
def Adj(os:List ByteArray)(k:Int)(ch:Ak)(r:Rq):Int:=
 bif r.kind != k then 3 else match L4 r.cd with
 |.error e=>bif e != 0 then e else 3
 |.ok (j,b,o,x,q)=>bif j != k then 3 else bif !eqB b ch then 35 else bif !inO os (Ab o) then 34 else bif x then (bif !inO os (Ab q) then 34 else 0) else 0
section
variable {u d:Nat}
theorem Av4(u d:Nat)(args:Ae):Ac C1 prog u (d+1) 59 args=As9 args:=Κ
theorem A2w(a:m.ok)(model now:Int):Ac C1 prog u (d+1) 59 [.agg m.cells,Ah model,Av now]=some ⟨[Av (stS m model now)],[]⟩:=by
 rw[Av4]
 have b:(Nat.beq (mnC m.es).length (m.es.length*3)&&jg m.es.length 1000)=true:=by
  rw[A8l];simp only[Uz,Zzm];exact gl a.n
 show (bif (Nat.beq (mnC m.es).length (m.es.length*3)&&jg m.es.length 1000) then _ else none)=_;rw[b,cond_true,Afl a.e];simp only;rw[Asd];unfold stS;cases m.es.find? λe=>e.k==model with
 |none=>rfl
 |some e=>
  simp only;rw[ZC]
theorem Arq{z0 z1 z2 z4:Int}{z3n z5n z6n:Nat}{z3 z5 z6:Ae}{a1 model:Int}{y y3 y4 y7 y12:Int}{y8 d g h:Nat}{y9 k l n:Ae}{es:List Mn}(B:es.length<=1000):∀(r:List Mn)(i nn:Nat),es.drop i=r->r.length<nn->i<=es.length ->
  Hf u F z0 z1 z2 z3n z3 z4 z5n z5 z6n z6 a1 nn model (i:Int) y y3 y4 es.length (mnC es) y7 y8 y9 d k y12 g h l n=some ⟨(match r.find? λe=>e.k==model with|some e=>[.agg e.cells,C3 true]|none=>[.agg [Ah 0,.lst false 3 0 [],.lst false 2 0 []],C3 false]),[]⟩:=by
 intro r
 induction r with
 |nil=>
  intro i nn hd v hi;obtain⟨m,rfl⟩:∃m,nn=m+1:=⟨nn-1,Ω⟩
  have:=drop_nil hd;rw[Nl,Fn _ _ _ Ω];rfl
 |cons e r z=>
  intro i nn hd v hi;obtain⟨m,rfl⟩:∃m,nn=m+1:=⟨nn-1,Ω⟩
  obtain⟨Ct,a,o⟩:=Cb hd;have b:=Az7 a (j:=0) Ω;have p:=Az7 a (j:=1) Ω;have s:=Az7 a (j:=2) Ω;have w:wj (i:Int)=i:=Hy _;have A:wrap .i64 ((i:Int)+1)=((i+1:Nat):Int):=Bc
  have k1:=dT (q:=(i:Int)<((es.length:Nat):Int)) Ω;have x:=dT (q:=(0:Int)<=(i:Int)) Ω;have t:(mnC es).getD (i*3) .top=Ah e.k:=b;have b:(mnC es).getD (i*3+0) .top=Ah e.k:=b;have p:(mnC es).getD (i*3+1) .top=.lst false 3 e.na e.an:=p;have s:(mnC es).getD (i*3+1+1) .top=.lst false 2 e.st.length (Gv e.st):=s;rw[Nl];cases c:e.k==model with
  |true=>
   have f:(e::r).find? (λe=>e.k==model)=some e:=fw (by rw[c]);rw[f];simp only[Aq,Ar,k1,x,w,b,t,p,s,c];rfl
  |false=>
   have f:(e::r).find? (λe=>e.k==model)=r.find? (λe=>e.k==model):=fx (by rw[c];simp)
   have q:=z (i+1) m o (by simp at v;omega) Ω
   rw[f];simp only[Aq,Ar,k1,x,w,b,c,A];exact q
theorem Aco{z0 z1 z2 z4:Int}{z3n z5n z6n:Nat}{z3 z5 z6:Ae}{a1 a2:Int}{y3:Int}{y4:Nat}{y5:Ae}(v:l.length<=1000):∀(r:List (Int × Int)) (i nn:Nat)(k:Int),l.drop i=r->r.length<nn->i<=l.length ->
  E5 u F z0 z1 z2 z3n z3 z4 z5n z5 z6n z6 a1 a2 nn now k (i:Int) y3 y4 y5 l.length (Gv l)=some ⟨[Av (stF now k r)],[]⟩:=by
 intro r
 induction r with
 |nil=>
  intro i nn k hd c hi;obtain⟨m,rfl⟩:∃m,nn=m+1:=⟨nn-1,Ω⟩
  have:=drop_nil hd;rw[Lg,Fn _ _ _ Ω];rfl
 |cons e r j=>
  intro i nn k hd c hi;obtain⟨m,rfl⟩:∃m,nn=m+1:=⟨nn-1,Ω⟩
  obtain⟨Ct,a,b⟩:=Cb hd;have d:=A3v a;have n:=A2l a;have o:(Gv l).getD (i*2+0) .top=Av e.1:=d;have p:wj (i:Int)=i:=Hy _;have s:wrap .i64 ((i:Int)+1)=((i+1:Nat):Int):=Bc
  have k1:=dT (q:=(i:Int)<((l.length:Nat):Int)) Ω;have t:=dT (q:=(0:Int)<=(i:Int)) Ω;rw[Lg];by_cases h:e.2<=now
  ·have q:=j (i+1) m e.1 b (by simp at c;omega) Ω
   have g:=dT h;have f:stF now k (e::r)=stF now e.1 r:=by unfold stF;rw[zu,Bv h]
   rw[f];simp only[Aq,Ar,k1,t,p,o,n,g,s];exact q
  ·have q:=j (i+1) m k b (by simp at c;omega) Ω
   have g:=dF h;have f:stF now k (e::r)=stF now k r:=by unfold stF;rw[zu,Bd h]
   rw[f];simp only[Aq,Ar,k1,t,p,o,n,g,s];exact q
theorem A4r(Be:2000<=u)(a:m.ok)(model now:Int):Ac C1 prog u (d+2) 68 [.agg m.cells,Ah model,Av now]=some ⟨[Av (stS m model now)],[]⟩:=by
 have e:Ac C1 prog u (d+1) 114 [.agg m.cells,Ah model]=_:=(FI u d m.v m.i m.x m.es.length (mnC m.es) m.lf m.n1 m.c1 m.n2 m.c2 model).trans (Arq (model:=model) a.n m.es 0 u rfl (by have:=a.n;omega) Ω)
 refine (CA u (d+1) m.v m.i m.x m.es.length (mnC m.es) m.lf m.n1 m.c1 m.n2 m.c2 model now).trans ?_;unfold stS;rw[<-A3z];simp only[Mt.cells] at e;cases b:m.es.find? λe=>e.k==model with
 |none=>
  rw[b] at e;have l0:=Aco (u:=u) (F:=Ac C1 prog u (d+1)) (z0:=m.v) (z1:=m.i) (z2:=m.x) (z3n:=m.es.length) (z3:=mnC m.es) (z4:=m.lf) (z5n:=m.n1) (z5:=m.c1) (z6n:=m.n2) (z6:=m.c2) (a1:=model) (a2:=now) (now:=now) (y3:=0) (y4:=0) (y5:=[]) (l:=[]) Ψ [] 0 u 0 rfl (by simp;omega) Ψ
  simp only[Aq,Ar,e];exact l0
 |some x=>
  rw[b] at e;simp only[Mn.cells] at e;have c:=a.e x (List.mem_of_find?_eq_some b);have l0:=Aco (u:=u) (F:=Ac C1 prog u (d+1)) (z0:=m.v) (z1:=m.i) (z2:=m.x) (z3n:=m.es.length) (z3:=mnC m.es) (z4:=m.lf) (z5n:=m.n1) (z5:=m.c1) (z6n:=m.n2) (z6:=m.c2) (a1:=model) (a2:=now) (now:=now) (y3:=x.k) (y4:=x.na) (y5:=x.an) c.2.2 x.st 0 u 0 rfl Ω Ω;simp only[Aq,Ar,e];exact l0
theorem Aws{c:Ae}{t:ByteArray}(w:os.length<=1000):∀(r:List ByteArray)(i nn:Nat),os.drop i=r->r.length<nn->i<=os.length ->
  ∃v:Int,decide (v>=0)=inO r s/\Hi u F n c t nn os.length (CZ os) s (os.length:Int) (i:Int)=some ⟨[Av v],[]⟩:=by
 intro r
 induction r with
 |nil=>
  intro i nn hd d hi;obtain⟨m,rfl⟩:∃m,nn=m+1:=⟨nn-1,Ω⟩
  have:=drop_nil hd;refine⟨-1,rfl,?_⟩;rw[Nm,Fn _ _ _ Ω]
 |cons o r h=>
  intro i nn hd d hi;obtain⟨m,rfl⟩:∃m,nn=m+1:=⟨nn-1,Ω⟩
  obtain⟨Ct,j,b⟩:=Cb hd;have g:=A0x j;have e:wj (i:Int)=i:=Hy _;have k:wrap .i64 ((i:Int)+1)=((i+1:Nat):Int):=Bc
  have k1:=dT (q:=(i:Int)<((os.length:Nat):Int)) Ω;have f:=dT (q:=(0:Int)<=(i:Int)) Ω;rw[Nm];cases a:mf s.data==mf o.data with
  |true=>
   refine⟨(i:Int),by unfold inO;rw[xt,a,bz];exact dT Ω,?_⟩
   simp only[Aq,Ar,k1,f,e,g,a]
  |false=>
   obtain⟨v,l,p⟩:=h (i+1) m b (by simp at d;omega) Ω
   refine⟨v,by rw[l];unfold inO;rw[xt,a,gv],?_⟩
   simp only[Aq,Ar,k1,f,e,g,a,k];exact p
theorem Bba(Be:2000<=u)(a:os.length<=1000)(s:ByteArray):Ac C1 prog u (d+2) 87 [.lst false 1 os.length (CZ os),Bg s]=some ⟨[C3 (inO os s)],[]⟩:=by obtain⟨v,b,f⟩:=Aws (u:=u) (F:=Ac C1 prog u d) (n:=os.length) (c:=CZ os) (t:=s) (s:=s) a os 0 u rfl Ω Ω;have e:Ac C1 prog u (d+1) 127 [.lst false 1 os.length (CZ os),Bg s]=some ⟨[Av v],[]⟩:=(FW u d os.length (CZ os) s).trans f;refine (Z0 u (d+1) os.length (CZ os) s).trans ?_;simp only[Aq,Ar,e];rw[b]
theorem Aky{c:Ae}{t:ByteArray}(v:os.length<=1000):∀(r:List ByteArray)(i nn:Nat),os.drop i=r->r.length<nn->i<=os.length ->
  H0 u F t n c nn s os.length (CZ os) (i:Int)=some ⟨[C3 (inO r s)],[]⟩:=by
 intro r
 induction r with
 |nil=>
  intro i nn hd e hi;obtain⟨m,rfl⟩:∃m,nn=m+1:=⟨nn-1,Ω⟩
  have:=drop_nil hd;rw[On,Fn _ _ _ Ω];rfl
 |cons o r k=>
  intro i nn hd e hi;obtain⟨m,rfl⟩:∃m,nn=m+1:=⟨nn-1,Ω⟩
  obtain⟨Ct,l,d⟩:=Cb hd;have g:=A0x l;have h:wj (i:Int)=i:=Hy _;have p:wrap .i64 ((i:Int)+1)=((i+1:Nat):Int):=Bc
  have k1:=dT (q:=(i:Int)<((os.length:Nat):Int)) Ω;have j:=dT (q:=(0:Int)<=(i:Int)) Ω;rw[On];have a:(mf o.data==mf s.data)=(mf s.data==mf o.data):=Bool.beq_comm;cases b:mf s.data==mf o.data with
  |true=>
   rw[b] at a;have f:inO (o::r) s=true:=by unfold inO;rw[xt,b,bz]
   rw[f];simp only[Aq,Ar,k1,j,h,g,a]
  |false=>
   rw[b] at a;have f:inO (o::r) s=inO r s:=by unfold inO;rw[xt,b,gv]
   have q:=k (i+1) m d (by simp at e;omega) Ω
   rw[f];simp only[Aq,Ar,k1,j,h,g,a,p];exact q
theorem A2m(Be:2000<=u)(a:os.length<=1000)(s:ByteArray):Ac C1 prog u (d+1) 108 [Bg s,.lst false 1 os.length (CZ os)]=some ⟨[C3 (inO os s)],[]⟩:=
 (GU u d s os.length (CZ os)).trans (Aky a os 0 u rfl Ω Ω)
set_option maxHeartbeats 2000000 in
theorem A9u(Be:1000400<=u)(j:c.ok)(ch:Ak)(s:r.ok):Ac C1 prog u (d+3) 50 [.agg c.cells,.lst false 1 ch.length (Af .u8 ch),.agg r.cells]=some ⟨[Av (Adj c.os 2 ch r)],[]⟩:=by
 refine (Zk u (d+2) c.rp c.ti c.os.length (CZ c.os) c.p.vf c.p.rs c.p.ht c.p.pr c.p.sh c.p.fm c.p.od c.p.dn.length (Af .u64 c.p.dn) c.p.op c.sec c.kh c.kr ch.length (Af .u8 ch) r.kind r.cd r.ad.length (Af .u8 r.ad) r.sg.length (Af .u8 r.sg) r.cn r.cc r.fm r.id.length (Af .u8 r.id) r.us).trans ?_;unfold Adj;cases a:r.kind != 2
 rotate_left
 ·simp only[Aq,Ar,a,cond_true]
 have e:Ac C1 prog u (d+2) 86 [Bg (r.cd)]=Bz [Bg (r.cd)]:=rfl;unfold Bz at e;simp only[dT (q:=r.cd.size<=9223372036854775807) (by have:=s.cd;omega),cond_true] at e
 cases hp:L4 r.cd with
 |error l=>
  rw[hp] at e;have e:Ac C1 prog u (d+2) 86 [Bg (r.cd)]=some ⟨[.agg [Av 0,.lst false 1 0 [],Bg ⟨#[]⟩,C3 false,Bg ⟨#[]⟩],Av l],[]⟩:=e;have z:((0:Int) != 2)=true:=rfl;cases f:l != 0
  ·simp only[Aq,Ar,a,e,f,z,cond_false]
  ·simp only[Aq,Ar,a,e,f,cond_true,cond_false]
 |ok v=>
  obtain⟨k,b,o,x,q⟩:=v;rw[hp] at e;have e:Ac C1 prog u (d+2) 86 [Bg (r.cd)]=some ⟨[.agg [Av k,.lst false 1 b.length (Af .u8 b),Bg (Ab o),C3 x,Bg (Ab q)],Av 0],[]⟩:=e;have z:((0:Int) != 0)=false:=rfl;have g:=An1 (u:=u) (d:=d+1) b ch;have h:=Bba (u:=u) (d:=d) Ω j.os (Ab o);have i:=Bba (u:=u) (d:=d) Ω j.os (Ab q);simp only;cases f:k != 2
  rotate_left
  ·simp only[Aq,Ar,a,e,z,f,cond_true,cond_false]
  cases m:eqB b ch
  ·rw[m] at g;simp only[Aq,Ar,a,e,z,f,g,cond_true,cond_false]
  rw[m] at g;cases n:inO c.os (Ab o)
  ·rw[n] at h;simp only[Aq,Ar,a,e,z,f,g,h,cond_true,cond_false]
  rw[n] at h;cases x with
  |false=>simp only[Aq,Ar,a,e,z,f,g,h,cond_true,cond_false]
  |true=>
   cases p:inO c.os (Ab q)
   ·rw[p] at i;simp only[Aq,Ar,a,e,z,f,g,h,i,cond_true,cond_false]
   ·rw[p] at i;simp only[Aq,Ar,a,e,z,f,g,h,i,cond_true,cond_false]
set_option maxHeartbeats 2000000 in
theorem A6e(Be:1000400<=u)(s:c.ok)(g:Int)(B:g≠0)(ch:Ak)(D:r.ok):Ac C1 prog u (d+24) 62 [.agg c.cells,Av g,.lst false 1 ch.length (Af .u8 ch),.agg r.cells]=some ⟨[Av (Adj c.os g ch r)],[]⟩:=by
 refine (FF u (d+23) c.rp c.ti c.os.length (CZ c.os) c.p.vf c.p.rs c.p.ht c.p.pr c.p.sh c.p.fm c.p.od c.p.dn.length (Af .u64 c.p.dn) c.p.op c.sec c.kh c.kr g ch.length (Af .u8 ch) r.kind r.cd r.ad.length (Af .u8 r.ad) r.sg.length (Af .u8 r.sg) r.cn r.cc r.fm r.id.length (Af .u8 r.id) r.us).trans ?_;unfold Adj;cases a:r.kind != g
 rotate_left
 ·simp only[Aq,Ar,a,cond_true]
 have e:=A7z (u:=u) (d:=d) (t:=r.cd) Be;cases hp:L4 r.cd with
 |error C=>
  rw[hp] at e;simp only[pdR] at e;have z:((0:Int) != g)=true:=by simp;omega
  cases f:C != 0
  ·simp only[Aq,Ar,a,e,f,z,cond_false]
  ·simp only[Aq,Ar,a,e,f,cond_true,cond_false]
 |ok v=>
  obtain⟨k,b,o,x,q⟩:=v;rw[hp] at e;simp only[pdR] at e;have z:((0:Int) != 0)=false:=rfl;have Lb:=Al .u8 b;have Lc:=Al .u8 ch;have c1:decide (0+b.length*1<=wy (Af .u8 b))=true:=dT Ω;have j:yt (b.length*1) (nb 0 (Af .u8 b))=Af .u8 b:=Gp (by rw[Jo];omega)
  have c2:decide (wy (Af .u8 b)=b.length)=true:=dT Ω;have l:decide (wy (Af .u8 ch)=ch.length)=true:=dT Ω;have m:=Hl b;have n:=Hl ch;have h:=Agy b ch;have i:=A2m (u:=u) (d:=d+22) Ω s.os (Ab o);have p:=A2m (u:=u) (d:=d+22) Ω s.os (Ab q);simp only;cases f:k != g
  rotate_left
  ·simp only[Aq,Ar,a,e,z,f,cond_true,cond_false]
  cases w:eqB b ch
  ·rw[w] at h;simp only[Aq,Ar,a,e,z,f,c1,j,c2,l,m,n,h,cond_true,cond_false]
  rw[w] at h;cases y:inO c.os (Ab o)
  ·rw[y] at i;simp only[Aq,Ar,a,e,z,f,c1,j,c2,l,m,n,h,i,cond_true,cond_false]
  rw[y] at i;cases x with
  |false=>simp only[Aq,Ar,a,e,z,f,c1,j,c2,l,m,n,h,i,cond_true,cond_false]
  |true=>
   cases A:inO c.os (Ab q)
   ·rw[A] at p;simp only[Aq,Ar,a,e,z,f,c1,j,c2,l,m,n,h,i,p,cond_true,cond_false]
   ·rw[A] at p;simp only[Aq,Ar,a,e,z,f,c1,j,c2,l,m,n,h,i,p,cond_true,cond_false]
end
abbrev sd0:Sd:=⟨[],0,0,0,0,false,0,[],false,0,0⟩
def Aj8(c:Cf)(m:Mt)(s:Sd)(now:Int)(r:Rq)(a:Uh)(g:Sg):Sd × Int:=
 bif XI ⟨s.ht,s.root⟩ (NT r.ad (Fk 11 (Cp r.cd))) g != 0 then (sd0,XI ⟨s.ht,s.root⟩ (NT r.ad (Fk 11 (Cp r.cd))) g) else
 bif a.ct != wrap .i64 (g.leaf+1) then (sd0,33) else
 bif Abw c.p a s.sh s.model (stS m s.model now) != 0 then (sd0,Abw c.p a s.sh s.model (stS m s.model now)) else
 bif (K9 s g.leaf a.rg now).2 != 0 then (bif (K9 s g.leaf a.rg now).2 != 37 then (sd0,(K9 s g.leaf a.rg now).2) else K9 s g.leaf a.rg now) else K9 s g.leaf a.rg now
def Alc(c:Cf)(m:Mt)(s:Sd)(now:Int)(r:Rq)(a:Uh):Sd × Int:=
 bif C8 .i64 a.fl 64 != 0 then (sd0,4) else
 bif a.rp != Fk 9 (Cp c.rp) then (sd0,34) else
 match sgD r.sg with|none=>(sd0,2)|some g=>Aj8 c m s now r a g
def Xd(c:Cf)(m:Mt)(s:Sd)(ch:Ak)(now:Int)(r:Rq):Sd × Int:=
 bif decide (now<0) then (sd0,9) else bif decide (now>1099511627776) then (sd0,9) else
 bif Adj c.os 2 ch r != 0 then (sd0,Adj c.os 2 ch r) else
 bif !eqB r.id s.id then (sd0,36) else
 match AO r.ad with|none=>(sd0,2)|some a=>Alc c m s now r a
theorem Aer{a:Uh}(h:AO b=some a)(c:C8 .i64 a.fl 64=0):a.idn=0/\a.id=[]:=by
 unfold AO at h;split at h
 ·split at h
  ·split at h
   ·cases h;exact⟨rfl,rfl⟩
   ·cases h
  ·cases h
 ·split at h
  ·split at h
   ·cases h
   ·rename_i q;split at h
    ·split at h
     ·cases h;exact absurd c q
     ·cases h
    ·cases h
  ·cases h
def Sd.stc(s:Sd):Stc:=⟨s.id.length,Af .u8 s.id,s.ht,s.root,s.model,s.fmt,s.sh,s.used,s.rg.length,Gv s.rg,s.sus,s.since,s.last⟩
section
variable {u d:Nat}
set_option maxHeartbeats 8000000 in
theorem OD(Be:1000400<=u)(z:c.ok)(L:m.ok){s:Sd}(M:s.ok)(ch:Ak)(now:Int)(n:r.ok):
  Ac C1 prog u (d+9) 33 [.agg c.cells,.agg m.cells,.agg s.cells,.lst false 1 ch.length (Af .u8 ch),Av now,.agg r.cells]=some ⟨[.agg (Xd c m s ch now r).1.cells,Av (Xd c m s ch now r).2],[]⟩:=by
 refine (WS u (d+8) c.rp c.ti c.os.length (CZ c.os) c.p.vf c.p.rs c.p.ht c.p.pr c.p.sh c.p.fm c.p.od c.p.dn.length (Af .u64 c.p.dn) c.p.op c.sec c.kh c.kr m.v m.i m.x m.es.length (mnC m.es) m.lf m.n1 m.c1 m.n2 m.c2 s.id.length (Af .u8 s.id) s.ht s.root s.model s.fmt s.sh s.used s.rg.length (Gv s.rg) s.sus s.since s.last ch.length (Af .u8 ch) now r.kind r.cd r.ad.length (Af .u8 r.ad) r.sg.length (Af .u8 r.sg) r.cn r.cc r.fm r.id.length (Af .u8 r.id) r.us).trans ?_;unfold Xd;cases n1:decide (now<0)
 rotate_left
 ·simp only[Aq,Ar,n1,cond_true];rfl
 cases n2:decide (now>1099511627776)
 rotate_left
 ·simp only[Aq,Ar,n1,n2,cond_true,cond_false];rfl
 have e:=A9u (u:=u) (d:=d+5) Be z ch n;simp only[Cf.cells,Rq.cells] at e;cases h:Adj c.os 2 ch r != 0
 rotate_left
 ·simp only[Aq,Ar,n1,n2,e,h,cond_true,cond_false];rfl
 have f:=An1 (u:=u) (d:=d+7) r.id s.id;cases E:eqB r.id s.id
 ·rw[E] at f;simp only[Aq,Ar,n1,n2,e,h,f,cond_true,cond_false];rfl
 rw[E] at f;have b:=A9p (u:=u) (d:=d+4) Ω n.adB (by have:=n.ad;omega)
 have k:((0:Int) != 0)=false:=rfl;have H:((2:Int) != 0)=true:=rfl;cases C:AO r.ad with
 |none=>
  rw[C] at b;simp only[A3p,Uh.owned] at b;simp only[Aq,Ar,n1,n2,e,h,f,b,H,cond_true,cond_false];rfl
 |some a=>
  rw[C] at b;simp only[A3p,Uh.owned] at b;simp only;unfold Alc;cases j:C8 .i64 a.fl 64 != 0
  rotate_left
  ·simp only[Aq,Ar,n1,n2,e,h,f,b,k,j,cond_true,cond_false];rfl
  obtain⟨i1,i2⟩:=Aer C (by simpa using j);rw[i1,i2] at b;have rp:=Bea (u:=u) (d:=d+2) (s:=c.rp) (by have:=z.rp;omega) Be
  cases l:a.rp != Fk 9 (Cp c.rp)
  rotate_left
  ·simp only[Aq,Ar,n1,n2,e,h,f,b,k,j,rp,l,cond_true,cond_false];rfl
  have i:=Ave (I:=xs1) (u:=u) (d:=d+6) Ω n.sgB;cases J:sgD r.sg with
  |none=>
   rw[J] at i;simp only[Abg,Sg.owned] at i;simp only[Aq,Ar,n1,n2,e,h,f,b,k,H,j,rp,l,i,cond_true,cond_false];rfl
  |some g=>
   rw[J] at i;simp only[Abg,Sg.owned] at i;simp only;unfold Aj8;have o:=A3o (u:=u) (d:=d+2) (s:=r.cd) (by have:=n.cd;omega) Be
   have p:=A6o (u:=u) (d:=d+2) n.adB (by have:=n.ad;omega) Be (Fk 11 (Cp r.cd))
   have vf:=Awf (I:=xs1) (u:=u) (d:=d+0) Ω ⟨s.ht,s.root⟩ (NT r.ad (Fk 11 (Cp r.cd))) g;simp only[Ky.cells,Sg.cells] at vf;have Lc:=Al .u64 g.chains;have Lp:=Al .u64 g.path;have k1:decide (0+g.chains.length*1<=wy (Af .u64 g.chains))=true:=dT Ω;have q:decide (0+g.path.length*1<=wy (Af .u64 g.path))=true:=dT Ω;have t:yt (g.chains.length*1) (nb 0 (Af .u64 g.chains))=Af .u64 g.chains:=Gp (by rw[Jo];omega)
   have v:yt (g.path.length*1) (nb 0 (Af .u64 g.path))=Af .u64 g.path:=Gp (by rw[Jo];omega)
   obtain⟨W,N⟩:∃W,XI ⟨s.ht,s.root⟩ (NT r.ad (Fk 11 (Cp r.cd))) g=W:=⟨_,rfl⟩
   rw[N] at vf ⊢;cases w:W != 0
   rotate_left
   ·simp only[Aq,Ar,n1,n2,e,h,f,b,k,j,rp,l,i,o,p,k1,q,t,v,vf,w,cond_true,cond_false];rfl
   cases x:a.ct != wrap .i64 (g.leaf+1)
   rotate_left
   ·simp only[Aq,Ar,n1,n2,e,h,f,b,k,j,rp,l,i,o,p,k1,q,t,v,vf,w,x,cond_true,cond_false];rfl
   have st:=A2w (u:=u) (d:=d+7) L s.model now;simp only[Mt.cells] at st;have sg:=Bd0 (u:=u) (d:=d+4) c.p (by have:=z.dn;simp only[maxLen];omega) (by have:=z.dn;omega) a s.stc (stS m s.model now)
   simp only[UK.cells,Uh.cells,Stc.cells,Sd.stc] at sg;rw[i1,i2] at sg;have c0:decide (0+0*1<=wy ([]:Ae))=true:=rfl;have A:yt (0*1) (nb 0 ([]:Ae))=[]:=rfl;obtain⟨G,O⟩:∃G,Abw c.p a s.sh s.model (stS m s.model now)=G:=⟨_,rfl⟩
   rw[O] at sg ⊢;cases B:G != 0
   rotate_left
   ·simp only[Aq,Ar,n1,n2,e,h,f,b,k,j,rp,l,i,o,p,k1,q,t,v,vf,w,x,st,c0,A,sg,B,cond_true,cond_false];rfl
   have y:=Avt (u:=u) (d:=d+4) M Ω g.leaf a.rg now;obtain⟨Z,P⟩:∃Z,K9 s g.leaf a.rg now=Z:=⟨_,rfl⟩
   rw[P] at y ⊢;simp only[Sd.cells] at y ⊢;cases D:Z.2 != 0
   ·simp only[Aq,Ar,n1,n2,e,h,f,b,k,j,rp,l,i,o,p,k1,q,t,v,vf,w,x,st,c0,A,sg,B,y,D,cond_true,cond_false]
   cases K:Z.2 != 37
   ·simp only[Aq,Ar,n1,n2,e,h,f,b,k,j,rp,l,i,o,p,k1,q,t,v,vf,w,x,st,c0,A,sg,B,y,D,K,cond_true,cond_false]
   ·simp only[Aq,Ar,n1,n2,e,h,f,b,k,j,rp,l,i,o,p,k1,q,t,v,vf,w,x,st,c0,A,sg,B,y,D,K,cond_true,cond_false];rfl
end
section
variable {u d:Nat}
set_option maxHeartbeats 8000000 in
theorem Apl(Be:1000400<=u)(E:c.ok)(R:m.ok){s:Sd}(S:s.ok)(ch:Ak)(now:Int)(x:r.ok):
  Ac C1 prog u (d+25) 34 [.agg c.cells,.agg m.cells,.agg s.cells,.lst false 1 ch.length (Af .u8 ch),Av now,.agg r.cells]=some ⟨[.agg (Xd c m s ch now r).1.cells,Av (Xd c m s ch now r).2],[]⟩:=by
 refine (FO u (d+24) c.rp c.ti c.os.length (CZ c.os) c.p.vf c.p.rs c.p.ht c.p.pr c.p.sh c.p.fm c.p.od c.p.dn.length (Af .u64 c.p.dn) c.p.op c.sec c.kh c.kr m.v m.i m.x m.es.length (mnC m.es) m.lf m.n1 m.c1 m.n2 m.c2 s.id.length (Af .u8 s.id) s.ht s.root s.model s.fmt s.sh s.used s.rg.length (Gv s.rg) s.sus s.since s.last ch.length (Af .u8 ch) now r.kind r.cd r.ad.length (Af .u8 r.ad) r.sg.length (Af .u8 r.sg) r.cn r.cc r.fm r.id.length (Af .u8 r.id) r.us).trans ?_;unfold Xd
 have b:Ac C1 prog u (d+24) 61 [Av now,Av 0,Av 1099511627776]=some ⟨[C3 (!decide (now<0) && !decide (now>1099511627776))],[]⟩:=by
  refine (FH u (d+23) now 0 1099511627776).trans ?_;by_cases h:now<0
  ·have K:=dF (q:=now>=0) Ω;simp only[Aq,Ar,K,dT h]
  ·have K:=dT (q:=now>=0) Ω;have T:decide (now<=1099511627776) = !decide (now>1099511627776):=by rw[fk];simp
   simp only[Aq,Ar,K,T,dF h]
 cases n1:decide (now<0)
 rotate_left
 ·rw[n1] at b;simp only[Gc,SK] at b
  simp only[Aq,Ar,b,cond_true];rfl
 cases n2:decide (now>1099511627776)
 rotate_left
 ·rw[n1,n2] at b;simp only[Gc,Ix,Zzt] at b
  simp only[Aq,Ar,b,cond_true,cond_false];rfl
 rw[n1,n2] at b;simp only[Ix,Zzn] at b;have i:=A6e (u:=u) (d:=d+0) Be E 2 Δ ch x;simp only[Cf.cells,Rq.cells] at i;cases k:Adj c.os 2 ch r != 0
 rotate_left
 ·simp only[Aq,Ar,b,i,k,cond_true,cond_false];rfl
 have Li:=Al .u8 r.id;have Ls:=Al .u8 s.id;have h:decide (wy (Af .u8 r.id)=r.id.length)=true:=dT Ω;have l:decide (wy (Af .u8 s.id)=s.id.length)=true:=dT Ω;have n:=Hl r.id;have o:=Hl s.id;have j:=Agy r.id s.id;cases N:eqB r.id s.id
 ·rw[N] at j;simp only[Aq,Ar,b,i,k,h,l,n,o,j,cond_true,cond_false];rfl
 rw[N] at j;have e:=A9r (u:=u) (d:=d+20) Ω x.adB (by have:=x.ad;omega)
 have v:((0:Int) != 0)=false:=rfl;have O:((2:Int) != 0)=true:=rfl;cases L:AO r.ad with
 |none=>
  rw[L] at e;simp only[Apa,Uh.cells] at e;simp only[Aq,Ar,b,i,k,h,l,n,o,j,e,O,cond_true,cond_false];rfl
 |some a=>
  rw[L] at e;simp only[Apa,Uh.cells] at e;simp only;unfold Alc;cases t:C8 .i64 a.fl 64 != 0
  rotate_left
  ·simp only[Aq,Ar,b,i,k,h,l,n,o,j,e,v,t,cond_true,cond_false];rfl
  obtain⟨i1,i2⟩:=Aer L (by simpa using t);rw[i1,i2] at e;have rp:=A0d (u:=u) (d:=d+19) (s:=c.rp) (by have:=E.rp;omega) Be
  cases w:a.rp != Fk 9 (Cp c.rp)
  rotate_left
  ·simp only[Aq,Ar,b,i,k,h,l,n,o,j,e,v,t,rp,w,cond_true,cond_false];rfl
  have p:=Arb (u:=u) (d:=d+22) Ω x.sgB;cases P:sgD r.sg with
  |none=>
   rw[P] at p;simp only[Abg,Sg.owned] at p;simp only[Aq,Ar,b,i,k,h,l,n,o,j,e,v,O,t,rp,w,p,cond_true,cond_false];rfl
  |some g=>
   rw[P] at p;simp only[Abg,Sg.owned] at p;simp only;unfold Aj8;have U:=Aet (u:=u) (d:=d+18) (s:=r.cd) (by have:=x.cd;omega) Be
   have V:=Asb (u:=u) (d:=d+18) x.adB (by have:=x.ad;omega) Be (Fk 11 (Cp r.cd))
   have f:Ac C1 prog u (d+24) 66 [.agg r.cells]=some ⟨[Ah (NT r.ad (Fk 11 (Cp r.cd)))],[]⟩:=by
    refine (DF u (d+23) r.kind r.cd r.ad.length (Af .u8 r.ad) r.sg.length (Af .u8 r.sg) r.cn r.cc r.fm r.id.length (Af .u8 r.id) r.us).trans ?_;simp only[Aq,Ar,U,V]
   simp only[Rq.cells] at f;have vf:=Api (u:=u) (d:=d+17) Ω ⟨s.ht,s.root⟩ (NT r.ad (Fk 11 (Cp r.cd))) g;simp only[Ky.cells,Sg.cells] at vf;have Lc:=Al .u64 g.chains;have Lp:=Al .u64 g.path;have k1:decide (0+g.chains.length*1<=wy (Af .u64 g.chains))=true:=dT Ω;have y:decide (0+g.path.length*1<=wy (Af .u64 g.path))=true:=dT Ω;have z:yt (g.chains.length*1) (nb 0 (Af .u64 g.chains))=Af .u64 g.chains:=Gp (by rw[Jo];omega)
   have A:yt (g.path.length*1) (nb 0 (Af .u64 g.path))=Af .u64 g.path:=Gp (by rw[Jo];omega)
   obtain⟨W,X⟩:∃W,XI ⟨s.ht,s.root⟩ (NT r.ad (Fk 11 (Cp r.cd))) g=W:=⟨_,rfl⟩
   rw[X] at vf ⊢;cases B:W != 0
   rotate_left
   ·simp only[Aq,Ar,b,i,k,h,l,n,o,j,e,v,t,rp,w,p,f,k1,y,z,A,vf,B,cond_true,cond_false];rfl
   cases C:a.ct != wrap .i64 (g.leaf+1)
   rotate_left
   ·simp only[Aq,Ar,b,i,k,h,l,n,o,j,e,v,t,rp,w,p,f,k1,y,z,A,vf,B,C,cond_true,cond_false];rfl
   have st:=A4r (u:=u) (d:=d+22) Ω R s.model now;simp only[Mt.cells] at st;have sg:=A9l (u:=u) (d:=d+20) c.p (by have:=E.dn;simp only[maxLen];omega) (by have:=E.dn;omega) a s.stc (stS m s.model now)
   simp only[UK.cells,Uh.cells,Stc.cells,Sd.stc] at sg;rw[i1,i2] at sg;have c0:decide (0+0*1<=wy ([]:Ae))=true:=rfl;have H:yt (0*1) (nb 0 ([]:Ae))=[]:=rfl;obtain⟨G,Y⟩:∃G,Abw c.p a s.sh s.model (stS m s.model now)=G:=⟨_,rfl⟩
   rw[Y] at sg ⊢;cases J:G != 0
   rotate_left
   ·simp only[Aq,Ar,b,i,k,h,l,n,o,j,e,v,t,rp,w,p,f,k1,y,z,A,vf,B,C,st,c0,H,sg,J,cond_true,cond_false];rfl
   have D:=Aa3 (u:=u) (d:=d+22) S Ω g.leaf a.rg now;obtain⟨Z,hZ⟩:∃Z,K9 s g.leaf a.rg now=Z:=⟨_,rfl⟩
   rw[hZ] at D ⊢;simp only[Sd.cells] at D ⊢;cases M:Z.2 != 0
   ·simp only[Aq,Ar,b,i,k,h,l,n,o,j,e,v,t,rp,w,p,f,k1,y,z,A,vf,B,C,st,c0,H,sg,J,D,M,cond_true,cond_false]
   cases Q:Z.2 != 37
   ·simp only[Aq,Ar,b,i,k,h,l,n,o,j,e,v,t,rp,w,p,f,k1,y,z,A,vf,B,C,st,c0,H,sg,J,D,M,Q,cond_true,cond_false]
   ·simp only[Aq,Ar,b,i,k,h,l,n,o,j,e,v,t,rp,w,p,f,k1,y,z,A,vf,B,C,st,c0,H,sg,J,D,M,Q,cond_true,cond_false];rfl
end
abbrev exS:ByteArray:=ByteArray.mk #[101,120,97,109,112,108,101,46,99,111,109]
abbrev tiS:ByteArray:=ByteArray.mk #[69,120,97,109,112,108,101]
abbrev oxS:ByteArray:=ByteArray.mk #[104,116,116,112,115,58,47,47,101,120,97,109,112,108,101,46,99,111,109]
abbrev olS:ByteArray:=ByteArray.mk #[104,116,116,112,115,58,47,47,108,111,103,105,110,46,101,120,97,109,112,108,101,46,99,111,109]
abbrev cfW(p:UK)(sec:Int):Cf:=⟨exS,tiS,[oxS,olS],p,sec,4,(Vp 31 4).root⟩
theorem Aqs{p:UK}(h:p.dn.length<=2)(sec:Int):(cfW p sec).ok:=⟨by show exS.size<=_;decide,by show (2:Nat)<=1000;omega,by show p.dn.length<=1000;omega⟩
abbrev SV:UK:=⟨0,false,1,1,false,0,false,[],50⟩
def Pj(sh vf:Bool):Int:=if vf=true then (if sh=true then 13 else 5) else if sh=true then 9 else 1
def Tp(a:Uh):Ak:=if vE a=0 then B6 a.rp++[wrap .u8 a.fl,wrap .u8 a.ct,wrap .u8 a.rg] else []
def asT(ch o:Ak):ByteArray:=Ab (match WU 2 ch o [] false with | .ok s=>s | .error _=>[])
def HX(rp:ByteArray)(sh vf:Bool)(leaf f:Int):Uh:=⟨Fk 9 (Cp rp),Pj sh vf,wrap .i64 (leaf+1),f,0,0,[],0,0⟩
def asG(seed h leaf m:Int):Ak:=match Agq seed h leaf m with|some s=>sgB s|none=>[]
def Ajq(seed h:Int)(id:Ak)(sh:Bool)(rp:ByteArray)(o ch:Ak)(vf:Bool)(leaf f:Int)(us:ByteArray):Rq:=
 ⟨2,asT ch o,Tp (HX rp sh vf leaf f),asG seed h leaf (NT (Tp (HX rp sh vf leaf f)) (Fk 11 (Cp (asT ch o)))),0,[],0,id,us⟩
theorem ZT(c:o.length<=50000):(asT ch o).size<=60000:=by
 unfold asT;rw[Ai];cases h:WU 2 ch o [] false with
 |error e=>simp
 |ok s=>
  simp only;unfold WU at h;have a:tyS 2=some tyG:=rfl;rw[a] at h;simp only at h;split at h
  ·cases h
  split at h
  ·cases h
  simp only[if_true] at h;cases h;have b:=YF ch;rename_i d _;simp only[fmH,YI,fA2,fA3,fA4,tyG,Ru,M9,SO];omega
theorem ZO(a:Uh):(Tp a).length<=11:=by
 unfold Tp;split
 ·rw[Ru,Cu];simp
 ·simp
theorem Acj(v:Int):0<=wrap .u8 v/\wrap .u8 v<=255:=by
 have:wrap .u8 v=v % 256:=by simp[wrap,IntKind.bits,IntKind.signed]
 omega
theorem Arj(a:Uh):Ch (Tp a):=by
 unfold Tp;split
 ·refine Ajp (PU _) ?_;intro x b;simp only[zl,ue,or_false] at b;rcases b with rfl|rfl|rfl<;>exact Acj _
 ·intro x b;cases b
theorem Bas(seed h leaf m:Int):Ch (asG seed h leaf m):=by
 unfold asG;split
 ·exact Bk3 _
 ·intro x a;cases a
theorem A7a{id:Ak}(a:o.length<=50000):(Ajq seed h id sh rp o ch vf leaf f us).ok:=
 ⟨by have:=ZT (ch:=ch) a;show (asT ch o).size<=_;omega,Arj _,by have:=ZO (HX rp sh vf leaf f);show (Tp _).length<=_;omega,Bas _ _ _ _⟩
section
variable {u d:Nat}
theorem Aiz(Be:1000<=u)(seed h:Int):Ac C1 prog u (d+13) 20 [Ah seed,Av h]=some ⟨[.agg (Vp seed h).cells],[]⟩:=by refine (PB u (d+12) seed h).trans ?_;have p:=Ao5 (u:=u) (d:=d) Be seed h;simp only[Ky.cells] at p ⊢;simp only[Aq,Ar,p]
theorem Bqk{l:Ak}(b:l.length<=maxLen)(a:Nat):∃(p:UK)(H:Nat),p.dn.length<=2 /\
  ∀{u d:Nat},Ac C1 prog u (d+3) 19 [.pbox (GF l a)]=some ⟨[.agg p.own],[GF l H]⟩:=by
 obtain⟨x,J,T,u1,f⟩:=G1 b a 3 Ω Ω;obtain⟨y,K,U,V,g⟩:=G1 b J 2 Ω Ω;obtain⟨z,L,W,X,i⟩:=G1 b K 2 Ω Ω;obtain⟨A,M,Y,Z,j⟩:=G1 b L 3 Ω Ω;obtain⟨B,N,l5,u5,k⟩:=G1 b M 2 Ω Ω;obtain⟨C,O,l6,u6,m⟩:=G1 b N 3 Ω Ω;obtain⟨D,P,l7,u7,n⟩:=G1 b O 2 Ω Ω;obtain⟨t,Q,l8,u8,o⟩:=G1 b P 3 Ω Ω;obtain⟨v,E,l9,u9,q⟩:=G1 b Q 4 Ω Ω;obtain⟨r,w,R,S,c⟩:=G1 b E 2 Ω Ω
 obtain⟨op,e⟩:∃op,f9 [PV.sc (Value.int IntKind.i64 (50:Int)),PV.sc (Value.int IntKind.i64 (5:Int)),PV.sc (Value.int IntKind.i64 (500:Int))] ((0:Nat)+wj t*(1:Nat)) PV.top=Av op:=by
  rcases (by omega:t=0\/t=1\/t=2) with h|h|h<;>subst h
  ·exact⟨50,rfl⟩
  ·exact⟨5,rfl⟩
  ·exact⟨500,rfl⟩
 by_cases G:v=3
 ·refine⟨⟨x,y==1,1+z,1+A,B==1,C,D==1,[3,7].take (1+r).toNat,op⟩,w,?_,λ{u d}=>?_⟩
  ·simp only[x7];exact Nat.min_le_right _ _
  ·have f:=f (u:=u) (d:=d) (p:=some Bz);have g:=g (u:=u) (d:=d) (p:=some Bz);have i:=i (u:=u) (d:=d) (p:=some Bz);have j:=j (u:=u) (d:=d) (p:=some Bz);have k:=k (u:=u) (d:=d) (p:=some Bz);have m:=m (u:=u) (d:=d) (p:=some Bz);have n:=n (u:=u) (d:=d) (p:=some Bz);have o:=o (u:=u) (d:=d) (p:=some Bz);have q:=q (u:=u) (d:=d) (p:=some Bz);have c:=c (u:=u) (d:=d) (p:=some Bz)
   refine (H6 u (d+2) l.length (Af .i64 l) (a:Int)).trans ?_;have s:(v==3)=true:=by rw[G];rfl
   repeat(with_reducible(first|apply Bk|apply A5|apply Bm|apply Bj|apply Bo|apply K0|apply Of|apply I6|apply YJ|apply A4|apply Bn|apply H7);· first|constructor|(simp(disch:=omega)only[H9,f,g,i,j,k,m,n,o,q,c,e,s,wrap_i64]<;>first|constructor|omega)|omega)
   try simp(disch:=omega)only[Aa,f,g,i,j,k,m,n,o,q,c,e,s,wrap_i64]
   rcases (by omega:r=0\/r=1) with h|h<;>subst h<;>rfl
 ·refine⟨⟨x,y==1,1+z,1+A,B==1,C,D==1,[],op⟩,E,?_,λ{u d}=>?_⟩
  ·simp
  ·have f:=f (u:=u) (d:=d) (p:=some Bz);have g:=g (u:=u) (d:=d) (p:=some Bz);have i:=i (u:=u) (d:=d) (p:=some Bz);have j:=j (u:=u) (d:=d) (p:=some Bz);have k:=k (u:=u) (d:=d) (p:=some Bz);have m:=m (u:=u) (d:=d) (p:=some Bz);have n:=n (u:=u) (d:=d) (p:=some Bz);have o:=o (u:=u) (d:=d) (p:=some Bz);have q:=q (u:=u) (d:=d) (p:=some Bz)
   refine (H6 u (d+2) l.length (Af .i64 l) (a:Int)).trans ?_;have s:(v==3)=false:=beq_eq_false_iff_ne.2 G
   repeat(with_reducible(first|apply Bk|apply A5|apply Bm|apply Bj|apply Bo|apply K0|apply Of|apply I6|apply YJ|apply A4|apply Bn|apply H7);· first|constructor|(simp(disch:=omega)only[H9,f,g,i,j,k,m,n,o,q,e,s,wrap_i64]<;>first|constructor|omega)|omega)
   try simp(disch:=omega)only[Aa,f,g,i,j,k,m,n,o,q,e,s,wrap_i64]
   rfl
theorem Bpv(Be:1000<=u){l:Ak}(f:l.length<=maxLen)(a:Nat):∃(p:UK)(sec:Int)(h:Nat),p.dn.length<=2 /\
  Ac C1 prog u (d+14) 5 [.pbox (GF l a)]=some ⟨[.agg (cfW p sec).cells],[GF l h]⟩:=by
 obtain⟨p,c,hp,b⟩:=Bqk f a;have b:Ac C1 prog u (d+13) 19 [.pbox (GF l a)]=some ⟨[.agg p.own],[GF l c]⟩:=b (u:=u) (d:=d+10);obtain⟨v,i,k,m,e⟩:=G1 f c 3 Ω Ω;have e:Ac C1 prog u (d+13) 7 [.pbox (GF l c),Av 3]=_:=e (u:=u) (d:=d+11) (p:=some Bz);have g:=Aiz (u:=u) (d:=d) Be 31 4;have j:(Vp 31 4).cells=[Av 4,Ah (Vp 31 4).root]:=by unfold Ky.cells;rw[Aas Δ]
 rw[j] at g;refine⟨p,wrap .u64 (5+wrap .u64 v),i,hp,?_⟩;refine (Mo u (d+13) l.length (Af .i64 l) (a:Int)).trans ?_;simp only[UK.own] at b;have L:=Al .u64 p.dn;have t:yt (p.dn.length*1) (nb 0 (Af .u64 p.dn))=Af .u64 p.dn:=Gp (by rw[Jo];omega)
 have c1:decide (0+p.dn.length*1<=wy (Af .u64 p.dn))=true:=dT Ω;simp only[Aq,Ar,b,e,g,c1,t];rfl
theorem Bat(n:Int):Ac C1 prog u (d+2) 7 [.pbox (GF [] 0),Av n]=some ⟨[Av 0],[GF [] 0]⟩:=
 (Ji u (d+1) 0 [] 0 n).trans rfl
theorem Avz(Be:1000<=u):Ac C1 prog u (d+15) 36 []=some ⟨[.agg (cfW SV 5).cells],[]⟩:=by
 have nw:Ac C1 prog u (d+14) 4 [.lst false 1 0 []]=some ⟨[.pbox (GF [] 0)],[]⟩:=Biy (l:=[]);have n0:=λn=>Bat (u:=u) (d:=d+10) n;have a:=λn=>Bat (u:=u) (d:=d+11) n
 have pl:Ac C1 prog u (d+13) 19 [.pbox (GF [] 0)]=some ⟨[.agg SV.own],[GF [] 0]⟩:=by
  refine (H6 u (d+12) 0 [] 0).trans ?_
  repeat(with_reducible(first|apply Bk|apply A5|apply Bm|apply Bj|apply Bo|apply K0|apply Of|apply I6|apply YJ|apply A4|apply Bn|apply H7);· first|constructor|(simp(disch:=omega)only[H9,n0,wrap_i64]<;>first|constructor|omega)|omega)
  try simp(disch:=omega)only[Aa,n0,wrap_i64]
  rfl
 have b:=Aiz (u:=u) (d:=d) Be 31 4;have f:(Vp 31 4).cells=[Av 4,Ah (Vp 31 4).root]:=by unfold Ky.cells;rw[Aas Δ]
 rw[f] at b
 have c:Ac C1 prog u (d+14) 5 [.pbox (GF [] 0)]=some ⟨[.agg (cfW SV 5).cells],[GF [] 0]⟩:=by
  refine (Mo u (d+13) 0 [] 0).trans ?_;simp only[UK.own] at pl;have e:wrap .u64 (5+wrap .u64 0)=5:=Δ
  repeat(with_reducible(first|apply Bk|apply A5|apply Bm|apply Bj|apply Bo|apply K0|apply Of|apply I6|apply YJ|apply A4|apply Bn|apply H7);· first|constructor|(simp(disch:=omega)only[H9,pl,a,b,e]<;>first|constructor|omega)|omega)
  try simp(disch:=omega)only[Aa,pl,a,b,e]
  rfl
 refine (FD u (d+14)).trans ?_;simp only[Cf.cells] at c ⊢;simp(disch:=omega)only[Aq,Ar,nw,c,Z3]
theorem Bap(Be:1000<=u)(n h:Int)(sh:Bool):∃id,Ch id/\id.length=176/\Ac C1 prog u (d+7) 8 [Av n,Av h,C3 sh]=some ⟨[.agg [Ah (wrap .u64 (1000+wrap .u64 n)),Av h,.own 1 176 (Af .u8 id),C3 sh]],[]⟩:=by obtain⟨r,b,c,a⟩:=Ahp (u:=u) (d:=d) (p:=some Bz) Be (wrap .i64 (500+n)) (n:=176) Ω;have a:Ac C1 prog u (d+6) 6 [Av (wrap .i64 (500+n)),Av 176]=_:=a;refine⟨r,b,c,?_⟩;have L:=Al .u8 r;have t:yt (176*1) (Af .u8 r)=Af .u8 r:=Gp Ω;have c1:decide (176*1<=wy (Af .u8 r))=true:=dT Ω;refine (Zr u (d+6) n h sh).trans ?_;simp only[Aq,Ar,a,c1,t]
theorem A4o(seed h:Int)(n:Nat)(c:Ae)(sh vf:Bool):Ac C1 prog u (d+1) 26 [.agg [Ah seed,Av h,.lst false 1 n c,C3 sh],C3 vf]=some ⟨[Av (Pj sh vf)],[]⟩:=by refine (Zg u d seed h n c sh vf).trans ?_;cases vf<;>cases sh<;>rfl
theorem A9s(Be:1000<=u){a:Uh}(f:C8 .i64 a.fl 64=0):Ac C1 prog u (d+4) 24 [.agg a.cells]=some ⟨[.own 1 (Tp a).length (Af .u8 (Tp a)),Av (vE a)],[]⟩:=by
 refine (Xm u (d+3) a.rp a.fl a.ct a.rg a.md a.idn a.id a.kh a.kr).trans ?_;have c:=UV (u:=u) (d:=d) Be a;simp only[Uh.cells] at c;unfold Tp;by_cases b:vE a=0
 ·rw[b] at c;rw[Bv b];have g:((0:Int) != 0)=false:=rfl;have f0:(C8 .i64 a.fl 64 != 0)=false:=by rw[f];rfl
  have h:=A3b (u:=u) (d:=d+2) Be a.rp;have i:(Af .u8 (B6 a.rp)).length=8:=by rw[Al,Cu]
  have c1:decide (8*1<=wy (Af .u8 (B6 a.rp)))=true:=dT Ω;have j:yt (8*1) (Af .u8 (B6 a.rp))=Af .u8 (B6 a.rp):=Gp Ω;have c2:decide ((8+3)*1<=1099511627776)=true:=rfl;have k:decide (8+3<=1099511627776)=true:=rfl;have e:Af .u8 (B6 a.rp++[wrap .u8 a.fl,wrap .u8 a.ct,wrap .u8 a.rg])=Af .u8 (B6 a.rp)++[PV.sc (.int .u8 (wrap .u8 a.fl)),.sc (.int .u8 (wrap .u8 a.ct)),.sc (.int .u8 (wrap .u8 a.rg))]:=by simp[Af,kk]
  have o:(Af .u8 (B6 a.rp)++[PV.sc (.int .u8 (wrap .u8 a.fl)),.sc (.int .u8 (wrap .u8 a.ct)),.sc (.int .u8 (wrap .u8 a.rg))]).length=11:=by rw[Ru,i];rfl
  have l:decide ((8+3)*1<=wy (Af .u8 (B6 a.rp)++[PV.sc (.int .u8 (wrap .u8 a.fl)),.sc (.int .u8 (wrap .u8 a.ct)),.sc (.int .u8 (wrap .u8 a.rg))]))=true:=dT Ω;have m:yt ((8+3)*1) (Af .u8 (B6 a.rp)++[PV.sc (.int .u8 (wrap .u8 a.fl)),.sc (.int .u8 (wrap .u8 a.ct)),.sc (.int .u8 (wrap .u8 a.rg))])=Af .u8 (B6 a.rp)++[PV.sc (.int .u8 (wrap .u8 a.fl)),.sc (.int .u8 (wrap .u8 a.ct)),.sc (.int .u8 (wrap .u8 a.rg))]:=Gp Ω;have n:(B6 a.rp++[wrap .u8 a.fl,wrap .u8 a.ct,wrap .u8 a.rg]).length=11:=by rw[Ru,Cu];rfl
  rw[n,e,b];simp only[Aq,Ar,c,g,h,c1,c2,k,j,f0,l,m]
 ·have z:(vE a != 0)=true:=by simpa using b
  rw[Bd b];simp only[Aq,Ar,c,z];rfl
theorem Ag1(sh vf:Bool):C8 .i64 (Pj sh vf) 64=0:=by cases sh<;>cases vf<;>decide
set_option maxHeartbeats 2000000 in
theorem Age(Be:1000400<=u){id:Ak}(w:rp.size<=100000)(g:Ch o)(y:o.length<=50000)(KU:Ch ch)(Q:ch.length<=50000):
  Ac C1 prog u (d+13) 11 [.agg [Ah seed,Av h,.lst false 1 id.length (Af .u8 id),C3 sh],Bg rp,Bg (Ab o),.lst false 1 ch.length (Af .u8 ch),C3 vf,Av leaf,Av f,Bg us]=some ⟨[.agg (Ajq seed h id sh rp o ch vf leaf f us).cells],[]⟩:=by
 refine (X6 u (d+12) seed h id.length (Af .u8 id) sh rp (Ab o) ch.length (Af .u8 ch) vf leaf f us).trans ?_;have fm:Ac C1 prog u (d+12) 23 [cdA 2 ch o [] false]=some (A8d (WU 2 ch o [] false)):=Axp (u:=u) (d:=d+6) (p:=some Bz) KU g (λx z=>nomatch z) Ω Ω Ψ Ω Ω Ω (by simp;omega)
 obtain⟨T,c⟩:∃T,asT ch o=T:=⟨_,rfl⟩
 obtain⟨m,fm⟩:∃m,Ac C1 prog u (d+12) 23 [.agg [Av 2,.lst false 1 ch.length (Af .u8 ch),Bg (Ab o),C3 false,Bg ⟨#[]⟩]]=some ⟨[Bg T,Av m],[]⟩:=by
  unfold asT at c;cases n:WU 2 ch o [] false with
  |ok s=>rw[n] at fm c;exact⟨0,by rw[<-c];exact fm⟩
  |error e=>rw[n] at fm c;exact⟨e,by rw[<-c];exact fm⟩
 have A:T.size<=60000:=by rw[<-c];exact ZT y
 have q:=A0d (u:=u) (d:=d+7) (s:=rp) Ω Be;have fl:=A4o (u:=u) (d:=d+11) seed h id.length (Af .u8 id) sh vf;have r:Ac C1 prog u (d+12) 24 [.agg [Ah (Fk 9 (Cp rp)),Av (Pj sh vf),Av (wrap .i64 (leaf+1)),Av f,Ah 0,.lst false 1 0 [],Av 0,Ah 0]]=some ⟨[.own 1 (Tp (HX rp sh vf leaf f)).length (Af .u8 (Tp (HX rp sh vf leaf f))),Av (vE (HX rp sh vf leaf f))],[]⟩:=A9s (u:=u) (d:=d+8) Ω (a:=HX rp sh vf leaf f) (Ag1 sh vf);have i:=Arj (HX rp sh vf leaf f);have B:=ZO (HX rp sh vf leaf f);have hd:=Aet (u:=u) (d:=d+7) (s:=T) Ω Be;have j:=Asb (u:=u) (d:=d+7) i Ω Be (Fk 11 (Cp T))
 obtain⟨M,k⟩:∃M,NT (Tp (HX rp sh vf leaf f)) (Fk 11 (Cp T))=M:=⟨_,rfl⟩
 rw[k] at j;have sg:=An7 (u:=u) (d:=d) Ω seed h leaf M;have LA:=Al .u8 (Tp (HX rp sh vf leaf f));have cA:decide (0+(Tp (HX rp sh vf leaf f)).length*1<=wy (Af .u8 (Tp (HX rp sh vf leaf f))))=true:=dT Ω;have tA:yt ((Tp (HX rp sh vf leaf f)).length*1) (nb 0 (Af .u8 (Tp (HX rp sh vf leaf f))))=Af .u8 (Tp (HX rp sh vf leaf f)):=Gp (by rw[Jo];omega)
 have A90:(Ajq seed h id sh rp o ch vf leaf f us).cells=[Av 2,Bg T,.lst false 1 (Tp (HX rp sh vf leaf f)).length (Af .u8 (Tp (HX rp sh vf leaf f))),.lst false 1 (asG seed h leaf M).length (Af .u8 (asG seed h leaf M)),.lst false 1 0 [],Av 0,.lst false 1 id.length (Af .u8 id),Bg us]:=by
  unfold Ajq Rq.cells;rw[c,k]
 rw[A90];clear A90 k c;unfold asG;cases b:Agq seed h leaf M with
 |none=>
  rw[b] at sg;simp only[PC,Sg.owned] at sg;have es:=ZR (u:=u) (d:=d+10) Ω ⟨0,[],[]⟩ Ψ;have C:E6 (([]:Ak).length:Int)=false:=Δ
  have D:J7 0 (([]:Ak).length:Int)=false:=Δ
  simp only at es;rw[C,D,Bd Ψ,Bd Ψ,Bv Ψ] at es;have es:Ac C1 prog u (d+12) 30 [.agg [Av 0,.lst false 1 0 [],.lst false 1 0 []]]=some ⟨[.own 1 0 [],Av 4],[]⟩:=es;have sg:Ac C1 prog u (d+12) 27 [Ah seed,Av h,Av leaf,Ah M]=some ⟨[.agg [Av 0,.own 1 0 [],.own 1 0 []],Av 9],[]⟩:=sg;have c0:decide (0+0*1<=wy ([]:Ae))=true:=rfl;have E:yt (0*1) (nb 0 ([]:Ae))=[]:=rfl;simp only[Aq,Ar,fm,q,fl,r,hd,cA,tA,j,sg,c0,E,es];rfl
 |some s=>
  rw[b] at sg;simp only[PC,Sg.owned] at sg
  have SN:E6 h=false/\J7 leaf h=false/\s.leaf=leaf/\s.chains.length=18/\(s.path.length:Int)=h:=by
   unfold Agq at b;cases l:E6 h
   ·rw[l,Bd Ψ] at b;cases t:J7 leaf h
    ·rw[t,Bd Ψ] at b;cases b;have:=Pg l;exact⟨rfl,rfl,rfl,by simp[GG],by simp;omega⟩
    ·rw[t,Bv rfl] at b;cases b
   ·rw[l,Bv rfl] at b;cases b
  obtain⟨v,G,H,J,K⟩:=SN;have R:=Pg v;have es:=ZR (u:=u) (d:=d+10) Ω s Ω;rw[K,H,v,G,J,Bd Ψ,Bd Ψ,Bd Ψ] at es;simp only[Sg.cells] at es;have S:=Al .u64 s.chains;have U:=Al .u64 s.path;have V:=Al .u8 (sgB s);have c1:decide (0+s.chains.length*1<=wy (Af .u64 s.chains))=true:=dT Ω;have c2:decide (0+s.path.length*1<=wy (Af .u64 s.path))=true:=dT Ω;have L:decide (0+(sgB s).length*1<=wy (Af .u8 (sgB s)))=true:=dT Ω;have N:yt (s.chains.length*1) (nb 0 (Af .u64 s.chains))=Af .u64 s.chains:=Gp (by rw[Jo];omega)
  have O:yt (s.path.length*1) (nb 0 (Af .u64 s.path))=Af .u64 s.path:=Gp (by rw[Jo];omega)
  have P:yt ((sgB s).length*1) (nb 0 (Af .u8 (sgB s)))=Af .u8 (sgB s):=Gp (by rw[Jo];omega)
  simp only[Aq,Ar,fm,q,fl,r,hd,cA,tA,j,sg,c1,c2,N,O,es,L,P]
end
theorem Bd5:sd0.ok:=⟨λx a=>(nomatch a),Δ,Δ,Δ,trivial,Δ⟩
theorem A2g(c:Cf)(m:Mt)(s:Sd)(ch:Ak)(now:Int)(r:Rq):(Xd c m s ch now r).1=sd0\/∃leaf f,(Xd c m s ch now r).1=(K9 s leaf f now).1:=by
 unfold Xd;simp only[uk]
 repeat' split
 all_goals first
  |exact .inl rfl
  |skip
 all_goals
  unfold Alc;simp only[uk]
  repeat' split
 all_goals first
  |exact .inl rfl
  |skip
 all_goals
  unfold Aj8;simp only[uk]
  repeat' split
 all_goals first
  |exact .inl rfl
  |exact .inr ⟨_,_,rfl⟩
theorem Amq{s:Sd}(a:s.ok)(b:s.rg.length<1000):(Xd c m s ch now r).1.ok:=by
 rcases A2g c m s ch now r with h|⟨l,f,h⟩
 ·rw[h];exact Bd5
 ·rw[h];exact Aso a b l f now
theorem Awt(N:0<=leaf)(O:leaf<=15)(f0:0<=f)(f1:f<=15):vE (HX rp sh vf leaf f)=0/\AO (Tp (HX rp sh vf leaf f))=some (HX rp sh vf leaf f):=by
 have n:wrap .i64 (leaf+1)=leaf+1:=Ba
 have c:vE (HX rp sh vf leaf f)=0:=by
  unfold vE HX;simp only;rw[n];have v:decide (leaf+1<0)=false:=dF Ω;have w:decide (leaf+1>16)=false:=dF Ω;have x:decide (f<0)=false:=dF Ω;have y:decide (f>=16)=false:=dF Ω;have z:(DK .i64 (Pj sh vf) 93 != 0)=false:=by cases sh<;>cases vf<;>decide
  have A:(C8 .i64 (Pj sh vf) 16 != 0)=false:=by cases sh<;>cases vf<;>decide
  have B:(C8 .i64 (Pj sh vf) 64==0)=true:=by cases sh<;>cases vf<;>decide
  unfold vT;simp only[v,w,x,y,z,A,B,cond_true,cond_false];rfl
 refine⟨c,?_⟩;obtain⟨a,d⟩:∃a,HX rp sh vf leaf f=a:=⟨_,rfl⟩
 have C:a.fl=Pj sh vf/\a.ct=leaf+1/\a.rg=f/\isU a.rp/\a.md=0/\a.idn=0/\a.id=[]/\a.kh=0/\a.kr=0:=by
  rw[<-d];exact⟨rfl,n,rfl,YA _ _,rfl,rfl,rfl,rfl,rfl⟩
 rw[d] at c ⊢;clear d;obtain⟨b,fl,ct,rg,md,idn,id,kh,kr⟩:=a;obtain⟨e,D,E,h,o,p,q,r,s⟩:=C;simp only at e D E h o p q r s;subst o p q r s;have G:0<=fl/\fl<=255:=by rw[e];cases sh<;>cases vf<;>decide
 have j:C8 .i64 fl 64=0:=by rw[e];exact Ag1 sh vf
 have H:wrap .u8 fl=fl:=Gt Ω Ω;have J:wrap .u8 ct=ct:=Gt Ω Ω;have K:wrap .u8 rg=rg:=Gt Ω Ω;unfold Tp;rw[Bv c];simp only;rw[H,J,K];have k:(B6 b).length=8:=Cu _;have l:(B6 b++[fl,ct,rg]).length=11:=by rw[Ru,k];rfl
 have g:∀i,i<3->(B6 b++[fl,ct,rg]).getD (8+i) 0=[fl,ct,rg].getD i 0:=by
  intro i hi;rw[zj,kf Ω,k,show 8+i-8=i by omega,<-zj]
 have t:(B6 b++[fl,ct,rg]).getD 8 0=fl:=g 0 Ω;have L:(B6 b++[fl,ct,rg]).getD 9 0=ct:=g 1 Ω;have m:(B6 b++[fl,ct,rg]).getD 10 0=rg:=g 2 Ω;have M:(B6 b++[fl,ct,rg]).take 8=B6 b:=List.take_left' k
 have an:adN (B6 b++[fl,ct,rg])=⟨b,fl,ct,rg,0,0,[],0,0⟩:=by
  unfold adN;rw[t,L,m,M,Ae7 h.1 h.2]
 rw[Asq l (by rw[t];exact j),an,Bv c]
theorem Ayc(c:Ch ch)(h:1<=ch.length)(i:ch.length<=64)(d:o.length<=100)(e:Hv o=0):L4 (asT ch o)=.ok (2,ch,o,false,[]):=by
 have a:WU 2 ch o [] false=.ok (fmH tyG ch o++fA4):=by
  unfold WU;have f:tyS 2=some tyG:=rfl;rw[f];simp only;rw[Bd Ω,Bd (by simp[e])];rfl
 have j:(fmH tyG ch o++fA4).length<=1000:=by
  have g:=YF ch;simp only[fmH,YI,fA2,fA3,fA4,tyG,Ru,M9,SO];omega
 have b:=A7s (w:=[]) c a (by rfl) (by simp only[SJ,vy];omega)
 simp only[SJ,vy] at b;unfold asT;rw[a];exact b
theorem Aty{s:Sd}(n0:0<=now)(n1:now<=1099511627776)(B:Ch ch)(C:1<=ch.length)(D:ch.length<=64)(j:o.length<=100)(E:Hv o=0)(n:E6 h=false)(p:J7 leaf h=false)(l0:0<=leaf)(G:leaf<=15)(f0:0<=f)(f1:f<=15)(H:(⟨s.ht,s.root⟩:Ky)=Vp seed h)(MK:inO c.os (Ab o)=true):
  Xd c m s ch now (Ajq seed h s.id sh c.rp o ch vf leaf f us) =
   bif Abw c.p (HX c.rp sh vf leaf f) s.sh s.model (stS m s.model now) != 0 then (sd0,Abw c.p (HX c.rp sh vf leaf f) s.sh s.model (stS m s.model now)) else
   bif (K9 s leaf f now).2 != 0 then (bif (K9 s leaf f now).2 != 37 then (sd0,(K9 s leaf f now).2) else K9 s leaf f now) else K9 s leaf f now:=by
 have J:decide (now<0)=false:=dF Ω;have K:decide (now>1099511627776)=false:=dF Ω;obtain⟨L,q⟩:=Awt (rp:=c.rp) (sh:=sh) (vf:=vf) l0 G f0 f1;obtain⟨r,b⟩:∃r,Ajq seed h s.id sh c.rp o ch vf leaf f us=r:=⟨_,rfl⟩
 have N:r.kind=2:=by rw[<-b];rfl
 have t:r.cd=asT ch o:=by rw[<-b];rfl
 have v:r.ad=Tp (HX c.rp sh vf leaf f):=by rw[<-b];rfl
 have O:r.id=s.id:=by rw[<-b];rfl
 have rs:r.sg=asG seed h leaf (NT r.ad (Fk 11 (Cp r.cd))):=by rw[v,t,<-b];rfl
 rw[b];clear b
 have P:Adj c.os 2 ch r=0:=by
  unfold Adj;rw[N,t,Ayc B C D j E];simp only[Ala,MK];rfl
 obtain⟨M,w⟩:∃M,NT r.ad (Fk 11 (Cp r.cd))=M:=⟨_,rfl⟩
 rw[w] at rs;obtain⟨g,s1,s2,k,Q,x,R⟩:=A76 (seed:=seed) (h:=h) (leaf:=leaf) (m:=M) n p
 have sg:sgD r.sg=some g:=by
  rw[rs];unfold asG;rw[s1];exact A9c s2 (by rw[x];exact n) (by rw[x,k];exact p) Q
 have S:eqB r.id s.id=true:=by rw[O];exact Ala _
 have y:AO r.ad=some (HX c.rp sh vf leaf f):=by rw[v];exact q
 have l:XI ⟨s.ht,s.root⟩ M g=0:=by rw[H];exact R
 have IV:(HX c.rp sh vf leaf f).fl=Pj sh vf:=rfl;have d:(HX c.rp sh vf leaf f).rp=Fk 9 (Cp c.rp):=rfl;have e:(HX c.rp sh vf leaf f).ct=wrap .i64 (leaf+1):=rfl;have i:(HX c.rp sh vf leaf f).rg=f:=rfl;obtain⟨a,z⟩:∃a,HX c.rp sh vf leaf f=a:=⟨_,rfl⟩
 rw[z] at y IV d e i ⊢;clear z q L;have T:(C8 .i64 a.fl 64 != 0)=false:=by rw[IV,Ag1 sh vf];rfl
 have rpE:(a.rp != Fk 9 (Cp c.rp))=false:=by rw[d];simp
 have ct:(a.ct != wrap .i64 (g.leaf+1))=false:=by rw[k,e];simp
 have A:((0:Int) != 0)=false:=rfl;unfold Xd;rw[J,K,P,S,y];simp only[cond_false,Gc,A];unfold Alc;rw[T,rpE,sg];simp only[cond_false];unfold Aj8;rw[w,l,ct,k,i];simp only[cond_false,A]
theorem Bcf(id:Ak)(R:Int):K9 ⟨id,2,R,0,0,false,0,[],false,1,1⟩ 2 0 5=(⟨id,2,R,0,0,false,4,[(0,2)],false,1,5⟩,0):=Κ
theorem Bdy(id:Ak)(R:Int):K9 ⟨id,2,R,0,0,false,4,[(0,2)],false,1,5⟩ 2 0 5=(⟨id,2,R,0,0,false,4,[(0,2)],true,1,5⟩,37):=Κ
theorem Al1(rp:ByteArray)(vf:Bool)(leaf f st:Int):Abw SV (HX rp false vf leaf f) false 0 st=0:=by
 have a:QZ 0 (Pj false vf)=0:=by cases vf<;>decide
 have b:((C8 .i64 (Pj false vf) 8 != 0)==false)=true:=by cases vf<;>decide
 show (if QZ 0 (Pj false vf)=0 then if ((C8 .i64 (Pj false vf) 8 != 0)==false)=true then if (0:Int)=0 then 0 else Avj [] false 0 st else 40 else QZ 0 (Pj false vf))=0;rw[Bv a,Bv b,Bv rfl]
section
variable {u d:Nat}
set_option maxHeartbeats 2000000 in
theorem A60(Be:1000400<=u)(h:c.ok)(i:m.ok){s:Sd}(a:s.ok)(b:s.rg.length<1000)(ch:Ak)(now:Int)(j:r.ok):
  Ac C1 prog u (d+26) 16 [.agg c.cells,.agg m.cells,.agg s.cells,.lst false 1 ch.length (Af .u8 ch),Av now,.agg r.cells]=some ⟨[C3 true],[]⟩:=by
 refine (LV u (d+25) c.rp c.ti c.os.length (CZ c.os) c.p.vf c.p.rs c.p.ht c.p.pr c.p.sh c.p.fm c.p.od c.p.dn.length (Af .u64 c.p.dn) c.p.op c.sec c.kh c.kr m.v m.i m.x m.es.length (mnC m.es) m.lf m.n1 m.c1 m.n2 m.c2 s.id.length (Af .u8 s.id) s.ht s.root s.model s.fmt s.sh s.used s.rg.length (Gv s.rg) s.sus s.since s.last ch.length (Af .u8 ch) now r.kind r.cd r.ad.length (Af .u8 r.ad) r.sg.length (Af .u8 r.sg) r.cn r.cc r.fm r.id.length (Af .u8 r.id) r.us).trans ?_;have e:=OD (u:=u) (d:=d+16) Be h i a ch now j;have f:=Apl (u:=u) (d:=d) Be h i a ch now j;have g:=Avy (u:=u) (d:=d+23) (Amq (c:=c) (m:=m) (ch:=ch) (now:=now) (r:=r) a b) Ω;generalize Xd c m s ch now r=Z at e f g;simp only[Cf.cells,Mt.cells,Sd.cells,Rq.cells] at e f g;have z:(Z.2==Z.2)=true:=Ψ
 simp only[Aq,Ar,e,f,g,z]
abbrev mt0:Mt:=⟨0,0,0,[],0,0,[],0,[]⟩
theorem Apk:mt0.ok:=⟨Δ,λe a=>(nomatch a)⟩
def stK(seed h:Int)(id:Ak)(sh:Bool)(model:Int):Sd:=⟨id,(Vp seed h).h,(Vp seed h).root,model,0,sh,0,[],false,1,1⟩
theorem Az8{id:Ak}(a:Ch id)(b:id.length=176)(sh:Bool)(model:Int):(stK seed h id sh model).ok:=⟨a,by show id.length<=_;omega,by show (0:Int)<=0;decide,by show (0:Int)<=_;decide,trivial,by show (0:Nat)<=1000;decide⟩
theorem Aez(Be:1000<=u)(seed h:Int)(id:Ak)(sh:Bool)(model:Int):Ac C1 prog u (d+14) 9 [.agg [Ah seed,Av h,.lst false 1 id.length (Af .u8 id),C3 sh],Ah model]=some ⟨[.agg (stK seed h id sh model).cells],[]⟩:=by refine (FY u (d+13) seed h id.length (Af .u8 id) sh model).trans ?_;have a:=Aiz (u:=u) (d:=d) Be seed h;simp only[Ky.cells] at a;simp only[Aq,Ar,a];rfl
theorem Ath:Hv (Cp oxS)=0:=by decide +kernel
set_option maxHeartbeats 4000000 in
theorem A1l(Be:1000400<=u):Ac C1 prog u (d+27) 18 []=some ⟨[C3 true],[]⟩:=by
 refine (GZ u (d+26)).trans ?_;obtain⟨id,C,k,M⟩:=Bap (u:=u) (d:=d+19) Ω 1 2 false;have V:wrap .u64 (1000+wrap .u64 1)=1001:=Δ
 rw[V] at M;obtain⟨b,l,N,D⟩:=Ahp (u:=u) (d:=d+20) (p:=some Bz) Ω 1 (n:=16) Ω;have D:Ac C1 prog u (d+26) 6 [Av 1,Av 16]=some ⟨[.own 1 16 (Af .u8 b)],[]⟩:=D;have Li:=Al .u8 id;have Lb:=Al .u8 b;have c1:decide (0+176*1<=wy (Af .u8 id))=true:=dT Ω;have O:yt (176*1) (nb 0 (Af .u8 id))=Af .u8 id:=Gp (by rw[Jo];omega)
 have c2:decide (0+16*1<=wy (Af .u8 b))=true:=dT Ω;have E:yt (16*1) (nb 0 (Af .u8 b))=Af .u8 b:=Gp (by rw[Jo];omega)
 have i:=Age (u:=u) (d:=d+13) Be (seed:=1001) (h:=2) (id:=id) (sh:=false) (rp:=exS) (o:=Cp oxS) (ch:=b) (vf:=false) (leaf:=2) (f:=0) (us:=ByteArray.mk #[117]) Δ (Vn _) (by rw[Cj];decide) l Ω
 rw[Hk,k,N] at i;obtain⟨r,A⟩:∃r,Ajq 1001 2 id false exS (Cp oxS) b false 2 0 (ByteArray.mk #[117])=r:=⟨_,rfl⟩
 have Bkk:r.ok:=by rw[<-A];exact A7a (by rw[Cj];decide)
 rw[A] at i;have G:=Avz (u:=u) (d:=d+11) Ω;have B:=Aez (u:=u) (d:=d+12) Ω 1001 2 id false 0;rw[k] at B;obtain⟨R,P⟩:∃R,(Vp 1001 2).root=R:=⟨_,rfl⟩
 have q:stK 1001 2 id false 0=⟨id,2,R,0,0,false,0,[],false,1,1⟩:=by
  unfold stK;rw[Aas Δ,P]
 have Q:(⟨2,R⟩:Ky)=Vp 1001 2:=by
  have:=Aas (seed:=1001) (h:=2) Δ;rw[<-P];generalize Vp 1001 2=K at this;obtain⟨x,y⟩:=K;simp only at this;rw[this]
 obtain⟨g,j⟩:∃g:Sd,g=⟨id,2,R,0,0,false,0,[],false,1,1⟩:=⟨_,rfl⟩
 have s0ok:g.ok:=by rw[j,<-q];exact Az8 C k _ _
 rw[q,<-j] at B;have S:=Aty (c:=cfW SV 5) (m:=mt0) (s:=g) (seed:=1001) (h:=2) (sh:=false) (o:=Cp oxS) (ch:=b) (vf:=false) (leaf:=2) (f:=0) (now:=5) (us:=ByteArray.mk #[117]) Δ Δ l Ω Ω (by rw[Cj];decide) Ath Δ Δ Δ Δ Δ Δ (by rw[j];exact Q) (by rw[Hk];decide)
 have W:g.id=id:=by rw[j]
 rw[W,show (cfW SV 5).rp=exS from rfl,A] at S;obtain⟨e,a⟩:∃e:Sd,e=⟨id,2,R,0,0,false,4,[(0,2)],false,1,5⟩:=⟨_,rfl⟩
 have T:Xd (cfW SV 5) mt0 g b 5 r=(e,0):=by
  have H:K9 g 2 0 5=(e,0):=by rw[j,a];exact Bcf id R
  have J:g.sh=false:=by rw[j]
  have L:g.model=0:=by rw[j]
  rw[S,H,J,L,Al1];rfl
 have s1ok:e.ok:=by
  have:=Amq (c:=cfW SV 5) (m:=mt0) (s:=g) (ch:=b) (now:=5) (r:=r) s0ok (by rw[j];show (0:Nat)<1000;decide)
  rw[T] at this;exact this
 have U:=Aty (c:=cfW SV 5) (m:=mt0) (s:=e) (seed:=1001) (h:=2) (sh:=false) (o:=Cp oxS) (ch:=b) (vf:=false) (leaf:=2) (f:=0) (now:=5) (us:=ByteArray.mk #[117]) Δ Δ l Ω Ω (by rw[Cj];decide) Ath Δ Δ Δ Δ Δ Δ (by rw[a];exact Q) (by rw[Hk];decide)
 have i1:e.id=id:=by rw[a]
 rw[i1,show (cfW SV 5).rp=exS from rfl,A] at U;obtain⟨t,v⟩:∃t:Sd,t=⟨id,2,R,0,0,false,4,[(0,2)],true,1,5⟩:=⟨_,rfl⟩
 have X:Xd (cfW SV 5) mt0 e b 5 r=(t,37):=by
  have H:K9 e 2 0 5=(t,37):=by rw[a,v];exact Bdy id R
  have J:e.sh=false:=by rw[a]
  have L:e.model=0:=by rw[a]
  rw[U,H,J,L,Al1];rfl
 have w:=OD (u:=u) (d:=d+17) Be (Aqs (p:=SV) Δ 5) Apk s0ok b 5 Bkk;have z:=OD (u:=u) (d:=d+17) Be (Aqs (p:=SV) Δ 5) Apk s1ok b 5 Bkk;rw[T] at w;rw[X] at z;rw[N] at w z;simp only[Cf.cells,Sd.cells,Rq.cells] at i G B w z;have Y:mt0.cells=[Av 0,Av 0,Av 0,.lst false 3 0 [],Av 0,.lst false 1 0 [],.lst false 1 0 []]:=rfl;rw[Y] at w z;have u1:e.used=4:=by rw[a]
 have Z:e.last=5:=by rw[a]
 have u3:t.sus=true:=by rw[v]
 have z0:((0:Int)==0)=true:=rfl;have z1:(e.used==4)=true:=by rw[u1];rfl
 have z2:(e.last==5)=true:=by rw[Z];rfl
 have z3:((37:Int)==37)=true:=rfl;simp only[Aq,Ar,M,D,c1,O,c2,E,i];rw[AR (Es:=Ω)];simp only[Aq,Ar,G,c1,O,B,c2,E,w];rw[AF (Es:=Ω)];simp only[Aq,Ar,G,c2,E,z];rw[BN (Es:=Ω)];simp only[Aq,Ar,z0,z1,z2,z3,u3]
end
section
variable {I:FuncId->Option (Ae->Option A3)}(u d:Nat)(F:An)
theorem Zy(u d M:Nat)(L:Ae)(K W:Int)(Y:ByteArray)(V:Nat)(U:Ae)(T:Nat)(S:Ae)(Z:Nat)(X:Ae)(O:Int)(Q:Nat)(P:Ae)(N:ByteArray):Ac (CP p) prog u (d+1) 13 [.pbox [Am 1 M L,K],.agg [W,Y,Am 1 V U,Am 1 T S,Am 1 Z X,O,Am 1 Q P,N]]=(λ(F:An)=>Ao (F 7 [.pbox [Am 1 M L,K],(12:Int)]) λa b=>Bq .i64 a λa=>Ad b λb c=>Hd 1 b λb e f=>Bq .i64 f λf=>(λk:PV=>(λi:Option A3=>(λj:Option A3=>(λm:Option A3=>Ag c<|Ap (a==0) (Aa (wrap .i64 (3-W)) λa=>some ⟨[.agg [a,Y,Am 1 V U,Am 1 T S,Am 1 Z X,O,Am 1 Q P,N]],[[Am 1 b e,f]]⟩) (Ap (a==1) (As (decide (mm Y+1<=9223372036854775807))<|Aa (Y++ByteArray.mk #[32]) λa=>some ⟨[.agg [W,a,Am 1 V U,Am 1 T S,Am 1 Z X,O,Am 1 Q P,N]],[[Am 1 b e,f]]⟩) (Ap (a==2) (Aa (wrap .i64 (Int.tdiv (↑(mm Y):Int) 2)) λa=>As (decide (0<=a))<|As (decide (a.toNat<=mm Y))<|Aa (mn Y 0 a.toNat) λa=>some ⟨[.agg [W,a,Am 1 V U,Am 1 T S,Am 1 Z X,O,Am 1 Q P,N]],[[Am 1 b e,f]]⟩) (Ap (a==3) i (Ap (a==4) i (Ap (a==5) j (Ap (a==6) j (Ap (a==7) (Ao (F 7 [k,(5:Int)]) λa b=>Bq .i64 a λa=>Ad b λb c=>Hd 1 b λb e f=>Bq .i64 f λf=>Ag c<|Aa (wrap .i64 (a-1)) λa=>some ⟨[.agg [W,Y,Am 1 V U,Am 1 T S,Am 1 Z X,a,Am 1 Q P,N]],[[Am 1 b e,f]]⟩) (Ap (a==8) (Ao (F 7 [k,(200:Int)]) λa b=>Bq .i64 a λa=>Ad b λb c=>Hd 1 b λb e f=>Bq .i64 f λf=>Ag c<|Cn (F 31 [Am 1 Q P,a]) λa c=>K5 1 a λa g=>Ag c<|As (decide (0+a*1<=g.length))<|some ⟨[.agg [W,Y,Am 1 V U,Am 1 T S,Am 1 Z X,O,Am 1 a (yt (a*1) (g.drop 0)),N]],[[Am 1 b e,f]]⟩) (Ap (a==9) (Ao (F 7 [k,(2:Int)]) λa b=>Bq .i64 a λa=>Ad b λb c=>Hd 1 b λb e f=>Bq .i64 f λf=>Ag c<|As (decide (0<=a)&&decide (a<2))<|At (f9 [Bg ⟨#[]⟩,Bg ⟨#[120]⟩] (0+a.toNat*1) .top) λa=>some ⟨[.agg [W,Y,Am 1 V U,Am 1 T S,Am 1 Z X,O,Am 1 Q P,a]],[[Am 1 b e,f]]⟩) (Ap (a==10) (As (decide (X.length=Z*1)&&decide (Z*24<=1099511627776)&&decide (Z<=1099511627776))<|Ao (F 7 [k,(20:Int)]) λa b=>Bq .i64 a λa=>Ad b λb c=>Hd 1 b λb e f=>Bq .i64 f λf=>Ag c<|Cn (F 6 [(3:Int),a]) λa c=>K5 1 a λa g=>Ag c<|As (decide (0+a*1<=g.length))<|XN Z 1 24 X [Am 1 a (yt (a*1) (g.drop 0))] λa c=>As (decide (0+a*1<=c.length))<|some ⟨[.agg [W,Y,Am 1 V U,Am 1 T S,Am 1 a (yt (a*1) (c.drop 0)),O,Am 1 Q P,N]],[[Am 1 b e,f]]⟩) (Ap (a==11) (Ap (decide ((↑Z:Int)>0)) (As (decide (0<(↑Z:Int)))<|Y9 1 (X.getD 0 .top) λa c g=>Ao (F 7 [k,(300:Int)]) λa b=>Bq .i64 a λa=>Ad b λb e=>Hd 1 b λb f h=>Bq .i64 h λh=>Ag e<|Cn (F 31 [Am 1 c g,a]) λa c=>K5 1 a λa e=>Ag c<|As (decide (0+a*1<=e.length))<|some ⟨[.agg [W,Y,Am 1 V U,Am 1 T S,Am 1 1 [Am 1 a (yt (a*1) (e.drop 0))],O,Am 1 Q P,N]],[[Am 1 b f,h]]⟩) m) m)))))))))))) (some ⟨[.agg [W,Y,Am 1 V U,Am 1 T S,Am 1 Z X,O,Am 1 Q P,N]],[[Am 1 b e,f]]⟩)) (Ao (F 7 [k,(300:Int)]) λa b=>Bq .i64 a λa=>Ad b λb c=>Hd 1 b λb e f=>Bq .i64 f λf=>Ag c<|Cn (F 31 [Am 1 T S,a]) λa c=>K5 1 a λa g=>Ag c<|As (decide (0+a*1<=g.length))<|some ⟨[.agg [W,Y,Am 1 V U,Am 1 a (yt (a*1) (g.drop 0)),Am 1 Z X,O,Am 1 Q P,N]],[[Am 1 b e,f]]⟩)) (Ao (F 7 [k,(300:Int)]) λa b=>Bq .i64 a λa=>Ad b λb c=>Hd 1 b λb e f=>Bq .i64 f λf=>Ag c<|Cn (F 31 [Am 1 V U,a]) λa c=>K5 1 a λa g=>Ag c<|As (decide (0+a*1<=g.length))<|some ⟨[.agg [W,Y,Am 1 a (yt (a*1) (g.drop 0)),Am 1 T S,Am 1 Z X,O,Am 1 Q P,N]],[[Am 1 b e,f]]⟩)) (.pbox [Am 1 b e,f])) (Ac (CP p) prog u d):=Κ
end
theorem Bdv:∀(x:Fin 256)(k:Fin 8),Fh .u8 (x.val:Int) (Dv .u8 1 (k.val:Int))≠(x.val:Int):=by decide +kernel
section
variable {u d:Nat}
theorem A91(C:Ch b)(M:b.length<=1000){n:Int}(H:0<=n)(N:n<=1000000):∃r,Ch r/\r.length<=1001/\r≠b/\∀{u d:Nat},Ac C1 prog u (d+1) 31 [.lst false 1 b.length (Af .u8 b),Av n]=some ⟨[.own 1 r.length (Af .u8 r)],[]⟩:=by
 by_cases q:b.length=0
 ·refine⟨[wrap .u8 n],?_,Ψ,?_,λ{u d}=>(Wi u d b.length (Af .u8 b) n).trans ?_⟩
  ·intro x e;simp at e;subst e;exact Acj n
  ·intro h;rw[<-h] at q;simp at q
  ·have i:((b.length:Int)==0)=true:=by rw[q];rfl
   simp(disch:=omega)only[Aq,Ar,i];rfl
 have O:0<=nr n b.length:=Int.tmod_nonneg _ H;have P:nr n b.length<b.length:=Int.tmod_lt_of_pos _ Ω;have s:(nr n b.length).toNat<b.length:=by generalize nr n b.length=J at *;omega
 obtain⟨x,e⟩:∃x,b[(nr n b.length).toNat]?=some x:=⟨_,zd s⟩
 have D:=Tm (k:=.u8) e;have xB:=C x (zn e);have K:=Ano (a:=n) (m:=7) Ω Ω;obtain⟨c,t⟩:∃c,C8 .i64 n 7=c:=⟨_,rfl⟩
 rw[t] at K;have E:wrap .u64 c=c:=Cq;have L:=Al .u8 b;obtain⟨v,o⟩:∃v,Fh .u8 x (Dv .u8 1 c)=v:=⟨_,rfl⟩
 have w:0<=v/\v<=255:=by rw[<-o];exact Acj _
 have z:v≠x:=by
  obtain⟨x,rfl⟩:=g8 xB.1;obtain⟨c,rfl⟩:=g8 (show 0<=c by omega);rw[<-o];exact Bdv ⟨x,Ω⟩ ⟨c,Ω⟩
 have es:B9 (Af .u8 b) [.sc (.int .u8 v)] (nr n b.length).toNat=Af .u8 (b.set (nr n b.length).toNat v):=by
  rw[J4 (by rw[L];exact s)]
  have:=Apt (f:=A85 .u8) (IL .u8) (p:=.sc (.int .u8 v)) (j:=0) Ω e (y:=v) rfl;rw[Jp,Zzr] at this;exact this
 have A:=NH .u8 (b.set (nr n b.length).toNat v);have B:(b.set (nr n b.length).toNat v).length=b.length:=List.length_set;have G:=Al .u8 (b.set (nr n b.length).toNat v);rw[B] at A;refine⟨b.set (nr n b.length).toNat v,?_,by rw[B];omega,?_,λ{u d}=>(Wi u d b.length (Af .u8 b) n).trans ?_⟩
 ·intro y g;rcases List.mem_or_eq_of_mem_set g with g|g
  ·exact C y g
  ·subst g;exact w
 ·intro h;have:=congrArg (λl=>l[(nr n b.length).toNat]?) h;simp only[List.getElem?_set_self s,e] at this;exact z (Option.some.inj this)
 have i:((b.length:Int)==0)=false:=beq_eq_false_iff_ne.2 Ω;rw[B];generalize nr n b.length=J at *
 repeat(with_reducible(first|apply Bk|apply A5|apply Bm|apply Bo|apply K0|apply Of|apply A4|apply Bn|apply H7);· first|constructor|(simp(disch:=omega)only[H9,i,I8,Jp,L,D,t,E,o,es,G,A]<;>first|constructor|omega)|omega)
 try simp(disch:=omega)only[Aa,i,I8,Jp,L,D,t,E,o,es,G,A]
 all_goals rfl
structure Rq.few(r:Rq):Prop where
 cd:r.cd.size<=60000
 adB:Ch r.ad
 ad:r.ad.length<=1000
 sgB:Ch r.sg
 sg:r.sg.length<=1000
 idB:Ch r.id
 id:r.id.length<=1000
 cn:r.cn=0
 cc:r.cc=[]
theorem A8t(seed h leaf m:Int):(asG seed h leaf m).length<=1000:=by
 unfold asG;split
 ·rename_i s a;unfold Agq at a;split at a
  ·cases a
  split at a
  ·cases a
  rename_i b _;cases a;have c:=Pg (h:=h) (by simpa using b);rw[A8a];simp[GG];omega
 ·simp
theorem A2h{id:Ak}(b:o.length<=50000)(hi:Ch id)(a:id.length<=1000):(Ajq seed h id sh rp o ch vf leaf f us).few:=
 ⟨ZT b,Arj _,by have:=ZO (HX rp sh vf leaf f);show (Tp _).length<=_;omega,Bas _ _ _ _,A8t _ _ _ _,hi,a,rfl,rfl⟩
theorem Rq.few.ok(h:r.few):r.ok:=⟨by have:=h.cd;omega,h.adB,by have:=h.ad;omega,h.sgB⟩
set_option maxHeartbeats 4000000 in
theorem Bb5(Be:1000<=u)(V:r.few){l:Ak}(B:l.length<=maxLen)(i:Nat):∃(s:Rq)(j:Nat),s.ok/\Ac C1 prog u (d+8) 13 [.pbox (GF l i),.agg r.cells]=some ⟨[.agg s.cells],[GF l j]⟩:=by
 obtain⟨v,j,v0,v1,e⟩:=G1 B i 12 Ω Ω;have e:=e (u:=u) (d:=d+5) (p:=some Bz);obtain⟨kind,cd,ad,sg,cn,cc,fm,id,us⟩:=r;obtain⟨W,t,C,z,D,H,J,K,M⟩:=V;simp only at W t C z D H J K M;subst K M;have E:∀{R:Option A3},_=R->_=R:=λ{R} q=>(Zy (p:=some Bz) u (d+7) l.length (Af .i64 l) i kind cd ad.length (Af .u8 ad) sg.length (Af .u8 sg) 0 [] fm id.length (Af .u8 id) us).trans q;have X:v=0\/v=1\/v=2\/v=3\/v=4\/v=5\/v=6\/v=7\/v=8\/v=9\/v=10\/v=11:=Ω
 simp only[GF] at e
 have FL:∀{b:Ak},Ch b->b.length<=1000->∀m:Int,0<m->m<=1000->∃(x:Ak) (w:Int) (g:Nat),Ch x/\x.length<=1001/\Ac C1 prog u (d+7) 7 [.pbox [.lst false 1 l.length (Af .i64 l),Av (j:Int)],Av m]=some ⟨[Av w],[[.lst false 1 l.length (Af .i64 l),Av (g:Int)]]⟩ /\
   Ac C1 prog u (d+7) 31 [.lst false 1 b.length (Af .u8 b),Av w]=some ⟨[.own 1 x.length (Af .u8 x)],[]⟩/\decide (0+x.length*1<=wy (Af .u8 x))=true/\yt (x.length*1) (nb 0 (Af .u8 x))=Af .u8 x:=by
  intro b Y Z m hm hm2;obtain⟨w,g,w0,G,c⟩:=G1 B j m hm Ω;obtain⟨x,x1,A,_,f⟩:=A91 Y Z w0 Ω;have L:=Al .u8 x;exact⟨x,w,g,x1,A,c (u:=u) (d:=d+5) (p:=some Bz),f (u:=u) (d:=d+6),dT Ω,Gp (by rw[Jo];omega)⟩
 rcases X with rfl|rfl|rfl|rfl|rfl|rfl|rfl|rfl|rfl|rfl|rfl|rfl
 ·refine⟨⟨wrap .i64 (3-kind),cd,ad,sg,0,[],fm,id,us⟩,j,⟨by simp only;omega,t,by simp only;omega,z⟩,E ?_⟩
  repeat(with_reducible(first|apply Bk|apply A5|apply Bm|apply Bo|apply K0|apply Of|apply A4|apply Bn|apply H7);· first|constructor|(simp(disch:=omega)only[H9,Int.reduceBEq,e]<;>first|constructor|omega)|omega)
  try simp(disch:=omega)only[Aa,Int.reduceBEq,e]
  all_goals rfl
 ·have e1:(ByteArray.mk #[32]).size=1:=rfl;refine⟨⟨kind,cd++ByteArray.mk #[32],ad,sg,0,[],fm,id,us⟩,j,⟨by simp only;rw[ByteArray.size_append,e1];omega,t,by simp only;omega,z⟩,E ?_⟩
  repeat(with_reducible(first|apply Bk|apply A5|apply Bm|apply Bo|apply K0|apply Of|apply A4|apply Bn|apply H7);· first|constructor|(simp(disch:=omega)only[H9,Int.reduceBEq,e]<;>first|constructor|omega)|omega)
  try simp(disch:=omega)only[Aa,Int.reduceBEq,e]
  all_goals rfl
 ·have N:Int.tdiv (cd.size:Int) 2=((cd.size / 2:Nat):Int):=by
   rw[Int.ofNat_tdiv];rfl
  have w0:wrap .i64 ((cd.size / 2:Nat):Int)=((cd.size / 2:Nat):Int):=Ba;have n0:wj ((cd.size / 2:Nat):Int)=cd.size / 2:=rfl;refine⟨⟨kind,mn cd 0 (cd.size / 2),ad,sg,0,[],fm,id,us⟩,j,⟨by simp only;rw[ByteArray.size_extract];omega,t,by simp only;omega,z⟩,E ?_⟩
  repeat(with_reducible(first|apply Bk|apply A5|apply Bm|apply Bo|apply K0|apply Of|apply A4|apply Bn|apply H7);· first|constructor|(simp(disch:=omega)only[H9,Int.reduceBEq,e,N,w0,n0]<;>first|constructor|omega)|omega)
  try simp(disch:=omega)only[Aa,Int.reduceBEq,e,N,w0,n0]
  all_goals rfl
 ·obtain⟨x,w,g,x1,A,c,f,k,o⟩:=FL t C 300 Ω Ω;refine⟨⟨kind,cd,x,sg,0,[],fm,id,us⟩,g,⟨by simp only;omega,x1,by simp only;omega,z⟩,E ?_⟩
  repeat(with_reducible(first|apply Bk|apply A5|apply Bm|apply Bo|apply K0|apply Of|apply A4|apply Bn|apply H7);· first|constructor|(simp(disch:=omega)only[H9,Int.reduceBEq,e,c,f,k,o]<;>first|constructor|omega)|omega)
  try simp(disch:=omega)only[Aa,Int.reduceBEq,e,c,f,k,o]
  all_goals rfl
 ·obtain⟨x,w,g,x1,A,c,f,k,o⟩:=FL t C 300 Ω Ω;refine⟨⟨kind,cd,x,sg,0,[],fm,id,us⟩,g,⟨by simp only;omega,x1,by simp only;omega,z⟩,E ?_⟩
  repeat(with_reducible(first|apply Bk|apply A5|apply Bm|apply Bo|apply K0|apply Of|apply A4|apply Bn|apply H7);· first|constructor|(simp(disch:=omega)only[H9,Int.reduceBEq,e,c,f,k,o]<;>first|constructor|omega)|omega)
  try simp(disch:=omega)only[Aa,Int.reduceBEq,e,c,f,k,o]
  all_goals rfl
 ·obtain⟨x,w,g,x1,A,c,f,k,o⟩:=FL z D 300 Ω Ω;refine⟨⟨kind,cd,ad,x,0,[],fm,id,us⟩,g,⟨by simp only;omega,t,by simp only;omega,x1⟩,E ?_⟩
  repeat(with_reducible(first|apply Bk|apply A5|apply Bm|apply Bo|apply K0|apply Of|apply A4|apply Bn|apply H7);· first|constructor|(simp(disch:=omega)only[H9,Int.reduceBEq,e,c,f,k,o]<;>first|constructor|omega)|omega)
  try simp(disch:=omega)only[Aa,Int.reduceBEq,e,c,f,k,o]
  all_goals rfl
 ·obtain⟨x,w,g,x1,A,c,f,k,o⟩:=FL z D 300 Ω Ω;refine⟨⟨kind,cd,ad,x,0,[],fm,id,us⟩,g,⟨by simp only;omega,t,by simp only;omega,x1⟩,E ?_⟩
  repeat(with_reducible(first|apply Bk|apply A5|apply Bm|apply Bo|apply K0|apply Of|apply A4|apply Bn|apply H7);· first|constructor|(simp(disch:=omega)only[H9,Int.reduceBEq,e,c,f,k,o]<;>first|constructor|omega)|omega)
  try simp(disch:=omega)only[Aa,Int.reduceBEq,e,c,f,k,o]
  all_goals rfl
 ·obtain⟨w,g,w0,G,c⟩:=G1 B j 5 Ω Ω;have c:=c (u:=u) (d:=d+5) (p:=some Bz);simp only[GF] at c;refine⟨⟨kind,cd,ad,sg,0,[],wrap .i64 (w-1),id,us⟩,g,⟨by simp only;omega,t,by simp only;omega,z⟩,E ?_⟩
  repeat(with_reducible(first|apply Bk|apply A5|apply Bm|apply Bo|apply K0|apply Of|apply A4|apply Bn|apply H7);· first|constructor|(simp(disch:=omega)only[H9,Int.reduceBEq,e,c]<;>first|constructor|omega)|omega)
  try simp(disch:=omega)only[Aa,Int.reduceBEq,e,c]
  all_goals rfl
 ·obtain⟨x,w,g,x1,A,c,f,k,o⟩:=FL H J 200 Ω Ω;refine⟨⟨kind,cd,ad,sg,0,[],fm,x,us⟩,g,⟨by simp only;omega,t,by simp only;omega,z⟩,E ?_⟩
  repeat(with_reducible(first|apply Bk|apply A5|apply Bm|apply Bo|apply K0|apply Of|apply A4|apply Bn|apply H7);· first|constructor|(simp(disch:=omega)only[H9,Int.reduceBEq,e,c,f,k,o]<;>first|constructor|omega)|omega)
  try simp(disch:=omega)only[Aa,Int.reduceBEq,e,c,f,k,o]
  all_goals rfl
 ·obtain⟨w,g,w0,G,c⟩:=G1 B j 2 Ω Ω;have c:=c (u:=u) (d:=d+5) (p:=some Bz);simp only[GF] at c
  obtain⟨a,O⟩:∃a,f9 [PV.sc (Value.string ⟨#[]⟩),PV.sc (Value.string ⟨#[120]⟩)] (0+wj w*1) PV.top=Bg a:=by
   rcases (by omega:w=0\/w=1) with h|h<;>subst h
   ·exact⟨_,rfl⟩
   ·exact⟨_,rfl⟩
  refine⟨⟨kind,cd,ad,sg,0,[],fm,id,a⟩,g,⟨by simp only;omega,t,by simp only;omega,z⟩,E ?_⟩
  repeat(with_reducible(first|apply Bk|apply A5|apply Bm|apply Bo|apply K0|apply Of|apply A4|apply Bn|apply H7);· first|constructor|(simp(disch:=omega)only[H9,Int.reduceBEq,e,c,O]<;>first|constructor|omega)|omega)
  try simp(disch:=omega)only[Aa,Int.reduceBEq,e,c,O]
  all_goals rfl
 ·obtain⟨w,g,w0,G,c⟩:=G1 B j 20 Ω Ω;have c:=c (u:=u) (d:=d+5) (p:=some Bz);simp only[GF] at c;obtain⟨w,rfl⟩:=g8 w0;obtain⟨x,x1,A,f⟩:=Ahp (u:=u) (d:=d+1) (p:=some Bz) Be 3 (n:=w) Ω;have f:Ac C1 prog u (d+7) 6 [Av 3,Av ((w:Nat):Int)]=_:=f;have L:=Al .u8 x;have c1:decide (0+w*1<=wy (Af .u8 x))=true:=dT Ω;have P:yt (w*1) (nb 0 (Af .u8 x))=Af .u8 x:=Gp (by rw[Jo];omega)
  refine⟨⟨kind,cd,ad,sg,1,[.lst false 1 w (Af .u8 x)],fm,id,us⟩,g,⟨by simp only;omega,t,by simp only;omega,z⟩,E ?_⟩
  have Q:(decide (([]:Ae).length=0*1)&&decide (0*24<=1099511627776)&&decide (0<=1099511627776))=true:=rfl;have S:(decide (0*1<=([]:Ae).length)&&true&&decide ((0+1)*24<=1099511627776)&&decide (0+1<=1099511627776))=true:=rfl;have T:∀y:PV,yt (0*1) ([]:Ae)++[y]=[y]:=λ_=>rfl;have U:∀y:PV,decide (0+(0+1)*1<=([y]).length)=true:=λ_=>rfl
  repeat(with_reducible(first|apply Bk|apply A5|apply Bm|apply Bo|apply K0|apply Of|apply A4|apply Bn|apply H7);· first|constructor|(simp(disch:=omega)only[H9,Int.reduceBEq,e,c,f,c1,P,Q,S,T,U]<;>first|constructor|omega)|omega)
  try simp(disch:=omega)only[Aa,Int.reduceBEq,e,c,f,c1,P,Q,S,T,U]
  all_goals rfl
 ·refine⟨⟨kind,cd,ad,sg,0,[],fm,id,us⟩,j,⟨by simp only;omega,t,by simp only;omega,z⟩,E ?_⟩
  repeat(with_reducible(first|apply Bk|apply A5|apply Bm|apply Bo|apply K0|apply Of|apply A4|apply Bn|apply H7);· first|constructor|(simp(disch:=omega)only[H9,Int.reduceBEq,e]<;>first|constructor|omega)|omega)
  try simp(disch:=omega)only[Aa,Int.reduceBEq,e]
  all_goals rfl
end
section
variable {I:FuncId->Option (Ae->Option A3)}(u d:Nat)(F:An)
def D8(Z Y:Int)(X:ByteArray)(W:Nat)(V U:Int):Option A3:=Hq u F 145 Tryz.f145 [.agg [Z,Ah Y,X]] [.r,.r,.r] W ⟨lk [(3,Ah V),(4,.sc (.int .u8 U))],Fb []⟩
theorem GB(W V:Int)(U:ByteArray)(X:Nat)(Es:0<X)(Z Y:Int):D8 u F W V U X Z Y=(Ap (decide (Z<24)) (Aa (wrap .u8 Z) λa=>Aa (wrap .u8 (Y+a)) λa=>A9 [.own 1 1 [.sc (.int .u8 a)]]) (Ap (decide (Z<256)) (Aa (wrap .u8 (Y+24)) λa=>Aa (wrap .u8 Z) λb=>A9 [.own 1 2 [.sc (.int .u8 a),.sc (.int .u8 b)]]) (Ap (decide (Z<65536)) (Aa (wrap .u8 (Y+25)) λa=>Aa (E4 .u64 Z 8) λb=>Aa (wrap .u8 b) λb=>Aa (wrap .u8 Z) λc=>A9 [.own 1 3 [.sc (.int .u8 a),.sc (.int .u8 b),.sc (.int .u8 c)]]) (Ap (decide (Z<4294967296)) (Aa (wrap .u8 (Y+26)) λa=>Aa (E4 .u64 Z 24) λb=>Aa (wrap .u8 b) λb=>Aa (E4 .u64 Z 16) λc=>Aa (wrap .u8 c) λc=>Aa (E4 .u64 Z 8) λe=>Aa (wrap .u8 e) λe=>Aa (wrap .u8 Z) λf=>A9 [.own 1 5 [.sc (.int .u8 a),.sc (.int .u8 b),.sc (.int .u8 c),.sc (.int .u8 e),.sc (.int .u8 f)]]) (Aa (wrap .u8 (Y+27)) λa=>Cn (F 38 [Am 1 1 [Ah Z]]) λb c=>K5 1 b λb e=>Ag c<|As (decide (0+b*1<=e.length))<|As (decide (wy (yt (b*1) (e.drop 0))=b*1)&&decide ((1+b)*1<=1099511627776)&&decide (1+b<=1099511627776))<|Aa (1+b) λc=>Aa ([.sc (.int .u8 a)]++yt (b*1) (e.drop 0)) λa=>As (decide (c*1<=a.length))<|A9 [.own 1 c (a.take (c*1))]))))):=by cases X with|zero=>exact absurd Es (wo 0)|succ X=>kernel_rfl
theorem OI(u d:Nat)(Z Y:Int)(X:ByteArray):Ac (CP p) prog u (d+1) 145 [.agg [Z,Ah Y,X]]=(λ(F:An)=>Ap (Z==7) (Aa (wrap .u8 Y) λa=>Aa (wrap .u8 (244+a)) λa=>A9 [.own 1 1 [.sc (.int .u8 a)]]) (Ap (Z==8) (A9 [.own 1 1 [.sc (.int .u8 246)]]) (Ap (Z==2) (D8 u F Z Y X u Y 32) (Ap (Z==3) (Aa (wrap .u64 (↑(mm X):Int)) λa=>D8 u F Z Y X u a 64) (Ap (Z==4) (Aa (wrap .u64 (↑(mm X):Int)) λa=>D8 u F Z Y X u a 96) (Ap (Z==5) (D8 u F Z Y X u Y 128) (Ap (Z==6) (D8 u F Z Y X u Y 160) (D8 u F Z Y X u Y 0)))))))) (Ac (CP p) prog u d):=Κ
theorem LD(u d:Nat)(Y X:Int)(Z:ByteArray):Ac (CP p) prog u (d+1) 123 [.agg [Y,Ah X,Z]]=(λ(F:An)=>Cn (F 145 [.agg [Y,Ah X,Z]]) λa b=>K5 1 a λa c=>Ag b<|As (decide (0+a*1<=c.length))<|As (decide (wy (yt (a*1) (c.drop 0))=a))<|Dq (H2 (yt (a*1) (c.drop 0))) λa=>As (decide (mm (ByteArray.mk (bc a))+mm Z<=9223372036854775807))<|Aa (ByteArray.mk (bc a)++Z) λa=>A9 [a]) (Ac (CP p) prog u d):=Κ
end
def tb(n:Int)(k:Nat):Ak:=(List.range' (8-k) k).map (G7 n)
def Yn(a n:Int):Ak:=
 if n<24 then [32*a+n] else if n<256 then (32*a+24)::tb n 1 else if n<65536 then (32*a+25)::tb n 2 else if n<4294967296 then (32*a+26)::tb n 4 else (32*a+27)::tb n 8
structure It where
 k:Int
 n:Int
 s:ByteArray
variable{x:It}
def It.cells(x:It):Ae:=[Av x.k,Ah x.n,Bg (x.s)]
def Q5(x:It):Ak:=
 if x.k=7 then [wrap .u8 (244+wrap .u8 x.n)] else if x.k=8 then [246] else if x.k=3 then Yn 2 x.s.size++Cp x.s else if x.k=4 then Yn 3 x.s.size++Cp x.s else Yn (x.k-1) x.n
theorem Bds(n:Int)(k:Nat):(tb n k).length=k:=by simp[tb]
theorem Bn8(n:Int)(k:Nat):Ch (tb n k):=by intro x a;obtain⟨j,_,rfl⟩:=List.mem_map.1 a;exact Anm n j
theorem Vg(a n:Int):1<=(Yn a n).length/\(Yn a n).length<=9:=by
 unfold Yn
 repeat' split
 all_goals simp[Bds]
theorem Aji{b n:Int}(g:0<=b)(i:b<=6)(j:0<=n):Ch (Yn b n):=by
 have d:∀(a:Int) (l:Ak),0<=a/\a<=255->Ch l->Ch (a::l):=by
  intro a l e f x c;rcases zl.1 c with rfl|c
  ·exact e
  ·exact f x c
 unfold Yn
 repeat' split
 ·exact d _ _ Ω (λ_ h=>by simp at h)
 all_goals exact d _ _ Ω (Bn8 _ _)
theorem Atu(g:1<=x.k)(i:x.k<=8)(d:0<=x.n):Ch (Q5 x):=by
 have Bkt:∀(a b:Ak),Ch a->Ch b->Ch (a++b):=by
  intro a b e f y c;rcases B8.1 c with h|h
  ·exact e y h
  ·exact f y h
 unfold Q5
 repeat' split
 ·intro y c;simp at c;subst c;simp only[wrap,IntKind.signed,IntKind.bits];simp;omega
 ·intro y c;simp at c;omega
 ·exact Bkt _ _ (Aji Ω Ω Ω) (Vn _)
 ·exact Bkt _ _ (Aji Ω Ω Ω) (Vn _)
 ·exact Aji Ω Ω d
theorem Afu(x:It):(Q5 x).length<=9+x.s.size:=by
 unfold Q5;have a:=Vg 2 x.s.size;have b:=Vg 3 x.s.size;have c:=Vg (x.k-1) x.n;have d:=Cj x.s
 repeat' split
 all_goals try simp only[Ru,M9,SO]
 all_goals omega
section
variable {u d:Nat}
structure It.ok(x:It):Prop where
 k1:1<=x.k
 k8:x.k<=8
 n0:0<=x.n
 s0:x.s.size<=500000
end
section
variable {I:FuncId->Option (Ae->Option A3)}(u d:Nat)(F:An)
theorem EZ(u d:Nat)(Z Y X:Int):Ac (CP p) prog u (d+1) 81 [Z,Y,X]=(λ(F:An)=>Ap (decide (Z>=Y)) (A9 [C3 (decide (Z<=X))]) (A9 [false])) (Ac (CP p) prog u d):=Κ
theorem HM(u d:Nat)(Z:Int):Ac (CP p) prog u (d+1) 82 [Z]=(λ(F:An)=>Aa (wrap .u64 Z) λa=>A9 [.agg [(5:Int),Ah a,Bg ⟨#[]⟩]]) (Ac (CP p) prog u d):=Κ
theorem KS(u d:Nat)(Z:ByteArray):Ac (CP p) prog u (d+1) 121 [Z]=(λ(F:An)=>A9 [.agg [(4:Int),Ah 0,Z]]) (Ac (CP p) prog u d):=Κ
theorem FT(u d:Nat)(Z:Int):Ac (CP p) prog u (d+1) 83 [Ah Z]=(λ(F:An)=>A9 [.agg [(1:Int),Ah Z,Bg ⟨#[]⟩]]) (Ac (CP p) prog u d):=Κ
theorem LU(u d Y:Nat)(Z:Ae):Ac (CP p) prog u (d+1) 122 [Am 1 Y Z]=(λ(F:An)=>As (decide (Z.length=Y))<|Dq (H2 Z) λa=>A9 [.agg [(3:Int),Ah 0,Bg (ByteArray.mk (bc a))]]) (Ac (CP p) prog u d):=Κ
def Hx(Z:Nat)(Y:Ae)(X W:Nat)(V:Ae)(U:Nat)(T:Int)(S:Ae):Option A3:=Hq u F 85 Tryz.f85 [Am 3 Z Y] [.r,.r,.l,.r,.l] X ⟨lk [(0,Am 3 W V),(3,.view 3 1 0 U),(4,T)],Fb [(3,.ar false S)]⟩
theorem N6(U:Nat)(T:Ae)(S V:Nat)(X:Ae)(Z:Nat)(Y:Int)(W:Ae):Hx u F U T (S+1) V X Z Y W=(Ap (decide (Y<(↑V:Int))) (As (decide (0<=Y)&&decide (Y<(↑V:Int)))<|Bi .i64 (X.getD (Y.toNat*3) .top) λa=>Bi .u64 (X.getD (Y.toNat*3+1) .top) λb=>At (X.getD (Y.toNat*3+1+1) .top) λc=>Cn (F 123 [.agg [a,Ah b,c]]) λa b=>At a λa=>Ag b<|As (decide (Z*1<=W.length)&&decide (wy (Dt a)=mm a*1)&&decide ((Z+mm a)*1<=1099511627776)&&decide (Z+mm a<=1099511627776))<|Aa (Z+mm a) λb=>Aa (yt (Z*1) W++Dt a) λa=>Aa (wrap .i64 (Y+1)) λc=>Hx u F U T S V X b c a) (As (decide (Z*1<=W.length))<|A9 [.own 1 Z (W.take (Z*1))])):=Κ
theorem GO(u d Z:Nat)(Y:Ae):Ac (CP p) prog u (d+1) 85 [Am 3 Z Y]=(λ(F:An)=>Hx u F Z Y u Z Y 0 0 ([])) (Ac (CP p) prog u d):=Κ
end
def BT(x:It):Ak:=
 if x.k=7 then [wrap .u8 (244+wrap .u8 x.n)] else if x.k=8 then [246] else if x.k=3 then Yn 2 x.s.size else if x.k=4 then Yn 3 x.s.size else Yn (x.k-1) x.n
def It.dat(x:It):Prop:=x.k=3\/x.k=4\/Cp x.s=[]
theorem Ax4(h:x.dat):Q5 x=BT x++Cp x.s:=by
 unfold Q5 BT;by_cases c7:x.k=7
 ·rcases h with h|h|h
  ·omega
  ·omega
  ·simp[c7,h]
 ·by_cases a:x.k=8
  ·rcases h with h|h|h
   ·omega
   ·omega
   ·simp[a,h]
  ·by_cases b:x.k=3
   ·simp[b]
   ·by_cases c:x.k=4
    ·simp[c]
    ·rcases h with h|h|h
     ·omega
     ·omega
     ·simp[c7,a,b,c,h]
theorem Avq(x:It):(BT x).length<=9:=by
 have a:=Vg 2 x.s.size;have b:=Vg 3 x.s.size;have c:=Vg (x.k-1) x.n;unfold BT
 repeat' split
 all_goals try simp only[M9,SO]
 all_goals omega
theorem A2q(v:Int):E4 .u64 v 0=v:=by
 show v.fdiv (2 ^ (min (0:Int).toNat IntKind.u64.bits))=v;have:(2:Int) ^ (min (0:Int).toNat IntKind.u64.bits)=1:=Δ
 rw[this,Int.fdiv_one]
theorem tb1(v:Int):tb v 1=[wrap .u8 v]:=by show [wrap .u8 (E4 .u64 v (56-8*((7:Nat):Int)))]=_;rw[show (56:Int)-8*((7:Nat):Int)=0 by omega,A2q]
theorem tb2(v:Int):tb v 2=[wrap .u8 (E4 .u64 v 8),wrap .u8 v]:=by show [wrap .u8 (E4 .u64 v (56-8*((6:Nat):Int))),wrap .u8 (E4 .u64 v (56-8*((7:Nat):Int)))]=_;rw[show (56:Int)-8*((7:Nat):Int)=0 by omega,show (56:Int)-8*((6:Nat):Int)=8 by omega,A2q]
theorem tb4(v:Int):tb v 4=[wrap .u8 (E4 .u64 v 24),wrap .u8 (E4 .u64 v 16),wrap .u8 (E4 .u64 v 8),wrap .u8 v]:=by show [wrap .u8 (E4 .u64 v (56-8*((4:Nat):Int))),wrap .u8 (E4 .u64 v (56-8*((5:Nat):Int))),wrap .u8 (E4 .u64 v (56-8*((6:Nat):Int))),wrap .u8 (E4 .u64 v (56-8*((7:Nat):Int)))]=_;rw[show (56:Int)-8*((7:Nat):Int)=0 by omega,show (56:Int)-8*((6:Nat):Int)=8 by omega,show (56:Int)-8*((5:Nat):Int)=16 by omega,show (56:Int)-8*((4:Nat):Int)=24 by omega,A2q]
theorem tb8(v:Int):tb v 8=B6 v:=rfl
section
variable {u d:Nat}
theorem A0u(Be:1000<=u){k n:Int}(i:0<nn){a:Int}(r:0<=a)(t:a<=5)(w:0<=v):
  D8 u (Ac C1 prog u (d+1)) k n s nn v (32*a)=some ⟨[.own 1 (Yn a v).length (Af .u8 (Yn a v))],[]⟩:=by
 rw[GB (Es:=i)];have b:wrap .u8 (32*a+24)=32*a+24:=Gt Ω Ω;have c:wrap .u8 (32*a+25)=32*a+25:=Gt Ω Ω;have e:wrap .u8 (32*a+26)=32*a+26:=Gt Ω Ω;have f:wrap .u8 (32*a+27)=32*a+27:=Gt Ω Ω;unfold Yn;by_cases c1:v<24
 ·have j:wrap .u8 v=v:=Gt Ω Ω;have l:wrap .u8 (32*a+v)=32*a+v:=Gt Ω Ω;rw[Bv c1];simp(disch:=omega)only[Aq,Ar,j,l];rfl
 ·by_cases c2:v<256
  ·rw[Bd c1,Bv c2,tb1];simp(disch:=omega)only[Aq,Ar,b];rfl
  ·by_cases g:v<65536
   ·rw[Bd c1,Bd c2,Bv g,tb2];simp(disch:=omega)only[Aq,Ar,c];rfl
   ·by_cases h:v<4294967296
    ·rw[Bd c1,Bd c2,Bd g,Bv h,tb4];simp(disch:=omega)only[Aq,Ar,e];rfl
    ·have m:=A3b (u:=u) (d:=d) Be v;have L:=Al .u8 (B6 v);rw[Cu] at L;have o:yt 8 (Af .u8 (B6 v))=Af .u8 (B6 v):=Gp Ω;have eC:[PV.sc (.int .u8 (32*a+27))]++Af .u8 (B6 v)=Af .u8 ((32*a+27)::B6 v):=rfl;have p:(Af .u8 ((32*a+27)::B6 v)).length=9:=by rw[Al,M9,Cu]
     have q:yt 9 (Af .u8 ((32*a+27)::B6 v))=Af .u8 ((32*a+27)::B6 v):=Gp Ω;rw[Bd c1,Bd c2,Bd g,Bd h,tb8,M9,Cu];simp(disch:=omega)only[Aq,Ar,f,m,Jp,I8,Jo,L,o,eC,Nat.reduceAdd,p,q]
theorem A1h(Be:1000<=u)(j:x.ok):Ac C1 prog u (d+2) 145 [.agg x.cells]=some ⟨[.own 1 (BT x).length (Af .u8 (BT x))],[]⟩:=by
 obtain⟨k,n,s⟩:=x;obtain⟨k1,k8,n0,s0⟩:=j;simp only at k1 k8 n0 s0;refine (OI u (d+1) k n s).trans ?_;have a:wrap .u64 (s.size:Int)=s.size:=Cq;have J:=λ(b v:Int) (l:0<=b) (m:b<=5) (o:0<=v)=>A0u (u:=u) (d:=d) Be (k:=k) (n:=n) (s:=s) (nn:=u) Ω l m o;have c:=J 0 n Ω Ω n0;have e:=J 1 n Ω Ω n0;have f:=J 2 s.size Ω Ω Ω;have g:=J 3 s.size Ω Ω Ω;have h:=J 4 n Ω Ω n0;have i:=J 5 n Ω Ω n0;rw[show (32:Int)*0=0 by omega] at c;rw[show (32:Int)*1=32 by omega] at e;rw[show (32:Int)*2=64 by omega] at f;rw[show (32:Int)*3=96 by omega] at g;rw[show (32:Int)*4=128 by omega] at h;rw[show (32:Int)*5=160 by omega] at i;unfold BT;simp only
 have:k=1\/k=2\/k=3\/k=4\/k=5\/k=6\/k=7\/k=8:=Ω
 rcases this with rfl|rfl|rfl|rfl|rfl|rfl|rfl|rfl
 ·simp only[Aq,Ar,E9,Int.reduceEq,if_true,if_false,Int.reduceSub,c]
 ·simp only[Aq,Ar,E9,Int.reduceEq,if_true,if_false,Int.reduceSub,e]
 ·simp only[Aq,Ar,E9,Int.reduceEq,if_true,if_false,Int.reduceSub,a,f]
 ·simp only[Aq,Ar,E9,Int.reduceEq,if_true,if_false,Int.reduceSub,a,g]
 ·simp only[Aq,Ar,E9,Int.reduceEq,if_true,if_false,Int.reduceSub,h]
 ·simp only[Aq,Ar,E9,Int.reduceEq,if_true,if_false,Int.reduceSub,i]
 ·simp only[Aq,Ar,E9,Int.reduceEq,if_true,if_false];rfl
 ·simp only[Aq,Ar,E9,Int.reduceEq,if_true,if_false];rfl
theorem Axn(Be:1000<=u)(a:x.ok)(hd:x.dat):Ac C1 prog u (d+3) 123 [.agg x.cells]=some ⟨[Bg (Ab (Q5 x))],[]⟩:=by
 refine (LD u (d+2) x.k x.n x.s).trans ?_;have b:=A1h (u:=u) (d:=d) Be a;have L:=Al .u8 (BT x);have g:=Avq x;have c:=Hl (BT x);have eA:ByteArray.mk (List.map (λn:Int=>n.toNat.toUInt8) (BT x)).toArray=Ab (BT x):=rfl;have e:=Ai (BT x);have s0:=a.s0;have f:Ab (BT x)++x.s=Ab (Q5 x):=by rw[Ami,Ax4 hd]
 simp only[It.cells] at b;simp(disch:=omega)only[Aq,Ar,b,Jp,I8,Jo,NH,L,c,eA,e,f]
def K8(a:List It):Ae:=a.flatMap It.cells
theorem It.cells_len(x:It):x.cells.length=3:=rfl
def Ty(a:List It):Ak:=a.flatMap Q5
theorem VR{CI:Nat}{a0:Ae}{a:List It}(e:∀x∈a,x.ok/\x.dat)(k:a.length<=1000)(Be:1000<=u):∀(r:List It)(i nn:Nat)(b:Ak),a.drop i=r->r.length<nn->b.length+500010*r.length<=1000000000 ->
  Hx u (Ac C1 prog u (d+3)) CI a0 nn a.length (K8 a) b.length i (Af .u8 b)=some ⟨[.own 1 (b++Ty r).length (Af .u8 (b++Ty r))],[]⟩
 |_,_,0,_,_,h,_=>Ω
 |[],i,nn+1,b,h,f,g=>by
  have:=drop_nil h;have L:=Al .u8 b;rw[N6,Fn _ _ _ Ω];simp(disch:=omega)only[Aq,Ar,Jp,NH,L];simp[Ty]
 |x::r,i,nn+1,b,h,f,g=>by
  obtain⟨B,c,l⟩:=Cb h;simp only[M9] at f g;obtain⟨ok,m⟩:=e x (zn c);have n:=Afu x;have o:=ok.s0;have p:(K8 a).getD (i*3) .top=Av x.k:=Vr It.cells_len c (j:=0) Ω;have q:(K8 a).getD (i*3+1) .top=Ah x.n:=Vr It.cells_len c (j:=1) Ω;have s:(K8 a).getD (i*3+1+1) .top=Bg (x.s):=Vr It.cells_len c (j:=2) Ω;have by_:=Axn (u:=u) (d:=d) Be ok m;simp only[It.cells] at by_;have t:=VR (CI:=CI) (a0:=a0) e k Be r (i+1) nn (b++Q5 x) l Ω (by rw[Ru];omega)
  have w:wrap .i64 ((i:Int)+1)=((i+1:Nat):Int):=Bc
  have L:=Al .u8 b;have v:=Atu ok.k1 ok.k8 ok.n0;have sc:Dt (Ab (Q5 x))=Af .u8 (Q5 x):=by rw[Ia,Cw v]
  have y:=Ai (Q5 x);have Li:=Al .u8 (Q5 x);have z:Af .u8 b++Af .u8 (Q5 x)=Af .u8 (b++Q5 x):=by rw[Af,Af,Af,kk]
  have A:Ty (x::r)=Q5 x++Ty r:=rfl;rw[A,<-Zzv,<-t,N6];simp(disch:=omega)only[Aq,Ar,Hy,p,q,s,by_,sc,y,Li,Jp,NH,L,z,w,Ru]
theorem Aww{a:List It}(b:∀x∈a,x.ok/\x.dat)(c:a.length<=900)(Be:1000<=u):Ac C1 prog u (d+4) 85 [.lst false 3 a.length (K8 a)]=some ⟨[.own 1 (Ty a).length (Af .u8 (Ty a))],[]⟩:=by rw[GO];exact VR (u:=u) (d:=d) (CI:=a.length) (a0:=K8 a) b Ω Be a 0 u [] rfl Ω (by simp;omega)
end
section
variable {I:FuncId->Option (Ae->Option A3)}(u d:Nat)(F:An)
def Kq(Z:Int)(Y:Nat)(X:Ae)(W:Nat)(V:Ae)(U T:Nat)(S Q:Int)(P:Nat)(O:Ae)(N:Nat)(M L:Ae):Option A3:=Hq u F 84 Tryz.f84 [.agg [Ah Z,Am 3 Y X,Am 2 W V]] [.r,.r,.r,.l,.r,.l] U ⟨lk [(1,.ptr 1 0),(4,.view 4 3 0 T),(5,S)],Fb [(1,.st [Ah Q,Am 3 P O,Am 2 N M]),(4,.ar false L)]⟩
def Gb(Z:Int)(Y:Nat)(X:Ae)(W:Nat)(V:Ae)(U T:Nat)(S Q:Int)(P:Nat)(O:Ae)(N:Nat)(M L:Ae):Option A3:=Hq u F 84 Tryz.f84 [.agg [Ah Z,Am 3 Y X,Am 2 W V]] [.r,.r,.r,.r,.r,.l,.r,.l] U ⟨lk [(1,.ptr 1 0),(4,.view 4 3 0 T),(9,S)],Fb [(1,.st [Ah Q,Am 3 P O,Am 2 N M]),(4,.ar false L)]⟩
theorem Ok(T:Int)(S:Nat)(Q:Ae)(P:Nat)(O:Ae)(L Y:Nat)(Z N:Int)(X:Nat)(W:Ae)(V:Nat)(M U:Ae):Kq u F T S Q P O (L+1) Y Z N X W V M U=(Ap (decide (Z<(↑X:Int))) (As (decide (0<=Z)&&decide (Z<(↑X:Int)))<|At (W.getD (Z.toNat*3+0) .top) λa=>Gn .i64 (F 120 [a]) λa=>Ap (a != 0) (A9 [.own 3 0 [],a]) (As (decide (0<=Z)&&decide (Z<(↑X:Int)))<|Bi .i64 (W.getD (Z.toNat*3+1) .top) λa=>Bi .u64 (W.getD (Z.toNat*3+1+1) .top) λb=>Cn (F 44 [.agg [a,Ah b]]) λa b=>K5 1 a λa c=>Bq .i64 b λb=>Ap (b != 0) (A9 [.own 3 0 [],b]) (Cn (F 82 [(2:Int)]) λb e=>Cr b λb=>Bu .i64 b λb f=>Bu .u64 f λf g=>Ad g λg h=>At g λg=>Ag h<|Ag e<|As (decide (0<=Z)&&decide (Z<(↑X:Int)))<|At (W.getD (Z.toNat*3+0) .top) λe=>Cn (F 121 [e]) λe h=>Cr e λe=>Bu .i64 e λe i=>Bu .u64 i λi j=>Ad j λj k=>At j λj=>Ag k<|Ag h<|As (decide (0+a*1<=c.length))<|Cn (F 122 [Am 1 a (yt (a*1) (c.drop 0))]) λa c=>Cr a λa=>Bu .i64 a λa h=>Bu .u64 h λh k=>Ad k λk m=>At k λk=>Ag m<|Ag c<|As (decide (Y*3<=U.length)&&true&&decide ((Y+3)*32<=1099511627776)&&decide (Y+3<=1099511627776))<|Aa (Y+3) λc=>Aa (yt (Y*3) U++[Av b,Ah f,Bg g,Av e,Ah i,Bg j,Av a,Ah h,Bg k]) λa=>Aa (wrap .i64 (Z+1)) λb=>Kq u F T S Q P O L c b N X W V M a))) (Cn (F 82 [(↑V:Int)]) λa b=>Cr a λa=>Bu .i64 a λa c=>Bu .u64 c λc e=>Ad e λe f=>At e λe=>Ag f<|Ag b<|XN Y 3 32 U [a,Ah c,e] λa b=>Gb u F T S Q P O u a 0 N X W V M b)):=Κ
theorem Ob(U:Int)(T:Nat)(S:Ae)(Q:Nat)(P:Ae)(O Z:Nat)(Y N:Int)(M:Nat)(L:Ae)(W:Nat)(V X:Ae):Gb u F U T S Q P (O+1) Z Y N M L W V X=(Ap (decide (Y<(↑W:Int))) (As (decide (0<=Y)&&decide (Y<(↑W:Int)))<|Bi .i64 (V.getD (Y.toNat*2) .top) λa=>Bi .i64 (V.getD (Y.toNat*2+1) .top) λb=>Cn (F 81 [a,(1:Int),(4:Int)]) λc e=>Bh c λc=>(λn:Option A3=>Ag e<|Ap (!c) n (Cn (F 81 [b,(0:Int),(1099511627776:Int)]) λc e=>Bh c λc=>Ag e<|Ap (!c) n (Ap (decide (Y>0)) (Aa (wrap .i64 (Y-1)) λc=>As (decide (0<=c)&&decide (c<(↑W:Int)))<|Bi .i64 (V.getD (c.toNat*2+1) .top) λc=>Ap (decide (b<=c)) (A9 [.own 3 0 [],(7:Int)]) (Cn (F 82 [(2:Int)]) λc e=>Cr c λc=>Bu .i64 c λc f=>Bu .u64 f λf g=>Ad g λg h=>At g λg=>Ag h<|Ag e<|Aa (wrap .u64 a) λa=>Cn (F 83 [Ah a]) λa e=>Cr a λa=>Bu .i64 a λa h=>Bu .u64 h λh i=>Ad i λi j=>At i λi=>Ag j<|Ag e<|Aa (wrap .u64 b) λb=>Cn (F 83 [Ah b]) λb e=>Cr b λb=>Bu .i64 b λb j=>Bu .u64 j λj k=>Ad k λk m=>At k λk=>Ag m<|Ag e<|As (decide (Z*3<=X.length)&&true&&decide ((Z+3)*32<=1099511627776)&&decide (Z+3<=1099511627776))<|Aa (Z+3) λe=>Aa (yt (Z*3) X++[Av c,Ah f,Bg g,Av a,Ah h,Bg i,Av b,Ah j,Bg k]) λa=>Aa (wrap .i64 (Y+1)) λb=>Gb u F U T S Q P O e b N M L W V a)) (Cn (F 82 [(2:Int)]) λc e=>Cr c λc=>Bu .i64 c λc f=>Bu .u64 f λf g=>Ad g λg h=>At g λg=>Ag h<|Ag e<|Aa (wrap .u64 a) λa=>Cn (F 83 [Ah a]) λa e=>Cr a λa=>Bu .i64 a λa h=>Bu .u64 h λh i=>Ad i λi j=>At i λi=>Ag j<|Ag e<|Aa (wrap .u64 b) λb=>Cn (F 83 [Ah b]) λb e=>Cr b λb=>Bu .i64 b λb j=>Bu .u64 j λj k=>Ad k λk m=>At k λk=>Ag m<|Ag e<|As (decide (Z*3<=X.length)&&true&&decide ((Z+3)*32<=1099511627776)&&decide (Z+3<=1099511627776))<|Aa (Z+3) λe=>Aa (yt (Z*3) X++[Av c,Ah f,Bg g,Av a,Ah h,Bg i,Av b,Ah j,Bg k]) λa=>Aa (wrap .i64 (Y+1)) λb=>Gb u F U T S Q P O e b N M L W V a)))) (A9 [.own 3 0 [],(9:Int)])) (As (decide (Z*3<=X.length))<|A9 [.own 3 Z (X.take (Z*3)),(0:Int)])):=Κ
theorem JC(u d:Nat)(Y:Int)(Z:Nat)(W:Ae)(X:Nat)(V:Ae):Ac (CP p) prog u (d+1) 84 [.agg [Ah Y,Am 3 Z W,Am 2 X V]]=(λ(F:An)=>(λn:Option A3=>Ap (decide ((↑Z:Int)>4)) n (Ap (decide ((↑X:Int)>4)) n (Cn (F 82 [(3:Int)]) λa b=>Cr a λa=>Bu .i64 a λa c=>Bu .u64 c λc e=>Ad e λe f=>At e λe=>Ag f<|Ag b<|Cn (F 83 [Ah Y]) λb f=>Cr b λb=>Bu .i64 b λb g=>Bu .u64 g λg h=>Ad h λh i=>At h λh=>Ag i<|Ag f<|Cn (F 82 [(↑Z:Int)]) λf i=>Cr f λf=>Bu .i64 f λf j=>Bu .u64 j λj k=>Ad k λk m=>At k λk=>Ag m<|Ag i<|Kq u F Y Z W X V u 3 0 Y Z W X V ([a,Ah c,e,b,Ah g,h,f,Ah j,k])))) (A9 [.own 3 0 [],(8:Int)])) (Ac (CP p) prog u d):=Κ
def E7(Z Y X:Int)(W:Nat)(V:Ae)(U:Int)(T:Nat)(S:Ae)(Q:Nat)(P:Ae)(O N:Nat)(M L:Int)(K J:Int)(I:Nat)(H:Ae)(G:Int)(E:Nat)(D:Ae)(B:Nat)(A z:Ae):Option A3:=Hq u F 49 Tryz.f49 [.agg [Z,Y,X,Am 3 W V,U,Am 1 T S,Am 1 Q P]] [.r,.r,.r,.l,.r,.l] O ⟨lk [(1,.ptr 1 0),(4,.view 4 3 0 N),(5,M)],Fb [(1,.st [L,K,J,Am 3 I H,G,Am 1 E D,Am 1 B A]),(4,.ar false z)]⟩
theorem Lv(U T S:Int)(Q:Nat)(P:Ae)(O:Int)(N:Nat)(M:Ae)(L:Nat)(K:Ae)(J Y:Nat)(Z I:Int)(H G:Int)(W:Nat)(X:Ae)(E:Int)(D:Nat)(B:Ae)(A:Nat)(z V:Ae):E7 u F U T S Q P O N M L K (J+1) Y Z I H G W X E D B A z V=(Ap (decide (Z<(↑W:Int))) (Ap (decide (Z>0)) (As (decide (0<=Z)&&decide (Z<(↑W:Int)))<|Bi .u64 (X.getD (Z.toNat*3+0) .top) λa=>Aa (wrap .i64 (Z-1)) λb=>As (decide (0<=b)&&decide (b<(↑W:Int)))<|Bi .u64 (X.getD (b.toNat*3+0) .top) λb=>Ap (decide (a<=b)) (A9 [.own 1 0 [],(7:Int)]) (As (decide (0<=Z)&&decide (Z<(↑W:Int)))<|Bi .u64 (X.getD (Z.toNat*3) .top) λa=>Y9 3 (X.getD (Z.toNat*3+1) .top) λb c e=>Y9 2 (X.getD (Z.toNat*3+1+1) .top) λb f g=>Cn (F 84 [.agg [Ah a,Am 3 c e,Am 2 f g]]) λa b=>K5 3 a λa c=>Bq .i64 b λb=>Ap (b != 0) (A9 [.own 1 0 [],b]) (As (decide (0+a*3<=c.length))<|As (decide (Y*3<=V.length)&&decide (wy (yt (a*3) (c.drop 0))=a*3)&&decide ((Y+a)*32<=1099511627776)&&decide (Y+a<=1099511627776))<|Aa (Y+a) λb=>Aa (yt (Y*3) V++yt (a*3) (c.drop 0)) λa=>Aa (wrap .i64 (Z+1)) λc=>E7 u F U T S Q P O N M L K J b c I H G W X E D B A z a))) (As (decide (0<=Z)&&decide (Z<(↑W:Int)))<|Bi .u64 (X.getD (Z.toNat*3) .top) λa=>Y9 3 (X.getD (Z.toNat*3+1) .top) λb c e=>Y9 2 (X.getD (Z.toNat*3+1+1) .top) λb f g=>Cn (F 84 [.agg [Ah a,Am 3 c e,Am 2 f g]]) λa b=>K5 3 a λa c=>Bq .i64 b λb=>Ap (b != 0) (A9 [.own 1 0 [],b]) (As (decide (0+a*3<=c.length))<|As (decide (Y*3<=V.length)&&decide (wy (yt (a*3) (c.drop 0))=a*3)&&decide ((Y+a)*32<=1099511627776)&&decide (Y+a<=1099511627776))<|Aa (Y+a) λb=>Aa (yt (Y*3) V++yt (a*3) (c.drop 0)) λa=>Aa (wrap .i64 (Z+1)) λc=>E7 u F U T S Q P O N M L K J b c I H G W X E D B A z a))) (As (decide (0+Y*3<=V.length))<|Cn (F 85 [Am 3 Y (yt (Y*3) (V.drop 0))]) λa b=>K5 1 a λa c=>Ag b<|As (decide (a*1<=c.length))<|A9 [.own 1 a (c.take (a*1)),(0:Int)])):=Κ
theorem BE(u d:Nat)(X Z Y:Int)(W:Nat)(V:Ae)(U:Int)(T:Nat)(S:Ae)(Q:Nat)(P:Ae):Ac (CP p) prog u (d+1) 49 [.agg [X,Z,Y,Am 3 W V,U,Am 1 T S,Am 1 Q P]]=(λ(F:An)=>Cn (F 81 [X,(1:Int),(16:Int)]) λa b=>Bh a λa=>(λv:Option A3=>Ag b<|Ap (!a) v (Ap (decide (Z<0)) v (Ap (decide (Y<Z)) v (Ap (decide (Y>1099511627776)) v (Ap (decide ((↑W:Int)>16)) (A9 [.own 1 0 [],(8:Int)]) (Cn (F 82 [(4:Int)]) λa b=>Cr a λa=>Bu .i64 a λa c=>Bu .u64 c λc e=>Ad e λe f=>At e λe=>Ag f<|Ag b<|Aa (wrap .u64 X) λb=>Cn (F 83 [Ah b]) λb f=>Cr b λb=>Bu .i64 b λb g=>Bu .u64 g λg h=>Ad h λh i=>At h λh=>Ag i<|Ag f<|Aa (wrap .u64 Z) λf=>Cn (F 83 [Ah f]) λf i=>Cr f λf=>Bu .i64 f λf j=>Bu .u64 j λj k=>Ad k λk m=>At k λk=>Ag m<|Ag i<|Aa (wrap .u64 Y) λi=>Cn (F 83 [Ah i]) λi m=>Cr i λi=>Bu .i64 i λi n=>Bu .u64 n λn o=>Ad o λo q=>At o λo=>Ag q<|Ag m<|Cn (F 82 [(↑W:Int)]) λm q=>Cr m λm=>Bu .i64 m λm s=>Bu .u64 s λs t=>Ad t λt l=>At t λt=>Ag l<|Ag q<|E7 u F X Z Y W V U T S Q P u 5 0 X Z Y W V U T S Q P ([a,Ah c,e,b,Ah g,h,f,Ah j,k,i,Ah n,o,m,Ah s,t]))))))) (A9 [.own 1 0 [],(9:Int)])) (Ac (CP p) prog u d):=Κ
theorem BW(u d:Nat)(Z Y X:Int)(W:Nat)(V:Ae)(U:Int)(T:Nat)(S:Ae)(Q:Nat)(P:Ae)(O N:Int):Ac (CP p) prog u (d+1) 32 [.agg [Z,Y,X,Am 3 W V,U,Am 1 T S,Am 1 Q P],Ah O,N]=(λ(F:An)=>Cn (F 49 [.agg [Z,Y,X,Am 3 W V,U,Am 1 T S,Am 1 Q P]]) λa b=>K5 1 a λa c=>Bq .i64 b λb=>(λi:PV=>Ap (b != 0) (A9 [i,b]) (Aa (wrap .i64 (Z-1)) λb=>As (decide (0+a*1<=c.length))<|Gn .u64 (F 45 [(15:Int),Am 1 a (yt (a*1) (c.drop 0))]) λa=>Cn (F 27 [Ah O,N,b,Ah a]) λa b=>Cr a λa=>Bu .i64 a λa c=>ZzO 1 c λc e f=>ZzO 1 f λf g h=>Ag h<|Bq .i64 b λb=>Ap (b != 0) (A9 [i,b]) (As (decide (0+c*1<=e.length))<|As (decide (0+f*1<=g.length))<|A9 [.agg [Z,Y,X,Am 3 W V,a,Am 1 c (yt (c*1) (e.drop 0)),Am 1 f (yt (f*1) (g.drop 0))],(0:Int)]))) (.agg [(0:Int),(0:Int),(0:Int),Am 3 0 [],(0:Int),Am 1 0 [],Am 1 0 []])) (Ac (CP p) prog u d):=Κ
end
section
variable {I:FuncId->Option (Ae->Option A3)}(u d:Nat)(F:An)
def G3(Z:Int)(Y:Nat)(X:Ae)(W:Nat)(V:Int)(U:Nat)(T:Ae)(S Q:Int)(P O:Int)(N:Nat)(M:Int)(L K:Nat)(J I H:Ae)(G:Int)(E D:Nat)(B A:Ae):Option A3:=Hq u F 15 Tryz.f15 [Z,Am 1 Y X] [.r,.r,.l,.r,.l] W ⟨lk [(0,V),(1,Am 1 U T),(4,.ptr 4 0),(5,.ptr 5 0),(6,S)],Fb [(4,.st [Q,P,O,.view 188 3 0 N,M,.view 280 1 0 L,.view 326 1 0 K]),(188,.ar false J),(280,.ar false I),(326,.ar false H),(5,.st [Ah G,.view 97 3 0 E,.view 143 2 0 D]),(97,.ar false B),(143,.ar false A)]⟩
theorem Xl(P:Int)(O:Nat)(N:Ae)(M:Nat)(U:Int)(T:Nat)(Q:Ae)(Z L:Int)(K J:Int)(I:Nat)(H:Int)(G E:Nat)(D B A:Ae)(S:Int)(Y X:Nat)(W V:Ae):G3 u F P O N (M+1) U T Q Z L K J I H G E D B A S Y X W V=((λo:Option A3=>Ap (decide (Z<(↑T:Int))) (Ap (decide (Z<4)) (As (decide (0<=Z)&&decide (Z<(↑T:Int)))<|Bi .i64 (Q.getD (Z.toNat*1) .top) λa=>Gn .i64 (F 17 [a,(4:Int)]) λa=>Aa (wrap .i64 (1+a)) λa=>Aa (wrap .i64 (10*Z)) λb=>XN X 2 16 V [a,b] λa b=>Aa (wrap .i64 (Z+1)) λc=>G3 u F P O N M U T Q c L K J I H G E D B A S Y a W b) o) o) (As (decide (0+Y*3<=W.length))<|As (decide (0+X*2<=V.length))<|Cn (F 32 [.agg [U,(0:Int),(1000:Int),Am 3 1 [Ah S,Am 3 Y (yt (Y*3) (W.drop 0)),Am 2 X (yt (X*2) (V.drop 0))],(0:Int),Am 1 0 [],Am 1 0 []],Ah 31,(4:Int)]) λa b=>Cr a λa=>Bu .i64 a λa c=>Bu .i64 c λc e=>Bu .i64 e λe f=>Hd 3 f λf g h=>Bu .i64 h λh i=>Hd 1 i λi j k=>Hd 1 k λk m n=>Ag n<|Bq .i64 b λb=>A9 [.agg [a,c,e,Am 3 f g,h,Am 1 i j,Am 1 k m]])):=Κ
theorem DA(u d:Nat)(Z:Int)(Y:Nat)(X:Ae):Ac (CP p) prog u (d+1) 15 [Z,Am 1 Y X]=(λ(F:An)=>Cn (F 20 [Ah 32,(1:Int)]) λa b=>Cr a λa=>Bu .i64 a λa c=>Bq .u64 c λc=>Ag b<|G3 u F Z Y X u Z Y X 0 0 0 0 0 0 0 0 ([]) ([]) ([]) 3 1 0 ([Bg ⟨#[114,111,111,116]⟩,a,Ah c]) ([])) (Ac (CP p) prog u d):=Κ
end
abbrev n0S:ByteArray:=⟨#[]⟩
abbrev rtS:ByteArray:=ByteArray.mk #[114,111,111,116]
def okI(l:List It):Prop:=∀x∈l,(x.ok/\x.dat)/\x.s.size<=9
theorem Asz{a b:List It}(h:okI a)(g:okI b):okI (a++b):=λx c=>(B8.1 c).elim (h x) (g x)
theorem Ags:okI []:=λx a=>nomatch a
theorem Ht{l:List It}(h:(x.ok/\x.dat)/\x.s.size<=9)(g:okI l):okI (x::l):=λy a=>(zl.1 a).elim (λe=>e ▸ h) (g y)
theorem TG{k n:Int}(a:1<=k)(b:k<=8)(c:0<=n):((It.mk k n n0S).ok/\(It.mk k n n0S).dat)/\(It.mk k n n0S).s.size<=9:=⟨⟨⟨a,b,c,by show (0:Nat)<=_;omega⟩,.inr (.inr rfl)⟩,by show (0:Nat)<=9;omega⟩
theorem Bjq{l:List It}(h:okI l):Ch (Ty l):=λx a=>by
 obtain⟨y,b,a⟩:=zk.1 a;obtain⟨⟨⟨k1,k8,n0,_⟩,_⟩,_⟩:=h y b;exact Atu k1 k8 n0 x a
theorem Ar5:∀{l:List It},okI l->(Ty l).length<=18*l.length
 |[],_=>by simp[Ty]
 |x::l,h=>by
  have b:=Afu x;have c:=(h x Ψ).2;have d:=Ar5 (l:=l) λy a=>h y (by simp[a]);show (Q5 x++Ty l).length<=_;rw[Ru,M9];omega
theorem Abz(l:List It):(K8 l).length=l.length*3:=TZ (f:=It.cells) (k:=3) (λ_=>rfl) l
theorem YM(l:List It):yt (l.length*3) (K8 l)=K8 l:=Gp (by rw[Abz];omega)
theorem Azy(a b:List It):K8 (a++b)=K8 a++K8 b:=kk
def Re(a:Ak):List (Int × Int):=a.zipIdx.map λp=>(p.1,10*(p.2:Int))
theorem RF(a:Ak):(Re a).length=a.length:=by simp[Re]
theorem Auz(a:Ak)(k:Int):Re (a++[k])=Re a++[(k,10*(a.length:Int))]:=by simp[Re,List.zipIdx_append]
theorem Atz{k:Int}(h:a[i]?=some k):(Gv (Re a)).getD (i*2) .top=Av k/\(Gv (Re a)).getD (i*2+1) .top=Av (10*(i:Int)):=by
 have:(Re a)[i]?=some (k,10*(i:Int)):=by simp[Re,h]
 exact⟨Vr (k:=2) (λ_=>rfl) this (j:=0) Ω,Vr (k:=2) (λ_=>rfl) this (j:=1) Ω⟩
def stI(k:Int)(i:Nat):List It:=[⟨5,2,n0S⟩,⟨1,k,n0S⟩,⟨1,10*(i:Int),n0S⟩]
def hdV(v:Int):List It:=[⟨5,4,n0S⟩,⟨1,v,n0S⟩,⟨1,0,n0S⟩,⟨1,1000,n0S⟩,⟨5,1,n0S⟩]
section
variable {u d:Nat}
theorem YV(n:Int)(a:0<=n)(b:n<=1000):Ac C1 prog u (d+1) 82 [Av n]=some ⟨[.agg [Av 5,Ah n,Bg n0S]],[]⟩:=by rw[HM];have w:wrap .u64 n=n:=Cq;simp only[Aq,Ar,w]
theorem Auc(n:Int):Ac C1 prog u (d+1) 83 [Ah n]=some ⟨[.agg [Av 1,Ah n,Bg n0S]],[]⟩:=by rw[FT]
theorem A2i{n lo hi:Int}(h:lo<=n)(g:n<=hi):Ac C1 prog u (d+1) 81 [Av n,Av lo,Av hi]=some ⟨[C3 true],[]⟩:=by rw[EZ];have g:=dT g;simp(disch:=omega)only[Aq,Ar,g]
theorem Bhy:Ac C1 prog u (d+2) 120 [Bg rtS]=some ⟨[Av 0],[]⟩:=Κ
theorem Bbh{l:Ak}(H:∀k∈l,1<=k/\k<=4)(Q:l.length<=4){m n1:_}{c1:Ae}{a:Int}{b:Nat}{c:Ae}{e:Nat}{f:Ae}:∀(r:Ak)(i nn:Nat)(A:List It),l.drop i=r->r.length<nn->okI A->A.length+3*r.length<=40 ->
  ∃B:List It,okI B/\B.length<=40/\Gb u (Ac C1 prog u (d+3)) a b c e f nn A.length (i:Int) m n1 c1 l.length (Gv (Re l)) (K8 A)=some ⟨[.own 3 B.length (K8 B),Av 0],[]⟩
 |_,_,0,_,_,h,_,_=>Ω
 |[],i,nn+1,A,hd,J,G,j=>by
  have hi:=drop_nil hd;simp only[SO] at j;refine⟨A,G,Ω,?_⟩;have L:=Abz A;have t:=YM A;rw[Ob];generalize K8 A=C at *
  repeat(with_reducible(first|apply Bk|apply A5|apply Bm|apply Bj|apply Bo|apply K0|apply Of|apply I6|apply Ff|apply A4|apply Bn|apply H7);· first|constructor|(simp(disch:=omega)only[H9,L,t]<;>first|constructor|omega)|omega)
  try simp(disch:=omega)only[Aa,L,t]
  all_goals rfl
 |k::r,i,nn+1,A,hd,J,G,j=>by
  obtain⟨X,K,R⟩:=Cb hd;simp only[M9] at J j;obtain⟨c0,g⟩:=Atz K;obtain⟨k1,S⟩:=H k (zn K);have q:wj (i:Int)=i:=Hy _;have s:=A2i (u:=u) (d:=d+2) k1 S;have v:=A2i (u:=u) (d:=d+2) (n:=10*(i:Int)) (lo:=0) (hi:=1099511627776) Ω Ω;have x:wrap .u64 k=k:=Cq;have y:wrap .u64 (10*(i:Int))=10*(i:Int):=Cq;have z:=YV (u:=u) (d:=d+2) 2 Ω Ω;have u1:=Auc (u:=u) (d:=d+2) k;have D:=Auc (u:=u) (d:=d+2) (10*(i:Int));have w:wrap .i64 ((i:Int)+1)=((i+1:Nat):Int):=Bc
  have L:=Abz A;have t:=YM A;have lA:(A++stI k i).length=A.length+3:=by rw[Ru];rfl
  obtain⟨B,T,U,M⟩:=Bbh (m:=m) (n1:=n1) (c1:=c1) (a:=a) (b:=b) (c:=c) (e:=e) (f:=f) H Q r (i+1) nn (A++stI k i) R Ω (Asz G (Ht (TG Ω Ω Ω) (Ht (TG Ω Ω Ω) (Ht (TG Ω Ω Ω) Ags)))) (by rw[lA];omega)
  refine⟨B,T,U,?_⟩;have E:K8 A++[Av 5,Ah 2,Bg n0S,Av 1,Ah k,Bg n0S,Av 1,Ah (10*(i:Int)),Bg n0S]=K8 (A++stI k i):=by rw[Azy];rfl
  rw[lA] at M;rw[<-M,Ob];generalize K8 (A++stI k i)=Y at *
  generalize K8 A=C at *
  generalize A.length=n at *
  by_cases V:i=0
  ·subst V
   repeat(with_reducible(first|apply Bk|apply A5|apply Bm|apply Bj|apply Bo|apply K0|apply Of|apply I6|apply Ff|apply A4|apply Bn|apply H7);· first|constructor|(simp(disch:=omega)only[H9,q,c0,g,s,v,x,y,z,u1,D,L,t,E,w,Gc,Ix]<;>first|constructor|omega)|omega)
   try simp(disch:=omega)only[Aa,q,c0,g,s,v,x,y,z,u1,D,L,t,E,w,Gc,Ix]
   all_goals rfl
  ·obtain⟨N,W⟩:∃N,l[i-1]?=some N:=⟨_,zd Ω⟩
   obtain⟨O,o⟩:=Atz W;have P:wrap .i64 ((i:Int)-1)=((i-1:Nat):Int):=Bc
   have p:wj ((i-1:Nat):Int)=i-1:=Hy _
   repeat(with_reducible(first|apply Bk|apply A5|apply Bm|apply Bj|apply Bo|apply K0|apply Of|apply I6|apply Ff|apply A4|apply Bn|apply H7);· first|constructor|(simp(disch:=omega)only[H9,q,c0,g,s,v,P,p,O,o,x,y,z,u1,D,L,t,E,w,Gc,Ix]<;>first|constructor|omega)|omega)
   try simp(disch:=omega)only[Aa,q,c0,g,s,v,P,p,O,o,x,y,z,u1,D,L,t,E,w,Gc,Ix]
   all_goals rfl
abbrev mnK(R:Int)(a:Ak):Mn:=⟨3,1,[Bg rtS,Av 1,Ah R],Re a⟩
abbrev Ao3(R:Int)(a:Ak):Ae:=[Ah 3,.lst false 3 1 [Bg rtS,Av 1,Ah R],.lst false 2 a.length (Gv (Re a))]
theorem enK(Be:1000<=u)(R:Int){v:Ak}(D:∀k∈v,1<=k/\k<=4)(E:v.length<=4):∃B:List It,okI B/\B.length<=40/\Ac C1 prog u (d+4) 84 [.agg (Ao3 R v)]=some ⟨[.own 3 B.length (K8 B),Av 0],[]⟩:=by
 have kB:(Ab (LF ⟨1,R⟩)).size=9:=by rw[Ai];rfl
 obtain⟨C,Es⟩:∃C,u=C+2:=⟨u-2,Ω⟩
 obtain⟨B,G,H,J⟩:=Bbh (u:=u) (d:=d) (m:=3) (n1:=1) (c1:=[Bg rtS,Av 1,Ah R]) (a:=3) (b:=1) (c:=[Bg rtS,Av 1,Ah R]) (e:=v.length) (f:=Gv (Re v)) D E v 0 u
  [⟨5,3,n0S⟩,⟨1,3,n0S⟩,⟨5,1,n0S⟩,⟨5,2,n0S⟩,⟨4,0,rtS⟩,⟨3,0,Ab (LF ⟨1,R⟩)⟩,⟨5,v.length,n0S⟩] rfl Ω
  (Ht (TG Ω Ω Ω) (Ht (TG Ω Ω Ω) (Ht (TG Ω Ω Ω) (Ht (TG Ω Ω Ω)
   (Ht ⟨⟨⟨Ψ,Ψ,Ψ,by show (4:Nat)<=_;omega⟩,.inr (.inl rfl)⟩,by show (4:Nat)<=9;omega⟩ (Ht ⟨⟨⟨Ψ,Ψ,Ψ,by simp only[kB];omega⟩,.inl rfl⟩,by simp only[kB];omega⟩ (Ht (TG Ω Ω Ω) Ags))))))) (by simp only[M9,SO];omega)
 refine⟨B,G,H,?_⟩;have K:=He (Re v);rw[RF] at K;have L:=YV (u:=u) (d:=d+2) 3 Ω Ω;have M:=YV (u:=u) (d:=d+2) 1 Ω Ω;have N:=YV (u:=u) (d:=d+2) 2 Ω Ω;have O:=YV (u:=u) (d:=d+2) v.length Ω Ω;have P:=Auc (u:=u) (d:=d+2) 3;have Q:=Bhy (u:=u) (d:=d+1);have w:=YX (u:=u) (d:=d+1) Be ⟨1,R⟩;have S:E6 (Ky.mk 1 R).h=false:=rfl;rw[Bd (by rw[S];simp)] at w
 simp only[Ky.cells] at w;have T:=Hl (LF ⟨1,R⟩);have U:(Af .u8 (LF ⟨1,R⟩)).length=9:=by rw[Al];rfl
 have V:∀s:ByteArray,Ac C1 prog u (d+3) 121 [Bg s]=some ⟨[.agg [Av 4,Ah 0,Bg s]],[]⟩:=λs=>by rw[KS]
 have x:yt 9 (Af .u8 (LF ⟨1,R⟩))=Af .u8 (LF ⟨1,R⟩):=Gp Ω
 have W:Ac C1 prog u (d+3) 122 [.lst false 1 9 (Af .u8 (LF ⟨1,R⟩))]=some ⟨[.agg [Av 3,Ah 0,Bg (Ab (LF ⟨1,R⟩))]],[]⟩:=by
  rw[LU];simp(disch:=omega)only[Aq,Ar,U,T];rfl
 refine (JC u (d+3) 3 1 [Bg rtS,Av 1,Ah R] v.length (Gv (Re v))).trans ?_;have y:((0:Int) != 0)=false:=rfl;have X:wrap .i64 ((0:Int)+1)=1:=Δ
 have z:((1:Nat):Int)=1:=rfl;have k1:decide ((v.length:Int)>4)=false:=dF Ω;have Y:decide ((1:Int)>4)=false:=rfl;simp only[Aq,Ar,z,k1,Y,L,M,P];rw[Es,Ok,<-Es];have Z:∀a b c:PV,f9 [a,b,c] (wj 0*3+0) PV.top=a:=λ_ _ _=>rfl;have g1:∀a b c:PV,f9 [a,b,c] (wj 0*3+1) PV.top=b:=λ_ _ _=>rfl;have g2:∀a b c:PV,f9 [a,b,c] (wj 0*3+1+1) PV.top=c:=λ_ _ _=>rfl;have d1:decide ((0:Int)<1)=true:=rfl;have d2:decide ((1:Int)<1)=false:=rfl;have d3:(decide ((0:Int)<=0)&&true)=true:=rfl;have c9:decide (9*1<=wy (Af .u8 (LF ⟨1,R⟩)))=true:=dT Ω;have A:decide (0+9*1<=wy (Af .u8 (LF ⟨1,R⟩)))=true:=dT Ω;have t9:yt (9*1) (nb 0 (Af .u8 (LF ⟨1,R⟩)))=Af .u8 (LF ⟨1,R⟩):=Gp (by rw[Jo];omega)
 have q1:∀a b c e f g h i j:PV,decide (3*3<=[a,b,c,e,f,g,h,i,j].length)=true:=λ_ _ _ _ _ _ _ _ _=>rfl;have q2:decide ((3+3)*32<=1099511627776)=true:=rfl;have q3:decide (3+3<=1099511627776)=true:=rfl;have q4:∀a b c e f g h i j:PV,yt (3*3) [a,b,c,e,f,g,h,i,j]=[a,b,c,e,f,g,h,i,j]:=λ_ _ _ _ _ _ _ _ _=>rfl;simp only[Aq,Ar,z,d1,d3,Z,g1,g2,Q,y,w,N,V,c9,A,t9,x,W,X,q1,q2,q3,q4,Zzp,SJ];rw[Ok];have q5:∀a b c e f g h i j k l m n o p q r t:PV,decide ((3+3)*3<=[a,b,c,e,f,g,h,i,j,k,l,m,n,o,p,q,r,t].length)=true:=λ_ _ _ _ _ _ _ _ _ _ _ _ _ _ _ _ _ _=>rfl;have q6:∀a b c e f g h i j k l m n o p q r t:PV,yt ((3+3)*3) [a,b,c,e,f,g,h,i,j,k,l,m,n,o,p,q,r,t]=[a,b,c,e,f,g,h,i,j,k,l,m,n,o,p,q,r,t]:=λ_ _ _ _ _ _ _ _ _ _ _ _ _ _ _ _ _ _=>rfl;have q7:decide ((3+3+1)*32<=1099511627776)=true:=rfl
 have q8:decide (3+3+1<=1099511627776)=true:=rfl;simp only[Aq,Ar,z,d2,O,q5,q6,q7,q8,Zzp,SJ];exact J
theorem Bho(Be:1000<=u)(R:Int){f:Ak}(n:∀k∈f,1<=k/\k<=4)(o:f.length<=4)(p:1<=v)(q:v<=16):∃B:Ak,Ch B/\B.length<=100000/\Ac C1 prog u (d+5) 49 [.agg [Av v,Av 0,Av 1000,.lst false 3 1 (Ao3 R f),Av 0,.lst false 1 0 [],.lst false 1 0 []]]=some ⟨[.own 1 B.length (Af .u8 B),Av 0],[]⟩:=by
 obtain⟨l,Es⟩:∃l,u=l+2:=⟨u-2,Ω⟩
 obtain⟨E,r,o2,s⟩:=enK (u:=u) (d:=d) Be R n o;have g:okI (hdV v++E):=Asz (Ht (TG Ω Ω Ω) (Ht (TG Ω Ω Ω) (Ht (TG Ω Ω Ω) (Ht (TG Ω Ω Ω) (Ht (TG Ω Ω Ω) Ags))))) r;have h:(hdV v++E).length=5+E.length:=by rw[Ru];rfl
 have i:=Aww (u:=u) (d:=d) (λx t=>(g x t).1) Ω Be;have bB:=Bjq g;have bL:=Ar5 g;have eE:K8 (hdV v++E)=K8 (hdV v)++K8 E:=Azy _ _;have LE:=Abz E;have w:=Abz (hdV v++E);have tE:=YM E;have m:=YM (hdV v++E);rw[h] at i w m;generalize Ty (hdV v++E)=B at i bB bL;refine⟨B,bB,Ω,(BE u (d+4) v 0 1000 1 (Ao3 R f) 0 0 [] 0 []).trans ?_⟩;have j:((1:Nat):Int)=1:=rfl;have y:=A2i (u:=u) (d:=d+3) p q;have z:=YV (u:=u) (d:=d+3) 4 Ω Ω;have A:=YV (u:=u) (d:=d+3) 1 Ω Ω;have e:=Auc (u:=u) (d:=d+3);have x1:wrap .u64 v=v:=Cq;have C:∀a b c:PV,f9 [a,b,c] (wj 0*3+0) PV.top=a:=λ_ _ _=>rfl;have D:∀a b c:PV,f9 [a,b,c] (wj 0*3+1) PV.top=b:=λ_ _ _=>rfl
 have G:∀a b c:PV,f9 [a,b,c] (wj 0*3+1+1) PV.top=c:=λ_ _ _=>rfl;have H:(decide ((0:Int)<0))=false:=rfl;have k1:(decide ((1000:Int)<0))=false:=rfl;have J:(decide ((1000:Int)>1099511627776))=false:=rfl;have K:(decide ((1:Int)>16))=false:=rfl;have L:wrap .u64 0=0:=rfl;have M:wrap .u64 1000=1000:=rfl;simp only[Aq,Ar,y,Gc,H,k1,J,j,K,z,A,e,x1,L,M];show E7 u _ _ _ _ _ _ _ _ _ _ _ _ _ _ _ _ _ _ _ _ _ _ _ _ (K8 (hdV v))=_;have L1:(K8 (hdV v)).length=15:=rfl;rw[Es,Lv,<-Es];have N:decide ((0:Int)<1)=true:=rfl;have O:decide ((0:Int)>0)=false:=rfl;have P:(decide ((0:Int)<=0)&&true)=true:=rfl;have Q:decide ((1:Int)<1)=false:=rfl;have S:((0:Int) != 0)=false:=rfl;have T:wrap .i64 (0+1)=1:=Δ
 have U:f9 (Ao3 R f) (wj 0*3) PV.top=Ah 3:=rfl;have tF:yt (5*3) (K8 (hdV v))=K8 (hdV v):=rfl;have tH:yt (E.length*3) (nb 0 (K8 E))=K8 E:=tE;have c1:decide (0+E.length*3<=(K8 E).length)=true:=dT Ω;have V:decide (5*3<=(K8 (hdV v)).length)=true:=rfl;have W:decide ((K8 E).length=E.length*3)=true:=dT LE;have X:decide ((5+E.length)*32<=1099511627776)=true:=dT Ω;have Y:decide (5+E.length<=1099511627776)=true:=dT Ω;have Z:decide ((5+E.length)*3<=(K8 (hdV v++E)).length)=true:=dT Ω;have t6:yt ((5+E.length)*3) (nb 0 (K8 (hdV v++E)))=K8 (hdV v++E):=m;have c4:decide (0+(5+E.length)*3<=(K8 (hdV v++E)).length)=true:=dT Ω;have c5:decide (B.length*1<=(Af .u8 B).length)=true:=dT (by rw[Al];omega)
 have c6:decide (0+B.length*1<=(Af .u8 B).length)=true:=dT (by rw[Al];omega)
 have t7:yt (B.length*1) (nb 0 (Af .u8 B))=Af .u8 B:=Gp (by rw[Jo,Al];omega)
 have t8:yt (B.length*1) (Af .u8 B)=Af .u8 B:=Gp (by rw[Al];omega)
 simp only[Aq,Ar,j,N,O,P,S,T,U,C,D,G,s,tF,tH,c1,V,W,X,Y,<-eE];rw[Lv];simp only[Aq,Ar,j,Q,Z,c4,t6,i,c5,c6,t7,t8]
set_option maxHeartbeats 1000000 in
theorem Bky(Be:1000400<=u)(R:Int)(n:∀k∈a,1<=k/\k<=4)(o:a.length<=4)(q:1<=v)(r:v<=16):∃(m:Mt)(e:Int),m.ok/\Ac C1 prog u (d+13) 32 [.agg [Av v,Av 0,Av 1000,.lst false 3 1 (Ao3 R a),Av 0,.lst false 1 0 [],.lst false 1 0 []],Ah 31,Av 4]=some ⟨[.agg m.cells,Av e],[]⟩:=by
 obtain⟨B,bB,bL,f⟩:=Bho (u:=u) (d:=d+7) Ω R n o q r;have g:=IQ (I:=xs1) (u:=u) (d:=d+8) bB Ω Ω Ω 15;have w:wrap .i64 (v-1)=v-1:=Ba;have sg:=An7 (u:=u) (d:=d) Ω 31 4 (v-1) (Fk 15 B);have b:((0:Int) != 0)=false:=rfl;have c:((9:Int) != 0)=true:=rfl;have i:decide (0+B.length*1<=(Af .u8 B).length)=true:=dT (by rw[Al];omega)
 have j:yt (B.length*1) (nb 0 (Af .u8 B))=Af .u8 B:=Gp (by rw[Jo,Al];omega)
 have E:∀{z:Option A3},_=z->_=z:=λ{z} h=>(BW (p:=some Bz) u (d+12) v 0 1000 1 (Ao3 R a) 0 0 [] 0 [] 31 4).trans h;cases l:Agq 31 4 (v-1) (Fk 15 B) with
 |none=>
  rw[l] at sg;simp only[PC,Sg.owned,SO] at sg;refine⟨mt0,9,Apk,E ?_⟩;simp only[Aq,Ar,f,b,w,i,j,g,sg,c];rfl
 |some s=>
  rw[l] at sg;simp only[PC,Sg.owned] at sg;have La:=Al .u64 s.chains;have Lb:=Al .u64 s.path;have c7:decide (0+s.chains.length*1<=(Af .u64 s.chains).length)=true:=dT Ω;have t:yt (s.chains.length*1) (nb 0 (Af .u64 s.chains))=Af .u64 s.chains:=Gp (by rw[Jo];omega)
  have x:decide (0+s.path.length*1<=(Af .u64 s.path).length)=true:=dT Ω;have y:yt (s.path.length*1) (nb 0 (Af .u64 s.path))=Af .u64 s.path:=Gp (by rw[Jo];omega)
  refine⟨⟨v,0,1000,[mnK R a],s.leaf,s.chains.length,Af .u64 s.chains,s.path.length,Af .u64 s.path⟩,0,⟨by show (1:Nat)<=_;omega,λe A=>?_⟩,E ?_⟩
  ·obtain rfl:=Tx.1 A;exact⟨rfl,by show (1:Nat)<=_;omega,by show (Re a).length<=_;rw[RF];omega⟩
  ·have em:(Mt.mk v 0 1000 [mnK R a] s.leaf s.chains.length (Af .u64 s.chains) s.path.length (Af .u64 s.path)).cells=[Av v,Av 0,Av 1000,.lst false 3 1 (Ao3 R a),Av s.leaf,.lst false 1 s.chains.length (Af .u64 s.chains),.lst false 1 s.path.length (Af .u64 s.path)]:=by
    have:=RF a;show [_,_,_,PV.lst false 3 1 [_,_,.lst false 2 (Re a).length _],_,_,_]=_;rw[this]
   rw[em];simp only[Aq,Ar,f,b,w,i,j,g,sg,c7,t,x,y]
theorem Baa(Be:1000400<=u)(R:Int){kinds:Ak}{v:Int}(n:1<=v)(o:v<=16){a0:Int}{a1n:Nat}{a1:Ae}:∀(nn:Nat)(f:Ak),f.length<=4->5<=nn+f.length->(∀k∈f,1<=k/\k<=4) ->
  ∃m:Mt,m.ok/\G3 u (Ac C1 prog u (d+13)) a0 a1n a1 nn v kinds.length (Af .i64 kinds) (f.length:Int) 0 0 0 0 0 0 0 [] [] [] 3 1 f.length [Bg rtS,Av 1,Ah R] (Gv (Re f))=some ⟨[.agg m.cells],[]⟩
 |0,_,_,_,_=>Ω
 |nn+1,f,z,Q,r=>by
  have L:=He (Re f);rw[RF] at L;have s:yt (f.length*2) (Gv (Re f))=Gv (Re f):=Gp Ω;have t:yt (f.length*2) (nb 0 (Gv (Re f)))=Gv (Re f):=s;have c1:decide (0+f.length*2<=(Gv (Re f)).length)=true:=dT Ω;have c0:∀a b c:PV,decide (0+1*3<=[a,b,c].length)=true:=λ_ _ _=>rfl;have u0:∀a b c:PV,yt (1*3) (nb 0 [a,b,c])=[a,b,c]:=λ_ _ _=>rfl;obtain⟨m,e,g,sg⟩:=Bky (u:=u) (d:=d) Be R r z n o;simp only[Mt.cells] at sg;rw[Xl];by_cases A:f.length<kinds.length
  ·have j:=dT (q:=((f.length:Nat):Int)<(kinds.length:Nat)) Ω;by_cases S:f.length<4
   ·have l:=dT (q:=((f.length:Nat):Int)<4) Ω;obtain⟨x,B⟩:∃x,kinds[f.length]?=some x:=⟨_,zd A⟩
    have C:=Tm (k:=.i64) B;obtain⟨y,T,U,md⟩:=A4t x 4 Ω Ω;have md:=md (u:=u) (d:=d+12) (p:=some Bz);have D:wj ((f.length:Nat):Int)=f.length:=Hy _;have E:decide ((0:Int)<=((f.length:Nat):Int))=true:=dT Ω;have G:wrap .i64 (1+y)=1+y:=Ba;have H:wrap .i64 (10*((f.length:Nat):Int))=10*((f.length:Nat):Int):=Ba;have J:wrap .i64 (((f.length:Nat):Int)+1)=((f.length+1:Nat):Int):=Bc
    have c2:decide (f.length*2<=(Gv (Re f)).length)=true:=dT Ω;have K:decide ((f.length+1)*16<=1099511627776)=true:=dT Ω;have M:decide (f.length+1<=1099511627776)=true:=dT Ω;have N:Gv (Re f)++[PV.sc (.int .i64 (1+y)),Av (10*((f.length:Nat):Int))]=Gv (Re (f++[1+y])):=by rw[Auz];simp[Gv,kk]
    have lk:(f++[1+y]).length=f.length+1:=Ψ
    obtain⟨O,i,w⟩:=Baa (kinds:=kinds) (a0:=a0) (a1n:=a1n) (a1:=a1) Be R n o nn (f++[1+y]) Ω Ω (λk P=>(B8.1 P).elim (r k) λh=>by simp at h;omega)
    rw[lk] at w;refine⟨O,i,?_⟩;simp only[Aq,Ar,j,l,E,D,Jp,C,md,G,H,J,c2,K,M,s,N];exact w
   ·have l:=dF (q:=((f.length:Nat):Int)<4) Ω;refine⟨m,g,?_⟩;simp only[Aq,Ar,j,l,c0,u0,c1,t,sg];rfl
  ·have j:=dF (q:=((f.length:Nat):Int)<(kinds.length:Nat)) Ω;refine⟨m,g,?_⟩;simp only[Aq,Ar,j,c0,u0,c1,t,sg];rfl
theorem Au2(Be:1000400<=u){kinds:Ak}(c:1<=v)(e:v<=16):∃m:Mt,m.ok/\Ac C1 prog u (d+14) 15 [Av v,.lst false 1 kinds.length (Af .i64 kinds)]=some ⟨[.agg m.cells],[]⟩:=by
 have b:=Aiz (u:=u) (d:=d) Ω 32 1;have f:(Vp 32 1).cells=[Av 1,Ah (Vp 32 1).root]:=by unfold Ky.cells;rw[Aas Δ]
 rw[f] at b;obtain⟨m,a,l0⟩:=Baa (u:=u) (d:=d) Be (Vp 32 1).root (kinds:=kinds) c e (a0:=v) (a1n:=kinds.length) (a1:=Af .i64 kinds) u [] Ψ (by simp;omega) (λk g=>nomatch g)
 refine⟨m,a,(DA u (d+13) v kinds.length (Af .i64 kinds)).trans ?_⟩;simp only[Aq,Ar,b];exact l0
end
section
variable {I:FuncId->Option (Ae->Option A3)}(u d:Nat)(F:An)
def I5(Z:Nat)(Y:Ae)(X:Nat)(W:Ae)(V:Int)(U T:Nat)(S:Ae)(Q:Int)(P:Nat)(O:Ae)(N:Int)(M L:ByteArray)(K:Nat)(J:Ae)(I:Int)(H:Bool)(G E:Int)(D:Bool)(B:Int)(A:Bool)(z:Nat)(w:Ae)(v a:Int)(t HQ:Int):Option A3:=Hq u F 3 Tryz.f3 [Am 1 Z Y,Am 1 X W,V] [.r,.r] U ⟨lk [(1,Am 1 T S),(2,Q),(7,.ptr 7 0),(8,.ptr 8 0)],Fb [(7,.st [Am 1 P O,N]),(8,.st [M,L,Am 1 K J,I,H,G,E,D,B,A,Am 1 z w,v,Ah a,t,Ah HQ])]⟩
def Du(Z:Nat)(Y:Ae)(X:Nat)(W:Ae)(V:Int)(U T:Nat)(S:Ae)(Q:Int)(P:Nat)(O:Int)(N:Nat)(M:Ae)(L:Int)(K J:ByteArray)(I:Nat)(H:Ae)(G:Int)(E:Bool)(D B:Int)(A:Bool)(z:Int)(w:Bool)(v:Nat)(a:Ae)(t HQ:Int)(KM KY:Int)(KZ:Ae)(FC DI:Int)(KP:Nat)(LY:Bool)(b:Ae)(c:Nat)(d:Ae)(e f:Int)(g h:Int)(i:Bool)(j:Int)(k:Nat)(l:Ae)(m:Bool)(n o:Int):Option A3:=Hq u F 3 Tryz.f3 [Am 1 Z Y,Am 1 X W,V] [.r,.r,.r,.r,.r,.r,.r,.l,.r,.l] U ⟨lk [(1,Am 1 T S),(2,Q),(7,.ptr 7 0),(8,.ptr 8 0),(9,.view 9 1 0 P),(10,.ptr 10 0),(11,.ptr 11 0),(12,O)],Fb [(7,.st [Am 1 N M,L]),(8,.st [K,J,Am 1 I H,G,E,D,B,A,z,w,Am 1 v a,t,Ah HQ,KM,Ah KY]),(9,.ar false KZ),(10,.st [Ah FC,DI,.view 421 1 0 KP,LY]),(421,.ar true b),(11,.st [Am 1 c d,e,Ah f,Ah g,h,i,Ah j,Am 2 k l,m,n,o])]⟩
def Gj(Z:Nat)(Y:Ae)(X:Nat)(W:Ae)(V:Int)(U T:Nat)(S:Ae)(Q:Int)(P O:Nat)(N:Ae)(M:Int)(L K:ByteArray)(J:Nat)(I:Ae)(H:Int)(G:Bool)(E D:Int)(B:Bool)(A:Int)(z:Bool)(w:Nat)(v:Ae)(a t:Int)(HQ KM:Int)(KY:Ae)(KZ:Nat)(FC:Ae)(DI KP:Int)(LY b:Int)(c:Bool)(d:Int)(e:Nat)(f:Ae)(g:Bool)(h i j:Int)(k:ByteArray)(l:Nat)(m:Ae)(n:Nat)(o:Ae)(p:Nat)(q:Ae)(r:Int)(s:Nat)(x:Ae)(y:ByteArray):Option A3:=Hq u F 3 Tryz.f3 [Am 1 Z Y,Am 1 X W,V] [.r,.r,.r,.r,.r,.r,.r,.r,.r] U ⟨lk [(1,Am 1 T S),(2,Q),(7,.ptr 7 0),(8,.ptr 8 0),(9,.view 9 1 0 P),(11,.ptr 11 0),(14,.ptr 14 0)],Fb [(7,.st [Am 1 O N,M]),(8,.st [L,K,Am 1 J I,H,G,E,D,B,A,z,Am 1 w v,a,Ah t,HQ,Ah KM]),(9,.ar true KY),(11,.st [Am 1 KZ FC,DI,Ah KP,Ah LY,b,c,Ah d,Am 2 e f,g,h,i]),(14,.st [j,k,Am 1 l m,Am 1 n o,Am 1 p q,r,Am 1 s x,y])]⟩
def Ey(Z:Nat)(Y:Ae)(X:Nat)(W:Ae)(V:Int)(U T:Nat)(S:Ae)(Q:Int)(P O:Nat)(N:Ae)(M:Int)(L K:ByteArray)(J:Nat)(I:Ae)(H:Int)(G:Bool)(E D:Int)(B:Bool)(A:Int)(z:Bool)(w:Nat)(v:Ae)(a t:Int)(HQ KM:Int)(KY:Ae)(KZ:Nat)(FC:Ae)(DI KP:Int)(LY b:Int)(c:Bool)(d:Int)(e:Nat)(f:Ae)(g:Bool)(h i j:Int)(k:ByteArray)(l:Nat)(m:Ae)(n:Nat)(o:Ae)(p:Nat)(q:Ae)(r:Int)(s:Nat)(x:Ae)(y:ByteArray):Option A3:=Hq u F 3 Tryz.f3 [Am 1 Z Y,Am 1 X W,V] [.r,.r,.r,.r,.r,.r,.r,.r,.r,.r] U ⟨lk [(1,Am 1 T S),(2,Q),(7,.ptr 7 0),(8,.ptr 8 0),(9,.view 9 1 0 P),(11,.ptr 11 0),(14,.ptr 14 0)],Fb [(7,.st [Am 1 O N,M]),(8,.st [L,K,Am 1 J I,H,G,E,D,B,A,z,Am 1 w v,a,Ah t,HQ,Ah KM]),(9,.ar true KY),(11,.st [Am 1 KZ FC,DI,Ah KP,Ah LY,b,c,Ah d,Am 2 e f,g,h,i]),(14,.st [j,k,Am 1 l m,Am 1 n o,Am 1 p q,r,Am 1 s x,y])]⟩
theorem O7(Y:Nat)(X:Ae)(W:Nat)(V:Ae)(U:Int)(Z:Nat)(Es:0<Z)(T:Nat)(S:Ae)(Q:Int)(d:Nat)(t:Ae)(y5:Int)(P O:ByteArray)(N:Nat)(M:Ae)(L:Int)(K:Bool)(J I:Int)(H:Bool)(G:Int)(E:Bool)(D:Nat)(B:Ae)(A z:Int)(w v:Int):I5 u F Y X W V U Z T S Q d t y5 P O N M L K J I H G E D B A z w v=(Ao (F 7 [.pbox [Am 1 d t,y5],(5:Int)]) λa b=>Bq .i64 a λa=>Ad b λb c=>Hd 1 b λb e f=>Bq .i64 f λf=>Ag c<|Cn (F 6 [a,(16:Int)]) λa c=>K5 1 a λa g=>Ag c<|Ao (F 7 [.pbox [Am 1 b e,f],(9:Int)]) λb c=>Bq .i64 b λb=>Ad c λc e=>Hd 1 c λc f h=>Bq .i64 h λh=>Ag e<|Ao (F 7 [.pbox [Am 1 c f,h],(3:Int)]) λc e=>Bq .i64 c λc=>Ad e λe f=>Hd 1 e λe h i=>Bq .i64 i λi=>Ag f<|Aa (wrap .i64 (1+c)) λc=>Ao (F 7 [.pbox [Am 1 e h,i],(2:Int)]) λe f=>Bq .i64 e λe=>Ad f λf h=>Hd 1 f λf i j=>Bq .i64 j λj=>Ag h<|Cn (F 8 [b,c,C3 (e==1)]) λb c=>Cr b λb=>Bu .u64 b λb e=>Bu .i64 e λe h=>ZzO 1 h λh k m=>Qa m λm=>Ag c<|Ao (F 7 [.pbox [Am 1 f i,j],(3:Int)]) λc f=>Bq .i64 c λc=>Ad f λf i=>Hd 1 f λf j n=>Bq .i64 n λn=>Ag i<|As (decide (0<=c)&&decide (c<3))<|Bi .i64 (f9 [(0:Int),(3:Int),(7:Int)] (0+c.toNat*1) .top) λc=>Aa (wrap .u64 c) λc=>As (decide (0+h*1<=k.length))<|Cn (F 9 [.agg [Ah b,e,Am 1 h (yt (h*1) (k.drop 0)),m],Ah c]) λc i=>Cr c λc=>Hd 1 c λc o p=>Bu .i64 p λp q=>Bu .u64 q λq s=>Bu .u64 s λs Bm5=>Bu .i64 Bm5 λBkh Bnq=>Ad Bnq λBnh Bnl=>Bh Bnh λBjo=>Bu .u64 Bnl λBh1 Bmz=>Hd 2 Bmz λBhp Bkj Bno=>Ad Bno λBow Bre=>Bh Bow λBjr=>Bu .i64 Bre λBhj Bq1=>Bq .i64 Bq1 λBji=>Ag i<|Ao (F 7 [.pbox [Am 1 f j,n],(5:Int)]) λf i=>Bq .i64 f λf=>Ad i λi j=>Hd 1 i λi n Bqg=>Bq .i64 Bqg λBh8=>Ag j<|Ap (f==4) (Ao (F 7 [.pbox [Am 1 i n,Bh8],(5:Int)]) λf i=>Bq .i64 f λf=>Ad i λi j=>Hd 1 i λi n Bp0=>Bq .i64 Bp0 λBo3=>Ag j<|Du u F Y X W V U u T S Q a f i n Bo3 P O N M L K J I H G E D B A z w v g b e h m k c o p q s Bkh (!Bjo) Bh1 Bhp Bkj Bjr Bhj Bji) (Ao (F 7 [.pbox [Am 1 i n,Bh8],(5:Int)]) λf i=>Bq .i64 f λf=>Ad i λi j=>Hd 1 i λi n Bmt=>Bq .i64 Bmt λBqe=>Ag j<|Du u F Y X W V U u T S Q a f i n Bqe P O N M L K J I H G E D B A z w v g b e h m k c o p q s Bkh Bjo Bh1 Bhp Bkj Bjr Bhj Bji)):=by cases Z with|zero=>exact absurd Es (wo 0)|succ Z=>kernel_rfl
theorem Il(T:Nat)(S:Ae)(Q:Nat)(P:Ae)(O:Int)(nn N:Nat)(M:Ae)(L:Int)(Z:Nat)(V:Int)(K:Nat)(J:Ae)(I:Int)(H G:ByteArray)(E:Nat)(D:Ae)(B:Int)(A:Bool)(z w:Int)(v:Bool)(d:Int)(t:Bool)(TC:Nat)(TU:Ae)(UP HQ:Int)(KM KY:Int)(Y:Ae)(FC X:Int)(W:Nat)(LY:Bool)(U:Ae)(l:Nat)(r:Ae)(x y:Int)(C y36:Int)(y37:Bool)(y38:Int)(y39:Nat)(y40:Ae)(y41:Bool)(y42 y43:Int):Du u F T S Q P O (nn+1) N M L Z V K J I H G E D B A z w v d t TC TU UP HQ KM KY Y FC X W LY U l r x y C y36 y37 y38 y39 y40 y41 y42 y43=(Ap (decide (V>0)) (Aa (wrap .u64 X) λa=>As (decide (0<=a))<|Aa (Dv .i64 1 a) λa=>Ao (F 7 [.pbox [Am 1 K J,I],a]) λa b=>Bq .i64 a λa=>Ad b λb c=>Hd 1 b λb e f=>Bq .i64 f λf=>Ag c<|Ao (F 7 [.pbox [Am 1 b e,f],(2:Int)]) λb c=>Bq .i64 b λb=>Ad c λc e=>Hd 1 c λc f g=>Bq .i64 g λg=>Ag e<|Cn (F 10 [.agg [Am 1 l r,x,Ah y,Ah C,y36,y37,Ah y38,Am 2 y39 y40,y41,y42,y43],a,b,V]) λa b=>Cr a λa=>Hd 1 a λa e h=>Bu .i64 h λh i=>Bu .u64 i λi j=>Bu .u64 j λj k=>Bu .i64 k λk m=>Ad m λm n=>Bh m λm=>Bu .u64 n λn o=>Hd 2 o λo p q=>Ad q λq s=>Bh q λq=>Bu .i64 s λs Bp6=>Bq .i64 Bp6 λBn2=>Bq .i64 b λb=>Aa (wrap .i64 (V-1)) λb=>Du u F T S Q P O nn N M L Z b c f g H G E D B A z w v d t TC TU UP HQ KM KY Y FC X W LY U a e h i j k m n o p q s Bn2) (Aa (wrap .u64 X) λa=>As (decide (0<=a))<|Aa (Dv .i64 1 a) λa=>Ao (F 7 [.pbox [Am 1 K J,I],a]) λa b=>Bq .i64 a λa=>Ad b λb c=>Hd 1 b λb e f=>Bq .i64 f λf=>Ag c<|Ao (F 7 [.pbox [Am 1 b e,f],(3:Int)]) λb c=>Bq .i64 b λb=>Ad c λc e=>Hd 1 c λc f g=>Bq .i64 g λg=>(λR:PV=>Ag e<|As (decide (0<=b)&&decide (b<3))<|At (f9 [R,R,Bg ⟨#[111,116,104,101,114,46,99,111,109]⟩] (0+b.toNat*1) .top) λb=>Ao (F 7 [.pbox [Am 1 c f,g],(5:Int)]) λc e=>Bq .i64 c λc=>Ad e λe f=>Hd 1 e λe g h=>Bq .i64 h λh=>Ag f<|As (decide (0<=c)&&decide (c<5))<|Bi .i64 (f9 [(0:Int),(1:Int),(0:Int),(2:Int),(3:Int)] (0+c.toNat*1) .top) λc=>Cn (F 12 [c]) λc f=>At c λc=>Ag f<|Ao (F 7 [.pbox [Am 1 e g,h],(2:Int)]) λe f=>Bq .i64 e λe=>Ad f λf g=>Hd 1 f λf h i=>Bq .i64 i λi=>Ag g<|Ao (F 7 [.pbox [Am 1 f h,i],(16:Int)]) λf g=>Bq .i64 f λf=>Ad g λg h=>Hd 1 g λg i j=>Bq .i64 j λj=>Ag h<|Ao (F 7 [.pbox [Am 1 g i,j],(4:Int)]) λg h=>Bq .i64 g λg=>Ad h λh i=>Hd 1 h λh j k=>Bq .i64 k λk=>Ag i<|As (decide (0<=g)&&decide (g<4))<|Bi .i64 (f9 [(0:Int),(0:Int),a,f] (0+g.toNat*1) .top) λf=>As (decide (0+W*1<=U.length))<|As (decide (0+Z*1<=Y.length))<|Cn (F 11 [.agg [Ah FC,X,Am 1 W (yt (W*1) (U.drop 0)),LY],b,c,Am 1 Z (yt (Z*1) (Y.drop 0)),C3 (e==1),a,f,Bg ⟨#[]⟩]) λa b=>Cr a λa=>Bu .i64 a λa c=>Ad c λc e=>At c λc=>Hd 1 e λe f g=>Hd 1 g λg i m=>Hd 1 m λm n o=>Bu .i64 o λo p=>Hd 1 p λp q s=>Ad s λs Bnj=>At s λs=>Ag Bnj<|Ag b<|Gj u F T S Q P O u N M L Z h j k H G E D B A z w v d t TC TU UP HQ KM KY Y l r x y C y36 y37 y38 y39 y40 y41 y42 y43 a c e f g i m n o p q s) (Bg ⟨#[101,120,97,109,112,108,101,46,99,111,109]⟩))):=Κ
theorem Pn(Y:Nat)(X:Ae)(W:Nat)(V:Ae)(U:Int)(Z:Nat)(Es:0<Z)(T:Nat)(S:Ae)(Q:Int)(P y4:Nat)(y5:Ae)(y6:Int)(O N:ByteArray)(M:Nat)(L:Ae)(K:Int)(J:Bool)(I H:Int)(G:Bool)(E:Int)(D:Bool)(B:Nat)(A:Ae)(z w:Int)(v d:Int)(t:Ae)(KZ:Nat)(FC:Ae)(DI KP:Int)(LY l:Int)(r:Bool)(x:Int)(y:Nat)(C:Ae)(R:Bool)(y36 y37 y38:Int)(y39:ByteArray)(y40:Nat)(y41:Ae)(y42:Nat)(y43:Ae)(y44:Nat)(y45:Ae)(y46:Int)(y47:Nat)(y48:Ae)(y49:ByteArray):Gj u F Y X W V U Z T S Q P y4 y5 y6 O N M L K J I H G E D B A z w v d t KZ FC DI KP LY l r x y C R y36 y37 y38 y39 y40 y41 y42 y43 y44 y45 y46 y47 y48 y49=(Ao (F 7 [.pbox [Am 1 y4 y5,y6],(3:Int)]) λa b=>Bq .i64 a λa=>Ad b λb c=>Hd 1 b λb e f=>Bq .i64 f λf=>Ag c<|Ap (a==2) (Ao (F 13 [.pbox [Am 1 b e,f],.agg [y38,y39,Am 1 y40 y41,Am 1 y42 y43,Am 1 y44 y45,y46,Am 1 y47 y48,y49]]) λa b=>Ad a λa c=>Cr a λa=>Bu .i64 a λa e=>Ad e λe f=>At e λe=>Hd 1 f λf g h=>Hd 1 h λh i j=>Hd 1 j λj k m=>Bu .i64 m λm n=>Hd 1 n λn o p=>Ad p λp q=>At p λp=>Ag q<|Ag c<|Ad b λb c=>Hd 1 b λb q s=>Bq .i64 s λs=>Ag c<|Ey u F Y X W V U u T S Q P b q s O N M L K J I H G E D B A z w v d t KZ FC DI KP LY l r x y C R y36 y37 a e f g h i j k m n o p) (Ey u F Y X W V U u T S Q P b e f O N M L K J I H G E D B A z w v d t KZ FC DI KP LY l r x y C R y36 y37 y38 y39 y40 y41 y42 y43 y44 y45 y46 y47 y48 y49)):=by cases Z with|zero=>exact absurd Es (wo 0)|succ Z=>kernel_rfl
theorem Pq(CI:Nat)(a0:Ae)(a1n:Nat)(a1:Ae)(a2:Int)(nn:Nat)(Es:0<nn)(y0:Nat)(y1:Ae)(X:Int)(Z y4:Nat)(y5:Ae)(y6:Int)(W V:ByteArray)(U:Nat)(T:Ae)(S:Int)(Q:Bool)(P O:Int)(N:Bool)(M:Int)(L:Bool)(K:Nat)(J:Ae)(I H:Int)(G E:Int)(Y:Ae)(D:Nat)(B:Ae)(A z:Int)(w v:Int)(d:Bool)(t:Int)(l:Nat)(r:Ae)(x:Bool)(y C y38:Int)(y39:ByteArray)(y40:Nat)(y41:Ae)(y42:Nat)(y43:Ae)(y44:Nat)(y45:Ae)(y46:Int)(y47:Nat)(y48:Ae)(y49:ByteArray):Ey u F CI a0 a1n a1 a2 nn y0 y1 X Z y4 y5 y6 W V U T S Q P O N M L K J I H G E Y D B A z w v d t l r x y C y38 y39 y40 y41 y42 y43 y44 y45 y46 y47 y48 y49=(Ao (F 7 [.pbox [Am 1 y4 y5,y6],(9:Int)]) λa b=>Bq .i64 a λa=>Ad b λb c=>Hd 1 b λb e f=>Bq .i64 f λf=>(λq:PV=>(λs:PV=>(λR:PV=>(λz1:PV=>Ag c<|Ap (a==8) (Ao (F 7 [.pbox [Am 1 b e,f],(200:Int)]) λa b=>Bq .i64 a λa=>Ad b λb c=>Hd 1 b λb e f=>Bq .i64 f λf=>Ag c<|As (decide (0+Z*1<=Y.length))<|Cn (F 14 [z1,a]) λa c=>K5 1 a λa g=>Ag c<|Ao (F 7 [.pbox [Am 1 b e,f],(16:Int)]) λb c=>Bq .i64 b λb=>Ad c λc e=>Hd 1 c λc f h=>Bq .i64 h λc=>Ag e<|Aa (wrap .i64 (1+b)) λb=>Cn (F 15 [b,Am 1 y0 y1]) λb c=>Cr b λb=>Bu .i64 b λb e=>Bu .i64 e λe f=>Bu .i64 f λf h=>Hd 3 h λh i j=>Bu .i64 j λj k=>Hd 1 k λk m n=>Hd 1 n λn o p=>Ag p<|Ag c<|Gn .i64 (F 17 [X,(60:Int)]) λc=>(λz2:PV=>(λz4:PV=>As (decide (0+a*1<=g.length))<|Cn (F 16 [R,z2,s,z4,c,q]) λc p=>Bh c λc=>Ag p<|Ap c (As (decide (0+a*1<=g.length))<|Cn (F 16 [R,z2,s,z4,X,q]) λa b=>Bh a λa=>Ag b<|Ap a (Cn (F 18 []) λa b=>Bh a λa=>Ag b<|A9 [a]) (A9 [false])) (A9 [false])) (Am 1 a (yt (a*1) (g.drop 0)))) (.agg [b,e,f,Am 3 h i,j,Am 1 k m,Am 1 n o])) (Ao (F 7 [.pbox [Am 1 b e,f],(16:Int)]) λa b=>Bq .i64 a λa=>Ad b λb c=>Hd 1 b λb e f=>Bq .i64 f λb=>Ag c<|Aa (wrap .i64 (1+a)) λa=>Cn (F 15 [a,Am 1 y0 y1]) λa b=>Cr a λa=>Bu .i64 a λa c=>Bu .i64 c λc e=>Bu .i64 e λe f=>Hd 3 f λf g h=>Bu .i64 h λh i=>Hd 1 i λi j k=>Hd 1 k λk m n=>Ag n<|Ag b<|Gn .i64 (F 17 [X,(60:Int)]) λb=>(λz3:PV=>As (decide (0+Z*1<=Y.length))<|Cn (F 16 [R,z3,s,z1,b,q]) λb n=>Bh b λb=>Ag n<|Ap b (As (decide (0+Z*1<=Y.length))<|Cn (F 16 [R,z3,s,z1,X,q]) λa b=>Bh a λa=>Ag b<|Ap a (Cn (F 18 []) λa b=>Bh a λa=>Ag b<|A9 [a]) (A9 [false])) (A9 [false])) (.agg [a,c,e,Am 3 f g,h,Am 1 i j,Am 1 k m]))) (Am 1 Z (yt (Z*1) (Y.drop 0)))) (.agg [W,V,Am 1 U T,S,Q,P,O,N,M,L,Am 1 K J,I,Ah H,G,Ah E])) (.agg [Am 1 D B,A,Ah z,Ah w,v,d,Ah t,Am 2 l r,x,y,C])) (.agg [y38,y39,Am 1 y40 y41,Am 1 y42 y43,Am 1 y44 y45,y46,Am 1 y47 y48,y49])):=by cases nn with|zero=>exact absurd Es (wo 0)|succ nn=>kernel_rfl
theorem Tk(u d Z:Nat)(Y:Ae)(X:Nat)(W:Ae)(V:Int):Ac (CP p) prog u (d+1) 3 [Am 1 Z Y,Am 1 X W,V]=(λ(F:An)=>Cn (F 4 [Am 1 Z Y]) λa b=>IR a λa=>Hd 1 a λa c e=>Bq .i64 e λe=>Ag b<|Ao (F 5 [.pbox [Am 1 a c,e]]) λa b=>Ad a λa c=>Cr a λa=>Ad a λa e=>At a λa=>Ad e λe f=>At e λe=>Hd 1 f λf g h=>Bu .i64 h λh i=>Ad i λi j=>Bh i λi=>Bu .i64 j λj k=>Bu .i64 k λk m=>Ad m λm n=>Bh m λm=>Bu .i64 n λn o=>Ad o λo q=>Bh o λo=>Hd 1 q λq s t=>Bu .i64 t λt l=>Bu .u64 l λl v=>Bu .i64 v λv w=>Bq .u64 w λw=>Ag c<|Ad b λb c=>Hd 1 b λb z A=>Bq .i64 A λA=>Ag c<|I5 u F Z Y X W V u X W V b z A a e f g h i j k m n o q s t l v w) (Ac (CP p) prog u d):=Κ
end
section
variable {u d:Nat}
theorem Bia(e:Ch b)(f:b.length<=1000)(n:Int):∃r:Ak,Ch r/\r.length<=1001/\Ac C1 prog u (d+2) 14 [.lst false 1 b.length (Af .u8 b),Av n]=some ⟨[.own 1 r.length (Af .u8 r)],[]⟩:=by obtain⟨t,g,c,md⟩:=A4t n 4096 Ω Ω;have md:=md (u:=u) (d:=d) (p:=some Bz);obtain⟨x,x1,h,_,a⟩:=A91 e f g Ω;have a:=a (u:=u) (d:=d);have L:=Al .u8 x;have c1:decide (x.length*1<=wy (Af .u8 x))=true:=dT Ω;have c:yt (x.length*1) (Af .u8 x)=Af .u8 x:=Gp Ω;refine⟨x,x1,h,(NA u (d+1) b.length (Af .u8 b) n).trans ?_⟩;simp only[Aq,Ar,md,a,c1,c]
set_option maxHeartbeats 8000000 in
theorem A35(Be:1000400<=u)(G:c.ok){s:Sd}(H:s.ok)(J:s.rg.length<1000)(K:r.ok)(L:Ch b)(B:b.length=16){l:Ak}(y:l.length<=maxLen)(j:Nat)(M:0<nn){N O:Nat}{P Q:Ae}{R:Int}:
  Ey u (Ac C1 prog u (d+27)) N P O Q R nn o.length (Af .i64 o) now 16 l.length (Af .i64 l) (j:Int) c.rp c.ti c.os.length (CZ c.os) c.p.vf c.p.rs c.p.ht c.p.pr c.p.sh c.p.fm c.p.od c.p.dn.length (Af .u64 c.p.dn) c.p.op c.sec c.kh c.kr (Af .u8 b) s.id.length (Af .u8 s.id) s.ht s.root s.model s.fmt s.sh s.used s.rg.length (Gv s.rg) s.sus s.since s.last r.kind r.cd r.ad.length (Af .u8 r.ad) r.sg.length (Af .u8 r.sg) r.cn r.cc r.fm r.id.length (Af .u8 r.id) r.us=some ⟨[C3 true],[]⟩:=by
 rw[Pq (Es:=M)];obtain⟨v,C,V,W,q⟩:=G1 y j 9 Ω Ω;have q:=q (u:=u) (d:=d+25) (p:=some Bz);obtain⟨t,X,Y,md⟩:=A4t now 60 Ω Ω;have md:=md (u:=u) (d:=d+26) (p:=some Bz);have D:=A1l (u:=u) (d:=d) Be;have Lb:=Al .u8 b;have c2:decide (0+16*1<=wy (Af .u8 b))=true:=dT Ω;have E:yt (16*1) (nb 0 (Af .u8 b))=Af .u8 b:=Gp (by rw[Jo];omega)
 have h:∀(a:Ak) (A:Nat),∃(w:Int) (k:Nat) (m:Mt),m.ok /\
   Ac C1 prog u (d+27) 7 [.pbox (GF l A),Av 16]=some ⟨[Av w],[GF l k]⟩ /\
   Ac C1 prog u (d+27) 15 [Av (wrap .i64 (1+w)),.lst false 1 o.length (Af .i64 o)]=some ⟨[.agg m.cells],[]⟩ /\
   ∀z:Int,Ac C1 prog u (d+27) 16 [.agg c.cells,.agg m.cells,.agg s.cells,.lst false 1 a.length (Af .u8 a),Av z,.agg r.cells]=some ⟨[C3 true],[]⟩:=by
  intro a A;obtain⟨w,k,w0,Z,f⟩:=G1 y A 16 Ω Ω;have S:wrap .i64 (1+w)=1+w:=Ba;obtain⟨m,g,i⟩:=Au2 (u:=u) (d:=d+13) (kinds:=o) Ω (v:=1+w) Ω Ω;exact⟨w,k,m,g,f (u:=u) (d:=d+25) (p:=some Bz),by rw[S];exact i,λz=>A60 (u:=u) (d:=d+1) Be G g H J a z K⟩
 simp only[Cf.cells,Sd.cells,Rq.cells,GF] at q h;cases e:v==8
 ·obtain⟨w,k,m,g,f,i,n⟩:=h b C;rw[B] at n;simp only[Mt.cells] at i n;simp only[Aq,Ar,q,e,f,i,md,c2,E,n,D]
 ·obtain⟨x,k,x0,x1,n2⟩:=G1 y C 200 Ω Ω;have n2:=n2 (u:=u) (d:=d+25) (p:=some Bz);obtain⟨a,b1,b2,fl⟩:=Bia (u:=u) (d:=d+25) L Ω x;rw[B] at fl;obtain⟨w,j3,m,g,f,i,n⟩:=h a k;have L':=Al .u8 a;have T:decide (0+a.length*1<=wy (Af .u8 a))=true:=dT Ω;have U:yt (a.length*1) (nb 0 (Af .u8 a))=Af .u8 a:=Gp (by rw[Jo];omega)
  simp only[GF] at n2;simp only[Mt.cells] at i n;simp only[Aq,Ar,q,e,n2,c2,E,fl,f,i,md,T,U,n,D]
set_option maxHeartbeats 8000000 in
theorem Bej(Be:1000400<=u)(h:c.ok){s:Sd}(i:s.ok)(k:s.rg.length<1000)(m:r.few)(n:Ch b)(o:b.length=16){q:Ak}{l:Ak}(f:l.length<=maxLen)(j:Nat)(x:0<nn){y z:Nat}{A B:Ae}{C:Int}:
  Gj u (Ac C1 prog u (d+27)) y A z B C nn q.length (Af .i64 q) now 16 l.length (Af .i64 l) (j:Int) c.rp c.ti c.os.length (CZ c.os) c.p.vf c.p.rs c.p.ht c.p.pr c.p.sh c.p.fm c.p.od c.p.dn.length (Af .u64 c.p.dn) c.p.op c.sec c.kh c.kr (Af .u8 b) s.id.length (Af .u8 s.id) s.ht s.root s.model s.fmt s.sh s.used s.rg.length (Gv s.rg) s.sus s.since s.last r.kind r.cd r.ad.length (Af .u8 r.ad) r.sg.length (Af .u8 r.sg) r.cn r.cc r.fm r.id.length (Af .u8 r.id) r.us=some ⟨[C3 true],[]⟩:=by
 rw[Pn (Es:=x)];obtain⟨v,t,E,G,a⟩:=G1 f j 3 Ω Ω;have a:=a (u:=u) (d:=d+25) (p:=some Bz);simp only[GF] at a;cases e:v==2
 ·simp only[Aq,Ar,a,e];exact A35 Be h i k m.ok n o f t Ω
 ·obtain⟨r',D,g,w⟩:=Bb5 (u:=u) (d:=d+19) Ω m f t;simp only[GF,Rq.cells] at w;simp only[Aq,Ar,a,e,w];exact A35 Be h i k g n o f D Ω
set_option maxHeartbeats 16000000 in
theorem A4s(Be:1000400<=u)(hc:c.ok){id:Ak}(hi:Ch id)(B:id.length=176)(h1:1<=h)(h3:h<=3)(Q:Ch b)(R:b.length=16){S:Ak}{l:Ak}(e:l.length<=maxLen){A0 A1:Nat}{B0 B1:Ae}{A2:Int}:
  ∀(k:Nat) {s:Sd} (t:s.ok) (T:s.rg.length+k<1000) (j nn:Nat),k<nn ->
  Du u (Ac C1 prog u (d+27)) A0 B0 A1 B1 A2 nn S.length (Af .i64 S) now 16 (k:Int) l.length (Af .i64 l) (j:Int) c.rp c.ti c.os.length (CZ c.os) c.p.vf c.p.rs c.p.ht c.p.pr c.p.sh c.p.fm c.p.od c.p.dn.length (Af .u64 c.p.dn) c.p.op c.sec c.kh c.kr (Af .u8 b) seed h 176 sh (Af .u8 id) s.id.length (Af .u8 s.id) s.ht s.root s.model s.fmt s.sh s.used s.rg.length (Gv s.rg) s.sus s.since s.last=some ⟨[C3 true],[]⟩:=by
 have U:wrap .u64 h=h:=Cq;obtain⟨q,V,q0,q8⟩:∃q,Dv .i64 1 h=q/\0<q/\q<=8:=⟨_,rfl,by rcases (by omega:h=1\/h=2\/h=3) with rfl|rfl|rfl<;>decide,by rcases (by omega:h=1\/h=2\/h=3) with rfl|rfl|rfl<;>decide⟩
 intro k
 induction k with
 |zero=>
  intro s t T j nn hn;obtain⟨nn,rfl⟩:∃m,nn=m+1:=⟨nn-1,Ω⟩
  rw[Il];obtain⟨leaf,C,_,_,n1⟩:=G1 e j q Ω Ω;obtain⟨a,D,W,X,n2⟩:=G1 e C 3 Ω Ω;obtain⟨i,j3,p3,q3,w⟩:=G1 e D 5 Ω Ω;obtain⟨E,j4,p4,q4,x⟩:=G1 e j3 2 Ω Ω;obtain⟨x5,j5,p5,q5,y⟩:=G1 e j4 16 Ω Ω;obtain⟨n,j6,p6,q6,z⟩:=G1 e j5 4 Ω Ω;have n1:=n1 (u:=u) (d:=d+25) (p:=some Bz);have n2:=n2 (u:=u) (d:=d+25) (p:=some Bz);have w:=w (u:=u) (d:=d+25) (p:=some Bz);have x:=x (u:=u) (d:=d+25) (p:=some Bz);have y:=y (u:=u) (d:=d+25) (p:=some Bz);have z:=z (u:=u) (d:=d+25) (p:=some Bz)
  obtain⟨rp,G,g1⟩:∃rp:ByteArray,rp.size<=100000/\f9 [PV.sc (Value.string exS),PV.sc (Value.string exS),PV.sc (Value.string ⟨#[111,116,104,101,114,46,99,111,109]⟩)] (0+a.toNat*1) PV.top=Bg rp:=by
   rcases (by omega:a=0\/a=1\/a=2) with rfl|rfl|rfl<;>exact⟨_,Δ,rfl⟩
  obtain⟨A,g2⟩:∃A,f9 [PV.sc (.int .i64 0),PV.sc (.int .i64 1),PV.sc (.int .i64 0),PV.sc (.int .i64 2),PV.sc (.int .i64 3)] (0+i.toNat*1) PV.top=Av A:=by
   rcases (by omega:i=0\/i=1\/i=2\/i=3\/i=4) with rfl|rfl|rfl|rfl|rfl<;>exact⟨_,rfl⟩
  obtain⟨f,g3⟩:∃f,f9 [PV.sc (.int .i64 0),PV.sc (.int .i64 0),PV.sc (.int .i64 leaf),PV.sc (.int .i64 x5)] (0+n.toNat*1) PV.top=Av f:=by
   rcases (by omega:n=0\/n=1\/n=2\/n=3) with rfl|rfl|rfl|rfl<;>exact⟨_,rfl⟩
  obtain⟨o,os,H⟩:=otD (u:=u) (d:=d+25) (p:=some Bz) A;have H:Ac C1 prog u (d+27) 12 [Av A]=some ⟨[Bg o],[]⟩:=H;have e1:decide ((0:Int)<=a)=true:=dT W;have J:decide (a<3)=true:=dT X;have e2:decide ((0:Int)<=i)=true:=dT p3;have K:decide (i<5)=true:=dT q3;have e3:decide ((0:Int)<=n)=true:=dT p6;have L:decide (n<4)=true:=dT q6;have Li:=Al .u8 id;have Lb:=Al .u8 b;have c1:decide (0+176*1<=wy (Af .u8 id))=true:=dT Ω;have t1:yt (176*1) (nb 0 (Af .u8 id))=Af .u8 id:=Gp (by rw[Jo];omega)
  have c2:decide (0+16*1<=wy (Af .u8 b))=true:=dT Ω;have t2:yt (16*1) (nb 0 (Af .u8 b))=Af .u8 b:=Gp (by rw[Jo];omega)
  have g:=Age (u:=u) (d:=d+14) Be (seed:=seed) (h:=h) (id:=id) (sh:=sh) (rp:=rp) (o:=Cp o) (ch:=b) (vf:=E==1) (leaf:=leaf) (f:=f) (us:=ByteArray.mk #[]) G (Vn _) (by rw[Cj];omega) Q Ω
  rw[Hk,B,R] at g;have Y:=A2h (seed:=seed) (h:=h) (id:=id) (sh:=sh) (rp:=rp) (o:=Cp o) (ch:=b) (vf:=E==1) (leaf:=leaf) (f:=f) (us:=ByteArray.mk #[]) (by rw[Cj];omega) hi Ω
  generalize Ajq seed h id sh rp (Cp o) b (E==1) leaf f (ByteArray.mk #[])=r at g Y;have M:decide (((0:Nat):Int)>0)=false:=rfl;have N:decide ((0:Int)<=h)=true:=dT Ω;simp only[GF,Rq.cells] at n1 n2 w x y z g;simp only[Aq,Ar,M,U,N,V,n1,n2,w,x,y,z,e1,J,g1,e2,K,g2,H,e3,L,g3,c1,t1,c2,t2,g];exact Bej Be hc t Ω Y Q R e j6 Ω
 |succ k ih=>
  intro s t T j nn hn;obtain⟨nn,rfl⟩:∃m,nn=m+1:=⟨nn-1,Ω⟩
  rw[Il];obtain⟨lf,C,_,_,n1⟩:=G1 e j q Ω Ω;obtain⟨a,D,W,X,n2⟩:=G1 e C 2 Ω Ω;have n1:=n1 (u:=u) (d:=d+25) (p:=some Bz);have n2:=n2 (u:=u) (d:=d+25) (p:=some Bz);have O:=Aa3 (u:=u) (d:=d+25) t Ω lf a ((k+1:Nat):Int);have v:=Aso t Ω lf a ((k+1:Nat):Int);have P:=A7q s lf a ((k+1:Nat):Int);generalize K9 s lf a ((k+1:Nat):Int)=Z at O v P;have M:decide (((k+1:Nat):Int)>0)=true:=dT Ω;have wk:wrap .i64 (((k+1:Nat):Int)-1)=(k:Int):=Bc
  have N:decide ((0:Int)<=h)=true:=dT Ω;simp only[GF,Sd.cells] at n1 n2 O;simp only[Aq,Ar,M,U,N,V,n1,n2,O,wk];exact ih v Ω D nn Ω
end
set_option maxHeartbeats 16000000 in
theorem signinVerifies_plain(H:Ae)(h:B4 (WTv prog) [22,22,3] H):∃u d,Ac C1 prog u d 3 H=some ⟨[C3 true],[]⟩:=by
 obtain⟨q0,_,rfl,J,g⟩:=h.cons_inv;obtain⟨X,_,rfl,K,g⟩:=g.cons_inv;obtain⟨Y,_,rfl,L,g⟩:=g.cons_inv;obtain rfl:=g.nil_inv;clear h g;obtain⟨l,rfl,f,_⟩:=Amm (k:=.i64) (e:=3) Κ Κ Κ Κ J;obtain⟨M,rfl,Z,_⟩:=Amm (k:=.i64) (e:=3) Κ Κ Κ Κ K;obtain⟨D,rfl,_⟩:=A82 (k:=.i64) Κ Κ L;clear J K L;obtain⟨u,Be⟩:∃u,u=1000400:=⟨_,rfl⟩
 refine⟨u,28,?_⟩;refine (Tk u 27 l.length (Af .i64 l) M.length (Af .i64 M) D).trans ?_;have nw:Ac C1 prog u 27 4 [.lst false 1 l.length (Af .i64 l)]=some ⟨[.pbox (GF l 0)],[]⟩:=Biy (l:=l);obtain⟨p,sec,j,hp,v⟩:=Bpv (u:=u) (d:=13) Ω f 0;have v:Ac C1 prog u 27 5 [.pbox (GF l 0)]=_:=v;have o:=Aqs hp sec;generalize cfW p sec=c at v o;simp only[Cf.cells,GF] at v nw;simp only[Aq,Ar,nw,v];rw[O7 (Es:=Ω)];obtain⟨x1,j1,p1,X,n1⟩:=G1 f j 5 Ω Ω;obtain⟨E,j2,p2,Y,n2⟩:=G1 f j1 9 Ω Ω;obtain⟨m,j3,p3,q3,w⟩:=G1 f j2 3 Ω Ω;obtain⟨r,j4,p4,q4,x⟩:=G1 f j3 2 Ω Ω;obtain⟨t,j5,p5,q5,y⟩:=G1 f j4 3 Ω Ω
 obtain⟨x6,j6,p6,q6,z⟩:=G1 f j5 5 Ω Ω;obtain⟨N,O,p7,q7,n7⟩:=G1 f j6 5 Ω Ω;have n1:=n1 (u:=u) (d:=25) (p:=some Bz);have n2:=n2 (u:=u) (d:=25) (p:=some Bz);have w:=w (u:=u) (d:=25) (p:=some Bz);have x:=x (u:=u) (d:=25) (p:=some Bz);have y:=y (u:=u) (d:=25) (p:=some Bz);have z:=z (u:=u) (d:=25) (p:=some Bz);have n7:=n7 (u:=u) (d:=25) (p:=some Bz);obtain⟨b,P,Q,C⟩:=Ahp (u:=u) (d:=21) (p:=some Bz) Ω x1 (n:=16) Ω;have C:Ac C1 prog u 27 6 [Av x1,Av 16]=some ⟨[.own 1 16 (Af .u8 b)],[]⟩:=C;have R:wrap .i64 (1+m)=1+m:=Ba;obtain⟨id,hi,i,A⟩:=Bap (u:=u) (d:=20) Ω E (1+m) (r==1)
 have A:Ac C1 prog u 27 8 [Av E,Av (1+m),C3 (r==1)]=_:=A;generalize wrap .u64 (1000+wrap .u64 E)=seed at A;have T:decide ((0:Int)<=t)=true:=dT p5;have B:decide (t<3)=true:=dT q5
 obtain⟨mo,U⟩:∃mo,f9 [PV.sc (.int .i64 0),PV.sc (.int .i64 3),PV.sc (.int .i64 7)] (0+t.toNat*1) PV.top=Av mo:=by
  rcases (by omega:t=0\/t=1\/t=2) with rfl|rfl|rfl<;>exact⟨_,rfl⟩
 have q:=Aez (u:=u) (d:=13) Ω seed (1+m) id (r==1) (wrap .u64 mo);rw[i] at q;have q:Ac C1 prog u 27 9 _=_:=q;have a:=Az8 (seed:=seed) (h:=1+m) hi i (r==1) (wrap .u64 mo);have G:(stK seed (1+m) id (r==1) (wrap .u64 mo)).rg.length=0:=rfl;generalize stK seed (1+m) id (r==1) (wrap .u64 mo)=S at q a G;have Li:=Al .u8 id;have c1:decide (0+176*1<=wy (Af .u8 id))=true:=dT Ω;have V:yt (176*1) (nb 0 (Af .u8 id))=Af .u8 id:=Gp (by rw[Jo];omega)
 simp only[GF,Sd.cells] at n1 n2 w x y z n7 q;obtain⟨k,hk⟩:∃k:Nat,N=k:=⟨N.toNat,Ω⟩
 subst hk;cases W:x6==4
 ·simp only[Aq,Ar,n1,C,n2,w,R,x,A,y,T,B,U,c1,V,q,z,W,n7];exact A4s (d:=0) Ω o hi i Ω Ω P Q f k a Ω O u Ω
 ·simp only[Aq,Ar,n1,C,n2,w,R,x,A,y,T,B,U,c1,V,q,z,W,n7];exact A4s (d:=0) (s:={ S with sh:= !S.sh }) Ω o hi i Ω Ω P Q f k ⟨a.idB,a.idL,a.u0,a.u1,a.asc,a.rgn⟩ (by show S.rg.length+k<1000;omega) O u Ω
end
end Go.Proofs.YtfmabfhjccngbaaGreatDoor.Pv
