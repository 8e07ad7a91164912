/-
  The proof of SigninVerifies, part 6.
-/
import Derived.Test.YtfmabfhjccngbaaGreatDoorVE
import Derived.Test.YtfmabfhjccngbaaGreatDoorRows
import Derived.Lib.ValidLaws
set_option linter.unusedSimpArgs false
set_option linter.unusedVariables false
namespace Go.Proofs.YtfmabfhjccngbaaGreatDoor.Pv
open Go.IntKind (wrap)
open Go.Proofs.Tryz (prog)
set_option maxRecDepth 1000000
noncomputable section
variable{p:Option (Ae->Option A3)}{l nm r w:Ak}{D a c e e0 h i i0 k leaf:Int}{t t0:ByteArray}{b0 x:Bool}{v:JV}{n:Nat}{ms:List (Ak × JV)}
open _root_.ByteArray renaming size->mm,data->ml,extract->mn,empty->n9,empty_append->la
open _root_.Array renaming toList->mf
open UInt8 renaming toNat->nx
open Nat renaming lt_irrefl->wo,pow_le_pow_right->gr,toUInt8->nj,zero_le->jt,strongRecOn->lc,mod_eq_of_lt->wq,or_lt_two_pow->ld,min_eq_left->va,testBit_and->lg,testBit_two_pow->lh,zero_testBit->li,shiftRight_eq_div_pow->lj,mul_zero->ks
open Int renaming toNat->wj,pow_succ->g5,eq_ofNat_of_zero_le->g8,le_refl->ll,one_mul->lm
open Bool renaming eq_iff_iff->fk,false_eq_true->qf,eq_false_iff->b4,or_eq_false_iff->ve
open List renaming isPrefixOf_iff_prefix->bk,mem_of_getElem?->zn,getElem?_map->zr,all_cons->ym,getLast?_eq_getElem?->ln,append_nil->vy,length->wy,length_drop->yr,take->yt,getElem?_drop->zg,drop_drop->yq,drop_left->lp,getElem?_eq_getElem->zd,getD->f9,getD_eq_getElem?_getD->zj,mem_of_mem_take->kg,mem_of_mem_drop->kj,drop_eq_getElem_cons->zc,drop_length->lq,isPrefixOf->bn,mem_cons->zl,all_eq_true->yb,drop->nb,dropWhile->lr,all_append->lu,mem_map->kl,toArray->bc,flatMap_append->kk,find?_cons->lv,length_map->zv,map_append->kn,length_singleton->lw,mem_of_find?_eq_some->lx,range->za,length_take->x7,take_length->ly,map_congr_left->vz,mem_range->yh,getElem?_range->lz,range'->gg,length_range->w7,take_left'->ua,drop_left'->uc,getElem?_eq_none->zh
open Option renaming getD_some->ud
open Lib renaming encodeRuneZ->b6,validD->fh
open BitVec renaming ofInt->zx,ofInt_natCast->bv,toNat_ofNat->bw,toNat_or->wg,toNat_ofInt->we
section
variable {I:FuncId->Option (Ae->Option A3)}(u d:Nat)(F:An)
theorem Qt(u d:Nat)(Z:Bool):Ac (CP p) prog u (d+1) 71 [Z]=(λ(F:An)=>Ap Z (A9 [Bg ⟨#[104,116,116,112,115,58,47,47]⟩]) (A9 [Bg ⟨#[104,116,116,112,58,47,47]⟩])) (Ac (CP p) prog u d):=Κ
theorem Vv(u d:Nat)(Z:Bool):Ac (CP p) prog u (d+1) 73 [Z]=(λ(F:An)=>Ap Z (A9 [(443:Int)]) (A9 [(80:Int)])) (Ac (CP p) prog u d):=Κ
def Ic(Z:ByteArray)(Y:Bool)(X:Nat)(W:ByteArray)(V:Bool)(U T:Int):Option A3:=Hq u F 74 Tryz.f74 [Z,Y] [.r,.r,.r,.l,.r,.l] X ⟨lk [(0,W),(1,V),(6,U),(7,T)],Fb []⟩
theorem Pr(V:ByteArray)(U:Bool)(T:Nat)(X:ByteArray)(W:Bool)(Y Z:Int):Ic u F V U (T+1) X W Y Z=(Ap (decide (Z<(↑(mm X):Int))) (As (decide (0<=Z))<|Dq ((mf (ml X))[Z.toNat]?) λa=>Cn (F 118 [.sc (.int .u8 (↑(nx a):Int))]) λa b=>Bh a λa=>Ag b<|Ap (!a) (A9 [(0:Int),false]) (Aa (wrap .i64 (10*Y)) λa=>As (decide (0<=Z))<|Dq ((mf (ml X))[Z.toNat]?) λb=>Aa (wrap .u8 ((↑(nx b):Int)-48)) λb=>Aa (wrap .i64 b) λb=>Aa (wrap .i64 (a+b)) λa=>Aa (wrap .i64 (Z+1)) λb=>Ic u F V U T X W a b)) (Ap (decide (Y<=65535)) (Gn .i64 (F 73 [W]) λa=>A9 [Y,C3 (Y != a)]) (A9 [Y,false]))):=Κ
theorem KQ(u d:Nat)(Z:ByteArray)(Y:Bool):Ac (CP p) prog u (d+1) 74 [Z,Y]=(λ(F:An)=>(λb:Option A3=>Ap (decide ((↑(mm Z):Int)<1)) b (Ap (decide ((↑(mm Z):Int)>5)) b (Dq ((mf (ml Z))[0]?) λa=>Ap ((↑(nx a):Int)==48) b (Ic u F Z Y u Z Y 0 0)))) (A9 [(0:Int),false])) (Ac (CP p) prog u d):=Κ
def Gf(Z:ByteArray)(Y:Int)(X:Nat)(W:ByteArray)(V:Int)(U:Nat)(T S:Int)(Q:Ae):Option A3:=Hq u F 116 Tryz.f116 [Z,.sc (.int .u8 Y)] [.r,.r,.r,.l,.r,.l] X ⟨lk [(0,W),(1,.sc (.int .u8 V)),(5,.view 5 1 0 U),(6,T),(7,S)],Fb [(5,.ar false Q)]⟩
theorem Oo(T:ByteArray)(S:Int)(Q:Nat)(Z:ByteArray)(W:Int)(V:Nat)(X Y:Int)(U:Ae):Gf u F T S (Q+1) Z W V X Y U=(Ap (decide (Y<(↑(mm Z):Int))) (As (decide (0<=Y))<|Dq ((mf (ml Z))[Y.toNat]?) λa=>Ap ((↑(nx a):Int)==W) (As (decide (0<=X))<|As (decide (0<=Y))<|As (decide (X.toNat<=Y.toNat)&&decide (Y.toNat<=mm Z))<|Aa (mn Z X.toNat Y.toNat) λa=>XN V 1 16 U [a] λa b=>Aa (wrap .i64 (Y+1)) λc=>Aa (wrap .i64 (Y+1)) λe=>Gf u F T S Q Z W a c e b) (Aa (wrap .i64 (Y+1)) λa=>Gf u F T S Q Z W V X a U)) (As (decide (0<=X))<|As (decide (X.toNat<=mm Z)&&decide (mm Z<=mm Z))<|Aa (mn Z X.toNat (mm Z)) λa=>XN V 1 16 U [a] λa b=>As (decide (a*1<=b.length))<|A9 [.own 1 a (b.take (a*1))])):=Κ
theorem HF(u d:Nat)(Z:ByteArray)(Y:Int):Ac (CP p) prog u (d+1) 116 [Z,.sc (.int .u8 Y)]=(λ(F:An)=>Gf u F Z Y u Z Y 0 0 0 ([])) (Ac (CP p) prog u d):=Κ
theorem JF(u d:Nat)(Z:Int):Ac (CP p) prog u (d+1) 118 [.sc (.int .u8 Z)]=(λ(F:An)=>Ap (decide (Z>=48)) (A9 [C3 (decide (Z<=57))]) (A9 [false])) (Ac (CP p) prog u d):=Κ
def Ql(Z:ByteArray)(Y:Nat)(X:ByteArray):Option A3:=Hq u F 117 Tryz.f117 [Z] [.r] Y ⟨lk [(0,X)],Fb []⟩
def Dr(Z:ByteArray)(Y:Nat)(X:ByteArray)(W:Int):Option A3:=Hq u F 117 Tryz.f117 [Z] [.r,.r,.l,.r,.l] Y ⟨lk [(0,X),(3,W)],Fb []⟩
theorem BF(Y:ByteArray)(Z:Nat)(Es:0<Z)(X:ByteArray):Ql u F Y Z X=(Dr u F Y u X 0):=by cases Z with|zero=>exact absurd Es (wo 0)|succ Z=>kernel_rfl
theorem Ot(X:ByteArray)(W:Nat)(Y:ByteArray)(Z:Int):Dr u F X (W+1) Y Z=(Ap (decide (Z<(↑(mm Y):Int))) (As (decide (0<=Z))<|Dq ((mf (ml Y))[Z.toNat]?) λa=>Ap (decide ((↑(nx a):Int)>=97)) (As (decide (0<=Z))<|Dq ((mf (ml Y))[Z.toNat]?) λa=>Ap (!decide ((↑(nx a):Int)<=122)) (As (decide (0<=Z))<|Dq ((mf (ml Y))[Z.toNat]?) λa=>Cn (F 118 [.sc (.int .u8 (↑(nx a):Int))]) λa b=>Bh a λa=>Ag b<|Ap (!a) (As (decide (0<=Z))<|Dq ((mf (ml Y))[Z.toNat]?) λa=>Ap ((↑(nx a):Int) != 45) (A9 [false]) (Aa (wrap .i64 (Z+1)) λa=>Dr u F X W Y a)) (Aa (wrap .i64 (Z+1)) λa=>Dr u F X W Y a)) (Aa (wrap .i64 (Z+1)) λa=>Dr u F X W Y a)) (As (decide (0<=Z))<|Dq ((mf (ml Y))[Z.toNat]?) λa=>Cn (F 118 [.sc (.int .u8 (↑(nx a):Int))]) λa b=>Bh a λa=>Ag b<|Ap (!a) (As (decide (0<=Z))<|Dq ((mf (ml Y))[Z.toNat]?) λa=>Ap ((↑(nx a):Int) != 45) (A9 [false]) (Aa (wrap .i64 (Z+1)) λa=>Dr u F X W Y a)) (Aa (wrap .i64 (Z+1)) λa=>Dr u F X W Y a))) (A9 [true])):=Κ
theorem GS(u d:Nat)(Z:ByteArray):Ac (CP p) prog u (d+1) 117 [Z]=(λ(F:An)=>Ap (decide ((↑(mm Z):Int)<1)) (A9 [false]) (Ap (decide ((↑(mm Z):Int)>63)) (A9 [false]) (Dq ((mf (ml Z))[0]?) λa=>Ap ((↑(nx a):Int)==45) (A9 [false]) (Aa (wrap .i64 ((↑(mm Z):Int)-1)) λa=>As (decide (0<=a))<|Dq ((mf (ml Z))[a.toNat]?) λa=>Ap ((↑(nx a):Int)==45) (A9 [false]) (Ql u F Z u Z))))) (Ac (CP p) prog u d):=Κ
def Gr(Z:ByteArray)(Y X:Nat)(W:Int)(V:Ae):Option A3:=Hq u F 72 Tryz.f72 [Z] [.r,.r,.r,.l,.r,.l] Y ⟨lk [(3,.view 3 1 0 X),(4,W)],Fb [(3,.ar false V)]⟩
def Gu(Z:ByteArray)(Y:Nat)(X:ByteArray)(W:Int):Option A3:=Hq u F 72 Tryz.f72 [Z] [.r,.r,.r,.r,.r,.l,.r,.l] Y ⟨lk [(5,X),(6,W)],Fb []⟩
theorem Lk(W:ByteArray)(V Z:Nat)(Y:Int)(X:Ae):Gr u F W (V+1) Z Y X=(Ap (decide (Y<(↑Z:Int))) (As (decide (0<=Y)&&decide (Y<(↑Z:Int)))<|At (X.getD (0+Y.toNat*1) .top) λa=>Cn (F 117 [a]) λa b=>Bh a λa=>Ag b<|Ap (!a) (A9 [(2:Int)]) (Aa (wrap .i64 (Y+1)) λa=>Gr u F W V Z a X)) (Aa (wrap .i64 ((↑Z:Int)-1)) λa=>As (decide (0<=a)&&decide (a<(↑Z:Int)))<|At (X.getD (0+a.toNat*1) .top) λa=>Gu u F W u a 0)):=Κ
theorem L6(X:ByteArray)(W:Nat)(Y:ByteArray)(Z:Int):Gu u F X (W+1) Y Z=(Ap (decide (Z<(↑(mm Y):Int))) (As (decide (0<=Z))<|Dq ((mf (ml Y))[Z.toNat]?) λa=>Cn (F 118 [.sc (.int .u8 (↑(nx a):Int))]) λa b=>Bh a λa=>Ag b<|Ap (!a) (A9 [(0:Int)]) (Aa (wrap .i64 (Z+1)) λa=>Gu u F X W Y a)) (A9 [(2:Int)])):=Κ
theorem AE(u d:Nat)(Z:ByteArray):Ac (CP p) prog u (d+1) 72 [Z]=(λ(F:An)=>Ap (decide ((↑(mm Z):Int)>100)) (A9 [(8:Int)]) (Cn (F 116 [Z,.sc (.int .u8 46)]) λa b=>K5 1 a λa c=>Ag b<|Gr u F Z u a 0 c)) (Ac (CP p) prog u d):=Κ
def Cc(Z:ByteArray)(Y:Nat)(X:ByteArray)(W V:Int)(U:Bool)(T:ByteArray)(S:Int)(Q:Bool)(P:ByteArray)(O:Int):Option A3:=Hq u F 41 Tryz.f41 [Z] [.r,.r,.r,.r,.r,.r,.l,.r,.l] Y ⟨lk [(2,.ptr 2 0),(4,.ptr 4 0),(6,X),(7,W),(8,V)],Fb [(2,.st [U,T,S]),(4,.st [Q,P,O])]⟩
theorem Jt(V:ByteArray)(U:Nat)(Z:ByteArray)(Y X:Int)(T:Bool)(S:ByteArray)(Q:Int)(W:Bool)(P:ByteArray)(O:Int):Cc u F V (U+1) Z Y X T S Q W P O=(Ap (decide (X>=0)) (As (decide (0<=X))<|Dq ((mf (ml Z))[X.toNat]?) λa=>Ap ((↑(nx a):Int)==58) (Aa (wrap .i64 (X-1)) λa=>Cc u F V U Z X a T S Q W P O) (Aa (wrap .i64 (X-1)) λa=>Cc u F V U Z Y a T S Q W P O)) (As (decide (0<=Y))<|As (decide (Y.toNat<=mm Z))<|Aa (mn Z 0 Y.toNat) λa=>Gn .i64 (F 72 [a]) λa=>(λe:PV=>Ap (a != 0) (A9 [e,a]) (As (decide (0<=Y))<|As (decide (Y.toNat<=mm Z))<|Aa (mn Z 0 Y.toNat) λa=>Gn .i64 (F 73 [W]) λb=>Ap (decide (Y<(↑(mm Z):Int))) (Aa (wrap .i64 (Y+1)) λb=>As (decide (0<=b))<|As (decide (b.toNat<=mm Z)&&decide (mm Z<=mm Z))<|Aa (mn Z b.toNat (mm Z)) λb=>Cn (F 74 [b,W]) λb c=>Bi .i64 b λb=>Qa c λc=>Ap (!c) (A9 [e,(2:Int)]) (A9 [.agg [W,a,b],(0:Int)])) (A9 [.agg [W,a,b],(0:Int)]))) (.agg [false,Bg ⟨#[]⟩,(0:Int)]))):=Κ
theorem Xg(u d:Nat)(Z:ByteArray):Ac (CP p) prog u (d+1) 41 [Z]=(λ(F:An)=>(λe:Option A3=>Ap (decide ((↑(mm Z):Int)>=8)) (As (decide (8<=mm Z))<|Aa (mn Z 0 8) λa=>Cn (F 71 [C3 (mf (ml a)==mf (ml (ByteArray.mk #[104,116,116,112,115,58,47,47])))]) λb c=>At b λb=>Ag c<|Ap (decide ((↑(mm Z):Int)<(↑(mm b):Int))) e (As (decide (wj (↑(mm b):Int)<=mm Z))<|Aa (mn Z 0 (wj (↑(mm b):Int))) λc=>Ap (!mf (ml c)==mf (ml b)) e (As (decide (wj (↑(mm b):Int)<=mm Z)&&decide (mm Z<=mm Z))<|Aa (mn Z (wj (↑(mm b):Int)) (mm Z)) λb=>Aa (wrap .i64 ((↑(mm b):Int)-1)) λc=>Cc u F Z u b ((↑(mm b):Int)) c false (ByteArray.mk #[]) 0 (mf (ml a)==mf (ml (ByteArray.mk #[104,116,116,112,115,58,47,47]))) (ByteArray.mk #[]) 0))) (Cn (F 71 [false]) λa b=>At a λa=>Ag b<|Ap (decide ((↑(mm Z):Int)<(↑(mm a):Int))) e (As (decide (wj (↑(mm a):Int)<=mm Z))<|Aa (mn Z 0 (wj (↑(mm a):Int))) λb=>Ap (!mf (ml b)==mf (ml a)) e (As (decide (wj (↑(mm a):Int)<=mm Z)&&decide (mm Z<=mm Z))<|Aa (mn Z (wj (↑(mm a):Int)) (mm Z)) λa=>Aa (wrap .i64 ((↑(mm a):Int)-1)) λb=>Cc u F Z u a ((↑(mm a):Int)) b false (ByteArray.mk #[]) 0 false (ByteArray.mk #[]) 0)))) (A9 [.agg [false,Bg ⟨#[]⟩,(0:Int)],(2:Int)])) (Ac (CP p) prog u d):=Κ
theorem Xr(u d:Nat)(W:Int)(Y:Nat)(V:Ae)(X:ByteArray)(U:Bool)(Z:ByteArray):Ac (CP p) prog u (d+1) 23 [.agg [W,Am 1 Y V,X,U,Z]]=(λ(F:An)=>Cn (F 40 [W]) λa b=>At a λa=>Ag b<|Ap (mf (ml a)==mf (ml (ByteArray.mk #[]))) (A9 [Bg ⟨#[]⟩,(3:Int)]) (Ap (decide ((↑Y:Int)<1)) (A9 [Bg ⟨#[]⟩,(9:Int)]) (Ap (decide ((↑Y:Int)>64)) (A9 [Bg ⟨#[]⟩,(9:Int)]) (Cn (F 41 [X]) λa b=>Cr a λa=>Ad a λa c=>Bh a λa=>Ad c λa c=>At a λa=>Bq .i64 c λa=>Bq .i64 b λa=>Ap (a != 0) (A9 [Bg ⟨#[]⟩,a]) (Cn (F 40 [W]) λa b=>At a λa=>Ag b<|As (decide (9+mm a<=9223372036854775807))<|Aa (ByteArray.mk #[123,34,116,121,112,101,34,58,34]++a) λa=>As (decide (mm a+15<=9223372036854775807))<|Aa (a++ByteArray.mk #[34,44,34,99,104,97,108,108,101,110,103,101,34,58,34]) λa=>Cn (F 42 [Am 1 Y V]) λb c=>At b λb=>Ag c<|As (decide (mm a+mm b<=9223372036854775807))<|Aa (a++b) λa=>As (decide (mm a+12<=9223372036854775807))<|Aa (a++ByteArray.mk #[34,44,34,111,114,105,103,105,110,34,58,34]) λa=>As (decide (mm a+mm X<=9223372036854775807))<|Aa (a++X) λa=>As (decide (mm a+16<=9223372036854775807))<|Aa (a++ByteArray.mk #[34,44,34,99,114,111,115,115,79,114,105,103,105,110,34,58]) λa=>Ap (!U) (Ap (!mf (ml Z)==mf (ml (ByteArray.mk #[]))) (A9 [Bg ⟨#[]⟩,(4:Int)]) (As (decide (mm a+6<=9223372036854775807))<|Aa (a++ByteArray.mk #[102,97,108,115,101,125]) λa=>A9 [a,(0:Int)])) (Cn (F 41 [Z]) λb c=>Cr b λb=>Ad b λb e=>Bh b λb=>Ad e λb e=>At b λb=>Bq .i64 e λb=>Bq .i64 c λb=>Ap (b != 0) (A9 [Bg ⟨#[]⟩,b]) (As (decide (mm a+18<=9223372036854775807))<|Aa (a++ByteArray.mk #[116,114,117,101,44,34,116,111,112,79,114,105,103,105,110,34,58,34]) λa=>As (decide (mm a+mm Z<=9223372036854775807))<|Aa (a++Z) λa=>As (decide (mm a+2<=9223372036854775807))<|Aa (a++ByteArray.mk #[34,125]) λa=>A9 [a,(0:Int)]))))))) (Ac (CP p) prog u d):=Κ
end
theorem As3(c:Ch l)(a b:Nat):(Ab l).extract a b=Ab ((l.drop a).take (b-a)):=by
 have h:(Ab l).extract a b=Ab (Cp ((Ab l).extract a b)):=(Hk _).symm;rw[h]
 congr 1
 unfold Cp;rw[ByteArray.data_extract,Array.toList_extract,List.extract_eq_take_drop,List.map_take,List.map_drop];have:(List.map (λb:UInt8=>(b.toNat:Int)) (Ab l).data.toList)=l:=Cw c;rw[this]
theorem Wh{a b:Ak}(c:Ch a)(d:Ch b):(mf (Ab a).data==mf (Ab b).data)=decide (a=b):=by
 rw[fk,beq_iff_eq,decide_eq_true_iff];constructor
 ·intro h
  have e:Ab a=Ab b:=by
   cases f:Ab a;cases g:Ab b;rw[f,g] at h;exact congrArg ByteArray.mk (Array.toList_inj.1 h)
  have i:=congrArg Cp e
  rwa [Cw c,Cw d] at i
 ·rintro rfl;rfl
theorem Akt(h:w.length<=l.length):decide (l.take w.length=w)=w.isPrefixOf l:=by rw[fk,decide_eq_true_iff,bk,List.prefix_iff_eq_take];exact⟨λh=>h.symm,λh=>h.symm⟩
theorem Aey(c:Int):∀{cur:Ak},(∀x∈cur,x≠c)->∀r,Bl c (cur++c::r)=cur::Bl c r
 |[],_,r=>by
  show (if c=c then []::Bl c r else _)=_;rw[Bv rfl]
 |x::cur,h,r=>by
  have b:=h x Ψ;have d:=Aey c (cur:=cur) (λy e=>h y (by simp[e])) r;show (if x=c then []::Bl c (cur++c::r) else match Bl c (cur++c::r) with|a::t=>(x::a)::t|[]=>[[x]])=_;rw[Bd b,d]
theorem Abf(c:Int):∀{cur:Ak},(∀x∈cur,x≠c)->Bl c cur=[cur]
 |[],_=>rfl
 |x::cur,h=>by
  have b:=h x Ψ;have d:=Abf c (cur:=cur) (λy e=>h y (by simp[e]));show (if x=c then []::Bl c cur else match Bl c cur with|a::t=>(x::a)::t|[]=>[[x]])=_;rw[Bd b,d]
section
variable {u d:Nat}{p:Option (Ae->Option A3)}
theorem SZ:Ac (CP p) prog u (d+1) 118 [.sc (.int .u8 c)]=some ⟨[C3 (Wa c)],[]⟩:=by
 rw[JF];unfold Wa;by_cases h:48<=c
 ·have a:=dT (q:=c>=48) h;have b:=dT h;simp only[Aq,Ar,a,b,Zzm]
 ·have a:=dF (q:=c>=48) h;have b:=dF h;simp only[Aq,Ar,a,b,SK]
def lbB(x:Int):Bool:=ltB x||x==45
theorem Asr{a0:ByteArray}{l:Ak}(z:Ch l)(C:l.length<=63):∀(r:Ak)(i nn:Nat),l.drop i=r->r.length+1<=nn ->
  Dr u (Ac (CP p) prog u (d+1)) a0 nn (Ab l) (i:Int)=some ⟨[C3 (r.all lbB)],[]⟩
 |[],i,nn,hd,A=>by
  obtain⟨k,rfl⟩:∃k,nn=k+1:=⟨nn-1,Ω⟩
  have hi:=drop_nil hd;have b:decide ((i:Int)<(l.length:Int))=false:=dF Ω;rw[Ot];simp only[Aq,Ar,Ai,b];rfl
 |c::r,i,nn,hd,A=>by
  obtain⟨k,rfl⟩:∃k,nn=k+1:=⟨nn-1,Ω⟩
  obtain⟨hi,B,TM⟩:=Cb hd;have v:=Asr (a0:=a0) z C r (i+1) k TM (by simp at A;omega)
  have KU:=z c (zn B);have b:decide ((i:Int)<(l.length:Int))=true:=dT Ω;have g:decide ((0:Int)<=(i:Int))=true:=Ψ
  have h:(mf (Ab l).data)[wj (i:Int)]?=some c.toNat.toUInt8:=by
   rw[Hy];show (l.map λn=>n.toNat.toUInt8)[i]?=_;rw[zr,B];rfl
  have j:=Nz KU;have m:wrap .i64 ((i:Int)+1)=((i+1:Nat):Int):=Bc
  have e:Ac (CP p) prog u (d+1) 118 [.sc (.int .u8 c)]=_:=SZ (u:=u) (d:=d) (p:=p) (c:=c);have step:(c::r).all lbB=(lbB c&&r.all lbB):=ym;rw[Ot,step];by_cases w:97<=c/\c<=122
  ·have a:=dT (q:=c>=97) w.1;have x:=bT w.2;have f:lbB c=true:=by unfold lbB ltB;simp[w]
   rw[f,Zzm];simp only[Aq,Ar,Ai,b,g,h,j,m,a,x];exact v
  cases o:Wa c
  ·rw[o] at e
   have Ct:ltB c=false:=by
    unfold ltB;rw[o,Bool.or_false];simp;omega
   by_cases y:c=45
   ·subst y;have a:decide ((45:Int)>=97)=false:=rfl;have t:((45:Int) != 45)=false:=rfl;have f:lbB 45=true:=rfl;rw[f,Zzm];simp only[Aq,Ar,Ai,b,g,h,j,m,a,e,Ix,t];exact v
   ·have t:(c != 45)=true:=by simp[y]
    have f:lbB c=false:=by unfold lbB;simp[Ct,y]
    rw[f,SK];by_cases s:97<=c
    ·have a:=dT (q:=c>=97) s;have x:=bF (q:=c<=122) Ω;simp only[Aq,Ar,Ai,b,g,h,j,m,a,x,e,Ix,t]
    ·have a:=dF (q:=c>=97) s;simp only[Aq,Ar,Ai,b,g,h,j,m,a,e,Ix,t]
  ·rw[o] at e;have D:=(RP c).1 o;have f:lbB c=true:=by unfold lbB ltB;simp[o]
   have a:=dF (q:=c>=97) Ω;rw[f,Zzm];simp only[Aq,Ar,Ai,b,g,h,j,m,a,e,Gc];exact v
theorem A3t(g:Ch l)(Be:100<=u):Ac (CP p) prog u (d+2) 117 [Bg (Ab l)]=some ⟨[C3 (Ny l)],[]⟩:=by
 rw[GS];by_cases h:1<=l.length
 ·have a:decide (((l.length:Nat):Int)<1)=false:=dF Ω;by_cases i:l.length<=63
  ·have b:decide (((l.length:Nat):Int)>63)=false:=dF Ω
   have j:Ny l=(!(l.head?==some 45) && !(l.getLast?==some 45)&&l.all lbB):=by
    unfold Ny;rw[dT h,dT i];rfl
   cases l with
   |nil=>simp at h
   |cons c r=>
    have KU:=g c Ψ;have k:(mf (Ab (c::r)).data)[0]?=some c.toNat.toUInt8:=rfl;have m:=Nz KU;by_cases o:c=45
    ·subst o;have q:((45:Int)==45)=true:=rfl;have e:Ny (45::r)=false:=by rw[j];simp
     rw[e];simp only[Aq,Ar,Ai,a,b,k,m,q]
    ·have q:(c==45)=false:=by simp[o]
     obtain⟨z,s⟩:∃z,(c::r).getLast?=some z:=⟨_,List.getLast?_eq_some_getLast Ψ⟩
     have f:(c::r)[(c::r).length-1]?=some z:=by rw[<-ln];exact s
     have t:=g z (zn f);have w:wrap .i64 (((c::r).length:Int)-1)=(((c::r).length-1:Nat):Int):=Bc
     have x:decide ((0:Int)<=(((c::r).length-1:Nat):Int))=true:=dT Ω
     have y:(mf (Ab (c::r)).data)[wj (((c::r).length-1:Nat):Int)]?=some z.toNat.toUInt8:=by
      rw[Hy];show ((c::r).map λn=>n.toNat.toUInt8)[(c::r).length-1]?=_;rw[zr,f];rfl
     have A:=Nz t;by_cases Bcb:z=45
     ·subst Bcb;have v:((45:Int)==45)=true:=rfl;have e:Ny (c::r)=false:=by rw[j,s];simp
      rw[e];simp only[Aq,Ar,Ai,a,b,k,m,q,w,x,y,A,v]
     ·have v:(z==45)=false:=by simp[Bcb]
      have e:Ny (c::r)=(c::r).all lbB:=by rw[j,s];simp[o,Bcb]
      have B:=Asr (u:=u) (d:=d) (p:=p) (a0:=Ab (c::r)) g i (c::r) 0 u rfl Ω;rw[e];simp only[Aq,Ar,Ai,a,b,k,m,q,w,x,y,A,v];rw[BF (Es:=Ω)];exact B
  ·have b:decide (((l.length:Nat):Int)>63)=true:=dT Ω;have e:Ny l=false:=by unfold Ny;simp[i]
   rw[e];simp only[Aq,Ar,Ai,a,b]
 ·have a:decide (((l.length:Nat):Int)<1)=true:=dT Ω;have e:Ny l=false:=by unfold Ny;simp[h]
  rw[e];simp only[Aq,Ar,Ai,a]
theorem Ais{F:An}{a0:ByteArray}{a1 c:Int}{l:Ak}(d:Ch l)(v:l.length<=100000):∀(r cur:Ak)(done:List Ak) (f nn:Nat),l.drop f=cur++r->(∀x∈cur,x≠c)->done.length<=f->f<=l.length->r.length+1<=nn ->
  Gf u F a0 a1 nn (Ab l) c done.length (f:Int) ((f+cur.length:Nat):Int) (done.map EK)=some ⟨[.own 1 (done++Bl c (cur++r)).length ((done++Bl c (cur++r)).map EK)],[]⟩
 |[],cur,done,f,nn,hd,g,KR,w,p=>by
  obtain⟨k,rfl⟩:∃k,nn=k+1:=⟨nn-1,Ω⟩
  rw[vy] at hd;have Ev:=congrArg wy hd;rw[yr] at Ev;have h:decide (((f+cur.length:Nat):Int)<(l.length:Int))=false:=dF Ω;have i:decide ((0:Int)<=(f:Int))=true:=Ψ
  have j:decide (wj (f:Int)<=l.length)=true:=dT Ω
  have m:(Ab l).extract (wj (f:Int)) l.length=Ab cur:=by
   rw[As3 d,Hy,hd,Gp Ω]
  have o:decide (done.length*1<=wy (done.map EK))=true:=Ψ
  have A:decide ((done.length+1)*16<=1099511627776)=true:=dT Ω;have B:decide (done.length+1<=1099511627776)=true:=dT Ω
  have b8:yt (done.length*1) (done.map EK)++[PV.sc (.string (Ab cur))]=(done++[cur]).map EK:=by
   rw[Gp Ψ];simp[EK]
  have C:decide ((done.length+1)*1<=wy ((done++[cur]).map EK))=true:=Ψ
  have c1:yt ((done.length+1)*1) ((done++[cur]).map EK)=(done++[cur]).map EK:=Gp Ψ;rw[Oo,vy,Abf c g];simp only[Aq,Ar,Ai,dle,h,i,j,m,o,A,B,b8,C,c1];simp
 |x::r,cur,done,f,nn,hd,g,KR,w,p=>by
  obtain⟨k,rfl⟩:∃k,nn=k+1:=⟨nn-1,Ω⟩
  have Ev:=congrArg wy hd;rw[yr] at Ev;simp only[Ru,M9] at Ev
  have z:l[f+cur.length]?=some x:=by
   have:(l.drop f)[cur.length]?=some x:=by rw[hd];simp
   rwa [zg] at this
  have s:=d x (zn z);have h:decide (((f+cur.length:Nat):Int)<(l.length:Int))=true:=dT Ω;have i:decide ((0:Int)<=((f+cur.length:Nat):Int))=true:=dT Ω;have t:decide ((0:Int)<=(f:Int))=true:=Ψ
  have j:(mf (Ab l).data)[wj ((f+cur.length:Nat):Int)]?=some x.toNat.toUInt8:=by
   rw[Hy];show (l.map λn=>n.toNat.toUInt8)[f+cur.length]?=_;rw[zr,z];rfl
  have m:=Nz s;have o:wrap .i64 (((f+cur.length:Nat):Int)+1)=((f+cur.length+1:Nat):Int):=Bc
  rw[Oo];by_cases b:x=c
  ·subst b;have q:(x==x)=true:=Ψ
   have c1:decide (wj (f:Int)<=wj ((f+cur.length:Nat):Int))=true:=dT Ω;have c2:decide (wj ((f+cur.length:Nat):Int)<=l.length)=true:=dT Ω
   have D:(Ab l).extract (wj (f:Int)) (wj ((f+cur.length:Nat):Int))=Ab cur:=by
    rw[As3 d,Hy,Hy,hd,Nat.add_sub_cancel_left,List.take_left]
   have E:decide (done.length*1<=wy (done.map EK))=true:=Ψ
   have G:decide ((done.length+1)*16<=1099511627776)=true:=dT Ω;have H:decide (done.length+1<=1099511627776)=true:=dT Ω
   have c7:yt (done.length*1) (done.map EK)++[PV.sc (.string (Ab cur))]=(done++[cur]).map EK:=by
    rw[Gp Ψ];simp[EK]
   have TM:l.drop (f+cur.length+1)=[]++r:=by
    rw[<-yq,<-yq,hd,lp];rfl
   have e:=Ais (F:=F) (a0:=a0) (a1:=a1) (c:=x) d v r [] (done++[cur]) (f+cur.length+1) k TM (λy a=>nomatch a) (by simp;omega) Ω (by simp at p;omega)
   rw[Aey x g];simp only[Aq,Ar,Ai,h,i,t,j,m,q,c1,c2,D,E,G,H,c7,o];rw[show (done++[cur]).length=done.length+1 by simp,show f+cur.length+1+([]:Ak).length=f+cur.length+1 from rfl] at e;refine e.trans ?_;simp
  ·have q:(x==c)=false:=by simp[b]
   have e:=Ais (F:=F) (a0:=a0) (a1:=a1) d v r (cur++[x]) done f k (by rw[hd];simp) (λy a=>by
    rcases B8.1 a with a|a
    ·exact g y a
    ·simp at a;subst a;exact b) KR w (by simp at p;omega)
   simp only[Aq,Ar,Ai,h,i,j,m,q,o];rw[show f+(cur++[x]).length=f+cur.length+1 by simp;omega] at e
   refine e.trans ?_;simp
theorem Ay9(a:Ch l)(b:l.length<=100000)(Be:l.length+1<=u):Ac (CP p) prog u (d+1) 116 [Bg (Ab l),.sc (.int .u8 c)]=some ⟨[.own 1 (Bl c l).length ((Bl c l).map EK)],[]⟩:=by rw[HF];have:=Ais (u:=u) (F:=Ac (CP p) prog u d) (a0:=Ab l) (a1:=c) (c:=c) a b l [] [] 0 u rfl (λy e=>nomatch e) (Cz _) Ω Be;exact this
theorem Akb{a0:ByteArray}{l:Ak}(b:Ch l)(q:l.length<=100000):∀(r:Ak)(i nn:Nat),l.drop i=r->r.length+1<=nn ->
  Gu u (Ac (CP p) prog u (d+1)) a0 nn (Ab l) (i:Int)=some ⟨[Av (if r.all Wa=true then 2 else 0)],[]⟩
 |[],i,nn,hd,f=>by
  obtain⟨k,rfl⟩:∃k,nn=k+1:=⟨nn-1,Ω⟩
  have hi:=drop_nil hd;have a:decide ((i:Int)<(l.length:Int))=false:=dF Ω;rw[L6];simp only[Aq,Ar,Ai,a];rfl
 |c::r,i,nn,hd,f=>by
  obtain⟨k,rfl⟩:∃k,nn=k+1:=⟨nn-1,Ω⟩
  obtain⟨hi,g,TM⟩:=Cb hd;have s:=Akb (a0:=a0) b q r (i+1) k TM (by simp at f;omega)
  have KU:=b c (zn g);have a:decide ((i:Int)<(l.length:Int))=true:=dT Ω;have h:decide ((0:Int)<=(i:Int))=true:=Ψ
  have j:(mf (Ab l).data)[wj (i:Int)]?=some c.toNat.toUInt8:=by
   rw[Hy];show (l.map λn=>n.toNat.toUInt8)[i]?=_;rw[zr,g];rfl
  have m:=Nz KU;have t:wrap .i64 ((i:Int)+1)=((i+1:Nat):Int):=Bc
  have e:Ac (CP p) prog u (d+1) 118 [.sc (.int .u8 c)]=_:=SZ (u:=u) (d:=d) (p:=p) (c:=c);rw[L6,ym];cases o:Wa c
  ·rw[o] at e;simp only[Aq,Ar,Ai,a,h,j,m,e,Ix,SK,qf,if_false]
  ·rw[o] at e;simp only[Aq,Ar,Ai,a,h,j,m,e,Gc,Zzm,t];exact s
theorem Aeu{a0:ByteArray}(Be:2000<=u){ls:List Ak}(g:∀x∈ls,Ch x/\x.length<=1000)(l:ls≠[])(o:ls.length<=1000):∀(r:List Ak) (i nn:Nat),ls.drop i=r->r.length+1<=nn ->
  Gr u (Ac (CP p) prog u (d+2)) a0 nn ls.length (i:Int) (ls.map EK)=some ⟨[Av (if r.all Ny=false then 2 else if (ls.getLastD []).all Wa=true then 2 else 0)],[]⟩
 |[],i,nn,hd,m=>by
  obtain⟨k,rfl⟩:∃k,nn=k+1:=⟨nn-1,Ω⟩
  have hi:=drop_nil hd;have Akr:0<ls.length:=List.length_pos_iff.2 l;have a:decide ((i:Int)<(ls.length:Int))=false:=dF Ω;have b:wrap .i64 ((ls.length:Int)-1)=((ls.length-1:Nat):Int):=Bc
  have q:decide ((0:Int)<=((ls.length-1:Nat):Int))=true:=dT Ω;have s:decide (((ls.length-1:Nat):Int)<(ls.length:Int))=true:=dT Ω
  have Aam:ls.getLastD []=ls[ls.length-1]'(Ω):=by
   rw[List.getLastD_eq_getLast?,ln,zd Ω];rfl
  have c:f9 (ls.map EK) (0+wj ((ls.length-1:Nat):Int)*1) PV.top=Bg (Ab (ls.getLastD [])):=by
   rw[Hy,I8,Jp,zj,zr,zd Ω,Aam];rfl
  have h:=g (ls.getLastD []) (by rw[Aam];exact List.getElem_mem _)
  have j:=Akb (u:=u) (d:=d+1) (p:=p) (a0:=a0) h.1 Ω (ls.getLastD []) 0 u rfl Ω;rw[Lk];simp only[Aq,Ar,a,b,q,s,c,List.all_nil,Bool.true_eq_false,if_false];exact j
 |x::r,i,nn,hd,m=>by
  obtain⟨k,rfl⟩:∃k,nn=k+1:=⟨nn-1,Ω⟩
  obtain⟨hi,n,TM⟩:=Cb hd;have t:=Aeu (a0:=a0) Be g l o r (i+1) k TM (by simp at m;omega)
  have h:=g x (zn n);have e:Ac (CP p) prog u (d+2) 117 [Bg (Ab x)]=_:=A3t (u:=u) (d:=d) (p:=p) h.1 Ω;have a:decide ((i:Int)<(ls.length:Int))=true:=dT Ω;have b:decide ((0:Int)<=(i:Int))=true:=Ψ
  have c:f9 (ls.map EK) (0+wj (i:Int)*1) PV.top=Bg (Ab x):=by
   rw[Hy,I8,Jp,zj,zr,n];rfl
  have v:wrap .i64 ((i:Int)+1)=((i+1:Nat):Int):=Bc
  rw[Lk];cases f:Ny x
  ·rw[f] at e;have:((x::r).all Ny=false):=by simp[f]
   rw[Bv this];simp only[Aq,Ar,a,b,c,e,Ix]
  ·rw[f] at e;have:(x::r).all Ny=r.all Ny:=by simp[f]
   rw[this];simp only[Aq,Ar,a,b,c,e,Gc,v];exact t
theorem A69(a:Ch l)(g:l.length<=1000000)(Be:2000<=u):Ac (CP p) prog u (d+4) 72 [Bg (Ab l)]=some ⟨[Av (Yq l)],[]⟩:=by
 rw[AE];unfold Yq;by_cases h:100<l.length
 ·have b:decide (((l.length:Nat):Int)>100)=true:=dT Ω;rw[Bv h];simp only[Aq,Ar,Ai,b]
 ·have b:decide (((l.length:Nat):Int)>100)=false:=dF Ω;have e:Ac (CP p) prog u (d+3) 116 [Bg (Ab l),.sc (.int .u8 46)]=_:=Ay9 (u:=u) (d:=d+2) (p:=p) (c:=46) a Ω Ω;have i:=JU 46 l;have hd:=Aeu (a0:=Ab l) (u:=u) (d:=d+1) (p:=p) Ω (ls:=Bl 46 l) (λx f=>⟨(IC 46 a x f).1,by have:=(IC 46 a x f).2;omega⟩) (Vk 46 l) Ω (Bl 46 l) 0 u rfl Ω
  rw[Bd h];simp only[Aq,Ar,Ai,b,e];exact hd
end
section
variable {u d:Nat}{p:Option (Ae->Option A3)}
theorem Am6(s:Bool):Ac (CP p) prog u (d+1) 73 [C3 s]=some ⟨[Av (dfl s)],[]⟩:=by rw[Vv];cases s<;>simp only[Aq,Ar]<;>rfl
theorem Ack{a0:ByteArray}{l:Ak}{s a1:Bool}(g:Ch l)(y:l.length<=5):∀(r:Ak)(i nn:Nat)(n:Int),l.drop i=r->r.length+1<=nn->0<=n->n<10 ^ i ->
  Ic u (Ac (CP p) prog u (d+1)) a0 a1 nn (Ab l) s n (i:Int)=some (if r.all Wa=true then ⟨[Av (r.foldl (λn x=>10*n+(x-48)) n),C3 (decide (r.foldl (λn x=>10*n+(x-48)) n<=65535)&&decide (r.foldl (λn x=>10*n+(x-48)) n≠dfl s))],[]⟩ else ⟨[Av 0,C3 false],[]⟩)
 |[],i,nn,n,hd,j,z,A=>by
  obtain⟨k,rfl⟩:∃k,nn=k+1:=⟨nn-1,Ω⟩
  have hi:=drop_nil hd;have a:decide ((i:Int)<(l.length:Int))=false:=dF Ω;have e:Ac (CP p) prog u (d+1) 73 [C3 s]=_:=Am6 (u:=u) (d:=d) (p:=p) s;rw[Pr];show _=some (A3.mk [Av n,C3 (decide (n<=65535)&&decide (n≠dfl s))] []);by_cases m:n<=65535
  ·have q:=dT m
   have B:(n != dfl s)=decide (n≠dfl s):=by
    by_cases h:n=dfl s<;>simp[h]
   simp only[Aq,Ar,Ai,a,q,e,B,Zzm]
  ·have q:=dF m;simp only[Aq,Ar,Ai,a,q,SK]
 |c::r,i,nn,n,hd,j,z,A=>by
  obtain⟨k,rfl⟩:∃k,nn=k+1:=⟨nn-1,Ω⟩
  obtain⟨hi,o,TM⟩:=Cb hd;have KU:=g c (zn o)
  have hp:(10:Int) ^ i<=10 ^ 4:=by
   have h:=gr (n:=10) Ω (show i<=4 by omega)
   exact_mod_cast h
  have C:(10:Int) ^ (i+1)=10 ^ i*10:=g5 ..;have a:decide ((i:Int)<(l.length:Int))=true:=dT Ω;have t:decide ((0:Int)<=(i:Int))=true:=Ψ
  have v:(mf (Ab l).data)[wj (i:Int)]?=some c.toNat.toUInt8:=by
   rw[Hy];show (l.map λn=>n.toNat.toUInt8)[i]?=_;rw[zr,o];rfl
  have w:=Nz KU;have e:Ac (CP p) prog u (d+1) 118 [.sc (.int .u8 c)]=_:=SZ (u:=u) (d:=d) (p:=p) (c:=c);rw[Pr];cases b:Wa c
  ·rw[b] at e;have f:(c::r).all Wa=false:=by rw[ym,b,SK]
   rw[f];simp only[Aq,Ar,Ai,a,t,v,w,e,Ix,qf,if_false]
  ·rw[b] at e;have L:=(RP c).1 b;have D:wrap .i64 (10*n)=10*n:=Ba;have E:wrap .u8 (c-48)=c-48:=Gt Ω Ω;have G:wrap .i64 (c-48)=c-48:=Ba;have H:wrap .i64 (10*n+(c-48))=10*n+(c-48):=Ba;have J:wrap .i64 ((i:Int)+1)=((i+1:Nat):Int):=Bc
   have K:=Ack (a0:=a0) (s:=s) (a1:=a1) g y r (i+1) k (10*n+(c-48)) TM (by simp at j;omega) Ω Ω
   have f:(c::r).all Wa=r.all Wa:=by rw[ym,b,Zzm]
   simp only[Aq,Ar,Ai,a,t,v,w,e,Gc,D,E,G,H,J];rw[K,f];rfl
theorem A79{s:Bool}(i:Ch l)(Be:100<=u):Ac (CP p) prog u (d+2) 74 [Bg (Ab l),C3 s]=some (if Mj l=true then ⟨[Av (NQ l),C3 (decide (NQ l<=65535)&&decide (NQ l≠dfl s))],[]⟩ else ⟨[Av 0,C3 false],[]⟩):=by
 rw[KQ];by_cases f:1<=l.length
 ·by_cases g:l.length<=5
  ·have a:decide (((l.length:Nat):Int)<1)=false:=dF Ω;have b:decide (((l.length:Nat):Int)>5)=false:=dF Ω;cases l with
   |nil=>simp at f
   |cons c r=>
    have KU:=i c Ψ;have j:(mf (Ab (c::r)).data)[0]?=some c.toNat.toUInt8:=rfl;have k:=Nz KU;by_cases h:c=48
    ·subst h;have e:Mj (48::r)=false:=by unfold Mj;simp
     have q:((48:Int)==48)=true:=rfl;rw[e];simp only[Aq,Ar,Ai,a,b,j,k,q,qf,if_false]
    ·have q:(c==48)=false:=by simp[h]
     have e:Mj (c::r)=(c::r).all Wa:=by
      unfold Mj;rw[dT f,dT g];simp[h]
     have m:=Ack (u:=u) (d:=d) (p:=p) (a0:=Ab (c::r)) (a1:=s) (s:=s) i g (c::r) 0 u 0 rfl Ω Ω Δ;rw[e];simp only[Aq,Ar,Ai,a,b,j,k,q];exact m
  ·have a:decide (((l.length:Nat):Int)<1)=false:=dF Ω;have b:decide (((l.length:Nat):Int)>5)=true:=dT Ω;have e:Mj l=false:=by unfold Mj;simp[g]
   rw[e];simp only[Aq,Ar,Ai,a,b,qf,if_false]
 ·have a:decide (((l.length:Nat):Int)<1)=true:=dT Ω;have e:Mj l=false:=by unfold Mj;simp[f]
  rw[e];simp only[Aq,Ar,Ai,a,qf,if_false]
theorem Bd3{a0 s4 s7:ByteArray}{y3 y6:Bool}{y5 y8:Int}(j:Ch r)(A:r.length<=1000000)(Be:2000<=u){nn:Nat}:∃B C D,Cc u (Ac (CP p) prog u (d+4)) a0 (nn+1) (Ab r) ((B7 58 r).length:Int) (-1) y3 s4 y5 y6 s7 y8=some ⟨[.agg [C3 B,Bg C,Av D],Av (HC y6 r)],[]⟩:=by
 have K:=YC 58 r;have m:Ch (B7 58 r):=by rw[Xc];exact λx n=>j x (kg n)
 have o:Ch (r.drop ((B7 58 r).length+1)):=λx n=>j x (kj n);have c2:Ac (CP p) prog u (d+4) 72 [Bg (Ab (B7 58 r))]=_:=A69 (u:=u) (d:=d) (p:=p) m Ω Be;have k:Ac (CP p) prog u (d+4) 73 [C3 y6]=_:=Am6 (u:=u) (d:=d+3) (p:=p) y6;have a:Ac (CP p) prog u (d+4) 74 [Bg (Ab (r.drop ((B7 58 r).length+1))),C3 y6]=_:=A79 (u:=u) (d:=d+2) (p:=p) (s:=y6) o Ω;have c:decide ((-1:Int)>=0)=false:=rfl;have e:decide ((0:Int)<=((B7 58 r).length:Int))=true:=Ψ
 have f:decide (wj ((B7 58 r).length:Int)<=r.length)=true:=dT Ω;have g:(Ab r).extract 0 (wj ((B7 58 r).length:Int))=Ab (B7 58 r):=by rw[Hy,AM j,<-Xc]
 rw[Jt];unfold HC;by_cases l:Yq (B7 58 r)=0
 ·have z:((0:Int) != 0)=false:=rfl;rw[l] at c2;simp only[ne_eq,l,not_true_eq_false,if_false];by_cases L:(B7 58 r).length<r.length
  ·have i:=dT (q:=((B7 58 r).length:Int)<(r.length:Int)) Ω;have t:wrap .i64 (((B7 58 r).length:Int)+1)=(((B7 58 r).length+1:Nat):Int):=Bc
   have v:decide ((0:Int)<=(((B7 58 r).length+1:Nat):Int))=true:=dT Ω;have w:decide (wj (((B7 58 r).length+1:Nat):Int)<=r.length)=true:=dT Ω;have y:(Ab r).extract (wj (((B7 58 r).length+1:Nat):Int)) r.length=Ab (r.drop ((B7 58 r).length+1)):=by rw[Hy,CQ j]
   rw[Bd (show ¬(B7 58 r).length=r.length by omega)];by_cases hp:Mj (r.drop ((B7 58 r).length+1))=true
   ·rw[Bv hp] at a;by_cases b:NQ (r.drop ((B7 58 r).length+1))<=65535/\NQ (r.drop ((B7 58 r).length+1))≠dfl y6
    ·rw[dT b.1,dT b.2] at a;rw[Bv ⟨hp,b.1,b.2⟩];exact⟨_,_,_,by simp only[Aq,Ar,Ai,dle,c,e,f,g,c2,z,k,i,t,v,w,y,a,Zzn,Gc];rfl⟩
    ·have E:(decide (NQ (r.drop ((B7 58 r).length+1))<=65535)&&decide (NQ (r.drop ((B7 58 r).length+1))≠dfl y6))=false:=by
      rw[b4];intro h;rw[Gh,decide_eq_true_iff,decide_eq_true_iff] at h;exact b h
     rw[E] at a;rw[Bd (by rintro⟨_,G,H⟩;exact b ⟨G,H⟩)]
     exact⟨_,_,_,by simp only[Aq,Ar,Ai,dle,c,e,f,g,c2,z,k,i,t,v,w,y,a,Ix];rfl⟩
   ·rw[Bd hp] at a;rw[Bd (by rintro⟨h,_,_⟩;exact hp h)]
    exact⟨_,_,_,by simp only[Aq,Ar,Ai,dle,c,e,f,g,c2,z,k,i,t,v,w,y,a,Ix];rfl⟩
  ·have i:=dF (q:=((B7 58 r).length:Int)<(r.length:Int)) Ω;rw[Bv (show (B7 58 r).length=r.length by omega)];exact⟨_,_,_,by simp only[Aq,Ar,Ai,c,e,f,g,c2,z,k,i];rfl⟩
 ·have J:(Yq (B7 58 r) != 0)=true:=by simp[l]
  simp only[ne_eq,l,not_false_eq_true,if_true];exact⟨_,_,_,by simp only[Aq,Ar,Ai,c,e,f,g,c2,J];rfl⟩
theorem A4u{k:Nat}(a:k<r.length)(b:r[k]?=some c):(B7 58 (r.drop k)).length=if c=58 then 0 else (B7 58 (r.drop (k+1))).length+1:=by
 have e:r.drop k=c::r.drop (k+1):=by
  rw[zc a];rw[zd a] at b;cases b;rfl
 rw[e];by_cases h:c=58
 ·subst h;rw[Aio,Bv rfl];rfl
 ·rw[Alm _ h,Bd h];rfl
theorem A59{a0 s4 s7:ByteArray}{y3 y6:Bool}{y5 y8:Int}(m:Ch r)(e:r.length<=1000000)(Be:2000<=u):∀(k nn:Nat),k<=r.length->k+1<=nn->∃f g i,Cc u (Ac (CP p) prog u (d+4)) a0 nn (Ab r) ((k+(B7 58 (r.drop k)).length:Nat):Int) ((k:Int)-1) y3 s4 y5 y6 s7 y8=some ⟨[.agg [C3 f,Bg g,Av i],Av (HC y6 r)],[]⟩:=by
 intro k
 induction k with
 |zero=>
  intro nn x Es;obtain⟨q,rfl⟩:∃q,nn=q+1:=⟨nn-1,Ω⟩
  have:=Bd3 (u:=u) (d:=d) (p:=p) (a0:=a0) (s4:=s4) (s7:=s7) (y3:=y3) (y6:=y6) (y5:=y5) (y8:=y8) m e Be (nn:=q);rw[Jo,I8];exact this
 |succ k y=>
  intro nn x Es;obtain⟨q,rfl⟩:∃q,nn=q+1:=⟨nn-1,Ω⟩
  obtain⟨c,j⟩:∃c,r[k]?=some c:=⟨_,zd Ω⟩
  have KU:=m c (zn j);have a:=A4u (show k<r.length by omega) j;obtain⟨f,g,i,h⟩:=y q Ω Ω;refine⟨f,g,i,?_⟩;have o:decide (((k+1:Nat):Int)-1>=0)=true:=dT Ω;have s:decide ((0:Int)<=((k+1:Nat):Int)-1)=true:=dT Ω
  have t:(mf (Ab r).data)[wj (((k+1:Nat):Int)-1)]?=some c.toNat.toUInt8:=by
   rw[show wj (((k+1:Nat):Int)-1)=k by omega];show (r.map λn=>n.toNat.toUInt8)[k]?=_;rw[zr,j];rfl
  have v:=Nz KU;have w:wrap .i64 (((k+1:Nat):Int)-1-1)=(k:Int)-1:=Bc
  rw[Jt];by_cases b:c=58
  ·rw[Bv b] at a;have l:(c==58)=true:=by simp[b]
   rw[a] at h;simp only[Aq,Ar,o,s,t,v,l,w];rw[show ((k+1:Nat):Int)-1=((k+0:Nat):Int) by omega];exact h
  ·rw[Bd b] at a;have l:(c==58)=false:=by simp[b]
   rw[a] at h;simp only[Aq,Ar,o,s,t,v,l,w];rw[show k+1+(B7 58 (r.drop (k+1))).length=k+((B7 58 (r.drop (k+1))).length+1) by omega];exact h
theorem Aix(g:Ch l)(T:l.length<=1000000)(Be:2000<=u)(IV:l.length+1<=u):∃a b c,Ac (CP p) prog u (d+5) 41 [Bg (Ab l)]=some ⟨[.agg [C3 a,Bg b,Av c],Av (Hv l)],[]⟩:=by
  have r:=Xg (p:=p) u (d+4) (Ab l)
  have sT:Ac (CP p) prog u (d+4) 71 [C3 true]=some ⟨[Bg (Ab [104,116,116,112,115,58,47,47])],[]⟩:=by
    refine (Qt (p:=p) u (d+3) true).trans ?_
    simp only[Aq,Ar]
    rfl
  have sF:Ac (CP p) prog u (d+4) 71 [C3 false]=some ⟨[Bg (Ab [104,116,116,112,58,47,47])],[]⟩:=by
    refine (Qt (p:=p) u (d+3) false).trans ?_
    simp only[Aq,Ar]
    rfl
  have t:Ch [104,116,116,112,115,58,47,47]:=λx i=>by simp at i;omega
  have v:Ch [104,116,116,112,58,47,47]:=λx i=>by simp at i;omega
  have K:(Ab [104,116,116,112,115,58,47,47]).size=8:=rfl
  have y:(Ab [104,116,116,112,58,47,47]).size=7:=rfl
  have L:([104,116,116,112,115,58,47,47]:Ak).length=8:=rfl
  have n7:([104,116,116,112,58,47,47]:Ak).length=7:=rfl
  have B:(ByteArray.mk #[104,116,116,112,115,58,47,47])=Ab [104,116,116,112,115,58,47,47]:=rfl
  have C:∀n,Ch (l.take n):=λn x i=>g x (kg i)
  have loop:∀(m:Nat) (s:Bool),m<=l.length->∃a b c,Cc u (Ac (CP p) prog u (d+4)) (Ab l) u (Ab (l.drop m)) (((Ab (l.drop m)).size:Nat):Int) (wrap .i64 ((((Ab (l.drop m)).size:Nat):Int)-1)) false (ByteArray.mk #[]) 0 s (ByteArray.mk #[]) 0=some ⟨[.agg [C3 a,Bg b,Av c],Av (HC s (l.drop m))],[]⟩:=by
    intro m s U
    have hd:Ch (l.drop m):=λx i=>g x (kj i)
    have M:(l.drop m).length=l.length-m:=yr
    obtain⟨a,b,c,h⟩:=A59 (u:=u) (d:=d) (p:=p) (a0:=Ab l) (s4:=ByteArray.mk #[]) (s7:=ByteArray.mk #[]) (y3:=false) (y6:=s) (y5:=0) (y8:=0) hd Ω Be (l.drop m).length u (Cz _) Ω
    refine⟨a,b,c,?_⟩
    rw[Ai,Ba]
    have e:(l.drop m).length+(B7 58 ((l.drop m).drop (l.drop m).length)).length=(l.drop m).length:=by
      rw[lq];rfl
    rw[e] at h
    exact h
  unfold Hv
  have plain:∀(N:bn [104,116,116,112,115,58,47,47] l=false),∃a b c,(Ap (decide (((l.length:Nat):Int)<((7:Nat):Int)))
    (some (A3.mk [PV.agg [PV.sc (Value.bool false),PV.sc (Value.string ⟨#[]⟩),PV.sc (Value.int IntKind.i64 (0:Int))],PV.sc (Value.int IntKind.i64 (2:Int))] []))
    (Ap (!decide (l.take 7=[104,116,116,112,58,47,47]))
     (some (A3.mk [PV.agg [PV.sc (Value.bool false),PV.sc (Value.string ⟨#[]⟩),PV.sc (Value.int IntKind.i64 (0:Int))],PV.sc (Value.int IntKind.i64 (2:Int))] []))
     (Cc u (Ac (CP p) prog u (d+4)) (Ab l) u (Ab (l.drop 7)) (((Ab (l.drop 7)).size:Nat):Int) (wrap .i64 ((((Ab (l.drop 7)).size:Nat):Int)-1)) false (ByteArray.mk #[]) 0 false (ByteArray.mk #[]) 0)))=some ⟨[.agg [C3 a,Bg b,Av c],Av (if bn [104,116,116,112,58,47,47] l=true then HC false (l.drop 7) else 2)],[]⟩:=by
    intro _
    by_cases O:l.length<7
    · have P:bn [104,116,116,112,58,47,47] l=false:=by
        rw[b4,ne_eq,bk]
        intro h
        have:=h.length_le
        simp at this
        omega
      rw[dT (show ((l.length:Nat):Int)<((7:Nat):Int) by omega),P]
      exact⟨_,_,_,rfl⟩
    · rw[dF (show ¬((l.length:Nat):Int)<((7:Nat):Int) by omega)]
      have hp:=Akt (w:=[104,116,116,112,58,47,47]) (l:=l) (by simp;omega)
      rw[show ([104,116,116,112,58,47,47]:Ak).length=7 from rfl] at hp
      rw[hp]
      cases bn [104,116,116,112,58,47,47] l
      · exact⟨_,_,_,rfl⟩
      · obtain⟨a,b,c,h⟩:=loop 7 false Ω
        exact⟨a,b,c,h⟩
  have D:(Ab l).extract 0 (wj ((7:Nat):Int))=Ab (l.take 7):=AM g 7
  have E:(Ab l).extract (wj ((7:Nat):Int)) l.length=Ab (l.drop 7):=CQ g 7
  have G:(Ab l).extract 0 8=Ab (l.take 8):=AM g 8
  have z:(Ab l).extract 0 (wj ((8:Nat):Int))=Ab (l.take 8):=AM g 8
  have Q:(Ab l).extract (wj ((8:Nat):Int)) l.length=Ab (l.drop 8):=CQ g 8
  have H:=Wh (C 7) v
  have j:=Wh (C 8) t
  by_cases J:l.length>=8
  · have o:=dT (q:=((l.length:Nat):Int)>=8) Ω
    have f:=dT (q:=8<=l.length) J
    have hp:=Akt (w:=[104,116,116,112,115,58,47,47]) (l:=l) (by simp;omega)
    rw[show ([104,116,116,112,115,58,47,47]:Ak).length=8 from rfl] at hp
    rw[hp] at j
    have A:=dT (q:=wj ((7:Nat):Int)<=l.length) Ω
    have R:=dT (q:=wj ((8:Nat):Int)<=l.length) Ω
    cases k:bn [104,116,116,112,115,58,47,47] l
    · rw[k] at j
      simp only[qf,if_false]
      obtain⟨a,b,c,CH⟩:=plain k
      refine⟨a,b,c,r.trans ?_⟩
      rw[B]
      simp only[Aq,Ar,Ai,dle,o,f,G,j,sF]
      simp only[Aq,Ar,y,n7,A,D,H,E] at CH ⊢
      exact CH
    · rw[k] at j
      simp only[if_true]
      have S:=dF (q:=((l.length:Nat):Int)<((8:Nat):Int)) Ω
      obtain⟨a,b,c,h⟩:=loop 8 true J
      refine⟨a,b,c,r.trans ?_⟩
      rw[B]
      simp only[Aq,Ar,Ai,dle,o,f,G,j,sT]
      simp only[Aq,Ar,K,L,S,R,z,j,Q,Gc]
      exact h
  · have o:=dF (q:=((l.length:Nat):Int)>=8) Ω
    have k:bn [104,116,116,112,115,58,47,47] l=false:=by
      rw[b4,ne_eq,bk]
      intro h
      have:=h.length_le
      simp at this
      omega
    rw[k]
    simp only[qf,if_false]
    obtain⟨a,b,c,CH⟩:=plain k
    refine⟨a,b,c,r.trans ?_⟩
    simp only[Aq,Ar,Ai,dle,o,sF]
    by_cases N:l.length<7
    · have f:=dT (q:=((l.length:Nat):Int)<((7:Nat):Int)) Ω
      rw[f] at CH
      simp only[Aq,Ar,y,n7,f] at CH ⊢
      exact CH
    · have f:=dF (q:=((l.length:Nat):Int)<((7:Nat):Int)) Ω
      have A:=dT (q:=wj ((7:Nat):Int)<=l.length) Ω
      rw[f] at CH
      simp only[Aq,Ar,y,n7,f,A,D,H,E] at CH ⊢
      exact CH
end
def YI:Ak:=[123,34,116,121,112,101,34,58,34]
def fA2:Ak:=[34,44,34,99,104,97,108,108,101,110,103,101,34,58,34]
def fA3:Ak:=[34,44,34,111,114,105,103,105,110,34,58,34]
def fA4:Ak:=[34,44,34,99,114,111,115,115,79,114,105,103,105,110,34,58,102,97,108,115,101,125]
def fA5:Ak:=[34,44,34,99,114,111,115,115,79,114,105,103,105,110,34,58,116,114,117,101,44,34,116,111,112,79,114,105,103,105,110,34,58,34]
def fA6:Ak:=[34,125]
def fA7:Ak:=[34,44,34,99,114,111,115,115,79,114,105,103,105,110,34,58]
def fA8:Ak:=[102,97,108,115,101,125]
def fA9:Ak:=[116,114,117,101,44,34,116,111,112,79,114,105,103,105,110,34,58,34]
theorem Ah1:(ByteArray.mk #[123,34,116,121,112,101,34,58,34])=Ab YI:=rfl
theorem Aju:(ByteArray.mk #[34,44,34,99,104,97,108,108,101,110,103,101,34,58,34])=Ab fA2:=rfl
theorem Ahg:(ByteArray.mk #[34,44,34,111,114,105,103,105,110,34,58,34])=Ab fA3:=rfl
theorem A1o:(ByteArray.mk #[34,125])=Ab fA6:=rfl
theorem Ajs:(ByteArray.mk #[34,44,34,99,114,111,115,115,79,114,105,103,105,110,34,58])=Ab fA7:=rfl
theorem Ay6:(ByteArray.mk #[102,97,108,115,101,125])=Ab fA8:=rfl
theorem A2r:(ByteArray.mk #[116,114,117,101,44,34,116,111,112,79,114,105,103,105,110,34,58,34])=Ab fA9:=rfl
theorem VU:(ByteArray.mk #[])=Ab []:=rfl
theorem A5y:fA4=fA7++fA8:=rfl
theorem A6w:fA5=fA7++fA9:=rfl
theorem Bg2:Ch []:=λx a=>by cases a
def tyS(k:Int):Option Ak:=if k=1 then some tyC else if k=2 then some tyG else none
def fmH(ty ch o:Ak):Ak:=YI++ty++fA2++Ge ch++fA3++o
def WU(k:Int)(ch o t:Ak)(x:Bool):JR Ak:=
 match tyS k with
 |none=>.error 3
 |some a=>if ch.length<1\/64<ch.length then .error 9 else if Hv o≠0 then .error (Hv o)
  else if x=false then (if t=[] then .ok (fmH a ch o++fA4) else .error 4)
  else if Hv t≠0 then .error (Hv t) else .ok (fmH a ch o++fA5++t++fA6)
def A8d(r:JR Ak):A3:=match r with | .ok s=>⟨[Bg (Ab s),Av 0],[]⟩ | .error e=>⟨[Bg (Ab []),Av e],[]⟩
section
variable {u d:Nat}{p:Option (Ae->Option A3)}
abbrev cdA(k:Int)(ch o t:Ak)(x:Bool):PV:=.agg [Av k,.lst false 1 ch.length (Af .u8 ch),Bg (Ab o),C3 x,Bg (Ab t)]
theorem nn0(e:Int)(h:e≠0):(e != 0)=true:=by simp[h]
theorem Ahf(k:Int):Ac (CP p) prog u (d+1) 40 [Av k]=some ⟨[Bg (Ab ((tyS k).getD []))],[]⟩:=by
 rw[FJ];unfold tyS;by_cases a:k=1
 ·subst a;have k1:((1:Int)==1)=true:=rfl;rw[Bv rfl];simp only[Aq,Ar,k1];rfl
 have k1:(k==1)=false:=by simp[a]
 by_cases b:k=2
 ·subst b;have c:((2:Int)==2)=true:=rfl;rw[Bd a,Bv rfl];simp only[Aq,Ar,k1,c];rfl
 have c:(k==2)=false:=by simp[b]
 rw[Bd a,Bd b];simp only[Aq,Ar,k1,c];rfl
theorem Az2{ty:Ak}(h:tyS k=some ty):Ch ty/\ty≠[]/\ty.length<=14:=by
 unfold tyS at h;split at h
 ·cases h;exact⟨λx a=>by simp[tyC] at a;omega,Δ,Δ⟩
 split at h
 ·cases h;exact⟨λx a=>by simp[tyG] at a;omega,Δ,Δ⟩
 ·cases h
set_option maxHeartbeats 4000000 in
theorem Axp{ch o t:Ak}(A:Ch ch)(N:Ch o)(ht:Ch t)(Sf:ch.length<=100000)(B:o.length<=1000000)(C:t.length<=1000000)(Be:2000<=u)(D:ch.length+1<=u)(E:o.length+1<=u)(G:t.length+1<=u):
  Ac (CP p) prog u (d+6) 23 [cdA k ch o t x]=some (A8d (WU k ch o t x)):=by
 have O:=Xr (p:=p) u (d+5) k ch.length (Af .u8 ch) (Ab o) x (Ab t);refine O.trans ?_;obtain⟨U,V,W,h⟩:=Aix (u:=u) (d:=d) (p:=p) N B Ω E;obtain⟨X,Y,Z,m⟩:=Aix (u:=u) (d:=d) (p:=p) ht C Ω G;have h:Ac (CP p) prog u (d+5) 41 [Bg (Ab o)]=_:=h;have m:Ac (CP p) prog u (d+5) 41 [Bg (Ab t)]=_:=m;have n:Ac (CP p) prog u (d+5) 42 [.lst false 1 ch.length (Af .u8 ch)]=_:=Atn (u:=u) (d:=d+4) (p:=p) A Sf Ω D;have c:Ac (CP p) prog u (d+5) 40 [Av k]=_:=Ahf (u:=u) (d:=d+4) (p:=p) k;have P:=YF ch;have r:((0:Int) != 0)=false:=rfl;have s:(mf (Ab t).data==[])=decide (t=[]):=Wh (b:=[]) ht Bg2;unfold WU;cases j:tyS k with
 |none=>
  rw[j] at c;have q:((([]:List UInt8)==[])=true):=rfl;simp only[Aq,Ar,c,Option.getD_none,VU,q];rfl
 |some a=>
  rw[j] at c;obtain⟨H,J,Bsi⟩:=Az2 j;have q:(mf (Ab a).data==[])=false:=(Wh (b:=[]) H Bg2).trans (dF J);have c1:decide (9+a.length<=9223372036854775807)=true:=dT Ω;have c2:decide ((YI++a).length+15<=9223372036854775807)=true:=dT (by simp[YI];omega)
  have v:decide ((YI++a++fA2).length+(Ge ch).length<=9223372036854775807)=true:=dT (by simp[YI,fA2];omega)
  have w:decide ((YI++a++fA2++Ge ch).length+12<=9223372036854775807)=true:=dT (by simp[YI,fA2];omega)
  have y:decide ((YI++a++fA2++Ge ch++fA3).length+o.length<=9223372036854775807)=true:=dT (by simp[YI,fA2,fA3];omega)
  have z:decide ((YI++a++fA2++Ge ch++fA3++o).length+16<=9223372036854775807)=true:=dT (by simp[YI,fA2,fA3];omega)
  have c7:decide ((YI++a++fA2++Ge ch++fA3++o++fA7).length+6<=9223372036854775807)=true:=dT (by simp[YI,fA2,fA3,fA7];omega)
  have K:decide ((YI++a++fA2++Ge ch++fA3++o++fA7).length+18<=9223372036854775807)=true:=dT (by simp[YI,fA2,fA3,fA7];omega)
  have L:decide ((YI++a++fA2++Ge ch++fA3++o++fA7++fA9).length+t.length<=9223372036854775807)=true:=dT (by simp[YI,fA2,fA3,fA7,fA9];omega)
  have M:decide ((YI++a++fA2++Ge ch++fA3++o++fA7++fA9++t).length+2<=9223372036854775807)=true:=dT (by simp[YI,fA2,fA3,fA7,fA9];omega)
  simp only;by_cases Q:ch.length<1
  ·have i:=dT (q:=((ch.length:Nat):Int)<1) Ω;rw[Bv (.inl Q)];simp only[Aq,Ar,c,ud,VU,q,i];rfl
  have i:=dF (q:=((ch.length:Nat):Int)<1) Ω;by_cases R:64<ch.length
  ·have l:=dT (q:=((ch.length:Nat):Int)>64) Ω;rw[Bv (.inr R)];simp only[Aq,Ar,c,ud,VU,q,i,l];rfl
  have l:=dF (q:=((ch.length:Nat):Int)>64) Ω;rw[Bd Ω];by_cases e:Hv o=0
  rotate_left
  ·have S:=nn0 _ e;rw[Bv e];simp only[Aq,Ar,c,ud,VU,q,i,l,h,S];rfl
  rw[Bd (by simp[e])];rw[e] at h;cases x with
  |false=>
   rw[Bv rfl];by_cases f:t=[]
   ·rw[dT f] at s;rw[Bv f];simp only[Aq,Ar,c,ud,VU,q,i,l,h,r,s,Gc,Ix,n,Ai,Ah1,Aju,Ahg,Ajs,Ay6,Lm,c1,c2,v,w,y,z,c7];show some (A3.mk _ [])=_;unfold A8d fmH;rw[A5y];simp only[Zzv]
   ·rw[dF f] at s;rw[Bd f];simp only[Aq,Ar,c,ud,VU,q,i,l,h,r,s,Gc,Ix,n,Ai,Ah1,Aju,Ahg,Ajs,Ay6,Lm,c1,c2,v,w,y,z,c7];rfl
  |true=>
   rw[Bd Δ];by_cases g:Hv t=0
   ·rw[g] at m;rw[Bd (by simp[g])];simp only[Aq,Ar,c,ud,VU,q,i,l,h,m,r,Gc,Ix,n,Ai,Ah1,Aju,Ahg,A1o,Ajs,A2r,Lm,c1,c2,v,w,y,z,K,L,M];show some (A3.mk _ [])=_;unfold A8d fmH;rw[A6w];simp only[Zzv]
   ·have T:=nn0 _ g;rw[Bv g];simp only[Aq,Ar,c,ud,VU,q,i,l,h,m,r,T,Gc,Ix,n,Ai,Ah1,Aju,Ahg,A1o,Ajs,A2r,Lm,c1,c2,v,w,y,z,K,L,M];rfl
end
def clB(c:Int):Bool:=decide (33<=c)&&decide (c<=126)&&c != 34&&c != 92
theorem QQ:clB c=true↔33<=c/\c<=126/\c≠34/\c≠92:=by unfold clB;simp;omega
theorem UI(c:Int):∀{l:Ak}{x:Int},x∈l->x=c\/∃q∈Bl c l,x∈q
 |a::r,x,d=>by
  unfold Bl;by_cases f:a=c
  ·rw[Bv f];rcases zl.1 d with rfl|d
   ·exact .inl f
   ·rcases UI c d with h|⟨q,e,h⟩
    ·exact .inl h
    ·exact .inr ⟨q,by simp[e],h⟩
  ·rw[Bd f];cases g:Bl c r with
   |nil=>exact absurd g (Vk c r)
   |cons b t=>
    rcases zl.1 d with rfl|d
    ·exact .inr ⟨x::b,Ψ,Ψ⟩
    ·rcases UI c d with h|⟨q,e,h⟩
     ·exact .inl h
     ·rw[g] at e;rcases zl.1 e with rfl|e
      ·exact .inr ⟨a::q,Ψ,by simp[h]⟩
      ·exact .inr ⟨q,by simp[e],h⟩
theorem Ao6(h:Yq l=0):l.all clB=true:=by
 unfold Yq at h;split at h
 ·cases h
 split at h
 ·cases h
 rename_i _ a
 have a:(Bl 46 l).all Ny=true:=by
  cases b:(Bl 46 l).all Ny
  ·exact absurd b a
  ·rfl
 rw[yb];intro x f;rcases UI 46 f with rfl|⟨q,b,c⟩
 ·rfl
 ·have d:=yb.1 a q b;unfold Ny at d;rw[Gh] at d;have e:=yb.1 d.2 x c;unfold ltB Wa at e;rw[QQ];simp at e;omega
theorem Aat{s:Bool}(h:HC s r=0):r.all clB=true:=by
 unfold HC at h;simp only at h;by_cases f:Yq (B7 58 r)=0
 ·rw[Bd (by simp[f])] at h;have j:=Ao6 f;by_cases k:(B7 58 r).length=r.length
  ·rwa [Atl 58 r Ω] at j
  ·rw[Bd k] at h;split at h
   ·rename_i hp
    have hd:(r.drop ((B7 58 r).length+1)).all Wa=true:=by
     have:=hp.1;unfold Mj at this;rw[Gh] at this;exact this.2
    have Ct:(B7 58 r).length<r.length:=by have:=YC 58 r;omega
    have Biu:r[(B7 58 r).length]?=some 58:=by
     obtain⟨c,d⟩:∃c,r[(B7 58 r).length]?=some c:=⟨_,zd Ct⟩
     have e:r.drop (B7 58 r).length=r.dropWhile (λx=>x != 58):=by
      have b:r.takeWhile (λx=>x != 58)++r.dropWhile (λx=>x != 58)=r:=List.takeWhile_append_dropWhile;have l:=congrArg (nb (B7 58 r).length) b;have m:(List.takeWhile (λx=>x != 58) r++lr (λx=>x != 58) r).drop (B7 58 r).length=lr (λx=>x != 58) r:=lp;rw[<-l];exact m
     have g:(r.dropWhile (λx=>x != 58))[0]?=some c:=by rw[<-e,zg];simpa using d
     cases a:r.dropWhile (λx=>x != 58) with
     |nil=>rw[a] at g;cases g
     |cons y t=>
      rw[a] at g;have:y=c:=by simpa using g
      subst this;have i:=List.head?_dropWhile_not (λx:Int=>x != 58) r;rw[a] at i;simp at i;rw[d,i]
    have e:r=B7 58 r++58::r.drop ((B7 58 r).length+1):=by
     have b:=(List.take_append_drop (B7 58 r).length r).symm;rw[<-Xc] at b;rw[zd Ct] at Biu;rw[zc Ct] at b;have:r[(B7 58 r).length]=58:=by simpa using Biu
     rw[this] at b;exact b
    rw[e,lu,j,ym]
    have:(r.drop ((B7 58 r).length+1)).all clB=true:=by
     rw[yb] at hd ⊢;intro x n;have:=(RP x).1 (hd x n);rw[QQ];omega
    rw[this];rfl
   ·cases h
 ·rw[Bv f] at h;exact absurd h f
theorem Afg(h:Hv l=0):l.all clB=true:=by
 unfold Hv at h
 have a:∀w:Ak,w.all clB=true->w.isPrefixOf l=true->(l.drop w.length).all clB=true->l.all clB=true:=by
  intro w b hp hd;have e:=List.prefix_iff_eq_append.1 (bk.1 hp);rw[<-e,lu,b,hd];rfl
 split at h
 ·rename_i hp;exact a _ Δ hp (Aat h)
 split at h
 ·rename_i hp;exact a _ Δ hp (Aat h)
 ·cases h
theorem Md{v:Int}(a:0<=v)(b:v<64):clB (K7 v)=true:=by
 rw[QQ];unfold K7;split
 ·omega
 split
 ·omega
 split
 ·omega
 split<;>omega
theorem US:∀{l:Ak},Ch l->(Ge l).all clB=true
 |[],_=>rfl
 |[a],h=>by
  obtain⟨d,_⟩:=Ck h;unfold Ge;rw[ym,ym,Md Ω Ω,Md Ω Ω];rfl
 |[a,b],h=>by
  obtain⟨d,h⟩:=Ck h;obtain⟨f,_⟩:=Ck h;unfold Ge;rw[ym,ym,ym,Md Ω Ω,Md Ω Ω,Md Ω Ω];rfl
 |a::b::c::r,h=>by
  obtain⟨d,h⟩:=Ck h;obtain⟨f,h⟩:=Ck h;obtain⟨g,h⟩:=Ck h;have e:Ge (a::b::c::r)=K7 (a / 4)::K7 (a % 4*16+b / 16)::K7 (b % 16*4+c / 64)::K7 (c % 64)::Ge r:=rfl;rw[e,ym,ym,ym,ym,Md Ω Ω,Md Ω Ω,Md Ω Ω,Md Ω Ω,US h];rfl
theorem Aaz:∀(s:Ak)(n:Nat)(a r:Ak),s.all clB=true->s.length<n->Kj n a (s++34::r)=(some (a++s),r)
  |[],n,a,r,_,b=>by
    obtain⟨m,rfl⟩:∃m,n=m+1:=⟨n-1,by simp at b;omega⟩
    show (if (34:Int)<32 then _ else if (34:Int)=34 then (some a,r) else _)=_
    rw[Bd Δ,Bv rfl,vy]
  |c::s,n,a,r,h,b=>by
    obtain⟨m,rfl⟩:∃m,n=m+1:=⟨n-1,by simp at b;omega⟩
    rw[ym,Gh] at h
    have d:=QQ.1 h.1
    have e:Kj (m+1) a (c::(s++34::r))=if c<32 then (none,c::(s++34::r)) else if c=34 then (some a,s++34::r) else if c=92 then
        (match O6 (s++34::r) with
         |(some x,r')=>Kj m (a++b6 x) r'
         |(none,r')=>(none,r')) else Kj m (a++[c]) (s++34::r):=rfl
    rw[Zzp,e,Bd Ω,Bd Ω,Bd Ω,Aaz s m (a++[c]) r h.2 (by simp at b;omega)]
    simp
theorem WH{s:Ak}(h:s.all clB=true):D1 (34::(s++34::r))=(some s,r):=by
 have e:D1 (34::(s++34::r))=if (34:Int)=34 then Kj ((s++34::r).length+1) [] (s++34::r) else (none,34::(s++34::r)):=rfl
 rw[e,Bv rfl,Aaz s _ [] r h (by simp;omega)]
 rfl
def VOk(a:Ak)(v:JV):Prop:=(∀r,Dc 8 (a++r)=.ok (v,r))/\∃y z,a=y::z/\Ri y=false
theorem YP{s:Ak}(h:s.all clB=true):VOk (34::(s++[34])) (4,s,false):=by
 refine⟨λr=>?_,34,_,rfl,rfl⟩;have e:(34::(s++[34]))++r=34::(s++34::r):=Ψ
 rw[e];have a:Dc 8 (34::(s++34::r))=(match QS (34::(s++34::r)) with|none=>.error 2|some (s,r')=>.ok ((4,s,false),r')):=rfl;have b:QS (34::(s++34::r))=some (s,r):=by unfold QS;rw[WH h]
 rw[a,b]
theorem Awi:VOk [102,97,108,115,101] (2,[],false):=⟨λr=>rfl,102,_,rfl,rfl⟩
theorem Azv:VOk [116,114,117,101] (2,[],true):=⟨λr=>rfl,116,_,rfl,rfl⟩
theorem TD{y:Int}(h:Ri y=false):Aw (y::r)=y::r:=by show (if Ri y=true then Aw r else y::r)=_;rw[Bd (by rw[h];decide)]
def Xv(nm a:Ak):Ak:=34::(nm++34::58::a)
theorem JP{g:Ak}{rest:Ak}(i:nm.all clB=true)(a:VOk g v)(hd:(ms.any λm=>m.1==nm)=false)(h:c=44\/c=125):
  Ra (Dc 8) true (n+1) ms (Xv nm g++c::rest)=if c=125 then .ok (ms++[(nm,v)],rest) else Ra (Dc 8) true n (ms++[(nm,v)]) (Aw rest):=by
 obtain⟨a,y,z,rfl,j⟩:=a;have e:Xv nm (y::z)++c::rest=34::(nm++34::(58::(y::z++c::rest))):=by unfold Xv;simp
 have b:Ri c=false:=by rcases h with rfl|rfl<;>rfl
 rw[e,Lu,WH i];simp only;rw[Zzm,hd,Bd Δ,TD (show Ri 58=false from rfl)];have d:Az [58] (58::(y::z++c::rest))=some (y::z++c::rest):=by rw[Di];rfl
 rw[d];simp only;rw[Zzp,TD j,<-Zzp,a];simp only;rw[TD b];rcases h with rfl|rfl
 ·have f:Az [125] (44::rest)=none:=by rw[Di];rfl
  have k:Az [44] (44::rest)=some rest:=by rw[Di];rfl
  rw[f,k,Bd Δ]
 ·have f:Az [125] (125::rest)=some rest:=by rw[Di];rfl
  rw[f,Bv rfl]
def Be1(ty ch o t:Ak)(x:Bool):List (Ak × JV):=
 [(P6,(4,ty,false)),(U0,(4,Ge ch,false)),(NF,(4,o,false)),(UW,(2,[],x))]++(if x=true then [(CF,(4,t,false))] else [])
def wsL(w:Ak):Prop:=w.all Ri=true
theorem Aqf:∀{w:Ak}(r:Ak),wsL w->Aw (w++r)=Aw r
 |[],_,_=>rfl
 |c::w,r,h=>by
  unfold wsL at h;rw[ym,Gh] at h;show (if Ri c=true then Aw (w++r) else _)=_;rw[Bv h.1];exact Aqf r h.2
def Kz(ty ch o t:Ak)(x:Bool):Ak:=
 Xv P6 (34::(ty++[34]))++44::(Xv U0 (34::(Ge ch++[34]))++44::(Xv NF (34::(o++[34]))++44::(Xv UW (if x=true then [116,114,117,101] else [102,97,108,115,101])++(if x=true then 44::(Xv CF (34::(t++[34]))++[125]) else [125]))))
theorem Amu{ty ch o t:Ak}(h:wsL w)(c:ty.all clB=true)(d:Ch ch)(j:o.all clB=true)(ht:t.all clB=true):
  XM 8 (w++(123::Kz ty ch o t x)++w)=.ok (Be1 ty ch o t x):=by
 have b:Aw w=[]:=by
  have:=Aqf (w:=w) [] h
  rwa [vy] at this
 have k:w++(123::Kz ty ch o t x)++w=w++(123::(Kz ty ch o t x++w)):=Ψ
 rw[Vi,k,Aqf _ h,TD (show Ri 123=false from rfl)];have l:Az [123] (123::(Kz ty ch o t x++w))=some (Kz ty ch o t x++w):=by rw[Di];rfl
 rw[l];simp only;have i:Kz ty ch o t x++w=34::((Kz ty ch o t x++w).tail):=by unfold Kz Xv;rfl
 have e:Aw (Kz ty ch o t x++w)=Kz ty ch o t x++w:=by rw[i];exact TD rfl
 have e125:Az [125] (Kz ty ch o t x++w)=none:=by rw[i,Di];rfl
 rw[Ol,e,e125];simp only
 obtain⟨N,m⟩:∃N,(Kz ty ch o t x++w).length+1=N+5:=⟨(Kz ty ch o t x++w).length-4,by
  have:4<=(Kz ty ch o t x++w).length:=by unfold Kz Xv;simp;omega
  omega⟩
 rw[m];have a:∀f g r,Aw (Xv f g++r)=Xv f g++r:=λf g r=>TD rfl
 have n:Kz ty ch o t x++w=Xv P6 (34::(ty++[34]))++44::(Xv U0 (34::(Ge ch++[34]))++44::(Xv NF (34::(o++[34]))++44::(Xv UW (if x=true then [116,114,117,101] else [102,97,108,115,101])++((if x=true then 44::(Xv CF (34::(t++[34]))++[125]) else [125])++w)))):=by
  unfold Kz;simp only[Zzv,Zzp]
 rw[n,JP Δ (YP c) rfl (.inl rfl),Bd Δ,a,
  JP Δ (YP (US d)) rfl (.inl rfl),Bd Δ,a,
  JP Δ (YP j) rfl (.inl rfl),Bd Δ,a]
 cases x with
 |false=>
  rw[Bd Δ,Bd Δ,Zzp,SJ,JP Δ Awi rfl (.inr rfl),Bv rfl];simp only[SJ];rw[Bv b];rfl
 |true=>
  have es:Xv CF (34::(t++[34]))++[125]++w=Xv CF (34::(t++[34]))++125::w:=Ψ
  rw[Bv rfl,Bv rfl,Zzp,es,JP Δ Azv rfl (.inl rfl),Bd Δ,a,
   JP Δ (YP ht) rfl (.inr rfl),Bv rfl]
  simp only[SJ];rw[Bv b];rfl
theorem Ago{ty ch o t:Ak}(a:tyS k=some ty)(c:Ch ch)(g:1<=ch.length)(i:ch.length<=64)(d:Hv o=0)(ht:x=true->Hv t=0)(e:x=false->t=[]):
  VH (Be1 ty ch o t x)=.ok (k,ch,o,x,t):=by
 have b:∀T:JV,OS k (4,Ge ch,false) (4,o,false) (2,[],x) (if x=true then (4,t,false) else (0,[],false))=.ok (k,ch,o,x,t):=by
  intro _;unfold OS;simp only;rw[Ahz c];simp only;rw[Bd Ω,Bd (by simp[d])];cases x with
  |false=>rw[e rfl];simp
  |true=>simp[ht rfl]
 have f:VH (Be1 ty ch o t x)=S6 (4,ty,false) (4,Ge ch,false) (4,o,false) (2,[],x) (if x=true then (4,t,false) else (0,[],false)):=by
  cases x<;>rfl
 rw[f];unfold S6;rw[Bd Ψ,Bd Ψ,Bd (by cases x<;>simp)]
 unfold tyS at a;split at a
 ·rename_i h;cases a;subst h
  simp only;rw[Bv trivial];exact b (0,[],false)
 split at a
 ·rename_i h;cases a;subst h
  simp only;rw[Bd Δ,Bv trivial];exact b (0,[],false)
 ·cases a
theorem Ayx{ch o t s:Ak}(h:WU k ch o t x=.ok s):∃ty,tyS k=some ty/\s=123::Kz ty ch o t x/\1<=ch.length/\ch.length<=64/\Hv o=0/\(x=true->Hv t=0)/\(x=false->t=[]):=by
 unfold WU at h;cases b:tyS k with
 |none=>rw[b] at h;cases h
 |some ty=>
  rw[b] at h;simp only at h;split at h
  ·cases h
  rename_i c;split at h
  ·cases h
  rename_i a
  have a:Hv o=0:=by
   by_cases q:Hv o=0
   ·exact q
   ·exact absurd q a
  cases x with
  |false=>
   rw[Bv rfl] at h;split at h
   ·rename_i ht;cases h;refine⟨ty,rfl,?_,Ω,Ω,a,(λh=>by cases h),λ_=>ht⟩;unfold fmH Kz Xv YI fA2 fA3 fA4 P6 U0 NF UW;simp
   ·cases h
  |true=>
   rw[Bd Δ] at h;split at h
   ·cases h
   ·rename_i ht;cases h
    have ht:Hv t=0:=by
     by_cases q:Hv t=0
     ·exact q
     ·exact absurd q ht
    refine⟨ty,rfl,?_,Ω,Ω,a,λ_=>ht,(λh=>by cases h)⟩;unfold fmH Kz Xv YI fA2 fA3 fA5 fA6 P6 U0 NF UW CF;simp
theorem Akc(h:∀x∈l,0<=x/\x<128):fh (Ab l).data.toList=true:=by
 have e:(Ab l).data.toList=l.map λn=>n.toNat.toUInt8:=rfl
 rw[e,Lib.validD_ascii (l.map λn=>n.toNat.toUInt8).length _ (λb a=>by
  have a:=kg a;obtain⟨n,c,rfl⟩:=kl.1 a;have:=h n c;have d:n.toNat.toUInt8.toNat=n.toNat % 256:=by rw[nj,UInt8.toNat_ofNat']
  omega),lq]
 rfl
def asc(l:Ak):Prop:=∀y∈l,0<=y/\y<128
theorem CS{p q:Ak}(hp:asc p)(a:asc q):asc (p++q):=λy b=>(B8.1 b).elim (hp y) (a y)
theorem P4{p:Ak}(c:0<=a/\a<128)(hp:asc p):asc (a::p):=λy b=>by
 rcases zl.1 b with rfl|b
 ·exact c
 ·exact hp y b
theorem A7s{ch o t s:Ak}(b:Ch ch)(h:WU k ch o t x=.ok s)(i:wsL w)(H:(w++s++w).length<=1024):L4 (Ab (w++s++w))=.ok (k,ch,o,x,t):=by
 obtain⟨d,c,rfl,e,f,j,ht,l⟩:=Ayx h;have m:=Afg j
 have n:t.all clB=true:=by
  cases x with
  |true=>exact Afg (ht rfl)
  |false=>rw[l rfl];rfl
 have p:d.all clB=true:=by
  unfold tyS at c;split at c
  ·cases c;decide
  split at c
  ·cases c;decide
  ·cases c
 have B:=US b
 have cl128:∀{q:Ak},q.all clB=true->∀y∈q,0<=y/\y<128:=λg y a=>by
  have:=QQ.1 (yb.1 g y a);omega
 have wc:∀y∈w,0<=y/\y<128:=λy a=>by
  have:=yb.1 i y a;unfold Ri at this;simp at this;omega
 have C:asc (Kz d ch o t x):=by
  have v:∀{q:Ak},q.all clB=true->asc (34::(q++[34])):=λg=>P4 Δ (CS (cl128 g) (P4 Δ (λ_ h=>nomatch h)));have mt:∀{r z:Ak},asc r->asc z->asc (Xv r z):=λe f=>P4 Δ (CS e (P4 Δ (P4 Δ f)));have nT:asc P6:=by unfold asc P6;decide
  have nC:asc U0:=by unfold asc U0;decide
  have nO:asc NF:=by unfold asc NF;decide
  have nX:asc UW:=by unfold asc UW;decide
  have nP:asc CF:=by unfold asc CF;decide
  have D:asc [116,114,117,101]:=by unfold asc;decide
  have E:asc [102,97,108,115,101]:=by unfold asc;decide
  have A:asc [125]:=by unfold asc;decide
  unfold Kz;refine CS (mt nT (v p)) (P4 Δ (CS (mt nC (v B)) (P4 Δ (CS (mt nO (v m)) (P4 Δ (CS (mt nX ?_) ?_))))))
  ·cases x with
   |true=>exact D
   |false=>exact E
  ·cases x with
   |true=>exact P4 Δ (CS (mt nP (v n)) A)
   |false=>exact A
 have all128:∀y∈w++(123::Kz d ch o t x)++w,0<=y/\y<128:=by
  intro y a;rcases B8.1 a with a|a
  ·rcases B8.1 a with a|a
   ·exact wc y a
   ·rcases zl.1 a with rfl|a
    ·omega
    ·exact C y a
  ·exact wc y a
 have G:Ch (w++(123::Kz d ch o t x)++w):=λy a=>by have:=all128 y a;omega
 unfold L4;rw[Ai,Bd Ω,Akc all128,Bd Δ,Cw G,Amu i p b m n];exact Ago c b e f j ht l
theorem TH{x:Int}(e:0<=x)(i:x<=1114111)(j:x<55296\/57343<x):runesBytes [x]=Ab (b6 x):=by
 obtain⟨n,rfl⟩:=g8 e
 have f:Utf8.valid (n:Int)=true:=by
  unfold Utf8.valid;simp;omega
 have g:runesBytes [(n:Int)]=Utf8.encode (n:Int):=by
  show n9++Utf8.encode (n:Int)=_;exact la
 rw[g];unfold Utf8.encode;simp only[f,if_true,Hy];by_cases c1:n<128
 ·rw[Bv c1,Lib.encodeRuneZ_one Ω Ω];rfl
 rw[Bd c1];by_cases c2:n<2048
 ·rw[Bv c2,Lib.encodeRuneZ_two Ω Ω];have a:(192+(n:Int) / 64).toNat=192+n / 64:=Ω
  have b:(128+(n:Int) % 64).toNat=128+n % 64:=Ω
  show _=ByteArray.mk (bc [(192+(n:Int) / 64).toNat.toUInt8,(128+(n:Int) % 64).toNat.toUInt8]);rw[a,b]
 rw[Bd c2];by_cases d:n<65536
 ·rw[Bv d,Lib.encodeRuneZ_three Ω];have a:(224+(n:Int) / 4096).toNat=224+n / 4096:=Ω
  have b:(128+(n:Int) / 64 % 64).toNat=128+n / 64 % 64:=Ω
  have c:(128+(n:Int) % 64).toNat=128+n % 64:=Ω
  show _=ByteArray.mk (bc [(224+(n:Int) / 4096).toNat.toUInt8,(128+(n:Int) / 64 % 64).toNat.toUInt8,(128+(n:Int) % 64).toNat.toUInt8]);rw[a,b,c]
 ·rw[Bd d,Lib.encodeRuneZ_four Ω Ω];have h:(240+(n:Int) / 262144).toNat=240+n / 262144:=Ω
  have a:(128+(n:Int) / 4096 % 64).toNat=128+n / 4096 % 64:=Ω
  have b:(128+(n:Int) / 64 % 64).toNat=128+n / 64 % 64:=Ω
  have c:(128+(n:Int) % 64).toNat=128+n % 64:=Ω
  show _=ByteArray.mk (bc [(240+(n:Int) / 262144).toNat.toUInt8,(128+(n:Int) / 4096 % 64).toNat.toUInt8,(128+(n:Int) / 64 % 64).toNat.toUInt8,(128+(n:Int) % 64).toNat.toUInt8]);rw[h,a,b,c]
abbrev RS:=JR Ak
variable{s:RS}
def JS(t:ByteArray)(i e:Int):RS->Prop
 |.ok r=>e=0/\D5 t r/\i=(Bp t r:Int)
 |.error c=>e=c/\c≠0/\0<=i/\i<=(t.size:Int)+1
abbrev jC(t:ByteArray)(i e:Int):Ae:=[Bg t,Av i,Av e]
def Ez:RS->Int
 |.ok r=>SU r
 |.error _=>0
def Fg:RS->RS
 |.ok (_::r)=>.ok r
 |s=>s
def jfl(c:Int):RS->RS
 |.ok _=>.error c
 |s=>s
theorem JS.rng(h:JS t i e s):0<=i/\i<=(t.size:Int)+1:=by
 cases s with
 |ok r=>
  obtain⟨_,_,rfl⟩:=h;unfold Bp;omega
 |error c=>exact⟨h.2.2.1,h.2.2.2⟩
theorem JS.hd(h:JS t i e s):0<=Ez s/\Ez s<=255:=by
 cases s with
 |ok r=>
  cases r with
  |nil=>exact⟨ll _,Δ⟩
  |cons c r=>exact h.2.1.B c Ψ
 |error c=>exact⟨ll _,by show (0:Int)<=255;decide⟩
theorem JS.adv(h:JS t i e s)(ht:t.size<=1000000)(a:Ez s≠0):JS t (i+1) e (Fg s)/\wrap .i64 (i+1)=i+1:=by
 have g:=h.rng;refine⟨?_,Ba⟩;cases s with
 |ok r=>
  cases r with
  |nil=>exact absurd rfl a
  |cons c r=>
   obtain⟨d,b,f⟩:=h;exact⟨d,b.tail,by rw[f,Kl b];omega⟩
 |error c=>exact absurd rfl a
theorem JS.fail(h:JS t i e s)(f:c≠0):JS t i (if e=0 then c else e) (jfl c s):=by
 have b:=h.rng;cases s with
 |ok r=>
  obtain⟨rfl,a,d⟩:=h;rw[Bv rfl];exact⟨rfl,f,b.1,b.2⟩
 |error c2=>
  obtain⟨rfl,a,d,g⟩:=h;rw[Bd a];exact⟨rfl,a,d,g⟩
section
variable {u d:Nat}{p:Option (Ae->Option A3)}
theorem Hh(h:JS t i e s):Ac (CP p) prog u (d+1) 160 [.pbox (jC t i e)]=some ⟨[.sc (.int .u8 (Ez s))],[jC t i e]⟩:=by
 refine (Zf (p:=p) u d t i e).trans ?_;cases s with
 |error c=>
  obtain⟨rfl,f,l,m⟩:=h;have z:(e != 0)=true:=by simp[f]
  simp only[Aq,Ar,z];rfl
 |ok r=>
  obtain⟨rfl,f,rfl⟩:=h;have z:((0:Int) != 0)=false:=rfl;cases r with
  |nil=>
   have a:decide ((Bp t []:Int)>=(t.size:Int))=true:=dT (by rw[Si];omega)
   simp only[Aq,Ar,z,a];rfl
  |cons c r=>
   have j:=f.len
   have hp:Bp t (c::r)<t.size:=by
    unfold Bp;rw[M9] at j ⊢;omega
   obtain⟨b,g,rfl⟩:=f.at;have a:decide ((Bp t ((b.toNat:Int)::r):Int)>=(t.size:Int))=false:=dF Ω;have k:decide ((0:Int)<=(Bp t ((b.toNat:Int)::r):Int))=true:=Ψ
   rw[<-Hy (Bp t ((b.toNat:Int)::r))] at g;simp only[Aq,Ar,z,a,k,g];rfl
theorem P3(t:ByteArray)(i e c:Int):Ac (CP p) prog u (d+1) 162 [.pbox (jC t i e),Av c]=some ⟨[],[jC t i (if e=0 then c else e)]⟩:=by
 refine (Zp (p:=p) u d t i e c).trans ?_;by_cases h:e=0
 ·have z:(e==0)=true:=by simp[h]
  rw[Bv h];simp only[Aq,Ar,z]
 ·have z:(e==0)=false:=by simp[h]
  rw[Bd h];simp only[Aq,Ar,z]
def SP:RS->RS
 |.ok r=>.ok (Aw r)
 |s=>s
def XF:RS->Nat
 |.ok r=>r.length
 |.error _=>0
theorem JS.len(h:JS t i e s):XF s<=t.size:=by
 cases s with
 |ok r=>exact h.2.1.len
 |error c=>exact jt _
theorem A2e(h:Ri (Ez s)=true):SP (Fg s)=SP s/\XF (Fg s)+1=XF s:=by
 cases s with
 |ok r=>
  cases r with
  |nil=>cases h
  |cons c r=>
   have h:Ri c=true:=h;refine⟨?_,rfl⟩;show Except.ok (Aw r)=Except.ok (Aw (c::r));have:Aw (c::r)=if Ri c=true then Aw r else c::r:=rfl
   rw[this,Bv h]
 |error c=>cases h
theorem A38(h:Ri (Ez s)=false):SP s=s:=by
 cases s with
 |ok r=>
  cases r with
  |nil=>rfl
  |cons c r=>exact congrArg Except.ok (by
    have:Aw (c::r)=if Ri c=true then Aw r else c::r:=rfl
    have h:Ri c=false:=h;rw[this,Bd (by rw[h];decide)])
 |error c=>rfl
theorem Aqt(ht:t.size<=1000000):∀(n nn:Nat)(i e:Int)(s:RS),XF s=n->n+1<=nn->JS t i e s->∃l,JS t l e (SP s)/\Fu u (Ac (CP p) prog u (d+1)) t0 i0 e0 nn t i e=some ⟨[],[jC t l e]⟩:=by
 intro n
 induction n using lc with
 |_ n v=>
  intro nn i e s z Es h;obtain⟨k,rfl⟩:∃k,nn=k+1:=⟨nn-1,Ω⟩
  have g:=Hh (u:=u) (d:=d) (p:=p) h;rw[Tv];by_cases a:Ri (Ez s)=true
  ·have w:Ez s≠0:=by intro x;rw[x] at a;cases a
   obtain⟨y,wr⟩:=h.adv ht w;obtain⟨s1,s2⟩:=A2e a;obtain⟨l,q,m⟩:=v (XF (Fg s)) Ω k (i+1) e (Fg s) rfl Ω y;rw[s1] at q;refine⟨l,q,?_⟩
   have r:Ez s=32\/Ez s=9\/Ez s=10\/Ez s=13:=by
    unfold Ri at a;simp at a;omega
   generalize Ez s=c at g r;rcases r with rfl|rfl|rfl|rfl
   ·have b:((32:Int) != 32)=false:=rfl;simp only[Aq,Ar,g,b,wr];exact m
   ·have b:((9:Int) != 32)=true:=rfl;have f:((9:Int) != 9)=false:=rfl;simp only[Aq,Ar,g,b,f,wr];exact m
   ·have b:((10:Int) != 32)=true:=rfl;have f:((10:Int) != 9)=true:=rfl;have j:((10:Int) != 10)=false:=rfl;simp only[Aq,Ar,g,b,f,j,wr];exact m
   ·have b:((13:Int) != 32)=true:=rfl;have f:((13:Int) != 9)=true:=rfl;have j:((13:Int) != 10)=true:=rfl;have o:((13:Int) != 13)=false:=rfl;simp only[Aq,Ar,g,b,f,j,o,wr];exact m
  ·have a:Ri (Ez s)=false:=b4.2 a;rw[A38 a];refine⟨i,h,?_⟩;unfold Ri at a;simp at a;have b:(Ez s != 32)=true:=by simp[a]
   have f:(Ez s != 9)=true:=by simp[a]
   have j:(Ez s != 10)=true:=by simp[a]
   have o:(Ez s != 13)=true:=by simp[a]
   simp only[Aq,Ar,g,b,f,j,o]
theorem Ih(ht:t.size<=1000000)(Be:t.size+1<=u)(h:JS t i e s):∃a,JS t a e (SP s)/\Ac (CP p) prog u (d+2) 158 [.pbox (jC t i e)]=some ⟨[],[jC t a e]⟩:=by
 obtain⟨a,b,c⟩:=Aqt (u:=u) (d:=d) (p:=p) ht (t0:=t) (i0:=i) (e0:=e) (XF s) u i e s rfl (by have:=h.len;omega) h
 exact⟨a,b,(Xp (p:=p) u (d+1) t i e).trans c⟩
def Wq(c:Int)(s:RS):RS:=if Ez s=c then Fg s else jfl 2 s
theorem J9(ht:t.size<=1000000)(g:c≠0)(h:JS t i e s):∃j k,JS t j k (Wq c s)/\Ac (CP p) prog u (d+2) 159 [.pbox (jC t i e),.sc (.int .u8 c)]=some ⟨[],[jC t j k]⟩:=by
 have b:=Hh (u:=u) (d:=d) (p:=p) h;have fl:=P3 (u:=u) (d:=d) (p:=p) t i e 2;have l:=Vt (p:=p) u (d+1) t i e c;unfold Wq;by_cases a:Ez s=c
 ·obtain⟨m,wr⟩:=h.adv ht (by rw[a];exact g)
  rw[Bv a];refine⟨i+1,e,m,l.trans ?_⟩;rw[a] at b;have f:(c != c)=false:=Ψ
  have n:(c==0)=false:=by simp[g]
  simp only[Aq,Ar,b,f,n,wr]
 ·rw[Bd a];refine⟨i,_,h.fail (c:=2) Δ,l.trans ?_⟩;have f:(Ez s != c)=true:=by simp[a]
  simp only[Aq,Ar,b,f,fl]
def jwd:Ak->RS->RS
 |[],s=>s
 |c::w,s=>jwd w (Wq c s)
theorem Aen{t:ByteArray}(ht:t.size<=1000000){w:Ak}(j:Ch w)(a:∀c∈w,c≠0)(b:w.length<=100){t0:ByteArray}{i0 e0:Int}{w0:ByteArray}:∀(r:Ak)(k nn:Nat)(i e:Int)(s:RS),w.drop k=r->r.length+1<=nn->JS t i e s ->
  ∃l o,JS t l o (jwd r s)/\F5 u (Ac (CP p) prog u (d+2)) t0 i0 e0 w0 nn (Ab w) (k:Int) t i e=some ⟨[],[jC t l o]⟩
 |[],k,nn,i,e,s,hd,q,h=>by
  obtain⟨m,rfl⟩:∃m,nn=m+1:=⟨nn-1,Ω⟩
  have hi:=drop_nil hd;have f:decide ((k:Int)<(w.length:Int))=false:=dF Ω;refine⟨i,e,h,?_⟩;rw[Kw];simp only[Aq,Ar,Ai,f]
 |c::r,k,nn,i,e,s,hd,q,h=>by
  obtain⟨m,rfl⟩:∃m,nn=m+1:=⟨nn-1,Ω⟩
  obtain⟨hi,g,TM⟩:=Cb hd;have KU:=j c (zn g);obtain⟨i1,v,x,y⟩:=J9 (u:=u) (d:=d) (p:=p) ht (a c (zn g)) h;obtain⟨i2,z,A,B⟩:=Aen ht j a b (t0:=t0) (i0:=i0) (e0:=e0) (w0:=w0) r (k+1) m i1 v _ TM (by simp at q;omega) x
  have f:decide ((k:Int)<(w.length:Int))=true:=dT Ω;have C:decide ((0:Int)<=(k:Int))=true:=Ψ
  have D:(mf (Ab w).data)[wj (k:Int)]?=some c.toNat.toUInt8:=by
   rw[Hy];show (w.map λn=>n.toNat.toUInt8)[k]?=_;rw[zr,g];rfl
  have E:=Nz KU;have G:wrap .i64 ((k:Int)+1)=((k+1:Nat):Int):=Bc
  refine⟨i2,z,A,?_⟩;rw[Kw];simp only[Aq,Ar,Ai,f,C,D,E,y,G];exact B
theorem Apf(ht:t.size<=1000000)(Be:200<=u)(j:Ch w)(f:∀c∈w,c≠0)(g:w.length<=100)(h:JS t i e s):∃a b,JS t a b (jwd w s)/\Ac (CP p) prog u (d+3) 178 [.pbox (jC t i e),Bg (Ab w)]=some ⟨[],[jC t a b]⟩:=by obtain⟨a,b,k,l⟩:=Aen (u:=u) (d:=d) (p:=p) ht j f g (t0:=t) (i0:=i) (e0:=e) (w0:=Ab w) w 0 u i e s rfl Ω h;exact⟨a,b,k,(Zx (p:=p) u (d+2) t i e (Ab w)).trans l⟩
def jdr:RS->RS
 |.ok r=>.ok (Ib r)
 |s=>s
def jdg(s:RS):RS:=if Wa (Ez s)=true then jdr s else jfl 2 s
theorem A00(h:Wa (Ez s)=true):jdr (Fg s)=jdr s/\XF (Fg s)+1=XF s:=by
 cases s with
 |ok r=>
  cases r with
  |nil=>cases h
  |cons c r=>
   have h:YN c=true:=h;refine⟨?_,rfl⟩;show Except.ok (Ib r)=Except.ok (Ib (c::r));have:Ib (c::r)=if YN c=true then Ib r else c::r:=rfl
   rw[this,Bv h]
 |error c=>cases h
theorem A12(h:Wa (Ez s)=false):jdr s=s:=by
 cases s with
 |ok r=>
  cases r with
  |nil=>rfl
  |cons c r=>exact congrArg Except.ok (by
    have:Ib (c::r)=if YN c=true then Ib r else c::r:=rfl
    have h:YN c=false:=h;rw[this,Bd (by rw[h];decide)])
 |error c=>rfl
theorem MC(ht:t.size<=1000000):∀(n nn:Nat)(i e:Int)(s:RS),XF s=n->n+1<=nn->JS t i e s->∃b,JS t b e (jdr s)/\Eb u (Ac (CP p) prog u (d+1)) t0 i0 e0 nn t i e=some ⟨[],[jC t b e]⟩:=by
 intro n
 induction n using lc with
 |_ n j=>
  intro nn i e s r Es h;obtain⟨k,rfl⟩:∃k,nn=k+1:=⟨nn-1,Ω⟩
  have f:=Hh (u:=u) (d:=d) (p:=p) h;have dg:Ac (CP p) prog u (d+1) 118 [.sc (.int .u8 (Ez s))]=_:=SZ (u:=u) (d:=d) (p:=p) (c:=Ez s);rw[S5];cases a:Wa (Ez s) with
  |true=>
   have l:Ez s≠0:=by intro m;rw[m] at a;cases a
   obtain⟨o,wr⟩:=h.adv ht l;obtain⟨s1,s2⟩:=A00 a;obtain⟨b,g,q⟩:=j (XF (Fg s)) Ω k (i+1) e (Fg s) rfl Ω o;rw[s1] at g;refine⟨b,g,?_⟩;rw[a] at dg;simp only[Aq,Ar,f,dg,wr];exact q
  |false=>
   rw[A12 a];refine⟨i,h,?_⟩;rw[a] at dg;simp only[Aq,Ar,f,dg]
theorem Bd2(c:Int)(s:RS):jdr (jfl c s)=jfl c s:=by cases s<;>rfl
theorem A9g(c:Int)(s:RS):XF (jfl c s)=0:=by cases s<;>rfl
theorem Ps(ht:t.size<=1000000)(Be:t.size+1<=u)(h:JS t i e s):∃a g,JS t a g (jdg s)/\Ac (CP p) prog u (d+2) 195 [.pbox (jC t i e)]=some ⟨[],[jC t a g]⟩:=by
 have j:=Hh (u:=u) (d:=d) (p:=p) h;have dg:Ac (CP p) prog u (d+1) 118 [.sc (.int .u8 (Ez s))]=_:=SZ (u:=u) (d:=d) (p:=p) (c:=Ez s);have k:=Xf (p:=p) u (d+1) t i e;unfold jdg;cases l:Wa (Ez s) with
 |true=>
  rw[l] at dg;obtain⟨a,b,f⟩:=MC (u:=u) (d:=d) (p:=p) ht (t0:=t) (i0:=i) (e0:=e) (XF s) u i e s rfl (by have:=h.len;omega) h
  rw[Bv rfl];refine⟨a,e,b,k.trans ?_⟩;simp only[Aq,Ar,j,dg,Gc];exact f
 |false=>
  rw[l] at dg;have fl:=P3 (u:=u) (d:=d) (p:=p) t i e 2;have m:=h.fail (c:=2) Δ;obtain⟨a,b,f⟩:=MC (u:=u) (d:=d) (p:=p) ht (t0:=t) (i0:=i) (e0:=e) 0 u i _ _ (A9g 2 s) Ω m;rw[Bd Δ];rw[Bd2] at b;refine⟨a,_,b,k.trans ?_⟩;simp only[Aq,Ar,j,dg,Ix,fl];exact f
end
theorem Ay4{x v:Int}(d:0<=x)(j:x<65536)(c:0<=v)(e:v<=15):Vm .i32 (x*16) v=x*16+v:=by
 obtain⟨a,rfl⟩:=g8 d;obtain⟨b,rfl⟩:=g8 c
 have f:(zx 32 ((a:Int)*16)).toNat=a*16:=by
  have:((a:Int)*16)=((a*16:Nat):Int):=Ω
  rw[this,bv,bw];exact wq Ω
 have g:(zx 32 (b:Int)).toNat=b:=by
  rw[bv,bw];exact wq Ω
 have h:a*16 ||| b=a*16+b:=by
  have:=Nat.two_pow_add_eq_or_of_lt (i:=4) (b:=b) Ω a;rw[show 2 ^ 4*a=a*16 by omega] at this;exact this.symm
 show IntKind.i32.wrap ((zx 32 ((a:Int)*16) ||| zx 32 (b:Int)).toNat:Int)=_;rw[wg,f,g,h,El Ω Ω];omega
def XS:Nat->Int->RS->Int × RS
 |0,n,s=>(n,s)
 |k+1,n,s=>match XJ (Ez s) with
  |some v=>XS k (n*16+v) (Fg s)
  |none=>(0,jfl 2 s)
theorem Ajb:∀(k:Nat)(n:Int)(r:Ak),XS k n (.ok r)=match U8 k n r with
  |(some x,r')=>(x,.ok r')
  |(none,_)=>(0,.error 2)
 |0,n,r=>rfl
 |k+1,n,[]=>rfl
 |k+1,n,c::r=>by
  have a:XS (k+1) n (.ok (c::r))=match XJ c with
   |some v=>XS k (n*16+v) (.ok r)
   |none=>(0,.error 2):=rfl
  have b:U8 (k+1) n (c::r)=match XJ c with
   |some v=>U8 k (n*16+v) r
   |none=>(none,c::r):=rfl
  rw[a,b];cases XJ c with
  |some v=>exact Ajb k _ r
  |none=>rfl
theorem A6m(k:Nat)(n c:Int):XS (k+1) n (.error c)=(0,.error c):=rfl
section
variable {u d:Nat}{p:Option (Ae->Option A3)}
theorem DJ{t:ByteArray}(ht:t.size<=1000000){t0:ByteArray}{i0 e0:Int}:∀(k nn:Nat)(x i e:Int)(s:RS),k<=4->k+1<=nn->0<=x->x<16 ^ (4-k)->JS t i e s ->
  0<=(XS k x s).1/\(XS k x s).1<65536/\∃b f,JS t b f (XS k x s).2/\D6 u (Ac (CP p) prog u (d+1)) t0 i0 e0 nn x ((4-k:Nat):Int) t i e=some ⟨[.sc (.int .i32 (XS k x s).1)],[jC t b f]⟩
 |0,nn,x,i,e,s,_,Es,n,G,h=>by
  obtain⟨m,rfl⟩:∃m,nn=m+1:=⟨nn-1,Ω⟩
  refine⟨n,G,i,e,h,?_⟩;rw[Ly];simp only[Aq,Ar,show decide (((4-0:Nat):Int)<4)=false from rfl];rfl
 |k+1,nn,x,i,e,s,W,Es,n,G,h=>by
  obtain⟨m,rfl⟩:∃m,nn=m+1:=⟨nn-1,Ω⟩
  have j:=Hh (u:=u) (d:=d) (p:=p) h;have dg:Ac (CP p) prog u (d+1) 118 [.sc (.int .u8 (Ez s))]=_:=SZ (u:=u) (d:=d) (p:=p) (c:=Ez s);have fl:=P3 (u:=u) (d:=d) (p:=p) t i e 2
  have X:x<4096:=by
   have:k+1=1\/k+1=2\/k+1=3\/k+1=4:=Ω
   rcases this with e|e|e|e<;>rw[e] at G<;>simp at G<;>omega
  have DP:∀v,0<=v->v<=15->x*16+v<16 ^ (4-k):=by
   intro v R S;have e:4-k=(4-(k+1))+1:=Ω
   rw[e,g5];omega
  have o:decide (((4-(k+1):Nat):Int)<4)=true:=by simp;omega
  have K:wrap .i64 (((4-(k+1):Nat):Int)+1)=((4-k:Nat):Int):=Bc
  have sh:=Bac n Ω;have O:XS (k+1) x s=match XJ (Ez s) with|some v=>XS k (x*16+v) (Fg s)|none=>(0,jfl 2 s):=rfl
  have L:=h.hd;have adv:=λT=>h.adv ht T;have IV:=h.fail (c:=2) Δ;rw[O,Ly];generalize U:Ez s=c at j dg O L adv;rcases TO c with⟨H,J,r⟩|⟨H,J,r⟩|⟨H,J,r⟩|⟨H,J,r,V⟩
  ·rw[r];obtain⟨w,wr⟩:=adv Ω;have hd:Wa c=true:=by unfold Wa;rw[dT H,dT J];rfl
   rw[hd] at dg;have y:wrap .u8 (c-48)=c-48:=Gt Ω Ω;have z:wrap .i32 (c-48)=c-48:=El Ω Ω;have a:=Ay4 (x:=x) (v:=c-48) n Ω Ω Ω;obtain⟨A,B,b,f,C,D⟩:=DJ ht (t0:=t0) (i0:=i0) (e0:=e0) k m (x*16+(c-48)) (i+1) e (Fg s) Ω Ω Ω (DP _ Ω Ω) w;refine⟨A,B,b,f,C,?_⟩;simp only[Aq,Ar,o,j,dg,sh,y,z,a,wr,K];exact D
  ·rw[r];obtain⟨w,wr⟩:=adv Ω;have hd:Wa c=false:=by unfold Wa;rw[dF (q:=c<=57) Ω,Zzt]
   rw[hd] at dg;have g:=dT (q:=c>=97) Ω;have E:=dT (q:=c<=102) Ω;have y:wrap .u8 (c-97)=c-97:=Gt Ω Ω;have M:wrap .u8 (c-97+10)=c-87:=by rw[Gt Ω Ω];omega
   have z:wrap .i32 (c-87)=c-87:=El Ω Ω;have a:=Ay4 (x:=x) (v:=c-87) n Ω Ω Ω;obtain⟨A,B,b,f,C,D⟩:=DJ ht (t0:=t0) (i0:=i0) (e0:=e0) k m (x*16+(c-87)) (i+1) e (Fg s) Ω Ω Ω (DP _ Ω Ω) w;refine⟨A,B,b,f,C,?_⟩;simp only[Aq,Ar,o,j,dg,g,E,sh,y,z,M,a,wr,K];exact D
  ·rw[r];obtain⟨w,wr⟩:=adv Ω;have hd:Wa c=false:=by unfold Wa;rw[dF (q:=c<=57) Ω,Zzt]
   rw[hd] at dg;have g:=dF (q:=c>=97) Ω;have E:=dT (q:=c>=65) Ω;have l:=dT (q:=c<=70) Ω;have y:wrap .u8 (c-65)=c-65:=Gt Ω Ω;have M:wrap .u8 (c-65+10)=c-55:=by rw[Gt Ω Ω];omega
   have z:wrap .i32 (c-55)=c-55:=El Ω Ω;have a:=Ay4 (x:=x) (v:=c-55) n Ω Ω Ω;obtain⟨A,B,b,f,C,D⟩:=DJ ht (t0:=t0) (i0:=i0) (e0:=e0) k m (x*16+(c-55)) (i+1) e (Fg s) Ω Ω Ω (DP _ Ω Ω) w;refine⟨A,B,b,f,C,?_⟩;simp only[Aq,Ar,o,j,dg,g,E,l,sh,y,z,M,a,wr,K];exact D
  ·rw[V]
   have hd:Wa c=false:=by
    unfold Wa;by_cases q:48<=c
    ·rw[dF (q:=c<=57) Ω,Zzt]
    ·rw[dF q,SK]
   rw[hd] at dg;refine⟨ll _,by show (0:Int)<65536;decide,i,_,IV,?_⟩
   by_cases P:97<=c
   ·have g:=dT (q:=c>=97) P;have E:=dF (q:=c<=102) Ω;have l:=dT (q:=c>=65) Ω;have N:=dF (q:=c<=70) Ω;simp only[Aq,Ar,o,j,dg,g,E,l,N,fl]
   ·have g:=dF (q:=c>=97) P;by_cases Q:65<=c
    ·have l:=dT (q:=c>=65) Q;have N:=dF (q:=c<=70) Ω;simp only[Aq,Ar,o,j,dg,g,l,N,fl]
    ·have l:=dF (q:=c>=65) Q;simp only[Aq,Ar,o,j,dg,g,l,fl]
theorem Bbi(ht:t.size<=1000000)(Be:5<=u)(h:JS t i e s):0<=(XS 4 0 s).1/\(XS 4 0 s).1<65536/\∃a b,JS t a b (XS 4 0 s).2/\Ac (CP p) prog u (d+2) 194 [.pbox (jC t i e)]=some ⟨[.sc (.int .i32 (XS 4 0 s).1)],[jC t a b]⟩:=by obtain⟨c,f,a,b,g,j⟩:=DJ (u:=u) (d:=d) (p:=p) ht (t0:=t) (i0:=i) (e0:=e) 4 u 0 i e s Ω Ω Ω Δ h;exact⟨c,f,a,b,g,(BD (p:=p) u (d+1) t i e).trans j⟩
theorem Ti(x:Int):(runesBytes [x]).size<=4:=by
 have b:runesBytes [x]=Utf8.encode x:=by
  show n9++Utf8.encode x=_;exact la
 rw[b];unfold Utf8.encode;simp only;generalize (if Utf8.valid x=true then x.toNat else Utf8.runeError)=c;by_cases c1:c<128
 ·rw[Bv c1];show (1:Nat)<=4
  decide
 rw[Bd c1];by_cases c2:c<2048
 ·rw[Bv c2];show (2:Nat)<=4
  decide
 rw[Bd c2];by_cases a:c<65536
 ·rw[Bv a];show (3:Nat)<=4
  decide
 ·rw[Bd a];show (4:Nat)<=4
  decide
def jes(r:Ak):RS:=match O6 r with
 |(some _,r')=>.ok r'
 |(none,_)=>.error 2
def EsQ(t:ByteArray)(r:Ak)(q:Option A3):Prop:=∃a b o,JS t a b (jes r)/\(∀x r',O6 r=(some x,r')->o=Ab (b6 x))/\o.size<=4/\q=some ⟨[Bg o],[jC t a b]⟩
theorem A62(h:(∃r,s=.ok r)\/s=.error 2):jfl 2 s=.error 2:=by rcases h with⟨r,rfl⟩|rfl<;>rfl
theorem Aui(h:(∃r,s=.ok r)\/s=.error 2):(∃r,Wq c s=.ok r)\/Wq c s=.error 2:=by
 rcases h with⟨r,rfl⟩|rfl
 ·unfold Wq;split
  ·cases r with
   |nil=>exact .inl ⟨_,rfl⟩
   |cons a r=>exact .inl ⟨_,rfl⟩
  ·exact .inr rfl
 ·unfold Wq;split<;>exact .inr rfl
theorem A50(h:(∃r,s=.ok r)\/s=.error 2):(∃r,(XS 4 0 s).2=.ok r)\/(XS 4 0 s).2=.error 2:=by
 rcases h with⟨r,rfl⟩|rfl
 ·rw[Ajb];rcases U8 4 0 r with⟨o,r'⟩;cases o with
  |some x=>exact .inl ⟨_,rfl⟩
  |none=>exact .inr rfl
 ·exact .inr rfl
set_option maxHeartbeats 4000000 in
theorem A3g(ht:t.size<=1000000)(Be:5<=u)(hr:D5 t r):EsQ t r (Ac (CP p) prog u (d+3) 176 [.pbox (jC t (Bp t r) 0)]):=by
 have h0:JS t (Bp t r) 0 (.ok r):=⟨rfl,hr,rfl⟩
 have g:=Hh (u:=u) (d:=d+1) (p:=p) h0;have i:=V1 (p:=p) u (d+2) t (Bp t r) 0;have hrg:=h0.rng;have wr:wrap .i64 ((Bp t r:Int)+1)=(Bp t r:Int)+1:=Ba;have fl:=P3 (u:=u) (d:=d+1) (p:=p) t ((Bp t r:Int)+1) 0 2;rw[Bv rfl] at fl;cases r with
 |nil=>
  have e1:jes []=.error 2:=rfl;unfold EsQ;rw[e1];refine⟨(Bp t []:Int)+1,2,⟨#[]⟩,⟨rfl,Δ,Ω,by rw[Si];omega⟩,(λx r' h=>by cases h),Δ,i.trans ?_⟩
  have g:Ac (CP p) prog u (d+2) 160 [.pbox (jC t (Bp t []) 0)]=some ⟨[.sc (.int .u8 0)],[jC t (Bp t []) 0]⟩:=g;have z:∀k:Int,k≠0->((0:Int)==k)=false:=λk A=>by simp[Ne.symm A]
  simp only[Aq,Ar,g,wr,z 34 Δ,z 92 Δ,z 47 Δ,z 98 Δ,z 102 Δ,z 110 Δ,z 114 Δ,z 116 Δ,z 117 Δ,fl]
 |cons c r=>
  have g:Ac (CP p) prog u (d+2) 160 [.pbox (jC t (Bp t (c::r)) 0)]=some ⟨[.sc (.int .u8 c)],[jC t (Bp t (c::r)) 0]⟩:=g;have hs:=Kl hr;have hp:(Bp t (c::r):Int)+1=(Bp t r:Int):=Ω
  rw[hp] at fl;have wr:wrap .i64 ((Bp t (c::r):Int)+1)=(Bp t r:Int):=wr.trans hp;have B:JS t (Bp t r) 0 (.ok r):=⟨rfl,hr.tail,rfl⟩
  have f:O6 (c::r)=if c=117 then Xk r else match DN c with|some x=>(some x,r)|none=>(none,c::r):=rfl
  by_cases hu:c=117
  rotate_left
  ·rw[Bd hu] at f
   have Akl:∀{x:Int} {o:ByteArray},DN c=some x->o=Ab (b6 x)->o.size<=4->Ac (CP p) prog u (d+3) 176 [.pbox (jC t (Bp t (c::r)) 0)]=some ⟨[Bg o],[jC t (Bp t r) 0]⟩->EsQ t (c::r) (Ac (CP p) prog u (d+3) 176 [.pbox (jC t (Bp t (c::r)) 0)]):=by
    intro x o n ho hos hq;rw[n] at f;refine⟨Bp t r,0,o,?_,?_,hos,hq⟩
    ·unfold jes;rw[f];exact B
    ·intro C r' h;rw[f] at h;cases h;exact ho
   by_cases q1:c=34
   ·subst q1;refine Akl (x:=34) rfl rfl Δ (i.trans ?_);have z:((34:Int)==34)=true:=rfl;simp only[Aq,Ar,g,wr,z];rfl
   have v:(c==34)=false:=by simp[q1]
   by_cases q2:c=92
   ·subst q2;refine Akl (x:=92) rfl rfl Δ (i.trans ?_);have z:((92:Int)==92)=true:=rfl;simp only[Aq,Ar,g,wr,v,z];rfl
   have D:(c==92)=false:=by simp[q2]
   by_cases q3:c=47
   ·subst q3;refine Akl (x:=47) rfl rfl Δ (i.trans ?_);have z:((47:Int)==47)=true:=rfl;simp only[Aq,Ar,g,wr,v,D,z];rfl
   have S:(c==47)=false:=by simp[q3]
   by_cases q4:c=98
   ·subst q4;refine Akl (x:=8) rfl rfl Δ (i.trans ?_);have z:((98:Int)==98)=true:=rfl;simp only[Aq,Ar,g,wr,v,D,S,z];rfl
   have V:(c==98)=false:=by simp[q4]
   by_cases q5:c=102
   ·subst q5;refine Akl (x:=12) rfl rfl Δ (i.trans ?_);have z:((102:Int)==102)=true:=rfl;simp only[Aq,Ar,g,wr,v,D,S,V,z];rfl
   have z5:(c==102)=false:=by simp[q5]
   by_cases q6:c=110
   ·subst q6;refine Akl (x:=10) rfl rfl Δ (i.trans ?_);have z:((110:Int)==110)=true:=rfl;simp only[Aq,Ar,g,wr,v,D,S,V,z5,z];rfl
   have z6:(c==110)=false:=by simp[q6]
   by_cases q7:c=114
   ·subst q7;refine Akl (x:=13) rfl rfl Δ (i.trans ?_);have z:((114:Int)==114)=true:=rfl;simp only[Aq,Ar,g,wr,v,D,S,V,z5,z6,z];rfl
   have z7:(c==114)=false:=by simp[q7]
   by_cases q8:c=116
   ·subst q8;refine Akl (x:=9) rfl rfl Δ (i.trans ?_);have z:((116:Int)==116)=true:=rfl;simp only[Aq,Ar,g,wr,v,D,S,V,z5,z6,z7,z];rfl
   have z8:(c==116)=false:=by simp[q8]
   have z9:(c==117)=false:=by simp[hu]
   have hn:DN c=none:=by unfold DN;simp[q1,q2,q3,q4,q5,q6,q7,q8]
   rw[hn] at f;refine⟨Bp t r,2,⟨#[]⟩,?_,?_,Δ,i.trans ?_⟩
   ·unfold jes;rw[f];have:=B.rng;exact⟨rfl,Δ,this.1,this.2⟩
   ·intro C r' h;rw[f] at h;cases h
   ·simp only[Aq,Ar,g,wr,v,D,S,V,z5,z6,z7,z8,z9,fl]
  subst hu;rw[Bv rfl] at f;have E:((117:Int)==34)=false:=rfl;have G:((117:Int)==92)=false:=rfl;have H:((117:Int)==47)=false:=rfl;have J:((117:Int)==98)=false:=rfl;have K:((117:Int)==102)=false:=rfl;have L:((117:Int)==110)=false:=rfl;have M:((117:Int)==114)=false:=rfl;have N:((117:Int)==116)=false:=rfl;have O:((117:Int)==117)=true:=rfl;obtain⟨n0,n1,i2,T,P,n⟩:=Bbi (u:=u) (d:=d) (p:=p) ht Be B;have f2:=P3 (u:=u) (d:=d+1) (p:=p) t i2 T 2;have W:=P.fail (c:=2) Δ;have A:=Ajb 4 0 r
  have hcd:Xk r=match U8 4 0 r with
   |(none,r)=>(none,r)
   |(some x,r)=>if Zn x=true then (none,r) else if x<55296\/56319<x then (some x,r) else if App r=true then Afi x (r.drop 2) else (none,r):=rfl
  rw[hcd] at f;rcases hq:U8 4 0 r with⟨o,j⟩;rw[hq] at A f;cases o with
  |none=>
   simp only at A f;rw[A] at n0 n1 P n;refine⟨i2,T,runesBytes [0],?_,?_,Ti _,i.trans ?_⟩
   ·unfold jes;rw[f];exact P
   ·intro C r' h;rw[f] at h;cases h
   ·have s:decide ((0:Int)>=56320)=false:=rfl;have X:decide ((0:Int)>=55296)=false:=rfl;simp only[Aq,Ar,g,wr,E,G,H,J,K,L,M,N,O,n,s,X]
  |some x=>
   simp only at A f;rw[A] at n0 n1 P n W;by_cases Y:56320<=x
   ·have s:=dT (q:=x>=56320) Y;have w:=dT (q:=x>=55296) Ω;have U:=dF (q:=x<=56319) Ω;by_cases hA:x<=57343
    ·have X:=dT (q:=x<=57343) hA;have Z:Zn x=true:=by unfold Zn;rw[dT Y,dT hA];rfl
     rw[Bv Z] at f;refine⟨i2,(if T=0 then 2 else T),runesBytes [x],?_,?_,Ti _,i.trans ?_⟩
     ·unfold jes;rw[f];exact W
     ·intro C r' h;rw[f] at h;cases h
     ·simp only[Aq,Ar,g,wr,E,G,H,J,K,L,M,N,O,n,s,X,f2,w,U]
    ·have X:=dF (q:=x<=57343) hA;have Z:Zn x=false:=by unfold Zn;rw[dT Y,dF hA];rfl
     rw[Z,Bd Δ,Bv (.inr Ω)] at f;refine⟨i2,T,runesBytes [x],?_,?_,Ti _,i.trans ?_⟩
     ·unfold jes;rw[f];exact P
     ·intro C r' h;rw[f] at h;cases h;exact TH n0 Ω (.inr Ω)
     ·simp only[Aq,Ar,g,wr,E,G,H,J,K,L,M,N,O,n,s,X,w,U]
   have s:=dF (q:=x>=56320) Y;have Z:Zn x=false:=by unfold Zn;rw[dF Y];rfl
   rw[Z,Bd Δ] at f;by_cases hC:x<55296
   ·have w:=dF (q:=x>=55296) Ω;rw[Bv (.inl hC)] at f;refine⟨i2,T,runesBytes [x],?_,?_,Ti _,i.trans ?_⟩
    ·unfold jes;rw[f];exact P
    ·intro C r' h;rw[f] at h;cases h;exact TH n0 Ω (.inl Ω)
    ·simp only[Aq,Ar,g,wr,E,G,H,J,K,L,M,N,O,n,s,w]
   have w:=dT (q:=x>=55296) Ω;have U:=dT (q:=x<=56319) Ω;rw[Bd Ω] at f;obtain⟨i3,e3,j3,x3⟩:=J9 (u:=u) (d:=d) (p:=p) ht (c:=92) Δ P;obtain⟨i4,e4,j4,x4⟩:=J9 (u:=u) (d:=d) (p:=p) ht (c:=117) Δ j3;obtain⟨m0,m1,i5,e5,j5,x5⟩:=Bbi (u:=u) (d:=d) (p:=p) ht Be j4;have f5:=P3 (u:=u) (d:=d+1) (p:=p) t i5 e5 2;have j5f:=j5.fail (c:=2) Δ;have tw:=A50 (Aui (c:=117) (Aui (c:=92) (.inl ⟨j,rfl⟩)));rw[A62 tw] at j5f
   have A2c:(O6 (117::r)=if 56320<=(XS 4 0 (Wq 117 (Wq 92 (.ok j)))).1/\(XS 4 0 (Wq 117 (Wq 92 (.ok j)))).1<=57343 then (some (65536+(x-55296)*1024+((XS 4 0 (Wq 117 (Wq 92 (.ok j)))).1-56320)),(match (XS 4 0 (Wq 117 (Wq 92 (.ok j)))).2 with | .ok r'=>r' | .error _=>[])) else (none,(O6 (117::r)).2))/\((56320<=(XS 4 0 (Wq 117 (Wq 92 (.ok j)))).1/\(XS 4 0 (Wq 117 (Wq 92 (.ok j)))).1<=57343)->∃r',(XS 4 0 (Wq 117 (Wq 92 (.ok j)))).2=.ok r'):=by
    by_cases m:App j=true
    ·obtain⟨l,rfl⟩:∃l,j=92::117::l:=by
      match j,m with
      |92::117::l,_=>exact⟨l,rfl⟩
     rw[Bv m] at f;have s4:Wq 117 (Wq 92 (.ok (92::117::l)))=.ok l:=rfl
     have Q:Afi x (nb 2 (92::117::l))=match U8 4 0 l with
      |(some y,r)=>if Zn y=true then (some (65536+(x-55296)*1024+(y-56320)),r) else (none,r)
      |(none,r)=>(none,r):=rfl
     rw[Q] at f;rw[s4,Ajb];rcases hq3:U8 4 0 l with⟨o3,r4⟩;rw[hq3] at f;cases o3 with
     |none=>
      simp only at f ⊢;refine⟨?_,λh=>Ω⟩;rw[Bd Ω,f]
     |some y=>
      simp only at f ⊢;refine⟨?_,λ_=>⟨r4,rfl⟩⟩;by_cases hy:56320<=y/\y<=57343
      ·have R:Zn y=true:=by unfold Zn;rw[dT hy.1,dT hy.2];rfl
       rw[Bv hy,f,Bv R]
      ·have R:Zn y=false:=by
        unfold Zn;by_cases q:56320<=y
        ·rw[dF (q:=y<=57343) Ω,Zzt]
        ·rw[dF q,SK]
       rw[Bd hy,f,R,Bd Δ]
    ·rw[Bd m] at f
     have s4:Wq 117 (Wq 92 (.ok j))=.error 2:=by
      match j,m with
      |[],_=>rfl
      |[a],_=>
       unfold Wq;by_cases ha:a=92
       ·subst ha;rfl
       ·have:Ez (.ok [a])=a:=rfl;rw[this,Bd ha];rfl
      |a::b::l,m=>
       by_cases ha:a=92
       ·subst ha;by_cases hb:b=117
        ·subst hb;exact absurd rfl m
        ·show Wq 117 (.ok (b::l))=_;unfold Wq;have:Ez (.ok (b::l))=b:=rfl;rw[this,Bd hb];rfl
       ·have e:Wq 92 (.ok (a::b::l))=.error 2:=by
         unfold Wq;have:Ez (.ok (a::b::l))=a:=rfl;rw[this,Bd ha];rfl
        rw[e];rfl
     rw[s4,A6m];simp only;refine⟨?_,λh=>Ω⟩;rw[Bd Ω,f]
   generalize XS 4 0 (Wq 117 (Wq 92 (.ok j)))=ys at m0 m1 j5 x5 A2c tw;obtain⟨y,s5⟩:=ys;simp only at m0 m1 j5 x5 A2c tw;obtain⟨Fs,Q⟩:=A2c;by_cases hY:56320<=y/\y<=57343
   ·obtain⟨r5,rfl⟩:=Q hY;rw[Bv hY] at Fs;simp only at Fs;have c1:=dF (q:=y<56320) Ω;have c2:=dF (q:=y>57343) Ω;have w1:wrap .i32 (x-55296)=x-55296:=El Ω Ω;have w2:=A3w (x:=x-55296) Ω Ω;have w3:wrap .i32 (65536+(x-55296)*1024)=65536+(x-55296)*1024:=El Ω Ω;have w4:wrap .i32 (y-56320)=y-56320:=El Ω Ω;have w5:wrap .i32 (65536+(x-55296)*1024+(y-56320))=65536+(x-55296)*1024+(y-56320):=El Ω Ω;refine⟨i5,e5,runesBytes [65536+(x-55296)*1024+(y-56320)],?_,?_,Ti _,i.trans ?_⟩
    ·unfold jes;rw[Fs];exact j5
    ·intro C r' h;rw[Fs] at h;cases h;exact TH Ω Ω (.inr Ω)
    ·simp only[Aq,Ar,g,wr,E,G,H,J,K,L,M,N,O,n,s,w,U,x3,x4,x5,c1,c2,w1,w2,w3,w4,w5]
   ·rw[Bd hY] at Fs;refine⟨i5,(if e5=0 then 2 else e5),⟨#[]⟩,?_,?_,Δ,i.trans ?_⟩
    ·unfold jes;rw[Fs];exact j5f
    ·intro C r' h;rw[Fs] at h;cases h
    ·by_cases hz:y<56320
     ·have c1:=dT hz;simp only[Aq,Ar,g,wr,E,G,H,J,K,L,M,N,O,n,s,w,U,x3,x4,x5,c1,f5]
     ·have c1:=dF hz;have c2:=dT (q:=y>57343) Ω;simp only[Aq,Ar,g,wr,E,G,H,J,K,L,M,N,O,n,s,w,U,x3,x4,x5,c1,c2,f5]
end
def jtP(q:PR Ak):Ak × RS:=match q with
 |(some s,r)=>(s,.ok r)
 |(none,_)=>([],.error 2)
def jtx:RS->Ak × RS
 |.ok l=>jtP (D1 l)
 |.error c=>([],.error c)
section
variable {u d:Nat}{p:Option (Ae->Option A3)}
theorem Afb{y0:ByteArray}(a:e≠0)(nn:Nat):D2 u (Ac (CP p) prog u (d+3)) t0 i0 e0 (nn+1) y0 t i e=some ⟨[Bg (Ab [])],[jC t i e]⟩:=by
 have z:(e==0)=false:=by simp[a]
 rw[Hg];simp only[Aq,Ar,z];rfl
theorem GW{t:ByteArray}(ht:t.size<=1000000)(Be:5<=u){t0:ByteArray}{i0 e0:Int}:∀(n nn:Nat)(f r:Ak),r.length<n->n<=nn->D5 t r->f.length+4*r.length<=4*t.size ->
    ∃w y,JS t w y (jtP (Kj n f r)).2/\D2 u (Ac (CP p) prog u (d+3)) t0 i0 e0 nn (Ab f) t (Bp t r) 0=some ⟨[Bg (Ab (jtP (Kj n f r)).1)],[jC t w y]⟩
  |0,nn,f,r,h,_,_,_=>Ω
  |n+1,nn,f,[],h,Es,g,S=>by
    obtain⟨m,rfl⟩:∃m,nn=m+1:=⟨nn-1,Ω⟩
    have K:JS t (Bp t []) 0 (.ok []):=⟨rfl,g,rfl⟩
    have A:=K.fail (c:=2) Δ
    rw[Bv rfl] at A
    have fl:=P3 (u:=u) (d:=d+2) (p:=p) t (Bp t []) 0 2
    rw[Bv rfl] at fl
    have z:((0:Int)==0)=true:=rfl
    have a:decide ((Bp t []:Int)>=(t.size:Int))=true:=dT (by rw[Si];omega)
    refine⟨Bp t [],2,A,?_⟩
    rw[Hg]
    simp only[Aq,Ar,z,a,fl]
    rfl
  |n+1,nn,f,c::r,h,Es,g,S=>by
    obtain⟨m,rfl⟩:∃m,nn=m+1:=⟨nn-1,Ω⟩
    have V:r.length+1<n+1:=by simpa using h
    have W:f.length+4*(r.length+1)<=4*t.size:=by simpa using S
    have X:=g.len
    have hp:Bp t (c::r)<t.size:=by
      unfold Bp
      rw[M9] at X ⊢
      omega
    have K:JS t (Bp t (c::r)) 0 (.ok (c::r)):=⟨rfl,g,rfl⟩
    have A:=K.fail (c:=2) Δ
    rw[Bv rfl] at A
    have fl:=P3 (u:=u) (d:=d+2) (p:=p) t (Bp t (c::r)) 0 2
    rw[Bv rfl] at fl
    have hs:=Kl g
    have wr:wrap .i64 ((Bp t (c::r):Int)+1)=(Bp t r:Int):=Bc
    have L:JS t (Bp t r) 0 (.ok r):=⟨rfl,g.tail,rfl⟩
    have z:((0:Int)==0)=true:=rfl
    have KU:=g.B c Ψ
    obtain⟨b,s,j⟩:=g.at
    rw[<-Hy (Bp t (c::r))] at s
    have a:decide ((Bp t (c::r):Int)>=(t.size:Int))=false:=dF Ω
    have B:decide ((0:Int)<=(Bp t (c::r):Int))=true:=Ψ
    have M:Kj (n+1) f (c::r)=if c<32 then (none,c::r) else if c=34 then (some f,r) else if c=92 then
      (match O6 r with
       |(some x,r')=>Kj n (f++b6 x) r'
       |(none,r')=>(none,r')) else Kj n (f++[c]) r:=rfl
    rw[M,Hg]
    by_cases H:c<32
    · rw[Bv H]
      have v:=dT H
      refine⟨Bp t (c::r),2,A,?_⟩
      simp only[Aq,Ar,z,a,B,s,j,v,fl]
      rfl
    have v:=dF H
    rw[Bd H]
    by_cases N:c=34
    · subst N
      have C:((34:Int)==34)=true:=rfl
      rw[Bv rfl]
      refine⟨Bp t r,0,L,?_⟩
      simp only[Aq,Ar,z,a,B,s,j,v,wr,C]
      rfl
    have C:(c==34)=false:=by simp[N]
    rw[Bd N]
    by_cases O:c=92
    · subst O
      have J:((92:Int)==92)=true:=rfl
      rw[Bv rfl]
      obtain⟨w,y,o,D,Y,j3,T⟩:=A3g (u:=u) (d:=d) (p:=p) ht Be g.tail
      have E:=Alu (l:=r) g.tail.B
      have FZ:=BU g.tail
      have c1:decide ((Ab f).size+o.size<=9223372036854775807)=true:=dT (by rw[Ai];omega)
      unfold jes at D
      rcases U:O6 r with⟨q,r'⟩
      rw[U] at D E FZ
      simp only at E FZ
      cases q with
      |none=>
        have P:=D
        obtain⟨Z,G,_,_⟩:=P
        obtain⟨k,rfl⟩:∃k,m=k+1:=⟨m-1,Ω⟩
        have st:=Afb (u:=u) (d:=d) (p:=p) (t:=t) (t0:=t0) (y0:=Ab f++o) (i0:=i0) (e0:=e0) (i:=w) (e:=y) (by rw[Z];exact G) k
        refine⟨w,y,D,?_⟩
        simp only[Aq,Ar,z,a,B,s,j,v,wr,C,J,T,c1]
        exact st
      |some x=>
        obtain rfl:=Y x r' U
        obtain⟨rfl,_,rfl⟩:=D
        have hx4:=(Lib.encodeRuneZ_length x).2
        obtain⟨i2,G,Q,R⟩:=GW ht Be (t0:=t0) (i0:=i0) (e0:=e0) n m (f++b6 x) r' Ω Ω FZ (by rw[Ru];omega)
        refine⟨i2,G,Q,?_⟩
        simp only[Aq,Ar,z,a,B,s,j,v,wr,C,J,T,c1,Lm]
        exact R
    · have J:(c==92)=false:=by simp[O]
      rw[Bd O]
      have O3:ByteArray.mk (bc [nj (wj c)])=Ab [c]:=rfl
      have c1:decide (f.length+[c].length<=9223372036854775807)=true:=dT (by simp;omega)
      obtain⟨i2,G,Q,R⟩:=GW ht Be (t0:=t0) (i0:=i0) (e0:=e0) n m (f++[c]) r Ω Ω g.tail (by simp;omega)
      refine⟨i2,G,Q,?_⟩
      simp only[Aq,Ar,z,a,B,s,j,v,wr,C,J,O3,Ai,c1,Lm]
      exact R
theorem Arp(ht:t.size<=1000000)(Be:5<=u)(w:t.size+2<=u)(h:JS t i e s):∃b g,JS t b g (jtx s).2/\Ac (CP p) prog u (d+4) 161 [.pbox (jC t i e)]=some ⟨[Bg (Ab (jtx s).1)],[jC t b g]⟩:=by
 have o:=Zo (p:=p) u (d+3) t i e;obtain⟨i1,q,j,x1⟩:=J9 (u:=u) (d:=d+1) (p:=p) ht (c:=34) Δ h;obtain⟨f,x⟩:∃f,u=f+1:=⟨u-1,Ω⟩
 have stop:∀c,Wq 34 s=.error c->jtx s=([],.error c)->∃b g,JS t b g (jtx s).2/\Ac (CP p) prog u (d+4) 161 [.pbox (jC t i e)]=some ⟨[Bg (Ab (jtx s).1)],[jC t b g]⟩:=by
  intro c y z;rw[y] at j;have k:=j;obtain⟨A,B,_,_⟩:=k;have st:=Afb (u:=u) (d:=d) (p:=p) (t:=t) (t0:=t) (y0:=Ab []) (i0:=i) (e0:=e) (i:=i1) (e:=q) (by rw[A];exact B) f
  rw[<-x] at st;rw[z];refine⟨i1,q,j,o.trans ?_⟩;simp only[Aq,Ar,x1];exact st
 cases s with
 |error c=>exact stop c (by unfold Wq;split<;>rfl) rfl
 |ok l=>
  cases l with
  |nil=>exact stop 2 rfl rfl
  |cons a r=>
   by_cases m:a=34
   ·subst m;have n:Wq 34 (.ok (34::r))=.ok r:=rfl;rw[n] at j;obtain⟨rfl,v,rfl⟩:=j;have H:=v.len;have C:D1 (34::r)=Kj (r.length+1) [] r:=rfl;obtain⟨i2,n,D,E⟩:=GW (u:=u) (d:=d) (p:=p) ht Be (t0:=t) (i0:=i) (e0:=e) (r.length+1) u [] r Ω Ω v (by simp;omega)
    have G:jtx (.ok (34::r))=jtP (Kj (r.length+1) [] r):=by
     show jtP (D1 (34::r))=_;rw[C]
    rw[G];refine⟨i2,n,D,o.trans ?_⟩;simp only[Aq,Ar,x1];exact E
   ·exact stop 2 (by
     unfold Wq;have:Ez (.ok (a::r))=a:=rfl;rw[this,Bd m];rfl) (by
     have:D1 (a::r)=if a=34 then Kj (r.length+1) [] r else (none,a::r):=rfl
     show jtP (D1 (a::r))=_;rw[this,Bd m];rfl)
end
def A2b(s:RS):RS:=if Ez s=45 then Fg s else s
def Aqn(s:RS):RS:=if Ez s=48 then Fg s else jdg s
def VZ(s:RS):RS:=if Ez s=46 then jdg (Fg s) else s
def jpm(s:RS):RS:=if Ez s=43\/Ez s=45 then Fg s else s
def Se(s:RS):RS:=if Ez s=101\/Ez s=69 then jdg (jpm (Fg s)) else s
def A57(s:RS):RS:=Se (VZ (Aqn (A2b s)))
section
variable {u d:Nat}{p:Option (Ae->Option A3)}
theorem MB{b:Int}(h:a=b)(c:b≠0):a≠0:=by rw[h];exact c
theorem Bam(ht:t.size<=1000000)(Be:t.size+1<=u){b:Int}(h:JS t i e s):∃i' e',JS t i' e' (Se s)/\Fm u (Ac (CP p) prog u (d+2)) t0 a b u t i e=some ⟨[],[jC t i' e']⟩:=by
 have c:=Tg u (Ac (CP p) prog u (d+2)) t0 a b u Ω t i e;have v:Ac (CP p) prog u (d+2) 160 [.pbox (jC t (i) (e))]=_:=Hh (u:=u) (d:=d+1) (p:=p) h;by_cases c2:Ez (s)=101
 ·rw[show Se (s)=jdg (jpm (Fg (s))) from Bv (.inl c2)];have z3:(Ez (s)==(101:Int))=true:=by simp[c2]
  obtain⟨r,w5⟩:=h.adv ht (MB c2 Δ);simp only[Aq,Ar,v,z3,w5] at c;have w:Ac (CP p) prog u (d+2) 160 [.pbox (jC t (i+1) (e))]=_:=Hh (u:=u) (d:=d+1) (p:=p) r;by_cases c7:Ez (Fg (s))=43
  ·rw[show jpm (Fg (s))=Fg (Fg (s)) from Bv (.inl c7)];have z8:(Ez (Fg (s))==(43:Int))=true:=by simp[c7]
   obtain⟨h9,x⟩:=r.adv ht (MB c7 Δ);obtain⟨i11,e12,y,z⟩:=Ps (u:=u) (d:=d) (p:=p) ht Be h9;simp only[Aq,Ar,w,z8,x,z] at c;exact⟨_,_,y,c⟩
  have n:(Ez (Fg (s))==(43:Int))=false:=by simp[c7]
  by_cases f:Ez (Fg (s))=45
  ·rw[show jpm (Fg (s))=Fg (Fg (s)) from Bv (.inr f)];have A:(Ez (Fg (s))==(45:Int))=true:=by simp[f]
   obtain⟨B,C⟩:=r.adv ht (MB f Δ);obtain⟨i20,e21,D,E⟩:=Ps (u:=u) (d:=d) (p:=p) ht Be B;simp only[Aq,Ar,w,n,A,C,E] at c;exact⟨_,_,D,c⟩
  ·rw[show jpm (Fg (s))=Fg (s) from Bd (λh=>h.elim c7 f)];have G:(Ez (Fg (s))==(45:Int))=false:=by simp[f]
   obtain⟨i25,e26,H,J⟩:=Ps (u:=u) (d:=d) (p:=p) ht Be r;simp only[Aq,Ar,w,n,G,J] at c;exact⟨_,_,H,c⟩
 have o:(Ez (s)==(101:Int))=false:=by simp[c2]
 by_cases g:Ez (s)=69
 ·rw[show Se (s)=jdg (jpm (Fg (s))) from Bv (.inr g)];have K:(Ez (s)==(69:Int))=true:=by simp[g]
  obtain⟨l,L⟩:=h.adv ht (MB g Δ);simp only[Aq,Ar,v,o,K,L] at c;have m:Ac (CP p) prog u (d+2) 160 [.pbox (jC t (i+1) (e))]=_:=Hh (u:=u) (d:=d+1) (p:=p) l;by_cases j:Ez (Fg (s))=43
  ·rw[show jpm (Fg (s))=Fg (Fg (s)) from Bv (.inl j)];have M:(Ez (Fg (s))==(43:Int))=true:=by simp[j]
   obtain⟨N,O⟩:=l.adv ht (MB j Δ);obtain⟨i39,e40,P,Q⟩:=Ps (u:=u) (d:=d) (p:=p) ht Be N;simp only[Aq,Ar,m,M,O,Q] at c;exact⟨_,_,P,c⟩
  have q:(Ez (Fg (s))==(43:Int))=false:=by simp[j]
  by_cases k:Ez (Fg (s))=45
  ·rw[show jpm (Fg (s))=Fg (Fg (s)) from Bv (.inr k)];have R:(Ez (Fg (s))==(45:Int))=true:=by simp[k]
   obtain⟨S,T⟩:=l.adv ht (MB k Δ);obtain⟨i48,e49,U,V⟩:=Ps (u:=u) (d:=d) (p:=p) ht Be S;simp only[Aq,Ar,m,q,R,T,V] at c;exact⟨_,_,U,c⟩
  ·rw[show jpm (Fg (s))=Fg (s) from Bd (λh=>h.elim j k)];have W:(Ez (Fg (s))==(45:Int))=false:=by simp[k]
   obtain⟨i53,e54,X,Y⟩:=Ps (u:=u) (d:=d) (p:=p) ht Be l;simp only[Aq,Ar,m,q,W,Y] at c;exact⟨_,_,X,c⟩
 ·rw[show Se (s)=s from Bd (λh=>h.elim c2 g)];have Z:(Ez (s)==(69:Int))=false:=by simp[g]
  simp only[Aq,Ar,v,o,Z] at c;exact⟨_,_,h,c⟩
theorem Asm(ht:t.size<=1000000)(Be:t.size+1<=u){b:Int}(h:JS t i e s):∃g j,JS t g j (Se (VZ s))/\Dn u (Ac (CP p) prog u (d+2)) t0 a b u t i e=some ⟨[],[jC t g j]⟩:=by
 have c:=Sl u (Ac (CP p) prog u (d+2)) t0 a b u Ω t i e;have k:Ac (CP p) prog u (d+2) 160 [.pbox (jC t (i) (e))]=_:=Hh (u:=u) (d:=d+1) (p:=p) h;by_cases c2:Ez (s)=46
 ·rw[show VZ (s)=jdg (Fg (s)) from Bv c2];have l:(Ez (s)==(46:Int))=true:=by simp[c2]
  obtain⟨m,n⟩:=h.adv ht (MB c2 Δ);obtain⟨i6,r,o,q⟩:=Ps (u:=u) (d:=d) (p:=p) ht Be m;simp only[Aq,Ar,k,l,n,q] at c;rw[c];exact Bam ht Be o
 ·rw[show VZ (s)=s from Bd c2];have f:(Ez (s)==(46:Int))=false:=by simp[c2]
  simp only[Aq,Ar,k,f] at c;rw[c];exact Bam ht Be h
theorem Az9(ht:t.size<=1000000)(Be:t.size+1<=u)(h:JS t i e s):∃x y,JS t x y (A57 s)/\Ac (CP p) prog u (d+3) 179 [.pbox (jC t i e)]=some ⟨[],[jC t x y]⟩:=by
 have b:Ac (CP p) prog u (d+3) 179 [.pbox (jC t i e)]=_:=Vq (p:=p) u (d+2) t i e;unfold A57;have z:Ac (CP p) prog u (d+2) 160 [.pbox (jC t (i) (e))]=_:=Hh (u:=u) (d:=d+1) (p:=p) h;by_cases c2:Ez (s)=45
 ·rw[show A2b (s)=Fg (s) from Bv c2];have B:(Ez (s)==(45:Int))=true:=by simp[c2]
  obtain⟨f,C⟩:=h.adv ht (MB c2 Δ);simp only[Aq,Ar,z,B,C] at b;have A:Ac (CP p) prog u (d+2) 160 [.pbox (jC t (i+1) (e))]=_:=Hh (u:=u) (d:=d+1) (p:=p) f;by_cases c7:Ez (Fg (s))=48
  ·rw[show Aqn (Fg (s))=Fg (Fg (s)) from Bv c7];have D:(Ez (Fg (s))==(48:Int))=true:=by simp[c7]
   obtain⟨E,g⟩:=f.adv ht (MB c7 Δ);simp only[Aq,Ar,A,D,g] at b;rw[b];exact Asm ht Be E
  ·rw[show Aqn (Fg (s))=jdg (Fg (s)) from Bd c7];have j:(Ez (Fg (s))==(48:Int))=false:=by simp[c7]
   obtain⟨G,H,k,l⟩:=Ps (u:=u) (d:=d) (p:=p) ht Be f;simp only[Aq,Ar,A,j,l] at b;rw[b];exact Asm ht Be k
 ·rw[show A2b (s)=s from Bd c2];have m:(Ez (s)==(45:Int))=false:=by simp[c2]
  simp only[Aq,Ar,z,m] at b;have c:Ac (CP p) prog u (d+2) 160 [.pbox (jC t (i) (e))]=_:=Hh (u:=u) (d:=d+1) (p:=p) h;by_cases a:Ez (s)=48
  ·rw[show Aqn (s)=Fg (s) from Bv a];have n:(Ez (s)==(48:Int))=true:=by simp[a]
   obtain⟨o,q⟩:=h.adv ht (MB a Δ);simp only[Aq,Ar,c,n,q] at b;rw[b];exact Asm ht Be o
  ·rw[show Aqn (s)=jdg (s) from Bd a];have r:(Ez (s)==(48:Int))=false:=by simp[a]
   obtain⟨J,K,v,w⟩:=Ps (u:=u) (d:=d) (p:=p) ht Be h;simp only[Aq,Ar,c,r,w] at b;rw[b];exact Asm ht Be v
end
def ro:Option Ak->RS
 |some r=>.ok r
 |none=>.error 2
def ET{α:Type}:JR (α × Ak)->RS
 |.ok (_,r)=>.ok r
 |.error c=>.error c
theorem Ah7{α:Type}(b:c≠0)(l:Ak)(A:RS->α)(B:α):(if Ez (.ok l)=c then A (Fg (.ok l)) else B)=(match Az [c] l with|some r=>A (.ok r)|none=>B):=by
 cases l with
 |nil=>
  have:Ez (.ok [])=0:=rfl;rw[this,Bd (Ne.symm b),Di]
 |cons a r=>
  have:Ez (.ok (a::r))=a:=rfl;rw[this,Di];simp only;by_cases h:a=c
  ·rw[Bv h,Bv h];rfl
  ·rw[Bd h,Bd h]
theorem IG(a:c≠0)(l:Ak):Wq c (.ok l)=ro (Az [c] l):=by have:=Ah7 a l (λs=>s) (jfl 2 (.ok l));unfold Wq;rw[this];cases Az [c] l<;>rfl
theorem Y3(a:c≠0)(k:Int):Wq c (.error k)=.error k:=by unfold Wq;have:Ez (.error k:RS)=0:=rfl;rw[this,Bd (Ne.symm a)];rfl
theorem Acf(l:Ak):jdg (.ok l)=ro (Ka l):=by
 cases l with
 |nil=>rfl
 |cons a r=>
  unfold jdg;have b:Wa (Ez (.ok (a::r)))=YN a:=rfl;have c:Ka (a::r)=if YN a=true then some (Ib r) else none:=rfl
  have d:jdr (.ok (a::r))=.ok (Ib (a::r)):=rfl;have e:Ib (a::r)=if YN a=true then Ib r else a::r:=rfl
  rw[b,c,d,e];by_cases h:YN a=true
  ·rw[Bv h,Bv h,Bv h];rfl
  ·rw[Bd h,Bd h];rfl
theorem A3q(r:Ak):jdg (jpm (.ok r))=ro (UQ r):=by
 unfold UQ;cases r with
 |nil=>rfl
 |cons a r=>
  unfold jpm;have c:Ez (.ok (a::r))=a:=rfl;rw[c,Di,Di];simp only;by_cases h:a=43
  ·rw[Bv (.inl h),Bv h];exact Acf r
  ·by_cases b:a=45
   ·rw[Bv (.inr b),Bd h,Bv b];exact Acf r
   ·rw[Bd (λq=>q.elim h b),Bd h,Bd b];exact Acf (a::r)
theorem Al4(l:Ak):Se (.ok l)=ro (UJ l):=by
 rw[UL];cases l with
 |nil=>rfl
 |cons a r=>
  unfold Se;have c:Ez (.ok (a::r))=a:=rfl;rw[c,Di,Di];simp only;by_cases h:a=101
  ·rw[Bv (.inl h),Bv h];exact A3q r
  ·by_cases b:a=69
   ·rw[Bv (.inr b),Bd h,Bv b];exact A3q r
   ·rw[Bd (λq=>q.elim h b),Bd h,Bd b];rfl
theorem Azz(o:Option Ak):Se (ro o)=ro (o.bind UJ):=by
 cases o with
 |none=>rfl
 |some r=>exact Al4 r
theorem A3c(l:Ak):Se (VZ (.ok l))=ro (RN l):=by
 have:=Ah7 (c:=46) Δ l (λs=>Se (jdg s)) (Se (.ok l))
 have e:Se (VZ (.ok l))=if Ez (.ok l)=46 then Se (jdg (Fg (.ok l))) else Se (.ok l):=by
  unfold VZ;split<;>rfl
 rw[e,this,NP];cases Az [46] l with
 |some r=>
  show Se (jdg (.ok r))=_;rw[Acf,Azz]
 |none=>exact Al4 l
theorem A39(o:Option Ak):Se (VZ (ro o))=ro (o.bind RN):=by
 cases o with
 |none=>rfl
 |some r=>exact A3c r
theorem A5p(l:Ak):Aqn (.ok l)=ro (Au7 l):=by
 have:=Ah7 (c:=48) Δ l (λs=>s) (jdg (.ok l));unfold Aqn;rw[this,JM];cases Az [48] l with
 |some r=>rfl
 |none=>exact Acf l
theorem A9d(l:Ak):A57 (.ok l)=ro (FP l):=by
 have e:A2b (.ok l)=.ok (Aka 45 l):=by
  have:=Ah7 (c:=45) Δ l (λs=>s) (.ok l:RS);unfold A2b;rw[this,AC];cases Az [45] l<;>rfl
 unfold A57;rw[e,A5p,A39];rfl
theorem Ahm(k:Int):∀(w:Ak),(∀c∈w,c≠0)->jwd w (.error k)=.error k
 |[],_=>rfl
 |c::w,h=>by
  show jwd w (Wq c (.error k))=_;rw[Y3 (h c Ψ),Ahm k w (λx a=>h x (by simp[a]))]
theorem Ai7:∀(w l:Ak),(∀c∈w,c≠0)->jwd w (.ok l)=ro (Az w l)
 |[],l,_=>rfl
 |c::w,l,h=>by
  show jwd w (Wq c (.ok l))=_;rw[IG (h c Ψ),Di];cases l with
  |nil=>
   show jwd w (.error 2)=_;rw[Ahm 2 w (λx b=>h x (by simp[b]))];rfl
  |cons a l=>
   simp only;by_cases d:a=c
   ·subst d;rw[Bv rfl];show jwd w (.ok l)=_;rw[Ai7 w l (λx b=>h x (by simp[b]))];unfold Az;simp
   ·rw[Bd d];show jwd w (.error 2)=_;rw[Ahm 2 w (λx b=>h x (by simp[b]))];unfold Az;have e:c≠a:=Ne.symm d;simp[e];rfl
theorem A2d(l:Ak):(jtx (.ok l)).2=(match D1 l with|(some _,r)=>.ok r|(none,_)=>.error 2):=by have e:jtx (.ok l)=jtP (D1 l):=rfl;rw[e];rcases D1 l with⟨o,r⟩;cases o<;>rfl
def kdR(v:JV):Int:=if v.1=4 then 1 else if v.1=2 then (if v.2.2=true then 2 else 3) else 0
def txR(v:JV):Ak:=if v.1=4 then v.2.1 else []
def jv(V:Ak->JR (JV × Ak)):RS->RS
 |.ok l=>ET (V l)
 |.error c=>.error c
def Ap8(t:ByteArray)(V:Ak->JR (JV × Ak))(s:RS)(q:Option A3):Prop:=
 ∃i e a b,JS t i e (jv V s)/\(∀l v r,s=.ok l->V l=.ok (v,r)->a=kdR v/\b=Ab (txR v))/\q=some ⟨[Av a,Bg b],[jC t i e]⟩
section
variable {u d:Nat}{p:Option (Ae->Option A3)}
theorem At5(c:Int):SP (.error c)=.error c:=rfl
set_option maxHeartbeats 2000000 in
theorem Apn(ht:t.size<=1000000)(Be:t.size+5<=u)(Q:0<=D)(R:D<=100)(V:Ak->JR (JV × Ak))(HV:∀i e s,JS t i e s->Ap8 t V s (Ac (CP p) prog u (d+4) 163 [.pbox (jC t i e),Av (D+1)]))(HL:∀l v r,Ch l->l.length<=1000000->V l=.ok (v,r)->r.length<=l.length){D0:Int}:∀(n nn:Nat) (l0:Ak),(Aw l0).length<n->n+1<=nn->D5 t l0 ->
   ∃x y,JS t x y (Aag V n (Aw l0))/\Ci u (Ac (CP p) prog u (d+4)) t0 i0 e0 b0 D0 nn false D 93 t (Bp t l0) 0=some ⟨[],[jC t x y]⟩:=by
 intro n
 induction n with
 |zero=>intro nn l0 h;omega
 |succ n S=>
  intro nn l0 Ev Es J;obtain⟨m,rfl⟩:∃m,nn=m+1:=⟨nn-1,Ω⟩
  have T:JS t (Bp t l0) 0 (.ok l0):=⟨rfl,J,rfl⟩
  obtain⟨i1,U,x1⟩:=Ih (u:=u) (d:=d+2) (p:=p) ht Ω T;obtain⟨i2,K,kd,tx,A,_,L⟩:=HV i1 0 _ U;obtain⟨i3,j,M⟩:=Ih (u:=u) (d:=d+2) (p:=p) ht Ω A;have o:=Hh (u:=u) (d:=d+3) (p:=p) j;have N:((0:Int)==0)=true:=rfl;have wD:wrap .i64 (D+1)=D+1:=Ba;rw[Alf,Ea]
  have k:Ez (SP (jv V (SP (.ok l0))))≠44->∀X:RS,Wq 93 (SP (jv V (SP (.ok l0))))=X->∃x y,JS t x y X/\(Ci u (Ac (CP p) prog u (d+4)) t0 i0 e0 b0 D0 (m+1) false D 93 t (Bp t l0) 0)=some ⟨[],[jC t x y]⟩:=by
   intro B X W;obtain⟨i4,Y,O,Z⟩:=J9 (u:=u) (d:=d+2) (p:=p) ht (c:=93) Δ j;rw[W] at O;refine⟨i4,Y,O,?_⟩;have C:(Ez (SP (jv V (SP (.ok l0)))) != 44)=true:=by simp[B]
   rw[Ea];simp only[Aq,Ar,N,x1,wD,L,M,o,C,Z]
  rw[Ea] at k;have hl:SP (.ok l0)=.ok (Aw l0):=rfl;rw[hl] at k A j o;have z:=Cd J;cases E:V (Aw l0) with
  |error c=>
   have G:jv V (.ok (Aw l0))=.error c:=by show ET (V (Aw l0))=_;rw[E];rfl
   rw[G] at k;exact k (by show (0:Int)≠44;decide) _ (Y3 Δ c)
  |ok q=>
   obtain⟨v,r⟩:=q;have G:jv V (.ok (Aw l0))=.ok r:=by show ET (V (Aw l0))=_;rw[E];rfl
   rw[G] at k A j o;have hrl:=HL _ _ _ z.B (by have:=z.len;omega) E
   have hr:D5 t r:=A.2.1;have K:SP (.ok r)=.ok (Aw r):=rfl;rw[K] at k j o;simp only;cases f:Az [44] (Aw r) with
   |none=>
    have B:Ez (.ok (Aw r))≠44:=by
     intro w;rw[Di] at f;cases g:Aw r with
     |nil=>rw[g] at w;cases w
     |cons a b=>
      rw[g] at w f;have w:a=44:=w;simp only at f;rw[Bv w] at f;cases f
    refine k B _ ?_;rw[IG Δ];cases Az [93] (Aw r)<;>rfl
   |some r'=>
    have g:Aw r=44::r':=by
     rw[Di] at f;cases g:Aw r with
     |nil=>rw[g] at f;cases f
     |cons a b=>
      rw[g] at f;simp only at f;split at f
      ·rename_i ha;cases f;rw[ha]
      ·cases f
    have H:Az [93] (Aw r)=none:=by rw[g,Di];rfl
    rw[H];simp only;rw[g] at j o;obtain⟨ja,wa⟩:=j.adv ht (by show (44:Int)≠0;decide)
    obtain⟨je,js,jp⟩:=ja
    have hlr:r'.length+1<=(Aw l0).length:=by
     have h1:=Hr r;rw[g,M9] at h1;omega
    have Uk:=Hr r';obtain⟨i5,e5,j5,P⟩:=S m r' Ω Ω js;refine⟨i5,e5,j5,?_⟩;have C:(Ez (.ok (44::r')) != 44)=false:=rfl;subst je;rw[<-jp] at P;simp only[Aq,Ar,N,x1,wD,L,M,o,C,wa];exact P
end
theorem R6:∀l:Ak,Aw (Aw l)=Aw l
 |[]=>rfl
 |c::l=>by
  have e:Aw (c::l)=if Ri c=true then Aw l else c::l:=rfl
  by_cases h:Ri c=true
  ·rw[e,Bv h];exact R6 l
  ·rw[e,Bd h,e,Bd h]
theorem Aoa{s:Ak}{o:Option Ak}(a:Ch l)(h:D1 l=(o,r)):r.length<=l.length:=by have:=H8 (D5.self a);rw[h] at this;exact D5.le this
def jmb(V:Ak->JR (JV × Ak))(s:RS):RS:=SP (jv V (SP (Wq 58 (SP s))))
theorem Ah2(V:Ak->JR (JV × Ak))(c:Int):jmb V (.error c)=.error c:=by unfold jmb;rw[At5,Y3 Δ,At5];rfl
theorem A3r(V:Ak->JR (JV × Ak))(HL:∀l v r,Ch l->l.length<=1000000->V l=.ok (v,r)->r.length<=l.length)(e:Ch r)(f:r.length<=1000000):
  (∃c,jmb V (.ok r)=.error c/\(match Az [58] (Aw r) with|none=>(.error 2:JR (JV × Ak))|some a=>V (Aw a))=.error c) \/
  (∃v b,jmb V (.ok r)=.ok (Aw b)/\b.length<=r.length/\(match Az [58] (Aw r) with|none=>(.error 2:JR (JV × Ak))|some a=>V (Aw a))=.ok (v,b)):=by
 unfold jmb;have g:SP (.ok r)=.ok (Aw r):=rfl;rw[g,IG Δ];cases d:Az [58] (Aw r) with
 |none=>exact .inl ⟨2,rfl,rfl⟩
 |some a=>
  have h:SP (ro (some a))=.ok (Aw a):=rfl;have i:jv V (.ok (Aw a))=ET (V (Aw a)):=rfl;have m:=QI d;have n:=Hr r;have o:=Hr a;have j:Ch (Aw a):=(Cd (B3 (Cd (D5.self e)) d)).B;rw[h,i];simp only;cases k:V (Aw a) with
  |error c=>exact .inl ⟨c,rfl,rfl⟩
  |ok q=>
   obtain⟨v,b⟩:=q;have:=HL _ _ _ j Ω k;exact .inr ⟨v,b,rfl,Ω,rfl⟩
theorem A10{V:Ak->JR (JV × Ak)}{kp:Bool}(h:D1 l=(some nm,r))(hd:(kp&&ms.any λm=>m.1==nm)=false):
  Ra V kp (n+1) ms l=match (match Az [58] (Aw r) with|none=>(.error 2:JR (JV × Ak))|some d=>V (Aw d)) with
   |.error c=>.error c
   |.ok (v,b)=>match Az [125] (Aw b) with
    |some a=>.ok (ms++[(nm,v)],a)
    |none=>match Az [44] (Aw b) with
     |some a=>Ra V kp n (ms++[(nm,v)]) (Aw a)
     |none=>.error 2:=by
 rw[Lu,h];simp only;rw[hd,Bd Δ];cases Az [58] (Aw r)<;>rfl
theorem Ba2(h:Az [44] l=none):Ez (.ok l)≠44:=by
 intro c;rw[Di] at h;cases l with
 |nil=>cases c
 |cons a b=>
  have c:a=44:=c;simp only at h;rw[Bv c] at h;cases h
theorem A1m(h:Az [c] l=some r):l=c::r:=by
 rw[Di] at h;cases l with
 |nil=>cases h
 |cons a b=>
  simp only at h;split at h
  ·rename_i d;cases h;rw[d]
  ·cases h
section
variable {u d:Nat}{p:Option (Ae->Option A3)}
set_option maxHeartbeats 4000000 in
theorem Aps(ht:t.size<=1000000)(Be:t.size+5<=u)(Y:0<=D)(Z:D<=100)(V:Ak->JR (JV × Ak))(HV:∀i e s,JS t i e s->Ap8 t V s (Ac (CP p) prog u (d+4) 163 [.pbox (jC t i e),Av (D+1)]))(HL:∀l v r,Ch l->l.length<=1000000->V l=.ok (v,r)->r.length<=l.length){D0:Int}:∀(n nn:Nat) (ms:List (Ak × JV)) (l0:Ak),(Aw l0).length<n->n+1<=nn->D5 t l0 ->
   ∃f g,JS t f g (ET (Ra V false n ms (Aw l0)))/\Ci u (Ac (CP p) prog u (d+4)) t0 i0 e0 b0 D0 nn true D 125 t (Bp t l0) 0=some ⟨[],[jC t f g]⟩:=by
 intro n
 induction n with
 |zero=>intro nn ms l0 h;omega
 |succ n ih=>
  intro nn ms l0 Ev Es H;obtain⟨m,rfl⟩:∃m,nn=m+1:=⟨nn-1,Ω⟩
  have h0:JS t (Bp t l0) 0 (.ok l0):=⟨rfl,H,rfl⟩
  have j:=Cd H;obtain⟨i1,J,x1⟩:=Ih (u:=u) (d:=d+2) (p:=p) ht Ω h0;have hl:SP (.ok l0)=.ok (Aw l0):=rfl;rw[hl] at J;obtain⟨i2,K,j2,L⟩:=Arp (u:=u) (d:=d) (p:=p) ht Ω Ω J;obtain⟨i3,j3,M⟩:=Ih (u:=u) (d:=d+2) (p:=p) ht Ω j2;obtain⟨i4,e4,j4,N⟩:=J9 (u:=u) (d:=d+2) (p:=p) ht (c:=58) Δ j3;obtain⟨i5,j5,O⟩:=Ih (u:=u) (d:=d+2) (p:=p) ht Ω j4;obtain⟨i6,A,kd,tx,j6,_,P⟩:=HV i5 e4 _ j5;obtain⟨B,a,Q⟩:=Ih (u:=u) (d:=d+2) (p:=p) ht Ω j6;have a:JS t B A (jmb V (jtx (.ok (Aw l0))).2):=a;have k:Ac (CP p) prog u (d+4) 160 [.pbox (jC t B A)]=some ⟨[.sc (.int .u8 (Ez (jmb V (jtx (.ok (Aw l0))).2)))],[jC t B A]⟩:=Hh (u:=u) (d:=d+3) (p:=p) a;have R:((0:Int)==0)=true:=rfl;have wD:wrap .i64 (D+1)=D+1:=Ba
  have b:Ez (jmb V (jtx (.ok (Aw l0))).2)≠44->∀X:RS,Wq 125 (jmb V (jtx (.ok (Aw l0))).2)=X->∃f g,JS t f g X/\(Ci u (Ac (CP p) prog u (d+4)) t0 i0 e0 b0 D0 (m+1) true D 125 t (Bp t l0) 0)=some ⟨[],[jC t f g]⟩:=by
   intro F4 X hX;obtain⟨i8,e8,S,x8⟩:=J9 (u:=u) (d:=d+2) (p:=p) ht (c:=125) Δ a;rw[hX] at S;refine⟨i8,e8,S,?_⟩;have C:(Ez (jmb V (jtx (.ok (Aw l0))).2) != 44)=true:=by simp[F4]
   rw[Ea];simp only[Aq,Ar,R,x1,L,M,N,O,wD,P,Q,k,C,x8]
  have q:=A2d (Aw l0);rcases w:D1 (Aw l0) with⟨o,r⟩;rw[w] at q;cases o with
  |none=>
   simp only at q;rw[q,Ah2] at b;have K:Ra V false (n+1) ms (Aw l0)=.error 2:=by rw[Lu,w]
   rw[K];exact b (by show (0:Int)≠44;decide) _ (Y3 Δ 2)
  |some nm=>
   simp only at q
   have x:D5 t r:=by
    have:=H8 j;rw[w] at this;exact this
   have hrl:=Aoa (s:=[]) j.B w;have T:=A10 (V:=V) (n:=n) (kp:=false) (ms:=ms) w rfl;rw[q] at b a k;rcases A3r V HL x.B (by have:=x.len;omega) with⟨c,E,U⟩|⟨v,z,E,U,g3⟩
   ·rw[T,U];rw[E] at b;exact b (by show (0:Int)≠44;decide) _ (Y3 Δ c)
   ·rw[T,g3];rw[E] at b a k;simp only;cases y:Az [44] (Aw z) with
    |none=>
     refine b (Ba2 y) _ ?_;rw[IG Δ];cases Az [125] (Aw z)<;>rfl
    |some r'=>
     have G:=A1m y;have UH:Az [125] (Aw z)=none:=by rw[G,Di];rfl
     rw[UH];simp only;rw[G] at a k;obtain⟨ja,wa⟩:=a.adv ht (by show (44:Int)≠0;decide)
     obtain⟨je,js,jp⟩:=ja
     have hlr:r'.length+1<=(Aw l0).length:=by
      have h1:=Hr z;rw[G,M9] at h1;omega
     have Uk:=Hr r';obtain⟨i9,e9,j9,W⟩:=ih m (ms++[(nm,v)]) r' Ω Ω js;refine⟨i9,e9,j9,?_⟩;have C:(Ez (.ok (44::r')) != 44)=false:=rfl;subst je;rw[<-jp] at W;rw[Ea];simp only[Aq,Ar,R,x1,L,M,N,O,wD,P,Q,k,C,wa];exact W
def jls(ob:Bool)(V:Ak->JR (JV × Ak))(r:Ak):RS:=if ob=true then ET (BJ V false r) else QR V r
set_option maxHeartbeats 4000000 in
theorem Bd4(ht:t.size<=1000000)(Be:t.size+5<=u)(m:0<=D)(M:D<=8)(V:Ak->JR (JV × Ak))(HV:∀i e s,JS t i e s->Ap8 t V s (Ac (CP p) prog u (d+4) 163 [.pbox (jC t i e),Av (D+1)]))(HL:∀l v r,Ch l->l.length<=1000000->V l=.ok (v,r)->r.length<=l.length){c:Int}(ob:Bool)(n:D5 t (c::r)):
   ∃K L,JS t K L (jls ob V r)/\Ac (CP p) prog u (d+5) 177 [.pbox (jC t (Bp t (c::r)) 0),C3 ob,Av D]=some ⟨[],[jC t K L]⟩:=by
 have y:Ac (CP p) prog u (d+5) 177 [.pbox (jC t (Bp t (c::r)) 0),C3 ob,Av D]=_:=M7 (p:=p) u (d+4) t (Bp t (c::r)) 0 ob D;have hp:=Kl n;have N:=n.len;have JJ:Bp t (c::r)<=t.size:=Nat.sub_le _ _;have wr:wrap .i64 ((Bp t (c::r):Int)+1)=(Bp t r:Int):=Bc
 have A:JS t (Bp t r) 0 (.ok r):=⟨rfl,n.tail,rfl⟩
 obtain⟨i1,j,x1⟩:=Ih (u:=u) (d:=d+2) (p:=p) ht Ω A;have B:SP (.ok r)=.ok (Aw r):=rfl;rw[B] at j;have k:Ac (CP p) prog u (d+4) 160 [.pbox (jC t i1 0)]=some ⟨[.sc (.int .u8 (Ez (.ok (Aw r))))],[jC t i1 0]⟩:=Hh (u:=u) (d:=d+3) (p:=p) j;have zD:decide (D>8)=false:=dF Ω;have P:=(Cd n.tail).len;have o:i1=(Bp t (Aw r):Int):=j.2.2;have q:=Cd n.tail;cases ob with
 |true=>
  have C:jls true V r=ET (BJ V false r):=rfl;rw[C,Ol];cases h:Az [125] (Aw r) with
  |some r'=>
   have g:=A1m h;rw[g] at j k;obtain⟨E,G⟩:=j.adv ht (by show (125:Int)≠0;decide)
   refine⟨i1+1,0,E,y.trans ?_⟩;have z:(Ez (.ok (125::r'))==125)=true:=rfl;simp only[Aq,Ar,zD,wr,x1,k,z,G]
  |none=>
   have H:Ez (.ok (Aw r))≠125:=by
    intro f;rw[Di] at h;cases g:Aw r with
    |nil=>rw[g] at f;cases f
    |cons a b=>
     rw[g] at f h;have f:a=125:=f;simp only at h;rw[Bv f] at h;cases h
   obtain⟨i2,J,w,x⟩:=Aps (u:=u) (d:=d) (p:=p) ht Be m Ω V HV HL (t0:=t) (i0:=Bp t (c::r)) (e0:=0) (D0:=D) (b0:=true) ((Aw r).length+1) u [] (Aw r) (by rw[R6];omega) Ω q
   rw[R6] at w;refine⟨i2,J,w,y.trans ?_⟩;have z:(Ez (.ok (Aw r))==125)=false:=by simp[H]
   rw[<-o] at x;simp only[Aq,Ar,zD,wr,x1,k,z];exact x
 |false=>
  have C:jls false V r=QR V r:=rfl
  have O:QR V r=match Az [93] (Aw r) with|some r'=>.ok r'|none=>Aag V ((Aw r).length+1) (Aw r):=by
   unfold QR;rw[Di];cases Aw r with
   |nil=>rfl
   |cons a b=>
    simp only;by_cases h:a=93
    ·subst h;rfl
    ·rw[Bd h];split
     ·rename_i e;injection e with B _;exact absurd B h
     ·rfl
  rw[C,O];cases h:Az [93] (Aw r) with
  |some r'=>
   have g:=A1m h;rw[g] at j k;obtain⟨E,G⟩:=j.adv ht (by show (93:Int)≠0;decide)
   refine⟨i1+1,0,E,y.trans ?_⟩;have z:(Ez (.ok (93::r'))==93)=true:=rfl;simp only[Aq,Ar,zD,wr,x1,k,z,G]
  |none=>
   have H:Ez (.ok (Aw r))≠93:=by
    intro f;rw[Di] at h;cases g:Aw r with
    |nil=>rw[g] at f;cases f
    |cons a b=>
     rw[g] at f h;have f:a=93:=f;simp only at h;rw[Bv f] at h;cases h
   obtain⟨i2,J,w,x⟩:=Apn (u:=u) (d:=d) (p:=p) ht Be m Ω V HV HL (t0:=t) (i0:=Bp t (c::r)) (e0:=0) (D0:=D) (b0:=false) ((Aw r).length+1) u (Aw r) (by rw[R6];omega) Ω q
   rw[R6] at w;refine⟨i2,J,w,y.trans ?_⟩;have z:(Ez (.ok (Aw r))==93)=false:=by simp[H]
   rw[<-o] at x;simp only[Aq,Ar,zD,wr,x1,k,z];exact x
end
theorem Ho(h:SU l≠c)(d:c≠0):Az (c::w) l=none:=by
 unfold Az;cases l with
 |nil=>rfl
 |cons a l=>
  have b:c≠a:=λq=>h q.symm;simp[b]
theorem Ach(b:SU l≠45)(c:SU l<48\/57<SU l):FP l=none:=by
 have e:FP l=(Au7 (Aka 45 l)).bind RN:=rfl
 have d:Aka 45 l=l:=by
  rw[AC,Ho b Δ];rfl
 rw[e,d,JM];cases l with
 |nil=>rfl
 |cons a l=>
  have f:SU (a::l)=a:=rfl;rw[f] at b c;rw[Di];simp only;rw[Bd Ω];have g:Ka (a::l)=if YN a=true then some (Ib l) else none:=rfl
  have hd:YN a=false:=by
   unfold YN;rcases c with h|h
   ·rw[dF (q:=48<=a) Ω,SK]
   ·rw[dF (q:=a<=57) Ω,Zzt]
  rw[g,hd];rfl
theorem Auk{k:Nat}(f:k<=8)(b:Ch l)(c:l.length<=1000000)(h:Dc k l=.ok (v,r)):r.length<=l.length:=by
 obtain⟨e,_,a⟩:=A2u (u:=1000001) (d:=0) (t:=Ab l) (by rw[Ai];exact c) (by rw[Ai];omega) k (9-(k:Int)) Ω Ω l (D5.self b)
 rw[h] at a;exact D5.le a.1
theorem Anc(k:Nat)(r:Ak):Dc (k+1) (91::r)=match QR (Dc k) r with | .error e=>.error e | .ok r'=>.ok ((5,[],false),r'):=rfl
theorem Ash(k:Nat)(r:Ak):Dc (k+1) (123::r)=match BJ (Dc k) false r with | .error e=>.error e | .ok (_,r')=>.ok ((6,[],false),r'):=rfl
section
variable {u d:Nat}{p:Option (Ae->Option A3)}
theorem A9k(V:Ak->JR (JV × Ak))(r:Ak):jls false V r=QR V r:=rfl
theorem A89(V:Ak->JR (JV × Ak))(r:Ak):jls true V r=ET (BJ V false r):=rfl
set_option maxHeartbeats 4000000 in
theorem WJ(ht:t.size<=1000000)(Be:t.size+200<=u)(k:Nat)(h:JS t i e s)(K:Ez s≠34)(L:Ez s≠123)(M:Ez s≠91):
  Ap8 t (Dc k) s (Ac (CP p) prog u (d+5) 163 [.pbox (jC t i e),Av D]):=by
 have B:Ac (CP p) prog u (d+5) 163 [.pbox (jC t i e),Av D]=_:=F8 (p:=p) u (d+4) t i e D;have C:Ac (CP p) prog u (d+4) 160 [.pbox (jC t i e)]=_:=Hh (u:=u) (d:=d+3) (p:=p) h;have E:(Ez s==34)=false:=by simp[K]
 have G:(Ez s==123)=false:=by simp[L]
 have H:(Ez s==91)=false:=by simp[M]
 have lT:ByteArray.mk #[116,114,117,101]=Ab [116,114,117,101]:=rfl;have lF:ByteArray.mk #[102,97,108,115,101]=Ab [102,97,108,115,101]:=rfl;have lN:ByteArray.mk #[110,117,108,108]=Ab [110,117,108,108]:=rfl
 have A:∀l,s=.ok l->Dc k l=QT l:=by
  intro l n;subst n;exact UO k L M K
 by_cases o:Ez s=116
 ·obtain⟨i1,m,b,x1⟩:=Apf (u:=u) (d:=d+1) (p:=p) ht Ω (w:=[116,114,117,101]) (λx a=>by simp at a;omega) (λx a=>by simp at a;omega) Δ h
  have z:(Ez s==116)=true:=by simp[o]
  cases s with
  |error c=>cases o
  |ok l=>
   have j:SU l=116:=o;have g:=A l rfl;rw[Ai7 _ _ (λx a=>by simp at a;omega)] at b
   have eW:QT l=match Az [116,114,117,101] l with|some r=>.ok ((2,[],true),r)|none=>.error 2:=by
    unfold QT;rw[Ho (c:=102) (by rw[j];decide) Δ,Ho (c:=110) (by rw[j];decide) Δ,Ach (by rw[j];decide) (.inr (by rw[j];decide))]
    cases Az [116,114,117,101] l<;>rfl
   refine⟨i1,m,2,Ab [],?_,?_,B.trans ?_⟩
   ·show JS t i1 m (ET (Dc k l));rw[g,eW];cases a:Az [116,114,117,101] l with
    |none=>rw[a] at b;exact b
    |some r=>rw[a] at b;exact b
   ·intro N v r n f;cases n;rw[g,eW] at f;cases a:Az [116,114,117,101] l with
    |none=>rw[a] at f;cases f
    |some r=>rw[a] at f;cases f;exact⟨rfl,rfl⟩
   ·simp only[Aq,Ar,C,E,G,H,z,lT,x1];rfl
 have J:(Ez s==116)=false:=by simp[o]
 by_cases q:Ez s=102
 ·obtain⟨i1,m,b,x1⟩:=Apf (u:=u) (d:=d+1) (p:=p) ht Ω (w:=[102,97,108,115,101]) (λx a=>by simp at a;omega) (λx a=>by simp at a;omega) Δ h
  have z:(Ez s==102)=true:=by simp[q]
  cases s with
  |error c=>cases q
  |ok l=>
   have j:SU l=102:=q;have g:=A l rfl;rw[Ai7 _ _ (λx a=>by simp at a;omega)] at b
   have eW:QT l=match Az [102,97,108,115,101] l with|some r=>.ok ((2,[],false),r)|none=>.error 2:=by
    unfold QT;rw[Ho (c:=116) (by rw[j];decide) Δ,Ho (c:=110) (by rw[j];decide) Δ,Ach (by rw[j];decide) (.inr (by rw[j];decide))]
    cases Az [102,97,108,115,101] l<;>rfl
   refine⟨i1,m,3,Ab [],?_,?_,B.trans ?_⟩
   ·show JS t i1 m (ET (Dc k l));rw[g,eW];cases a:Az [102,97,108,115,101] l with
    |none=>rw[a] at b;exact b
    |some r=>rw[a] at b;exact b
   ·intro N v r n f;cases n;rw[g,eW] at f;cases a:Az [102,97,108,115,101] l with
    |none=>rw[a] at f;cases f
    |some r=>rw[a] at f;cases f;exact⟨rfl,rfl⟩
   ·simp only[Aq,Ar,C,E,G,H,J,z,lF,x1];rfl
 have O:(Ez s==102)=false:=by simp[q]
 by_cases y:Ez s=110
 ·obtain⟨i1,m,b,x1⟩:=Apf (u:=u) (d:=d+1) (p:=p) ht Ω (w:=[110,117,108,108]) (λx a=>by simp at a;omega) (λx a=>by simp at a;omega) Δ h
  have z:(Ez s==110)=true:=by simp[y]
  cases s with
  |error c=>cases y
  |ok l=>
   have j:SU l=110:=y;have g:=A l rfl;rw[Ai7 _ _ (λx a=>by simp at a;omega)] at b
   have eW:QT l=match Az [110,117,108,108] l with|some r=>.ok ((1,[],false),r)|none=>.error 2:=by
    unfold QT;rw[Ho (c:=116) (by rw[j];decide) Δ,Ho (c:=102) (by rw[j];decide) Δ,Ach (by rw[j];decide) (.inr (by rw[j];decide))]
    cases Az [110,117,108,108] l<;>rfl
   refine⟨i1,m,0,Ab [],?_,?_,B.trans ?_⟩
   ·show JS t i1 m (ET (Dc k l));rw[g,eW];cases a:Az [110,117,108,108] l with
    |none=>rw[a] at b;exact b
    |some r=>rw[a] at b;exact b
   ·intro N v r n f;cases n;rw[g,eW] at f;cases a:Az [110,117,108,108] l with
    |none=>rw[a] at f;cases f
    |some r=>rw[a] at f;cases f;exact⟨rfl,rfl⟩
   ·simp only[Aq,Ar,C,E,G,H,J,O,z,lN,x1];rfl
 have P:(Ez s==110)=false:=by simp[y]
 obtain⟨i1,m,b,x1⟩:=Az9 (u:=u) (d:=d+1) (p:=p) ht Ω h;refine⟨i1,m,0,Ab [],?_,?_,B.trans ?_⟩
 ·cases s with
  |error c=>exact b
  |ok l=>
   have g:=A l rfl;show JS t i1 m (ET (Dc k l));rw[A9d] at b
   have eW:QT l=match FP l with|some r=>.ok ((3,[],false),r)|none=>.error 2:=by
    unfold QT;rw[Ho (c:=116) o Δ,Ho (c:=102) q Δ,Ho (c:=110) y Δ];cases FP l<;>rfl
   rw[g,eW];cases a:FP l with
   |none=>rw[a] at b;exact b
   |some r=>rw[a] at b;exact b
 ·intro l v r n f;subst n
  have eW:QT l=match FP l with|some r=>.ok ((3,[],false),r)|none=>.error 2:=by
   unfold QT;rw[Ho (c:=116) o Δ,Ho (c:=102) q Δ,Ho (c:=110) y Δ];cases FP l<;>rfl
  rw[A l rfl,eW] at f;cases a:FP l with
  |none=>rw[a] at f;cases f
  |some r=>rw[a] at f;cases f;exact⟨rfl,rfl⟩
 ·simp only[Aq,Ar,C,E,G,H,J,O,P,x1];rfl
theorem Ae3(ht:t.size<=1000000)(Be:t.size+200<=u)(k:Nat)(h:JS t i e (.ok (34::l))):
  Ap8 t (Dc k) (.ok (34::l)) (Ac (CP p) prog u (d+5) 163 [.pbox (jC t i e),Av D]):=by
 have j:Ac (CP p) prog u (d+5) 163 [.pbox (jC t i e),Av D]=_:=F8 (p:=p) u (d+4) t i e D;have m:Ac (CP p) prog u (d+4) 160 [.pbox (jC t i e)]=some ⟨[.sc (.int .u8 34)],[jC t i e]⟩:=Hh (u:=u) (d:=d+3) (p:=p) h;obtain⟨i1,f,b,x1⟩:=Arp (u:=u) (d:=d) (p:=p) ht Ω Ω h;have z:((34:Int)==34)=true:=rfl;have g:jtx (.ok (34::l))=jtP (D1 (34::l)):=rfl;refine⟨i1,f,1,Ab (jtx (.ok (34::l))).1,?_,?_,j.trans ?_⟩
 ·show JS t i1 f (ET (Dc k (34::l)));rw[Ah0];rw[g] at b;rcases c:D1 (34::l) with⟨o,r⟩;rw[c] at b;cases o<;>exact b
 ·intro q v r n a;cases n;rw[Ah0] at a;rw[g];rcases c:D1 (34::l) with⟨o,r'⟩;rw[c] at a;cases o with
  |none=>cases a
  |some s=>cases a;exact⟨rfl,rfl⟩
 ·simp only[Aq,Ar,m,z,x1]
set_option maxHeartbeats 4000000 in
theorem Bbb(ht:t.size<=1000000)(Be:t.size+200<=u):∀(k:Nat)(D:Int),D+k=9->1<=D->∀i e s,JS t i e s->Ap8 t (Dc k) s (Ac (CP p) prog u (d+2*k+5) 163 [.pbox (jC t i e),Av D]):=by
 intro k
 induction k with
 |zero=>
  intro D N O i e s h;by_cases j:Ez s=34
  ·cases s with
   |error c=>cases j
   |ok l=>
    cases l with
    |nil=>cases j
    |cons a l=>
     have j:a=34:=j;subst j;exact Ae3 ht Be 0 h
  by_cases f:Ez s=123\/Ez s=91
  ·have w:Ac (CP p) prog u (d+4) 160 [.pbox (jC t i e)]=_:=Hh (u:=u) (d:=d+3) (p:=p) h;have z:Ac (CP p) prog u (d+5) 163 [.pbox (jC t i e),Av D]=_:=F8 (p:=p) u (d+4) t i e D;have fl:=P3 (u:=u) (d:=d+2) (p:=p) t i e 5;have J:=h.fail (c:=5) Δ;have zD:decide (D>8)=true:=dT Ω
   have el:∀b,Ac (CP p) prog u (d+4) 177 [.pbox (jC t i e),C3 b,Av D]=some ⟨[],[jC t i (if e=0 then 5 else e)]⟩:=by
    intro b;refine (M7 (p:=p) u (d+3) t i e b D).trans ?_;simp only[Aq,Ar,zD,fl]
   have x:(Ez s==34)=false:=by simp[j]
   cases s with
   |error c=>rcases f with f|f<;>cases f
   |ok l=>
    cases l with
    |nil=>rcases f with f|f<;>cases f
    |cons a l=>
     have C:Ez (.ok (a::l))=a:=rfl;rw[C] at f x w;rcases f with f|f
     ·subst f;have y:((123:Int)==123)=true:=rfl;refine⟨i,_,0,Ab [],J,(λE v r o g=>by cases o;cases g),z.trans ?_⟩
      simp only[Aq,Ar,w,x,y,el];rfl
     ·subst f;have y:((91:Int)==123)=false:=rfl;have G:((91:Int)==91)=true:=rfl;refine⟨i,_,0,Ab [],J,(λE v r o g=>by cases o;cases g),z.trans ?_⟩
      simp only[Aq,Ar,w,x,y,G,el];rfl
  ·exact WJ ht Be 0 h j (λq=>f (.inl q)) (λq=>f (.inr q))
 |succ k P=>
  intro D N O i e s h;by_cases j:Ez s=34
  ·cases s with
   |error c=>cases j
   |ok l=>
    cases l with
    |nil=>cases j
    |cons a l=>
     have j:a=34:=j;subst j;exact Ae3 (d:=d+2*(k+1)) ht Be (k+1) h
  by_cases f:Ez s=123\/Ez s=91
  ·have w:Ac (CP p) prog u (d+2*(k+1)+4) 160 [.pbox (jC t i e)]=_:=Hh (u:=u) (d:=d+2*(k+1)+3) (p:=p) h;have z:Ac (CP p) prog u (d+2*(k+1)+5) 163 [.pbox (jC t i e),Av D]=_:=F8 (p:=p) u (d+2*(k+1)+4) t i e D;have x:(Ez s==34)=false:=by simp[j]
   have HV:∀i e s,JS t i e s->Ap8 t (Dc k) s (Ac (CP p) prog u ((d+2*k+1)+4) 163 [.pbox (jC t i e),Av (D+1)]):=λi e s H=>P (D+1) Ω Ω i e s H;have HL:∀l v r,Ch l->l.length<=1000000->Dc k l=.ok (v,r)->r.length<=l.length:=λl v r o H g=>Auk Ω o H g;cases s with
   |error c=>rcases f with f|f<;>cases f
   |ok l=>
    cases l with
    |nil=>rcases f with f|f<;>cases f
    |cons a l=>
     have C:Ez (.ok (a::l))=a:=rfl;rw[C] at f x w;obtain⟨rfl,Q,rfl⟩:=h
     have K:∀B,∃L M,JS t L M (jls B (Dc k) l)/\Ac (CP p) prog u (d+2*(k+1)+4) 177 [.pbox (jC t (Bp t (a::l)) 0),C3 B,Av D]=some ⟨[],[jC t L M]⟩:=λB=>
      Bd4 (u:=u) (d:=d+2*k+1) (p:=p) ht Ω Ω Ω (Dc k) HV HL B Q
     rcases f with f|f
     ·subst f;obtain⟨i1,A,m,x1⟩:=K true;have y:((123:Int)==123)=true:=rfl;rw[A89] at m;refine⟨i1,A,0,Ab [],?_,?_,z.trans ?_⟩
      ·show JS t i1 A (ET (Dc (k+1) (123::l)));rw[Ash];cases n:BJ (Dc k) false l with
       |error c=>rw[n] at m;exact m
       |ok q=>rw[n] at m;exact m
      ·intro E v r o g;cases o;rw[Ash] at g;cases n:BJ (Dc k) false l with
       |error c=>rw[n] at g;cases g
       |ok q=>rw[n] at g;cases g;exact⟨rfl,rfl⟩
      ·simp only[Aq,Ar,w,x,y,x1];rfl
     ·subst f;obtain⟨i1,A,m,x1⟩:=K false;have y:((91:Int)==123)=false:=rfl;have G:((91:Int)==91)=true:=rfl;rw[A9k] at m;refine⟨i1,A,0,Ab [],?_,?_,z.trans ?_⟩
      ·show JS t i1 A (ET (Dc (k+1) (91::l)));rw[Anc];cases n:QR (Dc k) l with
       |error c=>rw[n] at m;exact m
       |ok q=>rw[n] at m;exact m
      ·intro E v r o g;cases o;rw[Anc] at g;cases n:QR (Dc k) l with
       |error c=>rw[n] at g;cases g
       |ok q=>rw[n] at g;cases g;exact⟨rfl,rfl⟩
      ·simp only[Aq,Ar,w,x,y,G,x1];rfl
  ·exact WJ (d:=d+2*(k+1)) ht Be (k+1) h j (λq=>f (.inl q)) (λq=>f (.inr q))
end
abbrev RM:=Ak × Int × ByteArray
variable{ls:List RM}
def G8(ls:List RM):Ae:=ls.flatMap λm=>[Bg (Ab m.1),Av m.2.1,Bg (m.2.2)]
theorem Ak4(ls:List RM):(G8 ls).length=ls.length*3:=by
 unfold G8
 induction ls with
 |nil=>rfl
 |cons m ls a=>
  rw[Le,Ru,a];show 3+ls.length*3=(ls.length+1)*3;omega
theorem Akx(a b:List RM):G8 (a++b)=G8 a++G8 b:=by unfold G8;rw[kk]
theorem A8x{i:Nat}{m:RM}(h:ls[i]?=some m):f9 (G8 ls) (i*3) .top=Bg (Ab m.1)/\f9 (G8 ls) (i*3+1) .top=Av m.2.1/\f9 (G8 ls) (i*3+1+1) .top=Bg (m.2.2):=by
 induction ls generalizing i with
 |nil=>cases h
 |cons a ls b=>
  have e:G8 (a::ls)=Bg (Ab a.1) :: Av a.2.1 :: Bg (a.2.2)::G8 ls:=rfl;rw[e];cases i with
  |zero=>cases h;exact⟨rfl,rfl,rfl⟩
  |succ i=>
   have h:ls[i]?=some m:=h;obtain⟨c,d,f⟩:=b h;rw[show (i+1)*3=i*3+1+1+1 by omega];exact⟨c,d,f⟩
def Aar(ls:List RM)(nm:Ak):A3:=match ls.find? (λm=>m.1==nm) with
 |some m=>⟨[.agg [Bg (Ab m.1),Av m.2.1,Bg (m.2.2)],C3 true],[]⟩
 |none=>⟨[.agg [Bg (Ab []),Av 0,Bg (Ab [])],C3 false],[]⟩
def We(m:Ak × JV):RM:=(m.1,kdR m.2,Ab (txR m.2))
section
variable {u d:Nat}{p:Option (Ae->Option A3)}
theorem VA{ls:List RM}{nm:Ak}(a:∀m∈ls,Ch m.1)(b:Ch nm)(g:ls.length<=2000000){F:An}{CI:Nat}{a0:Ae}{a1 y4 y6:ByteArray}{y5:Int}:∀(r:List RM)(i nn:Nat),ls.drop i=r->r.length+1<=nn ->
  Iq u F CI a0 a1 nn ls.length (G8 ls) (Ab nm) (i:Int) y4 y5 y6=some (Aar r nm)
 |[],i,nn,hd,Es=>by
  obtain⟨k,rfl⟩:∃k,nn=k+1:=⟨nn-1,Ω⟩
  have hi:=drop_nil hd;have a1:decide ((i:Int)<(ls.length:Int))=false:=dF Ω;rw[O5];simp only[Aq,Ar,a1];rfl
 |m::r,i,nn,hd,Es=>by
  obtain⟨k,rfl⟩:∃k,nn=k+1:=⟨nn-1,Ω⟩
  obtain⟨hi,c,TM⟩:=Cb hd;have j:=VA a b g (F:=F) (CI:=CI) (a0:=a0) (a1:=a1) (y4:=y4) (y5:=y5) (y6:=y6) r (i+1) k TM (by simp at Es;omega)
  obtain⟨d,l,n⟩:=A8x c;have a1:decide ((i:Int)<(ls.length:Int))=true:=dT Ω;have e:decide ((0:Int)<=(i:Int))=true:=Ψ
  have f:wj (i:Int)*3=i*3:=by rw[Hy]
  have o:wrap .i64 ((i:Int)+1)=((i+1:Nat):Int):=Bc
  have q:=Wh (a m (zn c)) b
  have p:Aar (m::r) nm=if m.1=nm then ⟨[.agg [Bg (Ab m.1),Av m.2.1,Bg (m.2.2)],C3 true],[]⟩ else Aar r nm:=by
   unfold Aar;rw[lv];by_cases h:m.1=nm
   ·have:(m.1==nm)=true:=by simp[h]
    rw[this,Bv h]
   ·have:(m.1==nm)=false:=by simp[h]
    rw[this,Bd h]
  rw[O5,p];by_cases h:m.1=nm
  ·rw[Bv h];rw[dT h] at q;simp only[Aq,Ar,a1,e,f,d,l,n,Zzr,q]
  ·rw[Bd h];rw[dF h] at q;simp only[Aq,Ar,a1,e,f,d,Zzr,q,o];exact j
theorem Azb(a:∀m∈ls,Ch m.1)(b:Ch nm)(c:ls.length<=2000000)(Be:ls.length+1<=u):Ac (CP p) prog u (d+1) 142 [.lst false 3 ls.length (G8 ls),Bg (Ab nm)]=some (Aar ls nm):=
 (LC (p:=p) u d ls.length (G8 ls) (Ab nm)).trans (VA a b c ls 0 u rfl Be)
def Abl(s:RS):RS:=match SP s with
 |.ok []=>.ok []
 |.ok (_::_)=>.error 2
 |.error c=>.error c
theorem Atq(ht:t.size<=1000000)(Be:t.size+1<=u)(h:JS t i e s):∃b,Ac (CP p) prog u (d+2) 158 [.pbox (jC t i e)]=some ⟨[],[jC t b e]⟩ /\
  (decide (b<(t.size:Int))=true->JS t b (if e=0 then 2 else e) (Abl s))/\(decide (b<(t.size:Int))=false->JS t b e (Abl s)):=by
 obtain⟨b,f,k⟩:=Ih (u:=u) (d:=d) (p:=p) ht Be h;refine⟨b,k,?_,?_⟩
 ·intro hd;have hd:b<(t.size:Int):=by simpa using hd
  have j:=f.fail (c:=2) Δ;unfold Abl;cases g:SP s with
  |error c=>rw[g] at j;exact j
  |ok r=>
   rw[g] at j f;cases r with
   |nil=>
    obtain⟨_,_,hp⟩:=f;rw[Si] at hp;omega
   |cons a r=>exact j
 ·intro hd;have hd:¬b<(t.size:Int):=by simpa using hd
  unfold Abl;cases g:SP s with
  |error c=>rw[g] at f;exact f
  |ok r=>
   rw[g] at f;cases r with
   |nil=>exact f
   |cons a r=>
    obtain⟨_,l,hp⟩:=f;have m:=l.len;rw[M9] at m;unfold Bp at hp;rw[M9] at hp;omega
def Apx(t:ByteArray)(X:JR (List (Ak × JV) × Ak))(q:Option A3):Prop:=
 ∃i e a,JS t i e (Abl (ET X))/\(∀b r,X=.ok (b,r)->a=b.map We)/\q=some ⟨[.own 3 a.length (G8 a)],[jC t i e]⟩
theorem HG(ls:List RM):decide (ls.length*3<=(G8 ls).length)=true/\yt (ls.length*3) (G8 ls)=G8 ls:=by refine⟨dT (by rw[Ak4];omega),Gp (by rw[Ak4];omega)⟩
theorem Ai2(ht:t.size<=1000000)(Be:t.size+5<=u)(h:JS t i e (.error c))(ls:List RM)(nn:Nat){X:JR (List (Ak × JV) × Ak)}(g:X=.error c):
  Apx t X (B2 u (Ac (CP p) prog u (d+4)) t0 i0 e0 (nn+1) ls.length t i e (G8 ls)):=by
 obtain⟨a,x1,j,k⟩:=Atq (u:=u) (d:=d+2) (p:=p) ht Ω h;have l:e≠0:=by obtain⟨m,n,_⟩:=h;rw[m];exact n
 have z:(e==0)=false:=by simp[l]
 obtain⟨b,f⟩:=HG ls;have fl:=P3 (u:=u) (d:=d+3) (p:=p) t a e 2;subst g;rw[Ex];cases hd:decide (a<(t.size:Int)) with
 |true=>
  refine⟨a,_,ls,j hd,(λo r h=>by cases h),?_⟩;simp only[Aq,Ar,z,x1,hd,fl,b,f]
 |false=>
  refine⟨a,_,ls,k hd,(λo r h=>by cases h),?_⟩;simp only[Aq,Ar,z,x1,hd,b,f]
end
theorem Azt(ms:List (Ak × JV))(nm:Ak):(ms.any λm=>m.1==nm)=((ms.map We).find? (λm=>m.1==nm)).isSome:=by
 induction ms with
 |nil=>rfl
 |cons m ms a=>
  rw[List.any_cons,ER,lv];have e:(We m).1=m.1:=rfl;rw[e];cases m.1==nm with
  |true=>rfl
  |false=>rw[a];rfl
theorem Bj0(b:Ch l):Ch (jtx (.ok l)).1:=by
 have e:jtx (.ok l)=jtP (D1 l):=rfl;rw[e];rcases a:D1 l with⟨o,r⟩;cases o with
 |none=>exact λx a=>nomatch a
 |some s=>exact Ahh b a
section
variable {u d:Nat}{p:Option (Ae->Option A3)}
set_option maxHeartbeats 8000000 in
theorem Ab0(ht:t.size<=1000000)(Be:t.size+300<=u):∀(n nn:Nat)(ms:List (Ak × JV)) (ls:List RM)(l0:Ak),ls=ms.map We->(Aw l0).length<n->n+2<=nn->D5 t l0->(∀m∈ms,Ch m.1)->ms.length+(Aw l0).length<=t.size ->
  Apx t (Ra (Dc 8) true n ms (Aw l0)) (B2 u (Ac (CP p) prog u (d+21)) t0 i0 e0 nn ls.length t (Bp t l0) 0 (G8 ls)):=by
 intro n
 induction n with
 |zero=>intro nn ms ls l0 _ h;omega
 |succ n ih=>
  intro nn ms ls l0 y Ev Es hs hmB hml;obtain⟨m,rfl⟩:∃m,nn=m+1:=⟨nn-1,Ω⟩
  have h0:JS t (Bp t l0) 0 (.ok l0):=⟨rfl,hs,rfl⟩
  have A:=Cd hs;have hll:ls.length=ms.length:=by rw[y,zv]
  have hlB:∀q∈ls,Ch q.1:=by
   intro q z;rw[y] at z;obtain⟨w,hw,rfl⟩:=kl.1 z;exact hmB w hw
  obtain⟨i1,j1,x1⟩:=Ih (u:=u) (d:=d+19) (p:=p) ht Ω h0;have e1:SP (.ok l0)=.ok (Aw l0):=rfl;rw[e1] at j1;obtain⟨i2,e2,j2,Q⟩:=Arp (u:=u) (d:=d+17) (p:=p) ht Ω Ω j1;have B:=Bj0 A.B;have DP:=A2d (Aw l0)
  have XO:∀C r,D1 (Aw l0)=(some C,r)->(jtx (.ok (Aw l0))).1=C:=by
   intro C r h;have e:jtx (.ok (Aw l0))=jtP (D1 (Aw l0)):=rfl;rw[e,h];rfl
  generalize (jtx (.ok (Aw l0))).1=b at Q B XO;generalize (jtx (.ok (Aw l0))).2=s2 at j2 DP;have D:=Azb (u:=u) (d:=d+20) (p:=p) hlB B Ω Ω;have Ai8:=Azt ms b;rw[<-y] at Ai8;have z0:((0:Int)==0)=true:=rfl;obtain⟨R,S⟩:=HG ls;have o3:decide (0+ls.length*3<=(G8 ls).length)=true:=by rw[I8];exact R
  have o4:yt (ls.length*3) (nb 0 (G8 ls))=G8 ls:=by rw[Jo];exact S
  have c1:decide ((ls.length+1)*40<=1099511627776)=true:=dT Ω;have c2:decide (ls.length+1<=1099511627776)=true:=dT Ω;have hL8:∀l v r,Ch l->l.length<=1000000->Dc 8 l=.ok (v,r)->r.length<=l.length:=λl v r hl hs hv=>Auk Δ hl hs hv;cases hf:ls.find? (λq=>q.1==b) with
  |some q=>
   have fr:Aar ls b=⟨[.agg [Bg (Ab q.1),Av q.2.1,Bg (q.2.2)],C3 true],[]⟩:=by unfold Aar;rw[hf]
   rw[fr] at D;rw[hf] at Ai8;have Ai8:(ms.any λm=>m.1==b)=true:=Ai8;have fl:=P3 (u:=u) (d:=d+20) (p:=p) t i2 e2 10;have h3:=j2.fail (c:=10) Δ;obtain⟨i4,j4,T⟩:=Ih (u:=u) (d:=d+19) (p:=p) ht Ω h3;obtain⟨i5,E,j5,U⟩:=J9 (u:=u) (d:=d+19) (p:=p) ht (c:=58) Δ j4;obtain⟨i6,j6,W⟩:=Ih (u:=u) (d:=d+19) (p:=p) ht Ω j5;obtain⟨i7,G,Y,Z,j7,kt,k⟩:=Bbb (u:=u) (d:=d) (p:=p) ht Ω 8 1 Δ Δ i6 E _ j6;have k:Ac (CP p) prog u (d+21) 163 [.pbox (jC t i6 E),Av 1]=_:=k;obtain⟨H,f,x8⟩:=Ih (u:=u) (d:=d+19) (p:=p) ht Ω j7;have f:JS t H G (jmb (Dc 8) (jfl 10 s2)):=f;have J:Ac (CP p) prog u (d+21) 160 [.pbox (jC t H G)]=some ⟨[.sc (.int .u8 (Ez (jmb (Dc 8) (jfl 10 s2))))],[jC t H G]⟩:=Hh (u:=u) (d:=d+20) (p:=p) f
   obtain⟨a,Av7⟩:∃x,x=ls++[(b,Y,Z)]:=⟨_,rfl⟩
   have Uk:a.length=ls.length+1:=by rw[Av7,Ru];rfl
   have ea:G8 ls++[Bg (Ab b),Av Y,Bg Z]=G8 a:=by rw[Av7,Akx];rfl
   obtain⟨K,L⟩:=HG a;rw[Uk] at K L
   have U5:Ez (jmb (Dc 8) (jfl 10 s2))≠44->∀X:JR (List (Ak × JV) × Ak),Abl (ET X)=Abl (Wq 125 (jmb (Dc 8) (jfl 10 s2)))->(∀ms r,X=.ok (ms,r)->a=ms.map We)->Apx t X (B2 u (Ac (CP p) prog u (d+21)) t0 i0 e0 (m+1) ls.length t (Bp t l0) 0 (G8 ls)):=by
    intro F4 X M g;obtain⟨i9,e9,j9,x9⟩:=J9 (u:=u) (d:=d+19) (p:=p) ht (c:=125) Δ f;obtain⟨i10,i,y1,y2⟩:=Atq (u:=u) (d:=d+19) (p:=p) ht Ω j9;have N:=P3 (u:=u) (d:=d+20) (p:=p) t i10 e9 2;have O:(Ez (jmb (Dc 8) (jfl 10 s2)) != 44)=true:=by simp[F4]
    rw[<-M] at y1 y2;rw[Ex];cases hd:decide (i10<(t.size:Int)) with
    |true=>
     refine⟨i10,_,a,y1 hd,g,?_⟩;rw[Uk];simp only[Aq,Ar,z0,x1,Q,o3,o4,D,fl,T,U,W,k,R,c1,c2,S,Zzn,ea,x8,J,O,x9,i,hd,N,K,L]
    |false=>
     refine⟨i10,_,a,y2 hd,g,?_⟩;rw[Uk];simp only[Aq,Ar,z0,x1,Q,o3,o4,D,fl,T,U,W,k,R,c1,c2,S,Zzn,ea,x8,J,O,x9,i,hd,K,L]
   have A7e:∀c,(jfl 10 s2)=.error c->∀X:JR (List (Ak × JV) × Ak),X=.error c->Apx t X (B2 u (Ac (CP p) prog u (d+21)) t0 i0 e0 (m+1) ls.length t (Bp t l0) 0 (G8 ls)):=by
    intro c hc X M;have hj:jmb (Dc 8) (jfl 10 s2)=.error c:=by rw[hc];exact Ah2 _ c
    subst M;refine U5 (by rw[hj];show (0:Int)≠44;decide) _ ?_ (λms r h=>by cases h)
    rw[hj,Y3 Δ];rfl
   rcases j:D1 (Aw l0) with⟨o,r⟩;rw[j] at DP;cases o with
   |none=>
    exact A7e 2 (by rw[DP];rfl) _ (by rw[Lu,j])
   |some C=>
    have:=XO C r j;subst this;exact A7e 10 (by rw[DP];rfl) _ (by rw[Lu,j];simp only;rw[Ai8];rfl)
  |none=>
   have fr:Aar ls b=⟨[.agg [Bg (Ab []),Av 0,Bg (Ab [])],C3 false],[]⟩:=by unfold Aar;rw[hf]
   rw[fr] at D;rw[hf] at Ai8;have Ai8:(ms.any λm=>m.1==b)=false:=Ai8;have h3:=j2;obtain⟨i4,j4,T⟩:=Ih (u:=u) (d:=d+19) (p:=p) ht Ω h3;obtain⟨i5,E,j5,U⟩:=J9 (u:=u) (d:=d+19) (p:=p) ht (c:=58) Δ j4;obtain⟨i6,j6,W⟩:=Ih (u:=u) (d:=d+19) (p:=p) ht Ω j5;obtain⟨i7,G,Y,Z,j7,kt,k⟩:=Bbb (u:=u) (d:=d) (p:=p) ht Ω 8 1 Δ Δ i6 E _ j6;have k:Ac (CP p) prog u (d+21) 163 [.pbox (jC t i6 E),Av 1]=_:=k;obtain⟨H,f,x8⟩:=Ih (u:=u) (d:=d+19) (p:=p) ht Ω j7;have f:JS t H G (jmb (Dc 8) s2):=f;have J:Ac (CP p) prog u (d+21) 160 [.pbox (jC t H G)]=some ⟨[.sc (.int .u8 (Ez (jmb (Dc 8) s2)))],[jC t H G]⟩:=Hh (u:=u) (d:=d+20) (p:=p) f;obtain⟨a,Av7⟩:∃x,x=ls++[(b,Y,Z)]:=⟨_,rfl⟩
   have Uk:a.length=ls.length+1:=by rw[Av7,Ru];rfl
   have ea:G8 ls++[Bg (Ab b),Av Y,Bg Z]=G8 a:=by rw[Av7,Akx];rfl
   obtain⟨K,L⟩:=HG a;rw[Uk] at K L
   have U5:Ez (jmb (Dc 8) s2)≠44->∀X:JR (List (Ak × JV) × Ak),Abl (ET X)=Abl (Wq 125 (jmb (Dc 8) s2))->(∀ms r,X=.ok (ms,r)->a=ms.map We)->Apx t X (B2 u (Ac (CP p) prog u (d+21)) t0 i0 e0 (m+1) ls.length t (Bp t l0) 0 (G8 ls)):=by
    intro F4 X M g;obtain⟨i9,e9,j9,x9⟩:=J9 (u:=u) (d:=d+19) (p:=p) ht (c:=125) Δ f;obtain⟨i10,i,y1,y2⟩:=Atq (u:=u) (d:=d+19) (p:=p) ht Ω j9;have N:=P3 (u:=u) (d:=d+20) (p:=p) t i10 e9 2;have O:(Ez (jmb (Dc 8) s2) != 44)=true:=by simp[F4]
    rw[<-M] at y1 y2;rw[Ex];cases hd:decide (i10<(t.size:Int)) with
    |true=>
     refine⟨i10,_,a,y1 hd,g,?_⟩;rw[Uk];simp only[Aq,Ar,z0,x1,Q,o3,o4,D,T,U,W,k,R,c1,c2,S,Zzn,ea,x8,J,O,x9,i,hd,N,K,L]
    |false=>
     refine⟨i10,_,a,y2 hd,g,?_⟩;rw[Uk];simp only[Aq,Ar,z0,x1,Q,o3,o4,D,T,U,W,k,R,c1,c2,S,Zzn,ea,x8,J,O,x9,i,hd,K,L]
   have A7e:∀c,s2=.error c->∀X:JR (List (Ak × JV) × Ak),X=.error c->Apx t X (B2 u (Ac (CP p) prog u (d+21)) t0 i0 e0 (m+1) ls.length t (Bp t l0) 0 (G8 ls)):=by
    intro c hc X M;have hj:jmb (Dc 8) s2=.error c:=by rw[hc];exact Ah2 _ c
    subst M;refine U5 (by rw[hj];show (0:Int)≠44;decide) _ ?_ (λms r h=>by cases h)
    rw[hj,Y3 Δ];rfl
   rcases j:D1 (Aw l0) with⟨o,r⟩;rw[j] at DP;cases o with
   |none=>
    exact A7e 2 DP _ (by rw[Lu,j])
   |some C=>
    have:=XO C r j;subst this;simp only at DP
    have hrS:D5 t r:=by
     have:=H8 A;rw[j] at this;exact this
    have hrl:=Aoa (s:=[]) A.B j;have hm:=A10 (V:=Dc 8) (n:=n) (kp:=true) (ms:=ms) j (by rw[Ai8];rfl)
    subst DP;rcases A3r (Dc 8) hL8 hrS.B (by have:=hrS.len;omega) with⟨c,P,g2⟩|⟨v,r2,P,g2,g3⟩
    ·rw[hm,g2];refine U5 (by rw[P];show (0:Int)≠44;decide) _ ?_ (λms r h=>by cases h)
     rw[P,Y3 Δ];rfl
    ·have hkt:Y=kdR v/\Z=Ab (txR v):=by
      have E:SP (.ok r)=.ok (Aw r):=rfl;rw[E,IG Δ] at kt;cases h58:Az [58] (Aw r) with
      |none=>rw[h58] at g3;cases g3
      |some r1=>
       rw[h58] at g3 kt;exact kt (Aw r1) v r2 rfl g3
     have Bha:a=(ms++[(b,v)]).map We:=by
      rw[Av7,kn,y,hkt.1,hkt.2];rfl
     rw[hm,g3];simp only;cases h44:Az [44] (Aw r2) with
     |none=>
      have F4:Ez (jmb (Dc 8) (.ok r))≠44:=by rw[P];exact Ba2 h44
      cases UH:Az [125] (Aw r2) with
      |none=>
       refine U5 F4 _ ?_ (λms r h=>by cases h);rw[P,IG Δ,UH];rfl
      |some r3=>
       refine U5 F4 _ ?_ (λms r h=>by cases h;exact Bha)
       rw[P,IG Δ,UH];rfl
     |some r'=>
      have hk:=A1m h44;have UH:Az [125] (Aw r2)=none:=by rw[hk,Di];rfl
      rw[UH];simp only;rw[P,hk] at f J;obtain⟨ja,wa⟩:=f.adv ht (by show (44:Int)≠0;decide)
      obtain⟨je,js,jp⟩:=ja
      have hlr:r'.length+1<=(Aw l0).length:=by
       have h1:=Hr r2;rw[hk,M9] at h1;omega
      have hsl:=Hr r'
      have ih:=ih m (ms++[(b,v)]) a r' Bha Ω Ω js (λq z=>by
       rcases B8.1 z with z|z
       ·exact hmB q z
       ·rw[Tx] at z;subst z;exact B) (by rw[Ru,lw];omega)
      have O:(Ez (.ok (44::r')) != 44)=false:=rfl;subst je;rw[<-jp,Uk] at ih;rw[Ex];simp only[Aq,Ar,z0,x1,Q,o3,o4,D,T,U,W,k,R,c1,c2,S,Zzn,ea,x8,J,O,wa];exact ih
theorem A3f(t:ByteArray):Bp t (Cp t)=0:=by unfold Bp;rw[Cj];omega
set_option maxHeartbeats 8000000 in
theorem Awz(ht:t.size<=1000000)(Be:t.size+300<=u):∃i e ls,(match XM 8 (Cp t) with | .ok ms=>e=0/\ls=ms.map We | .error c=>e=c/\c≠0)/\Ac (CP p) prog u (d+22) 140 [.pbox (jC t 0 0)]=some ⟨[.own 3 ls.length (G8 ls)],[jC t i e]⟩:=by
 have s:=Uw (p:=p) u (d+21) t 0 0;have G:=D5.all t;have H:JS t 0 0 (.ok (Cp t)):=⟨rfl,G,by rw[A3f];rfl⟩
 obtain⟨i1,J,x1⟩:=Ih (u:=u) (d:=d+19) (p:=p) ht Ω H;obtain⟨i2,l,K,v⟩:=J9 (u:=u) (d:=d+19) (p:=p) ht (c:=123) Δ J;obtain⟨m,g,x⟩:=Ih (u:=u) (d:=d+19) (p:=p) ht Ω K;have L:SP (.ok (Cp t))=.ok (Aw (Cp t)):=rfl;rw[L,IG Δ] at g;rw[Vi]
 have conv:∀{X:JR (List (Ak × JV) × Ak)} {q:Option A3},Apx t X q->Ac (CP p) prog u (d+22) 140 [.pbox (jC t 0 0)]=q->∃i e ls,(match (match X with | .error e=>(.error e:JR (List (Ak × JV))) | .ok (ms,r')=>if Aw r'=[] then .ok ms else .error 2) with | .ok ms=>e=0/\ls=ms.map We | .error c=>e=c/\c≠0)/\Ac (CP p) prog u (d+22) 140 [.pbox (jC t 0 0)]=some ⟨[.own 3 ls.length (G8 ls)],[jC t i e]⟩:=by
  intro X q k M;obtain⟨i,e,ls,j,N,O⟩:=k;refine⟨i,e,ls,?_,M.trans O⟩;cases X with
  |error c=>exact⟨j.1,j.2.1⟩
  |ok w=>
   obtain⟨ms,r'⟩:=w;have j:JS t i e (Abl (.ok r')):=j;unfold Abl at j;have P:SP (.ok r')=.ok (Aw r'):=rfl;rw[P] at j;simp only;cases n:Aw r' with
   |nil=>
    rw[n] at j;rw[Bv rfl];exact⟨j.1,N ms r' rfl⟩
   |cons a b=>
    rw[n] at j;rw[Bd Ψ];exact⟨j.1,j.2.1⟩
 cases Bjn:Az [123] (Aw (Cp t)) with
 |none=>
  rw[Bjn] at g;have g:JS t m l (.error 2):=g;have o:Ac (CP p) prog u (d+21) 160 [.pbox (jC t m l)]=some ⟨[.sc (.int .u8 0)],[jC t m l]⟩:=Hh (u:=u) (d:=d+20) (p:=p) g;have z:((0:Int)==125)=false:=rfl;obtain⟨f,Q⟩:∃f,u=f+1:=⟨u-1,Ω⟩
  have st:=Ai2 (u:=u) (d:=d+17) (p:=p) ht Ω (t0:=t) (i0:=0) (e0:=0) g [] f (X:=.error 2) rfl;rw[<-Q] at st;refine conv st (s.trans ?_);simp only[Aq,Ar,x1,v,x,o,z];rfl
 |some r=>
  rw[Bjn] at g;have g:JS t m l (.ok (Aw r)):=g;have o:Ac (CP p) prog u (d+21) 160 [.pbox (jC t m l)]=some ⟨[.sc (.int .u8 (Ez (.ok (Aw r))))],[jC t m l]⟩:=Hh (u:=u) (d:=d+20) (p:=p) g;simp only;rw[Ol];cases UH:Az [125] (Aw r) with
  |some r'=>
   have n:=A1m UH;rw[n] at g o;obtain⟨y,C⟩:=g.adv ht (by show (125:Int)≠0;decide)
   have y:JS t (m+1) l (.ok r'):=y;obtain⟨i4,D,R,S⟩:=Atq (u:=u) (d:=d+19) (p:=p) ht Ω y;have fl:=P3 (u:=u) (d:=d+20) (p:=p) t i4 l 2;have z:(Ez (.ok (125::r'))==125)=true:=rfl;cases hd:decide (i4<(t.size:Int)) with
   |true=>
    refine conv (X:=.ok ([],r')) ⟨i4,_,[],R hd,(λms r h=>by cases h;rfl),rfl⟩ (s.trans ?_)
    simp only[Aq,Ar,x1,v,x,o,z,C,D,hd,fl];rfl
   |false=>
    refine conv (X:=.ok ([],r')) ⟨i4,_,[],S hd,(λms r h=>by cases h;rfl),rfl⟩ (s.trans ?_)
    simp only[Aq,Ar,x1,v,x,o,z,C,D,hd];rfl
  |none=>
   have T:Ez (.ok (Aw r))≠125:=by
    intro k;rw[Di] at UH;cases n:Aw r with
    |nil=>rw[n] at k;cases k
    |cons a b=>
     rw[n] at k UH;have k:a=125:=k;simp only at UH;rw[Bv k] at UH;cases UH
   obtain⟨U,E,V⟩:=g;have A:=E.len;have B:=Ab0 (u:=u) (d:=d) (p:=p) ht Be (t0:=t) (i0:=0) (e0:=0) ((Aw r).length+1) u [] [] (Aw r) rfl (by rw[R6];omega) Ω E (λq k=>nomatch k) (by rw[R6];simpa using A)
   rw[R6] at B;have z:(Ez (.ok (Aw r))==125)=false:=by simp[T]
   subst U;rw[<-V] at B;refine conv B (s.trans ?_);simp only[Aq,Ar,x1,v,x,o,z];rfl
end
def KV(v:JV):Prop:=1<=v.1/\v.1<=6/\(v.2.2=true->v.1=2)
theorem Aw1{k:Nat}(h:Dc k l=.ok (v,r)):KV v:=by
 unfold Dc at h;split at h
 ·split at h
  ·cases h
  ·split at h
   ·cases h
   ·cases h;exact⟨Δ,Δ,λh=>by cases h⟩
 ·split at h
  ·cases h
  ·split at h
   ·cases h
   ·cases h;exact⟨Δ,Δ,λh=>by cases h⟩
 ·split at h
  ·cases h
  ·cases h;exact⟨by show (1:Int)<=4;decide,by show (4:Int)<=6;decide,λh=>by cases h⟩
 ·repeat' split at h
  all_goals first|(cases h;exact⟨Δ,Δ,λh=>by first|rfl|cases h⟩)|cases h
theorem Auv:∀(n:Nat)(ms:List (Ak × JV)) (l r:Ak)(ms':List (Ak × JV)),(∀m∈ms,KV m.2)->Ra (Dc 8) true n ms l=.ok (ms',r)->∀m∈ms',KV m.2:=by
 intro n
 induction n with
 |zero=>intro ms l r ms' _ h;cases h
 |succ n j=>
  intro ms l r ms' k h;rw[Lu] at h;rcases p:D1 l with⟨o,q⟩;rw[p] at h;cases o with
  |none=>cases h
  |some s=>
   simp only at h;split at h
   ·cases h
   cases c:Az [58] (Aw q) with
   |none=>rw[c] at h;cases h
   |some t=>
    rw[c] at h;simp only at h;cases b:Dc 8 (Aw t) with
    |error e=>rw[b] at h;cases h
    |ok x=>
     obtain⟨v,d⟩:=x;rw[b] at h
     have f:∀m∈ms++[(s,v)],KV m.2:=by
      intro m a;rcases B8.1 a with a|a
      ·exact k m a
      ·simp at a;subst a;exact Aw1 b
     simp only at h;cases g:Az [125] (Aw d) with
     |some w=>rw[g] at h;cases h;exact f
     |none=>
      rw[g] at h;simp only at h;cases i:Az [44] (Aw d) with
      |none=>rw[i] at h;cases h
      |some w=>
       rw[i] at h;exact j _ _ _ _ f h
theorem Au4(h:XM 8 l=.ok ms):∀m∈ms,KV m.2:=by
 rw[Vi] at h;cases c:Az [123] (Aw l) with
 |none=>rw[c] at h;cases h
 |some r=>
  rw[c] at h;simp only at h;rw[Ol] at h;cases d:Az [125] (Aw r) with
  |some r'=>
   rw[d] at h;simp only at h;split at h
   ·cases h;exact λm a=>by cases a
   ·cases h
  |none=>
   rw[d] at h;simp only at h;cases b:Ra (Dc 8) true ((Aw r).length+1) [] (Aw r) with
   |error e=>rw[b] at h;cases h
   |ok x=>
    obtain⟨f,r'⟩:=x;rw[b] at h;simp only at h;split at h
    ·cases h;exact Auv _ _ _ _ _ (λm a=>by cases a) b
    ·cases h
def fB(ms:List (Ak × JV))(nm:Ak):Bool:=(J8 nm ms).isSome
def fK(ms:List (Ak × JV))(nm:Ak):Int:=match J8 nm ms with|some v=>kdR v|none=>0
def fX(ms:List (Ak × JV))(nm:Ak):Ak:=match J8 nm ms with|some v=>txR v|none=>[]
theorem A3j(ms:List (Ak × JV))(nm:Ak):∃n1,Aar (ms.map We) nm=⟨[.agg [Bg n1,Av (fK ms nm),Bg (Ab (fX ms nm))],C3 (fB ms nm)],[]⟩:=by
 have e:(ms.map We).find? (λm=>m.1==nm)=(ms.find? (λm=>m.1==nm)).map We:=by
  rw[List.find?_map];rfl
 unfold Aar fB fK fX J8;rw[e];cases ms.find? (λm=>m.1==nm) with
 |none=>exact⟨_,rfl⟩
 |some m=>exact⟨_,rfl⟩
theorem Ae2(h:∀m∈ms,KV m.2)(a:J8 nm ms=some v):KV v:=by unfold J8 at a;obtain⟨m,b,rfl⟩:=Option.map_eq_some_iff.1 a;exact h m (lx b)
theorem Pb(h:∀m∈ms,KV m.2)(nm:Ak):
  (fB ms nm=true/\fK ms nm=1/\(Ca nm ms).1=4/\fX ms nm=(Ca nm ms).2.1)\/(fB ms nm=false/\fK ms nm=0/\Ca nm ms=(0,[],false)/\fX ms nm=[])\/(fB ms nm=true/\fK ms nm≠1/\(Ca nm ms).1≠4/\(Ca nm ms).1≠0):=by
 unfold fB fK fX Ca;cases b:J8 nm ms with
 |none=>exact .inr (.inl ⟨rfl,rfl,rfl,rfl⟩)
 |some v=>
  obtain⟨k1,c,d⟩:=Ae2 h b;by_cases a:v.1=4
  ·refine .inl ⟨rfl,?_,a,?_⟩
   ·show kdR v=1;unfold kdR;rw[Bv a]
   ·show txR v=v.2.1;unfold txR;rw[Bv a]
  ·refine .inr (.inr ⟨rfl,?_,a,?_⟩)
   ·show kdR v≠1;unfold kdR;rw[Bd a];split
    ·split<;>decide
    ·decide
   ·show v.1≠0;omega
theorem Avf(h:∀m∈ms,KV m.2)(nm:Ak):
  (fB ms nm=false/\Ca nm ms=(0,[],false))\/(fB ms nm=true/\fK ms nm=2/\(Ca nm ms).1=2/\(Ca nm ms).2.2=true)\/(fB ms nm=true/\fK ms nm=3/\(Ca nm ms).1=2/\(Ca nm ms).2.2=false)\/(fB ms nm=true/\fK ms nm≠2/\fK ms nm≠3/\(Ca nm ms).1≠0/\(Ca nm ms).1≠2):=by
 unfold fB fK Ca;cases c:J8 nm ms with
 |none=>exact .inl ⟨rfl,rfl⟩
 |some v=>
  obtain⟨k1,d,e⟩:=Ae2 h c;show _\/(_/\kdR v=2/\v.1=2/\v.2.2=true)\/(_/\kdR v=3/\v.1=2/\v.2.2=false)\/(_/\kdR v≠2/\kdR v≠3/\v.1≠0/\v.1≠2);by_cases b:v.1=4
  ·refine .inr (.inr (.inr ⟨rfl,?_,?_,Ω,Ω⟩))<;>(unfold kdR;rw[Bv b];decide)
  ·by_cases a:v.1=2
   ·cases ht:v.2.2 with
    |true=>exact .inr (.inl ⟨rfl,by unfold kdR;rw[Bd b,Bv a,Bv ht],a,rfl⟩)
    |false=>exact .inr (.inr (.inl ⟨rfl,by unfold kdR;rw[Bd b,Bv a,Bd (by rw[ht];decide)],a,rfl⟩))
   ·refine .inr (.inr (.inr ⟨rfl,?_,?_,Ω,a⟩))<;>(unfold kdR;rw[Bd b,Bd a];decide)
def Axo(T C O X P:JV):Bool:=decide (T.1=4)&&(decide (C.1=4)&&(decide (O.1=4)&&((decide (X.1=0)||decide (X.1=2))&&(bif X.2.2 then decide (P.1=4) else decide (P.1=0)))))
theorem Bcw(T C O X P:JV):S6 T C O X P=if Axo T C O X P=true then (if T.2.1=tyC then OS 1 C O X P else if T.2.1=tyG then OS 2 C O X P else .error 3) else .error 4:=by
 unfold S6 Axo;by_cases b:T.1=4
 ·by_cases c:C.1=4
  ·by_cases d:O.1=4
   ·rw[Bd (by simp[b,c,d]),dT b,dT c,dT d];by_cases e:X.1≠0/\X.1≠2
    ·rw[Bv e,dF e.1,dF e.2];simp
    ·rw[Bd e]
     have f:(decide (X.1=0)||decide (X.1=2))=true:=by
      by_cases q:X.1=0
      ·rw[dT q];rfl
      ·rw[dT (q:=X.1=2) Ω,Bool.or_true]
     rw[f];cases g:X.2.2 with
     |true=>
      by_cases a:P.1=4
      ·rw[dT a,Bd (by simp[a])];rfl
      ·rw[dF a,Bv (.inl ⟨rfl,a⟩)];rfl
     |false=>
      by_cases a:P.1=0
      ·rw[dT a,Bd (by simp[a])];rfl
      ·rw[dF a,Bv (.inr ⟨rfl,a⟩)];rfl
   ·rw[Bv (.inr (.inr d)),dF d];simp
  ·rw[Bv (.inr (.inl c)),dF c];simp
 ·rw[Bv (.inl b),dF b];rfl
section
variable {u d:Nat}{p:Option (Ae->Option A3)}
theorem SG(b:∀m∈ms,Ch m.1)(i:ms.length<=1000000)(Be:1000002<=u)(c:Ch nm):∃n1,Ac (CP p) prog u (d+1) 142 [.lst false 3 (ms.map We).length (G8 (ms.map We)),Bg (Ab nm)]=some ⟨[.agg [Bg n1,Av (fK ms nm),Bg (Ab (fX ms nm))],C3 (fB ms nm)],[]⟩:=by
 have a:∀q∈ms.map We,Ch q.1:=by
  intro q e;obtain⟨w,f,rfl⟩:=kl.1 e;exact b w f
 have h:=Azb (u:=u) (d:=d) (p:=p) a c (by rw[zv];omega) (by rw[zv];omega)
 obtain⟨n1,g⟩:=A3j ms nm;exact⟨n1,h.trans (by rw[g])⟩
theorem A9v:Ch P6:=λx a=>by simp[P6] at a;omega
theorem Bai:Ch U0:=λx a=>by simp[U0] at a;omega
theorem Baj:Ch NF:=λx a=>by simp[NF] at a;omega
theorem Bkz:Ch UW:=λx a=>by simp[UW] at a;omega
theorem Bbp:Ch CF:=λx a=>by simp[CF] at a;omega
theorem LW:ByteArray.mk #[116,121,112,101]=Ab P6:=rfl
theorem LH:ByteArray.mk #[99,104,97,108,108,101,110,103,101]=Ab U0:=rfl
theorem KW:ByteArray.mk #[111,114,105,103,105,110]=Ab NF:=rfl
theorem Adp:ByteArray.mk #[99,114,111,115,115,79,114,105,103,105,110]=Ab UW:=rfl
theorem Tt:ByteArray.mk #[116,111,112,79,114,105,103,105,110]=Ab CF:=rfl
theorem JH{CI nn:Nat}{a0:Ae}{F:An}{cells:Ae}{i:Nat}{n1:ByteArray}(hi:i<3)(c:f9 cells i .top=Bg (Ab nm))(a:F 142 [.lst false 3 (ms.map We).length (G8 (ms.map We)),Bg (Ab nm)]=some ⟨[.agg [Bg n1,Av (fK ms nm),Bg (Ab (fX ms nm))],C3 (fB ms nm)],[]⟩):
  Fv u F CI a0 (nn+1) (ms.map We).length (G8 (ms.map We)) 3 (i:Int) cells=(bif fB ms nm&&(fK ms nm==1) then Fv u F CI a0 nn (ms.map We).length (G8 (ms.map We)) 3 ((i+1:Nat):Int) cells else some ⟨[C3 false],[]⟩):=by
 have d:decide ((i:Int)<((3:Nat):Int))=true:=dT Ω;have e:decide ((0:Int)<=(i:Int))=true:=Ψ
 have f:0+wj (i:Int)*1=i:=Ω
 have k:wrap .i64 ((i:Int)+1)=((i+1:Nat):Int):=Bc
 rw[Ni];cases j:fB ms nm with
 |false=>
  rw[j] at a;simp only[Aq,Ar,d,e,f,c,a,Ix,SK,cond_false]
 |true=>
  rw[j] at a;by_cases b:fK ms nm=1
  ·have g:(fK ms nm==1)=true:=by simp[b]
   have h:(fK ms nm != 1)=false:=by simp[b]
   simp only[Aq,Ar,d,e,f,c,a,Gc,g,h,k,Bool.and_self,cond_true]
  ·have g:(fK ms nm==1)=false:=by simp[b]
   have h:(fK ms nm != 1)=true:=by simp[b]
   simp only[Aq,Ar,d,e,f,c,a,Gc,g,h,Zzt,cond_false]
theorem Beo(h:∀m∈ms,KV m.2)(nm:Ak):(fB ms nm&&(fK ms nm==1))=decide ((Ca nm ms).1=4):=by
 rcases Pb h nm with⟨a,c,b,_⟩|⟨a,c,b,_⟩|⟨a,c,b,_⟩
 ·rw[a,c,dT b];rfl
 ·rw[a,b];rfl
 ·rw[a,dF b];simp[c]
set_option maxHeartbeats 4000000 in
theorem A4q(l:∀m∈ms,Ch m.1)(n:∀m∈ms,KV m.2)(o:ms.length<=1000000)(Be:1000002<=u):Ac (CP p) prog u (d+2) 141 [.lst false 3 (ms.map We).length (G8 (ms.map We))]=some ⟨[C3 (Axo (Ca P6 ms) (Ca U0 ms) (Ca NF ms) (Ca UW ms) (Ca CF ms))],[]⟩:=by
 refine (FX (p:=p) u (d+1) (ms.map We).length (G8 (ms.map We))).trans ?_;obtain⟨u1,f1⟩:=SG (u:=u) (d:=d) (p:=p) l o Be A9v;obtain⟨H,B⟩:=SG (u:=u) (d:=d) (p:=p) l o Be Bai;obtain⟨J,C⟩:=SG (u:=u) (d:=d) (p:=p) l o Be Baj;obtain⟨K,e⟩:=SG (u:=u) (d:=d) (p:=p) l o Be Bkz;obtain⟨L,a⟩:=SG (u:=u) (d:=d) (p:=p) l o Be Bbp;obtain⟨f,rfl⟩:∃f,u=f+4:=⟨u-4,Ω⟩
 simp only[LW,LH,KW];have s1:=JH (u:=f+4) (ms:=ms) (CI:=(ms.map We).length) (nn:=f+3) (a0:=G8 (ms.map We)) (F:=Ac (CP p) prog (f+4) (d+1)) (cells:=[Bg (Ab P6),Bg (Ab U0),Bg (Ab NF)]) (i:=0) Δ rfl f1;have s2:=JH (u:=f+4) (ms:=ms) (CI:=(ms.map We).length) (nn:=f+2) (a0:=G8 (ms.map We)) (F:=Ac (CP p) prog (f+4) (d+1)) (cells:=[Bg (Ab P6),Bg (Ab U0),Bg (Ab NF)]) (i:=1) Δ rfl B;have x:=JH (u:=f+4) (ms:=ms) (CI:=(ms.map We).length) (nn:=f+1) (a0:=G8 (ms.map We)) (F:=Ac (CP p) prog (f+4) (d+1)) (cells:=[Bg (Ab P6),Bg (Ab U0),Bg (Ab NF)]) (i:=2) Δ rfl C;rw[Beo n] at s1 s2 x;refine s1.trans ?_;unfold Axo
 cases M:decide ((Ca P6 ms).1=4) with
 |false=>rfl
 |true=>
 rw[cond_true,Zzm];refine s2.trans ?_;cases N:decide ((Ca U0 ms).1=4) with
 |false=>rfl
 |true=>
 rw[cond_true,Zzm];refine x.trans ?_;cases O:decide ((Ca NF ms).1=4) with
 |false=>rfl
 |true=>
 rw[cond_true,Zzm,Ni];have h:decide (((2+1:Nat):Int)<((3:Nat):Int))=false:=rfl;have D:(true==true)=true:=rfl;have E:(false==true)=false:=rfl;have y:(true==false)=false:=rfl;have A:(false==false)=true:=rfl;rcases Avf n UW with⟨x1,k⟩|⟨x1,k,r,s⟩|⟨x1,k,r,s⟩|⟨x1,k,r,s,G⟩
 ·rw[x1] at e;rw[k];rcases Pb n CF with⟨b,c,g,_⟩|⟨b,c,g,_⟩|⟨b,c,g,w⟩
  ·rw[b,c] at a;have z:((1:Int) != 1)=false:=rfl;rw[dF (q:=(Ca CF ms).1=0) Ω];simp only[Aq,Ar,h,Adp,Tt,e,a,z,y];rfl
  ·rw[b,c] at a;rw[g];simp only[Aq,Ar,h,Adp,Tt,e,a,A];rfl
  ·rw[b] at a;have z:(fK ms CF != 1)=true:=by simp[c]
   rw[dF w];simp only[Aq,Ar,h,Adp,Tt,e,a,z];rfl
 ·rw[x1,k] at e;rw[r,s];have j:((2:Int) != 2)=false:=rfl;have t:((2:Int)==2)=true:=rfl;rcases Pb n CF with⟨b,c,g,_⟩|⟨b,c,g,_⟩|⟨b,c,g,w⟩
  ·rw[b,c] at a;have z:((1:Int) != 1)=false:=rfl;rw[dT g];simp only[Aq,Ar,h,Adp,Tt,e,a,z,j,t,D];rfl
  ·rw[b,c] at a;rw[g];simp only[Aq,Ar,h,Adp,Tt,e,a,j,t,E];rfl
  ·rw[b] at a;have z:(fK ms CF != 1)=true:=by simp[c]
   rw[dF g];simp only[Aq,Ar,h,Adp,Tt,e,a,z,j];rfl
 ·rw[x1,k] at e;rw[r,s];have j:((3:Int) != 2)=true:=rfl;have t:((3:Int)==2)=false:=rfl;have v:((3:Int) != 3)=false:=rfl;rcases Pb n CF with⟨b,c,g,_⟩|⟨b,c,g,_⟩|⟨b,c,g,w⟩
  ·rw[b,c] at a;have z:((1:Int) != 1)=false:=rfl;rw[dF (q:=(Ca CF ms).1=0) Ω];simp only[Aq,Ar,h,Adp,Tt,e,a,z,j,t,v,y];rfl
  ·rw[b,c] at a;rw[g];simp only[Aq,Ar,h,Adp,Tt,e,a,j,t,v,A];rfl
  ·rw[b] at a;have z:(fK ms CF != 1)=true:=by simp[c]
   rw[dF w];simp only[Aq,Ar,h,Adp,Tt,e,a,z,j,v];rfl
 ·rw[x1] at e;have j:(fK ms UW != 2)=true:=by simp[k]
  have v:(fK ms UW != 3)=true:=by simp[r]
  rw[dF s,dF G];simp only[Aq,Ar,h,Adp,Tt,e,a,j,v];rfl
end
theorem A0e:∀(n:Nat)(ms:List (Ak × JV)) (l r:Ak)(ms':List (Ak × JV)),Ra (Dc 8) true n ms l=.ok (ms',r)->ms'.length<=ms.length+n:=by
 intro n
 induction n with
 |zero=>intro ms l r ms' h;cases h
 |succ n g=>
  intro ms l r ms' h;rw[Lu] at h;rcases i:D1 l with⟨o,q⟩;rw[i] at h;cases o with
  |none=>cases h
  |some m=>
   simp only at h;split at h
   ·cases h
   cases a:Az [58] (Aw q) with
   |none=>rw[a] at h;cases h
   |some j=>
    rw[a] at h;simp only at h;cases b:Dc 8 (Aw j) with
    |error e=>rw[b] at h;cases h
    |ok x=>
     obtain⟨v,c⟩:=x;rw[b] at h;simp only at h;cases d:Az [125] (Aw c) with
     |some k=>rw[d] at h;cases h;simp
     |none=>
      rw[d] at h;simp only at h;cases f:Az [44] (Aw c) with
      |none=>rw[f] at h;cases h
      |some k=>
       rw[f] at h;have:=g _ _ _ _ h;simp at this;omega
theorem Azc(h:XM 8 l=.ok ms):ms.length<=l.length+1:=by
 rw[Vi] at h;cases a:Az [123] (Aw l) with
 |none=>rw[a] at h;cases h
 |some r=>
  rw[a] at h;simp only at h;rw[Ol] at h;have f:=QI a;have g:=Hr l;have i:=Hr r;cases c:Az [125] (Aw r) with
  |some r'=>
   rw[c] at h;simp only at h;split at h
   ·cases h;simp
   ·cases h
  |none=>
   rw[c] at h;simp only at h;cases b:Ra (Dc 8) true ((Aw r).length+1) [] (Aw r) with
   |error e=>rw[b] at h;cases h
   |ok x=>
    obtain⟨d,r'⟩:=x;rw[b] at h;simp only at h;split at h
    ·cases h;have:=A0e _ _ _ _ _ b;simp at this;omega
    ·cases h
def pdR:JR CD->A3
 |.ok (k,b,o,x,q)=>⟨[.agg [Av k,.own 1 b.length (Af .u8 b),Bg (Ab o),C3 x,Bg (Ab q)],Av 0],[]⟩
 |.error e=>⟨[.agg [Av 0,.own 1 0 [],Bg ⟨#[]⟩,C3 false,Bg ⟨#[]⟩],Av e],[]⟩
section
variable {u d:Nat}
theorem A6d(s:ByteArray)(h:s.size<=9223372036854775807):Ac C1 prog u (d+1) 124 [Bg s]=some ⟨[C3 (fh s.data.toList)],[]⟩:=by have e:Ac C1 prog u (d+1) 124 [Bg s]=Aa0 [Bg s]:=rfl;rw[e];unfold Aa0;simp only[dT h,cond_true]
set_option maxHeartbeats 8000000 in
theorem A7z(Be:1000400<=u):Ac C1 prog u (d+23) 107 [Bg t]=some (pdR (L4 t)):=by
 have er:=Zm (p:=some Bz) u (d+22) t;refine er.trans ?_;clear er;unfold L4;by_cases hs:1024<t.size
 ·have k:=dT (q:=((t.size:Nat):Int)>1024) Ω;rw[Bv hs];simp only[Aq,Ar,k];rfl
 have k:=dF (q:=((t.size:Nat):Int)>1024) Ω;have g:=A6d (u:=u) (d:=d+21) t Ω;have g:Ac C1 prog u (d+22) 124 [Bg t]=_:=g;rw[Bd hs];cases hv:fh t.data.toList with
 |false=>
  rw[hv] at g;rw[Bv rfl];simp only[Aq,Ar,k,g,Ix];rfl
 |true=>
 rw[hv] at g;rw[Bd Δ];obtain⟨i,e,ls,Y,n⟩:=Awz (u:=u) (d:=d) (p:=some Bz) (t:=t) Ω Ω;have n:Ac C1 prog u (d+22) 140 [.pbox (jC t 0 0)]=_:=n;have hB:=Vn t;cases ht:XM 8 (Cp t) with
 |error c=>
  rw[ht] at Y;obtain⟨rfl,hc⟩:=Y;have z:(e != 0)=true:=by simp[hc]
  simp only[Aq,Ar,k,g,Gc,n,z];rfl
 |ok a=>
 rw[ht] at Y;obtain⟨rfl,rfl⟩:=Y;have Bm2:=Azc ht;rw[Cj] at Bm2;have U:=As4 hB (by rw[Cj];omega) ht
 have H:∀m∈a,Ch m.1:=λm hm=>(U m hm).1.1;have S:=Au4 ht;have sh:=A4q (u:=u) (d:=d+20) (p:=some Bz) H S Ω Ω;have sh:Ac C1 prog u (d+22) 141 [.lst false 3 (a.map We).length (G8 (a.map We))]=_:=sh;obtain⟨u1,f1⟩:=SG (u:=u) (d:=d+21) (p:=some Bz) H Ω Ω A9v;have f1:Ac C1 prog u (d+22) 142 [.lst false 3 (a.map We).length (G8 (a.map We)),Bg (Ab P6)]=_:=f1;obtain⟨u2,o⟩:=SG (u:=u) (d:=d+21) (p:=some Bz) H Ω Ω Bai;have o:Ac C1 prog u (d+22) 142 [.lst false 3 (a.map We).length (G8 (a.map We)),Bg (Ab U0)]=_:=o;obtain⟨u3,r⟩:=SG (u:=u) (d:=d+21) (p:=some Bz) H Ω Ω Baj
 have r:Ac C1 prog u (d+22) 142 [.lst false 3 (a.map We).length (G8 (a.map We)),Bg (Ab NF)]=_:=r;obtain⟨u5,l⟩:=SG (u:=u) (d:=d+21) (p:=some Bz) H Ω Ω Bbp;have l:Ac C1 prog u (d+22) 142 [.lst false 3 (a.map We).length (G8 (a.map We)),Bg (Ab CF)]=_:=l;obtain⟨o1,o2⟩:=HG (a.map We);have y:decide (0+(a.map We).length*3<=(G8 (a.map We)).length)=true:=by rw[I8];exact o1
 have A:yt ((a.map We).length*3) (nb 0 (G8 (a.map We)))=G8 (a.map We):=by rw[Jo];exact o2
 have B:((0:Int) != 0)=false:=rfl;show _=some (pdR (VH a));unfold VH;rw[Bcw];cases R:Axo (Ca P6 a) (Ca U0 a) (Ca NF a) (Ca UW a) (Ca CF a) with
 |false=>
  rw[R] at sh;rw[Bd Δ];simp only[Aq,Ar,k,g,Gc,n,B,y,A,sh,Ix];rfl
 |true=>
 rw[R] at sh;rw[Bv rfl];have Aqu:=R;unfold Axo at Aqu;simp only[Gh,decide_eq_true_iff] at Aqu;obtain⟨hT,hC,hO,hX,J⟩:=Aqu;have gT:fX a P6=(Ca P6 a).2.1:=by rcases Pb S P6 with⟨_,_,_,h⟩|⟨_,_,h,_⟩|⟨_,_,h,_⟩<;>first|exact h|(rw[h] at hT;cases hT)|exact absurd hT h
 have gC:fX a U0=(Ca U0 a).2.1:=by rcases Pb S U0 with⟨_,_,_,h⟩|⟨_,_,h,_⟩|⟨_,_,h,_⟩<;>first|exact h|(rw[h] at hC;cases hC)|exact absurd hC h
 have gO:fX a NF=(Ca NF a).2.1:=by rcases Pb S NF with⟨_,_,_,h⟩|⟨_,_,h,_⟩|⟨_,_,h,_⟩<;>first|exact h|(rw[h] at hO;cases hO)|exact absurd hO h
 have gP:fX a CF=(Ca CF a).2.1/\fB a CF=(Ca UW a).2.2:=by
  cases N:(Ca UW a).2.2 with
  |true=>
   rw[N] at J;have J:(Ca CF a).1=4:=by simpa using J
   rcases Pb S CF with⟨Q,_,_,h⟩|⟨_,_,h,_⟩|⟨_,_,h,_⟩
   ·exact⟨h,Q⟩
   ·rw[h] at J;cases J
   ·exact absurd J h
  |false=>
   rw[N] at J;have J:(Ca CF a).1=0:=by simpa using J
   rcases Pb S CF with⟨_,_,h,_⟩|⟨Q,_,h,L⟩|⟨_,_,_,h⟩
   ·omega
   ·exact⟨by rw[L,h],Q⟩
   ·exact absurd J h
 have vB:∀Z,Ch (Ca Z a).2.1/\(Ca Z a).2.1.length<=4*t.size:=by
  intro Z;unfold Ca J8;cases hq:a.find? (λm=>m.1==Z) with
  |none=>exact⟨(λx N=>nomatch N),jt _⟩
  |some m=>
   have h:=(U m (lx hq)).2;have L:=h.2;rw[Cj] at L;exact⟨h.1,L⟩
 rw[gT] at f1;rw[gC] at o;rw[gO] at r;rw[gP.1,gP.2] at l;obtain⟨tB,tL⟩:=vB P6;obtain⟨cB,cL⟩:=vB U0;obtain⟨oB,oL⟩:=vB NF;obtain⟨pB,pL⟩:=vB CF;generalize (Ca P6 a).2.1=T at f1 tB tL ⊢;unfold OS;generalize (Ca U0 a).2.1=C at o cB cL ⊢;generalize (Ca NF a).2.1=O at r oB oL ⊢;generalize (Ca CF a).2.1=P at l pB pL ⊢;generalize (Ca UW a).2.2=X at l ⊢;have f:Ac C1 prog u (d+22) 40 [Av 1]=some ⟨[Bg (Ab tyC)],[]⟩:=Ahf (u:=u) (d:=d+21) (p:=some Bz) 1;have v:Ac C1 prog u (d+22) 40 [Av 2]=some ⟨[Bg (Ab tyG)],[]⟩:=Ahf (u:=u) (d:=d+21) (p:=some Bz) 2;have s:Ac C1 prog u (d+22) 143 [Bg (Ab C)]=_:=A8q (u:=u) (d:=d+20) (p:=some Bz) cB Ω Ω Ω
 obtain⟨r1,r2,r3,G⟩:=Aix (u:=u) (d:=d+17) (p:=some Bz) oB Ω Ω Ω;have G:Ac C1 prog u (d+22) 41 [Bg (Ab O)]=_:=G;obtain⟨r4,r5,r6,j⟩:=Aix (u:=u) (d:=d+17) (p:=some Bz) pB Ω Ω Ω;have j:Ac C1 prog u (d+22) 41 [Bg (Ab P)]=_:=j;have tCB:Ch tyC:=λx N=>by simp[tyC] at N;omega
 have tGB:Ch tyG:=λx N=>by simp[tyG] at N;omega
 have w:=Wh tB tCB;have K:=Wh tB tGB;by_cases Q:T=tyC
 ·rw[dT Q] at w;rw[Bv Q];cases hd:Nr C with
  |none=>
   rw[hd] at s;have zz:((2:Int) != 0)=true:=rfl;simp only[Aq,Ar,k,g,Gc,n,B,y,A,sh,LW,LH,KW,Tt,f1,o,r,l,f,w,s,zz];rfl
  |some b=>
   rw[hd] at s;simp only;have k1:decide (b.length*1<=(Af .u8 b).length)=true:=by rw[Al];simp
   have V:yt (b.length*1) (Af .u8 b)=Af .u8 b:=Gp (by rw[Al];omega)
   by_cases W:b.length<1
   ·have D:=dT (q:=((b.length:Nat):Int)<1) Ω;rw[Bv (.inl W)];simp only[Aq,Ar,k,g,Gc,n,B,y,A,sh,LW,LH,KW,Tt,f1,o,r,l,f,w,s,D];rfl
   have D:=dF (q:=((b.length:Nat):Int)<1) Ω;by_cases Ke:64<b.length
   ·have E:=dT (q:=((b.length:Nat):Int)>64) Ω;rw[Bv (.inr Ke)];simp only[Aq,Ar,k,g,Gc,n,B,y,A,sh,LW,LH,KW,Tt,f1,o,r,l,f,w,s,D,E];rfl
   have E:=dF (q:=((b.length:Nat):Int)>64) Ω;rw[Bd (λh=>h.elim W Ke)];by_cases M:Hv O=0
   rotate_left
   ·have zo:=nn0 _ M;rw[Bv M];simp only[Aq,Ar,k,g,Gc,n,B,y,A,sh,LW,LH,KW,Tt,f1,o,r,l,f,w,s,D,E,G,zo];rfl
   rw[M] at G;rw[Bd (by simp[M])];cases X with
   |false=>
    rw[Bd Ψ];simp only[Aq,Ar,k,g,Gc,n,B,y,A,sh,LW,LH,KW,Tt,f1,o,r,l,f,w,s,D,E,G,j,k1,V];rfl
   |true=>
    by_cases hp:Hv P=0
    ·rw[hp] at j;rw[Bd (by simp[hp])];simp only[Aq,Ar,k,g,Gc,n,B,y,A,sh,LW,LH,KW,Tt,f1,o,r,l,f,w,s,D,E,G,j,k1,V];rfl
    ·have zp:=nn0 _ hp;rw[Bv ⟨rfl,hp⟩];simp only[Aq,Ar,k,g,Gc,n,B,y,A,sh,LW,LH,KW,Tt,f1,o,r,l,f,w,s,D,E,G,j,zp];rfl
 ·rw[dF Q] at w;rw[Bd Q];by_cases L:T=tyG
  rotate_left
  ·rw[dF L] at K;rw[Bd L];simp only[Aq,Ar,k,g,Gc,n,B,y,A,sh,LW,LH,KW,Tt,f1,o,r,l,f,w,v,K,Ix];rfl
  rw[dT L] at K;rw[Bv L];cases hd:Nr C with
  |none=>
   rw[hd] at s;have zz:((2:Int) != 0)=true:=rfl;simp only[Aq,Ar,k,g,Gc,n,B,y,A,sh,LW,LH,KW,Tt,f1,o,r,l,f,w,v,K,Ix,s,zz];rfl
  |some b=>
   rw[hd] at s;simp only;have k1:decide (b.length*1<=(Af .u8 b).length)=true:=by rw[Al];simp
   have V:yt (b.length*1) (Af .u8 b)=Af .u8 b:=Gp (by rw[Al];omega)
   by_cases W:b.length<1
   ·have D:=dT (q:=((b.length:Nat):Int)<1) Ω;rw[Bv (.inl W)];simp only[Aq,Ar,k,g,Gc,n,B,y,A,sh,LW,LH,KW,Tt,f1,o,r,l,f,w,v,K,Ix,s,D];rfl
   have D:=dF (q:=((b.length:Nat):Int)<1) Ω;by_cases Ke:64<b.length
   ·have E:=dT (q:=((b.length:Nat):Int)>64) Ω;rw[Bv (.inr Ke)];simp only[Aq,Ar,k,g,Gc,n,B,y,A,sh,LW,LH,KW,Tt,f1,o,r,l,f,w,v,K,Ix,s,D,E];rfl
   have E:=dF (q:=((b.length:Nat):Int)>64) Ω;rw[Bd (λh=>h.elim W Ke)];by_cases M:Hv O=0
   rotate_left
   ·have zo:=nn0 _ M;rw[Bv M];simp only[Aq,Ar,k,g,Gc,n,B,y,A,sh,LW,LH,KW,Tt,f1,o,r,l,f,w,v,K,Ix,s,D,E,G,zo];rfl
   rw[M] at G;rw[Bd (by simp[M])];cases X with
   |false=>
    rw[Bd Ψ];simp only[Aq,Ar,k,g,Gc,n,B,y,A,sh,LW,LH,KW,Tt,f1,o,r,l,f,w,v,K,Ix,s,D,E,G,j,k1,V];rfl
   |true=>
    by_cases hp:Hv P=0
    ·rw[hp] at j;rw[Bd (by simp[hp])];simp only[Aq,Ar,k,g,Gc,n,B,y,A,sh,LW,LH,KW,Tt,f1,o,r,l,f,w,v,K,Ix,s,D,E,G,j,k1,V];rfl
    ·have zp:=nn0 _ hp;rw[Bv ⟨rfl,hp⟩];simp only[Aq,Ar,k,g,Gc,n,B,y,A,sh,LW,LH,KW,Tt,f1,o,r,l,f,w,v,K,Ix,s,D,E,G,j,zp];rfl
end
structure Sd where
 id:Ak
 ht:Int
 root:Int
 model:Int
 fmt:Int
 sh:Bool
 used:Int
 rg:List (Int × Int)
 sus:Bool
 since:Int
 last:Int
def Gv(l:List (Int × Int)):Ae:=l.flatMap λp=>[Av p.1,Av p.2]
theorem He(l:List (Int × Int)):(Gv l).length=l.length*2:=by
 induction l with
 |nil=>rfl
 |cons p r a=>show ([_,_]++Gv r).length=_;rw[Ru,a,M9];simp;omega
theorem A4k(p:Int × Int)(r:List (Int × Int)):Gv (p::r)=Av p.1 :: Av p.2::Gv r:=rfl
theorem Yo(l r:List (Int × Int)):Gv (l++r)=Gv l++Gv r:=kk
def Sd.cells(x:Sd):Ae:=[.lst false 1 x.id.length (Af .u8 x.id),Av x.ht,Ah x.root,Ah x.model,Av x.fmt,C3 (x.sh),Ah x.used,.lst false 2 x.rg.length (Gv x.rg),C3 (x.sus),Av x.since,Av x.last]
def Aqa(used leaf:Int):Bool:=used.toNat.testBit leaf.toNat
theorem Anl{b:Int}(d:0<=a)(c:a<=18446744073709551615)(f:0<=b)(g:b<=18446744073709551615):C8 .u64 a b=((a.toNat &&& b.toNat:Nat):Int):=by
 have e:(zx 64 a &&& zx 64 b).toNat=a.toNat &&& b.toNat:=by
  rw[BitVec.toNat_and,we,we]
  congr 1<;>omega
 have JJ:a.toNat &&& b.toNat<=a.toNat:=Nat.and_le_left;show wrap .u64 ((zx 64 a &&& zx 64 b).toNat:Int)=_;rw[e];exact Cq
theorem A7m{b:Int}(d:0<=a)(c:a<=18446744073709551615)(f:0<=b)(g:b<=18446744073709551615):Vm .u64 a b=((a.toNat ||| b.toNat:Nat):Int):=by
 have e:(zx 64 a ||| zx 64 b).toNat=a.toNat ||| b.toNat:=by
  rw[wg,we,we]
  congr 1<;>omega
 have Ct:a.toNat ||| b.toNat<2 ^ 64:=ld Ω Ω;show wrap .u64 ((zx 64 a ||| zx 64 b).toNat:Int)=_;rw[e];exact Cq
theorem OR(h:n<=15):(2:Nat) ^ n<=32768:=Nat.le_trans (gr Ω h) Δ
theorem Bj7(a:0<=k)(b:k<=15):Dv .u64 1 k=((2 ^ k.toNat:Nat):Int):=by
 have hp:=OR (n:=k.toNat) Ω;have e:min k.toNat IntKind.u64.bits=k.toNat:=va (by show k.toNat<=64;omega)
 show wrap .u64 (1*2 ^ (min k.toNat IntKind.u64.bits))=_;rw[e,lm,show (2:Int) ^ k.toNat=((2 ^ k.toNat:Nat):Int) by simp];generalize 2 ^ k.toNat=m at hp ⊢;exact Cq
theorem Bgy(a:0<=k)(b:k<=15):Dv .i64 1 k=((2 ^ k.toNat:Nat):Int):=by
 have hp:=OR (n:=k.toNat) Ω;have e:min k.toNat IntKind.i64.bits=k.toNat:=va (by show k.toNat<=64;omega)
 show wrap .i64 (1*2 ^ (min k.toNat IntKind.i64.bits))=_;rw[e,lm,show (2:Int) ^ k.toNat=((2 ^ k.toNat:Nat):Int) by simp];generalize 2 ^ k.toNat=m at hp ⊢;exact Ba
theorem A8m(a k:Nat):(a &&& 2 ^ k≠0)↔a.testBit k=true:=by
 constructor
 ·intro h;cases b:a.testBit k
  ·refine absurd (Nat.eq_of_testBit_eq λi=>?_) h;rw[lg,lh,li];by_cases e:k=i
   ·subst e;simp[b]
   ·simp[e]
  ·rfl
 ·intro h e;have:=lg a (2 ^ k) k;rw[e,li,h,lh] at this;simp at this
theorem Aus{u:Int}(c:0<=u)(a:u<=18446744073709551615)(d:0<=k)(e:k<=15):(C8 .u64 u (Dv .u64 1 k) != 0)=Aqa u k:=by
 have hp:=OR (n:=k.toNat) Ω;have:=A8m u.toNat k.toNat;unfold Aqa;rw[Bj7 d e];generalize 2 ^ k.toNat=m at hp this ⊢;rw[Anl c a Ω Ω,Hy];cases b:u.toNat.testBit k.toNat
 ·rw[b] at this;simp only[ne_eq,qf,iff_false,Decidable.not_not] at this;rw[this];rfl
 ·rw[b] at this;simp only[ne_eq,iff_true] at this;simp only[bne_iff_ne,ne_eq];omega
theorem Ap0{u:Int}(a:0<=u)(b:u<=18446744073709551615)(d:0<=k)(f:k<=15):(C8 .u64 (E4 .u64 u k) 1==1)=Aqa u k:=by
 have e:E4 .u64 u k=((u.toNat >>> k.toNat:Nat):Int):=by
  unfold E4;rw[lj];obtain⟨n,rfl⟩:=g8 a;rw[Int.fdiv_eq_ediv_of_nonneg _ (by exact Int.le_of_lt (Int.pow_pos Ω)),va (by show k.toNat<=64;omega)]
  simp
 have JJ:u.toNat >>> k.toNat<=u.toNat:=by rw[lj];exact Nat.div_le_self _ _
 have c:C8 .u64 ((u.toNat >>> k.toNat:Nat):Int) 1=((u.toNat >>> k.toNat % 2:Nat):Int):=by
  generalize u.toNat >>> k.toNat=m at JJ ⊢;rw[Anl Ω Ω Ω Ω,Hy,show wj 1=1 from rfl,Nat.and_one_is_mod]
 rw[e,c];unfold Aqa;rw[Nat.testBit_eq_decide_div_mod_eq,lj];rw[fk];simp only[beq_iff_eq,JT];generalize u.toNat / 2 ^ k.toNat=m;omega
def Anr(u k:Int):Int:=Vm .u64 u (Dv .u64 1 k)
theorem Ber{u:Int}(b:0<=u)(a:u<=18446744073709551615)(c:0<=k)(d:k<=15):0<=Anr u k/\Anr u k<=18446744073709551615:=by have hp:=OR (n:=k.toNat) Ω;unfold Anr;rw[Bj7 c d];generalize 2 ^ k.toNat=m at hp ⊢;rw[A7m b a Ω Ω];have Ct:u.toNat ||| ((m:Nat):Int).toNat<2 ^ 64:=ld Ω Ω;omega
def put(f lf:Int):List (Int × Int)->Option (List (Int × Int))
 |[]=>some [(f,lf)]
 |p::r=>if p.1<f then (put f lf r).map (p :: ·) else if p.1=f then (if lf<=p.2 then none else some ((f,lf)::r)) else some ((f,lf)::p::r)
def Asc:List (Int × Int)->Prop
 |[]=>True
 |p::r=>(∀q∈r,p.1<q.1)/\Asc r
theorem At4{f lf:Int}:∀{l r:List (Int × Int)},put f lf l=some r->∀q∈r,q=(f,lf)\/q∈l
 |[],r,h,q,a=>by cases h;simp at a;exact .inl a
 |p::l,r,h,q,a=>by
  unfold put at h;split at h
  ·cases hp:put f lf l with
   |none=>rw[hp] at h;cases h
   |some r'=>
    rw[hp] at h;cases h;rcases zl.1 a with rfl|a
    ·exact .inr Ψ
    ·exact (At4 hp q a).imp id λh=>by simp[h]
  ·split at h
   ·split at h
    ·cases h
    ·cases h;rcases zl.1 a with rfl|a
     ·exact .inl rfl
     ·exact .inr (by simp[a])
   ·cases h;rcases zl.1 a with rfl|a
    ·exact .inl rfl
    ·exact .inr a
theorem Asn{f lf:Int}:∀{l r:List (Int × Int)},Asc l->put f lf l=some r->Asc r
 |[],r,_,h=>by cases h;exact⟨Ψ,trivial⟩
 |p::l,r,b,h=>by
  unfold put at h;split at h
  ·rename_i c;cases hp:put f lf l with
   |none=>rw[hp] at h;cases h
   |some r'=>
    rw[hp] at h;cases h;refine⟨λq a=>?_,Asn b.2 hp⟩;rcases At4 hp q a with rfl|a
    ·exact c
    ·exact b.1 q a
  ·split at h
   ·rename_i d;split at h
    ·cases h
    ·cases h;exact⟨λq a=>by have:=b.1 q a;simp only;omega,b.2⟩
   ·cases h;refine⟨λq a=>?_,b⟩;rcases zl.1 a with rfl|a
    ·simp only;omega
    ·have:=b.1 q a;simp only;omega
def Wz(c:Sd)(leaf from_:Int):Bool:=decide (c.ht<0)||decide (c.ht>4)||decide (from_<0)||decide (from_>leaf)||decide (leaf>=Dv .i64 1 c.ht)
def K9(c:Sd)(leaf from_ now:Int):Sd × Int:=
 if Wz c leaf from_=true then (c,9)
 else if c.sus=true then (c,39)
 else if Aqa c.used leaf=true then ({ c with sus:=true },37)
 else match put from_ leaf c.rg with
  |none=>(c,37)
  |some r=>({ c with used:=Anr c.used leaf,rg:=r,last:=now },0)
structure Sd.ok(c:Sd):Prop where
 idB:Ch c.id
 idL:c.id.length<=1000000
 u0:0<=c.used
 u1:c.used<=18446744073709551615
 asc:Asc c.rg
 rgn:c.rg.length<=1000
theorem Ahq{f lf:Int}:∀{l r:List (Int × Int)},put f lf l=some r->r.length<=l.length+1
 |[],r,h=>by cases h;simp
 |p::l,r,h=>by
  unfold put at h;split at h
  ·cases hp:put f lf l with
   |none=>rw[hp] at h;cases h
   |some r'=>
    rw[hp] at h;cases h;have:=Ahq hp;simp;omega
  ·split at h
   ·split at h
    ·cases h
    ·cases h;simp
   ·cases h;simp
theorem NX{c:Sd}{from_:Int}(h:Wz c leaf from_=false):0<=from_/\from_<=leaf/\leaf<=15/\0<=c.ht/\c.ht<=4/\leaf<((2 ^ c.ht.toNat:Nat):Int):=by
 unfold Wz at h;simp only[ve,decide_eq_false_iff_not] at h;obtain⟨⟨⟨⟨d,e⟩,f⟩,g⟩,a⟩:=h;rw[Bgy Ω Ω] at a;have hp:(2:Nat) ^ c.ht.toNat<=2 ^ 4:=gr Ω Ω;have b:(2:Nat) ^ 4=16:=Δ
 omega
section
variable {I:FuncId->Option (Ae->Option A3)}(u d:Nat)(F:An)
theorem FE(u d:Nat)(Z Y X:Int):Ac (CP p) prog u (d+1) 22 [Z,Y,X]=(λ(F:An)=>Ap (decide (Z>=Y)) (A9 [C3 (decide (Z<=X))]) (A9 [false])) (Ac (CP p) prog u d):=Κ
def Yg(Z:Nat)(Y:Ae)(X W:Int)(V U:Int)(T:Bool)(S:Int)(Q:Nat)(P:Ae)(O:Bool)(N M:Int)(L K J:Int)(I:Nat)(H G E:Int)(D:Nat)(B A:Int)(z w:Int)(v:Bool)(a:Int)(t:Nat)(b:Bool)(y12 c:Int)(d e:Ae)(f:Nat)(g h:Int)(TC TU:Int)(UP:Bool)(HQ:Int)(KM:Nat)(KY:Bool)(KZ FC:Int)(DI KP:Ae):Option A3:=Hq u F 60 Tryz.f60 [.agg [Am 1 Z Y,X,Ah W,Ah V,U,T,Ah S,Am 2 Q P,O,N,M],L,K,J] [.r,.r,.r] I ⟨lk [(1,H),(2,G),(3,E),(4,.ptr 4 0),(8,.ptr 8 0)],Fb [(4,.st [.view 120 1 0 D,B,Ah A,Ah z,w,v,Ah a,.view 932 2 0 t,b,y12,c]),(120,.ar false d),(932,.ar false e),(8,.st [.view 124 1 0 f,g,Ah h,Ah TC,TU,UP,Ah HQ,.view 936 2 0 KM,KY,KZ,FC]),(124,.ar false DI),(936,.ar false KP)]⟩
def K2(Z:Nat)(Y:Ae)(X W:Int)(V U:Int)(T:Bool)(S:Int)(Q:Nat)(P:Ae)(O:Bool)(N M:Int)(L K J:Int)(I:Nat)(H G:Int)(E D B:Int)(A:Nat)(z w:Int)(v a:Int)(t:Bool)(b:Int)(y12:Nat)(c:Bool)(d e:Int)(f g:Ae)(h:Nat)(TC TU:Int)(UP HQ:Int)(KM:Bool)(KY:Int)(KZ:Nat)(FC:Bool)(DI KP:Int)(LY i:Ae):Option A3:=Hq u F 60 Tryz.f60 [.agg [Am 1 Z Y,X,Ah W,Ah V,U,T,Ah S,Am 2 Q P,O,N,M],L,K,J] [.r,.r,.r,.r,.r,.r,.r,.r,.l,.l] I ⟨lk [(1,H),(2,G),(3,E),(4,.ptr 4 0),(8,.ptr 8 0),(11,Ah D),(12,B)],Fb [(4,.st [.view 120 1 0 A,z,Ah w,Ah v,a,t,Ah b,.view 932 2 0 y12,c,d,e]),(120,.ar false f),(932,.ar false g),(8,.st [.view 124 1 0 h,TC,Ah TU,Ah UP,HQ,KM,Ah KY,.view 936 2 0 KZ,FC,DI,KP]),(124,.ar false LY),(936,.ar false i)]⟩
theorem KN(J:Nat)(I:Ae)(H G:Int)(E D:Int)(B:Bool)(A:Int)(z:Nat)(w:Ae)(v:Bool)(c t:Int)(a1 a2 a3:Int)(U:Nat)(Es:0<U)(T y1 g:Int)(Z:Nat)(S Q:Int)(P O:Int)(N:Bool)(V:Int)(Y:Nat)(M:Bool)(L K:Int)(X W:Ae)(d:Nat)(e f:Int)(TC TU:Int)(UP:Bool)(HQ:Int)(KM:Nat)(KY:Bool)(KZ FC:Int)(DI KP:Ae):Yg u F J I H G E D B A z w v c t a1 a2 a3 U T y1 g Z S Q P O N V Y M L K X W d e f TC TU UP HQ KM KY KZ FC DI KP=(Ap M (As (decide (0+Z*1<=X.length))<|As (decide (0+Y*2<=W.length))<|A9 [.agg [Am 1 Z (yt (Z*1) (X.drop 0)),S,Ah Q,Ah P,O,N,Ah V,Am 2 Y (yt (Y*2) (W.drop 0)),M,L,K],(39:Int)]) (As (decide (0<=T))<|Aa (Dv .u64 1 T) λa=>Aa (C8 .u64 V a) λb=>Ap (b != 0) (As (decide (0+Z*1<=X.length))<|As (decide (0+Y*2<=W.length))<|A9 [.agg [Am 1 Z (yt (Z*1) (X.drop 0)),S,Ah Q,Ah P,O,N,Ah V,Am 2 Y (yt (Y*2) (W.drop 0)),true,L,K],(37:Int)]) (K2 u F J I H G E D B A z w v c t a1 a2 a3 u T y1 g a 0 Z S Q P O N V Y M L K X W d e f TC TU UP HQ KM KY KZ FC DI KP))):=by cases U with|zero=>exact absurd Es (wo 0)|succ U=>kernel_rfl
theorem Uq(G:Nat)(E:Ae)(D B:Int)(A z:Int)(w:Bool)(v:Int)(d:Nat)(t:Ae)(Ai4:Bool)(Aim RO:Int)(a1 a2 a3:Int)(nn:Nat)(U K:Int)(J I Z:Int)(X:Nat)(T S:Int)(Q P:Int)(O:Bool)(N:Int)(Y:Nat)(M:Bool)(L H:Int)(V W:Ae)(f:Nat)(TC TU:Int)(UP HQ:Int)(KM:Bool)(KY:Int)(KZ:Nat)(FC:Bool)(DI KP:Int)(LY g:Ae):K2 u F G E D B A z w v d t Ai4 Aim RO a1 a2 a3 (nn+1) U K J I Z X T S Q P O N Y M L H V W f TC TU UP HQ KM KY KZ FC DI KP LY g=(Ap (decide (Z<(↑Y:Int))) (As (decide (0<=Z)&&decide (Z<(↑Y:Int)))<|Bi .i64 (W.getD (0+Z.toNat*2+0) .top) λa=>Ap (decide (a<K)) (Aa (wrap .i64 (Z+1)) λa=>K2 u F G E D B A z w v d t Ai4 Aim RO a1 a2 a3 nn U K J I a X T S Q P O N Y M L H V W f TC TU UP HQ KM KY KZ FC DI KP LY g) (Ap (Z==(↑Y:Int)) (As (decide (Y*2<=W.length))<|Ao (F 106 [.own 2 Y (W.take (Y*2)),Z,PV.tup [.own 2 1 [K,U]]]) λa b=>ZzO 2 a λa c e=>Ag e<|Ad b λb e=>Ag e<|As (decide (0<=Z)&&decide (Z<(↑a:Int)))<|As (decide (0+Z.toNat*2+1+1<=c.length))<|Aa (B9 c [U] (0+Z.toNat*2+1)) λb=>Aa (Vm .u64 N I) λc=>As (decide (0+X*1<=V.length))<|As (decide (0+a*2<=b.length))<|A9 [.agg [Am 1 X (yt (X*1) (V.drop 0)),T,Ah S,Ah Q,P,O,Ah c,Am 2 a (yt (a*2) (b.drop 0)),M,L,J],(0:Int)]) (As (decide (0<=Z)&&decide (Z<(↑Y:Int)))<|Bi .i64 (W.getD (0+Z.toNat*2+0) .top) λa=>Ap (a != K) (As (decide (Y*2<=W.length))<|Ao (F 106 [.own 2 Y (W.take (Y*2)),Z,PV.tup [.own 2 1 [K,U]]]) λa b=>ZzO 2 a λa c e=>Ag e<|Ad b λb e=>Ag e<|As (decide (0<=Z)&&decide (Z<(↑a:Int)))<|As (decide (0+Z.toNat*2+1+1<=c.length))<|Aa (B9 c [U] (0+Z.toNat*2+1)) λb=>Aa (Vm .u64 N I) λc=>As (decide (0+X*1<=V.length))<|As (decide (0+a*2<=b.length))<|A9 [.agg [Am 1 X (yt (X*1) (V.drop 0)),T,Ah S,Ah Q,P,O,Ah c,Am 2 a (yt (a*2) (b.drop 0)),M,L,J],(0:Int)]) (As (decide (0<=Z)&&decide (Z<(↑Y:Int)))<|Bi .i64 (W.getD (0+Z.toNat*2+1) .top) λa=>Ap (decide (a>=U)) (As (decide (0+X*1<=V.length))<|As (decide (0+Y*2<=W.length))<|A9 [.agg [Am 1 X (yt (X*1) (V.drop 0)),T,Ah S,Ah Q,P,O,Ah N,Am 2 Y (yt (Y*2) (W.drop 0)),M,L,H],(37:Int)]) (As (decide (0<=Z)&&decide (Z<(↑Y:Int)))<|As (decide (0+Z.toNat*2+1+1<=W.length))<|Aa (B9 W [U] (0+Z.toNat*2+1)) λa=>Aa (Vm .u64 N I) λb=>As (decide (0+X*1<=V.length))<|As (decide (0+Y*2<=a.length))<|A9 [.agg [Am 1 X (yt (X*1) (V.drop 0)),T,Ah S,Ah Q,P,O,Ah b,Am 2 Y (yt (Y*2) (a.drop 0)),M,L,J],(0:Int)]))))) (Ap (Z==(↑Y:Int)) (As (decide (Y*2<=W.length))<|Ao (F 106 [.own 2 Y (W.take (Y*2)),Z,PV.tup [.own 2 1 [K,U]]]) λa b=>ZzO 2 a λa c e=>Ag e<|Ad b λb e=>Ag e<|As (decide (0<=Z)&&decide (Z<(↑a:Int)))<|As (decide (0+Z.toNat*2+1+1<=c.length))<|Aa (B9 c [U] (0+Z.toNat*2+1)) λb=>Aa (Vm .u64 N I) λc=>As (decide (0+X*1<=V.length))<|As (decide (0+a*2<=b.length))<|A9 [.agg [Am 1 X (yt (X*1) (V.drop 0)),T,Ah S,Ah Q,P,O,Ah c,Am 2 a (yt (a*2) (b.drop 0)),M,L,J],(0:Int)]) (As (decide (0<=Z)&&decide (Z<(↑Y:Int)))<|Bi .i64 (W.getD (0+Z.toNat*2+0) .top) λa=>Ap (a != K) (As (decide (Y*2<=W.length))<|Ao (F 106 [.own 2 Y (W.take (Y*2)),Z,PV.tup [.own 2 1 [K,U]]]) λa b=>ZzO 2 a λa c e=>Ag e<|Ad b λb e=>Ag e<|As (decide (0<=Z)&&decide (Z<(↑a:Int)))<|As (decide (0+Z.toNat*2+1+1<=c.length))<|Aa (B9 c [U] (0+Z.toNat*2+1)) λb=>Aa (Vm .u64 N I) λc=>As (decide (0+X*1<=V.length))<|As (decide (0+a*2<=b.length))<|A9 [.agg [Am 1 X (yt (X*1) (V.drop 0)),T,Ah S,Ah Q,P,O,Ah c,Am 2 a (yt (a*2) (b.drop 0)),M,L,J],(0:Int)]) (As (decide (0<=Z)&&decide (Z<(↑Y:Int)))<|Bi .i64 (W.getD (0+Z.toNat*2+1) .top) λa=>Ap (decide (a>=U)) (As (decide (0+X*1<=V.length))<|As (decide (0+Y*2<=W.length))<|A9 [.agg [Am 1 X (yt (X*1) (V.drop 0)),T,Ah S,Ah Q,P,O,Ah N,Am 2 Y (yt (Y*2) (W.drop 0)),M,L,H],(37:Int)]) (As (decide (0<=Z)&&decide (Z<(↑Y:Int)))<|As (decide (0+Z.toNat*2+1+1<=W.length))<|Aa (B9 W [U] (0+Z.toNat*2+1)) λa=>Aa (Vm .u64 N I) λb=>As (decide (0+X*1<=V.length))<|As (decide (0+Y*2<=a.length))<|A9 [.agg [Am 1 X (yt (X*1) (V.drop 0)),T,Ah S,Ah Q,P,O,Ah b,Am 2 Y (yt (Y*2) (a.drop 0)),M,L,J],(0:Int)]))))):=Κ
theorem TS(u d X:Nat)(W:Ae)(V U:Int)(T S:Int)(Q:Bool)(P:Int)(O:Nat)(N:Ae)(M:Bool)(L K:Int)(Z Y J:Int):Ac (CP p) prog u (d+1) 60 [.agg [Am 1 X W,V,Ah U,Ah T,S,Q,Ah P,Am 2 O N,M,L,K],Z,Y,J]=(λ(F:An)=>Cn (F 105 [.agg [Am 1 X W,V,Ah U,Ah T,S,Q,Ah P,Am 2 O N,M,L,K]]) λa b=>Cr a λa=>ZzO 1 a λa c e=>Bu .i64 e λe f=>Bu .u64 f λf g=>Bu .u64 g λg h=>Bu .i64 h λh i=>Ad i λi j=>Bh i λi=>Bu .u64 j λj k=>ZzO 2 k λk m n=>Ad n λn o=>Bh n λn=>Bu .i64 o λo q=>Bq .i64 q λq=>Ag b<|Ap (decide (e<0)) (As (decide (0+a*1<=c.length))<|As (decide (0+k*2<=m.length))<|A9 [.agg [Am 1 a (yt (a*1) (c.drop 0)),e,Ah f,Ah g,h,i,Ah j,Am 2 k (yt (k*2) (m.drop 0)),n,o,q],(9:Int)]) (Ap (decide (e>4)) (As (decide (0+a*1<=c.length))<|As (decide (0+k*2<=m.length))<|A9 [.agg [Am 1 a (yt (a*1) (c.drop 0)),e,Ah f,Ah g,h,i,Ah j,Am 2 k (yt (k*2) (m.drop 0)),n,o,q],(9:Int)]) (Ap (decide (Y<0)) (As (decide (0+a*1<=c.length))<|As (decide (0+k*2<=m.length))<|A9 [.agg [Am 1 a (yt (a*1) (c.drop 0)),e,Ah f,Ah g,h,i,Ah j,Am 2 k (yt (k*2) (m.drop 0)),n,o,q],(9:Int)]) (Ap (decide (Y>Z)) (As (decide (0+a*1<=c.length))<|As (decide (0+k*2<=m.length))<|A9 [.agg [Am 1 a (yt (a*1) (c.drop 0)),e,Ah f,Ah g,h,i,Ah j,Am 2 k (yt (k*2) (m.drop 0)),n,o,q],(9:Int)]) (As (decide (0<=e))<|Aa (Dv .i64 1 e) λb=>Ap (decide (Z>=b)) (As (decide (0+a*1<=c.length))<|As (decide (0+k*2<=m.length))<|A9 [.agg [Am 1 a (yt (a*1) (c.drop 0)),e,Ah f,Ah g,h,i,Ah j,Am 2 k (yt (k*2) (m.drop 0)),n,o,q],(9:Int)]) (Yg u F X W V U T S Q P O N M L K Z Y J u Z Y J a e f g h i j k n o q c m 0 0 0 0 0 false 0 0 false 0 0 ([]) ([]))))))) (Ac (CP p) prog u d):=Κ
end
section
variable {I:FuncId->Option (Ae->Option A3)}(u d:Nat)(F:An)
def Eu(Z:Nat)(Y:Ae)(X W:Int)(V U:Int)(T:Bool)(S:Int)(Q:Nat)(P:Ae)(O:Bool)(N M:Int)(L K J:Int)(I:Nat)(H G E:Int)(D:Bool)(B:Nat)(A:Ae)(z w:Int)(v a:Int)(t:Bool)(b:Int)(y12:Nat)(c:Ae)(d:Bool)(e f:Int)(g:Nat)(h TC:Int)(TU UP:Int)(HQ:Bool)(KM:Int)(KY:Nat)(KZ:Bool)(FC DI:Int)(KP LY:Ae):Option A3:=Hq u F 10 Tryz.f10 [.agg [Am 1 Z Y,X,Ah W,Ah V,U,T,Ah S,Am 2 Q P,O,N,M],L,K,J] [.r,.l,.l] I ⟨lk [(1,H),(2,G),(3,E),(4,.ptr 4 0),(8,.ptr 8 0),(14,D)],Fb [(4,.st [Am 1 B A,z,Ah w,Ah v,a,t,Ah b,Am 2 y12 c,d,e,f]),(8,.st [.view 122 1 0 g,h,Ah TC,Ah TU,UP,HQ,Ah KM,.view 920 2 0 KY,KZ,FC,DI]),(122,.ar false KP),(920,.ar false LY)]⟩
def Cx(Z:Nat)(Y:Ae)(X W:Int)(V U:Int)(T:Bool)(S:Int)(Q:Nat)(P:Ae)(O:Bool)(N M:Int)(L K J:Int)(I:Nat)(H G E:Int)(D:Nat)(B:Bool)(A:Int)(z:Nat)(w:Ae)(v a:Int)(t b:Int)(y12:Bool)(c:Int)(d:Nat)(e:Ae)(f:Bool)(g h:Int)(TC:Nat)(TU UP:Int)(HQ KM:Int)(KY:Bool)(KZ:Int)(FC:Nat)(DI:Bool)(KP LY:Int)(i j k:Ae):Option A3:=Hq u F 10 Tryz.f10 [.agg [Am 1 Z Y,X,Ah W,Ah V,U,T,Ah S,Am 2 Q P,O,N,M],L,K,J] [.r,.r,.r,.r,.l,.r,.l] I ⟨lk [(1,H),(2,G),(3,E),(4,.ptr 4 0),(8,.ptr 8 0),(10,.view 10 2 0 D),(11,B),(12,A)],Fb [(4,.st [Am 1 z w,v,Ah a,Ah t,b,y12,Ah c,Am 2 d e,f,g,h]),(8,.st [.view 122 1 0 TC,TU,Ah UP,Ah HQ,KM,KY,Ah KZ,.view 920 2 0 FC,DI,KP,LY]),(122,.ar false i),(920,.ar false j),(10,.ar false k)]⟩
theorem Nb(J:Nat)(I:Ae)(H G:Int)(E D:Int)(B:Bool)(A:Int)(z:Nat)(w:Ae)(v:Bool)(b t:Int)(a1 a2 a3:Int)(L:Nat)(Es:0<L)(K y1 e:Int)(y3:Bool)(Y:Nat)(X:Ae)(W V:Int)(U T:Int)(S:Bool)(Z:Int)(Q:Nat)(P:Ae)(O:Bool)(N M:Int)(c:Nat)(d TC:Int)(TU UP:Int)(HQ:Bool)(KM:Int)(KY:Nat)(KZ:Bool)(FC DI:Int)(KP LY:Ae):Eu u F J I H G E D B A z w v b t a1 a2 a3 L K y1 e y3 Y X W V U T S Z Q P O N M c d TC TU UP HQ KM KY KZ FC DI KP LY=(Ap y3 (A9 [.agg [Am 1 Y X,W,Ah V,Ah U,T,S,Ah Z,Am 2 Q P,O,N,M],(9:Int)]) (Ap O (A9 [.agg [Am 1 Y X,W,Ah V,Ah U,T,S,Ah Z,Am 2 Q P,O,N,M],(39:Int)]) (Aa (wrap .u64 K) λa=>As (decide (0<=a))<|Aa (E4 .u64 Z a) λa=>Aa (C8 .u64 a 1) λa=>Ap (a==1) (A9 [.agg [Am 1 Y X,W,Ah V,Ah U,T,S,Ah Z,Am 2 Q P,true,N,M],(37:Int)]) (Cx u F J I H G E D B A z w v b t a1 a2 a3 u K y1 e 0 false 0 Y X W V U T S Z Q P O N M c d TC TU UP HQ KM KY KZ FC DI KP LY ([]))))):=by cases L with|zero=>exact absurd Es (wo 0)|succ L=>kernel_rfl
theorem Gs(E:Nat)(D:Ae)(B A:Int)(z w:Int)(v:Bool)(d:Int)(t:Nat)(Au8:Ae)(Ai4:Bool)(Aim RO:Int)(a1 a2 a3:Int)(nn:Nat)(Z Y H:Int)(W:Nat)(y4:Bool)(X:Int)(V:Nat)(U:Ae)(T S:Int)(Q P:Int)(O:Bool)(N:Int)(M:Nat)(L:Ae)(K:Bool)(J G:Int)(TC:Nat)(TU UP:Int)(HQ KM:Int)(KY:Bool)(KZ:Int)(FC:Nat)(DI:Bool)(KP LY:Int)(f g I:Ae):Cx u F E D B A z w v d t Au8 Ai4 Aim RO a1 a2 a3 (nn+1) Z Y H W y4 X V U T S Q P O N M L K J G TC TU UP HQ KM KY KZ FC DI KP LY f g I=(Ap (decide (X<(↑M:Int))) (As (decide (0<=X)&&decide (X<(↑M:Int)))<|Bi .i64 (L.getD (X.toNat*2) .top) λa=>Bi .i64 (L.getD (X.toNat*2+1) .top) λb=>Ap (a==Y) (Ap (decide (b>=Z)) (A9 [.agg [Am 1 V U,T,Ah S,Ah Q,P,O,Ah N,Am 2 M L,K,J,G],(37:Int)]) (Ap (decide (a>Y)) (XN W 2 16 I [a,Z] λa b=>Aa (wrap .i64 (X+1)) λc=>Cx u F E D B A z w v d t Au8 Ai4 Aim RO a1 a2 a3 nn Z Y H a true c V U T S Q P O N M L K J G TC TU UP HQ KM KY KZ FC DI KP LY f g b) (XN W 2 16 I [a,Z] λa b=>Aa (wrap .i64 (X+1)) λc=>Cx u F E D B A z w v d t Au8 Ai4 Aim RO a1 a2 a3 nn Z Y H a true c V U T S Q P O N M L K J G TC TU UP HQ KM KY KZ FC DI KP LY f g b))) (Ap (decide (a>Y)) (Ap (!y4) (XN W 2 16 I [Y,Z] λc e=>XN c 2 16 e [a,b] λa b=>Aa (wrap .i64 (X+1)) λc=>Cx u F E D B A z w v d t Au8 Ai4 Aim RO a1 a2 a3 nn Z Y H a true c V U T S Q P O N M L K J G TC TU UP HQ KM KY KZ FC DI KP LY f g b) (XN W 2 16 I [a,b] λa b=>Aa (wrap .i64 (X+1)) λc=>Cx u F E D B A z w v d t Au8 Ai4 Aim RO a1 a2 a3 nn Z Y H a y4 c V U T S Q P O N M L K J G TC TU UP HQ KM KY KZ FC DI KP LY f g b)) (XN W 2 16 I [a,b] λa b=>Aa (wrap .i64 (X+1)) λc=>Cx u F E D B A z w v d t Au8 Ai4 Aim RO a1 a2 a3 nn Z Y H a y4 c V U T S Q P O N M L K J G TC TU UP HQ KM KY KZ FC DI KP LY f g b))) (Ap (!y4) (XN W 2 16 I [Y,Z] λa b=>Aa (wrap .u64 Z) λc=>As (decide (0<=c))<|Aa (Dv .u64 1 c) λc=>Aa (Vm .u64 N c) λc=>As (decide (0+a*2<=b.length))<|A9 [.agg [Am 1 V U,T,Ah S,Ah Q,P,O,Ah c,Am 2 a (yt (a*2) (b.drop 0)),K,J,H],(0:Int)]) (Aa (wrap .u64 Z) λa=>As (decide (0<=a))<|Aa (Dv .u64 1 a) λa=>Aa (Vm .u64 N a) λa=>As (decide (0+W*2<=I.length))<|A9 [.agg [Am 1 V U,T,Ah S,Ah Q,P,O,Ah a,Am 2 W (yt (W*2) (I.drop 0)),K,J,H],(0:Int)]))):=Κ
theorem GA(u d W:Nat)(V:Ae)(Z U:Int)(T S:Int)(Q:Bool)(P:Int)(O:Nat)(N:Ae)(M:Bool)(L K:Int)(Y X J:Int):Ac (CP p) prog u (d+1) 10 [.agg [Am 1 W V,Z,Ah U,Ah T,S,Q,Ah P,Am 2 O N,M,L,K],Y,X,J]=(λ(F:An)=>Cn (F 22 [Z,(0:Int),(4:Int)]) λa b=>Bh a λa=>Ag b<|Ap (!a) (Eu u F W V Z U T S Q P O N M L K Y X J u Y X J true W V Z U T S Q P O N M L K 0 0 0 0 0 false 0 0 false 0 0 ([]) ([])) (Ap (decide (X<0)) (Eu u F W V Z U T S Q P O N M L K Y X J u Y X J true W V Z U T S Q P O N M L K 0 0 0 0 0 false 0 0 false 0 0 ([]) ([])) (Ap (decide (Y<X)) (Eu u F W V Z U T S Q P O N M L K Y X J u Y X J true W V Z U T S Q P O N M L K 0 0 0 0 0 false 0 0 false 0 0 ([]) ([])) (Aa (wrap .u64 Z) λa=>As (decide (0<=a))<|Aa (Dv .i64 1 a) λa=>Eu u F W V Z U T S Q P O N M L K Y X J u Y X J (decide (Y>=a)) W V Z U T S Q P O N M L K 0 0 0 0 0 false 0 0 false 0 0 ([]) ([]))))) (Ac (CP p) prog u d):=Κ
def Fy(Z:Nat)(Y:Ae)(X:Nat)(W:Ae)(V U:Nat)(T:Ae)(S:Nat)(Q:Ae)(P:Int):Option A3:=Hq u F 69 Tryz.f69 [Am 2 Z Y,Am 2 X W] [.r,.r,.l,.r,.l] V ⟨lk [(0,Am 2 U T),(1,Am 2 S Q),(5,P)],Fb []⟩
theorem Kh(U:Nat)(T:Ae)(S:Nat)(Q:Ae)(P Y:Nat)(X:Ae)(V:Nat)(W:Ae)(Z:Int):Fy u F U T S Q (P+1) Y X V W Z=(Ap (decide (Z<(↑Y:Int))) (As (decide (0<=Z)&&decide (Z<(↑Y:Int)))<|Bi .i64 (X.getD (Z.toNat*2) .top) λa=>Bi .i64 (X.getD (Z.toNat*2+1) .top) λb=>As (decide (0<=Z)&&decide (Z<(↑V:Int)))<|Bi .i64 (W.getD (Z.toNat*2) .top) λc=>Bi .i64 (W.getD (Z.toNat*2+1) .top) λe=>Ap (!(a==c&&(b==e&&true))) (A9 [false]) (Aa (wrap .i64 (Z+1)) λa=>Fy u F U T S Q P Y X V W a)) (A9 [true])):=Κ
theorem Xw(u d Z:Nat)(X:Ae)(Y:Nat)(W:Ae):Ac (CP p) prog u (d+1) 69 [Am 2 Z X,Am 2 Y W]=(λ(F:An)=>Ap ((↑Z:Int) != (↑Y:Int)) (A9 [false]) (Fy u F Z X Y W u Z X Y W 0)) (Ac (CP p) prog u d):=Κ
theorem Xt(u d X:Nat)(Z:Ae)(W V:Int)(U T:Int)(S:Bool)(Q:Int)(P:Nat)(O:Ae)(N:Bool)(M L:Int)(K:Nat)(Y:Ae)(J I:Int)(H G:Int)(E:Bool)(D:Int)(B:Nat)(A:Ae)(z:Bool)(w v:Int):Ac (CP p) prog u (d+1) 35 [.agg [Am 1 X Z,W,Ah V,Ah U,T,S,Ah Q,Am 2 P O,N,M,L],.agg [Am 1 K Y,J,Ah I,Ah H,G,E,Ah D,Am 2 B A,z,w,v]]=(λ(F:An)=>As (decide (Z.length=X))<|Dq (H2 Z) λa=>As (decide (Y.length=K))<|Dq (H2 Y) λb=>Ap (mf (ml (ByteArray.mk (bc a)))==mf (ml (ByteArray.mk (bc b)))) (Ap (W==J&&(V==I&&true)) (Ap (U==H) (Ap (T==G) (Ap (S==E) (Ap (Q==D) (Cn (F 69 [Am 2 P O,Am 2 B A]) λa b=>Bh a λa=>Ag b<|Ap a (Ap (N==z) (Ap (M==w) (A9 [C3 (L==v)]) (A9 [false])) (A9 [false])) (A9 [false])) (A9 [false])) (A9 [false])) (A9 [false])) (A9 [false])) (A9 [false])) (A9 [false])) (Ac (CP p) prog u d):=Κ
end
section
variable {I:FuncId->Option (Ae->Option A3)}(u d:Nat)(F:An)
theorem EU(u d:Nat)(Y:Int)(X:Bool)(W V:Int)(U:Bool)(T:Int)(S:Bool)(Q:Nat)(P:Ae)(O N:Int)(Z M:Int)(L K:Int)(J:Nat)(I:Ae)(H G:Int):Ac (CP p) prog u (d+1) 101 [.agg [Y,X,W,V,U,T,S,Am 1 Q P,O],.agg [Ah N,Z,M,L,Ah K,Am 1 J I,H,Ah G]]=(λ(F:An)=>Aa (C8 .i64 Z 1) λa=>Ap (a==0) (A9 [(22:Int)]) (Ap (Y==2) (Aa (C8 .i64 Z 4) λa=>Ap (a==0) (A9 [(23:Int)]) (A9 [(0:Int)])) (A9 [(0:Int)]))) (Ac (CP p) prog u d):=Κ
theorem LI(u d:Nat)(U:Int)(T:Bool)(S Q:Int)(P:Bool)(O:Int)(Y:Bool)(X:Nat)(W:Ae)(N V Z:Int):Ac (CP p) prog u (d+1) 102 [.agg [U,T,S,Q,P,O,Y,Am 1 X W,N],Ah V,Z]=(λ(F:An)=>Ap (Z==3) (A9 [(39:Int)]) (Ap (Z==4) (A9 [(39:Int)]) (Cn (F 134 [Am 1 X W,Ah V]) λa b=>Bh a λa=>Ag b<|Ap a (A9 [(40:Int)]) (Ap (Z==2) (Ap (!Y) (A9 [(40:Int)]) (A9 [(0:Int)])) (A9 [(0:Int)]))))) (Ac (CP p) prog u d):=Κ
theorem SR(u d:Nat)(Z:Int)(Y:Bool)(X W:Int)(V:Bool)(U:Int)(T:Bool)(S:Nat)(Q:Ae)(P M:Int)(O L:Int)(K J:Int)(I:Nat)(H:Ae)(G E:Int)(A:Nat)(z:Ae)(w v:Int)(N c:Int)(D:Bool)(Amb:Int)(Agh:Nat)(Ab3:Ae)(Ai1:Bool)(Ahk QP B:Int):Ac (CP p) prog u (d+1) 58 [.agg [Z,Y,X,W,V,U,T,Am 1 S Q,P],.agg [Ah M,O,L,K,Ah J,Am 1 I H,G,Ah E],.agg [Am 1 A z,w,Ah v,Ah N,c,D,Ah Amb,Am 2 Agh Ab3,Ai1,Ahk,QP],B]=(λ(F:An)=>(λb:PV=>Gn .i64 (F 101 [b,.agg [Ah M,O,L,K,Ah J,Am 1 I H,G,Ah E]]) λa=>Ap (a != 0) (A9 [a]) (Aa (C8 .i64 O 8) λa=>Ap (!(a != 0)==D) (A9 [(40:Int)]) (Ap (N==0) (A9 [(0:Int)]) (Gn .i64 (F 102 [b,Ah N,B]) λa=>A9 [a])))) (.agg [Z,Y,X,W,V,U,T,Am 1 S Q,P])) (Ac (CP p) prog u d):=Κ
theorem DU(u d:Nat)(Y:Int)(X:Bool)(W V:Int)(U:Bool)(T:Int)(S:Bool)(Q:Nat)(P:Ae)(O Z:Int):Ac (CP p) prog u (d+1) 112 [.agg [Y,X,W,V,U,T,S,Am 1 Q P,O],Z]=(λ(F:An)=>Aa (C8 .i64 Z 1) λa=>Ap (a==0) (A9 [(22:Int)]) (Ap (Y==2) (Aa (C8 .i64 Z 4) λa=>Ap (a==0) (A9 [(23:Int)]) (A9 [(0:Int)])) (A9 [(0:Int)]))) (Ac (CP p) prog u d):=Κ
def Gd(Z:Int)(Y:Bool)(X W:Int)(V:Bool)(U:Int)(T:Bool)(S:Nat)(Q:Ae)(P O N:Int)(M:Nat)(L K:Int)(J I:Int)(H:Bool)(G E:Int)(D:Bool)(B:Int)(A:Bool)(z:Nat)(w:Ae)(v:Int):Option A3:=Hq u F 113 Tryz.f113 [.agg [Z,Y,X,W,V,U,T,Am 1 S Q,P],Ah O,N] [.r,.r,.l,.r,.l] M ⟨lk [(1,Ah L),(2,K),(3,.ptr 3 0),(7,J)],Fb [(3,.st [I,H,G,E,D,B,A,Am 1 z w,v])]⟩
theorem Ov(T:Int)(S:Bool)(Q P:Int)(O:Bool)(N:Int)(M:Bool)(L:Nat)(K:Ae)(J I H:Int)(G:Nat)(X W:Int)(Z E:Int)(D:Bool)(B A:Int)(z:Bool)(w:Int)(V:Bool)(Y:Nat)(U:Ae)(v:Int):Gd u F T S Q P O N M L K J I H (G+1) X W Z E D B A z w V Y U v=(Ap (decide (Z<(↑Y:Int))) (As (decide (0<=Z)&&decide (Z<(↑Y:Int)))<|Bi .u64 (U.getD (Z.toNat*1) .top) λa=>Ap (a==X) (A9 [(40:Int)]) (Aa (wrap .i64 (Z+1)) λa=>Gd u F T S Q P O N M L K J I H G X W a E D B A z w V Y U v)) (Ap (W==2) (Ap (!V) (A9 [(40:Int)]) (A9 [(0:Int)])) (A9 [(0:Int)]))):=Κ
theorem IM(u d:Nat)(Y:Int)(X:Bool)(W V:Int)(U:Bool)(T:Int)(S:Bool)(Q:Nat)(P:Ae)(O N Z:Int):Ac (CP p) prog u (d+1) 113 [.agg [Y,X,W,V,U,T,S,Am 1 Q P,O],Ah N,Z]=(λ(F:An)=>Ap (Z==3) (A9 [(39:Int)]) (Ap (Z==4) (A9 [(39:Int)]) (Gd u F Y X W V U T S Q P O N Z u N Z 0 Y X W V U T S Q P O))) (Ac (CP p) prog u d):=Κ
theorem DC(u d:Nat)(Z:Int)(Y:Bool)(X W:Int)(V:Bool)(U:Int)(T:Bool)(S:Nat)(Q:Ae)(P K:Int)(O J:Int)(I H:Int)(G:Nat)(E:Ae)(D B:Int)(A:Nat)(z:Ae)(w v:Int)(N c:Int)(M:Bool)(Amb:Int)(Agh:Nat)(Ab3:Ae)(Ai1:Bool)(Ahk QP L:Int):Ac (CP p) prog u (d+1) 67 [.agg [Z,Y,X,W,V,U,T,Am 1 S Q,P],.agg [Ah K,O,J,I,Ah H,Am 1 G E,D,Ah B],.agg [Am 1 A z,w,Ah v,Ah N,c,M,Ah Amb,Am 2 Agh Ab3,Ai1,Ahk,QP],L]=(λ(F:An)=>(λb:PV=>Gn .i64 (F 112 [b,O]) λa=>Ap (a != 0) (A9 [a]) (Aa (C8 .i64 O 8) λa=>Ap (!(a != 0)==M) (A9 [(40:Int)]) (Ap (N==0) (A9 [(0:Int)]) (Gn .i64 (F 113 [b,Ah N,L]) λa=>A9 [a])))) (.agg [Z,Y,X,W,V,U,T,Am 1 S Q,P])) (Ac (CP p) prog u d):=Κ
theorem Zl(u d Z:Nat)(Y:Ae)(X:Int):Ac (CP p) prog u (d+1) 134 [Am 1 Z Y,Ah X]=(λ(F:An)=>Gn .i64 (F 154 [Am 1 Z Y,Ah X]) λa=>A9 [C3 (decide (a>=0))]) (Ac (CP p) prog u d):=Κ
def Ha(Z:Nat)(Y:Ae)(X:Int)(W V:Nat)(U:Ae)(T S Q:Int):Option A3:=Hq u F 154 Tryz.f154 [Am 1 Z Y,Ah X] [.r,.l,.r,.l] W ⟨lk [(0,Am 1 V U),(1,Ah T),(7,S),(8,Q)],Fb []⟩
theorem M5(U:Nat)(T:Ae)(S:Int)(Q Y:Nat)(X:Ae)(W V Z:Int):Ha u F U T S (Q+1) Y X W V Z=(Ap (decide (Z<V)) (As (decide (0<=Z)&&decide (Z<(↑Y:Int)))<|Bi .u64 (X.getD (Z.toNat*1) .top) λa=>Ap (W==a) (A9 [Z]) (Aa (wrap .i64 (Z+1)) λa=>Ha u F U T S Q Y X W V a)) (A9 [(-1:Int)])):=Κ
theorem FG(u d Z:Nat)(Y:Ae)(X:Int):Ac (CP p) prog u (d+1) 154 [Am 1 Z Y,Ah X]=(λ(F:An)=>Ha u F Z Y X u Z Y X (↑Z:Int) 0) (Ac (CP p) prog u d):=Κ
end
theorem N3{α:Type}(f:Nat->α)(i:Nat):(za (i+1)).map f=(za i).map f++[f i]:=by rw[List.range_succ,kn];rfl
section
variable {u d:Nat}
theorem Xi(h:Int):Ac C1 prog u (d+1) 46 [Av h]=some ⟨[C3 (!E6 h)],[]⟩:=by
 rw[GI];unfold E6;by_cases a:h<0
 ·simp(disch:=omega)only[Aq,Ar,a,decide_true,Bool.true_or,Gc]
 ·have e:decide (h<=4) = !decide (h>4):=by
   by_cases c:h<=4
   ·have:¬h>4:=Ω
    simp[c,this]
   ·have:h>4:=Ω
    simp[c,this]
  simp(disch:=omega)only[Aq,Ar,a,decide_false,Bool.false_or,e]
theorem Apz{ws:Ak}(a:ws.length<=100)(Be:1000<=u)(dom:Int):Ac C1 prog u (d+4) 45 [Av dom,.lst false 1 (Bb ws).length (Af .u8 (Bb ws))]=some ⟨[Ah (Fk dom (Bb ws))],[]⟩:=
 IQ (I:=xs1) (Z9 ws) (by rw[Fd];omega) Ω (by rw[Fd];omega) dom
theorem WP{F:An}{a0 m:Int}:∀(k nn:Nat)(i:Nat),i+k=16->k<nn ->
  Ig u F a0 nn m ((za i).map (Iy m)).length (N1 m i) (15-(i:Int)) (Af .i64 ((za i).map (Iy m)))=some ⟨[.own 1 18 (Af .i64 (dgs m))],[]⟩
 |_,0,_,_,h=>Ω
 |0,nn+1,i,hi,f=>by
  have e:i=16:=Ω
  subst e;have g:=Oj m 16
  have j:wrap .i64 (Int.tdiv (N1 m 16) 16)=N1 m 16 / 16:=by
   rw[Int.tdiv_eq_ediv_of_nonneg Ω,Ba]
  have l:Int.tmod (N1 m 16) 16=N1 m 16 % 16:=Int.tmod_eq_emod_of_nonneg Ω
  have n:Af .i64 ((za 16).map (Iy m))++[PV.sc (.int .i64 (N1 m 16 / 16)),PV.sc (.int .i64 (N1 m 16 % 16))]=Af .i64 (dgs m):=by
   unfold dgs;rw[Af,Af,kk];rfl
  have L:(Af .i64 (dgs m)).length=18:=by rw[Al,Auh]
  have o:yt 18 (Af .i64 (dgs m))=Af .i64 (dgs m):=Gp Ω;have a:((za 16).map (Iy m)).length=16:=Ψ
  have L16:=Al .i64 ((za 16).map (Iy m));have b:=NH .i64 ((za 16).map (Iy m));rw[a] at L16 b ⊢;rw[Po,Fn _ _ _ Ω];simp(disch:=omega)only[Aq,Ar,j,l,Jp,b,n,L16,Nat.reduceAdd,L,o]
 |k+1,nn+1,i,hi,f=>by
  have d:=WP (F:=F) (a0:=a0) (m:=m) k nn (i+1) Ω Ω;have t:=Y6 m i;have g:=Oj m i;have p:wrap .i64 (4*(15-(i:Int)))=60-4*(i:Int):=Bc
  have q:wrap .u64 (60-4*(i:Int))=60-4*(i:Int):=Cq;have hd:wrap .i64 (C8 .u64 (E4 .u64 m (60-4*(i:Int))) 15)=Iy m i:=rfl;have c:wrap .i64 (15-Iy m i)=15-Iy m i:=Ba;have r:wrap .i64 (N1 m i+(15-Iy m i))=N1 m (i+1):=by rw[Ba];rfl
  have s:wrap .i64 (15-(i:Int)-1)=15-((i+1:Nat):Int):=Bc
  have L:=Al .i64 ((za i).map (Iy m));have a:((za i).map (Iy m)).length=i:=Ψ
  rw[N3,Ru,lw,<-Nk] at d;rw[Po];simp(disch:=omega)only[Aq,Ar,p,q,hd,c,r,s,Jp,NH,L];exact d
theorem Afa(Be:1000<=u)(m:Int):Ac C1 prog u (d+1) 76 [Ah m]=some ⟨[.own 1 18 (Af .i64 (dgs m))],[]⟩:=by rw[LG];exact WP (u:=u) (a0:=m) (m:=m) 16 u 0 Ω Ω
theorem Ae0{leaf chain:Int}{a0 a1 a2 a3 a4:Int}(Be:1000<=u){t:Int}(ht:t<=15):∀(k nn:Nat)(p x:Int),(k:Int)=t-p->0<=p->k<nn ->
  Jz u (Ac C1 prog u (d+4)) a0 a1 a2 a3 a4 nn leaf chain t x p=some ⟨[Ah (AB leaf chain k p x)],[]⟩
 |_,0,_,_,_,_,h=>Ω
 |0,nn+1,p,x,f,hp,g=>by
  rw[Sv];simp only[Ga];rw[Bd Ω,Fn _ _ _ Ω];rfl
 |k+1,nn+1,p,x,f,hp,g=>by
  have w:wrap .i64 (p+1)=p+1:=Ba;have b:Ac C1 prog u (d+4) 38 [.lst false 1 4 [Ah (wrap .u64 leaf),Ah (wrap .u64 chain),Ah (wrap .u64 p),Ah x]]=_:=Mi (I:=xs1) (ws:=[wrap .u64 leaf,wrap .u64 chain,wrap .u64 p,x]) Ψ Ω (by simp;omega)
  have c:=Apz (u:=u) (d:=d) (ws:=[wrap .u64 leaf,wrap .u64 chain,wrap .u64 p,x]) Ψ Be 1;have e:=Ae0 (leaf:=leaf) (chain:=chain) (a0:=a0) (a1:=a1) (a2:=a2) (a3:=a3) (a4:=a4) Be ht k nn (p+1) (Fk 1 (Bb [wrap .u64 leaf,wrap .u64 chain,wrap .u64 p,x])) Ω Ω Ω;have L:=Al .u8 (Bb [wrap .u64 leaf,wrap .u64 chain,wrap .u64 p,x]);have eR:AB leaf chain (k+1) p x=AB leaf chain k (p+1) (Fk 1 (Bb [wrap .u64 leaf,wrap .u64 chain,wrap .u64 p,x])):=rfl;rw[eR];generalize Bb [wrap .u64 leaf,wrap .u64 chain,wrap .u64 p,x]=W at b c e L ⊢;have a:(if (15:Int)<t then 15 else t)=t:=Bd Ω;rw[Sv]
  simp(disch:=omega)only[Aq,Ar,a,b,Jp,I8,Jo,NH,L,c,w];exact e
theorem Aic{chain:Int}(Be:1000<=u)(k:Nat)(f t x:Int)(a:(k:Int)=t-f)(b:0<=f)(c:t<=15):Ac C1 prog u (d+5) 77 [Av leaf,Av chain,Av f,Av t,Ah x]=some ⟨[Ah (AB leaf chain k f x)],[]⟩:=by rw[PF];simp only[Ga];rw[Bd Ω];exact Ae0 Be c k u f x a b Ω
theorem ZI(Be:1000<=u)(seed leaf chain:Int):Ac C1 prog u (d+5) 78 [Ah seed,Av leaf,Av chain]=some ⟨[Ah (Ary seed leaf chain)],[]⟩:=by
 have a:Ac C1 prog u (d+4) 38 [.lst false 1 2 [Ah (wrap .u64 leaf),Ah (wrap .u64 chain)]]=_:=Mi (I:=xs1) (ws:=[wrap .u64 leaf,wrap .u64 chain]) Ψ Ω (by simp;omega)
 have b:=As1 (I:=xs1) (u:=u) (d:=d) (Z9 [wrap .u64 leaf,wrap .u64 chain]) (by rw[Fd];simp) Ω (by rw[Fd];simp;omega) seed 1
 have L:=Al .u8 (Bb [wrap .u64 leaf,wrap .u64 chain]);rw[IJ];unfold Ary;generalize Bb [wrap .u64 leaf,wrap .u64 chain]=W at a b L ⊢;simp(disch:=omega)only[Aq,Ar,a,Jp,I8,Jo,NH,L,b]
theorem A3b(Be:1000<=u)(w:Int):Ac C1 prog u (d+1) 38 [.lst false 1 1 [Ah w]]=some ⟨[.own 1 8 (Af .u8 (B6 w))],[]⟩:=by
 have:=Mi (I:=xs1) (u:=u) (d:=d) (ws:=[w]) Ψ Ω (by simp;omega)
 simp only[Bb,Le,List.flatMap_nil,vy,M9,SO,Cu] at this;exact this
theorem Ani(Be:1000<=u)(leaf:Int){E:Ak}(j:E.length<=50):Ac C1 prog u (d+5) 119 [Av leaf,.lst false 1 E.length (Af .u64 E)]=some ⟨[Ah (WA leaf E)],[]⟩:=by
 have c:=A3b (u:=u) (d:=d+3) Be (wrap .u64 leaf);have e:=Mi (I:=xs1) (u:=u) (d:=d+3) (ws:=E) Ω Ω Ω;have a:=Apz (u:=u) (d:=d) (ws:=wrap .u64 leaf::E) (by simp;omega) Be 2
 have eW:Bb (wrap .u64 leaf::E)=B6 (wrap .u64 leaf)++Bb E:=rfl
 have eC:Af .u8 (B6 (wrap .u64 leaf))++Af .u8 (Bb E)=Af .u8 (Bb (wrap .u64 leaf::E)):=by
  rw[eW,Af,Af,Af,kk]
 have l0:(B6 (wrap .u64 leaf)).length=8:=Cu _;have k:=Fd E;have f:(Bb (wrap .u64 leaf::E)).length=8+(Bb E).length:=by rw[eW,Ru,l0]
 have b:=Al .u8 (B6 (wrap .u64 leaf));rw[l0] at b;have g:=Al .u8 (Bb E);have h:=Al .u8 (Bb (wrap .u64 leaf::E));have i:yt 8 (Af .u8 (B6 (wrap .u64 leaf)))=Af .u8 (B6 (wrap .u64 leaf)):=Gp Ω;have tW:yt (8+(Bb E).length) (Af .u8 (Bb (wrap .u64 leaf::E)))=Af .u8 (Bb (wrap .u64 leaf::E)):=Gp Ω;rw[f] at a;rw[OP];simp(disch:=omega)only[Aq,Ar,c,e,Jp,I8,Jo,NH,i,b,g,eC,h,tW,a];rfl
theorem Abq{a0 a1 seed leaf:Int}(Be:1000<=u):∀(k nn i:Nat),i+k=18->k<nn ->
  I0 u (Ac C1 prog u (d+5)) a0 a1 nn seed leaf ((za i).map (Ai0 seed leaf)).length i (Af .u64 ((za i).map (Ai0 seed leaf)))=some ⟨[Ah (TK seed leaf)],[]⟩
 |_,0,_,_,h=>Ω
 |0,nn+1,i,hi,b=>by
  have e:i=18:=Ω
  subst e;have c:((za 18).map (Ai0 seed leaf)).length=18:=Ψ
  have f:=Ani (u:=u) (d:=d) Be leaf (E:=(za 18).map (Ai0 seed leaf)) Ω;have L:=Al .u64 ((za 18).map (Ai0 seed leaf));rw[Qs,Fn _ _ _ Ω];simp(disch:=omega)only[Aq,Ar,Jp,I8,Jo,NH,L,f];rfl
 |k+1,nn+1,i,hi,b=>by
  have a:=Abq (a0:=a0) (a1:=a1) (seed:=seed) (leaf:=leaf) Be k nn (i+1) Ω Ω;have sc:=ZI (u:=u) (d:=d) Be seed leaf i;have g:=Aic (u:=u) (d:=d) (leaf:=leaf) (chain:=i) Be 15 0 15 (Ary seed leaf i) Ω Ω Ω;have w:wrap .i64 ((i:Int)+1)=((i+1:Nat):Int):=Bc
  have L:=Al .u64 ((za i).map (Ai0 seed leaf));have j:((za i).map (Ai0 seed leaf)).length=i:=Ψ
  rw[N3,Ru,lw,<-Nk] at a;rw[Qs];simp(disch:=omega)only[Aq,Ar,sc,g,Jp,NH,L,w];exact a
theorem Azn(Be:1000<=u)(seed leaf:Int):Ac C1 prog u (d+6) 79 [Ah seed,Av leaf]=some ⟨[Ah (TK seed leaf)],[]⟩:=by rw[NL];exact Abq (u:=u) (d:=d) Be 18 u 0 Ω Ω
theorem Ban(m:Int){i:Nat}(h:i<18):(dgs m)[i]?=some (dg m i):=by
 unfold dg;rw[zj,zd (by rw[Auh];omega)]
 rfl
theorem IW{a0 a1 a2 seed leaf m:Int}(Be:1000<=u):∀(k nn i:Nat),i+k=18->k<nn ->
  G4 u (Ac C1 prog u (d+5)) a0 a1 a2 nn seed leaf 18 ((za i).map (Aik seed leaf m)).length i (Af .i64 (dgs m)) (Af .u64 ((za i).map (Aik seed leaf m)))=some ⟨[.own 1 18 (Af .u64 (GG seed leaf m))],[]⟩
 |_,0,_,_,h=>Ω
 |0,nn+1,i,hi,c=>by
  have e:i=18:=Ω
  subst e;have a:((za 18).map (Aik seed leaf m)).length=18:=Ψ
  have L:=Al .u64 ((za 18).map (Aik seed leaf m));rw[Mk,Fn _ _ _ Ω];simp(disch:=omega)only[Aq,Ar,Jp,NH,L];rw[a];rfl
 |k+1,nn+1,i,hi,c=>by
  have b:=IW (a0:=a0) (a1:=a1) (a2:=a2) (seed:=seed) (leaf:=leaf) (m:=m) Be k nn (i+1) Ω Ω;have g:=KC m i;have sc:=ZI (u:=u) (d:=d) Be seed leaf i;have f:=Aic (u:=u) (d:=d) (leaf:=leaf) (chain:=i) Be (dg m i).toNat 0 (dg m i) (Ary seed leaf i) Ω Ω Ω;have w:wrap .i64 ((i:Int)+1)=((i+1:Nat):Int):=Bc
  have L:=Al .u64 ((za i).map (Aik seed leaf m));have j:((za i).map (Aik seed leaf m)).length=i:=Ψ
  rw[N3,Ru,lw,<-Nk] at b;rw[Mk];simp(disch:=omega)only[Aq,Ar,Hy,Jp,I8,Tm (Ban m (show i<18 by omega)),sc,f,NH,L,w];exact b
theorem Ajo(Be:1000<=u)(seed leaf m:Int):Ac C1 prog u (d+6) 47 [Ah seed,Av leaf,Ah m]=some ⟨[.own 1 18 (Af .u64 (GG seed leaf m))],[]⟩:=by rw[CO];have a:=Afa (u:=u) (d:=d+4) Be m;simp only[Aq,Ar,a];exact IW (u:=u) (d:=d) Be 18 u 0 Ω Ω
theorem MQ{a0 a1:Int}{n:Nat}{c:Ae}{leaf m:Int}{s:Ak}(g:s.length=18)(Be:1000<=u):∀(k nn i:Nat),i+k=18->k<nn ->
  Hc u (Ac C1 prog u (d+5)) a0 a1 n c nn leaf s.length (Af .u64 s) 18 ((za i).map (LM leaf m s)).length i (Af .i64 (dgs m)) (Af .u64 ((za i).map (LM leaf m s)))=some ⟨[Ah (Ah9 leaf m s),Av 0],[]⟩
 |_,0,_,_,h=>Ω
 |0,nn+1,i,hi,j=>by
  have e:i=18:=Ω
  subst e;have l:((za 18).map (LM leaf m s)).length=18:=Ψ
  have o:=Ani (u:=u) (d:=d) Be leaf (E:=(za 18).map (LM leaf m s)) Ω;have L:=Al .u64 ((za 18).map (LM leaf m s));rw[Nd,Fn _ _ _ Ω];simp(disch:=omega)only[Aq,Ar,Jp,I8,Jo,NH,L,o];rfl
 |k+1,nn+1,i,hi,j=>by
  have a:=MQ (a0:=a0) (a1:=a1) (n:=n) (c:=c) (leaf:=leaf) (m:=m) g Be k nn (i+1) Ω Ω;obtain⟨x,b⟩:∃x,s[i]?=some x:=⟨_,zd Ω⟩
  have q:=KC m i;have f:=Aic (u:=u) (d:=d) (leaf:=leaf) (chain:=i) Be (15-dg m i).toNat (dg m i) 15 x Ω Ω Ω
  have p:AB leaf i (15-dg m i).toNat (dg m i) x=LM leaf m s i:=by
   unfold LM;rw[zj,b];rfl
  rw[p] at f;have w:wrap .i64 ((i:Int)+1)=((i+1:Nat):Int):=Bc
  have L:=Al .u64 ((za i).map (LM leaf m s));have r:((za i).map (LM leaf m s)).length=i:=Ψ
  rw[N3,Ru,lw,<-Nk] at a;rw[Nd];simp(disch:=omega)only[Aq,Ar,Hy,Jp,I8,Tm (Ban m (show i<18 by omega)),Tm b,f,NH,L,w];exact a
theorem Alg(Be:1000<=u)(leaf m:Int)(s:Ak):Ac C1 prog u (d+6) 111 [Av leaf,Ah m,.lst false 1 s.length (Af .u64 s)]=some ⟨(if s.length=18 then [Ah (Ah9 leaf m s),Av 0] else [Ah 0,Av 4]),[]⟩:=by
 refine (FV u (d+5) leaf m s.length (Af .u64 s)).trans ?_;by_cases h:s.length=18
 ·have a:=Afa (u:=u) (d:=d+4) Be m;have b:=MQ (u:=u) (d:=d) (a0:=leaf) (a1:=m) (n:=s.length) (c:=Af .u64 s) (leaf:=leaf) (m:=m) h Be 18 u 0 Ω Ω;simp only[Ej];rw[Bv h,Bv Ω];simp only[Aq,Ar,a];exact b
 ·simp only[Ej];rw[Bd h,Bd Ω]
theorem NB(Be:1000<=u)(level a b:Int):Ac C1 prog u (d+5) 80 [Av level,Ah a,Ah b]=some ⟨[Ah (Ux level a b)],[]⟩:=by
 have c:Ac C1 prog u (d+4) 38 [.lst false 1 3 [Ah (wrap .u64 level),Ah a,Ah b]]=_:=Mi (I:=xs1) (ws:=[wrap .u64 level,a,b]) Ψ Ω (by simp;omega)
 have e:=Apz (u:=u) (d:=d) (ws:=[wrap .u64 level,a,b]) Ψ Be 3;have L:=Al .u8 (Bb [wrap .u64 level,a,b]);rw[HR];unfold Ux;generalize Bb [wrap .u64 level,a,b]=W at c e L ⊢;simp(disch:=omega)only[Aq,Ar,c,Jp,I8,Jo,NH,L,e]
theorem RU(Be:1000<=u)(seed:Int):∀(l:Nat)(i B:Int),0<=i->i<=B->(2 ^ l:Nat)*(B+1)<=1000000000->l<=20->Ac C1 prog u (d+7+l) 48 [Ah seed,Av l,Av i]=some ⟨[Ah (Nq seed l i)],[]⟩
 |0,i,B,c,e,a,f=>by
  have lf:=Azn (u:=u) (d:=d) Be seed i;refine (Wr u (d+6) seed 0 i).trans ?_;simp only[Aq,Ar,E9,if_true,lf];rfl
 |l+1,i,B,c,e,a,f=>by
  have g:(2 ^ (l+1):Nat)=2 ^ l*2:=Nat.pow_succ _ _;have Akr:0<2 ^ l:=Nat.pow_pos Ω;rw[g] at a;generalize b:2 ^ l=q at a Akr
  have h:((q*2:Nat):Int)*(B+1)=(q:Int)*(2*B+1+1):=by
   rw[Int.natCast_mul,Int.mul_assoc]
   congr 1
   omega
  rw[h] at a
  have j:2*B+1+1<=(q:Int)*(2*B+1+1):=by
   have:=Int.mul_le_mul_of_nonneg_right (show (1:Int)<=q by omega) (show (0:Int)<=2*B+1+1 by omega);omega
  have n1:=RU Be seed l (2*i) (2*B+1) Ω Ω (by rw[b];exact a) Ω
  have n2:=RU Be seed l (2*i+1) (2*B+1) Ω Ω (by rw[b];exact a) Ω
  have pr:=NB (u:=u) (d:=d+2+l) Be ((l+1:Nat):Int) (Nq seed l (2*i)) (Nq seed l (2*i+1));rw[show d+2+l+5=d+7+l by omega] at pr;have k:wrap .i64 (((l+1:Nat):Int)-1)=(l:Int):=Bc
  have m:wrap .i64 (2*i)=2*i:=Ba;have n:wrap .i64 (2*i+1)=2*i+1:=Ba;have ne:¬(((l+1:Nat):Int)=0):=Ω
  refine (Wr u (d+7+l) seed ((l+1:Nat):Int) i).trans ?_;simp only[Aq,Ar,E9,ne,if_false,k,m,n,n1,n2,pr];rfl
end
theorem wu(a:0<=h)(b:h<=4):wrap .u64 h=h:=Cq
theorem Aq0(b:0<=h)(c:h<=4)(a:J7 leaf h=false):0<=leaf/\leaf<2 ^ h.toNat:=by
 unfold J7 at a;simp only[ve,decide_eq_false_iff_not] at a;have:h=0\/h=1\/h=2\/h=3\/h=4:=Ω
 rcases this with rfl|rfl|rfl|rfl|rfl
 ·have e:Dv .i64 1 0=1:=Δ
  rw[e] at a;exact⟨Ω,by show leaf<1;omega⟩
 ·have e:Dv .i64 1 1=2:=Δ
  rw[e] at a;exact⟨Ω,by show leaf<2;omega⟩
 ·have e:Dv .i64 1 2=4:=Δ
  rw[e] at a;exact⟨Ω,by show leaf<4;omega⟩
 ·have e:Dv .i64 1 3=8:=Δ
  rw[e] at a;exact⟨Ω,by show leaf<8;omega⟩
 ·have e:Dv .i64 1 4=16:=Δ
  rw[e] at a;exact⟨Ω,by show leaf<16;omega⟩
theorem Bb1(a:0<=h)(b:h<=4):(2:Int) ^ h.toNat<=16:=by
 have:h=0\/h=1\/h=2\/h=3\/h=4:=Ω
 rcases this with rfl|rfl|rfl|rfl|rfl<;>decide
theorem Apd(a:0<=leaf)(c:leaf<16){k:Nat}(b:k<4):0<=EY leaf k/\EY leaf k<=15:=by
 have H:∀n:Fin 16,∀k:Fin 4,0<=EY (n.val:Int) k.val/\EY (n.val:Int) k.val<=15:=Δ
 obtain⟨n,rfl⟩:=g8 a;exact H ⟨n,Ω⟩ ⟨k,b⟩
section
variable {u d:Nat}
theorem Ao5(Be:1000<=u)(seed h:Int):Ac C1 prog u (d+12) 37 [Ah seed,Av h]=some ⟨[.agg (Vp seed h).cells,Av (if E6 h=true then 9 else 0)],[]⟩:=by
 refine (GK u (d+11) seed h).trans ?_;have a:=Xi (u:=u) (d:=d+10) h;unfold Vp;cases c1:E6 h
 ·rw[c1] at a;have c:=Pg c1
  have b:=RU (u:=u) (d:=d+4-h.toNat) Be seed h.toNat 0 0 Ω Ω (by
   have:h=0\/h=1\/h=2\/h=3\/h=4:=Ω
   rcases this with rfl|rfl|rfl|rfl|rfl<;>decide) Ω
  rw[show d+4-h.toNat+7+h.toNat=d+11 by omega,show ((h.toNat:Nat):Int)=h by omega] at b;simp only[Aq,Ar,a,b];rfl
 ·rw[c1] at a;simp only[Aq,Ar,a];rfl
theorem Ace{a0 a1 a2 a3:Int}{seed leaf h:Int}(g:0<=h/\h<=4)(a:0<=leaf/\leaf<16)(Be:1000<=u){y4 y9:Int}{y5 y6:Nat}{y7 y8:Ae}{ch:Ak}:∀(k nn i:Nat),i+k=h.toNat->k<nn ->
  I3 u (Ac C1 prog u (d+11)) a0 a1 a2 a3 nn seed h leaf i y4 y5 y6 y7 y8 leaf ch.length ((za i).map λk=>Nq seed k (EY leaf k)).length (Af .u64 ch) (Af .u64 ((za i).map λk=>Nq seed k (EY leaf k)))=some ⟨[.agg (Sg.mk leaf ch ((za h.toNat).map λk=>Nq seed k (EY leaf k))).owned,Av 0],[]⟩
 |_,0,_,_,h=>Ω
 |0,nn+1,i,hi,j=>by
  have e:i=h.toNat:=Ω
  subst e;have l:=Al .u64 ch;have m:=Al .u64 ((za h.toNat).map λk=>Nq seed k (EY leaf k));rw[Qh,Fn _ _ _ Ω];simp(disch:=omega)only[Aq,Ar,Jp,NH,l,m];rfl
 |k+1,nn+1,i,hi,j=>by
  have b:=Ace (a0:=a0) (a1:=a1) (a2:=a2) (a3:=a3) (seed:=seed) (y4:=y4) (y9:=y9) (y5:=y5) (y6:=y6) (y7:=y7) (y8:=y8) (ch:=ch) g a Be k nn (i+1) Ω Ω;have c:=Apd a.1 a.2 (k:=i) Ω
  have f:=RU (u:=u) (d:=d+4-i) Be seed i (EY leaf i) 15 c.1 c.2 (by
   have:i=0\/i=1\/i=2\/i=3:=Ω
   rcases this with rfl|rfl|rfl|rfl<;>decide) Ω
  rw[show d+4-i+7+i=d+11 by omega] at f;have es:Fh .i64 (E4 .i64 leaf (i:Int)) 1=EY leaf i:=rfl;have w:wrap .i64 ((i:Int)+1)=((i+1:Nat):Int):=Bc
  have n:wrap .u64 (i:Int)=i:=Cq;have L:=Al .u64 ((za i).map λk=>Nq seed k (EY leaf k));have o:((za i).map λk=>Nq seed k (EY leaf k)).length=i:=Ψ
  rw[N3,Ru,lw,<-Nk] at b;rw[Qh];simp(disch:=omega)only[Aq,Ar,n,es,f,Jp,NH,L,w];exact b
theorem An7(Be:1000<=u)(seed h leaf m:Int):Ac C1 prog u (d+12) 27 [Ah seed,Av h,Av leaf,Ah m]=some ⟨PC (Agq seed h leaf m),[]⟩:=by
 refine (NZ u (d+11) seed h leaf m).trans ?_;have b:=Xi (u:=u) (d:=d+10) h;unfold Agq;cases c1:E6 h
 ·rw[c1] at b;have a:=Pg c1;have w:=wu a.1 a.2;rw[Bd Ψ];by_cases g:leaf<0
  ·have c:J7 leaf h=true:=by unfold J7;simp[g]
   rw[Bv c];simp(disch:=omega)only[Aq,Ar,b];rfl
  ·by_cases e:leaf>=Dv .i64 1 h
   ·have c:J7 leaf h=true:=by unfold J7;simp[e]
    rw[Bv c];simp (disch:=first|omega|exact e) only[Aq,Ar,b,w];rfl
   ·have c:J7 leaf h=false:=by unfold J7;simp only[ve,decide_eq_false_iff_not];exact⟨g,e⟩
    have Ct:=Aq0 a.1 a.2 c;have j:=Bb1 a.1 a.2;rw[Bd (by rw[c];simp)]
    have sl:=Ajo (u:=u) (d:=d+5) Be seed leaf m;have i:=Ace (u:=u) (d:=d) (a0:=seed) (a1:=h) (a2:=leaf) (a3:=m) (seed:=seed) (leaf:=leaf) (h:=h) a Ω Be (y4:=0) (y9:=0) (y5:=0) (y6:=0) (y7:=[]) (y8:=[]) (ch:=GG seed leaf m) h.toNat u 0 Ω Ω;have f:(GG seed leaf m).length=18:=by simp[GG]
    rw[f] at i;simp (disch:=first|omega|exact e) only[Aq,Ar,b,w,sl];exact i
 ·rw[c1] at b;rw[Bv rfl];simp(disch:=omega)only[Aq,Ar,b];rfl
theorem PH{a0 a1 a2 a3:Int}{n1 n2 n3:Nat}{c1 c2 c3:Ae}{root leaf:Int}{path:Ak}(hp:path.length<=100)(Be:1000<=u):∀(r:Ak)(i nn:Nat)(x:Int),path.drop i=r->r.length<nn->i<=path.length ->
  Gg u (Ac C1 prog u (d+5)) a0 a1 a2 a3 n1 c1 n2 c2 nn x i path.length root leaf n3 c3 path.length (Af .u64 path)=some ⟨[Av (okE (GY leaf i x r) root)],[]⟩
 |_,_,0,_,_,h,_=>Ω
 |[],i,nn+1,x,h,b,hi=>by
  have:=drop_nil h;rw[Oc,Fn _ _ _ Ω,Ej];rw[Aa4];unfold okE;by_cases e:x=root
  ·rw[Bv e,Bv e]
  ·rw[Bd e,Bd e]
 |s::r,i,nn+1,x,h,b,hi=>by
  obtain⟨m,c,j⟩:=Cb h;simp only[M9] at b;have w:wrap .i64 ((i:Int)+1)=((i+1:Nat):Int):=Bc
  have f:wrap .u64 (i:Int)=i:=Cq;have g:=λx=>PH (a0:=a0) (a1:=a1) (a2:=a2) (a3:=a3) (n1:=n1) (n2:=n2) (n3:=n3) (c1:=c1) (c2:=c2) (c3:=c3) (root:=root) (leaf:=leaf) hp Be r (i+1) nn x j Ω Ω;have k:=NB (u:=u) (d:=d) Be ((i+1:Nat):Int) x s;have l:=NB (u:=u) (d:=d) Be ((i+1:Nat):Int) s x;rw[Oc,IF];by_cases a:C8 .i64 (E4 .i64 leaf i) 1=0
  ·rw[Bv a,<-g];simp(disch:=omega)only[Aq,Ar,Hy,Jp,Tm c,E9,f,a,w,k,if_true]
  ·rw[Bd a,<-g];simp(disch:=omega)only[Aq,Ar,Hy,Jp,Tm c,E9,f,a,w,l,if_false]
theorem Api(Be:1000<=u)(k:Ky)(m:Int)(s:Sg):Ac C1 prog u (d+7) 65 [.agg k.cells,Ah m,.agg s.cells]=some ⟨[Av (XI k m s)],[]⟩:=by
 refine (HJ u (d+6) k.h k.root m s.leaf s.chains.length (Af .u64 s.chains) s.path.length (Af .u64 s.path)).trans ?_;have a:=Xi (u:=u) (d:=d+5) k.h;unfold XI;cases c1:E6 k.h
 ·rw[c1] at a;have f:=Pg c1;have w:=wu f.1 f.2;rw[Bd Ψ];by_cases g:s.leaf<0
  ·have c:J7 s.leaf k.h=true:=by unfold J7;simp[g]
   rw[Bv c];simp(disch:=omega)only[Aq,Ar,a]
  ·by_cases b:s.leaf>=Dv .i64 1 k.h
   ·have c:J7 s.leaf k.h=true:=by unfold J7;simp[b]
    rw[Bv c];simp (disch:=first|omega|exact b) only[Aq,Ar,a,w]
   ·have c:J7 s.leaf k.h=false:=by unfold J7;simp only[ve,decide_eq_false_iff_not];exact⟨g,b⟩
    rw[Bd (by rw[c];simp)]
    by_cases h:s.chains.length=18
    ·by_cases e:(s.path.length:Int)=k.h
     ·have i:=Alg (u:=u) (d:=d) Be s.leaf m s.chains;rw[Bv h] at i;have j:=PH (u:=u) (d:=d+1) (a0:=k.h) (a1:=k.root) (a2:=m) (a3:=s.leaf) (n1:=s.chains.length) (n2:=s.path.length) (n3:=s.chains.length) (c1:=Af .u64 s.chains) (c2:=Af .u64 s.path) (c3:=Af .u64 s.chains) (root:=k.root) (leaf:=s.leaf) (path:=s.path) Ω Be s.path 0 u (Ah9 s.leaf m s.chains) rfl Ω Ω;rw[Bd Ω,Bd Ω,<-j];simp (disch:=first|omega|exact b) only[Aq,Ar,a,w,Ej,i,e,if_true];rw[Bv Ω];rfl
     ·rw[Bd Ω,Bv e];simp (disch:=first|omega|exact b) only[Aq,Ar,a,w,Ej,e,if_false];rw[Bv Ω]
    ·rw[Bv h];simp (disch:=first|omega|exact b) only[Aq,Ar,a,w,Ej];rw[Bd Ω]
 ·rw[c1] at a;rw[Bv rfl];simp(disch:=omega)only[Aq,Ar,a]
theorem YX(Be:1000<=u)(k:Ky):Ac C1 prog u (d+2) 44 [.agg k.cells]=some ⟨(if E6 k.h=true then [.own 1 0 [],Av 9] else [.own 1 9 (Af .u8 (LF k)),Av 0]),[]⟩:=by
 refine (BA u (d+1) k.h k.root).trans ?_;have a:=Xi (u:=u) (d:=d) k.h;have b:=A3b (u:=u) (d:=d) Be k.root;have L:=Al .u8 (B6 k.root);rw[Cu] at L;have c:yt 8 (Af .u8 (B6 k.root))=Af .u8 (B6 k.root):=Gp Ω
 have e:yt 9 ([PV.sc (.int .u8 (wrap .u8 k.h))]++Af .u8 (B6 k.root))=Af .u8 (LF k):=by
  rw[Gp (by rw[Ru,L];simp)]
  rfl
 have f:([PV.sc (.int .u8 (wrap .u8 k.h))]++Af .u8 (B6 k.root)).length=9:=by rw[Ru,L];rfl
 cases c1:E6 k.h
 ·rw[c1] at a;rw[Bd Ψ];simp(disch:=omega)only[Aq,Ar,a,b,Jp,I8,Jo,L,c,Nat.reduceAdd,f,e]
 ·rw[c1] at a;rw[Bv rfl];simp(disch:=omega)only[Aq,Ar,a]
theorem Abr{F:An}{n:Nat}{c:Ae}{l:Ak}(d:l.length=8):∀(r:Ak)(j nn:Nat)(x:Int),l.drop j=r->r.length<nn->j<=8 ->
  I2 u F n c nn l.length (Af .u8 l) x j=some ⟨[Ah (r.foldl M3 x)],[]⟩
 |_,_,0,_,_,h,_=>Ω
 |[],j,nn+1,x,h,a,e=>by
  have:=drop_nil h;rw[Qe,Fn _ _ _ Ω];rfl
 |b::r,j,nn+1,x,h,a,e=>by
  obtain⟨k,f,g⟩:=Cb h;simp only[M9] at a;have w:wrap .i64 ((j:Int)+1)=((j+1:Nat):Int):=Bc
  have i:=Abr (F:=F) (n:=n) (c:=c) d r (j+1) nn (M3 x b) g Ω Ω;rw[List.foldl_cons,<-i,Qe];simp(disch:=omega)only[Aq,Ar,Hy,Jp,Tm f,w]
theorem GQ(Be:1000<=u)(a:l.length=8):Ac C1 prog u (d+1) 109 [.lst false 1 8 (Af .u8 l)]=some ⟨[Ah (Ado l)],[]⟩:=by rw[MY];have:=Abr (u:=u) (F:=Ac C1 prog u d) (n:=8) (c:=Af .u8 l) a l 0 u 0 rfl Ω Ω;rw[a] at this;exact this
theorem Ars(Be:1000<=u)(h:Ch l):Ac C1 prog u (d+2) 110 [.lst false 1 l.length (Af .u8 l)]=some ⟨UY (Adv l),[]⟩:=by
 refine (AY u (d+1) l.length (Af .u8 l)).trans ?_;unfold Adv;by_cases a:l.length=9
 ·obtain⟨x,b⟩:∃x,l[0]?=some x:=⟨_,zd Ω⟩
  have i:=h x (zn b);have f:wrap .i64 x=x:=Ba;have j:l.getD 0 0=x:=by rw[zj,b];rfl
  have c:=Xi (u:=u) (d:=d) x;rw[j];cases c1:E6 x
  ·rw[c1] at c;have e:(l.drop 1).length=8:=by rw[yr];omega
   have g:=GQ (u:=u) (d:=d) Be e
   have k:Ado (l.drop 1)=Nw (l.drop 1) 0:=by
    unfold Nw;rw[ks,Jo,Gp Ω]
   rw[k] at g;have m:9-1=8:=rfl;have n:yt 8 (Af .u8 (l.drop 1))=Af .u8 (l.drop 1):=Gp (by rw[Al];omega)
   rw[Bv ⟨a,rfl⟩,a];simp(disch:=omega)only[Aq,Ar,Ej,Tm b,f,c,Jp,G5,m,n,g];rfl
  ·rw[c1] at c;rw[Bd Ψ,a];simp(disch:=omega)only[Aq,Ar,Ej,Tm b,f,c];rfl
 ·rw[Bd (by simp[a])];simp(disch:=omega)only[Ej];rw[Bd Ω];rfl
end
section
variable {u d:Nat}
theorem A34(n:Nat):E6 (n:Int)=decide ((n:Int)>4):=by
 unfold E6;have:¬((n:Int)<0):=Ω
 simp[this]
theorem ZR(Be:1000<=u)(s:Sg)(hp:s.path.length<=1000000000):Ac C1 prog u (d+2) 30 [.agg s.cells]=some ⟨(if E6 s.path.length=true then [.own 1 0 [],Av 9] else if J7 s.leaf s.path.length=true then [.own 1 0 [],Av 9] else if s.chains.length≠18 then [.own 1 0 [],Av 4] else [.own 1 (sgB s).length (Af .u8 (sgB s)),Av 0]),[]⟩:=by
 refine (Sn u (d+1) s.leaf s.chains.length (Af .u64 s.chains) s.path.length (Af .u64 s.path)).trans ?_;rw[A34];by_cases c1:(s.path.length:Int)>4
 ·rw[Bv (by simp[c1])];simp(disch:=omega)only[Aq,Ar]
 ·rw[Bd (by simp[c1])];have w:=wu (h:=s.path.length) Ω Ω;by_cases f:s.leaf<0
  ·have a:J7 s.leaf s.path.length=true:=by unfold J7;simp[f]
   rw[Bv a];simp(disch:=omega)only[Aq,Ar]
  ·by_cases b:s.leaf>=Dv .i64 1 s.path.length
   ·have a:J7 s.leaf s.path.length=true:=by unfold J7;simp[b]
    rw[Bv a];simp (disch:=first|omega|exact b) only[Aq,Ar,w]
   ·have a:J7 s.leaf s.path.length=false:=by unfold J7;simp only[ve,decide_eq_false_iff_not];exact⟨f,b⟩
    rw[Bd (by rw[a];simp)]
    by_cases i:s.chains.length=18
    ·have j:=Mi (I:=xs1) (u:=u) (d:=d) (ws:=s.chains) Ω Ω Ω;have k:=Mi (I:=xs1) (u:=u) (d:=d) (ws:=s.path) Ω Ω Ω;have o:=Fd s.chains;have p:=Fd s.path;have c:=Al .u8 (Bb s.chains);have e:=Al .u8 (Bb s.path)
     have eB:Af .u8 (sgB s)=[PV.sc (.int .u8 (wrap .u8 s.leaf)),PV.sc (.int .u8 (wrap .u8 s.path.length))]++Af .u8 (Bb s.chains)++Af .u8 (Bb s.path):=by
      unfold sgB;simp
     have eL:(sgB s).length=2+(Bb s.chains).length+(Bb s.path).length:=by
      unfold sgB;simp;omega
     rw[Bd Ω,eB,eL];have l:yt (2+(Bb s.chains).length) ([PV.sc (.int .u8 (wrap .u8 s.leaf)),PV.sc (.int .u8 (wrap .u8 s.path.length))]++Af .u8 (Bb s.chains))=[PV.sc (.int .u8 (wrap .u8 s.leaf)),PV.sc (.int .u8 (wrap .u8 s.path.length))]++Af .u8 (Bb s.chains):=Gp (by rw[Ru,c];simp)
     have m:yt (2+(Bb s.chains).length+(Bb s.path).length) ([PV.sc (.int .u8 (wrap .u8 s.leaf)),PV.sc (.int .u8 (wrap .u8 s.path.length))]++Af .u8 (Bb s.chains)++Af .u8 (Bb s.path))=[PV.sc (.int .u8 (wrap .u8 s.leaf)),PV.sc (.int .u8 (wrap .u8 s.path.length))]++Af .u8 (Bb s.chains)++Af .u8 (Bb s.path):=Gp (by rw[Ru,Ru,c,e];simp)
     have g:([PV.sc (.int .u8 (wrap .u8 s.leaf)),PV.sc (.int .u8 (wrap .u8 s.path.length))]++Af .u8 (Bb s.chains)).length=2+(Bb s.chains).length:=by rw[Ru,c];rfl
     have n:([PV.sc (.int .u8 (wrap .u8 s.leaf)),PV.sc (.int .u8 (wrap .u8 s.path.length))]++Af .u8 (Bb s.chains)++Af .u8 (Bb s.path)).length=2+(Bb s.chains).length+(Bb s.path).length:=by rw[Ru,g,e]
     simp (disch:=first|omega|exact b) only[Aq,Ar,w,Ej,j,k,Jp,I8,Jo,c,e,NH,l,m,g,n];rw[Bv Ω]
    ·rw[Bv i];simp (disch:=first|omega|exact b) only[Aq,Ar,w,Ej];rw[Bd Ω]
def HI(l:Ak)(i:Nat):Int:=Ado ((l.drop (2+8*i)).take 8)
theorem A6j{i:Nat}(hi:i<18):Nw ((l.drop 2).take 144) i=HI l i:=by unfold Nw HI;rw[List.drop_take,List.take_take,yq,va Ω]
theorem A8y{i:Nat}:Nw (l.drop 146) i=HI l (18+i):=by unfold Nw HI;rw[yq,show 146+8*i=2+8*(18+i) by omega]
theorem PX{n:Nat}{c:Ae}{l:Ak}(C:l.length<=1000){y:Int}(a:l[1]?=some y)(D:0<=y/\y<=4)(Ev:(l.length:Int)=2+8*(18+y))(Be:1000<=u){y3 y4:Int}{n5 n6 n7:Nat}{c5 c6:Ae}{x:Int}:∀(k nn i:Nat),i+k=18+y.toNat->k<nn ->
  Ds u (Ac C1 prog u (d+1)) n c nn l.length (Af .u8 l) i y3 n5 n6 c5 c6 x ((za (min i 18)).map (HI l)).length ((za (i-18)).map λj=>HI l (18+j)).length (Af .u64 ((za (min i 18)).map (HI l))) (Af .u64 ((za (i-18)).map λj=>HI l (18+j)))=some ⟨[.agg (Sg.mk x ((za 18).map (HI l)) ((za y.toNat).map λj=>HI l (18+j))).owned,Av 0],[]⟩
 |_,0,_,_,h=>Ω
 |k,nn+1,i,hi,L=>by
  have o:wrap .i64 y=y:=Ba;have b:wrap .i64 (18+y)=18+y:=Ba;have g:=Al .u64 ((za (min i 18)).map (HI l));have p:=Al .u64 ((za (i-18)).map λj=>HI l (18+j));have E:((za (min i 18)).map (HI l)).length=min i 18:=Ψ
  have M:((za (i-18)).map λj=>HI l (18+j)).length=i-18:=Ψ
  rw[Pd];cases k with
  |zero=>
   have e:i=18+y.toNat:=Ω
   have G:min i 18=18:=Ω
   have H:i-18=y.toNat:=Ω
   simp(disch:=omega)only[Aq,Ar,Tm a,o,b,Jp,NH,g,p];rw[G,H];rfl
  |succ k=>
   have m:=PX (n:=n) (c:=c) C a D Ev Be (y3:=y3) (y4:=y4) (n5:=n5) (n6:=n6) (n7:=n7) (c5:=c5) (c6:=c6) (x:=x) k nn (i+1) Ω Ω;have v:wrap .i64 (8*(i:Int))=((8*i:Nat):Int):=Bc
   have z:wrap .i64 (2+((8*i:Nat):Int))=((2+8*i:Nat):Int):=Bc
   have f:wrap .i64 (10+((8*i:Nat):Int))=((10+8*i:Nat):Int):=Bc
   have w:wrap .i64 ((i:Int)+1)=((i+1:Nat):Int):=Bc
   have A:10+8*i-(2+8*i)=8:=Ω
   have q:((l.drop (2+8*i)).take 8).length=8:=by rw[x7,yr];omega
   have r:=GQ (u:=u) (d:=d) Be q;have J:Ado ((l.drop (2+8*i)).take 8)=HI l i:=rfl;rw[J] at r;by_cases K:i<18
   ·have s:min (i+1) 18=min i 18+1:=Ω
    have B:min i 18=i:=Ω
    have t:i+1-18=i-18:=Ω
    rw[s,t,N3,Ru,lw,<-Nk,B] at m;rw[B] at g E ⊢;simp(disch:=omega)only[Aq,Ar,Tm a,o,b,v,z,f,Hy,Jp,A,G5,Fz,ly,r,g,p,w];exact m
   ·have s:min (i+1) 18=min i 18:=Ω
    have t:i+1-18=(i-18)+1:=Ω
    rw[s,t,N3,Ru,lw,<-Nk,show 18+(i-18)=i by omega] at m;simp(disch:=omega)only[Aq,Ar,Tm a,o,b,v,z,f,Hy,Jp,A,G5,Fz,ly,r,g,p,w];exact m
theorem Arb(Be:1000<=u)(o:Ch l):Ac C1 prog u (d+2) 64 [.lst false 1 l.length (Af .u8 l)]=some ⟨Abg (sgD l),[]⟩:=by
 refine (Ta u (d+1) l.length (Af .u8 l)).trans ?_;unfold sgD;by_cases p:2<=l.length
 ·obtain⟨x,a⟩:∃x,l[0]?=some x:=⟨_,zd Ω⟩
  obtain⟨y,b⟩:∃y,l[1]?=some y:=⟨_,zd Ω⟩
  have t:=o x (zn a);have v:=o y (zn b);have f:wrap .i64 x=x:=Ba;have h:wrap .i64 y=y:=Ba;have e:wrap .u64 y=y:=Cq;have w:l.getD 0 0=x:=by rw[zj,a];rfl
  have z:l.getD 1 0=y:=by rw[zj,b];rfl
  have q:wrap .i64 (18+y)=18+y:=Ba;have r:wrap .i64 (8*(18+y))=8*(18+y):=Ba;have s:wrap .i64 (2+8*(18+y))=2+8*(18+y):=Ba;rw[w,z]
  have k:E6 y=decide (y>4):=by
   unfold E6;have:¬(y<0):=Ω
   simp[this]
  have m:J7 x y=decide (x>=Dv .i64 1 y):=by
   unfold J7;have:¬(x<0):=Ω
   simp[this]
  rw[k,m];by_cases c1:y>4
  ·rw[Bd (by simp[c1])];simp(disch:=omega)only[Aq,Ar,Tm a,Tm b,f,h];rfl
  ·by_cases c2:x>=Dv .i64 1 y
   ·rw[Bd (by simp[c2])];simp (disch:=first|omega|exact c2) only[Aq,Ar,Tm a,Tm b,f,h,e];rfl
   ·by_cases g:(l.length:Int)=2+8*(18+y)
    ·rw[Bv ⟨p,by simp[c1],by simp[c2],g⟩];have A:=PX (u:=u) (d:=d) (n:=l.length) (c:=Af .u8 l) (l:=l) Ω b Ω g Be (y3:=0) (y4:=0) (n5:=0) (n6:=0) (n7:=0) (c5:=[]) (c6:=[]) (x:=x) (18+y.toNat) u 0 Ω Ω;simp (disch:=first|omega|exact c2) only[Aq,Ar,Ej,Tm a,Tm b,f,h,e,q,r,s];rw[Bv g];simp(disch:=omega)only[Aq,Ar,Pm,Tm a,f];refine Eq.trans A ?_
     have B:Gx ((l.drop 2).take 144)=(za 18).map (HI l):=by
      unfold Gx;rw[show ((l.drop 2).take 144).length / 8=18 by rw[x7,yr];omega]
      exact vz λi hi=>A6j (yh.1 hi)
     have C:Gx (l.drop 146)=(za y.toNat).map λj=>HI l (18+j):=by
      unfold Gx;rw[show (l.drop 146).length / 8=y.toNat by rw[yr];omega]
      exact vz λi hi=>A8y
     rw[B,C];rfl
    ·rw[Bd (by simp[g])];simp (disch:=first|omega|exact c2) only[Aq,Ar,Ej,Tm a,Tm b,f,h,e,q,r,s];rw[Bd g];rfl
 ·rw[Bd (by simp[p])];simp(disch:=omega)only[Aq,Ar];rfl
end
theorem A4c(seed leaf m:Int):Ah9 leaf m (GG seed leaf m)=TK seed leaf:=by
 unfold Ah9 TK Acb
 congr 1
 refine vz λi hi=>?_;have hi:=yh.1 hi;have a:=KC m i;unfold LM Ai0
 have e:(GG seed leaf m).getD i 0=Aik seed leaf m i:=by
  unfold GG;rw[zj,zr,lz hi];rfl
 rw[e];unfold Aik;have:=Alb leaf i (dg m i).toNat (15-dg m i).toNat 0 (Ary seed leaf i);rw[show (dg m i).toNat+(15-dg m i).toNat=15 by omega,show (0:Int)+((dg m i).toNat:Nat)=dg m i by omega] at this;exact this.symm
theorem Awl:∀n:Fin 16,∀k:Fin 4,
  (C8 .i64 (E4 .i64 (n.val:Int) k.val) 1=0/\E4 .i64 (n.val:Int) k.val=2*E4 .i64 (n.val:Int) ((k.val+1:Nat):Int)/\EY n.val k.val=2*E4 .i64 (n.val:Int) ((k.val+1:Nat):Int)+1) \/
  (C8 .i64 (E4 .i64 (n.val:Int) k.val) 1≠0/\E4 .i64 (n.val:Int) k.val=2*E4 .i64 (n.val:Int) ((k.val+1:Nat):Int)+1/\EY n.val k.val=2*E4 .i64 (n.val:Int) ((k.val+1:Nat):Int)):=Δ
theorem Aax(seed:Int){leaf:Int}(d:0<=leaf)(e:leaf<16):∀(k i:Nat),i+k<=4 ->
  GY leaf i (Nq seed i (E4 .i64 leaf i)) ((gg i k).map λj=>Nq seed j (EY leaf j))=Nq seed (i+k) (E4 .i64 leaf ((i+k:Nat):Int))
 |0,i,_=>rfl
 |k+1,i,h=>by
  rw[List.range'_succ,ER,IF];obtain⟨n,rfl⟩:=g8 d;have f:=Aax seed d e k (i+1) Ω;rw[show i+(k+1)=i+1+k by omega,<-f]
  congr 1
  rcases Awl ⟨n,Ω⟩ ⟨i,Ω⟩ with⟨a,b,c⟩|⟨a,b,c⟩
  ·simp only at a b c;rw[Bv a,b,c];rfl
  ·simp only at a b c;rw[Bd a,b,c];rfl
theorem A1c{seed m:Int}(b:E6 h=false)(e:J7 leaf h=false):XI (Vp seed h) m ⟨leaf,GG seed leaf m,(za h.toNat).map λk=>Nq seed k (EY leaf k)⟩=0:=by
 have a:=Pg b;have d:=Aq0 a.1 a.2 e;have g:=Bb1 a.1 a.2
 have eP:Vp seed h=⟨h,Nq seed h.toNat 0⟩:=by
  unfold Vp;rw[b];rfl
 rw[eP];unfold XI;simp only;rw[Bd (show ¬E6 h=true by rw[b];simp),Bd (show ¬J7 leaf h=true by rw[e];simp),Bd (show ¬(GG seed leaf m).length≠18 by simp[GG]),Bd (by rw[zv,w7];omega),A4c]
 have c:=Aax seed d.1 (show leaf<16 by omega) h.toNat 0 Ω
 have i:E4 .i64 leaf ((0:Nat):Int)=leaf:=by
  show leaf.fdiv (2 ^ (min ((0:Nat):Int).toNat IntKind.i64.bits))=leaf;have:(2:Int) ^ (min ((0:Nat):Int).toNat IntKind.i64.bits)=1:=Δ
  rw[this,Int.fdiv_one]
 have j:E4 .i64 leaf ((0+h.toNat:Nat):Int)=0:=by
  have H:∀n:Fin 16,∀k:Fin 5,(n.val:Int)<2 ^ k.val->E4 .i64 (n.val:Int) ((0+k.val:Nat):Int)=0:=Δ
  obtain⟨n,f⟩:=g8 d.1;have:=H ⟨n,Ω⟩ ⟨h.toNat,Ω⟩ (by simp only;rw[<-f];exact d.2)
  rw[f];exact this
 rw[i,j,I8] at c;have l:gg 0 h.toNat=za h.toNat:=List.range_eq_range'.symm;rw[l] at c;have el:Nq seed 0 leaf=TK seed leaf:=rfl;rw[el] at c;rw[c];unfold okE;rw[Bv rfl]
abbrev isU(x:Int):Prop:=0<=x/\x<=18446744073709551615
abbrev isW(l:Ak):Prop:=∀x∈l,isU x
theorem OT:∀{ws:Ak}{i:Nat}{w:Int},isW ws->ws[i]?=some w->Nw (Bb ws) i=w
 |[],i,w,_,h=>by simp at h
 |a::ws,0,w,b,h=>by
  simp at h;subst h;have e:Bb (a::ws)=B6 a++Bb ws:=rfl;unfold Nw;rw[ks,Jo,e,ua (Cu a)];have:=b a Ψ;exact Ae7 this.1 this.2
 |a::ws,i+1,w,b,h=>by
  simp at h;have c:=OT (ws:=ws) (λx d=>b x (BL _ d)) h;have e:Bb (a::ws)=B6 a++Bb ws:=rfl;unfold Nw at c ⊢;rw[show 8*(i+1)=(B6 a).length+8*i by rw[Cu];omega,e,<-yq,uc rfl]
  exact c
theorem QM{ws:Ak}(a:isW ws):Gx (Bb ws)=ws:=by
 have b:(Bb ws).length / 8=ws.length:=by rw[Fd];omega
 apply List.ext_getElem?;intro i;unfold Gx;rw[b];by_cases h:i<ws.length
 ·rw[zr,lz h,zd h];simp only[Option.map_some];rw[OT a (zd h)]
 ·rw[zh (by simp;omega),zh Ω]
structure Sg.ok(s:Sg):Prop where
 ch:isW s.chains
 pa:isW s.path
theorem Bk3(s:Sg):Ch (sgB s):=by
 have b:∀v:Int,0<=wrap .u8 v/\wrap .u8 v<=255:=by
  intro v;simp only[wrap,IntKind.signed,IntKind.bits];simp;omega
 intro x a;unfold sgB at a;rcases zl.1 a with rfl|a
 ·exact b _
 rcases zl.1 a with rfl|a
 ·exact b _
 rcases B8.1 a with a|a
 ·exact Z9 _ x a
 ·exact Z9 _ x a
theorem A9c{s:Sg}(i:s.ok)(b:E6 s.path.length=false)(c:J7 s.leaf s.path.length=false)(j:s.chains.length=18):sgD (sgB s)=some s:=by
 obtain⟨leaf,ch,pa⟩:=s;obtain⟨f,hp⟩:=i;simp only at b c j f hp;have a:=Pg b;have o:=Aq0 a.1 a.2 c;have k:=Bb1 a.1 a.2;have l:wrap .u8 leaf=leaf:=Gt Ω Ω;have m:wrap .u8 (pa.length:Int)=pa.length:=Gt Ω Ω;have d:(Bb ch).length=144:=by rw[Fd];omega
 have n:(Bb pa).length=8*pa.length:=Fd pa
 have len:(sgB ⟨leaf,ch,pa⟩).length=2+144+8*pa.length:=by
  unfold sgB;simp only[M9,Ru,d,n];omega
 have g:(sgB ⟨leaf,ch,pa⟩).getD 0 0=leaf:=l;have e:(sgB ⟨leaf,ch,pa⟩).getD 1 0=pa.length:=m;have h:(sgB ⟨leaf,ch,pa⟩).drop 2=Bb ch++Bb pa:=rfl
 have d146:(sgB ⟨leaf,ch,pa⟩).drop 146=Bb pa:=by
  rw[show 146=2+144 from rfl,<-yq,h,uc d]
 unfold sgD;rw[Bv ⟨Ω,by rw[e];exact b,by rw[g,e];exact c,by rw[e,len];omega⟩,g,h,d146,ua d,QM f,QM hp]
theorem YA(dom:Int)(l:Ak):isU (Fk dom l):=Vw _
theorem Bc0(key dom:Int)(l:Ak):isU (A6s key dom l):=Vw _
theorem A1j(leaf chain:Int):∀(k:Nat)(p:Int){x:Int},isU x->isU (AB leaf chain k p x)
 |0,_,_,h=>h
 |k+1,p,x,h=>A1j leaf chain k (p+1) (YA _ _)
theorem Bcz(seed leaf m:Int):isW (GG seed leaf m):=by intro x a;obtain⟨k,_,rfl⟩:=kl.1 a;exact A1j _ _ _ _ (Bc0 _ _ _)
theorem A9b(seed:Int):∀(l:Nat)(i:Int),isU (Nq seed l i)
 |0,i=>YA _ _
 |l+1,i=>YA _ _
theorem Aas{seed:Int}(a:E6 h=false):(Vp seed h).h=h:=by unfold Vp;rw[Bd (by simp[a])]
theorem A76{seed m:Int}(a:E6 h=false)(b:J7 leaf h=false):∃s,Agq seed h leaf m=some s/\s.ok/\s.leaf=leaf/\s.chains.length=18/\(s.path.length:Int)=h/\XI (Vp seed h) m s=0:=by
 have d:=Pg a;refine⟨⟨leaf,GG seed leaf m,(za h.toNat).map λk=>Nq seed k (EY leaf k)⟩,?_,⟨Bcz _ _ _,?_⟩,rfl,by simp[GG],?_,A1c a b⟩
 ·unfold Agq;rw[Bd (by simp[a]),Bd (by simp[b])]
 ·intro x c;obtain⟨k,_,rfl⟩:=kl.1 c;exact A9b _ _ _
 ·simp only[zv,w7];omega
theorem A8a{s:Sg}:(sgB s).length=2+8*s.chains.length+8*s.path.length:=by unfold sgB;simp only[M9,Ru,Fd];omega
end
end Go.Proofs.YtfmabfhjccngbaaGreatDoor.Pv
