/-
  The proof of RegistrationBinds, part 7.
-/
import Derived.Test.YtamoegpkglhedaaGreatDoorBF
import Derived.Test.YtamoegpkglhedaaGreatDoorRows
import Derived.Lib.ValidLaws
set_option linter.unusedSimpArgs false
set_option linter.unusedVariables false
namespace Go.Proofs.YtamoegpkglhedaaGreatDoor.Pv
open Go.IntKind (wrap)
open Go.Proofs.Tryz (prog)
set_option maxRecDepth 1000000
noncomputable section
def pG:FuncId->Option (Ae->Option A4):=fun f=>bif Nat.beq f 57 then some JD else bif Ajd.any (Nat.beq f) then some (fun args=>H3 C3 prog 1000400 40 f args) else none
abbrev C1:G3:=CP pG
abbrev HZ:=UD pG
theorem extV:GX gU prog C1:=Arj (fun f hf g h args res hg=>by
 unfold pG at h;cases hq:Nat.beq f 57
 ·rw[hq,hf] at h;cases h;exact Dm ngR mxR A9n 40 f args res ((AQ 40 f args).symm.trans hg)
 ·rw[hq] at h;cases h;rw[Dc hq];exact LU args res hg)
section
variable {xs:FuncId->Option (Ae->Option A4)}(fu d:Nat)(call:Aq)
def Df(Z:Nat)(Y:Ae)(X W:Nat)(V:Ae)(U:ByteArray)(T:Int):Option A4:=K0 fu call 48 Tryz.f48 [As 1 Z Y] [.r,.r,.l,.r,.l] X ⟨lk [(0,As 1 W V),(3,U),(4,T)],Fx []⟩
def Cl(Z:Nat)(Y:Ae)(X W V:Nat)(U:Ae)(T:ByteArray)(S Q P:Int):Option A4:=K0 fu call 48 Tryz.f48 [As 1 Z Y] [.r,.r,.l,.r,.l,.i X,.r,.l,.l,.r,.r,.r,.r,.l] W ⟨lk [(0,As 1 V U),(3,T),(4,S),(5,Ah Q),(6,P)],Fx []⟩
theorem Fs(V:Nat)(U:Ae)(T Y:Nat)(X:Ae)(W:ByteArray)(Z:Int):Df fu call V U (T+1) Y X W Z=(Ay (decide (Z<(↑Y:Int))) (Ar (decide (0<=Z)&&decide (Z<(↑Y:Int)))<|Ba .u8 (X.getD (Z.toNat*1) .top) fun a=>Aa (wrap .u64 a) fun a=>Aa (Fp .u64 a 16) fun a=>Aa (wrap .i64 (Z+1)) fun b=>Ay (decide (b<(↑Y:Int))) (Aa (wrap .i64 (Z+1)) fun b=>Ar (decide (0<=b)&&decide (b<(↑Y:Int)))<|Ba .u8 (X.getD (b.toNat*1) .top) fun b=>Aa (wrap .u64 b) fun b=>Aa (Fp .u64 b 8) fun b=>Aa (DU .u64 a b) fun a=>Aa (wrap .i64 (Z+2)) fun b=>Ay (decide (b<(↑Y:Int))) (Aa (wrap .i64 (Z+2)) fun b=>Ar (decide (0<=b)&&decide (b<(↑Y:Int)))<|Ba .u8 (X.getD (b.toNat*1) .top) fun b=>Aa (wrap .u64 b) fun b=>Aa (DU .u64 a b) fun a=>Cl fu call V U T fu Y X W Z a 0) (Cl fu call V U T fu Y X W Z a 0)) (Aa (wrap .i64 (Z+2)) fun b=>Ay (decide (b<(↑Y:Int))) (Aa (wrap .i64 (Z+2)) fun b=>Ar (decide (0<=b)&&decide (b<(↑Y:Int)))<|Ba .u8 (X.getD (b.toNat*1) .top) fun b=>Aa (wrap .u64 b) fun b=>Aa (DU .u64 a b) fun a=>Cl fu call V U T fu Y X W Z a 0) (Cl fu call V U T fu Y X W Z a 0))) (Bg [W])):=by kernel_rfl
theorem H7(V:Nat)(U:Ae)(T P Z:Nat)(S:Ae)(Y:ByteArray)(X Q W:Int):Cl fu call V U T (P+1) Z S Y X Q W=(Ay (decide (W<4)) (Aa (wrap .i64 ((↑Z:Int)-X)) fun a=>Ay (decide (W<=a)) (Aa (wrap .u64 W) fun a=>Aa (wrap .u64 (6*a)) fun a=>Aa (wrap .u64 (18-a)) fun a=>Ar (decide (0<=a))<|Aa (Gw .u64 Q a) fun a=>Aa (Du .u64 a 63) fun a=>Aa (wrap .u64 (a+1)) fun b=>Ar (decide (0<=a))<|Ar (decide (0<=b))<|Ar (decide (a.toNat<=b.toNat)&&decide (b.toNat<=64))<|Aa (ByteArray.extract (ByteArray.mk #[65,66,67,68,69,70,71,72,73,74,75,76,77,78,79,80,81,82,83,84,85,86,87,88,89,90,97,98,99,100,101,102,103,104,105,106,107,108,109,110,111,112,113,114,115,116,117,118,119,120,121,122,48,49,50,51,52,53,54,55,56,57,45,95]) a.toNat b.toNat) fun a=>Ar (decide (ByteArray.size Y+ByteArray.size a<=9223372036854775807))<|Aa (Y++a) fun a=>Aa (wrap .i64 (W+1)) fun b=>Cl fu call V U T P Z S a X Q b) (Aa (wrap .i64 (X+3)) fun a=>Df fu call V U T Z S Y a)) (Aa (wrap .i64 (X+3)) fun a=>Df fu call V U T Z S Y a)):=by kernel_rfl
theorem Sm{p:FuncId->Option (Ae->Option A4)}(fu d Z:Nat)(Y:Ae):Ac (CP p) prog fu (d+1) 48 [As 1 Z Y]=(fun (call:Aq)=>Df fu call Z Y fu Z Y (ByteArray.mk #[]) 0) (Ac (CP p) prog fu d):=by kernel_rfl
theorem Xp{p:FuncId->Option (Ae->Option A4)}(fu d:Nat)(Z:Int):Ac (CP p) prog fu (d+1) 46 [Z]=(fun (call:Aq)=>Ay (Z==1) (Bg [Bk ⟨#[112,97,115,115,107,101,121,46,99,114,101,97,116,101]⟩]) (Ay (Z==2) (Bg [Bk ⟨#[112,97,115,115,107,101,121,46,103,101,116]⟩]) (Bg [Bk ⟨#[]⟩]))) (Ac (CP p) prog fu d):=by kernel_rfl
theorem Uo{p:FuncId->Option (Ae->Option A4)}(fu d:Nat)(Z:ByteArray):Ac (CP p) prog fu (d+1) 25 [Z]=(fun (call:Aq)=>Ar (decide (ByteArray.size Z<=1099511627776))<|Ar (decide (0+ByteArray.size Z*1<=List.length (Dq Z)))<|Ge .u64 (call 45 [(11:Int),As 1 (ByteArray.size Z) (List.take (ByteArray.size Z*1) (List.drop 0 (Dq Z)))]) fun a=>Bg [Ah a]) (Ac (CP p) prog fu d):=by kernel_rfl
theorem GY{p:FuncId->Option (Ae->Option A4)}(fu d:Nat)(Z:ByteArray):Ac (CP p) prog fu (d+1) 34 [Z]=(fun (call:Aq)=>Ar (decide (ByteArray.size Z<=1099511627776))<|Ar (decide (0+ByteArray.size Z*1<=List.length (Dq Z)))<|Ge .u64 (call 64 [(11:Int),As 1 (ByteArray.size Z) (List.take (ByteArray.size Z*1) (List.drop 0 (Dq Z)))]) fun a=>Bg [Ah a]) (Ac (CP p) prog fu d):=by kernel_rfl
end
theorem A3f(a b:Nat)(ha:a<18446744073709551616)(hb:b<18446744073709551616):Du .u64 ((a:Nat):Int) ((b:Nat):Int)=((a &&& b:Nat):Int):=by
 have hx:a &&& b<2 ^ 64:=Nat.and_lt_two_pow _ (by omega)
 have h1:(BitVec.ofInt 64 (a:Int)).toNat=a:=by
  rw[BitVec.ofInt_natCast,BitVec.toNat_ofNat];exact Nat.mod_eq_of_lt (by omega)
 have h2:(BitVec.ofInt 64 (b:Int)).toNat=b:=by
  rw[BitVec.ofInt_natCast,BitVec.toNat_ofNat];exact Nat.mod_eq_of_lt (by omega)
 show IntKind.u64.wrap ((BitVec.ofInt 64 (a:Int) &&& BitVec.ofInt 64 (b:Int)).toNat:Int)=_;rw[BitVec.toNat_and,h1,h2];simp only[wrap,IntKind.bits,IntKind.signed,SU,Bool.false_eq_true,if_false];omega
theorem A01{x:Int}(h0:0<=x)(h1:x<16777216):Du .u64 x 63=x % 64:=by obtain⟨n,rfl⟩:=Int.eq_ofNat_of_zero_le h0;have:=A3f n 63 (by omega) (by omega);refine this.trans ?_;rw[show (63:Nat)=2 ^ 6-1 by decide,Nat.and_two_pow_sub_one_eq_mod n 6];omega
theorem A9f{x:Int}{k:Nat}(hk:k<=64):Gw .u64 x (k:Int)=x / ((2 ^ k:Nat):Int):=by
 show x.fdiv (2 ^ (min (k:Int).toNat IntKind.u64.bits))=_
 have:min (k:Int).toNat IntKind.u64.bits=k:=by
  rw[Jp];exact Nat.min_eq_left (by show k<=64;omega)
 rw[this];have e:(2:Int) ^ k=((2 ^ k:Nat):Int):=by simp
 rw[e,Int.fdiv_eq_ediv_of_nonneg _ (Int.natCast_nonneg _)]
theorem Arx:∀n:Fin 64,Aal.extract n.val (n.val+1)=Ab [N4 (n.val:Int)]:=by decide +kernel
theorem O6(a b:Aj):Ab a++Ab b=Ab (a++b):=by apply ByteArray.ext;rw[ByteArray.data_append];unfold Ab;simp
def qch(x:Int)(k:Nat):Int:=N4 (x / ((2 ^ (18-6*k):Nat):Int) % 64)
section
variable {fu d:Nat}{p:FuncId->Option (Ae->Option A4)}
theorem Aiz{a0n:Nat}{a0:Ae}{m0:Nat}{y0:Nat}{y1:Ae}{i:Nat}{x:Int}(hx0:0<=x)(hx:x<16777216)(hi:i<y0)(hy:y0<=1000000)(m:Nat)(hm:m=min (y0-i) 3+1):∀(r k nn:Nat)(out:Aj),k+r=m->r+1<=nn->out.length+r<=10000000 ->
  Cl fu (Ac (CP p) prog fu d) a0n a0 m0 nn y0 y1 (Ab out) (i:Int) x (k:Int)=Df fu (Ac (CP p) prog fu d) a0n a0 m0 y0 y1 (Ab (out++(List.range' k r).map (qch x))) ((i+3:Nat):Int)
 |0,k,nn,out,hkr,Gz,ho=>by
  obtain⟨q,rfl⟩:∃q,nn=q+1:=⟨nn-1,by omega⟩
  have a3:wrap .i64 ((i:Int)+3)=((i+3:Nat):Int):=Bq
  have e:out++(List.range' k 0).map (qch x)=out:=by simp
  rw[e,H7];by_cases h4:k<4
  ·have a1:=dT (q:=(k:Int)<4) (by omega);have a2:wrap .i64 ((y0:Int)-(i:Int))=(y0:Int)-(i:Int):=Bb;have a4:=dF (q:=(k:Int)<=(y0:Int)-(i:Int)) (by omega);simp only[A5,A6,a1,a2,a4,a3]
  ·have a1:=dF (q:=(k:Int)<4) (by omega);simp only[A5,A6,a1,a3]
 |r+1,k,nn,out,hkr,Gz,ho=>by
  obtain⟨q,rfl⟩:∃q,nn=q+1:=⟨nn-1,by omega⟩
  have AW:k<4:=by omega
  have a1:=dT (q:=(k:Int)<4) (by omega);have a2:wrap .i64 ((y0:Int)-(i:Int))=(y0:Int)-(i:Int):=Bb;have a4:=dT (q:=(k:Int)<=(y0:Int)-(i:Int)) (by omega);have b1:wrap .u64 (k:Int)=(k:Int):=E9;have b2:wrap .u64 (6*(k:Int))=6*(k:Int):=E9;have b3:wrap .u64 (18-6*(k:Int))=((18-6*k:Nat):Int):=by rw[E9];omega
  have b4:decide ((0:Int)<=((18-6*k:Nat):Int))=true:=by simp
  have b5:=A9f (x:=x) (k:=18-6*k) (by omega);have hp:0<2 ^ (18-6*k):=Nat.pow_pos (by omega);have hd0:0<=x / ((2 ^ (18-6*k):Nat):Int):=Int.ediv_nonneg hx0 (Int.natCast_nonneg _)
  have hd1:x / ((2 ^ (18-6*k):Nat):Int)<16777216:=by
   have:=Int.ediv_le_self ((2 ^ (18-6*k):Nat):Int) hx0;omega
  have b6:=A01 hd0 hd1;generalize hv:x / ((2 ^ (18-6*k):Nat):Int) % 64=v at b6;have hv0:0<=v:=by omega
  have hv1:v<64:=by omega
  have b7:wrap .u64 (v+1)=v+1:=E9;have b8:=dT (q:=(0:Int)<=v) hv0;have b9:=dT (q:=(0:Int)<=v+1) (by omega);have c1:decide (Int.toNat v<=Int.toNat (v+1))=true:=dT (by omega);have c2:decide (Int.toNat (v+1)<=64)=true:=dT (by omega)
  have c3:Aal.extract (Int.toNat v) (Int.toNat (v+1))=Ab [qch x k]:=by
   have:=Arx ⟨Int.toNat v,by omega⟩;rw[show Int.toNat (v+1)=Int.toNat v+1 by omega];refine this.trans ?_;unfold qch;rw[hv]
   congr 3
   show ((Int.toNat v:Nat):Int)=v;omega
  have c4:decide ((Ab out).size+(Ab [qch x k]).size<=9223372036854775807)=true:=dT (by rw[Ag,Ag];simp;omega)
  have c5:wrap .i64 ((k:Int)+1)=((k+1:Nat):Int):=Bq
  have ih:=Aiz (a0n:=a0n) (a0:=a0) (m0:=m0) (y1:=y1) hx0 hx hi hy m hm r (k+1) q (out++[qch x k]) (by omega) (by omega) (by simp;omega)
  have e:out++(List.range' k (r+1)).map (qch x)=(out++[qch x k])++(List.range' (k+1) r).map (qch x):=by
   rw[List.range'_succ];simp
  have ea:(ByteArray.mk #[65,66,67,68,69,70,71,72,73,74,75,76,77,78,79,80,81,82,83,84,85,86,87,88,89,90,97,98,99,100,101,102,103,104,105,106,107,108,109,110,111,112,113,114,115,116,117,118,119,120,121,122,48,49,50,51,52,53,54,55,56,57,45,95])=Aal:=rfl;rw[e,H7,ea];simp only[A5,A6,a1,a2,a4,b1,b2,b3,b4,b5,b6,b7,b8,b9,c1,c2,c3,c4,O6,c5];exact ih
theorem Agt{a b c:Int}(h:Cm [a,b,c])(m:Nat)(hm:m<=4):(List.range' 0 m).map (qch (a*65536+b*256+c))=(GV a b c).take m:=by
 obtain⟨ha,h⟩:=Ds h;obtain⟨hb,h⟩:=Ds h;obtain⟨hc,h⟩:=Ds h;have e0:qch (a*65536+b*256+c) 0=N4 (a / 4):=by unfold qch;congr 1;simp;omega
 have e1:qch (a*65536+b*256+c) 1=N4 (a % 4*16+b / 16):=by unfold qch;congr 1;simp;omega
 have e2:qch (a*65536+b*256+c) 2=N4 (b % 16*4+c / 64):=by unfold qch;congr 1;simp;omega
 have e3:qch (a*65536+b*256+c) 3=N4 (c % 64):=by unfold qch;congr 1;simp;omega
 match m,hm with
 |0,_=>rfl
 |1,_=>simp[List.range',GV,e0]
 |2,_=>simp[List.range',GV,e0,e1]
 |3,_=>simp[List.range',GV,e0,e1,e2]
 |4,_=>simp[List.range',GV,e0,e1,e2,e3]
theorem A79{a b:Int}(ha:0<=a/\a<=255)(hb:0<=b/\b<=255):DU .u64 (a*65536) (b*256)=a*65536+b*256:=by
 obtain⟨a,rfl⟩:=Int.eq_ofNat_of_zero_le ha.1;have:=(EP (a:=b*256) (c:=(a:Int)*65536) 16 a (by omega) (by simp;omega) (by simp) (by omega)).2
 rw[this];omega
theorem Bfl{y c:Int}(hy:0<=y/\y<=65535)(hc:0<=c/\c<=255):DU .u64 (y*256) c=y*256+c:=by
 obtain⟨y,rfl⟩:=Int.eq_ofNat_of_zero_le hy.1;have:=(EP (a:=c) (c:=(y:Int)*256) 8 y (by omega) (by simp;omega) (by simp) (by omega)).2
 rw[this];omega
theorem Axi{a0n:Nat}{a0:Ae}{l:Aj}(hB:Cm l)(hl:l.length<=100000)(Bi:10<=fu):∀(q:Nat)(r:Aj)(i nn:Nat)(out:Aj),l.drop i=r->i<=l.length+3->r.length<=q->q+1<=nn->out.length+4*r.length<=1000000 ->
  Df fu (Ac (CP p) prog fu d) a0n a0 nn l.length (Ad .u8 l) (Ab out) (i:Int)=some ⟨[Bk (Ab (out++I9 r))],[]⟩:=by
 intro q
 induction q with
 |zero=>
  intro r i nn out hd hi3 hq Gz ho;have hr:r=[]:=List.eq_nil_of_length_eq_zero (by omega);subst hr;obtain⟨k,rfl⟩:∃k,nn=k+1:=⟨nn-1,by omega⟩
  have hi:=drop_nil hd;have a1:=dF (q:=(i:Int)<(l.length:Int)) (by omega);rw[Fs];simp only[A5,A6,a1,I9,List.append_nil]
 |succ q ih=>
  intro r i nn out hd hi3 hq Gz ho;obtain⟨k,rfl⟩:∃k,nn=k+1:=⟨nn-1,by omega⟩
  cases r with
  |nil=>
   have hi:=drop_nil hd;have a1:=dF (q:=(i:Int)<(l.length:Int)) (by omega);rw[Fs];simp only[A5,A6,a1,I9,List.append_nil]
  |cons a r1=>
   obtain⟨hi,ha,hd1⟩:=D8 hd;have haB:=hB a (List.mem_of_getElem? ha);have Eh:=congrArg List.length hd;rw[List.length_drop] at Eh;have a1:=dT (q:=(i:Int)<(l.length:Int)) (by omega);have a2:decide ((0:Int)<=(i:Int))=true:=by simp
   have a3:List.getD (Ad .u8 l) (Int.toNat (i:Int)*1) PV.top=.sc (.int .u8 a):=by rw[Jp,Kb];exact GG ha
   have a4:wrap .u64 a=a:=E9
   have a5:Fp .u64 a 16=a*65536:=by
    have:=NU (a:=a) (k:=16) haB.1 (by omega) (by omega) (by simp;omega)
    rw[this];simp
   have a6:wrap .i64 ((i:Int)+1)=((i+1:Nat):Int):=Bq
   have a7:wrap .i64 ((i:Int)+2)=((i+2:Nat):Int):=Bq
   have b2:decide ((0:Int)<=((i+1:Nat):Int))=true:=dT (by omega);have b3:decide ((0:Int)<=((i+2:Nat):Int))=true:=dT (by omega);rw[Fs];cases r1 with
   |nil=>
    simp only[Po,NS] at Eh;have b1:=dF (q:=((i+1:Nat):Int)<(l.length:Int)) (by omega);have c1:=dF (q:=((i+2:Nat):Int)<(l.length:Int)) (by omega);have HX:=Aiz (fu:=fu) (d:=d) (p:=p) (a0n:=a0n) (a0:=a0) (m0:=k) (y0:=l.length) (y1:=Ad .u8 l) (i:=i) (x:=a*65536) (by omega) (by omega) hi (by omega) 2 (by omega) 2 0 fu out rfl (by omega) (by simp at ho;omega)
    have Ot:=Agt (a:=a) (b:=0) (c:=0) (fun x hx=>by simp at hx;rcases hx with rfl|rfl<;>omega) 2 (by omega)
    rw[show a*65536+0*256+0=a*65536 by omega] at Ot;rw[Ot] at HX;have hr:=ih [] (i+3) k (out++(GV a 0 0).take 2) (List.drop_eq_nil_of_le (by omega)) (by omega) (by simp) (by omega) (by simp[GV] at ho ⊢;omega)
    simp only[A5,A6,a1,a2,a3,a4,a5,a6,a7,b1,c1];refine HX.trans (hr.trans ?_);simp[I9,GV]
   |cons b r2=>
    obtain⟨hi1,hb,SH⟩:=D8 hd1;have hbB:=hB b (List.mem_of_getElem? hb);have b1:=dT (q:=((i+1:Nat):Int)<(l.length:Int)) (by omega);have b4:List.getD (Ad .u8 l) (Int.toNat ((i+1:Nat):Int)*1) PV.top=.sc (.int .u8 b):=by rw[Jp,Kb];exact GG hb
    have b5:wrap .u64 b=b:=E9
    have b6:Fp .u64 b 8=b*256:=by
     have:=NU (a:=b) (k:=8) hbB.1 (by omega) (by omega) (by simp;omega)
     rw[this];simp
    have b7:=A79 haB hbB;cases r2 with
    |nil=>
     simp only[Po,NS] at Eh;have c1:=dF (q:=((i+2:Nat):Int)<(l.length:Int)) (by omega);have HX:=Aiz (fu:=fu) (d:=d) (p:=p) (a0n:=a0n) (a0:=a0) (m0:=k) (y0:=l.length) (y1:=Ad .u8 l) (i:=i) (x:=a*65536+b*256) (by omega) (by omega) hi (by omega) 3 (by omega) 3 0 fu out rfl (by omega) (by simp at ho;omega)
     have Ot:=Agt (a:=a) (b:=b) (c:=0) (fun x hx=>by simp at hx;rcases hx with rfl|rfl|rfl<;>omega) 3 (by omega)
     rw[show a*65536+b*256+0=a*65536+b*256 by omega] at Ot;rw[Ot] at HX;have hr:=ih [] (i+3) k (out++(GV a b 0).take 3) (List.drop_eq_nil_of_le (by omega)) (by omega) (by simp) (by omega) (by simp[GV] at ho ⊢;omega)
     simp only[A5,A6,a1,a2,a3,a4,a5,a6,a7,b1,b2,b4,b5,b6,b7,c1];refine HX.trans (hr.trans ?_);simp[I9,GV]
    |cons c t=>
     obtain⟨hi2,hc,hd3⟩:=D8 SH;have ES:=hB c (List.mem_of_getElem? hc);simp only[Po] at Eh;have c1:=dT (q:=((i+2:Nat):Int)<(l.length:Int)) (by omega);have c2:List.getD (Ad .u8 l) (Int.toNat ((i+2:Nat):Int)*1) PV.top=.sc (.int .u8 c):=by rw[Jp,Kb];exact GG hc
     have c3:wrap .u64 c=c:=E9
     have c4:DU .u64 (a*65536+b*256) c=a*65536+b*256+c:=by
      have:=Bfl (y:=a*256+b) (c:=c) (by omega) ES;rw[show (a*256+b)*256=a*65536+b*256 by omega] at this;exact this
     have HX:=Aiz (fu:=fu) (d:=d) (p:=p) (a0n:=a0n) (a0:=a0) (m0:=k) (y0:=l.length) (y1:=Ad .u8 l) (i:=i) (x:=a*65536+b*256+c) (by omega) (by omega) hi (by omega) 4 (by omega) 4 0 fu out rfl (by omega) (by simp at ho;omega)
     have Ot:=Agt (a:=a) (b:=b) (c:=c) (fun x hx=>by simp at hx;rcases hx with rfl|rfl|rfl<;>omega) 4 (by omega)
     rw[Ot] at HX;have hr:=ih t (i+3) k (out++(GV a b c).take 4) hd3 (by omega) (by simp at hq;omega) (by omega) (by simp[GV] at ho ⊢;omega)
     simp only[A5,A6,a1,a2,a3,a4,a5,a6,a7,b1,b2,b4,b5,b6,b7,b3,c1,c2,c3,c4];refine HX.trans (hr.trans ?_);simp[I9,GV]
theorem Ay8{l:Aj}(hB:Cm l)(hl:l.length<=100000)(Bi:10<=fu)(LH:l.length+1<=fu):Ac (CP p) prog fu (d+1) 48 [.lst false 1 l.length (Ad .u8 l)]=some ⟨[Bk (Ab (I9 l))],[]⟩:=by
 rw[Sm];have:=Axi (fu:=fu) (d:=d) (p:=p) (a0n:=l.length) (a0:=Ad .u8 l) hB hl Bi l.length l 0 fu [] rfl (by omega) (Cs _) LH (by simp;omega)
 exact this
end
section
variable {xs:FuncId->Option (Ae->Option A4)}(fu d:Nat)(call:Aq)
theorem HF{p:FuncId->Option (Ae->Option A4)}(fu d Z:Nat)(Y:Ae):Ac (CP p) prog fu (d+1) 17 [As 1 Z Y]=(fun (call:Aq)=>Bg [.pbox [As 1 Z Y,(0:Int)]]) (Ac (CP p) prog fu d):=by kernel_rfl
theorem GK{p:FuncId->Option (Ae->Option A4)}(fu d:Nat)(Z Y:Int):Ac (CP p) prog fu (d+1) 8 [Z,Y]=(fun (call:Aq)=>Aa (wrap .u64 Z) fun a=>Aa (wrap .u64 Y) fun b=>Ar (decide (b≠0))<|Aa (Int.tmod a b) fun a=>Aa (wrap .i64 a) fun a=>Bg [a]) (Ac (CP p) prog fu d):=by kernel_rfl
theorem Um{p:FuncId->Option (Ae->Option A4)}(fu d Z:Nat)(Y:Ae)(X W:Int):Ac (CP p) prog fu (d+1) 43 [.pbox [As 1 Z Y,X],W]=(fun (call:Aq)=>Ay (decide (X>=(↑Z:Int))) (some ⟨[(0:Int)],[[As 1 Z Y,X]]⟩) (Aa (wrap .i64 (X+1)) fun a=>Aa (wrap .i64 (a-1)) fun b=>Ar (decide (0<=b)&&decide (b<(↑Z:Int)))<|Ba .i64 (Y.getD (b.toNat*1) .top) fun b=>Ge .i64 (call 8 [b,W]) fun b=>some ⟨[b],[[As 1 Z Y,a]]⟩)) (Ac (CP p) prog fu d):=by kernel_rfl
theorem Uj{p:FuncId->Option (Ae->Option A4)}(fu d:Nat)(Z:Int):Ac (CP p) prog fu (d+1) 10 [Z]=(fun (call:Aq)=>Ge .i64 (call 8 [Z,(6:Int)]) fun a=>Ar (decide (0<=a)&&decide (a<6))<|Bu (List.getD [Bk ⟨#[104,116,116,112,115,58,47,47,101,120,97,109,112,108,101,46,99,111,109]⟩,Bk ⟨#[104,116,116,112,115,58,47,47,108,111,103,105,110,46,101,120,97,109,112,108,101,46,99,111,109]⟩,Bk ⟨#[104,116,116,112,115,58,47,47,101,118,105,108,46,116,101,115,116]⟩,Bk ⟨#[104,116,116,112,58,47,47,108,111,99,97,108,104,111,115,116,58,56,48,56,48]⟩,Bk ⟨#[104,116,116,112,115,58,47,47,98,46,99,111,46,117,107]⟩,Bk ⟨#[104,116,116,112,58,47,47,101,120,97,109,112,108,101,46,99,111,109]⟩] (0+a.toNat*1) .top) fun a=>Bg [a]) (Ac (CP p) prog fu d):=by kernel_rfl
end
section
variable {xs:FuncId->Option (Ae->Option A4)}(fu d:Nat)(call:Aq)
def Gd(Z Y X:Int)(W:Nat)(V U T:Int)(S:Nat)(Q:Int)(P:Ae):Option A4:=K0 fu call 40 Tryz.f40 [Ah Z,Ah Y,X] [.r,.r,.r,.l,.r,.l] W ⟨lk [(0,Ah V),(1,Ah U),(2,T),(7,.view 7 1 0 S),(8,Q)],Fx [(7,.ar false P)]⟩
theorem Hn(T S Q:Int)(P:Nat)(W V Y:Int)(Z:Nat)(U:Int)(X:Ae):Gd fu call T S Q (P+1) W V Y Z U X=(Ay (decide ((↑Z:Int)<Y)) (Aa (wrap .u64 U) fun a=>Dv (call 50 [As 1 2 [Ah V,Ah a]]) fun a b=>Lg 1 a fun a c=>Ao b<|Ar (decide (0+a*1<=c.length))<|Ge .u64 (call 73 [Ah W,(5:Int),As 1 a (List.take (a*1) (c.drop 0))]) fun a=>Dv (call 50 [As 1 1 [Ah a]]) fun a b=>Lg 1 a fun a c=>Ao b<|Ar (decide (0+a*1<=c.length))<|Ar (decide (Z*1<=X.length)&&decide (List.length (List.take (a*1) (c.drop 0))=a*1)&&decide ((Z+a)*1<=1099511627776)&&decide (Z+a<=1099511627776))<|Aa (Z+a) fun b=>Aa (List.take (Z*1) X++List.take (a*1) (c.drop 0)) fun a=>Aa (wrap .i64 (U+1)) fun c=>Gd fu call T S Q P W V Y b c a) (Ar (decide (0<=Y))<|Ar (decide (Y.toNat<=Z))<|Aa (Y.toNat-0) fun a=>Ar (decide (a*1<=X.length))<|Bg [.own 1 a (X.take (a*1))])):=by kernel_rfl
theorem Zd{p:FuncId->Option (Ae->Option A4)}(fu d:Nat)(Y X Z:Int):Ac (CP p) prog fu (d+1) 40 [Ah Y,Ah X,Z]=(fun (call:Aq)=>Aa (if Z<0 then 0 else Z) fun a=>Aa (if 1024<a then 1024 else a) fun a=>Gd fu call Y X Z fu Y X a 0 0 ([])) (Ac (CP p) prog fu d):=by kernel_rfl
theorem BB{p:FuncId->Option (Ae->Option A4)}(fu d:Nat)(Y Z:Int):Ac (CP p) prog fu (d+1) 15 [Y,Z]=(fun (call:Aq)=>Aa (wrap .u64 Y) fun a=>Aa (wrap .u64 (a+1)) fun a=>Aa (if 1024<Z then 1024 else Z) fun b=>Aa (if b<0 then 0 else b) fun b=>Dv (call 40 [Ah a,Ah 7,b]) fun a b=>Lg 1 a fun a c=>Ao b<|Ar (decide (a*1<=c.length))<|Bg [.own 1 a (c.take (a*1))]) (Ac (CP p) prog fu d):=by kernel_rfl
end
abbrev dkc(l:Aj)(a:Nat):Ae:=[.lst false 1 l.length (Ad .i64 l),Aw (a:Int)]
section
variable {fu d:Nat}{p:FuncId->Option (Ae->Option A4)}
theorem Bet{l:Aj}:Ac (CP p) prog fu (d+1) 17 [.lst false 1 l.length (Ad .i64 l)]=some ⟨[.pbox (dkc l 0)],[]⟩:=by rw[HF];rfl
theorem A6q(v n:Int)(hn:0<n)(hm:n<=9223372036854775807):∃r,0<=r/\r<n/\∀{fu d:Nat}{p:FuncId->Option (Ae->Option A4)},Ac (CP p) prog fu (d+1) 8 [Aw v,Aw n]=some ⟨[Aw r],[]⟩:=by have h1:=R5 v;have h2:wrap .u64 n=n:=E9;have h3:0<=Int.tmod (wrap .u64 v) n:=Int.tmod_nonneg _ h1.1;have h4:Int.tmod (wrap .u64 v) n<n:=Int.tmod_lt_of_pos _ hn;refine⟨_,h3,h4,fun {fu d p}=>?_⟩;rw[GK];simp only[F5,h2];rw[Aam _ _ (by omega),Bb]
end
section
variable {fu d:Nat}{p:FuncId->Option (Ae->Option A4)}
theorem Beh(Bi:1000<=fu)(w:Int):Ac (CP p) prog fu (d+1) 50 [.lst false 1 1 [Ah w]]=some ⟨[.own 1 8 (Ad .u8 (Bf w))],[]⟩:=by
 have:=Ic (xs:=UD p) (fu:=fu) (d:=d) (ws:=[w]) (by simp) (by omega) (by simp;omega)
 simp only[Ap,K8,List.flatMap_nil,List.append_nil,Po,NS,B4] at this;exact this
theorem Awm(Bi:1000<=fu){a0 a1 a2:Int}{key nonce:Int}{n:Nat}(hn:n<=1024):∀(k nn:Nat)(i:Int)(l:Aj),n<=l.length+8*k->k<nn->Cm l->l.length<=2000 ->
  0<=i->i+k<=100000->∃r,Cm r/\r.length=n/\Gd fu (Ac (CP p) prog fu (d+4)) a0 a1 a2 nn key nonce (n:Int) l.length i (Ad .u8 l)=some ⟨[.own 1 n (Ad .u8 r)],[]⟩:=by
 intro k
 induction k with
 |zero=>
  intro nn i l h1 h2 hb hl i0 i1;obtain⟨m,rfl⟩:∃m,nn=m+1:=⟨nn-1,by omega⟩
  refine⟨l.take n,hb.take n,by rw[List.length_take];omega,?_⟩
  have L:=Ak .u8 l;have nt:Int.toNat (n:Int)=n:=Jp _;rw[Hn]
  repeat(with_reducible(first|apply Bd|apply A0|apply Bc|apply UM|apply A3|apply Be|apply Jc);· first|constructor|(simp(disch:=omega)only[Ja,L,nt,Nat.sub_zero,Kb,Ie]<;>first|constructor|omega)|omega)
  try simp(disch:=omega)only[Aa,L,nt,Nat.sub_zero,Kb,Ie]
 |succ k ih=>
  intro nn i l h1 h2 hb hl i0 i1;obtain⟨m,rfl⟩:∃m,nn=m+1:=⟨nn-1,by omega⟩
  have L:=Ak .u8 l;have nt:Int.toNat (n:Int)=n:=Jp _;by_cases Cq:l.length<n
  rotate_left
  ·refine⟨l.take n,hb.take n,by rw[List.length_take];omega,?_⟩
   rw[Hn]
   repeat(with_reducible(first|apply Bd|apply A0|apply Bc|apply UM|apply A3|apply Be|apply Jc);· first|constructor|(simp(disch:=omega)only[Ja,L,nt,Nat.sub_zero,Kb,Ie]<;>first|constructor|omega)|omega)
   try simp(disch:=omega)only[Aa,L,nt,Nat.sub_zero,Kb,Ie]
  have w1:wrap .u64 i=i:=E9;have w2:wrap .i64 (i+1)=i+1:=Bb;have wd:Ac (CP p) prog fu (d+4) 50 [.lst false 1 2 [Ah nonce,Ah i]]=some ⟨[.own 1 (Ap [nonce,i]).length (Ad .u8 (Ap [nonce,i]))],[]⟩:=Ic (xs:=UD p) (ws:=[nonce,i]) (by simp) (by omega) (by simp;omega)
  have mc:=Ajq (xs:=UD p) (fu:=fu) (d:=d) (l:=Ap [nonce,i]) (Va _) (by rw[El];simp) (by omega) (by rw[El];simp;omega) key 5
  have L2:=Ak .u8 (Ap [nonce,i]);have t2:=NY .u8 (Ap [nonce,i]);generalize Atb key 5 (Ap [nonce,i])=q at mc;have ow:=Beh (fu:=fu) (d:=d+3) (p:=p) Bi q;have Lq:(Ad .u8 (Bf q)).length=8:=by rw[Ak,B4]
  have tq:List.take 8 (Ad .u8 (Bf q))=Ad .u8 (Bf q):=H5 (by omega);have tl:=NY .u8 l;have ea:Ad .u8 l++Ad .u8 (Bf q)=Ad .u8 (l++Bf q):=by rw[Ad,Ad,Ad,List.flatMap_append]
  obtain⟨r,r1,r2,r3⟩:=ih m (i+1) (l++Bf q) (by rw[Vo,B4];omega) (by omega) (Re hb (Tg q)) (by rw[Vo,B4];omega) (by omega) (by omega)
  refine⟨r,r1,r2,?_⟩;rw[Vo,B4] at r3;rw[<-r3,Hn];generalize Ap [nonce,i]=W at *
  generalize W.length=wn at *
  repeat(with_reducible(first|apply Bd|apply A0|apply Bc|apply UM|apply A3|apply Be|apply Jc);· first|constructor|(simp(disch:=omega)only[Ja,w1,w2,wd,Ma,Ip,Kb,L,L2,t2,mc,ow,Lq,tq,tl,ea]<;>first|constructor|omega)|omega)
  try simp(disch:=omega)only[Aa,w1,w2,wd,Ma,Ip,Kb,L,L2,t2,mc,ow,Lq,tq,tl,ea]
  all_goals rfl
theorem A09(Bi:1000<=fu)(seed:Int){n:Nat}(hn:n<=1024):∃r,Cm r/\r.length=n/\Ac (CP p) prog fu (d+6) 15 [Aw seed,Aw n]=some ⟨[.own 1 n (Ad .u8 r)],[]⟩:=by
 obtain⟨r,r1,r2,r3⟩:=Awm (fu:=fu) (d:=d) (p:=p) Bi (a0:=wrap .u64 (wrap .u64 seed+1)) (a1:=7) (a2:=n) (key:=wrap .u64 (wrap .u64 seed+1)) (nonce:=7) hn 128 fu 0 [] (by omega) (by omega) (by intro x hx;cases hx) (by simp) (by omega) (by omega)
 refine⟨r,r1,r2,?_⟩
 have e:Ac (CP p) prog fu (d+5) 40 [Ah (wrap .u64 (wrap .u64 seed+1)),Ah 7,Aw n]=some ⟨[.own 1 n (Ad .u8 r)],[]⟩:=by
  rw[Zd];have f1:(if (n:Int)<0 then (0:Int) else (n:Int))=n:=Br (by omega);have f2:(if (1024:Int)<(n:Int) then (1024:Int) else (n:Int))=n:=Br (by omega);simp only[F5,f1,f2];exact r3
 have f1:(if (n:Int)<0 then (0:Int) else (n:Int))=n:=Br (by omega);have f2:(if (1024:Int)<(n:Int) then (1024:Int) else (n:Int))=n:=Br (by omega);have L:=Ak .u8 r;have t:List.take n (Ad .u8 r)=Ad .u8 r:=by rw[<-r2];exact NY .u8 r
 rw[BB];simp(disch:=omega)only[A5,A6,f1,f2,e,Kb,L,t]
end
section
variable {xs:FuncId->Option (Ae->Option A4)}(fu d:Nat)(call:Aq)
theorem Np{p:FuncId->Option (Ae->Option A4)}(fu d:Nat)(Z:Bool):Ac (CP p) prog fu (d+1) 80 [Z]=(fun (call:Aq)=>Ay Z (Bg [Bk ⟨#[104,116,116,112,115,58,47,47]⟩]) (Bg [Bk ⟨#[104,116,116,112,58,47,47]⟩])) (Ac (CP p) prog fu d):=by kernel_rfl
theorem Ri{p:FuncId->Option (Ae->Option A4)}(fu d:Nat)(Z:Bool):Ac (CP p) prog fu (d+1) 82 [Z]=(fun (call:Aq)=>Ay Z (Bg [(443:Int)]) (Bg [(80:Int)])) (Ac (CP p) prog fu d):=by kernel_rfl
def Gq(Z:ByteArray)(Y:Bool)(X:Nat)(W:ByteArray)(V:Bool)(U T:Int):Option A4:=K0 fu call 83 Tryz.f83 [Z,Y] [.r,.r,.r,.l,.r,.l] X ⟨lk [(0,W),(1,V),(6,U),(7,T)],Fx []⟩
theorem Mx(V:ByteArray)(U:Bool)(T:Nat)(X:ByteArray)(W:Bool)(Y Z:Int):Gq fu call V U (T+1) X W Y Z=(Ay (decide (Z<(↑(ByteArray.size X):Int))) (Ar (decide (0<=Z))<|Dj ((Array.toList (ByteArray.data X))[Z.toNat]?) fun a=>Dv (call 115 [.sc (.int .u8 (↑(UInt8.toNat a):Int))]) fun a b=>Bm a fun a=>Ao b<|Ay (!a) (Bg [(0:Int),false]) (Aa (wrap .i64 (10*Y)) fun a=>Ar (decide (0<=Z))<|Dj ((Array.toList (ByteArray.data X))[Z.toNat]?) fun b=>Aa (wrap .u8 ((↑(UInt8.toNat b):Int)-48)) fun b=>Aa (wrap .i64 b) fun b=>Aa (wrap .i64 (a+b)) fun a=>Aa (wrap .i64 (Z+1)) fun b=>Gq fu call V U T X W a b)) (Ay (decide (Y<=65535)) (Ge .i64 (call 82 [W]) fun a=>Bg [Y,Cz (Y != a)]) (Bg [Y,false]))):=by kernel_rfl
theorem BO{p:FuncId->Option (Ae->Option A4)}(fu d:Nat)(Z:ByteArray)(Y:Bool):Ac (CP p) prog fu (d+1) 83 [Z,Y]=(fun (call:Aq)=>(fun b:Option A4=>Ay (decide ((↑(ByteArray.size Z):Int)<1)) b (Ay (decide ((↑(ByteArray.size Z):Int)>5)) b (Dj ((Array.toList (ByteArray.data Z))[0]?) fun a=>Ay ((↑(UInt8.toNat a):Int)==48) b (Gq fu call Z Y fu Z Y 0 0)))) (Bg [(0:Int),false])) (Ac (CP p) prog fu d):=by kernel_rfl
def Fa(Z:ByteArray)(Y:Int)(X:Nat)(W:ByteArray)(V:Int)(U:Nat)(T S:Int)(Q:Ae):Option A4:=K0 fu call 113 Tryz.f113 [Z,.sc (.int .u8 Y)] [.r,.r,.r,.l,.r,.l] X ⟨lk [(0,W),(1,.sc (.int .u8 V)),(5,.view 5 1 0 U),(6,T),(7,S)],Fx [(5,.ar false Q)]⟩
theorem Lt(T:ByteArray)(S:Int)(Q:Nat)(Z:ByteArray)(W:Int)(V:Nat)(X Y:Int)(U:Ae):Fa fu call T S (Q+1) Z W V X Y U=(Ay (decide (Y<(↑(ByteArray.size Z):Int))) (Ar (decide (0<=Y))<|Dj ((Array.toList (ByteArray.data Z))[Y.toNat]?) fun a=>Ay ((↑(UInt8.toNat a):Int)==W) (Ar (decide (0<=X))<|Ar (decide (0<=Y))<|Ar (decide (X.toNat<=Y.toNat)&&decide (Y.toNat<=ByteArray.size Z))<|Aa (ByteArray.extract Z X.toNat Y.toNat) fun a=>ZzA V 1 16 U [a] fun a b=>Aa (wrap .i64 (Y+1)) fun c=>Aa (wrap .i64 (Y+1)) fun e=>Fa fu call T S Q Z W a c e b) (Aa (wrap .i64 (Y+1)) fun a=>Fa fu call T S Q Z W V X a U)) (Ar (decide (0<=X))<|Ar (decide (X.toNat<=ByteArray.size Z)&&decide (ByteArray.size Z<=ByteArray.size Z))<|Aa (ByteArray.extract Z X.toNat (ByteArray.size Z)) fun a=>ZzA V 1 16 U [a] fun a b=>Ar (decide (a*1<=b.length))<|Bg [.own 1 a (b.take (a*1))])):=by kernel_rfl
theorem Y1{p:FuncId->Option (Ae->Option A4)}(fu d:Nat)(Z:ByteArray)(Y:Int):Ac (CP p) prog fu (d+1) 113 [Z,.sc (.int .u8 Y)]=(fun (call:Aq)=>Fa fu call Z Y fu Z Y 0 0 0 ([])) (Ac (CP p) prog fu d):=by kernel_rfl
theorem Yh{p:FuncId->Option (Ae->Option A4)}(fu d:Nat)(Z:Int):Ac (CP p) prog fu (d+1) 115 [.sc (.int .u8 Z)]=(fun (call:Aq)=>Ay (decide (Z>=48)) (Bg [Cz (decide (Z<=57))]) (Bg [false])) (Ac (CP p) prog fu d):=by kernel_rfl
def Nj(Z:ByteArray)(Y:Nat)(X:ByteArray):Option A4:=K0 fu call 114 Tryz.f114 [Z] [.r] Y ⟨lk [(0,X)],Fx []⟩
def Da(Z:ByteArray)(Y:Nat)(X:ByteArray)(W:Int):Option A4:=K0 fu call 114 Tryz.f114 [Z] [.r,.r,.l,.r,.l] Y ⟨lk [(0,X),(3,W)],Fx []⟩
theorem Ul(Y:ByteArray)(Z:Nat)(Gz:0<Z)(X:ByteArray):Nj fu call Y Z X=(Da fu call Y fu X 0):=by cases Z with|zero=>exact absurd Gz (Nat.lt_irrefl 0)|succ Z=>kernel_rfl
theorem Ln(X:ByteArray)(W:Nat)(Y:ByteArray)(Z:Int):Da fu call X (W+1) Y Z=(Ay (decide (Z<(↑(ByteArray.size Y):Int))) (Ar (decide (0<=Z))<|Dj ((Array.toList (ByteArray.data Y))[Z.toNat]?) fun a=>Ay (decide ((↑(UInt8.toNat a):Int)>=97)) (Ar (decide (0<=Z))<|Dj ((Array.toList (ByteArray.data Y))[Z.toNat]?) fun a=>Ay (!decide ((↑(UInt8.toNat a):Int)<=122)) (Ar (decide (0<=Z))<|Dj ((Array.toList (ByteArray.data Y))[Z.toNat]?) fun a=>Dv (call 115 [.sc (.int .u8 (↑(UInt8.toNat a):Int))]) fun a b=>Bm a fun a=>Ao b<|Ay (!a) (Ar (decide (0<=Z))<|Dj ((Array.toList (ByteArray.data Y))[Z.toNat]?) fun a=>Ay ((↑(UInt8.toNat a):Int) != 45) (Bg [false]) (Aa (wrap .i64 (Z+1)) fun a=>Da fu call X W Y a)) (Aa (wrap .i64 (Z+1)) fun a=>Da fu call X W Y a)) (Aa (wrap .i64 (Z+1)) fun a=>Da fu call X W Y a)) (Ar (decide (0<=Z))<|Dj ((Array.toList (ByteArray.data Y))[Z.toNat]?) fun a=>Dv (call 115 [.sc (.int .u8 (↑(UInt8.toNat a):Int))]) fun a b=>Bm a fun a=>Ao b<|Ay (!a) (Ar (decide (0<=Z))<|Dj ((Array.toList (ByteArray.data Y))[Z.toNat]?) fun a=>Ay ((↑(UInt8.toNat a):Int) != 45) (Bg [false]) (Aa (wrap .i64 (Z+1)) fun a=>Da fu call X W Y a)) (Aa (wrap .i64 (Z+1)) fun a=>Da fu call X W Y a))) (Bg [true])):=by kernel_rfl
theorem Yl{p:FuncId->Option (Ae->Option A4)}(fu d:Nat)(Z:ByteArray):Ac (CP p) prog fu (d+1) 114 [Z]=(fun (call:Aq)=>Ay (decide ((↑(ByteArray.size Z):Int)<1)) (Bg [false]) (Ay (decide ((↑(ByteArray.size Z):Int)>63)) (Bg [false]) (Dj ((Array.toList (ByteArray.data Z))[0]?) fun a=>Ay ((↑(UInt8.toNat a):Int)==45) (Bg [false]) (Aa (wrap .i64 ((↑(ByteArray.size Z):Int)-1)) fun a=>Ar (decide (0<=a))<|Dj ((Array.toList (ByteArray.data Z))[a.toNat]?) fun a=>Ay ((↑(UInt8.toNat a):Int)==45) (Bg [false]) (Nj fu call Z fu Z))))) (Ac (CP p) prog fu d):=by kernel_rfl
def Fh(Z:ByteArray)(Y X:Nat)(W:Int)(V:Ae):Option A4:=K0 fu call 81 Tryz.f81 [Z] [.r,.r,.r,.l,.r,.l] Y ⟨lk [(3,.view 3 1 0 X),(4,W)],Fx [(3,.ar false V)]⟩
def Fj(Z:ByteArray)(Y:Nat)(X:ByteArray)(W:Int):Option A4:=K0 fu call 81 Tryz.f81 [Z] [.r,.r,.r,.r,.r,.l,.r,.l] Y ⟨lk [(5,X),(6,W)],Fx []⟩
theorem Jg(W:ByteArray)(V Z:Nat)(Y:Int)(X:Ae):Fh fu call W (V+1) Z Y X=(Ay (decide (Y<(↑Z:Int))) (Ar (decide (0<=Y)&&decide (Y<(↑Z:Int)))<|Bu (X.getD (0+Y.toNat*1) .top) fun a=>Dv (call 114 [a]) fun a b=>Bm a fun a=>Ao b<|Ay (!a) (Bg [(2:Int)]) (Aa (wrap .i64 (Y+1)) fun a=>Fh fu call W V Z a X)) (Aa (wrap .i64 ((↑Z:Int)-1)) fun a=>Ar (decide (0<=a)&&decide (a<(↑Z:Int)))<|Bu (X.getD (0+a.toNat*1) .top) fun a=>Fj fu call W fu a 0)):=by kernel_rfl
theorem I0(X:ByteArray)(W:Nat)(Y:ByteArray)(Z:Int):Fj fu call X (W+1) Y Z=(Ay (decide (Z<(↑(ByteArray.size Y):Int))) (Ar (decide (0<=Z))<|Dj ((Array.toList (ByteArray.data Y))[Z.toNat]?) fun a=>Dv (call 115 [.sc (.int .u8 (↑(UInt8.toNat a):Int))]) fun a b=>Bm a fun a=>Ao b<|Ay (!a) (Bg [(0:Int)]) (Aa (wrap .i64 (Z+1)) fun a=>Fj fu call X W Y a)) (Bg [(2:Int)])):=by kernel_rfl
theorem Vd{p:FuncId->Option (Ae->Option A4)}(fu d:Nat)(Z:ByteArray):Ac (CP p) prog fu (d+1) 81 [Z]=(fun (call:Aq)=>Ay (decide ((↑(ByteArray.size Z):Int)>100)) (Bg [(8:Int)]) (Dv (call 113 [Z,.sc (.int .u8 46)]) fun a b=>Lg 1 a fun a c=>Ao b<|Fh fu call Z fu a 0 c)) (Ac (CP p) prog fu d):=by kernel_rfl
def Bz(Z:ByteArray)(Y:Nat)(X:ByteArray)(W V:Int)(U:Bool)(T:ByteArray)(S:Int)(Q:Bool)(P:ByteArray)(O:Int):Option A4:=K0 fu call 47 Tryz.f47 [Z] [.r,.r,.r,.r,.r,.r,.l,.r,.l] Y ⟨lk [(2,.ptr 2 0),(4,.ptr 4 0),(6,X),(7,W),(8,V)],Fx [(2,.st [U,T,S]),(4,.st [Q,P,O])]⟩
theorem Hv(V:ByteArray)(U:Nat)(Z:ByteArray)(Y X:Int)(T:Bool)(S:ByteArray)(Q:Int)(W:Bool)(P:ByteArray)(O:Int):Bz fu call V (U+1) Z Y X T S Q W P O=(Ay (decide (X>=0)) (Ar (decide (0<=X))<|Dj ((Array.toList (ByteArray.data Z))[X.toNat]?) fun a=>Ay ((↑(UInt8.toNat a):Int)==58) (Aa (wrap .i64 (X-1)) fun a=>Bz fu call V U Z X a T S Q W P O) (Aa (wrap .i64 (X-1)) fun a=>Bz fu call V U Z Y a T S Q W P O)) (Ar (decide (0<=Y))<|Ar (decide (Y.toNat<=ByteArray.size Z))<|Aa (ByteArray.extract Z 0 Y.toNat) fun a=>Ge .i64 (call 81 [a]) fun a=>(fun e:PV=>Ay (a != 0) (Bg [e,a]) (Ar (decide (0<=Y))<|Ar (decide (Y.toNat<=ByteArray.size Z))<|Aa (ByteArray.extract Z 0 Y.toNat) fun a=>Ge .i64 (call 82 [W]) fun b=>Ay (decide (Y<(↑(ByteArray.size Z):Int))) (Aa (wrap .i64 (Y+1)) fun b=>Ar (decide (0<=b))<|Ar (decide (b.toNat<=ByteArray.size Z)&&decide (ByteArray.size Z<=ByteArray.size Z))<|Aa (ByteArray.extract Z b.toNat (ByteArray.size Z)) fun b=>Dv (call 83 [b,W]) fun b c=>Ba .i64 b fun b=>Q6 c fun c=>Ay (!c) (Bg [e,(2:Int)]) (Bg [.agg [W,a,b],(0:Int)])) (Bg [.agg [W,a,b],(0:Int)]))) (.agg [false,Bk ⟨#[]⟩,(0:Int)]))):=by kernel_rfl
theorem R7{p:FuncId->Option (Ae->Option A4)}(fu d:Nat)(Z:ByteArray):Ac (CP p) prog fu (d+1) 47 [Z]=(fun (call:Aq)=>(fun e:Option A4=>Ay (decide ((↑(ByteArray.size Z):Int)>=8)) (Ar (decide (8<=ByteArray.size Z))<|Aa (ByteArray.extract Z 0 8) fun a=>Dv (call 80 [Cz (Array.toList (ByteArray.data a)==Array.toList (ByteArray.data (ByteArray.mk #[104,116,116,112,115,58,47,47])))]) fun b c=>Bu b fun b=>Ao c<|Ay (decide ((↑(ByteArray.size Z):Int)<(↑(ByteArray.size b):Int))) e (Ar (decide (Int.toNat (↑(ByteArray.size b):Int)<=ByteArray.size Z))<|Aa (ByteArray.extract Z 0 (Int.toNat (↑(ByteArray.size b):Int))) fun c=>Ay (!Array.toList (ByteArray.data c)==Array.toList (ByteArray.data b)) e (Ar (decide (Int.toNat (↑(ByteArray.size b):Int)<=ByteArray.size Z)&&decide (ByteArray.size Z<=ByteArray.size Z))<|Aa (ByteArray.extract Z (Int.toNat (↑(ByteArray.size b):Int)) (ByteArray.size Z)) fun b=>Aa (wrap .i64 ((↑(ByteArray.size b):Int)-1)) fun c=>Bz fu call Z fu b ((↑(ByteArray.size b):Int)) c false (ByteArray.mk #[]) 0 (Array.toList (ByteArray.data a)==Array.toList (ByteArray.data (ByteArray.mk #[104,116,116,112,115,58,47,47]))) (ByteArray.mk #[]) 0))) (Dv (call 80 [false]) fun a b=>Bu a fun a=>Ao b<|Ay (decide ((↑(ByteArray.size Z):Int)<(↑(ByteArray.size a):Int))) e (Ar (decide (Int.toNat (↑(ByteArray.size a):Int)<=ByteArray.size Z))<|Aa (ByteArray.extract Z 0 (Int.toNat (↑(ByteArray.size a):Int))) fun b=>Ay (!Array.toList (ByteArray.data b)==Array.toList (ByteArray.data a)) e (Ar (decide (Int.toNat (↑(ByteArray.size a):Int)<=ByteArray.size Z)&&decide (ByteArray.size Z<=ByteArray.size Z))<|Aa (ByteArray.extract Z (Int.toNat (↑(ByteArray.size a):Int)) (ByteArray.size Z)) fun a=>Aa (wrap .i64 ((↑(ByteArray.size a):Int)-1)) fun b=>Bz fu call Z fu a ((↑(ByteArray.size a):Int)) b false (ByteArray.mk #[]) 0 false (ByteArray.mk #[]) 0)))) (Bg [.agg [false,Bk ⟨#[]⟩,(0:Int)],(2:Int)])) (Ac (CP p) prog fu d):=by kernel_rfl
theorem Sl{p:FuncId->Option (Ae->Option A4)}(fu d:Nat)(W:Int)(Y:Nat)(V:Ae)(X:ByteArray)(U:Bool)(Z:ByteArray):Ac (CP p) prog fu (d+1) 20 [.agg [W,As 1 Y V,X,U,Z]]=(fun (call:Aq)=>Dv (call 46 [W]) fun a b=>Bu a fun a=>Ao b<|Ay (Array.toList (ByteArray.data a)==Array.toList (ByteArray.data (ByteArray.mk #[]))) (Bg [Bk ⟨#[]⟩,(3:Int)]) (Ay (decide ((↑Y:Int)<1)) (Bg [Bk ⟨#[]⟩,(9:Int)]) (Ay (decide ((↑Y:Int)>64)) (Bg [Bk ⟨#[]⟩,(9:Int)]) (Dv (call 47 [X]) fun a b=>Ef a fun a=>Ai a fun a c=>Bm a fun a=>Ai c fun a c=>Bu a fun a=>Dl .i64 c fun a=>Dl .i64 b fun a=>Ay (a != 0) (Bg [Bk ⟨#[]⟩,a]) (Dv (call 46 [W]) fun a b=>Bu a fun a=>Ao b<|Ar (decide (9+ByteArray.size a<=9223372036854775807))<|Aa (ByteArray.mk #[123,34,116,121,112,101,34,58,34]++a) fun a=>Ar (decide (ByteArray.size a+15<=9223372036854775807))<|Aa (a++ByteArray.mk #[34,44,34,99,104,97,108,108,101,110,103,101,34,58,34]) fun a=>Dv (call 48 [As 1 Y V]) fun b c=>Bu b fun b=>Ao c<|Ar (decide (ByteArray.size a+ByteArray.size b<=9223372036854775807))<|Aa (a++b) fun a=>Ar (decide (ByteArray.size a+12<=9223372036854775807))<|Aa (a++ByteArray.mk #[34,44,34,111,114,105,103,105,110,34,58,34]) fun a=>Ar (decide (ByteArray.size a+ByteArray.size X<=9223372036854775807))<|Aa (a++X) fun a=>Ar (decide (ByteArray.size a+16<=9223372036854775807))<|Aa (a++ByteArray.mk #[34,44,34,99,114,111,115,115,79,114,105,103,105,110,34,58]) fun a=>Ay (!U) (Ay (!Array.toList (ByteArray.data Z)==Array.toList (ByteArray.data (ByteArray.mk #[]))) (Bg [Bk ⟨#[]⟩,(4:Int)]) (Ar (decide (ByteArray.size a+6<=9223372036854775807))<|Aa (a++ByteArray.mk #[102,97,108,115,101,125]) fun a=>Bg [a,(0:Int)])) (Dv (call 47 [Z]) fun b c=>Ef b fun b=>Ai b fun b e=>Bm b fun b=>Ai e fun b e=>Bu b fun b=>Dl .i64 e fun b=>Dl .i64 c fun b=>Ay (b != 0) (Bg [Bk ⟨#[]⟩,b]) (Ar (decide (ByteArray.size a+18<=9223372036854775807))<|Aa (a++ByteArray.mk #[116,114,117,101,44,34,116,111,112,79,114,105,103,105,110,34,58,34]) fun a=>Ar (decide (ByteArray.size a+ByteArray.size Z<=9223372036854775807))<|Aa (a++Z) fun a=>Ar (decide (ByteArray.size a+2<=9223372036854775807))<|Aa (a++ByteArray.mk #[34,125]) fun a=>Bg [a,(0:Int)]))))))) (Ac (CP p) prog fu d):=by kernel_rfl
end
theorem Ak0{l:Aj}(hl:Cm l)(a b:Nat):(Ab l).extract a b=Ab ((l.drop a).take (b-a)):=by
 have h:(Ab l).extract a b=Ab (B0 ((Ab l).extract a b)):=(H2 _).symm;rw[h]
 congr 1
 unfold B0;rw[ByteArray.data_extract,Array.toList_extract,List.extract_eq_take_drop,List.map_take,List.map_drop];have:(List.map (fun b:UInt8=>(b.toNat:Int)) (Ab l).data.toList)=l:=Dd hl;rw[this]
theorem EQ{a b:Aj}(ha:Cm a)(hb:Cm b):(Array.toList (Ab a).data==Array.toList (Ab b).data)=decide (a=b):=by
 rw[Bool.eq_iff_iff,beq_iff_eq,decide_eq_true_iff];constructor
 ·intro h
  have h2:Ab a=Ab b:=by
   cases hx:Ab a;cases hy:Ab b;rw[hx,hy] at h;exact congrArg ByteArray.mk (Array.toList_inj.1 h)
  have h3:=congrArg B0 h2
  rwa [Dd ha,Dd hb] at h3
 ·rintro rfl;rfl
theorem Afe{w l:Aj}(h:w.length<=l.length):decide (l.take w.length=w)=w.isPrefixOf l:=by rw[Bool.eq_iff_iff,decide_eq_true_iff,List.isPrefixOf_iff_prefix,List.prefix_iff_eq_take];exact⟨fun h=>h.symm,fun h=>h.symm⟩
theorem XR(c:Int):∀{cur:Aj},(∀x∈cur,x≠c)->∀r,Az c (cur++c::r)=cur::Az c r
 |[],_,r=>by
  show (if c=c then []::Az c r else _)=_;rw[Cx rfl]
 |x::cur,h,r=>by
  have hx:=h x (by simp);have ih:=XR c (cur:=cur) (fun y hy=>h y (by simp[hy])) r;show (if x=c then []::Az c (cur++c::r) else match Az c (cur++c::r) with|a::t=>(x::a)::t|[]=>[[x]])=_;rw[Br hx,ih]
theorem PZ(c:Int):∀{cur:Aj},(∀x∈cur,x≠c)->Az c cur=[cur]
 |[],_=>rfl
 |x::cur,h=>by
  have hx:=h x (by simp);have ih:=PZ c (cur:=cur) (fun y hy=>h y (by simp[hy]));show (if x=c then []::Az c cur else match Az c cur with|a::t=>(x::a)::t|[]=>[[x]])=_;rw[Br hx,ih]
section
variable {fu d:Nat}{p:FuncId->Option (Ae->Option A4)}
theorem Agp{c:Int}:Ac (CP p) prog fu (d+1) 115 [.sc (.int .u8 c)]=some ⟨[Cz (BN c)],[]⟩:=by
 rw[Yh];unfold BN;by_cases h:48<=c
 ·have a1:=dT (q:=c>=48) h;have a2:=dT h;simp only[A5,A6,a1,a2,YD]
 ·have a1:=dF (q:=c>=48) h;have a2:=dF h;simp only[A5,A6,a1,a2,SU]
def lbB(x:Int):Bool:=ltB x||x==45
theorem Akv{a0:ByteArray}{l:Aj}(hB:Cm l)(hs:l.length<=63):∀(r:Aj)(i nn:Nat),l.drop i=r->r.length+1<=nn ->
  Da fu (Ac (CP p) prog fu (d+1)) a0 nn (Ab l) (i:Int)=some ⟨[Cz (r.all lbB)],[]⟩
 |[],i,nn,hd,hn=>by
  obtain⟨k,rfl⟩:∃k,nn=k+1:=⟨nn-1,by omega⟩
  have hi:=drop_nil hd;have a1:decide ((i:Int)<(l.length:Int))=false:=dF (by omega);rw[Ln];simp only[A5,A6,Ag,a1];rfl
 |c::r,i,nn,hd,hn=>by
  obtain⟨k,rfl⟩:∃k,nn=k+1:=⟨nn-1,by omega⟩
  obtain⟨hi,hc,SH⟩:=D8 hd;have ih:=Akv (a0:=a0) hB hs r (i+1) k SH (by simp at hn;omega)
  have ES:=hB c (List.mem_of_getElem? hc);have a1:decide ((i:Int)<(l.length:Int))=true:=dT (by omega);have a2:decide ((0:Int)<=(i:Int))=true:=by simp
  have a3:(Array.toList (Ab l).data)[Int.toNat (i:Int)]?=some c.toNat.toUInt8:=by
   rw[Jp];show (l.map fun n=>n.toNat.toUInt8)[i]?=_;rw[List.getElem?_map,hc];rfl
  have a4:=Ny ES;have a5:wrap .i64 ((i:Int)+1)=((i+1:Nat):Int):=Bq
  have e:Ac (CP p) prog fu (d+1) 115 [.sc (.int .u8 c)]=_:=Agp (fu:=fu) (d:=d) (p:=p) (c:=c);have step:(c::r).all lbB=(lbB c&&r.all lbB):=List.all_cons;rw[Ln,step];by_cases hA:97<=c/\c<=122
  ·have q1:=dT (q:=c>=97) hA.1;have q2:=bT hA.2;have hl:lbB c=true:=by unfold lbB ltB;simp[hA]
   rw[hl,YD];simp only[A5,A6,Ag,a1,a2,a3,a4,a5,q1,q2];exact ih
  cases hD:BN c
  ·rw[hD] at e
   have Cq:ltB c=false:=by
    unfold ltB;rw[hD,Bool.or_false];simp;omega
   by_cases hM:c=45
   ·subst hM;have q1:decide ((45:Int)>=97)=false:=rfl;have q3:((45:Int) != 45)=false:=rfl;have hl:lbB 45=true:=rfl;rw[hl,YD];simp only[A5,A6,Ag,a1,a2,a3,a4,a5,q1,e,Kd,q3];exact ih
   ·have q3:(c != 45)=true:=by simp[hM]
    have hl:lbB c=false:=by unfold lbB;simp[Cq,hM]
    rw[hl,SU];by_cases h97:97<=c
    ·have q1:=dT (q:=c>=97) h97;have q2:=bF (q:=c<=122) (by omega);simp only[A5,A6,Ag,a1,a2,a3,a4,a5,q1,q2,e,Kd,q3]
    ·have q1:=dF (q:=c>=97) h97;simp only[A5,A6,Ag,a1,a2,a3,a4,a5,q1,e,Kd,q3]
  ·rw[hD] at e;have h48:=(FU c).1 hD;have hl:lbB c=true:=by unfold lbB ltB;simp[hD]
   have q1:=dF (q:=c>=97) (by omega);rw[hl,YD];simp only[A5,A6,Ag,a1,a2,a3,a4,a5,q1,e,G9];exact ih
theorem Apb{l:Aj}(hB:Cm l)(Bi:100<=fu):Ac (CP p) prog fu (d+2) 114 [Bk (Ab l)]=some ⟨[Cz (K9 l)],[]⟩:=by
 rw[Yl];by_cases h1:1<=l.length
 ·have a1:decide (((l.length:Nat):Int)<1)=false:=dF (by omega);by_cases h2:l.length<=63
  ·have a2:decide (((l.length:Nat):Int)>63)=false:=dF (by omega)
   have e0:K9 l=(!(l.head?==some 45) && !(l.getLast?==some 45)&&l.all lbB):=by
    unfold K9;rw[dT h1,dT h2];rfl
   cases l with
   |nil=>simp at h1
   |cons c r=>
    have ES:=hB c (by simp);have a3:(Array.toList (Ab (c::r)).data)[0]?=some c.toNat.toUInt8:=rfl;have a4:=Ny ES;by_cases h0:c=45
    ·subst h0;have q:((45:Int)==45)=true:=rfl;have e:K9 (45::r)=false:=by rw[e0];simp
     rw[e];simp only[A5,A6,Ag,a1,a2,a3,a4,q]
    ·have q:(c==45)=false:=by simp[h0]
     obtain⟨z,hz⟩:∃z,(c::r).getLast?=some z:=⟨_,List.getLast?_eq_some_getLast (by simp)⟩
     have hz2:(c::r)[(c::r).length-1]?=some z:=by rw[<-List.getLast?_eq_getElem?];exact hz
     have hzB:=hB z (List.mem_of_getElem? hz2);have b1:wrap .i64 (((c::r).length:Int)-1)=(((c::r).length-1:Nat):Int):=Bq
     have b2:decide ((0:Int)<=(((c::r).length-1:Nat):Int))=true:=dT (by omega)
     have b3:(Array.toList (Ab (c::r)).data)[Int.toNat (((c::r).length-1:Nat):Int)]?=some z.toNat.toUInt8:=by
      rw[Jp];show ((c::r).map fun n=>n.toNat.toUInt8)[(c::r).length-1]?=_;rw[List.getElem?_map,hz2];rfl
     have b4:=Ny hzB;by_cases A1h:z=45
     ·subst A1h;have q2:((45:Int)==45)=true:=rfl;have e:K9 (c::r)=false:=by rw[e0,hz];simp
      rw[e];simp only[A5,A6,Ag,a1,a2,a3,a4,q,b1,b2,b3,b4,q2]
     ·have q2:(z==45)=false:=by simp[A1h]
      have e:K9 (c::r)=(c::r).all lbB:=by rw[e0,hz];simp[h0,A1h]
      have hl:=Akv (fu:=fu) (d:=d) (p:=p) (a0:=Ab (c::r)) hB h2 (c::r) 0 fu rfl (by omega);rw[e];simp only[A5,A6,Ag,a1,a2,a3,a4,q,b1,b2,b3,b4,q2];rw[Ul (Gz:=by omega)];exact hl
  ·have a2:decide (((l.length:Nat):Int)>63)=true:=dT (by omega);have e:K9 l=false:=by unfold K9;simp[h2]
   rw[e];simp only[A5,A6,Ag,a1,a2]
 ·have a1:decide (((l.length:Nat):Int)<1)=true:=dT (by omega);have e:K9 l=false:=by unfold K9;simp[h1]
  rw[e];simp only[A5,A6,Ag,a1]
theorem Aat{call:Aq}{a0:ByteArray}{a1 c:Int}{l:Aj}(hB:Cm l)(hl:l.length<=100000):∀(r cur:Aj)(done:List Aj) (f nn:Nat),l.drop f=cur++r->(∀x∈cur,x≠c)->done.length<=f->f<=l.length->r.length+1<=nn ->
  Fa fu call a0 a1 nn (Ab l) c done.length (f:Int) ((f+cur.length:Nat):Int) (done.map Wx)=some ⟨[.own 1 (done++Az c (cur++r)).length ((done++Az c (cur++r)).map Wx)],[]⟩
 |[],cur,done,f,nn,hd,hc,BA,hf,hn=>by
  obtain⟨k,rfl⟩:∃k,nn=k+1:=⟨nn-1,by omega⟩
  rw[List.append_nil] at hd;have Eh:=congrArg List.length hd;rw[List.length_drop] at Eh;have b1:decide (((f+cur.length:Nat):Int)<(l.length:Int))=false:=dF (by omega);have b2:decide ((0:Int)<=(f:Int))=true:=by simp
  have b3:decide (Int.toNat (f:Int)<=l.length)=true:=dT (by omega)
  have b4:(Ab l).extract (Int.toNat (f:Int)) l.length=Ab cur:=by
   rw[Ak0 hB,Jp,hd,H5 (by omega)]
  have b5:decide (done.length*1<=List.length (done.map Wx))=true:=by simp
  have b6:decide ((done.length+1)*16<=1099511627776)=true:=dT (by omega);have b7:decide (done.length+1<=1099511627776)=true:=dT (by omega)
  have b8:List.take (done.length*1) (done.map Wx)++[PV.sc (.string (Ab cur))]=(done++[cur]).map Wx:=by
   rw[H5 (by simp)];simp[Wx]
  have b9:decide ((done.length+1)*1<=List.length ((done++[cur]).map Wx))=true:=by simp
  have c1:List.take ((done.length+1)*1) ((done++[cur]).map Wx)=(done++[cur]).map Wx:=H5 (by simp);rw[Lt,List.append_nil,PZ c hc];simp only[A5,A6,Ag,dle,b1,b2,b3,b4,b5,b6,b7,b8,b9,c1];simp
 |x::r,cur,done,f,nn,hd,hc,BA,hf,hn=>by
  obtain⟨k,rfl⟩:∃k,nn=k+1:=⟨nn-1,by omega⟩
  have Eh:=congrArg List.length hd;rw[List.length_drop] at Eh;simp only[Vo,Po] at Eh
  have hx:l[f+cur.length]?=some x:=by
   have:(l.drop f)[cur.length]?=some x:=by rw[hd];simp
   rwa [List.getElem?_drop] at this
  have hxB:=hB x (List.mem_of_getElem? hx);have b1:decide (((f+cur.length:Nat):Int)<(l.length:Int))=true:=dT (by omega);have b2:decide ((0:Int)<=((f+cur.length:Nat):Int))=true:=dT (by omega);have b2':decide ((0:Int)<=(f:Int))=true:=by simp
  have b3:(Array.toList (Ab l).data)[Int.toNat ((f+cur.length:Nat):Int)]?=some x.toNat.toUInt8:=by
   rw[Jp];show (l.map fun n=>n.toNat.toUInt8)[f+cur.length]?=_;rw[List.getElem?_map,hx];rfl
  have b4:=Ny hxB;have b5:wrap .i64 (((f+cur.length:Nat):Int)+1)=((f+cur.length+1:Nat):Int):=Bq
  rw[Lt];by_cases hxc:x=c
  ·subst hxc;have q:(x==x)=true:=by simp
   have c1:decide (Int.toNat (f:Int)<=Int.toNat ((f+cur.length:Nat):Int))=true:=dT (by omega);have c2:decide (Int.toNat ((f+cur.length:Nat):Int)<=l.length)=true:=dT (by omega)
   have c3:(Ab l).extract (Int.toNat (f:Int)) (Int.toNat ((f+cur.length:Nat):Int))=Ab cur:=by
    rw[Ak0 hB,Jp,Jp,hd,Nat.add_sub_cancel_left,List.take_left]
   have c4:decide (done.length*1<=List.length (done.map Wx))=true:=by simp
   have c5:decide ((done.length+1)*16<=1099511627776)=true:=dT (by omega);have c6:decide (done.length+1<=1099511627776)=true:=dT (by omega)
   have c7:List.take (done.length*1) (done.map Wx)++[PV.sc (.string (Ab cur))]=(done++[cur]).map Wx:=by
    rw[H5 (by simp)];simp[Wx]
   have SH:l.drop (f+cur.length+1)=[]++r:=by
    rw[<-List.drop_drop,<-List.drop_drop,hd,List.drop_left];rfl
   have ih:=Aat (call:=call) (a0:=a0) (a1:=a1) (c:=x) hB hl r [] (done++[cur]) (f+cur.length+1) k SH (fun y hy=>nomatch hy) (by simp;omega) (by omega) (by simp at hn;omega)
   rw[XR x hc];simp only[A5,A6,Ag,b1,b2,b2',b3,b4,q,c1,c2,c3,c4,c5,c6,c7,b5];rw[show (done++[cur]).length=done.length+1 by simp,show f+cur.length+1+([]:Aj).length=f+cur.length+1 from rfl] at ih;refine ih.trans ?_;simp
  ·have q:(x==c)=false:=by simp[hxc]
   have ih:=Aat (call:=call) (a0:=a0) (a1:=a1) hB hl r (cur++[x]) done f k (by rw[hd];simp) (fun y hy=>by
    rcases Bx.1 hy with hy|hy
    ·exact hc y hy
    ·simp at hy;subst hy;exact hxc) BA hf (by simp at hn;omega)
   simp only[A5,A6,Ag,b1,b2,b3,b4,q,b5];rw[show f+(cur++[x]).length=f+cur.length+1 by simp;omega] at ih
   refine ih.trans ?_;simp
theorem Arf{c:Int}{l:Aj}(hB:Cm l)(hl:l.length<=100000)(Bi:l.length+1<=fu):Ac (CP p) prog fu (d+1) 113 [Bk (Ab l),.sc (.int .u8 c)]=some ⟨[.own 1 (Az c l).length ((Az c l).map Wx)],[]⟩:=by rw[Y1];have:=Aat (fu:=fu) (call:=Ac (CP p) prog fu d) (a0:=Ab l) (a1:=c) (c:=c) hB hl l [] [] 0 fu rfl (fun y hy=>nomatch hy) (Cs _) (by omega) Bi;exact this
theorem Afa{a0:ByteArray}{l:Aj}(hB:Cm l)(hs:l.length<=100000):∀(r:Aj)(i nn:Nat),l.drop i=r->r.length+1<=nn ->
  Fj fu (Ac (CP p) prog fu (d+1)) a0 nn (Ab l) (i:Int)=some ⟨[Aw (if r.all BN=true then 2 else 0)],[]⟩
 |[],i,nn,hd,hn=>by
  obtain⟨k,rfl⟩:∃k,nn=k+1:=⟨nn-1,by omega⟩
  have hi:=drop_nil hd;have a1:decide ((i:Int)<(l.length:Int))=false:=dF (by omega);rw[I0];simp only[A5,A6,Ag,a1];rfl
 |c::r,i,nn,hd,hn=>by
  obtain⟨k,rfl⟩:∃k,nn=k+1:=⟨nn-1,by omega⟩
  obtain⟨hi,hc,SH⟩:=D8 hd;have ih:=Afa (a0:=a0) hB hs r (i+1) k SH (by simp at hn;omega)
  have ES:=hB c (List.mem_of_getElem? hc);have a1:decide ((i:Int)<(l.length:Int))=true:=dT (by omega);have a2:decide ((0:Int)<=(i:Int))=true:=by simp
  have a3:(Array.toList (Ab l).data)[Int.toNat (i:Int)]?=some c.toNat.toUInt8:=by
   rw[Jp];show (l.map fun n=>n.toNat.toUInt8)[i]?=_;rw[List.getElem?_map,hc];rfl
  have a4:=Ny ES;have a5:wrap .i64 ((i:Int)+1)=((i+1:Nat):Int):=Bq
  have e:Ac (CP p) prog fu (d+1) 115 [.sc (.int .u8 c)]=_:=Agp (fu:=fu) (d:=d) (p:=p) (c:=c);rw[I0,List.all_cons];cases hD:BN c
  ·rw[hD] at e;simp only[A5,A6,Ag,a1,a2,a3,a4,e,Kd,SU,Bool.false_eq_true,if_false]
  ·rw[hD] at e;simp only[A5,A6,Ag,a1,a2,a3,a4,e,G9,YD,a5];exact ih
theorem VE{a0:ByteArray}(Bi:2000<=fu){ls:List Aj}(hB:∀x∈ls,Cm x/\x.length<=1000)(h0:ls≠[])(hN:ls.length<=1000):∀(r:List Aj) (i nn:Nat),ls.drop i=r->r.length+1<=nn ->
  Fh fu (Ac (CP p) prog fu (d+2)) a0 nn ls.length (i:Int) (ls.map Wx)=some ⟨[Aw (if r.all K9=false then 2 else if (ls.getLastD []).all BN=true then 2 else 0)],[]⟩
 |[],i,nn,hd,hn=>by
  obtain⟨k,rfl⟩:∃k,nn=k+1:=⟨nn-1,by omega⟩
  have hi:=drop_nil hd;have Ad6:0<ls.length:=List.length_pos_iff.2 h0;have a1:decide ((i:Int)<(ls.length:Int))=false:=dF (by omega);have a2:wrap .i64 ((ls.length:Int)-1)=((ls.length-1:Nat):Int):=Bq
  have a3:decide ((0:Int)<=((ls.length-1:Nat):Int))=true:=dT (by omega);have a4:decide (((ls.length-1:Nat):Int)<(ls.length:Int))=true:=dT (by omega)
  have PH:ls.getLastD []=ls[ls.length-1]'(by omega):=by
   rw[List.getLastD_eq_getLast?,List.getLast?_eq_getElem?,List.getElem?_eq_getElem (by omega)];rfl
  have a5:List.getD (ls.map Wx) (0+Int.toNat ((ls.length-1:Nat):Int)*1) PV.top=Bk (Ab (ls.getLastD [])):=by
   rw[Jp,Ip,Kb,List.getD_eq_getElem?_getD,List.getElem?_map,List.getElem?_eq_getElem (by omega),PH];rfl
  have hm:=hB (ls.getLastD []) (by rw[PH];exact List.getElem_mem _)
  have hdl:=Afa (fu:=fu) (d:=d+1) (p:=p) (a0:=a0) hm.1 (by omega) (ls.getLastD []) 0 fu rfl (by omega);rw[Jg];simp only[A5,A6,a1,a2,a3,a4,a5,List.all_nil,Bool.true_eq_false,if_false];exact hdl
 |x::r,i,nn,hd,hn=>by
  obtain⟨k,rfl⟩:∃k,nn=k+1:=⟨nn-1,by omega⟩
  obtain⟨hi,hc,SH⟩:=D8 hd;have ih:=VE (a0:=a0) Bi hB h0 hN r (i+1) k SH (by simp at hn;omega)
  have hm:=hB x (List.mem_of_getElem? hc);have e:Ac (CP p) prog fu (d+2) 114 [Bk (Ab x)]=_:=Apb (fu:=fu) (d:=d) (p:=p) hm.1 (by omega);have a1:decide ((i:Int)<(ls.length:Int))=true:=dT (by omega);have a2:decide ((0:Int)<=(i:Int))=true:=by simp
  have a5:List.getD (ls.map Wx) (0+Int.toNat (i:Int)*1) PV.top=Bk (Ab x):=by
   rw[Jp,Ip,Kb,List.getD_eq_getElem?_getD,List.getElem?_map,hc];rfl
  have a6:wrap .i64 ((i:Int)+1)=((i+1:Nat):Int):=Bq
  rw[Jg];cases hq:K9 x
  ·rw[hq] at e;have:((x::r).all K9=false):=by simp[hq]
   rw[Cx this];simp only[A5,A6,a1,a2,a5,e,Kd]
  ·rw[hq] at e;have:(x::r).all K9=r.all K9:=by simp[hq]
   rw[this];simp only[A5,A6,a1,a2,a5,e,G9,a6];exact ih
theorem Awq{l:Aj}(hB:Cm l)(hs:l.length<=1000000)(Bi:2000<=fu):Ac (CP p) prog fu (d+4) 81 [Bk (Ab l)]=some ⟨[Aw (S2 l)],[]⟩:=by
 rw[Vd];unfold S2;by_cases h:100<l.length
 ·have a1:decide (((l.length:Nat):Int)>100)=true:=dT (by omega);rw[Cx h];simp only[A5,A6,Ag,a1]
 ·have a1:decide (((l.length:Nat):Int)>100)=false:=dF (by omega);have e:Ac (CP p) prog fu (d+3) 113 [Bk (Ab l),.sc (.int .u8 46)]=_:=Arf (fu:=fu) (d:=d+2) (p:=p) (c:=46) hB (by omega) (by omega);have hn:=AG 46 l;have hd:=VE (a0:=Ab l) (fu:=fu) (d:=d+1) (p:=p) (by omega) (ls:=Az 46 l) (fun x hx=>⟨(Zf 46 hB x hx).1,by have:=(Zf 46 hB x hx).2;omega⟩) (Q1 46 l) (by omega) (Az 46 l) 0 fu rfl (by omega)
  rw[Br h];simp only[A5,A6,Ag,a1,e];exact hd
end
section
variable {fu d:Nat}{p:FuncId->Option (Ae->Option A4)}
theorem Aeo(s:Bool):Ac (CP p) prog fu (d+1) 82 [Cz s]=some ⟨[Aw (dfl s)],[]⟩:=by rw[Ri];cases s<;>simp only[A5,A6]<;>rfl
theorem SP{a0:ByteArray}{l:Aj}{s a1:Bool}(hB:Cm l)(hs:l.length<=5):∀(r:Aj)(i nn:Nat)(n:Int),l.drop i=r->r.length+1<=nn->0<=n->n<10 ^ i ->
  Gq fu (Ac (CP p) prog fu (d+1)) a0 a1 nn (Ab l) s n (i:Int)=some (if r.all BN=true then ⟨[Aw (r.foldl (fun n x=>10*n+(x-48)) n),Cz (decide (r.foldl (fun n x=>10*n+(x-48)) n<=65535)&&decide (r.foldl (fun n x=>10*n+(x-48)) n≠dfl s))],[]⟩ else ⟨[Aw 0,Cz false],[]⟩)
 |[],i,nn,n,hd,hn,h0,h1=>by
  obtain⟨k,rfl⟩:∃k,nn=k+1:=⟨nn-1,by omega⟩
  have hi:=drop_nil hd;have a1':decide ((i:Int)<(l.length:Int))=false:=dF (by omega);have e:Ac (CP p) prog fu (d+1) 82 [Cz s]=_:=Aeo (fu:=fu) (d:=d) (p:=p) s;rw[Mx];show _=some (A4.mk [Aw n,Cz (decide (n<=65535)&&decide (n≠dfl s))] []);by_cases hv:n<=65535
  ·have q:=dT hv
   have q2:(n != dfl s)=decide (n≠dfl s):=by
    by_cases h:n=dfl s<;>simp[h]
   simp only[A5,A6,Ag,a1',q,e,q2,YD]
  ·have q:=dF hv;simp only[A5,A6,Ag,a1',q,SU]
 |c::r,i,nn,n,hd,hn,h0,h1=>by
  obtain⟨k,rfl⟩:∃k,nn=k+1:=⟨nn-1,by omega⟩
  obtain⟨hi,hc,SH⟩:=D8 hd;have ES:=hB c (List.mem_of_getElem? hc)
  have hp:(10:Int) ^ i<=10 ^ 4:=by
   have h:=Nat.pow_le_pow_right (n:=10) (by omega) (show i<=4 by omega)
   exact_mod_cast h
  have hp2:(10:Int) ^ (i+1)=10 ^ i*10:=Int.pow_succ ..;have a1':decide ((i:Int)<(l.length:Int))=true:=dT (by omega);have a2:decide ((0:Int)<=(i:Int))=true:=by simp
  have a3:(Array.toList (Ab l).data)[Int.toNat (i:Int)]?=some c.toNat.toUInt8:=by
   rw[Jp];show (l.map fun n=>n.toNat.toUInt8)[i]?=_;rw[List.getElem?_map,hc];rfl
  have a4:=Ny ES;have e:Ac (CP p) prog fu (d+1) 115 [.sc (.int .u8 c)]=_:=Agp (fu:=fu) (d:=d) (p:=p) (c:=c);rw[Mx];cases hD:BN c
  ·rw[hD] at e;have ea:(c::r).all BN=false:=by rw[List.all_cons,hD,SU]
   rw[ea];simp only[A5,A6,Ag,a1',a2,a3,a4,e,Kd,Bool.false_eq_true,if_false]
  ·rw[hD] at e;have hq:=(FU c).1 hD;have a5:wrap .i64 (10*n)=10*n:=Bb;have a6:wrap .u8 (c-48)=c-48:=Oa (by omega) (by omega);have a7:wrap .i64 (c-48)=c-48:=Bb;have a8:wrap .i64 (10*n+(c-48))=10*n+(c-48):=Bb;have a9:wrap .i64 ((i:Int)+1)=((i+1:Nat):Int):=Bq
   have ih:=SP (a0:=a0) (s:=s) (a1:=a1) hB hs r (i+1) k (10*n+(c-48)) SH (by simp at hn;omega) (by omega) (by omega)
   have ea:(c::r).all BN=r.all BN:=by rw[List.all_cons,hD,YD]
   simp only[A5,A6,Ag,a1',a2,a3,a4,e,G9,a5,a6,a7,a8,a9];rw[ih,ea];rfl
theorem Axs{l:Aj}{s:Bool}(hB:Cm l)(Bi:100<=fu):Ac (CP p) prog fu (d+2) 83 [Bk (Ab l),Cz s]=some (if Jw l=true then ⟨[Aw (DI l),Cz (decide (DI l<=65535)&&decide (DI l≠dfl s))],[]⟩ else ⟨[Aw 0,Cz false],[]⟩):=by
 rw[BO];by_cases h1:1<=l.length
 ·by_cases h2:l.length<=5
  ·have a1:decide (((l.length:Nat):Int)<1)=false:=dF (by omega);have a2:decide (((l.length:Nat):Int)>5)=false:=dF (by omega);cases l with
   |nil=>simp at h1
   |cons c r=>
    have ES:=hB c (by simp);have a3:(Array.toList (Ab (c::r)).data)[0]?=some c.toNat.toUInt8:=rfl;have a4:=Ny ES;by_cases h0:c=48
    ·subst h0;have e:Jw (48::r)=false:=by unfold Jw;simp
     have q:((48:Int)==48)=true:=rfl;rw[e];simp only[A5,A6,Ag,a1,a2,a3,a4,q,Bool.false_eq_true,if_false]
    ·have q:(c==48)=false:=by simp[h0]
     have e:Jw (c::r)=(c::r).all BN:=by
      unfold Jw;rw[dT h1,dT h2];simp[h0]
     have hl:=SP (fu:=fu) (d:=d) (p:=p) (a0:=Ab (c::r)) (a1:=s) (s:=s) hB h2 (c::r) 0 fu 0 rfl (by omega) (by omega) (by decide);rw[e];simp only[A5,A6,Ag,a1,a2,a3,a4,q];exact hl
  ·have a1:decide (((l.length:Nat):Int)<1)=false:=dF (by omega);have a2:decide (((l.length:Nat):Int)>5)=true:=dT (by omega);have e:Jw l=false:=by unfold Jw;simp[h2]
   rw[e];simp only[A5,A6,Ag,a1,a2,Bool.false_eq_true,if_false]
 ·have a1:decide (((l.length:Nat):Int)<1)=true:=dT (by omega);have e:Jw l=false:=by unfold Jw;simp[h1]
  rw[e];simp only[A5,A6,Ag,a1,Bool.false_eq_true,if_false]
theorem A3m{a0 s4 s7:ByteArray}{y3 y6:Bool}{y5 y8:Int}{r:Aj}(hr:Cm r)(hrl:r.length<=1000000)(Bi:2000<=fu){nn:Nat}:∃o1 o2 o3,Bz fu (Ac (CP p) prog fu (d+4)) a0 (nn+1) (Ab r) ((Bp 58 r).length:Int) (-1) y3 s4 y5 y6 s7 y8=some ⟨[.agg [Cz o1,Bk o2,Aw o3],Aw (Y0 y6 r)],[]⟩:=by
 have Wn:=NQ 58 r;have hbB:Cm (Bp 58 r):=by rw[Sc];exact fun x hx=>hr x (List.mem_of_mem_take hx)
 have hdB:Cm (r.drop ((Bp 58 r).length+1)):=fun x hx=>hr x (List.mem_of_mem_drop hx);have c2:Ac (CP p) prog fu (d+4) 81 [Bk (Ab (Bp 58 r))]=_:=Awq (fu:=fu) (d:=d) (p:=p) hbB (by omega) Bi;have c3:Ac (CP p) prog fu (d+4) 82 [Cz y6]=_:=Aeo (fu:=fu) (d:=d+3) (p:=p) y6;have c4:Ac (CP p) prog fu (d+4) 83 [Bk (Ab (r.drop ((Bp 58 r).length+1))),Cz y6]=_:=Axs (fu:=fu) (d:=d+2) (p:=p) (s:=y6) hdB (by omega);have a1:decide ((-1:Int)>=0)=false:=rfl;have a2:decide ((0:Int)<=((Bp 58 r).length:Int))=true:=by simp
 have a3:decide (Int.toNat ((Bp 58 r).length:Int)<=r.length)=true:=dT (by omega);have a4:(Ab r).extract 0 (Int.toNat ((Bp 58 r).length:Int))=Ab (Bp 58 r):=by rw[Jp,U6 hr,<-Sc]
 rw[Hv];unfold Y0;by_cases hh:S2 (Bp 58 r)=0
 ·have z:((0:Int) != 0)=false:=rfl;rw[hh] at c2;simp only[ne_eq,hh,not_true_eq_false,if_false];by_cases hw:(Bp 58 r).length<r.length
  ·have a5:=dT (q:=((Bp 58 r).length:Int)<(r.length:Int)) (by omega);have a6:wrap .i64 (((Bp 58 r).length:Int)+1)=(((Bp 58 r).length+1:Nat):Int):=Bq
   have a7:decide ((0:Int)<=(((Bp 58 r).length+1:Nat):Int))=true:=dT (by omega);have a8:decide (Int.toNat (((Bp 58 r).length+1:Nat):Int)<=r.length)=true:=dT (by omega);have a9:(Ab r).extract (Int.toNat (((Bp 58 r).length+1:Nat):Int)) r.length=Ab (r.drop ((Bp 58 r).length+1)):=by rw[Jp,Wf hr]
   rw[Br (show ¬(Bp 58 r).length=r.length by omega)];by_cases hp:Jw (r.drop ((Bp 58 r).length+1))=true
   ·rw[Cx hp] at c4;by_cases hv:DI (r.drop ((Bp 58 r).length+1))<=65535/\DI (r.drop ((Bp 58 r).length+1))≠dfl y6
    ·rw[dT hv.1,dT hv.2] at c4;rw[Cx ⟨hp,hv.1,hv.2⟩];exact⟨_,_,_,by simp only[A5,A6,Ag,dle,a1,a2,a3,a4,c2,z,c3,a5,a6,a7,a8,a9,c4,Bool.and_true,G9];rfl⟩
    ·have hb:(decide (DI (r.drop ((Bp 58 r).length+1))<=65535)&&decide (DI (r.drop ((Bp 58 r).length+1))≠dfl y6))=false:=by
      rw[Bool.eq_false_iff];intro h;rw[E0,decide_eq_true_iff,decide_eq_true_iff] at h;exact hv h
     rw[hb] at c4;rw[Br (by rintro⟨_,h1,h2⟩;exact hv ⟨h1,h2⟩)]
     exact⟨_,_,_,by simp only[A5,A6,Ag,dle,a1,a2,a3,a4,c2,z,c3,a5,a6,a7,a8,a9,c4,Kd];rfl⟩
   ·rw[Br hp] at c4;rw[Br (by rintro⟨h,_,_⟩;exact hp h)]
    exact⟨_,_,_,by simp only[A5,A6,Ag,dle,a1,a2,a3,a4,c2,z,c3,a5,a6,a7,a8,a9,c4,Kd];rfl⟩
  ·have a5:=dF (q:=((Bp 58 r).length:Int)<(r.length:Int)) (by omega);rw[Cx (show (Bp 58 r).length=r.length by omega)];exact⟨_,_,_,by simp only[A5,A6,Ag,a1,a2,a3,a4,c2,z,c3,a5];rfl⟩
 ·have b1:(S2 (Bp 58 r) != 0)=true:=by simp[hh]
  simp only[ne_eq,hh,not_false_eq_true,if_true];exact⟨_,_,_,by simp only[A5,A6,Ag,a1,a2,a3,a4,c2,b1];rfl⟩
theorem Apn{r:Aj}{k:Nat}(hk:k<r.length){c:Int}(hc:r[k]?=some c):(Bp 58 (r.drop k)).length=if c=58 then 0 else (Bp 58 (r.drop (k+1))).length+1:=by
 have e:r.drop k=c::r.drop (k+1):=by
  rw[List.drop_eq_getElem_cons hk];rw[List.getElem?_eq_getElem hk] at hc;cases hc;rfl
 rw[e];by_cases h:c=58
 ·subst h;rw[Aba,Cx rfl];rfl
 ·rw[Ade _ h,Br h];rfl
theorem Ax5{a0 s4 s7:ByteArray}{y3 y6:Bool}{y5 y8:Int}{r:Aj}(hr:Cm r)(hrl:r.length<=1000000)(Bi:2000<=fu):∀(k nn:Nat),k<=r.length->k+1<=nn->∃o1 o2 o3,Bz fu (Ac (CP p) prog fu (d+4)) a0 nn (Ab r) ((k+(Bp 58 (r.drop k)).length:Nat):Int) ((k:Int)-1) y3 s4 y5 y6 s7 y8=some ⟨[.agg [Cz o1,Bk o2,Aw o3],Aw (Y0 y6 r)],[]⟩:=by
 intro k
 induction k with
 |zero=>
  intro nn hk Gz;obtain⟨q,rfl⟩:∃q,nn=q+1:=⟨nn-1,by omega⟩
  have:=A3m (fu:=fu) (d:=d) (p:=p) (a0:=a0) (s4:=s4) (s7:=s7) (y3:=y3) (y6:=y6) (y5:=y5) (y8:=y8) hr hrl Bi (nn:=q);rw[Ma,Ip];exact this
 |succ k ih=>
  intro nn hk Gz;obtain⟨q,rfl⟩:∃q,nn=q+1:=⟨nn-1,by omega⟩
  obtain⟨c,hc⟩:∃c,r[k]?=some c:=⟨_,List.getElem?_eq_getElem (by omega)⟩
  have ES:=hr c (List.mem_of_getElem? hc);have hbd:=Apn (show k<r.length by omega) hc;obtain⟨o1,o2,o3,h⟩:=ih q (by omega) (by omega);refine⟨o1,o2,o3,?_⟩;have a1:decide (((k+1:Nat):Int)-1>=0)=true:=dT (by omega);have a2:decide ((0:Int)<=((k+1:Nat):Int)-1)=true:=dT (by omega)
  have a3:(Array.toList (Ab r).data)[Int.toNat (((k+1:Nat):Int)-1)]?=some c.toNat.toUInt8:=by
   rw[show Int.toNat (((k+1:Nat):Int)-1)=k by omega];show (r.map fun n=>n.toNat.toUInt8)[k]?=_;rw[List.getElem?_map,hc];rfl
  have a4:=Ny ES;have a5:wrap .i64 (((k+1:Nat):Int)-1-1)=(k:Int)-1:=Bq
  rw[Hv];by_cases h58:c=58
  ·rw[Cx h58] at hbd;have q1:(c==58)=true:=by simp[h58]
   rw[hbd] at h;simp only[A5,A6,a1,a2,a3,a4,q1,a5];rw[show ((k+1:Nat):Int)-1=((k+0:Nat):Int) by omega];exact h
  ·rw[Br h58] at hbd;have q1:(c==58)=false:=by simp[h58]
   rw[hbd] at h;simp only[A5,A6,a1,a2,a3,a4,q1,a5];rw[show k+1+(Bp 58 (r.drop (k+1))).length=k+((Bp 58 (r.drop (k+1))).length+1) by omega];exact h
theorem Apj{l:Aj}(hB:Cm l)(hs:l.length<=1000000)(Bi:2000<=fu)(LH:l.length+1<=fu):∃o1 o2 o3,Ac (CP p) prog fu (d+5) 47 [Bk (Ab l)]=some ⟨[.agg [Cz o1,Bk o2,Aw o3],Aw (Gk l)],[]⟩:=by
  have er:=R7 (p:=p) fu (d+4) (Ab l)
  have sT:Ac (CP p) prog fu (d+4) 80 [Cz true]=some ⟨[Bk (Ab [104,116,116,112,115,58,47,47])],[]⟩:=by
    refine (Np (p:=p) fu (d+3) true).trans ?_
    simp only[A5,A6]
    rfl
  have sF:Ac (CP p) prog fu (d+4) 80 [Cz false]=some ⟨[Bk (Ab [104,116,116,112,58,47,47])],[]⟩:=by
    refine (Np (p:=p) fu (d+3) false).trans ?_
    simp only[A5,A6]
    rfl
  have hB8:Cm [104,116,116,112,115,58,47,47]:=fun x hx=>by simp at hx;omega
  have hB7:Cm [104,116,116,112,58,47,47]:=fun x hx=>by simp at hx;omega
  have l8:(Ab [104,116,116,112,115,58,47,47]).size=8:=rfl
  have l7:(Ab [104,116,116,112,58,47,47]).size=7:=rfl
  have n8:([104,116,116,112,115,58,47,47]:Aj).length=8:=rfl
  have n7:([104,116,116,112,58,47,47]:Aj).length=7:=rfl
  have e8:(ByteArray.mk #[104,116,116,112,115,58,47,47])=Ab [104,116,116,112,115,58,47,47]:=rfl
  have tk:∀n,Cm (l.take n):=fun n x hx=>hB x (List.mem_of_mem_take hx)
  have loop:∀(m:Nat) (s:Bool),m<=l.length->∃o1 o2 o3,Bz fu (Ac (CP p) prog fu (d+4)) (Ab l) fu (Ab (l.drop m)) (((Ab (l.drop m)).size:Nat):Int) (wrap .i64 ((((Ab (l.drop m)).size:Nat):Int)-1)) false (ByteArray.mk #[]) 0 s (ByteArray.mk #[]) 0=some ⟨[.agg [Cz o1,Bk o2,Aw o3],Aw (Y0 s (l.drop m))],[]⟩:=by
    intro m s hm
    have hd:Cm (l.drop m):=fun x hx=>hB x (List.mem_of_mem_drop hx)
    have hdl:(l.drop m).length=l.length-m:=List.length_drop
    obtain⟨o1,o2,o3,h⟩:=Ax5 (fu:=fu) (d:=d) (p:=p) (a0:=Ab l) (s4:=ByteArray.mk #[]) (s7:=ByteArray.mk #[]) (y3:=false) (y6:=s) (y5:=0) (y8:=0) hd (by omega) Bi (l.drop m).length fu (Cs _) (by omega)
    refine⟨o1,o2,o3,?_⟩
    rw[Ag,Bb]
    have e:(l.drop m).length+(Bp 58 ((l.drop m).drop (l.drop m).length)).length=(l.drop m).length:=by
      rw[List.drop_length];rfl
    rw[e] at h
    exact h
  unfold Gk
  have plain:∀(h7:List.isPrefixOf [104,116,116,112,115,58,47,47] l=false),∃o1 o2 o3,(Ay (decide (((l.length:Nat):Int)<((7:Nat):Int)))
    (some (A4.mk [PV.agg [PV.sc (Value.bool false),PV.sc (Value.string ⟨#[]⟩),PV.sc (Value.int IntKind.i64 (0:Int))],PV.sc (Value.int IntKind.i64 (2:Int))] []))
    (Ay (!decide (l.take 7=[104,116,116,112,58,47,47]))
     (some (A4.mk [PV.agg [PV.sc (Value.bool false),PV.sc (Value.string ⟨#[]⟩),PV.sc (Value.int IntKind.i64 (0:Int))],PV.sc (Value.int IntKind.i64 (2:Int))] []))
     (Bz fu (Ac (CP p) prog fu (d+4)) (Ab l) fu (Ab (l.drop 7)) (((Ab (l.drop 7)).size:Nat):Int) (wrap .i64 ((((Ab (l.drop 7)).size:Nat):Int)-1)) false (ByteArray.mk #[]) 0 false (ByteArray.mk #[]) 0)))=some ⟨[.agg [Cz o1,Bk o2,Aw o3],Aw (if List.isPrefixOf [104,116,116,112,58,47,47] l=true then Y0 false (l.drop 7) else 2)],[]⟩:=by
    intro _
    by_cases hl7:l.length<7
    · have hn:List.isPrefixOf [104,116,116,112,58,47,47] l=false:=by
        rw[Bool.eq_false_iff,ne_eq,List.isPrefixOf_iff_prefix]
        intro h
        have:=h.length_le
        simp at this
        omega
      rw[dT (show ((l.length:Nat):Int)<((7:Nat):Int) by omega),hn]
      exact⟨_,_,_,rfl⟩
    · rw[dF (show ¬((l.length:Nat):Int)<((7:Nat):Int) by omega)]
      have hp:=Afe (w:=[104,116,116,112,58,47,47]) (l:=l) (by simp;omega)
      rw[show ([104,116,116,112,58,47,47]:Aj).length=7 from rfl] at hp
      rw[hp]
      cases List.isPrefixOf [104,116,116,112,58,47,47] l
      · exact⟨_,_,_,rfl⟩
      · obtain⟨o1,o2,o3,h⟩:=loop 7 false (by omega)
        exact⟨o1,o2,o3,h⟩
  have x7:(Ab l).extract 0 (Int.toNat ((7:Nat):Int))=Ab (l.take 7):=U6 hB 7
  have y7:(Ab l).extract (Int.toNat ((7:Nat):Int)) l.length=Ab (l.drop 7):=Wf hB 7
  have x8:(Ab l).extract 0 8=Ab (l.take 8):=U6 hB 8
  have x8':(Ab l).extract 0 (Int.toNat ((8:Nat):Int))=Ab (l.take 8):=U6 hB 8
  have y8:(Ab l).extract (Int.toNat ((8:Nat):Int)) l.length=Ab (l.drop 8):=Wf hB 8
  have q7:=EQ (tk 7) hB7
  have q8:=EQ (tk 8) hB8
  by_cases h8:l.length>=8
  · have a1:=dT (q:=((l.length:Nat):Int)>=8) (by omega)
    have a2:=dT (q:=8<=l.length) h8
    have hp:=Afe (w:=[104,116,116,112,115,58,47,47]) (l:=l) (by simp;omega)
    rw[show ([104,116,116,112,115,58,47,47]:Aj).length=8 from rfl] at hp
    rw[hp] at q8
    have a3:=dT (q:=Int.toNat ((7:Nat):Int)<=l.length) (by omega)
    have a4:=dT (q:=Int.toNat ((8:Nat):Int)<=l.length) (by omega)
    cases h1:List.isPrefixOf [104,116,116,112,115,58,47,47] l
    · rw[h1] at q8
      simp only[Bool.false_eq_true,if_false]
      obtain⟨o1,o2,o3,Vm⟩:=plain h1
      refine⟨o1,o2,o3,er.trans ?_⟩
      rw[e8]
      simp only[A5,A6,Ag,dle,a1,a2,x8,q8,sF]
      simp only[A5,A6,l7,n7,a3,x7,q7,y7] at Vm ⊢
      exact Vm
    · rw[h1] at q8
      simp only[if_true]
      have a5:=dF (q:=((l.length:Nat):Int)<((8:Nat):Int)) (by omega)
      obtain⟨o1,o2,o3,h⟩:=loop 8 true h8
      refine⟨o1,o2,o3,er.trans ?_⟩
      rw[e8]
      simp only[A5,A6,Ag,dle,a1,a2,x8,q8,sT]
      simp only[A5,A6,l8,n8,a5,a4,x8',q8,y8,G9]
      exact h
  · have a1:=dF (q:=((l.length:Nat):Int)>=8) (by omega)
    have h1:List.isPrefixOf [104,116,116,112,115,58,47,47] l=false:=by
      rw[Bool.eq_false_iff,ne_eq,List.isPrefixOf_iff_prefix]
      intro h
      have:=h.length_le
      simp at this
      omega
    rw[h1]
    simp only[Bool.false_eq_true,if_false]
    obtain⟨o1,o2,o3,Vm⟩:=plain h1
    refine⟨o1,o2,o3,er.trans ?_⟩
    simp only[A5,A6,Ag,dle,a1,sF]
    by_cases h7:l.length<7
    · have a2:=dT (q:=((l.length:Nat):Int)<((7:Nat):Int)) (by omega)
      rw[a2] at Vm
      simp only[A5,A6,l7,n7,a2] at Vm ⊢
      exact Vm
    · have a2:=dF (q:=((l.length:Nat):Int)<((7:Nat):Int)) (by omega)
      have a3:=dT (q:=Int.toNat ((7:Nat):Int)<=l.length) (by omega)
      rw[a2] at Vm
      simp only[A5,A6,l7,n7,a2,a3,x7,q7,y7] at Vm ⊢
      exact Vm
end
def NC:Aj:=[123,34,116,121,112,101,34,58,34]
def ON:Aj:=[34,44,34,99,104,97,108,108,101,110,103,101,34,58,34]
def ZB:Aj:=[34,44,34,111,114,105,103,105,110,34,58,34]
def fA4:Aj:=[34,44,34,99,114,111,115,115,79,114,105,103,105,110,34,58,102,97,108,115,101,125]
def fA5:Aj:=[34,44,34,99,114,111,115,115,79,114,105,103,105,110,34,58,116,114,117,101,44,34,116,111,112,79,114,105,103,105,110,34,58,34]
def fA6:Aj:=[34,125]
def fA7:Aj:=[34,44,34,99,114,111,115,115,79,114,105,103,105,110,34,58]
def fA8:Aj:=[102,97,108,115,101,125]
def fA9:Aj:=[116,114,117,101,44,34,116,111,112,79,114,105,103,105,110,34,58,34]
theorem Aa8:(ByteArray.mk #[123,34,116,121,112,101,34,58,34])=Ab NC:=rfl
theorem ZM:(ByteArray.mk #[34,44,34,99,104,97,108,108,101,110,103,101,34,58,34])=Ab ON:=rfl
theorem Aa2:(ByteArray.mk #[34,44,34,111,114,105,103,105,110,34,58,34])=Ab ZB:=rfl
theorem Apk:(ByteArray.mk #[34,125])=Ab fA6:=rfl
theorem Abe:(ByteArray.mk #[34,44,34,99,114,111,115,115,79,114,105,103,105,110,34,58])=Ab fA7:=rfl
theorem Apa:(ByteArray.mk #[102,97,108,115,101,125])=Ab fA8:=rfl
theorem Atn:(ByteArray.mk #[116,114,117,101,44,34,116,111,112,79,114,105,103,105,110,34,58,34])=Ab fA9:=rfl
theorem KX:(ByteArray.mk #[])=Ab []:=rfl
theorem Axz:fA4=fA7++fA8:=rfl
theorem Awk:fA5=fA7++fA9:=rfl
theorem A7r:Cm []:=fun x hx=>by cases hx
def tyS(k:Int):Option Aj:=if k=1 then some tyC else if k=2 then some tyG else none
def fmH(ty ch o:Aj):Aj:=NC++ty++ON++I9 ch++ZB++o
def Yk(k:Int)(ch o t:Aj)(x:Bool):JR Aj:=
 match tyS k with
 |none=>.error 3
 |some ty=>if ch.length<1\/64<ch.length then .error 9 else if Gk o≠0 then .error (Gk o)
  else if x=false then (if t=[] then .ok (fmH ty ch o++fA4) else .error 4)
  else if Gk t≠0 then .error (Gk t) else .ok (fmH ty ch o++fA5++t++fA6)
def Ars(r:JR Aj):A4:=match r with | .ok s=>⟨[Bk (Ab s),Aw 0],[]⟩ | .error e=>⟨[Bk (Ab []),Aw e],[]⟩
section
variable {fu d:Nat}{p:FuncId->Option (Ae->Option A4)}
abbrev cdA(k:Int)(ch o t:Aj)(x:Bool):PV:=.agg [Aw k,.lst false 1 ch.length (Ad .u8 ch),Bk (Ab o),Cz x,Bk (Ab t)]
theorem nn0(e:Int)(h:e≠0):(e != 0)=true:=by simp[h]
theorem Awx(k:Int):Ac (CP p) prog fu (d+1) 46 [Aw k]=some ⟨[Bk (Ab ((tyS k).getD []))],[]⟩:=by
 rw[Xp];unfold tyS;by_cases h1:k=1
 ·subst h1;have k1:((1:Int)==1)=true:=rfl;rw[Cx rfl];simp only[A5,A6,k1];rfl
 have k1:(k==1)=false:=by simp[h1]
 by_cases h2:k=2
 ·subst h2;have k2:((2:Int)==2)=true:=rfl;rw[Br h1,Cx rfl];simp only[A5,A6,k1,k2];rfl
 have k2:(k==2)=false:=by simp[h2]
 rw[Br h1,Br h2];simp only[A5,A6,k1,k2];rfl
theorem Ate{k:Int}{ty:Aj}(h:tyS k=some ty):Cm ty/\ty≠[]/\ty.length<=14:=by
 unfold tyS at h;split at h
 ·cases h;exact⟨fun x hx=>by simp[tyC] at hx;omega,by decide,by decide⟩
 split at h
 ·cases h;exact⟨fun x hx=>by simp[tyG] at hx;omega,by decide,by decide⟩
 ·cases h
set_option maxHeartbeats 4000000 in
theorem VI{k:Int}{ch o t:Aj}{x:Bool}(hch:Cm ch)(ho:Cm o)(ht:Cm t)(Se:ch.length<=100000)(hol:o.length<=1000000)(htl:t.length<=1000000)(Bi:2000<=fu)(hfc:ch.length+1<=fu)(hfo:o.length+1<=fu)(hft:t.length+1<=fu):
  Ac (CP p) prog fu (d+6) 20 [cdA k ch o t x]=some (Ars (Yk k ch o t x)):=by
 have er:=Sl (p:=p) fu (d+5) k ch.length (Ad .u8 ch) (Ab o) x (Ab t);refine er.trans ?_;obtain⟨o1,o2,o3,eo⟩:=Apj (fu:=fu) (d:=d) (p:=p) ho hol (by omega) hfo;obtain⟨t1,t2,t3,et⟩:=Apj (fu:=fu) (d:=d) (p:=p) ht htl (by omega) hft;have eo:Ac (CP p) prog fu (d+5) 47 [Bk (Ab o)]=_:=eo;have et:Ac (CP p) prog fu (d+5) 47 [Bk (Ab t)]=_:=et;have ee:Ac (CP p) prog fu (d+5) 48 [.lst false 1 ch.length (Ad .u8 ch)]=_:=Ay8 (fu:=fu) (d:=d+4) (p:=p) hch Se (by omega) hfc;have ek:Ac (CP p) prog fu (d+5) 46 [Aw k]=_:=Awx (fu:=fu) (d:=d+4) (p:=p) k;have hel:=FB ch;have z0:((0:Int) != 0)=false:=rfl;have tq:(Array.toList (Ab t).data==[])=decide (t=[]):=EQ (b:=[]) ht A7r;unfold Yk;cases hty:tyS k with
 |none=>
  rw[hty] at ek;have q:((([]:List UInt8)==[])=true):=rfl;simp only[A5,A6,ek,Option.getD_none,KX,q];rfl
 |some ty=>
  rw[hty] at ek;obtain⟨htB,htn,Bh3⟩:=Ate hty;have q:(Array.toList (Ab ty).data==[])=false:=(EQ (b:=[]) htB A7r).trans (dF htn);have c1:decide (9+ty.length<=9223372036854775807)=true:=dT (by omega);have c2:decide ((NC++ty).length+15<=9223372036854775807)=true:=dT (by simp[NC];omega)
  have c3:decide ((NC++ty++ON).length+(I9 ch).length<=9223372036854775807)=true:=dT (by simp[NC,ON];omega)
  have c4:decide ((NC++ty++ON++I9 ch).length+12<=9223372036854775807)=true:=dT (by simp[NC,ON];omega)
  have c5:decide ((NC++ty++ON++I9 ch++ZB).length+o.length<=9223372036854775807)=true:=dT (by simp[NC,ON,ZB];omega)
  have c6:decide ((NC++ty++ON++I9 ch++ZB++o).length+16<=9223372036854775807)=true:=dT (by simp[NC,ON,ZB];omega)
  have c7:decide ((NC++ty++ON++I9 ch++ZB++o++fA7).length+6<=9223372036854775807)=true:=dT (by simp[NC,ON,ZB,fA7];omega)
  have c8:decide ((NC++ty++ON++I9 ch++ZB++o++fA7).length+18<=9223372036854775807)=true:=dT (by simp[NC,ON,ZB,fA7];omega)
  have c9:decide ((NC++ty++ON++I9 ch++ZB++o++fA7++fA9).length+t.length<=9223372036854775807)=true:=dT (by simp[NC,ON,ZB,fA7,fA9];omega)
  have d1:decide ((NC++ty++ON++I9 ch++ZB++o++fA7++fA9++t).length+2<=9223372036854775807)=true:=dT (by simp[NC,ON,ZB,fA7,fA9];omega)
  simp only;by_cases h1:ch.length<1
  ·have a1:=dT (q:=((ch.length:Nat):Int)<1) (by omega);rw[Cx (.inl h1)];simp only[A5,A6,ek,Option.getD_some,KX,q,a1];rfl
  have a1:=dF (q:=((ch.length:Nat):Int)<1) (by omega);by_cases h2:64<ch.length
  ·have a2:=dT (q:=((ch.length:Nat):Int)>64) (by omega);rw[Cx (.inr h2)];simp only[A5,A6,ek,Option.getD_some,KX,q,a1,a2];rfl
  have a2:=dF (q:=((ch.length:Nat):Int)>64) (by omega);rw[Br (by omega)];by_cases hoE:Gk o=0
  rotate_left
  ·have a3:=nn0 _ hoE;rw[Cx hoE];simp only[A5,A6,ek,Option.getD_some,KX,q,a1,a2,eo,a3];rfl
  rw[Br (by simp[hoE])];rw[hoE] at eo;cases x with
  |false=>
   rw[Cx rfl];by_cases hte:t=[]
   ·rw[dT hte] at tq;rw[Cx hte];simp only[A5,A6,ek,Option.getD_some,KX,q,a1,a2,eo,z0,tq,G9,Kd,ee,Ag,Aa8,ZM,Aa2,Abe,Apa,O6,c1,c2,c3,c4,c5,c6,c7];show some (A4.mk _ [])=_;unfold Ars fmH;rw[Axz];simp only[Zzv]
   ·rw[dF hte] at tq;rw[Br hte];simp only[A5,A6,ek,Option.getD_some,KX,q,a1,a2,eo,z0,tq,G9,Kd,ee,Ag,Aa8,ZM,Aa2,Abe,Apa,O6,c1,c2,c3,c4,c5,c6,c7];rfl
  |true=>
   rw[Br (by decide)];by_cases htE:Gk t=0
   ·rw[htE] at et;rw[Br (by simp[htE])];simp only[A5,A6,ek,Option.getD_some,KX,q,a1,a2,eo,et,z0,G9,Kd,ee,Ag,Aa8,ZM,Aa2,Apk,Abe,Atn,O6,c1,c2,c3,c4,c5,c6,c8,c9,d1];show some (A4.mk _ [])=_;unfold Ars fmH;rw[Awk];simp only[Zzv]
   ·have a4:=nn0 _ htE;rw[Cx htE];simp only[A5,A6,ek,Option.getD_some,KX,q,a1,a2,eo,et,z0,a4,G9,Kd,ee,Ag,Aa8,ZM,Aa2,Apk,Abe,Atn,O6,c1,c2,c3,c4,c5,c6,c8,c9,d1];rfl
end
def SY(c:Int):Bool:=decide (33<=c)&&decide (c<=126)&&c != 34&&c != 92
theorem HN{c:Int}:SY c=true↔33<=c/\c<=126/\c≠34/\c≠92:=by unfold SY;simp;omega
theorem IQ(c:Int):∀{l:Aj}{x:Int},x∈l->x=c\/∃q∈Az c l,x∈q
 |a::r,x,hx=>by
  unfold Az;by_cases ha:a=c
  ·rw[Cx ha];rcases List.mem_cons.1 hx with rfl|hx
   ·exact .inl ha
   ·rcases IQ c hx with h|⟨q,hq,h⟩
    ·exact .inl h
    ·exact .inr ⟨q,by simp[hq],h⟩
  ·rw[Br ha];cases hs:Az c r with
   |nil=>exact absurd hs (Q1 c r)
   |cons b t=>
    rcases List.mem_cons.1 hx with rfl|hx
    ·exact .inr ⟨x::b,by simp,by simp⟩
    ·rcases IQ c hx with h|⟨q,hq,h⟩
     ·exact .inl h
     ·rw[hs] at hq;rcases List.mem_cons.1 hq with rfl|hq
      ·exact .inr ⟨a::q,by simp,by simp[h]⟩
      ·exact .inr ⟨q,by simp[hq],h⟩
theorem Ag1{l:Aj}(h:S2 l=0):l.all SY=true:=by
 unfold S2 at h;split at h
 ·cases h
 split at h
 ·cases h
 rename_i _ h2
 have h2:(Az 46 l).all K9=true:=by
  cases hq:(Az 46 l).all K9
  ·exact absurd hq h2
  ·rfl
 rw[List.all_eq_true];intro x hx;rcases IQ 46 hx with rfl|⟨q,hq,hxq⟩
 ·rfl
 ·have hl:=List.all_eq_true.1 h2 q hq;unfold K9 at hl;rw[E0] at hl;have hb:=List.all_eq_true.1 hl.2 x hxq;unfold ltB BN at hb;rw[HN];simp at hb;omega
theorem OC{s:Bool}{r:Aj}(h:Y0 s r=0):r.all SY=true:=by
 unfold Y0 at h;simp only at h;by_cases hh:S2 (Bp 58 r)=0
 ·rw[Br (by simp[hh])] at h;have hc:=Ag1 hh;by_cases hl:(Bp 58 r).length=r.length
  ·rwa [Aks 58 r (by omega)] at hc
  ·rw[Br hl] at h;split at h
   ·rename_i hp
    have hd:(r.drop ((Bp 58 r).length+1)).all BN=true:=by
     have:=hp.1;unfold Jw at this;rw[E0] at this;exact this.2
    have Cq:(Bp 58 r).length<r.length:=by have:=NQ 58 r;omega
    have A6e:r[(Bp 58 r).length]?=some 58:=by
     obtain⟨c,hcc⟩:∃c,r[(Bp 58 r).length]?=some c:=⟨_,List.getElem?_eq_getElem Cq⟩
     have e:r.drop (Bp 58 r).length=r.dropWhile (fun x=>x != 58):=by
      have h1:r.takeWhile (fun x=>x != 58)++r.dropWhile (fun x=>x != 58)=r:=List.takeWhile_append_dropWhile;have h2:=congrArg (List.drop (Bp 58 r).length) h1;have h3:(List.takeWhile (fun x=>x != 58) r++List.dropWhile (fun x=>x != 58) r).drop (Bp 58 r).length=List.dropWhile (fun x=>x != 58) r:=List.drop_left;rw[<-h2];exact h3
     have e2:(r.dropWhile (fun x=>x != 58))[0]?=some c:=by rw[<-e,List.getElem?_drop];simpa using hcc
     cases hdw:r.dropWhile (fun x=>x != 58) with
     |nil=>rw[hdw] at e2;cases e2
     |cons y t=>
      rw[hdw] at e2;have:y=c:=by simpa using e2
      subst this;have hn:=List.head?_dropWhile_not (fun x:Int=>x != 58) r;rw[hdw] at hn;simp at hn;rw[hcc,hn]
    have e:r=Bp 58 r++58::r.drop ((Bp 58 r).length+1):=by
     have h1:=(List.take_append_drop (Bp 58 r).length r).symm;rw[<-Sc] at h1;rw[List.getElem?_eq_getElem Cq] at A6e;rw[List.drop_eq_getElem_cons Cq] at h1;have:r[(Bp 58 r).length]=58:=by simpa using A6e
     rw[this] at h1;exact h1
    rw[e,List.all_append,hc,List.all_cons]
    have:(r.drop ((Bp 58 r).length+1)).all SY=true:=by
     rw[List.all_eq_true] at hd ⊢;intro x hx;have:=(FU x).1 (hd x hx);rw[HN];omega
    rw[this];rfl
   ·cases h
 ·rw[Cx hh] at h;exact absurd h hh
theorem VO{l:Aj}(h:Gk l=0):l.all SY=true:=by
 unfold Gk at h
 have key:∀w:Aj,w.all SY=true->w.isPrefixOf l=true->(l.drop w.length).all SY=true->l.all SY=true:=by
  intro w hw hp hd;have e:=List.prefix_iff_eq_append.1 (List.isPrefixOf_iff_prefix.1 hp);rw[<-e,List.all_append,hw,hd];rfl
 split at h
 ·rename_i hp;exact key _ (by decide) hp (OC h)
 split at h
 ·rename_i hp;exact key _ (by decide) hp (OC h)
 ·cases h
theorem Jo{v:Int}(h0:0<=v)(h1:v<64):SY (N4 v)=true:=by
 rw[HN];unfold N4;split
 ·omega
 split
 ·omega
 split
 ·omega
 split<;>omega
theorem IU:∀{l:Aj},Cm l->(I9 l).all SY=true
 |[],_=>rfl
 |[a],h=>by
  obtain⟨ha,_⟩:=Ds h;unfold I9;rw[List.all_cons,List.all_cons,Jo (by omega) (by omega),Jo (by omega) (by omega)];rfl
 |[a,b],h=>by
  obtain⟨ha,h⟩:=Ds h;obtain⟨hb,_⟩:=Ds h;unfold I9;rw[List.all_cons,List.all_cons,List.all_cons,Jo (by omega) (by omega),Jo (by omega) (by omega),Jo (by omega) (by omega)];rfl
 |a::b::c::r,h=>by
  obtain⟨ha,h⟩:=Ds h;obtain⟨hb,h⟩:=Ds h;obtain⟨hc,h⟩:=Ds h;have e:I9 (a::b::c::r)=N4 (a / 4)::N4 (a % 4*16+b / 16)::N4 (b % 16*4+c / 64)::N4 (c % 64)::I9 r:=rfl;rw[e,List.all_cons,List.all_cons,List.all_cons,List.all_cons,Jo (by omega) (by omega),Jo (by omega) (by omega),Jo (by omega) (by omega),Jo (by omega) (by omega),IU h];rfl
theorem SD:∀(s:Aj)(n:Nat)(out r:Aj),s.all SY=true->s.length<n->L7 n out (s++34::r)=(some (out++s),r)
  |[],n,out,r,_,hn=>by
    obtain⟨m,rfl⟩:∃m,n=m+1:=⟨n-1,by simp at hn;omega⟩
    show (if (34:Int)<32 then _ else if (34:Int)=34 then (some out,r) else _)=_
    rw[Br (by decide),Cx rfl,List.append_nil]
  |c::s,n,out,r,h,hn=>by
    obtain⟨m,rfl⟩:∃m,n=m+1:=⟨n-1,by simp at hn;omega⟩
    rw[List.all_cons,E0] at h
    have hc:=HN.1 h.1
    have e:L7 (m+1) out (c::(s++34::r))=if c<32 then (none,c::(s++34::r)) else if c=34 then (some out,s++34::r) else if c=92 then
        (match Sx (s++34::r) with
         |(some x,r')=>L7 m (out++Lib.encodeRuneZ x) r'
         |(none,r')=>(none,r')) else L7 m (out++[c]) (s++34::r):=rfl
    rw[Zzp,e,Br (by omega),Br (by omega),Br (by omega),SD s m (out++[c]) r h.2 (by simp at hn;omega)]
    simp
theorem KT{s r:Aj}(h:s.all SY=true):Gb (34::(s++34::r))=(some s,r):=by
 have e:Gb (34::(s++34::r))=if (34:Int)=34 then L7 ((s++34::r).length+1) [] (s++34::r) else (none,34::(s++34::r)):=rfl
 rw[e,Cx rfl,SD s _ [] r h (by simp;omega)]
 rfl
def VOk(vt:Aj)(v:JV):Prop:=(∀r,G1 8 (vt++r)=.ok (v,r))/\∃y z,vt=y::z/\EA y=false
theorem NR{s:Aj}(h:s.all SY=true):VOk (34::(s++[34])) (4,s,false):=by
 refine⟨fun r=>?_,34,_,rfl,rfl⟩;have e:(34::(s++[34]))++r=34::(s++34::r):=by simp
 rw[e];have e2:G1 8 (34::(s++34::r))=(match GF (34::(s++34::r)) with|none=>.error 2|some (s,r')=>.ok ((4,s,false),r')):=rfl;have e3:GF (34::(s++34::r))=some (s,r):=by unfold GF;rw[KT h]
 rw[e2,e3]
theorem Ani:VOk [102,97,108,115,101] (2,[],false):=⟨fun r=>rfl,102,_,rfl,rfl⟩
theorem Atr:VOk [116,114,117,101] (2,[],true):=⟨fun r=>rfl,116,_,rfl,rfl⟩
theorem IG{y:Int}{r:Aj}(h:EA y=false):Bh (y::r)=y::r:=by show (if EA y=true then Bh r else y::r)=_;rw[Br (by rw[h];decide)]
def So(nm vt:Aj):Aj:=34::(nm++34::58::vt)
theorem AA{n:Nat}{ms:List (Aj × JV)}{nm vt:Aj}{v:JV}{c:Int}{rest:Aj}(hn:nm.all SY=true)(hv:VOk vt v)(hd:(ms.any fun m=>m.1==nm)=false)(hc:c=44\/c=125):
  X8 (G1 8) true (n+1) ms (So nm vt++c::rest)=if c=125 then .ok (ms++[(nm,v)],rest) else X8 (G1 8) true n (ms++[(nm,v)]) (Bh rest):=by
 obtain⟨hv,y,z,rfl,hy⟩:=hv;have e:So nm (y::z)++c::rest=34::(nm++34::(58::(y::z++c::rest))):=by unfold So;simp
 have hws:EA c=false:=by rcases hc with rfl|rfl<;>rfl
 rw[e,HI,KT hn];simp only;rw[YD,hd,Br (by decide),IG (show EA 58=false from rfl)];have e58:A8 [58] (58::(y::z++c::rest))=some (y::z++c::rest):=by rw[Ft];rfl
 rw[e58];simp only;rw[Zzp,IG hy,<-Zzp,hv];simp only;rw[IG hws];rcases hc with rfl|rfl
 ·have e1:A8 [125] (44::rest)=none:=by rw[Ft];rfl
  have e2:A8 [44] (44::rest)=some rest:=by rw[Ft];rfl
  rw[e1,e2,Br (by decide)]
 ·have e1:A8 [125] (125::rest)=some rest:=by rw[Ft];rfl
  rw[e1,Cx rfl]
def A4p(ty ch o t:Aj)(x:Bool):List (Aj × JV):=
 [(Ue,(4,ty,false)),(AB,(4,I9 ch,false)),(nmO,(4,o,false)),(nmX,(2,[],x))]++(if x=true then [(nmP,(4,t,false))] else [])
def wsL(w:Aj):Prop:=w.all EA=true
theorem Ah1:∀{w:Aj}(r:Aj),wsL w->Bh (w++r)=Bh r
 |[],_,_=>rfl
 |c::w,r,h=>by
  unfold wsL at h;rw[List.all_cons,E0] at h;show (if EA c=true then Bh (w++r) else _)=_;rw[Cx h.1];exact Ah1 r h.2
def Iq(ty ch o t:Aj)(x:Bool):Aj:=
 So Ue (34::(ty++[34]))++44::(So AB (34::(I9 ch++[34]))++44::(So nmO (34::(o++[34]))++44::(So nmX (if x=true then [116,114,117,101] else [102,97,108,115,101])++(if x=true then 44::(So nmP (34::(t++[34]))++[125]) else [125]))))
theorem Ab6{ty ch o t:Aj}{x:Bool}{w:Aj}(hw:wsL w)(hty:ty.all SY=true)(hch:Cm ch)(ho:o.all SY=true)(ht:t.all SY=true):
  Ac4 8 (w++(123::Iq ty ch o t x)++w)=.ok (A4p ty ch o t x):=by
 have hww:Bh w=[]:=by
  have:=Ah1 (w:=w) [] hw
  rwa [List.append_nil] at this
 have e0:w++(123::Iq ty ch o t x)++w=w++(123::(Iq ty ch o t x++w)):=by simp
 rw[JB,e0,Ah1 _ hw,IG (show EA 123=false from rfl)];have e1:A8 [123] (123::(Iq ty ch o t x++w))=some (Iq ty ch o t x++w):=by rw[Ft];rfl
 rw[e1];simp only;have eb:Iq ty ch o t x++w=34::((Iq ty ch o t x++w).tail):=by unfold Iq So;rfl
 have esk:Bh (Iq ty ch o t x++w)=Iq ty ch o t x++w:=by rw[eb];exact IG rfl
 have e125:A8 [125] (Iq ty ch o t x++w)=none:=by rw[eb,Ft];rfl
 rw[AK,esk,e125];simp only
 obtain⟨N,hN⟩:∃N,(Iq ty ch o t x++w).length+1=N+5:=⟨(Iq ty ch o t x++w).length-4,by
  have:4<=(Iq ty ch o t x++w).length:=by unfold Iq So;simp;omega
  omega⟩
 rw[hN];have skm:∀nm vt r,Bh (So nm vt++r)=So nm vt++r:=fun nm vt r=>IG rfl
 have b1:Iq ty ch o t x++w=So Ue (34::(ty++[34]))++44::(So AB (34::(I9 ch++[34]))++44::(So nmO (34::(o++[34]))++44::(So nmX (if x=true then [116,114,117,101] else [102,97,108,115,101])++((if x=true then 44::(So nmP (34::(t++[34]))++[125]) else [125])++w)))):=by
  unfold Iq;simp only[Zzv,Zzp]
 rw[b1,AA (by decide) (NR hty) rfl (.inl rfl),Br (by decide),skm,
  AA (by decide) (NR (IU hch)) rfl (.inl rfl),Br (by decide),skm,
  AA (by decide) (NR ho) rfl (.inl rfl),Br (by decide),skm]
 cases x with
 |false=>
  rw[Br (by decide),Br (by decide),Zzp,NL,AA (by decide) Ani rfl (.inr rfl),Cx rfl];simp only[NL];rw[Cx hww];rfl
 |true=>
  have es:So nmP (34::(t++[34]))++[125]++w=So nmP (34::(t++[34]))++125::w:=by simp
  rw[Cx rfl,Cx rfl,Zzp,es,AA (by decide) Atr rfl (.inl rfl),Br (by decide),skm,
   AA (by decide) (NR ht) rfl (.inr rfl),Cx rfl]
  simp only[NL];rw[Cx hww];rfl
theorem ZO{ty ch o t:Aj}{x:Bool}{k:Int}(hk:tyS k=some ty)(hch:Cm ch)(h1:1<=ch.length)(h2:ch.length<=64)(ho:Gk o=0)(ht:x=true->Gk t=0)(hn:x=false->t=[]):
  VF (A4p ty ch o t x)=.ok (k,ch,o,x,t):=by
 have fin:∀T:JV,OI k (4,I9 ch,false) (4,o,false) (2,[],x) (if x=true then (4,t,false) else (0,[],false))=.ok (k,ch,o,x,t):=by
  intro _;unfold OI;simp only;rw[Aiv hch];simp only;rw[Br (by omega),Br (by simp[ho])];cases x with
  |false=>rw[hn rfl];simp
  |true=>simp[ht rfl]
 have hg:VF (A4p ty ch o t x)=Qn (4,ty,false) (4,I9 ch,false) (4,o,false) (2,[],x) (if x=true then (4,t,false) else (0,[],false)):=by
  cases x<;>rfl
 rw[hg];unfold Qn;rw[Br (by simp),Br (by simp),Br (by cases x<;>simp)]
 unfold tyS at hk;split at hk
 ·rename_i h;cases hk;subst h
  simp only;rw[Cx trivial];exact fin (0,[],false)
 split at hk
 ·rename_i h;cases hk;subst h
  simp only;rw[Br (by decide),Cx trivial];exact fin (0,[],false)
 ·cases hk
theorem Asp{k:Int}{ch o t s:Aj}{x:Bool}(h:Yk k ch o t x=.ok s):∃ty,tyS k=some ty/\s=123::Iq ty ch o t x/\1<=ch.length/\ch.length<=64/\Gk o=0/\(x=true->Gk t=0)/\(x=false->t=[]):=by
 unfold Yk at h;cases hk:tyS k with
 |none=>rw[hk] at h;cases h
 |some ty=>
  rw[hk] at h;simp only at h;split at h
  ·cases h
  rename_i hl;split at h
  ·cases h
  rename_i ho
  have ho:Gk o=0:=by
   by_cases q:Gk o=0
   ·exact q
   ·exact absurd q ho
  cases x with
  |false=>
   rw[Cx rfl] at h;split at h
   ·rename_i ht;cases h;refine⟨ty,rfl,?_,by omega,by omega,ho,(fun h=>by cases h),fun _=>ht⟩;unfold fmH Iq So NC ON ZB fA4 Ue AB nmO nmX;simp
   ·cases h
  |true=>
   rw[Br (by decide)] at h;split at h
   ·cases h
   ·rename_i ht;cases h
    have ht:Gk t=0:=by
     by_cases q:Gk t=0
     ·exact q
     ·exact absurd q ht
    refine⟨ty,rfl,?_,by omega,by omega,ho,fun _=>ht,(fun h=>by cases h)⟩;unfold fmH Iq So NC ON ZB fA5 fA6 Ue AB nmO nmX nmP;simp
theorem Aed{l:Aj}(h:∀x∈l,0<=x/\x<128):Lib.validD (Ab l).data.toList=true:=by
 have e:(Ab l).data.toList=l.map fun n=>n.toNat.toUInt8:=rfl
 rw[e,Lib.validD_ascii (l.map fun n=>n.toNat.toUInt8).length _ (fun b hb=>by
  have hb:=List.mem_of_mem_take hb;obtain⟨n,hn,rfl⟩:=List.mem_map.1 hb;have:=h n hn;have e2:n.toNat.toUInt8.toNat=n.toNat % 256:=by rw[Nat.toUInt8,UInt8.toNat_ofNat']
  omega),List.drop_length]
 rfl
def KG(l:Aj):Prop:=∀y∈l,0<=y/\y<128
theorem Vu{p q:Aj}(hp:KG p)(hq:KG q):KG (p++q):=fun y hy=>(Bx.1 hy).elim (hp y) (hq y)
theorem My{a:Int}{p:Aj}(ha:0<=a/\a<128)(hp:KG p):KG (a::p):=fun y hy=>by
 rcases List.mem_cons.1 hy with rfl|hy
 ·exact ha
 ·exact hp y hy
theorem Axw{k:Int}{ch o t s w:Aj}{x:Bool}(hch:Cm ch)(h:Yk k ch o t x=.ok s)(hw:wsL w)(hl:(w++s++w).length<=1024):Mg (Ab (w++s++w))=.ok (k,ch,o,x,t):=by
 obtain⟨ty,hk,rfl,h1,h2,ho,ht,hn⟩:=Asp h;have oc:=VO ho
 have tc:t.all SY=true:=by
  cases x with
  |true=>exact VO (ht rfl)
  |false=>rw[hn rfl];rfl
 have yc:ty.all SY=true:=by
  unfold tyS at hk;split at hk
  ·cases hk;decide
  split at hk
  ·cases hk;decide
  ·cases hk
 have ec:=IU hch
 have cl128:∀{q:Aj},q.all SY=true->∀y∈q,0<=y/\y<128:=fun hq y hy=>by
  have:=HN.1 (List.all_eq_true.1 hq y hy);omega
 have wc:∀y∈w,0<=y/\y<128:=fun y hy=>by
  have:=List.all_eq_true.1 hw y hy;unfold EA at this;simp at this;omega
 have bc:KG (Iq ty ch o t x):=by
  have v:∀{q:Aj},q.all SY=true->KG (34::(q++[34])):=fun hq=>My (by decide) (Vu (cl128 hq) (My (by decide) (fun _ h=>nomatch h)));have mt:∀{nm vt:Aj},KG nm->KG vt->KG (So nm vt):=fun h1 h2=>My (by decide) (Vu h1 (My (by decide) (My (by decide) h2)));have nT:KG Ue:=by unfold KG Ue;decide
  have nC:KG AB:=by unfold KG AB;decide
  have nO:KG nmO:=by unfold KG nmO;decide
  have nX:KG nmX:=by unfold KG nmX;decide
  have nP:KG nmP:=by unfold KG nmP;decide
  have wd:KG [116,114,117,101]:=by unfold KG;decide
  have wf:KG [102,97,108,115,101]:=by unfold KG;decide
  have w1:KG [125]:=by unfold KG;decide
  unfold Iq;refine Vu (mt nT (v yc)) (My (by decide) (Vu (mt nC (v ec)) (My (by decide) (Vu (mt nO (v oc)) (My (by decide) (Vu (mt nX ?_) ?_))))))
  ·cases x with
   |true=>exact wd
   |false=>exact wf
  ·cases x with
   |true=>exact My (by decide) (Vu (mt nP (v tc)) w1)
   |false=>exact w1
 have all128:∀y∈w++(123::Iq ty ch o t x)++w,0<=y/\y<128:=by
  intro y hy;rcases Bx.1 hy with hy|hy
  ·rcases Bx.1 hy with hy|hy
   ·exact wc y hy
   ·rcases List.mem_cons.1 hy with rfl|hy
    ·omega
    ·exact bc y hy
  ·exact wc y hy
 have hB:Cm (w++(123::Iq ty ch o t x)++w):=fun y hy=>by have:=all128 y hy;omega
 unfold Mg;rw[Ag,Br (by omega),Aed all128,Br (by decide),Dd hB,Ab6 hw yc hch oc tc];exact ZO hk hch h1 h2 ho ht hn
abbrev RS:=JR Aj
def JS(t:ByteArray)(i e:Int):RS->Prop
 |.ok r=>e=0/\D7 t r/\i=(B9 t r:Int)
 |.error c=>e=c/\c≠0/\0<=i/\i<=(t.size:Int)+1
def jhd:RS->Int
 |.ok r=>YX r
 |.error _=>0
def jfl(c:Int):RS->RS
 |.ok _=>.error c
 |s=>s
theorem JS.rng{t:ByteArray}{i e:Int}{s:RS}(h:JS t i e s):0<=i/\i<=(t.size:Int)+1:=by
 cases s with
 |ok r=>
  obtain⟨_,_,rfl⟩:=h;unfold B9;omega
 |error c=>exact⟨h.2.2.1,h.2.2.2⟩
theorem JS.hd{t:ByteArray}{i e:Int}{s:RS}(h:JS t i e s):0<=jhd s/\jhd s<=255:=by
 cases s with
 |ok r=>
  cases r with
  |nil=>exact⟨Int.le_refl _,by decide⟩
  |cons c r=>exact h.2.1.B c (by simp)
 |error c=>exact⟨Int.le_refl _,by show (0:Int)<=255;decide⟩
theorem JS.fail{t:ByteArray}{i e:Int}{s:RS}(h:JS t i e s){c:Int}(hc:c≠0):JS t i (if e=0 then c else e) (jfl c s):=by
 have hr:=h.rng;cases s with
 |ok r=>
  obtain⟨rfl,h2,h3⟩:=h;rw[Cx rfl];exact⟨rfl,hc,hr.1,hr.2⟩
 |error c2=>
  obtain⟨rfl,h2,h3,h4⟩:=h;rw[Br h2];exact⟨rfl,h2,h3,h4⟩
section
variable {fu d:Nat}{p:FuncId->Option (Ae->Option A4)}
def Bd1:RS->Nat
 |.ok r=>r.length
 |.error _=>0
theorem JS.len{t:ByteArray}{i e:Int}{s:RS}(h:JS t i e s):Bd1 s<=t.size:=by
 cases s with
 |ok r=>exact h.2.1.len
 |error c=>exact Nat.zero_le _
end
def ro:Option Aj->RS
 |some r=>.ok r
 |none=>.error 2
section
variable {fu d:Nat}{p:FuncId->Option (Ae->Option A4)}
end
structure Sd where
 id:Aj
 ht:Int
 root:Int
 model:Int
 fmt:Int
 sh:Bool
 used:Int
 rg:List (Int × Int)
 sus:Bool
 since:Int
 last:Int
def rgC(l:List (Int × Int)):Ae:=l.flatMap fun p=>[Aw p.1,Aw p.2]
theorem XV(l:List (Int × Int)):(rgC l).length=l.length*2:=by
 induction l with
 |nil=>rfl
 |cons p r ih=>show ([_,_]++rgC r).length=_;rw[Vo,ih,Po];simp;omega
def Sd.cells(x:Sd):Ae:=[.lst false 1 x.id.length (Ad .u8 x.id),Aw x.ht,Ah x.root,Ah x.model,Aw x.fmt,Cz (x.sh),Ah x.used,.lst false 2 x.rg.length (rgC x.rg),Cz (x.sus),Aw x.since,Aw x.last]
def put(f lf:Int):List (Int × Int)->Option (List (Int × Int))
 |[]=>some [(f,lf)]
 |p::r=>if p.1<f then (put f lf r).map (p :: ·) else if p.1=f then (if lf<=p.2 then none else some ((f,lf)::r)) else some ((f,lf)::p::r)
def Asc:List (Int × Int)->Prop
 |[]=>True
 |p::r=>(∀q∈r,p.1<q.1)/\Asc r
structure Sd.ok(c:Sd):Prop where
 idB:Cm c.id
 idL:c.id.length<=1000000
 u0:0<=c.used
 u1:c.used<=18446744073709551615
 KG:Asc c.rg
 rgn:c.rg.length<=1000
section
variable {xs:FuncId->Option (Ae->Option A4)}(fu d:Nat)(call:Aq)
theorem Xm{p:FuncId->Option (Ae->Option A4)}(fu d:Nat)(Y:Int)(X:Bool)(W V:Int)(U:Bool)(T:Int)(S:Bool)(Q:Nat)(P:Ae)(O N:Int)(Z M:Int)(L K:Int)(J:Nat)(I:Ae)(H G:Int):Ac (CP p) prog fu (d+1) 70 [.agg [Y,X,W,V,U,T,S,As 1 Q P,O],.agg [Ah N,Z,M,L,Ah K,As 1 J I,H,Ah G]]=(fun (call:Aq)=>Aa (Du .i64 Z 1) fun a=>Ay (a==0) (Bg [(22:Int)]) (Ay (Y==2) (Aa (Du .i64 Z 4) fun a=>Ay (a==0) (Bg [(23:Int)]) (Bg [(0:Int)])) (Bg [(0:Int)]))) (Ac (CP p) prog fu d):=by kernel_rfl
theorem BD{p:FuncId->Option (Ae->Option A4)}(fu d:Nat)(U:Int)(T:Bool)(S Q:Int)(P:Bool)(O:Int)(Y:Bool)(X:Nat)(W:Ae)(N V Z:Int):Ac (CP p) prog fu (d+1) 71 [.agg [U,T,S,Q,P,O,Y,As 1 X W,N],Ah V,Z]=(fun (call:Aq)=>Ay (Z==3) (Bg [(39:Int)]) (Ay (Z==4) (Bg [(39:Int)]) (Dv (call 106 [As 1 X W,Ah V]) fun a b=>Bm a fun a=>Ao b<|Ay a (Bg [(40:Int)]) (Ay (Z==2) (Ay (!Y) (Bg [(40:Int)]) (Bg [(0:Int)])) (Bg [(0:Int)]))))) (Ac (CP p) prog fu d):=by kernel_rfl
theorem Uh{p:FuncId->Option (Ae->Option A4)}(fu d Z:Nat)(Y:Ae)(X:Int):Ac (CP p) prog fu (d+1) 106 [As 1 Z Y,Ah X]=(fun (call:Aq)=>Ge .i64 (call 134 [As 1 Z Y,Ah X]) fun a=>Bg [Cz (decide (a>=0))]) (Ac (CP p) prog fu d):=by kernel_rfl
def Fz(Z:Nat)(Y:Ae)(X:Int)(W V:Nat)(U:Ae)(T S Q:Int):Option A4:=K0 fu call 134 Tryz.f134 [As 1 Z Y,Ah X] [.r,.l,.r,.l] W ⟨lk [(0,As 1 V U),(1,Ah T),(7,S),(8,Q)],Fx []⟩
theorem Kn(U:Nat)(T:Ae)(S:Int)(Q Y:Nat)(X:Ae)(W V Z:Int):Fz fu call U T S (Q+1) Y X W V Z=(Ay (decide (Z<V)) (Ar (decide (0<=Z)&&decide (Z<(↑Y:Int)))<|Ba .u64 (X.getD (Z.toNat*1) .top) fun a=>Ay (W==a) (Bg [Z]) (Aa (wrap .i64 (Z+1)) fun a=>Fz fu call U T S Q Y X W V a)) (Bg [(-1:Int)])):=by kernel_rfl
theorem Xh{p:FuncId->Option (Ae->Option A4)}(fu d Z:Nat)(Y:Ae)(X:Int):Ac (CP p) prog fu (d+1) 134 [As 1 Z Y,Ah X]=(fun (call:Aq)=>Fz fu call Z Y X fu Z Y X (↑Z:Int) 0) (Ac (CP p) prog fu d):=by kernel_rfl
theorem DT{p:FuncId->Option (Ae->Option A4)}(fu d:Nat)(U:Int)(T:Bool)(Y S:Int)(X:Bool)(Z:Int)(Q:Bool)(P:Nat)(O:Ae)(N J:Int)(L I:Int)(H M:Int)(G:Nat)(E:Ae)(K D:Int)(W B:Int)(A V:Int):Ac (CP p) prog fu (d+1) 37 [.agg [U,T,Y,S,X,Z,Q,As 1 P O,N],.agg [Ah J,L,I,H,Ah M,As 1 G E,K,Ah D],.agg [W,B,A],V]=(fun (call:Aq)=>(fun c:PV=>Ge .i64 (call 70 [c,.agg [Ah J,L,I,H,Ah M,As 1 G E,K,Ah D]]) fun a=>(fun e:Option A4=>Ay (a != 0) (Bg [a]) (Ay (decide (K<Y)) e (Aa (Du .i64 L 8) fun a=>(fun b:Option A4=>Ay (a != 0) (Ay (!X) e b) b) (Ay (W != Z) e (Ay (W != 2) (Bg [(0:Int)]) (Ay (V==0) (Bg [(38:Int)]) (Ge .i64 (call 71 [c,Ah M,V]) fun a=>Bg [a]))))))) (Bg [(40:Int)])) (.agg [U,T,Y,S,X,Z,Q,As 1 P O,N])) (Ac (CP p) prog fu d):=by kernel_rfl
end
abbrev isU(x:Int):Prop:=0<=x/\x<=18446744073709551615
abbrev isW(l:Aj):Prop:=∀x∈l,isU x
theorem Wb:∀{ws:Aj}{i:Nat}{w:Int},isW ws->ws[i]?=some w->Wd (Ap ws) i=w
 |[],i,w,_,h=>by simp at h
 |a::ws,0,w,hw,h=>by
  simp at h;subst h;have e:Ap (a::ws)=Bf a++Ap ws:=rfl;unfold Wd;rw[Nat.mul_zero,Ma,e,List.take_left' (B4 a)];have:=hw a (by simp);exact KC this.1 this.2
 |a::ws,i+1,w,hw,h=>by
  simp at h;have ih:=Wb (ws:=ws) (fun x hx=>hw x (Ut _ hx)) h;have e:Ap (a::ws)=Bf a++Ap ws:=rfl;unfold Wd at ih ⊢;rw[show 8*(i+1)=(Bf a).length+8*i by rw[B4];omega,e,<-List.drop_drop,List.drop_left' rfl]
  exact ih
theorem GD{ws:Aj}(hw:isW ws):Gj (Ap ws)=ws:=by
 have hl:(Ap ws).length / 8=ws.length:=by rw[El];omega
 apply List.ext_getElem?;intro i;unfold Gj;rw[hl];by_cases h:i<ws.length
 ·rw[List.getElem?_map,List.getElem?_range h,List.getElem?_eq_getElem h];simp only[Option.map_some];rw[Wb hw (List.getElem?_eq_getElem h)]
 ·rw[List.getElem?_eq_none (by simp;omega),List.getElem?_eq_none (by omega)]
theorem Ann{k:Ky}(hh:Dt k.h=false)(hr:isU k.root):Aa6 (Vy k)=some k:=by
 obtain⟨h,r⟩:=k;have hb:=Iu hh;simp only at hb hr hh;have w:wrap .u8 h=h:=Oa (by omega) (by omega);have w1:Ap [r]=Bf r:=by simp[Ap]
 have:=Wb (ws:=[r]) (i:=0) (w:=r) (by intro x hx;simp at hx;subst hx;exact hr) rfl
 rw[w1] at this;unfold Aa6 Vy;simp only[w,List.getD_cons_zero,List.drop_succ_cons,Ma,this,Po,B4,hh,and_self,if_true]
theorem A12{k:Ky}:Cm (Vy k):=by
 intro x hx;rcases List.mem_cons.1 hx with rfl|hx
 ·have:∀v:Int,0<=wrap .u8 v/\wrap .u8 v<=255:=by
   intro v;simp only[wrap,IntKind.signed,IntKind.bits];simp;omega
  exact this _
 ·exact Tg _ x hx
structure Sg.ok(s:Sg):Prop where
 ch:isW s.chains
 pa:isW s.path
theorem A69(s:Sg):Cm (sgB s):=by
 have w8:∀v:Int,0<=wrap .u8 v/\wrap .u8 v<=255:=by
  intro v;simp only[wrap,IntKind.signed,IntKind.bits];simp;omega
 intro x hx;unfold sgB at hx;rcases List.mem_cons.1 hx with rfl|hx
 ·exact w8 _
 rcases List.mem_cons.1 hx with rfl|hx
 ·exact w8 _
 rcases Bx.1 hx with hx|hx
 ·exact Va _ x hx
 ·exact Va _ x hx
theorem Akk{s:Sg}(hs:s.ok)(h1:Dt s.path.length=false)(h2:Jh s.leaf s.path.length=false)(h3:s.chains.length=18):sgD (sgB s)=some s:=by
 obtain⟨leaf,ch,pa⟩:=s;obtain⟨hc,hp⟩:=hs;simp only at h1 h2 h3 hc hp;have hb:=Iu h1;have ho:=Ag2 hb.1 hb.2 h2;have h16:=A3p hb.1 hb.2;have w1:wrap .u8 leaf=leaf:=Oa (by omega) (by omega);have w2:wrap .u8 (pa.length:Int)=pa.length:=Oa (by omega) (by omega);have lc:(Ap ch).length=144:=by rw[El];omega
 have lp:(Ap pa).length=8*pa.length:=El pa
 have len:(sgB ⟨leaf,ch,pa⟩).length=2+144+8*pa.length:=by
  unfold sgB;simp only[Po,Vo,lc,lp];omega
 have g0:(sgB ⟨leaf,ch,pa⟩).getD 0 0=leaf:=w1;have g1:(sgB ⟨leaf,ch,pa⟩).getD 1 0=pa.length:=w2;have d2:(sgB ⟨leaf,ch,pa⟩).drop 2=Ap ch++Ap pa:=rfl
 have d146:(sgB ⟨leaf,ch,pa⟩).drop 146=Ap pa:=by
  rw[show 146=2+144 from rfl,<-List.drop_drop,d2,List.drop_left' lc]
 unfold sgD;rw[Cx ⟨by omega,by rw[g1];exact h1,by rw[g0,g1];exact h2,by rw[g1,len];omega⟩,g0,d2,d146,List.take_left' lc,GD hc,GD hp]
theorem NM(dom:Int)(l:Aj):isU (B6 dom l):=R5 _
theorem A2j(key dom:Int)(l:Aj):isU (Atb key dom l):=R5 _
theorem Ar1(leaf chain:Int):∀(k:Nat)(p:Int){x:Int},isU x->isU (Tx leaf chain k p x)
 |0,_,_,h=>h
 |k+1,p,x,h=>Ar1 leaf chain k (p+1) (NM _ _)
theorem A1l(seed leaf m:Int):isW (X9 seed leaf m):=by intro x hx;obtain⟨k,_,rfl⟩:=List.mem_map.1 hx;exact Ar1 _ _ _ _ (A2j _ _ _)
theorem Aji(seed:Int):∀(l:Nat)(i:Int),isU (Ib seed l i)
 |0,i=>NM _ _
 |l+1,i=>NM _ _
theorem Aib{seed h:Int}(hh:Dt h=false):(Sk seed h).h=h:=by unfold Sk;rw[Br (by simp[hh])]
theorem YG{seed h leaf m:Int}(hh:Dt h=false)(ho:Jh leaf h=false):∃s,Add seed h leaf m=some s/\s.ok/\s.leaf=leaf/\s.chains.length=18/\(s.path.length:Int)=h/\MX (Sk seed h) m s=0:=by
 have hb:=Iu hh;refine⟨⟨leaf,X9 seed leaf m,(List.range h.toNat).map fun k=>Ib seed k (M4 leaf k)⟩,?_,⟨A1l _ _ _,?_⟩,rfl,by simp[X9],?_,Auk hh ho⟩
 ·unfold Add;rw[Br (by simp[hh]),Br (by simp[ho])]
 ·intro x hx;obtain⟨k,_,rfl⟩:=List.mem_map.1 hx;exact Aji _ _ _
 ·simp only[List.length_map,List.length_range];omega
section
variable {xs:FuncId->Option (Ae->Option A4)}{fu d:Nat}
theorem UX{n:Nat}{c:Ae}(hc:c.length=n)(hn:n<=1000000):Ac (CX xs) prog fu (d+1) 62 [.lst false 1 n c]=some ⟨[.own 1 n c],[]⟩:=by
 rw[TZ];have t1:List.take n c=c:=H5 (by omega);by_cases h:0<n
 ·simp(disch:=omega)only[A5,A6,Ip,NL,t1,hc,Kb]
 ·have h0:n=0:=by omega
  subst h0;have:=List.length_eq_zero_iff.1 hc;subst this;simp(disch:=omega)only[A5,A6,Ip,NL,NS,Kb,Nat.zero_mul,List.take_nil]
end
section
variable {fu d:Nat}
end
structure YJ where
 vf:Int
 rs:Bool
 ht:Int
 pr:Int
 sh:Bool
 fm:Int
 od:Bool
 dn:Aj
 op:Int
def YJ.cells(p:YJ):Ae:=[Aw p.vf,Cz (p.rs),Aw p.ht,Aw p.pr,Cz (p.sh),Aw p.fm,Cz (p.od),.lst false 1 p.dn.length (Ad .u64 p.dn),Aw p.op]
def YJ.own(p:YJ):Ae:=[Aw p.vf,Cz (p.rs),Aw p.ht,Aw p.pr,Cz (p.sh),Aw p.fm,Cz (p.od),.own 1 p.dn.length (Ad .u64 p.dn),Aw p.op]
structure L8 where
 rp:Int
 fl:Int
 ct:Int
 rg:Int
 md:Int
 idn:Nat
 id:Ae
 kh:Int
 kr:Int
def L8.cells(a:L8):Ae:=[Ah a.rp,Aw a.fl,Aw a.ct,Aw a.rg,Ah a.md,.lst false 1 a.idn a.id,Aw a.kh,Ah a.kr]
structure Stc where
 n0:Nat
 c0:Ae
 i1:Int
 i2:Int
 md:Int
 i4:Int
 sh:Bool
 i6:Int
 n7:Nat
 c7:Ae
 b8:Bool
 i9:Int
 i10:Int
def Stc.cells(a:Stc):Ae:=[.lst false 1 a.n0 a.c0,Aw a.i1,Ah a.i2,Ah a.md,Aw a.i4,Cz (a.sh),Ah a.i6,.lst false 2 a.n7 a.c7,Cz (a.b8),Aw a.i9,Aw a.i10]
def Aez(vf fl:Int):Int:=if Du .i64 fl 1=0 then 22 else if vf=2 then if Du .i64 fl 4=0 then 23 else 0 else 0
def A1j(dn:Aj)(od:Bool)(m st:Int):Int:=if st=3 then 39 else if st=4 then 39 else if m∈dn then 40 else if st=2 then if od=true then 0 else 40 else 0
def Apv(p:YJ)(md f st:Int):Int:=if f=p.fm then if f=2 then if st=0 then 38 else A1j p.dn p.od md st else 0 else 40
def MA(p:YJ)(a:L8)(f st:Int):Int:=
 if Aez p.vf a.fl=0 then if a.kh<p.ht then 40 else if Du .i64 a.fl 8=0 then Apv p a.md f st else if p.sh=true then Apv p a.md f st else 40 else Aez p.vf a.fl
section
variable {fu d:Nat}
theorem Ayt(p:YJ)(a:L8):Ac C1 prog fu (d+1) 70 [.agg p.cells,.agg a.cells]=some ⟨[Aw (Aez p.vf a.fl)],[]⟩:=by unfold YJ.cells L8.cells;rw[Xm];simp only[F5,Od,Ahq,Aez]
theorem SA{call:Aq}{n:Nat}{c:Ae}{t:Int}{l:Aj}{m:Int}(hl:l.length<=maxLen):∀(r:Aj)(i nn:Nat),l.drop i=r->r.length<nn ->
  ∃k:Int,Fz fu call n c t nn l.length (Ad .u64 l) m (l.length:Int) i=some ⟨[Aw k],[]⟩/\(0<=k↔m∈r)
 |r,i,0,_,h=>by omega
 |[],i,nn+1,h,_=>by
  have:=drop_nil h;rw[Kn];refine⟨-1,?_,by simp⟩;simp(disch:=omega)only[A5,A6]
 |x::r,i,nn+1,h,hn=>by
  obtain⟨h1,h2,h3⟩:=D8 h;simp only[maxLen] at hl;simp only[Po] at hn;rw[Kn];have hg:=GG (k:=.u64) h2;simp(disch:=omega)only[A5,A6,Jp,Kb,hg,Od];by_cases hm:m=x
  ·refine⟨i,by rw[Cx hm],by simp[hm]⟩
  ·obtain⟨k,h4,h5⟩:=SA (m:=m) (call:=call) (n:=n) (c:=c) (t:=t) (by simp only[maxLen];omega) r (i+1) nn h3 (by omega)
   refine⟨k,by rw[Br hm,Bb];exact h4,by rw[h5];simp[hm]⟩
theorem Ac9{l:Aj}(hl:l.length<=maxLen)(Bi:l.length<fu)(m:Int):Ac C1 prog fu (d+2) 106 [.lst false 1 l.length (Ad .u64 l),Ah m]=some ⟨[Cz (decide (m∈l))],[]⟩:=by
 rw[Uh];obtain⟨k,h1,h2⟩:=SA (fu:=fu) (call:=Ac C1 prog fu d) (n:=l.length) (c:=Ad .u64 l) (t:=m) (m:=m) hl l 0 fu rfl Bi
 have h3:Ac C1 prog fu (d+1) 134 [.lst false 1 l.length (Ad .u64 l),Ah m]=some ⟨[Aw k],[]⟩:=by
  rw[Xh];exact h1
 simp only[A5,A6,h3];have:decide (k>=0)=decide (m∈l):=by simp only[ge_iff_le,h2]
 rw[this]
theorem Apm(p:YJ)(hl:p.dn.length<=maxLen)(Bi:p.dn.length<fu)(m st:Int):Ac C1 prog fu (d+3) 71 [.agg p.cells,Ah m,Aw st]=some ⟨[Aw (A1j p.dn p.od m st)],[]⟩:=by unfold YJ.cells;rw[BD];simp only[Ac9 hl Bi,AV,IF,AR,FR,Od,Ar8,Zr];simp only[Aka,Ahq,A1j,Yd]
theorem A04(p:YJ)(hl:p.dn.length<=maxLen)(Bi:p.dn.length<fu)(a:L8)(f t1 t2 st:Int):
  Ac C1 prog fu (d+4) 37 [.agg p.cells,.agg a.cells,.agg [Aw f,Aw t1,Aw t2],Aw st]=some ⟨[Aw (MA p a f st)],[]⟩:=by
 have h1:=Ayt (fu:=fu) (d:=d+2) p a;have h2:=Apm (fu:=fu) (d:=d) p hl Bi a.md st;unfold YJ.cells L8.cells at *
 rw[DT];simp only[h1,h2,AV,IF,AR,PA,F5,Od,G6,Ar8,Zr];simp only[Aka,Ahq,MA,Apv]
end
section
variable {xs:FuncId->Option (Ae->Option A4)}(fu d:Nat)(call:Aq)
theorem DR{p:FuncId->Option (Ae->Option A4)}(fu d:Nat)(Z:Int):Ac (CP p) prog fu (d+1) 99 [.lst true 1 0 [],Z]=(fun (call:Aq)=>Ay (decide (Z<0)) none (Aa (wrap .i64 (Z-0)) fun a=>Ay (decide (a>0)) (Ar (decide (0<=a)&&decide (a.toNat*1<=1099511627776)&&decide (a<=1099511627776))<|Bg [.own 1 0 []]) (Bg [.own 1 0 []]))) (Ac (CP p) prog fu d):=by kernel_rfl
def Ii(Z:Nat)(Y:Ae)(X W:Nat)(V:Ae)(U:Int)(T:Nat)(S:Ae)(Q P:Int):Option A4:=K0 fu call 65 Tryz.f65 [As 1 Z Y] [.r,.r,.l,.r,.l] X ⟨lk [(0,As 1 W V),(3,U),(9,As 1 T S),(10,Q),(11,P)],Fx []⟩
def Ij(Z:Nat)(Y:Ae)(X W V:Nat)(U:Ae)(T S:Int)(Q:Ae):Option A4:=K0 fu call 65 Tryz.f65 [As 1 Z Y] [.r,.r,.r,.r,.l,.r,.l] X ⟨lk [(6,.view 6 1 0 W),(25,As 1 V U),(26,T),(27,S)],Fx [(6,.ar false Q)]⟩
theorem Hb(X:Nat)(W:Ae)(P Y:Nat)(V:Ae)(U:Int)(T:Nat)(S:Ae)(Q Z:Int):Ii fu call X W (P+1) Y V U T S Q Z=(Ay (decide (Z<Q)) (Ar (decide (0<=Z)&&decide (Z<(↑T:Int)))<|Vn 1 (S.getD (Z.toNat*1) .top) fun a b c=>Aa (wrap .i64 (U+(↑b:Int))) fun a=>Ay (decide (a<0)) none (Aa (wrap .i64 (Z+1)) fun b=>Ii fu call X W P Y V a T S Q b)) (Dv (call 99 [.lst true 1 0 [],U]) fun a b=>Lg 1 a fun a c=>Ao b<|Ij fu call X W fu a Y V (↑Y:Int) 0 c)):=by kernel_rfl
theorem Ha(T:Nat)(S:Ae)(Q Z W:Nat)(V:Ae)(U Y:Int)(X:Ae):Ij fu call T S (Q+1) Z W V U Y X=(Ay (decide (Y<U)) (Ar (decide (0<=Y)&&decide (Y<(↑W:Int)))<|Vn 1 (V.getD (Y.toNat*1) .top) fun a b c=>Ar (decide (Z*1<=X.length)&&decide (c.length=b*1)&&decide ((Z+b)*1<=1099511627776)&&decide (Z+b<=1099511627776))<|Aa (Z+b) fun a=>Aa (List.take (Z*1) X++c) fun b=>Aa (wrap .i64 (Y+1)) fun c=>Ij fu call T S Q a W V U c b) (Ar (decide (Z*1<=X.length))<|Bg [.own 1 Z (X.take (Z*1))])):=by kernel_rfl
theorem Zp{p:FuncId->Option (Ae->Option A4)}(fu d Z:Nat)(Y:Ae):Ac (CP p) prog fu (d+1) 65 [As 1 Z Y]=(fun (call:Aq)=>Ii fu call Z Y fu Z Y 0 Z Y (↑Z:Int) 0) (Ac (CP p) prog fu d):=by kernel_rfl
def Jq(Z:Nat)(Y:Ae)(X:Nat)(W:Int)(V:Nat)(U:Ae)(T S:Int):Option A4:=K0 fu call 59 Tryz.f59 [As 1 Z Y] [.r,.r,.l,.r,.l] X ⟨lk [(3,Ah W),(6,As 1 V U),(7,T),(8,S)],Fx []⟩
theorem Ro(U:Nat)(T:Ae)(S:Nat)(Y:Int)(X:Nat)(W:Ae)(V Z:Int):Jq fu call U T (S+1) Y X W V Z=(Ay (decide (Z<V)) (Ar (decide (0<=Z)&&decide (Z<(↑X:Int)))<|Ba .u8 (W.getD (Z.toNat*1) .top) fun a=>Aa (Fp .u64 Y 8) fun b=>Aa (wrap .u64 a) fun a=>Aa (DU .u64 b a) fun a=>Aa (wrap .i64 (Z+1)) fun b=>Jq fu call U T S a X W V b) (Bg [Ah Y])):=by kernel_rfl
theorem MN{p:FuncId->Option (Ae->Option A4)}(fu d Z:Nat)(Y:Ae):Ac (CP p) prog fu (d+1) 59 [As 1 Z Y]=(fun (call:Aq)=>Jq fu call Z Y fu 0 Z Y (↑Z:Int) 0) (Ac (CP p) prog fu d):=by kernel_rfl
theorem QI{p:FuncId->Option (Ae->Option A4)}(fu d:Nat)(X Z:Int)(W V U:Int)(T:Nat)(S:Ae)(Q P Y:Int):Ac (CP p) prog fu (d+1) 60 [.agg [Ah X,Z,W,V,Ah U,As 1 T S,Q,Ah P],Y]=(fun (call:Aq)=>Aa (Du .i64 Z Y) fun a=>Bg [Cz (a != 0)]) (Ac (CP p) prog fu d):=by kernel_rfl
def Oj(Z Y:Int)(X W V:Int)(U:Nat)(T:Ae)(S Q:Int)(P:Nat)(O N:Int)(M L K:Int)(J:Nat)(I:Ae)(H G:Int):Option A4:=K0 fu call 63 Tryz.f63 [.agg [Ah Z,Y,X,W,Ah V,As 1 U T,S,Ah Q]] [.r] P ⟨lk [(1,.ptr 1 0)],Fx [(1,.st [Ah O,N,M,L,Ah K,As 1 J I,H,Ah G])]⟩
theorem We(O N:Int)(M L K:Int)(J:Nat)(I:Ae)(H G:Int)(P:Nat)(Gz:0<P)(V U:Int)(T S W:Int)(Z:Nat)(Q:Ae)(Y X:Int):Oj fu call O N M L K J I H G P V U T S W Z Q Y X=((fun f:PV=>Dv (call 60 [f,(16:Int)]) fun a b=>Bm a fun a=>(fun e:Option A4=>Ao b<|Ay a (Dv (call 60 [f,(8:Int)]) fun a b=>Bm a fun a=>Ao b<|Ay (!a) (Bg [(18:Int)]) (Dv (call 60 [f,(64:Int)]) fun a b=>Bm a fun a=>Ao b<|Ay (!a) e (Ay ((↑Z:Int) != 176) (Bg [(4:Int)]) (Dv (call 97 [.agg [Y,Ah X]]) fun a b=>Lg 1 a fun a c=>Dl .i64 b fun a=>Bg [a])))) (Dv (call 60 [f,(64:Int)]) fun a b=>Bm a fun a=>Ao b<|Ay (!a) e (Ay ((↑Z:Int) != 176) (Bg [(4:Int)]) (Dv (call 97 [.agg [Y,Ah X]]) fun a b=>Lg 1 a fun a c=>Dl .i64 b fun a=>Bg [a])))) (Ay (W != 0) (Bg [(4:Int)]) (Ay ((↑Z:Int) != 0) (Bg [(4:Int)]) (Ay (!(Y==0&&(X==0&&true))) (Bg [(4:Int)]) (Bg [(0:Int)]))))) (.agg [Ah V,U,T,S,Ah W,As 1 Z Q,Y,Ah X])):=by cases P with|zero=>exact absurd Gz (Nat.lt_irrefl 0)|succ P=>kernel_rfl
theorem AY{p:FuncId->Option (Ae->Option A4)}(fu d:Nat)(W X:Int)(Z Y V:Int)(U:Nat)(T:Ae)(S Q:Int):Ac (CP p) prog fu (d+1) 63 [.agg [Ah W,X,Z,Y,Ah V,As 1 U T,S,Ah Q]]=(fun (call:Aq)=>Aa (AJ .i64 X 93) fun a=>(fun b:Option A4=>Ay (a != 0) b (Ay (decide (Z<0)) b (Ay (decide (Z>16)) b (Ay (decide (Y<0)) b (Ay (decide (Y>=16)) b (Oj fu call W X Z Y V U T S Q fu W X Z Y V U T S Q)))))) (Bg [(9:Int)])) (Ac (CP p) prog fu d):=by kernel_rfl
theorem FW{p:FuncId->Option (Ae->Option A4)}(fu d Z:Nat)(Y:Ae):Ac (CP p) prog fu (d+1) 30 [As 1 Z Y]=(fun (call:Aq)=>(fun m:Option A4=>Ay (decide ((↑Z:Int)<11)) m (Ar (decide (8<=Z))<|Aa (List.take 8 (Y.drop 0)) fun a=>Ge .u64 (call 59 [As 1 8 a]) fun a=>Ar (decide (8<(↑Z:Int)))<|Ba .u8 (Y.getD 8 .top) fun b=>Aa (wrap .i64 b) fun b=>Ar (decide (9<(↑Z:Int)))<|Ba .u8 (Y.getD 9 .top) fun c=>Aa (wrap .i64 c) fun c=>Ar (decide (10<(↑Z:Int)))<|Ba .u8 (Y.getD 10 .top) fun e=>Aa (wrap .i64 e) fun e=>(fun n:PV=>Dv (call 60 [n,(64:Int)]) fun f g=>Bm f fun f=>Ao g<|Ay f (Ay (decide ((↑Z:Int)<195)) m (Ar (decide (195<=Z)&&decide (Z<=Z))<|Aa (Z-195) fun f=>Aa (List.take (f*1) (Y.drop 195)) fun g=>Dv (call 61 [As 1 f g]) fun f g=>Ef f fun f=>Do .i64 f fun f h=>Dl .u64 h fun h=>Dl .i64 g fun g=>Ay (g != 0) m (Ar (decide (19<=Z))<|Aa (List.take 8 (Y.drop 11)) fun g=>Ge .u64 (call 59 [As 1 8 g]) fun g=>Ar (decide (195<=Z))<|Aa (List.take 176 (Y.drop 19)) fun i=>Dv (call 62 [As 1 176 i]) fun i j=>Lg 1 i fun i k=>Ao j<|Ar (decide (0+i*1<=k.length))<|Ge .i64 (call 63 [.agg [Ah a,b,c,e,Ah g,As 1 i (List.take (i*1) (k.drop 0)),f,Ah h]]) fun j=>Ay (j != 0) m (Ar (decide (i*1<=k.length))<|Bg [.agg [Ah a,b,c,e,Ah g,.own 1 i (k.take (i*1)),f,Ah h],(0:Int)])))) (Ay (decide ((↑Z:Int)>11)) m (Ge .i64 (call 63 [n]) fun f=>Ay (f != 0) m (Bg [.agg [Ah a,b,c,e,Ah 0,.own 1 0 [],(0:Int),Ah 0],(0:Int)])))) (.agg [Ah a,b,c,e,Ah 0,As 1 0 [],(0:Int),Ah 0]))) (Bg [.agg [Ah 0,(0:Int),(0:Int),(0:Int),Ah 0,.own 1 0 [],(0:Int),Ah 0],(2:Int)])) (Ac (CP p) prog fu d):=by kernel_rfl
theorem HK{p:FuncId->Option (Ae->Option A4)}(fu d:Nat)(Z:ByteArray):Ac (CP p) prog fu (d+1) 31 [Z]=(fun (call:Aq)=>Ar (decide (ByteArray.size Z<=1099511627776))<|Ar (decide (0+ByteArray.size Z*1<=List.length (Dq Z)))<|Ge .u64 (call 64 [(9:Int),As 1 (ByteArray.size Z) (List.take (ByteArray.size Z*1) (List.drop 0 (Dq Z)))]) fun a=>Bg [Ah a]) (Ac (CP p) prog fu d):=by kernel_rfl
theorem DL{p:FuncId->Option (Ae->Option A4)}(fu d Z:Nat)(Y:Ae)(X:Int):Ac (CP p) prog fu (d+1) 33 [As 1 Z Y,Ah X]=(fun (call:Aq)=>Dv (call 66 [As 1 1 [Ah X]]) fun a b=>Lg 1 a fun a c=>Ao b<|Ar (decide (0+a*1<=c.length))<|Dv (call 65 [As 1 2 [As 1 Z Y,As 1 a (List.take (a*1) (c.drop 0))]]) fun a b=>Lg 1 a fun a c=>Ao b<|Ar (decide (0+a*1<=c.length))<|Ge .u64 (call 64 [(13:Int),As 1 a (List.take (a*1) (c.drop 0))]) fun a=>Bg [Ah a]) (Ac (CP p) prog fu d):=by kernel_rfl
theorem Xr{p:FuncId->Option (Ae->Option A4)}(fu d:Nat)(Z Y X:Int):Ac (CP p) prog fu (d+1) 84 [Z,Y,X]=(fun (call:Aq)=>Ay (decide (Z>=Y)) (Bg [Cz (decide (Z<=X))]) (Bg [false])) (Ac (CP p) prog fu d):=by kernel_rfl
theorem Qp{p:FuncId->Option (Ae->Option A4)}(fu d:Nat)(S Z:Int)(U T V:Int)(Y:Nat)(Q:Ae)(X W:Int):Ac (CP p) prog fu (d+1) 49 [.agg [Ah S,Z,U,T,Ah V,As 1 Y Q,X,Ah W]]=(fun (call:Aq)=>Aa (AJ .i64 Z 93) fun a=>(fun g:Option A4=>Ay (a != 0) g (Dv (call 84 [U,(0:Int),(16:Int)]) fun a b=>Bm a fun a=>Ao b<|Ay (!a) g (Dv (call 84 [T,(0:Int),(15:Int)]) fun a b=>Bm a fun a=>Ao b<|Ay (!a) g (Aa (Du .i64 Z 16) fun a=>(fun f:Option A4=>(fun e:Option A4=>Ay (a != 0) (Aa (Du .i64 Z 8) fun a=>Ay (a==0) (Bg [(18:Int)]) (Aa (Du .i64 Z 64) fun a=>Ay (a==0) e (Ay ((↑Y:Int) != 176) f (Dv (call 51 [.agg [X,Ah W]]) fun a b=>Lg 1 a fun a c=>Dl .i64 b fun a=>Bg [a])))) (Aa (Du .i64 Z 64) fun a=>Ay (a==0) e (Ay ((↑Y:Int) != 176) f (Dv (call 51 [.agg [X,Ah W]]) fun a b=>Lg 1 a fun a c=>Dl .i64 b fun a=>Bg [a])))) (Ay (V != 0) f (Ay (decide ((↑Y:Int)>0)) f (Ay (!(X==0&&(W==0&&true))) f (Bg [(0:Int)]))))) (Bg [(4:Int)]))))) (Bg [(9:Int)])) (Ac (CP p) prog fu d):=by kernel_rfl
theorem X6{p:FuncId->Option (Ae->Option A4)}(fu d:Nat)(Z:ByteArray):Ac (CP p) prog fu (d+1) 21 [Z]=(fun (call:Aq)=>Ar (decide (ByteArray.size Z<=1099511627776))<|Ar (decide (0+ByteArray.size Z*1<=List.length (Dq Z)))<|Ge .u64 (call 45 [(9:Int),As 1 (ByteArray.size Z) (List.take (ByteArray.size Z*1) (List.drop 0 (Dq Z)))]) fun a=>Bg [Ah a]) (Ac (CP p) prog fu d):=by kernel_rfl
theorem V4{p:FuncId->Option (Ae->Option A4)}(fu d Z:Nat)(Y:Ae)(X:Int):Ac (CP p) prog fu (d+1) 24 [As 1 Z Y,Ah X]=(fun (call:Aq)=>Ar (decide (Y.length=Z*1)&&decide (Z*1<=1099511627776)&&decide (Z<=1099511627776))<|Dv (call 50 [As 1 1 [Ah X]]) fun a b=>Lg 1 a fun a c=>Ao b<|Ar (decide (0+a*1<=c.length))<|Ar (decide (Z*1<=Y.length)&&decide (List.length (List.take (a*1) (c.drop 0))=a*1)&&decide ((Z+a)*1<=1099511627776)&&decide (Z+a<=1099511627776))<|Aa (Z+a) fun b=>Aa (List.take (Z*1) Y++List.take (a*1) (c.drop 0)) fun a=>Ar (decide (0+b*1<=a.length))<|Ge .u64 (call 45 [(13:Int),As 1 b (List.take (b*1) (a.drop 0))]) fun a=>Bg [Ah a]) (Ac (CP p) prog fu d):=by kernel_rfl
end
section
variable {xs:FuncId->Option (Ae->Option A4)}(fu d:Nat)(call:Aq)
def Fy(Z:Nat)(Y:Ae)(X:ByteArray)(W V:Nat)(U:Ae)(T:ByteArray)(S Q:Int):Option A4:=K0 fu call 94 Tryz.f94 [As 1 Z Y,X] [.r,.l,.r,.l] W ⟨lk [(0,As 1 V U),(1,T),(7,S),(8,Q)],Fx []⟩
theorem Kw(U:Nat)(T:Ae)(S:ByteArray)(Q Y:Nat)(X:Ae)(W:ByteArray)(V Z:Int):Fy fu call U T S (Q+1) Y X W V Z=(Ay (decide (Z<V)) (Ar (decide (0<=Z)&&decide (Z<(↑Y:Int)))<|Bu (X.getD (Z.toNat*1) .top) fun a=>Ay (Array.toList (ByteArray.data W)==Array.toList (ByteArray.data a)) (Bg [Z]) (Aa (wrap .i64 (Z+1)) fun a=>Fy fu call U T S Q Y X W V a)) (Bg [(-1:Int)])):=by kernel_rfl
theorem Xz{p:FuncId->Option (Ae->Option A4)}(fu d Z:Nat)(Y:Ae)(X:ByteArray):Ac (CP p) prog fu (d+1) 94 [As 1 Z Y,X]=(fun (call:Aq)=>Fy fu call Z Y X fu Z Y X (↑Z:Int) 0) (Ac (CP p) prog fu d):=by kernel_rfl
theorem Ud{p:FuncId->Option (Ae->Option A4)}(fu d Z:Nat)(Y:Ae)(X:ByteArray):Ac (CP p) prog fu (d+1) 58 [As 1 Z Y,X]=(fun (call:Aq)=>Ge .i64 (call 94 [As 1 Z Y,X]) fun a=>Bg [Cz (decide (a>=0))]) (Ac (CP p) prog fu d):=by kernel_rfl
end
section
variable {xs:FuncId->Option (Ae->Option A4)}(fu d:Nat)(call:Aq)
theorem EK{p:FuncId->Option (Ae->Option A4)}(fu d:Nat)(Z Y:Int):Ac (CP p) prog fu (d+1) 16 [Ah Z,Y]=(fun (call:Aq)=>Dv (call 41 [Ah Z,Y]) fun a b=>Ef a fun a=>Do .i64 a fun a c=>Dl .u64 c fun c=>Dl .i64 b fun b=>Bg [.agg [a,Ah c]]) (Ac (CP p) prog fu d):=by kernel_rfl
theorem Tz{p:FuncId->Option (Ae->Option A4)}(fu d:Nat)(Z Y:Int)(X:Bool):Ac (CP p) prog fu (d+1) 7 [Z,Y,X]=(fun (call:Aq)=>Aa (wrap .u64 Z) fun a=>Aa (wrap .u64 (1000+a)) fun a=>Aa (wrap .i64 (500+Z)) fun b=>Dv (call 15 [b,(176:Int)]) fun b c=>Lg 1 b fun b e=>Ao c<|Ar (decide (b*1<=e.length))<|Bg [.agg [Ah a,Y,.own 1 b (e.take (b*1)),X]]) (Ac (CP p) prog fu d):=by kernel_rfl
theorem Tw{p:FuncId->Option (Ae->Option A4)}(fu d:Nat)(X W:Int)(V:Nat)(U:Ae)(Z Y:Bool):Ac (CP p) prog fu (d+1) 22 [.agg [Ah X,W,As 1 V U,Z],Y]=(fun (call:Aq)=>Ay Y (Ay Z (Bg [(13:Int)]) (Bg [(5:Int)])) (Ay Z (Bg [(9:Int)]) (Bg [(1:Int)]))) (Ac (CP p) prog fu d):=by kernel_rfl
theorem Sn{p:FuncId->Option (Ae->Option A4)}(fu d:Nat)(Z Y:Int)(X:Nat)(W:Ae)(U:Bool)(T S:ByteArray)(Q:Nat)(P:Ae)(O:Bool)(V N:Int)(M:ByteArray):Ac (CP p) prog fu (d+1) 13 [.agg [Ah Z,Y,As 1 X W,U],T,S,As 1 Q P,O,V,N,M]=(fun (call:Aq)=>Dv (call 20 [.agg [(2:Int),As 1 Q P,S,false,Bk ⟨#[]⟩]]) fun a b=>Bu a fun a=>Dl .i64 b fun b=>Ge .u64 (call 21 [T]) fun b=>Ge .i64 (call 22 [.agg [Ah Z,Y,As 1 X W,U],O]) fun c=>Aa (wrap .i64 (V+1)) fun e=>Dv (call 23 [.agg [Ah b,c,e,N,Ah 0,As 1 0 [],(0:Int),Ah 0]]) fun b c=>Lg 1 b fun b e=>Dl .i64 c fun c=>Ge .u64 (call 25 [a]) fun c=>(fun m:PV=>Ar (decide (0+b*1<=e.length))<|Ge .u64 (call 24 [m,Ah c]) fun c=>Dv (call 26 [Ah Z,Y,V,Ah c]) fun c f=>Ef c fun c=>Do .i64 c fun c g=>JG 1 g fun g h i=>JG 1 i fun i j k=>Ao k<|Dl .i64 f fun f=>Ar (decide (0+g*1<=h.length))<|Ar (decide (0+i*1<=j.length))<|Dv (call 27 [.agg [c,As 1 g (List.take (g*1) (h.drop 0)),As 1 i (List.take (i*1) (j.drop 0))]]) fun c f=>Lg 1 c fun c g=>Dl .i64 f fun f=>Ar (decide (0+b*1<=e.length))<|Ar (decide (0+c*1<=g.length))<|Bg [.agg [(2:Int),a,m,As 1 c (List.take (c*1) (g.drop 0)),As 1 0 [],(0:Int),As 1 X W,M]]) (As 1 b (List.take (b*1) (e.drop 0)))) (Ac (CP p) prog fu d):=by kernel_rfl
theorem J2{p:FuncId->Option (Ae->Option A4)}(fu d:Nat)(W Y:Int)(V U T:Int)(Z:Nat)(X:Ae)(S Q:Int):Ac (CP p) prog fu (d+1) 23 [.agg [Ah W,Y,V,U,Ah T,As 1 Z X,S,Ah Q]]=(fun (call:Aq)=>Ge .i64 (call 49 [.agg [Ah W,Y,V,U,Ah T,As 1 Z X,S,Ah Q]]) fun a=>Ay (a != 0) (Bg [.own 1 0 [],a]) (Dv (call 50 [As 1 1 [Ah W]]) fun a b=>Lg 1 a fun a c=>Ao b<|Aa (wrap .u8 Y) fun b=>Aa (wrap .u8 V) fun e=>Aa (wrap .u8 U) fun f=>Ar (decide (a*1<=c.length)&&true&&decide ((a+3)*1<=1099511627776)&&decide (a+3<=1099511627776))<|Aa (a+3) fun g=>Aa (List.take (a*1) c++[.sc (.int .u8 b),.sc (.int .u8 e),.sc (.int .u8 f)]) fun a=>Aa (Du .i64 Y 64) fun b=>Ay (b != 0) (Dv (call 51 [.agg [S,Ah Q]]) fun b c=>Lg 1 b fun b e=>Dl .i64 c fun c=>Dv (call 50 [As 1 1 [Ah T]]) fun c f=>Lg 1 c fun c h=>Ao f<|Ar (decide (0+c*1<=h.length))<|Ar (decide (g*1<=a.length)&&decide (List.length (List.take (c*1) (h.drop 0))=c*1)&&decide ((g+c)*1<=1099511627776)&&decide (g+c<=1099511627776))<|Aa (g+c) fun f=>Aa (List.take (g*1) a++List.take (c*1) (h.drop 0)) fun a=>Ar (decide (f*1<=a.length)&&decide (X.length=Z*1)&&decide ((f+Z)*1<=1099511627776)&&decide (f+Z<=1099511627776))<|Aa (f+Z) fun c=>Aa (List.take (f*1) a++X) fun a=>Ar (decide (0+b*1<=e.length))<|Ar (decide (c*1<=a.length)&&decide (List.length (List.take (b*1) (e.drop 0))=b*1)&&decide ((c+b)*1<=1099511627776)&&decide (c+b<=1099511627776))<|Aa (c+b) fun f=>Aa (List.take (c*1) a++List.take (b*1) (e.drop 0)) fun a=>Ar (decide (f*1<=a.length))<|Bg [.own 1 f (a.take (f*1)),(0:Int)]) (Ar (decide (g*1<=a.length))<|Bg [.own 1 g (a.take (g*1)),(0:Int)]))) (Ac (CP p) prog fu d):=by kernel_rfl
theorem Sq{p:FuncId->Option (Ae->Option A4)}(fu d Z:Nat)(Y:Ae)(X:Int):Ac (CP p) prog fu (d+1) 42 [.pbox [As 1 Z Y,X]]=(fun (call:Aq)=>Bv (call 43 [.pbox [As 1 Z Y,X],(3:Int)]) fun a b=>Dl .i64 a fun a=>Ai b fun b c=>Wv 1 b fun b e f=>Dl .i64 f fun f=>Ao c<|Bv (call 43 [.pbox [As 1 b e,f],(2:Int)]) fun b c=>Dl .i64 b fun b=>Ai c fun c e=>Wv 1 c fun c f g=>Dl .i64 g fun g=>Ao e<|Bv (call 43 [.pbox [As 1 c f,g],(2:Int)]) fun c e=>Dl .i64 c fun c=>Ai e fun e f=>Wv 1 e fun e g h=>Dl .i64 h fun h=>Ao f<|Aa (wrap .i64 (1+c)) fun c=>Bv (call 43 [.pbox [As 1 e g,h],(3:Int)]) fun e f=>Dl .i64 e fun e=>Ai f fun f g=>Wv 1 f fun f h i=>Dl .i64 i fun i=>Ao g<|Aa (wrap .i64 (1+e)) fun e=>Bv (call 43 [.pbox [As 1 f h,i],(2:Int)]) fun f g=>Dl .i64 f fun f=>Ai g fun g h=>Wv 1 g fun g i j=>Dl .i64 j fun j=>Ao h<|Bv (call 43 [.pbox [As 1 g i,j],(3:Int)]) fun g h=>Dl .i64 g fun g=>Ai h fun h i=>Wv 1 h fun h j k=>Dl .i64 k fun k=>Ao i<|Bv (call 43 [.pbox [As 1 h j,k],(2:Int)]) fun h i=>Dl .i64 h fun h=>Ai i fun i j=>Wv 1 i fun i k m=>Dl .i64 m fun m=>Ao j<|Bv (call 43 [.pbox [As 1 i k,m],(3:Int)]) fun i j=>Dl .i64 i fun i=>Ai j fun j k=>Wv 1 j fun j m n=>Dl .i64 n fun n=>Ao k<|Ar (decide (0<=i)&&decide (i<3))<|Ba .i64 (List.getD [(50:Int),(5:Int),(500:Int)] (0+i.toNat*1) .top) fun i=>Bv (call 43 [.pbox [As 1 j m,n],(4:Int)]) fun j k=>Dl .i64 j fun j=>Ai k fun k m=>Wv 1 k fun k n o=>Dl .i64 o fun o=>Ao m<|Ay (j==3) (Bv (call 43 [.pbox [As 1 k n,o],(2:Int)]) fun j k=>Dl .i64 j fun j=>Ai k fun k m=>Wv 1 k fun k n o=>Dl .i64 o fun o=>Ao m<|Aa (wrap .i64 (1+j)) fun j=>Ar (decide (0<=j))<|Ar (decide (j.toNat<=2))<|Aa (j.toNat-0) fun j=>Ar (decide (j*1<=2))<|some ⟨[.agg [a,Cz (b==1),c,e,Cz (f==1),g,Cz (h==1),.own 1 j (List.take (j*1) [Ah 3,Ah 7]),i]],[[As 1 k n,o]]⟩) (some ⟨[.agg [a,Cz (b==1),c,e,Cz (f==1),g,Cz (h==1),.own 1 0 [],i]],[[As 1 k n,o]]⟩)) (Ac (CP p) prog fu d):=by kernel_rfl
theorem Sp{p:FuncId->Option (Ae->Option A4)}(fu d Z:Nat)(Y:Ae)(X:Int):Ac (CP p) prog fu (d+1) 18 [.pbox [As 1 Z Y,X]]=(fun (call:Aq)=>Bv (call 42 [.pbox [As 1 Z Y,X]]) fun a b=>Ai a fun a c=>Ef a fun a=>Do .i64 a fun a e=>Ai e fun e f=>Bm e fun e=>Do .i64 f fun f g=>Do .i64 g fun g h=>Ai h fun h i=>Bm h fun h=>Do .i64 i fun i j=>Ai j fun j k=>Bm j fun j=>JG 1 k fun k m n=>Dl .i64 n fun n=>Ao c<|Ai b fun b c=>Wv 1 b fun b o q=>Dl .i64 q fun q=>Ao c<|Bv (call 43 [.pbox [As 1 b o,q],(3:Int)]) fun b c=>Dl .i64 b fun b=>Ai c fun c o=>Wv 1 c fun c q s=>Dl .i64 s fun s=>Ao o<|Aa (wrap .u64 b) fun b=>Aa (wrap .u64 (5+b)) fun b=>Dv (call 16 [Ah 31,(4:Int)]) fun o t=>Ef o fun o=>Do .i64 o fun o u=>Dl .u64 u fun u=>Ao t<|Ar (decide (0+k*1<=m.length))<|some ⟨[.agg [Bk ⟨#[101,120,97,109,112,108,101,46,99,111,109]⟩,Bk ⟨#[69,120,97,109,112,108,101]⟩,As 1 2 [Bk ⟨#[104,116,116,112,115,58,47,47,101,120,97,109,112,108,101,46,99,111,109]⟩,Bk ⟨#[104,116,116,112,115,58,47,47,108,111,103,105,110,46,101,120,97,109,112,108,101,46,99,111,109]⟩],a,e,f,g,h,i,j,As 1 k (List.take (k*1) (m.drop 0)),n,Ah b,o,Ah u]],[[As 1 c q,s]]⟩) (Ac (CP p) prog fu d):=by kernel_rfl
end
def eqB(a b:Aj):Bool:=(a.map fun n=>n.toNat.toUInt8)==(b.map fun n=>n.toNat.toUInt8)
theorem YE(a b:Aj):(Array.toList (ByteArray.data (ByteArray.mk (List.toArray (a.map fun n=>n.toNat.toUInt8))))==Array.toList (ByteArray.data (ByteArray.mk (List.toArray (b.map fun n=>n.toNat.toUInt8)))))=eqB a b:=by exact id rfl
theorem SI(a:Aj):eqB a a=true:=by unfold eqB;simp
def YN(b:Aj)(c:Int):Int:=B6 13 (b++Bf c)
section
variable {fu d:Nat}
theorem Afj(a b:Aj):Ac C1 prog fu (d+1) 32 [.lst false 1 a.length (Ad .u8 a),.lst false 1 b.length (Ad .u8 b)]=some ⟨[Cz (eqB a b)],[]⟩:=by refine (TO fu d a.length (Ad .u8 a) b.length (Ad .u8 b)).trans ?_;have La:=Ak .u8 a;have Lb:=Ak .u8 b;have ba:=Lh a;have bb:=Lh b;have q:=YE a b;simp(disch:=omega)only[A5,A6,La,Lb,ba,bb,q]
theorem A4m{s:ByteArray}(hs:s.size<=1000000)(Bi:1000400<=fu):Ac C1 prog fu (d+6) 31 [Bk s]=some ⟨[Ah (B6 9 (B0 s))],[]⟩:=by
 refine (HK fu (d+5) s).trans ?_;have hh:=NI (xs:=HZ) (fu:=fu) (d:=d) (l:=B0 s) (Yn s) (by rw[Cv];omega) (by omega) (by rw[Cv];omega) 9
 have L:(Dq s).length=s.size:=by rw[Hu,Ak,Cv]
 have t:List.take s.size (Dq s)=Ad .u8 (B0 s):=by rw[Hu,H5 (by rw[Ak,Cv];omega)]
 rw[Cv] at hh;simp(disch:=omega)only[A5,A6,L,t,Ma,Kb,hh]
theorem Aty{s:ByteArray}(hs:s.size<=1000000)(Bi:1000400<=fu):Ac C1 prog fu (d+6) 34 [Bk s]=some ⟨[Ah (B6 11 (B0 s))],[]⟩:=by
 refine (GY fu (d+5) s).trans ?_;have hh:=NI (xs:=HZ) (fu:=fu) (d:=d) (l:=B0 s) (Yn s) (by rw[Cv];omega) (by omega) (by rw[Cv];omega) 11
 have L:(Dq s).length=s.size:=by rw[Hu,Ak,Cv]
 have t:List.take s.size (Dq s)=Ad .u8 (B0 s):=by rw[Hu,H5 (by rw[Ak,Cv];omega)]
 rw[Cv] at hh;simp(disch:=omega)only[A5,A6,L,t,Ma,Kb,hh]
theorem YS{s:ByteArray}(hs:s.size<=1000000)(Bi:1000400<=fu):Ac C1 prog fu (d+5) 21 [Bk s]=some ⟨[Ah (B6 9 (B0 s))],[]⟩:=by
 refine (X6 fu (d+4) s).trans ?_;have hh:=GJ (xs:=HZ) (fu:=fu) (d:=d) (l:=B0 s) (Yn s) (by rw[Cv];omega) (by omega) (by rw[Cv];omega) 9
 have L:(Dq s).length=s.size:=by rw[Hu,Ak,Cv]
 have t:List.take s.size (Dq s)=Ad .u8 (B0 s):=by rw[Hu,H5 (by rw[Ak,Cv];omega)]
 rw[Cv] at hh;simp(disch:=omega)only[A5,A6,L,t,Ma,Kb,hh]
theorem VZ{s:ByteArray}(hs:s.size<=1000000)(Bi:1000400<=fu):Ac C1 prog fu (d+5) 25 [Bk s]=some ⟨[Ah (B6 11 (B0 s))],[]⟩:=by
 refine (Uo fu (d+4) s).trans ?_;have hh:=GJ (xs:=HZ) (fu:=fu) (d:=d) (l:=B0 s) (Yn s) (by rw[Cv];omega) (by omega) (by rw[Cv];omega) 11
 have L:(Dq s).length=s.size:=by rw[Hu,Ak,Cv]
 have t:List.take s.size (Dq s)=Ad .u8 (B0 s):=by rw[Hu,H5 (by rw[Ak,Cv];omega)]
 rw[Cv] at hh;simp(disch:=omega)only[A5,A6,L,t,Ma,Kb,hh]
theorem Ajl{b:Aj}(hb:Cm b)(hl:b.length<=100000)(Bi:1000400<=fu)(c:Int):Ac C1 prog fu (d+5) 24 [.lst false 1 b.length (Ad .u8 b),Ah c]=some ⟨[Ah (YN b c)],[]⟩:=by
 refine (V4 fu (d+4) b.length (Ad .u8 b) c).trans ?_;unfold YN;have ow:=Ak7 (xs:=HZ) (fu:=fu) (d:=d+3) (by omega) c;have Lq:(Ad .u8 (Bf c)).length=8:=by rw[Ak,B4]
 have tq:List.take 8 (Ad .u8 (Bf c))=Ad .u8 (Bf c):=H5 (by omega);have L:=Ak .u8 b;have t:=NY .u8 b;have ea:Ad .u8 b++Ad .u8 (Bf c)=Ad .u8 (b++Bf c):=by rw[Ad,Ad,Ad,List.flatMap_append]
 have Ww:(b++Bf c).length=b.length+8:=by rw[Vo,B4]
 have hh:=GJ (xs:=HZ) (fu:=fu) (d:=d) (l:=b++Bf c) (Wh hb (Tg c)) (by omega) (by omega) (by omega) 13;have L2:=Ak .u8 (b++Bf c);have t2:List.take (b.length+8) (Ad .u8 (b++Bf c))=Ad .u8 (b++Bf c):=H5 (by omega);rw[Ww] at hh;simp(disch:=omega)only[A5,A6,ow,Ma,Ip,Kb,Lq,tq,L,t,ea,L2,t2,hh]
theorem Ao5{n:Int}(h0:0<=n)(h1:n<=1000000):Ac C1 prog fu (d+1) 99 [.lst true 1 0 [],Aw n]=some ⟨[.own 1 0 []],[]⟩:=by
 refine (DR fu d n).trans ?_;have a1:=dF (q:=n<0) (by omega);have w1:wrap .i64 (n-0)=n:=Bq
 by_cases h:n>0
 ·have a2:=dT h;have a3:=dT h0;have a4:=dT (q:=Int.toNat n*1<=1099511627776) (by omega);have a5:=dT (q:=n<=1099511627776) (by omega);simp only[A5,A6,a1,w1,a2,a3,a4,a5]
 ·have a2:=dF h;simp only[A5,A6,a1,w1,a2]
set_option maxHeartbeats 1000000 in
theorem Ay7{a b:Aj}(ha:a.length<=100000)(hb:b.length<=100000)(Bi:1000<=fu):Ac C1 prog fu (d+2) 65 [.lst false 1 2 [.lst false 1 a.length (Ad .u8 a),.lst false 1 b.length (Ad .u8 b)]]=some ⟨[.own 1 (a.length+b.length) (Ad .u8 (a++b))],[]⟩:=by
 obtain⟨f,rfl⟩:∃f,fu=f+3:=⟨fu-3,by omega⟩
 refine (Zp (f+3) (d+1) 2 _).trans ?_;have La:=Ak .u8 a;have Lb:=Ak .u8 b;have w1:wrap .i64 (0+(a.length:Int))=((a.length:Nat):Int):=Bq
 have w2:wrap .i64 (((a.length:Nat):Int)+(b.length:Int))=((a.length+b.length:Nat):Int):=Bq
 have w3:wrap .i64 (0+1)=1:=by decide
 have w4:wrap .i64 (1+1)=2:=by decide
 have l0:decide ((0:Int)<((2:Nat):Int))=true:=rfl;have l1:decide ((1:Int)<((2:Nat):Int))=true:=rfl;have l2:decide ((2:Int)<((2:Nat):Int))=false:=rfl;have z0:decide ((0:Int)<=0)=true:=rfl;have z1:decide ((0:Int)<=1)=true:=rfl;have g0:List.getD [PV.lst false 1 a.length (Ad .u8 a),PV.lst false 1 b.length (Ad .u8 b)] (Int.toNat 0*1) PV.top=PV.lst false 1 a.length (Ad .u8 a):=rfl;have g1:List.getD [PV.lst false 1 a.length (Ad .u8 a),PV.lst false 1 b.length (Ad .u8 b)] (Int.toNat 1*1) PV.top=PV.lst false 1 b.length (Ad .u8 b):=rfl;have n1:=dF (q:=((a.length:Nat):Int)<0) (by omega);have n2:=dF (q:=((a.length+b.length:Nat):Int)<0) (by omega);have gr:=Ao5 (fu:=f+3) (d:=d) (n:=((a.length+b.length:Nat):Int)) (by omega) (by omega);have c1:decide (0*1<=List.length ([]:Ae))=true:=rfl;have c2:decide (List.length (Ad .u8 a)=a.length*1)=true:=dT (by omega)
 have c3:=dT (q:=a.length*1<=1099511627776) (by omega);have c4:=dT (q:=a.length<=1099511627776) (by omega);have t0:List.take (0*1) ([]:Ae)=[]:=rfl;have e0:([]:Ae)++Ad .u8 a=Ad .u8 a:=NL _;have n0:0+a.length=a.length:=Ip _;have c5:decide (a.length*1<=List.length (Ad .u8 a))=true:=dT (by omega);have c6:decide (List.length (Ad .u8 b)=b.length*1)=true:=dT (by omega);have c7:=dT (q:=(a.length+b.length)*1<=1099511627776) (by omega);have c8:=dT (q:=a.length+b.length<=1099511627776) (by omega);have t1:List.take (a.length*1) (Ad .u8 a)=Ad .u8 a:=H5 (by omega);have ea:Ad .u8 a++Ad .u8 b=Ad .u8 (a++b):=by rw[Ad,Ad,Ad,List.flatMap_append]
 have L2:=Ak .u8 (a++b);rw[Vo] at L2;have c9:decide ((a.length+b.length)*1<=List.length (Ad .u8 (a++b)))=true:=dT (by omega);have t2:List.take ((a.length+b.length)*1) (Ad .u8 (a++b))=Ad .u8 (a++b):=H5 (by omega)
 (try dsimp only)
 rw[Hb];simp only[A5,A6,l0,z0,g0,w1,n1,w3]
 (try dsimp only)
 rw[Hb];simp only[A5,A6,l1,z1,g1,w2,n2,w4]
 (try dsimp only)
 rw[Hb];simp only[A5,A6,l2,gr];rw[Ha];simp only[A5,A6,l0,z0,g0,c1,c2,c3,c4,t0,e0,n0,w3];rw[Ha];simp only[A5,A6,l1,z1,g1,c5,c6,c7,c8,t1,ea,w4];rw[Ha];simp only[A5,A6,l2,c9,t2]
theorem Ayv{b:Aj}(hb:Cm b)(hl:b.length<=100000)(Bi:1000400<=fu)(c:Int):Ac C1 prog fu (d+6) 33 [.lst false 1 b.length (Ad .u8 b),Ah c]=some ⟨[Ah (YN b c)],[]⟩:=by
 refine (DL fu (d+5) b.length (Ad .u8 b) c).trans ?_;unfold YN;have ow:=owd (xs:=HZ) (fu:=fu) (d:=d+4) (by omega) c;have Lq:(Ad .u8 (Bf c)).length=8:=by rw[Ak,B4]
 have c1:decide (0+8*1<=List.length (Ad .u8 (Bf c)))=true:=dT (by omega);have tq:List.take (8*1) (List.drop 0 (Ad .u8 (Bf c)))=Ad .u8 (Bf c):=H5 (by rw[Ma];omega)
 have Ww:(b++Bf c).length=b.length+8:=by rw[Vo,B4]
 have cc:=Ay7 (fu:=fu) (d:=d+3) (a:=b) (b:=Bf c) hl (by rw[B4];omega) (by omega)
 rw[B4] at cc;have hh:=NI (xs:=HZ) (fu:=fu) (d:=d) (l:=b++Bf c) (Wh hb (Tg c)) (by omega) (by omega) (by omega) 13;have L2:=Ak .u8 (b++Bf c);have c2:decide (0+(b.length+8)*1<=List.length (Ad .u8 (b++Bf c)))=true:=dT (by omega);have t2:List.take ((b.length+8)*1) (List.drop 0 (Ad .u8 (b++Bf c)))=Ad .u8 (b++Bf c):=H5 (by rw[Ma];omega)
 rw[Ww] at hh;simp only[A5,A6,ow,c1,tq,cc,c2,t2,hh]
end
def L8.owned(a:L8):Ae:=[Ah a.rp,Aw a.fl,Aw a.ct,Aw a.rg,Ah a.md,.own 1 a.idn a.id,Aw a.kh,Ah a.kr]
abbrev ad0:L8:=⟨0,0,0,0,0,0,[],0,0⟩
def vT(a:L8):Int:=
 bif Du .i64 a.fl 64==0 then (bif a.md != 0 then 4 else bif ((a.idn:Nat):Int) != 0 then 4 else bif !(a.kh==0&&(a.kr==0&&true)) then 4 else 0)
 else bif ((a.idn:Nat):Int) != 176 then 4 else if Dt a.kh=true then 9 else 0
def vE(a:L8):Int:=
 bif AJ .i64 a.fl 93 != 0 then 9 else bif decide (a.ct<0) then 9 else bif decide (a.ct>16) then 9 else bif decide (a.rg<0) then 9 else bif decide (a.rg>=16) then 9 else
 bif Du .i64 a.fl 16 != 0 then (bif Du .i64 a.fl 8==0 then 18 else vT a) else vT a
theorem Aq2(a:Int):(a != 0) = !(a==0):=rfl
section
variable {fu d:Nat}
theorem YU(a:L8)(k:Int):Ac C1 prog fu (d+1) 60 [.agg a.cells,Aw k]=some ⟨[Cz (Du .i64 a.fl k != 0)],[]⟩:=
 (QI fu d a.rp a.fl a.ct a.rg a.md a.idn a.id a.kh a.kr k).trans (by simp only[A5,A6])
set_option maxHeartbeats 1000000 in
theorem Akz(Bi:1000<=fu)(a:L8):Ac C1 prog fu (d+3) 63 [.agg a.cells]=some ⟨[Aw (vE a)],[]⟩:=by
 have h8:=YU (fu:=fu) (d:=d+1) a 8;have h16:=YU (fu:=fu) (d:=d+1) a 16;have h64:=YU (fu:=fu) (d:=d+1) a 64;have ek0:=Ans (xs:=HZ) (fu:=fu) (d:=d) Bi ⟨a.kh,a.kr⟩;simp only[Ky.cells] at ek0
 obtain⟨kn,kc,ek⟩:∃n c,Ac C1 prog fu (d+2) 97 [.agg [Aw a.kh,Ah a.kr]]=some ⟨[.own 1 n c,Aw (if Dt a.kh=true then 9 else 0)],[]⟩:=by
  by_cases bh:Dt a.kh=true
  ·exact⟨_,_,by rw[Cx bh] at ek0;rw[Cx bh];exact ek0⟩
  ·exact⟨_,_,by rw[Br bh] at ek0;rw[Br bh];exact ek0⟩
 simp only[L8.cells] at h8 h16 h64;refine (AY fu (d+2) a.rp a.fl a.ct a.rg a.md a.idn a.id a.kh a.kr).trans ?_;unfold vE;cases b1:AJ .i64 a.fl 93 != 0
 rotate_left
 ·simp only[A5,A6,b1,cond_true]
 cases b2:decide (a.ct<0)
 rotate_left
 ·simp only[A5,A6,b1,b2,cond_true,cond_false]
 cases b3:decide (a.ct>16)
 rotate_left
 ·simp only[A5,A6,b1,b2,b3,cond_true,cond_false]
 cases b4:decide (a.rg<0)
 rotate_left
 ·simp only[A5,A6,b1,b2,b3,b4,cond_true,cond_false]
 cases b5:decide (a.rg>=16)
 rotate_left
 ·simp only[A5,A6,b1,b2,b3,b4,b5,cond_true,cond_false]
 simp only[A5,A6,b1,b2,b3,b4,b5,cond_true,cond_false];clear b1 b2 b3 b4 b5;rw[We (Gz:=by omega)];unfold vT;simp only[Aq2] at h8 h16 h64 ⊢;cases b16:Du .i64 a.fl 16==0<;>cases b8:Du .i64 a.fl 8==0<;>cases b64:Du .i64 a.fl 64==0<;>simp only[A5,A6,h8,h16,h64,b8,b16,b64,cond_true,cond_false]
 all_goals first
  |(cases bm:a.md==0<;>cases bi:((a.idn:Nat):Int)==0<;>cases bk:(a.kh==0&&a.kr==0)<;>simp only[A5,A6,bm,bi,bk,cond_true,cond_false]<;>done)
  |(cases bl:((a.idn:Nat):Int) != 176<;>simp only[A5,A6,bl,ek,cond_true,cond_false])
theorem LG(n lo hi:Int):Ac C1 prog fu (d+1) 84 [Aw n,Aw lo,Aw hi]=some ⟨[Cz (decide (lo<=n)&&decide (n<=hi))],[]⟩:=by
 refine (Xr fu d n lo hi).trans ?_;by_cases h:lo<=n
 ·simp(disch:=omega)only[A5,A6,h,decide_true,YD]
 ·simp(disch:=omega)only[A5,A6,h,decide_false,SU]
set_option maxHeartbeats 1000000 in
theorem VY(Bi:1000<=fu)(a:L8):Ac C1 prog fu (d+3) 49 [.agg a.cells]=some ⟨[Aw (vE a)],[]⟩:=by
 have w1:=LG (fu:=fu) (d:=d+1) a.ct 0 16;have w2:=LG (fu:=fu) (d:=d+1) a.rg 0 15;have ek0:=SK (xs:=HZ) (fu:=fu) (d:=d) Bi ⟨a.kh,a.kr⟩;simp only[Ky.cells] at ek0
 obtain⟨kn,kc,ek⟩:∃n c,Ac C1 prog fu (d+2) 51 [.agg [Aw a.kh,Ah a.kr]]=some ⟨[.own 1 n c,Aw (if Dt a.kh=true then 9 else 0)],[]⟩:=by
  by_cases bh:Dt a.kh=true
  ·exact⟨_,_,by rw[Cx bh] at ek0;rw[Cx bh];exact ek0⟩
  ·exact⟨_,_,by rw[Br bh] at ek0;rw[Br bh];exact ek0⟩
 refine (Qp fu (d+2) a.rp a.fl a.ct a.rg a.md a.idn a.id a.kh a.kr).trans ?_;unfold vE;cases b1:AJ .i64 a.fl 93 != 0
 rotate_left
 ·simp only[A5,A6,b1,cond_true]
 have q1:(decide ((0:Int)<=a.ct)&&decide (a.ct<=16))=(!decide (a.ct<0) && !decide (a.ct>16)):=by rw[Bool.eq_iff_iff];simp<;>omega
 have q2:(decide ((0:Int)<=a.rg)&&decide (a.rg<=15))=(!decide (a.rg<0) && !decide (a.rg>=16)):=by rw[Bool.eq_iff_iff];simp<;>omega
 rw[q1] at w1;rw[q2] at w2;cases b2:decide (a.ct<0)
 rotate_left
 ·rw[b2] at w1;simp only[G9,SU] at w1;simp only[A5,A6,b1,w1,cond_true,cond_false]
 cases b3:decide (a.ct>16)
 rotate_left
 ·rw[b2,b3] at w1;simp only[G9,Kd,Bool.and_false] at w1;simp only[A5,A6,b1,w1,cond_true,cond_false]
 rw[b2,b3] at w1;simp only[Kd,Bool.and_true] at w1;cases b4:decide (a.rg<0)
 rotate_left
 ·rw[b4] at w2;simp only[G9,SU] at w2;simp only[A5,A6,b1,w1,w2,cond_true,cond_false]
 cases b5:decide (a.rg>=16)
 rotate_left
 ·rw[b4,b5] at w2;simp only[G9,Kd,Bool.and_false] at w2;simp only[A5,A6,b1,w1,w2,cond_true,cond_false]
 rw[b4,b5] at w2;simp only[Kd,Bool.and_true] at w2;unfold vT;have gz:decide (((a.idn:Nat):Int)>0) = !(((a.idn:Nat):Int)==0):=by rw[Bool.eq_iff_iff];simp<;>omega
 rw[Aq2] at b1;simp only[A5,A6,Aq2,b1,w1,w2,gz,cond_true,cond_false];cases b16:Du .i64 a.fl 16==0<;>cases b8:Du .i64 a.fl 8==0<;>cases b64:Du .i64 a.fl 64==0<;>simp only[A5,A6,b8,b16,b64,cond_true,cond_false]
 all_goals first
  |(cases bm:a.md==0<;>cases bi:((a.idn:Nat):Int)==0<;>cases bk:(a.kh==0&&a.kr==0)<;>simp only[A5,A6,bm,bi,bk,cond_true,cond_false]<;>done)
  |(cases bl:((a.idn:Nat):Int) != 176<;>simp only[A5,A6,bl,ek,cond_true,cond_false])
end
def adN(b:Aj):L8:=⟨Anv (b.take 8),b.getD 8 0,b.getD 9 0,b.getD 10 0,0,0,[],0,0⟩
def adK(b:Aj)(k:Ky):L8:=⟨Anv (b.take 8),b.getD 8 0,b.getD 9 0,b.getD 10 0,Anv ((b.drop 11).take 8),176,Ad .u8 ((b.drop 19).take 176),k.h,k.root⟩
def Xv(b:Aj):Option L8:=
 if b.length=11 then (if Du .i64 (b.getD 8 0) 64=0 then (if vE (adN b)=0 then some (adN b) else none) else none)
 else if b.length=204 then (if Du .i64 (b.getD 8 0) 64=0 then none else match Aa6 (b.drop 195) with|some k=>if vE (adK b k)=0 then some (adK b k) else none|none=>none)
 else none
theorem Axh{b:Aj}(h:b.length=11)(hf:Du .i64 (b.getD 8 0) 64=0):Xv b=if vE (adN b)=0 then some (adN b) else none:=by unfold Xv;rw[Cx h,Cx hf]
theorem GU{b:Aj}(hf:Du .i64 (b.getD 8 0) 64≠0):Xv b=if b.length=204 then (match Aa6 (b.drop 195) with|some k=>if vE (adK b k)=0 then some (adK b k) else none|none=>none) else none:=by
 unfold Xv;by_cases h:b.length=11
 ·rw[Cx h,Br hf,Br (by omega)]
 ·rw[Br h];by_cases h2:b.length=204
  ·rw[Cx h2,Cx h2,Br hf]
  ·rw[Br h2,Br h2]
theorem Atp{b:Aj}(h:b.length≠11)(hf:Du .i64 (b.getD 8 0) 64=0):Xv b=none:=by
 unfold Xv;rw[Br h];by_cases h2:b.length=204
 ·rw[Cx h2,Cx hf]
 ·rw[Br h2]
theorem Asy{b:Aj}(h:b.length≠11)(h2:b.length≠204):Xv b=none:=by unfold Xv;rw[Br h,Br h2]
def Ara(o:Option L8):Ae:=match o with|some a=>[.agg a.owned,Aw 0]|none=>[.agg ad0.owned,Aw 2]
section
variable {fu d:Nat}
theorem Alw{call:Aq}{n:Nat}{c:Ae}{l:Aj}(hl:l.length<=1000):∀(r:Aj)(j nn:Nat)(x:Int),l.drop j=r->r.length<nn->j<=l.length ->
  Jq fu call n c nn x l.length (Ad .u8 l) (l.length:Int) (j:Int)=some ⟨[Ah (r.foldl Mq x)],[]⟩:=by
 intro r
 induction r with
 |nil=>
  intro j nn x hd hn hj;obtain⟨m,rfl⟩:∃m,nn=m+1:=⟨nn-1,by omega⟩
  have:=drop_nil hd;rw[Ro,Hk _ _ _ (by omega)];rfl
 |cons y r ih=>
  intro j nn x hd hn hj;obtain⟨m,rfl⟩:∃m,nn=m+1:=⟨nn-1,by omega⟩
  obtain⟨Cq,hy,hd'⟩:=D8 hd;have g:=GG (k:=.u8) hy;have nt:Int.toNat (j:Int)=j:=Jp _;have w1:wrap .i64 ((j:Int)+1)=((j+1:Nat):Int):=Bq
  have e:=ih (j+1) m (Mq x y) hd' (by simp at hn;omega) (by omega)
  rw[Ro];simp(disch:=omega)only[A5,A6,nt,Kb,g,w1];exact e
theorem Adh(Bi:1000<=fu){l:Aj}(hl:l.length=8):Ac C1 prog fu (d+1) 59 [.lst false 1 8 (Ad .u8 l)]=some ⟨[Ah (Anv l)],[]⟩:=by refine (MN fu d 8 (Ad .u8 l)).trans ?_;have e:=Alw (fu:=fu) (call:=Ac C1 prog fu d) (n:=8) (c:=Ad .u8 l) (l:=l) (by omega) l 0 fu 0 rfl (by omega) (by omega);rw[hl] at e;exact e
theorem Atm{l:Aj}(h:l.length≠9):Aa6 l=none:=by unfold Aa6;rw[Br (fun q=>h q.1)]
theorem Aio{b:Aj}(hb:Cm b)(i:Nat):0<=b.getD i 0/\b.getD i 0<=255:=by
 rw[List.getD_eq_getElem?_getD];cases h:b[i]? with
 |none=>exact⟨by simp,by simp⟩
 |some y=>exact hb y (List.mem_of_getElem? h)
theorem Aha{b:Aj}{i:Nat}(h:i<b.length):(Ad .u8 b).getD i .top=.sc (.int .u8 (b.getD i 0)):=by have g:b[i]?=some b[i]:=List.getElem?_eq_getElem h;have e:=GG (k:=.u8) g;rw[e,List.getD_eq_getElem?_getD,g];rfl
set_option maxHeartbeats 2000000 in
theorem Ayz(Bi:1000<=fu){b:Aj}(hb:Cm b)(hl:b.length<=100000):Ac C1 prog fu (d+4) 30 [.lst false 1 b.length (Ad .u8 b)]=some ⟨Ara (Xv b),[]⟩:=by
 refine (FW fu (d+3) b.length (Ad .u8 b)).trans ?_;by_cases h11:b.length<11
 ·have a1:=dT (q:=((b.length:Nat):Int)<11) (by omega);rw[Asy (by omega) (by omega)];simp only[A5,A6,a1];rfl
 have a1:=dF (q:=((b.length:Nat):Int)<11) (by omega);have c1:=dT (q:=8<=b.length) (by omega);have c2:=dT (q:=(8:Int)<((b.length:Nat):Int)) (by omega);have c3:=dT (q:=(9:Int)<((b.length:Nat):Int)) (by omega);have c4:=dT (q:=(10:Int)<((b.length:Nat):Int)) (by omega);have d1:List.take 8 (List.drop 0 (Ad .u8 b))=Ad .u8 (b.take 8):=by rw[Ma,Ie]
 have wd:=Adh (fu:=fu) (d:=d+2) Bi (l:=b.take 8) (by rw[List.length_take];omega)
 have g8:=Aha (b:=b) (i:=8) (by omega);have g9:=Aha (b:=b) (i:=9) (by omega);have g10:=Aha (b:=b) (i:=10) (by omega);have u8:wrap .i64 (b.getD 8 0)=b.getD 8 0:=by have:=Aio hb 8;exact Bb
 have u9:wrap .i64 (b.getD 9 0)=b.getD 9 0:=by have:=Aio hb 9;exact Bb
 have u10:wrap .i64 (b.getD 10 0)=b.getD 10 0:=by have:=Aio hb 10;exact Bb
 have hs:=YU (fu:=fu) (d:=d+2) (adN b) 64;simp only[L8.cells,adN] at hs;cases hf:Du .i64 (b.getD 8 0) 64 != 0 with
 |false=>
  rw[hf] at hs;have hf0:Du .i64 (b.getD 8 0) 64=0:=by simpa using hf
  by_cases hgt:11<b.length
  ·have a2:=dT (q:=((b.length:Nat):Int)>11) (by omega);rw[Atp (by omega) hf0];simp only[A5,A6,a1,c1,c2,c3,c4,d1,wd,g8,g9,g10,u8,u9,u10,hs,a2];rfl
  have a2:=dF (q:=((b.length:Nat):Int)>11) (by omega);have vd:=Akz (fu:=fu) (d:=d) Bi (adN b);rw[Axh (by omega) hf0];by_cases hv:vE (adN b)=0
  ·rw[Cx hv];rw[hv] at vd;simp only[L8.cells,adN] at vd;have z:((0:Int) != 0)=false:=rfl;simp only[A5,A6,a1,c1,c2,c3,c4,d1,wd,g8,g9,g10,u8,u9,u10,hs,a2,vd,z];rfl
  ·rw[Br hv];have z:(vE (adN b) != 0)=true:=by simpa using hv
   generalize vE (adN b)=ve at vd z;simp only[L8.cells,adN] at vd;simp only[A5,A6,a1,c1,c2,c3,c4,d1,wd,g8,g9,g10,u8,u9,u10,hs,a2,vd,z];rfl
 |true=>
  rw[hf] at hs;have hf0:Du .i64 (b.getD 8 0) 64≠0:=by simpa using hf
  by_cases Blo:b.length<195
  ·have a2:=dT (q:=((b.length:Nat):Int)<195) (by omega);rw[GU hf0,Br (by omega)];simp only[A5,A6,a1,c1,c2,c3,c4,d1,wd,g8,g9,g10,u8,u9,u10,hs,a2];rfl
  have a2:=dF (q:=((b.length:Nat):Int)<195) (by omega);have a3:=dT (q:=195<=b.length) (by omega);have a4:=dT (q:=b.length<=b.length) (Cs _)
  have d2:List.take ((b.length-195)*1) (List.drop 195 (Ad .u8 b))=Ad .u8 (b.drop 195):=by
   rw[Lo];exact H5 (by rw[Ak,List.length_drop];omega)
  have dk:=Amh (xs:=HZ) (fu:=fu) (d:=d+1) Bi (l:=b.drop 195) (hb.drop 195);rw[List.length_drop] at dk;cases hk:Aa6 (b.drop 195) with
  |none=>
   rw[hk] at dk;simp only[Ag3,Ky.cells] at dk
   have e:Xv b=none:=by
    rw[GU hf0,hk];split<;>rfl
   have z:((2:Int) != 0)=true:=rfl;rw[e];simp only[A5,A6,a1,c1,c2,c3,c4,d1,wd,g8,g9,g10,u8,u9,u10,hs,a2,a3,a4,d2,dk,z];rfl
  |some k=>
   rw[hk] at dk;simp only[Ag3,Ky.cells] at dk
   have Bgj:b.length=204:=by
    rcases Nat.decEq (b.drop 195).length 9 with q|q
    ·rw[Atm q] at hk;cases hk
    ·rw[List.length_drop] at q;omega
   have z0:((0:Int) != 0)=false:=rfl;have a5:=dT (q:=19<=b.length) (by omega);have d3:List.take 8 (List.drop 11 (Ad .u8 b))=Ad .u8 ((b.drop 11).take 8):=by rw[Lo,Ie]
   have wd2:=Adh (fu:=fu) (d:=d+2) Bi (l:=(b.drop 11).take 8) (by rw[List.length_take,List.length_drop];omega)
   have d4:List.take 176 (List.drop 19 (Ad .u8 b))=Ad .u8 ((b.drop 19).take 176):=by rw[Lo,Ie]
   have li:(Ad .u8 ((b.drop 19).take 176)).length=176:=by rw[Ak,List.length_take,List.length_drop];omega
   have cb:=UX (xs:=HZ) (fu:=fu) (d:=d+2) (n:=176) (c:=Ad .u8 ((b.drop 19).take 176)) li (by omega);have c5:decide (0+176*1<=List.length (Ad .u8 ((b.drop 19).take 176)))=true:=dT (by omega);have t1:List.take (176*1) (List.drop 0 (Ad .u8 ((b.drop 19).take 176)))=Ad .u8 ((b.drop 19).take 176):=H5 (by rw[Ma];omega)
   have c6:decide (176*1<=List.length (Ad .u8 ((b.drop 19).take 176)))=true:=dT (by omega);have t2:List.take (176*1) (Ad .u8 ((b.drop 19).take 176))=Ad .u8 ((b.drop 19).take 176):=H5 (by omega);have vd:=Akz (fu:=fu) (d:=d) Bi (adK b k);rw[GU hf0,Cx Bgj,hk];by_cases hv:vE (adK b k)=0
   ·simp only[hv,if_true];rw[hv] at vd;simp only[L8.cells,adK] at vd;simp only[A5,A6,a1,c1,c2,c3,c4,d1,wd,g8,g9,g10,u8,u9,u10,hs,a2,a3,a4,d2,dk,z0,a5,d3,wd2,d4,cb,c5,t1,vd,c6,t2];rfl
   ·simp only[hv,if_false];have z:(vE (adK b k) != 0)=true:=by simpa using hv
    generalize vE (adK b k)=ve at vd z;simp only[L8.cells,adK] at vd;simp only[A5,A6,a1,c1,c2,c3,c4,d1,wd,g8,g9,g10,u8,u9,u10,hs,a2,a3,a4,d2,dk,z0,a5,d3,wd2,d4,cb,c5,t1,vd,z];rfl
end
structure Cf where
 rp:ByteArray
 ti:ByteArray
 os:List ByteArray
 p:YJ
 sec:Int
 kh:Int
 kr:Int
def MT(l:List ByteArray):Ae:=l.flatMap fun s=>[Bk s]
theorem A3q{l:List ByteArray}{i:Nat}{s:ByteArray}(h:l[i]?=some s):(MT l).getD (i*1) .top=Bk s:=OY (k:=1) (fun _=>rfl) h (j:=0) (by omega)
def Cf.cells(c:Cf):Ae:=[Bk (c.rp),Bk (c.ti),.lst false 1 c.os.length (MT c.os),Aw c.p.vf,Cz (c.p.rs),Aw c.p.ht,Aw c.p.pr,Cz (c.p.sh),Aw c.p.fm,Cz (c.p.od),.lst false 1 c.p.dn.length (Ad .u64 c.p.dn),Aw c.p.op,Ah c.sec,Aw c.kh,Ah c.kr]
structure Cf.ok(c:Cf):Prop where
 rp:c.rp.size<=100000
 os:c.os.length<=1000
 dn:c.p.dn.length<=1000
structure Rq where
 kind:Int
 cd:ByteArray
 ad:Aj
 sg:Aj
 cn:Nat
 cc:Ae
 fm:Int
 id:Aj
 us:ByteArray
def Rq.cells(r:Rq):Ae:=[Aw r.kind,Bk (r.cd),.lst false 1 r.ad.length (Ad .u8 r.ad),.lst false 1 r.sg.length (Ad .u8 r.sg),.lst false 1 r.cn r.cc,Aw r.fm,.lst false 1 r.id.length (Ad .u8 r.id),Bk (r.us)]
structure Rq.ok(r:Rq):Prop where
 cd:r.cd.size<=100000
 adB:Cm r.ad
 ad:r.ad.length<=90000
 sgB:Cm r.sg
structure Mn where
 k:Int
 na:Nat
 an:Ae
 st:List (Int × Int)
def Mn.cells(e:Mn):Ae:=[Ah e.k,.lst false 3 e.na e.an,.lst false 2 e.st.length (rgC e.st)]
def mnC(l:List Mn):Ae:=l.flatMap Mn.cells
structure Mt where
 v:Int
 i:Int
 x:Int
 es:List Mn
 lf:Int
 n1:Nat
 c1:Ae
 n2:Nat
 c2:Ae
def Mt.cells(m:Mt):Ae:=[Aw m.v,Aw m.i,Aw m.x,.lst false 3 m.es.length (mnC m.es),Aw m.lf,.lst false 1 m.n1 m.c1,.lst false 1 m.n2 m.c2]
structure Mt.ok(m:Mt):Prop where
 n:m.es.length<=1000
 e:∀e∈m.es,e.an.length=e.na*3/\e.na<=1000/\e.st.length<=1000
def stS(m:Mt)(model now:Int):Int:=Zx now (match m.es.find? fun e=>e.k==model with|some e=>e.st|none=>[])
theorem Axb(l:List Mn):(mnC l).length=l.length*3:=RF (f:=Mn.cells) (k:=3) (fun _=>rfl) l
def mnE(e:Mn):En:=⟨e.k,e.na,e.an,e.st.length,rgC e.st⟩
theorem UL:∀{l:List Mn},(∀e∈l,e.an.length=e.na*3/\e.na<=1000/\e.st.length<=1000)->Vw (mnC l)=some (l.map mnE)
 |[],_=>rfl
 |x::l,h=>by
  have h0:=h x (by simp);have ih:=UL (l:=l) fun y hy=>h y (by simp[hy])
  have b:(Nat.beq x.an.length (x.na*3)&&Nat.beq (rgC x.st).length (x.st.length*2)&&Nat.ble x.na 1000&&Nat.ble x.st.length 1000)=true:=by
   rw[XV,h0.1];simp only[Qq,YD,E0];exact⟨Nat.ble_eq_true_of_le h0.2.1,Nat.ble_eq_true_of_le h0.2.2⟩
  show Vw (Ah x.k :: .lst false 3 x.na x.an :: .lst false 2 x.st.length (rgC x.st)::mnC l)=_;rw[Vw,b,cond_true,ih];rfl
theorem OL:∀(l:List (Int × Int)),Ql (rgC l)=some l
 |[]=>rfl
 |s::l=>by
  show Ql (Aw s.1 :: Aw s.2::rgC l)=_;rw[Ql,OL l];rfl
theorem Ai9(model:Int):∀(l:List Mn),Al6 model (l.map mnE)=match l.find? fun e=>e.k==model with|some e=>rgC e.st|none=>[]
 |[]=>rfl
 |x::l=>by
  have ih:=Ai9 model l;unfold Al6 at ih ⊢;by_cases h:x.k=model
  ·rw[Vv,List.find?_cons_of_pos (by simpa [mnE] using h),List.find?_cons_of_pos (by simpa using h)];rfl
  ·rw[Vv,List.find?_cons_of_neg (by simpa [mnE] using h),List.find?_cons_of_neg (by simpa using h)];exact ih
def YC(os:List ByteArray)(s:ByteArray):Bool:=os.any fun o=>Array.toList s.data==Array.toList o.data
def MI(os:List ByteArray)(k:Int)(ch:Aj)(r:Rq):Int:=
 bif r.kind != k then 3 else match Mg r.cd with
 |.error e=>bif e != 0 then e else 3
 |.ok (j,b,o,x,q)=>bif j != k then 3 else bif !eqB b ch then 35 else bif !YC os (Ab o) then 34 else bif x then (bif !YC os (Ab q) then 34 else 0) else 0
section
variable {fu d:Nat}
theorem All(fu d:Nat)(args:Ae):Ac C1 prog fu (d+1) 38 args=Ajw args:=by kernel_rfl
theorem Atg{m:Mt}(hm:m.ok)(model now:Int):Ac C1 prog fu (d+1) 38 [.agg m.cells,Ah model,Aw now]=some ⟨[Aw (stS m model now)],[]⟩:=by
 rw[All]
 have b:(Nat.beq (mnC m.es).length (m.es.length*3)&&Nat.ble m.es.length 1000)=true:=by
  rw[Axb];simp only[Qq,YD];exact Nat.ble_eq_true_of_le hm.n
 show (bif (Nat.beq (mnC m.es).length (m.es.length*3)&&Nat.ble m.es.length 1000) then _ else none)=_;rw[b,cond_true,UL hm.e];simp only;rw[Ai9];unfold stS;cases m.es.find? fun e=>e.k==model with
 |none=>rfl
 |some e=>
  simp only;rw[OL]
theorem Am5{call:Aq}{n:Nat}{c:Ae}{t s:ByteArray}{os:List ByteArray}(hl:os.length<=1000):∀(r:List ByteArray)(i nn:Nat),os.drop i=r->r.length<nn->i<=os.length ->
  ∃v:Int,decide (v>=0)=YC r s/\Fy fu call n c t nn os.length (MT os) s (os.length:Int) (i:Int)=some ⟨[Aw v],[]⟩:=by
 intro r
 induction r with
 |nil=>
  intro i nn hd hn hi;obtain⟨m,rfl⟩:∃m,nn=m+1:=⟨nn-1,by omega⟩
  have:=drop_nil hd;refine⟨-1,rfl,?_⟩;rw[Kw,Hk _ _ _ (by omega)]
 |cons o r ih=>
  intro i nn hd hn hi;obtain⟨m,rfl⟩:∃m,nn=m+1:=⟨nn-1,by omega⟩
  obtain⟨Cq,ho,hd'⟩:=D8 hd;have g:=A3q ho;have nt:Int.toNat (i:Int)=i:=Jp _;have w1:wrap .i64 ((i:Int)+1)=((i+1:Nat):Int):=Bq
  have k1:=dT (q:=(i:Int)<((os.length:Nat):Int)) (by omega);have k2:=dT (q:=(0:Int)<=(i:Int)) (by omega);rw[Kw];cases hk:Array.toList s.data==Array.toList o.data with
  |true=>
   refine⟨(i:Int),by unfold YC;rw[List.any_cons,hk,Bool.true_or];exact dT (by omega),?_⟩
   simp only[A5,A6,k1,k2,nt,g,hk]
  |false=>
   obtain⟨v,h1,h2⟩:=ih (i+1) m hd' (by simp at hn;omega) (by omega)
   refine⟨v,by rw[h1];unfold YC;rw[List.any_cons,hk,Bool.false_or],?_⟩
   simp only[A5,A6,k1,k2,nt,g,hk,w1];exact h2
theorem Azj(Bi:2000<=fu){os:List ByteArray}(hl:os.length<=1000)(s:ByteArray):Ac C1 prog fu (d+2) 58 [.lst false 1 os.length (MT os),Bk s]=some ⟨[Cz (YC os s)],[]⟩:=by obtain⟨v,h1,h2⟩:=Am5 (fu:=fu) (call:=Ac C1 prog fu d) (n:=os.length) (c:=MT os) (t:=s) (s:=s) hl os 0 fu rfl (by omega) (by omega);have e:Ac C1 prog fu (d+1) 94 [.lst false 1 os.length (MT os),Bk s]=some ⟨[Aw v],[]⟩:=(Xz fu d os.length (MT os) s).trans h2;refine (Ud fu (d+1) os.length (MT os) s).trans ?_;simp only[A5,A6,e];rw[h1]
end
abbrev sd0:Sd:=⟨[],0,0,0,0,false,0,[],false,0,0⟩
section
variable {fu d:Nat}
end
abbrev Ye:ByteArray:=ByteArray.mk #[101,120,97,109,112,108,101,46,99,111,109]
abbrev tiS:ByteArray:=ByteArray.mk #[69,120,97,109,112,108,101]
abbrev oxS:ByteArray:=ByteArray.mk #[104,116,116,112,115,58,47,47,101,120,97,109,112,108,101,46,99,111,109]
abbrev olS:ByteArray:=ByteArray.mk #[104,116,116,112,115,58,47,47,108,111,103,105,110,46,101,120,97,109,112,108,101,46,99,111,109]
abbrev cfW(p:YJ)(sec:Int):Cf:=⟨Ye,tiS,[oxS,olS],p,sec,4,(Sk 31 4).root⟩
theorem A3d{p:YJ}(h:p.dn.length<=2)(sec:Int):(cfW p sec).ok:=⟨by show Ye.size<=_;decide,by show (2:Nat)<=1000;omega,by show p.dn.length<=1000;omega⟩
abbrev A80:YJ:=⟨0,false,1,1,false,0,false,[],50⟩
def JU(sh vf:Bool):Int:=if vf=true then (if sh=true then 13 else 5) else if sh=true then 9 else 1
def T7(a:L8):Aj:=if vE a=0 then Bf a.rp++[wrap .u8 a.fl,wrap .u8 a.ct,wrap .u8 a.rg] else []
def asT(ch o:Aj):ByteArray:=Ab (match Yk 2 ch o [] false with | .ok s=>s | .error _=>[])
def asA(rp:ByteArray)(sh vf:Bool)(leaf f:Int):L8:=⟨B6 9 (B0 rp),JU sh vf,wrap .i64 (leaf+1),f,0,0,[],0,0⟩
def asG(seed h leaf m:Int):Aj:=match Add seed h leaf m with|some s=>sgB s|none=>[]
def Aht(seed h:Int)(id:Aj)(sh:Bool)(rp:ByteArray)(o ch:Aj)(vf:Bool)(leaf f:Int)(us:ByteArray):Rq:=
 ⟨2,asT ch o,T7 (asA rp sh vf leaf f),asG seed h leaf (YN (T7 (asA rp sh vf leaf f)) (B6 11 (B0 (asT ch o)))),0,[],0,id,us⟩
theorem Aco{ch o:Aj}(ho:o.length<=50000):(asT ch o).size<=60000:=by
 unfold asT;rw[Ag];cases h:Yk 2 ch o [] false with
 |error e=>simp
 |ok s=>
  simp only;unfold Yk at h;have ty:tyS 2=some tyG:=rfl;rw[ty] at h;simp only at h;split at h
  ·cases h
  split at h
  ·cases h
  simp only[if_true] at h;cases h;have hel:=FB ch;rename_i hc _;simp only[fmH,NC,ON,ZB,fA4,tyG,Vo,Po,NS];omega
theorem Ad9(a:L8):(T7 a).length<=11:=by
 unfold T7;split
 ·rw[Vo,B4];simp
 ·simp
theorem Atz(v:Int):0<=wrap .u8 v/\wrap .u8 v<=255:=by
 have:wrap .u8 v=v % 256:=by simp[wrap,IntKind.bits,IntKind.signed]
 omega
theorem Asz(a:L8):Cm (T7 a):=by
 unfold T7;split
 ·refine Wh (Tg _) ?_;intro x hx;simp only[List.mem_cons,List.not_mem_nil,or_false] at hx;rcases hx with rfl|rfl|rfl<;>exact Atz _
 ·intro x hx;cases hx
theorem Asv(seed h leaf m:Int):Cm (asG seed h leaf m):=by
 unfold asG;split
 ·exact A69 _
 ·intro x hx;cases hx
theorem Aye{seed h:Int}{id:Aj}{sh:Bool}{rp:ByteArray}{o ch:Aj}{vf:Bool}{leaf f:Int}{us:ByteArray}(ho:o.length<=50000):(Aht seed h id sh rp o ch vf leaf f us).ok:=
 ⟨by have:=Aco (ch:=ch) ho;show (asT ch o).size<=_;omega,Asz _,by have:=Ad9 (asA rp sh vf leaf f);show (T7 _).length<=_;omega,Asv _ _ _ _⟩
section
variable {fu d:Nat}
theorem Atd(Bi:1000<=fu)(seed h:Int):Ac C1 prog fu (d+13) 16 [Ah seed,Aw h]=some ⟨[.agg (Sk seed h).cells],[]⟩:=by refine (EK fu (d+12) seed h).trans ?_;have p:=OQ (xs:=HZ) (fu:=fu) (d:=d) Bi seed h;simp only[Ky.cells] at p ⊢;simp only[A5,A6,p]
theorem Azn(n:Int):Ac C1 prog fu (d+2) 43 [.pbox (dkc [] 0),Aw n]=some ⟨[Aw 0],[dkc [] 0]⟩:=
 (Um fu (d+1) 0 [] 0 n).trans rfl
theorem A8h(Bi:1000<=fu)(n h:Int)(sh:Bool):∃id,Cm id/\id.length=176/\Ac C1 prog fu (d+7) 7 [Aw n,Aw h,Cz sh]=some ⟨[.agg [Ah (wrap .u64 (1000+wrap .u64 n)),Aw h,.own 1 176 (Ad .u8 id),Cz sh]],[]⟩:=by obtain⟨r,r1,r2,r3⟩:=A09 (fu:=fu) (d:=d) (p:=pG) Bi (wrap .i64 (500+n)) (n:=176) (by omega);have r3:Ac C1 prog fu (d+6) 15 [Aw (wrap .i64 (500+n)),Aw 176]=_:=r3;refine⟨r,r1,r2,?_⟩;have L:=Ak .u8 r;have t:List.take (176*1) (Ad .u8 r)=Ad .u8 r:=H5 (by omega);have c1:decide (176*1<=List.length (Ad .u8 r))=true:=dT (by omega);refine (Tz fu (d+6) n h sh).trans ?_;simp only[A5,A6,r3,c1,t]
theorem Aej(seed h:Int)(n:Nat)(c:Ae)(sh vf:Bool):Ac C1 prog fu (d+1) 22 [.agg [Ah seed,Aw h,.lst false 1 n c,Cz sh],Cz vf]=some ⟨[Aw (JU sh vf)],[]⟩:=by refine (Tw fu d seed h n c sh vf).trans ?_;cases vf<;>cases sh<;>rfl
theorem Ax6(Bi:1000<=fu){a:L8}(h64:Du .i64 a.fl 64=0):Ac C1 prog fu (d+4) 23 [.agg a.cells]=some ⟨[.own 1 (T7 a).length (Ad .u8 (T7 a)),Aw (vE a)],[]⟩:=by
 refine (J2 fu (d+3) a.rp a.fl a.ct a.rg a.md a.idn a.id a.kh a.kr).trans ?_;have vd:=VY (fu:=fu) (d:=d) Bi a;simp only[L8.cells] at vd;unfold T7;by_cases hv:vE a=0
 ·rw[hv] at vd;rw[Cx hv];have z0:((0:Int) != 0)=false:=rfl;have f0:(Du .i64 a.fl 64 != 0)=false:=by rw[h64];rfl
  have o1:=Ak7 (xs:=HZ) (fu:=fu) (d:=d+2) Bi a.rp;have l1:(Ad .u8 (Bf a.rp)).length=8:=by rw[Ak,B4]
  have c1:decide (8*1<=List.length (Ad .u8 (Bf a.rp)))=true:=dT (by omega);have t1:List.take (8*1) (Ad .u8 (Bf a.rp))=Ad .u8 (Bf a.rp):=H5 (by omega);have c2:decide ((8+3)*1<=1099511627776)=true:=rfl;have c3:decide (8+3<=1099511627776)=true:=rfl;have e:Ad .u8 (Bf a.rp++[wrap .u8 a.fl,wrap .u8 a.ct,wrap .u8 a.rg])=Ad .u8 (Bf a.rp)++[PV.sc (.int .u8 (wrap .u8 a.fl)),.sc (.int .u8 (wrap .u8 a.ct)),.sc (.int .u8 (wrap .u8 a.rg))]:=by simp[Ad,List.flatMap_append]
  have l2:(Ad .u8 (Bf a.rp)++[PV.sc (.int .u8 (wrap .u8 a.fl)),.sc (.int .u8 (wrap .u8 a.ct)),.sc (.int .u8 (wrap .u8 a.rg))]).length=11:=by rw[Vo,l1];rfl
  have c4:decide ((8+3)*1<=List.length (Ad .u8 (Bf a.rp)++[PV.sc (.int .u8 (wrap .u8 a.fl)),.sc (.int .u8 (wrap .u8 a.ct)),.sc (.int .u8 (wrap .u8 a.rg))]))=true:=dT (by omega);have t2:List.take ((8+3)*1) (Ad .u8 (Bf a.rp)++[PV.sc (.int .u8 (wrap .u8 a.fl)),.sc (.int .u8 (wrap .u8 a.ct)),.sc (.int .u8 (wrap .u8 a.rg))])=Ad .u8 (Bf a.rp)++[PV.sc (.int .u8 (wrap .u8 a.fl)),.sc (.int .u8 (wrap .u8 a.ct)),.sc (.int .u8 (wrap .u8 a.rg))]:=H5 (by omega);have ll:(Bf a.rp++[wrap .u8 a.fl,wrap .u8 a.ct,wrap .u8 a.rg]).length=11:=by rw[Vo,B4];rfl
  rw[ll,e,hv];simp only[A5,A6,vd,z0,o1,c1,c2,c3,t1,f0,c4,t2]
 ·have z:(vE a != 0)=true:=by simpa using hv
  rw[Br hv];simp only[A5,A6,vd,z];rfl
theorem Awu(sh vf:Bool):Du .i64 (JU sh vf) 64=0:=by cases sh<;>cases vf<;>decide
set_option maxHeartbeats 2000000 in
theorem Al7(Bi:1000400<=fu){seed h:Int}{id:Aj}{sh:Bool}{rp:ByteArray}{o ch:Aj}{vf:Bool}{leaf f:Int}{us:ByteArray}(hrp:rp.size<=100000)(hoB:Cm o)(ho:o.length<=50000)(ES:Cm ch)(hc:ch.length<=50000):
  Ac C1 prog fu (d+13) 13 [.agg [Ah seed,Aw h,.lst false 1 id.length (Ad .u8 id),Cz sh],Bk rp,Bk (Ab o),.lst false 1 ch.length (Ad .u8 ch),Cz vf,Aw leaf,Aw f,Bk us]=some ⟨[.agg (Aht seed h id sh rp o ch vf leaf f us).cells],[]⟩:=by
 refine (Sn fu (d+12) seed h id.length (Ad .u8 id) sh rp (Ab o) ch.length (Ad .u8 ch) vf leaf f us).trans ?_;have fm:Ac C1 prog fu (d+12) 20 [cdA 2 ch o [] false]=some (Ars (Yk 2 ch o [] false)):=VI (fu:=fu) (d:=d+6) (p:=pG) ES hoB (fun x hx=>nomatch hx) (by omega) (by omega) (by simp) (by omega) (by omega) (by omega) (by simp;omega)
 obtain⟨T,hT⟩:∃T,asT ch o=T:=⟨_,rfl⟩
 obtain⟨fe,fm⟩:∃fe,Ac C1 prog fu (d+12) 20 [.agg [Aw 2,.lst false 1 ch.length (Ad .u8 ch),Bk (Ab o),Cz false,Bk ⟨#[]⟩]]=some ⟨[Bk T,Aw fe],[]⟩:=by
  unfold asT at hT;cases hq:Yk 2 ch o [] false with
  |ok s=>rw[hq] at fm hT;exact⟨0,by rw[<-hT];exact fm⟩
  |error e=>rw[hq] at fm hT;exact⟨e,by rw[<-hT];exact fm⟩
 have hTs:T.size<=60000:=by rw[<-hT];exact Aco ho
 have hr:=YS (fu:=fu) (d:=d+7) (s:=rp) (by omega) Bi;have fl:=Aej (fu:=fu) (d:=d+11) seed h id.length (Ad .u8 id) sh vf;have en:Ac C1 prog fu (d+12) 23 [.agg [Ah (B6 9 (B0 rp)),Aw (JU sh vf),Aw (wrap .i64 (leaf+1)),Aw f,Ah 0,.lst false 1 0 [],Aw 0,Ah 0]]=some ⟨[.own 1 (T7 (asA rp sh vf leaf f)).length (Ad .u8 (T7 (asA rp sh vf leaf f))),Aw (vE (asA rp sh vf leaf f))],[]⟩:=Ax6 (fu:=fu) (d:=d+8) (by omega) (a:=asA rp sh vf leaf f) (Awu sh vf);have hA1:=Asz (asA rp sh vf leaf f);have hA2:=Ad9 (asA rp sh vf leaf f);have hd:=VZ (fu:=fu) (d:=d+7) (s:=T) (by omega) Bi;have ms:=Ajl (fu:=fu) (d:=d+7) hA1 (by omega) Bi (B6 11 (B0 T))
 obtain⟨M,hM⟩:∃M,YN (T7 (asA rp sh vf leaf f)) (B6 11 (B0 T))=M:=⟨_,rfl⟩
 rw[hM] at ms;have sg:=RZ (xs:=HZ) (fu:=fu) (d:=d) (by omega) seed h leaf M;have LA:=Ak .u8 (T7 (asA rp sh vf leaf f));have cA:decide (0+(T7 (asA rp sh vf leaf f)).length*1<=List.length (Ad .u8 (T7 (asA rp sh vf leaf f))))=true:=dT (by omega);have tA:List.take ((T7 (asA rp sh vf leaf f)).length*1) (List.drop 0 (Ad .u8 (T7 (asA rp sh vf leaf f))))=Ad .u8 (T7 (asA rp sh vf leaf f)):=H5 (by rw[Ma];omega)
 have Aci:(Aht seed h id sh rp o ch vf leaf f us).cells=[Aw 2,Bk T,.lst false 1 (T7 (asA rp sh vf leaf f)).length (Ad .u8 (T7 (asA rp sh vf leaf f))),.lst false 1 (asG seed h leaf M).length (Ad .u8 (asG seed h leaf M)),.lst false 1 0 [],Aw 0,.lst false 1 id.length (Ad .u8 id),Bk us]:=by
  unfold Aht Rq.cells;rw[hT,hM]
 rw[Aci];clear Aci hM hT;unfold asG;cases hs:Add seed h leaf M with
 |none=>
  rw[hs] at sg;simp only[EN,Sg.owned] at sg;have es:=DS (xs:=HZ) (fu:=fu) (d:=d+10) (by omega) ⟨0,[],[]⟩ (by simp);have q1:Dt (([]:Aj).length:Int)=false:=by decide
  have q2:Jh 0 (([]:Aj).length:Int)=false:=by decide
  simp only at es;rw[q1,q2,Br (by simp),Br (by simp),Cx (by simp)] at es;have es:Ac C1 prog fu (d+12) 27 [.agg [Aw 0,.lst false 1 0 [],.lst false 1 0 []]]=some ⟨[.own 1 0 [],Aw 4],[]⟩:=es;have sg:Ac C1 prog fu (d+12) 26 [Ah seed,Aw h,Aw leaf,Ah M]=some ⟨[.agg [Aw 0,.own 1 0 [],.own 1 0 []],Aw 9],[]⟩:=sg;have c0:decide (0+0*1<=List.length ([]:Ae))=true:=rfl;have t0:List.take (0*1) (List.drop 0 ([]:Ae))=[]:=rfl;simp only[A5,A6,fm,hr,fl,en,hd,cA,tA,ms,sg,c0,t0,es];rfl
 |some s=>
  rw[hs] at sg;simp only[EN,Sg.owned] at sg
  have HY:Dt h=false/\Jh leaf h=false/\s.leaf=leaf/\s.chains.length=18/\(s.path.length:Int)=h:=by
   unfold Add at hs;cases hh:Dt h
   ·rw[hh,Br (by simp)] at hs;cases hO:Jh leaf h
    ·rw[hO,Br (by simp)] at hs;cases hs;have:=Iu hh;exact⟨rfl,rfl,rfl,by simp[X9],by simp;omega⟩
    ·rw[hO,Cx rfl] at hs;cases hs
   ·rw[hh,Cx rfl] at hs;cases hs
  obtain⟨g1,g2,g3,g4,g5⟩:=HY;have hb:=Iu g1;have es:=DS (xs:=HZ) (fu:=fu) (d:=d+10) (by omega) s (by omega);rw[g5,g3,g1,g2,g4,Br (by simp),Br (by simp),Br (by simp)] at es;simp only[Sg.cells] at es;have L1:=Ak .u64 s.chains;have L2:=Ak .u64 s.path;have L3:=Ak .u8 (sgB s);have c1:decide (0+s.chains.length*1<=List.length (Ad .u64 s.chains))=true:=dT (by omega);have c2:decide (0+s.path.length*1<=List.length (Ad .u64 s.path))=true:=dT (by omega);have c3:decide (0+(sgB s).length*1<=List.length (Ad .u8 (sgB s)))=true:=dT (by omega);have t1:List.take (s.chains.length*1) (List.drop 0 (Ad .u64 s.chains))=Ad .u64 s.chains:=H5 (by rw[Ma];omega)
  have t2:List.take (s.path.length*1) (List.drop 0 (Ad .u64 s.path))=Ad .u64 s.path:=H5 (by rw[Ma];omega)
  have t3:List.take ((sgB s).length*1) (List.drop 0 (Ad .u8 (sgB s)))=Ad .u8 (sgB s):=H5 (by rw[Ma];omega)
  simp only[A5,A6,fm,hr,fl,en,hd,cA,tA,ms,sg,c1,c2,t1,t2,es,c3,t3]
end
section
variable {xs:FuncId->Option (Ae->Option A4)}(fu d:Nat)(call:Aq)
theorem Nz{p:FuncId->Option (Ae->Option A4)}(fu d:Nat)(T S:ByteArray)(Z:Nat)(Y:Ae)(Q:Int)(P:Bool)(O N:Int)(M:Bool)(L:Int)(K:Bool)(J:Nat)(I:Ae)(H G:Int)(E D:Int)(X:Nat)(W:Ae)(V:Int)(U:ByteArray)(B:Nat)(A:Ae)(z:Nat)(w:Ae)(v:Nat)(u:Ae)(Bb8:Int)(A7u:Nat)(Bcl:Ae)(Bco:ByteArray):Ac (CP p) prog fu (d+1) 29 [.agg [T,S,As 1 Z Y,Q,P,O,N,M,L,K,As 1 J I,H,Ah G,E,Ah D],As 1 X W,.agg [V,U,As 1 B A,As 1 z w,As 1 v u,Bb8,As 1 A7u Bcl,Bco]]=(fun (call:Aq)=>Ay (V != 1) (Bg [(3:Int)]) (Dv (call 57 [U]) fun a b=>Ef a fun a=>Do .i64 a fun a c=>Wv 1 c fun c e f=>Ai f fun f g=>Bu f fun f=>Ai g fun g h=>Bm g fun g=>Ai h fun h i=>Bu h fun h=>Ao i<|Dl .i64 b fun b=>Ay (b != 0) (Bg [b]) (Ay (a != 1) (Bg [(3:Int)]) (Dv (call 32 [As 1 c e,As 1 X W]) fun a b=>Bm a fun a=>Ao b<|Ay (!a) (Bg [(35:Int)]) (Dv (call 58 [As 1 Z Y,f]) fun a b=>Bm a fun a=>Ao b<|Ay (!a) (Bg [(34:Int)]) (Ay g (Dv (call 58 [As 1 Z Y,h]) fun a b=>Bm a fun a=>Ao b<|Ay (!a) (Bg [(34:Int)]) (Bg [(0:Int)])) (Bg [(0:Int)]))))))) (Ac (CP p) prog fu d):=by kernel_rfl
theorem Xu{p:FuncId->Option (Ae->Option A4)}(fu d:Nat)(P T:Int)(O N U:Int)(S:Nat)(Q:Ae)(W V:Int)(X M:Int)(Z Y:Int):Ac (CP p) prog fu (d+1) 39 [.agg [Ah P,T,O,N,Ah U,As 1 S Q,W,Ah V],.agg [X,M,Z],Y]=(fun (call:Aq)=>Dv (call 62 [As 1 S Q]) fun a b=>Lg 1 a fun a c=>Ao b<|Aa (Du .i64 T 8) fun b=>(fun f:PV=>Ay (X==2) (Ay (decide (Z>=0)) (Ar (decide (0<=Z))<|Aa (Fp .u64 1 Z) fun e=>Ar (decide (a*1<=c.length))<|Bg [.agg [f,W,Ah V,Ah U,X,Cz (b != 0),Ah e,.own 2 1 [(0:Int),Z],false,Y,Y]]) (Ar (decide (a*1<=c.length))<|Bg [.agg [f,W,Ah V,Ah U,X,Cz (b != 0),Ah 0,.own 2 0 [],false,Y,Y]])) (Ay (decide (Z>=0)) (Ar (decide (0<=Z))<|Aa (Fp .u64 1 Z) fun e=>Ar (decide (a*1<=c.length))<|Bg [.agg [f,W,Ah V,Ah 0,X,Cz (b != 0),Ah e,.own 2 1 [(0:Int),Z],false,Y,Y]]) (Ar (decide (a*1<=c.length))<|Bg [.agg [f,W,Ah V,Ah 0,X,Cz (b != 0),Ah 0,.own 2 0 [],false,Y,Y]]))) (.own 1 a (c.take (a*1)))) (Ac (CP p) prog fu d):=by kernel_rfl
theorem Xw{p:FuncId->Option (Ae->Option A4)}(fu d:Nat)(T Ah7:ByteArray)(A0h:Nat)(Agx:Ae)(S:Int)(Q:Bool)(P O:Int)(N:Bool)(M:Int)(L:Bool)(K:Nat)(J:Ae)(I Az5:Int)(Az7 Az2:Int)(H G E:Int)(D:Nat)(B:Ae)(A:Int)(z:Nat)(w:Ae)(v:Nat)(u:Ae)(a2n:Nat)(a2:Ae)(a3n:Nat)(a3:Ae)(Z A6y:Int)(W:ByteArray)(Y:Nat)(X:Ae)(Azw:Nat)(A9o:Ae)(Azl:Nat)(A8w:Ae)(A8z:Int)(V:Nat)(U:Ae)(A9s:ByteArray):Ac (CP p) prog fu (d+1) 12 [.agg [T,Ah7,As 1 A0h Agx,S,Q,P,O,N,M,L,As 1 K J,I,Ah Az5,Az7,Ah Az2],.agg [H,G,E,As 3 D B,A,As 1 z w,As 1 v u],As 3 a2n a2,As 1 a3n a3,Z,.agg [A6y,W,As 1 Y X,As 1 Azw A9o,As 1 Azl A8w,A8z,As 1 V U,A9s]]=(fun (call:Aq)=>(fun R:PV=>(fun z2:PV=>Ay (decide (Z<0)) (Bg [R,(9:Int)]) (Ay (decide (Z>1099511627776)) (Bg [R,(9:Int)]) (Ge .i64 (call 29 [.agg [T,Ah7,As 1 A0h Agx,S,Q,P,O,N,M,L,As 1 K J,I,Ah Az5,Az7,Ah Az2],As 1 a3n a3,z2]) fun a=>Ay (a != 0) (Bg [R,a]) (Dv (call 30 [As 1 Y X]) fun a b=>Ef a fun a=>Do .u64 a fun a c=>Do .i64 c fun c e=>Do .i64 e fun e f=>Do .i64 f fun f g=>Do .u64 g fun g h=>JG 1 h fun h i j=>Do .i64 j fun j k=>Dl .u64 k fun k=>Dl .i64 b fun b=>Ay (b != 0) (Bg [R,b]) (Aa (Du .i64 c 64) fun b=>Ay (b==0) (Bg [R,(4:Int)]) (Ge .u64 (call 31 [T]) fun b=>(fun z4:PV=>Ay (a != b) (Bg [R,(34:Int)]) (Ar (decide (0+h*1<=i.length))<|Dv (call 32 [As 1 V U,z4]) fun b m=>Bm b fun b=>Ao m<|Ay (!b) (Bg [R,(4:Int)]) (Ge .u64 (call 34 [W]) fun b=>Ge .u64 (call 33 [As 1 Y X,Ah b]) fun b=>(fun z3:PV=>Dv (call 35 [z3,Ah g]) fun m n=>Ef m fun m=>Do .u64 m fun m o=>Wv 3 o fun m o q=>Wv 2 q fun q s t=>Ao t<|Q6 n fun n=>(fun z1:PV=>Ar (decide (0+h*1<=i.length))<|Dv (call 36 [z2,z1,Ah b,As 3 m o,As 3 a2n a2,Z]) fun b m=>Ef b fun b=>Do .i64 b fun b n=>Do .i64 n fun n o=>Dl .i64 o fun o=>Dl .i64 m fun m=>Ay (m != 0) (Bg [R,m]) (Ge .i64 (call 38 [z3,Ah g,Z]) fun m=>Ar (decide (0+h*1<=i.length))<|Ge .i64 (call 37 [.agg [S,Q,P,O,N,M,L,As 1 K J,I],z1,.agg [b,n,o],m]) fun m=>Ay (m != 0) (Bg [R,m]) (Ar (decide (0+h*1<=i.length))<|Dv (call 39 [z1,.agg [b,n,o],Z]) fun a b=>Ef a fun a=>JG 1 a fun a c e=>Do .i64 e fun e f=>Do .u64 f fun f g=>Do .u64 g fun g h=>Do .i64 h fun h i=>Ai i fun i j=>Bm i fun i=>Do .u64 j fun j k=>JG 2 k fun k m n=>Ai n fun n o=>Bm n fun n=>Do .i64 o fun o q=>Dl .i64 q fun q=>Ao b<|Ar (decide (a*1<=c.length))<|Ar (decide (k*2<=m.length))<|Bg [.agg [.own 1 a (c.take (a*1)),e,Ah f,Ah g,h,i,Ah j,.own 2 k (m.take (k*2)),n,o,q],(0:Int)]))) (.agg [Ah a,c,e,f,Ah g,z4,j,Ah k])) (.agg [H,G,E,As 3 D B,A,As 1 z w,As 1 v u])))) (As 1 h (List.take (h*1) (i.drop 0))))))))) (.agg [A6y,W,As 1 Y X,As 1 Azw A9o,As 1 Azl A8w,A8z,As 1 V U,A9s])) (.agg [.own 1 0 [],(0:Int),Ah 0,Ah 0,(0:Int),false,Ah 0,.own 2 0 [],false,(0:Int),(0:Int)])) (Ac (CP p) prog fu d):=by kernel_rfl
end
section
variable {xs:FuncId->Option (Ae->Option A4)}(fu d:Nat)(call:Aq)
theorem Ty{p:FuncId->Option (Ae->Option A4)}(fu d:Nat)(T:Int)(S:ByteArray)(Q:Nat)(P:Ae)(Z:Nat)(Y:Ae)(X:Nat)(O:Ae)(N:Int)(M:Nat)(L:Ae)(K:ByteArray)(J I:Int)(H G E:Int)(D:Nat)(B:Ae)(W V U:Int):Ac (CP p) prog fu (d+1) 68 [.agg [T,S,As 1 Q P,As 1 Z Y,As 1 X O,N,As 1 M L,K],.agg [Ah J,I,H,G,Ah E,As 1 D B,W,Ah V],Ah U]=(fun (call:Aq)=>(fun i:PV=>Ay (decide ((↑X:Int)>0)) (Bg [i,(4:Int)]) (Dv (call 102 [As 1 Z Y]) fun a b=>Ef a fun a=>Do .i64 a fun a c=>JG 1 c fun c e f=>JG 1 f fun f g h=>Ao h<|Dl .i64 b fun b=>Ay (b != 0) (Bg [i,b]) (Ar (decide (0+c*1<=e.length))<|Ar (decide (0+f*1<=g.length))<|Ge .i64 (call 103 [.agg [W,Ah V],Ah U,.agg [a,As 1 c (List.take (c*1) (e.drop 0)),As 1 f (List.take (f*1) (g.drop 0))]]) fun b=>Ay (b != 0) (Bg [i,b]) (Bg [.agg [(1:Int),(-1:Int),a],(0:Int)])))) (.agg [(0:Int),(0:Int),(0:Int)])) (Ac (CP p) prog fu d):=by kernel_rfl
def F9(Z:Int)(Y:ByteArray)(X:Nat)(W:Ae)(V:Nat)(U:Ae)(T:Nat)(S:Ae)(Q:Int)(P:Nat)(O:Ae)(N:ByteArray)(M L:Int)(K J I:Int)(H:Nat)(G:Ae)(E D B:Int)(A:Nat)(z:Ae)(w:Nat)(v:Ae)(u:Int)(t:Nat)(y0:Int)(y1:Nat)(y2:Ae)(y3:Nat)(y4:Ae)(y5:Int)(y6 y7:Nat)(y8:Ae)(y9 y10 y11:Int)(y12:ByteArray)(y13:Nat)(y14:Ae)(y15:Nat)(y16:Ae)(y17:Nat)(y18:Ae)(ST:Int)(TD:Nat)(SZ:Ae)(SV:ByteArray)(TC NK:Int)(NZ y26 VK:Int)(y28:Nat)(y29:Ae)(y30 y31:Int)(y32 y33 y34:Int)(y35:Ae):Option A4:=K0 fu call 69 Tryz.f69 [.agg [Z,Y,As 1 X W,As 1 V U,As 1 T S,Q,As 1 P O,N],.agg [Ah M,L,K,J,Ah I,As 1 H G,E,Ah D],Ah B,As 3 A z,As 3 w v,u] [.r,.r,.r,.l,.r,.l] t ⟨lk [(2,Ah y0),(3,As 3 y1 y2),(4,As 3 y3 y4),(5,y5),(6,.ptr 6 0),(7,.ptr 7 0),(12,.ptr 12 0),(14,.view 14 13 0 y6),(36,As 1 y7 y8),(37,y9),(38,y10)],Fx [(6,.st [y11,y12,As 1 y13 y14,As 1 y15 y16,As 1 y17 y18,ST,As 1 TD SZ,SV]),(7,.st [Ah TC,NK,NZ,y26,Ah VK,As 1 y28 y29,y30,Ah y31]),(12,.st [y32,y33,y34]),(14,.ar false y35)]⟩
theorem Pw(J:Int)(I:ByteArray)(H:Nat)(G:Ae)(E:Nat)(D:Ae)(B:Nat)(A:Ae)(z:Int)(w:Nat)(v:Ae)(u:ByteArray)(t A7j:Int)(Baj A7p A67:Int)(Azu:Nat)(A92:Ae)(A72 A8i a2:Int)(a3n:Nat)(a3:Ae)(a4n:Nat)(a4:Ae)(a5:Int)(nn:Nat)(W:Int)(V:Nat)(U:Ae)(T:Nat)(S:Ae)(Q:Int)(Y P:Nat)(O:Ae)(N X y11:Int)(y12:ByteArray)(y13:Nat)(y14:Ae)(M:Nat)(L:Ae)(y17:Nat)(y18:Ae)(ST:Int)(TD:Nat)(SZ:Ae)(SV:ByteArray)(TC NK:Int)(NZ y26 K:Int)(y28:Nat)(y29:Ae)(y30 y31:Int)(y32 y33 y34:Int)(Z:Ae):F9 fu call J I H G E D B A z w v u t A7j Baj A7p A67 Azu A92 A72 A8i a2 a3n a3 a4n a4 a5 (nn+1) W V U T S Q Y P O N X y11 y12 y13 y14 M L y17 y18 ST TD SZ SV TC NK NZ y26 K y28 y29 y30 y31 y32 y33 y34 Z=((fun R:PV=>Ay (decide (X<N)) (Ar (decide (0<=X)&&decide (X<(↑P:Int)))<|Vn 1 (O.getD (X.toNat*1) .top) fun a b c=>Dv (call 104 [As 1 b c]) fun a b=>Ef a fun a=>Ai a fun a c=>Bu a fun a=>Ai c fun c e=>Bu c fun c=>Do .u64 e fun e f=>Do .i64 f fun f g=>Do .u64 g fun g h=>Do .i64 h fun h i=>Do .i64 i fun i j=>Ai j fun j k=>Bm j fun j=>Do .i64 k fun k m=>Do .u64 m fun m n=>Do .i64 n fun n o=>Wv 1 o fun o p q=>Wv 1 q fun q s x48=>Ao x48<|Dl .i64 b fun b=>Ay (b != 0) (Bg [R,b]) (ZzA Y 13 152 Z [a,c,Ah e,f,Ah g,h,i,j,k,Ah m,n,As 1 o p,As 1 q s] fun a b=>Aa (wrap .i64 (X+1)) fun c=>F9 fu call J I H G E D B A z w v u t A7j Baj A7p A67 Azu A92 A72 A8i a2 a3n a3 a4n a4 a5 nn W V U T S Q a P O N c y11 y12 y13 y14 M L y17 y18 ST TD SZ SV TC NK NZ y26 K y28 y29 y30 y31 y32 y33 y34 b)) (Ar (decide (0<(↑Y:Int)))<|Bu (Z.getD 0 .top) fun a=>Bu (Z.getD 1 .top) fun a=>Ba .u64 (Z.getD 2 .top) fun a=>Ba .i64 (Z.getD 3 .top) fun a=>Ba .u64 (Z.getD 4 .top) fun b=>Ba .i64 (Z.getD 5 .top) fun c=>Ba .i64 (Z.getD 6 .top) fun c=>Bm (Z.getD 7 .top) fun c=>Ba .i64 (Z.getD 8 .top) fun e=>Ba .u64 (Z.getD 9 .top) fun e=>Ba .i64 (Z.getD 10 .top) fun f=>Vn 1 (Z.getD 11 .top) fun f g h=>Vn 1 (Z.getD 12 .top) fun f g h=>Ay c (Bg [R,(38:Int)]) (Ay (e==0) (Bg [R,(38:Int)]) (Ay (e != K) (Bg [R,(38:Int)]) (Dv (call 102 [As 1 M L]) fun c e=>Ef c fun c=>Do .i64 c fun c f=>JG 1 f fun f g h=>JG 1 h fun h i j=>Ao j<|Dl .i64 e fun e=>Ay (e != 0) (Bg [R,e]) (Ar (decide (0+f*1<=g.length))<|Ar (decide (0+h*1<=i.length))<|Ge .i64 (call 103 [.agg [a,Ah b],Ah W,.agg [c,As 1 f (List.take (f*1) (g.drop 0)),As 1 h (List.take (h*1) (i.drop 0))]]) fun a=>Ay (a != 0) (Bg [R,a]) (Ar (decide (0+Y*13<=Z.length))<|Dv (call 105 [As 13 Y (List.take (Y*13) (Z.drop 0)),As 3 V U,As 3 T S,Q]) fun a b=>Ba .i64 a fun a=>Dl .i64 b fun b=>Ay (b != 0) (Bg [R,b]) (Bg [.agg [(2:Int),a,(-1:Int)],(0:Int)])))))))) (.agg [(0:Int),(0:Int),(0:Int)])):=by kernel_rfl
theorem Sh{p:FuncId->Option (Ae->Option A4)}(fu d:Nat)(X:Int)(W:ByteArray)(V:Nat)(U:Ae)(T:Nat)(S:Ae)(Z:Nat)(Y:Ae)(Q:Int)(P:Nat)(O:Ae)(N:ByteArray)(M L:Int)(K J I:Int)(H:Nat)(G:Ae)(E D B:Int)(A:Nat)(z:Ae)(w:Nat)(v:Ae)(u:Int):Ac (CP p) prog fu (d+1) 69 [.agg [X,W,As 1 V U,As 1 T S,As 1 Z Y,Q,As 1 P O,N],.agg [Ah M,L,K,J,Ah I,As 1 H G,E,Ah D],Ah B,As 3 A z,As 3 w v,u]=(fun (call:Aq)=>(fun a:Option A4=>Ay (decide ((↑Z:Int)<1)) a (Ay (decide ((↑Z:Int)>3)) a (F9 fu call X W V U T S Z Y Q P O N M L K J I H G E D B A z w v u fu B A z w v u 0 Z Y (↑Z:Int) 0 X W V U T S Z Y Q P O N M L K J I H G E D 0 0 0 ([])))) (Bg [.agg [(0:Int),(0:Int),(0:Int)],(38:Int)])) (Ac (CP p) prog fu d):=by kernel_rfl
theorem Ov{p:FuncId->Option (Ae->Option A4)}(fu d:Nat)(V:Int)(U:ByteArray)(T:Nat)(S:Ae)(Y:Nat)(Q:Ae)(X:Nat)(P:Ae)(Z:Int)(O:Nat)(N:Ae)(M:ByteArray)(L W:Int)(K J I:Int)(H:Nat)(G:Ae)(E D B:Int)(A:Nat)(z:Ae)(w:Nat)(v:Ae)(u:Int):Ac (CP p) prog fu (d+1) 36 [.agg [V,U,As 1 T S,As 1 Y Q,As 1 X P,Z,As 1 O N,M],.agg [Ah L,W,K,J,Ah I,As 1 H G,E,Ah D],Ah B,As 3 A z,As 3 w v,u]=(fun (call:Aq)=>Aa (Du .i64 W 64) fun a=>(fun i:PV=>(fun f:Option A4=>(fun g:PV=>(fun h:PV=>Ay (a==0) f (Ay (Z==0) (Ay (decide ((↑Y:Int)>0)) f (Ay (decide ((↑X:Int)>0)) f (Bg [.agg [(0:Int),(-1:Int),(-1:Int)],(0:Int)]))) (Ay (Z==1) (Dv (call 68 [g,h,Ah B]) fun a b=>Ef a fun a=>Do .i64 a fun a c=>Do .i64 c fun c e=>Dl .i64 e fun e=>Dl .i64 b fun b=>Bg [.agg [a,c,e],b]) (Ay (Z==2) (Dv (call 69 [g,h,Ah B,As 3 A z,As 3 w v,u]) fun a b=>Ef a fun a=>Do .i64 a fun a c=>Do .i64 c fun c e=>Dl .i64 e fun e=>Dl .i64 b fun b=>Bg [.agg [a,c,e],b]) (Bg [i,(3:Int)]))))) (.agg [Ah L,W,K,J,Ah I,As 1 H G,E,Ah D])) (.agg [V,U,As 1 T S,As 1 Y Q,As 1 X P,Z,As 1 O N,M])) (Bg [i,(4:Int)])) (.agg [(0:Int),(0:Int),(0:Int)])) (Ac (CP p) prog fu d):=by kernel_rfl
end
def Sd.ownd(x:Sd):Ae:=[.own 1 x.id.length (Ad .u8 x.id),Aw x.ht,Ah x.root,Ah x.model,Aw x.fmt,Cz (x.sh),Ah x.used,.own 2 x.rg.length (rgC x.rg),Cz (x.sus),Aw x.since,Aw x.last]
def An6(a:L8)(id:Aj)(f lf now:Int):Sd:=
 ⟨id,a.kh,a.kr,bif f==2 then a.md else 0,f,Du .i64 a.fl 8 != 0,bif decide (lf>=0) then Fp .u64 1 lf else 0,bif decide (lf>=0) then [(0,lf)] else [],false,now,now⟩
structure Att where
 f:Int
 an:Int
 lf:Int
 e:Int
def NN(b:Aj):Aj:=(b.drop 19).take 176
def Apo(c:Cf)(m:Mt)(now:Int)(r:Rq)(a:L8)(T:Att):Sd × Int:=
 bif Du .i64 a.fl 64==0 then (sd0,4) else
 bif a.rp != B6 9 (B0 c.rp) then (sd0,34) else
 bif !eqB r.id (NN r.ad) then (sd0,4) else
 bif T.e != 0 then (sd0,T.e) else
 bif MA c.p a T.f (stS m a.md now) != 0 then (sd0,MA c.p a T.f (stS m a.md now)) else (An6 a (NN r.ad) T.f T.lf now,0)
def Y3(c:Cf)(m:Mt)(ch:Aj)(now:Int)(r:Rq)(T:L8->Att):Sd × Int:=
 bif decide (now<0) then (sd0,9) else bif decide (now>1099511627776) then (sd0,9) else
 bif MI c.os 1 ch r != 0 then (sd0,MI c.os 1 ch r) else
 match Xv r.ad with|none=>(sd0,2)|some a=>Apo c m now r a (T a)
theorem Aw7{b:Aj}{a:L8}(hb:Cm b)(h:Xv b=some a)(h2:Du .i64 a.fl 64≠0):a.idn=176/\a.id=Ad .u8 (NN b)/\(NN b).length=176/\Cm (NN b):=by
 have hB:Cm (NN b):=fun x hx=>hb x (List.mem_of_mem_drop (List.mem_of_mem_take hx));unfold Xv at h;split at h
 ·split at h
  ·rename_i q;split at h
   ·cases h;exact absurd q h2
   ·cases h
  ·cases h
 ·split at h
  ·rename_i hl;split at h
   ·cases h
   ·split at h
    ·split at h
     ·cases h;exact⟨rfl,rfl,by unfold NN;rw[List.length_take,List.length_drop];omega,hB⟩
     ·cases h
    ·cases h
  ·cases h
def lkE(m:Mt)(model:Int):En:=Th model (m.es.map mnE)
theorem A3z(l:List Mn):mnC l=Wy (l.map mnE):=by
 induction l with
 |nil=>rfl
 |cons x l ih=>
  show x.cells++mnC l=(mnE x).cells++Wy (l.map mnE);rw[ih];rfl
section
variable {fu d:Nat}
theorem Awg(Bi:1000<fu){m:Mt}(hm:m.ok)(model:Int):∃b,Ac C1 prog fu (d+3) 35 [.agg m.cells,Ah model]=some ⟨[.agg (lkE m model).cells,Cz b],[]⟩:=by
 obtain⟨b,h⟩:=At2 (xs:=HZ) (fu:=fu) (d:=d) (es:=m.es.map mnE) (by rw[List.length_map];exact hm.n) Bi (fun e he=>by
  obtain⟨x,hx,rfl⟩:=List.mem_map.1 he;have h0:=hm.e x hx;exact⟨h0.1,XV x.st,h0.2.1,h0.2.2⟩) m.v m.i m.x m.lf model m.n1 m.n2 m.c1 m.c2
 rw[List.length_map,<-A3z] at h;exact⟨b,h⟩
theorem Af6{a:L8}{id:Aj}(hn:a.idn=id.length)(hi:a.id=Ad .u8 id)(hl:id.length<=1000000)(f an lf now:Int):
  Ac C1 prog fu (d+2) 39 [.agg a.cells,.agg [Aw f,Aw an,Aw lf],Aw now]=some ⟨[.agg (An6 a id f lf now).ownd],[]⟩:=by
 have L:=Ak .u8 id;have cb:=UX (xs:=HZ) (fu:=fu) (d:=d) (n:=id.length) (c:=Ad .u8 id) L hl;refine (Xu fu (d+1) a.rp a.fl a.ct a.rg a.md a.idn a.id a.kh a.kr f an lf now).trans ?_;rw[hn,hi];have c1:decide (id.length*1<=List.length (Ad .u8 id))=true:=dT (by omega);have t1:List.take (id.length*1) (Ad .u8 id)=Ad .u8 id:=H5 (by omega);unfold An6;cases h1:f==2<;>cases h2:decide (lf>=0)
 ·simp only[A5,A6,cb,h1,h2,c1,t1,cond_true,cond_false];rfl
 ·have c2:decide ((0:Int)<=lf)=true:=h2;simp only[A5,A6,cb,h1,h2,c1,c2,t1,cond_true,cond_false];rfl
 ·simp only[A5,A6,cb,h1,h2,c1,t1,cond_true,cond_false];rfl
 ·have c2:decide ((0:Int)<=lf)=true:=h2;simp only[A5,A6,cb,h1,h2,c1,c2,t1,cond_true,cond_false];rfl
set_option maxHeartbeats 2000000 in
theorem Awv(Bi:1000400<=fu){c:Cf}(hc:c.ok)(ch:Aj){r:Rq}(hr:r.ok):Ac C1 prog fu (d+3) 29 [.agg c.cells,.lst false 1 ch.length (Ad .u8 ch),.agg r.cells]=some ⟨[Aw (MI c.os 1 ch r)],[]⟩:=by
 refine (Nz fu (d+2) c.rp c.ti c.os.length (MT c.os) c.p.vf c.p.rs c.p.ht c.p.pr c.p.sh c.p.fm c.p.od c.p.dn.length (Ad .u64 c.p.dn) c.p.op c.sec c.kh c.kr ch.length (Ad .u8 ch) r.kind r.cd r.ad.length (Ad .u8 r.ad) r.sg.length (Ad .u8 r.sg) r.cn r.cc r.fm r.id.length (Ad .u8 r.id) r.us).trans ?_;unfold MI;cases h1:r.kind != 1
 rotate_left
 ·simp only[A5,A6,h1,cond_true]
 have e:Ac C1 prog fu (d+2) 57 [Bk (r.cd)]=JD [Bk (r.cd)]:=rfl;unfold JD at e;simp only[dT (q:=r.cd.size<=9223372036854775807) (by have:=hr.cd;omega),cond_true] at e
 cases hp:Mg r.cd with
 |error ee=>
  rw[hp] at e;have e:Ac C1 prog fu (d+2) 57 [Bk (r.cd)]=some ⟨[.agg [Aw 0,.lst false 1 0 [],Bk ⟨#[]⟩,Cz false,Bk ⟨#[]⟩],Aw ee],[]⟩:=e;have z:((0:Int) != 1)=true:=rfl;cases h2:ee != 0
  ·simp only[A5,A6,h1,e,h2,z,cond_false]
  ·simp only[A5,A6,h1,e,h2,cond_true,cond_false]
 |ok v=>
  obtain⟨k,b,o,x,q⟩:=v;rw[hp] at e;have e:Ac C1 prog fu (d+2) 57 [Bk (r.cd)]=some ⟨[.agg [Aw k,.lst false 1 b.length (Ad .u8 b),Bk (Ab o),Cz x,Bk (Ab q)],Aw 0],[]⟩:=e;have z:((0:Int) != 0)=false:=rfl;have be:=Afj (fu:=fu) (d:=d+1) b ch;have o1:=Azj (fu:=fu) (d:=d) (by omega) hc.os (Ab o);have o2:=Azj (fu:=fu) (d:=d) (by omega) hc.os (Ab q);simp only;cases h2:k != 1
  rotate_left
  ·simp only[A5,A6,h1,e,z,h2,cond_true,cond_false]
  cases h3:eqB b ch
  ·rw[h3] at be;simp only[A5,A6,h1,e,z,h2,be,cond_true,cond_false]
  rw[h3] at be;cases h4:YC c.os (Ab o)
  ·rw[h4] at o1;simp only[A5,A6,h1,e,z,h2,be,o1,cond_true,cond_false]
  rw[h4] at o1;cases x with
  |false=>simp only[A5,A6,h1,e,z,h2,be,o1,cond_true,cond_false]
  |true=>
   cases h5:YC c.os (Ab q)
   ·rw[h5] at o2;simp only[A5,A6,h1,e,z,h2,be,o1,o2,cond_true,cond_false]
   ·rw[h5] at o2;simp only[A5,A6,h1,e,z,h2,be,o1,o2,cond_true,cond_false]
set_option maxHeartbeats 8000000 in
theorem Ajb(Bi:1000400<=fu){c:Cf}(hc:c.ok){m:Mt}(hm:m.ok)(rn:Nat)(rc:Ae)(ch:Aj)(now:Int){r:Rq}(hr:r.ok)(T:L8->Att)(hT:MI c.os 1 ch r=0->∀a,Xv r.ad=some a->Du .i64 a.fl 64≠0->Ac C1 prog fu (d+10) 36 [.agg r.cells,.agg a.cells,Ah (YN r.ad (B6 11 (B0 r.cd))),.lst false 3 (lkE m a.md).na (lkE m a.md).an,.lst false 3 rn rc,Aw now]=some ⟨[.agg [Aw (T a).f,Aw (T a).an,Aw (T a).lf],Aw (T a).e],[]⟩):
  Ac C1 prog fu (d+11) 12 [.agg c.cells,.agg m.cells,.lst false 3 rn rc,.lst false 1 ch.length (Ad .u8 ch),Aw now,.agg r.cells]=some ⟨[.agg (Y3 c m ch now r T).1.ownd,Aw (Y3 c m ch now r T).2],[]⟩:=by
 refine (Xw fu (d+10) c.rp c.ti c.os.length (MT c.os) c.p.vf c.p.rs c.p.ht c.p.pr c.p.sh c.p.fm c.p.od c.p.dn.length (Ad .u64 c.p.dn) c.p.op c.sec c.kh c.kr m.v m.i m.x m.es.length (mnC m.es) m.lf m.n1 m.c1 m.n2 m.c2 rn rc ch.length (Ad .u8 ch) now r.kind r.cd r.ad.length (Ad .u8 r.ad) r.sg.length (Ad .u8 r.sg) r.cn r.cc r.fm r.id.length (Ad .u8 r.id) r.us).trans ?_;unfold Y3;cases n1:decide (now<0)
 rotate_left
 ·simp only[A5,A6,n1,cond_true];rfl
 cases n2:decide (now>1099511627776)
 rotate_left
 ·simp only[A5,A6,n1,n2,cond_true,cond_false];rfl
 have cl:=Awv (fu:=fu) (d:=d+7) Bi hc ch hr;simp only[Cf.cells,Rq.cells] at cl;cases h1:MI c.os 1 ch r != 0
 rotate_left
 ·simp only[A5,A6,n1,n2,cl,h1,cond_true,cond_false];rfl
 have da:=Ayz (fu:=fu) (d:=d+6) (by omega) hr.adB (by have:=hr.ad;omega)
 have z0:((0:Int) != 0)=false:=rfl;have z2:((2:Int) != 0)=true:=rfl;cases ha:Xv r.ad with
 |none=>
  rw[ha] at da;simp only[Ara,L8.owned] at da;simp only[A5,A6,n1,n2,cl,h1,da,z2,cond_true,cond_false];rfl
 |some a=>
  rw[ha] at da;simp only[Ara,L8.owned] at da;simp only;unfold Apo;cases h3:Du .i64 a.fl 64==0
  rotate_left
  ·simp only[A5,A6,n1,n2,cl,h1,da,z0,h3,cond_true,cond_false];rfl
  have f64:Du .i64 a.fl 64≠0:=by simpa using h3
  obtain⟨i1,i2,i3,i4⟩:=Aw7 hr.adB ha f64;have at1:=hT (by simpa using h1) a ha f64;have sto:=Af6 (fu:=fu) (d:=d+8) (a:=a) (id:=NN r.ad) (by rw[i1,i3]) i2 (by omega) (T a).f (T a).an (T a).lf now;have rgs:=A04 (fu:=fu) (d:=d+6) c.p (by have:=hc.dn;simp only[maxLen];omega) (by have:=hc.dn;omega) a (T a).f (T a).an (T a).lf (stS m a.md now)
  simp only[Rq.cells,L8.cells,YJ.cells] at at1 sto rgs;rw[i1,i2] at da at1 sto rgs;have rp:=A4m (fu:=fu) (d:=d+4) (s:=c.rp) (by have:=hc.rp;omega) Bi
  cases h4:a.rp != B6 9 (B0 c.rp)
  rotate_left
  ·simp only[A5,A6,n1,n2,cl,h1,da,z0,h3,rp,h4,cond_true,cond_false];rfl
  have be:=Afj (fu:=fu) (d:=d+9) r.id (NN r.ad);rw[i3] at be;have Li:=Ak .u8 (NN r.ad);have k1:decide (0+176*1<=List.length (Ad .u8 (NN r.ad)))=true:=dT (by omega);have t1:List.take (176*1) (List.drop 0 (Ad .u8 (NN r.ad)))=Ad .u8 (NN r.ad):=H5 (by rw[Ma];omega)
  cases h2:eqB r.id (NN r.ad)
  ·rw[h2] at be;simp only[A5,A6,n1,n2,cl,h1,da,z0,h3,rp,h4,k1,t1,be,cond_true,cond_false];rfl
  rw[h2] at be;have hh:=Aty (fu:=fu) (d:=d+4) (s:=r.cd) (by have:=hr.cd;omega) Bi
  have hw:=Ayv (fu:=fu) (d:=d+4) hr.adB (by have:=hr.ad;omega) Bi (B6 11 (B0 r.cd))
  obtain⟨lb,lk⟩:=Awg (fu:=fu) (d:=d+7) (by omega) hm a.md;simp only[Mt.cells,En.cells] at lk;cases h5:(T a).e != 0
  rotate_left
  ·simp only[A5,A6,n1,n2,cl,h1,da,z0,h3,rp,h4,k1,t1,be,hh,hw,lk,at1,h5,cond_true,cond_false];rfl
  have st:=Atg (fu:=fu) (d:=d+9) hm a.md now;simp only[Mt.cells] at st;obtain⟨G,hG⟩:∃G,MA c.p a (T a).f (stS m a.md now)=G:=⟨_,rfl⟩
  rw[hG] at rgs ⊢;cases h7:G != 0
  rotate_left
  ·simp only[A5,A6,n1,n2,cl,h1,da,z0,h3,rp,h4,k1,t1,be,hh,hw,lk,at1,h5,st,rgs,h7,cond_true,cond_false];rfl
  obtain⟨S,hS⟩:∃S,An6 a (NN r.ad) (T a).f (T a).lf now=S:=⟨_,rfl⟩
  have S1:S.id.length=176:=by rw[<-hS];exact i3
  rw[hS] at sto ⊢;simp only[Sd.ownd] at sto ⊢;have Ls:=Ak .u8 S.id;have Lr:=XV S.rg;have k2:decide (S.id.length*1<=List.length (Ad .u8 S.id))=true:=dT (by omega);have t2:List.take (S.id.length*1) (Ad .u8 S.id)=Ad .u8 S.id:=H5 (by omega);have k3:decide (S.rg.length*2<=List.length (rgC S.rg))=true:=dT (by omega);have t3:List.take (S.rg.length*2) (rgC S.rg)=rgC S.rg:=H5 (by omega);simp only[A5,A6,n1,n2,cl,h1,da,z0,h3,rp,h4,k1,t1,be,hh,hw,lk,at1,h5,st,rgs,h7,sto,k2,t2,k3,t3,cond_true,cond_false]
end
def Ar3(r:Rq)(a:L8)(w:Int):Att:=
 bif decide ((r.cn:Int)>0) then ⟨0,0,0,4⟩ else match sgD r.sg with|none=>⟨0,0,0,2⟩|some g=>bif MX ⟨a.kh,a.kr⟩ w g != 0 then ⟨0,0,0,MX ⟨a.kh,a.kr⟩ w g⟩ else ⟨1,-1,g.leaf,0⟩
def XX(r:Rq)(a:L8)(w:Int):Att:=
 bif r.fm==0 then (bif decide ((r.sg.length:Int)>0) then ⟨0,0,0,4⟩ else bif decide ((r.cn:Int)>0) then ⟨0,0,0,4⟩ else ⟨0,-1,-1,0⟩)
 else bif r.fm==1 then Ar3 r a w else ⟨0,0,0,3⟩
def Att.cells(T:Att):Ae:=[Aw T.f,Aw T.an,Aw T.lf]
def Ss(rp fl ct root:Int)(id:Aj):Aj:=Bf rp++[fl,ct,0]++Bf 3++id++Vy ⟨2,root⟩
abbrev CZ(fl:Int):Prop:=fl=65\/fl=69\/fl=73\/fl=77
abbrev Asr(rp fl ct root:Int)(id:Aj):L8:=⟨rp,fl,ct,0,3,176,Ad .u8 id,2,root⟩
theorem Akp(k:Ky):(Vy k).length=9:=by unfold Vy;rw[Po,B4]
theorem Ar0{rp fl ct root:Int}{id:Aj}(hf:CZ fl)(hc:ct=0\/ct=1):vE (Asr rp fl ct root id)=0:=by rcases hf with rfl|rfl|rfl|rfl<;>rcases hc with rfl|rfl<;>kernel_rfl
theorem Aqx{fl:Int}(hf:CZ fl):Du .i64 fl 64=64:=by rcases hf with rfl|rfl|rfl|rfl<;>decide
theorem Art{rp fl ct root:Int}{id:Aj}(hf:CZ fl)(hc:ct=0\/ct=1)(hib:Cm id):Cm (Ss rp fl ct root id):=by refine Wh (Wh (Wh (Wh (Tg _) ?_) (Tg _)) hib) (fun x hx=>A12 x hx);intro x hx;simp only[List.mem_cons,List.not_mem_nil,or_false] at hx;unfold CZ at hf;omega
theorem SF{rp fl ct root:Int}{id:Aj}(BS:id.length=176):(Ss rp fl ct root id).length=204:=by simp only[Ss,Vo,B4,BS,Akp,Po,NS]
theorem Ap0{rp fl ct root:Int}{id:Aj}(hf:CZ fl)(hc:ct=0\/ct=1)(BS:id.length=176)(hrp:isU rp)(hrt:isU root):Xv (Ss rp fl ct root id)=some (Asr rp fl ct root id)/\NN (Ss rp fl ct root id)=id:=by
 have e:Ss rp fl ct root id=Bf rp++([fl,ct,0]++(Bf 3++(id++Vy ⟨2,root⟩))):=by unfold Ss;simp only[Zzv]
 have l8:=B4 rp;have l83:=B4 3
 have g (k:Nat) (hk:k<3):(Ss rp fl ct root id).getD (8+k) 0=[fl,ct,0].getD k 0:=by
  rw[e,List.getD_eq_getElem?_getD,List.getElem?_append_right (by omega),l8,List.getElem?_append_left (by simp;omega),List.getD_eq_getElem?_getD]
  congr 2
  omega
 have g8:(Ss rp fl ct root id).getD 8 0=fl:=g 0 (by omega);have g9:(Ss rp fl ct root id).getD 9 0=ct:=g 1 (by omega);have g10:(Ss rp fl ct root id).getD 10 0=0:=g 2 (by omega);have t8:(Ss rp fl ct root id).take 8=Bf rp:=by rw[e];exact List.take_left' l8
 have d11:(Ss rp fl ct root id).drop 11=Bf 3++(id++Vy ⟨2,root⟩):=by
  rw[e,<-Zzv];exact List.drop_left' (by rw[Vo,l8];rfl)
 have d19:(Ss rp fl ct root id).drop 19=id++Vy ⟨2,root⟩:=by
  rw[show (19:Nat)=11+8 from rfl,<-List.drop_drop,d11];exact List.drop_left' l83
 have d195:(Ss rp fl ct root id).drop 195=Vy ⟨2,root⟩:=by
  rw[show (195:Nat)=19+176 from rfl,<-List.drop_drop,d19];exact List.drop_left' BS
 have k0:=Ann (k:=⟨2,root⟩) (by decide:Dt 2=false) hrt;have i1:NN (Ss rp fl ct root id)=id:=by unfold NN;rw[d19];exact List.take_left' BS
 refine⟨?_,i1⟩
 have ak:adK (Ss rp fl ct root id) ⟨2,root⟩=Asr rp fl ct root id:=by
  unfold adK;unfold NN at i1;rw[g8,g9,g10,t8,d11,i1,List.take_left' l83,KC hrp.1 hrp.2,KC (by decide) (by decide)]
 rw[GU (by rw[g8,Aqx hf];decide),Cx (SF BS),d195,k0]
 simp only[ak,Ar0 hf hc,if_true]
section
variable {fu d:Nat}
set_option maxHeartbeats 1000000 in
theorem Arg(Bi:1000400<=fu){r:Rq}(hr:r.ok)(a:L8)(w:Int):Ac C1 prog fu (d+9) 68 [.agg r.cells,.agg a.cells,Ah w]=some ⟨[.agg (Ar3 r a w).cells,Aw (Ar3 r a w).e],[]⟩:=by
 refine (Ty fu (d+8) r.kind r.cd r.ad.length (Ad .u8 r.ad) r.sg.length (Ad .u8 r.sg) r.cn r.cc r.fm r.id.length (Ad .u8 r.id) r.us a.rp a.fl a.ct a.rg a.md a.idn a.id a.kh a.kr w).trans ?_;unfold Ar3;cases n1:decide ((r.cn:Int)>0)
 rotate_left
 ·simp only[A5,A6,n1,cond_true];rfl
 have ds:=WR (xs:=HZ) (fu:=fu) (d:=d+6) (by omega) hr.sgB;have z0:((0:Int) != 0)=false:=rfl;have z2:((2:Int) != 0)=true:=rfl;cases hg:sgD r.sg with
 |none=>
  rw[hg] at ds;simp only[Aby,Sg.owned] at ds;simp only[A5,A6,n1,ds,z2,cond_false];rfl
 |some g=>
  rw[hg] at ds;simp only[Aby,Sg.owned] at ds;have vf:=ID (xs:=HZ) (fu:=fu) (d:=d+0) (by omega) ⟨a.kh,a.kr⟩ w g;simp only[Ky.cells,Sg.cells] at vf;have Lc:=Ak .u64 g.chains;have Lp:=Ak .u64 g.path;have k1:decide (0+g.chains.length*1<=List.length (Ad .u64 g.chains))=true:=dT (by omega);have k2:decide (0+g.path.length*1<=List.length (Ad .u64 g.path))=true:=dT (by omega);have t1:List.take (g.chains.length*1) (List.drop 0 (Ad .u64 g.chains))=Ad .u64 g.chains:=H5 (by rw[Ma];omega)
  have t2:List.take (g.path.length*1) (List.drop 0 (Ad .u64 g.path))=Ad .u64 g.path:=H5 (by rw[Ma];omega)
  simp only;obtain⟨W,hW⟩:∃W,MX ⟨a.kh,a.kr⟩ w g=W:=⟨_,rfl⟩
  rw[hW] at vf ⊢;cases h5:W != 0
  ·simp only[A5,A6,n1,ds,z0,k1,k2,t1,t2,vf,h5,cond_false];rfl
  ·simp only[A5,A6,n1,ds,z0,k1,k2,t1,t2,vf,h5,cond_true,cond_false];rfl
theorem Avy(Bi:1000400<=fu){r:Rq}(hr:r.ok)(h2:(r.fm==2)=false){a:L8}(h64:(Du .i64 a.fl 64==0)=false)(w:Int)(n rn:Nat)(c rc:Ae)(now:Int):Ac C1 prog fu (d+10) 36 [.agg r.cells,.agg a.cells,Ah w,.lst false 3 n c,.lst false 3 rn rc,Aw now]=some ⟨[.agg (XX r a w).cells,Aw (XX r a w).e],[]⟩:=by
 have sf:=Arg (fu:=fu) (d:=d) Bi hr a w;refine (Ov fu (d+9) r.kind r.cd r.ad.length (Ad .u8 r.ad) r.sg.length (Ad .u8 r.sg) r.cn r.cc r.fm r.id.length (Ad .u8 r.id) r.us a.rp a.fl a.ct a.rg a.md a.idn a.id a.kh a.kr w n c rn rc now).trans ?_;simp only[Rq.cells,L8.cells,Att.cells] at sf ⊢;unfold XX;cases h0:r.fm==0
 rotate_left
 ·cases n1:decide ((r.sg.length:Int)>0)
  rotate_left
  ·simp only[A5,A6,h64,h0,n1,cond_true]
  cases n2:decide ((r.cn:Int)>0)<;>simp only[A5,A6,h64,h0,n1,n2,cond_true,cond_false]
 cases h1:r.fm==1
 ·simp only[A5,A6,h64,h0,h1,h2,cond_true,cond_false]
 ·simp only[A5,A6,h64,h0,h1,sf,cond_true,cond_false]
set_option maxHeartbeats 2000000 in
theorem Axd(Bi:1000<=fu)(rp root:Int){fl ct:Int}(hf:CZ fl)(hct:ct=0\/ct=1){id:Aj}(hib:Cm id)(BS:id.length=176):Ac C1 prog fu (d+4) 23 [.agg [Ah rp,Aw fl,Aw ct,Aw 0,Ah 3,.lst false 1 176 (Ad .u8 id),Aw 2,Ah root]]=some ⟨[.own 1 204 (Ad .u8 (Ss rp fl ct root id)),Aw 0],[]⟩:=by
 refine (J2 fu (d+3) rp fl ct 0 3 176 (Ad .u8 id) 2 root).trans ?_;have vd:=VY (fu:=fu) (d:=d) Bi (Asr rp fl ct root id);rw[Ar0 hf hct] at vd;simp only[L8.cells] at vd;have e00:((0:Int) != 0)=false:=rfl;have ek:=SK (xs:=HZ) (fu:=fu) (d:=d+1) Bi ⟨2,root⟩;rw[Br (show ¬Dt 2=true by decide)] at ek;simp only[Ky.cells] at ek;have o1:=Ak7 (xs:=HZ) (fu:=fu) (d:=d+2) Bi rp;have o2:=Ak7 (xs:=HZ) (fu:=fu) (d:=d+2) Bi 3;have f3:(Du .i64 fl 64 != 0)=true:=by rw[Aqx hf];rfl
 have u1:wrap .u8 fl=fl:=Oa (by unfold CZ at hf;omega) (by unfold CZ at hf;omega)
 have u2:wrap .u8 0=0:=by decide
 have u3:wrap .u8 ct=ct:=Oa (by omega) (by omega);have l1:(Ad .u8 (Bf rp)).length=8:=by rw[Ak,B4]
 have l2:(Ad .u8 (Bf 3)).length=8:=by rw[Ak,B4]
 have l3:(Ad .u8 id).length=176:=by rw[Ak,BS]
 have l4:(Ad .u8 (Vy ⟨2,root⟩)).length=9:=by rw[Ak,Akp]
 have t1:List.take 8 (Ad .u8 (Bf rp))=Ad .u8 (Bf rp):=H5 (by omega);have t2:List.take 8 (Ad .u8 (Bf 3))=Ad .u8 (Bf 3):=H5 (by omega);have t4:List.take 9 (Ad .u8 (Vy ⟨2,root⟩))=Ad .u8 (Vy ⟨2,root⟩):=H5 (by omega);have E:Ad .u8 (Ss rp fl ct root id)=Ad .u8 (Bf rp)++[.sc (.int .u8 fl),.sc (.int .u8 ct),.sc (.int .u8 0)]++Ad .u8 (Bf 3)++Ad .u8 id++Ad .u8 (Vy ⟨2,root⟩):=by simp[Ss,Ad,List.flatMap_append]
 rw[E];clear hf hct E;generalize Ad .u8 (Bf rp)=x1 at *
 generalize Ad .u8 (Bf 3)=x2 at *
 generalize Ad .u8 id=x3 at *
 generalize Ad .u8 (Vy ⟨2,root⟩)=x4 at *
 have T1:List.take 11 (x1++[PV.sc (.int .u8 fl),.sc (.int .u8 ct),.sc (.int .u8 0)])=x1++[PV.sc (.int .u8 fl),.sc (.int .u8 ct),.sc (.int .u8 0)]:=H5 (by simp;omega)
 have T2:List.take 19 (x1++[PV.sc (.int .u8 fl),.sc (.int .u8 ct),.sc (.int .u8 0)]++x2)=x1++[PV.sc (.int .u8 fl),.sc (.int .u8 ct),.sc (.int .u8 0)]++x2:=H5 (by simp;omega)
 have T3:List.take 195 (x1++[PV.sc (.int .u8 fl),.sc (.int .u8 ct),.sc (.int .u8 0)]++x2++x3)=x1++[PV.sc (.int .u8 fl),.sc (.int .u8 ct),.sc (.int .u8 0)]++x2++x3:=H5 (by simp;omega)
 have T4:List.take 204 (x1++[PV.sc (.int .u8 fl),.sc (.int .u8 ct),.sc (.int .u8 0)]++x2++x3++x4)=x1++[PV.sc (.int .u8 fl),.sc (.int .u8 ct),.sc (.int .u8 0)]++x2++x3++x4:=H5 (by simp;omega)
 have L1:(x1++[PV.sc (.int .u8 fl),.sc (.int .u8 ct),.sc (.int .u8 0)]).length=11:=by simp;omega
 have L2:(x1++[PV.sc (.int .u8 fl),.sc (.int .u8 ct),.sc (.int .u8 0)]++x2).length=19:=by simp;omega
 have L3:(x1++[PV.sc (.int .u8 fl),.sc (.int .u8 ct),.sc (.int .u8 0)]++x2++x3).length=195:=by simp;omega
 have L4:(x1++[PV.sc (.int .u8 fl),.sc (.int .u8 ct),.sc (.int .u8 0)]++x2++x3++x4).length=204:=by simp;omega
 repeat(with_reducible(first|apply Bd|apply A0|apply Bc|apply UM|apply K3|apply A3|apply Be|apply Jc);· first|constructor|(simp(disch:=omega)only[Ja,vd,e00,o1,u1,u2,u3,l1,t1,Kb,Nat.reduceAdd,Nat.reduceMul,f3,ek,o2,Ip,Ma,l2,t2,L1,T1,L2,T2,l3,L3,T3,l4,t4,L4,T4]<;>first|constructor|omega)|omega)
 try simp(disch:=omega)only[Aa,vd,e00,o1,u1,u2,u3,l1,t1,Kb,Nat.reduceAdd,Nat.reduceMul,f3,ek,o2,Ip,Ma,l2,t2,L1,T1,L2,T2,l3,L3,T3,l4,t4,L4,T4]
 all_goals rfl
end
section
variable {xs:FuncId->Option (Ae->Option A4)}(fu d:Nat)(call:Aq)
theorem Qm{p:FuncId->Option (Ae->Option A4)}(fu d:Nat)(W V:Int)(Y:Nat)(X:Ae)(T:Bool)(S Q:ByteArray)(P:Nat)(O:Ae)(Z:Int)(N:Bool)(U:Int):Ac (CP p) prog fu (d+1) 11 [.agg [Ah W,V,As 1 Y X,T],S,Q,As 1 P O,Z,N,U]=(fun (call:Aq)=>Dv (call 20 [.agg [(1:Int),As 1 P O,Q,false,Bk ⟨#[]⟩]]) fun a b=>Bu a fun a=>Dl .i64 b fun b=>Ge .u64 (call 21 [S]) fun b=>Ge .i64 (call 22 [.agg [Ah W,V,As 1 Y X,T],N]) fun c=>Aa (DU .i64 c 64) fun c=>Dv (call 16 [Ah W,V]) fun e f=>Ef e fun e=>Do .i64 e fun e g=>Dl .u64 g fun g=>Ao f<|Ay (Z==1) (Dv (call 23 [.agg [Ah b,c,(1:Int),(0:Int),Ah 3,As 1 Y X,e,Ah g]]) fun b c=>Lg 1 b fun b e=>Dl .i64 c fun c=>Ge .u64 (call 25 [a]) fun c=>(fun m:PV=>Ar (decide (0+b*1<=e.length))<|Ge .u64 (call 24 [m,Ah c]) fun c=>Ay (Z==1) (Dv (call 26 [Ah W,V,(0:Int),Ah c]) fun c f=>Ef c fun c=>Do .i64 c fun c g=>JG 1 g fun g h i=>JG 1 i fun i j k=>Ao k<|Dl .i64 f fun f=>Ar (decide (0+g*1<=h.length))<|Ar (decide (0+i*1<=j.length))<|Dv (call 27 [.agg [c,As 1 g (List.take (g*1) (h.drop 0)),As 1 i (List.take (i*1) (j.drop 0))]]) fun c f=>Lg 1 c fun c g=>Dl .i64 f fun f=>Ar (decide (0+b*1<=e.length))<|Ar (decide (0+c*1<=g.length))<|Bg [.agg [(1:Int),a,m,As 1 c (List.take (c*1) (g.drop 0)),As 1 0 [],Z,As 1 Y X,Bk ⟨#[]⟩]]) (Ay (Z==2) (Dv (call 26 [Ah 33,(4:Int),U,Ah c]) fun c f=>Ef c fun c=>Do .i64 c fun c g=>JG 1 g fun g h i=>JG 1 i fun i j k=>Ao k<|Dl .i64 f fun f=>Ar (decide (0+g*1<=h.length))<|Ar (decide (0+i*1<=j.length))<|Dv (call 27 [.agg [c,As 1 g (List.take (g*1) (h.drop 0)),As 1 i (List.take (i*1) (j.drop 0))]]) fun c f=>Lg 1 c fun c g=>Dl .i64 f fun f=>Dv (call 28 []) fun f h=>Lg 1 f fun f i=>Ao h<|Ar (decide (0+b*1<=e.length))<|Ar (decide (0+c*1<=g.length))<|Ar (decide (0+f*1<=i.length))<|Bg [.agg [(1:Int),a,m,As 1 c (List.take (c*1) (g.drop 0)),As 1 f (List.take (f*1) (i.drop 0)),Z,As 1 Y X,Bk ⟨#[]⟩]]) (Ar (decide (0+b*1<=e.length))<|Bg [.agg [(1:Int),a,m,As 1 0 [],As 1 0 [],Z,As 1 Y X,Bk ⟨#[]⟩]]))) (As 1 b (List.take (b*1) (e.drop 0)))) (Dv (call 23 [.agg [Ah b,c,(0:Int),(0:Int),Ah 3,As 1 Y X,e,Ah g]]) fun b c=>Lg 1 b fun b e=>Dl .i64 c fun c=>Ge .u64 (call 25 [a]) fun c=>(fun n:PV=>Ar (decide (0+b*1<=e.length))<|Ge .u64 (call 24 [n,Ah c]) fun c=>Ay (Z==1) (Dv (call 26 [Ah W,V,(0:Int),Ah c]) fun c f=>Ef c fun c=>Do .i64 c fun c g=>JG 1 g fun g h i=>JG 1 i fun i j k=>Ao k<|Dl .i64 f fun f=>Ar (decide (0+g*1<=h.length))<|Ar (decide (0+i*1<=j.length))<|Dv (call 27 [.agg [c,As 1 g (List.take (g*1) (h.drop 0)),As 1 i (List.take (i*1) (j.drop 0))]]) fun c f=>Lg 1 c fun c g=>Dl .i64 f fun f=>Ar (decide (0+b*1<=e.length))<|Ar (decide (0+c*1<=g.length))<|Bg [.agg [(1:Int),a,n,As 1 c (List.take (c*1) (g.drop 0)),As 1 0 [],Z,As 1 Y X,Bk ⟨#[]⟩]]) (Ay (Z==2) (Dv (call 26 [Ah 33,(4:Int),U,Ah c]) fun c f=>Ef c fun c=>Do .i64 c fun c g=>JG 1 g fun g h i=>JG 1 i fun i j k=>Ao k<|Dl .i64 f fun f=>Ar (decide (0+g*1<=h.length))<|Ar (decide (0+i*1<=j.length))<|Dv (call 27 [.agg [c,As 1 g (List.take (g*1) (h.drop 0)),As 1 i (List.take (i*1) (j.drop 0))]]) fun c f=>Lg 1 c fun c g=>Dl .i64 f fun f=>Dv (call 28 []) fun f h=>Lg 1 f fun f i=>Ao h<|Ar (decide (0+b*1<=e.length))<|Ar (decide (0+c*1<=g.length))<|Ar (decide (0+f*1<=i.length))<|Bg [.agg [(1:Int),a,n,As 1 c (List.take (c*1) (g.drop 0)),As 1 f (List.take (f*1) (i.drop 0)),Z,As 1 Y X,Bk ⟨#[]⟩]]) (Ar (decide (0+b*1<=e.length))<|Bg [.agg [(1:Int),a,n,As 1 0 [],As 1 0 [],Z,As 1 Y X,Bk ⟨#[]⟩]]))) (As 1 b (List.take (b*1) (e.drop 0))))) (Ac (CP p) prog fu d):=by kernel_rfl
end
def VB(ch o:Aj):ByteArray:=Ab (match Yk 1 ch o [] false with | .ok s=>s | .error _=>[])
def EU(sh vf:Bool):Int:=DU .i64 (JU sh vf) 64
def ctF(fm:Int):Int:=bif fm==1 then 1 else 0
def SW(seed:Int)(id:Aj)(fl fm:Int):Aj:=Ss (B6 9 (B0 Ye)) fl (ctF fm) (Sk seed 2).root id
def rgW(b:Aj)(t:ByteArray):Int:=YN b (B6 11 (B0 t))
def rgG(seed fm w:Int):Aj:=bif fm==1 then asG seed 2 0 w else bif fm==2 then asG 33 4 0 w else []
def Yb(seed:Int)(id:Aj)(fl fm:Int)(o ch:Aj)(cc:PV):Rq:=
 ⟨1,VB ch o,SW seed id fl fm,rgG seed fm (rgW (SW seed id fl fm) (VB ch o)),bif fm==2 then 1 else 0,bif fm==2 then [cc] else [],fm,id,ByteArray.mk #[]⟩
theorem Abc(sh vf:Bool):CZ (EU sh vf):=by cases sh<;>cases vf<;>decide
theorem ZZ(fm:Int):ctF fm=0\/ctF fm=1:=by unfold ctF;cases fm==1<;>simp
theorem Ad1{ch o:Aj}(ho:o.length<=50000):(VB ch o).size<=60000:=by
 unfold VB;rw[Ag];cases h:Yk 1 ch o [] false with
 |error e=>simp
 |ok s=>
  simp only;unfold Yk at h;have ty:tyS 1=some tyC:=rfl;rw[ty] at h;simp only at h;split at h
  ·cases h
  split at h
  ·cases h
  simp only[if_true] at h;cases h;have hel:=FB ch;rename_i hc _;simp only[fmH,NC,ON,ZB,fA4,tyC,Vo,Po,NS];omega
theorem Anj{ch o:Aj}(hc:Cm ch)(h1:1<=ch.length)(h2:ch.length<=64)(hol:o.length<=100)(hO:Gk o=0):Mg (VB ch o)=.ok (1,ch,o,false,[]):=by
 have hf:Yk 1 ch o [] false=.ok (fmH tyC ch o++fA4):=by
  unfold Yk;have ty:tyS 1=some tyC:=rfl;rw[ty];simp only;rw[Br (by omega),Br (by simp[hO])];rfl
 have hl:(fmH tyC ch o++fA4).length<=1000:=by
  have hel:=FB ch;simp only[fmH,NC,ON,ZB,fA4,tyC,Vo,Po,NS];omega
 have b:=Axw (w:=[]) hc hf (by rfl) (by simp only[NL,List.append_nil];omega)
 simp only[NL,List.append_nil] at b;unfold VB;rw[hf];exact b
theorem A9a(seed fm w:Int):Cm (rgG seed fm w):=by
 unfold rgG;cases fm==1
 ·cases fm==2
  ·exact fun x hx=>nomatch hx
  ·exact Asv 33 4 0 w
 ·exact Asv seed 2 0 w
theorem A3o{seed:Int}{id:Aj}(hib:Cm id)(BS:id.length=176){fl:Int}(hf:CZ fl)(fm:Int){o:Aj}(ho:o.length<=50000)(ch:Aj)(cc:PV):(Yb seed id fl fm o ch cc).ok:=
 ⟨by have:=Ad1 (ch:=ch) ho;show (VB ch o).size<=_;omega,Art hf (ZZ fm) hib,by show (Ss _ _ _ _ id).length<=_;rw[SF BS];omega,A9a _ _ _⟩
section
variable {fu d:Nat}
theorem Ai8(Bi:1000400<=fu){seed h:Int}(h1:Dt h=false)(h2:Jh 0 h=false)(w:Int):∃s:Sg,asG seed h 0 w=sgB s /\
  Ac C1 prog fu (d+13) 26 [Ah seed,Aw h,Aw 0,Ah w]=some ⟨[.agg [Aw s.leaf,.own 1 s.chains.length (Ad .u64 s.chains),.own 1 s.path.length (Ad .u64 s.path)],Aw 0],[]⟩ /\
  Ac C1 prog fu (d+13) 27 [.agg [Aw s.leaf,.lst false 1 s.chains.length (Ad .u64 s.chains),.lst false 1 s.path.length (Ad .u64 s.path)]]=some ⟨[.own 1 (sgB s).length (Ad .u8 (sgB s)),Aw 0],[]⟩:=by
 obtain⟨s,e,_,s3,s4,s5,_⟩:=YG (seed:=seed) (m:=w) h1 h2;have sg:=RZ (xs:=HZ) (fu:=fu) (d:=d+1) (by omega) seed h 0 w;rw[e] at sg;simp only[EN,Sg.owned] at sg;have hb:=Iu h1;have es:=DS (xs:=HZ) (fu:=fu) (d:=d+11) (by omega) s (by omega);rw[s5,s3,h1,h2,s4,Br (by simp),Br (by simp),Br (by simp)] at es;simp only[Sg.cells] at es;refine⟨s,by unfold asG;rw[e],sg,?_⟩
 rw[s3,s4] at *
 exact es
set_option maxHeartbeats 4000000 in
theorem Azb(Bi:1000400<=fu){seed:Int}{id ch o:Aj}(hib:Cm id)(BS:id.length=176)(ES:Cm ch)(hc:ch.length<=50000)(hoB:Cm o)(ho:o.length<=50000)(sh vf:Bool){fm:Int}(hfm:fm=0\/fm=1\/fm=2)(cc:PV)(hch:fm=2->Ac C1 prog fu (d+13) 28 []=some ⟨[.own 1 1 [cc]],[]⟩):
  Ac C1 prog fu (d+14) 11 [.agg [Ah seed,Aw 2,.lst false 1 176 (Ad .u8 id),Cz sh],Bk Ye,Bk (Ab o),.lst false 1 ch.length (Ad .u8 ch),Aw fm,Cz vf,Aw 0]=some ⟨[.agg (Yb seed id (EU sh vf) fm o ch cc).cells],[]⟩:=by
 have fm1:Ac C1 prog fu (d+13) 20 [cdA 1 ch o [] false]=some (Ars (Yk 1 ch o [] false)):=VI (fu:=fu) (d:=d+7) (p:=pG) ES hoB (fun x hx=>nomatch hx) (by omega) (by omega) (by simp) (by omega) (by omega) (by omega) (by simp;omega)
 obtain⟨T,hT⟩:∃T,VB ch o=T:=⟨_,rfl⟩
 obtain⟨fe,fm1⟩:∃fe,Ac C1 prog fu (d+13) 20 [.agg [Aw 1,.lst false 1 ch.length (Ad .u8 ch),Bk (Ab o),Cz false,Bk ⟨#[]⟩]]=some ⟨[Bk T,Aw fe],[]⟩:=by
  unfold VB at hT;cases hq:Yk 1 ch o [] false with
  |ok s=>rw[hq] at fm1 hT;exact⟨0,by rw[<-hT];exact fm1⟩
  |error e=>rw[hq] at fm1 hT;exact⟨e,by rw[<-hT];exact fm1⟩
 have hTs:T.size<=60000:=by rw[<-hT];exact Ad1 ho
 have hr:=YS (fu:=fu) (d:=d+8) (s:=Ye) (by decide) Bi;have fl:=Aej (fu:=fu) (d:=d+12) seed 2 176 (Ad .u8 id) sh vf;have ky:=Atd (fu:=fu) (d:=d) (by omega) seed 2;have k2:=Aib (seed:=seed) (h:=2) (by decide);simp only[Ky.cells] at ky;rw[k2] at ky;have en:=Axd (fu:=fu) (d:=d+9) (by omega) (B6 9 (B0 Ye)) (Sk seed 2).root (Abc sh vf) (ZZ fm) hib BS;have b1:Cm (SW seed id (EU sh vf) fm):=Art (Abc sh vf) (ZZ fm) hib;have b2:(SW seed id (EU sh vf) fm).length=204:=SF BS;obtain⟨W,hW⟩:∃W,rgW (SW seed id (EU sh vf) fm) T=W:=⟨_,rfl⟩
 have Aci:(Yb seed id (EU sh vf) fm o ch cc).cells=[Aw 1,Bk T,.lst false 1 204 (Ad .u8 (SW seed id (EU sh vf) fm)),.lst false 1 (rgG seed fm W).length (Ad .u8 (rgG seed fm W)),.lst false 1 (bif fm==2 then 1 else 0) (bif fm==2 then [cc] else []),Aw fm,.lst false 1 176 (Ad .u8 id),Bk ⟨#[]⟩]:=by
  unfold Yb Rq.cells;simp only[hT,hW,b2,BS]
 rw[Aci];clear Aci hT;change Ac C1 prog fu (d+9+4) 23 _=some ⟨[.own 1 204 (Ad .u8 (SW seed id (EU sh vf) fm)),_],_⟩ at en;have io:DU .i64 (JU sh vf) 64=EU sh vf:=rfl;generalize EU sh vf=FL at *
 unfold rgW at hW;generalize SW seed id FL fm=bs at *
 have hd:=VZ (fu:=fu) (d:=d+8) (s:=T) (by omega) Bi;have ms:=Ajl (fu:=fu) (d:=d+8) b1 (by omega) Bi (B6 11 (B0 T));rw[b2,hW] at ms;have Lb:=Ak .u8 bs;have c1:decide (0+204*1<=List.length (Ad .u8 bs))=true:=dT (by omega);have t1:List.take (204*1) (List.drop 0 (Ad .u8 bs))=Ad .u8 bs:=H5 (by rw[Ma];omega)
 refine (Qm fu (d+13) seed 2 176 (Ad .u8 id) sh Ye (Ab o) ch.length (Ad .u8 ch) fm vf 0).trans ?_;unfold rgG;rcases hfm with rfl|rfl|rfl
 ·have z1:((0:Int)==1)=false:=rfl;have z2:((0:Int)==2)=false:=rfl;have cf:ctF 0=0:=rfl;rw[cf] at en;simp only[A5,A6,fm1,hr,fl,io,ky,z1,z2,en,hd,c1,t1,ms,cond_true,cond_false];rfl
 ·have z1:((1:Int)==1)=true:=rfl;have z2:((1:Int)==2)=false:=rfl;have cf:ctF 1=1:=rfl;rw[cf] at en;obtain⟨s,sa,sg,es⟩:=Ai8 (fu:=fu) (d:=d) Bi (seed:=seed) (h:=2) (by decide) (by decide) W;have L1:=Ak .u64 s.chains;have L2:=Ak .u64 s.path;have L3:=Ak .u8 (sgB s);have e1:decide (0+s.chains.length*1<=List.length (Ad .u64 s.chains))=true:=dT (by omega);have e2:decide (0+s.path.length*1<=List.length (Ad .u64 s.path))=true:=dT (by omega);have e3:decide (0+(sgB s).length*1<=List.length (Ad .u8 (sgB s)))=true:=dT (by omega);have u1:List.take (s.chains.length*1) (List.drop 0 (Ad .u64 s.chains))=Ad .u64 s.chains:=H5 (by rw[Ma];omega)
  have u2:List.take (s.path.length*1) (List.drop 0 (Ad .u64 s.path))=Ad .u64 s.path:=H5 (by rw[Ma];omega)
  have u3:List.take ((sgB s).length*1) (List.drop 0 (Ad .u8 (sgB s)))=Ad .u8 (sgB s):=H5 (by rw[Ma];omega)
  rw[sa];simp only[A5,A6,fm1,hr,fl,io,ky,z1,z2,en,hd,c1,t1,ms,sg,e1,e2,u1,u2,es,e3,u3,cond_true,cond_false]
 ·have z1:((2:Int)==1)=false:=rfl;have z2:((2:Int)==2)=true:=rfl;have cf:ctF 2=0:=rfl;rw[cf] at en;have hch:=hch rfl;obtain⟨s,sa,sg,es⟩:=Ai8 (fu:=fu) (d:=d) Bi (seed:=33) (h:=4) (by decide) (by decide) W;have L1:=Ak .u64 s.chains;have L2:=Ak .u64 s.path;have L3:=Ak .u8 (sgB s);have e1:decide (0+s.chains.length*1<=List.length (Ad .u64 s.chains))=true:=dT (by omega);have e2:decide (0+s.path.length*1<=List.length (Ad .u64 s.path))=true:=dT (by omega);have e3:decide (0+(sgB s).length*1<=List.length (Ad .u8 (sgB s)))=true:=dT (by omega);have u1:List.take (s.chains.length*1) (List.drop 0 (Ad .u64 s.chains))=Ad .u64 s.chains:=H5 (by rw[Ma];omega)
  have u2:List.take (s.path.length*1) (List.drop 0 (Ad .u64 s.path))=Ad .u64 s.path:=H5 (by rw[Ma];omega)
  have u3:List.take ((sgB s).length*1) (List.drop 0 (Ad .u8 (sgB s)))=Ad .u8 (sgB s):=H5 (by rw[Ma];omega)
  have x1:decide (0+1*1<=List.length [cc])=true:=rfl;have x2:List.take (1*1) (List.drop 0 [cc])=[cc]:=rfl;rw[sa];simp only[A5,A6,fm1,hr,fl,io,ky,z1,z2,en,hd,c1,t1,ms,sg,e1,e2,u1,u2,es,e3,u3,hch,x1,x2,cond_true,cond_false]
end
section
variable {xs:FuncId->Option (Ae->Option A4)}(fu d:Nat)(call:Aq)
def Mb(Z:Int)(Y:Nat)(X:Int)(W V:ByteArray)(U:Nat)(T:Int)(S:Bool)(Q P:Int)(O:Bool)(N:Int)(M:Bool)(L:Nat)(K J:Int)(I H:Int)(G E:Ae)(D B:ByteArray)(A:Nat)(z:Ae)(w:Int)(v:Bool)(u t:Int)(y26:Bool)(VK:Int)(y28:Bool)(y29:Nat)(y30:Ae)(y31 y32:Int)(y33 y34:Int):Option A4:=K0 fu call 6 Tryz.f6 [Z] [.r] Y ⟨lk [(0,X),(2,.ptr 2 0),(3,.ptr 3 0)],Fx [(2,.st [W,V,.view 38 1 0 U,T,S,Q,P,O,N,M,.view 134 1 0 L,K,Ah J,I,Ah H]),(38,.ar false G),(134,.ar false E),(3,.st [D,B,As 1 A z,w,v,u,t,y26,VK,y28,As 1 y29 y30,y31,Ah y32,y33,Ah y34])]⟩
theorem T5(H:Int)(Z:Nat)(Gz:0<Z)(Y:Int)(G E:ByteArray)(D:Nat)(B:Int)(A:Bool)(z w:Int)(v:Bool)(u:Int)(t:Bool)(y11:Nat)(y12 y13:Int)(y14 y15:Int)(y16 y17:Ae)(X W:ByteArray)(V:Nat)(U:Ae)(T:Int)(S:Bool)(Q P:Int)(y26:Bool)(VK:Int)(O:Bool)(N:Nat)(M:Ae)(L K:Int)(J I:Int):Mb fu call H Z Y G E D B A z w v u t y11 y12 y13 y14 y15 y16 y17 X W V U T S Q P y26 VK O N M L K J I=(Bg [.agg [X,W,As 1 V U,T,S,Q,P,true,Y,O,As 1 N M,L,Ah K,J,Ah I]]):=by cases Z with|zero=>exact absurd Gz (Nat.lt_irrefl 0)|succ Z=>kernel_rfl
theorem Xy{p:FuncId->Option (Ae->Option A4)}(fu d:Nat)(Z:Int):Ac (CP p) prog fu (d+1) 6 [Z]=(fun (call:Aq)=>Dv (call 17 [As 1 0 []]) fun a b=>BU a fun a=>Wv 1 a fun a c e=>Dl .i64 e fun e=>Ao b<|Bv (call 18 [.pbox [As 1 a c,e]]) fun a b=>Ai a fun a c=>Ef a fun a=>Ai a fun a e=>Bu a fun a=>Ai e fun e f=>Bu e fun e=>Wv 1 f fun f g h=>Do .i64 h fun h i=>Ai i fun i j=>Bm i fun i=>Do .i64 j fun j k=>Do .i64 k fun k m=>Ai m fun m n=>Bm m fun m=>Do .i64 n fun n o=>Ai o fun o q=>Bm o fun o=>Wv 1 q fun q s t=>Do .i64 t fun t u=>Do .u64 u fun u v=>Do .i64 v fun v w=>Dl .u64 w fun w=>Ao c<|Ai b fun b c=>Wv 1 b fun b z A=>Dl .i64 A fun b=>Ao c<|Mb fu call Z fu Z (ByteArray.mk #[]) (ByteArray.mk #[]) 0 0 false 0 0 false 0 false 0 0 0 0 0 ([]) ([]) a e f g h i j k m n o q s t u v w) (Ac (CP p) prog fu d):=by kernel_rfl
theorem Xt{p:FuncId->Option (Ae->Option A4)}(fu d:Nat)(Z Y:ByteArray):Ac (CP p) prog fu (d+1) 14 [Z,Y]=(fun (call:Aq)=>Ge .u64 (call 21 [Z]) fun a=>Ge .u64 (call 21 [Y]) fun b=>Bg [Cz (a==b)]) (Ac (CP p) prog fu d):=by kernel_rfl
end
abbrev Aya(fm:Int):YJ:=⟨0,false,1,1,true,fm,false,[],50⟩
abbrev cfX(fm:Int):Cf:=cfW (Aya fm) 5
theorem Atu(fm:Int):(cfX fm).ok:=A3d (by simp) 5
theorem Awj{os:List ByteArray}{ch ch' o:Aj}{r:Rq}(rk:r.kind=1)(rc:r.cd=VB ch o)(hc:Cm ch)(h1:1<=ch.length)(h2:ch.length<=64)(hol:o.length<=100)(hO:Gk o=0):MI os 1 ch' r=bif !eqB ch ch' then 35 else bif !YC os (Ab o) then 34 else 0:=by unfold MI;rw[rk,rc,Anj hc h1 h2 hol hO];rfl
theorem A3h(seed:Int):isU (Sk seed 2).root:=by unfold Sk;rw[Br (by decide:¬Dt 2=true)];exact Aji _ _ _
abbrev MZ(seed:Int)(id:Aj)(fl fm:Int):L8:=Asr (B6 9 (B0 Ye)) fl (ctF fm) (Sk seed 2).root id
theorem Aj9{seed:Int}{id:Aj}(BS:id.length=176){fl:Int}(hf:CZ fl)(fm:Int):Xv (SW seed id fl fm)=some (MZ seed id fl fm)/\NN (SW seed id fl fm)=id:=by
 unfold SW MZ;have hu:=NM 9 (B0 Ye);have hr:=A3h seed;generalize B6 9 (B0 Ye)=x at *
 generalize (Sk seed 2).root=y at *
 exact Ap0 hf (ZZ fm) BS hu hr
def clA(c:Cf)(ch ch' o:Aj):Int:=bif !eqB ch ch' then 35 else bif !YC c.os (Ab o) then 34 else 0
theorem Aw3{c:Cf}{m:Mt}{ch:Aj}{now:Int}{r:Rq}{T:L8->Att}{a:L8}{cl:Int}(a1:decide (now<0)=false)(a2:decide (now>1099511627776)=false)(hc:MI c.os 1 ch r=cl)(hd:Xv r.ad=some a):Y3 c m ch now r T=bif cl != 0 then (sd0,cl) else Apo c m now r a (T a):=by unfold Y3;rw[a1,a2,hc,hd];rfl
theorem Axa{c:Cf}{m:Mt}{now:Int}{r:Rq}{a:L8}{T:Att}(f6:(Du .i64 a.fl 64==0)=false){H md:Int}{id:Aj}(hr:a.rp=H)(hm:a.md=md)(q1:eqB r.id (NN r.ad)=true)(q2:NN r.ad=id):Apo c m now r a T=bif H != B6 9 (B0 c.rp) then (sd0,34) else
 bif T.e != 0 then (sd0,T.e) else
 bif MA c.p a T.f (stS m md now) != 0 then (sd0,MA c.p a T.f (stS m md now)) else (An6 a id T.f T.lf now,0):=by
 unfold Apo;rw[f6,q1,q2,hr,hm];rfl
theorem Av8{c:Cf}{m:Mt}{seed:Int}{id:Aj}{fl fm:Int}{o ch ch':Aj}{cc:PV}{now:Int}{T:L8->Att}(n0:0<=now)(n1:now<=1099511627776)(BS:id.length=176)(hf:CZ fl)(hc:Cm ch)(h1:1<=ch.length)(h2:ch.length<=64)(hol:o.length<=100)(hO:Gk o=0):
  Y3 c m ch' now (Yb seed id fl fm o ch cc) T=bif clA c ch ch' o != 0 then (sd0,clA c ch ch' o) else
   bif B6 9 (B0 Ye) != B6 9 (B0 c.rp) then (sd0,34) else
   bif (T (MZ seed id fl fm)).e != 0 then (sd0,(T (MZ seed id fl fm)).e) else
   bif MA c.p (MZ seed id fl fm) (T (MZ seed id fl fm)).f (stS m 3 now) != 0 then (sd0,MA c.p (MZ seed id fl fm) (T (MZ seed id fl fm)).f (stS m 3 now)) else (An6 (MZ seed id fl fm) id (T (MZ seed id fl fm)).f (T (MZ seed id fl fm)).lf now,0):=by
 have a1:decide (now<0)=false:=dF (by omega);have a2:decide (now>1099511627776)=false:=dF (by omega);obtain⟨r,hr⟩:∃r,Yb seed id fl fm o ch cc=r:=⟨_,rfl⟩
 have rk:r.kind=1:=by rw[<-hr];rfl
 have rc:r.cd=VB ch o:=by rw[<-hr];rfl
 have ra:r.ad=SW seed id fl fm:=by rw[<-hr];rfl
 have ri:r.id=id:=by rw[<-hr];rfl
 rw[hr];clear hr;obtain⟨d1,d2⟩:=Aj9 (seed:=seed) BS hf fm;have cl:MI c.os 1 ch' r=clA c ch ch' o:=Awj rk rc hc h1 h2 hol hO;have hrp:(MZ seed id fl fm).rp=B6 9 (B0 Ye):=rfl;have LH:(MZ seed id fl fm).fl=fl:=rfl;have hmd:(MZ seed id fl fm).md=3:=rfl;have q1:eqB r.id (NN r.ad)=true:=by rw[ri,ra,d2];exact SI _
 have q2:NN r.ad=id:=by rw[ra,d2]
 rw[<-ra] at d1;clear ra rc rk ri d2;generalize MZ seed id fl fm=a at *
 generalize B6 9 (B0 Ye)=H at *
 have f6:(Du .i64 a.fl 64==0)=false:=by
  rw[LH,Aqx hf];rfl
 rw[Aw3 a1 a2 cl d1,Axa f6 hrp hmd q1 q2]
theorem A4i{fm fl:Int}(hf:CZ fl)(seed:Int)(id:Aj){st:Int}(h:fm=2->st=1):MA (Aya fm) (MZ seed id fl fm) fm st=0:=by
 have a1:Aez 0 fl=0:=by rcases hf with rfl|rfl|rfl|rfl<;>decide
 unfold MA;simp only[a1,if_true];rw[Br (by decide:¬(2:Int)<1)]
 have t:Apv (Aya fm) 3 fm st=0:=by
  unfold Apv;rw[Cx rfl];by_cases h2:fm=2
  ·rw[Cx h2,h h2];rfl
  ·rw[Br h2]
 split
 ·exact t
 ·exact t
theorem A33{P:Ky}(h:P.h=2):(⟨2,P.root⟩:Ky)=P:=by cases P;simp only at h;subst h;rfl
theorem A1u{seed:Int}{id:Aj}{fl:Int}{o ch:Aj}{cc:PV}(a:L8)(w:Int):XX (Yb seed id fl 0 o ch cc) a w=⟨0,-1,-1,0⟩:=rfl
theorem A29{seed:Int}{id:Aj}{fl:Int}{o ch:Aj}{cc:PV}:XX (Yb seed id fl 1 o ch cc) (MZ seed id fl 1) (rgW (SW seed id fl 1) (VB ch o))=⟨1,-1,0,0⟩:=by
 obtain⟨W,hW⟩:∃W,rgW (SW seed id fl 1) (VB ch o)=W:=⟨_,rfl⟩
 have sg:(Yb seed id fl 1 o ch cc).sg=asG seed 2 0 W:=by rw[<-hW];rfl
 obtain⟨g,s1,s2,s3,s4,s5,s6⟩:=YG (seed:=seed) (h:=2) (leaf:=0) (m:=W) (by decide) (by decide)
 have sd:sgD (Yb seed id fl 1 o ch cc).sg=some g:=by
  rw[sg];unfold asG;rw[s1];exact Akk s2 (by rw[s5];decide) (by rw[s5,s3];decide) s4
 have k:(⟨(MZ seed id fl 1).kh,(MZ seed id fl 1).kr⟩:Ky)=Sk seed 2:=by
  have k2:=Aib (seed:=seed) (h:=2) (by decide);exact A33 k2
 have f1:(Yb seed id fl 1 o ch cc).fm=1:=rfl;have cn:(Yb seed id fl 1 o ch cc).cn=0:=rfl;rw[hW];clear hW sg;generalize Yb seed id fl 1 o ch cc=r at *
 generalize MZ seed id fl 1=a at *
 have z0:((1:Int)==0)=false:=rfl;have z1:((1:Int)==1)=true:=rfl;have z2:decide (((0:Nat):Int)>0)=false:=rfl;have z3:((0:Int) != 0)=false:=rfl;unfold XX Ar3;rw[f1,cn,sd];simp only[z0,z1,z2,cond_false,cond_true,k,s6,s3,z3]
section
variable {fu d:Nat}
theorem Acg(Bi:1000<=fu)(fm:Int):Ac C1 prog fu (d+15) 6 [Aw fm]=some ⟨[.agg (cfX fm).cells],[]⟩:=by
 have nw:Ac C1 prog fu (d+14) 17 [.lst false 1 0 []]=some ⟨[.pbox (dkc [] 0)],[]⟩:=Bet (l:=[]);have n0:=fun n=>Azn (fu:=fu) (d:=d+10) n;have n0':=fun n=>Azn (fu:=fu) (d:=d+11) n
 have pl:Ac C1 prog fu (d+13) 42 [.pbox (dkc [] 0)]=some ⟨[.agg A80.own],[dkc [] 0]⟩:=by
  refine (Sq fu (d+12) 0 [] 0).trans ?_
  repeat(with_reducible(first|apply Bd|apply A0|apply Bc|apply A7|apply Bo|apply UM|apply Az8|apply K3|apply Aiw|apply A3|apply Be|apply Jc);· first|constructor|(simp(disch:=omega)only[Ja,n0,F8]<;>first|constructor|omega)|omega)
  try simp(disch:=omega)only[Aa,n0,F8]
  rfl
 have ky:=Atd (fu:=fu) (d:=d) Bi 31 4;have k4:(Sk 31 4).cells=[Aw 4,Ah (Sk 31 4).root]:=by unfold Ky.cells;rw[Aib (by decide)]
 rw[k4] at ky
 have cf:Ac C1 prog fu (d+14) 18 [.pbox (dkc [] 0)]=some ⟨[.agg (cfW A80 5).cells],[dkc [] 0]⟩:=by
  refine (Sp fu (d+13) 0 [] 0).trans ?_;simp only[YJ.own] at pl;have w1:wrap .u64 (5+wrap .u64 0)=5:=by decide
  repeat(with_reducible(first|apply Bd|apply A0|apply Bc|apply A7|apply Bo|apply UM|apply Az8|apply K3|apply Aiw|apply A3|apply Be|apply Jc);· first|constructor|(simp(disch:=omega)only[Ja,pl,n0',ky,w1]<;>first|constructor|omega)|omega)
  try simp(disch:=omega)only[Aa,pl,n0',ky,w1]
  rfl
 refine (Xy fu (d+14) fm).trans ?_;simp only[Cf.cells] at cf ⊢;simp(disch:=omega)only[A5,A6,nw,cf,T5]
end
end
end Go.Proofs.YtamoegpkglhedaaGreatDoor.Pv
