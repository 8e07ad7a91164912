/-
  The proof of RegistrationLeaves, part 7.
-/
import Derived.Test.YtamoegpkglhedaaGreatDoorLF
import Derived.Test.YtamoegpkglhedaaGreatDoorRows
import Derived.Lib.ValidLaws
set_option linter.unusedSimpArgs false
set_option linter.unusedVariables false
namespace Go.Proofs.YtamoegpkglhedaaGreatDoor.Pv
open Go.IntKind (wrap)
open Go.Proofs.Tryz (prog)
set_option maxRecDepth 1000000
noncomputable section
def pG:FuncId->Option (Ad->Option A1):=fun f=>bif Nat.beq f 57 then some ID else bif Ahb.any (Nat.beq f) then some (fun args=>Hy C3 prog 1000400 40 f args) else none
abbrev C1:Gw:=CP pG
abbrev RK:=RN pG
theorem extV:ES gU prog C1:=Ar0 (fun f hf g h args res hg=>by
 unfold pG at h;cases hq:Nat.beq f 57
 ·rw[hq,hf] at h;cases h;exact Dh ngR mxR A5f 40 f args res ((Zu 40 f args).symm.trans hg)
 ·rw[hq] at h;cases h;rw[C6 hq];exact JQ args res hg)
section
variable {xs:FuncId->Option (Ad->Option A1)}(fu d:Nat)(call:Aq)
def Db(Z:Nat)(Y:Ad)(X W:Nat)(V:Ad)(U:ByteArray)(T:Int):Option A1:=Ll fu call 48 Tryz.f48 [A5 1 Z Y] [.r,.r,.l,.r,.l] X ⟨lk [(0,A5 1 W V),(3,U),(4,T)],Fw []⟩
def Cg(Z:Nat)(Y:Ad)(X W V:Nat)(U:Ad)(T:ByteArray)(S Q P:Int):Option A1:=Ll fu call 48 Tryz.f48 [A5 1 Z Y] [.r,.r,.l,.r,.l,.i X,.r,.l,.l,.r,.r,.r,.r,.l] W ⟨lk [(0,A5 1 V U),(3,T),(4,S),(5,Ah Q),(6,P)],Fw []⟩
theorem Fj(V:Nat)(U:Ad)(T Y:Nat)(X:Ad)(W:ByteArray)(Z:Int):Db fu call V U (T+1) Y X W Z=(Ax (decide (Z<(↑Y:Int))) (Ar (decide (0<=Z)&&decide (Z<(↑Y:Int)))<|Bc .u8 (X.getD (Z.toNat*1) .top) fun a=>Aa (wrap .u64 a) fun a=>Aa (Fb .u64 a 16) fun a=>Aa (wrap .i64 (Z+1)) fun b=>Ax (decide (b<(↑Y:Int))) (Aa (wrap .i64 (Z+1)) fun b=>Ar (decide (0<=b)&&decide (b<(↑Y:Int)))<|Bc .u8 (X.getD (b.toNat*1) .top) fun b=>Aa (wrap .u64 b) fun b=>Aa (Fb .u64 b 8) fun b=>Aa (CQ .u64 a b) fun a=>Aa (wrap .i64 (Z+2)) fun b=>Ax (decide (b<(↑Y:Int))) (Aa (wrap .i64 (Z+2)) fun b=>Ar (decide (0<=b)&&decide (b<(↑Y:Int)))<|Bc .u8 (X.getD (b.toNat*1) .top) fun b=>Aa (wrap .u64 b) fun b=>Aa (CQ .u64 a b) fun a=>Cg fu call V U T fu Y X W Z a 0) (Cg fu call V U T fu Y X W Z a 0)) (Aa (wrap .i64 (Z+2)) fun b=>Ax (decide (b<(↑Y:Int))) (Aa (wrap .i64 (Z+2)) fun b=>Ar (decide (0<=b)&&decide (b<(↑Y:Int)))<|Bc .u8 (X.getD (b.toNat*1) .top) fun b=>Aa (wrap .u64 b) fun b=>Aa (CQ .u64 a b) fun a=>Cg fu call V U T fu Y X W Z a 0) (Cg fu call V U T fu Y X W Z a 0))) (Bj [W])):=by kernel_rfl
theorem H2(V:Nat)(U:Ad)(T P Z:Nat)(S:Ad)(Y:ByteArray)(X Q W:Int):Cg fu call V U T (P+1) Z S Y X Q W=(Ax (decide (W<4)) (Aa (wrap .i64 ((↑Z:Int)-X)) fun a=>Ax (decide (W<=a)) (Aa (wrap .u64 W) fun a=>Aa (wrap .u64 (6*a)) fun a=>Aa (wrap .u64 (18-a)) fun a=>Ar (decide (0<=a))<|Aa (Gl .u64 Q a) fun a=>Aa (D3 .u64 a 63) fun a=>Aa (wrap .u64 (a+1)) fun b=>Ar (decide (0<=a))<|Ar (decide (0<=b))<|Ar (decide (a.toNat<=b.toNat)&&decide (b.toNat<=64))<|Aa (ByteArray.extract (ByteArray.mk #[65,66,67,68,69,70,71,72,73,74,75,76,77,78,79,80,81,82,83,84,85,86,87,88,89,90,97,98,99,100,101,102,103,104,105,106,107,108,109,110,111,112,113,114,115,116,117,118,119,120,121,122,48,49,50,51,52,53,54,55,56,57,45,95]) a.toNat b.toNat) fun a=>Ar (decide (ByteArray.size Y+ByteArray.size a<=9223372036854775807))<|Aa (Y++a) fun a=>Aa (wrap .i64 (W+1)) fun b=>Cg fu call V U T P Z S a X Q b) (Aa (wrap .i64 (X+3)) fun a=>Db fu call V U T Z S Y a)) (Aa (wrap .i64 (X+3)) fun a=>Db fu call V U T Z S Y a)):=by kernel_rfl
theorem Sh{p:FuncId->Option (Ad->Option A1)}(fu d Z:Nat)(Y:Ad):Ac (CP p) prog fu (d+1) 48 [A5 1 Z Y]=(fun (call:Aq)=>Db fu call Z Y fu Z Y (ByteArray.mk #[]) 0) (Ac (CP p) prog fu d):=by kernel_rfl
theorem Xb{p:FuncId->Option (Ad->Option A1)}(fu d:Nat)(Z:Int):Ac (CP p) prog fu (d+1) 46 [Z]=(fun (call:Aq)=>Ax (Z==1) (Bj [Bo ⟨#[112,97,115,115,107,101,121,46,99,114,101,97,116,101]⟩]) (Ax (Z==2) (Bj [Bo ⟨#[112,97,115,115,107,101,121,46,103,101,116]⟩]) (Bj [Bo ⟨#[]⟩]))) (Ac (CP p) prog fu d):=by kernel_rfl
theorem Uk{p:FuncId->Option (Ad->Option A1)}(fu d:Nat)(Z:ByteArray):Ac (CP p) prog fu (d+1) 25 [Z]=(fun (call:Aq)=>Ar (decide (ByteArray.size Z<=1099511627776))<|Ar (decide (0+ByteArray.size Z*1<=List.length (Dl Z)))<|Gz .u64 (call 45 [(11:Int),A5 1 (ByteArray.size Z) (List.take (ByteArray.size Z*1) (List.drop 0 (Dl Z)))]) fun a=>Bj [Ah a]) (Ac (CP p) prog fu d):=by kernel_rfl
theorem GA{p:FuncId->Option (Ad->Option A1)}(fu d:Nat)(Z:ByteArray):Ac (CP p) prog fu (d+1) 34 [Z]=(fun (call:Aq)=>Ar (decide (ByteArray.size Z<=1099511627776))<|Ar (decide (0+ByteArray.size Z*1<=List.length (Dl Z)))<|Gz .u64 (call 64 [(11:Int),A5 1 (ByteArray.size Z) (List.take (ByteArray.size Z*1) (List.drop 0 (Dl Z)))]) fun a=>Bj [Ah a]) (Ac (CP p) prog fu d):=by kernel_rfl
end
theorem A0a(a b:Nat)(ha:a<18446744073709551616)(hb:b<18446744073709551616):D3 .u64 ((a:Nat):Int) ((b:Nat):Int)=((a &&& b:Nat):Int):=by
 have hx:a &&& b<2 ^ 64:=Nat.and_lt_two_pow _ (by omega)
 have h1:(BitVec.ofInt 64 (a:Int)).toNat=a:=by
  rw[BitVec.ofInt_natCast,BitVec.toNat_ofNat];exact Nat.mod_eq_of_lt (by omega)
 have h2:(BitVec.ofInt 64 (b:Int)).toNat=b:=by
  rw[BitVec.ofInt_natCast,BitVec.toNat_ofNat];exact Nat.mod_eq_of_lt (by omega)
 show IntKind.u64.wrap ((BitVec.ofInt 64 (a:Int) &&& BitVec.ofInt 64 (b:Int)).toNat:Int)=_;rw[BitVec.toNat_and,h1,h2];simp only[wrap,IntKind.bits,IntKind.signed,RH,Bool.false_eq_true,if_false];omega
theorem A11{x:Int}(h0:0<=x)(h1:x<16777216):D3 .u64 x 63=x % 64:=by obtain⟨n,rfl⟩:=Int.eq_ofNat_of_zero_le h0;have:=A0a n 63 (by omega) (by omega);refine this.trans ?_;rw[show (63:Nat)=2 ^ 6-1 by decide,Nat.and_two_pow_sub_one_eq_mod n 6];omega
theorem A4r{x:Int}{k:Nat}(hk:k<=64):Gl .u64 x (k:Int)=x / ((2 ^ k:Nat):Int):=by
 show x.fdiv (2 ^ (min (k:Int).toNat IntKind.u64.bits))=_
 have:min (k:Int).toNat IntKind.u64.bits=k:=by
  rw[Jg];exact Nat.min_eq_left (by show k<=64;omega)
 rw[this];have e:(2:Int) ^ k=((2 ^ k:Nat):Int):=by simp
 rw[e,Int.fdiv_eq_ediv_of_nonneg _ (Int.natCast_nonneg _)]
theorem Am9:∀n:Fin 64,ZB.extract n.val (n.val+1)=Ab [Nc (n.val:Int)]:=by decide +kernel
theorem Oq(a b:Aj):Ab a++Ab b=Ab (a++b):=by apply ByteArray.ext;rw[ByteArray.data_append];unfold Ab;simp
def ZV(x:Int)(k:Nat):Int:=Nc (x / ((2 ^ (18-6*k):Nat):Int) % 64)
section
variable {fu d:Nat}{p:FuncId->Option (Ad->Option A1)}
theorem Aje{a0n:Nat}{a0:Ad}{m0:Nat}{y0:Nat}{y1:Ad}{i:Nat}{x:Int}(hx0:0<=x)(hx:x<16777216)(hi:i<y0)(hy:y0<=1000000)(m:Nat)(hm:m=min (y0-i) 3+1):∀(r k nn:Nat)(out:Aj),k+r=m->r+1<=nn->out.length+r<=10000000 ->
  Cg fu (Ac (CP p) prog fu d) a0n a0 m0 nn y0 y1 (Ab out) (i:Int) x (k:Int)=Db fu (Ac (CP p) prog fu d) a0n a0 m0 y0 y1 (Ab (out++(List.range' k r).map (ZV x))) ((i+3:Nat):Int)
 |0,k,nn,out,hkr,Gy,ho=>by
  obtain⟨q,rfl⟩:∃q,nn=q+1:=⟨nn-1,by omega⟩
  have a3:wrap .i64 ((i:Int)+3)=((i+3:Nat):Int):=Bk
  have e:out++(List.range' k 0).map (ZV x)=out:=by simp
  rw[e,H2];by_cases h4:k<4
  ·have a1:=dT (q:=(k:Int)<4) (by omega);have a2:wrap .i64 ((y0:Int)-(i:Int))=(y0:Int)-(i:Int):=Bb;have a4:=dF (q:=(k:Int)<=(y0:Int)-(i:Int)) (by omega);simp only[A4,A3,a1,a2,a4,a3]
  ·have a1:=dF (q:=(k:Int)<4) (by omega);simp only[A4,A3,a1,a3]
 |r+1,k,nn,out,hkr,Gy,ho=>by
  obtain⟨q,rfl⟩:∃q,nn=q+1:=⟨nn-1,by omega⟩
  have Zl:k<4:=by omega
  have a1:=dT (q:=(k:Int)<4) (by omega);have a2:wrap .i64 ((y0:Int)-(i:Int))=(y0:Int)-(i:Int):=Bb;have a4:=dT (q:=(k:Int)<=(y0:Int)-(i:Int)) (by omega);have b1:wrap .u64 (k:Int)=(k:Int):=Ey;have b2:wrap .u64 (6*(k:Int))=6*(k:Int):=Ey;have b3:wrap .u64 (18-6*(k:Int))=((18-6*k:Nat):Int):=by rw[Ey];omega
  have b4:decide ((0:Int)<=((18-6*k:Nat):Int))=true:=by simp
  have b5:=A4r (x:=x) (k:=18-6*k) (by omega);have hp:0<2 ^ (18-6*k):=Nat.pow_pos (by omega);have hd0:0<=x / ((2 ^ (18-6*k):Nat):Int):=Int.ediv_nonneg hx0 (Int.natCast_nonneg _)
  have hd1:x / ((2 ^ (18-6*k):Nat):Int)<16777216:=by
   have:=Int.ediv_le_self ((2 ^ (18-6*k):Nat):Int) hx0;omega
  have b6:=A11 hd0 hd1;generalize hv:x / ((2 ^ (18-6*k):Nat):Int) % 64=v at b6;have hv0:0<=v:=by omega
  have hv1:v<64:=by omega
  have b7:wrap .u64 (v+1)=v+1:=Ey;have b8:=dT (q:=(0:Int)<=v) hv0;have b9:=dT (q:=(0:Int)<=v+1) (by omega);have c1:decide (Int.toNat v<=Int.toNat (v+1))=true:=dT (by omega);have c2:decide (Int.toNat (v+1)<=64)=true:=dT (by omega)
  have c3:ZB.extract (Int.toNat v) (Int.toNat (v+1))=Ab [ZV x k]:=by
   have:=Am9 ⟨Int.toNat v,by omega⟩;rw[show Int.toNat (v+1)=Int.toNat v+1 by omega];refine this.trans ?_;unfold ZV;rw[hv]
   congr 3
   show ((Int.toNat v:Nat):Int)=v;omega
  have c4:decide ((Ab out).size+(Ab [ZV x k]).size<=9223372036854775807)=true:=dT (by rw[Ag,Ag];simp;omega)
  have c5:wrap .i64 ((k:Int)+1)=((k+1:Nat):Int):=Bk
  have ih:=Aje (a0n:=a0n) (a0:=a0) (m0:=m0) (y1:=y1) hx0 hx hi hy m hm r (k+1) q (out++[ZV x k]) (by omega) (by omega) (by simp;omega)
  have e:out++(List.range' k (r+1)).map (ZV x)=(out++[ZV x k])++(List.range' (k+1) r).map (ZV x):=by
   rw[List.range'_succ];simp
  have ea:(ByteArray.mk #[65,66,67,68,69,70,71,72,73,74,75,76,77,78,79,80,81,82,83,84,85,86,87,88,89,90,97,98,99,100,101,102,103,104,105,106,107,108,109,110,111,112,113,114,115,116,117,118,119,120,121,122,48,49,50,51,52,53,54,55,56,57,45,95])=ZB:=rfl;rw[e,H2,ea];simp only[A4,A3,a1,a2,a4,b1,b2,b3,b4,b5,b6,b7,b8,b9,c1,c2,c3,c4,Oq,c5];exact ih
theorem Ae4{a b c:Int}(h:Cp [a,b,c])(m:Nat)(hm:m<=4):(List.range' 0 m).map (ZV (a*65536+b*256+c))=(EI a b c).take m:=by
 obtain⟨ha,h⟩:=Dk h;obtain⟨hb,h⟩:=Dk h;obtain⟨hc,h⟩:=Dk h;have e0:ZV (a*65536+b*256+c) 0=Nc (a / 4):=by unfold ZV;congr 1;simp;omega
 have e1:ZV (a*65536+b*256+c) 1=Nc (a % 4*16+b / 16):=by unfold ZV;congr 1;simp;omega
 have e2:ZV (a*65536+b*256+c) 2=Nc (b % 16*4+c / 64):=by unfold ZV;congr 1;simp;omega
 have e3:ZV (a*65536+b*256+c) 3=Nc (c % 64):=by unfold ZV;congr 1;simp;omega
 match m,hm with
 |0,_=>rfl
 |1,_=>simp[List.range',EI,e0]
 |2,_=>simp[List.range',EI,e0,e1]
 |3,_=>simp[List.range',EI,e0,e1,e2]
 |4,_=>simp[List.range',EI,e0,e1,e2,e3]
theorem A58{a b:Int}(ha:0<=a/\a<=255)(hb:0<=b/\b<=255):CQ .u64 (a*65536) (b*256)=a*65536+b*256:=by
 obtain⟨a,rfl⟩:=Int.eq_ofNat_of_zero_le ha.1;have:=(FT (a:=b*256) (c:=(a:Int)*65536) 16 a (by omega) (by simp;omega) (by simp) (by omega)).2
 rw[this];omega
theorem A9o{y c:Int}(hy:0<=y/\y<=65535)(hc:0<=c/\c<=255):CQ .u64 (y*256) c=y*256+c:=by
 obtain⟨y,rfl⟩:=Int.eq_ofNat_of_zero_le hy.1;have:=(FT (a:=c) (c:=(y:Int)*256) 8 y (by omega) (by simp;omega) (by simp) (by omega)).2
 rw[this];omega
theorem Auj{a0n:Nat}{a0:Ad}{l:Aj}(hB:Cp l)(hl:l.length<=100000)(Bq:10<=fu):∀(q:Nat)(r:Aj)(i nn:Nat)(out:Aj),l.drop i=r->i<=l.length+3->r.length<=q->q+1<=nn->out.length+4*r.length<=1000000 ->
  Db fu (Ac (CP p) prog fu d) a0n a0 nn l.length (Ae .u8 l) (Ab out) (i:Int)=some ⟨[Bo (Ab (out++I5 r))],[]⟩:=by
 intro q
 induction q with
 |zero=>
  intro r i nn out hd hi3 hq Gy ho;have hr:r=[]:=List.eq_nil_of_length_eq_zero (by omega);subst hr;obtain⟨k,rfl⟩:∃k,nn=k+1:=⟨nn-1,by omega⟩
  have hi:=drop_nil hd;have a1:=dF (q:=(i:Int)<(l.length:Int)) (by omega);rw[Fj];simp only[A4,A3,a1,I5,List.append_nil]
 |succ q ih=>
  intro r i nn out hd hi3 hq Gy ho;obtain⟨k,rfl⟩:∃k,nn=k+1:=⟨nn-1,by omega⟩
  cases r with
  |nil=>
   have hi:=drop_nil hd;have a1:=dF (q:=(i:Int)<(l.length:Int)) (by omega);rw[Fj];simp only[A4,A3,a1,I5,List.append_nil]
  |cons a r1=>
   obtain⟨hi,ha,hd1⟩:=Dx hd;have haB:=hB a (List.mem_of_getElem? ha);have Eb:=congrArg List.length hd;rw[List.length_drop] at Eb;have a1:=dT (q:=(i:Int)<(l.length:Int)) (by omega);have a2:decide ((0:Int)<=(i:Int))=true:=by simp
   have a3:List.getD (Ae .u8 l) (Int.toNat (i:Int)*1) PV.top=.sc (.int .u8 a):=by rw[Jg,J6];exact EA ha
   have a4:wrap .u64 a=a:=Ey
   have a5:Fb .u64 a 16=a*65536:=by
    have:=LV (a:=a) (k:=16) haB.1 (by omega) (by omega) (by simp;omega)
    rw[this];simp
   have a6:wrap .i64 ((i:Int)+1)=((i+1:Nat):Int):=Bk
   have a7:wrap .i64 ((i:Int)+2)=((i+2:Nat):Int):=Bk
   have b2:decide ((0:Int)<=((i+1:Nat):Int))=true:=dT (by omega);have b3:decide ((0:Int)<=((i+2:Nat):Int))=true:=dT (by omega);rw[Fj];cases r1 with
   |nil=>
    simp only[On,LP] at Eb;have b1:=dF (q:=((i+1:Nat):Int)<(l.length:Int)) (by omega);have c1:=dF (q:=((i+2:Nat):Int)<(l.length:Int)) (by omega);have DH:=Aje (fu:=fu) (d:=d) (p:=p) (a0n:=a0n) (a0:=a0) (m0:=k) (y0:=l.length) (y1:=Ae .u8 l) (i:=i) (x:=a*65536) (by omega) (by omega) hi (by omega) 2 (by omega) 2 0 fu out rfl (by omega) (by simp at ho;omega)
    have Oc:=Ae4 (a:=a) (b:=0) (c:=0) (fun x hx=>by simp at hx;rcases hx with rfl|rfl<;>omega) 2 (by omega)
    rw[show a*65536+0*256+0=a*65536 by omega] at Oc;rw[Oc] at DH;have hr:=ih [] (i+3) k (out++(EI a 0 0).take 2) (List.drop_eq_nil_of_le (by omega)) (by omega) (by simp) (by omega) (by simp[EI] at ho ⊢;omega)
    simp only[A4,A3,a1,a2,a3,a4,a5,a6,a7,b1,c1];refine DH.trans (hr.trans ?_);simp[I5,EI]
   |cons b r2=>
    obtain⟨hi1,hb,OL⟩:=Dx hd1;have hbB:=hB b (List.mem_of_getElem? hb);have b1:=dT (q:=((i+1:Nat):Int)<(l.length:Int)) (by omega);have b4:List.getD (Ae .u8 l) (Int.toNat ((i+1:Nat):Int)*1) PV.top=.sc (.int .u8 b):=by rw[Jg,J6];exact EA hb
    have b5:wrap .u64 b=b:=Ey
    have b6:Fb .u64 b 8=b*256:=by
     have:=LV (a:=b) (k:=8) hbB.1 (by omega) (by omega) (by simp;omega)
     rw[this];simp
    have b7:=A58 haB hbB;cases r2 with
    |nil=>
     simp only[On,LP] at Eb;have c1:=dF (q:=((i+2:Nat):Int)<(l.length:Int)) (by omega);have DH:=Aje (fu:=fu) (d:=d) (p:=p) (a0n:=a0n) (a0:=a0) (m0:=k) (y0:=l.length) (y1:=Ae .u8 l) (i:=i) (x:=a*65536+b*256) (by omega) (by omega) hi (by omega) 3 (by omega) 3 0 fu out rfl (by omega) (by simp at ho;omega)
     have Oc:=Ae4 (a:=a) (b:=b) (c:=0) (fun x hx=>by simp at hx;rcases hx with rfl|rfl|rfl<;>omega) 3 (by omega)
     rw[show a*65536+b*256+0=a*65536+b*256 by omega] at Oc;rw[Oc] at DH;have hr:=ih [] (i+3) k (out++(EI a b 0).take 3) (List.drop_eq_nil_of_le (by omega)) (by omega) (by simp) (by omega) (by simp[EI] at ho ⊢;omega)
     simp only[A4,A3,a1,a2,a3,a4,a5,a6,a7,b1,b2,b4,b5,b6,b7,c1];refine DH.trans (hr.trans ?_);simp[I5,EI]
    |cons c t=>
     obtain⟨hi2,hc,hd3⟩:=Dx OL;have AO:=hB c (List.mem_of_getElem? hc);simp only[On] at Eb;have c1:=dT (q:=((i+2:Nat):Int)<(l.length:Int)) (by omega);have c2:List.getD (Ae .u8 l) (Int.toNat ((i+2:Nat):Int)*1) PV.top=.sc (.int .u8 c):=by rw[Jg,J6];exact EA hc
     have c3:wrap .u64 c=c:=Ey
     have c4:CQ .u64 (a*65536+b*256) c=a*65536+b*256+c:=by
      have:=A9o (y:=a*256+b) (c:=c) (by omega) AO;rw[show (a*256+b)*256=a*65536+b*256 by omega] at this;exact this
     have DH:=Aje (fu:=fu) (d:=d) (p:=p) (a0n:=a0n) (a0:=a0) (m0:=k) (y0:=l.length) (y1:=Ae .u8 l) (i:=i) (x:=a*65536+b*256+c) (by omega) (by omega) hi (by omega) 4 (by omega) 4 0 fu out rfl (by omega) (by simp at ho;omega)
     have Oc:=Ae4 (a:=a) (b:=b) (c:=c) (fun x hx=>by simp at hx;rcases hx with rfl|rfl|rfl<;>omega) 4 (by omega)
     rw[Oc] at DH;have hr:=ih t (i+3) k (out++(EI a b c).take 4) hd3 (by omega) (by simp at hq;omega) (by omega) (by simp[EI] at ho ⊢;omega)
     simp only[A4,A3,a1,a2,a3,a4,a5,a6,a7,b1,b2,b4,b5,b6,b7,b3,c1,c2,c3,c4];refine DH.trans (hr.trans ?_);simp[I5,EI]
theorem Avs{l:Aj}(hB:Cp l)(hl:l.length<=100000)(Bq:10<=fu)(IX:l.length+1<=fu):Ac (CP p) prog fu (d+1) 48 [.lst false 1 l.length (Ae .u8 l)]=some ⟨[Bo (Ab (I5 l))],[]⟩:=by
 rw[Sh];have:=Auj (fu:=fu) (d:=d) (p:=p) (a0n:=l.length) (a0:=Ae .u8 l) hB hl Bq l.length l 0 fu [] rfl (by omega) (Cn _) IX (by simp;omega)
 exact this
end
section
variable {xs:FuncId->Option (Ad->Option A1)}(fu d:Nat)(call:Aq)
theorem DQ{p:FuncId->Option (Ad->Option A1)}(fu d Z:Nat)(Y:Ad):Ac (CP p) prog fu (d+1) 17 [A5 1 Z Y]=(fun (call:Aq)=>Bj [.pbox [A5 1 Z Y,(0:Int)]]) (Ac (CP p) prog fu d):=by kernel_rfl
theorem GH{p:FuncId->Option (Ad->Option A1)}(fu d:Nat)(Z Y:Int):Ac (CP p) prog fu (d+1) 8 [Z,Y]=(fun (call:Aq)=>Aa (wrap .u64 Z) fun a=>Aa (wrap .u64 Y) fun b=>Ar (decide (b≠0))<|Aa (Int.tmod a b) fun a=>Aa (wrap .i64 a) fun a=>Bj [a]) (Ac (CP p) prog fu d):=by kernel_rfl
theorem Us{p:FuncId->Option (Ad->Option A1)}(fu d Z:Nat)(Y:Ad)(X W:Int):Ac (CP p) prog fu (d+1) 43 [.pbox [A5 1 Z Y,X],W]=(fun (call:Aq)=>Ax (decide (X>=(↑Z:Int))) (some ⟨[(0:Int)],[[A5 1 Z Y,X]]⟩) (Aa (wrap .i64 (X+1)) fun a=>Aa (wrap .i64 (a-1)) fun b=>Ar (decide (0<=b)&&decide (b<(↑Z:Int)))<|Bc .i64 (Y.getD (b.toNat*1) .top) fun b=>Gz .i64 (call 8 [b,W]) fun b=>some ⟨[b],[[A5 1 Z Y,a]]⟩)) (Ac (CP p) prog fu d):=by kernel_rfl
end
section
variable {xs:FuncId->Option (Ad->Option A1)}(fu d:Nat)(call:Aq)
def Ga(Z Y X:Int)(W:Nat)(V U T:Int)(S:Nat)(Q:Int)(P:Ad):Option A1:=Ll fu call 40 Tryz.f40 [Ah Z,Ah Y,X] [.r,.r,.r,.l,.r,.l] W ⟨lk [(0,Ah V),(1,Ah U),(2,T),(7,.view 7 1 0 S),(8,Q)],Fw [(7,.ar false P)]⟩
theorem Hb(T S Q:Int)(P:Nat)(W V Y:Int)(Z:Nat)(U:Int)(X:Ad):Ga fu call T S Q (P+1) W V Y Z U X=(Ax (decide ((↑Z:Int)<Y)) (Aa (wrap .u64 U) fun a=>D6 (call 50 [A5 1 2 [Ah V,Ah a]]) fun a b=>Lg 1 a fun a c=>Ap b<|Ar (decide (0+a*1<=c.length))<|Gz .u64 (call 73 [Ah W,(5:Int),A5 1 a (List.take (a*1) (c.drop 0))]) fun a=>D6 (call 50 [A5 1 1 [Ah a]]) fun a b=>Lg 1 a fun a c=>Ap b<|Ar (decide (0+a*1<=c.length))<|Ar (decide (Z*1<=X.length)&&decide (List.length (List.take (a*1) (c.drop 0))=a*1)&&decide ((Z+a)*1<=1099511627776)&&decide (Z+a<=1099511627776))<|Aa (Z+a) fun b=>Aa (List.take (Z*1) X++List.take (a*1) (c.drop 0)) fun a=>Aa (wrap .i64 (U+1)) fun c=>Ga fu call T S Q P W V Y b c a) (Ar (decide (0<=Y))<|Ar (decide (Y.toNat<=Z))<|Aa (Y.toNat-0) fun a=>Ar (decide (a*1<=X.length))<|Bj [.own 1 a (X.take (a*1))])):=by kernel_rfl
theorem X5{p:FuncId->Option (Ad->Option A1)}(fu d:Nat)(Y X Z:Int):Ac (CP p) prog fu (d+1) 40 [Ah Y,Ah X,Z]=(fun (call:Aq)=>Aa (if Z<0 then 0 else Z) fun a=>Aa (if 1024<a then 1024 else a) fun a=>Ga fu call Y X Z fu Y X a 0 0 ([])) (Ac (CP p) prog fu d):=by kernel_rfl
theorem AP{p:FuncId->Option (Ad->Option A1)}(fu d:Nat)(Y Z:Int):Ac (CP p) prog fu (d+1) 15 [Y,Z]=(fun (call:Aq)=>Aa (wrap .u64 Y) fun a=>Aa (wrap .u64 (a+1)) fun a=>Aa (if 1024<Z then 1024 else Z) fun b=>Aa (if b<0 then 0 else b) fun b=>D6 (call 40 [Ah a,Ah 7,b]) fun a b=>Lg 1 a fun a c=>Ap b<|Ar (decide (a*1<=c.length))<|Bj [.own 1 a (c.take (a*1))]) (Ac (CP p) prog fu d):=by kernel_rfl
end
abbrev dkc(l:Aj)(a:Nat):Ad:=[.lst false 1 l.length (Ae .i64 l),Aw (a:Int)]
section
variable {fu d:Nat}{p:FuncId->Option (Ad->Option A1)}
theorem Bdo{l:Aj}:Ac (CP p) prog fu (d+1) 17 [.lst false 1 l.length (Ae .i64 l)]=some ⟨[.pbox (dkc l 0)],[]⟩:=by rw[DQ];rfl
theorem Bbk(v n:Int)(hn:0<n)(hm:n<=9223372036854775807):∃r,0<=r/\r<n/\∀{fu d:Nat}{p:FuncId->Option (Ad->Option A1)},Ac (CP p) prog fu (d+1) 8 [Aw v,Aw n]=some ⟨[Aw r],[]⟩:=by have h1:=Ri v;have h2:wrap .u64 n=n:=Ey;have h3:0<=Int.tmod (wrap .u64 v) n:=Int.tmod_nonneg _ h1.1;have h4:Int.tmod (wrap .u64 v) n<n:=Int.tmod_lt_of_pos _ hn;refine⟨_,h3,h4,fun {fu d p}=>?_⟩;rw[GH];simp only[F5,h2];rw[YE _ _ (by omega),Bb]
end
section
variable {fu d:Nat}{p:FuncId->Option (Ad->Option A1)}
theorem Bdk(Bq:1000<=fu)(w:Int):Ac (CP p) prog fu (d+1) 50 [.lst false 1 1 [Ah w]]=some ⟨[.own 1 8 (Ae .u8 (Bp w))],[]⟩:=by
 have:=Ia (xs:=RN p) (fu:=fu) (d:=d) (ws:=[w]) (by simp) (by omega) (by simp;omega)
 simp only[Ao,Kb,List.flatMap_nil,List.append_nil,On,LP,B5] at this;exact this
theorem Auu(Bq:1000<=fu){a0 a1 a2:Int}{key nonce:Int}{n:Nat}(hn:n<=1024):∀(k nn:Nat)(i:Int)(l:Aj),n<=l.length+8*k->k<nn->Cp l->l.length<=2000 ->
  0<=i->i+k<=100000->∃r,Cp r/\r.length=n/\Ga fu (Ac (CP p) prog fu (d+4)) a0 a1 a2 nn key nonce (n:Int) l.length i (Ae .u8 l)=some ⟨[.own 1 n (Ae .u8 r)],[]⟩:=by
 intro k
 induction k with
 |zero=>
  intro nn i l h1 h2 hb hl i0 i1;obtain⟨m,rfl⟩:∃m,nn=m+1:=⟨nn-1,by omega⟩
  refine⟨l.take n,hb.take n,by rw[List.length_take];omega,?_⟩
  have L:=Al .u8 l;have nt:Int.toNat (n:Int)=n:=Jg _;rw[Hb]
  repeat(with_reducible(first|apply Ba|apply A0|apply A8|apply US|apply Az|apply A9|apply Ix);· first|constructor|(simp(disch:=omega)only[I8,L,nt,Nat.sub_zero,J6,H7]<;>first|constructor|omega)|omega)
  try simp(disch:=omega)only[Aa,L,nt,Nat.sub_zero,J6,H7]
 |succ k ih=>
  intro nn i l h1 h2 hb hl i0 i1;obtain⟨m,rfl⟩:∃m,nn=m+1:=⟨nn-1,by omega⟩
  have L:=Al .u8 l;have nt:Int.toNat (n:Int)=n:=Jg _;by_cases Cm:l.length<n
  rotate_left
  ·refine⟨l.take n,hb.take n,by rw[List.length_take];omega,?_⟩
   rw[Hb]
   repeat(with_reducible(first|apply Ba|apply A0|apply A8|apply US|apply Az|apply A9|apply Ix);· first|constructor|(simp(disch:=omega)only[I8,L,nt,Nat.sub_zero,J6,H7]<;>first|constructor|omega)|omega)
   try simp(disch:=omega)only[Aa,L,nt,Nat.sub_zero,J6,H7]
  have w1:wrap .u64 i=i:=Ey;have w2:wrap .i64 (i+1)=i+1:=Bb;have wd:Ac (CP p) prog fu (d+4) 50 [.lst false 1 2 [Ah nonce,Ah i]]=some ⟨[.own 1 (Ao [nonce,i]).length (Ae .u8 (Ao [nonce,i]))],[]⟩:=Ia (xs:=RN p) (ws:=[nonce,i]) (by simp) (by omega) (by simp;omega)
  have mc:=Aja (xs:=RN p) (fu:=fu) (d:=d) (l:=Ao [nonce,i]) (Uv _) (by rw[Ed];simp) (by omega) (by rw[Ed];simp;omega) key 5
  have L2:=Al .u8 (Ao [nonce,i]);have t2:=LX .u8 (Ao [nonce,i]);generalize Apu key 5 (Ao [nonce,i])=q at mc;have ow:=Bdk (fu:=fu) (d:=d+3) (p:=p) Bq q;have Lq:(Ae .u8 (Bp q)).length=8:=by rw[Al,B5]
  have tq:List.take 8 (Ae .u8 (Bp q))=Ae .u8 (Bp q):=Ji (by omega);have tl:=LX .u8 l;have ea:Ae .u8 l++Ae .u8 (Bp q)=Ae .u8 (l++Bp q):=by rw[Ae,Ae,Ae,List.flatMap_append]
  obtain⟨r,r1,r2,r3⟩:=ih m (i+1) (l++Bp q) (by rw[Xk,B5];omega) (by omega) (Q4 hb (Vz q)) (by rw[Xk,B5];omega) (by omega) (by omega)
  refine⟨r,r1,r2,?_⟩;rw[Xk,B5] at r3;rw[<-r3,Hb];generalize Ao [nonce,i]=W at *
  generalize W.length=wn at *
  repeat(with_reducible(first|apply Ba|apply A0|apply A8|apply US|apply Az|apply A9|apply Ix);· first|constructor|(simp(disch:=omega)only[I8,w1,w2,wd,Ou,Ig,J6,L,L2,t2,mc,ow,Lq,tq,tl,ea]<;>first|constructor|omega)|omega)
  try simp(disch:=omega)only[Aa,w1,w2,wd,Ou,Ig,J6,L,L2,t2,mc,ow,Lq,tq,tl,ea]
  all_goals rfl
theorem Ape(Bq:1000<=fu)(seed:Int){n:Nat}(hn:n<=1024):∃r,Cp r/\r.length=n/\Ac (CP p) prog fu (d+6) 15 [Aw seed,Aw n]=some ⟨[.own 1 n (Ae .u8 r)],[]⟩:=by
 obtain⟨r,r1,r2,r3⟩:=Auu (fu:=fu) (d:=d) (p:=p) Bq (a0:=wrap .u64 (wrap .u64 seed+1)) (a1:=7) (a2:=n) (key:=wrap .u64 (wrap .u64 seed+1)) (nonce:=7) hn 128 fu 0 [] (by omega) (by omega) (by intro x hx;cases hx) (by simp) (by omega) (by omega)
 refine⟨r,r1,r2,?_⟩
 have e:Ac (CP p) prog fu (d+5) 40 [Ah (wrap .u64 (wrap .u64 seed+1)),Ah 7,Aw n]=some ⟨[.own 1 n (Ae .u8 r)],[]⟩:=by
  rw[X5];have f1:(if (n:Int)<0 then (0:Int) else (n:Int))=n:=Bl (by omega);have f2:(if (1024:Int)<(n:Int) then (1024:Int) else (n:Int))=n:=Bl (by omega);simp only[F5,f1,f2];exact r3
 have f1:(if (n:Int)<0 then (0:Int) else (n:Int))=n:=Bl (by omega);have f2:(if (1024:Int)<(n:Int) then (1024:Int) else (n:Int))=n:=Bl (by omega);have L:=Al .u8 r;have t:List.take n (Ae .u8 r)=Ae .u8 r:=by rw[<-r2];exact LX .u8 r
 rw[AP];simp(disch:=omega)only[A4,A3,f1,f2,e,J6,L,t]
end
section
variable {xs:FuncId->Option (Ad->Option A1)}(fu d:Nat)(call:Aq)
theorem M9{p:FuncId->Option (Ad->Option A1)}(fu d:Nat)(Z:Bool):Ac (CP p) prog fu (d+1) 80 [Z]=(fun (call:Aq)=>Ax Z (Bj [Bo ⟨#[104,116,116,112,115,58,47,47]⟩]) (Bj [Bo ⟨#[104,116,116,112,58,47,47]⟩])) (Ac (CP p) prog fu d):=by kernel_rfl
theorem Rg{p:FuncId->Option (Ad->Option A1)}(fu d:Nat)(Z:Bool):Ac (CP p) prog fu (d+1) 82 [Z]=(fun (call:Aq)=>Ax Z (Bj [(443:Int)]) (Bj [(80:Int)])) (Ac (CP p) prog fu d):=by kernel_rfl
def Gi(Z:ByteArray)(Y:Bool)(X:Nat)(W:ByteArray)(V:Bool)(U T:Int):Option A1:=Ll fu call 83 Tryz.f83 [Z,Y] [.r,.r,.r,.l,.r,.l] X ⟨lk [(0,W),(1,V),(6,U),(7,T)],Fw []⟩
theorem Lt(V:ByteArray)(U:Bool)(T:Nat)(X:ByteArray)(W:Bool)(Y Z:Int):Gi fu call V U (T+1) X W Y Z=(Ax (decide (Z<(↑(ByteArray.size X):Int))) (Ar (decide (0<=Z))<|Ds ((Array.toList (ByteArray.data X))[Z.toNat]?) fun a=>D6 (call 115 [.sc (.int .u8 (↑(UInt8.toNat a):Int))]) fun a b=>Bu a fun a=>Ap b<|Ax (!a) (Bj [(0:Int),false]) (Aa (wrap .i64 (10*Y)) fun a=>Ar (decide (0<=Z))<|Ds ((Array.toList (ByteArray.data X))[Z.toNat]?) fun b=>Aa (wrap .u8 ((↑(UInt8.toNat b):Int)-48)) fun b=>Aa (wrap .i64 b) fun b=>Aa (wrap .i64 (a+b)) fun a=>Aa (wrap .i64 (Z+1)) fun b=>Gi fu call V U T X W a b)) (Ax (decide (Y<=65535)) (Gz .i64 (call 82 [W]) fun a=>Bj [Y,C9 (Y != a)]) (Bj [Y,false]))):=by kernel_rfl
theorem AA{p:FuncId->Option (Ad->Option A1)}(fu d:Nat)(Z:ByteArray)(Y:Bool):Ac (CP p) prog fu (d+1) 83 [Z,Y]=(fun (call:Aq)=>(fun b:Option A1=>Ax (decide ((↑(ByteArray.size Z):Int)<1)) b (Ax (decide ((↑(ByteArray.size Z):Int)>5)) b (Ds ((Array.toList (ByteArray.data Z))[0]?) fun a=>Ax ((↑(UInt8.toNat a):Int)==48) b (Gi fu call Z Y fu Z Y 0 0)))) (Bj [(0:Int),false])) (Ac (CP p) prog fu d):=by kernel_rfl
def E0(Z:ByteArray)(Y:Int)(X:Nat)(W:ByteArray)(V:Int)(U:Nat)(T S:Int)(Q:Ad):Option A1:=Ll fu call 113 Tryz.f113 [Z,.sc (.int .u8 Y)] [.r,.r,.r,.l,.r,.l] X ⟨lk [(0,W),(1,.sc (.int .u8 V)),(5,.view 5 1 0 U),(6,T),(7,S)],Fw [(5,.ar false Q)]⟩
theorem Ld(T:ByteArray)(S:Int)(Q:Nat)(Z:ByteArray)(W:Int)(V:Nat)(X Y:Int)(U:Ad):E0 fu call T S (Q+1) Z W V X Y U=(Ax (decide (Y<(↑(ByteArray.size Z):Int))) (Ar (decide (0<=Y))<|Ds ((Array.toList (ByteArray.data Z))[Y.toNat]?) fun a=>Ax ((↑(UInt8.toNat a):Int)==W) (Ar (decide (0<=X))<|Ar (decide (0<=Y))<|Ar (decide (X.toNat<=Y.toNat)&&decide (Y.toNat<=ByteArray.size Z))<|Aa (ByteArray.extract Z X.toNat Y.toNat) fun a=>ZzA V 1 16 U [a] fun a b=>Aa (wrap .i64 (Y+1)) fun c=>Aa (wrap .i64 (Y+1)) fun e=>E0 fu call T S Q Z W a c e b) (Aa (wrap .i64 (Y+1)) fun a=>E0 fu call T S Q Z W V X a U)) (Ar (decide (0<=X))<|Ar (decide (X.toNat<=ByteArray.size Z)&&decide (ByteArray.size Z<=ByteArray.size Z))<|Aa (ByteArray.extract Z X.toNat (ByteArray.size Z)) fun a=>ZzA V 1 16 U [a] fun a b=>Ar (decide (a*1<=b.length))<|Bj [.own 1 a (b.take (a*1))])):=by kernel_rfl
theorem Yr{p:FuncId->Option (Ad->Option A1)}(fu d:Nat)(Z:ByteArray)(Y:Int):Ac (CP p) prog fu (d+1) 113 [Z,.sc (.int .u8 Y)]=(fun (call:Aq)=>E0 fu call Z Y fu Z Y 0 0 0 ([])) (Ac (CP p) prog fu d):=by kernel_rfl
theorem Ya{p:FuncId->Option (Ad->Option A1)}(fu d:Nat)(Z:Int):Ac (CP p) prog fu (d+1) 115 [.sc (.int .u8 Z)]=(fun (call:Aq)=>Ax (decide (Z>=48)) (Bj [C9 (decide (Z<=57))]) (Bj [false])) (Ac (CP p) prog fu d):=by kernel_rfl
def Mw(Z:ByteArray)(Y:Nat)(X:ByteArray):Option A1:=Ll fu call 114 Tryz.f114 [Z] [.r] Y ⟨lk [(0,X)],Fw []⟩
def C5(Z:ByteArray)(Y:Nat)(X:ByteArray)(W:Int):Option A1:=Ll fu call 114 Tryz.f114 [Z] [.r,.r,.l,.r,.l] Y ⟨lk [(0,X),(3,W)],Fw []⟩
theorem Ub(Y:ByteArray)(Z:Nat)(Gy:0<Z)(X:ByteArray):Mw fu call Y Z X=(C5 fu call Y fu X 0):=by cases Z with|zero=>exact absurd Gy (Nat.lt_irrefl 0)|succ Z=>kernel_rfl
theorem Le(X:ByteArray)(W:Nat)(Y:ByteArray)(Z:Int):C5 fu call X (W+1) Y Z=(Ax (decide (Z<(↑(ByteArray.size Y):Int))) (Ar (decide (0<=Z))<|Ds ((Array.toList (ByteArray.data Y))[Z.toNat]?) fun a=>Ax (decide ((↑(UInt8.toNat a):Int)>=97)) (Ar (decide (0<=Z))<|Ds ((Array.toList (ByteArray.data Y))[Z.toNat]?) fun a=>Ax (!decide ((↑(UInt8.toNat a):Int)<=122)) (Ar (decide (0<=Z))<|Ds ((Array.toList (ByteArray.data Y))[Z.toNat]?) fun a=>D6 (call 115 [.sc (.int .u8 (↑(UInt8.toNat a):Int))]) fun a b=>Bu a fun a=>Ap b<|Ax (!a) (Ar (decide (0<=Z))<|Ds ((Array.toList (ByteArray.data Y))[Z.toNat]?) fun a=>Ax ((↑(UInt8.toNat a):Int) != 45) (Bj [false]) (Aa (wrap .i64 (Z+1)) fun a=>C5 fu call X W Y a)) (Aa (wrap .i64 (Z+1)) fun a=>C5 fu call X W Y a)) (Aa (wrap .i64 (Z+1)) fun a=>C5 fu call X W Y a)) (Ar (decide (0<=Z))<|Ds ((Array.toList (ByteArray.data Y))[Z.toNat]?) fun a=>D6 (call 115 [.sc (.int .u8 (↑(UInt8.toNat a):Int))]) fun a b=>Bu a fun a=>Ap b<|Ax (!a) (Ar (decide (0<=Z))<|Ds ((Array.toList (ByteArray.data Y))[Z.toNat]?) fun a=>Ax ((↑(UInt8.toNat a):Int) != 45) (Bj [false]) (Aa (wrap .i64 (Z+1)) fun a=>C5 fu call X W Y a)) (Aa (wrap .i64 (Z+1)) fun a=>C5 fu call X W Y a))) (Bj [true])):=by kernel_rfl
theorem Xw{p:FuncId->Option (Ad->Option A1)}(fu d:Nat)(Z:ByteArray):Ac (CP p) prog fu (d+1) 114 [Z]=(fun (call:Aq)=>Ax (decide ((↑(ByteArray.size Z):Int)<1)) (Bj [false]) (Ax (decide ((↑(ByteArray.size Z):Int)>63)) (Bj [false]) (Ds ((Array.toList (ByteArray.data Z))[0]?) fun a=>Ax ((↑(UInt8.toNat a):Int)==45) (Bj [false]) (Aa (wrap .i64 ((↑(ByteArray.size Z):Int)-1)) fun a=>Ar (decide (0<=a))<|Ds ((Array.toList (ByteArray.data Z))[a.toNat]?) fun a=>Ax ((↑(UInt8.toNat a):Int)==45) (Bj [false]) (Mw fu call Z fu Z))))) (Ac (CP p) prog fu d):=by kernel_rfl
def E9(Z:ByteArray)(Y X:Nat)(W:Int)(V:Ad):Option A1:=Ll fu call 81 Tryz.f81 [Z] [.r,.r,.r,.l,.r,.l] Y ⟨lk [(3,.view 3 1 0 X),(4,W)],Fw [(3,.ar false V)]⟩
def Fa(Z:ByteArray)(Y:Nat)(X:ByteArray)(W:Int):Option A1:=Ll fu call 81 Tryz.f81 [Z] [.r,.r,.r,.r,.r,.l,.r,.l] Y ⟨lk [(5,X),(6,W)],Fw []⟩
theorem I1(W:ByteArray)(V Z:Nat)(Y:Int)(X:Ad):E9 fu call W (V+1) Z Y X=(Ax (decide (Y<(↑Z:Int))) (Ar (decide (0<=Y)&&decide (Y<(↑Z:Int)))<|Bv (X.getD (0+Y.toNat*1) .top) fun a=>D6 (call 114 [a]) fun a b=>Bu a fun a=>Ap b<|Ax (!a) (Bj [(2:Int)]) (Aa (wrap .i64 (Y+1)) fun a=>E9 fu call W V Z a X)) (Aa (wrap .i64 ((↑Z:Int)-1)) fun a=>Ar (decide (0<=a)&&decide (a<(↑Z:Int)))<|Bv (X.getD (0+a.toNat*1) .top) fun a=>Fa fu call W fu a 0)):=by kernel_rfl
theorem I0(X:ByteArray)(W:Nat)(Y:ByteArray)(Z:Int):Fa fu call X (W+1) Y Z=(Ax (decide (Z<(↑(ByteArray.size Y):Int))) (Ar (decide (0<=Z))<|Ds ((Array.toList (ByteArray.data Y))[Z.toNat]?) fun a=>D6 (call 115 [.sc (.int .u8 (↑(UInt8.toNat a):Int))]) fun a b=>Bu a fun a=>Ap b<|Ax (!a) (Bj [(0:Int)]) (Aa (wrap .i64 (Z+1)) fun a=>Fa fu call X W Y a)) (Bj [(2:Int)])):=by kernel_rfl
theorem Uw{p:FuncId->Option (Ad->Option A1)}(fu d:Nat)(Z:ByteArray):Ac (CP p) prog fu (d+1) 81 [Z]=(fun (call:Aq)=>Ax (decide ((↑(ByteArray.size Z):Int)>100)) (Bj [(8:Int)]) (D6 (call 113 [Z,.sc (.int .u8 46)]) fun a b=>Lg 1 a fun a c=>Ap b<|E9 fu call Z fu a 0 c)) (Ac (CP p) prog fu d):=by kernel_rfl
def Br(Z:ByteArray)(Y:Nat)(X:ByteArray)(W V:Int)(U:Bool)(T:ByteArray)(S:Int)(Q:Bool)(P:ByteArray)(O:Int):Option A1:=Ll fu call 47 Tryz.f47 [Z] [.r,.r,.r,.r,.r,.r,.l,.r,.l] Y ⟨lk [(2,.ptr 2 0),(4,.ptr 4 0),(6,X),(7,W),(8,V)],Fw [(2,.st [U,T,S]),(4,.st [Q,P,O])]⟩
theorem Hs(V:ByteArray)(U:Nat)(Z:ByteArray)(Y X:Int)(T:Bool)(S:ByteArray)(Q:Int)(W:Bool)(P:ByteArray)(O:Int):Br fu call V (U+1) Z Y X T S Q W P O=(Ax (decide (X>=0)) (Ar (decide (0<=X))<|Ds ((Array.toList (ByteArray.data Z))[X.toNat]?) fun a=>Ax ((↑(UInt8.toNat a):Int)==58) (Aa (wrap .i64 (X-1)) fun a=>Br fu call V U Z X a T S Q W P O) (Aa (wrap .i64 (X-1)) fun a=>Br fu call V U Z Y a T S Q W P O)) (Ar (decide (0<=Y))<|Ar (decide (Y.toNat<=ByteArray.size Z))<|Aa (ByteArray.extract Z 0 Y.toNat) fun a=>Gz .i64 (call 81 [a]) fun a=>(fun e:PV=>Ax (a != 0) (Bj [e,a]) (Ar (decide (0<=Y))<|Ar (decide (Y.toNat<=ByteArray.size Z))<|Aa (ByteArray.extract Z 0 Y.toNat) fun a=>Gz .i64 (call 82 [W]) fun b=>Ax (decide (Y<(↑(ByteArray.size Z):Int))) (Aa (wrap .i64 (Y+1)) fun b=>Ar (decide (0<=b))<|Ar (decide (b.toNat<=ByteArray.size Z)&&decide (ByteArray.size Z<=ByteArray.size Z))<|Aa (ByteArray.extract Z b.toNat (ByteArray.size Z)) fun b=>D6 (call 83 [b,W]) fun b c=>Bc .i64 b fun b=>Qp c fun c=>Ax (!c) (Bj [e,(2:Int)]) (Bj [.agg [W,a,b],(0:Int)])) (Bj [.agg [W,a,b],(0:Int)]))) (.agg [false,Bo ⟨#[]⟩,(0:Int)]))):=by kernel_rfl
theorem Rr{p:FuncId->Option (Ad->Option A1)}(fu d:Nat)(Z:ByteArray):Ac (CP p) prog fu (d+1) 47 [Z]=(fun (call:Aq)=>(fun e:Option A1=>Ax (decide ((↑(ByteArray.size Z):Int)>=8)) (Ar (decide (8<=ByteArray.size Z))<|Aa (ByteArray.extract Z 0 8) fun a=>D6 (call 80 [C9 (Array.toList (ByteArray.data a)==Array.toList (ByteArray.data (ByteArray.mk #[104,116,116,112,115,58,47,47])))]) fun b c=>Bv b fun b=>Ap c<|Ax (decide ((↑(ByteArray.size Z):Int)<(↑(ByteArray.size b):Int))) e (Ar (decide (Int.toNat (↑(ByteArray.size b):Int)<=ByteArray.size Z))<|Aa (ByteArray.extract Z 0 (Int.toNat (↑(ByteArray.size b):Int))) fun c=>Ax (!Array.toList (ByteArray.data c)==Array.toList (ByteArray.data b)) e (Ar (decide (Int.toNat (↑(ByteArray.size b):Int)<=ByteArray.size Z)&&decide (ByteArray.size Z<=ByteArray.size Z))<|Aa (ByteArray.extract Z (Int.toNat (↑(ByteArray.size b):Int)) (ByteArray.size Z)) fun b=>Aa (wrap .i64 ((↑(ByteArray.size b):Int)-1)) fun c=>Br fu call Z fu b ((↑(ByteArray.size b):Int)) c false (ByteArray.mk #[]) 0 (Array.toList (ByteArray.data a)==Array.toList (ByteArray.data (ByteArray.mk #[104,116,116,112,115,58,47,47]))) (ByteArray.mk #[]) 0))) (D6 (call 80 [false]) fun a b=>Bv a fun a=>Ap b<|Ax (decide ((↑(ByteArray.size Z):Int)<(↑(ByteArray.size a):Int))) e (Ar (decide (Int.toNat (↑(ByteArray.size a):Int)<=ByteArray.size Z))<|Aa (ByteArray.extract Z 0 (Int.toNat (↑(ByteArray.size a):Int))) fun b=>Ax (!Array.toList (ByteArray.data b)==Array.toList (ByteArray.data a)) e (Ar (decide (Int.toNat (↑(ByteArray.size a):Int)<=ByteArray.size Z)&&decide (ByteArray.size Z<=ByteArray.size Z))<|Aa (ByteArray.extract Z (Int.toNat (↑(ByteArray.size a):Int)) (ByteArray.size Z)) fun a=>Aa (wrap .i64 ((↑(ByteArray.size a):Int)-1)) fun b=>Br fu call Z fu a ((↑(ByteArray.size a):Int)) b false (ByteArray.mk #[]) 0 false (ByteArray.mk #[]) 0)))) (Bj [.agg [false,Bo ⟨#[]⟩,(0:Int)],(2:Int)])) (Ac (CP p) prog fu d):=by kernel_rfl
theorem R0{p:FuncId->Option (Ad->Option A1)}(fu d:Nat)(W:Int)(Y:Nat)(V:Ad)(X:ByteArray)(U:Bool)(Z:ByteArray):Ac (CP p) prog fu (d+1) 20 [.agg [W,A5 1 Y V,X,U,Z]]=(fun (call:Aq)=>D6 (call 46 [W]) fun a b=>Bv a fun a=>Ap b<|Ax (Array.toList (ByteArray.data a)==Array.toList (ByteArray.data (ByteArray.mk #[]))) (Bj [Bo ⟨#[]⟩,(3:Int)]) (Ax (decide ((↑Y:Int)<1)) (Bj [Bo ⟨#[]⟩,(9:Int)]) (Ax (decide ((↑Y:Int)>64)) (Bj [Bo ⟨#[]⟩,(9:Int)]) (D6 (call 47 [X]) fun a b=>Ep a fun a=>Ai a fun a c=>Bu a fun a=>Ai c fun a c=>Bv a fun a=>Dn .i64 c fun a=>Dn .i64 b fun a=>Ax (a != 0) (Bj [Bo ⟨#[]⟩,a]) (D6 (call 46 [W]) fun a b=>Bv a fun a=>Ap b<|Ar (decide (9+ByteArray.size a<=9223372036854775807))<|Aa (ByteArray.mk #[123,34,116,121,112,101,34,58,34]++a) fun a=>Ar (decide (ByteArray.size a+15<=9223372036854775807))<|Aa (a++ByteArray.mk #[34,44,34,99,104,97,108,108,101,110,103,101,34,58,34]) fun a=>D6 (call 48 [A5 1 Y V]) fun b c=>Bv b fun b=>Ap c<|Ar (decide (ByteArray.size a+ByteArray.size b<=9223372036854775807))<|Aa (a++b) fun a=>Ar (decide (ByteArray.size a+12<=9223372036854775807))<|Aa (a++ByteArray.mk #[34,44,34,111,114,105,103,105,110,34,58,34]) fun a=>Ar (decide (ByteArray.size a+ByteArray.size X<=9223372036854775807))<|Aa (a++X) fun a=>Ar (decide (ByteArray.size a+16<=9223372036854775807))<|Aa (a++ByteArray.mk #[34,44,34,99,114,111,115,115,79,114,105,103,105,110,34,58]) fun a=>Ax (!U) (Ax (!Array.toList (ByteArray.data Z)==Array.toList (ByteArray.data (ByteArray.mk #[]))) (Bj [Bo ⟨#[]⟩,(4:Int)]) (Ar (decide (ByteArray.size a+6<=9223372036854775807))<|Aa (a++ByteArray.mk #[102,97,108,115,101,125]) fun a=>Bj [a,(0:Int)])) (D6 (call 47 [Z]) fun b c=>Ep b fun b=>Ai b fun b e=>Bu b fun b=>Ai e fun b e=>Bv b fun b=>Dn .i64 e fun b=>Dn .i64 c fun b=>Ax (b != 0) (Bj [Bo ⟨#[]⟩,b]) (Ar (decide (ByteArray.size a+18<=9223372036854775807))<|Aa (a++ByteArray.mk #[116,114,117,101,44,34,116,111,112,79,114,105,103,105,110,34,58,34]) fun a=>Ar (decide (ByteArray.size a+ByteArray.size Z<=9223372036854775807))<|Aa (a++Z) fun a=>Ar (decide (ByteArray.size a+2<=9223372036854775807))<|Aa (a++ByteArray.mk #[34,125]) fun a=>Bj [a,(0:Int)]))))))) (Ac (CP p) prog fu d):=by kernel_rfl
end
theorem Aih{l:Aj}(hl:Cp l)(a b:Nat):(Ab l).extract a b=Ab ((l.drop a).take (b-a)):=by
 have h:(Ab l).extract a b=Ab (Ci ((Ab l).extract a b)):=(Mf _).symm;rw[h]
 congr 1
 unfold Ci;rw[ByteArray.data_extract,Array.toList_extract,List.extract_eq_take_drop,List.map_take,List.map_drop];have:(List.map (fun b:UInt8=>(b.toNat:Int)) (Ab l).data.toList)=l:=C8 hl;rw[this]
theorem FW{a b:Aj}(ha:Cp a)(hb:Cp b):(Array.toList (Ab a).data==Array.toList (Ab b).data)=decide (a=b):=by
 rw[Bool.eq_iff_iff,beq_iff_eq,decide_eq_true_iff];constructor
 ·intro h
  have h2:Ab a=Ab b:=by
   cases hx:Ab a;cases hy:Ab b;rw[hx,hy] at h;exact congrArg ByteArray.mk (Array.toList_inj.1 h)
  have h3:=congrArg Ci h2
  rwa [C8 ha,C8 hb] at h3
 ·rintro rfl;rfl
theorem Abv{w l:Aj}(h:w.length<=l.length):decide (l.take w.length=w)=w.isPrefixOf l:=by rw[Bool.eq_iff_iff,decide_eq_true_iff,List.isPrefixOf_iff_prefix,List.prefix_iff_eq_take];exact⟨fun h=>h.symm,fun h=>h.symm⟩
theorem TN(c:Int):∀{cur:Aj},(∀x∈cur,x≠c)->∀r,Ay c (cur++c::r)=cur::Ay c r
 |[],_,r=>by
  show (if c=c then []::Ay c r else _)=_;rw[Cy rfl]
 |x::cur,h,r=>by
  have hx:=h x (by simp);have ih:=TN c (cur:=cur) (fun y hy=>h y (by simp[hy])) r;show (if x=c then []::Ay c (cur++c::r) else match Ay c (cur++c::r) with|a::t=>(x::a)::t|[]=>[[x]])=_;rw[Bl hx,ih]
theorem NR(c:Int):∀{cur:Aj},(∀x∈cur,x≠c)->Ay c cur=[cur]
 |[],_=>rfl
 |x::cur,h=>by
  have hx:=h x (by simp);have ih:=NR c (cur:=cur) (fun y hy=>h y (by simp[hy]));show (if x=c then []::Ay c cur else match Ay c cur with|a::t=>(x::a)::t|[]=>[[x]])=_;rw[Bl hx,ih]
section
variable {fu d:Nat}{p:FuncId->Option (Ad->Option A1)}
theorem Afy{c:Int}:Ac (CP p) prog fu (d+1) 115 [.sc (.int .u8 c)]=some ⟨[C9 (Z9 c)],[]⟩:=by
 rw[Ya];unfold Z9;by_cases h:48<=c
 ·have a1:=dT (q:=c>=48) h;have a2:=dT h;simp only[A4,A3,a1,a2,WU]
 ·have a1:=dF (q:=c>=48) h;have a2:=dF h;simp only[A4,A3,a1,a2,RH]
def lbB(x:Int):Bool:=ltB x||x==45
theorem Ahy{a0:ByteArray}{l:Aj}(hB:Cp l)(hs:l.length<=63):∀(r:Aj)(i nn:Nat),l.drop i=r->r.length+1<=nn ->
  C5 fu (Ac (CP p) prog fu (d+1)) a0 nn (Ab l) (i:Int)=some ⟨[C9 (r.all lbB)],[]⟩
 |[],i,nn,hd,hn=>by
  obtain⟨k,rfl⟩:∃k,nn=k+1:=⟨nn-1,by omega⟩
  have hi:=drop_nil hd;have a1:decide ((i:Int)<(l.length:Int))=false:=dF (by omega);rw[Le];simp only[A4,A3,Ag,a1];rfl
 |c::r,i,nn,hd,hn=>by
  obtain⟨k,rfl⟩:∃k,nn=k+1:=⟨nn-1,by omega⟩
  obtain⟨hi,hc,OL⟩:=Dx hd;have ih:=Ahy (a0:=a0) hB hs r (i+1) k OL (by simp at hn;omega)
  have AO:=hB c (List.mem_of_getElem? hc);have a1:decide ((i:Int)<(l.length:Int))=true:=dT (by omega);have a2:decide ((0:Int)<=(i:Int))=true:=by simp
  have a3:(Array.toList (Ab l).data)[Int.toNat (i:Int)]?=some c.toNat.toUInt8:=by
   rw[Jg];show (l.map fun n=>n.toNat.toUInt8)[i]?=_;rw[List.getElem?_map,hc];rfl
  have a4:=Nk AO;have a5:wrap .i64 ((i:Int)+1)=((i+1:Nat):Int):=Bk
  have e:Ac (CP p) prog fu (d+1) 115 [.sc (.int .u8 c)]=_:=Afy (fu:=fu) (d:=d) (p:=p) (c:=c);have step:(c::r).all lbB=(lbB c&&r.all lbB):=List.all_cons;rw[Le,step];by_cases hA:97<=c/\c<=122
  ·have q1:=dT (q:=c>=97) hA.1;have q2:=bT hA.2;have hl:lbB c=true:=by unfold lbB ltB;simp[hA]
   rw[hl,WU];simp only[A4,A3,Ag,a1,a2,a3,a4,a5,q1,q2];exact ih
  cases hD:Z9 c
  ·rw[hD] at e
   have Cm:ltB c=false:=by
    unfold ltB;rw[hD,Bool.or_false];simp;omega
   by_cases hM:c=45
   ·subst hM;have q1:decide ((45:Int)>=97)=false:=rfl;have q3:((45:Int) != 45)=false:=rfl;have hl:lbB 45=true:=rfl;rw[hl,WU];simp only[A4,A3,Ag,a1,a2,a3,a4,a5,q1,e,Km,q3];exact ih
   ·have q3:(c != 45)=true:=by simp[hM]
    have hl:lbB c=false:=by unfold lbB;simp[Cm,hM]
    rw[hl,RH];by_cases h97:97<=c
    ·have q1:=dT (q:=c>=97) h97;have q2:=bF (q:=c<=122) (by omega);simp only[A4,A3,Ag,a1,a2,a3,a4,a5,q1,q2,e,Km,q3]
    ·have q1:=dF (q:=c>=97) h97;simp only[A4,A3,Ag,a1,a2,a3,a4,a5,q1,e,Km,q3]
  ·rw[hD] at e;have h48:=(GN c).1 hD;have hl:lbB c=true:=by unfold lbB ltB;simp[hD]
   have q1:=dF (q:=c>=97) (by omega);rw[hl,WU];simp only[A4,A3,Ag,a1,a2,a3,a4,a5,q1,e,Hn];exact ih
theorem Aoa{l:Aj}(hB:Cp l)(Bq:100<=fu):Ac (CP p) prog fu (d+2) 114 [Bo (Ab l)]=some ⟨[C9 (Kr l)],[]⟩:=by
 rw[Xw];by_cases h1:1<=l.length
 ·have a1:decide (((l.length:Nat):Int)<1)=false:=dF (by omega);by_cases h2:l.length<=63
  ·have a2:decide (((l.length:Nat):Int)>63)=false:=dF (by omega)
   have e0:Kr l=(!(l.head?==some 45) && !(l.getLast?==some 45)&&l.all lbB):=by
    unfold Kr;rw[dT h1,dT h2];rfl
   cases l with
   |nil=>simp at h1
   |cons c r=>
    have AO:=hB c (by simp);have a3:(Array.toList (Ab (c::r)).data)[0]?=some c.toNat.toUInt8:=rfl;have a4:=Nk AO;by_cases h0:c=45
    ·subst h0;have q:((45:Int)==45)=true:=rfl;have e:Kr (45::r)=false:=by rw[e0];simp
     rw[e];simp only[A4,A3,Ag,a1,a2,a3,a4,q]
    ·have q:(c==45)=false:=by simp[h0]
     obtain⟨z,hz⟩:∃z,(c::r).getLast?=some z:=⟨_,List.getLast?_eq_some_getLast (by simp)⟩
     have ZX:(c::r)[(c::r).length-1]?=some z:=by rw[<-List.getLast?_eq_getElem?];exact hz
     have hzB:=hB z (List.mem_of_getElem? ZX);have b1:wrap .i64 (((c::r).length:Int)-1)=(((c::r).length-1:Nat):Int):=Bk
     have b2:decide ((0:Int)<=(((c::r).length-1:Nat):Int))=true:=dT (by omega)
     have b3:(Array.toList (Ab (c::r)).data)[Int.toNat (((c::r).length-1:Nat):Int)]?=some z.toNat.toUInt8:=by
      rw[Jg];show ((c::r).map fun n=>n.toNat.toUInt8)[(c::r).length-1]?=_;rw[List.getElem?_map,ZX];rfl
     have b4:=Nk hzB;by_cases Ay3:z=45
     ·subst Ay3;have q2:((45:Int)==45)=true:=rfl;have e:Kr (c::r)=false:=by rw[e0,hz];simp
      rw[e];simp only[A4,A3,Ag,a1,a2,a3,a4,q,b1,b2,b3,b4,q2]
     ·have q2:(z==45)=false:=by simp[Ay3]
      have e:Kr (c::r)=(c::r).all lbB:=by rw[e0,hz];simp[h0,Ay3]
      have hl:=Ahy (fu:=fu) (d:=d) (p:=p) (a0:=Ab (c::r)) hB h2 (c::r) 0 fu rfl (by omega);rw[e];simp only[A4,A3,Ag,a1,a2,a3,a4,q,b1,b2,b3,b4,q2];rw[Ub (Gy:=by omega)];exact hl
  ·have a2:decide (((l.length:Nat):Int)>63)=true:=dT (by omega);have e:Kr l=false:=by unfold Kr;simp[h2]
   rw[e];simp only[A4,A3,Ag,a1,a2]
 ·have a1:decide (((l.length:Nat):Int)<1)=true:=dT (by omega);have e:Kr l=false:=by unfold Kr;simp[h1]
  rw[e];simp only[A4,A3,Ag,a1]
theorem YZ{call:Aq}{a0:ByteArray}{a1 c:Int}{l:Aj}(hB:Cp l)(hl:l.length<=100000):∀(r cur:Aj)(done:List Aj) (f nn:Nat),l.drop f=cur++r->(∀x∈cur,x≠c)->done.length<=f->f<=l.length->r.length+1<=nn ->
  E0 fu call a0 a1 nn (Ab l) c done.length (f:Int) ((f+cur.length:Nat):Int) (done.map Wh)=some ⟨[.own 1 (done++Ay c (cur++r)).length ((done++Ay c (cur++r)).map Wh)],[]⟩
 |[],cur,done,f,nn,hd,hc,Z6,hf,hn=>by
  obtain⟨k,rfl⟩:∃k,nn=k+1:=⟨nn-1,by omega⟩
  rw[List.append_nil] at hd;have Eb:=congrArg List.length hd;rw[List.length_drop] at Eb;have b1:decide (((f+cur.length:Nat):Int)<(l.length:Int))=false:=dF (by omega);have b2:decide ((0:Int)<=(f:Int))=true:=by simp
  have b3:decide (Int.toNat (f:Int)<=l.length)=true:=dT (by omega)
  have b4:(Ab l).extract (Int.toNat (f:Int)) l.length=Ab cur:=by
   rw[Aih hB,Jg,hd,Ji (by omega)]
  have b5:decide (done.length*1<=List.length (done.map Wh))=true:=by simp
  have b6:decide ((done.length+1)*16<=1099511627776)=true:=dT (by omega);have b7:decide (done.length+1<=1099511627776)=true:=dT (by omega)
  have b8:List.take (done.length*1) (done.map Wh)++[PV.sc (.string (Ab cur))]=(done++[cur]).map Wh:=by
   rw[Ji (by simp)];simp[Wh]
  have b9:decide ((done.length+1)*1<=List.length ((done++[cur]).map Wh))=true:=by simp
  have c1:List.take ((done.length+1)*1) ((done++[cur]).map Wh)=(done++[cur]).map Wh:=Ji (by simp);rw[Ld,List.append_nil,NR c hc];simp only[A4,A3,Ag,dle,b1,b2,b3,b4,b5,b6,b7,b8,b9,c1];simp
 |x::r,cur,done,f,nn,hd,hc,Z6,hf,hn=>by
  obtain⟨k,rfl⟩:∃k,nn=k+1:=⟨nn-1,by omega⟩
  have Eb:=congrArg List.length hd;rw[List.length_drop] at Eb;simp only[Xk,On] at Eb
  have hx:l[f+cur.length]?=some x:=by
   have:(l.drop f)[cur.length]?=some x:=by rw[hd];simp
   rwa [List.getElem?_drop] at this
  have hxB:=hB x (List.mem_of_getElem? hx);have b1:decide (((f+cur.length:Nat):Int)<(l.length:Int))=true:=dT (by omega);have b2:decide ((0:Int)<=((f+cur.length:Nat):Int))=true:=dT (by omega);have b2':decide ((0:Int)<=(f:Int))=true:=by simp
  have b3:(Array.toList (Ab l).data)[Int.toNat ((f+cur.length:Nat):Int)]?=some x.toNat.toUInt8:=by
   rw[Jg];show (l.map fun n=>n.toNat.toUInt8)[f+cur.length]?=_;rw[List.getElem?_map,hx];rfl
  have b4:=Nk hxB;have b5:wrap .i64 (((f+cur.length:Nat):Int)+1)=((f+cur.length+1:Nat):Int):=Bk
  rw[Ld];by_cases hxc:x=c
  ·subst hxc;have q:(x==x)=true:=by simp
   have c1:decide (Int.toNat (f:Int)<=Int.toNat ((f+cur.length:Nat):Int))=true:=dT (by omega);have c2:decide (Int.toNat ((f+cur.length:Nat):Int)<=l.length)=true:=dT (by omega)
   have c3:(Ab l).extract (Int.toNat (f:Int)) (Int.toNat ((f+cur.length:Nat):Int))=Ab cur:=by
    rw[Aih hB,Jg,Jg,hd,Nat.add_sub_cancel_left,List.take_left]
   have c4:decide (done.length*1<=List.length (done.map Wh))=true:=by simp
   have c5:decide ((done.length+1)*16<=1099511627776)=true:=dT (by omega);have c6:decide (done.length+1<=1099511627776)=true:=dT (by omega)
   have c7:List.take (done.length*1) (done.map Wh)++[PV.sc (.string (Ab cur))]=(done++[cur]).map Wh:=by
    rw[Ji (by simp)];simp[Wh]
   have OL:l.drop (f+cur.length+1)=[]++r:=by
    rw[<-List.drop_drop,<-List.drop_drop,hd,List.drop_left];rfl
   have ih:=YZ (call:=call) (a0:=a0) (a1:=a1) (c:=x) hB hl r [] (done++[cur]) (f+cur.length+1) k OL (fun y hy=>nomatch hy) (by simp;omega) (by omega) (by simp at hn;omega)
   rw[TN x hc];simp only[A4,A3,Ag,b1,b2,b2',b3,b4,q,c1,c2,c3,c4,c5,c6,c7,b5];rw[show (done++[cur]).length=done.length+1 by simp,show f+cur.length+1+([]:Aj).length=f+cur.length+1 from rfl] at ih;refine ih.trans ?_;simp
  ·have q:(x==c)=false:=by simp[hxc]
   have ih:=YZ (call:=call) (a0:=a0) (a1:=a1) hB hl r (cur++[x]) done f k (by rw[hd];simp) (fun y hy=>by
    rcases Bn.1 hy with hy|hy
    ·exact hc y hy
    ·simp at hy;subst hy;exact hxc) Z6 hf (by simp at hn;omega)
   simp only[A4,A3,Ag,b1,b2,b3,b4,q,b5];rw[show f+(cur++[x]).length=f+cur.length+1 by simp;omega] at ih
   refine ih.trans ?_;simp
theorem Aop{c:Int}{l:Aj}(hB:Cp l)(hl:l.length<=100000)(Bq:l.length+1<=fu):Ac (CP p) prog fu (d+1) 113 [Bo (Ab l),.sc (.int .u8 c)]=some ⟨[.own 1 (Ay c l).length ((Ay c l).map Wh)],[]⟩:=by rw[Yr];have:=YZ (fu:=fu) (call:=Ac (CP p) prog fu d) (a0:=Ab l) (a1:=c) (c:=c) hB hl l [] [] 0 fu rfl (fun y hy=>nomatch hy) (Cn _) (by omega) Bq;exact this
theorem Aal{a0:ByteArray}{l:Aj}(hB:Cp l)(hs:l.length<=100000):∀(r:Aj)(i nn:Nat),l.drop i=r->r.length+1<=nn ->
  Fa fu (Ac (CP p) prog fu (d+1)) a0 nn (Ab l) (i:Int)=some ⟨[Aw (if r.all Z9=true then 2 else 0)],[]⟩
 |[],i,nn,hd,hn=>by
  obtain⟨k,rfl⟩:∃k,nn=k+1:=⟨nn-1,by omega⟩
  have hi:=drop_nil hd;have a1:decide ((i:Int)<(l.length:Int))=false:=dF (by omega);rw[I0];simp only[A4,A3,Ag,a1];rfl
 |c::r,i,nn,hd,hn=>by
  obtain⟨k,rfl⟩:∃k,nn=k+1:=⟨nn-1,by omega⟩
  obtain⟨hi,hc,OL⟩:=Dx hd;have ih:=Aal (a0:=a0) hB hs r (i+1) k OL (by simp at hn;omega)
  have AO:=hB c (List.mem_of_getElem? hc);have a1:decide ((i:Int)<(l.length:Int))=true:=dT (by omega);have a2:decide ((0:Int)<=(i:Int))=true:=by simp
  have a3:(Array.toList (Ab l).data)[Int.toNat (i:Int)]?=some c.toNat.toUInt8:=by
   rw[Jg];show (l.map fun n=>n.toNat.toUInt8)[i]?=_;rw[List.getElem?_map,hc];rfl
  have a4:=Nk AO;have a5:wrap .i64 ((i:Int)+1)=((i+1:Nat):Int):=Bk
  have e:Ac (CP p) prog fu (d+1) 115 [.sc (.int .u8 c)]=_:=Afy (fu:=fu) (d:=d) (p:=p) (c:=c);rw[I0,List.all_cons];cases hD:Z9 c
  ·rw[hD] at e;simp only[A4,A3,Ag,a1,a2,a3,a4,e,Km,RH,Bool.false_eq_true,if_false]
  ·rw[hD] at e;simp only[A4,A3,Ag,a1,a2,a3,a4,e,Hn,WU,a5];exact ih
theorem TQ{a0:ByteArray}(Bq:2000<=fu){ls:List Aj}(hB:∀x∈ls,Cp x/\x.length<=1000)(h0:ls≠[])(hN:ls.length<=1000):∀(r:List Aj) (i nn:Nat),ls.drop i=r->r.length+1<=nn ->
  E9 fu (Ac (CP p) prog fu (d+2)) a0 nn ls.length (i:Int) (ls.map Wh)=some ⟨[Aw (if r.all Kr=false then 2 else if (ls.getLastD []).all Z9=true then 2 else 0)],[]⟩
 |[],i,nn,hd,hn=>by
  obtain⟨k,rfl⟩:∃k,nn=k+1:=⟨nn-1,by omega⟩
  have hi:=drop_nil hd;have Aas:0<ls.length:=List.length_pos_iff.2 h0;have a1:decide ((i:Int)<(ls.length:Int))=false:=dF (by omega);have a2:wrap .i64 ((ls.length:Int)-1)=((ls.length-1:Nat):Int):=Bk
  have a3:decide ((0:Int)<=((ls.length-1:Nat):Int))=true:=dT (by omega);have a4:decide (((ls.length-1:Nat):Int)<(ls.length:Int))=true:=dT (by omega)
  have NT:ls.getLastD []=ls[ls.length-1]'(by omega):=by
   rw[List.getLastD_eq_getLast?,List.getLast?_eq_getElem?,List.getElem?_eq_getElem (by omega)];rfl
  have a5:List.getD (ls.map Wh) (0+Int.toNat ((ls.length-1:Nat):Int)*1) PV.top=Bo (Ab (ls.getLastD [])):=by
   rw[Jg,Ig,J6,List.getD_eq_getElem?_getD,List.getElem?_map,List.getElem?_eq_getElem (by omega),NT];rfl
  have hm:=hB (ls.getLastD []) (by rw[NT];exact List.getElem_mem _)
  have hdl:=Aal (fu:=fu) (d:=d+1) (p:=p) (a0:=a0) hm.1 (by omega) (ls.getLastD []) 0 fu rfl (by omega);rw[I1];simp only[A4,A3,a1,a2,a3,a4,a5,List.all_nil,Bool.true_eq_false,if_false];exact hdl
 |x::r,i,nn,hd,hn=>by
  obtain⟨k,rfl⟩:∃k,nn=k+1:=⟨nn-1,by omega⟩
  obtain⟨hi,hc,OL⟩:=Dx hd;have ih:=TQ (a0:=a0) Bq hB h0 hN r (i+1) k OL (by simp at hn;omega)
  have hm:=hB x (List.mem_of_getElem? hc);have e:Ac (CP p) prog fu (d+2) 114 [Bo (Ab x)]=_:=Aoa (fu:=fu) (d:=d) (p:=p) hm.1 (by omega);have a1:decide ((i:Int)<(ls.length:Int))=true:=dT (by omega);have a2:decide ((0:Int)<=(i:Int))=true:=by simp
  have a5:List.getD (ls.map Wh) (0+Int.toNat (i:Int)*1) PV.top=Bo (Ab x):=by
   rw[Jg,Ig,J6,List.getD_eq_getElem?_getD,List.getElem?_map,hc];rfl
  have a6:wrap .i64 ((i:Int)+1)=((i+1:Nat):Int):=Bk
  rw[I1];cases hq:Kr x
  ·rw[hq] at e;have:((x::r).all Kr=false):=by simp[hq]
   rw[Cy this];simp only[A4,A3,a1,a2,a5,e,Km]
  ·rw[hq] at e;have:(x::r).all Kr=r.all Kr:=by simp[hq]
   rw[this];simp only[A4,A3,a1,a2,a5,e,Hn,a6];exact ih
theorem At8{l:Aj}(hB:Cp l)(hs:l.length<=1000000)(Bq:2000<=fu):Ac (CP p) prog fu (d+4) 81 [Bo (Ab l)]=some ⟨[Aw (Sv l)],[]⟩:=by
 rw[Uw];unfold Sv;by_cases h:100<l.length
 ·have a1:decide (((l.length:Nat):Int)>100)=true:=dT (by omega);rw[Cy h];simp only[A4,A3,Ag,a1]
 ·have a1:decide (((l.length:Nat):Int)>100)=false:=dF (by omega);have e:Ac (CP p) prog fu (d+3) 113 [Bo (Ab l),.sc (.int .u8 46)]=_:=Aop (fu:=fu) (d:=d+2) (p:=p) (c:=46) hB (by omega) (by omega);have hn:=Zw 46 l;have hd:=TQ (a0:=Ab l) (fu:=fu) (d:=d+1) (p:=p) (by omega) (ls:=Ay 46 l) (fun x hx=>⟨(Xu 46 hB x hx).1,by have:=(Xu 46 hB x hx).2;omega⟩) (Qt 46 l) (by omega) (Ay 46 l) 0 fu rfl (by omega)
  rw[Bl h];simp only[A4,A3,Ag,a1,e];exact hd
end
section
variable {fu d:Nat}{p:FuncId->Option (Ad->Option A1)}
theorem Aaf(s:Bool):Ac (CP p) prog fu (d+1) 82 [C9 s]=some ⟨[Aw (dfl s)],[]⟩:=by rw[Rg];cases s<;>simp only[A4,A3]<;>rfl
theorem PW{a0:ByteArray}{l:Aj}{s a1:Bool}(hB:Cp l)(hs:l.length<=5):∀(r:Aj)(i nn:Nat)(n:Int),l.drop i=r->r.length+1<=nn->0<=n->n<10 ^ i ->
  Gi fu (Ac (CP p) prog fu (d+1)) a0 a1 nn (Ab l) s n (i:Int)=some (if r.all Z9=true then ⟨[Aw (r.foldl (fun n x=>10*n+(x-48)) n),C9 (decide (r.foldl (fun n x=>10*n+(x-48)) n<=65535)&&decide (r.foldl (fun n x=>10*n+(x-48)) n≠dfl s))],[]⟩ else ⟨[Aw 0,C9 false],[]⟩)
 |[],i,nn,n,hd,hn,h0,h1=>by
  obtain⟨k,rfl⟩:∃k,nn=k+1:=⟨nn-1,by omega⟩
  have hi:=drop_nil hd;have a1':decide ((i:Int)<(l.length:Int))=false:=dF (by omega);have e:Ac (CP p) prog fu (d+1) 82 [C9 s]=_:=Aaf (fu:=fu) (d:=d) (p:=p) s;rw[Lt];show _=some (A1.mk [Aw n,C9 (decide (n<=65535)&&decide (n≠dfl s))] []);by_cases hv:n<=65535
  ·have q:=dT hv
   have q2:(n != dfl s)=decide (n≠dfl s):=by
    by_cases h:n=dfl s<;>simp[h]
   simp only[A4,A3,Ag,a1',q,e,q2,WU]
  ·have q:=dF hv;simp only[A4,A3,Ag,a1',q,RH]
 |c::r,i,nn,n,hd,hn,h0,h1=>by
  obtain⟨k,rfl⟩:∃k,nn=k+1:=⟨nn-1,by omega⟩
  obtain⟨hi,hc,OL⟩:=Dx hd;have AO:=hB c (List.mem_of_getElem? hc)
  have hp:(10:Int) ^ i<=10 ^ 4:=by
   have h:=Nat.pow_le_pow_right (n:=10) (by omega) (show i<=4 by omega)
   exact_mod_cast h
  have hp2:(10:Int) ^ (i+1)=10 ^ i*10:=Int.pow_succ ..;have a1':decide ((i:Int)<(l.length:Int))=true:=dT (by omega);have a2:decide ((0:Int)<=(i:Int))=true:=by simp
  have a3:(Array.toList (Ab l).data)[Int.toNat (i:Int)]?=some c.toNat.toUInt8:=by
   rw[Jg];show (l.map fun n=>n.toNat.toUInt8)[i]?=_;rw[List.getElem?_map,hc];rfl
  have a4:=Nk AO;have e:Ac (CP p) prog fu (d+1) 115 [.sc (.int .u8 c)]=_:=Afy (fu:=fu) (d:=d) (p:=p) (c:=c);rw[Lt];cases hD:Z9 c
  ·rw[hD] at e;have ea:(c::r).all Z9=false:=by rw[List.all_cons,hD,RH]
   rw[ea];simp only[A4,A3,Ag,a1',a2,a3,a4,e,Km,Bool.false_eq_true,if_false]
  ·rw[hD] at e;have hq:=(GN c).1 hD;have a5:wrap .i64 (10*n)=10*n:=Bb;have a6:wrap .u8 (c-48)=c-48:=Nw (by omega) (by omega);have a7:wrap .i64 (c-48)=c-48:=Bb;have a8:wrap .i64 (10*n+(c-48))=10*n+(c-48):=Bb;have a9:wrap .i64 ((i:Int)+1)=((i+1:Nat):Int):=Bk
   have ih:=PW (a0:=a0) (s:=s) (a1:=a1) hB hs r (i+1) k (10*n+(c-48)) OL (by simp at hn;omega) (by omega) (by omega)
   have ea:(c::r).all Z9=r.all Z9:=by rw[List.all_cons,hD,WU]
   simp only[A4,A3,Ag,a1',a2,a3,a4,e,Hn,a5,a6,a7,a8,a9];rw[ih,ea];rfl
theorem Av8{l:Aj}{s:Bool}(hB:Cp l)(Bq:100<=fu):Ac (CP p) prog fu (d+2) 83 [Bo (Ab l),C9 s]=some (if Ju l=true then ⟨[Aw (DC l),C9 (decide (DC l<=65535)&&decide (DC l≠dfl s))],[]⟩ else ⟨[Aw 0,C9 false],[]⟩):=by
 rw[AA];by_cases h1:1<=l.length
 ·by_cases h2:l.length<=5
  ·have a1:decide (((l.length:Nat):Int)<1)=false:=dF (by omega);have a2:decide (((l.length:Nat):Int)>5)=false:=dF (by omega);cases l with
   |nil=>simp at h1
   |cons c r=>
    have AO:=hB c (by simp);have a3:(Array.toList (Ab (c::r)).data)[0]?=some c.toNat.toUInt8:=rfl;have a4:=Nk AO;by_cases h0:c=48
    ·subst h0;have e:Ju (48::r)=false:=by unfold Ju;simp
     have q:((48:Int)==48)=true:=rfl;rw[e];simp only[A4,A3,Ag,a1,a2,a3,a4,q,Bool.false_eq_true,if_false]
    ·have q:(c==48)=false:=by simp[h0]
     have e:Ju (c::r)=(c::r).all Z9:=by
      unfold Ju;rw[dT h1,dT h2];simp[h0]
     have hl:=PW (fu:=fu) (d:=d) (p:=p) (a0:=Ab (c::r)) (a1:=s) (s:=s) hB h2 (c::r) 0 fu 0 rfl (by omega) (by omega) (by decide);rw[e];simp only[A4,A3,Ag,a1,a2,a3,a4,q];exact hl
  ·have a1:decide (((l.length:Nat):Int)<1)=false:=dF (by omega);have a2:decide (((l.length:Nat):Int)>5)=true:=dT (by omega);have e:Ju l=false:=by unfold Ju;simp[h2]
   rw[e];simp only[A4,A3,Ag,a1,a2,Bool.false_eq_true,if_false]
 ·have a1:decide (((l.length:Nat):Int)<1)=true:=dT (by omega);have e:Ju l=false:=by unfold Ju;simp[h1]
  rw[e];simp only[A4,A3,Ag,a1,Bool.false_eq_true,if_false]
theorem Az4{a0 s4 s7:ByteArray}{y3 y6:Bool}{y5 y8:Int}{r:Aj}(hr:Cp r)(hrl:r.length<=1000000)(Bq:2000<=fu){nn:Nat}:∃o1 o2 o3,Br fu (Ac (CP p) prog fu (d+4)) a0 (nn+1) (Ab r) ((Bh 58 r).length:Int) (-1) y3 s4 y5 y6 s7 y8=some ⟨[.agg [C9 o1,Bo o2,Aw o3],Aw (Yb y6 r)],[]⟩:=by
 have Wi:=ME 58 r;have hbB:Cp (Bh 58 r):=by rw[Q2];exact fun x hx=>hr x (List.mem_of_mem_take hx)
 have hdB:Cp (r.drop ((Bh 58 r).length+1)):=fun x hx=>hr x (List.mem_of_mem_drop hx);have c2:Ac (CP p) prog fu (d+4) 81 [Bo (Ab (Bh 58 r))]=_:=At8 (fu:=fu) (d:=d) (p:=p) hbB (by omega) Bq;have c3:Ac (CP p) prog fu (d+4) 82 [C9 y6]=_:=Aaf (fu:=fu) (d:=d+3) (p:=p) y6;have c4:Ac (CP p) prog fu (d+4) 83 [Bo (Ab (r.drop ((Bh 58 r).length+1))),C9 y6]=_:=Av8 (fu:=fu) (d:=d+2) (p:=p) (s:=y6) hdB (by omega);have a1:decide ((-1:Int)>=0)=false:=rfl;have a2:decide ((0:Int)<=((Bh 58 r).length:Int))=true:=by simp
 have a3:decide (Int.toNat ((Bh 58 r).length:Int)<=r.length)=true:=dT (by omega);have a4:(Ab r).extract 0 (Int.toNat ((Bh 58 r).length:Int))=Ab (Bh 58 r):=by rw[Jg,Uy hr,<-Q2]
 rw[Hs];unfold Yb;by_cases hh:Sv (Bh 58 r)=0
 ·have z:((0:Int) != 0)=false:=rfl;rw[hh] at c2;simp only[ne_eq,hh,not_true_eq_false,if_false];by_cases hw:(Bh 58 r).length<r.length
  ·have a5:=dT (q:=((Bh 58 r).length:Int)<(r.length:Int)) (by omega);have a6:wrap .i64 (((Bh 58 r).length:Int)+1)=(((Bh 58 r).length+1:Nat):Int):=Bk
   have a7:decide ((0:Int)<=(((Bh 58 r).length+1:Nat):Int))=true:=dT (by omega);have a8:decide (Int.toNat (((Bh 58 r).length+1:Nat):Int)<=r.length)=true:=dT (by omega);have a9:(Ab r).extract (Int.toNat (((Bh 58 r).length+1:Nat):Int)) r.length=Ab (r.drop ((Bh 58 r).length+1)):=by rw[Jg,Vt hr]
   rw[Bl (show ¬(Bh 58 r).length=r.length by omega)];by_cases hp:Ju (r.drop ((Bh 58 r).length+1))=true
   ·rw[Cy hp] at c4;by_cases hv:DC (r.drop ((Bh 58 r).length+1))<=65535/\DC (r.drop ((Bh 58 r).length+1))≠dfl y6
    ·rw[dT hv.1,dT hv.2] at c4;rw[Cy ⟨hp,hv.1,hv.2⟩];exact⟨_,_,_,by simp only[A4,A3,Ag,dle,a1,a2,a3,a4,c2,z,c3,a5,a6,a7,a8,a9,c4,Bool.and_true,Hn];rfl⟩
    ·have hb:(decide (DC (r.drop ((Bh 58 r).length+1))<=65535)&&decide (DC (r.drop ((Bh 58 r).length+1))≠dfl y6))=false:=by
      rw[Bool.eq_false_iff];intro h;rw[Er,decide_eq_true_iff,decide_eq_true_iff] at h;exact hv h
     rw[hb] at c4;rw[Bl (by rintro⟨_,h1,h2⟩;exact hv ⟨h1,h2⟩)]
     exact⟨_,_,_,by simp only[A4,A3,Ag,dle,a1,a2,a3,a4,c2,z,c3,a5,a6,a7,a8,a9,c4,Km];rfl⟩
   ·rw[Bl hp] at c4;rw[Bl (by rintro⟨h,_,_⟩;exact hp h)]
    exact⟨_,_,_,by simp only[A4,A3,Ag,dle,a1,a2,a3,a4,c2,z,c3,a5,a6,a7,a8,a9,c4,Km];rfl⟩
  ·have a5:=dF (q:=((Bh 58 r).length:Int)<(r.length:Int)) (by omega);rw[Cy (show (Bh 58 r).length=r.length by omega)];exact⟨_,_,_,by simp only[A4,A3,Ag,a1,a2,a3,a4,c2,z,c3,a5];rfl⟩
 ·have b1:(Sv (Bh 58 r) != 0)=true:=by simp[hh]
  simp only[ne_eq,hh,not_false_eq_true,if_true];exact⟨_,_,_,by simp only[A4,A3,Ag,a1,a2,a3,a4,c2,b1];rfl⟩
theorem Aph{r:Aj}{k:Nat}(hk:k<r.length){c:Int}(hc:r[k]?=some c):(Bh 58 (r.drop k)).length=if c=58 then 0 else (Bh 58 (r.drop (k+1))).length+1:=by
 have e:r.drop k=c::r.drop (k+1):=by
  rw[List.drop_eq_getElem_cons hk];rw[List.getElem?_eq_getElem hk] at hc;cases hc;rfl
 rw[e];by_cases h:c=58
 ·subst h;rw[VX,Cy rfl];rfl
 ·rw[Acc _ h,Bl h];rfl
theorem Avg{a0 s4 s7:ByteArray}{y3 y6:Bool}{y5 y8:Int}{r:Aj}(hr:Cp r)(hrl:r.length<=1000000)(Bq:2000<=fu):∀(k nn:Nat),k<=r.length->k+1<=nn->∃o1 o2 o3,Br fu (Ac (CP p) prog fu (d+4)) a0 nn (Ab r) ((k+(Bh 58 (r.drop k)).length:Nat):Int) ((k:Int)-1) y3 s4 y5 y6 s7 y8=some ⟨[.agg [C9 o1,Bo o2,Aw o3],Aw (Yb y6 r)],[]⟩:=by
 intro k
 induction k with
 |zero=>
  intro nn hk Gy;obtain⟨q,rfl⟩:∃q,nn=q+1:=⟨nn-1,by omega⟩
  have:=Az4 (fu:=fu) (d:=d) (p:=p) (a0:=a0) (s4:=s4) (s7:=s7) (y3:=y3) (y6:=y6) (y5:=y5) (y8:=y8) hr hrl Bq (nn:=q);rw[Ou,Ig];exact this
 |succ k ih=>
  intro nn hk Gy;obtain⟨q,rfl⟩:∃q,nn=q+1:=⟨nn-1,by omega⟩
  obtain⟨c,hc⟩:∃c,r[k]?=some c:=⟨_,List.getElem?_eq_getElem (by omega)⟩
  have AO:=hr c (List.mem_of_getElem? hc);have hbd:=Aph (show k<r.length by omega) hc;obtain⟨o1,o2,o3,h⟩:=ih q (by omega) (by omega);refine⟨o1,o2,o3,?_⟩;have a1:decide (((k+1:Nat):Int)-1>=0)=true:=dT (by omega);have a2:decide ((0:Int)<=((k+1:Nat):Int)-1)=true:=dT (by omega)
  have a3:(Array.toList (Ab r).data)[Int.toNat (((k+1:Nat):Int)-1)]?=some c.toNat.toUInt8:=by
   rw[show Int.toNat (((k+1:Nat):Int)-1)=k by omega];show (r.map fun n=>n.toNat.toUInt8)[k]?=_;rw[List.getElem?_map,hc];rfl
  have a4:=Nk AO;have a5:wrap .i64 (((k+1:Nat):Int)-1-1)=(k:Int)-1:=Bk
  rw[Hs];by_cases h58:c=58
  ·rw[Cy h58] at hbd;have q1:(c==58)=true:=by simp[h58]
   rw[hbd] at h;simp only[A4,A3,a1,a2,a3,a4,q1,a5];rw[show ((k+1:Nat):Int)-1=((k+0:Nat):Int) by omega];exact h
  ·rw[Bl h58] at hbd;have q1:(c==58)=false:=by simp[h58]
   rw[hbd] at h;simp only[A4,A3,a1,a2,a3,a4,q1,a5];rw[show k+1+(Bh 58 (r.drop (k+1))).length=k+((Bh 58 (r.drop (k+1))).length+1) by omega];exact h
theorem Apk{l:Aj}(hB:Cp l)(hs:l.length<=1000000)(Bq:2000<=fu)(IX:l.length+1<=fu):∃o1 o2 o3,Ac (CP p) prog fu (d+5) 47 [Bo (Ab l)]=some ⟨[.agg [C9 o1,Bo o2,Aw o3],Aw (Gd l)],[]⟩:=by
  have er:=Rr (p:=p) fu (d+4) (Ab l)
  have sT:Ac (CP p) prog fu (d+4) 80 [C9 true]=some ⟨[Bo (Ab [104,116,116,112,115,58,47,47])],[]⟩:=by
    refine (M9 (p:=p) fu (d+3) true).trans ?_
    simp only[A4,A3]
    rfl
  have sF:Ac (CP p) prog fu (d+4) 80 [C9 false]=some ⟨[Bo (Ab [104,116,116,112,58,47,47])],[]⟩:=by
    refine (M9 (p:=p) fu (d+3) false).trans ?_
    simp only[A4,A3]
    rfl
  have hB8:Cp [104,116,116,112,115,58,47,47]:=fun x hx=>by simp at hx;omega
  have hB7:Cp [104,116,116,112,58,47,47]:=fun x hx=>by simp at hx;omega
  have l8:(Ab [104,116,116,112,115,58,47,47]).size=8:=rfl
  have l7:(Ab [104,116,116,112,58,47,47]).size=7:=rfl
  have n8:([104,116,116,112,115,58,47,47]:Aj).length=8:=rfl
  have n7:([104,116,116,112,58,47,47]:Aj).length=7:=rfl
  have e8:(ByteArray.mk #[104,116,116,112,115,58,47,47])=Ab [104,116,116,112,115,58,47,47]:=rfl
  have tk:∀n,Cp (l.take n):=fun n x hx=>hB x (List.mem_of_mem_take hx)
  have loop:∀(m:Nat) (s:Bool),m<=l.length->∃o1 o2 o3,Br fu (Ac (CP p) prog fu (d+4)) (Ab l) fu (Ab (l.drop m)) (((Ab (l.drop m)).size:Nat):Int) (wrap .i64 ((((Ab (l.drop m)).size:Nat):Int)-1)) false (ByteArray.mk #[]) 0 s (ByteArray.mk #[]) 0=some ⟨[.agg [C9 o1,Bo o2,Aw o3],Aw (Yb s (l.drop m))],[]⟩:=by
    intro m s hm
    have hd:Cp (l.drop m):=fun x hx=>hB x (List.mem_of_mem_drop hx)
    have hdl:(l.drop m).length=l.length-m:=List.length_drop
    obtain⟨o1,o2,o3,h⟩:=Avg (fu:=fu) (d:=d) (p:=p) (a0:=Ab l) (s4:=ByteArray.mk #[]) (s7:=ByteArray.mk #[]) (y3:=false) (y6:=s) (y5:=0) (y8:=0) hd (by omega) Bq (l.drop m).length fu (Cn _) (by omega)
    refine⟨o1,o2,o3,?_⟩
    rw[Ag,Bb]
    have e:(l.drop m).length+(Bh 58 ((l.drop m).drop (l.drop m).length)).length=(l.drop m).length:=by
      rw[List.drop_length];rfl
    rw[e] at h
    exact h
  unfold Gd
  have plain:∀(h7:List.isPrefixOf [104,116,116,112,115,58,47,47] l=false),∃o1 o2 o3,(Ax (decide (((l.length:Nat):Int)<((7:Nat):Int)))
    (some (A1.mk [PV.agg [PV.sc (Value.bool false),PV.sc (Value.string ⟨#[]⟩),PV.sc (Value.int IntKind.i64 (0:Int))],PV.sc (Value.int IntKind.i64 (2:Int))] []))
    (Ax (!decide (l.take 7=[104,116,116,112,58,47,47]))
     (some (A1.mk [PV.agg [PV.sc (Value.bool false),PV.sc (Value.string ⟨#[]⟩),PV.sc (Value.int IntKind.i64 (0:Int))],PV.sc (Value.int IntKind.i64 (2:Int))] []))
     (Br fu (Ac (CP p) prog fu (d+4)) (Ab l) fu (Ab (l.drop 7)) (((Ab (l.drop 7)).size:Nat):Int) (wrap .i64 ((((Ab (l.drop 7)).size:Nat):Int)-1)) false (ByteArray.mk #[]) 0 false (ByteArray.mk #[]) 0)))=some ⟨[.agg [C9 o1,Bo o2,Aw o3],Aw (if List.isPrefixOf [104,116,116,112,58,47,47] l=true then Yb false (l.drop 7) else 2)],[]⟩:=by
    intro _
    by_cases hl7:l.length<7
    · have hn:List.isPrefixOf [104,116,116,112,58,47,47] l=false:=by
        rw[Bool.eq_false_iff,ne_eq,List.isPrefixOf_iff_prefix]
        intro h
        have:=h.length_le
        simp at this
        omega
      rw[dT (show ((l.length:Nat):Int)<((7:Nat):Int) by omega),hn]
      exact⟨_,_,_,rfl⟩
    · rw[dF (show ¬((l.length:Nat):Int)<((7:Nat):Int) by omega)]
      have hp:=Abv (w:=[104,116,116,112,58,47,47]) (l:=l) (by simp;omega)
      rw[show ([104,116,116,112,58,47,47]:Aj).length=7 from rfl] at hp
      rw[hp]
      cases List.isPrefixOf [104,116,116,112,58,47,47] l
      · exact⟨_,_,_,rfl⟩
      · obtain⟨o1,o2,o3,h⟩:=loop 7 false (by omega)
        exact⟨o1,o2,o3,h⟩
  have x7:(Ab l).extract 0 (Int.toNat ((7:Nat):Int))=Ab (l.take 7):=Uy hB 7
  have y7:(Ab l).extract (Int.toNat ((7:Nat):Int)) l.length=Ab (l.drop 7):=Vt hB 7
  have x8:(Ab l).extract 0 8=Ab (l.take 8):=Uy hB 8
  have x8':(Ab l).extract 0 (Int.toNat ((8:Nat):Int))=Ab (l.take 8):=Uy hB 8
  have y8:(Ab l).extract (Int.toNat ((8:Nat):Int)) l.length=Ab (l.drop 8):=Vt hB 8
  have q7:=FW (tk 7) hB7
  have q8:=FW (tk 8) hB8
  by_cases h8:l.length>=8
  · have a1:=dT (q:=((l.length:Nat):Int)>=8) (by omega)
    have a2:=dT (q:=8<=l.length) h8
    have hp:=Abv (w:=[104,116,116,112,115,58,47,47]) (l:=l) (by simp;omega)
    rw[show ([104,116,116,112,115,58,47,47]:Aj).length=8 from rfl] at hp
    rw[hp] at q8
    have a3:=dT (q:=Int.toNat ((7:Nat):Int)<=l.length) (by omega)
    have a4:=dT (q:=Int.toNat ((8:Nat):Int)<=l.length) (by omega)
    cases h1:List.isPrefixOf [104,116,116,112,115,58,47,47] l
    · rw[h1] at q8
      simp only[Bool.false_eq_true,if_false]
      obtain⟨o1,o2,o3,U5⟩:=plain h1
      refine⟨o1,o2,o3,er.trans ?_⟩
      rw[e8]
      simp only[A4,A3,Ag,dle,a1,a2,x8,q8,sF]
      simp only[A4,A3,l7,n7,a3,x7,q7,y7] at U5 ⊢
      exact U5
    · rw[h1] at q8
      simp only[if_true]
      have a5:=dF (q:=((l.length:Nat):Int)<((8:Nat):Int)) (by omega)
      obtain⟨o1,o2,o3,h⟩:=loop 8 true h8
      refine⟨o1,o2,o3,er.trans ?_⟩
      rw[e8]
      simp only[A4,A3,Ag,dle,a1,a2,x8,q8,sT]
      simp only[A4,A3,l8,n8,a5,a4,x8',q8,y8,Hn]
      exact h
  · have a1:=dF (q:=((l.length:Nat):Int)>=8) (by omega)
    have h1:List.isPrefixOf [104,116,116,112,115,58,47,47] l=false:=by
      rw[Bool.eq_false_iff,ne_eq,List.isPrefixOf_iff_prefix]
      intro h
      have:=h.length_le
      simp at this
      omega
    rw[h1]
    simp only[Bool.false_eq_true,if_false]
    obtain⟨o1,o2,o3,U5⟩:=plain h1
    refine⟨o1,o2,o3,er.trans ?_⟩
    simp only[A4,A3,Ag,dle,a1,sF]
    by_cases h7:l.length<7
    · have a2:=dT (q:=((l.length:Nat):Int)<((7:Nat):Int)) (by omega)
      rw[a2] at U5
      simp only[A4,A3,l7,n7,a2] at U5 ⊢
      exact U5
    · have a2:=dF (q:=((l.length:Nat):Int)<((7:Nat):Int)) (by omega)
      have a3:=dT (q:=Int.toNat ((7:Nat):Int)<=l.length) (by omega)
      rw[a2] at U5
      simp only[A4,A3,l7,n7,a2,a3,x7,q7,y7] at U5 ⊢
      exact U5
end
def LY:Aj:=[123,34,116,121,112,101,34,58,34]
def RF:Aj:=[34,44,34,99,104,97,108,108,101,110,103,101,34,58,34]
def fA3:Aj:=[34,44,34,111,114,105,103,105,110,34,58,34]
def fA4:Aj:=[34,44,34,99,114,111,115,115,79,114,105,103,105,110,34,58,102,97,108,115,101,125]
def fA5:Aj:=[34,44,34,99,114,111,115,115,79,114,105,103,105,110,34,58,116,114,117,101,44,34,116,111,112,79,114,105,103,105,110,34,58,34]
def fA6:Aj:=[34,125]
def fA7:Aj:=[34,44,34,99,114,111,115,115,79,114,105,103,105,110,34,58]
def fA8:Aj:=[102,97,108,115,101,125]
def fA9:Aj:=[116,114,117,101,44,34,116,111,112,79,114,105,103,105,110,34,58,34]
theorem XZ:(ByteArray.mk #[123,34,116,121,112,101,34,58,34])=Ab LY:=rfl
theorem XK:(ByteArray.mk #[34,44,34,99,104,97,108,108,101,110,103,101,34,58,34])=Ab RF:=rfl
theorem XC:(ByteArray.mk #[34,44,34,111,114,105,103,105,110,34,58,34])=Ab fA3:=rfl
theorem Ar4:(ByteArray.mk #[34,125])=Ab fA6:=rfl
theorem ZD:(ByteArray.mk #[34,44,34,99,114,111,115,115,79,114,105,103,105,110,34,58])=Ab fA7:=rfl
theorem Aov:(ByteArray.mk #[102,97,108,115,101,125])=Ab fA8:=rfl
theorem Apv:(ByteArray.mk #[116,114,117,101,44,34,116,111,112,79,114,105,103,105,110,34,58,34])=Ab fA9:=rfl
theorem JP:(ByteArray.mk #[])=Ab []:=rfl
theorem Awf:fA4=fA7++fA8:=rfl
theorem Ats:fA5=fA7++fA9:=rfl
theorem A5w:Cp []:=fun x hx=>by cases hx
def tyS(k:Int):Option Aj:=if k=1 then some tyC else if k=2 then some tyG else none
def fmH(ty ch o:Aj):Aj:=LY++ty++RF++I5 ch++fA3++o
def LM(k:Int)(ch o t:Aj)(x:Bool):JR Aj:=
 match tyS k with
 |none=>.error 3
 |some ty=>if ch.length<1\/64<ch.length then .error 9 else if Gd o≠0 then .error (Gd o)
  else if x=false then (if t=[] then .ok (fmH ty ch o++fA4) else .error 4)
  else if Gd t≠0 then .error (Gd t) else .ok (fmH ty ch o++fA5++t++fA6)
def Atm(r:JR Aj):A1:=match r with | .ok s=>⟨[Bo (Ab s),Aw 0],[]⟩ | .error e=>⟨[Bo (Ab []),Aw e],[]⟩
section
variable {fu d:Nat}{p:FuncId->Option (Ad->Option A1)}
abbrev cdA(k:Int)(ch o t:Aj)(x:Bool):PV:=.agg [Aw k,.lst false 1 ch.length (Ae .u8 ch),Bo (Ab o),C9 x,Bo (Ab t)]
theorem nn0(e:Int)(h:e≠0):(e != 0)=true:=by simp[h]
theorem Av1(k:Int):Ac (CP p) prog fu (d+1) 46 [Aw k]=some ⟨[Bo (Ab ((tyS k).getD []))],[]⟩:=by
 rw[Xb];unfold tyS;by_cases h1:k=1
 ·subst h1;have k1:((1:Int)==1)=true:=rfl;rw[Cy rfl];simp only[A4,A3,k1];rfl
 have k1:(k==1)=false:=by simp[h1]
 by_cases h2:k=2
 ·subst h2;have k2:((2:Int)==2)=true:=rfl;rw[Bl h1,Cy rfl];simp only[A4,A3,k1,k2];rfl
 have k2:(k==2)=false:=by simp[h2]
 rw[Bl h1,Bl h2];simp only[A4,A3,k1,k2];rfl
theorem Ash{k:Int}{ty:Aj}(h:tyS k=some ty):Cp ty/\ty≠[]/\ty.length<=14:=by
 unfold tyS at h;split at h
 ·cases h;exact⟨fun x hx=>by simp[tyC] at hx;omega,by decide,by decide⟩
 split at h
 ·cases h;exact⟨fun x hx=>by simp[tyG] at hx;omega,by decide,by decide⟩
 ·cases h
set_option maxHeartbeats 4000000 in
theorem Akp{k:Int}{ch o t:Aj}{x:Bool}(hch:Cp ch)(ho:Cp o)(ht:Cp t)(O7:ch.length<=100000)(hol:o.length<=1000000)(htl:t.length<=1000000)(Bq:2000<=fu)(hfc:ch.length+1<=fu)(hfo:o.length+1<=fu)(hft:t.length+1<=fu):
  Ac (CP p) prog fu (d+6) 20 [cdA k ch o t x]=some (Atm (LM k ch o t x)):=by
 have er:=R0 (p:=p) fu (d+5) k ch.length (Ae .u8 ch) (Ab o) x (Ab t);refine er.trans ?_;obtain⟨o1,o2,o3,eo⟩:=Apk (fu:=fu) (d:=d) (p:=p) ho hol (by omega) hfo;obtain⟨t1,t2,t3,et⟩:=Apk (fu:=fu) (d:=d) (p:=p) ht htl (by omega) hft;have eo:Ac (CP p) prog fu (d+5) 47 [Bo (Ab o)]=_:=eo;have et:Ac (CP p) prog fu (d+5) 47 [Bo (Ab t)]=_:=et;have ee:Ac (CP p) prog fu (d+5) 48 [.lst false 1 ch.length (Ae .u8 ch)]=_:=Avs (fu:=fu) (d:=d+4) (p:=p) hch O7 (by omega) hfc;have ek:Ac (CP p) prog fu (d+5) 46 [Aw k]=_:=Av1 (fu:=fu) (d:=d+4) (p:=p) k;have hel:=MI ch;have z0:((0:Int) != 0)=false:=rfl;have tq:(Array.toList (Ab t).data==[])=decide (t=[]):=FW (b:=[]) ht A5w;unfold LM;cases hty:tyS k with
 |none=>
  rw[hty] at ek;have q:((([]:List UInt8)==[])=true):=rfl;simp only[A4,A3,ek,Option.getD_none,JP,q];rfl
 |some ty=>
  rw[hty] at ek;obtain⟨htB,htn,Bfj⟩:=Ash hty;have q:(Array.toList (Ab ty).data==[])=false:=(FW (b:=[]) htB A5w).trans (dF htn);have c1:decide (9+ty.length<=9223372036854775807)=true:=dT (by omega);have c2:decide ((LY++ty).length+15<=9223372036854775807)=true:=dT (by simp[LY];omega)
  have c3:decide ((LY++ty++RF).length+(I5 ch).length<=9223372036854775807)=true:=dT (by simp[LY,RF];omega)
  have c4:decide ((LY++ty++RF++I5 ch).length+12<=9223372036854775807)=true:=dT (by simp[LY,RF];omega)
  have c5:decide ((LY++ty++RF++I5 ch++fA3).length+o.length<=9223372036854775807)=true:=dT (by simp[LY,RF,fA3];omega)
  have c6:decide ((LY++ty++RF++I5 ch++fA3++o).length+16<=9223372036854775807)=true:=dT (by simp[LY,RF,fA3];omega)
  have c7:decide ((LY++ty++RF++I5 ch++fA3++o++fA7).length+6<=9223372036854775807)=true:=dT (by simp[LY,RF,fA3,fA7];omega)
  have c8:decide ((LY++ty++RF++I5 ch++fA3++o++fA7).length+18<=9223372036854775807)=true:=dT (by simp[LY,RF,fA3,fA7];omega)
  have c9:decide ((LY++ty++RF++I5 ch++fA3++o++fA7++fA9).length+t.length<=9223372036854775807)=true:=dT (by simp[LY,RF,fA3,fA7,fA9];omega)
  have d1:decide ((LY++ty++RF++I5 ch++fA3++o++fA7++fA9++t).length+2<=9223372036854775807)=true:=dT (by simp[LY,RF,fA3,fA7,fA9];omega)
  simp only;by_cases h1:ch.length<1
  ·have a1:=dT (q:=((ch.length:Nat):Int)<1) (by omega);rw[Cy (.inl h1)];simp only[A4,A3,ek,Option.getD_some,JP,q,a1];rfl
  have a1:=dF (q:=((ch.length:Nat):Int)<1) (by omega);by_cases h2:64<ch.length
  ·have a2:=dT (q:=((ch.length:Nat):Int)>64) (by omega);rw[Cy (.inr h2)];simp only[A4,A3,ek,Option.getD_some,JP,q,a1,a2];rfl
  have a2:=dF (q:=((ch.length:Nat):Int)>64) (by omega);rw[Bl (by omega)];by_cases hoE:Gd o=0
  rotate_left
  ·have a3:=nn0 _ hoE;rw[Cy hoE];simp only[A4,A3,ek,Option.getD_some,JP,q,a1,a2,eo,a3];rfl
  rw[Bl (by simp[hoE])];rw[hoE] at eo;cases x with
  |false=>
   rw[Cy rfl];by_cases hte:t=[]
   ·rw[dT hte] at tq;rw[Cy hte];simp only[A4,A3,ek,Option.getD_some,JP,q,a1,a2,eo,z0,tq,Hn,Km,ee,Ag,XZ,XK,XC,ZD,Aov,Oq,c1,c2,c3,c4,c5,c6,c7];show some (A1.mk _ [])=_;unfold Atm fmH;rw[Awf];simp only[Zzv]
   ·rw[dF hte] at tq;rw[Bl hte];simp only[A4,A3,ek,Option.getD_some,JP,q,a1,a2,eo,z0,tq,Hn,Km,ee,Ag,XZ,XK,XC,ZD,Aov,Oq,c1,c2,c3,c4,c5,c6,c7];rfl
  |true=>
   rw[Bl (by decide)];by_cases htE:Gd t=0
   ·rw[htE] at et;rw[Bl (by simp[htE])];simp only[A4,A3,ek,Option.getD_some,JP,q,a1,a2,eo,et,z0,Hn,Km,ee,Ag,XZ,XK,XC,Ar4,ZD,Apv,Oq,c1,c2,c3,c4,c5,c6,c8,c9,d1];show some (A1.mk _ [])=_;unfold Atm fmH;rw[Ats];simp only[Zzv]
   ·have a4:=nn0 _ htE;rw[Cy htE];simp only[A4,A3,ek,Option.getD_some,JP,q,a1,a2,eo,et,z0,a4,Hn,Km,ee,Ag,XZ,XK,XC,Ar4,ZD,Apv,Oq,c1,c2,c3,c4,c5,c6,c8,c9,d1];rfl
end
def RJ(c:Int):Bool:=decide (33<=c)&&decide (c<=126)&&c != 34&&c != 92
theorem FN{c:Int}:RJ c=true↔33<=c/\c<=126/\c≠34/\c≠92:=by unfold RJ;simp;omega
theorem IV(c:Int):∀{l:Aj}{x:Int},x∈l->x=c\/∃q∈Ay c l,x∈q
 |a::r,x,hx=>by
  unfold Ay;by_cases ha:a=c
  ·rw[Cy ha];rcases List.mem_cons.1 hx with rfl|hx
   ·exact .inl ha
   ·rcases IV c hx with h|⟨q,hq,h⟩
    ·exact .inl h
    ·exact .inr ⟨q,by simp[hq],h⟩
  ·rw[Bl ha];cases hs:Ay c r with
   |nil=>exact absurd hs (Qt c r)
   |cons b t=>
    rcases List.mem_cons.1 hx with rfl|hx
    ·exact .inr ⟨x::b,by simp,by simp⟩
    ·rcases IV c hx with h|⟨q,hq,h⟩
     ·exact .inl h
     ·rw[hs] at hq;rcases List.mem_cons.1 hq with rfl|hq
      ·exact .inr ⟨a::q,by simp,by simp[h]⟩
      ·exact .inr ⟨q,by simp[hq],h⟩
theorem Aef{l:Aj}(h:Sv l=0):l.all RJ=true:=by
 unfold Sv at h;split at h
 ·cases h
 split at h
 ·cases h
 rename_i _ h2
 have h2:(Ay 46 l).all Kr=true:=by
  cases hq:(Ay 46 l).all Kr
  ·exact absurd hq h2
  ·rfl
 rw[List.all_eq_true];intro x hx;rcases IV 46 hx with rfl|⟨q,hq,hxq⟩
 ·rfl
 ·have hl:=List.all_eq_true.1 h2 q hq;unfold Kr at hl;rw[Er] at hl;have hb:=List.all_eq_true.1 hl.2 x hxq;unfold ltB Z9 at hb;rw[FN];simp at hb;omega
theorem PO{s:Bool}{r:Aj}(h:Yb s r=0):r.all RJ=true:=by
 unfold Yb at h;simp only at h;by_cases hh:Sv (Bh 58 r)=0
 ·rw[Bl (by simp[hh])] at h;have hc:=Aef hh;by_cases hl:(Bh 58 r).length=r.length
  ·rwa [Ahv 58 r (by omega)] at hc
  ·rw[Bl hl] at h;split at h
   ·rename_i hp
    have hd:(r.drop ((Bh 58 r).length+1)).all Z9=true:=by
     have:=hp.1;unfold Ju at this;rw[Er] at this;exact this.2
    have Cm:(Bh 58 r).length<r.length:=by have:=ME 58 r;omega
    have A4h:r[(Bh 58 r).length]?=some 58:=by
     obtain⟨c,hcc⟩:∃c,r[(Bh 58 r).length]?=some c:=⟨_,List.getElem?_eq_getElem Cm⟩
     have e:r.drop (Bh 58 r).length=r.dropWhile (fun x=>x != 58):=by
      have h1:r.takeWhile (fun x=>x != 58)++r.dropWhile (fun x=>x != 58)=r:=List.takeWhile_append_dropWhile;have h2:=congrArg (List.drop (Bh 58 r).length) h1;have h3:(List.takeWhile (fun x=>x != 58) r++List.dropWhile (fun x=>x != 58) r).drop (Bh 58 r).length=List.dropWhile (fun x=>x != 58) r:=List.drop_left;rw[<-h2];exact h3
     have e2:(r.dropWhile (fun x=>x != 58))[0]?=some c:=by rw[<-e,List.getElem?_drop];simpa using hcc
     cases hdw:r.dropWhile (fun x=>x != 58) with
     |nil=>rw[hdw] at e2;cases e2
     |cons y t=>
      rw[hdw] at e2;have:y=c:=by simpa using e2
      subst this;have hn:=List.head?_dropWhile_not (fun x:Int=>x != 58) r;rw[hdw] at hn;simp at hn;rw[hcc,hn]
    have e:r=Bh 58 r++58::r.drop ((Bh 58 r).length+1):=by
     have h1:=(List.take_append_drop (Bh 58 r).length r).symm;rw[<-Q2] at h1;rw[List.getElem?_eq_getElem Cm] at A4h;rw[List.drop_eq_getElem_cons Cm] at h1;have:r[(Bh 58 r).length]=58:=by simpa using A4h
     rw[this] at h1;exact h1
    rw[e,List.all_append,hc,List.all_cons]
    have:(r.drop ((Bh 58 r).length+1)).all RJ=true:=by
     rw[List.all_eq_true] at hd ⊢;intro x hx;have:=(GN x).1 (hd x hx);rw[FN];omega
    rw[this];rfl
   ·cases h
 ·rw[Cy hh] at h;exact absurd h hh
theorem UC{l:Aj}(h:Gd l=0):l.all RJ=true:=by
 unfold Gd at h
 have key:∀w:Aj,w.all RJ=true->w.isPrefixOf l=true->(l.drop w.length).all RJ=true->l.all RJ=true:=by
  intro w hw hp hd;have e:=List.prefix_iff_eq_append.1 (List.isPrefixOf_iff_prefix.1 hp);rw[<-e,List.all_append,hw,hd];rfl
 split at h
 ·rename_i hp;exact key _ (by decide) hp (PO h)
 split at h
 ·rename_i hp;exact key _ (by decide) hp (PO h)
 ·cases h
theorem Jn{v:Int}(h0:0<=v)(h1:v<64):RJ (Nc v)=true:=by
 rw[FN];unfold Nc;split
 ·omega
 split
 ·omega
 split
 ·omega
 split<;>omega
theorem IG:∀{l:Aj},Cp l->(I5 l).all RJ=true
 |[],_=>rfl
 |[a],h=>by
  obtain⟨ha,_⟩:=Dk h;unfold I5;rw[List.all_cons,List.all_cons,Jn (by omega) (by omega),Jn (by omega) (by omega)];rfl
 |[a,b],h=>by
  obtain⟨ha,h⟩:=Dk h;obtain⟨hb,_⟩:=Dk h;unfold I5;rw[List.all_cons,List.all_cons,List.all_cons,Jn (by omega) (by omega),Jn (by omega) (by omega),Jn (by omega) (by omega)];rfl
 |a::b::c::r,h=>by
  obtain⟨ha,h⟩:=Dk h;obtain⟨hb,h⟩:=Dk h;obtain⟨hc,h⟩:=Dk h;have e:I5 (a::b::c::r)=Nc (a / 4)::Nc (a % 4*16+b / 16)::Nc (b % 16*4+c / 64)::Nc (c % 64)::I5 r:=rfl;rw[e,List.all_cons,List.all_cons,List.all_cons,List.all_cons,Jn (by omega) (by omega),Jn (by omega) (by omega),Jn (by omega) (by omega),Jn (by omega) (by omega),IG h];rfl
theorem PA:∀(s:Aj)(n:Nat)(out r:Aj),s.all RJ=true->s.length<n->Lj n out (s++34::r)=(some (out++s),r)
  |[],n,out,r,_,hn=>by
    obtain⟨m,rfl⟩:∃m,n=m+1:=⟨n-1,by simp at hn;omega⟩
    show (if (34:Int)<32 then _ else if (34:Int)=34 then (some out,r) else _)=_
    rw[Bl (by decide),Cy rfl,List.append_nil]
  |c::s,n,out,r,h,hn=>by
    obtain⟨m,rfl⟩:∃m,n=m+1:=⟨n-1,by simp at hn;omega⟩
    rw[List.all_cons,Er] at h
    have hc:=FN.1 h.1
    have e:Lj (m+1) out (c::(s++34::r))=if c<32 then (none,c::(s++34::r)) else if c=34 then (some out,s++34::r) else if c=92 then
        (match Sf (s++34::r) with
         |(some x,r')=>Lj m (out++Lib.encodeRuneZ x) r'
         |(none,r')=>(none,r')) else Lj m (out++[c]) (s++34::r):=rfl
    rw[Zzp,e,Bl (by omega),Bl (by omega),Bl (by omega),PA s m (out++[c]) r h.2 (by simp at hn;omega)]
    simp
theorem KM{s r:Aj}(h:s.all RJ=true):F1 (34::(s++34::r))=(some s,r):=by
 have e:F1 (34::(s++34::r))=if (34:Int)=34 then Lj ((s++34::r).length+1) [] (s++34::r) else (none,34::(s++34::r)):=rfl
 rw[e,Cy rfl,PA s _ [] r h (by simp;omega)]
 rfl
def VOk(vt:Aj)(v:JV):Prop:=(∀r,Gu 8 (vt++r)=.ok (v,r))/\∃y z,vt=y::z/\BX y=false
theorem MM{s:Aj}(h:s.all RJ=true):VOk (34::(s++[34])) (4,s,false):=by
 refine⟨fun r=>?_,34,_,rfl,rfl⟩;have e:(34::(s++[34]))++r=34::(s++34::r):=by simp
 rw[e];have e2:Gu 8 (34::(s++34::r))=(match EU (34::(s++34::r)) with|none=>.error 2|some (s,r')=>.ok ((4,s,false),r')):=rfl;have e3:EU (34::(s++34::r))=some (s,r):=by unfold EU;rw[KM h]
 rw[e2,e3]
theorem Akx:VOk [102,97,108,115,101] (2,[],false):=⟨fun r=>rfl,102,_,rfl,rfl⟩
theorem Apd:VOk [116,114,117,101] (2,[],true):=⟨fun r=>rfl,116,_,rfl,rfl⟩
theorem IQ{y:Int}{r:Aj}(h:BX y=false):Bd (y::r)=y::r:=by show (if BX y=true then Bd r else y::r)=_;rw[Bl (by rw[h];decide)]
def R3(nm vt:Aj):Aj:=34::(nm++34::58::vt)
theorem Zd{n:Nat}{ms:List (Aj × JV)}{nm vt:Aj}{v:JV}{c:Int}{rest:Aj}(hn:nm.all RJ=true)(hv:VOk vt v)(hd:(ms.any fun m=>m.1==nm)=false)(hc:c=44\/c=125):
  Xh (Gu 8) true (n+1) ms (R3 nm vt++c::rest)=if c=125 then .ok (ms++[(nm,v)],rest) else Xh (Gu 8) true n (ms++[(nm,v)]) (Bd rest):=by
 obtain⟨hv,y,z,rfl,hy⟩:=hv;have e:R3 nm (y::z)++c::rest=34::(nm++34::(58::(y::z++c::rest))):=by unfold R3;simp
 have hws:BX c=false:=by rcases hc with rfl|rfl<;>rfl
 rw[e,DK,KM hn];simp only;rw[WU,hd,Bl (by decide),IQ (show BX 58=false from rfl)];have e58:A6 [58] (58::(y::z++c::rest))=some (y::z++c::rest):=by rw[Fk];rfl
 rw[e58];simp only;rw[Zzp,IQ hy,<-Zzp,hv];simp only;rw[IQ hws];rcases hc with rfl|rfl
 ·have e1:A6 [125] (44::rest)=none:=by rw[Fk];rfl
  have e2:A6 [44] (44::rest)=some rest:=by rw[Fk];rfl
  rw[e1,e2,Bl (by decide)]
 ·have e1:A6 [125] (125::rest)=some rest:=by rw[Fk];rfl
  rw[e1,Cy rfl]
def Az5(ty ch o t:Aj)(x:Bool):List (Aj × JV):=
 [(Tm,(4,ty,false)),(Zk,(4,I5 ch,false)),(nmO,(4,o,false)),(nmX,(2,[],x))]++(if x=true then [(nmP,(4,t,false))] else [])
def wsL(w:Aj):Prop:=w.all BX=true
theorem Aez:∀{w:Aj}(r:Aj),wsL w->Bd (w++r)=Bd r
 |[],_,_=>rfl
 |c::w,r,h=>by
  unfold wsL at h;rw[List.all_cons,Er] at h;show (if BX c=true then Bd (w++r) else _)=_;rw[Cy h.1];exact Aez r h.2
def Io(ty ch o t:Aj)(x:Bool):Aj:=
 R3 Tm (34::(ty++[34]))++44::(R3 Zk (34::(I5 ch++[34]))++44::(R3 nmO (34::(o++[34]))++44::(R3 nmX (if x=true then [116,114,117,101] else [102,97,108,115,101])++(if x=true then 44::(R3 nmP (34::(t++[34]))++[125]) else [125]))))
theorem Aaz{ty ch o t:Aj}{x:Bool}{w:Aj}(hw:wsL w)(hty:ty.all RJ=true)(hch:Cp ch)(ho:o.all RJ=true)(ht:t.all RJ=true):
  Acs 8 (w++(123::Io ty ch o t x)++w)=.ok (Az5 ty ch o t x):=by
 have hww:Bd w=[]:=by
  have:=Aez (w:=w) [] hw
  rwa [List.append_nil] at this
 have e0:w++(123::Io ty ch o t x)++w=w++(123::(Io ty ch o t x++w)):=by simp
 rw[HL,e0,Aez _ hw,IQ (show BX 123=false from rfl)];have e1:A6 [123] (123::(Io ty ch o t x++w))=some (Io ty ch o t x++w):=by rw[Fk];rfl
 rw[e1];simp only;have eb:Io ty ch o t x++w=34::((Io ty ch o t x++w).tail):=by unfold Io R3;rfl
 have esk:Bd (Io ty ch o t x++w)=Io ty ch o t x++w:=by rw[eb];exact IQ rfl
 have e125:A6 [125] (Io ty ch o t x++w)=none:=by rw[eb,Fk];rfl
 rw[Zf,esk,e125];simp only
 obtain⟨N,hN⟩:∃N,(Io ty ch o t x++w).length+1=N+5:=⟨(Io ty ch o t x++w).length-4,by
  have:4<=(Io ty ch o t x++w).length:=by unfold Io R3;simp;omega
  omega⟩
 rw[hN];have skm:∀nm vt r,Bd (R3 nm vt++r)=R3 nm vt++r:=fun nm vt r=>IQ rfl
 have b1:Io ty ch o t x++w=R3 Tm (34::(ty++[34]))++44::(R3 Zk (34::(I5 ch++[34]))++44::(R3 nmO (34::(o++[34]))++44::(R3 nmX (if x=true then [116,114,117,101] else [102,97,108,115,101])++((if x=true then 44::(R3 nmP (34::(t++[34]))++[125]) else [125])++w)))):=by
  unfold Io;simp only[Zzv,Zzp]
 rw[b1,Zd (by decide) (MM hty) rfl (.inl rfl),Bl (by decide),skm,
  Zd (by decide) (MM (IG hch)) rfl (.inl rfl),Bl (by decide),skm,
  Zd (by decide) (MM ho) rfl (.inl rfl),Bl (by decide),skm]
 cases x with
 |false=>
  rw[Bl (by decide),Bl (by decide),Zzp,NK,Zd (by decide) Akx rfl (.inr rfl),Cy rfl];simp only[NK];rw[Cy hww];rfl
 |true=>
  have es:R3 nmP (34::(t++[34]))++[125]++w=R3 nmP (34::(t++[34]))++125::w:=by simp
  rw[Cy rfl,Cy rfl,Zzp,es,Zd (by decide) Apd rfl (.inl rfl),Bl (by decide),skm,
   Zd (by decide) (MM ht) rfl (.inr rfl),Cy rfl]
  simp only[NK];rw[Cy hww];rfl
theorem YF{ty ch o t:Aj}{x:Bool}{k:Int}(hk:tyS k=some ty)(hch:Cp ch)(h1:1<=ch.length)(h2:ch.length<=64)(ho:Gd o=0)(ht:x=true->Gd t=0)(hn:x=false->t=[]):
  SZ (Az5 ty ch o t x)=.ok (k,ch,o,x,t):=by
 have fin:∀T:JV,MU k (4,I5 ch,false) (4,o,false) (2,[],x) (if x=true then (4,t,false) else (0,[],false))=.ok (k,ch,o,x,t):=by
  intro _;unfold MU;simp only;rw[Aio hch];simp only;rw[Bl (by omega),Bl (by simp[ho])];cases x with
  |false=>rw[hn rfl];simp
  |true=>simp[ht rfl]
 have hg:SZ (Az5 ty ch o t x)=P9 (4,ty,false) (4,I5 ch,false) (4,o,false) (2,[],x) (if x=true then (4,t,false) else (0,[],false)):=by
  cases x<;>rfl
 rw[hg];unfold P9;rw[Bl (by simp),Bl (by simp),Bl (by cases x<;>simp)]
 unfold tyS at hk;split at hk
 ·rename_i h;cases hk;subst h
  simp only;rw[Cy trivial];exact fin (0,[],false)
 split at hk
 ·rename_i h;cases hk;subst h
  simp only;rw[Bl (by decide),Cy trivial];exact fin (0,[],false)
 ·cases hk
theorem Arm{k:Int}{ch o t s:Aj}{x:Bool}(h:LM k ch o t x=.ok s):∃ty,tyS k=some ty/\s=123::Io ty ch o t x/\1<=ch.length/\ch.length<=64/\Gd o=0/\(x=true->Gd t=0)/\(x=false->t=[]):=by
 unfold LM at h;cases hk:tyS k with
 |none=>rw[hk] at h;cases h
 |some ty=>
  rw[hk] at h;simp only at h;split at h
  ·cases h
  rename_i hl;split at h
  ·cases h
  rename_i ho
  have ho:Gd o=0:=by
   by_cases q:Gd o=0
   ·exact q
   ·exact absurd q ho
  cases x with
  |false=>
   rw[Cy rfl] at h;split at h
   ·rename_i ht;cases h;refine⟨ty,rfl,?_,by omega,by omega,ho,(fun h=>by cases h),fun _=>ht⟩;unfold fmH Io R3 LY RF fA3 fA4 Tm Zk nmO nmX;simp
   ·cases h
  |true=>
   rw[Bl (by decide)] at h;split at h
   ·cases h
   ·rename_i ht;cases h
    have ht:Gd t=0:=by
     by_cases q:Gd t=0
     ·exact q
     ·exact absurd q ht
    refine⟨ty,rfl,?_,by omega,by omega,ho,fun _=>ht,(fun h=>by cases h)⟩;unfold fmH Io R3 LY RF fA3 fA5 fA6 Tm Zk nmO nmX nmP;simp
theorem Acn{l:Aj}(h:∀x∈l,0<=x/\x<128):Lib.validD (Ab l).data.toList=true:=by
 have e:(Ab l).data.toList=l.map fun n=>n.toNat.toUInt8:=rfl
 rw[e,Lib.validD_ascii (l.map fun n=>n.toNat.toUInt8).length _ (fun b hb=>by
  have hb:=List.mem_of_mem_take hb;obtain⟨n,hn,rfl⟩:=List.mem_map.1 hb;have:=h n hn;have e2:n.toNat.toUInt8.toNat=n.toNat % 256:=by rw[Nat.toUInt8,UInt8.toNat_ofNat']
  omega),List.drop_length]
 rfl
def HX(l:Aj):Prop:=∀y∈l,0<=y/\y<128
theorem U9{p q:Aj}(hp:HX p)(hq:HX q):HX (p++q):=fun y hy=>(Bn.1 hy).elim (hp y) (hq y)
theorem Mh{a:Int}{p:Aj}(ha:0<=a/\a<128)(hp:HX p):HX (a::p):=fun y hy=>by
 rcases List.mem_cons.1 hy with rfl|hy
 ·exact ha
 ·exact hp y hy
theorem Atu{k:Int}{ch o t s w:Aj}{x:Bool}(hch:Cp ch)(h:LM k ch o t x=.ok s)(hw:wsL w)(hl:(w++s++w).length<=1024):Mc (Ab (w++s++w))=.ok (k,ch,o,x,t):=by
 obtain⟨ty,hk,rfl,h1,h2,ho,ht,hn⟩:=Arm h;have oc:=UC ho
 have tc:t.all RJ=true:=by
  cases x with
  |true=>exact UC (ht rfl)
  |false=>rw[hn rfl];rfl
 have yc:ty.all RJ=true:=by
  unfold tyS at hk;split at hk
  ·cases hk;decide
  split at hk
  ·cases hk;decide
  ·cases hk
 have ec:=IG hch
 have cl128:∀{q:Aj},q.all RJ=true->∀y∈q,0<=y/\y<128:=fun hq y hy=>by
  have:=FN.1 (List.all_eq_true.1 hq y hy);omega
 have wc:∀y∈w,0<=y/\y<128:=fun y hy=>by
  have:=List.all_eq_true.1 hw y hy;unfold BX at this;simp at this;omega
 have bc:HX (Io ty ch o t x):=by
  have v:∀{q:Aj},q.all RJ=true->HX (34::(q++[34])):=fun hq=>Mh (by decide) (U9 (cl128 hq) (Mh (by decide) (fun _ h=>nomatch h)));have mt:∀{nm vt:Aj},HX nm->HX vt->HX (R3 nm vt):=fun h1 h2=>Mh (by decide) (U9 h1 (Mh (by decide) (Mh (by decide) h2)));have nT:HX Tm:=by unfold HX Tm;decide
  have nC:HX Zk:=by unfold HX Zk;decide
  have nO:HX nmO:=by unfold HX nmO;decide
  have nX:HX nmX:=by unfold HX nmX;decide
  have nP:HX nmP:=by unfold HX nmP;decide
  have wd:HX [116,114,117,101]:=by unfold HX;decide
  have wf:HX [102,97,108,115,101]:=by unfold HX;decide
  have w1:HX [125]:=by unfold HX;decide
  unfold Io;refine U9 (mt nT (v yc)) (Mh (by decide) (U9 (mt nC (v ec)) (Mh (by decide) (U9 (mt nO (v oc)) (Mh (by decide) (U9 (mt nX ?_) ?_))))))
  ·cases x with
   |true=>exact wd
   |false=>exact wf
  ·cases x with
   |true=>exact Mh (by decide) (U9 (mt nP (v tc)) w1)
   |false=>exact w1
 have all128:∀y∈w++(123::Io ty ch o t x)++w,0<=y/\y<128:=by
  intro y hy;rcases Bn.1 hy with hy|hy
  ·rcases Bn.1 hy with hy|hy
   ·exact wc y hy
   ·rcases List.mem_cons.1 hy with rfl|hy
    ·omega
    ·exact bc y hy
  ·exact wc y hy
 have hB:Cp (w++(123::Io ty ch o t x)++w):=fun y hy=>by have:=all128 y hy;omega
 unfold Mc;rw[Ag,Bl (by omega),Acn all128,Bl (by decide),C8 hB,Aaz hw yc hch oc tc];exact YF hk hch h1 h2 ho ht hn
abbrev RS:=JR Aj
def JS(t:ByteArray)(i e:Int):RS->Prop
 |.ok r=>e=0/\Dy t r/\i=(B4 t r:Int)
 |.error c=>e=c/\c≠0/\0<=i/\i<=(t.size:Int)+1
def jhd:RS->Int
 |.ok r=>WE r
 |.error _=>0
def jfl(c:Int):RS->RS
 |.ok _=>.error c
 |s=>s
theorem JS.rng{t:ByteArray}{i e:Int}{s:RS}(h:JS t i e s):0<=i/\i<=(t.size:Int)+1:=by
 cases s with
 |ok r=>
  obtain⟨_,_,rfl⟩:=h;unfold B4;omega
 |error c=>exact⟨h.2.2.1,h.2.2.2⟩
theorem JS.hd{t:ByteArray}{i e:Int}{s:RS}(h:JS t i e s):0<=jhd s/\jhd s<=255:=by
 cases s with
 |ok r=>
  cases r with
  |nil=>exact⟨Int.le_refl _,by decide⟩
  |cons c r=>exact h.2.1.B c (by simp)
 |error c=>exact⟨Int.le_refl _,by show (0:Int)<=255;decide⟩
theorem JS.fail{t:ByteArray}{i e:Int}{s:RS}(h:JS t i e s){c:Int}(hc:c≠0):JS t i (if e=0 then c else e) (jfl c s):=by
 have hr:=h.rng;cases s with
 |ok r=>
  obtain⟨rfl,h2,h3⟩:=h;rw[Cy rfl];exact⟨rfl,hc,hr.1,hr.2⟩
 |error c2=>
  obtain⟨rfl,h2,h3,h4⟩:=h;rw[Bl h2];exact⟨rfl,h2,h3,h4⟩
section
variable {fu d:Nat}{p:FuncId->Option (Ad->Option A1)}
def Bbf:RS->Nat
 |.ok r=>r.length
 |.error _=>0
theorem JS.len{t:ByteArray}{i e:Int}{s:RS}(h:JS t i e s):Bbf s<=t.size:=by
 cases s with
 |ok r=>exact h.2.1.len
 |error c=>exact Nat.zero_le _
end
def ro:Option Aj->RS
 |some r=>.ok r
 |none=>.error 2
section
variable {fu d:Nat}{p:FuncId->Option (Ad->Option A1)}
end
structure Sd where
 id:Aj
 ht:Int
 root:Int
 model:Int
 fmt:Int
 sh:Bool
 used:Int
 rg:List (Int × Int)
 sus:Bool
 since:Int
 last:Int
def rgC(l:List (Int × Int)):Ad:=l.flatMap fun p=>[Aw p.1,Aw p.2]
theorem ZE(l:List (Int × Int)):(rgC l).length=l.length*2:=by
 induction l with
 |nil=>rfl
 |cons p r ih=>show ([_,_]++rgC r).length=_;rw[Xk,ih,On];simp;omega
def Sd.cells(x:Sd):Ad:=[.lst false 1 x.id.length (Ae .u8 x.id),Aw x.ht,Ah x.root,Ah x.model,Aw x.fmt,C9 (x.sh),Ah x.used,.lst false 2 x.rg.length (rgC x.rg),C9 (x.sus),Aw x.since,Aw x.last]
def put(f lf:Int):List (Int × Int)->Option (List (Int × Int))
 |[]=>some [(f,lf)]
 |p::r=>if p.1<f then (put f lf r).map (p :: ·) else if p.1=f then (if lf<=p.2 then none else some ((f,lf)::r)) else some ((f,lf)::p::r)
def Asc:List (Int × Int)->Prop
 |[]=>True
 |p::r=>(∀q∈r,p.1<q.1)/\Asc r
structure Sd.ok(c:Sd):Prop where
 idB:Cp c.id
 idL:c.id.length<=1000000
 u0:0<=c.used
 u1:c.used<=18446744073709551615
 HX:Asc c.rg
 rgn:c.rg.length<=1000
section
variable {xs:FuncId->Option (Ad->Option A1)}(fu d:Nat)(call:Aq)
theorem Wv{p:FuncId->Option (Ad->Option A1)}(fu d:Nat)(Y:Int)(X:Bool)(W V:Int)(U:Bool)(T:Int)(S:Bool)(Q:Nat)(P:Ad)(O N:Int)(Z M:Int)(L K:Int)(J:Nat)(I:Ad)(H G:Int):Ac (CP p) prog fu (d+1) 70 [.agg [Y,X,W,V,U,T,S,A5 1 Q P,O],.agg [Ah N,Z,M,L,Ah K,A5 1 J I,H,Ah G]]=(fun (call:Aq)=>Aa (D3 .i64 Z 1) fun a=>Ax (a==0) (Bj [(22:Int)]) (Ax (Y==2) (Aa (D3 .i64 Z 4) fun a=>Ax (a==0) (Bj [(23:Int)]) (Bj [(0:Int)])) (Bj [(0:Int)]))) (Ac (CP p) prog fu d):=by kernel_rfl
theorem AF{p:FuncId->Option (Ad->Option A1)}(fu d:Nat)(U:Int)(T:Bool)(S Q:Int)(P:Bool)(O:Int)(Y:Bool)(X:Nat)(W:Ad)(N V Z:Int):Ac (CP p) prog fu (d+1) 71 [.agg [U,T,S,Q,P,O,Y,A5 1 X W,N],Ah V,Z]=(fun (call:Aq)=>Ax (Z==3) (Bj [(39:Int)]) (Ax (Z==4) (Bj [(39:Int)]) (D6 (call 106 [A5 1 X W,Ah V]) fun a b=>Bu a fun a=>Ap b<|Ax a (Bj [(40:Int)]) (Ax (Z==2) (Ax (!Y) (Bj [(40:Int)]) (Bj [(0:Int)])) (Bj [(0:Int)]))))) (Ac (CP p) prog fu d):=by kernel_rfl
theorem Ti{p:FuncId->Option (Ad->Option A1)}(fu d Z:Nat)(Y:Ad)(X:Int):Ac (CP p) prog fu (d+1) 106 [A5 1 Z Y,Ah X]=(fun (call:Aq)=>Gz .i64 (call 134 [A5 1 Z Y,Ah X]) fun a=>Bj [C9 (decide (a>=0))]) (Ac (CP p) prog fu d):=by kernel_rfl
def Fq(Z:Nat)(Y:Ad)(X:Int)(W V:Nat)(U:Ad)(T S Q:Int):Option A1:=Ll fu call 134 Tryz.f134 [A5 1 Z Y,Ah X] [.r,.l,.r,.l] W ⟨lk [(0,A5 1 V U),(1,Ah T),(7,S),(8,Q)],Fw []⟩
theorem Kd(U:Nat)(T:Ad)(S:Int)(Q Y:Nat)(X:Ad)(W V Z:Int):Fq fu call U T S (Q+1) Y X W V Z=(Ax (decide (Z<V)) (Ar (decide (0<=Z)&&decide (Z<(↑Y:Int)))<|Bc .u64 (X.getD (Z.toNat*1) .top) fun a=>Ax (W==a) (Bj [Z]) (Aa (wrap .i64 (Z+1)) fun a=>Fq fu call U T S Q Y X W V a)) (Bj [(-1:Int)])):=by kernel_rfl
theorem Wr{p:FuncId->Option (Ad->Option A1)}(fu d Z:Nat)(Y:Ad)(X:Int):Ac (CP p) prog fu (d+1) 134 [A5 1 Z Y,Ah X]=(fun (call:Aq)=>Fq fu call Z Y X fu Z Y X (↑Z:Int) 0) (Ac (CP p) prog fu d):=by kernel_rfl
theorem BW{p:FuncId->Option (Ad->Option A1)}(fu d:Nat)(U:Int)(T:Bool)(Y S:Int)(X:Bool)(Z:Int)(Q:Bool)(P:Nat)(O:Ad)(N J:Int)(L I:Int)(H M:Int)(G:Nat)(E:Ad)(K D:Int)(W B:Int)(A V:Int):Ac (CP p) prog fu (d+1) 37 [.agg [U,T,Y,S,X,Z,Q,A5 1 P O,N],.agg [Ah J,L,I,H,Ah M,A5 1 G E,K,Ah D],.agg [W,B,A],V]=(fun (call:Aq)=>(fun c:PV=>Gz .i64 (call 70 [c,.agg [Ah J,L,I,H,Ah M,A5 1 G E,K,Ah D]]) fun a=>(fun e:Option A1=>Ax (a != 0) (Bj [a]) (Ax (decide (K<Y)) e (Aa (D3 .i64 L 8) fun a=>(fun b:Option A1=>Ax (a != 0) (Ax (!X) e b) b) (Ax (W != Z) e (Ax (W != 2) (Bj [(0:Int)]) (Ax (V==0) (Bj [(38:Int)]) (Gz .i64 (call 71 [c,Ah M,V]) fun a=>Bj [a]))))))) (Bj [(40:Int)])) (.agg [U,T,Y,S,X,Z,Q,A5 1 P O,N])) (Ac (CP p) prog fu d):=by kernel_rfl
end
abbrev isU(x:Int):Prop:=0<=x/\x<=18446744073709551615
abbrev isW(l:Aj):Prop:=∀x∈l,isU x
theorem V4:∀{ws:Aj}{i:Nat}{w:Int},isW ws->ws[i]?=some w->Vy (Ao ws) i=w
 |[],i,w,_,h=>by simp at h
 |a::ws,0,w,hw,h=>by
  simp at h;subst h;have e:Ao (a::ws)=Bp a++Ao ws:=rfl;unfold Vy;rw[Nat.mul_zero,Ou,e,List.take_left' (B5 a)];have:=hw a (by simp);exact HI this.1 this.2
 |a::ws,i+1,w,hw,h=>by
  simp at h;have ih:=V4 (ws:=ws) (fun x hx=>hw x (Uf _ hx)) h;have e:Ao (a::ws)=Bp a++Ao ws:=rfl;unfold Vy at ih ⊢;rw[show 8*(i+1)=(Bp a).length+8*i by rw[B5];omega,e,<-List.drop_drop,List.drop_left' rfl]
  exact ih
theorem DV{ws:Aj}(hw:isW ws):Ge (Ao ws)=ws:=by
 have hl:(Ao ws).length / 8=ws.length:=by rw[Ed];omega
 apply List.ext_getElem?;intro i;unfold Ge;rw[hl];by_cases h:i<ws.length
 ·rw[List.getElem?_map,List.getElem?_range h,List.getElem?_eq_getElem h];simp only[Option.map_some];rw[V4 hw (List.getElem?_eq_getElem h)]
 ·rw[List.getElem?_eq_none (by simp;omega),List.getElem?_eq_none (by omega)]
theorem Aks{k:Ky}(hh:D2 k.h=false)(hr:isU k.root):VZ (Vw k)=some k:=by
 obtain⟨h,r⟩:=k;have hb:=Ko hh;simp only at hb hr hh;have w:wrap .u8 h=h:=Nw (by omega) (by omega);have w1:Ao [r]=Bp r:=by simp[Ao]
 have:=V4 (ws:=[r]) (i:=0) (w:=r) (by intro x hx;simp at hx;subst hx;exact hr) rfl
 rw[w1] at this;unfold VZ Vw;simp only[w,List.getD_cons_zero,List.drop_succ_cons,Ou,this,On,B5,hh,and_self,if_true]
theorem A0l{k:Ky}:Cp (Vw k):=by
 intro x hx;rcases List.mem_cons.1 hx with rfl|hx
 ·have:∀v:Int,0<=wrap .u8 v/\wrap .u8 v<=255:=by
   intro v;simp only[wrap,IntKind.signed,IntKind.bits];simp;omega
  exact this _
 ·exact Vz _ x hx
structure Sg.ok(s:Sg):Prop where
 ch:isW s.chains
 pa:isW s.path
theorem A4e(s:Sg):Cp (sgB s):=by
 have w8:∀v:Int,0<=wrap .u8 v/\wrap .u8 v<=255:=by
  intro v;simp only[wrap,IntKind.signed,IntKind.bits];simp;omega
 intro x hx;unfold sgB at hx;rcases List.mem_cons.1 hx with rfl|hx
 ·exact w8 _
 rcases List.mem_cons.1 hx with rfl|hx
 ·exact w8 _
 rcases Bn.1 hx with hx|hx
 ·exact Uv _ x hx
 ·exact Uv _ x hx
theorem Aum{s:Sg}(hs:s.ok)(h1:D2 s.path.length=false)(h2:J9 s.leaf s.path.length=false)(h3:s.chains.length=18):sgD (sgB s)=some s:=by
 obtain⟨leaf,ch,pa⟩:=s;obtain⟨hc,hp⟩:=hs;simp only at h1 h2 h3 hc hp;have hb:=Ko h1;have ho:=Aet hb.1 hb.2 h2;have h16:=A0v hb.1 hb.2;have w1:wrap .u8 leaf=leaf:=Nw (by omega) (by omega);have w2:wrap .u8 (pa.length:Int)=pa.length:=Nw (by omega) (by omega);have lc:(Ao ch).length=144:=by rw[Ed];omega
 have lp:(Ao pa).length=8*pa.length:=Ed pa
 have len:(sgB ⟨leaf,ch,pa⟩).length=2+144+8*pa.length:=by
  unfold sgB;simp only[On,Xk,lc,lp];omega
 have g0:(sgB ⟨leaf,ch,pa⟩).getD 0 0=leaf:=w1;have g1:(sgB ⟨leaf,ch,pa⟩).getD 1 0=pa.length:=w2;have d2:(sgB ⟨leaf,ch,pa⟩).drop 2=Ao ch++Ao pa:=rfl
 have d146:(sgB ⟨leaf,ch,pa⟩).drop 146=Ao pa:=by
  rw[show 146=2+144 from rfl,<-List.drop_drop,d2,List.drop_left' lc]
 unfold sgD;rw[Cy ⟨by omega,by rw[g1];exact h1,by rw[g0,g1];exact h2,by rw[g1,len];omega⟩,g0,d2,d146,List.take_left' lc,DV hc,DV hp]
theorem MH(dom:Int)(l:Aj):isU (D8 dom l):=Ri _
theorem A1g(key dom:Int)(l:Aj):isU (Apu key dom l):=Ri _
theorem Ar8(leaf chain:Int):∀(k:Nat)(p:Int){x:Int},isU x->isU (Tp leaf chain k p x)
 |0,_,_,h=>h
 |k+1,p,x,h=>Ar8 leaf chain k (p+1) (MH _ _)
theorem Ayk(seed leaf m:Int):isW (X4 seed leaf m):=by intro x hx;obtain⟨k,_,rfl⟩:=List.mem_map.1 hx;exact Ar8 _ _ _ _ (A1g _ _ _)
theorem Aif(seed:Int):∀(l:Nat)(i:Int),isU (H4 seed l i)
 |0,i=>MH _ _
 |l+1,i=>MH _ _
theorem YS{seed h:Int}(hh:D2 h=false):(Pd seed h).h=h:=by unfold Pd;rw[Bl (by simp[hh])]
theorem Ahn{seed h leaf m:Int}(hh:D2 h=false)(ho:J9 leaf h=false):∃s,Ajr seed h leaf m=some s/\s.ok/\s.leaf=leaf/\s.chains.length=18/\(s.path.length:Int)=h/\SI (Pd seed h) m s=0:=by
 have hb:=Ko hh;refine⟨⟨leaf,X4 seed leaf m,(List.range h.toNat).map fun k=>H4 seed k (Mp leaf k)⟩,?_,⟨Ayk _ _ _,?_⟩,rfl,by simp[X4],?_,Apo hh ho⟩
 ·unfold Ajr;rw[Bl (by simp[hh]),Bl (by simp[ho])]
 ·intro x hx;obtain⟨k,_,rfl⟩:=List.mem_map.1 hx;exact Aif _ _ _
 ·simp only[List.length_map,List.length_range];omega
section
variable {xs:FuncId->Option (Ad->Option A1)}{fu d:Nat}
theorem TV{n:Nat}{c:Ad}(hc:c.length=n)(hn:n<=1000000):Ac (CX xs) prog fu (d+1) 62 [.lst false 1 n c]=some ⟨[.own 1 n c],[]⟩:=by
 rw[RY];have t1:List.take n c=c:=Ji (by omega);by_cases h:0<n
 ·simp(disch:=omega)only[A4,A3,Ig,NK,t1,hc,J6]
 ·have h0:n=0:=by omega
  subst h0;have:=List.length_eq_zero_iff.1 hc;subst this;simp(disch:=omega)only[A4,A3,Ig,NK,LP,J6,Nat.zero_mul,List.take_nil]
end
section
variable {fu d:Nat}
end
structure WR where
 vf:Int
 rs:Bool
 ht:Int
 pr:Int
 sh:Bool
 fm:Int
 od:Bool
 dn:Aj
 op:Int
def WR.cells(p:WR):Ad:=[Aw p.vf,C9 (p.rs),Aw p.ht,Aw p.pr,C9 (p.sh),Aw p.fm,C9 (p.od),.lst false 1 p.dn.length (Ae .u64 p.dn),Aw p.op]
def WR.own(p:WR):Ad:=[Aw p.vf,C9 (p.rs),Aw p.ht,Aw p.pr,C9 (p.sh),Aw p.fm,C9 (p.od),.own 1 p.dn.length (Ae .u64 p.dn),Aw p.op]
structure Qn where
 rp:Int
 fl:Int
 ct:Int
 rg:Int
 md:Int
 idn:Nat
 id:Ad
 kh:Int
 kr:Int
def Qn.cells(a:Qn):Ad:=[Ah a.rp,Aw a.fl,Aw a.ct,Aw a.rg,Ah a.md,.lst false 1 a.idn a.id,Aw a.kh,Ah a.kr]
structure Stc where
 n0:Nat
 c0:Ad
 i1:Int
 i2:Int
 md:Int
 i4:Int
 sh:Bool
 i6:Int
 n7:Nat
 c7:Ad
 b8:Bool
 i9:Int
 i10:Int
def Stc.cells(a:Stc):Ad:=[.lst false 1 a.n0 a.c0,Aw a.i1,Ah a.i2,Ah a.md,Aw a.i4,C9 (a.sh),Ah a.i6,.lst false 2 a.n7 a.c7,C9 (a.b8),Aw a.i9,Aw a.i10]
def Acr(vf fl:Int):Int:=if D3 .i64 fl 1=0 then 22 else if vf=2 then if D3 .i64 fl 4=0 then 23 else 0 else 0
def Aym(dn:Aj)(od:Bool)(m st:Int):Int:=if st=3 then 39 else if st=4 then 39 else if m∈dn then 40 else if st=2 then if od=true then 0 else 40 else 0
def Arj(p:WR)(md f st:Int):Int:=if f=p.fm then if f=2 then if st=0 then 38 else Aym p.dn p.od md st else 0 else 40
def LN(p:WR)(a:Qn)(f st:Int):Int:=
 if Acr p.vf a.fl=0 then if a.kh<p.ht then 40 else if D3 .i64 a.fl 8=0 then Arj p a.md f st else if p.sh=true then Arj p a.md f st else 40 else Acr p.vf a.fl
section
variable {fu d:Nat}
theorem Ave(p:WR)(a:Qn):Ac C1 prog fu (d+1) 70 [.agg p.cells,.agg a.cells]=some ⟨[Aw (Acr p.vf a.fl)],[]⟩:=by unfold WR.cells Qn.cells;rw[Wv];simp only[F5,Ny,Ags,Acr]
theorem QW{call:Aq}{n:Nat}{c:Ad}{t:Int}{l:Aj}{m:Int}(hl:l.length<=maxLen):∀(r:Aj)(i nn:Nat),l.drop i=r->r.length<nn ->
  ∃k:Int,Fq fu call n c t nn l.length (Ae .u64 l) m (l.length:Int) i=some ⟨[Aw k],[]⟩/\(0<=k↔m∈r)
 |r,i,0,_,h=>by omega
 |[],i,nn+1,h,_=>by
  have:=drop_nil h;rw[Kd];refine⟨-1,?_,by simp⟩;simp(disch:=omega)only[A4,A3]
 |x::r,i,nn+1,h,hn=>by
  obtain⟨h1,h2,h3⟩:=Dx h;simp only[maxLen] at hl;simp only[On] at hn;rw[Kd];have hg:=EA (k:=.u64) h2;simp(disch:=omega)only[A4,A3,Jg,J6,hg,Ny];by_cases hm:m=x
  ·refine⟨i,by rw[Cy hm],by simp[hm]⟩
  ·obtain⟨k,h4,h5⟩:=QW (m:=m) (call:=call) (n:=n) (c:=c) (t:=t) (by simp only[maxLen];omega) r (i+1) nn h3 (by omega)
   refine⟨k,by rw[Bl hm,Bb];exact h4,by rw[h5];simp[hm]⟩
theorem Ac3{l:Aj}(hl:l.length<=maxLen)(Bq:l.length<fu)(m:Int):Ac C1 prog fu (d+2) 106 [.lst false 1 l.length (Ae .u64 l),Ah m]=some ⟨[C9 (decide (m∈l))],[]⟩:=by
 rw[Ti];obtain⟨k,h1,h2⟩:=QW (fu:=fu) (call:=Ac C1 prog fu d) (n:=l.length) (c:=Ae .u64 l) (t:=m) (m:=m) hl l 0 fu rfl Bq
 have h3:Ac C1 prog fu (d+1) 134 [.lst false 1 l.length (Ae .u64 l),Ah m]=some ⟨[Aw k],[]⟩:=by
  rw[Wr];exact h1
 simp only[A4,A3,h3];have:decide (k>=0)=decide (m∈l):=by simp only[ge_iff_le,h2]
 rw[this]
theorem Aqn(p:WR)(hl:p.dn.length<=maxLen)(Bq:p.dn.length<fu)(m st:Int):Ac C1 prog fu (d+3) 71 [.agg p.cells,Ah m,Aw st]=some ⟨[Aw (Aym p.dn p.od m st)],[]⟩:=by unfold WR.cells;rw[AF];simp only[Ac3 hl Bq,Zh,HN,Z1,EC,Ny,Ani,X6];simp only[Ahz,Ags,Aym,Xi]
theorem Ayi(p:WR)(hl:p.dn.length<=maxLen)(Bq:p.dn.length<fu)(a:Qn)(f t1 t2 st:Int):
  Ac C1 prog fu (d+4) 37 [.agg p.cells,.agg a.cells,.agg [Aw f,Aw t1,Aw t2],Aw st]=some ⟨[Aw (LN p a f st)],[]⟩:=by
 have h1:=Ave (fu:=fu) (d:=d+2) p a;have h2:=Aqn (fu:=fu) (d:=d) p hl Bq a.md st;unfold WR.cells Qn.cells at *
 rw[BW];simp only[h1,h2,Zh,HN,Z1,OP,F5,Ny,G2,Ani,X6];simp only[Ahz,Ags,LN,Arj]
end
section
variable {xs:FuncId->Option (Ad->Option A1)}(fu d:Nat)(call:Aq)
theorem CJ{p:FuncId->Option (Ad->Option A1)}(fu d:Nat)(Z:Int):Ac (CP p) prog fu (d+1) 99 [.lst true 1 0 [],Z]=(fun (call:Aq)=>Ax (decide (Z<0)) none (Aa (wrap .i64 (Z-0)) fun a=>Ax (decide (a>0)) (Ar (decide (0<=a)&&decide (a.toNat*1<=1099511627776)&&decide (a<=1099511627776))<|Bj [.own 1 0 []]) (Bj [.own 1 0 []]))) (Ac (CP p) prog fu d):=by kernel_rfl
def Ib(Z:Nat)(Y:Ad)(X W:Nat)(V:Ad)(U:Int)(T:Nat)(S:Ad)(Q P:Int):Option A1:=Ll fu call 65 Tryz.f65 [A5 1 Z Y] [.r,.r,.l,.r,.l] X ⟨lk [(0,A5 1 W V),(3,U),(9,A5 1 T S),(10,Q),(11,P)],Fw []⟩
def Ic(Z:Nat)(Y:Ad)(X W V:Nat)(U:Ad)(T S:Int)(Q:Ad):Option A1:=Ll fu call 65 Tryz.f65 [A5 1 Z Y] [.r,.r,.r,.r,.l,.r,.l] X ⟨lk [(6,.view 6 1 0 W),(25,A5 1 V U),(26,T),(27,S)],Fw [(6,.ar false Q)]⟩
theorem Hi(X:Nat)(W:Ad)(P Y:Nat)(V:Ad)(U:Int)(T:Nat)(S:Ad)(Q Z:Int):Ib fu call X W (P+1) Y V U T S Q Z=(Ax (decide (Z<Q)) (Ar (decide (0<=Z)&&decide (Z<(↑T:Int)))<|Xd 1 (S.getD (Z.toNat*1) .top) fun a b c=>Aa (wrap .i64 (U+(↑b:Int))) fun a=>Ax (decide (a<0)) none (Aa (wrap .i64 (Z+1)) fun b=>Ib fu call X W P Y V a T S Q b)) (D6 (call 99 [.lst true 1 0 [],U]) fun a b=>Lg 1 a fun a c=>Ap b<|Ic fu call X W fu a Y V (↑Y:Int) 0 c)):=by kernel_rfl
theorem He(T:Nat)(S:Ad)(Q Z W:Nat)(V:Ad)(U Y:Int)(X:Ad):Ic fu call T S (Q+1) Z W V U Y X=(Ax (decide (Y<U)) (Ar (decide (0<=Y)&&decide (Y<(↑W:Int)))<|Xd 1 (V.getD (Y.toNat*1) .top) fun a b c=>Ar (decide (Z*1<=X.length)&&decide (c.length=b*1)&&decide ((Z+b)*1<=1099511627776)&&decide (Z+b<=1099511627776))<|Aa (Z+b) fun a=>Aa (List.take (Z*1) X++c) fun b=>Aa (wrap .i64 (Y+1)) fun c=>Ic fu call T S Q a W V U c b) (Ar (decide (Z*1<=X.length))<|Bj [.own 1 Z (X.take (Z*1))])):=by kernel_rfl
theorem Xv{p:FuncId->Option (Ad->Option A1)}(fu d Z:Nat)(Y:Ad):Ac (CP p) prog fu (d+1) 65 [A5 1 Z Y]=(fun (call:Aq)=>Ib fu call Z Y fu Z Y 0 Z Y (↑Z:Int) 0) (Ac (CP p) prog fu d):=by kernel_rfl
def Jj(Z:Nat)(Y:Ad)(X:Nat)(W:Int)(V:Nat)(U:Ad)(T S:Int):Option A1:=Ll fu call 59 Tryz.f59 [A5 1 Z Y] [.r,.r,.l,.r,.l] X ⟨lk [(3,Ah W),(6,A5 1 V U),(7,T),(8,S)],Fw []⟩
theorem Q8(U:Nat)(T:Ad)(S:Nat)(Y:Int)(X:Nat)(W:Ad)(V Z:Int):Jj fu call U T (S+1) Y X W V Z=(Ax (decide (Z<V)) (Ar (decide (0<=Z)&&decide (Z<(↑X:Int)))<|Bc .u8 (W.getD (Z.toNat*1) .top) fun a=>Aa (Fb .u64 Y 8) fun b=>Aa (wrap .u64 a) fun a=>Aa (CQ .u64 b a) fun a=>Aa (wrap .i64 (Z+1)) fun b=>Jj fu call U T S a X W V b) (Bj [Ah Y])):=by kernel_rfl
theorem LJ{p:FuncId->Option (Ad->Option A1)}(fu d Z:Nat)(Y:Ad):Ac (CP p) prog fu (d+1) 59 [A5 1 Z Y]=(fun (call:Aq)=>Jj fu call Z Y fu 0 Z Y (↑Z:Int) 0) (Ac (CP p) prog fu d):=by kernel_rfl
theorem PF{p:FuncId->Option (Ad->Option A1)}(fu d:Nat)(X Z:Int)(W V U:Int)(T:Nat)(S:Ad)(Q P Y:Int):Ac (CP p) prog fu (d+1) 60 [.agg [Ah X,Z,W,V,Ah U,A5 1 T S,Q,Ah P],Y]=(fun (call:Aq)=>Aa (D3 .i64 Z Y) fun a=>Bj [C9 (a != 0)]) (Ac (CP p) prog fu d):=by kernel_rfl
def Oe(Z Y:Int)(X W V:Int)(U:Nat)(T:Ad)(S Q:Int)(P:Nat)(O N:Int)(M L K:Int)(J:Nat)(I:Ad)(H G:Int):Option A1:=Ll fu call 63 Tryz.f63 [.agg [Ah Z,Y,X,W,Ah V,A5 1 U T,S,Ah Q]] [.r] P ⟨lk [(1,.ptr 1 0)],Fw [(1,.st [Ah O,N,M,L,Ah K,A5 1 J I,H,Ah G])]⟩
theorem Ve(O N:Int)(M L K:Int)(J:Nat)(I:Ad)(H G:Int)(P:Nat)(Gy:0<P)(V U:Int)(T S W:Int)(Z:Nat)(Q:Ad)(Y X:Int):Oe fu call O N M L K J I H G P V U T S W Z Q Y X=((fun f:PV=>D6 (call 60 [f,(16:Int)]) fun a b=>Bu a fun a=>(fun e:Option A1=>Ap b<|Ax a (D6 (call 60 [f,(8:Int)]) fun a b=>Bu a fun a=>Ap b<|Ax (!a) (Bj [(18:Int)]) (D6 (call 60 [f,(64:Int)]) fun a b=>Bu a fun a=>Ap b<|Ax (!a) e (Ax ((↑Z:Int) != 176) (Bj [(4:Int)]) (D6 (call 97 [.agg [Y,Ah X]]) fun a b=>Lg 1 a fun a c=>Dn .i64 b fun a=>Bj [a])))) (D6 (call 60 [f,(64:Int)]) fun a b=>Bu a fun a=>Ap b<|Ax (!a) e (Ax ((↑Z:Int) != 176) (Bj [(4:Int)]) (D6 (call 97 [.agg [Y,Ah X]]) fun a b=>Lg 1 a fun a c=>Dn .i64 b fun a=>Bj [a])))) (Ax (W != 0) (Bj [(4:Int)]) (Ax ((↑Z:Int) != 0) (Bj [(4:Int)]) (Ax (!(Y==0&&(X==0&&true))) (Bj [(4:Int)]) (Bj [(0:Int)]))))) (.agg [Ah V,U,T,S,Ah W,A5 1 Z Q,Y,Ah X])):=by cases P with|zero=>exact absurd Gy (Nat.lt_irrefl 0)|succ P=>kernel_rfl
theorem AH{p:FuncId->Option (Ad->Option A1)}(fu d:Nat)(W X:Int)(Z Y V:Int)(U:Nat)(T:Ad)(S Q:Int):Ac (CP p) prog fu (d+1) 63 [.agg [Ah W,X,Z,Y,Ah V,A5 1 U T,S,Ah Q]]=(fun (call:Aq)=>Aa (Zx .i64 X 93) fun a=>(fun b:Option A1=>Ax (a != 0) b (Ax (decide (Z<0)) b (Ax (decide (Z>16)) b (Ax (decide (Y<0)) b (Ax (decide (Y>=16)) b (Oe fu call W X Z Y V U T S Q fu W X Z Y V U T S Q)))))) (Bj [(9:Int)])) (Ac (CP p) prog fu d):=by kernel_rfl
theorem DM{p:FuncId->Option (Ad->Option A1)}(fu d Z:Nat)(Y:Ad):Ac (CP p) prog fu (d+1) 30 [A5 1 Z Y]=(fun (call:Aq)=>(fun m:Option A1=>Ax (decide ((↑Z:Int)<11)) m (Ar (decide (8<=Z))<|Aa (List.take 8 (Y.drop 0)) fun a=>Gz .u64 (call 59 [A5 1 8 a]) fun a=>Ar (decide (8<(↑Z:Int)))<|Bc .u8 (Y.getD 8 .top) fun b=>Aa (wrap .i64 b) fun b=>Ar (decide (9<(↑Z:Int)))<|Bc .u8 (Y.getD 9 .top) fun c=>Aa (wrap .i64 c) fun c=>Ar (decide (10<(↑Z:Int)))<|Bc .u8 (Y.getD 10 .top) fun e=>Aa (wrap .i64 e) fun e=>(fun n:PV=>D6 (call 60 [n,(64:Int)]) fun f g=>Bu f fun f=>Ap g<|Ax f (Ax (decide ((↑Z:Int)<195)) m (Ar (decide (195<=Z)&&decide (Z<=Z))<|Aa (Z-195) fun f=>Aa (List.take (f*1) (Y.drop 195)) fun g=>D6 (call 61 [A5 1 f g]) fun f g=>Ep f fun f=>Ee .i64 f fun f h=>Dn .u64 h fun h=>Dn .i64 g fun g=>Ax (g != 0) m (Ar (decide (19<=Z))<|Aa (List.take 8 (Y.drop 11)) fun g=>Gz .u64 (call 59 [A5 1 8 g]) fun g=>Ar (decide (195<=Z))<|Aa (List.take 176 (Y.drop 19)) fun i=>D6 (call 62 [A5 1 176 i]) fun i j=>Lg 1 i fun i k=>Ap j<|Ar (decide (0+i*1<=k.length))<|Gz .i64 (call 63 [.agg [Ah a,b,c,e,Ah g,A5 1 i (List.take (i*1) (k.drop 0)),f,Ah h]]) fun j=>Ax (j != 0) m (Ar (decide (i*1<=k.length))<|Bj [.agg [Ah a,b,c,e,Ah g,.own 1 i (k.take (i*1)),f,Ah h],(0:Int)])))) (Ax (decide ((↑Z:Int)>11)) m (Gz .i64 (call 63 [n]) fun f=>Ax (f != 0) m (Bj [.agg [Ah a,b,c,e,Ah 0,.own 1 0 [],(0:Int),Ah 0],(0:Int)])))) (.agg [Ah a,b,c,e,Ah 0,A5 1 0 [],(0:Int),Ah 0]))) (Bj [.agg [Ah 0,(0:Int),(0:Int),(0:Int),Ah 0,.own 1 0 [],(0:Int),Ah 0],(2:Int)])) (Ac (CP p) prog fu d):=by kernel_rfl
theorem FI{p:FuncId->Option (Ad->Option A1)}(fu d:Nat)(Z:ByteArray):Ac (CP p) prog fu (d+1) 31 [Z]=(fun (call:Aq)=>Ar (decide (ByteArray.size Z<=1099511627776))<|Ar (decide (0+ByteArray.size Z*1<=List.length (Dl Z)))<|Gz .u64 (call 64 [(9:Int),A5 1 (ByteArray.size Z) (List.take (ByteArray.size Z*1) (List.drop 0 (Dl Z)))]) fun a=>Bj [Ah a]) (Ac (CP p) prog fu d):=by kernel_rfl
theorem BT{p:FuncId->Option (Ad->Option A1)}(fu d Z:Nat)(Y:Ad)(X:Int):Ac (CP p) prog fu (d+1) 33 [A5 1 Z Y,Ah X]=(fun (call:Aq)=>D6 (call 66 [A5 1 1 [Ah X]]) fun a b=>Lg 1 a fun a c=>Ap b<|Ar (decide (0+a*1<=c.length))<|D6 (call 65 [A5 1 2 [A5 1 Z Y,A5 1 a (List.take (a*1) (c.drop 0))]]) fun a b=>Lg 1 a fun a c=>Ap b<|Ar (decide (0+a*1<=c.length))<|Gz .u64 (call 64 [(13:Int),A5 1 a (List.take (a*1) (c.drop 0))]) fun a=>Bj [Ah a]) (Ac (CP p) prog fu d):=by kernel_rfl
theorem Xc{p:FuncId->Option (Ad->Option A1)}(fu d:Nat)(Z Y X:Int):Ac (CP p) prog fu (d+1) 84 [Z,Y,X]=(fun (call:Aq)=>Ax (decide (Z>=Y)) (Bj [C9 (decide (Z<=X))]) (Bj [false])) (Ac (CP p) prog fu d):=by kernel_rfl
theorem Qh{p:FuncId->Option (Ad->Option A1)}(fu d:Nat)(S Z:Int)(U T V:Int)(Y:Nat)(Q:Ad)(X W:Int):Ac (CP p) prog fu (d+1) 49 [.agg [Ah S,Z,U,T,Ah V,A5 1 Y Q,X,Ah W]]=(fun (call:Aq)=>Aa (Zx .i64 Z 93) fun a=>(fun g:Option A1=>Ax (a != 0) g (D6 (call 84 [U,(0:Int),(16:Int)]) fun a b=>Bu a fun a=>Ap b<|Ax (!a) g (D6 (call 84 [T,(0:Int),(15:Int)]) fun a b=>Bu a fun a=>Ap b<|Ax (!a) g (Aa (D3 .i64 Z 16) fun a=>(fun f:Option A1=>(fun e:Option A1=>Ax (a != 0) (Aa (D3 .i64 Z 8) fun a=>Ax (a==0) (Bj [(18:Int)]) (Aa (D3 .i64 Z 64) fun a=>Ax (a==0) e (Ax ((↑Y:Int) != 176) f (D6 (call 51 [.agg [X,Ah W]]) fun a b=>Lg 1 a fun a c=>Dn .i64 b fun a=>Bj [a])))) (Aa (D3 .i64 Z 64) fun a=>Ax (a==0) e (Ax ((↑Y:Int) != 176) f (D6 (call 51 [.agg [X,Ah W]]) fun a b=>Lg 1 a fun a c=>Dn .i64 b fun a=>Bj [a])))) (Ax (V != 0) f (Ax (decide ((↑Y:Int)>0)) f (Ax (!(X==0&&(W==0&&true))) f (Bj [(0:Int)]))))) (Bj [(4:Int)]))))) (Bj [(9:Int)])) (Ac (CP p) prog fu d):=by kernel_rfl
theorem Xg{p:FuncId->Option (Ad->Option A1)}(fu d:Nat)(Z:ByteArray):Ac (CP p) prog fu (d+1) 21 [Z]=(fun (call:Aq)=>Ar (decide (ByteArray.size Z<=1099511627776))<|Ar (decide (0+ByteArray.size Z*1<=List.length (Dl Z)))<|Gz .u64 (call 45 [(9:Int),A5 1 (ByteArray.size Z) (List.take (ByteArray.size Z*1) (List.drop 0 (Dl Z)))]) fun a=>Bj [Ah a]) (Ac (CP p) prog fu d):=by kernel_rfl
theorem Vv{p:FuncId->Option (Ad->Option A1)}(fu d Z:Nat)(Y:Ad)(X:Int):Ac (CP p) prog fu (d+1) 24 [A5 1 Z Y,Ah X]=(fun (call:Aq)=>Ar (decide (Y.length=Z*1)&&decide (Z*1<=1099511627776)&&decide (Z<=1099511627776))<|D6 (call 50 [A5 1 1 [Ah X]]) fun a b=>Lg 1 a fun a c=>Ap b<|Ar (decide (0+a*1<=c.length))<|Ar (decide (Z*1<=Y.length)&&decide (List.length (List.take (a*1) (c.drop 0))=a*1)&&decide ((Z+a)*1<=1099511627776)&&decide (Z+a<=1099511627776))<|Aa (Z+a) fun b=>Aa (List.take (Z*1) Y++List.take (a*1) (c.drop 0)) fun a=>Ar (decide (0+b*1<=a.length))<|Gz .u64 (call 45 [(13:Int),A5 1 b (List.take (b*1) (a.drop 0))]) fun a=>Bj [Ah a]) (Ac (CP p) prog fu d):=by kernel_rfl
end
section
variable {xs:FuncId->Option (Ad->Option A1)}(fu d:Nat)(call:Aq)
def Fn(Z:Nat)(Y:Ad)(X:ByteArray)(W V:Nat)(U:Ad)(T:ByteArray)(S Q:Int):Option A1:=Ll fu call 94 Tryz.f94 [A5 1 Z Y,X] [.r,.l,.r,.l] W ⟨lk [(0,A5 1 V U),(1,T),(7,S),(8,Q)],Fw []⟩
theorem J8(U:Nat)(T:Ad)(S:ByteArray)(Q Y:Nat)(X:Ad)(W:ByteArray)(V Z:Int):Fn fu call U T S (Q+1) Y X W V Z=(Ax (decide (Z<V)) (Ar (decide (0<=Z)&&decide (Z<(↑Y:Int)))<|Bv (X.getD (Z.toNat*1) .top) fun a=>Ax (Array.toList (ByteArray.data W)==Array.toList (ByteArray.data a)) (Bj [Z]) (Aa (wrap .i64 (Z+1)) fun a=>Fn fu call U T S Q Y X W V a)) (Bj [(-1:Int)])):=by kernel_rfl
theorem Wk{p:FuncId->Option (Ad->Option A1)}(fu d Z:Nat)(Y:Ad)(X:ByteArray):Ac (CP p) prog fu (d+1) 94 [A5 1 Z Y,X]=(fun (call:Aq)=>Fn fu call Z Y X fu Z Y X (↑Z:Int) 0) (Ac (CP p) prog fu d):=by kernel_rfl
theorem Tl{p:FuncId->Option (Ad->Option A1)}(fu d Z:Nat)(Y:Ad)(X:ByteArray):Ac (CP p) prog fu (d+1) 58 [A5 1 Z Y,X]=(fun (call:Aq)=>Gz .i64 (call 94 [A5 1 Z Y,X]) fun a=>Bj [C9 (decide (a>=0))]) (Ac (CP p) prog fu d):=by kernel_rfl
end
section
variable {xs:FuncId->Option (Ad->Option A1)}(fu d:Nat)(call:Aq)
theorem FG{p:FuncId->Option (Ad->Option A1)}(fu d:Nat)(Z Y:Int):Ac (CP p) prog fu (d+1) 16 [Ah Z,Y]=(fun (call:Aq)=>D6 (call 41 [Ah Z,Y]) fun a b=>Ep a fun a=>Ee .i64 a fun a c=>Dn .u64 c fun c=>Dn .i64 b fun b=>Bj [.agg [a,Ah c]]) (Ac (CP p) prog fu d):=by kernel_rfl
theorem Tu{p:FuncId->Option (Ad->Option A1)}(fu d:Nat)(Z Y:Int)(X:Bool):Ac (CP p) prog fu (d+1) 7 [Z,Y,X]=(fun (call:Aq)=>Aa (wrap .u64 Z) fun a=>Aa (wrap .u64 (1000+a)) fun a=>Aa (wrap .i64 (500+Z)) fun b=>D6 (call 15 [b,(176:Int)]) fun b c=>Lg 1 b fun b e=>Ap c<|Ar (decide (b*1<=e.length))<|Bj [.agg [Ah a,Y,.own 1 b (e.take (b*1)),X]]) (Ac (CP p) prog fu d):=by kernel_rfl
theorem Tt{p:FuncId->Option (Ad->Option A1)}(fu d:Nat)(X W:Int)(V:Nat)(U:Ad)(Z Y:Bool):Ac (CP p) prog fu (d+1) 22 [.agg [Ah X,W,A5 1 V U,Z],Y]=(fun (call:Aq)=>Ax Y (Ax Z (Bj [(13:Int)]) (Bj [(5:Int)])) (Ax Z (Bj [(9:Int)]) (Bj [(1:Int)]))) (Ac (CP p) prog fu d):=by kernel_rfl
theorem R9{p:FuncId->Option (Ad->Option A1)}(fu d:Nat)(W Y:Int)(V U T:Int)(Z:Nat)(X:Ad)(S Q:Int):Ac (CP p) prog fu (d+1) 23 [.agg [Ah W,Y,V,U,Ah T,A5 1 Z X,S,Ah Q]]=(fun (call:Aq)=>Gz .i64 (call 49 [.agg [Ah W,Y,V,U,Ah T,A5 1 Z X,S,Ah Q]]) fun a=>Ax (a != 0) (Bj [.own 1 0 [],a]) (D6 (call 50 [A5 1 1 [Ah W]]) fun a b=>Lg 1 a fun a c=>Ap b<|Aa (wrap .u8 Y) fun b=>Aa (wrap .u8 V) fun e=>Aa (wrap .u8 U) fun f=>Ar (decide (a*1<=c.length)&&true&&decide ((a+3)*1<=1099511627776)&&decide (a+3<=1099511627776))<|Aa (a+3) fun g=>Aa (List.take (a*1) c++[.sc (.int .u8 b),.sc (.int .u8 e),.sc (.int .u8 f)]) fun a=>Aa (D3 .i64 Y 64) fun b=>Ax (b != 0) (D6 (call 51 [.agg [S,Ah Q]]) fun b c=>Lg 1 b fun b e=>Dn .i64 c fun c=>D6 (call 50 [A5 1 1 [Ah T]]) fun c f=>Lg 1 c fun c h=>Ap f<|Ar (decide (0+c*1<=h.length))<|Ar (decide (g*1<=a.length)&&decide (List.length (List.take (c*1) (h.drop 0))=c*1)&&decide ((g+c)*1<=1099511627776)&&decide (g+c<=1099511627776))<|Aa (g+c) fun f=>Aa (List.take (g*1) a++List.take (c*1) (h.drop 0)) fun a=>Ar (decide (f*1<=a.length)&&decide (X.length=Z*1)&&decide ((f+Z)*1<=1099511627776)&&decide (f+Z<=1099511627776))<|Aa (f+Z) fun c=>Aa (List.take (f*1) a++X) fun a=>Ar (decide (0+b*1<=e.length))<|Ar (decide (c*1<=a.length)&&decide (List.length (List.take (b*1) (e.drop 0))=b*1)&&decide ((c+b)*1<=1099511627776)&&decide (c+b<=1099511627776))<|Aa (c+b) fun f=>Aa (List.take (c*1) a++List.take (b*1) (e.drop 0)) fun a=>Ar (decide (f*1<=a.length))<|Bj [.own 1 f (a.take (f*1)),(0:Int)]) (Ar (decide (g*1<=a.length))<|Bj [.own 1 g (a.take (g*1)),(0:Int)]))) (Ac (CP p) prog fu d):=by kernel_rfl
theorem R4{p:FuncId->Option (Ad->Option A1)}(fu d Z:Nat)(Y:Ad)(X:Int):Ac (CP p) prog fu (d+1) 42 [.pbox [A5 1 Z Y,X]]=(fun (call:Aq)=>Bm (call 43 [.pbox [A5 1 Z Y,X],(3:Int)]) fun a b=>Dn .i64 a fun a=>Ai b fun b c=>Z7 1 b fun b e f=>Dn .i64 f fun f=>Ap c<|Bm (call 43 [.pbox [A5 1 b e,f],(2:Int)]) fun b c=>Dn .i64 b fun b=>Ai c fun c e=>Z7 1 c fun c f g=>Dn .i64 g fun g=>Ap e<|Bm (call 43 [.pbox [A5 1 c f,g],(2:Int)]) fun c e=>Dn .i64 c fun c=>Ai e fun e f=>Z7 1 e fun e g h=>Dn .i64 h fun h=>Ap f<|Aa (wrap .i64 (1+c)) fun c=>Bm (call 43 [.pbox [A5 1 e g,h],(3:Int)]) fun e f=>Dn .i64 e fun e=>Ai f fun f g=>Z7 1 f fun f h i=>Dn .i64 i fun i=>Ap g<|Aa (wrap .i64 (1+e)) fun e=>Bm (call 43 [.pbox [A5 1 f h,i],(2:Int)]) fun f g=>Dn .i64 f fun f=>Ai g fun g h=>Z7 1 g fun g i j=>Dn .i64 j fun j=>Ap h<|Bm (call 43 [.pbox [A5 1 g i,j],(3:Int)]) fun g h=>Dn .i64 g fun g=>Ai h fun h i=>Z7 1 h fun h j k=>Dn .i64 k fun k=>Ap i<|Bm (call 43 [.pbox [A5 1 h j,k],(2:Int)]) fun h i=>Dn .i64 h fun h=>Ai i fun i j=>Z7 1 i fun i k m=>Dn .i64 m fun m=>Ap j<|Bm (call 43 [.pbox [A5 1 i k,m],(3:Int)]) fun i j=>Dn .i64 i fun i=>Ai j fun j k=>Z7 1 j fun j m n=>Dn .i64 n fun n=>Ap k<|Ar (decide (0<=i)&&decide (i<3))<|Bc .i64 (List.getD [(50:Int),(5:Int),(500:Int)] (0+i.toNat*1) .top) fun i=>Bm (call 43 [.pbox [A5 1 j m,n],(4:Int)]) fun j k=>Dn .i64 j fun j=>Ai k fun k m=>Z7 1 k fun k n o=>Dn .i64 o fun o=>Ap m<|Ax (j==3) (Bm (call 43 [.pbox [A5 1 k n,o],(2:Int)]) fun j k=>Dn .i64 j fun j=>Ai k fun k m=>Z7 1 k fun k n o=>Dn .i64 o fun o=>Ap m<|Aa (wrap .i64 (1+j)) fun j=>Ar (decide (0<=j))<|Ar (decide (j.toNat<=2))<|Aa (j.toNat-0) fun j=>Ar (decide (j*1<=2))<|some ⟨[.agg [a,C9 (b==1),c,e,C9 (f==1),g,C9 (h==1),.own 1 j (List.take (j*1) [Ah 3,Ah 7]),i]],[[A5 1 k n,o]]⟩) (some ⟨[.agg [a,C9 (b==1),c,e,C9 (f==1),g,C9 (h==1),.own 1 0 [],i]],[[A5 1 k n,o]]⟩)) (Ac (CP p) prog fu d):=by kernel_rfl
theorem Sb{p:FuncId->Option (Ad->Option A1)}(fu d Z:Nat)(Y:Ad)(X:Int):Ac (CP p) prog fu (d+1) 18 [.pbox [A5 1 Z Y,X]]=(fun (call:Aq)=>Bm (call 42 [.pbox [A5 1 Z Y,X]]) fun a b=>Ai a fun a c=>Ep a fun a=>Ee .i64 a fun a e=>Ai e fun e f=>Bu e fun e=>Ee .i64 f fun f g=>Ee .i64 g fun g h=>Ai h fun h i=>Bu h fun h=>Ee .i64 i fun i j=>Ai j fun j k=>Bu j fun j=>YL 1 k fun k m n=>Dn .i64 n fun n=>Ap c<|Ai b fun b c=>Z7 1 b fun b o q=>Dn .i64 q fun q=>Ap c<|Bm (call 43 [.pbox [A5 1 b o,q],(3:Int)]) fun b c=>Dn .i64 b fun b=>Ai c fun c o=>Z7 1 c fun c q s=>Dn .i64 s fun s=>Ap o<|Aa (wrap .u64 b) fun b=>Aa (wrap .u64 (5+b)) fun b=>D6 (call 16 [Ah 31,(4:Int)]) fun o t=>Ep o fun o=>Ee .i64 o fun o u=>Dn .u64 u fun u=>Ap t<|Ar (decide (0+k*1<=m.length))<|some ⟨[.agg [Bo ⟨#[101,120,97,109,112,108,101,46,99,111,109]⟩,Bo ⟨#[69,120,97,109,112,108,101]⟩,A5 1 2 [Bo ⟨#[104,116,116,112,115,58,47,47,101,120,97,109,112,108,101,46,99,111,109]⟩,Bo ⟨#[104,116,116,112,115,58,47,47,108,111,103,105,110,46,101,120,97,109,112,108,101,46,99,111,109]⟩],a,e,f,g,h,i,j,A5 1 k (List.take (k*1) (m.drop 0)),n,Ah b,o,Ah u]],[[A5 1 c q,s]]⟩) (Ac (CP p) prog fu d):=by kernel_rfl
end
def eqB(a b:Aj):Bool:=(a.map fun n=>n.toNat.toUInt8)==(b.map fun n=>n.toNat.toUInt8)
theorem Awm(a b:Aj):(Array.toList (ByteArray.data (ByteArray.mk (List.toArray (a.map fun n=>n.toNat.toUInt8))))==Array.toList (ByteArray.data (ByteArray.mk (List.toArray (b.map fun n=>n.toNat.toUInt8)))))=eqB a b:=by exact id rfl
theorem Abh(a:Aj):eqB a a=true:=by unfold eqB;simp
def Af6(b:Aj)(c:Int):Int:=D8 13 (b++Bp c)
section
variable {fu d:Nat}
theorem Aa1(a b:Aj):Ac C1 prog fu (d+1) 32 [.lst false 1 a.length (Ae .u8 a),.lst false 1 b.length (Ae .u8 b)]=some ⟨[C9 (eqB a b)],[]⟩:=by refine (RU fu d a.length (Ae .u8 a) b.length (Ae .u8 b)).trans ?_;have La:=Al .u8 a;have Lb:=Al .u8 b;have ba:=Za a;have bb:=Za b;have q:=Awm a b;simp(disch:=omega)only[A4,A3,La,Lb,ba,bb,q]
theorem A0j{s:ByteArray}(hs:s.size<=1000000)(Bq:1000400<=fu):Ac C1 prog fu (d+6) 31 [Bo s]=some ⟨[Ah (D8 9 (Ci s))],[]⟩:=by
 refine (FI fu (d+5) s).trans ?_;have hh:=MK (xs:=RK) (fu:=fu) (d:=d) (l:=Ci s) (DG s) (by rw[Dc];omega) (by omega) (by rw[Dc];omega) 9
 have L:(Dl s).length=s.size:=by rw[Hq,Al,Dc]
 have t:List.take s.size (Dl s)=Ae .u8 (Ci s):=by rw[Hq,Ji (by rw[Al,Dc];omega)]
 rw[Dc] at hh;simp(disch:=omega)only[A4,A3,L,t,Ou,J6,hh]
theorem An9{s:ByteArray}(hs:s.size<=1000000)(Bq:1000400<=fu):Ac C1 prog fu (d+6) 34 [Bo s]=some ⟨[Ah (D8 11 (Ci s))],[]⟩:=by
 refine (GA fu (d+5) s).trans ?_;have hh:=MK (xs:=RK) (fu:=fu) (d:=d) (l:=Ci s) (DG s) (by rw[Dc];omega) (by omega) (by rw[Dc];omega) 11
 have L:(Dl s).length=s.size:=by rw[Hq,Al,Dc]
 have t:List.take s.size (Dl s)=Ae .u8 (Ci s):=by rw[Hq,Ji (by rw[Al,Dc];omega)]
 rw[Dc] at hh;simp(disch:=omega)only[A4,A3,L,t,Ou,J6,hh]
theorem Ayv{s:ByteArray}(hs:s.size<=1000000)(Bq:1000400<=fu):Ac C1 prog fu (d+5) 21 [Bo s]=some ⟨[Ah (D8 9 (Ci s))],[]⟩:=by
 refine (Xg fu (d+4) s).trans ?_;have hh:=EJ (xs:=RK) (fu:=fu) (d:=d) (l:=Ci s) (DG s) (by rw[Dc];omega) (by omega) (by rw[Dc];omega) 9
 have L:(Dl s).length=s.size:=by rw[Hq,Al,Dc]
 have t:List.take s.size (Dl s)=Ae .u8 (Ci s):=by rw[Hq,Ji (by rw[Al,Dc];omega)]
 rw[Dc] at hh;simp(disch:=omega)only[A4,A3,L,t,Ou,J6,hh]
theorem Amf{s:ByteArray}(hs:s.size<=1000000)(Bq:1000400<=fu):Ac C1 prog fu (d+5) 25 [Bo s]=some ⟨[Ah (D8 11 (Ci s))],[]⟩:=by
 refine (Uk fu (d+4) s).trans ?_;have hh:=EJ (xs:=RK) (fu:=fu) (d:=d) (l:=Ci s) (DG s) (by rw[Dc];omega) (by omega) (by rw[Dc];omega) 11
 have L:(Dl s).length=s.size:=by rw[Hq,Al,Dc]
 have t:List.take s.size (Dl s)=Ae .u8 (Ci s):=by rw[Hq,Ji (by rw[Al,Dc];omega)]
 rw[Dc] at hh;simp(disch:=omega)only[A4,A3,L,t,Ou,J6,hh]
theorem At5{b:Aj}(hb:Cp b)(hl:b.length<=100000)(Bq:1000400<=fu)(c:Int):Ac C1 prog fu (d+5) 24 [.lst false 1 b.length (Ae .u8 b),Ah c]=some ⟨[Ah (Af6 b c)],[]⟩:=by
 refine (Vv fu (d+4) b.length (Ae .u8 b) c).trans ?_;unfold Af6;have ow:=Apm (xs:=RK) (fu:=fu) (d:=d+3) (by omega) c;have Lq:(Ae .u8 (Bp c)).length=8:=by rw[Al,B5]
 have tq:List.take 8 (Ae .u8 (Bp c))=Ae .u8 (Bp c):=Ji (by omega);have L:=Al .u8 b;have t:=LX .u8 b;have ea:Ae .u8 b++Ae .u8 (Bp c)=Ae .u8 (b++Bp c):=by rw[Ae,Ae,Ae,List.flatMap_append]
 have Wd:(b++Bp c).length=b.length+8:=by rw[Xk,B5]
 have hh:=EJ (xs:=RK) (fu:=fu) (d:=d) (l:=b++Bp c) (Z0 hb (Vz c)) (by omega) (by omega) (by omega) 13;have L2:=Al .u8 (b++Bp c);have t2:List.take (b.length+8) (Ae .u8 (b++Bp c))=Ae .u8 (b++Bp c):=Ji (by omega);rw[Wd] at hh;simp(disch:=omega)only[A4,A3,ow,Ou,Ig,J6,Lq,tq,L,t,ea,L2,t2,hh]
theorem Asg{n:Int}(h0:0<=n)(h1:n<=1000000):Ac C1 prog fu (d+1) 99 [.lst true 1 0 [],Aw n]=some ⟨[.own 1 0 []],[]⟩:=by
 refine (CJ fu d n).trans ?_;have a1:=dF (q:=n<0) (by omega);have w1:wrap .i64 (n-0)=n:=Bk
 by_cases h:n>0
 ·have a2:=dT h;have a3:=dT h0;have a4:=dT (q:=Int.toNat n*1<=1099511627776) (by omega);have a5:=dT (q:=n<=1099511627776) (by omega);simp only[A4,A3,a1,w1,a2,a3,a4,a5]
 ·have a2:=dF h;simp only[A4,A3,a1,w1,a2]
set_option maxHeartbeats 1000000 in
theorem Avr{a b:Aj}(ha:a.length<=100000)(hb:b.length<=100000)(Bq:1000<=fu):Ac C1 prog fu (d+2) 65 [.lst false 1 2 [.lst false 1 a.length (Ae .u8 a),.lst false 1 b.length (Ae .u8 b)]]=some ⟨[.own 1 (a.length+b.length) (Ae .u8 (a++b))],[]⟩:=by
 obtain⟨f,rfl⟩:∃f,fu=f+3:=⟨fu-3,by omega⟩
 refine (Xv (f+3) (d+1) 2 _).trans ?_;have La:=Al .u8 a;have Lb:=Al .u8 b;have w1:wrap .i64 (0+(a.length:Int))=((a.length:Nat):Int):=Bk
 have w2:wrap .i64 (((a.length:Nat):Int)+(b.length:Int))=((a.length+b.length:Nat):Int):=Bk
 have w3:wrap .i64 (0+1)=1:=by decide
 have w4:wrap .i64 (1+1)=2:=by decide
 have l0:decide ((0:Int)<((2:Nat):Int))=true:=rfl;have l1:decide ((1:Int)<((2:Nat):Int))=true:=rfl;have l2:decide ((2:Int)<((2:Nat):Int))=false:=rfl;have z0:decide ((0:Int)<=0)=true:=rfl;have z1:decide ((0:Int)<=1)=true:=rfl;have g0:List.getD [PV.lst false 1 a.length (Ae .u8 a),PV.lst false 1 b.length (Ae .u8 b)] (Int.toNat 0*1) PV.top=PV.lst false 1 a.length (Ae .u8 a):=rfl;have g1:List.getD [PV.lst false 1 a.length (Ae .u8 a),PV.lst false 1 b.length (Ae .u8 b)] (Int.toNat 1*1) PV.top=PV.lst false 1 b.length (Ae .u8 b):=rfl;have n1:=dF (q:=((a.length:Nat):Int)<0) (by omega);have n2:=dF (q:=((a.length+b.length:Nat):Int)<0) (by omega);have gr:=Asg (fu:=f+3) (d:=d) (n:=((a.length+b.length:Nat):Int)) (by omega) (by omega);have c1:decide (0*1<=List.length ([]:Ad))=true:=rfl;have c2:decide (List.length (Ae .u8 a)=a.length*1)=true:=dT (by omega)
 have c3:=dT (q:=a.length*1<=1099511627776) (by omega);have c4:=dT (q:=a.length<=1099511627776) (by omega);have t0:List.take (0*1) ([]:Ad)=[]:=rfl;have e0:([]:Ad)++Ae .u8 a=Ae .u8 a:=NK _;have n0:0+a.length=a.length:=Ig _;have c5:decide (a.length*1<=List.length (Ae .u8 a))=true:=dT (by omega);have c6:decide (List.length (Ae .u8 b)=b.length*1)=true:=dT (by omega);have c7:=dT (q:=(a.length+b.length)*1<=1099511627776) (by omega);have c8:=dT (q:=a.length+b.length<=1099511627776) (by omega);have t1:List.take (a.length*1) (Ae .u8 a)=Ae .u8 a:=Ji (by omega);have ea:Ae .u8 a++Ae .u8 b=Ae .u8 (a++b):=by rw[Ae,Ae,Ae,List.flatMap_append]
 have L2:=Al .u8 (a++b);rw[Xk] at L2;have c9:decide ((a.length+b.length)*1<=List.length (Ae .u8 (a++b)))=true:=dT (by omega);have t2:List.take ((a.length+b.length)*1) (Ae .u8 (a++b))=Ae .u8 (a++b):=Ji (by omega)
 (try dsimp only)
 rw[Hi];simp only[A4,A3,l0,z0,g0,w1,n1,w3]
 (try dsimp only)
 rw[Hi];simp only[A4,A3,l1,z1,g1,w2,n2,w4]
 (try dsimp only)
 rw[Hi];simp only[A4,A3,l2,gr];rw[He];simp only[A4,A3,l0,z0,g0,c1,c2,c3,c4,t0,e0,n0,w3];rw[He];simp only[A4,A3,l1,z1,g1,c5,c6,c7,c8,t1,ea,w4];rw[He];simp only[A4,A3,l2,c9,t2]
theorem Auy{b:Aj}(hb:Cp b)(hl:b.length<=100000)(Bq:1000400<=fu)(c:Int):Ac C1 prog fu (d+6) 33 [.lst false 1 b.length (Ae .u8 b),Ah c]=some ⟨[Ah (Af6 b c)],[]⟩:=by
 refine (BT fu (d+5) b.length (Ae .u8 b) c).trans ?_;unfold Af6;have ow:=owd (xs:=RK) (fu:=fu) (d:=d+4) (by omega) c;have Lq:(Ae .u8 (Bp c)).length=8:=by rw[Al,B5]
 have c1:decide (0+8*1<=List.length (Ae .u8 (Bp c)))=true:=dT (by omega);have tq:List.take (8*1) (List.drop 0 (Ae .u8 (Bp c)))=Ae .u8 (Bp c):=Ji (by rw[Ou];omega)
 have Wd:(b++Bp c).length=b.length+8:=by rw[Xk,B5]
 have cc:=Avr (fu:=fu) (d:=d+3) (a:=b) (b:=Bp c) hl (by rw[B5];omega) (by omega)
 rw[B5] at cc;have hh:=MK (xs:=RK) (fu:=fu) (d:=d) (l:=b++Bp c) (Z0 hb (Vz c)) (by omega) (by omega) (by omega) 13;have L2:=Al .u8 (b++Bp c);have c2:decide (0+(b.length+8)*1<=List.length (Ae .u8 (b++Bp c)))=true:=dT (by omega);have t2:List.take ((b.length+8)*1) (List.drop 0 (Ae .u8 (b++Bp c)))=Ae .u8 (b++Bp c):=Ji (by rw[Ou];omega)
 rw[Wd] at hh;simp only[A4,A3,ow,c1,tq,cc,c2,t2,hh]
end
def Qn.owned(a:Qn):Ad:=[Ah a.rp,Aw a.fl,Aw a.ct,Aw a.rg,Ah a.md,.own 1 a.idn a.id,Aw a.kh,Ah a.kr]
abbrev ad0:Qn:=⟨0,0,0,0,0,0,[],0,0⟩
def vT(a:Qn):Int:=
 bif D3 .i64 a.fl 64==0 then (bif a.md != 0 then 4 else bif ((a.idn:Nat):Int) != 0 then 4 else bif !(a.kh==0&&(a.kr==0&&true)) then 4 else 0)
 else bif ((a.idn:Nat):Int) != 176 then 4 else if D2 a.kh=true then 9 else 0
def vE(a:Qn):Int:=
 bif Zx .i64 a.fl 93 != 0 then 9 else bif decide (a.ct<0) then 9 else bif decide (a.ct>16) then 9 else bif decide (a.rg<0) then 9 else bif decide (a.rg>=16) then 9 else
 bif D3 .i64 a.fl 16 != 0 then (bif D3 .i64 a.fl 8==0 then 18 else vT a) else vT a
theorem Ap4(a:Int):(a != 0) = !(a==0):=rfl
section
variable {fu d:Nat}
theorem XO(a:Qn)(k:Int):Ac C1 prog fu (d+1) 60 [.agg a.cells,Aw k]=some ⟨[C9 (D3 .i64 a.fl k != 0)],[]⟩:=
 (PF fu d a.rp a.fl a.ct a.rg a.md a.idn a.id a.kh a.kr k).trans (by simp only[A4,A3])
set_option maxHeartbeats 1000000 in
theorem Aii(Bq:1000<=fu)(a:Qn):Ac C1 prog fu (d+3) 63 [.agg a.cells]=some ⟨[Aw (vE a)],[]⟩:=by
 have h8:=XO (fu:=fu) (d:=d+1) a 8;have h16:=XO (fu:=fu) (d:=d+1) a 16;have h64:=XO (fu:=fu) (d:=d+1) a 64;have ek0:=Alc (xs:=RK) (fu:=fu) (d:=d) Bq ⟨a.kh,a.kr⟩;simp only[Ky.cells] at ek0
 obtain⟨kn,kc,ek⟩:∃n c,Ac C1 prog fu (d+2) 97 [.agg [Aw a.kh,Ah a.kr]]=some ⟨[.own 1 n c,Aw (if D2 a.kh=true then 9 else 0)],[]⟩:=by
  by_cases bh:D2 a.kh=true
  ·exact⟨_,_,by rw[Cy bh] at ek0;rw[Cy bh];exact ek0⟩
  ·exact⟨_,_,by rw[Bl bh] at ek0;rw[Bl bh];exact ek0⟩
 simp only[Qn.cells] at h8 h16 h64;refine (AH fu (d+2) a.rp a.fl a.ct a.rg a.md a.idn a.id a.kh a.kr).trans ?_;unfold vE;cases b1:Zx .i64 a.fl 93 != 0
 rotate_left
 ·simp only[A4,A3,b1,cond_true]
 cases b2:decide (a.ct<0)
 rotate_left
 ·simp only[A4,A3,b1,b2,cond_true,cond_false]
 cases b3:decide (a.ct>16)
 rotate_left
 ·simp only[A4,A3,b1,b2,b3,cond_true,cond_false]
 cases b4:decide (a.rg<0)
 rotate_left
 ·simp only[A4,A3,b1,b2,b3,b4,cond_true,cond_false]
 cases b5:decide (a.rg>=16)
 rotate_left
 ·simp only[A4,A3,b1,b2,b3,b4,b5,cond_true,cond_false]
 simp only[A4,A3,b1,b2,b3,b4,b5,cond_true,cond_false];clear b1 b2 b3 b4 b5;rw[Ve (Gy:=by omega)];unfold vT;simp only[Ap4] at h8 h16 h64 ⊢;cases b16:D3 .i64 a.fl 16==0<;>cases b8:D3 .i64 a.fl 8==0<;>cases b64:D3 .i64 a.fl 64==0<;>simp only[A4,A3,h8,h16,h64,b8,b16,b64,cond_true,cond_false]
 all_goals first
  |(cases bm:a.md==0<;>cases bi:((a.idn:Nat):Int)==0<;>cases bk:(a.kh==0&&a.kr==0)<;>simp only[A4,A3,bm,bi,bk,cond_true,cond_false]<;>done)
  |(cases bl:((a.idn:Nat):Int) != 176<;>simp only[A4,A3,bl,ek,cond_true,cond_false])
theorem JW(n lo hi:Int):Ac C1 prog fu (d+1) 84 [Aw n,Aw lo,Aw hi]=some ⟨[C9 (decide (lo<=n)&&decide (n<=hi))],[]⟩:=by
 refine (Xc fu d n lo hi).trans ?_;by_cases h:lo<=n
 ·simp(disch:=omega)only[A4,A3,h,decide_true,WU]
 ·simp(disch:=omega)only[A4,A3,h,decide_false,RH]
set_option maxHeartbeats 1000000 in
theorem Amo(Bq:1000<=fu)(a:Qn):Ac C1 prog fu (d+3) 49 [.agg a.cells]=some ⟨[Aw (vE a)],[]⟩:=by
 have w1:=JW (fu:=fu) (d:=d+1) a.ct 0 16;have w2:=JW (fu:=fu) (d:=d+1) a.rg 0 15;have ek0:=QM (xs:=RK) (fu:=fu) (d:=d) Bq ⟨a.kh,a.kr⟩;simp only[Ky.cells] at ek0
 obtain⟨kn,kc,ek⟩:∃n c,Ac C1 prog fu (d+2) 51 [.agg [Aw a.kh,Ah a.kr]]=some ⟨[.own 1 n c,Aw (if D2 a.kh=true then 9 else 0)],[]⟩:=by
  by_cases bh:D2 a.kh=true
  ·exact⟨_,_,by rw[Cy bh] at ek0;rw[Cy bh];exact ek0⟩
  ·exact⟨_,_,by rw[Bl bh] at ek0;rw[Bl bh];exact ek0⟩
 refine (Qh fu (d+2) a.rp a.fl a.ct a.rg a.md a.idn a.id a.kh a.kr).trans ?_;unfold vE;cases b1:Zx .i64 a.fl 93 != 0
 rotate_left
 ·simp only[A4,A3,b1,cond_true]
 have q1:(decide ((0:Int)<=a.ct)&&decide (a.ct<=16))=(!decide (a.ct<0) && !decide (a.ct>16)):=by rw[Bool.eq_iff_iff];simp<;>omega
 have q2:(decide ((0:Int)<=a.rg)&&decide (a.rg<=15))=(!decide (a.rg<0) && !decide (a.rg>=16)):=by rw[Bool.eq_iff_iff];simp<;>omega
 rw[q1] at w1;rw[q2] at w2;cases b2:decide (a.ct<0)
 rotate_left
 ·rw[b2] at w1;simp only[Hn,RH] at w1;simp only[A4,A3,b1,w1,cond_true,cond_false]
 cases b3:decide (a.ct>16)
 rotate_left
 ·rw[b2,b3] at w1;simp only[Hn,Km,Bool.and_false] at w1;simp only[A4,A3,b1,w1,cond_true,cond_false]
 rw[b2,b3] at w1;simp only[Km,Bool.and_true] at w1;cases b4:decide (a.rg<0)
 rotate_left
 ·rw[b4] at w2;simp only[Hn,RH] at w2;simp only[A4,A3,b1,w1,w2,cond_true,cond_false]
 cases b5:decide (a.rg>=16)
 rotate_left
 ·rw[b4,b5] at w2;simp only[Hn,Km,Bool.and_false] at w2;simp only[A4,A3,b1,w1,w2,cond_true,cond_false]
 rw[b4,b5] at w2;simp only[Km,Bool.and_true] at w2;unfold vT;have gz:decide (((a.idn:Nat):Int)>0) = !(((a.idn:Nat):Int)==0):=by rw[Bool.eq_iff_iff];simp<;>omega
 rw[Ap4] at b1;simp only[A4,A3,Ap4,b1,w1,w2,gz,cond_true,cond_false];cases b16:D3 .i64 a.fl 16==0<;>cases b8:D3 .i64 a.fl 8==0<;>cases b64:D3 .i64 a.fl 64==0<;>simp only[A4,A3,b8,b16,b64,cond_true,cond_false]
 all_goals first
  |(cases bm:a.md==0<;>cases bi:((a.idn:Nat):Int)==0<;>cases bk:(a.kh==0&&a.kr==0)<;>simp only[A4,A3,bm,bi,bk,cond_true,cond_false]<;>done)
  |(cases bl:((a.idn:Nat):Int) != 176<;>simp only[A4,A3,bl,ek,cond_true,cond_false])
end
def adN(b:Aj):Qn:=⟨Amb (b.take 8),b.getD 8 0,b.getD 9 0,b.getD 10 0,0,0,[],0,0⟩
def adK(b:Aj)(k:Ky):Qn:=⟨Amb (b.take 8),b.getD 8 0,b.getD 9 0,b.getD 10 0,Amb ((b.drop 11).take 8),176,Ae .u8 ((b.drop 19).take 176),k.h,k.root⟩
def Wp(b:Aj):Option Qn:=
 if b.length=11 then (if D3 .i64 (b.getD 8 0) 64=0 then (if vE (adN b)=0 then some (adN b) else none) else none)
 else if b.length=204 then (if D3 .i64 (b.getD 8 0) 64=0 then none else match VZ (b.drop 195) with|some k=>if vE (adK b k)=0 then some (adK b k) else none|none=>none)
 else none
theorem Avy{b:Aj}(h:b.length=11)(hf:D3 .i64 (b.getD 8 0) 64=0):Wp b=if vE (adN b)=0 then some (adN b) else none:=by unfold Wp;rw[Cy h,Cy hf]
theorem FF{b:Aj}(hf:D3 .i64 (b.getD 8 0) 64≠0):Wp b=if b.length=204 then (match VZ (b.drop 195) with|some k=>if vE (adK b k)=0 then some (adK b k) else none|none=>none) else none:=by
 unfold Wp;by_cases h:b.length=11
 ·rw[Cy h,Bl hf,Bl (by omega)]
 ·rw[Bl h];by_cases h2:b.length=204
  ·rw[Cy h2,Cy h2,Bl hf]
  ·rw[Bl h2,Bl h2]
theorem Arn{b:Aj}(h:b.length≠11)(hf:D3 .i64 (b.getD 8 0) 64=0):Wp b=none:=by
 unfold Wp;rw[Bl h];by_cases h2:b.length=204
 ·rw[Cy h2,Cy hf]
 ·rw[Bl h2]
theorem Anp{b:Aj}(h:b.length≠11)(h2:b.length≠204):Wp b=none:=by unfold Wp;rw[Bl h,Bl h2]
def Aot(o:Option Qn):Ad:=match o with|some a=>[.agg a.owned,Aw 0]|none=>[.agg ad0.owned,Aw 2]
section
variable {fu d:Nat}
theorem Akj{call:Aq}{n:Nat}{c:Ad}{l:Aj}(hl:l.length<=1000):∀(r:Aj)(j nn:Nat)(x:Int),l.drop j=r->r.length<nn->j<=l.length ->
  Jj fu call n c nn x l.length (Ae .u8 l) (l.length:Int) (j:Int)=some ⟨[Ah (r.foldl Ml x)],[]⟩:=by
 intro r
 induction r with
 |nil=>
  intro j nn x hd hn hj;obtain⟨m,rfl⟩:∃m,nn=m+1:=⟨nn-1,by omega⟩
  have:=drop_nil hd;rw[Q8,Hh _ _ _ (by omega)];rfl
 |cons y r ih=>
  intro j nn x hd hn hj;obtain⟨m,rfl⟩:∃m,nn=m+1:=⟨nn-1,by omega⟩
  obtain⟨Cm,hy,hd'⟩:=Dx hd;have g:=EA (k:=.u8) hy;have nt:Int.toNat (j:Int)=j:=Jg _;have w1:wrap .i64 ((j:Int)+1)=((j+1:Nat):Int):=Bk
  have e:=ih (j+1) m (Ml x y) hd' (by simp at hn;omega) (by omega)
  rw[Q8];simp(disch:=omega)only[A4,A3,nt,J6,g,w1];exact e
theorem Aci(Bq:1000<=fu){l:Aj}(hl:l.length=8):Ac C1 prog fu (d+1) 59 [.lst false 1 8 (Ae .u8 l)]=some ⟨[Ah (Amb l)],[]⟩:=by refine (LJ fu d 8 (Ae .u8 l)).trans ?_;have e:=Akj (fu:=fu) (call:=Ac C1 prog fu d) (n:=8) (c:=Ae .u8 l) (l:=l) (by omega) l 0 fu 0 rfl (by omega) (by omega);rw[hl] at e;exact e
theorem Aqx{l:Aj}(h:l.length≠9):VZ l=none:=by unfold VZ;rw[Bl (fun q=>h q.1)]
theorem Afg{b:Aj}(hb:Cp b)(i:Nat):0<=b.getD i 0/\b.getD i 0<=255:=by
 rw[List.getD_eq_getElem?_getD];cases h:b[i]? with
 |none=>exact⟨by simp,by simp⟩
 |some y=>exact hb y (List.mem_of_getElem? h)
theorem Afm{b:Aj}{i:Nat}(h:i<b.length):(Ae .u8 b).getD i .top=.sc (.int .u8 (b.getD i 0)):=by have g:b[i]?=some b[i]:=List.getElem?_eq_getElem h;have e:=EA (k:=.u8) g;rw[e,List.getD_eq_getElem?_getD,g];rfl
set_option maxHeartbeats 2000000 in
theorem Avl(Bq:1000<=fu){b:Aj}(hb:Cp b)(hl:b.length<=100000):Ac C1 prog fu (d+4) 30 [.lst false 1 b.length (Ae .u8 b)]=some ⟨Aot (Wp b),[]⟩:=by
 refine (DM fu (d+3) b.length (Ae .u8 b)).trans ?_;by_cases h11:b.length<11
 ·have a1:=dT (q:=((b.length:Nat):Int)<11) (by omega);rw[Anp (by omega) (by omega)];simp only[A4,A3,a1];rfl
 have a1:=dF (q:=((b.length:Nat):Int)<11) (by omega);have c1:=dT (q:=8<=b.length) (by omega);have c2:=dT (q:=(8:Int)<((b.length:Nat):Int)) (by omega);have c3:=dT (q:=(9:Int)<((b.length:Nat):Int)) (by omega);have c4:=dT (q:=(10:Int)<((b.length:Nat):Int)) (by omega);have d1:List.take 8 (List.drop 0 (Ae .u8 b))=Ae .u8 (b.take 8):=by rw[Ou,H7]
 have wd:=Aci (fu:=fu) (d:=d+2) Bq (l:=b.take 8) (by rw[List.length_take];omega)
 have g8:=Afm (b:=b) (i:=8) (by omega);have g9:=Afm (b:=b) (i:=9) (by omega);have g10:=Afm (b:=b) (i:=10) (by omega);have u8:wrap .i64 (b.getD 8 0)=b.getD 8 0:=by have:=Afg hb 8;exact Bb
 have u9:wrap .i64 (b.getD 9 0)=b.getD 9 0:=by have:=Afg hb 9;exact Bb
 have u10:wrap .i64 (b.getD 10 0)=b.getD 10 0:=by have:=Afg hb 10;exact Bb
 have hs:=XO (fu:=fu) (d:=d+2) (adN b) 64;simp only[Qn.cells,adN] at hs;cases hf:D3 .i64 (b.getD 8 0) 64 != 0 with
 |false=>
  rw[hf] at hs;have hf0:D3 .i64 (b.getD 8 0) 64=0:=by simpa using hf
  by_cases hgt:11<b.length
  ·have a2:=dT (q:=((b.length:Nat):Int)>11) (by omega);rw[Arn (by omega) hf0];simp only[A4,A3,a1,c1,c2,c3,c4,d1,wd,g8,g9,g10,u8,u9,u10,hs,a2];rfl
  have a2:=dF (q:=((b.length:Nat):Int)>11) (by omega);have vd:=Aii (fu:=fu) (d:=d) Bq (adN b);rw[Avy (by omega) hf0];by_cases hv:vE (adN b)=0
  ·rw[Cy hv];rw[hv] at vd;simp only[Qn.cells,adN] at vd;have z:((0:Int) != 0)=false:=rfl;simp only[A4,A3,a1,c1,c2,c3,c4,d1,wd,g8,g9,g10,u8,u9,u10,hs,a2,vd,z];rfl
  ·rw[Bl hv];have z:(vE (adN b) != 0)=true:=by simpa using hv
   generalize vE (adN b)=ve at vd z;simp only[Qn.cells,adN] at vd;simp only[A4,A3,a1,c1,c2,c3,c4,d1,wd,g8,g9,g10,u8,u9,u10,hs,a2,vd,z];rfl
 |true=>
  rw[hf] at hs;have hf0:D3 .i64 (b.getD 8 0) 64≠0:=by simpa using hf
  by_cases Bil:b.length<195
  ·have a2:=dT (q:=((b.length:Nat):Int)<195) (by omega);rw[FF hf0,Bl (by omega)];simp only[A4,A3,a1,c1,c2,c3,c4,d1,wd,g8,g9,g10,u8,u9,u10,hs,a2];rfl
  have a2:=dF (q:=((b.length:Nat):Int)<195) (by omega);have a3:=dT (q:=195<=b.length) (by omega);have a4:=dT (q:=b.length<=b.length) (Cn _)
  have d2:List.take ((b.length-195)*1) (List.drop 195 (Ae .u8 b))=Ae .u8 (b.drop 195):=by
   rw[K9];exact Ji (by rw[Al,List.length_drop];omega)
  have dk:=Ak8 (xs:=RK) (fu:=fu) (d:=d+1) Bq (l:=b.drop 195) (hb.drop 195);rw[List.length_drop] at dk;cases hk:VZ (b.drop 195) with
  |none=>
   rw[hk] at dk;simp only[Agd,Ky.cells] at dk
   have e:Wp b=none:=by
    rw[FF hf0,hk];split<;>rfl
   have z:((2:Int) != 0)=true:=rfl;rw[e];simp only[A4,A3,a1,c1,c2,c3,c4,d1,wd,g8,g9,g10,u8,u9,u10,hs,a2,a3,a4,d2,dk,z];rfl
  |some k=>
   rw[hk] at dk;simp only[Agd,Ky.cells] at dk
   have Bdf:b.length=204:=by
    rcases Nat.decEq (b.drop 195).length 9 with q|q
    ·rw[Aqx q] at hk;cases hk
    ·rw[List.length_drop] at q;omega
   have z0:((0:Int) != 0)=false:=rfl;have a5:=dT (q:=19<=b.length) (by omega);have d3:List.take 8 (List.drop 11 (Ae .u8 b))=Ae .u8 ((b.drop 11).take 8):=by rw[K9,H7]
   have wd2:=Aci (fu:=fu) (d:=d+2) Bq (l:=(b.drop 11).take 8) (by rw[List.length_take,List.length_drop];omega)
   have d4:List.take 176 (List.drop 19 (Ae .u8 b))=Ae .u8 ((b.drop 19).take 176):=by rw[K9,H7]
   have li:(Ae .u8 ((b.drop 19).take 176)).length=176:=by rw[Al,List.length_take,List.length_drop];omega
   have cb:=TV (xs:=RK) (fu:=fu) (d:=d+2) (n:=176) (c:=Ae .u8 ((b.drop 19).take 176)) li (by omega);have c5:decide (0+176*1<=List.length (Ae .u8 ((b.drop 19).take 176)))=true:=dT (by omega);have t1:List.take (176*1) (List.drop 0 (Ae .u8 ((b.drop 19).take 176)))=Ae .u8 ((b.drop 19).take 176):=Ji (by rw[Ou];omega)
   have c6:decide (176*1<=List.length (Ae .u8 ((b.drop 19).take 176)))=true:=dT (by omega);have t2:List.take (176*1) (Ae .u8 ((b.drop 19).take 176))=Ae .u8 ((b.drop 19).take 176):=Ji (by omega);have vd:=Aii (fu:=fu) (d:=d) Bq (adK b k);rw[FF hf0,Cy Bdf,hk];by_cases hv:vE (adK b k)=0
   ·simp only[hv,if_true];rw[hv] at vd;simp only[Qn.cells,adK] at vd;simp only[A4,A3,a1,c1,c2,c3,c4,d1,wd,g8,g9,g10,u8,u9,u10,hs,a2,a3,a4,d2,dk,z0,a5,d3,wd2,d4,cb,c5,t1,vd,c6,t2];rfl
   ·simp only[hv,if_false];have z:(vE (adK b k) != 0)=true:=by simpa using hv
    generalize vE (adK b k)=ve at vd z;simp only[Qn.cells,adK] at vd;simp only[A4,A3,a1,c1,c2,c3,c4,d1,wd,g8,g9,g10,u8,u9,u10,hs,a2,a3,a4,d2,dk,z0,a5,d3,wd2,d4,cb,c5,t1,vd,z];rfl
end
structure Cf where
 rp:ByteArray
 ti:ByteArray
 os:List ByteArray
 p:WR
 sec:Int
 kh:Int
 kr:Int
def RM(l:List ByteArray):Ad:=l.flatMap fun s=>[Bo s]
theorem Az3{l:List ByteArray}{i:Nat}{s:ByteArray}(h:l[i]?=some s):(RM l).getD (i*1) .top=Bo s:=NZ (k:=1) (fun _=>rfl) h (j:=0) (by omega)
def Cf.cells(c:Cf):Ad:=[Bo (c.rp),Bo (c.ti),.lst false 1 c.os.length (RM c.os),Aw c.p.vf,C9 (c.p.rs),Aw c.p.ht,Aw c.p.pr,C9 (c.p.sh),Aw c.p.fm,C9 (c.p.od),.lst false 1 c.p.dn.length (Ae .u64 c.p.dn),Aw c.p.op,Ah c.sec,Aw c.kh,Ah c.kr]
structure Cf.ok(c:Cf):Prop where
 rp:c.rp.size<=100000
 os:c.os.length<=1000
 dn:c.p.dn.length<=1000
structure Rq where
 kind:Int
 cd:ByteArray
 ad:Aj
 sg:Aj
 cn:Nat
 cc:Ad
 fm:Int
 id:Aj
 us:ByteArray
def Rq.cells(r:Rq):Ad:=[Aw r.kind,Bo (r.cd),.lst false 1 r.ad.length (Ae .u8 r.ad),.lst false 1 r.sg.length (Ae .u8 r.sg),.lst false 1 r.cn r.cc,Aw r.fm,.lst false 1 r.id.length (Ae .u8 r.id),Bo (r.us)]
structure Rq.ok(r:Rq):Prop where
 cd:r.cd.size<=100000
 adB:Cp r.ad
 ad:r.ad.length<=90000
 sgB:Cp r.sg
structure Mn where
 k:Int
 na:Nat
 an:Ad
 st:List (Int × Int)
def Mn.cells(e:Mn):Ad:=[Ah e.k,.lst false 3 e.na e.an,.lst false 2 e.st.length (rgC e.st)]
def mnC(l:List Mn):Ad:=l.flatMap Mn.cells
structure Mt where
 v:Int
 i:Int
 x:Int
 es:List Mn
 lf:Int
 n1:Nat
 c1:Ad
 n2:Nat
 c2:Ad
def Mt.cells(m:Mt):Ad:=[Aw m.v,Aw m.i,Aw m.x,.lst false 3 m.es.length (mnC m.es),Aw m.lf,.lst false 1 m.n1 m.c1,.lst false 1 m.n2 m.c2]
structure Mt.ok(m:Mt):Prop where
 n:m.es.length<=1000
 e:∀e∈m.es,e.an.length=e.na*3/\e.na<=1000/\e.st.length<=1000
def stS(m:Mt)(model now:Int):Int:=Xp now (match m.es.find? fun e=>e.k==model with|some e=>e.st|none=>[])
theorem Avh(l:List Mn):(mnC l).length=l.length*3:=PN (f:=Mn.cells) (k:=3) (fun _=>rfl) l
def mnE(e:Mn):En:=⟨e.k,e.na,e.an,e.st.length,rgC e.st⟩
theorem SX:∀{l:List Mn},(∀e∈l,e.an.length=e.na*3/\e.na<=1000/\e.st.length<=1000)->Vs (mnC l)=some (l.map mnE)
 |[],_=>rfl
 |x::l,h=>by
  have h0:=h x (by simp);have ih:=SX (l:=l) fun y hy=>h y (by simp[hy])
  have b:(Nat.beq x.an.length (x.na*3)&&Nat.beq (rgC x.st).length (x.st.length*2)&&Nat.ble x.na 1000&&Nat.ble x.st.length 1000)=true:=by
   rw[ZE,h0.1];simp only[Qi,WU,Er];exact⟨Nat.ble_eq_true_of_le h0.2.1,Nat.ble_eq_true_of_le h0.2.2⟩
  show Vs (Ah x.k :: .lst false 3 x.na x.an :: .lst false 2 x.st.length (rgC x.st)::mnC l)=_;rw[Vs,b,cond_true,ih];rfl
theorem OX:∀(l:List (Int × Int)),Qa (rgC l)=some l
 |[]=>rfl
 |s::l=>by
  show Qa (Aw s.1 :: Aw s.2::rgC l)=_;rw[Qa,OX l];rfl
theorem Air(model:Int):∀(l:List Mn),Akt model (l.map mnE)=match l.find? fun e=>e.k==model with|some e=>rgC e.st|none=>[]
 |[]=>rfl
 |x::l=>by
  have ih:=Air model l;unfold Akt at ih ⊢;by_cases h:x.k=model
  ·rw[U7,List.find?_cons_of_pos (by simpa [mnE] using h),List.find?_cons_of_pos (by simpa using h)];rfl
  ·rw[U7,List.find?_cons_of_neg (by simpa [mnE] using h),List.find?_cons_of_neg (by simpa using h)];exact ih
def inO(os:List ByteArray)(s:ByteArray):Bool:=os.any fun o=>Array.toList s.data==Array.toList o.data
def RR(os:List ByteArray)(k:Int)(ch:Aj)(r:Rq):Int:=
 bif r.kind != k then 3 else match Mc r.cd with
 |.error e=>bif e != 0 then e else 3
 |.ok (j,b,o,x,q)=>bif j != k then 3 else bif !eqB b ch then 35 else bif !inO os (Ab o) then 34 else bif x then (bif !inO os (Ab q) then 34 else 0) else 0
section
variable {fu d:Nat}
theorem Alw(fu d:Nat)(args:Ad):Ac C1 prog fu (d+1) 38 args=Aix args:=by kernel_rfl
theorem Aol{m:Mt}(hm:m.ok)(model now:Int):Ac C1 prog fu (d+1) 38 [.agg m.cells,Ah model,Aw now]=some ⟨[Aw (stS m model now)],[]⟩:=by
 rw[Alw]
 have b:(Nat.beq (mnC m.es).length (m.es.length*3)&&Nat.ble m.es.length 1000)=true:=by
  rw[Avh];simp only[Qi,WU];exact Nat.ble_eq_true_of_le hm.n
 show (bif (Nat.beq (mnC m.es).length (m.es.length*3)&&Nat.ble m.es.length 1000) then _ else none)=_;rw[b,cond_true,SX hm.e];simp only;rw[Air];unfold stS;cases m.es.find? fun e=>e.k==model with
 |none=>rfl
 |some e=>
  simp only;rw[OX]
theorem Aml{call:Aq}{n:Nat}{c:Ad}{t s:ByteArray}{os:List ByteArray}(hl:os.length<=1000):∀(r:List ByteArray)(i nn:Nat),os.drop i=r->r.length<nn->i<=os.length ->
  ∃v:Int,decide (v>=0)=inO r s/\Fn fu call n c t nn os.length (RM os) s (os.length:Int) (i:Int)=some ⟨[Aw v],[]⟩:=by
 intro r
 induction r with
 |nil=>
  intro i nn hd hn hi;obtain⟨m,rfl⟩:∃m,nn=m+1:=⟨nn-1,by omega⟩
  have:=drop_nil hd;refine⟨-1,rfl,?_⟩;rw[J8,Hh _ _ _ (by omega)]
 |cons o r ih=>
  intro i nn hd hn hi;obtain⟨m,rfl⟩:∃m,nn=m+1:=⟨nn-1,by omega⟩
  obtain⟨Cm,ho,hd'⟩:=Dx hd;have g:=Az3 ho;have nt:Int.toNat (i:Int)=i:=Jg _;have w1:wrap .i64 ((i:Int)+1)=((i+1:Nat):Int):=Bk
  have k1:=dT (q:=(i:Int)<((os.length:Nat):Int)) (by omega);have k2:=dT (q:=(0:Int)<=(i:Int)) (by omega);rw[J8];cases hk:Array.toList s.data==Array.toList o.data with
  |true=>
   refine⟨(i:Int),by unfold inO;rw[List.any_cons,hk,Bool.true_or];exact dT (by omega),?_⟩
   simp only[A4,A3,k1,k2,nt,g,hk]
  |false=>
   obtain⟨v,h1,h2⟩:=ih (i+1) m hd' (by simp at hn;omega) (by omega)
   refine⟨v,by rw[h1];unfold inO;rw[List.any_cons,hk,Bool.false_or],?_⟩
   simp only[A4,A3,k1,k2,nt,g,hk,w1];exact h2
theorem Axr(Bq:2000<=fu){os:List ByteArray}(hl:os.length<=1000)(s:ByteArray):Ac C1 prog fu (d+2) 58 [.lst false 1 os.length (RM os),Bo s]=some ⟨[C9 (inO os s)],[]⟩:=by obtain⟨v,h1,h2⟩:=Aml (fu:=fu) (call:=Ac C1 prog fu d) (n:=os.length) (c:=RM os) (t:=s) (s:=s) hl os 0 fu rfl (by omega) (by omega);have e:Ac C1 prog fu (d+1) 94 [.lst false 1 os.length (RM os),Bo s]=some ⟨[Aw v],[]⟩:=(Wk fu d os.length (RM os) s).trans h2;refine (Tl fu (d+1) os.length (RM os) s).trans ?_;simp only[A4,A3,e];rw[h1]
end
abbrev sd0:Sd:=⟨[],0,0,0,0,false,0,[],false,0,0⟩
section
variable {fu d:Nat}
end
abbrev ZG:ByteArray:=ByteArray.mk #[101,120,97,109,112,108,101,46,99,111,109]
abbrev tiS:ByteArray:=ByteArray.mk #[69,120,97,109,112,108,101]
abbrev WZ:ByteArray:=ByteArray.mk #[104,116,116,112,115,58,47,47,101,120,97,109,112,108,101,46,99,111,109]
abbrev olS:ByteArray:=ByteArray.mk #[104,116,116,112,115,58,47,47,108,111,103,105,110,46,101,120,97,109,112,108,101,46,99,111,109]
abbrev cfW(p:WR)(sec:Int):Cf:=⟨ZG,tiS,[WZ,olS],p,sec,4,(Pd 31 4).root⟩
theorem A0d{p:WR}(h:p.dn.length<=2)(sec:Int):(cfW p sec).ok:=⟨by show ZG.size<=_;decide,by show (2:Nat)<=1000;omega,by show p.dn.length<=1000;omega⟩
abbrev A5e:WR:=⟨0,false,1,1,false,0,false,[],50⟩
def Aev(sh vf:Bool):Int:=if vf=true then (if sh=true then 13 else 5) else if sh=true then 9 else 1
def asG(seed h leaf m:Int):Aj:=match Ajr seed h leaf m with|some s=>sgB s|none=>[]
theorem Awy(seed h leaf m:Int):Cp (asG seed h leaf m):=by
 unfold asG;split
 ·exact A4e _
 ·intro x hx;cases hx
section
variable {fu d:Nat}
theorem Aer(Bq:1000<=fu)(seed h:Int):Ac C1 prog fu (d+13) 16 [Ah seed,Aw h]=some ⟨[.agg (Pd seed h).cells],[]⟩:=by refine (FG fu (d+12) seed h).trans ?_;have p:=QE (xs:=RK) (fu:=fu) (d:=d) Bq seed h;simp only[Ky.cells] at p ⊢;simp only[A4,A3,p]
theorem Ax0(n:Int):Ac C1 prog fu (d+2) 43 [.pbox (dkc [] 0),Aw n]=some ⟨[Aw 0],[dkc [] 0]⟩:=
 (Us fu (d+1) 0 [] 0 n).trans rfl
theorem A32(Bq:1000<=fu)(n h:Int)(sh:Bool):∃id,Cp id/\id.length=176/\Ac C1 prog fu (d+7) 7 [Aw n,Aw h,C9 sh]=some ⟨[.agg [Ah (wrap .u64 (1000+wrap .u64 n)),Aw h,.own 1 176 (Ae .u8 id),C9 sh]],[]⟩:=by obtain⟨r,r1,r2,r3⟩:=Ape (fu:=fu) (d:=d) (p:=pG) Bq (wrap .i64 (500+n)) (n:=176) (by omega);have r3:Ac C1 prog fu (d+6) 15 [Aw (wrap .i64 (500+n)),Aw 176]=_:=r3;refine⟨r,r1,r2,?_⟩;have L:=Al .u8 r;have t:List.take (176*1) (Ae .u8 r)=Ae .u8 r:=Ji (by omega);have c1:decide (176*1<=List.length (Ae .u8 r))=true:=dT (by omega);refine (Tu fu (d+6) n h sh).trans ?_;simp only[A4,A3,r3,c1,t]
theorem Ar9(seed h:Int)(n:Nat)(c:Ad)(sh vf:Bool):Ac C1 prog fu (d+1) 22 [.agg [Ah seed,Aw h,.lst false 1 n c,C9 sh],C9 vf]=some ⟨[Aw (Aev sh vf)],[]⟩:=by refine (Tt fu d seed h n c sh vf).trans ?_;cases vf<;>cases sh<;>rfl
end
section
variable {xs:FuncId->Option (Ad->Option A1)}(fu d:Nat)(call:Aq)
theorem Nl{p:FuncId->Option (Ad->Option A1)}(fu d:Nat)(T S:ByteArray)(Z:Nat)(Y:Ad)(Q:Int)(P:Bool)(O N:Int)(M:Bool)(L:Int)(K:Bool)(J:Nat)(I:Ad)(H G:Int)(E D:Int)(X:Nat)(W:Ad)(V:Int)(U:ByteArray)(B:Nat)(A:Ad)(z:Nat)(w:Ad)(v:Nat)(u:Ad)(Bb2:Int)(A5g:Nat)(A96:Ad)(A9m:ByteArray):Ac (CP p) prog fu (d+1) 29 [.agg [T,S,A5 1 Z Y,Q,P,O,N,M,L,K,A5 1 J I,H,Ah G,E,Ah D],A5 1 X W,.agg [V,U,A5 1 B A,A5 1 z w,A5 1 v u,Bb2,A5 1 A5g A96,A9m]]=(fun (call:Aq)=>Ax (V != 1) (Bj [(3:Int)]) (D6 (call 57 [U]) fun a b=>Ep a fun a=>Ee .i64 a fun a c=>Z7 1 c fun c e f=>Ai f fun f g=>Bv f fun f=>Ai g fun g h=>Bu g fun g=>Ai h fun h i=>Bv h fun h=>Ap i<|Dn .i64 b fun b=>Ax (b != 0) (Bj [b]) (Ax (a != 1) (Bj [(3:Int)]) (D6 (call 32 [A5 1 c e,A5 1 X W]) fun a b=>Bu a fun a=>Ap b<|Ax (!a) (Bj [(35:Int)]) (D6 (call 58 [A5 1 Z Y,f]) fun a b=>Bu a fun a=>Ap b<|Ax (!a) (Bj [(34:Int)]) (Ax g (D6 (call 58 [A5 1 Z Y,h]) fun a b=>Bu a fun a=>Ap b<|Ax (!a) (Bj [(34:Int)]) (Bj [(0:Int)])) (Bj [(0:Int)]))))))) (Ac (CP p) prog fu d):=by kernel_rfl
theorem Wq{p:FuncId->Option (Ad->Option A1)}(fu d:Nat)(P T:Int)(O N U:Int)(S:Nat)(Q:Ad)(W V:Int)(X M:Int)(Z Y:Int):Ac (CP p) prog fu (d+1) 39 [.agg [Ah P,T,O,N,Ah U,A5 1 S Q,W,Ah V],.agg [X,M,Z],Y]=(fun (call:Aq)=>D6 (call 62 [A5 1 S Q]) fun a b=>Lg 1 a fun a c=>Ap b<|Aa (D3 .i64 T 8) fun b=>(fun f:PV=>Ax (X==2) (Ax (decide (Z>=0)) (Ar (decide (0<=Z))<|Aa (Fb .u64 1 Z) fun e=>Ar (decide (a*1<=c.length))<|Bj [.agg [f,W,Ah V,Ah U,X,C9 (b != 0),Ah e,.own 2 1 [(0:Int),Z],false,Y,Y]]) (Ar (decide (a*1<=c.length))<|Bj [.agg [f,W,Ah V,Ah U,X,C9 (b != 0),Ah 0,.own 2 0 [],false,Y,Y]])) (Ax (decide (Z>=0)) (Ar (decide (0<=Z))<|Aa (Fb .u64 1 Z) fun e=>Ar (decide (a*1<=c.length))<|Bj [.agg [f,W,Ah V,Ah 0,X,C9 (b != 0),Ah e,.own 2 1 [(0:Int),Z],false,Y,Y]]) (Ar (decide (a*1<=c.length))<|Bj [.agg [f,W,Ah V,Ah 0,X,C9 (b != 0),Ah 0,.own 2 0 [],false,Y,Y]]))) (.own 1 a (c.take (a*1)))) (Ac (CP p) prog fu d):=by kernel_rfl
theorem Xa{p:FuncId->Option (Ad->Option A1)}(fu d:Nat)(T Aeq:ByteArray)(Aw1:Nat)(Afk:Ad)(S:Int)(Q:Bool)(P O:Int)(N:Bool)(M:Int)(L:Bool)(K:Nat)(J:Ad)(I Awq:Int)(Ax9 Axt:Int)(H G E:Int)(D:Nat)(B:Ad)(A:Int)(z:Nat)(w:Ad)(v:Nat)(u:Ad)(a2n:Nat)(a2:Ad)(a3n:Nat)(a3:Ad)(Z A6n:Int)(W:ByteArray)(Y:Nat)(X:Ad)(Aya:Nat)(A41:Ad)(Aw7:Nat)(A7u:Ad)(A7d:Int)(V:Nat)(U:Ad)(A6k:ByteArray):Ac (CP p) prog fu (d+1) 12 [.agg [T,Aeq,A5 1 Aw1 Afk,S,Q,P,O,N,M,L,A5 1 K J,I,Ah Awq,Ax9,Ah Axt],.agg [H,G,E,A5 3 D B,A,A5 1 z w,A5 1 v u],A5 3 a2n a2,A5 1 a3n a3,Z,.agg [A6n,W,A5 1 Y X,A5 1 Aya A41,A5 1 Aw7 A7u,A7d,A5 1 V U,A6k]]=(fun (call:Aq)=>(fun R:PV=>(fun z2:PV=>Ax (decide (Z<0)) (Bj [R,(9:Int)]) (Ax (decide (Z>1099511627776)) (Bj [R,(9:Int)]) (Gz .i64 (call 29 [.agg [T,Aeq,A5 1 Aw1 Afk,S,Q,P,O,N,M,L,A5 1 K J,I,Ah Awq,Ax9,Ah Axt],A5 1 a3n a3,z2]) fun a=>Ax (a != 0) (Bj [R,a]) (D6 (call 30 [A5 1 Y X]) fun a b=>Ep a fun a=>Ee .u64 a fun a c=>Ee .i64 c fun c e=>Ee .i64 e fun e f=>Ee .i64 f fun f g=>Ee .u64 g fun g h=>YL 1 h fun h i j=>Ee .i64 j fun j k=>Dn .u64 k fun k=>Dn .i64 b fun b=>Ax (b != 0) (Bj [R,b]) (Aa (D3 .i64 c 64) fun b=>Ax (b==0) (Bj [R,(4:Int)]) (Gz .u64 (call 31 [T]) fun b=>(fun z4:PV=>Ax (a != b) (Bj [R,(34:Int)]) (Ar (decide (0+h*1<=i.length))<|D6 (call 32 [A5 1 V U,z4]) fun b m=>Bu b fun b=>Ap m<|Ax (!b) (Bj [R,(4:Int)]) (Gz .u64 (call 34 [W]) fun b=>Gz .u64 (call 33 [A5 1 Y X,Ah b]) fun b=>(fun z3:PV=>D6 (call 35 [z3,Ah g]) fun m n=>Ep m fun m=>Ee .u64 m fun m o=>Z7 3 o fun m o q=>Z7 2 q fun q s t=>Ap t<|Qp n fun n=>(fun z1:PV=>Ar (decide (0+h*1<=i.length))<|D6 (call 36 [z2,z1,Ah b,A5 3 m o,A5 3 a2n a2,Z]) fun b m=>Ep b fun b=>Ee .i64 b fun b n=>Ee .i64 n fun n o=>Dn .i64 o fun o=>Dn .i64 m fun m=>Ax (m != 0) (Bj [R,m]) (Gz .i64 (call 38 [z3,Ah g,Z]) fun m=>Ar (decide (0+h*1<=i.length))<|Gz .i64 (call 37 [.agg [S,Q,P,O,N,M,L,A5 1 K J,I],z1,.agg [b,n,o],m]) fun m=>Ax (m != 0) (Bj [R,m]) (Ar (decide (0+h*1<=i.length))<|D6 (call 39 [z1,.agg [b,n,o],Z]) fun a b=>Ep a fun a=>YL 1 a fun a c e=>Ee .i64 e fun e f=>Ee .u64 f fun f g=>Ee .u64 g fun g h=>Ee .i64 h fun h i=>Ai i fun i j=>Bu i fun i=>Ee .u64 j fun j k=>YL 2 k fun k m n=>Ai n fun n o=>Bu n fun n=>Ee .i64 o fun o q=>Dn .i64 q fun q=>Ap b<|Ar (decide (a*1<=c.length))<|Ar (decide (k*2<=m.length))<|Bj [.agg [.own 1 a (c.take (a*1)),e,Ah f,Ah g,h,i,Ah j,.own 2 k (m.take (k*2)),n,o,q],(0:Int)]))) (.agg [Ah a,c,e,f,Ah g,z4,j,Ah k])) (.agg [H,G,E,A5 3 D B,A,A5 1 z w,A5 1 v u])))) (A5 1 h (List.take (h*1) (i.drop 0))))))))) (.agg [A6n,W,A5 1 Y X,A5 1 Aya A41,A5 1 Aw7 A7u,A7d,A5 1 V U,A6k])) (.agg [.own 1 0 [],(0:Int),Ah 0,Ah 0,(0:Int),false,Ah 0,.own 2 0 [],false,(0:Int),(0:Int)])) (Ac (CP p) prog fu d):=by kernel_rfl
end
section
variable {xs:FuncId->Option (Ad->Option A1)}(fu d:Nat)(call:Aq)
theorem Tq{p:FuncId->Option (Ad->Option A1)}(fu d:Nat)(T:Int)(S:ByteArray)(Q:Nat)(P:Ad)(Z:Nat)(Y:Ad)(X:Nat)(O:Ad)(N:Int)(M:Nat)(L:Ad)(K:ByteArray)(J I:Int)(H G E:Int)(D:Nat)(B:Ad)(W V U:Int):Ac (CP p) prog fu (d+1) 68 [.agg [T,S,A5 1 Q P,A5 1 Z Y,A5 1 X O,N,A5 1 M L,K],.agg [Ah J,I,H,G,Ah E,A5 1 D B,W,Ah V],Ah U]=(fun (call:Aq)=>(fun i:PV=>Ax (decide ((↑X:Int)>0)) (Bj [i,(4:Int)]) (D6 (call 102 [A5 1 Z Y]) fun a b=>Ep a fun a=>Ee .i64 a fun a c=>YL 1 c fun c e f=>YL 1 f fun f g h=>Ap h<|Dn .i64 b fun b=>Ax (b != 0) (Bj [i,b]) (Ar (decide (0+c*1<=e.length))<|Ar (decide (0+f*1<=g.length))<|Gz .i64 (call 103 [.agg [W,Ah V],Ah U,.agg [a,A5 1 c (List.take (c*1) (e.drop 0)),A5 1 f (List.take (f*1) (g.drop 0))]]) fun b=>Ax (b != 0) (Bj [i,b]) (Bj [.agg [(1:Int),(-1:Int),a],(0:Int)])))) (.agg [(0:Int),(0:Int),(0:Int)])) (Ac (CP p) prog fu d):=by kernel_rfl
theorem Yv{p:FuncId->Option (Ad->Option A1)}(fu d:Nat)(V:Int)(U:ByteArray)(T:Nat)(S:Ad)(Y:Nat)(Q:Ad)(X:Nat)(P:Ad)(Z:Int)(O:Nat)(N:Ad)(M:ByteArray)(L W:Int)(K J I:Int)(H:Nat)(G:Ad)(E D B:Int)(A:Nat)(z:Ad)(w:Nat)(v:Ad)(u:Int):Ac (CP p) prog fu (d+1) 36 [.agg [V,U,A5 1 T S,A5 1 Y Q,A5 1 X P,Z,A5 1 O N,M],.agg [Ah L,W,K,J,Ah I,A5 1 H G,E,Ah D],Ah B,A5 3 A z,A5 3 w v,u]=(fun (call:Aq)=>Aa (D3 .i64 W 64) fun a=>(fun i:PV=>(fun f:Option A1=>(fun g:PV=>(fun h:PV=>Ax (a==0) f (Ax (Z==0) (Ax (decide ((↑Y:Int)>0)) f (Ax (decide ((↑X:Int)>0)) f (Bj [.agg [(0:Int),(-1:Int),(-1:Int)],(0:Int)]))) (Ax (Z==1) (D6 (call 68 [g,h,Ah B]) fun a b=>Ep a fun a=>Ee .i64 a fun a c=>Ee .i64 c fun c e=>Dn .i64 e fun e=>Dn .i64 b fun b=>Bj [.agg [a,c,e],b]) (Ax (Z==2) (D6 (call 69 [g,h,Ah B,A5 3 A z,A5 3 w v,u]) fun a b=>Ep a fun a=>Ee .i64 a fun a c=>Ee .i64 c fun c e=>Dn .i64 e fun e=>Dn .i64 b fun b=>Bj [.agg [a,c,e],b]) (Bj [i,(3:Int)]))))) (.agg [Ah L,W,K,J,Ah I,A5 1 H G,E,Ah D])) (.agg [V,U,A5 1 T S,A5 1 Y Q,A5 1 X P,Z,A5 1 O N,M])) (Bj [i,(4:Int)])) (.agg [(0:Int),(0:Int),(0:Int)])) (Ac (CP p) prog fu d):=by kernel_rfl
end
def Sd.ownd(x:Sd):Ad:=[.own 1 x.id.length (Ae .u8 x.id),Aw x.ht,Ah x.root,Ah x.model,Aw x.fmt,C9 (x.sh),Ah x.used,.own 2 x.rg.length (rgC x.rg),C9 (x.sus),Aw x.since,Aw x.last]
def ZC(a:Qn)(id:Aj)(f lf now:Int):Sd:=
 ⟨id,a.kh,a.kr,bif f==2 then a.md else 0,f,D3 .i64 a.fl 8 != 0,bif decide (lf>=0) then Fb .u64 1 lf else 0,bif decide (lf>=0) then [(0,lf)] else [],false,now,now⟩
structure Att where
 f:Int
 an:Int
 lf:Int
 e:Int
def LU(b:Aj):Aj:=(b.drop 19).take 176
def Ano(c:Cf)(m:Mt)(now:Int)(r:Rq)(a:Qn)(T:Att):Sd × Int:=
 bif D3 .i64 a.fl 64==0 then (sd0,4) else
 bif a.rp != D8 9 (Ci c.rp) then (sd0,34) else
 bif !eqB r.id (LU r.ad) then (sd0,4) else
 bif T.e != 0 then (sd0,T.e) else
 bif LN c.p a T.f (stS m a.md now) != 0 then (sd0,LN c.p a T.f (stS m a.md now)) else (ZC a (LU r.ad) T.f T.lf now,0)
def Ae1(c:Cf)(m:Mt)(ch:Aj)(now:Int)(r:Rq)(T:Qn->Att):Sd × Int:=
 bif decide (now<0) then (sd0,9) else bif decide (now>1099511627776) then (sd0,9) else
 bif RR c.os 1 ch r != 0 then (sd0,RR c.os 1 ch r) else
 match Wp r.ad with|none=>(sd0,2)|some a=>Ano c m now r a (T a)
theorem Aub{b:Aj}{a:Qn}(hb:Cp b)(h:Wp b=some a)(h2:D3 .i64 a.fl 64≠0):a.idn=176/\a.id=Ae .u8 (LU b)/\(LU b).length=176/\Cp (LU b):=by
 have hB:Cp (LU b):=fun x hx=>hb x (List.mem_of_mem_drop (List.mem_of_mem_take hx));unfold Wp at h;split at h
 ·split at h
  ·rename_i q;split at h
   ·cases h;exact absurd q h2
   ·cases h
  ·cases h
 ·split at h
  ·rename_i hl;split at h
   ·cases h
   ·split at h
    ·split at h
     ·cases h;exact⟨rfl,rfl,by unfold LU;rw[List.length_take,List.length_drop];omega,hB⟩
     ·cases h
    ·cases h
  ·cases h
def lkE(m:Mt)(model:Int):En:=S5 model (m.es.map mnE)
theorem Ayo(l:List Mn):mnC l=Wf (l.map mnE):=by
 induction l with
 |nil=>rfl
 |cons x l ih=>
  show x.cells++mnC l=(mnE x).cells++Wf (l.map mnE);rw[ih];rfl
section
variable {fu d:Nat}
theorem Avq(Bq:1000<fu){m:Mt}(hm:m.ok)(model:Int):∃b,Ac C1 prog fu (d+3) 35 [.agg m.cells,Ah model]=some ⟨[.agg (lkE m model).cells,C9 b],[]⟩:=by
 obtain⟨b,h⟩:=Ans (xs:=RK) (fu:=fu) (d:=d) (es:=m.es.map mnE) (by rw[List.length_map];exact hm.n) Bq (fun e he=>by
  obtain⟨x,hx,rfl⟩:=List.mem_map.1 he;have h0:=hm.e x hx;exact⟨h0.1,ZE x.st,h0.2.1,h0.2.2⟩) m.v m.i m.x m.lf model m.n1 m.n2 m.c1 m.c2
 rw[List.length_map,<-Ayo] at h;exact⟨b,h⟩
theorem Ae8{a:Qn}{id:Aj}(hn:a.idn=id.length)(hi:a.id=Ae .u8 id)(hl:id.length<=1000000)(f an lf now:Int):
  Ac C1 prog fu (d+2) 39 [.agg a.cells,.agg [Aw f,Aw an,Aw lf],Aw now]=some ⟨[.agg (ZC a id f lf now).ownd],[]⟩:=by
 have L:=Al .u8 id;have cb:=TV (xs:=RK) (fu:=fu) (d:=d) (n:=id.length) (c:=Ae .u8 id) L hl;refine (Wq fu (d+1) a.rp a.fl a.ct a.rg a.md a.idn a.id a.kh a.kr f an lf now).trans ?_;rw[hn,hi];have c1:decide (id.length*1<=List.length (Ae .u8 id))=true:=dT (by omega);have t1:List.take (id.length*1) (Ae .u8 id)=Ae .u8 id:=Ji (by omega);unfold ZC;cases h1:f==2<;>cases h2:decide (lf>=0)
 ·simp only[A4,A3,cb,h1,h2,c1,t1,cond_true,cond_false];rfl
 ·have c2:decide ((0:Int)<=lf)=true:=h2;simp only[A4,A3,cb,h1,h2,c1,c2,t1,cond_true,cond_false];rfl
 ·simp only[A4,A3,cb,h1,h2,c1,t1,cond_true,cond_false];rfl
 ·have c2:decide ((0:Int)<=lf)=true:=h2;simp only[A4,A3,cb,h1,h2,c1,c2,t1,cond_true,cond_false];rfl
set_option maxHeartbeats 2000000 in
theorem Awj(Bq:1000400<=fu){c:Cf}(hc:c.ok)(ch:Aj){r:Rq}(hr:r.ok):Ac C1 prog fu (d+3) 29 [.agg c.cells,.lst false 1 ch.length (Ae .u8 ch),.agg r.cells]=some ⟨[Aw (RR c.os 1 ch r)],[]⟩:=by
 refine (Nl fu (d+2) c.rp c.ti c.os.length (RM c.os) c.p.vf c.p.rs c.p.ht c.p.pr c.p.sh c.p.fm c.p.od c.p.dn.length (Ae .u64 c.p.dn) c.p.op c.sec c.kh c.kr ch.length (Ae .u8 ch) r.kind r.cd r.ad.length (Ae .u8 r.ad) r.sg.length (Ae .u8 r.sg) r.cn r.cc r.fm r.id.length (Ae .u8 r.id) r.us).trans ?_;unfold RR;cases h1:r.kind != 1
 rotate_left
 ·simp only[A4,A3,h1,cond_true]
 have e:Ac C1 prog fu (d+2) 57 [Bo (r.cd)]=ID [Bo (r.cd)]:=rfl;unfold ID at e;simp only[dT (q:=r.cd.size<=9223372036854775807) (by have:=hr.cd;omega),cond_true] at e
 cases hp:Mc r.cd with
 |error ee=>
  rw[hp] at e;have e:Ac C1 prog fu (d+2) 57 [Bo (r.cd)]=some ⟨[.agg [Aw 0,.lst false 1 0 [],Bo ⟨#[]⟩,C9 false,Bo ⟨#[]⟩],Aw ee],[]⟩:=e;have z:((0:Int) != 1)=true:=rfl;cases h2:ee != 0
  ·simp only[A4,A3,h1,e,h2,z,cond_false]
  ·simp only[A4,A3,h1,e,h2,cond_true,cond_false]
 |ok v=>
  obtain⟨k,b,o,x,q⟩:=v;rw[hp] at e;have e:Ac C1 prog fu (d+2) 57 [Bo (r.cd)]=some ⟨[.agg [Aw k,.lst false 1 b.length (Ae .u8 b),Bo (Ab o),C9 x,Bo (Ab q)],Aw 0],[]⟩:=e;have z:((0:Int) != 0)=false:=rfl;have be:=Aa1 (fu:=fu) (d:=d+1) b ch;have o1:=Axr (fu:=fu) (d:=d) (by omega) hc.os (Ab o);have o2:=Axr (fu:=fu) (d:=d) (by omega) hc.os (Ab q);simp only;cases h2:k != 1
  rotate_left
  ·simp only[A4,A3,h1,e,z,h2,cond_true,cond_false]
  cases h3:eqB b ch
  ·rw[h3] at be;simp only[A4,A3,h1,e,z,h2,be,cond_true,cond_false]
  rw[h3] at be;cases h4:inO c.os (Ab o)
  ·rw[h4] at o1;simp only[A4,A3,h1,e,z,h2,be,o1,cond_true,cond_false]
  rw[h4] at o1;cases x with
  |false=>simp only[A4,A3,h1,e,z,h2,be,o1,cond_true,cond_false]
  |true=>
   cases h5:inO c.os (Ab q)
   ·rw[h5] at o2;simp only[A4,A3,h1,e,z,h2,be,o1,o2,cond_true,cond_false]
   ·rw[h5] at o2;simp only[A4,A3,h1,e,z,h2,be,o1,o2,cond_true,cond_false]
set_option maxHeartbeats 8000000 in
theorem Avj(Bq:1000400<=fu){c:Cf}(hc:c.ok){m:Mt}(hm:m.ok)(rn:Nat)(rc:Ad)(ch:Aj)(now:Int){r:Rq}(hr:r.ok)(T:Qn->Att)(hT:RR c.os 1 ch r=0->∀a,Wp r.ad=some a->D3 .i64 a.fl 64≠0->Ac C1 prog fu (d+10) 36 [.agg r.cells,.agg a.cells,Ah (Af6 r.ad (D8 11 (Ci r.cd))),.lst false 3 (lkE m a.md).na (lkE m a.md).an,.lst false 3 rn rc,Aw now]=some ⟨[.agg [Aw (T a).f,Aw (T a).an,Aw (T a).lf],Aw (T a).e],[]⟩):
  Ac C1 prog fu (d+11) 12 [.agg c.cells,.agg m.cells,.lst false 3 rn rc,.lst false 1 ch.length (Ae .u8 ch),Aw now,.agg r.cells]=some ⟨[.agg (Ae1 c m ch now r T).1.ownd,Aw (Ae1 c m ch now r T).2],[]⟩:=by
 refine (Xa fu (d+10) c.rp c.ti c.os.length (RM c.os) c.p.vf c.p.rs c.p.ht c.p.pr c.p.sh c.p.fm c.p.od c.p.dn.length (Ae .u64 c.p.dn) c.p.op c.sec c.kh c.kr m.v m.i m.x m.es.length (mnC m.es) m.lf m.n1 m.c1 m.n2 m.c2 rn rc ch.length (Ae .u8 ch) now r.kind r.cd r.ad.length (Ae .u8 r.ad) r.sg.length (Ae .u8 r.sg) r.cn r.cc r.fm r.id.length (Ae .u8 r.id) r.us).trans ?_;unfold Ae1;cases n1:decide (now<0)
 rotate_left
 ·simp only[A4,A3,n1,cond_true];rfl
 cases n2:decide (now>1099511627776)
 rotate_left
 ·simp only[A4,A3,n1,n2,cond_true,cond_false];rfl
 have cl:=Awj (fu:=fu) (d:=d+7) Bq hc ch hr;simp only[Cf.cells,Rq.cells] at cl;cases h1:RR c.os 1 ch r != 0
 rotate_left
 ·simp only[A4,A3,n1,n2,cl,h1,cond_true,cond_false];rfl
 have da:=Avl (fu:=fu) (d:=d+6) (by omega) hr.adB (by have:=hr.ad;omega)
 have z0:((0:Int) != 0)=false:=rfl;have z2:((2:Int) != 0)=true:=rfl;cases ha:Wp r.ad with
 |none=>
  rw[ha] at da;simp only[Aot,Qn.owned] at da;simp only[A4,A3,n1,n2,cl,h1,da,z2,cond_true,cond_false];rfl
 |some a=>
  rw[ha] at da;simp only[Aot,Qn.owned] at da;simp only;unfold Ano;cases h3:D3 .i64 a.fl 64==0
  rotate_left
  ·simp only[A4,A3,n1,n2,cl,h1,da,z0,h3,cond_true,cond_false];rfl
  have f64:D3 .i64 a.fl 64≠0:=by simpa using h3
  obtain⟨i1,i2,i3,i4⟩:=Aub hr.adB ha f64;have at1:=hT (by simpa using h1) a ha f64;have sto:=Ae8 (fu:=fu) (d:=d+8) (a:=a) (id:=LU r.ad) (by rw[i1,i3]) i2 (by omega) (T a).f (T a).an (T a).lf now;have rgs:=Ayi (fu:=fu) (d:=d+6) c.p (by have:=hc.dn;simp only[maxLen];omega) (by have:=hc.dn;omega) a (T a).f (T a).an (T a).lf (stS m a.md now)
  simp only[Rq.cells,Qn.cells,WR.cells] at at1 sto rgs;rw[i1,i2] at da at1 sto rgs;have rp:=A0j (fu:=fu) (d:=d+4) (s:=c.rp) (by have:=hc.rp;omega) Bq
  cases h4:a.rp != D8 9 (Ci c.rp)
  rotate_left
  ·simp only[A4,A3,n1,n2,cl,h1,da,z0,h3,rp,h4,cond_true,cond_false];rfl
  have be:=Aa1 (fu:=fu) (d:=d+9) r.id (LU r.ad);rw[i3] at be;have Li:=Al .u8 (LU r.ad);have k1:decide (0+176*1<=List.length (Ae .u8 (LU r.ad)))=true:=dT (by omega);have t1:List.take (176*1) (List.drop 0 (Ae .u8 (LU r.ad)))=Ae .u8 (LU r.ad):=Ji (by rw[Ou];omega)
  cases h2:eqB r.id (LU r.ad)
  ·rw[h2] at be;simp only[A4,A3,n1,n2,cl,h1,da,z0,h3,rp,h4,k1,t1,be,cond_true,cond_false];rfl
  rw[h2] at be;have hh:=An9 (fu:=fu) (d:=d+4) (s:=r.cd) (by have:=hr.cd;omega) Bq
  have hw:=Auy (fu:=fu) (d:=d+4) hr.adB (by have:=hr.ad;omega) Bq (D8 11 (Ci r.cd))
  obtain⟨lb,lk⟩:=Avq (fu:=fu) (d:=d+7) (by omega) hm a.md;simp only[Mt.cells,En.cells] at lk;cases h5:(T a).e != 0
  rotate_left
  ·simp only[A4,A3,n1,n2,cl,h1,da,z0,h3,rp,h4,k1,t1,be,hh,hw,lk,at1,h5,cond_true,cond_false];rfl
  have st:=Aol (fu:=fu) (d:=d+9) hm a.md now;simp only[Mt.cells] at st;obtain⟨G,hG⟩:∃G,LN c.p a (T a).f (stS m a.md now)=G:=⟨_,rfl⟩
  rw[hG] at rgs ⊢;cases h7:G != 0
  rotate_left
  ·simp only[A4,A3,n1,n2,cl,h1,da,z0,h3,rp,h4,k1,t1,be,hh,hw,lk,at1,h5,st,rgs,h7,cond_true,cond_false];rfl
  obtain⟨S,hS⟩:∃S,ZC a (LU r.ad) (T a).f (T a).lf now=S:=⟨_,rfl⟩
  have S1:S.id.length=176:=by rw[<-hS];exact i3
  rw[hS] at sto ⊢;simp only[Sd.ownd] at sto ⊢;have Ls:=Al .u8 S.id;have Lr:=ZE S.rg;have k2:decide (S.id.length*1<=List.length (Ae .u8 S.id))=true:=dT (by omega);have t2:List.take (S.id.length*1) (Ae .u8 S.id)=Ae .u8 S.id:=Ji (by omega);have k3:decide (S.rg.length*2<=List.length (rgC S.rg))=true:=dT (by omega);have t3:List.take (S.rg.length*2) (rgC S.rg)=rgC S.rg:=Ji (by omega);simp only[A4,A3,n1,n2,cl,h1,da,z0,h3,rp,h4,k1,t1,be,hh,hw,lk,at1,h5,st,rgs,h7,sto,k2,t2,k3,t3,cond_true,cond_false]
end
def Ap0(r:Rq)(a:Qn)(w:Int):Att:=
 bif decide ((r.cn:Int)>0) then ⟨0,0,0,4⟩ else match sgD r.sg with|none=>⟨0,0,0,2⟩|some g=>bif SI ⟨a.kh,a.kr⟩ w g != 0 then ⟨0,0,0,SI ⟨a.kh,a.kr⟩ w g⟩ else ⟨1,-1,g.leaf,0⟩
def Abn(r:Rq)(a:Qn)(w:Int):Att:=
 bif r.fm==0 then (bif decide ((r.sg.length:Int)>0) then ⟨0,0,0,4⟩ else bif decide ((r.cn:Int)>0) then ⟨0,0,0,4⟩ else ⟨0,-1,-1,0⟩)
 else bif r.fm==1 then Ap0 r a w else ⟨0,0,0,3⟩
def Att.cells(T:Att):Ad:=[Aw T.f,Aw T.an,Aw T.lf]
def R7(rp fl ct root:Int)(id:Aj):Aj:=Bp rp++[fl,ct,0]++Bp 3++id++Vw ⟨2,root⟩
abbrev CV(fl:Int):Prop:=fl=65\/fl=69\/fl=73\/fl=77
abbrev Ap8(rp fl ct root:Int)(id:Aj):Qn:=⟨rp,fl,ct,0,3,176,Ae .u8 id,2,root⟩
theorem Ajf(k:Ky):(Vw k).length=9:=by unfold Vw;rw[On,B5]
theorem An4{rp fl ct root:Int}{id:Aj}(hf:CV fl)(hc:ct=0\/ct=1):vE (Ap8 rp fl ct root id)=0:=by rcases hf with rfl|rfl|rfl|rfl<;>rcases hc with rfl|rfl<;>kernel_rfl
theorem Ank{fl:Int}(hf:CV fl):D3 .i64 fl 64=64:=by rcases hf with rfl|rfl|rfl|rfl<;>decide
theorem Arc{rp fl ct root:Int}{id:Aj}(hf:CV fl)(hc:ct=0\/ct=1)(hib:Cp id):Cp (R7 rp fl ct root id):=by refine Z0 (Z0 (Z0 (Z0 (Vz _) ?_) (Vz _)) hib) (fun x hx=>A0l x hx);intro x hx;simp only[List.mem_cons,List.not_mem_nil,or_false] at hx;unfold CV at hf;omega
theorem OS{rp fl ct root:Int}{id:Aj}(GU:id.length=176):(R7 rp fl ct root id).length=204:=by simp only[R7,Xk,B5,GU,Ajf,On,LP]
theorem Ao9{rp fl ct root:Int}{id:Aj}(hf:CV fl)(hc:ct=0\/ct=1)(GU:id.length=176)(hrp:isU rp)(hrt:isU root):Wp (R7 rp fl ct root id)=some (Ap8 rp fl ct root id)/\LU (R7 rp fl ct root id)=id:=by
 have e:R7 rp fl ct root id=Bp rp++([fl,ct,0]++(Bp 3++(id++Vw ⟨2,root⟩))):=by unfold R7;simp only[Zzv]
 have l8:=B5 rp;have l83:=B5 3
 have g (k:Nat) (hk:k<3):(R7 rp fl ct root id).getD (8+k) 0=[fl,ct,0].getD k 0:=by
  rw[e,List.getD_eq_getElem?_getD,List.getElem?_append_right (by omega),l8,List.getElem?_append_left (by simp;omega),List.getD_eq_getElem?_getD]
  congr 2
  omega
 have g8:(R7 rp fl ct root id).getD 8 0=fl:=g 0 (by omega);have g9:(R7 rp fl ct root id).getD 9 0=ct:=g 1 (by omega);have g10:(R7 rp fl ct root id).getD 10 0=0:=g 2 (by omega);have t8:(R7 rp fl ct root id).take 8=Bp rp:=by rw[e];exact List.take_left' l8
 have d11:(R7 rp fl ct root id).drop 11=Bp 3++(id++Vw ⟨2,root⟩):=by
  rw[e,<-Zzv];exact List.drop_left' (by rw[Xk,l8];rfl)
 have d19:(R7 rp fl ct root id).drop 19=id++Vw ⟨2,root⟩:=by
  rw[show (19:Nat)=11+8 from rfl,<-List.drop_drop,d11];exact List.drop_left' l83
 have d195:(R7 rp fl ct root id).drop 195=Vw ⟨2,root⟩:=by
  rw[show (195:Nat)=19+176 from rfl,<-List.drop_drop,d19];exact List.drop_left' GU
 have k0:=Aks (k:=⟨2,root⟩) (by decide:D2 2=false) hrt;have i1:LU (R7 rp fl ct root id)=id:=by unfold LU;rw[d19];exact List.take_left' GU
 refine⟨?_,i1⟩
 have ak:adK (R7 rp fl ct root id) ⟨2,root⟩=Ap8 rp fl ct root id:=by
  unfold adK;unfold LU at i1;rw[g8,g9,g10,t8,d11,i1,List.take_left' l83,HI hrp.1 hrp.2,HI (by decide) (by decide)]
 rw[FF (by rw[g8,Ank hf];decide),Cy (OS GU),d195,k0]
 simp only[ak,An4 hf hc,if_true]
section
variable {fu d:Nat}
set_option maxHeartbeats 1000000 in
theorem Aoe(Bq:1000400<=fu){r:Rq}(hr:r.ok)(a:Qn)(w:Int):Ac C1 prog fu (d+9) 68 [.agg r.cells,.agg a.cells,Ah w]=some ⟨[.agg (Ap0 r a w).cells,Aw (Ap0 r a w).e],[]⟩:=by
 refine (Tq fu (d+8) r.kind r.cd r.ad.length (Ae .u8 r.ad) r.sg.length (Ae .u8 r.sg) r.cn r.cc r.fm r.id.length (Ae .u8 r.id) r.us a.rp a.fl a.ct a.rg a.md a.idn a.id a.kh a.kr w).trans ?_;unfold Ap0;cases n1:decide ((r.cn:Int)>0)
 rotate_left
 ·simp only[A4,A3,n1,cond_true];rfl
 have ds:=Alv (xs:=RK) (fu:=fu) (d:=d+6) (by omega) hr.sgB;have z0:((0:Int) != 0)=false:=rfl;have z2:((2:Int) != 0)=true:=rfl;cases hg:sgD r.sg with
 |none=>
  rw[hg] at ds;simp only[Ah9,Sg.owned] at ds;simp only[A4,A3,n1,ds,z2,cond_false];rfl
 |some g=>
  rw[hg] at ds;simp only[Ah9,Sg.owned] at ds;have vf:=TG (xs:=RK) (fu:=fu) (d:=d+0) (by omega) ⟨a.kh,a.kr⟩ w g;simp only[Ky.cells,Sg.cells] at vf;have Lc:=Al .u64 g.chains;have Lp:=Al .u64 g.path;have k1:decide (0+g.chains.length*1<=List.length (Ae .u64 g.chains))=true:=dT (by omega);have k2:decide (0+g.path.length*1<=List.length (Ae .u64 g.path))=true:=dT (by omega);have t1:List.take (g.chains.length*1) (List.drop 0 (Ae .u64 g.chains))=Ae .u64 g.chains:=Ji (by rw[Ou];omega)
  have t2:List.take (g.path.length*1) (List.drop 0 (Ae .u64 g.path))=Ae .u64 g.path:=Ji (by rw[Ou];omega)
  simp only;obtain⟨W,hW⟩:∃W,SI ⟨a.kh,a.kr⟩ w g=W:=⟨_,rfl⟩
  rw[hW] at vf ⊢;cases h5:W != 0
  ·simp only[A4,A3,n1,ds,z0,k1,k2,t1,t2,vf,h5,cond_false];rfl
  ·simp only[A4,A3,n1,ds,z0,k1,k2,t1,t2,vf,h5,cond_true,cond_false];rfl
theorem Atj(Bq:1000400<=fu){r:Rq}(hr:r.ok)(h2:(r.fm==2)=false){a:Qn}(h64:(D3 .i64 a.fl 64==0)=false)(w:Int)(n rn:Nat)(c rc:Ad)(now:Int):Ac C1 prog fu (d+10) 36 [.agg r.cells,.agg a.cells,Ah w,.lst false 3 n c,.lst false 3 rn rc,Aw now]=some ⟨[.agg (Abn r a w).cells,Aw (Abn r a w).e],[]⟩:=by
 have sf:=Aoe (fu:=fu) (d:=d) Bq hr a w;refine (Yv fu (d+9) r.kind r.cd r.ad.length (Ae .u8 r.ad) r.sg.length (Ae .u8 r.sg) r.cn r.cc r.fm r.id.length (Ae .u8 r.id) r.us a.rp a.fl a.ct a.rg a.md a.idn a.id a.kh a.kr w n c rn rc now).trans ?_;simp only[Rq.cells,Qn.cells,Att.cells] at sf ⊢;unfold Abn;cases h0:r.fm==0
 rotate_left
 ·cases n1:decide ((r.sg.length:Int)>0)
  rotate_left
  ·simp only[A4,A3,h64,h0,n1,cond_true]
  cases n2:decide ((r.cn:Int)>0)<;>simp only[A4,A3,h64,h0,n1,n2,cond_true,cond_false]
 cases h1:r.fm==1
 ·simp only[A4,A3,h64,h0,h1,h2,cond_true,cond_false]
 ·simp only[A4,A3,h64,h0,h1,sf,cond_true,cond_false]
set_option maxHeartbeats 2000000 in
theorem Awl(Bq:1000<=fu)(rp root:Int){fl ct:Int}(hf:CV fl)(hct:ct=0\/ct=1){id:Aj}(hib:Cp id)(GU:id.length=176):Ac C1 prog fu (d+4) 23 [.agg [Ah rp,Aw fl,Aw ct,Aw 0,Ah 3,.lst false 1 176 (Ae .u8 id),Aw 2,Ah root]]=some ⟨[.own 1 204 (Ae .u8 (R7 rp fl ct root id)),Aw 0],[]⟩:=by
 refine (R9 fu (d+3) rp fl ct 0 3 176 (Ae .u8 id) 2 root).trans ?_;have vd:=Amo (fu:=fu) (d:=d) Bq (Ap8 rp fl ct root id);rw[An4 hf hct] at vd;simp only[Qn.cells] at vd;have e00:((0:Int) != 0)=false:=rfl;have ek:=QM (xs:=RK) (fu:=fu) (d:=d+1) Bq ⟨2,root⟩;rw[Bl (show ¬D2 2=true by decide)] at ek;simp only[Ky.cells] at ek;have o1:=Apm (xs:=RK) (fu:=fu) (d:=d+2) Bq rp;have o2:=Apm (xs:=RK) (fu:=fu) (d:=d+2) Bq 3;have f3:(D3 .i64 fl 64 != 0)=true:=by rw[Ank hf];rfl
 have u1:wrap .u8 fl=fl:=Nw (by unfold CV at hf;omega) (by unfold CV at hf;omega)
 have u2:wrap .u8 0=0:=by decide
 have u3:wrap .u8 ct=ct:=Nw (by omega) (by omega);have l1:(Ae .u8 (Bp rp)).length=8:=by rw[Al,B5]
 have l2:(Ae .u8 (Bp 3)).length=8:=by rw[Al,B5]
 have l3:(Ae .u8 id).length=176:=by rw[Al,GU]
 have l4:(Ae .u8 (Vw ⟨2,root⟩)).length=9:=by rw[Al,Ajf]
 have t1:List.take 8 (Ae .u8 (Bp rp))=Ae .u8 (Bp rp):=Ji (by omega);have t2:List.take 8 (Ae .u8 (Bp 3))=Ae .u8 (Bp 3):=Ji (by omega);have t4:List.take 9 (Ae .u8 (Vw ⟨2,root⟩))=Ae .u8 (Vw ⟨2,root⟩):=Ji (by omega);have E:Ae .u8 (R7 rp fl ct root id)=Ae .u8 (Bp rp)++[.sc (.int .u8 fl),.sc (.int .u8 ct),.sc (.int .u8 0)]++Ae .u8 (Bp 3)++Ae .u8 id++Ae .u8 (Vw ⟨2,root⟩):=by simp[R7,Ae,List.flatMap_append]
 rw[E];clear hf hct E;generalize Ae .u8 (Bp rp)=x1 at *
 generalize Ae .u8 (Bp 3)=x2 at *
 generalize Ae .u8 id=x3 at *
 generalize Ae .u8 (Vw ⟨2,root⟩)=x4 at *
 have T1:List.take 11 (x1++[PV.sc (.int .u8 fl),.sc (.int .u8 ct),.sc (.int .u8 0)])=x1++[PV.sc (.int .u8 fl),.sc (.int .u8 ct),.sc (.int .u8 0)]:=Ji (by simp;omega)
 have T2:List.take 19 (x1++[PV.sc (.int .u8 fl),.sc (.int .u8 ct),.sc (.int .u8 0)]++x2)=x1++[PV.sc (.int .u8 fl),.sc (.int .u8 ct),.sc (.int .u8 0)]++x2:=Ji (by simp;omega)
 have T3:List.take 195 (x1++[PV.sc (.int .u8 fl),.sc (.int .u8 ct),.sc (.int .u8 0)]++x2++x3)=x1++[PV.sc (.int .u8 fl),.sc (.int .u8 ct),.sc (.int .u8 0)]++x2++x3:=Ji (by simp;omega)
 have T4:List.take 204 (x1++[PV.sc (.int .u8 fl),.sc (.int .u8 ct),.sc (.int .u8 0)]++x2++x3++x4)=x1++[PV.sc (.int .u8 fl),.sc (.int .u8 ct),.sc (.int .u8 0)]++x2++x3++x4:=Ji (by simp;omega)
 have L1:(x1++[PV.sc (.int .u8 fl),.sc (.int .u8 ct),.sc (.int .u8 0)]).length=11:=by simp;omega
 have L2:(x1++[PV.sc (.int .u8 fl),.sc (.int .u8 ct),.sc (.int .u8 0)]++x2).length=19:=by simp;omega
 have L3:(x1++[PV.sc (.int .u8 fl),.sc (.int .u8 ct),.sc (.int .u8 0)]++x2++x3).length=195:=by simp;omega
 have L4:(x1++[PV.sc (.int .u8 fl),.sc (.int .u8 ct),.sc (.int .u8 0)]++x2++x3++x4).length=204:=by simp;omega
 repeat(with_reducible(first|apply Ba|apply A0|apply A8|apply US|apply Kv|apply Az|apply A9|apply Ix);· first|constructor|(simp(disch:=omega)only[I8,vd,e00,o1,u1,u2,u3,l1,t1,J6,Nat.reduceAdd,Nat.reduceMul,f3,ek,o2,Ig,Ou,l2,t2,L1,T1,L2,T2,l3,L3,T3,l4,t4,L4,T4]<;>first|constructor|omega)|omega)
 try simp(disch:=omega)only[Aa,vd,e00,o1,u1,u2,u3,l1,t1,J6,Nat.reduceAdd,Nat.reduceMul,f3,ek,o2,Ig,Ou,l2,t2,L1,T1,L2,T2,l3,L3,T3,l4,t4,L4,T4]
 all_goals rfl
end
section
variable {xs:FuncId->Option (Ad->Option A1)}(fu d:Nat)(call:Aq)
theorem Qd{p:FuncId->Option (Ad->Option A1)}(fu d:Nat)(W V:Int)(Y:Nat)(X:Ad)(T:Bool)(S Q:ByteArray)(P:Nat)(O:Ad)(Z:Int)(N:Bool)(U:Int):Ac (CP p) prog fu (d+1) 11 [.agg [Ah W,V,A5 1 Y X,T],S,Q,A5 1 P O,Z,N,U]=(fun (call:Aq)=>D6 (call 20 [.agg [(1:Int),A5 1 P O,Q,false,Bo ⟨#[]⟩]]) fun a b=>Bv a fun a=>Dn .i64 b fun b=>Gz .u64 (call 21 [S]) fun b=>Gz .i64 (call 22 [.agg [Ah W,V,A5 1 Y X,T],N]) fun c=>Aa (CQ .i64 c 64) fun c=>D6 (call 16 [Ah W,V]) fun e f=>Ep e fun e=>Ee .i64 e fun e g=>Dn .u64 g fun g=>Ap f<|Ax (Z==1) (D6 (call 23 [.agg [Ah b,c,(1:Int),(0:Int),Ah 3,A5 1 Y X,e,Ah g]]) fun b c=>Lg 1 b fun b e=>Dn .i64 c fun c=>Gz .u64 (call 25 [a]) fun c=>(fun m:PV=>Ar (decide (0+b*1<=e.length))<|Gz .u64 (call 24 [m,Ah c]) fun c=>Ax (Z==1) (D6 (call 26 [Ah W,V,(0:Int),Ah c]) fun c f=>Ep c fun c=>Ee .i64 c fun c g=>YL 1 g fun g h i=>YL 1 i fun i j k=>Ap k<|Dn .i64 f fun f=>Ar (decide (0+g*1<=h.length))<|Ar (decide (0+i*1<=j.length))<|D6 (call 27 [.agg [c,A5 1 g (List.take (g*1) (h.drop 0)),A5 1 i (List.take (i*1) (j.drop 0))]]) fun c f=>Lg 1 c fun c g=>Dn .i64 f fun f=>Ar (decide (0+b*1<=e.length))<|Ar (decide (0+c*1<=g.length))<|Bj [.agg [(1:Int),a,m,A5 1 c (List.take (c*1) (g.drop 0)),A5 1 0 [],Z,A5 1 Y X,Bo ⟨#[]⟩]]) (Ax (Z==2) (D6 (call 26 [Ah 33,(4:Int),U,Ah c]) fun c f=>Ep c fun c=>Ee .i64 c fun c g=>YL 1 g fun g h i=>YL 1 i fun i j k=>Ap k<|Dn .i64 f fun f=>Ar (decide (0+g*1<=h.length))<|Ar (decide (0+i*1<=j.length))<|D6 (call 27 [.agg [c,A5 1 g (List.take (g*1) (h.drop 0)),A5 1 i (List.take (i*1) (j.drop 0))]]) fun c f=>Lg 1 c fun c g=>Dn .i64 f fun f=>D6 (call 28 []) fun f h=>Lg 1 f fun f i=>Ap h<|Ar (decide (0+b*1<=e.length))<|Ar (decide (0+c*1<=g.length))<|Ar (decide (0+f*1<=i.length))<|Bj [.agg [(1:Int),a,m,A5 1 c (List.take (c*1) (g.drop 0)),A5 1 f (List.take (f*1) (i.drop 0)),Z,A5 1 Y X,Bo ⟨#[]⟩]]) (Ar (decide (0+b*1<=e.length))<|Bj [.agg [(1:Int),a,m,A5 1 0 [],A5 1 0 [],Z,A5 1 Y X,Bo ⟨#[]⟩]]))) (A5 1 b (List.take (b*1) (e.drop 0)))) (D6 (call 23 [.agg [Ah b,c,(0:Int),(0:Int),Ah 3,A5 1 Y X,e,Ah g]]) fun b c=>Lg 1 b fun b e=>Dn .i64 c fun c=>Gz .u64 (call 25 [a]) fun c=>(fun n:PV=>Ar (decide (0+b*1<=e.length))<|Gz .u64 (call 24 [n,Ah c]) fun c=>Ax (Z==1) (D6 (call 26 [Ah W,V,(0:Int),Ah c]) fun c f=>Ep c fun c=>Ee .i64 c fun c g=>YL 1 g fun g h i=>YL 1 i fun i j k=>Ap k<|Dn .i64 f fun f=>Ar (decide (0+g*1<=h.length))<|Ar (decide (0+i*1<=j.length))<|D6 (call 27 [.agg [c,A5 1 g (List.take (g*1) (h.drop 0)),A5 1 i (List.take (i*1) (j.drop 0))]]) fun c f=>Lg 1 c fun c g=>Dn .i64 f fun f=>Ar (decide (0+b*1<=e.length))<|Ar (decide (0+c*1<=g.length))<|Bj [.agg [(1:Int),a,n,A5 1 c (List.take (c*1) (g.drop 0)),A5 1 0 [],Z,A5 1 Y X,Bo ⟨#[]⟩]]) (Ax (Z==2) (D6 (call 26 [Ah 33,(4:Int),U,Ah c]) fun c f=>Ep c fun c=>Ee .i64 c fun c g=>YL 1 g fun g h i=>YL 1 i fun i j k=>Ap k<|Dn .i64 f fun f=>Ar (decide (0+g*1<=h.length))<|Ar (decide (0+i*1<=j.length))<|D6 (call 27 [.agg [c,A5 1 g (List.take (g*1) (h.drop 0)),A5 1 i (List.take (i*1) (j.drop 0))]]) fun c f=>Lg 1 c fun c g=>Dn .i64 f fun f=>D6 (call 28 []) fun f h=>Lg 1 f fun f i=>Ap h<|Ar (decide (0+b*1<=e.length))<|Ar (decide (0+c*1<=g.length))<|Ar (decide (0+f*1<=i.length))<|Bj [.agg [(1:Int),a,n,A5 1 c (List.take (c*1) (g.drop 0)),A5 1 f (List.take (f*1) (i.drop 0)),Z,A5 1 Y X,Bo ⟨#[]⟩]]) (Ar (decide (0+b*1<=e.length))<|Bj [.agg [(1:Int),a,n,A5 1 0 [],A5 1 0 [],Z,A5 1 Y X,Bo ⟨#[]⟩]]))) (A5 1 b (List.take (b*1) (e.drop 0))))) (Ac (CP p) prog fu d):=by kernel_rfl
end
def rgT(ch o:Aj):ByteArray:=Ab (match LM 1 ch o [] false with | .ok s=>s | .error _=>[])
def PU(sh vf:Bool):Int:=CQ .i64 (Aev sh vf) 64
def ctF(fm:Int):Int:=bif fm==1 then 1 else 0
def ZY(seed:Int)(id:Aj)(fl fm:Int):Aj:=R7 (D8 9 (Ci ZG)) fl (ctF fm) (Pd seed 2).root id
def rgW(b:Aj)(t:ByteArray):Int:=Af6 b (D8 11 (Ci t))
def rgG(seed fm w:Int):Aj:=bif fm==1 then asG seed 2 0 w else bif fm==2 then asG 33 4 0 w else []
def TX(seed:Int)(id:Aj)(fl fm:Int)(o ch:Aj)(cc:PV):Rq:=
 ⟨1,rgT ch o,ZY seed id fl fm,rgG seed fm (rgW (ZY seed id fl fm) (rgT ch o)),bif fm==2 then 1 else 0,bif fm==2 then [cc] else [],fm,id,ByteArray.mk #[]⟩
theorem Ah0(sh vf:Bool):CV (PU sh vf):=by cases sh<;>cases vf<;>decide
theorem ZI(fm:Int):ctF fm=0\/ctF fm=1:=by unfold ctF;cases fm==1<;>simp
theorem Abx{ch o:Aj}(ho:o.length<=50000):(rgT ch o).size<=60000:=by
 unfold rgT;rw[Ag];cases h:LM 1 ch o [] false with
 |error e=>simp
 |ok s=>
  simp only;unfold LM at h;have ty:tyS 1=some tyC:=rfl;rw[ty] at h;simp only at h;split at h
  ·cases h
  split at h
  ·cases h
  simp only[if_true] at h;cases h;have hel:=MI ch;rename_i hc _;simp only[fmH,LY,RF,fA3,fA4,tyC,Xk,On,LP];omega
theorem Ali{ch o:Aj}(hc:Cp ch)(h1:1<=ch.length)(h2:ch.length<=64)(hol:o.length<=100)(hO:Gd o=0):Mc (rgT ch o)=.ok (1,ch,o,false,[]):=by
 have hf:LM 1 ch o [] false=.ok (fmH tyC ch o++fA4):=by
  unfold LM;have ty:tyS 1=some tyC:=rfl;rw[ty];simp only;rw[Bl (by omega),Bl (by simp[hO])];rfl
 have hl:(fmH tyC ch o++fA4).length<=1000:=by
  have hel:=MI ch;simp only[fmH,LY,RF,fA3,fA4,tyC,Xk,On,LP];omega
 have b:=Atu (w:=[]) hc hf (by rfl) (by simp only[NK,List.append_nil];omega)
 simp only[NK,List.append_nil] at b;unfold rgT;rw[hf];exact b
theorem A65(seed fm w:Int):Cp (rgG seed fm w):=by
 unfold rgG;cases fm==1
 ·cases fm==2
  ·exact fun x hx=>nomatch hx
  ·exact Awy 33 4 0 w
 ·exact Awy seed 2 0 w
theorem A0n{seed:Int}{id:Aj}(hib:Cp id)(GU:id.length=176){fl:Int}(hf:CV fl)(fm:Int){o:Aj}(ho:o.length<=50000)(ch:Aj)(cc:PV):(TX seed id fl fm o ch cc).ok:=
 ⟨by have:=Abx (ch:=ch) ho;show (rgT ch o).size<=_;omega,Arc hf (ZI fm) hib,by show (R7 _ _ _ _ id).length<=_;rw[OS GU];omega,A65 _ _ _⟩
section
variable {fu d:Nat}
theorem Ai2(Bq:1000400<=fu){seed h:Int}(h1:D2 h=false)(h2:J9 0 h=false)(w:Int):∃s:Sg,asG seed h 0 w=sgB s /\
  Ac C1 prog fu (d+13) 26 [Ah seed,Aw h,Aw 0,Ah w]=some ⟨[.agg [Aw s.leaf,.own 1 s.chains.length (Ae .u64 s.chains),.own 1 s.path.length (Ae .u64 s.path)],Aw 0],[]⟩ /\
  Ac C1 prog fu (d+13) 27 [.agg [Aw s.leaf,.lst false 1 s.chains.length (Ae .u64 s.chains),.lst false 1 s.path.length (Ae .u64 s.path)]]=some ⟨[.own 1 (sgB s).length (Ae .u8 (sgB s)),Aw 0],[]⟩:=by
 obtain⟨s,e,_,s3,s4,s5,_⟩:=Ahn (seed:=seed) (m:=w) h1 h2;have sg:=Ac0 (xs:=RK) (fu:=fu) (d:=d+1) (by omega) seed h 0 w;rw[e] at sg;simp only[YB,Sg.owned] at sg;have hb:=Ko h1;have es:=Aem (xs:=RK) (fu:=fu) (d:=d+11) (by omega) s (by omega);rw[s5,s3,h1,h2,s4,Bl (by simp),Bl (by simp),Bl (by simp)] at es;simp only[Sg.cells] at es;refine⟨s,by unfold asG;rw[e],sg,?_⟩
 rw[s3,s4] at *
 exact es
set_option maxHeartbeats 4000000 in
theorem Awp(Bq:1000400<=fu){seed:Int}{id ch o:Aj}(hib:Cp id)(GU:id.length=176)(AO:Cp ch)(hc:ch.length<=50000)(hoB:Cp o)(ho:o.length<=50000)(sh vf:Bool){fm:Int}(hfm:fm=0\/fm=1\/fm=2)(cc:PV)(hch:fm=2->Ac C1 prog fu (d+13) 28 []=some ⟨[.own 1 1 [cc]],[]⟩):
  Ac C1 prog fu (d+14) 11 [.agg [Ah seed,Aw 2,.lst false 1 176 (Ae .u8 id),C9 sh],Bo ZG,Bo (Ab o),.lst false 1 ch.length (Ae .u8 ch),Aw fm,C9 vf,Aw 0]=some ⟨[.agg (TX seed id (PU sh vf) fm o ch cc).cells],[]⟩:=by
 have fm1:Ac C1 prog fu (d+13) 20 [cdA 1 ch o [] false]=some (Atm (LM 1 ch o [] false)):=Akp (fu:=fu) (d:=d+7) (p:=pG) AO hoB (fun x hx=>nomatch hx) (by omega) (by omega) (by simp) (by omega) (by omega) (by omega) (by simp;omega)
 obtain⟨T,hT⟩:∃T,rgT ch o=T:=⟨_,rfl⟩
 obtain⟨fe,fm1⟩:∃fe,Ac C1 prog fu (d+13) 20 [.agg [Aw 1,.lst false 1 ch.length (Ae .u8 ch),Bo (Ab o),C9 false,Bo ⟨#[]⟩]]=some ⟨[Bo T,Aw fe],[]⟩:=by
  unfold rgT at hT;cases hq:LM 1 ch o [] false with
  |ok s=>rw[hq] at fm1 hT;exact⟨0,by rw[<-hT];exact fm1⟩
  |error e=>rw[hq] at fm1 hT;exact⟨e,by rw[<-hT];exact fm1⟩
 have hTs:T.size<=60000:=by rw[<-hT];exact Abx ho
 have hr:=Ayv (fu:=fu) (d:=d+8) (s:=ZG) (by decide) Bq;have fl:=Ar9 (fu:=fu) (d:=d+12) seed 2 176 (Ae .u8 id) sh vf;have ky:=Aer (fu:=fu) (d:=d) (by omega) seed 2;have k2:=YS (seed:=seed) (h:=2) (by decide);simp only[Ky.cells] at ky;rw[k2] at ky;have en:=Awl (fu:=fu) (d:=d+9) (by omega) (D8 9 (Ci ZG)) (Pd seed 2).root (Ah0 sh vf) (ZI fm) hib GU;have b1:Cp (ZY seed id (PU sh vf) fm):=Arc (Ah0 sh vf) (ZI fm) hib;have b2:(ZY seed id (PU sh vf) fm).length=204:=OS GU;obtain⟨W,hW⟩:∃W,rgW (ZY seed id (PU sh vf) fm) T=W:=⟨_,rfl⟩
 have Axo:(TX seed id (PU sh vf) fm o ch cc).cells=[Aw 1,Bo T,.lst false 1 204 (Ae .u8 (ZY seed id (PU sh vf) fm)),.lst false 1 (rgG seed fm W).length (Ae .u8 (rgG seed fm W)),.lst false 1 (bif fm==2 then 1 else 0) (bif fm==2 then [cc] else []),Aw fm,.lst false 1 176 (Ae .u8 id),Bo ⟨#[]⟩]:=by
  unfold TX Rq.cells;simp only[hT,hW,b2,GU]
 rw[Axo];clear Axo hT;change Ac C1 prog fu (d+9+4) 23 _=some ⟨[.own 1 204 (Ae .u8 (ZY seed id (PU sh vf) fm)),_],_⟩ at en;have io:CQ .i64 (Aev sh vf) 64=PU sh vf:=rfl;generalize PU sh vf=FL at *
 unfold rgW at hW;generalize ZY seed id FL fm=bs at *
 have hd:=Amf (fu:=fu) (d:=d+8) (s:=T) (by omega) Bq;have ms:=At5 (fu:=fu) (d:=d+8) b1 (by omega) Bq (D8 11 (Ci T));rw[b2,hW] at ms;have Lb:=Al .u8 bs;have c1:decide (0+204*1<=List.length (Ae .u8 bs))=true:=dT (by omega);have t1:List.take (204*1) (List.drop 0 (Ae .u8 bs))=Ae .u8 bs:=Ji (by rw[Ou];omega)
 refine (Qd fu (d+13) seed 2 176 (Ae .u8 id) sh ZG (Ab o) ch.length (Ae .u8 ch) fm vf 0).trans ?_;unfold rgG;rcases hfm with rfl|rfl|rfl
 ·have z1:((0:Int)==1)=false:=rfl;have z2:((0:Int)==2)=false:=rfl;have cf:ctF 0=0:=rfl;rw[cf] at en;simp only[A4,A3,fm1,hr,fl,io,ky,z1,z2,en,hd,c1,t1,ms,cond_true,cond_false];rfl
 ·have z1:((1:Int)==1)=true:=rfl;have z2:((1:Int)==2)=false:=rfl;have cf:ctF 1=1:=rfl;rw[cf] at en;obtain⟨s,sa,sg,es⟩:=Ai2 (fu:=fu) (d:=d) Bq (seed:=seed) (h:=2) (by decide) (by decide) W;have L1:=Al .u64 s.chains;have L2:=Al .u64 s.path;have L3:=Al .u8 (sgB s);have e1:decide (0+s.chains.length*1<=List.length (Ae .u64 s.chains))=true:=dT (by omega);have e2:decide (0+s.path.length*1<=List.length (Ae .u64 s.path))=true:=dT (by omega);have e3:decide (0+(sgB s).length*1<=List.length (Ae .u8 (sgB s)))=true:=dT (by omega);have u1:List.take (s.chains.length*1) (List.drop 0 (Ae .u64 s.chains))=Ae .u64 s.chains:=Ji (by rw[Ou];omega)
  have u2:List.take (s.path.length*1) (List.drop 0 (Ae .u64 s.path))=Ae .u64 s.path:=Ji (by rw[Ou];omega)
  have u3:List.take ((sgB s).length*1) (List.drop 0 (Ae .u8 (sgB s)))=Ae .u8 (sgB s):=Ji (by rw[Ou];omega)
  rw[sa];simp only[A4,A3,fm1,hr,fl,io,ky,z1,z2,en,hd,c1,t1,ms,sg,e1,e2,u1,u2,es,e3,u3,cond_true,cond_false]
 ·have z1:((2:Int)==1)=false:=rfl;have z2:((2:Int)==2)=true:=rfl;have cf:ctF 2=0:=rfl;rw[cf] at en;have hch:=hch rfl;obtain⟨s,sa,sg,es⟩:=Ai2 (fu:=fu) (d:=d) Bq (seed:=33) (h:=4) (by decide) (by decide) W;have L1:=Al .u64 s.chains;have L2:=Al .u64 s.path;have L3:=Al .u8 (sgB s);have e1:decide (0+s.chains.length*1<=List.length (Ae .u64 s.chains))=true:=dT (by omega);have e2:decide (0+s.path.length*1<=List.length (Ae .u64 s.path))=true:=dT (by omega);have e3:decide (0+(sgB s).length*1<=List.length (Ae .u8 (sgB s)))=true:=dT (by omega);have u1:List.take (s.chains.length*1) (List.drop 0 (Ae .u64 s.chains))=Ae .u64 s.chains:=Ji (by rw[Ou];omega)
  have u2:List.take (s.path.length*1) (List.drop 0 (Ae .u64 s.path))=Ae .u64 s.path:=Ji (by rw[Ou];omega)
  have u3:List.take ((sgB s).length*1) (List.drop 0 (Ae .u8 (sgB s)))=Ae .u8 (sgB s):=Ji (by rw[Ou];omega)
  have x1:decide (0+1*1<=List.length [cc])=true:=rfl;have x2:List.take (1*1) (List.drop 0 [cc])=[cc]:=rfl;rw[sa];simp only[A4,A3,fm1,hr,fl,io,ky,z1,z2,en,hd,c1,t1,ms,sg,e1,e2,u1,u2,es,e3,u3,hch,x1,x2,cond_true,cond_false]
end
section
variable {xs:FuncId->Option (Ad->Option A1)}(fu d:Nat)(call:Aq)
def Me(Z:Int)(Y:Nat)(X:Int)(W V:ByteArray)(U:Nat)(T:Int)(S:Bool)(Q P:Int)(O:Bool)(N:Int)(M:Bool)(L:Nat)(K J:Int)(I H:Int)(G E:Ad)(D B:ByteArray)(A:Nat)(z:Ad)(w:Int)(v:Bool)(u t:Int)(y26:Bool)(y27:Int)(y28:Bool)(y29:Nat)(y30:Ad)(y31 y32:Int)(y33 y34:Int):Option A1:=Ll fu call 6 Tryz.f6 [Z] [.r] Y ⟨lk [(0,X),(2,.ptr 2 0),(3,.ptr 3 0)],Fw [(2,.st [W,V,.view 38 1 0 U,T,S,Q,P,O,N,M,.view 134 1 0 L,K,Ah J,I,Ah H]),(38,.ar false G),(134,.ar false E),(3,.st [D,B,A5 1 A z,w,v,u,t,y26,y27,y28,A5 1 y29 y30,y31,Ah y32,y33,Ah y34])]⟩
theorem Tv(H:Int)(Z:Nat)(Gy:0<Z)(Y:Int)(G E:ByteArray)(D:Nat)(B:Int)(A:Bool)(z w:Int)(v:Bool)(u:Int)(t:Bool)(y11:Nat)(y12 y13:Int)(y14 y15:Int)(y16 y17:Ad)(X W:ByteArray)(V:Nat)(U:Ad)(T:Int)(S:Bool)(Q P:Int)(y26:Bool)(y27:Int)(O:Bool)(N:Nat)(M:Ad)(L K:Int)(J I:Int):Me fu call H Z Y G E D B A z w v u t y11 y12 y13 y14 y15 y16 y17 X W V U T S Q P y26 y27 O N M L K J I=(Bj [.agg [X,W,A5 1 V U,T,S,Q,P,true,Y,O,A5 1 N M,L,Ah K,J,Ah I]]):=by cases Z with|zero=>exact absurd Gy (Nat.lt_irrefl 0)|succ Z=>kernel_rfl
theorem Wl{p:FuncId->Option (Ad->Option A1)}(fu d:Nat)(Z:Int):Ac (CP p) prog fu (d+1) 6 [Z]=(fun (call:Aq)=>D6 (call 17 [A5 1 0 []]) fun a b=>BI a fun a=>Z7 1 a fun a c e=>Dn .i64 e fun e=>Ap b<|Bm (call 18 [.pbox [A5 1 a c,e]]) fun a b=>Ai a fun a c=>Ep a fun a=>Ai a fun a e=>Bv a fun a=>Ai e fun e f=>Bv e fun e=>Z7 1 f fun f g h=>Ee .i64 h fun h i=>Ai i fun i j=>Bu i fun i=>Ee .i64 j fun j k=>Ee .i64 k fun k m=>Ai m fun m n=>Bu m fun m=>Ee .i64 n fun n o=>Ai o fun o q=>Bu o fun o=>Z7 1 q fun q s t=>Ee .i64 t fun t u=>Ee .u64 u fun u v=>Ee .i64 v fun v w=>Dn .u64 w fun w=>Ap c<|Ai b fun b c=>Z7 1 b fun b z A=>Dn .i64 A fun b=>Ap c<|Me fu call Z fu Z (ByteArray.mk #[]) (ByteArray.mk #[]) 0 0 false 0 0 false 0 false 0 0 0 0 0 ([]) ([]) a e f g h i j k m n o q s t u v w) (Ac (CP p) prog fu d):=by kernel_rfl
end
abbrev A0u(fm:Int):WR:=⟨0,false,1,1,true,fm,false,[],50⟩
abbrev cfX(fm:Int):Cf:=cfW (A0u fm) 5
theorem A09(fm:Int):(cfX fm).ok:=A0d (by simp) 5
theorem Au3{os:List ByteArray}{ch ch' o:Aj}{r:Rq}(rk:r.kind=1)(rc:r.cd=rgT ch o)(hc:Cp ch)(h1:1<=ch.length)(h2:ch.length<=64)(hol:o.length<=100)(hO:Gd o=0):RR os 1 ch' r=bif !eqB ch ch' then 35 else bif !inO os (Ab o) then 34 else 0:=by unfold RR;rw[rk,rc,Ali hc h1 h2 hol hO];rfl
theorem A1t(seed:Int):isU (Pd seed 2).root:=by unfold Pd;rw[Bl (by decide:¬D2 2=true)];exact Aif _ _ _
abbrev KQ(seed:Int)(id:Aj)(fl fm:Int):Qn:=Ap8 (D8 9 (Ci ZG)) fl (ctF fm) (Pd seed 2).root id
theorem Ahe{seed:Int}{id:Aj}(GU:id.length=176){fl:Int}(hf:CV fl)(fm:Int):Wp (ZY seed id fl fm)=some (KQ seed id fl fm)/\LU (ZY seed id fl fm)=id:=by
 unfold ZY KQ;have hu:=MH 9 (Ci ZG);have hr:=A1t seed;generalize D8 9 (Ci ZG)=x at *
 generalize (Pd seed 2).root=y at *
 exact Ao9 hf (ZI fm) GU hu hr
def clA(c:Cf)(ch ch' o:Aj):Int:=bif !eqB ch ch' then 35 else bif !inO c.os (Ab o) then 34 else 0
theorem At4{c:Cf}{m:Mt}{ch:Aj}{now:Int}{r:Rq}{T:Qn->Att}{a:Qn}{cl:Int}(a1:decide (now<0)=false)(a2:decide (now>1099511627776)=false)(hc:RR c.os 1 ch r=cl)(hd:Wp r.ad=some a):Ae1 c m ch now r T=bif cl != 0 then (sd0,cl) else Ano c m now r a (T a):=by unfold Ae1;rw[a1,a2,hc,hd];rfl
theorem Aux{c:Cf}{m:Mt}{now:Int}{r:Rq}{a:Qn}{T:Att}(f6:(D3 .i64 a.fl 64==0)=false){H md:Int}{id:Aj}(hr:a.rp=H)(hm:a.md=md)(q1:eqB r.id (LU r.ad)=true)(q2:LU r.ad=id):Ano c m now r a T=bif H != D8 9 (Ci c.rp) then (sd0,34) else
 bif T.e != 0 then (sd0,T.e) else
 bif LN c.p a T.f (stS m md now) != 0 then (sd0,LN c.p a T.f (stS m md now)) else (ZC a id T.f T.lf now,0):=by
 unfold Ano;rw[f6,q1,q2,hr,hm];rfl
theorem Av4{c:Cf}{m:Mt}{seed:Int}{id:Aj}{fl fm:Int}{o ch ch':Aj}{cc:PV}{now:Int}{T:Qn->Att}(n0:0<=now)(n1:now<=1099511627776)(GU:id.length=176)(hf:CV fl)(hc:Cp ch)(h1:1<=ch.length)(h2:ch.length<=64)(hol:o.length<=100)(hO:Gd o=0):
  Ae1 c m ch' now (TX seed id fl fm o ch cc) T=bif clA c ch ch' o != 0 then (sd0,clA c ch ch' o) else
   bif D8 9 (Ci ZG) != D8 9 (Ci c.rp) then (sd0,34) else
   bif (T (KQ seed id fl fm)).e != 0 then (sd0,(T (KQ seed id fl fm)).e) else
   bif LN c.p (KQ seed id fl fm) (T (KQ seed id fl fm)).f (stS m 3 now) != 0 then (sd0,LN c.p (KQ seed id fl fm) (T (KQ seed id fl fm)).f (stS m 3 now)) else (ZC (KQ seed id fl fm) id (T (KQ seed id fl fm)).f (T (KQ seed id fl fm)).lf now,0):=by
 have a1:decide (now<0)=false:=dF (by omega);have a2:decide (now>1099511627776)=false:=dF (by omega);obtain⟨r,hr⟩:∃r,TX seed id fl fm o ch cc=r:=⟨_,rfl⟩
 have rk:r.kind=1:=by rw[<-hr];rfl
 have rc:r.cd=rgT ch o:=by rw[<-hr];rfl
 have ra:r.ad=ZY seed id fl fm:=by rw[<-hr];rfl
 have ri:r.id=id:=by rw[<-hr];rfl
 rw[hr];clear hr;obtain⟨d1,d2⟩:=Ahe (seed:=seed) GU hf fm;have cl:RR c.os 1 ch' r=clA c ch ch' o:=Au3 rk rc hc h1 h2 hol hO;have hrp:(KQ seed id fl fm).rp=D8 9 (Ci ZG):=rfl;have IX:(KQ seed id fl fm).fl=fl:=rfl;have hmd:(KQ seed id fl fm).md=3:=rfl;have q1:eqB r.id (LU r.ad)=true:=by rw[ri,ra,d2];exact Abh _
 have q2:LU r.ad=id:=by rw[ra,d2]
 rw[<-ra] at d1;clear ra rc rk ri d2;generalize KQ seed id fl fm=a at *
 generalize D8 9 (Ci ZG)=H at *
 have f6:(D3 .i64 a.fl 64==0)=false:=by
  rw[IX,Ank hf];rfl
 rw[At4 a1 a2 cl d1,Aux f6 hrp hmd q1 q2]
theorem A0k{fm fl:Int}(hf:CV fl)(seed:Int)(id:Aj){st:Int}(h:fm=2->st=1):LN (A0u fm) (KQ seed id fl fm) fm st=0:=by
 have a1:Acr 0 fl=0:=by rcases hf with rfl|rfl|rfl|rfl<;>decide
 unfold LN;simp only[a1,if_true];rw[Bl (by decide:¬(2:Int)<1)]
 have t:Arj (A0u fm) 3 fm st=0:=by
  unfold Arj;rw[Cy rfl];by_cases h2:fm=2
  ·rw[Cy h2,h h2];rfl
  ·rw[Bl h2]
 split
 ·exact t
 ·exact t
theorem Ay1{P:Ky}(h:P.h=2):(⟨2,P.root⟩:Ky)=P:=by cases P;simp only at h;subst h;rfl
theorem Ayj{seed:Int}{id:Aj}{fl:Int}{o ch:Aj}{cc:PV}(a:Qn)(w:Int):Abn (TX seed id fl 0 o ch cc) a w=⟨0,-1,-1,0⟩:=rfl
theorem Aze{seed:Int}{id:Aj}{fl:Int}{o ch:Aj}{cc:PV}:Abn (TX seed id fl 1 o ch cc) (KQ seed id fl 1) (rgW (ZY seed id fl 1) (rgT ch o))=⟨1,-1,0,0⟩:=by
 obtain⟨W,hW⟩:∃W,rgW (ZY seed id fl 1) (rgT ch o)=W:=⟨_,rfl⟩
 have sg:(TX seed id fl 1 o ch cc).sg=asG seed 2 0 W:=by rw[<-hW];rfl
 obtain⟨g,s1,s2,s3,s4,s5,s6⟩:=Ahn (seed:=seed) (h:=2) (leaf:=0) (m:=W) (by decide) (by decide)
 have sd:sgD (TX seed id fl 1 o ch cc).sg=some g:=by
  rw[sg];unfold asG;rw[s1];exact Aum s2 (by rw[s5];decide) (by rw[s5,s3];decide) s4
 have k:(⟨(KQ seed id fl 1).kh,(KQ seed id fl 1).kr⟩:Ky)=Pd seed 2:=by
  have k2:=YS (seed:=seed) (h:=2) (by decide);exact Ay1 k2
 have f1:(TX seed id fl 1 o ch cc).fm=1:=rfl;have cn:(TX seed id fl 1 o ch cc).cn=0:=rfl;rw[hW];clear hW sg;generalize TX seed id fl 1 o ch cc=r at *
 generalize KQ seed id fl 1=a at *
 have z0:((1:Int)==0)=false:=rfl;have z1:((1:Int)==1)=true:=rfl;have z2:decide (((0:Nat):Int)>0)=false:=rfl;have z3:((0:Int) != 0)=false:=rfl;unfold Abn Ap0;rw[f1,cn,sd];simp only[z0,z1,z2,cond_false,cond_true,k,s6,s3,z3]
def rgS(seed:Int)(id:Aj)(fl fm lf now:Int):Sd:=ZC (KQ seed id fl fm) id fm lf now
theorem A0g{fm lf an:Int}{m:Mt}{seed:Int}{id:Aj}{fl:Int}{o ch:Aj}{cc:PV}{now:Int}{T:Qn->Att}(n0:0<=now)(n1:now<=1099511627776)(GU:id.length=176)(hf:CV fl)(hc:Cp ch)(h1:1<=ch.length)(h2:ch.length<=64)(hol:o.length<=100)(hO:Gd o=0)(DH:inO [WZ,olS] (Ab o)=true)(hT:T (KQ seed id fl fm)=⟨fm,an,lf,0⟩)(G0:fm=2->stS m 3 now=1):Ae1 (cfX fm) m ch now (TX seed id fl fm o ch cc) T=(rgS seed id fl fm lf now,0):=by
 rw[Av4 n0 n1 GU hf hc h1 h2 hol hO,hT]
 have c0:clA (cfX fm) ch ch o=0:=by
  show (bif !eqB ch ch then (35:Int) else bif !inO [WZ,olS] (Ab o) then 34 else 0)=0;rw[Abh,DH];rfl
 have r0:(D8 9 (Ci ZG) != D8 9 (Ci (cfX fm).rp))=false:=by
  show (D8 9 (Ci ZG) != D8 9 (Ci ZG))=false;simp
 have e0:LN (cfX fm).p (KQ seed id fl fm) fm (stS m 3 now)=0:=A0k hf seed id G0;rw[c0,r0];simp only[e0];rfl
section
variable {fu d:Nat}
theorem Adk(Bq:1000<=fu)(fm:Int):Ac C1 prog fu (d+15) 6 [Aw fm]=some ⟨[.agg (cfX fm).cells],[]⟩:=by
 have nw:Ac C1 prog fu (d+14) 17 [.lst false 1 0 []]=some ⟨[.pbox (dkc [] 0)],[]⟩:=Bdo (l:=[]);have n0:=fun n=>Ax0 (fu:=fu) (d:=d+10) n;have n0':=fun n=>Ax0 (fu:=fu) (d:=d+11) n
 have pl:Ac C1 prog fu (d+13) 42 [.pbox (dkc [] 0)]=some ⟨[.agg A5e.own],[dkc [] 0]⟩:=by
  refine (R4 fu (d+12) 0 [] 0).trans ?_
  repeat(with_reducible(first|apply Ba|apply A0|apply A8|apply A2|apply Bi|apply US|apply Aw3|apply Kv|apply Aib|apply Az|apply A9|apply Ix);· first|constructor|(simp(disch:=omega)only[I8,n0,Fz]<;>first|constructor|omega)|omega)
  try simp(disch:=omega)only[Aa,n0,Fz]
  rfl
 have ky:=Aer (fu:=fu) (d:=d) Bq 31 4;have k4:(Pd 31 4).cells=[Aw 4,Ah (Pd 31 4).root]:=by unfold Ky.cells;rw[YS (by decide)]
 rw[k4] at ky
 have cf:Ac C1 prog fu (d+14) 18 [.pbox (dkc [] 0)]=some ⟨[.agg (cfW A5e 5).cells],[dkc [] 0]⟩:=by
  refine (Sb fu (d+13) 0 [] 0).trans ?_;simp only[WR.own] at pl;have w1:wrap .u64 (5+wrap .u64 0)=5:=by decide
  repeat(with_reducible(first|apply Ba|apply A0|apply A8|apply A2|apply Bi|apply US|apply Aw3|apply Kv|apply Aib|apply Az|apply A9|apply Ix);· first|constructor|(simp(disch:=omega)only[I8,pl,n0',ky,w1]<;>first|constructor|omega)|omega)
  try simp(disch:=omega)only[Aa,pl,n0',ky,w1]
  rfl
 refine (Wl fu (d+14) fm).trans ?_;simp only[Cf.cells] at cf ⊢;simp(disch:=omega)only[A4,A3,nw,cf,Tv]
end
section
variable {xs:FuncId->Option (Ad->Option A1)}(fu d:Nat)(call:Aq)
def F6(Z Y:Int)(X:Nat)(W V:Int):Option A1:=Ll fu call 4 Tryz.f4 [Z,.sc (.int .u8 Y)] [] X ⟨lk [(0,W),(1,.sc (.int .u8 V))],Fw []⟩
def Fy(Z Y:Int)(X:Nat)(W V U:Int)(T:Nat)(S:Bool)(Q:Ad):Option A1:=Ll fu call 4 Tryz.f4 [Z,.sc (.int .u8 Y)] [.r] X ⟨lk [(1,.sc (.int .u8 W)),(5,.ptr 5 0)],Fw [(5,.st [Ah V,U,.view 314 1 0 T,S]),(314,.ar false Q)]⟩
def F8(Z Y:Int)(X:Nat)(W:Int)(V:Nat)(U T:Int)(S:Nat)(Q:Bool)(P O:Ad):Option A1:=Ll fu call 4 Tryz.f4 [Z,.sc (.int .u8 Y)] [.r,.r] X ⟨lk [(1,.sc (.int .u8 W)),(5,.ptr 5 0),(6,.view 6 1 0 V)],Fw [(5,.st [Ah U,T,.view 314 1 0 S,Q]),(314,.ar false P),(6,.ar false O)]⟩
def F2(Z Y:Int)(X:Nat)(W:Int)(V:Nat)(U T S:Int)(Q:Nat)(P:Bool)(O N:Ad)(M:Nat)(L K:Int)(J I:Int)(H:Bool)(G:Int)(E:Nat)(D:Bool)(B A:Int)(z w:Ad):Option A1:=Ll fu call 4 Tryz.f4 [Z,.sc (.int .u8 Y)] [.r,.r,.r] X ⟨lk [(1,.sc (.int .u8 W)),(5,.ptr 5 0),(6,.view 6 1 0 V),(7,.ptr 7 0),(8,U)],Fw [(5,.st [Ah T,S,.view 314 1 0 Q,P]),(314,.ar true O),(6,.ar true N),(7,.st [.view 110 1 0 M,L,Ah K,Ah J,I,H,Ah G,.view 831 2 0 E,D,B,A]),(110,.ar false z),(831,.ar false w)]⟩
def F0(Z Y:Int)(X:Nat)(W V:Int)(U T:Int)(S:Nat)(Q:Bool)(P:Ad)(O:Nat)(N M:Int)(L K:Int)(J:Bool)(I:Int)(H:Nat)(G:Bool)(E D:Int)(B A:Ad)(z:Nat)(w v:Int)(u t:Int)(y25:Bool)(y26:Int)(y27:Nat)(y28:Bool)(y29 y30:Int)(y31 y32:Ad):Option A1:=Ll fu call 4 Tryz.f4 [Z,.sc (.int .u8 Y)] [.r,.r,.r,.r] X ⟨lk [(5,.ptr 5 0),(7,.ptr 7 0),(8,W),(9,.ptr 9 0),(10,V)],Fw [(5,.st [Ah U,T,.view 314 1 0 S,Q]),(314,.ar true P),(7,.st [.view 110 1 0 O,N,Ah M,Ah L,K,J,Ah I,.view 831 2 0 H,G,E,D]),(110,.ar false B),(831,.ar false A),(9,.st [.view 112 1 0 z,w,Ah v,Ah u,t,y25,Ah y26,.view 833 2 0 y27,y28,y29,y30]),(112,.ar false y31),(833,.ar false y32)]⟩
theorem J2(Y X:Int)(Z:Nat)(Gy:0<Z)(W V:Int):F6 fu call Y X Z W V=(Gz .i64 (call 8 [W,(20:Int)]) fun a=>D6 (call 7 [a,(2:Int),false]) fun a b=>Ep a fun a=>Ee .u64 a fun a c=>Ee .i64 c fun c e=>YL 1 e fun e f g=>Qp g fun g=>Ap b<|Fy fu call Y X fu V a c e g f):=by cases Z with|zero=>exact absurd Gy (Nat.lt_irrefl 0)|succ Z=>kernel_rfl
theorem J0(Y X:Int)(Z:Nat)(Gy:0<Z)(W V U:Int)(T:Nat)(S:Bool)(Q:Ad):Fy fu call Y X Z W V U T S Q=(D6 (call 15 [(3:Int),(16:Int)]) fun a b=>Lg 1 a fun a c=>Ap b<|F8 fu call Y X fu W a V U T S Q c):=by cases Z with|zero=>exact absurd Gy (Nat.lt_irrefl 0)|succ Z=>kernel_rfl
theorem Jy(P O:Int)(W:Nat)(Gy:0<W)(U:Int)(Z:Nat)(T S:Int)(X:Nat)(Q:Bool)(V Y:Ad):F8 fu call P O W U Z T S X Q V Y=(D6 (call 6 [(1:Int)]) fun a b=>Ep a fun a=>Ai a fun a c=>Bv a fun a=>Ai c fun c e=>Bv c fun c=>Z7 1 e fun e f g=>Ee .i64 g fun g h=>Ai h fun h i=>Bu h fun h=>Ee .i64 i fun i j=>Ee .i64 j fun j k=>Ai k fun k m=>Bu k fun k=>Ee .i64 m fun m n=>Ai n fun n o=>Bu n fun n=>Z7 1 o fun o p q=>Ee .i64 q fun q s=>Ee .u64 s fun s t=>Ee .i64 t fun t u=>Dn .u64 u fun u=>Ap b<|Aa (wrap .i64 U) fun b=>(fun N:PV=>Ar (decide (0+X*1<=V.length))<|Ar (decide (0+Z*1<=Y.length))<|D6 (call 11 [.agg [Ah T,S,A5 1 X (List.take (X*1) (V.drop 0)),Q],Bo ⟨#[101,120,97,109,112,108,101,46,99,111,109]⟩,Bo ⟨#[104,116,116,112,115,58,47,47,101,120,97,109,112,108,101,46,99,111,109]⟩,N,(1:Int),true,(0:Int)]) fun v w=>Ep v fun v=>Ee .i64 v fun v z=>Ai z fun z A=>Bv z fun z=>Z7 1 A fun A B D=>Z7 1 D fun D E G=>Z7 1 G fun G H I=>Ee .i64 I fun I J=>Z7 1 J fun J K L=>Ai L fun L M=>Bv L fun L=>Ap M<|Ap w<|Ar (decide (0+Z*1<=Y.length))<|D6 (call 12 [.agg [a,c,A5 1 e f,g,h,i,j,k,m,n,A5 1 o p,q,Ah s,t,Ah u],.agg [(0:Int),(0:Int),(0:Int),A5 3 0 [],(0:Int),A5 1 0 [],A5 1 0 []],A5 3 0 [],N,b,.agg [v,z,A5 1 A B,A5 1 D E,A5 1 G H,I,A5 1 J K,L]]) fun a b=>Ep a fun a=>YL 1 a fun a c e=>Ee .i64 e fun e f=>Ee .u64 f fun f g=>Ee .u64 g fun g h=>Ee .i64 h fun h i=>Ai i fun i j=>Bu i fun i=>Ee .u64 j fun j k=>YL 2 k fun k m n=>Ai n fun n o=>Bu n fun n=>Ee .i64 o fun o p=>Dn .i64 p fun p=>Dn .i64 b fun b=>F2 fu call P O fu U Z b T S X Q V Y a e f g h i j k n o p c m) (A5 1 Z (List.take (Z*1) (Y.drop 0)))):=by cases W with|zero=>exact absurd Gy (Nat.lt_irrefl 0)|succ W=>kernel_rfl
theorem J5(Q P:Int)(W:Nat)(Gy:0<W)(O:Int)(Z:Nat)(N U T:Int)(Y:Nat)(S:Bool)(V X:Ad)(M:Nat)(L K:Int)(J I:Int)(H:Bool)(G:Int)(E:Nat)(D:Bool)(B A:Int)(z w:Ad):F2 fu call Q P W O Z N U T Y S V X M L K J I H G E D B A z w=(D6 (call 6 [(0:Int)]) fun a b=>Ep a fun a=>Ai a fun a c=>Bv a fun a=>Ai c fun c e=>Bv c fun c=>Z7 1 e fun e f g=>Ee .i64 g fun g h=>Ai h fun h i=>Bu h fun h=>Ee .i64 i fun i j=>Ee .i64 j fun j k=>Ai k fun k m=>Bu k fun k=>Ee .i64 m fun m n=>Ai n fun n o=>Bu n fun n=>Z7 1 o fun o p q=>Ee .i64 q fun q s=>Ee .u64 s fun s t=>Ee .i64 t fun t u=>Dn .u64 u fun u=>Ap b<|Aa (wrap .i64 O) fun b=>(fun R:PV=>Ar (decide (0+Y*1<=V.length))<|Ar (decide (0+Z*1<=X.length))<|D6 (call 11 [.agg [Ah U,T,A5 1 Y (List.take (Y*1) (V.drop 0)),S],Bo ⟨#[101,120,97,109,112,108,101,46,99,111,109]⟩,Bo ⟨#[104,116,116,112,115,58,47,47,101,120,97,109,112,108,101,46,99,111,109]⟩,R,(0:Int),true,(0:Int)]) fun v Bbg=>Ep v fun v=>Ee .i64 v fun v Bdu=>Ai Bdu fun A9i Bdg=>Bv A9i fun Bc6=>Z7 1 Bdg fun Bdt Bb8 Bbo=>Z7 1 Bbo fun Bc1 Bab Bdc=>Z7 1 Bdc fun A99 Bcf A91=>Ee .i64 A91 fun Bdq Bdr=>Z7 1 Bdr fun Bby Bc5 Baj=>Ai Baj fun Bc9 Bde=>Bv Bc9 fun Bc8=>Ap Bde<|Ap Bbg<|Ar (decide (0+Z*1<=X.length))<|D6 (call 12 [.agg [a,c,A5 1 e f,g,h,i,j,k,m,n,A5 1 o p,q,Ah s,t,Ah u],.agg [(0:Int),(0:Int),(0:Int),A5 3 0 [],(0:Int),A5 1 0 [],A5 1 0 []],A5 3 0 [],R,b,.agg [v,Bc6,A5 1 Bdt Bb8,A5 1 Bc1 Bab,A5 1 A99 Bcf,Bdq,A5 1 Bby Bc5,Bc8]]) fun a b=>Ep a fun a=>YL 1 a fun a c e=>Ee .i64 e fun e f=>Ee .u64 f fun f g=>Ee .u64 g fun g h=>Ee .i64 h fun h i=>Ai i fun i j=>Bu i fun i=>Ee .u64 j fun j k=>YL 2 k fun k m n=>Ai n fun n o=>Bu n fun n=>Ee .i64 o fun o p=>Dn .i64 p fun p=>Dn .i64 b fun b=>F0 fu call Q P fu N b U T Y S V M L K J I H G E D B A z w a e f g h i j k n o p c m) (A5 1 Z (List.take (Z*1) (X.drop 0)))):=by cases W with|zero=>exact absurd Gy (Nat.lt_irrefl 0)|succ W=>kernel_rfl
theorem J3(J I:Int)(Z:Nat)(Gy:0<Z)(U T:Int)(S H:Int)(G:Nat)(E:Bool)(D:Ad)(B:Nat)(Y X:Int)(Q A:Int)(z:Bool)(P:Int)(W:Nat)(O:Bool)(w v:Int)(u V:Ad)(t:Nat)(N M:Int)(y23 y24:Int)(y25:Bool)(L:Int)(K:Nat)(y28:Bool)(y29 y30:Int)(y31 y32:Ad):F0 fu call J I Z U T S H G E D B Y X Q A z P W O w v u V t N M y23 y24 y25 L K y28 y29 y30 y31 y32=(Ax (U==0) (Ax (T==0) (Ax (P==1) (Ax ((↑W:Int)==1) (Ar (decide (0<(↑W:Int)))<|Bc .i64 (V.getD 0 .top) fun a=>Bc .i64 (V.getD 1 .top) fun b=>Ax (a==0&&(b==0&&true)) (Ax (L==0) (Ax ((↑K:Int)==0) (D6 (call 16 [Ah S,(2:Int)]) fun a b=>Ep a fun a=>Ee .i64 a fun a c=>Dn .u64 c fun c=>Ap b<|Ax (Y==a&&(X==c&&true)) (Ax (Y==N&&(X==M&&true)) (Ax (!O) (Ax (Q==0) (D6 (call 5 []) fun a b=>Bu a fun a=>Ap b<|Bj [a]) (Bj [false])) (Bj [false])) (Bj [false])) (Bj [false])) (Bj [false])) (Bj [false])) (Bj [false])) (Bj [false])) (Bj [false])) (Bj [false])) (Bj [false])):=by cases Z with|zero=>exact absurd Gy (Nat.lt_irrefl 0)|succ Z=>kernel_rfl
theorem Lh{p:FuncId->Option (Ad->Option A1)}(fu d:Nat)(Z Y:Int):Ac (CP p) prog fu (d+1) 4 [Z,.sc (.int .u8 Y)]=(fun (call:Aq)=>F6 fu call Z Y fu Z Y) (Ac (CP p) prog fu d):=by kernel_rfl
end
abbrev mtZ:Mt:=⟨0,0,0,[],0,0,[],0,[]⟩
theorem Azs:mtZ.ok:=⟨by decide,fun e he=>(nomatch he)⟩
theorem A4z(seed:Int)(id:Aj)(now:Int):rgS seed id 69 1 0 now=⟨id,2,(Pd seed 2).root,0,1,false,1,[(0,0)],false,now,now⟩:=by
 unfold rgS ZC KQ;generalize (Pd seed 2).root=R;generalize D8 9 (Ci ZG)=H;have a:(D3 .i64 69 8 != 0)=false:=by decide
 have b:Fb .u64 1 0=1:=by decide
 have c:decide ((0:Int)>=0)=true:=by decide
 have e:((1:Int)==2)=false:=by decide
 simp only[a,b,c,e,cond_true,cond_false]
theorem A59(seed:Int)(id:Aj)(now:Int):rgS seed id 69 0 (-1) now=⟨id,2,(Pd seed 2).root,0,0,false,0,[],false,now,now⟩:=by
 unfold rgS ZC KQ;generalize (Pd seed 2).root=R;generalize D8 9 (Ci ZG)=H;have a:(D3 .i64 69 8 != 0)=false:=by decide
 have c:decide ((-1:Int)>=0)=false:=by decide
 have e:((0:Int)==2)=false:=by decide
 simp only[a,c,e,cond_true,cond_false]
theorem A1p:Gd (Ci WZ)=0:=by decide +kernel
theorem A5j:inO [WZ,olS] (Ab (Ci WZ))=true:=by decide +kernel
section
variable {fu d:Nat}
theorem Aps(Bq:1000400<=fu){seed:Int}{id ch:Aj}(hib:Cp id)(GU:id.length=176)(AO:Cp ch)(O7:ch.length=16){fm lf now:Int}(hfm:fm=0/\lf = -1\/fm=1/\lf=0)(n0:0<=now)(n1:now<=1099511627776):∃r:Rq,
  Ac C1 prog fu (d+14) 11 [.agg [Ah seed,Aw 2,.lst false 1 176 (Ae .u8 id),C9 false],Bo ZG,Bo WZ,.lst false 1 16 (Ae .u8 ch),Aw fm,C9 true,Aw 0]=some ⟨[.agg r.cells],[]⟩ /\
  Ac C1 prog fu (d+14) 12 [.agg (cfX fm).cells,.agg mtZ.cells,.lst false 3 0 [],.lst false 1 16 (Ae .u8 ch),Aw now,.agg r.cells]=some ⟨[.agg (rgS seed id 69 fm lf now).ownd,Aw 0],[]⟩:=by
 have f69:PU false true=69:=by decide
 have fok:CV 69:=by decide
 have ho:(Ci WZ).length<=100:=by rw[Dc];decide
 have rg:=Awp (fu:=fu) (d:=d) Bq (seed:=seed) (id:=id) (ch:=ch) (o:=Ci WZ) hib GU AO (by omega) (DG _) (by omega) false true (fm:=fm) (by omega) .top (fun h=>absurd h (by omega));rw[Mf,O7,f69] at rg;have rok:=A0n (seed:=seed) hib GU fok fm (o:=Ci WZ) (by omega) ch .top;obtain⟨dA,dI⟩:=Ahe (seed:=seed) GU fok fm;have ra:(TX seed id 69 fm (Ci WZ) ch .top).ad=ZY seed id 69 fm:=rfl;have rw_:Af6 (TX seed id 69 fm (Ci WZ) ch .top).ad (D8 11 (Ci (TX seed id 69 fm (Ci WZ) ch .top).cd))=rgW (ZY seed id 69 fm) (rgT ch (Ci WZ)):=rfl;have rf:(TX seed id 69 fm (Ci WZ) ch .top).fm=fm:=rfl
 have ans:=A0g (m:=mtZ) (seed:=seed) (cc:=.top) (now:=now) (an:= -1) (fm:=fm) (lf:=lf) (T:=fun a=>Abn (TX seed id 69 fm (Ci WZ) ch .top) a (rgW (ZY seed id 69 fm) (rgT ch (Ci WZ)))) n0 n1 GU fok AO (by omega) (by omega) ho A1p A5j (by
  rcases hfm with⟨rfl,rfl⟩|⟨rfl,rfl⟩
  ·exact Ayj _ _
  ·exact Aze) (fun h=>absurd h (by omega))
 have vr:=Avj (fu:=fu) (d:=d+3) Bq (A09 fm) Azs 0 [] ch now rok (fun a=>Abn (TX seed id 69 fm (Ci WZ) ch .top) a (rgW (ZY seed id 69 fm) (rgT ch (Ci WZ)))) (by
  intro _ a ha hf;rw[rw_];exact Atj (fu:=fu) (d:=d+3) Bq rok (by rw[rf];simp;omega) (by simpa using hf) _ _ _ _ _ _)
 rw[ans,O7] at vr;exact⟨_,rg,vr⟩
set_option maxHeartbeats 8000000 in
theorem Akl(Bq:1000400<=fu)(haw:Ac C1 prog fu (d+20) 5 []=some ⟨[C9 true],[]⟩)(n:Int){w:Int}(w0:0<=w)(w1:w<=255):Ac C1 prog fu (d+21) 4 [Aw n,.sc (.int .u8 w)]=some ⟨[C9 true],[]⟩:=by
 obtain⟨k,k0,k1,md⟩:=Bbk n 20 (by omega) (by omega);have md:=md (fu:=fu) (d:=d+19) (p:=pG);obtain⟨id,hib,GU,cr⟩:=A32 (fu:=fu) (d:=d+13) (by omega) k 2 false;obtain⟨ch,AO,O7,bt⟩:=Ape (fu:=fu) (d:=d+14) (p:=pG) (by omega) 3 (n:=16) (by omega);have bt:Ac C1 prog fu (d+20) 15 [Aw 3,Aw 16]=_:=bt;generalize wrap .u64 (1000+wrap .u64 k)=seed at cr;have ww:wrap .i64 w=w:=Bb;have c1:=Adk (fu:=fu) (d:=d+5) (by omega) 1;have c0:=Adk (fu:=fu) (d:=d+5) (by omega) 0;obtain⟨r1,m1,v1⟩:=Aps (fu:=fu) (d:=d+6) Bq (seed:=seed) hib GU AO O7 (fm:=1) (lf:=0) (now:=w) (Or.inr ⟨rfl,rfl⟩) w0 (by omega);obtain⟨r0,m0,v0⟩:=Aps (fu:=fu) (d:=d+6) Bq (seed:=seed) hib GU AO O7 (fm:=0) (lf:= -1) (now:=w) (Or.inl ⟨rfl,rfl⟩) w0 (by omega);rw[A4z] at v1;rw[A59] at v0
 have ky:=Aer (fu:=fu) (d:=d+7) (by omega) seed 2;have k2:=YS (seed:=seed) (h:=2) (by decide);simp only[Ky.cells] at ky;rw[k2] at ky;generalize (Pd seed 2).root=R at *
 simp only[Sd.ownd,rgC,Kb,List.flatMap_nil,List.append_nil,GU,On,LP] at v1 v0;have q3:Ae .u64 []=[]:=rfl;have q5:mnC []=[]:=rfl;simp only[Cf.cells,Mt.cells,Rq.cells,On,LP,q3,q5,Ig,Nat.reduceAdd] at c1 c0 m1 m0 v1 v0;have LI:=Al .u8 id;have LC:=Al .u8 ch;have e1:decide (0+176*1<=List.length (Ae .u8 id))=true:=dT (by omega);have e2:decide (0+16*1<=List.length (Ae .u8 ch))=true:=dT (by omega);have t1:List.take (176*1) (List.drop 0 (Ae .u8 id))=Ae .u8 id:=Ji (by rw[Ou];omega)
 have t2:List.take (16*1) (List.drop 0 (Ae .u8 ch))=Ae .u8 ch:=Ji (by rw[Ou];omega)
 refine (Lh fu (d+20) n w).trans ?_;have hp:0<fu:=by omega
 simp only[A4,A3,J2 (Gy:=hp),J0 (Gy:=hp),md,cr,bt,e1,t1,e2,t2];simp only[A4,A3,Jy (Gy:=hp),ww,c1,m1,v1,e1,t1,e2,t2];simp only[A4,A3,J5 (Gy:=hp),ww,c0,m0,v0,e1,t1,e2,t2];simp only[A4,A3,J3 (Gy:=hp),ky,haw];have rr:(R==R)=true:=by simp
 simp only[rr,Bool.and_true,Int.reduceBEq];rfl
end
end
end Go.Proofs.YtamoegpkglhedaaGreatDoor.Pv
