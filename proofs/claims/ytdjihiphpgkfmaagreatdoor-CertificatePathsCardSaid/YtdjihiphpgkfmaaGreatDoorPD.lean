/-
  The proof of CertificatePaths, part 4.
-/
import Derived.Test.YtdjihiphpgkfmaaGreatDoorPC
import Derived.Test.YtdjihiphpgkfmaaGreatDoorRows
set_option linter.unusedSimpArgs false
set_option linter.unusedVariables false
namespace Go.Proofs.YtdjihiphpgkfmaaGreatDoor.Pv
section
open Go.IntKind (wrap)
section
variable {fu d:Nat} {xs:FuncId->Option (List PV->Option A0)}
theorem Ahm {x k:Int}(hk:k=13∨k=16∨k=17∨k=21∨k=32):Ae (CX xs) Tryz.prog fu (d+1) Oe [.sc (.int .u64 x),.sc (.int .i64 k)]=some ⟨[.sc (.int .u64 (rot x k))],[]⟩:=by
 rw [Yq];rcases hk with rfl|rfl|rfl|rfl|rfl<;>kernel_rfl
theorem Ahu {x k:Int}(hk:k=13∨k=16∨k=17∨k=21∨k=32):Ae (CX xs) Tryz.prog fu (d+1) Pu [.sc (.int .u64 x),.sc (.int .u64 k)]=some ⟨[.sc (.int .u64 (rot x k))],[]⟩:=by
 rw [Zm];rcases hk with rfl|rfl|rfl|rfl|rfl<;>kernel_rfl
theorem GU {a0 a1 a2 a3 a4:Int}:∀(k i nn:Nat)(v:W4),k<nn->i+k<=100 ->
  Fm fu (Ae (CX xs) Tryz.prog fu (d+1)) a0 a1 a2 a3 a4 nn ((i+k:Nat):Int) i v.a v.b v.c v.d=some ⟨[],[(Aav k v).cells]⟩
 |_,_,0,_,h,_=>by omega
 |0,i,nn+1,v,h,hi=>by
  rw [I8,Dj _ _ _ (by omega)]
  rfl
 |k+1,i,nn+1,v,h,hi=>by
  have ih:=GU (a0:=a0) (a1:=a1) (a2:=a2) (a3:=a3) (a4:=a4) k (i+1) nn (NR v) (by omega) (by omega)
  have w:wrap .i64 ((i:Int)+1)=((i+1:Nat):Int):=by rw [Al (by omega) (by omega)];omega
  have r13:=fun x=>Ahm (xs:=xs) (fu:=fu) (d:=d) (x:=x) (k:=13) (by simp)
  have r16:=fun x=>Ahm (xs:=xs) (fu:=fu) (d:=d) (x:=x) (k:=16) (by simp)
  have r17:=fun x=>Ahm (xs:=xs) (fu:=fu) (d:=d) (x:=x) (k:=17) (by simp)
  have r21:=fun x=>Ahm (xs:=xs) (fu:=fu) (d:=d) (x:=x) (k:=21) (by simp)
  have r32:=fun x=>Ahm (xs:=xs) (fu:=fu) (d:=d) (x:=x) (k:=32) (by simp)
  rw [I8];simp (disch:=omega) only [Bx,r13,r16,r17,r21,r32,w];rw [show i+(k+1)=i+1+k by omega]
  exact ih
theorem PW (k:Nat)(hk:k<=4)(hfu:100<=fu)(v:W4):Ae (CX xs) Tryz.prog fu (d+2) Lw [.pbox [.sc (.int .u64 v.a),.sc (.int .u64 v.b),.sc (.int .u64 v.c),.sc (.int .u64 v.d)],.sc (.int .i64 k)]=some ⟨[],[(Aav k v).cells]⟩:=by
 rw [Vi];have:=GU (xs:=xs) (fu:=fu) (d:=d) (a0:=v.a) (a1:=v.b) (a2:=v.c) (a3:=v.d) (a4:=k) k 0 fu v (by omega) (by omega)
 rw [Br] at this;exact this
theorem QO (hfu:100<=fu)(v:W4)(m:Int):Ae (CX xs) Tryz.prog fu (d+3) Ll [.pbox [.sc (.int .u64 v.a),.sc (.int .u64 v.b),.sc (.int .u64 v.c),.sc (.int .u64 v.d)],.sc (.int .u64 m)]=some ⟨[],[(Td v m).cells]⟩:=by
 rw [Vn];have r2:=PW (xs:=xs) (fu:=fu) (d:=d) 2 (by omega) hfu ⟨v.a,v.b,v.c,D2 .u64 v.d m⟩
 have e2:((2:Nat):Int)=2:=rfl;rw [e2] at r2;unfold Td;generalize Aav 2 ⟨v.a,v.b,v.c,D2 .u64 v.d m⟩=R at r2 ⊢;simp only [W4.cells] at r2;simp only [Bx,r2];rfl
theorem Atz {a b:Int}{k:Nat}(hk:k<8)(ha:0<=a)(ha':a<((2 ^ (8*k):Nat):Int)) (hb:0<=b)(hb':b<=255):PK .u64 a (Hc .u64 b (8*(k:Int)))=a+((2 ^ (8*k):Nat):Int)*b:=by
 obtain ⟨n,rfl⟩:=Int.eq_ofNat_of_zero_le hb;have e:(8*(k:Int)).toNat=8*k:=by omega
 have hp:n*2 ^ (8*k)<=255*2 ^ (8*k):=Nat.mul_le_mul_right _ (by omega)
 have h56:2 ^ (8*k)<=2 ^ 56:=Nat.pow_le_pow_right (by omega) (by omega)
 have e56:(2:Nat) ^ 56=72057594037927936:=by decide
 rw [e56] at h56;generalize hP:2 ^ (8*k)=p at *
 have hpos:n*p<=255*p:=hp
 have hs:Hc .u64 (n:Int) (8*(k:Int))=(n:Int)*((2 ^ (8*(k:Int)).toNat:Nat):Int):=Ac7 (by omega) (by omega) (by omega) (by
  rw [e,hP];have:((n*p:Nat):Int)<=((255*p:Nat):Int):=by omega
  rw [←Int.natCast_mul];omega)
 rw [hs,e,hP]
 have:=(SG (a:=a) (c:=((n*p:Nat):Int)) (8*k) n ha (by rw [hP];exact ha') (by rw [hP]) (by
  have:((n*p:Nat):Int)<=((255*p:Nat):Int):=by omega
  omega)).1
 rw [←Int.natCast_mul,this,Int.mul_comm ((p:Nat):Int),←Int.natCast_mul]
theorem At1 (k:Nat):((2 ^ (8*k):Nat):Int)=256 ^ k:=by
 rw [Nat.pow_mul];simp
theorem HQ {call:Ah}{n:Nat}{c:List PV}{l:List Int}(hb:Kx l)(hl:l.length<=8):∀(r:List Int)(i nn:Nat),l.drop i=r->r.length<nn->i<=l.length ->
  Iq fu call n c nn (S6 (l.take i)) l.length (Af .u8 l) l.length i=some ⟨[.sc (.int .u64 (S6 l))],[]⟩
 |_,_,0,_,h,_=>by omega
 |[],i,nn+1,h,hn,hi=>by
  have:=drop_nil h;rw [Qk,Dj _ _ _ (by omega),To (by omega)]
 |b::r,i,nn+1,h,hn,hi=>by
  obtain ⟨h1,h2,h3⟩:=B3 h;simp only [Ja] at hn;have ih:=HQ (call:=call) (n:=n) (c:=c) hb hl r (i+1) nn h3 (by omega) (by omega)
  have hbb:=hb b (List.mem_of_getElem? h2);have w:wrap .i64 ((i:Int)+1)=((i+1:Nat):Int):=by rw [Al (by omega) (by omega)];omega
  have w8:wrap .i64 (8*(i:Int))=8*(i:Int):=Al (by omega) (by omega)
  have wb:wrap .u64 b=b:=Cq (by omega) (by omega)
  have hbnd:=Uc (l:=l.take i) fun x hx=>hb x (List.mem_of_mem_take hx)
  have htl:(l.take i).length=i:=by rw [List.length_take];omega
  rw [htl] at hbnd
  have hj:PK .u64 (S6 (l.take i)) (Hc .u64 b (8*(i:Int)))=S6 (l.take (i+1)):=by
   rw [Atz (by omega) hbnd.1 (by rw [At1];exact hbnd.2) hbb.1 hbb.2,List.take_add_one,h2,Z2,htl,At1]
   simp [S6]
  rw [Qk];simp (disch:=omega) only [Bx,Gy,B8,Vf h2,w,w8,wb,hj];exact ih
theorem RL {l:List Int}(hb:Kx l)(hl:l.length<=8)(hfu:100<=fu):Ae (CX xs) Tryz.prog fu (d+1) Vd [.lst false 1 l.length (Af .u8 l)]=some ⟨[.sc (.int .u64 (S6 l))],[]⟩:=by
 rw [HU];exact HQ hb hl l 0 fu rfl (by omega) (by omega)
theorem Ip (k:IntKind)(l:List Int)(i:Nat):List.drop i (Af k l)=Af k (l.drop i):=by
 have:=DO (CK k) l i
 simpa using this
theorem Pg (k:IntKind)(l:List Int)(i:Nat):List.take i (Af k l)=Af k (l.take i):=by
 have:=ED (CK k) l i
 simpa using this
theorem Kx.drop {l:List Int}(h:Kx l)(i:Nat):Kx (l.drop i):=fun x hx=>h x (List.mem_of_mem_drop hx)
theorem Kx.take {l:List Int}(h:Kx l)(i:Nat):Kx (l.take i):=fun x hx=>h x (List.mem_of_mem_take hx)
theorem Ak7 {a0 a1:Int}{n:Nat}{c:List PV}{l:List Int}(hb:Kx l)(hl:l.length<=1099511627776)(hfu:100<=fu)(nn:Nat)(v:W4):
  I1 fu (Ae (CX xs) Tryz.prog fu (d+3)) a0 a1 n c (nn+1) l.length (Af .u8 l) ((l.length / 8:Nat):Int) ((l.length / 8:Nat):Int) ((l.length / 8:Nat):Int) v.a v.b v.c v.d=some ⟨[.sc (.int .u64 (Afo (Aei (Td v (Ok l)))))],[]⟩:=by
 have w8:wrap .i64 (8*((l.length / 8:Nat):Int))=((8*(l.length / 8):Nat):Int):=by rw [Al (by omega) (by omega)];omega
 have wl:wrap .u64 (l.length:Int)=l.length:=Cq (by omega) (by omega)
 have hdl:(l.drop (8*(l.length / 8))).length=l.length-8*(l.length / 8):=List.length_drop;have li:=RL (xs:=xs) (fu:=fu) (d:=d+2) (hb.drop (8*(l.length / 8))) (by omega) hfu
 rw [hdl] at li;have tk:List.take (l.length-8*(l.length / 8)) (Af .u8 (l.drop (8*(l.length / 8))))=Af .u8 (l.drop (8*(l.length / 8))):=To (by rw [Am,hdl];omega)
 have hbn:=Uc (hb.drop (8*(l.length / 8)));rw [hdl] at hbn
 have hp7:(256:Int) ^ (l.length-8*(l.length / 8))<=256 ^ 7:=by
  have:(256:Nat) ^ (l.length-8*(l.length / 8))<=256 ^ 7:=Nat.pow_le_pow_right (by omega) (by omega)
  have h2:(((256:Nat) ^ (l.length-8*(l.length / 8)):Nat):Int)<=((256 ^ 7:Nat):Int):=by omega
  simpa using h2
 have hlast:PK .u64 (S6 (l.drop (8*(l.length / 8)))) (Hc .u64 (l.length:Int) 56)=Ok l:=by
  have hs:Hc .u64 (l.length:Int) 56=(((l.length % 256)*2 ^ 56:Nat):Int):=by
   show wrap .u64 ((l.length:Int)*2 ^ (min (56:Int).toNat IntKind.u64.bits))=_;have h2:(2:Int) ^ (min (56:Int).toNat IntKind.u64.bits)=72057594037927936:=by decide
   have h3:(2:Nat) ^ 56=72057594037927936:=by decide
   rw [h2,h3];simp only [wrap,IntKind.signed,IntKind.bits];simp;omega
  have h56:(256:Int) ^ 7=((2 ^ 56:Nat):Int):=by decide
  have h3:(2:Nat) ^ 56=72057594037927936:=by decide
  rw [hs,(SG 56 (l.length % 256) hbn.1 (by omega) rfl (by omega)).1]
  unfold Ok;omega
 have ab:=QO (xs:=xs) (fu:=fu) (d:=d) hfu v (Ok l);have r4:=PW (xs:=xs) (fu:=fu) (d:=d+1) 4 (by omega) hfu ⟨(Td v (Ok l)).a,(Td v (Ok l)).b,D2 .u64 (Td v (Ok l)).c 255,(Td v (Ok l)).d⟩
 have e4:((4:Nat):Int)=4:=rfl;rw [e4] at r4;unfold Aei;generalize Td v (Ok l)=U at ab r4 ⊢;generalize Aav 4 ⟨U.a,U.b,D2 .u64 U.c 255,U.d⟩=R at r4 ⊢;simp only [W4.cells] at ab r4;rw [U7];simp (disch:=omega) only [Bx,Gy,B8,w8,wl,Ip,tk,li,hlast,ab,r4];rfl
theorem WM {a0 a1:Int}{n:Nat}{c:List PV}{l:List Int}(hb:Kx l)(hl:l.length<=1099511627776)(hfu:100<=fu):∀(k i nn:Nat)(v:W4),i+k=l.length / 8->k<nn ->
  I1 fu (Ae (CX xs) Tryz.prog fu (d+3)) a0 a1 n c nn l.length (Af .u8 l) ((l.length / 8:Nat):Int) ((l.length / 8:Nat):Int) i v.a v.b v.c v.d=some ⟨[.sc (.int .u64 (Afo (Aei (Td (OW k v (l.drop (8*i))) (Ok l)))))],[]⟩
 |_,_,0,_,_,h=>by omega
 |0,i,nn+1,v,hi,hn=>by
  have e:i=l.length / 8:=by omega
  subst e;exact Ak7 hb hl hfu nn v
 |k+1,i,nn+1,v,hi,hn=>by
  have w:wrap .i64 ((i:Int)+1)=((i+1:Nat):Int):=by rw [Al (by omega) (by omega)];omega
  have w8:wrap .i64 (8*(i:Int))=((8*i:Nat):Int):=by rw [Al (by omega) (by omega)];omega
  have w88:wrap .i64 (((8*i:Nat):Int)+8)=((8*i+8:Nat):Int):=by rw [Al (by omega) (by omega)];omega
  have hdl:((l.drop (8*i)).take 8).length=8:=by rw [List.length_take,List.length_drop];omega
  have li:=RL (xs:=xs) (fu:=fu) (d:=d+2) ((hb.drop (8*i)).take 8) (by omega) hfu
  rw [hdl] at li;have e8:8*i+8-8*i=8:=by omega
  have ab:=QO (xs:=xs) (fu:=fu) (d:=d) hfu v (S6 ((l.drop (8*i)).take 8));have ih:=WM (a0:=a0) (a1:=a1) (n:=n) (c:=c) hb hl hfu k (i+1) nn (Td v (S6 ((l.drop (8*i)).take 8))) (by omega) (by omega)
  have eN:OW (k+1) v (l.drop (8*i))=OW k (Td v (S6 ((l.drop (8*i)).take 8))) (l.drop (8*(i+1))):=by
   rw [OW,List.drop_drop,show 8*i+8=8*(i+1) by omega]
  rw [eN];generalize Td v (S6 ((l.drop (8*i)).take 8))=U at ab ih ⊢;simp only [W4.cells] at ab;rw [U7];simp (disch:=omega) only [Bx,Gy,B8,w,w8,w88,e8,Ip,Pg,li,ab];exact ih
theorem Ahw {l:List Int}(hb:Kx l)(hl:l.length<=1099511627776)(hfu:100<=fu)(hf:l.length<fu)(k0 k1:Int):Ae (CX xs) Tryz.prog fu (d+4) BG [.sc (.int .u64 k0),.sc (.int .u64 k1),.lst false 1 l.length (Af .u8 l)]=some ⟨[.sc (.int .u64 (Amn k0 k1 l))],[]⟩:=by
 rw [SZ]
 have w:wrap .i64 (Int.tdiv (l.length:Int) 8)=((l.length / 8:Nat):Int):=by
  rw [Int.tdiv_eq_ediv_of_nonneg (by omega),Al (by omega) (by omega)]
  omega
 have lp:=WM (xs:=xs) (fu:=fu) (d:=d) (a0:=k0) (a1:=k1) (n:=l.length) (c:=Af .u8 l) hb hl hfu (l.length / 8) 0 fu (Aom k0 k1) (by omega) (by omega)
 simp only [Hm,w];exact lp
theorem Acz {l:List Int}(hb:Kx l)(hl:l.length<=1099511627776)(hfu:100<=fu)(hf:l.length<fu)(dom:Int):Ae (CX xs) Tryz.prog fu (d+5) Ry [.sc (.int .i64 dom),.lst false 1 l.length (Af .u8 l)]=some ⟨[.sc (.int .u64 (My dom l))],[]⟩:=by
 rw [OS];have s:=Ahw (xs:=xs) (fu:=fu) (d:=d) hb hl hfu hf (wrap .u64 dom) 0;simp only [Bx,s];rfl
theorem Pf (v:W4):Ae (CX xs) Tryz.prog fu (d+2) Nz [.agg [.sc (.int .u64 v.a),.sc (.int .u64 v.b),.sc (.int .u64 v.c),.sc (.int .u64 v.d)]]=some ⟨[.agg (NR v).cells],[]⟩:=by
 have r13:=fun x=>Ahu (xs:=xs) (fu:=fu) (d:=d) (x:=x) (k:=13) (by simp)
 have r16:=fun x=>Ahu (xs:=xs) (fu:=fu) (d:=d) (x:=x) (k:=16) (by simp)
 have r17:=fun x=>Ahu (xs:=xs) (fu:=fu) (d:=d) (x:=x) (k:=17) (by simp)
 have r21:=fun x=>Ahu (xs:=xs) (fu:=fu) (d:=d) (x:=x) (k:=21) (by simp)
 have r32:=fun x=>Ahu (xs:=xs) (fu:=fu) (d:=d) (x:=x) (k:=32) (by simp)
 rw [X3];simp (disch:=omega) only [Bx,r13,r16,r17,r21,r32];rfl
def Vp (l:List Int)(i k:Nat):Int:=if i+k<l.length then l.getD (i+k) 0 else if k=7 then (l.length:Int) % 256 else 0
def pc (l:List Int)(i:Nat):List Int:=(List.range 8).map (Vp l i)
theorem Avp {l:List Int}(hb:Kx l)(i:Nat):Kx (pc l i):=by
 intro x hx;obtain ⟨k,hk,rfl⟩:=List.mem_map.1 hx;unfold Vp;split
 ·rename_i h;rw [List.getD_eq_getElem?_getD,List.getElem?_eq_getElem h];exact hb _ (List.getElem_mem h)
 ·split<;>omega
theorem Ak0 {l:List Int}{i:Nat}(h:i+8<=l.length):pc l i=(l.drop i).take 8:=by
 refine List.ext_getElem (by simp [pc];omega) fun k h1 h2=>?_
 have hk:k<8:=by simpa [pc] using h1
 simp only [pc,List.getElem_map,List.getElem_range,List.getElem_take,List.getElem_drop,Vp];rw [Bv (by omega),List.getD_eq_getElem?_getD,List.getElem?_eq_getElem (by omega)]
 rfl
theorem RV (x:Int):∀n,S6 (List.replicate n 0++[x])=256 ^ n*x
 |0=>by simp [S6]
 |n+1=>by
  rw [List.replicate_succ,List.cons_append,S6,RV x n,Int.pow_succ,Int.mul_comm (256 ^ n) 256,Int.mul_assoc];omega
theorem Al7 {l:List Int}:S6 (pc l (8*(l.length / 8)))=Ok l:=by
 have e:pc l (8*(l.length / 8))=l.drop (8*(l.length / 8))++(List.replicate (7-(l.length-8*(l.length / 8))) 0++[(l.length:Int) % 256]):=by
  refine List.ext_getElem (by simp [pc];omega) fun k h1 h2=>?_
  have hk:k<8:=by simpa [pc] using h1
  simp only [pc,List.getElem_map,List.getElem_range,Vp];by_cases hc:8*(l.length / 8)+k<l.length
  ·rw [Bv hc,List.getElem_append_left (by rw [List.length_drop];omega),List.getElem_drop,List.getD_eq_getElem?_getD,List.getElem?_eq_getElem hc]
   rfl
  ·rw [A5 hc,List.getElem_append_right (by rw [List.length_drop];omega)]
   by_cases h7:k=7
   ·rw [Bv h7,List.getElem_append_right (by simp;omega)]
    simp
   ·rw [A5 h7,List.getElem_append_left (by simp;omega)]
    simp
 rw [e,Z2,RV];unfold Ok
 have:(256:Int) ^ (l.drop (8*(l.length / 8))).length*(256 ^ (7-(l.length-8*(l.length / 8)))*((l.length:Int) % 256))=72057594037927936*((l.length:Int) % 256):=by
  rw [←Int.mul_assoc,←Int.pow_add,List.length_drop];have:l.length-8*(l.length / 8)+(7-(l.length-8*(l.length / 8)))=7:=by omega
  rw [this];rfl
 rw [this]
theorem Ata {a b:Int}(ha:0<=a)(ha':a<72057594037927936)(hb:0<=b)(hb':b<=255):PK .u64 (Hc .u64 a 8) b=b+256*a:=by
 obtain ⟨n,rfl⟩:=Int.eq_ofNat_of_zero_le ha
 have hs:Hc .u64 (n:Int) 8=((n*2 ^ 8:Nat):Int):=by
  have:=Ac7 (a:=(n:Int)) (k:=8) (by omega) (by omega) (by omega) (by
   have:(2 ^ (8:Int).toNat:Nat)=256:=by decide
   rw [this];omega)
  rw [this];have:(2 ^ (8:Int).toNat:Nat)=256:=by decide
  rw [this];have:(2 ^ 8:Nat)=256:=by decide
  rw [this];omega
 have h8:(2 ^ 8:Nat)=256:=by decide
 rw [hs,(SG (a:=b) 8 n hb (by rw [h8];omega) rfl (by rw [h8];omega)).2,h8]
 omega
theorem Aco {a0 a1:Int}{n m0:Nat}{c:List PV}{l:List Int}(hb:Kx l)(hl:l.length<=1099511627776){i:Nat}(hi:i<=l.length)(v:W4):∀(j nn:Nat),j<=8->j<nn ->
  Er fu (Ae (CX xs) Tryz.prog fu (d+2)) a0 a1 n c m0 nn l.length (Af .u8 l) i (S6 ((pc l i).drop j)) ((j:Int)-1) v.cells =
   F1 fu (Ae (CX xs) Tryz.prog fu (d+2)) a0 a1 n c m0 l.length (Af .u8 l) ((i+8:Nat):Int) (Td v (S6 (pc l i))).cells
 |_,0,_,h=>by omega
 |0,nn+1,hj,hn=>by
  have w8:wrap .i64 ((i:Int)+8)=((i+8:Nat):Int):=by rw [Al (by omega) (by omega)];omega
  have r1:=Pf (xs:=xs) (fu:=fu) (d:=d) ⟨v.a,v.b,v.c,D2 .u64 v.d (S6 (pc l i))⟩;have r2:=Pf (xs:=xs) (fu:=fu) (d:=d) (NR ⟨v.a,v.b,v.c,D2 .u64 v.d (S6 (pc l i))⟩);have eA:Td v (S6 (pc l i))=At3 (NR (NR ⟨v.a,v.b,v.c,D2 .u64 v.d (S6 (pc l i))⟩)) (S6 (pc l i)):=rfl;rw [eA];generalize NR ⟨v.a,v.b,v.c,D2 .u64 v.d (S6 (pc l i))⟩=U at r1 r2 ⊢;generalize NR U=U2 at r2 ⊢;simp only [W4.cells] at r1 r2;rw [Nj,Dj _ _ _ (by omega),E6]
  simp only [W4.cells,List.getD_cons_zero,List.getD_cons_succ,TO,Hm];simp (disch:=first|omega|(simp;done)) only [Bx,Bd,List.take_succ_cons,List.take_zero,List.drop_succ_cons,E6,List.drop_nil,List.cons_append,Zzq,List.append_nil,Ja,AV,List.getD_cons_zero,List.getD_cons_succ,r1,r2,w8,Br,Nat.reduceAdd,Nat.reduceLeDiff,List.append_eq]
  rfl
 |j+1,nn+1,hj,hn=>by
  have ih:=Aco (a0:=a0) (a1:=a1) (n:=n) (m0:=m0) (c:=c) hb hl hi v j nn (by omega) (by omega)
  have hw:wrap .i64 ((i:Int)+(((j+1:Nat):Int)-1))=((i+j:Nat):Int):=by rw [Al (by omega) (by omega)];omega
  have wj:wrap .i64 (((j+1:Nat):Int)-1-1)=(j:Int)-1:=by rw [Al (by omega) (by omega)];omega
  have hd:(pc l i).drop j=Vp l i j::(pc l i).drop (j+1):=by
   rw [List.drop_eq_getElem_cons (by simp [pc];omega)]
   simp [pc]
  have hB:=Avp hb i;have hbn:=Uc (hB.drop (j+1))
  have hp7:(256:Int) ^ ((pc l i).drop (j+1)).length<=72057594037927936:=by
   have hlen:((pc l i).drop (j+1)).length<=7:=by simp [pc]
   have:(256:Nat) ^ ((pc l i).drop (j+1)).length<=256 ^ 7:=Nat.pow_le_pow_right (by omega) hlen
   have h2:(((256:Nat) ^ ((pc l i).drop (j+1)).length:Nat):Int)<=((256 ^ 7:Nat):Int):=by omega
   simpa using h2
  have hc0:0<=Vp l i j∧Vp l i j<=255:=hB _ (by rw [←E6 (l:=pc l i)];exact List.mem_of_mem_drop (i:=j) (by rw [E6,hd];simp))
  have hj2:PK .u64 (Hc .u64 (S6 ((pc l i).drop (j+1))) 8) (Vp l i j)=S6 ((pc l i).drop j):=by
   rw [Ata hbn.1 (by omega) hc0.1 hc0.2,hd]
   rfl
  have wc:wrap .u64 (Vp l i j)=Vp l i j:=Cq (by omega) (by omega)
  rw [Nj,LS _ _ _ (by omega)]
  simp only [Hm,hw];by_cases c1:i+j<l.length
  ·have e:Vp l i j=l.getD (i+j) 0:=by unfold Vp;rw [Bv c1]
   have e2:l[i+j]?=some (Vp l i j):=by rw [e,List.getD_eq_getElem?_getD,List.getElem?_eq_getElem c1];rfl
   rw [LS _ _ _ (by omega)]
   simp (disch:=omega) only [Bx,Gy,B8,Vf e2,wc,hj2,wj];exact ih
  ·rw [Dj _ _ _ (by omega)]
   by_cases h7:j=7
   ·subst h7;have e:Vp l i 7=(l.length:Int) % 256:=by unfold Vp;rw [A5 c1,Bv rfl]
    have e8:wrap .u8 (l.length:Int)=Vp l i 7:=by
     rw [e];simp only [wrap,IntKind.signed,IntKind.bits];simp
    rw [Et,Bv (by omega),e8,wc,hj2,wj]
    exact ih
   ·have e:Vp l i j=0:=by unfold Vp;rw [A5 c1,A5 h7]
    rw [e] at hj2;rw [Et,A5 (by omega),hj2,wj]
    exact ih
theorem QX {a0 a1:Int}{n:Nat}{c:List PV}{l:List Int}(hb:Kx l)(hl:l.length<=1099511627776)(hfu:100<=fu):∀(k i nn:Nat)(v:W4),i+k=l.length / 8->k+1<nn ->
  F1 fu (Ae (CX xs) Tryz.prog fu (d+2)) a0 a1 n c nn l.length (Af .u8 l) ((8*i:Nat):Int) v.cells=some ⟨[.sc (.int .u64 (Afo (Aei (Td (OW k v (l.drop (8*i))) (Ok l)))))],[]⟩
 |_,_,0,_,_,h=>by omega
 |k,i,nn+1,v,hi,hn=>by
  have step:=Aco (xs:=xs) (fu:=fu) (d:=d) (a0:=a0) (a1:=a1) (n:=n) (m0:=nn) (c:=c) hb hl (i:=8*i) (by omega) v 8 fu (by omega) (by omega)
  have e0:S6 ((pc l (8*i)).drop 8)=0:=by rw [List.drop_of_length_le (by simp [pc])];rfl
  rw [e0] at step;rw [M0,LS _ _ _ (by omega)]
  refine step.trans ?_;cases k with
  |zero=>
   have e:i=l.length / 8:=by omega
   subst e;rw [Al7];generalize hv:Td v (Ok l)=u;obtain ⟨nn',rfl⟩:∃nn',nn=nn'+1:=⟨nn-1,by omega⟩
   have r1:=Pf (xs:=xs) (fu:=fu) (d:=d) ⟨u.a,u.b,D2 .u64 u.c 255,u.d⟩;have r2:=Pf (xs:=xs) (fu:=fu) (d:=d) (NR ⟨u.a,u.b,D2 .u64 u.c 255,u.d⟩);have r3:=Pf (xs:=xs) (fu:=fu) (d:=d) (NR (NR ⟨u.a,u.b,D2 .u64 u.c 255,u.d⟩));have r4:=Pf (xs:=xs) (fu:=fu) (d:=d) (NR (NR (NR ⟨u.a,u.b,D2 .u64 u.c 255,u.d⟩)))
   have eF:Afo (Aei (Td (OW 0 v (l.drop (8*(l.length / 8)))) (Ok l)))=Afo (NR (NR (NR (NR ⟨u.a,u.b,D2 .u64 u.c 255,u.d⟩)))):=by
    rw [OW,hv];rfl
   rw [eF];clear eF;generalize NR ⟨u.a,u.b,D2 .u64 u.c 255,u.d⟩=U1 at r1 r2 r3 r4 ⊢;generalize NR U1=U2 at r2 r3 r4 ⊢;generalize NR U2=U3 at r3 r4 ⊢;generalize NR U3=U4 at r4 ⊢;simp only [W4.cells] at r1 r2 r3 r4;rw [M0,Dj _ _ _ (by omega)]
   simp only [W4.cells,List.getD_cons_zero,List.getD_cons_succ,TO,Hm];simp (disch:=first|omega|(simp;done)) only [Bx,Bd,List.take_succ_cons,List.take_zero,List.drop_succ_cons,E6,List.drop_nil,List.cons_append,Zzq,List.append_nil,Ja,AV,List.getD_cons_zero,List.getD_cons_succ,r1,r2,r3,r4,Br,Nat.reduceAdd,Nat.reduceLeDiff,List.append_eq]
   rfl
  |succ k=>
   have ih:=QX (a0:=a0) (a1:=a1) (n:=n) (c:=c) hb hl hfu k (i+1) nn (Td v (S6 (pc l (8*i)))) (by omega) (by omega)
   rw [show 8*i+8=8*(i+1) by omega,ih,Ak0 (by omega)]
   simp only [OW,List.drop_drop];rw [show 8*(i+1)=8*i+8 by omega]
theorem Adv {l:List Int}(hb:Kx l)(hl:l.length<=1099511627776)(hfu:100<=fu)(hf:l.length<fu)(k0 k1:Int):Ae (CX xs) Tryz.prog fu (d+3) Q4 [.sc (.int .u64 k0),.sc (.int .u64 k1),.lst false 1 l.length (Af .u8 l)]=some ⟨[.sc (.int .u64 (Amn k0 k1 l))],[]⟩:=by
 rw [CR];exact QX (xs:=xs) (fu:=fu) (d:=d) (a0:=k0) (a1:=k1) (n:=l.length) (c:=Af .u8 l) hb hl hfu (l.length / 8) 0 fu (Aom k0 k1) (by omega) (by omega)
theorem MD {l:List Int}(hb:Kx l)(hl:l.length<=1099511627776)(hfu:100<=fu)(hf:l.length<fu)(dom:Int):Ae (CX xs) Tryz.prog fu (d+4) Ji [.sc (.int .i64 dom),.lst false 1 l.length (Af .u8 l)]=some ⟨[.sc (.int .u64 (My dom l))],[]⟩:=by
 rw [Z7];have s:=Adv (xs:=xs) (fu:=fu) (d:=d) hb hl hfu hf (wrap .u64 dom) 0;simp only [Bx,s];rfl
theorem Amf {l:List Int}(hb:Kx l)(hl:l.length<=1099511627776)(hfu:100<=fu)(hf:l.length<fu)(key dom:Int):Ae (CX xs) Tryz.prog fu (d+4) Rh [.sc (.int .u64 key),.sc (.int .i64 dom),.lst false 1 l.length (Af .u8 l)]=some ⟨[.sc (.int .u64 (Al0 key dom l))],[]⟩:=by
 rw [DK];have s:=Adv (xs:=xs) (fu:=fu) (d:=d) hb hl hfu hf key (wrap .u64 (1+wrap .u64 dom));simp only [Bx,s];rfl
end
end
section
open Go.IntKind (wrap)
def Da (w:Int)(k:Nat):Int:=wrap .u8 (D7 .u64 w (56-8*(k:Int)))
def D3 (w:Int):List Int:=(List.range' 0 8).map (Da w)
def A6 (ws:List Int):List Int:=ws.flatMap D3
theorem Fa (w:Int):(D3 w).length=8:=rfl
section
variable {fu d:Nat} {xs:FuncId->Option (List PV->Option A0)} {call:Ah} {n:Nat} {c:List PV}
theorem WQ {ws:List Int}{w:Int}{m0 l:Nat}{i k:Int}:∀(r j nn:Nat)(bs:List Int),8-j=r->r<nn->j<=8->bs.length+r<=34359738368 ->
  Jd fu call n c m0 nn bs.length w l (Af .u64 ws) k i j (Af .u8 bs) =
   Hl fu call n c m0 (bs++(List.range' j (8-j)).map (Da w)).length l (Af .u64 ws) k (wrap .i64 (i+1)) (Af .u8 (bs++(List.range' j (8-j)).map (Da w)))
 |r,j,0,bs,_,h,_,_=>by omega
 |0,j,nn+1,bs,hr,_,hj,_=>by
  have e:j=8:=by omega
  subst e;rw [Q2];simp (disch:=omega) only [Bx];simp
 |r+1,j,nn+1,bs,hr,hn,hj,hb=>by
  have ih:=WQ (ws:=ws) (w:=w) (m0:=m0) (l:=l) (i:=i) (k:=k) r (j+1) nn (bs++[Da w j]) (by omega) (by omega) (by omega) (by simp;omega)
  have e8:=Am .u8 bs;rw [Q2]
  have hx:wrap .u8 (D7 .u64 w (wrap .i64 (56-wrap .i64 (8*(j:Int)))))=Da w j:=by
   rw [Al (x:=8*(j:Int)) (by omega) (by omega),Al (by omega) (by omega)]
   rfl
  have h0:0<=wrap .i64 (56-wrap .i64 (8*(j:Int))):=by
   rw [Al (x:=8*(j:Int)) (by omega) (by omega),Al (by omega) (by omega)]
   omega
  have hrange:List.range' j (8-j)=j::List.range' (j+1) (8-(j+1)):=by
   rw [show 8-j=(8-(j+1))+1 by omega]
   exact List.range'_succ
  simp (disch:=first|omega|exact h0) only [Bx,B8,hx,J6,Fv,Al (x:=(j:Int)+1)];rw [hrange];simp only [Kt,Ja,AV,Br,ZJ,Zzw,List.singleton_append] at ih ⊢;exact ih
theorem KP {ws:List Int}(hl:ws.length<=1073741824)(hfu:100<=fu):∀(r:List Int)(i nn:Nat)(bs:List Int),ws.drop i=r->r.length<nn->bs.length=8*i ->
  Hl fu call n c nn bs.length ws.length (Af .u64 ws) ws.length i (Af .u8 bs)=some ⟨[.own 1 (bs++A6 r).length (Af .u8 (bs++A6 r))],[]⟩
 |r,i,0,_,_,h,_=>by omega
 |[],i,nn+1,bs,h,_,_=>by
  have:=drop_nil h;have e8:=Am .u8 bs;rw [Rc];simp (disch:=omega) only [Bx,B8,J6,A6,List.flatMap_nil,List.append_nil]
 |w::r,i,nn+1,bs,h,hn,hb=>by
  obtain ⟨h1,h2,h3⟩:=B3 h;simp only [Ja] at hn;rw [Rc];simp (disch:=omega) only [Bx,Gy,B8,Vf h2];rw [show (0:Int)=((0:Nat):Int) from rfl,WQ 8 0 fu bs rfl (by omega) (by omega) (by omega),Al (by omega) (by omega)]
  have ih:=KP hl hfu r (i+1) nn (bs++D3 w) h3 (by omega) (by simp [Fa];omega)
  have e:bs++D3 w++A6 r=bs++A6 (w::r):=by simp [A6]
  rw [e] at ih;exact ih
theorem Ps {ws:List Int}(hl:ws.length<=1073741824)(hfu:100<=fu)(hf:ws.length<fu):Ae (CX xs) Tryz.prog fu (d+1) Fs [.lst false 1 ws.length (Af .u64 ws)]=some ⟨[.own 1 (A6 ws).length (Af .u8 (A6 ws))],[]⟩:=by
 rw [KL];simp (disch:=omega) only [Bx,Al,Int.mul_one];exact KP hl hfu ws 0 fu [] rfl hf rfl
theorem PQ {ws:List Int}{w:Int}{m0 i:Nat}(hw:ws[i]?=some w):∀(r nn:Nat)(j:Int)(bs:List Int),j=(r:Int)-1->r<=8->r<nn->bs.length+r<=34359738368 ->
  Gd fu call n c m0 nn ws.length (Af .u64 ws) bs.length i j (Af .u8 bs) =
   Ey fu call n c m0 ws.length (Af .u64 ws) (bs++(List.range' (8-r) r).map (Da w)).length (wrap .i64 (i+1)) (Af .u8 (bs++(List.range' (8-r) r).map (Da w)))
 |r,0,j,bs,_,_,h,_=>by omega
 |0,nn+1,j,bs,hr,_,_,_=>by
  rw [Kc];simp (disch:=omega) only [Bx];simp
 |r+1,nn+1,j,bs,hr,hle,hn,hb=>by
  have hi:=SO hw;have ih:=PQ (m0:=m0) hw r nn (j-1) (bs++[Da w (8-(r+1))]) (by omega) (by omega) (by omega) (by simp;omega)
  have e8:=Am .u8 bs
  have hx:wrap .u8 (D7 .u64 w (wrap .u64 (wrap .i64 (8*j))))=Da w (8-(r+1)):=by
   rw [Al (by omega) (by omega),Cq (by omega) (by omega)]
   unfold Da;rw [show 56-8*((8-(r+1):Nat):Int)=8*j by omega]
  have h0:0<=wrap .u64 (wrap .i64 (8*j)):=by
   rw [Al (by omega) (by omega),Cq (by omega) (by omega)]
   omega
  have hrange:List.range' (8-(r+1)) (r+1)=(8-(r+1))::List.range' (8-r) r:=by
   rw [List.range'_succ,show 8-(r+1)+1=8-r by omega]
  rw [Kc];simp (disch:=first|omega|exact h0) only [Bx,Gy,B8,Vf hw,hx,J6,Fv,Al (x:=j-1)];rw [hrange];simp only [Kt,Ja,AV,Br,ZJ,Zzw,List.singleton_append] at ih ⊢;exact ih
theorem GQ {ws:List Int}(hl:ws.length<=1073741824)(hfu:100<=fu):∀(r:List Int)(i nn:Nat)(bs:List Int),ws.drop i=r->r.length<nn->bs.length=8*i ->
  Ey fu call n c nn ws.length (Af .u64 ws) bs.length i (Af .u8 bs)=some ⟨[.own 1 (bs++A6 r).length (Af .u8 (bs++A6 r))],[]⟩
 |r,i,0,_,_,h,_=>by omega
 |[],i,nn+1,bs,h,_,_=>by
  have:=drop_nil h;have e8:=Am .u8 bs;rw [Kp];simp (disch:=omega) only [Bx,B8,J6,A6,List.flatMap_nil,List.append_nil]
 |w::r,i,nn+1,bs,h,hn,hb=>by
  obtain ⟨h1,h2,h3⟩:=B3 h;simp only [Ja] at hn;rw [Kp];simp (disch:=omega) only [Bx];rw [PQ h2 8 fu 7 bs rfl (by omega) (by omega) (by omega),Al (by omega) (by omega)]
  have ih:=GQ hl hfu r (i+1) nn (bs++D3 w) h3 (by omega) (by simp [Fa];omega)
  have e:bs++D3 w++A6 r=bs++A6 (w::r):=by simp [A6]
  rw [e] at ih;exact ih
theorem Tf {ws:List Int}(hl:ws.length<=1073741824)(hfu:100<=fu)(hf:ws.length<fu):Ae (CX xs) Tryz.prog fu (d+1) Ec [.lst false 1 ws.length (Af .u64 ws)]=some ⟨[.own 1 (A6 ws).length (Af .u8 (A6 ws))],[]⟩:=by
 rw [Yg];exact GQ hl hfu ws 0 fu [] rfl hf rfl
end
abbrev Fo (a b:Int):Int:=PK .u64 (Hc .u64 a 8) (wrap .u64 b)
def MB (bs:List Int):Int:=bs.foldl Fo 0
theorem Ams {q:Int}(h0:0<=q)(h1:q<=18446744073709551615):Fo (q / 256) (wrap .u8 q)=q:=by
 have e1:Hc .u64 (q / 256) 8=q / 256*256:=by
  unfold Hc;have:((8:Int).toNat.min IntKind.u64.bits)=8:=by decide
  show wrap .u64 (q / 256*2 ^ (min (8:Int).toNat IntKind.u64.bits))=_;have h2:(2:Int) ^ (min (8:Int).toNat IntKind.u64.bits)=256:=by decide
  rw [h2,Cq (by omega) (by omega)]
 have e2:wrap .u8 q=q % 256:=by
  simp only [wrap,IntKind.signed,IntKind.bits];simp
 have e3:wrap .u64 (q % 256)=q % 256:=Cq (by omega) (by omega)
 unfold Fo;rw [e1,e2,e3];obtain ⟨n,rfl⟩:=Int.eq_ofNat_of_zero_le h0;have hn:n<18446744073709551616:=by omega
 have e4:(BitVec.ofInt 64 ((n:Int) / 256*256)).toNat=n / 256*256:=by
  rw [BitVec.toNat_ofInt];omega
 have e5:(BitVec.ofInt 64 ((n:Int) % 256)).toNat=n % 256:=by
  rw [BitVec.toNat_ofInt];omega
 have e6:n / 256*256 ||| n % 256=n:=by
  have:=Nat.shiftLeft_add_eq_or_of_lt (show n % 256<2 ^ 8 by omega) (n / 256)
  rw [Nat.shiftLeft_eq] at this;rw [←this];omega
 unfold PK;show wrap .u64 ((BitVec.ofInt 64 ((n:Int) / 256*256) ||| BitVec.ofInt 64 ((n:Int) % 256)).toNat:Int)=n;rw [BitVec.toNat_or,e4,e5,e6,Cq (by omega) (by omega)]
theorem QF {w:Int}(k:Nat)(hk:k<8):Da w k=wrap .u8 (w / 2 ^ (56-8*k)):=by
 unfold Da D7;have e:(56-8*(k:Int)).toNat=56-8*k:=by omega
 rw [e,Nat.min_eq_left (by show 56-8*k<=64;omega),Int.fdiv_eq_ediv_of_nonneg _ (Int.le_of_lt (Int.pow_pos (by omega)))]
theorem PT {w:Int}(h0:0<=w)(h1:w<=18446744073709551615):MB (D3 w)=w:=by
 have st:∀(k:Nat) (D:Int),k<8->(2:Int) ^ (56-8*k)=D->0<D->Fo (w / D / 256) (Da w k)=w / D:=by
  intro k D hk hD hp;rw [QF k hk,hD];exact Ams (Int.ediv_nonneg h0 (Int.le_of_lt hp)) (Int.le_trans (Int.ediv_le_self _ h0) h1)
 have s0:=st 0 72057594037927936 (by omega) (by decide) (by omega)
 have s1:=st 1 281474976710656 (by omega) (by decide) (by omega)
 have s2:=st 2 1099511627776 (by omega) (by decide) (by omega)
 have s3:=st 3 4294967296 (by omega) (by decide) (by omega)
 have s4:=st 4 16777216 (by omega) (by decide) (by omega)
 have s5:=st 5 65536 (by omega) (by decide) (by omega)
 have s6:=st 6 256 (by omega) (by decide) (by omega)
 have s7:=st 7 1 (by omega) (by decide) (by omega)
 rw [show w / 72057594037927936 / 256=0 by omega] at s0
 rw [show w / 281474976710656 / 256=w / 72057594037927936 by omega] at s1
 rw [show w / 1099511627776 / 256=w / 281474976710656 by omega] at s2
 rw [show w / 4294967296 / 256=w / 1099511627776 by omega] at s3
 rw [show w / 16777216 / 256=w / 4294967296 by omega] at s4
 rw [show w / 65536 / 256=w / 16777216 by omega] at s5
 rw [show w / 256 / 256=w / 65536 by omega] at s6
 rw [show w / 1 / 256=w / 256 by omega,show w / 1=w by omega] at s7
 show Fo (Fo (Fo (Fo (Fo (Fo (Fo (Fo 0 (Da w 0)) (Da w 1)) (Da w 2)) (Da w 3)) (Da w 4)) (Da w 5)) (Da w 6)) (Da w 7)=w;rw [s0,s1,s2,s3,s4,s5,s6,s7]
end
section
open Go.IntKind (wrap)
set_option maxRecDepth 100000
abbrev Sh:FuncId:=104
noncomputable def Ga (fu:Nat)(call:Ah)(a0:Int)(nn:Nat)(y0 y1 y2:Int)(y3 y4:List PV):Option A0:=Co CB Tryz.prog fu call 104 Tryz.f104 (Bm Tryz.f104) [.sc (.int .u64 a0)] [.r,.r,.r,.l,.r,.l] nn ⟨lk [(0,(.sc (.int .u64 y0))),(2,(.ptr 2 0)),(3,(.ptr 3 0)),(4,(.sc (.int .i64 y1))),(6,(.sc (.int .i64 y2)))],B7 [(2,(.ar false y3)),(3,(.ar false y4))]⟩
noncomputable def Ro (fu:Nat)(call:Ah)(a0:Int)(nn:Nat)(y0 y1:List PV):Option A0:=Co CB Tryz.prog fu call 104 Tryz.f104 (Bm Tryz.f104) [.sc (.int .u64 a0)] [.r,.r,.r,.r,.r] nn ⟨lk [(2,(.ptr 2 0)),(3,(.ptr 3 0))],B7 [(2,(.ar false y0)),(3,(.ar false y1))]⟩
noncomputable def Q9 (fu:Nat)(call:Ah)(a0:Int)(nn:Nat)(y0:List PV):Option A0:=Co CB Tryz.prog fu call 104 Tryz.f104 (Bm Tryz.f104) [.sc (.int .u64 a0)] [.r,.r,.r,.r,.r,.r] nn ⟨lk [(2,(.ptr 2 0))],B7 [(2,(.ar false y0))]⟩
theorem Og (fu:Nat)(call:Ah)(a0:Int)(nn:Nat)(y0 y1 y2:Int)(y3 y4:List PV):Ga fu call a0 (nn+1) y0 y1 y2 y3 y4=(A9 (decide (y2<16)) (Aa (wrap .i64 (4*y2)) fun x1=>Aa (wrap .i64 (60-x1)) fun x2=>Au (decide (0<=x2))<|Aa (D7 .u64 y0 x2) fun x3=>Aa (Qv .u64 x3 15) fun x4=>Aa (wrap .i64 x4) fun x5=>Au (decide (0<=y2)&&decide (y2<18))<|Au (decide (0+Int.toNat y2*1+1<=y4.length))<|Aa (Bd y4 [.sc (.int .i64 x5)] (0+Int.toNat y2*1)) fun x6=>Au (decide (0<=y2)&&decide (y2<18))<|Ad .i64 (List.getD x6 (0+Int.toNat y2*1) .top) fun x7=>Aa (wrap .i64 (15-x7)) fun x8=>Aa (wrap .i64 (y1+x8)) fun x9=>Aa (wrap .i64 (y2+1)) fun Cl=>Ga fu call a0 (nn) (y0) x9 Cl (y3) x6) (Aa (wrap .i64 (Int.tdiv y1 16)) fun Cw=>Au (decide (17<=y4.length))<|Aa (Bd y4 [.sc (.int .i64 Cw)] 16) fun Dl=>Aa (Int.tmod y1 16) fun Dr=>Au (decide (18<=Dl.length))<|Aa (Bd Dl [.sc (.int .i64 Dr)] 17) fun Dk=>Ro fu call a0 (fu) (y3) Dk)):=by kernel_rfl
theorem X7 (fu:Nat)(call:Ah)(a0:Int)(nn:Nat)(hnn:0<nn)(y0 y1:List PV):Ro fu call a0 nn y0 y1=(Ad .i64 (List.getD y1 0 .top) fun D9=>Ad .i64 (List.getD y1 1 .top) fun Ea=>Ad .i64 (List.getD y1 2 .top) fun En=>Ad .i64 (List.getD y1 3 .top) fun E2=>Ad .i64 (List.getD y1 4 .top) fun Fg=>Ad .i64 (List.getD y1 5 .top) fun Fp=>Ad .i64 (List.getD y1 6 .top) fun Hp=>Ad .i64 (List.getD y1 7 .top) fun Hb=>Ad .i64 (List.getD y1 8 .top) fun Hq=>Ad .i64 (List.getD y1 9 .top) fun Dz=>Ad .i64 (List.getD y1 10 .top) fun Dq=>Ad .i64 (List.getD y1 11 .top) fun F5=>Ad .i64 (List.getD y1 12 .top) fun H3=>Ad .i64 (List.getD y1 13 .top) fun E1=>Ad .i64 (List.getD y1 14 .top) fun Jk=>Ad .i64 (List.getD y1 15 .top) fun L8=>Ad .i64 (List.getD y1 16 .top) fun Jt=>Ad .i64 (List.getD y1 17 .top) fun Mr=>Au (decide (18<=y0.length))<|Aa (Bd y0 [.sc (.int .i64 D9),.sc (.int .i64 Ea),.sc (.int .i64 En),.sc (.int .i64 E2),.sc (.int .i64 Fg),.sc (.int .i64 Fp),.sc (.int .i64 Hp),.sc (.int .i64 Hb),.sc (.int .i64 Hq),.sc (.int .i64 Dz),.sc (.int .i64 Dq),.sc (.int .i64 F5),.sc (.int .i64 H3),.sc (.int .i64 E1),.sc (.int .i64 Jk),.sc (.int .i64 L8),.sc (.int .i64 Jt),.sc (.int .i64 Mr)] 0) fun Mb=>Q9 fu call a0 (fu) Mb):=by cases nn with|zero=>exact absurd hnn (Nat.lt_irrefl 0)|succ nn=>kernel_rfl
theorem Xy (fu:Nat)(call:Ah)(a0:Int)(nn:Nat)(hnn:0<nn)(y0:List PV):Q9 fu call a0 nn y0=(Ad .i64 (List.getD y0 0 .top) fun Np=>Ad .i64 (List.getD y0 1 .top) fun Qp=>Ad .i64 (List.getD y0 2 .top) fun Pt=>Ad .i64 (List.getD y0 3 .top) fun R5=>Ad .i64 (List.getD y0 4 .top) fun Hh=>Ad .i64 (List.getD y0 5 .top) fun J8=>Ad .i64 (List.getD y0 6 .top) fun Va=>Ad .i64 (List.getD y0 7 .top) fun Y9=>Ad .i64 (List.getD y0 8 .top) fun Qq=>Ad .i64 (List.getD y0 9 .top) fun Nw=>Ad .i64 (List.getD y0 10 .top) fun Uh=>Ad .i64 (List.getD y0 11 .top) fun Sd=>Ad .i64 (List.getD y0 12 .top) fun Tp=>Ad .i64 (List.getD y0 13 .top) fun Xd=>Ad .i64 (List.getD y0 14 .top) fun Yb=>Ad .i64 (List.getD y0 15 .top) fun Sn=>Ad .i64 (List.getD y0 16 .top) fun Vz=>Ad .i64 (List.getD y0 17 .top) fun Yj=>some (A0.mk [.agg [.sc (.int .i64 Np),.sc (.int .i64 Qp),.sc (.int .i64 Pt),.sc (.int .i64 R5),.sc (.int .i64 Hh),.sc (.int .i64 J8),.sc (.int .i64 Va),.sc (.int .i64 Y9),.sc (.int .i64 Qq),.sc (.int .i64 Nw),.sc (.int .i64 Uh),.sc (.int .i64 Sd),.sc (.int .i64 Tp),.sc (.int .i64 Xd),.sc (.int .i64 Yb),.sc (.int .i64 Sn),.sc (.int .i64 Vz),.sc (.int .i64 Yj)]] [])):=by cases nn with|zero=>exact absurd hnn (Nat.lt_irrefl 0)|succ nn=>kernel_rfl
theorem ET {xs:FuncId->Option (List PV->Option A0)} (fu d:Nat)(a0:Int):Ae (CX xs) Tryz.prog fu (d+1) Sh [.sc (.int .u64 a0)]=(fun (call:Ah)=>Ga fu call a0 (fu) (a0) 0 0 ([.sc (.int .i64 0),.sc (.int .i64 0),.sc (.int .i64 0),.sc (.int .i64 0),.sc (.int .i64 0),.sc (.int .i64 0),.sc (.int .i64 0),.sc (.int .i64 0),.sc (.int .i64 0),.sc (.int .i64 0),.sc (.int .i64 0),.sc (.int .i64 0),.sc (.int .i64 0),.sc (.int .i64 0),.sc (.int .i64 0),.sc (.int .i64 0),.sc (.int .i64 0),.sc (.int .i64 0)]) ([.sc (.int .i64 0),.sc (.int .i64 0),.sc (.int .i64 0),.sc (.int .i64 0),.sc (.int .i64 0),.sc (.int .i64 0),.sc (.int .i64 0),.sc (.int .i64 0),.sc (.int .i64 0),.sc (.int .i64 0),.sc (.int .i64 0),.sc (.int .i64 0),.sc (.int .i64 0),.sc (.int .i64 0),.sc (.int .i64 0),.sc (.int .i64 0),.sc (.int .i64 0),.sc (.int .i64 0)])) (Ae (CX xs) Tryz.prog fu d):=by kernel_rfl
abbrev Zc:FuncId:=105
noncomputable def Kh (fu:Nat)(call:Ah)(a0 a1:Int)(a2 a3 a4:Int)(nn:Nat)(y0 y1:Int)(y2 y3 y4:Int):Option A0:=Co CB Tryz.prog fu call 105 Tryz.f105 (Bm Tryz.f105) [.sc (.int .i64 a0),.sc (.int .i64 a1),.sc (.int .i64 a2),.sc (.int .i64 a3),.sc (.int .u64 a4)] [.r,.r,.l,.r,.l] nn ⟨lk [(0,(.sc (.int .i64 y0))),(1,(.sc (.int .i64 y1))),(4,(.sc (.int .u64 y2))),(11,(.sc (.int .i64 y3))),(12,(.sc (.int .i64 y4)))],B7 []⟩
theorem S7 (fu:Nat)(call:Ah)(a0 a1:Int)(a2 a3 a4:Int)(nn:Nat)(y0 y1:Int)(y2 y3 y4:Int):Kh fu call a0 a1 a2 a3 a4 (nn+1) y0 y1 y2 y3 y4=(A9 (decide (y4<y3)) (Aa (wrap .u64 y0) fun x3=>Aa (wrap .u64 y1) fun x4=>Aa (wrap .u64 y4) fun x5=>Ag (call 89 [.lst false 1 4 [.sc (.int .u64 x3),.sc (.int .u64 x4),.sc (.int .u64 x5),.sc (.int .u64 y2)]]) fun x6 x7=>Ac x7<|Ab x6 fun x8 x9=>Es 1 x8 fun Cl Cw=>Ac x9<|Au (decide (0+Cl*1<=Cw.length))<|Ag (call 73 [.sc (.int .i64 1),.lst false 1 Cl (List.take (Cl*1) (List.drop 0 Cw))]) fun Dl Dr=>Ac Dr<|Ab Dl fun Dk D9=>Ad .u64 Dk fun Ea=>Ac D9<|Aa (wrap .i64 (y4+1)) fun En=>Kh fu call a0 a1 a2 a3 a4 (nn) (y0) (y1) Ea (y3) En) (some (A0.mk [.sc (.int .u64 y2)] []))):=by kernel_rfl
theorem OX {xs:FuncId->Option (List PV->Option A0)} (fu d:Nat)(a0 a1:Int)(a2 a3 a4:Int):Ae (CX xs) Tryz.prog fu (d+1) Zc [.sc (.int .i64 a0),.sc (.int .i64 a1),.sc (.int .i64 a2),.sc (.int .i64 a3),.sc (.int .u64 a4)]=(fun (call:Ah)=>Aa (if 15<a3 then 15 else a3) fun x1=>Aa (if a2<0 then 0 else a2) fun x2=>Kh fu call a0 a1 a2 a3 a4 (fu) (a0) (a1) (a4) x1 x2) (Ae (CX xs) Tryz.prog fu d):=by kernel_rfl
abbrev Rs:FuncId:=110
theorem CL {xs:FuncId->Option (List PV->Option A0)} (fu d:Nat)(a0 a1_0:Int)(a1_1 a1_2:Int)(Aij Agq:Int)(Ait Ai8:Int)(Ai0 Aj6:Int)(Aiv YI:Int)(XS WN:Int)(Amr Amv:Int)(Amt Ang Am6:Int):Ae (CX xs) Tryz.prog fu (d+1) Rs [.sc (.int .i64 a0),.agg [.sc (.int .u64 a1_0),.sc (.int .u64 a1_1),.sc (.int .u64 a1_2),.sc (.int .u64 Aij),.sc (.int .u64 Agq),.sc (.int .u64 Ait),.sc (.int .u64 Ai8),.sc (.int .u64 Ai0),.sc (.int .u64 Aj6),.sc (.int .u64 Aiv),.sc (.int .u64 YI),.sc (.int .u64 XS),.sc (.int .u64 WN),.sc (.int .u64 Amr),.sc (.int .u64 Amv),.sc (.int .u64 Amt),.sc (.int .u64 Ang),.sc (.int .u64 Am6)]]=(fun (call:Ah)=>Aa (wrap .u64 a0) fun x1=>Ag (call 89 [.lst false 1 19 [.sc (.int .u64 x1),.sc (.int .u64 a1_0),.sc (.int .u64 a1_1),.sc (.int .u64 a1_2),.sc (.int .u64 Aij),.sc (.int .u64 Agq),.sc (.int .u64 Ait),.sc (.int .u64 Ai8),.sc (.int .u64 Ai0),.sc (.int .u64 Aj6),.sc (.int .u64 Aiv),.sc (.int .u64 YI),.sc (.int .u64 XS),.sc (.int .u64 WN),.sc (.int .u64 Amr),.sc (.int .u64 Amv),.sc (.int .u64 Amt),.sc (.int .u64 Ang),.sc (.int .u64 Am6)]]) fun x2 x3=>Ac x3<|Ab x2 fun x4 x5=>Es 1 x4 fun x6 x7=>Ac x5<|Au (decide (0+x6*1<=x7.length))<|Ag (call 73 [.sc (.int .i64 2),.lst false 1 x6 (List.take (x6*1) (List.drop 0 x7))]) fun x8 x9=>Ac x9<|Ab x8 fun Cl Cw=>Ad .u64 Cl fun Dl=>Ac Cw<|some (A0.mk [.sc (.int .u64 Dl)] [])) (Ae (CX xs) Tryz.prog fu d):=by kernel_rfl
abbrev Ra:FuncId:=81
noncomputable def Ep (fu:Nat)(call:Ah)(a0 a1:Int)(a2n:Nat)(a2:List PV)(nn:Nat)(y0:Int)(y1:Nat)(y2:List PV)(y3 y4:Int)(y5 y6:Int)(y7 y8:Int)(y9 y10:Int)(Gh H2:Int)(Jb Ks:Int)(Lj Oy:Int)(Ob U6:Int)(Zv Yk U8:Int)(TU:List PV):Option A0:=Co CB Tryz.prog fu call 81 Tryz.f81 (Bm Tryz.f81) [.sc (.int .i64 a0),.sc (.int .u64 a1),.lst false 1 a2n a2] [.r,.r,.r,.l,.r,.l] nn ⟨lk [(0,(.sc (.int .i64 y0))),(2,(.lst false 1 y1 y2)),(8,(.ptr 8 0)),(15,(.agg [(.sc (.int .i64 y3)),(.sc (.int .i64 y4)),(.sc (.int .i64 y5)),(.sc (.int .i64 y6)),(.sc (.int .i64 y7)),(.sc (.int .i64 y8)),(.sc (.int .i64 y9)),(.sc (.int .i64 y10)),(.sc (.int .i64 Gh)),(.sc (.int .i64 H2)),(.sc (.int .i64 Jb)),(.sc (.int .i64 Ks)),(.sc (.int .i64 Lj)),(.sc (.int .i64 Oy)),(.sc (.int .i64 Ob)),(.sc (.int .i64 U6)),(.sc (.int .i64 Zv)),(.sc (.int .i64 Yk))])),(16,(.sc (.int .i64 U8)))],B7 [(8,(.ar false TU))]⟩
noncomputable def Pj (fu:Nat)(call:Ah)(a0 a1:Int)(a2n:Nat)(a2:List PV)(nn:Nat)(y0:Int)(y1:List PV):Option A0:=Co CB Tryz.prog fu call 81 Tryz.f81 (Bm Tryz.f81) [.sc (.int .i64 a0),.sc (.int .u64 a1),.lst false 1 a2n a2] [.r,.r,.r] nn ⟨lk [(0,(.sc (.int .i64 y0))),(8,(.ptr 8 0))],B7 [(8,(.ar false y1))]⟩
noncomputable def Pk (fu:Nat)(call:Ah)(a0 a1:Int)(a2n:Nat)(a2:List PV)(nn:Nat)(y0 y1:Int):Option A0:=Co CB Tryz.prog fu call 81 Tryz.f81 (Bm Tryz.f81) [.sc (.int .i64 a0),.sc (.int .u64 a1),.lst false 1 a2n a2] [.r,.r,.r,.r] nn ⟨lk [(6,(.sc (.int .u64 y0))),(7,(.sc (.int .i64 y1)))],B7 []⟩
theorem M2 (fu:Nat)(call:Ah)(a0 a1:Int)(a2n:Nat)(a2:List PV)(nn:Nat)(y0:Int)(y1:Nat)(y2:List PV)(y3 y4:Int)(y5 y6:Int)(y7 y8:Int)(y9 y10:Int)(Gh H2:Int)(Jb Ks:Int)(Lj Oy:Int)(Ob U6:Int)(Zv Yk U8:Int)(TU:List PV):Ep fu call a0 a1 a2n a2 (nn+1) y0 y1 y2 y3 y4 y5 y6 y7 y8 y9 y10 Gh H2 Jb Ks Lj Oy Ob U6 Zv Yk U8 TU=(A9 (decide (U8<18)) (Au (decide (0<=U8)&&decide (U8<18)&&true)<|Ad .i64 (List.getD [.sc (.int .i64 y3),.sc (.int .i64 y4),.sc (.int .i64 y5),.sc (.int .i64 y6),.sc (.int .i64 y7),.sc (.int .i64 y8),.sc (.int .i64 y9),.sc (.int .i64 y10),.sc (.int .i64 Gh),.sc (.int .i64 H2),.sc (.int .i64 Jb),.sc (.int .i64 Ks),.sc (.int .i64 Lj),.sc (.int .i64 Oy),.sc (.int .i64 Ob),.sc (.int .i64 U6),.sc (.int .i64 Zv),.sc (.int .i64 Yk)] (Int.toNat U8*1) .top) fun BC=>Au (decide (0<=U8)&&decide (U8<(↑y1:Int)))<|Ad .u64 (List.getD y2 (Int.toNat U8*1) .top) fun Y2=>Ag (call 105 [.sc (.int .i64 y0),.sc (.int .i64 U8),.sc (.int .i64 BC),.sc (.int .i64 15),.sc (.int .u64 Y2)]) fun Ze BB=>Ac BB<|Ab Ze fun Y8 Zd=>Ad .u64 Y8 fun Xc=>Ac Zd<|Au (decide (0<=U8)&&decide (U8<18))<|Au (decide (0+Int.toNat U8*1+1<=TU.length))<|Aa (Bd TU [.sc (.int .u64 Xc)] (0+Int.toNat U8*1)) fun Xm=>Aa (wrap .i64 (U8+1)) fun BO=>Ep fu call a0 a1 a2n a2 (nn) (y0) (y1) (y2) (y3) (y4) (y5) (y6) (y7) (y8) (y9) (y10) (Gh) (H2) (Jb) (Ks) (Lj) (Oy) (Ob) (U6) (Zv) (Yk) BO Xm) (Pj fu call a0 a1 a2n a2 (fu) (y0) (TU))):=by kernel_rfl
theorem Wv (fu:Nat)(call:Ah)(a0 a1:Int)(a2n:Nat)(a2:List PV)(nn:Nat)(hnn:0<nn)(y0:Int)(y1:List PV):Pj fu call a0 a1 a2n a2 nn y0 y1=(Ad .u64 (List.getD y1 0 .top) fun Zj=>Ad .u64 (List.getD y1 1 .top) fun Yv=>Ad .u64 (List.getD y1 2 .top) fun Y1=>Ad .u64 (List.getD y1 3 .top) fun AG=>Ad .u64 (List.getD y1 4 .top) fun EH=>Ad .u64 (List.getD y1 5 .top) fun Z3=>Ad .u64 (List.getD y1 6 .top) fun Yu=>Ad .u64 (List.getD y1 7 .top) fun HC=>Ad .u64 (List.getD y1 8 .top) fun BA=>Ad .u64 (List.getD y1 9 .top) fun EN=>Ad .u64 (List.getD y1 10 .top) fun IP=>Ad .u64 (List.getD y1 11 .top) fun IX=>Ad .u64 (List.getD y1 12 .top) fun TZ=>Ad .u64 (List.getD y1 13 .top) fun NQ=>Ad .u64 (List.getD y1 14 .top) fun RW=>Ad .u64 (List.getD y1 15 .top) fun NS=>Ad .u64 (List.getD y1 16 .top) fun WY=>Ad .u64 (List.getD y1 17 .top) fun XT=>Ag (call 110 [.sc (.int .i64 y0),.agg [.sc (.int .u64 Zj),.sc (.int .u64 Yv),.sc (.int .u64 Y1),.sc (.int .u64 AG),.sc (.int .u64 EH),.sc (.int .u64 Z3),.sc (.int .u64 Yu),.sc (.int .u64 HC),.sc (.int .u64 BA),.sc (.int .u64 EN),.sc (.int .u64 IP),.sc (.int .u64 IX),.sc (.int .u64 TZ),.sc (.int .u64 NQ),.sc (.int .u64 RW),.sc (.int .u64 NS),.sc (.int .u64 WY),.sc (.int .u64 XT)]]) fun VB SV=>Ac SV<|Ab VB fun EG RS=>Ad .u64 EG fun UE=>Ac RS<|Pk fu call a0 a1 a2n a2 (fu) UE 0):=by cases nn with|zero=>exact absurd hnn (Nat.lt_irrefl 0)|succ nn=>kernel_rfl
theorem Wl (fu:Nat)(call:Ah)(a0 a1:Int)(a2n:Nat)(a2:List PV)(nn:Nat)(hnn:0<nn)(y0 y1:Int):Pk fu call a0 a1 a2n a2 nn y0 y1=(some (A0.mk [.sc (.int .u64 y0),.sc (.int .i64 y1)] [])):=by cases nn with|zero=>exact absurd hnn (Nat.lt_irrefl 0)|succ nn=>kernel_rfl
theorem CC {xs:FuncId->Option (List PV->Option A0)} (fu d:Nat)(a0 a1:Int)(a2n:Nat)(a2:List PV):Ae (CX xs) Tryz.prog fu (d+1) Ra [.sc (.int .i64 a0),.sc (.int .u64 a1),.lst false 1 a2n a2]=(fun (call:Ah)=>A9 ((↑a2n:Int) != 18) (some (A0.mk [.sc (.int .u64 0),.sc (.int .i64 4)] [])) (Ag (call 104 [.sc (.int .u64 a1)]) fun x1 x2=>Ac x2<|Ab x1 fun x3 x4=>C4 x3 fun x5=>Ab x5 fun x6 x7=>Ad .i64 x6 fun x8=>Ab x7 fun x9 Cl=>Ad .i64 x9 fun Cw=>Ab Cl fun Dl Dr=>Ad .i64 Dl fun Dk=>Ab Dr fun D9 Ea=>Ad .i64 D9 fun En=>Ab Ea fun E2 Fg=>Ad .i64 E2 fun Fp=>Ab Fg fun Hp Hb=>Ad .i64 Hp fun Hq=>Ab Hb fun Dz Dq=>Ad .i64 Dz fun F5=>Ab Dq fun H3 E1=>Ad .i64 H3 fun Jk=>Ab E1 fun L8 Jt=>Ad .i64 L8 fun Mr=>Ab Jt fun Mb Np=>Ad .i64 Mb fun Qp=>Ab Np fun Pt R5=>Ad .i64 Pt fun Hh=>Ab R5 fun J8 Va=>Ad .i64 J8 fun Y9=>Ab Va fun Qq Nw=>Ad .i64 Qq fun Uh=>Ab Nw fun Sd Tp=>Ad .i64 Sd fun Xd=>Ab Tp fun Yb Sn=>Ad .i64 Yb fun Vz=>Ab Sn fun Yj Xv=>Ad .i64 Yj fun Pc=>Ab Xv fun X8 DW=>Ad .i64 X8 fun BE=>Ab DW fun Za U0=>Ad .i64 Za fun X4=>Ac U0<|Ac x4<|Ep fu call a0 a1 a2n a2 (fu) (a0) (a2n) (a2) x8 Cw Dk En Fp Hq F5 Jk Mr Qp Hh Y9 Uh Xd Vz Pc BE X4 0 ([.sc (.int .u64 0),.sc (.int .u64 0),.sc (.int .u64 0),.sc (.int .u64 0),.sc (.int .u64 0),.sc (.int .u64 0),.sc (.int .u64 0),.sc (.int .u64 0),.sc (.int .u64 0),.sc (.int .u64 0),.sc (.int .u64 0),.sc (.int .u64 0),.sc (.int .u64 0),.sc (.int .u64 0),.sc (.int .u64 0),.sc (.int .u64 0),.sc (.int .u64 0),.sc (.int .u64 0)]))) (Ae (CX xs) Tryz.prog fu d):=by kernel_rfl
abbrev Sq:FuncId:=106
theorem GC {xs:FuncId->Option (List PV->Option A0)} (fu d:Nat)(a0 a1 a2:Int):Ae (CX xs) Tryz.prog fu (d+1) Sq [.sc (.int .u64 a0),.sc (.int .i64 a1),.sc (.int .i64 a2)]=(fun (call:Ah)=>Aa (wrap .u64 a1) fun x1=>Aa (wrap .u64 a2) fun x2=>Ag (call 89 [.lst false 1 2 [.sc (.int .u64 x1),.sc (.int .u64 x2)]]) fun x3 x4=>Ac x4<|Ab x3 fun x5 x6=>Es 1 x5 fun x7 x8=>Ac x6<|Au (decide (0+x7*1<=x8.length))<|Ag (call 123 [.sc (.int .u64 a0),.sc (.int .i64 1),.lst false 1 x7 (List.take (x7*1) (List.drop 0 x8))]) fun x9 Cl=>Ac Cl<|Ab x9 fun Cw Dl=>Ad .u64 Cw fun Dr=>Ac Dl<|some (A0.mk [.sc (.int .u64 Dr)] [])) (Ae (CX xs) Tryz.prog fu d):=by kernel_rfl
abbrev Mc:FuncId:=108
noncomputable def E9 (fu:Nat)(call:Ah)(a0 a1:Int)(nn:Nat)(y0 y1 y2:Int)(y3:List PV):Option A0:=Co CB Tryz.prog fu call 108 Tryz.f108 (Bm Tryz.f108) [.sc (.int .u64 a0),.sc (.int .i64 a1)] [.r,.r,.l,.r,.l] nn ⟨lk [(0,(.sc (.int .u64 y0))),(1,(.sc (.int .i64 y1))),(5,(.ptr 5 0)),(7,(.sc (.int .i64 y2)))],B7 [(5,(.ar false y3))]⟩
noncomputable def Q5 (fu:Nat)(call:Ah)(a0 a1:Int)(nn:Nat)(y0:Int)(y1:List PV):Option A0:=Co CB Tryz.prog fu call 108 Tryz.f108 (Bm Tryz.f108) [.sc (.int .u64 a0),.sc (.int .i64 a1)] [.r,.r] nn ⟨lk [(1,(.sc (.int .i64 y0))),(5,(.ptr 5 0))],B7 [(5,(.ar false y1))]⟩
noncomputable def Rp (fu:Nat)(call:Ah)(a0 a1:Int)(nn:Nat)(y0:Int):Option A0:=Co CB Tryz.prog fu call 108 Tryz.f108 (Bm Tryz.f108) [.sc (.int .u64 a0),.sc (.int .i64 a1)] [.r,.r,.r] nn ⟨lk [(4,(.sc (.int .u64 y0)))],B7 []⟩
theorem Od (fu:Nat)(call:Ah)(a0 a1:Int)(nn:Nat)(y0 y1 y2:Int)(y3:List PV):E9 fu call a0 a1 (nn+1) y0 y1 y2 y3=(A9 (decide (y2<18)) (Ag (call 106 [.sc (.int .u64 y0),.sc (.int .i64 y1),.sc (.int .i64 y2)]) fun x1 x2=>Ac x2<|Ab x1 fun x3 x4=>Ad .u64 x3 fun x5=>Ac x4<|Ag (call 105 [.sc (.int .i64 y1),.sc (.int .i64 y2),.sc (.int .i64 0),.sc (.int .i64 15),.sc (.int .u64 x5)]) fun x6 x7=>Ac x7<|Ab x6 fun x8 x9=>Ad .u64 x8 fun Cl=>Ac x9<|Au (decide (0<=y2)&&decide (y2<18))<|Au (decide (0+Int.toNat y2*1+1<=y3.length))<|Aa (Bd y3 [.sc (.int .u64 Cl)] (0+Int.toNat y2*1)) fun Cw=>Aa (wrap .i64 (y2+1)) fun Dl=>E9 fu call a0 a1 (nn) (y0) (y1) Dl Cw) (Q5 fu call a0 a1 (fu) (y1) (y3))):=by kernel_rfl
theorem Yh (fu:Nat)(call:Ah)(a0 a1:Int)(nn:Nat)(hnn:0<nn)(y0:Int)(y1:List PV):Q5 fu call a0 a1 nn y0 y1=(Ad .u64 (List.getD y1 0 .top) fun Dr=>Ad .u64 (List.getD y1 1 .top) fun Dk=>Ad .u64 (List.getD y1 2 .top) fun D9=>Ad .u64 (List.getD y1 3 .top) fun Ea=>Ad .u64 (List.getD y1 4 .top) fun En=>Ad .u64 (List.getD y1 5 .top) fun E2=>Ad .u64 (List.getD y1 6 .top) fun Fg=>Ad .u64 (List.getD y1 7 .top) fun Fp=>Ad .u64 (List.getD y1 8 .top) fun Hp=>Ad .u64 (List.getD y1 9 .top) fun Hb=>Ad .u64 (List.getD y1 10 .top) fun Hq=>Ad .u64 (List.getD y1 11 .top) fun Dz=>Ad .u64 (List.getD y1 12 .top) fun Dq=>Ad .u64 (List.getD y1 13 .top) fun F5=>Ad .u64 (List.getD y1 14 .top) fun H3=>Ad .u64 (List.getD y1 15 .top) fun E1=>Ad .u64 (List.getD y1 16 .top) fun Jk=>Ad .u64 (List.getD y1 17 .top) fun L8=>Ag (call 110 [.sc (.int .i64 y0),.agg [.sc (.int .u64 Dr),.sc (.int .u64 Dk),.sc (.int .u64 D9),.sc (.int .u64 Ea),.sc (.int .u64 En),.sc (.int .u64 E2),.sc (.int .u64 Fg),.sc (.int .u64 Fp),.sc (.int .u64 Hp),.sc (.int .u64 Hb),.sc (.int .u64 Hq),.sc (.int .u64 Dz),.sc (.int .u64 Dq),.sc (.int .u64 F5),.sc (.int .u64 H3),.sc (.int .u64 E1),.sc (.int .u64 Jk),.sc (.int .u64 L8)]]) fun Jt Mr=>Ac Mr<|Ab Jt fun Mb Np=>Ad .u64 Mb fun Qp=>Ac Np<|Rp fu call a0 a1 (fu) Qp):=by cases nn with|zero=>exact absurd hnn (Nat.lt_irrefl 0)|succ nn=>kernel_rfl
theorem Yr (fu:Nat)(call:Ah)(a0 a1:Int)(nn:Nat)(hnn:0<nn)(y0:Int):Rp fu call a0 a1 nn y0=(some (A0.mk [.sc (.int .u64 y0)] [])):=by cases nn with|zero=>exact absurd hnn (Nat.lt_irrefl 0)|succ nn=>kernel_rfl
theorem EZ {xs:FuncId->Option (List PV->Option A0)} (fu d:Nat)(a0 a1:Int):Ae (CX xs) Tryz.prog fu (d+1) Mc [.sc (.int .u64 a0),.sc (.int .i64 a1)]=(fun (call:Ah)=>E9 fu call a0 a1 (fu) (a0) (a1) 0 ([.sc (.int .u64 0),.sc (.int .u64 0),.sc (.int .u64 0),.sc (.int .u64 0),.sc (.int .u64 0),.sc (.int .u64 0),.sc (.int .u64 0),.sc (.int .u64 0),.sc (.int .u64 0),.sc (.int .u64 0),.sc (.int .u64 0),.sc (.int .u64 0),.sc (.int .u64 0),.sc (.int .u64 0),.sc (.int .u64 0),.sc (.int .u64 0),.sc (.int .u64 0),.sc (.int .u64 0)])) (Ae (CX xs) Tryz.prog fu d):=by kernel_rfl
abbrev Qf:FuncId:=76
noncomputable def Jc (fu:Nat)(call:Ah)(a0 a1 a2:Int)(nn:Nat)(y0 y1:Int)(y2 y3:Int)(y4 y5:Int)(y6 y7:Int)(y8 y9:Int)(y10 Gh:Int)(H2 Jb:Int)(Ks Lj:Int)(Oy Ob:Int)(U6 Zv Yk:Int)(U8:List PV):Option A0:=Co CB Tryz.prog fu call 76 Tryz.f76 (Bm Tryz.f76) [.sc (.int .u64 a0),.sc (.int .i64 a1),.sc (.int .u64 a2)] [.r,.r,.l,.r,.l] nn ⟨lk [(0,(.sc (.int .u64 y0))),(1,(.sc (.int .i64 y1))),(7,(.ptr 7 0)),(11,(.agg [(.sc (.int .i64 y2)),(.sc (.int .i64 y3)),(.sc (.int .i64 y4)),(.sc (.int .i64 y5)),(.sc (.int .i64 y6)),(.sc (.int .i64 y7)),(.sc (.int .i64 y8)),(.sc (.int .i64 y9)),(.sc (.int .i64 y10)),(.sc (.int .i64 Gh)),(.sc (.int .i64 H2)),(.sc (.int .i64 Jb)),(.sc (.int .i64 Ks)),(.sc (.int .i64 Lj)),(.sc (.int .i64 Oy)),(.sc (.int .i64 Ob)),(.sc (.int .i64 U6)),(.sc (.int .i64 Zv))])),(12,(.sc (.int .i64 Yk)))],B7 [(7,(.ar false U8))]⟩
theorem Q7 (fu:Nat)(call:Ah)(a0 a1 a2:Int)(nn:Nat)(y0 y1:Int)(y2 y3:Int)(y4 y5:Int)(y6 y7:Int)(y8 y9:Int)(y10 Gh:Int)(H2 Jb:Int)(Ks Lj:Int)(Oy Ob:Int)(U6 Zv Yk:Int)(U8:List PV):Jc fu call a0 a1 a2 (nn+1) y0 y1 y2 y3 y4 y5 y6 y7 y8 y9 y10 Gh H2 Jb Ks Lj Oy Ob U6 Zv Yk U8=(A9 (decide (Yk<18)) (Au (decide (0<=Yk)&&decide (Yk<18)&&true)<|Ad .i64 (List.getD [.sc (.int .i64 y2),.sc (.int .i64 y3),.sc (.int .i64 y4),.sc (.int .i64 y5),.sc (.int .i64 y6),.sc (.int .i64 y7),.sc (.int .i64 y8),.sc (.int .i64 y9),.sc (.int .i64 y10),.sc (.int .i64 Gh),.sc (.int .i64 H2),.sc (.int .i64 Jb),.sc (.int .i64 Ks),.sc (.int .i64 Lj),.sc (.int .i64 Oy),.sc (.int .i64 Ob),.sc (.int .i64 U6),.sc (.int .i64 Zv)] (Int.toNat Yk*1) .top) fun BC=>Ag (call 106 [.sc (.int .u64 y0),.sc (.int .i64 y1),.sc (.int .i64 Yk)]) fun Y2 Ze=>Ac Ze<|Ab Y2 fun BB Y8=>Ad .u64 BB fun Zd=>Ac Y8<|Ag (call 105 [.sc (.int .i64 y1),.sc (.int .i64 Yk),.sc (.int .i64 0),.sc (.int .i64 BC),.sc (.int .u64 Zd)]) fun Xc Xm=>Ac Xm<|Ab Xc fun BO Zj=>Ad .u64 BO fun Yv=>Ac Zj<|Au (decide (0<=Yk)&&decide (Yk<18))<|Au (decide (0+Int.toNat Yk*1+1<=U8.length))<|Aa (Bd U8 [.sc (.int .u64 Yv)] (0+Int.toNat Yk*1)) fun Y1=>Aa (wrap .i64 (Yk+1)) fun AG=>Jc fu call a0 a1 a2 (nn) (y0) (y1) (y2) (y3) (y4) (y5) (y6) (y7) (y8) (y9) (y10) (Gh) (H2) (Jb) (Ks) (Lj) (Oy) (Ob) (U6) (Zv) AG Y1) (Au (decide (18<=U8.length))<|Au (decide (18<=U8.length))<|some (A0.mk [.own 1 18 (List.take 18 U8)] []))):=by kernel_rfl
theorem KU {xs:FuncId->Option (List PV->Option A0)} (fu d:Nat)(a0 a1 a2:Int):Ae (CX xs) Tryz.prog fu (d+1) Qf [.sc (.int .u64 a0),.sc (.int .i64 a1),.sc (.int .u64 a2)]=(fun (call:Ah)=>Ag (call 104 [.sc (.int .u64 a2)]) fun x1 x2=>Ac x2<|Ab x1 fun x3 x4=>C4 x3 fun x5=>Ab x5 fun x6 x7=>Ad .i64 x6 fun x8=>Ab x7 fun x9 Cl=>Ad .i64 x9 fun Cw=>Ab Cl fun Dl Dr=>Ad .i64 Dl fun Dk=>Ab Dr fun D9 Ea=>Ad .i64 D9 fun En=>Ab Ea fun E2 Fg=>Ad .i64 E2 fun Fp=>Ab Fg fun Hp Hb=>Ad .i64 Hp fun Hq=>Ab Hb fun Dz Dq=>Ad .i64 Dz fun F5=>Ab Dq fun H3 E1=>Ad .i64 H3 fun Jk=>Ab E1 fun L8 Jt=>Ad .i64 L8 fun Mr=>Ab Jt fun Mb Np=>Ad .i64 Mb fun Qp=>Ab Np fun Pt R5=>Ad .i64 Pt fun Hh=>Ab R5 fun J8 Va=>Ad .i64 J8 fun Y9=>Ab Va fun Qq Nw=>Ad .i64 Qq fun Uh=>Ab Nw fun Sd Tp=>Ad .i64 Sd fun Xd=>Ab Tp fun Yb Sn=>Ad .i64 Yb fun Vz=>Ab Sn fun Yj Xv=>Ad .i64 Yj fun Pc=>Ab Xv fun X8 DW=>Ad .i64 X8 fun BE=>Ab DW fun Za U0=>Ad .i64 Za fun X4=>Ac U0<|Ac x4<|Jc fu call a0 a1 a2 (fu) (a0) (a1) x8 Cw Dk En Fp Hq F5 Jk Mr Qp Hh Y9 Uh Xd Vz Pc BE X4 0 ([.sc (.int .u64 0),.sc (.int .u64 0),.sc (.int .u64 0),.sc (.int .u64 0),.sc (.int .u64 0),.sc (.int .u64 0),.sc (.int .u64 0),.sc (.int .u64 0),.sc (.int .u64 0),.sc (.int .u64 0),.sc (.int .u64 0),.sc (.int .u64 0),.sc (.int .u64 0),.sc (.int .u64 0),.sc (.int .u64 0),.sc (.int .u64 0),.sc (.int .u64 0),.sc (.int .u64 0)])) (Ae (CX xs) Tryz.prog fu d):=by kernel_rfl
abbrev Kn:FuncId:=74
theorem NF {xs:FuncId->Option (List PV->Option A0)} (fu d:Nat)(a0:Int):Ae (CX xs) Tryz.prog fu (d+1) Kn [.sc (.int .i64 a0)]=(fun (call:Ah)=>A9 (decide (a0<0)) (some (A0.mk [.sc (.bool true)] [])) (some (A0.mk [.sc (.bool (decide (a0>4)))] []))) (Ae (CX xs) Tryz.prog fu d):=by kernel_rfl
abbrev Hw:FuncId:=75
theorem DP {xs:FuncId->Option (List PV->Option A0)} (fu d:Nat)(a0 a1:Int):Ae (CX xs) Tryz.prog fu (d+1) Hw [.sc (.int .i64 a0),.sc (.int .i64 a1)]=(fun (call:Ah)=>A9 (decide (a0<0)) (some (A0.mk [.sc (.bool true)] [])) (Au (decide (0<=a1))<|Aa (Hc .i64 1 a1) fun x1=>some (A0.mk [.sc (.bool (decide (a0>=x1)))] []))) (Ae (CX xs) Tryz.prog fu d):=by kernel_rfl
abbrev Vc:FuncId:=92
noncomputable def G8 (fu:Nat)(call:Ah)(a0n:Nat)(a0:List PV)(nn y0:Nat)(y1:List PV)(y2:Nat)(y3 y4:Int)(y5:List PV):Option A0:=Co CB Tryz.prog fu call 92 Tryz.f92 (Bm Tryz.f92) [.lst false 1 a0n a0] [.r,.r,.l,.r,.l] nn ⟨lk [(0,(.lst false 1 y0 y1)),(3,(.view 3 1 0 y2)),(12,(.sc (.int .i64 y3))),(13,(.sc (.int .i64 y4)))],B7 [(3,(.ar false y5))]⟩
noncomputable def Ij (fu:Nat)(call:Ah)(a0n:Nat)(a0:List PV)(m0 nn y0:Nat)(y1:List PV)(y2:Nat)(y3 y4 y5:Int)(y6:Nat)(y7:List PV)(y8 y9:Int)(y10:List PV):Option A0:=Co CB Tryz.prog fu call 92 Tryz.f92 (Bm Tryz.f92) [.lst false 1 a0n a0] [.r,.r,.l,.r,.l,.i m0,.r,.r,.l,.l,.r,.r,.l] nn ⟨lk [(0,(.lst false 1 y0 y1)),(3,(.view 3 1 0 y2)),(4,(.sc (.int .i64 y3))),(12,(.sc (.int .i64 y4))),(13,(.sc (.int .i64 y5))),(22,(.lst false 1 y6 y7)),(23,(.sc (.int .i64 y8))),(24,(.sc (.int .i64 y9)))],B7 [(3,(.ar false y10))]⟩
theorem Px (fu:Nat)(call:Ah)(a0n:Nat)(a0:List PV)(nn y0:Nat)(y1:List PV)(y2:Nat)(y3 y4:Int)(y5:List PV):G8 fu call a0n a0 (nn+1) y0 y1 y2 y3 y4 y5=(A9 (decide (y4<y3)) (Aa (wrap .i64 (8*y4)) fun x2=>Aa (wrap .i64 (8*y4)) fun x3=>Aa (wrap .i64 (x3+8)) fun x4=>Au (decide (0<=x2))<|Au (decide (0<=x4))<|Au (decide (Int.toNat x2<=Int.toNat x4)&&decide (Int.toNat x4<=y0))<|Aa (Int.toNat x4-Int.toNat x2) fun x5=>Aa (List.take (x5*1) (List.drop (Int.toNat x2*1) y1)) fun x6=>Ij fu call a0n a0 nn (fu) (y0) (y1) (y2) (y4) (y3) (y4) x5 x6 ((↑x5:Int)) 0 (y5)) (Au (decide (y2*1<=y5.length))<|some (A0.mk [.own 1 y2 (List.take (y2*1) y5)] []))):=by kernel_rfl
theorem P7 (fu:Nat)(call:Ah)(a0n:Nat)(a0:List PV)(m0 nn y0:Nat)(y1:List PV)(y2:Nat)(y3 y4 y5:Int)(y6:Nat)(y7:List PV)(y8 y9:Int)(y10:List PV):Ij fu call a0n a0 m0 (nn+1) y0 y1 y2 y3 y4 y5 y6 y7 y8 y9 y10=(A9 (decide (y9<y8)) (Au (decide (0<=y9)&&decide (y9<(↑y6:Int)))<|Ad .u8 (List.getD y7 (Int.toNat y9*1) .top) fun x7=>Au (decide (0<=y3)&&decide (y3<(↑y2:Int)))<|Ad .u64 (List.getD y10 (0+Int.toNat y3*1) .top) fun x8=>Aa (Hc .u64 x8 8) fun x9=>Aa (wrap .u64 x7) fun Cl=>Aa (PK .u64 x9 Cl) fun Cw=>Au (decide (0<=y3)&&decide (y3<(↑y2:Int)))<|Au (decide (0+Int.toNat y3*1+1<=y10.length))<|Aa (Bd y10 [.sc (.int .u64 Cw)] (0+Int.toNat y3*1)) fun Dl=>Aa (wrap .i64 (y9+1)) fun Dr=>Ij fu call a0n a0 m0 (nn) (y0) (y1) (y2) (y3) (y4) (y5) (y6) (y7) (y8) Dr Dl) (Aa (wrap .i64 (y5+1)) fun Dk=>G8 fu call a0n a0 (m0) (y0) (y1) (y2) (y4) Dk (y10))):=by kernel_rfl
theorem HW {xs:FuncId->Option (List PV->Option A0)} (fu d a0n:Nat)(a0:List PV):Ae (CX xs) Tryz.prog fu (d+1) Vc [.lst false 1 a0n a0]=(fun (call:Ah)=>Aa (wrap .i64 (Int.tdiv (↑a0n:Int) 8)) fun x1=>Au (decide (0<=x1)&&decide (x1<=x1)&&decide (x1*8<=1099511627776)&&decide (x1<=1099511627776))<|G8 fu call a0n a0 (fu) (a0n) (a0) x1.toNat ((↑x1.toNat:Int)) 0 (Sl x1.toNat [.sc (.int .u64 0)])) (Ae (CX xs) Tryz.prog fu d):=by kernel_rfl
abbrev Ml:FuncId:=82
theorem GB {xs:FuncId->Option (List PV->Option A0)} (fu d:Nat)(a0 a1 a2:Int):Ae (CX xs) Tryz.prog fu (d+1) Ml [.sc (.int .i64 a0),.sc (.int .u64 a1),.sc (.int .u64 a2)]=(fun (call:Ah)=>Aa (wrap .u64 a0) fun x1=>Ag (call 89 [.lst false 1 3 [.sc (.int .u64 x1),.sc (.int .u64 a1),.sc (.int .u64 a2)]]) fun x2 x3=>Ac x3<|Ab x2 fun x4 x5=>Es 1 x4 fun x6 x7=>Ac x5<|Au (decide (0+x6*1<=x7.length))<|Ag (call 73 [.sc (.int .i64 3),.lst false 1 x6 (List.take (x6*1) (List.drop 0 x7))]) fun x8 x9=>Ac x9<|Ab x8 fun Cl Cw=>Ad .u64 Cl fun Dl=>Ac Cw<|some (A0.mk [.sc (.int .u64 Dl)] [])) (Ae (CX xs) Tryz.prog fu d):=by kernel_rfl
abbrev Ou:FuncId:=66
theorem X6 {xs:FuncId->Option (List PV->Option A0)} (fu d:Nat)(a0_0 a0_1:Int):Ae (CX xs) Tryz.prog fu (d+1) Ou [.agg [.sc (.int .i64 a0_0),.sc (.int .u64 a0_1)]]=(fun (call:Ah)=>Ag (call 74 [.sc (.int .i64 a0_0)]) fun x1 x2=>Ac x2<|Ab x1 fun x3 x4=>Bj x3 fun x5=>Ac x4<|A9 x5 (some (A0.mk [.own 1 0 [],.sc (.int .i64 9)] [])) (Aa (wrap .u8 a0_0) fun x6=>Ag (call 89 [.lst false 1 1 [.sc (.int .u64 a0_1)]]) fun x7 x8=>Ac x8<|Ab x7 fun x9 Cl=>Es 1 x9 fun Cw Dl=>Ac Cl<|Au (decide (0+Cw*1<=Dl.length))<|Au (decide (List.length (List.take (Cw*1) (List.drop 0 Dl))=Cw*1)&&decide ((1+Cw)*1<=1099511627776)&&decide (1+Cw<=1099511627776))<|Aa (1+Cw) fun Dr=>Aa ([.sc (.int .u8 x6)]++List.take (Cw*1) (List.drop 0 Dl)) fun Dk=>Au (decide (Dr*1<=Dk.length))<|some (A0.mk [.own 1 Dr (List.take (Dr*1) Dk),.sc (.int .i64 0)] []))) (Ae (CX xs) Tryz.prog fu d):=by kernel_rfl
abbrev Ox:FuncId:=53
theorem Yo {xs:FuncId->Option (List PV->Option A0)} (fu d a0n:Nat)(a0:List PV):Ae (CX xs) Tryz.prog fu (d+1) Ox [.lst false 1 a0n a0]=(fun (call:Ah)=>A9 ((↑a0n:Int) != 9) (some (A0.mk [.agg [.sc (.int .i64 0),.sc (.int .u64 0)],.sc (.int .i64 2)] [])) (Au (decide (0<(↑a0n:Int)))<|Ad .u8 (List.getD a0 0 .top) fun x1=>Aa (wrap .i64 x1) fun x2=>Ag (call 74 [.sc (.int .i64 x2)]) fun x3 x4=>Ac x4<|Ab x3 fun x5 x6=>Bj x5 fun x7=>Ac x6<|A9 x7 (some (A0.mk [.agg [.sc (.int .i64 0),.sc (.int .u64 0)],.sc (.int .i64 2)] [])) (Au (decide (0<(↑a0n:Int)))<|Ad .u8 (List.getD a0 0 .top) fun x8=>Aa (wrap .i64 x8) fun x9=>Au (decide (1<=a0n)&&decide (a0n<=a0n))<|Aa (a0n-1) fun Cl=>Aa (List.take (Cl*1) (List.drop 1 a0)) fun Cw=>Ag (call 92 [.lst false 1 Cl Cw]) fun Dl Dr=>Ac Dr<|Ab Dl fun Dk D9=>Es 1 Dk fun Ea En=>Ac D9<|Au (decide (0<(↑Ea:Int)))<|Ad .u64 (List.getD En 0 .top) fun E2=>some (A0.mk [.agg [.sc (.int .i64 x9),.sc (.int .u64 E2)],.sc (.int .i64 0)] [])))) (Ae (CX xs) Tryz.prog fu d):=by kernel_rfl
abbrev Iu:FuncId:=50
theorem Qx {xs:FuncId->Option (List PV->Option A0)} (fu d:Nat)(a0_0:Int)(RB:Nat)(a0_1:List PV)(Fn:Nat)(a0_2:List PV):Ae (CX xs) Tryz.prog fu (d+1) Iu [.agg [.sc (.int .i64 a0_0),.lst false 1 RB a0_1,.lst false 1 Fn a0_2]]=(fun (call:Ah)=>Ag (call 74 [.sc (.int .i64 (↑Fn:Int))]) fun x1 x2=>Ac x2<|Ab x1 fun x3 x4=>Bj x3 fun x5=>Ac x4<|A9 x5 (some (A0.mk [.own 1 0 [],.sc (.int .i64 9)] [])) (Ag (call 75 [.sc (.int .i64 a0_0),.sc (.int .i64 (↑Fn:Int))]) fun x6 x7=>Ac x7<|Ab x6 fun x8 x9=>Bj x8 fun Cl=>Ac x9<|A9 Cl (some (A0.mk [.own 1 0 [],.sc (.int .i64 9)] [])) (A9 ((↑RB:Int) != 18) (some (A0.mk [.own 1 0 [],.sc (.int .i64 4)] [])) (Aa (wrap .u8 a0_0) fun Cw=>Aa (wrap .u8 (↑Fn:Int)) fun Dl=>Ag (call 89 [.lst false 1 RB a0_1]) fun Dr Dk=>Ac Dk<|Ab Dr fun D9 Ea=>Es 1 D9 fun En E2=>Ac Ea<|Au (decide (0+En*1<=E2.length))<|Au (decide (List.length (List.take (En*1) (List.drop 0 E2))=En*1)&&decide ((2+En)*1<=1099511627776)&&decide (2+En<=1099511627776))<|Aa (2+En) fun Fg=>Aa ([.sc (.int .u8 Cw),.sc (.int .u8 Dl)]++List.take (En*1) (List.drop 0 E2)) fun Fp=>Ag (call 89 [.lst false 1 Fn a0_2]) fun Hp Hb=>Ac Hb<|Ab Hp fun Hq Dz=>Es 1 Hq fun Dq F5=>Ac Dz<|Au (decide (0+Dq*1<=F5.length))<|Au (decide (Fg*1<=Fp.length)&&decide (List.length (List.take (Dq*1) (List.drop 0 F5))=Dq*1)&&decide ((Fg+Dq)*1<=1099511627776)&&decide (Fg+Dq<=1099511627776))<|Aa (Fg+Dq) fun H3=>Aa (List.take (Fg*1) Fp++List.take (Dq*1) (List.drop 0 F5)) fun E1=>Au (decide (H3*1<=E1.length))<|some (A0.mk [.own 1 H3 (List.take (H3*1) E1),.sc (.int .i64 0)] []))))) (Ae (CX xs) Tryz.prog fu d):=by kernel_rfl
abbrev Ir:FuncId:=54
theorem Qs {xs:FuncId->Option (List PV->Option A0)} (fu d a0n:Nat)(a0:List PV):Ae (CX xs) Tryz.prog fu (d+1) Ir [.lst false 1 a0n a0]=(fun (call:Ah)=>A9 (decide ((↑a0n:Int)<2)) (some (A0.mk [.agg [.sc (.int .i64 0),.own 1 0 [],.own 1 0 []],.sc (.int .i64 2)] [])) (Au (decide (0<(↑a0n:Int)))<|Ad .u8 (List.getD a0 0 .top) fun x1=>Aa (wrap .i64 x1) fun x2=>Au (decide (1<(↑a0n:Int)))<|Ad .u8 (List.getD a0 1 .top) fun x3=>Aa (wrap .i64 x3) fun x4=>Ag (call 74 [.sc (.int .i64 x4)]) fun x5 x6=>Ac x6<|Ab x5 fun x7 x8=>Bj x7 fun x9=>Ac x8<|A9 x9 (some (A0.mk [.agg [.sc (.int .i64 0),.own 1 0 [],.own 1 0 []],.sc (.int .i64 2)] [])) (Ag (call 75 [.sc (.int .i64 x2),.sc (.int .i64 x4)]) fun Cl Cw=>Ac Cw<|Ab Cl fun Dl Dr=>Bj Dl fun Dk=>Ac Dr<|A9 Dk (some (A0.mk [.agg [.sc (.int .i64 0),.own 1 0 [],.own 1 0 []],.sc (.int .i64 2)] [])) (Aa (wrap .i64 (18+x4)) fun D9=>Aa (wrap .i64 (8*D9)) fun Ea=>Aa (wrap .i64 (2+Ea)) fun En=>A9 ((↑a0n:Int) != En) (some (A0.mk [.agg [.sc (.int .i64 0),.own 1 0 [],.own 1 0 []],.sc (.int .i64 2)] [])) (Au (decide (146<=a0n))<|Aa (List.take 144 (List.drop 2 a0)) fun E2=>Ag (call 92 [.lst false 1 144 E2]) fun Fg Fp=>Ac Fp<|Ab Fg fun Hp Hb=>Es 1 Hp fun Hq Dz=>Ac Hb<|Au (decide (146<=a0n)&&decide (a0n<=a0n))<|Aa (a0n-146) fun Dq=>Aa (List.take (Dq*1) (List.drop 146 a0)) fun F5=>Ag (call 92 [.lst false 1 Dq F5]) fun H3 E1=>Ac E1<|Ab H3 fun Jk L8=>Es 1 Jk fun Jt Mr=>Ac L8<|Au (decide (Hq*1<=Dz.length))<|Au (decide (Jt*1<=Mr.length))<|some (A0.mk [.agg [.sc (.int .i64 x2),.own 1 Hq (List.take (Hq*1) Dz),.own 1 Jt (List.take (Jt*1) Mr)],.sc (.int .i64 0)] [])))))) (Ae (CX xs) Tryz.prog fu d):=by kernel_rfl
abbrev Tb:FuncId:=41
noncomputable def Gc (fu:Nat)(call:Ah)(a0_0 a0_1:Int)(a1 O8:Int)(H6:Nat)(R0:List PV)(Ic:Nat)(Sy:List PV)(nn:Nat)(y0:Int)(y1:Nat)(y2:List PV)(y3 y4:Int)(y5 y6 y7:Int)(y8:Nat)(y9:List PV)(y10:Nat)(Gh:List PV):Option A0:=Co CB Tryz.prog fu call 41 Tryz.f41 (Bm Tryz.f41) [.agg [.sc (.int .i64 a0_0),.sc (.int .u64 a0_1)],.sc (.int .u64 a1),.agg [.sc (.int .i64 O8),.lst false 1 H6 R0,.lst false 1 Ic Sy]] [.r,.r,.r,.r,.r,.l,.r,.l] nn ⟨lk [(3,(.ptr 3 0)),(5,(.ptr 5 0)),(7,(.sc (.int .u64 y0))),(46,(.lst false 1 y1 y2)),(47,(.sc (.int .i64 y3))),(48,(.sc (.int .i64 y4)))],B7 [(3,(.st [(.sc (.int .i64 y5)),(.sc (.int .u64 y6))])),(5,(.st [(.sc (.int .i64 y7)),(.lst false 1 y8 y9),(.lst false 1 y10 Gh)]))]⟩
theorem Ol (fu:Nat)(call:Ah)(a0_0 a0_1:Int)(a1 O8:Int)(H6:Nat)(R0:List PV)(Ic:Nat)(Sy:List PV)(nn:Nat)(y0:Int)(y1:Nat)(y2:List PV)(y3 y4:Int)(y5 y6 y7:Int)(y8:Nat)(y9:List PV)(y10:Nat)(Gh:List PV):Gc fu call a0_0 a0_1 a1 O8 H6 R0 Ic Sy (nn+1) y0 y1 y2 y3 y4 y5 y6 y7 y8 y9 y10 Gh=(A9 (decide (y4<y3)) (Au (decide (0<=y4)&&decide (y4<(↑y1:Int)))<|Ad .u64 (List.getD y2 (Int.toNat y4*1) .top) fun Fg=>Au (decide (0<=y4))<|Aa (D7 .i64 y7 y4) fun Fp=>Aa (Qv .i64 Fp 1) fun Hp=>A9 (Hp==0) (Aa (wrap .i64 (y4+1)) fun Hb=>Ag (call 82 [.sc (.int .i64 Hb),.sc (.int .u64 y0),.sc (.int .u64 Fg)]) fun Hq Dz=>Ac Dz<|Ab Hq fun Dq F5=>Ad .u64 Dq fun H3=>Ac F5<|Aa (wrap .i64 (y4+1)) fun E1=>Gc fu call a0_0 a0_1 a1 O8 H6 R0 Ic Sy (nn) H3 (y1) (y2) (y3) E1 (y5) (y6) (y7) (y8) (y9) (y10) (Gh)) (Aa (wrap .i64 (y4+1)) fun Jk=>Ag (call 82 [.sc (.int .i64 Jk),.sc (.int .u64 Fg),.sc (.int .u64 y0)]) fun L8 Jt=>Ac Jt<|Ab L8 fun Mr Mb=>Ad .u64 Mr fun Np=>Ac Mb<|Aa (wrap .i64 (y4+1)) fun Qp=>Gc fu call a0_0 a0_1 a1 O8 H6 R0 Ic Sy (nn) Np (y1) (y2) (y3) Qp (y5) (y6) (y7) (y8) (y9) (y10) (Gh))) (A9 (y0 != y6) (some (A0.mk [.sc (.int .i64 15)] [])) (some (A0.mk [.sc (.int .i64 0)] [])))):=by kernel_rfl
theorem FA {xs:FuncId->Option (List PV->Option A0)} (fu d:Nat)(a0_0 a0_1:Int)(a1 O8:Int)(H6:Nat)(R0:List PV)(Ic:Nat)(Sy:List PV):Ae (CX xs) Tryz.prog fu (d+1) Tb [.agg [.sc (.int .i64 a0_0),.sc (.int .u64 a0_1)],.sc (.int .u64 a1),.agg [.sc (.int .i64 O8),.lst false 1 H6 R0,.lst false 1 Ic Sy]]=(fun (call:Ah)=>Ag (call 74 [.sc (.int .i64 a0_0)]) fun x1 x2=>Ac x2<|Ab x1 fun x3 x4=>Bj x3 fun x5=>Ac x4<|A9 x5 (some (A0.mk [.sc (.int .i64 9)] [])) (Ag (call 75 [.sc (.int .i64 O8),.sc (.int .i64 a0_0)]) fun x6 x7=>Ac x7<|Ab x6 fun x8 x9=>Bj x8 fun Cl=>Ac x9<|A9 Cl (some (A0.mk [.sc (.int .i64 9)] [])) (A9 ((↑H6:Int) != 18) (some (A0.mk [.sc (.int .i64 4)] [])) (A9 ((↑Ic:Int) != a0_0) (some (A0.mk [.sc (.int .i64 4)] [])) (Ag (call 81 [.sc (.int .i64 O8),.sc (.int .u64 a1),.lst false 1 H6 R0]) fun Cw Dl=>Ac Dl<|Ab Cw fun Dr Dk=>Ad .u64 Dr fun D9=>Ab Dk fun Ea En=>Ad .i64 Ea fun E2=>Ac En<|A9 (E2 != 0) (some (A0.mk [.sc (.int .i64 E2)] [])) (Gc fu call a0_0 a0_1 a1 O8 H6 R0 Ic Sy (fu) D9 (Ic) (Sy) ((↑Ic:Int)) 0 (a0_0) (a0_1) (O8) (H6) (R0) (Ic) (Sy))))))) (Ae (CX xs) Tryz.prog fu d):=by kernel_rfl
end
section
open Go.IntKind (wrap)
theorem Anu {a m:Int}(h0:0<=m)(h1:m<=18446744073709551615):0<=Qv .u64 a m∧Qv .u64 a m<=m:=by
 have hle:(BitVec.ofInt 64 a &&& BitVec.ofInt 64 m).toNat<=m.toNat:=by
  rw [BitVec.toNat_and];refine Nat.le_trans Nat.and_le_right ?_;rw [BitVec.toNat_ofInt];omega
 have:Qv .u64 a m=((BitVec.ofInt 64 a &&& BitVec.ofInt 64 m).toNat:Int):=by
  unfold Qv;exact Cq (by omega) (by show ((BitVec.ofInt 64 a &&& BitVec.ofInt 64 m).toNat:Int)<=_;omega)
 rw [this];omega
theorem Kq (k:IntKind)(l:List Int)(i:Nat)(x:Int):(Af k l).set i (.sc (.int k x))=Af k (l.set i x):=by
 induction l generalizing i with
 |nil=>rfl
 |cons a l ih=>
  cases i with
  |zero=>rfl
  |succ i=>
   show (PV.sc (.int k a)::Af k l).set (i+1) _=PV.sc (.int k a)::Af k (l.set i x);rw [List.set_cons_succ,ih]
theorem VU (w:Int)(k:Nat):0<=Da w k∧Da w k<=255:=by
 unfold Da;simp only [wrap,IntKind.signed,IntKind.bits];simp;omega
theorem Acl (w:Int):Kx (D3 w):=by
 intro x hx;obtain ⟨k,_,rfl⟩:=List.mem_map.1 hx;exact VU w k
theorem Ss (ws:List Int):Kx (A6 ws):=by
 intro x hx;obtain ⟨w,_,hx⟩:=List.mem_flatMap.1 hx;exact Acl w x hx
theorem Dn (ws:List Int):(A6 ws).length=8*ws.length:=by
 induction ws with
 |nil=>rfl
 |cons w ws ih=>
  show (D3 w++A6 ws).length=_;rw [Kt,ih,Fa,Ja];omega
def Gn (m:Int)(k:Nat):Int:=wrap .i64 (Qv .u64 (D7 .u64 m (60-4*(k:Int))) 15)
theorem Q1 (m:Int)(k:Nat):0<=Gn m k∧Gn m k<=15:=by
 have:=Anu (a:=D7 .u64 m (60-4*(k:Int))) (m:=15) (by omega) (by omega)
 unfold Gn;rw [Al (by omega) (by omega)]
 exact this
def Jg (m:Int):Nat->Int
 |0=>0
 |k+1=>Jg m k+(15-Gn m k)
theorem J4 (m:Int):∀k,0<=Jg m k∧Jg m k<=15*k
 |0=>by simp [Jg]
 |k+1=>by
  have h1:=J4 m k;have h2:=Q1 m k;simp only [Jg];omega
def OR (m:Int):List Int:=(List.range 16).map (Gn m)++[Jg m 16 / 16,Jg m 16 % 16]
def dg (m:Int)(k:Nat):Int:=(OR m).getD k 0
theorem Ac1 (m:Int):(OR m).length=18:=rfl
theorem Alh {m x:Int}(h:x∈OR m):0<=x∧x<=15:=by
 have hs:=J4 m 16;unfold OR at h;rcases List.mem_append.1 h with h|h
 ·obtain ⟨k,_,rfl⟩:=List.mem_map.1 h;exact Q1 m k
 ·simp at h;rcases h with rfl|rfl<;>omega
theorem Tc (m:Int)(k:Nat):0<=dg m k∧dg m k<=15:=by
 unfold dg;rw [List.getD_eq_getElem?_getD];cases h:(OR m)[k]? with
 |none=>simp
 |some x=>exact Alh (List.mem_of_getElem? h)
def dl (m:Int)(i:Nat):List Int:=(List.range i).map (Gn m)++List.replicate (18-i) 0
theorem Abh (m:Int){i:Nat}(h:i<=18):(dl m i).length=18:=by simp [dl];omega
theorem Atl (m:Int){i:Nat}(h:i<18):(dl m (i+1))[i]?=some (Gn m i):=by
 unfold dl;rw [List.getElem?_append_left (by simp)]
 simp
theorem Aqe (m:Int){i:Nat}(h:i<18):(dl m i).set i (Gn m i)=dl m (i+1):=by
 unfold dl;rw [List.set_append_right _ _ (by simp),List.length_map,List.length_range,Nat.sub_self,show 18-i=(18-(i+1))+1 by omega,List.replicate_succ,List.set_cons_zero,List.range_succ,List.map_append,ZJ]
 rfl
def Qz (leaf chain:Int):Nat->Int->Int->Int
 |0,_,x=>x
 |k+1,p,x=>Qz leaf chain k (p+1) (My 1 (A6 [wrap .u64 leaf,wrap .u64 chain,wrap .u64 p,x]))
theorem YZ (leaf chain:Int):∀(k j:Nat)(p x:Int),Qz leaf chain (k+j) p x=Qz leaf chain j (p+k) (Qz leaf chain k p x)
 |0,j,p,x=>by simp [Qz]
 |k+1,j,p,x=>by
  rw [show k+1+j=(k+j)+1 by omega]
  simp only [Qz];rw [YZ leaf chain k j]
  congr 1
  omega
def Y5 (leaf:Int)(E:List Int):Int:=My 2 (A6 (wrap .u64 leaf::E))
def Ym (leaf m:Int)(s:List Int)(k:Nat):Int:=Qz leaf k (15-dg m k).toNat (dg m k) (s.getD k 0)
def LD (leaf m:Int)(s:List Int):List Int:=(List.range 18).map (Ym leaf m s)
def ST (leaf m:Int)(s:List Int):Int:=Y5 leaf (LD leaf m s)
def el (leaf m:Int)(s:List Int)(i:Nat):List Int:=(List.range i).map (Ym leaf m s)++List.replicate (18-i) 0
theorem Ai9 (leaf m:Int)(s:List Int){i:Nat}(h:i<=18):(el leaf m s i).length=18:=by simp [el];omega
theorem Ao5 (leaf m:Int)(s:List Int){i:Nat}(h:i<18):(el leaf m s i).set i (Ym leaf m s i)=el leaf m s (i+1):=by
 unfold el;rw [List.set_append_right _ _ (by simp),List.length_map,List.length_range,Nat.sub_self,show 18-i=(18-(i+1))+1 by omega,List.replicate_succ,List.set_cons_zero,List.range_succ,List.map_append,ZJ]
 rfl
theorem As9 (leaf m:Int)(s:List Int):el leaf m s 18=LD leaf m s:=by
 unfold el LD;simp
end
section
open Go.IntKind (wrap)
set_option maxRecDepth 20000
section
variable {fu d:Nat} {xs:FuncId->Option (List PV->Option A0)}
theorem Ail {ws:List Int}(hl:ws.length<=100)(hfu:1000<=fu)(dom:Int):Ae (CX xs) Tryz.prog fu (d+5) Ry [.sc (.int .i64 dom),.lst false 1 (A6 ws).length (Af .u8 (A6 ws))]=some ⟨[.sc (.int .u64 (My dom (A6 ws)))],[]⟩:=
 Acz (Ss ws) (by rw [Dn];omega) (by omega) (by rw [Dn];omega) dom
theorem XN {leaf chain:Int}{a0 a1 a2 a3 a4:Int}(hfu:1000<=fu){t:Int}(ht:t<=15):∀(k nn:Nat)(p x:Int),(k:Int)=t-p->0<=p->k<nn ->
  Kh fu (Ae (CX xs) Tryz.prog fu (d+5)) a0 a1 a2 a3 a4 nn leaf chain x t p=some ⟨[.sc (.int .u64 (Qz leaf chain k p x))],[]⟩
 |_,0,_,_,_,_,h=>by omega
 |0,nn+1,p,x,hk,hp,hn=>by
  rw [S7,Dj _ _ _ (by omega)]
  rfl
 |k+1,nn+1,p,x,hk,hp,hn=>by
  have w:wrap .i64 (p+1)=p+1:=Al (by omega) (by omega)
  have wd:Ae (CX xs) Tryz.prog fu (d+5) Fs [.lst false 1 4 [.sc (.int .u64 (wrap .u64 leaf)),.sc (.int .u64 (wrap .u64 chain)),.sc (.int .u64 (wrap .u64 p)),.sc (.int .u64 x)]]=_:=Ps (ws:=[wrap .u64 leaf,wrap .u64 chain,wrap .u64 p,x]) (by simp) (by omega) (by simp;omega)
  have hs:=Ail (xs:=xs) (fu:=fu) (d:=d) (ws:=[wrap .u64 leaf,wrap .u64 chain,wrap .u64 p,x]) (by simp) hfu 1
  have ih:=XN (leaf:=leaf) (chain:=chain) (a0:=a0) (a1:=a1) (a2:=a2) (a3:=a3) (a4:=a4) hfu ht k nn (p+1) (My 1 (A6 [wrap .u64 leaf,wrap .u64 chain,wrap .u64 p,x])) (by omega) (by omega) (by omega)
  have L:=Am .u8 (A6 [wrap .u64 leaf,wrap .u64 chain,wrap .u64 p,x]);have eR:Qz leaf chain (k+1) p x=Qz leaf chain k (p+1) (My 1 (A6 [wrap .u64 leaf,wrap .u64 chain,wrap .u64 p,x])):=rfl;rw [eR];generalize A6 [wrap .u64 leaf,wrap .u64 chain,wrap .u64 p,x]=W at wd hs ih L ⊢;rw [S7];simp (disch:=omega) only [Bx,wd,B8,Br,E6,J6,L,hs,w];exact ih
theorem Aa8 {leaf chain:Int}(hfu:1000<=fu)(k:Nat)(f t x:Int)(hk:(k:Int)=t-f) (h0:0<=f)(h1:t<=15):Ae (CX xs) Tryz.prog fu (d+6) Zc [.sc (.int .i64 leaf),.sc (.int .i64 chain),.sc (.int .i64 f),.sc (.int .i64 t),.sc (.int .u64 x)]=some ⟨[.sc (.int .u64 (Qz leaf chain k f x))],[]⟩:=by
 rw [OX];simp only [Hm];rw [A5 (by omega),A5 (by omega)]
 exact XN hfu h1 k fu f x hk h0 (by omega)
theorem GR {call:Ah}{a0 m:Int}{y3:List PV}:∀(k i nn:Nat),i+k=16->k<nn ->
  Ga fu call a0 nn m (Jg m i) i y3 (Af .i64 (dl m i))=Ga fu call a0 (nn-k) m (Jg m 16) 16 y3 (Af .i64 (dl m 16))
 |_,_,0,_,h=>by omega
 |0,i,nn+1,hi,hn=>by
  have e:i=16:=by omega
  subst e;rfl
 |k+1,i,nn+1,hi,hn=>by
  have ih:=GR (call:=call) (a0:=a0) (y3:=y3) (m:=m) k (i+1) nn (by omega) (by omega)
  have hb:=Q1 m i;have hs:=J4 m i;have w:wrap .i64 ((i:Int)+1)=((i+1:Nat):Int):=by rw [Al (by omega) (by omega)];omega
  have w4:wrap .i64 (4*(i:Int))=4*(i:Int):=Al (by omega) (by omega)
  have w60:wrap .i64 (60-4*(i:Int))=60-4*(i:Int):=Al (by omega) (by omega)
  have hd:wrap .i64 (Qv .u64 (D7 .u64 m (60-4*(i:Int))) 15)=Gn m i:=rfl;have w15:wrap .i64 (15-Gn m i)=15-Gn m i:=Al (by omega) (by omega)
  have ws:wrap .i64 (Jg m i+(15-Gn m i))=Jg m (i+1):=by rw [Al (by omega) (by omega)];rfl
  have L:(Af .i64 (dl m i)).length=18:=by rw [Am,Abh m (by omega)]
  have hset:Bd (Af .i64 (dl m i)) [.sc (.int .i64 (Gn m i))] i=Af .i64 (dl m (i+1)):=by
   rw [Ff (by omega),Kq,Aqe m (by omega)]
  have hat:(Af .i64 (dl m (i+1))).getD i .top=.sc (.int .i64 (Gn m i)):=Vf (Atl m (by omega))
  rw [show nn+1-(k+1)=nn-k by omega,←ih,Og]
  simp (disch:=omega) only [Bx,Gy,B8,Br,w,w4,w60,hd,L,hset,hat,w15,ws]
theorem PB (hfu:1000<=fu)(m:Int):Ae (CX xs) Tryz.prog fu (d+1) Sh [.sc (.int .u64 m)]=some ⟨[.agg (Af .i64 (OR m))],[]⟩:=by
 rw [ET];have lp:=GR (fu:=fu) (call:=Ae (CX xs) Tryz.prog fu d) (a0:=m) (m:=m) (y3:=Af .i64 (List.replicate 18 0)) 16 0 fu (by omega) (by omega)
 obtain ⟨f',hf'⟩:∃f',fu-16=f'+1:=⟨fu-17,by omega⟩
 rw [hf'] at lp;refine Eq.trans lp ?_;have hs:=J4 m 16
 have wq:wrap .i64 (Int.tdiv (Jg m 16) 16)=Jg m 16 / 16:=by
  rw [Int.tdiv_eq_ediv_of_nonneg (by omega),Al (by omega) (by omega)]
 have wm:Int.tmod (Jg m 16) 16=Jg m 16 % 16:=Int.tmod_eq_emod_of_nonneg (by omega)
 have L:(Af .i64 (dl m 16)).length=18:=by rw [Am,Abh m (by omega)]
 have h1:Bd (Af .i64 (dl m 16)) [.sc (.int .i64 (Jg m 16 / 16))] 16=Af .i64 ((dl m 16).set 16 (Jg m 16 / 16)):=by
  rw [Ff (by omega),Kq]
 have L2:(Af .i64 ((dl m 16).set 16 (Jg m 16 / 16))).length=18:=by rw [Am,List.length_set,Abh m (by omega)]
 have h2:Bd (Af .i64 ((dl m 16).set 16 (Jg m 16 / 16))) [.sc (.int .i64 (Jg m 16 % 16))] 17=Af .i64 (OR m):=by
  rw [Ff (by omega),Kq]
  rfl
 rw [Og,Dj _ _ _ (by omega)]
 simp only [Hm,wq,wm,L,h1,L2,h2];generalize hq:Jg m 16 / 16=q at *
 generalize hr:Jg m 16 % 16=r at *
 have hD:Af .i64 (OR m)=[.sc (.int .i64 (Gn m 0)),.sc (.int .i64 (Gn m 1)),.sc (.int .i64 (Gn m 2)),.sc (.int .i64 (Gn m 3)),.sc (.int .i64 (Gn m 4)),.sc (.int .i64 (Gn m 5)),.sc (.int .i64 (Gn m 6)),.sc (.int .i64 (Gn m 7)),.sc (.int .i64 (Gn m 8)),.sc (.int .i64 (Gn m 9)),.sc (.int .i64 (Gn m 10)),.sc (.int .i64 (Gn m 11)),.sc (.int .i64 (Gn m 12)),.sc (.int .i64 (Gn m 13)),.sc (.int .i64 (Gn m 14)),.sc (.int .i64 (Gn m 15)),.sc (.int .i64 q),.sc (.int .i64 r)]:=by
  unfold OR;rw [hq,hr];rfl
 rw [hD];have hr18:(Af .i64 (List.replicate 18 0)).length=18:=rfl
 have hsp:∀c:List PV,c.length=18->Bd (Af .i64 (List.replicate 18 0)) c 0=c:=by
  intro c hc;unfold Bd;rw [hc,List.drop_of_length_le (by rw [hr18];omega)]
  simp
 rw [X7 (hnn:=by omega)]
 simp only [Bx,List.getD_cons_zero,List.getD_cons_succ,hr18];rw [hsp _ rfl];simp (disch:=omega) only [Bx,Xy,List.getD_cons_zero,List.getD_cons_succ]
theorem NL (hfu:1000<=fu)(leaf:Int){E:List Int}(hE:E.length=18):Ae (CX xs) Tryz.prog fu (d+6) Rs [.sc (.int .i64 leaf),.agg (Af .u64 E)]=some ⟨[.sc (.int .u64 (Y5 leaf E))],[]⟩:=by
 match E,hE with
 |[e0,e1,e2,e3,e4,e5,e6,e7,e8,e9,e10,e11,e12,e13,e14,e15,e16,e17],_=>
  have wd:Ae (CX xs) Tryz.prog fu (d+5) Fs [.lst false 1 19 [.sc (.int .u64 (wrap .u64 leaf)),.sc (.int .u64 e0),.sc (.int .u64 e1),.sc (.int .u64 e2),.sc (.int .u64 e3),.sc (.int .u64 e4),.sc (.int .u64 e5),.sc (.int .u64 e6),.sc (.int .u64 e7),.sc (.int .u64 e8),.sc (.int .u64 e9),.sc (.int .u64 e10),.sc (.int .u64 e11),.sc (.int .u64 e12),.sc (.int .u64 e13),.sc (.int .u64 e14),.sc (.int .u64 e15),.sc (.int .u64 e16),.sc (.int .u64 e17)]]=_:=Ps (ws:=wrap .u64 leaf::[e0,e1,e2,e3,e4,e5,e6,e7,e8,e9,e10,e11,e12,e13,e14,e15,e16,e17]) (by simp) (by omega) (by simp;omega)
  have hs:=Ail (xs:=xs) (fu:=fu) (d:=d) (ws:=wrap .u64 leaf::[e0,e1,e2,e3,e4,e5,e6,e7,e8,e9,e10,e11,e12,e13,e14,e15,e16,e17]) (by simp) hfu 2
  have L:=Am .u8 (A6 (wrap .u64 leaf::[e0,e1,e2,e3,e4,e5,e6,e7,e8,e9,e10,e11,e12,e13,e14,e15,e16,e17]));have eR:Y5 leaf [e0,e1,e2,e3,e4,e5,e6,e7,e8,e9,e10,e11,e12,e13,e14,e15,e16,e17]=My 2 (A6 (wrap .u64 leaf::[e0,e1,e2,e3,e4,e5,e6,e7,e8,e9,e10,e11,e12,e13,e14,e15,e16,e17])):=rfl;rw [eR];generalize A6 (wrap .u64 leaf::[e0,e1,e2,e3,e4,e5,e6,e7,e8,e9,e10,e11,e12,e13,e14,e15,e16,e17])=W at wd hs L ⊢;refine (CL fu (d+5) leaf e0 e1 e2 e3 e4 e5 e6 e7 e8 e9 e10 e11 e12 e13 e14 e15 e16 e17).trans ?_;simp (disch:=omega) only [Bx,wd,B8,Br,E6,J6,L,hs]
theorem Anc (g:Nat->Int){i:Nat}(hi:i<18):List.getD [PV.sc (.int .i64 (g 0)),PV.sc (.int .i64 (g 1)),PV.sc (.int .i64 (g 2)),PV.sc (.int .i64 (g 3)),PV.sc (.int .i64 (g 4)),PV.sc (.int .i64 (g 5)),PV.sc (.int .i64 (g 6)),PV.sc (.int .i64 (g 7)),PV.sc (.int .i64 (g 8)),PV.sc (.int .i64 (g 9)),PV.sc (.int .i64 (g 10)),PV.sc (.int .i64 (g 11)),PV.sc (.int .i64 (g 12)),PV.sc (.int .i64 (g 13)),PV.sc (.int .i64 (g 14)),PV.sc (.int .i64 (g 15)),PV.sc (.int .i64 (g 16)),PV.sc (.int .i64 (g 17))] i PV.top=.sc (.int .i64 (g i)):=by
 have:((List.range 18).map g)[i]?=some (g i):=by simp [hi]
 exact Vf (k:=.i64) this
theorem CE {a0 a1:Int}{a2n:Nat}{a2:List PV}{leaf m:Int}{s:List Int}(hs:s.length=18)(hfu:1000<=fu)(g:Nat->Int)(hg:∀k,g k=dg m k):∀(k i nn:Nat),i+k=18->k<nn ->
  Ep fu (Ae (CX xs) Tryz.prog fu (d+6)) a0 a1 a2n a2 nn leaf s.length (Af .u64 s) (g 0) (g 1) (g 2) (g 3) (g 4) (g 5) (g 6) (g 7) (g 8) (g 9) (g 10) (g 11) (g 12) (g 13) (g 14) (g 15) (g 16) (g 17) i (Af .u64 (el leaf m s i)) =
   Ep fu (Ae (CX xs) Tryz.prog fu (d+6)) a0 a1 a2n a2 (nn-k) leaf s.length (Af .u64 s) (g 0) (g 1) (g 2) (g 3) (g 4) (g 5) (g 6) (g 7) (g 8) (g 9) (g 10) (g 11) (g 12) (g 13) (g 14) (g 15) (g 16) (g 17) 18 (Af .u64 (el leaf m s 18))
 |_,_,0,_,h=>by omega
 |0,i,nn+1,hi,hn=>by
  have e:i=18:=by omega
  subst e;rfl
 |k+1,i,nn+1,hi,hn=>by
  have ih:=CE (a0:=a0) (a1:=a1) (a2n:=a2n) (a2:=a2) (leaf:=leaf) (m:=m) hs hfu g hg k (i+1) nn (by omega) (by omega)
  obtain ⟨x,hx⟩:∃x,s[i]?=some x:=⟨_,List.getElem?_eq_getElem (by omega)⟩
  have hb:=Tc m i;have hgi:=Anc g (i:=i) (by omega)
  have w:wrap .i64 ((i:Int)+1)=((i+1:Nat):Int):=by rw [Al (by omega) (by omega)];omega
  have rn:=Aa8 (xs:=xs) (fu:=fu) (d:=d) (leaf:=leaf) (chain:=i) hfu (15-dg m i).toNat (g i) 15 x (by rw [hg];omega) (by rw [hg];omega) (by omega)
  have ev:Qz leaf i (15-dg m i).toNat (g i) x=Ym leaf m s i:=by
   unfold Ym;rw [List.getD_eq_getElem?_getD,hx,hg];rfl
  rw [ev] at rn;have L:(Af .u64 (el leaf m s i)).length=18:=by rw [Am,Ai9 leaf m s (by omega)]
  have hset:Bd (Af .u64 (el leaf m s i)) [.sc (.int .u64 (Ym leaf m s i))] i=Af .u64 (el leaf m s (i+1)):=by
   rw [Ff (by omega),Kq,Ao5 leaf m s (by omega)]
  rw [show nn+1-(k+1)=nn-k by omega,←ih,M2]
  simp (disch:=omega) only [Bx,Gy,B8,Br,hgi,Vf hx,rn,L,hset,w]
theorem YN (hfu:1000<=fu){a0 a1 leaf:Int}{a2n n nn:Nat}{a2 c:List PV}{g:Nat->Int}{E:List Int}(hE:E.length=18):
  Ep fu (Ae (CX xs) Tryz.prog fu (d+6)) a0 a1 a2n a2 (nn+1) leaf n c (g 0) (g 1) (g 2) (g 3) (g 4) (g 5) (g 6) (g 7) (g 8) (g 9) (g 10) (g 11) (g 12) (g 13) (g 14) (g 15) (g 16) (g 17) 18 (Af .u64 E)=some ⟨[.sc (.int .u64 (Y5 leaf E)),.sc (.int .i64 0)],[]⟩:=by
 match E,hE with
 |[e0,e1,e2,e3,e4,e5,e6,e7,e8,e9,e10,e11,e12,e13,e14,e15,e16,e17],hE=>
  have cb:=NL (xs:=xs) (fu:=fu) (d:=d) hfu leaf hE;have hc:Af .u64 [e0,e1,e2,e3,e4,e5,e6,e7,e8,e9,e10,e11,e12,e13,e14,e15,e16,e17]=[.sc (.int .u64 e0),.sc (.int .u64 e1),.sc (.int .u64 e2),.sc (.int .u64 e3),.sc (.int .u64 e4),.sc (.int .u64 e5),.sc (.int .u64 e6),.sc (.int .u64 e7),.sc (.int .u64 e8),.sc (.int .u64 e9),.sc (.int .u64 e10),.sc (.int .u64 e11),.sc (.int .u64 e12),.sc (.int .u64 e13),.sc (.int .u64 e14),.sc (.int .u64 e15),.sc (.int .u64 e16),.sc (.int .u64 e17)]:=rfl;rw [hc] at cb ⊢;generalize Y5 leaf [e0,e1,e2,e3,e4,e5,e6,e7,e8,e9,e10,e11,e12,e13,e14,e15,e16,e17]=R at cb ⊢;rw [M2,Dj _ _ _ (by omega)]
  simp (disch:=omega) only [Bx,Wv,Wl,List.getD_cons_zero,List.getD_cons_succ,cb]
theorem Aa0 (hfu:1000<=fu)(leaf m:Int)(s:List Int):Ae (CX xs) Tryz.prog fu (d+7) Ra [.sc (.int .i64 leaf),.sc (.int .u64 m),.lst false 1 s.length (Af .u64 s)]=some ⟨(if s.length=18 then [.sc (.int .u64 (ST leaf m s)),.sc (.int .i64 0)] else [.sc (.int .u64 0),.sc (.int .i64 4)]),[]⟩:=by
 rw [CC];by_cases h:s.length=18
 ·have dq:=PB (xs:=xs) (fu:=fu) (d:=d+5) hfu m;have hD:Af .i64 (OR m)=[.sc (.int .i64 (dg m 0)),.sc (.int .i64 (dg m 1)),.sc (.int .i64 (dg m 2)),.sc (.int .i64 (dg m 3)),.sc (.int .i64 (dg m 4)),.sc (.int .i64 (dg m 5)),.sc (.int .i64 (dg m 6)),.sc (.int .i64 (dg m 7)),.sc (.int .i64 (dg m 8)),.sc (.int .i64 (dg m 9)),.sc (.int .i64 (dg m 10)),.sc (.int .i64 (dg m 11)),.sc (.int .i64 (dg m 12)),.sc (.int .i64 (dg m 13)),.sc (.int .i64 (dg m 14)),.sc (.int .i64 (dg m 15)),.sc (.int .i64 (dg m 16)),.sc (.int .i64 (dg m 17))]:=rfl;rw [hD] at dq;simp only [D5];rw [Bv h,Bv (by omega)]
  simp only [Bx,dq];have lp:=CE (xs:=xs) (fu:=fu) (d:=d) (a0:=leaf) (a1:=m) (a2n:=s.length) (a2:=Af .u64 s) (leaf:=leaf) (m:=m) h hfu (dg m) (fun _=>rfl) 18 0 fu (by omega) (by omega)
  obtain ⟨f',hf'⟩:∃f',fu-18=f'+1:=⟨fu-19,by omega⟩
  rw [hf'] at lp;refine Eq.trans lp ?_;have eE:el leaf m s 18=LD leaf m s:=As9 leaf m s;have hl:(LD leaf m s).length=18:=by rw [←eE,Ai9 leaf m s (by omega)]
  have eR:ST leaf m s=Y5 leaf (LD leaf m s):=rfl;rw [eE,eR];exact YN hfu hl
 ·simp only [D5];rw [A5 h,A5 (by omega)]
end
end
section
open Go.IntKind (wrap)
structure Ky where
 h:Int
 root:Int
structure Sg where
 leaf:Int
 chains:List Int
 path:List Int
def Ky.cells (k:Ky):List PV:=[.sc (.int .i64 k.h),.sc (.int .u64 k.root)]
def Sg.cells (s:Sg):List PV:=[.sc (.int .i64 s.leaf),.lst false 1 s.chains.length (Af .u64 s.chains),.lst false 1 s.path.length (Af .u64 s.path)]
def Dh (h:Int):Bool:=decide (h<0)||decide (h>4)
def Io (leaf h:Int):Bool:=decide (leaf<0)||decide (leaf>=Hc .i64 1 h)
def Mt (level a b:Int):Int:=My 3 (A6 [wrap .u64 level,a,b])
def V1 (leaf:Int):Nat->Int->List Int->Int
 |_,x,[]=>x
 |i,x,s::r=>V1 leaf (i+1) (if Qv .i64 (D7 .i64 leaf i) 1=0 then Mt ((i+1:Nat):Int) x s else Mt ((i+1:Nat):Int) s x) r
def okE (x root:Int):Int:=if x=root then 0 else 15
theorem MQ (leaf:Int)(i:Nat)(x:Int):V1 leaf i x []=x:=rfl
theorem Vu (leaf:Int)(i:Nat)(x s:Int)(r:List Int):V1 leaf i x (s::r)=V1 leaf (i+1) (if Qv .i64 (D7 .i64 leaf i) 1=0 then Mt ((i+1:Nat):Int) x s else Mt ((i+1:Nat):Int) s x) r:=rfl
def OU (k:Ky)(m:Int)(s:Sg):Int:=
 if Dh k.h=true then 9 else if Io s.leaf k.h=true then 9 else if s.chains.length≠18 then 4 else if (s.path.length:Int)≠k.h then 4 else
 okE (V1 s.leaf 0 (ST s.leaf m s.chains) s.path) k.root
theorem Hx {h:Int}(hh:Dh h=false):0<=h∧h<=4:=by
 unfold Dh at hh;simp at hh;omega
section
variable {fu d:Nat} {xs:FuncId->Option (List PV->Option A0)}
theorem Uo (h:Int):Ae (CX xs) Tryz.prog fu (d+1) Kn [.sc (.int .i64 h)]=some ⟨[.sc (.bool (Dh h))],[]⟩:=by
 rw [NF];unfold Dh;by_cases h0:h<0
 ·simp only [Bx,FF,h0,decide_true,Bool.true_or,if_true]
 ·simp only [Bx,FF,h0,decide_false,Bool.false_or,if_false]
theorem P2 (leaf h:Int)(h0:0<=h):Ae (CX xs) Tryz.prog fu (d+1) Hw [.sc (.int .i64 leaf),.sc (.int .i64 h)]=some ⟨[.sc (.bool (Io leaf h))],[]⟩:=by
 rw [DP];unfold Io;by_cases hl:leaf<0
 ·simp only [Bx,FF,hl,decide_true,Bool.true_or,if_true]
 ·simp (disch:=omega) only [Bx,FF,hl,decide_false,Bool.false_or,if_false]
theorem EQ (hfu:1000<=fu)(level a b:Int):Ae (CX xs) Tryz.prog fu (d+6) Ml [.sc (.int .i64 level),.sc (.int .u64 a),.sc (.int .u64 b)]=some ⟨[.sc (.int .u64 (Mt level a b))],[]⟩:=by
 have wd:Ae (CX xs) Tryz.prog fu (d+5) Fs [.lst false 1 3 [.sc (.int .u64 (wrap .u64 level)),.sc (.int .u64 a),.sc (.int .u64 b)]]=_:=Ps (ws:=[wrap .u64 level,a,b]) (by simp) (by omega) (by simp;omega)
 have hs:=Ail (xs:=xs) (fu:=fu) (d:=d) (ws:=[wrap .u64 level,a,b]) (by simp) hfu 3
 have L:=Am .u8 (A6 [wrap .u64 level,a,b]);rw [GB];unfold Mt;generalize A6 [wrap .u64 level,a,b]=W at wd hs L ⊢;simp (disch:=omega) only [Bx,wd,B8,Br,E6,J6,L,hs]
theorem HB {a0 a1 a2 a3:Int}{n1 n2 n3 n4:Nat}{c1 c2 c3 c4:List PV}{y5 root leaf:Int}{path:List Int}(hp:path.length<=100)(hfu:1000<=fu):∀(r:List Int)(i nn:Nat)(x:Int),path.drop i=r->r.length<nn->i<=path.length ->
  Gc fu (Ae (CX xs) Tryz.prog fu (d+6)) a0 a1 a2 a3 n1 c1 n2 c2 nn x path.length (Af .u64 path) path.length i y5 root leaf n3 c3 n4 c4=some ⟨[.sc (.int .i64 (okE (V1 leaf i x r) root))],[]⟩
 |_,_,0,_,_,h,_=>by omega
 |[],i,nn+1,x,h,hn,hi=>by
  have:=drop_nil h;rw [Ol,Dj _ _ _ (by omega),D5]
  rw [MQ];unfold okE;by_cases e:x=root
  ·rw [Bv e,Bv e]
  ·rw [A5 e,A5 e]
 |s::r,i,nn+1,x,h,hn,hi=>by
  obtain ⟨h1,h2,h3⟩:=B3 h;simp only [Ja] at hn;have w:wrap .i64 ((i:Int)+1)=((i+1:Nat):Int):=by rw [Al (by omega) (by omega)];omega
  have ih:=fun x=>HB (a0:=a0) (a1:=a1) (a2:=a2) (a3:=a3) (n1:=n1) (n2:=n2) (n3:=n3) (n4:=n4) (c1:=c1) (c2:=c2) (c3:=c3) (c4:=c4) (y5:=y5) (root:=root) (leaf:=leaf) hp hfu r (i+1) nn x h3 (by omega) (by omega)
  have p1:=EQ (xs:=xs) (fu:=fu) (d:=d) hfu ((i+1:Nat):Int) x s;have p2:=EQ (xs:=xs) (fu:=fu) (d:=d) hfu ((i+1:Nat):Int) s x;rw [Ol,Vu];by_cases hb:Qv .i64 (D7 .i64 leaf i) 1=0
  ·rw [Bv hb,←ih];simp (disch:=omega) only [Bx,Gy,B8,Vf h2,Et,hb,w,p1,if_true]
  ·rw [A5 hb,←ih];simp (disch:=omega) only [Bx,Gy,B8,Vf h2,Et,hb,w,p2,if_false]
theorem Ae6 (hfu:1000<=fu)(k:Ky)(m:Int)(s:Sg):Ae (CX xs) Tryz.prog fu (d+8) Tb [.agg k.cells,.sc (.int .u64 m),.agg s.cells]=some ⟨[.sc (.int .i64 (OU k m s))],[]⟩:=by
 refine (FA fu (d+7) k.h k.root m s.leaf s.chains.length (Af .u64 s.chains) s.path.length (Af .u64 s.path)).trans ?_;have h1:=Uo (xs:=xs) (fu:=fu) (d:=d+6) k.h;unfold OU;cases c1:Dh k.h
 ·rw [c1] at h1;have hb:=Hx c1;have h2:=P2 (xs:=xs) (fu:=fu) (d:=d+6) s.leaf k.h hb.1;cases c2:Io s.leaf k.h
  ·rw [c2] at h2;by_cases c3:s.chains.length=18
   ·by_cases c4:(s.path.length:Int)=k.h
    ·have rc:=Aa0 (xs:=xs) (fu:=fu) (d:=d) hfu s.leaf m s.chains;rw [Bv c3] at rc;have vl:=HB (xs:=xs) (fu:=fu) (d:=d+1) (a0:=k.h) (a1:=k.root) (a2:=m) (a3:=s.leaf) (n1:=s.chains.length) (n2:=s.path.length) (n3:=s.chains.length) (n4:=s.path.length) (c1:=Af .u64 s.chains) (c2:=Af .u64 s.path) (c3:=Af .u64 s.chains) (c4:=Af .u64 s.path) (y5:=k.h) (root:=k.root) (leaf:=s.leaf) (path:=s.path) (by omega) hfu s.path 0 fu (ST s.leaf m s.chains) rfl (by omega) (by omega)
     rw [A5 (by simp),A5 (by simp),A5 (by omega),A5 (by omega),←vl]
     simp (disch:=omega) only [Bx,h1,h2,D5,rc,if_true,c4];rw [Bv (by omega)]
     rfl
    ·rw [A5 (by simp),A5 (by simp),A5 (by omega),Bv c4]
     simp (disch:=omega) only [Bx,h1,h2,D5,c4,if_false];rw [Bv (by omega)]
   ·rw [A5 (by simp),A5 (by simp),Bv c3]
    simp (disch:=omega) only [Bx,h1,h2,D5];rw [A5 (by omega)]
  ·rw [c2] at h2;rw [A5 (by simp),Bv rfl]
   simp (disch:=omega) only [Bx,h1,h2]
 ·rw [c1] at h1;rw [Bv rfl];simp (disch:=omega) only [Bx,h1]
def Jo (k:Ky):List Int:=wrap .u8 k.h::D3 k.root
def EJ (s:Sg):List Int:=wrap .u8 s.leaf::wrap .u8 s.path.length::(A6 s.chains++A6 s.path)
theorem owd (hfu:1000<=fu)(w:Int):Ae (CX xs) Tryz.prog fu (d+1) Fs [.lst false 1 1 [.sc (.int .u64 w)]]=some ⟨[.own 1 8 (Af .u8 (D3 w))],[]⟩:=by
 have:=Ps (xs:=xs) (fu:=fu) (d:=d) (ws:=[w]) (by simp) (by omega) (by simp;omega)
 simp only [A6,List.flatMap_cons,List.flatMap_nil,List.append_nil,Ja,AV,Fa] at this;exact this
theorem Afu (hfu:1000<=fu)(k:Ky):Ae (CX xs) Tryz.prog fu (d+2) Ou [.agg k.cells]=some ⟨(if Dh k.h=true then [.own 1 0 [],.sc (.int .i64 9)] else [.own 1 9 (Af .u8 (Jo k)),.sc (.int .i64 0)]),[]⟩:=by
 refine (X6 fu (d+1) k.h k.root).trans ?_;have h1:=Uo (xs:=xs) (fu:=fu) (d:=d) k.h;have wd:=owd (xs:=xs) (fu:=fu) (d:=d) hfu k.root;have L:=Am .u8 (D3 k.root);rw [Fa] at L;have t8:List.take 8 (Af .u8 (D3 k.root))=Af .u8 (D3 k.root):=To (by omega)
 have t9:List.take 9 ([PV.sc (.int .u8 (wrap .u8 k.h))]++Af .u8 (D3 k.root))=Af .u8 (Jo k):=by
  rw [To (by rw [Kt,L];simp)]
  rfl
 have L9:([PV.sc (.int .u8 (wrap .u8 k.h))]++Af .u8 (D3 k.root)).length=9:=by rw [Kt,L];rfl
 cases c1:Dh k.h
 ·rw [c1] at h1;rw [A5 (by simp)]
  simp (disch:=omega) only [Bx,h1,wd,B8,Br,E6,L,t8,Nat.reduceAdd,L9,t9]
 ·rw [c1] at h1;rw [Bv rfl];simp (disch:=omega) only [Bx,h1]
theorem Af1 (hfu:1000<=fu)(s:Sg)(hp:s.path.length<=1000000000)(hf:s.path.length<fu):Ae (CX xs) Tryz.prog fu (d+2) Iu [.agg s.cells]=some ⟨(if Dh s.path.length=true then [.own 1 0 [],.sc (.int .i64 9)] else if Io s.leaf s.path.length=true then [.own 1 0 [],.sc (.int .i64 9)] else if s.chains.length≠18 then [.own 1 0 [],.sc (.int .i64 4)] else [.own 1 (EJ s).length (Af .u8 (EJ s)),.sc (.int .i64 0)]),[]⟩:=by
 refine (Qx fu (d+1) s.leaf s.chains.length (Af .u64 s.chains) s.path.length (Af .u64 s.path)).trans ?_;have h1:=Uo (xs:=xs) (fu:=fu) (d:=d) s.path.length;cases c1:Dh s.path.length
 ·rw [c1] at h1;have hb:=Hx c1;have h2:=P2 (xs:=xs) (fu:=fu) (d:=d) s.leaf s.path.length hb.1;cases c2:Io s.leaf s.path.length
  ·rw [c2] at h2;by_cases c3:s.chains.length=18
   ·have w1:=Ps (xs:=xs) (fu:=fu) (d:=d) (ws:=s.chains) (by omega) (by omega) (by omega)
    have w2:=Ps (xs:=xs) (fu:=fu) (d:=d) (ws:=s.path) (by omega) (by omega) (by omega)
    have l1:=Dn s.chains;have l2:=Dn s.path;have L1:=Am .u8 (A6 s.chains);have L2:=Am .u8 (A6 s.path)
    have eB:Af .u8 (EJ s)=[PV.sc (.int .u8 (wrap .u8 s.leaf)),PV.sc (.int .u8 (wrap .u8 s.path.length))]++Af .u8 (A6 s.chains)++Af .u8 (A6 s.path):=by
     unfold EJ;simp
    have eL:(EJ s).length=2+(A6 s.chains).length+(A6 s.path).length:=by
     unfold EJ;simp;omega
    rw [A5 (by simp),A5 (by simp),A5 (by omega),eB,eL]
    have t2:List.take (2+(A6 s.chains).length) ([PV.sc (.int .u8 (wrap .u8 s.leaf)),PV.sc (.int .u8 (wrap .u8 s.path.length))]++Af .u8 (A6 s.chains))=[PV.sc (.int .u8 (wrap .u8 s.leaf)),PV.sc (.int .u8 (wrap .u8 s.path.length))]++Af .u8 (A6 s.chains):=To (by rw [Kt,L1];simp)
    have t3:List.take (2+(A6 s.chains).length+(A6 s.path).length) ([PV.sc (.int .u8 (wrap .u8 s.leaf)),PV.sc (.int .u8 (wrap .u8 s.path.length))]++Af .u8 (A6 s.chains)++Af .u8 (A6 s.path))=[PV.sc (.int .u8 (wrap .u8 s.leaf)),PV.sc (.int .u8 (wrap .u8 s.path.length))]++Af .u8 (A6 s.chains)++Af .u8 (A6 s.path):=To (by rw [Kt,Kt,L1,L2];simp)
    have k2:([PV.sc (.int .u8 (wrap .u8 s.leaf)),PV.sc (.int .u8 (wrap .u8 s.path.length))]++Af .u8 (A6 s.chains)).length=2+(A6 s.chains).length:=by rw [Kt,L1];rfl
    have k3:([PV.sc (.int .u8 (wrap .u8 s.leaf)),PV.sc (.int .u8 (wrap .u8 s.path.length))]++Af .u8 (A6 s.chains)++Af .u8 (A6 s.path)).length=2+(A6 s.chains).length+(A6 s.path).length:=by rw [Kt,k2,L2]
    simp (disch:=omega) only [Bx,h1,h2,D5,w1,w2,B8,Br,E6,L1,L2,J6,t2,t3,k2,k3];rw [Bv (by omega)]
   ·rw [A5 (by simp),A5 (by simp),Bv c3]
    simp (disch:=omega) only [Bx,h1,h2,D5];rw [A5 (by omega)]
  ·rw [c2] at h2;rw [A5 (by simp),Bv rfl]
   simp (disch:=omega) only [Bx,h1,h2]
 ·rw [c1] at h1;rw [Bv rfl];simp (disch:=omega) only [Bx,h1]
def Rt (l:List Int)(i:Nat):Int:=MB ((l.drop (8*i)).take 8)
def Fy (l:List Int):List Int:=(List.range (l.length / 8)).map (Rt l)
def wl (l:List Int)(i:Nat):List Int:=(List.range i).map (Rt l)++List.replicate (l.length / 8-i) 0
theorem Aie (l:List Int){i:Nat}(h:i<=l.length / 8):(wl l i).length=l.length / 8:=by simp [wl];omega
theorem Asi (l:List Int){i:Nat}(h:i<l.length / 8):(wl l i).set i (Rt l i)=wl l (i+1):=by
 unfold wl;rw [List.set_append_right _ _ (by simp),List.length_map,List.length_range,Nat.sub_self,show l.length / 8-i=(l.length / 8-(i+1))+1 by omega,List.replicate_succ,List.set_cons_zero,List.range_succ,List.map_append,ZJ]
 rfl
theorem Al3 (l:List Int){i:Nat}(h:i<l.length / 8):(wl l i).set i 0=wl l i:=by
 unfold wl;rw [List.set_append_right _ _ (by simp),List.length_map,List.length_range,Nat.sub_self,show l.length / 8-i=(l.length / 8-(i+1))+1 by omega,List.replicate_succ,List.set_cons_zero]
theorem PI {n m0:Nat}{c:List PV}{l:List Int}(hl:l.length<=1000000){i:Nat}(hi:i<l.length / 8){q:List Int}(hq:q.length<=8):∀(r:List Int)(j nn:Nat)(x:Int),q.drop j=r->r.length<nn->j<=q.length ->
  Ij fu (Ae (CX xs) Tryz.prog fu d) n c m0 nn l.length (Af .u8 l) (l.length / 8) i ((l.length / 8:Nat):Int) i q.length (Af .u8 q) q.length j (Af .u64 ((wl l i).set i x)) =
   G8 fu (Ae (CX xs) Tryz.prog fu d) n c m0 l.length (Af .u8 l) (l.length / 8) ((l.length / 8:Nat):Int) ((i+1:Nat):Int) (Af .u64 ((wl l i).set i (r.foldl Fo x)))
 |_,_,0,_,_,h,_=>by omega
 |[],j,nn+1,x,h,hn,hj=>by
  have:=drop_nil h;have w:wrap .i64 ((i:Int)+1)=((i+1:Nat):Int):=by rw [Al (by omega) (by omega)];omega
  rw [P7,Dj _ _ _ (by omega)]
  simp only [Hm,w,List.foldl_nil]
 |b::r,j,nn+1,x,h,hn,hj=>by
  obtain ⟨h1,h2,h3⟩:=B3 h;simp only [Ja] at hn;have w:wrap .i64 ((j:Int)+1)=((j+1:Nat):Int):=by rw [Al (by omega) (by omega)];omega
  have L:(Af .u64 ((wl l i).set i x)).length=l.length / 8:=by rw [Am,List.length_set,Aie l (by omega)]
  have hat:(Af .u64 ((wl l i).set i x)).getD i .top=.sc (.int .u64 x):=Vf (by rw [List.getElem?_set_self (by rw [Aie l (by omega)];omega)])
  have hset:Bd (Af .u64 ((wl l i).set i x)) [.sc (.int .u64 (Fo x b))] i=Af .u64 ((wl l i).set i (Fo x b)):=by
   rw [Ff (by omega),Kq,List.set_set]
  have ih:=PI (n:=n) (m0:=m0) (c:=c) hl hi hq r (j+1) nn (Fo x b) h3 (by omega) (by omega)
  rw [List.foldl_cons,←ih,P7];simp (disch:=omega) only [Bx,Gy,B8,Br,Vf h2,hat,L,w];exact congrArg _ hset
theorem HP {n:Nat}{c:List PV}{l:List Int}(hl:l.length<=1000000)(hfu:100<=fu):∀(k i nn:Nat),i+k=l.length / 8->k<nn ->
  G8 fu (Ae (CX xs) Tryz.prog fu d) n c nn l.length (Af .u8 l) (l.length / 8) ((l.length / 8:Nat):Int) i (Af .u64 (wl l i))=some ⟨[.own 1 (l.length / 8) (Af .u64 (Fy l))],[]⟩
 |_,_,0,_,h=>by omega
 |0,i,nn+1,hi,hn=>by
  have e:i=l.length / 8:=by omega
  subst e;have e2:wl l (l.length / 8)=Fy l:=by unfold wl Fy;simp
  have L:(Af .u64 (Fy l)).length=l.length / 8:=by rw [Am];simp [Fy]
  have tk:List.take (l.length / 8) (Af .u64 (Fy l))=Af .u64 (Fy l):=To (by omega)
  rw [Px,Dj _ _ _ (by omega),e2]
  simp (disch:=omega) only [Bx,B8,L,tk]
 |k+1,i,nn+1,hi,hn=>by
  have ih:=HP (n:=n) (c:=c) hl hfu k (i+1) nn (by omega) (by omega)
  have w8:wrap .i64 (8*(i:Int))=((8*i:Nat):Int):=by rw [Al (by omega) (by omega)];omega
  have w88:wrap .i64 (((8*i:Nat):Int)+8)=((8*i+8:Nat):Int):=by rw [Al (by omega) (by omega)];omega
  have e8:8*i+8-8*i=8:=by omega
  have hdl:((l.drop (8*i)).take 8).length=8:=by rw [List.length_take,List.length_drop];omega
  have st:=PI (xs:=xs) (fu:=fu) (d:=d) (n:=n) (m0:=nn) (c:=c) hl (i:=i) (by omega) (q:=(l.drop (8*i)).take 8) (by omega) ((l.drop (8*i)).take 8) 0 fu 0 rfl (by omega) (by omega)
  rw [Al3 l (by omega),hdl] at st
  have ew:((l.drop (8*i)).take 8).foldl Fo 0=Rt l i:=rfl;rw [ew,Asi l (by omega),ih] at st
  rw [Px];simp (disch:=omega) only [Bx,Gy,B8,w8,w88,e8,Ip,Pg];exact st
theorem LZ (n:Nat):Sl n [.sc (.int .u64 0)]=Af .u64 (List.replicate n 0):=by
 induction n with
 |zero=>rfl
 |succ n ih=>
  show ([PV.sc (.int .u64 0)]::List.replicate n [PV.sc (.int .u64 0)]).flatten=_;rw [List.flatten_cons,List.replicate_succ];show _++Sl n [.sc (.int .u64 0)]=PV.sc (.int .u64 0)::Af .u64 (List.replicate n 0);rw [ih];rfl
theorem EO {l:List Int}(hl:l.length<=1000000)(hfu:100<=fu)(hf:l.length<fu):Ae (CX xs) Tryz.prog fu (d+1) Vc [.lst false 1 l.length (Af .u8 l)]=some ⟨[.own 1 (l.length / 8) (Af .u64 (Fy l))],[]⟩:=by
 rw [HW]
 have w:wrap .i64 (Int.tdiv (l.length:Int) 8)=((l.length / 8:Nat):Int):=by
  rw [Int.tdiv_eq_ediv_of_nonneg (by omega),Al (by omega) (by omega)]
  omega
 have lp:=HP (xs:=xs) (fu:=fu) (d:=d) (n:=l.length) (c:=Af .u8 l) hl hfu (l.length / 8) 0 fu (by omega) (by omega)
 have e0:wl l 0=List.replicate (l.length / 8) 0:=by unfold wl;simp
 rw [e0] at lp;simp (disch:=omega) only [Bx,w,Gy,LZ,Int.le_refl];exact lp
def JY (l:List Int):Option Ky:=if l.length=9∧Dh (l.getD 0 0)=false then some ⟨l.getD 0 0,Rt (l.drop 1) 0⟩ else none
def Abj (o:Option Ky):List PV:=match o with|some k=>[.agg k.cells,.sc (.int .i64 0)]|none=>[.agg (Ky.mk 0 0).cells,.sc (.int .i64 2)]
theorem Agf (hfu:1000<=fu){l:List Int}(hb:Kx l):Ae (CX xs) Tryz.prog fu (d+2) Ox [.lst false 1 l.length (Af .u8 l)]=some ⟨Abj (JY l),[]⟩:=by
 refine (Yo fu (d+1) l.length (Af .u8 l)).trans ?_;unfold JY;by_cases h9:l.length=9
 ·obtain ⟨x,hx⟩:∃x,l[0]?=some x:=⟨_,List.getElem?_eq_getElem (by omega)⟩
  have hxb:=hb x (List.mem_of_getElem? hx);have wx:wrap .i64 x=x:=Al (by omega) (by omega)
  have gx:l.getD 0 0=x:=by rw [List.getD_eq_getElem?_getD,hx];rfl
  have h1:=Uo (xs:=xs) (fu:=fu) (d:=d) x;rw [gx];cases c1:Dh x
  ·rw [c1] at h1;have hdl:(l.drop 1).length=8:=by rw [List.length_drop];omega
   have dw:=EO (xs:=xs) (fu:=fu) (d:=d) (l:=l.drop 1) (by omega) (by omega) (by omega)
   rw [hdl] at dw;have hat:(Af .u64 (Fy (l.drop 1))).getD 0 .top=.sc (.int .u64 (Rt (l.drop 1) 0)):=Vf (by unfold Fy;rw [hdl];rfl)
   have e8:9-1=8:=rfl;have tk:List.take 8 (Af .u8 (l.drop 1))=Af .u8 (l.drop 1):=To (by rw [Am];omega)
   rw [Bv ⟨h9,rfl⟩,h9];simp (disch:=omega) only [Bx,D5,Vf hx,wx,h1,B8,Ip,e8,tk,dw,hat];rfl
  ·rw [c1] at h1;rw [A5 (by simp),h9]
   simp (disch:=omega) only [Bx,D5,Vf hx,wx,h1];rfl
 ·rw [A5 (by simp [h9])]
  simp (disch:=omega) only [D5];rw [A5 (by omega)]
  rfl
def sgD (l:List Int):Option Sg:=
 if 2<=l.length∧Dh (l.getD 1 0)=false∧Io (l.getD 0 0) (l.getD 1 0)=false∧(l.length:Int)=2+8*(18+l.getD 1 0) then some ⟨l.getD 0 0,Fy ((l.drop 2).take 144),Fy (l.drop 146)⟩ else none
def Sg.owned (s:Sg):List PV:=[.sc (.int .i64 s.leaf),.own 1 s.chains.length (Af .u64 s.chains),.own 1 s.path.length (Af .u64 s.path)]
def Acm (o:Option Sg):List PV:=match o with|some s=>[.agg s.owned,.sc (.int .i64 0)]|none=>[.agg (Sg.mk 0 [] []).owned,.sc (.int .i64 2)]
theorem Pn (l:List Int):(Fy l).length=l.length / 8:=by simp [Fy]
theorem Aew (hfu:1000<=fu){l:List Int}(hb:Kx l):Ae (CX xs) Tryz.prog fu (d+2) Ir [.lst false 1 l.length (Af .u8 l)]=some ⟨Acm (sgD l),[]⟩:=by
 refine (Qs fu (d+1) l.length (Af .u8 l)).trans ?_;unfold sgD;by_cases h2:2<=l.length
 ·obtain ⟨x,hx⟩:∃x,l[0]?=some x:=⟨_,List.getElem?_eq_getElem (by omega)⟩
  obtain ⟨y,hy⟩:∃y,l[1]?=some y:=⟨_,List.getElem?_eq_getElem (by omega)⟩
  have hxb:=hb x (List.mem_of_getElem? hx);have hyb:=hb y (List.mem_of_getElem? hy);have wx:wrap .i64 x=x:=Al (by omega) (by omega)
  have wy:wrap .i64 y=y:=Al (by omega) (by omega)
  have gx:l.getD 0 0=x:=by rw [List.getD_eq_getElem?_getD,hx];rfl
  have gy:l.getD 1 0=y:=by rw [List.getD_eq_getElem?_getD,hy];rfl
  have h1:=Uo (xs:=xs) (fu:=fu) (d:=d) y;have ho:=P2 (xs:=xs) (fu:=fu) (d:=d) x y (by omega)
  have w1:wrap .i64 (18+y)=18+y:=Al (by omega) (by omega)
  have w2:wrap .i64 (8*(18+y))=8*(18+y):=Al (by omega) (by omega)
  have w3:wrap .i64 (2+8*(18+y))=2+8*(18+y):=Al (by omega) (by omega)
  rw [gx,gy];cases c1:Dh y
  ·rw [c1] at h1;cases c2:Io x y
   ·rw [c2] at ho;by_cases c3:(l.length:Int)=2+8*(18+y)
    ·have hy4:=Hx c1;have d1:=EO (xs:=xs) (fu:=fu) (d:=d) (l:=(l.drop 2).take 144) (by rw [List.length_take,List.length_drop];omega) (by omega) (by rw [List.length_take,List.length_drop];omega)
     have d2:=EO (xs:=xs) (fu:=fu) (d:=d) (l:=l.drop 146) (by rw [List.length_drop];omega) (by omega) (by rw [List.length_drop];omega)
     have l1:((l.drop 2).take 144).length=144:=by rw [List.length_take,List.length_drop];omega
     have l2:(l.drop 146).length=l.length-146:=List.length_drop;rw [l1] at d1;have L1:(Af .u64 (Fy ((l.drop 2).take 144))).length=18:=by rw [Am,Pn,l1]
     have L2:(Af .u64 (Fy (l.drop 146))).length=(l.length-146) / 8:=by rw [Am,Pn,l2]
     rw [l2] at d2;have t1:List.take (144 / 8) (Af .u64 (Fy ((l.drop 2).take 144)))=Af .u64 (Fy ((l.drop 2).take 144)):=To (by omega)
     have t2:List.take ((l.length-146) / 8) (Af .u64 (Fy (l.drop 146)))=Af .u64 (Fy (l.drop 146)):=To (by omega)
     have t3:List.take (l.length-146) (l.drop 146)=l.drop 146:=To (by omega)
     rw [Bv ⟨h2,rfl,rfl,c3⟩];simp (disch:=omega) only [Bx,D5,Vf hx,Vf hy,wx,wy,h1,ho,w1,w2,w3,B8,Ip,Pg,d1,d2,t3,L1,L2,t1,t2];rw [Bv c3];simp only [Acm,Sg.owned,Pn,l1,l2]
    ·rw [A5 (by simp [c3])]
     simp (disch:=omega) only [Bx,D5,Vf hx,Vf hy,wx,wy,h1,ho,w1,w2,w3];rw [A5 c3];rfl
   ·rw [c2] at ho;rw [A5 (by simp)]
    simp (disch:=omega) only [Bx,D5,Vf hx,Vf hy,wx,wy,h1,ho];rfl
  ·rw [c1] at h1;rw [A5 (by simp)]
   simp (disch:=omega) only [Bx,D5,Vf hx,Vf hy,wx,wy,h1];rfl
 ·rw [A5 (by simp [h2])]
  simp (disch:=omega) only [Bx];rfl
end
end
section
open Go.IntKind (wrap)
def EW (seed leaf chain:Int):Int:=Al0 seed 1 (A6 [wrap .u64 leaf,wrap .u64 chain])
def Xx (seed leaf:Int)(c:Nat):Int:=Qz leaf c 15 0 (EW seed leaf c)
def Ih (seed leaf:Int):Int:=Y5 leaf ((List.range 18).map (Xx seed leaf))
def Vs (seed leaf m:Int)(c:Nat):Int:=Qz leaf c (dg m c).toNat 0 (EW seed leaf c)
def I3 (seed leaf m:Int):List Int:=(List.range 18).map (Vs seed leaf m)
def B6 (seed:Int):Nat->Int->Int
 |0,i=>Ih seed i
 |l+1,i=>Mt ((l+1:Nat):Int) (B6 seed l (2*i)) (B6 seed l (2*i+1))
def G0 (seed:Int)(h:Int):Ky:=if Dh h=true then ⟨0,0⟩ else ⟨h,B6 seed h.toNat 0⟩
def Fx (leaf:Int)(k:Nat):Int:=D2 .i64 (D7 .i64 leaf k) 1
def EE (seed:Int)(h leaf m:Int):Option Sg:=if Dh h=true then none else if Io leaf h=true then none else some ⟨leaf,I3 seed leaf m,(List.range h.toNat).map fun k=>B6 seed k (Fx leaf k)⟩
def SL (o:Option Sg):List PV:=match o with|some s=>[.agg s.owned,.sc (.int .i64 0)]|none=>[.agg (Sg.mk 0 [] []).owned,.sc (.int .i64 9)]
end
section
open Go.IntKind (wrap)
set_option maxRecDepth 20000
section
variable {fu d:Nat} {xs:FuncId->Option (List PV->Option A0)}
theorem Anz {l:List Int}(hb:Kx l)(hl:l.length<=1099511627776)(hfu:100<=fu)(hf:l.length<fu)(key dom:Int):Ae (CX xs) Tryz.prog fu (d+5) CF [.sc (.int .u64 key),.sc (.int .i64 dom),.lst false 1 l.length (Af .u8 l)]=some ⟨[.sc (.int .u64 (Al0 key dom l))],[]⟩:=by
 rw [SQ];have s:=Ahw (xs:=xs) (fu:=fu) (d:=d) hb hl hfu hf key (wrap .u64 (1+wrap .u64 dom));simp only [Bx,s];rfl
theorem QI (hfu:1000<=fu)(seed leaf chain:Int):Ae (CX xs) Tryz.prog fu (d+6) Sq [.sc (.int .u64 seed),.sc (.int .i64 leaf),.sc (.int .i64 chain)]=some ⟨[.sc (.int .u64 (EW seed leaf chain))],[]⟩:=by
 have wd:Ae (CX xs) Tryz.prog fu (d+5) Fs [.lst false 1 2 [.sc (.int .u64 (wrap .u64 leaf)),.sc (.int .u64 (wrap .u64 chain))]]=_:=Ps (ws:=[wrap .u64 leaf,wrap .u64 chain]) (by simp) (by omega) (by simp;omega)
 have hs:=Anz (xs:=xs) (fu:=fu) (d:=d) (Ss [wrap .u64 leaf,wrap .u64 chain]) (by rw [Dn];simp) (by omega) (by rw [Dn];simp;omega) seed 1
 have L:=Am .u8 (A6 [wrap .u64 leaf,wrap .u64 chain]);rw [GC];unfold EW;generalize A6 [wrap .u64 leaf,wrap .u64 chain]=W at wd hs L ⊢;simp (disch:=omega) only [Bx,wd,B8,Br,E6,J6,L,hs]
def pl (g:Nat->Int)(i:Nat):List Int:=(List.range i).map g++List.replicate (18-i) 0
theorem ZR (g:Nat->Int){i:Nat}(h:i<=18):(pl g i).length=18:=by simp [pl];omega
theorem Aib (g:Nat->Int){i:Nat}(h:i<18):(pl g i).set i (g i)=pl g (i+1):=by
 unfold pl;rw [List.set_append_right _ _ (by simp),List.length_map,List.length_range,Nat.sub_self,show 18-i=(18-(i+1))+1 by omega,List.replicate_succ,List.set_cons_zero,List.range_succ,List.map_append,ZJ]
 rfl
theorem Anh (g:Nat->Int):pl g 18=(List.range 18).map g:=by simp [pl]
theorem HD {a0 a1 seed leaf:Int}(hfu:1000<=fu):∀(k i nn:Nat),i+k=18->k<nn ->
  E9 fu (Ae (CX xs) Tryz.prog fu (d+6)) a0 a1 nn seed leaf i (Af .u64 (pl (Xx seed leaf) i))=E9 fu (Ae (CX xs) Tryz.prog fu (d+6)) a0 a1 (nn-k) seed leaf 18 (Af .u64 (pl (Xx seed leaf) 18))
 |_,_,0,_,h=>by omega
 |0,i,nn+1,hi,hn=>by
  have e:i=18:=by omega
  subst e;rfl
 |k+1,i,nn+1,hi,hn=>by
  have ih:=HD (a0:=a0) (a1:=a1) (seed:=seed) (leaf:=leaf) hfu k (i+1) nn (by omega) (by omega)
  have w:wrap .i64 ((i:Int)+1)=((i+1:Nat):Int):=by rw [Al (by omega) (by omega)];omega
  have sc:=QI (xs:=xs) (fu:=fu) (d:=d) hfu seed leaf i;have rn:=Aa8 (xs:=xs) (fu:=fu) (d:=d) (leaf:=leaf) (chain:=i) hfu 15 0 15 (EW seed leaf i) (by omega) (by omega) (by omega)
  have ev:Qz leaf i 15 0 (EW seed leaf i)=Xx seed leaf i:=rfl;rw [ev] at rn;have L:(Af .u64 (pl (Xx seed leaf) i)).length=18:=by rw [Am,ZR _ (by omega)]
  have hset:Bd (Af .u64 (pl (Xx seed leaf) i)) [.sc (.int .u64 (Xx seed leaf i))] i=Af .u64 (pl (Xx seed leaf) (i+1)):=by
   rw [Ff (by omega),Kq,Aib _ (by omega)]
  rw [show nn+1-(k+1)=nn-k by omega,←ih,Od]
  simp (disch:=omega) only [Bx,Gy,B8,Br,sc,rn,L,hset,w]
theorem Aa2 (hfu:1000<=fu){a0 a1 seed leaf:Int}{nn:Nat}{E:List Int}(hE:E.length=18):
  E9 fu (Ae (CX xs) Tryz.prog fu (d+6)) a0 a1 (nn+1) seed leaf 18 (Af .u64 E)=some ⟨[.sc (.int .u64 (Y5 leaf E))],[]⟩:=by
 match E,hE with
 |[e0,e1,e2,e3,e4,e5,e6,e7,e8,e9,e10,e11,e12,e13,e14,e15,e16,e17],hE=>
  have cb:=NL (xs:=xs) (fu:=fu) (d:=d) hfu leaf hE;have hc:Af .u64 [e0,e1,e2,e3,e4,e5,e6,e7,e8,e9,e10,e11,e12,e13,e14,e15,e16,e17]=[.sc (.int .u64 e0),.sc (.int .u64 e1),.sc (.int .u64 e2),.sc (.int .u64 e3),.sc (.int .u64 e4),.sc (.int .u64 e5),.sc (.int .u64 e6),.sc (.int .u64 e7),.sc (.int .u64 e8),.sc (.int .u64 e9),.sc (.int .u64 e10),.sc (.int .u64 e11),.sc (.int .u64 e12),.sc (.int .u64 e13),.sc (.int .u64 e14),.sc (.int .u64 e15),.sc (.int .u64 e16),.sc (.int .u64 e17)]:=rfl;rw [hc] at cb ⊢;generalize Y5 leaf [e0,e1,e2,e3,e4,e5,e6,e7,e8,e9,e10,e11,e12,e13,e14,e15,e16,e17]=R at cb ⊢;rw [Od,Dj _ _ _ (by omega)]
  simp (disch:=omega) only [Bx,Yh,Yr,List.getD_cons_zero,List.getD_cons_succ,cb]
theorem Af8 (hfu:1000<=fu)(seed leaf:Int):Ae (CX xs) Tryz.prog fu (d+7) Mc [.sc (.int .u64 seed),.sc (.int .i64 leaf)]=some ⟨[.sc (.int .u64 (Ih seed leaf))],[]⟩:=by
 rw [EZ];have lp:=HD (xs:=xs) (fu:=fu) (d:=d) (a0:=seed) (a1:=leaf) (seed:=seed) (leaf:=leaf) hfu 18 0 fu (by omega) (by omega)
 obtain ⟨f',hf'⟩:∃f',fu-18=f'+1:=⟨fu-19,by omega⟩
 rw [hf'] at lp;refine Eq.trans lp ?_;rw [Anh];exact Aa2 hfu (by simp)
theorem QC {a0 a1 a2:Int}{seed leaf m:Int}(hfu:1000<=fu)(g:Nat->Int)(hg:∀k,g k=dg m k):∀(k i nn:Nat),i+k=18->k<nn ->
  Jc fu (Ae (CX xs) Tryz.prog fu (d+6)) a0 a1 a2 nn seed leaf (g 0) (g 1) (g 2) (g 3) (g 4) (g 5) (g 6) (g 7) (g 8) (g 9) (g 10) (g 11) (g 12) (g 13) (g 14) (g 15) (g 16) (g 17) i (Af .u64 (pl (Vs seed leaf m) i)) =
   some ⟨[.own 1 18 (Af .u64 (I3 seed leaf m))],[]⟩
 |_,_,0,_,h=>by omega
 |0,i,nn+1,hi,hn=>by
  have e:i=18:=by omega
  subst e;have L:(Af .u64 (pl (Vs seed leaf m) 18)).length=18:=by rw [Am,ZR _ (by omega)]
  have T:List.take 18 (Af .u64 (pl (Vs seed leaf m) 18))=Af .u64 (I3 seed leaf m):=by rw [To (by omega),Anh];rfl
  rw [Q7,Dj _ _ _ (by omega)]
  simp (disch:=omega) only [Bx,L,T]
 |k+1,i,nn+1,hi,hn=>by
  have ih:=QC (a0:=a0) (a1:=a1) (a2:=a2) (seed:=seed) (leaf:=leaf) (m:=m) hfu g hg k (i+1) nn (by omega) (by omega)
  have hb:=Tc m i;have hgi:=Anc g (i:=i) (by omega)
  have w:wrap .i64 ((i:Int)+1)=((i+1:Nat):Int):=by rw [Al (by omega) (by omega)];omega
  have sc:=QI (xs:=xs) (fu:=fu) (d:=d) hfu seed leaf i;have rn:=Aa8 (xs:=xs) (fu:=fu) (d:=d) (leaf:=leaf) (chain:=i) hfu (dg m i).toNat 0 (g i) (EW seed leaf i) (by rw [hg];omega) (by omega) (by rw [hg];omega)
  have ev:Qz leaf i (dg m i).toNat 0 (EW seed leaf i)=Vs seed leaf m i:=rfl;rw [ev] at rn;have L:(Af .u64 (pl (Vs seed leaf m) i)).length=18:=by rw [Am,ZR _ (by omega)]
  have hset:Bd (Af .u64 (pl (Vs seed leaf m) i)) [.sc (.int .u64 (Vs seed leaf m i))] i=Af .u64 (pl (Vs seed leaf m) (i+1)):=by
   rw [Ff (by omega),Kq,Aib _ (by omega)]
  rw [Q7];simp (disch:=omega) only [Bx,Gy,B8,Br,hgi,sc,rn,L,hset,w];exact ih
theorem Ak4 (hfu:1000<=fu)(seed leaf m:Int):Ae (CX xs) Tryz.prog fu (d+7) Qf [.sc (.int .u64 seed),.sc (.int .i64 leaf),.sc (.int .u64 m)]=some ⟨[.own 1 18 (Af .u64 (I3 seed leaf m))],[]⟩:=by
 rw [KU];have dq:=PB (xs:=xs) (fu:=fu) (d:=d+5) hfu m;have hD:Af .i64 (OR m)=[.sc (.int .i64 (dg m 0)),.sc (.int .i64 (dg m 1)),.sc (.int .i64 (dg m 2)),.sc (.int .i64 (dg m 3)),.sc (.int .i64 (dg m 4)),.sc (.int .i64 (dg m 5)),.sc (.int .i64 (dg m 6)),.sc (.int .i64 (dg m 7)),.sc (.int .i64 (dg m 8)),.sc (.int .i64 (dg m 9)),.sc (.int .i64 (dg m 10)),.sc (.int .i64 (dg m 11)),.sc (.int .i64 (dg m 12)),.sc (.int .i64 (dg m 13)),.sc (.int .i64 (dg m 14)),.sc (.int .i64 (dg m 15)),.sc (.int .i64 (dg m 16)),.sc (.int .i64 (dg m 17))]:=rfl;rw [hD] at dq;simp only [Bx,dq];exact QC (fu:=fu) (d:=d) (a0:=seed) (a1:=leaf) (a2:=m) hfu (dg m) (fun _=>rfl) 18 0 fu (by omega) (by omega)
end
end
section
open Go.IntKind (wrap)
def KK (h leaf:Int):Bool:=Dh h||Io leaf h
def tkL (h leaf:Int):Int:=if KK h leaf=true then 0 else leaf
def tkC (seed h leaf m:Int):List Int:=if KK h leaf=true then [] else I3 seed leaf m
def tkP (seed h leaf:Int):List Int:=if KK h leaf=true then [] else (List.range h.toNat).map fun k=>B6 seed k (Fx leaf k)
def tkE (h leaf:Int):Int:=if KK h leaf=true then 9 else 0
def Aqs (args:List PV):Option A0:=
 match args with
 |[.sc (.int .u64 seed),.sc (.int .i64 h),.sc (.int .i64 leaf),.sc (.int .u64 m)]=>
  some ⟨[.agg [.sc (.int .i64 (tkL h leaf)),.lst false 1 (tkC seed h leaf m).length (Af .u64 (tkC seed h leaf m)),.lst false 1 (tkP seed h leaf).length (Af .u64 (tkP seed h leaf))],.sc (.int .i64 (tkE h leaf))],[]⟩
 |_=>none
def Kd (f:FuncId):Option (List PV->Option A0):=
 bif Nat.beq f 56 then some ML else
 bif Nat.beq f 133 then some Wp else
 bif Nat.beq f 37 then some Aqs else
 bif Nat.beq f 1000000 then some (fun _=>none) else none
abbrev C0:Hu:=CX Kd
end
section
open Go.IntKind (wrap)
set_option maxRecDepth 100000
abbrev Nm:FuncId:=38
theorem V2 (fu d:Nat)(a0:Int):Ae C0 Tryz.prog fu (d+1) Nm [.sc (.int .i64 a0)]=(fun (call:Ah)=>A9 (decide (a0>=0)) (some (A0.mk [.sc (.bool (decide (a0<=4)))] [])) (some (A0.mk [.sc (.bool false)] []))) (Ae C0 Tryz.prog fu d):=by kernel_rfl
abbrev Ov:FuncId:=95
noncomputable def Gf (fu:Nat)(call:Ah)(a0:Int)(nn:Nat)(y0:Int)(y1:Nat)(y2 y3:Int)(y4:List PV):Option A0:=Co CB Tryz.prog fu call 95 Tryz.f95 (Bm Tryz.f95) [.sc (.int .u64 a0)] [.r,.r,.r,.l,.r,.l] nn ⟨lk [(0,(.sc (.int .u64 y0))),(3,(.view 3 1 0 y1)),(4,(.sc (.int .i64 y2))),(5,(.sc (.int .i64 y3)))],B7 [(3,(.ar false y4))]⟩
theorem J9 (fu:Nat)(call:Ah)(a0:Int)(nn:Nat)(y0:Int)(y1:Nat)(y2 y3:Int)(y4:List PV):Gf fu call a0 (nn+1) y0 y1 y2 y3 y4=(A9 (decide (y3>=0)) (Aa (wrap .i64 (4*y3)) fun x1=>Aa (wrap .u64 x1) fun x2=>Au (decide (0<=x2))<|Aa (D7 .u64 y0 x2) fun x3=>Aa (Qv .u64 x3 15) fun x4=>Aa (wrap .i64 x4) fun x5=>Au (decide (y1*1<=y4.length)&&true&&decide ((y1+1)*8<=1099511627776)&&decide (y1+1<=1099511627776))<|Aa (y1+1) fun x6=>Aa (List.take (y1*1) y4++[.sc (.int .i64 x5)]) fun x7=>Aa (wrap .i64 (15-x5)) fun x8=>Aa (wrap .i64 (y2+x8)) fun x9=>Aa (wrap .i64 (y3-1)) fun Cl=>Gf fu call a0 (nn) (y0) x6 x9 Cl x7) (Aa (wrap .i64 (Int.tdiv y2 16)) fun Cw=>Aa (Int.tmod y2 16) fun Dl=>Au (decide (y1*1<=y4.length)&&true&&decide ((y1+2)*8<=1099511627776)&&decide (y1+2<=1099511627776))<|Aa (y1+2) fun Dr=>Aa (List.take (y1*1) y4++[.sc (.int .i64 Cw),.sc (.int .i64 Dl)]) fun Dk=>Au (decide (Dr*1<=Dk.length))<|some (A0.mk [.own 1 Dr (List.take (Dr*1) Dk)] []))):=by kernel_rfl
theorem Yl (fu d:Nat)(a0:Int):Ae C0 Tryz.prog fu (d+1) Ov [.sc (.int .u64 a0)]=(fun (call:Ah)=>Gf fu call a0 (fu) (a0) 0 0 15 ([])) (Ae C0 Tryz.prog fu d):=by kernel_rfl
abbrev Rk:FuncId:=96
noncomputable def Hi (fu:Nat)(call:Ah)(a0 a1:Int)(a2 a3 a4:Int)(nn:Nat)(y0 y1:Int)(y2 y3 y4:Int):Option A0:=Co CB Tryz.prog fu call 96 Tryz.f96 (Bm Tryz.f96) [.sc (.int .i64 a0),.sc (.int .i64 a1),.sc (.int .i64 a2),.sc (.int .i64 a3),.sc (.int .u64 a4)] [.r,.l,.r,.l] nn ⟨lk [(0,(.sc (.int .i64 y0))),(1,(.sc (.int .i64 y1))),(3,(.sc (.int .i64 y2))),(4,(.sc (.int .u64 y3))),(11,(.sc (.int .i64 y4)))],B7 []⟩
theorem M1 (fu:Nat)(call:Ah)(a0 a1:Int)(a2 a3 a4:Int)(nn:Nat)(y0 y1:Int)(y2 y3 y4:Int):Hi fu call a0 a1 a2 a3 a4 (nn+1) y0 y1 y2 y3 y4=(Aa (if 15<y2 then 15 else y2) fun x2=>A9 (decide (y4<x2)) (Aa (wrap .u64 y0) fun x3=>Aa (wrap .u64 y1) fun x4=>Aa (wrap .u64 y4) fun x5=>Ag (call 84 [.lst false 1 4 [.sc (.int .u64 x3),.sc (.int .u64 x4),.sc (.int .u64 x5),.sc (.int .u64 y3)]]) fun x6 x7=>Ac x7<|Ab x6 fun x8 x9=>Es 1 x8 fun Cl Cw=>Ac x9<|Au (decide (0+Cl*1<=Cw.length))<|Ag (call 34 [.sc (.int .i64 1),.lst false 1 Cl (List.take (Cl*1) (List.drop 0 Cw))]) fun Dl Dr=>Ac Dr<|Ab Dl fun Dk D9=>Ad .u64 Dk fun Ea=>Ac D9<|Aa (wrap .i64 (y4+1)) fun En=>Hi fu call a0 a1 a2 a3 a4 (nn) (y0) (y1) (y2) Ea En) (some (A0.mk [.sc (.int .u64 y3)] []))):=by kernel_rfl
theorem BN (fu d:Nat)(a0 a1:Int)(a2 a3 a4:Int):Ae C0 Tryz.prog fu (d+1) Rk [.sc (.int .i64 a0),.sc (.int .i64 a1),.sc (.int .i64 a2),.sc (.int .i64 a3),.sc (.int .u64 a4)]=(fun (call:Ah)=>Aa (if a2<0 then 0 else a2) fun x1=>Hi fu call a0 a1 a2 a3 a4 (fu) (a0) (a1) (a3) (a4) x1) (Ae C0 Tryz.prog fu d):=by kernel_rfl
abbrev M3:FuncId:=97
theorem W9 (fu d:Nat)(a0 a1 a2:Int):Ae C0 Tryz.prog fu (d+1) M3 [.sc (.int .u64 a0),.sc (.int .i64 a1),.sc (.int .i64 a2)]=(fun (call:Ah)=>Aa (wrap .u64 a1) fun x1=>Aa (wrap .u64 a2) fun x2=>Ag (call 84 [.lst false 1 2 [.sc (.int .u64 x1),.sc (.int .u64 x2)]]) fun x3 x4=>Ac x4<|Ab x3 fun x5 x6=>Es 1 x5 fun x7 x8=>Ac x6<|Au (decide (0+x7*1<=x8.length))<|Ag (call 88 [.sc (.int .u64 a0),.sc (.int .i64 1),.lst false 1 x7 (List.take (x7*1) (List.drop 0 x8))]) fun x9 Cl=>Ac Cl<|Ab x9 fun Cw Dl=>Ad .u64 Cw fun Dr=>Ac Dl<|some (A0.mk [.sc (.int .u64 Dr)] [])) (Ae C0 Tryz.prog fu d):=by kernel_rfl
abbrev P6:FuncId:=109
theorem Zx (fu d:Nat)(a0:Int)(a1n:Nat)(a1:List PV):Ae C0 Tryz.prog fu (d+1) P6 [.sc (.int .i64 a0),.lst false 1 a1n a1]=(fun (call:Ah)=>Aa (wrap .u64 a0) fun x1=>Ag (call 84 [.lst false 1 1 [.sc (.int .u64 x1)]]) fun x2 x3=>Ac x3<|Ab x2 fun x4 x5=>Es 1 x4 fun x6 x7=>Ac x5<|Ag (call 84 [.lst false 1 a1n a1]) fun x8 x9=>Ac x9<|Ab x8 fun Cl Cw=>Es 1 Cl fun Dl Dr=>Ac Cw<|Au (decide (0+Dl*1<=Dr.length))<|Au (decide (x6*1<=x7.length)&&decide (List.length (List.take (Dl*1) (List.drop 0 Dr))=Dl*1)&&decide ((x6+Dl)*1<=1099511627776)&&decide (x6+Dl<=1099511627776))<|Aa (x6+Dl) fun Dk=>Aa (List.take (x6*1) x7++List.take (Dl*1) (List.drop 0 Dr)) fun D9=>Au (decide (0+Dk*1<=D9.length))<|Ag (call 34 [.sc (.int .i64 2),.lst false 1 Dk (List.take (Dk*1) (List.drop 0 D9))]) fun Ea En=>Ac En<|Ab Ea fun E2 Fg=>Ad .u64 E2 fun Fp=>Ac Fg<|some (A0.mk [.sc (.int .u64 Fp)] [])) (Ae C0 Tryz.prog fu d):=by kernel_rfl
abbrev Py:FuncId:=78
noncomputable def Gs (fu:Nat)(call:Ah)(a0 a1:Int)(nn:Nat)(y0 y1:Int)(y2:Nat)(y3:Int)(y4:List PV):Option A0:=Co CB Tryz.prog fu call 78 Tryz.f78 (Bm Tryz.f78) [.sc (.int .u64 a0),.sc (.int .i64 a1)] [.r,.r,.l,.r,.l] nn ⟨lk [(0,(.sc (.int .u64 y0))),(1,(.sc (.int .i64 y1))),(5,(.view 5 1 0 y2)),(6,(.sc (.int .i64 y3)))],B7 [(5,(.ar false y4))]⟩
theorem Lq (fu:Nat)(call:Ah)(a0 a1:Int)(nn:Nat)(y0 y1:Int)(y2:Nat)(y3:Int)(y4:List PV):Gs fu call a0 a1 (nn+1) y0 y1 y2 y3 y4=(A9 (decide (y3<18)) (Ag (call 97 [.sc (.int .u64 y0),.sc (.int .i64 y1),.sc (.int .i64 y3)]) fun x1 x2=>Ac x2<|Ab x1 fun x3 x4=>Ad .u64 x3 fun x5=>Ac x4<|Ag (call 96 [.sc (.int .i64 y1),.sc (.int .i64 y3),.sc (.int .i64 0),.sc (.int .i64 15),.sc (.int .u64 x5)]) fun x6 x7=>Ac x7<|Ab x6 fun x8 x9=>Ad .u64 x8 fun Cl=>Ac x9<|Au (decide (y2*1<=y4.length)&&true&&decide ((y2+1)*8<=1099511627776)&&decide (y2+1<=1099511627776))<|Aa (y2+1) fun Cw=>Aa (List.take (y2*1) y4++[.sc (.int .u64 Cl)]) fun Dl=>Aa (wrap .i64 (y3+1)) fun Dr=>Gs fu call a0 a1 (nn) (y0) (y1) Cw Dr Dl) (Au (decide (0+y2*1<=y4.length))<|Ag (call 109 [.sc (.int .i64 y1),.lst false 1 y2 (List.take (y2*1) (List.drop 0 y4))]) fun Dk D9=>Ac D9<|Ab Dk fun Ea En=>Ad .u64 Ea fun E2=>Ac En<|some (A0.mk [.sc (.int .u64 E2)] []))):=by kernel_rfl
theorem Zt (fu d:Nat)(a0 a1:Int):Ae C0 Tryz.prog fu (d+1) Py [.sc (.int .u64 a0),.sc (.int .i64 a1)]=(fun (call:Ah)=>Gs fu call a0 a1 (fu) (a0) (a1) 0 0 ([])) (Ae C0 Tryz.prog fu d):=by kernel_rfl
abbrev Ko:FuncId:=64
noncomputable def Fc (fu:Nat)(call:Ah)(a0 a1 a2:Int)(nn:Nat)(y0 y1:Int)(y2 y3:Nat)(y4:Int)(y5 y6:List PV):Option A0:=Co CB Tryz.prog fu call 64 Tryz.f64 (Bm Tryz.f64) [.sc (.int .u64 a0),.sc (.int .i64 a1),.sc (.int .u64 a2)] [.r,.r,.r,.l,.r,.l] nn ⟨lk [(0,(.sc (.int .u64 y0))),(1,(.sc (.int .i64 y1))),(7,(.view 7 1 0 y2)),(8,(.view 8 1 0 y3)),(9,(.sc (.int .i64 y4)))],B7 [(7,(.ar false y5)),(8,(.ar false y6))]⟩
theorem Is (fu:Nat)(call:Ah)(a0 a1 a2:Int)(nn:Nat)(y0 y1:Int)(y2 y3:Nat)(y4:Int)(y5 y6:List PV):Fc fu call a0 a1 a2 (nn+1) y0 y1 y2 y3 y4 y5 y6=(A9 (decide (y4<18)) (Au (decide (0<=y4)&&decide (y4<(↑y2:Int)))<|Ad .i64 (List.getD y5 (0+Int.toNat y4*1) .top) fun x7=>Ag (call 97 [.sc (.int .u64 y0),.sc (.int .i64 y1),.sc (.int .i64 y4)]) fun x8 x9=>Ac x9<|Ab x8 fun Cl Cw=>Ad .u64 Cl fun Dl=>Ac Cw<|Ag (call 96 [.sc (.int .i64 y1),.sc (.int .i64 y4),.sc (.int .i64 0),.sc (.int .i64 x7),.sc (.int .u64 Dl)]) fun Dr Dk=>Ac Dk<|Ab Dr fun D9 Ea=>Ad .u64 D9 fun En=>Ac Ea<|Au (decide (y3*1<=y6.length)&&true&&decide ((y3+1)*8<=1099511627776)&&decide (y3+1<=1099511627776))<|Aa (y3+1) fun E2=>Aa (List.take (y3*1) y6++[.sc (.int .u64 En)]) fun Fg=>Aa (wrap .i64 (y4+1)) fun Fp=>Fc fu call a0 a1 a2 (nn) (y0) (y1) (y2) E2 Fp (y5) Fg) (Au (decide (y3*1<=y6.length))<|some (A0.mk [.own 1 y3 (List.take (y3*1) y6)] []))):=by kernel_rfl
theorem Ut (fu d:Nat)(a0 a1 a2:Int):Ae C0 Tryz.prog fu (d+1) Ko [.sc (.int .u64 a0),.sc (.int .i64 a1),.sc (.int .u64 a2)]=(fun (call:Ah)=>Ag (call 95 [.sc (.int .u64 a2)]) fun x1 x2=>Ac x2<|Ab x1 fun x3 x4=>Es 1 x3 fun x5 x6=>Ac x4<|Fc fu call a0 a1 a2 (fu) (a0) (a1) x5 0 0 x6 ([])) (Ae C0 Tryz.prog fu d):=by kernel_rfl
abbrev Lh:FuncId:=83
noncomputable def Fl (fu:Nat)(call:Ah)(a0 a1:Int)(a2n:Nat)(a2:List PV)(nn:Nat)(y0:Int)(y1:Nat)(y2:List PV)(y3 y4:Nat)(y5:Int)(y6 y7:List PV):Option A0:=Co CB Tryz.prog fu call 83 Tryz.f83 (Bm Tryz.f83) [.sc (.int .i64 a0),.sc (.int .u64 a1),.lst false 1 a2n a2] [.r,.r,.r,.r,.l,.r,.l] nn ⟨lk [(0,(.sc (.int .i64 y0))),(2,(.lst false 1 y1 y2)),(8,(.view 8 1 0 y3)),(9,(.view 9 1 0 y4)),(10,(.sc (.int .i64 y5)))],B7 [(8,(.ar false y6)),(9,(.ar false y7))]⟩
theorem I0 (fu:Nat)(call:Ah)(a0 a1:Int)(a2n:Nat)(a2:List PV)(nn:Nat)(y0:Int)(y1:Nat)(y2:List PV)(y3 y4:Nat)(y5:Int)(y6 y7:List PV):Fl fu call a0 a1 a2n a2 (nn+1) y0 y1 y2 y3 y4 y5 y6 y7=(A9 (decide (y5<18)) (Au (decide (0<=y5)&&decide (y5<(↑y3:Int)))<|Ad .i64 (List.getD y6 (0+Int.toNat y5*1) .top) fun x7=>Au (decide (0<=y5)&&decide (y5<(↑y1:Int)))<|Ad .u64 (List.getD y2 (Int.toNat y5*1) .top) fun x8=>Ag (call 96 [.sc (.int .i64 y0),.sc (.int .i64 y5),.sc (.int .i64 x7),.sc (.int .i64 15),.sc (.int .u64 x8)]) fun x9 Cl=>Ac Cl<|Ab x9 fun Cw Dl=>Ad .u64 Cw fun Dr=>Ac Dl<|Au (decide (y4*1<=y7.length)&&true&&decide ((y4+1)*8<=1099511627776)&&decide (y4+1<=1099511627776))<|Aa (y4+1) fun Dk=>Aa (List.take (y4*1) y7++[.sc (.int .u64 Dr)]) fun D9=>Aa (wrap .i64 (y5+1)) fun Ea=>Fl fu call a0 a1 a2n a2 (nn) (y0) (y1) (y2) (y3) Dk Ea (y6) D9) (Au (decide (0+y4*1<=y7.length))<|Ag (call 109 [.sc (.int .i64 y0),.lst false 1 y4 (List.take (y4*1) (List.drop 0 y7))]) fun En E2=>Ac E2<|Ab En fun Fg Fp=>Ad .u64 Fg fun Hp=>Ac Fp<|some (A0.mk [.sc (.int .u64 Hp),.sc (.int .i64 0)] []))):=by kernel_rfl
theorem Vo (fu d:Nat)(a0 a1:Int)(a2n:Nat)(a2:List PV):Ae C0 Tryz.prog fu (d+1) Lh [.sc (.int .i64 a0),.sc (.int .u64 a1),.lst false 1 a2n a2]=(fun (call:Ah)=>A9 ((↑a2n:Int) != 18) (some (A0.mk [.sc (.int .u64 0),.sc (.int .i64 4)] [])) (Ag (call 95 [.sc (.int .u64 a1)]) fun x1 x2=>Ac x2<|Ab x1 fun x3 x4=>Es 1 x3 fun x5 x6=>Ac x4<|Fl fu call a0 a1 a2n a2 (fu) (a0) (a2n) (a2) x5 0 0 x6 ([]))) (Ae C0 Tryz.prog fu d):=by kernel_rfl
abbrev Ni:FuncId:=79
theorem V6 (fu d:Nat)(a0 a1 a2:Int):Ae C0 Tryz.prog fu (d+1) Ni [.sc (.int .i64 a0),.sc (.int .u64 a1),.sc (.int .u64 a2)]=(fun (call:Ah)=>Aa (wrap .u64 a0) fun x1=>Ag (call 84 [.lst false 1 3 [.sc (.int .u64 x1),.sc (.int .u64 a1),.sc (.int .u64 a2)]]) fun x2 x3=>Ac x3<|Ab x2 fun x4 x5=>Es 1 x4 fun x6 x7=>Ac x5<|Au (decide (0+x6*1<=x7.length))<|Ag (call 34 [.sc (.int .i64 3),.lst false 1 x6 (List.take (x6*1) (List.drop 0 x7))]) fun x8 x9=>Ac x9<|Ab x8 fun Cl Cw=>Ad .u64 Cl fun Dl=>Ac Cw<|some (A0.mk [.sc (.int .u64 Dl)] [])) (Ae C0 Tryz.prog fu d):=by kernel_rfl
abbrev Qg:FuncId:=39
theorem P9 (fu d:Nat)(a0 a1 a2:Int):Ae C0 Tryz.prog fu (d+1) Qg [.sc (.int .u64 a0),.sc (.int .i64 a1),.sc (.int .i64 a2)]=(fun (call:Ah)=>A9 (a1==0) (Ag (call 78 [.sc (.int .u64 a0),.sc (.int .i64 a2)]) fun x1 x2=>Ac x2<|Ab x1 fun x3 x4=>Ad .u64 x3 fun x5=>Ac x4<|some (A0.mk [.sc (.int .u64 x5)] [])) (Aa (wrap .i64 (a1-1)) fun x6=>Aa (wrap .i64 (2*a2)) fun x7=>Ag (call 39 [.sc (.int .u64 a0),.sc (.int .i64 x6),.sc (.int .i64 x7)]) fun x8 x9=>Ac x9<|Ab x8 fun Cl Cw=>Ad .u64 Cl fun Dl=>Ac Cw<|Aa (wrap .i64 (a1-1)) fun Dr=>Aa (wrap .i64 (2*a2)) fun Dk=>Aa (wrap .i64 (Dk+1)) fun D9=>Ag (call 39 [.sc (.int .u64 a0),.sc (.int .i64 Dr),.sc (.int .i64 D9)]) fun Ea En=>Ac En<|Ab Ea fun E2 Fg=>Ad .u64 E2 fun Fp=>Ac Fg<|Ag (call 79 [.sc (.int .i64 a1),.sc (.int .u64 Dl),.sc (.int .u64 Fp)]) fun Hp Hb=>Ac Hb<|Ab Hp fun Hq Dz=>Ad .u64 Hq fun Dq=>Ac Dz<|some (A0.mk [.sc (.int .u64 Dq)] []))) (Ae C0 Tryz.prog fu d):=by kernel_rfl
abbrev Nn:FuncId:=18
theorem Xb (fu d:Nat)(a0 a1:Int):Ae C0 Tryz.prog fu (d+1) Nn [.sc (.int .u64 a0),.sc (.int .i64 a1)]=(fun (call:Ah)=>Ag (call 38 [.sc (.int .i64 a1)]) fun x1 x2=>Ac x2<|Ab x1 fun x3 x4=>Bj x3 fun x5=>Ac x4<|A9 (!x5) (some (A0.mk [.agg [.sc (.int .i64 0),.sc (.int .u64 0)],.sc (.int .i64 9)] [])) (Ag (call 39 [.sc (.int .u64 a0),.sc (.int .i64 a1),.sc (.int .i64 0)]) fun x6 x7=>Ac x7<|Ab x6 fun x8 x9=>Ad .u64 x8 fun Cl=>Ac x9<|some (A0.mk [.agg [.sc (.int .i64 a1),.sc (.int .u64 Cl)],.sc (.int .i64 0)] []))) (Ae C0 Tryz.prog fu d):=by kernel_rfl
abbrev Po:FuncId:=33
noncomputable def Gp (fu:Nat)(call:Ah)(a0 a1:Int)(a2 a3:Int)(nn:Nat)(y0 y1:Int)(y2 y3 y4:Int)(y5 y6:Nat)(y7 y8:List PV)(y9:Int)(y10 Gh:Nat)(H2 Jb:List PV):Option A0:=Co CB Tryz.prog fu call 33 Tryz.f33 (Bm Tryz.f33) [.sc (.int .u64 a0),.sc (.int .i64 a1),.sc (.int .i64 a2),.sc (.int .u64 a3)] [.r,.r,.r,.l,.r,.l] nn ⟨lk [(0,(.sc (.int .u64 y0))),(1,(.sc (.int .i64 y1))),(2,(.sc (.int .i64 y2))),(8,(.ptr 8 0)),(10,(.ptr 10 0)),(11,(.sc (.int .i64 y3)))],B7 [(8,(.st [(.sc (.int .i64 y4)),(.view 112 1 0 y5),(.view 164 1 0 y6)])),(112,(.ar false y7)),(164,(.ar false y8)),(10,(.st [(.sc (.int .i64 y9)),(.view 114 1 0 y10),(.view 166 1 0 Gh)])),(114,(.ar false H2)),(166,(.ar false Jb))]⟩
theorem Ln (fu:Nat)(call:Ah)(a0 a1:Int)(a2 a3:Int)(nn:Nat)(y0 y1:Int)(y2 y3 y4:Int)(y5 y6:Nat)(y7 y8:List PV)(y9:Int)(y10 Gh:Nat)(H2 Jb:List PV):Gp fu call a0 a1 a2 a3 (nn+1) y0 y1 y2 y3 y4 y5 y6 y7 y8 y9 y10 Gh H2 Jb=(A9 (decide (y3<y1)) (Aa (wrap .u64 y3) fun Dk=>Au (decide (0<=Dk))<|Aa (D7 .i64 y2 Dk) fun D9=>Aa (D2 .i64 D9 1) fun Ea=>Ag (call 39 [.sc (.int .u64 y0),.sc (.int .i64 y3),.sc (.int .i64 Ea)]) fun En E2=>Ac E2<|Ab En fun Fg Fp=>Ad .u64 Fg fun Hp=>Ac Fp<|Au (decide (Gh*1<=Jb.length)&&true&&decide ((Gh+1)*8<=1099511627776)&&decide (Gh+1<=1099511627776))<|Aa (Gh+1) fun Hb=>Aa (List.take (Gh*1) Jb++[.sc (.int .u64 Hp)]) fun Hq=>Aa (wrap .i64 (y3+1)) fun Dz=>Gp fu call a0 a1 a2 a3 (nn) (y0) (y1) (y2) Dz (y4) (y5) (y6) (y7) (y8) (y9) (y10) Hb (H2) Hq) (Au (decide (y10*1<=H2.length))<|Au (decide (Gh*1<=Jb.length))<|some (A0.mk [.agg [.sc (.int .i64 y9),.own 1 y10 (List.take (y10*1) H2),.own 1 Gh (List.take (Gh*1) Jb)],.sc (.int .i64 0)] []))):=by kernel_rfl
theorem AY (fu d:Nat)(a0 a1:Int)(a2 a3:Int):Ae C0 Tryz.prog fu (d+1) Po [.sc (.int .u64 a0),.sc (.int .i64 a1),.sc (.int .i64 a2),.sc (.int .u64 a3)]=(fun (call:Ah)=>Ag (call 38 [.sc (.int .i64 a1)]) fun x1 x2=>Ac x2<|Ab x1 fun x3 x4=>Bj x3 fun x5=>Ac x4<|A9 (!x5) (some (A0.mk [.agg [.sc (.int .i64 0),.own 1 0 [],.own 1 0 []],.sc (.int .i64 9)] [])) (A9 (decide (a2<0)) (some (A0.mk [.agg [.sc (.int .i64 0),.own 1 0 [],.own 1 0 []],.sc (.int .i64 9)] [])) (Aa (wrap .u64 a1) fun x6=>Au (decide (0<=x6))<|Aa (Hc .i64 1 x6) fun x7=>A9 (decide (a2>=x7)) (some (A0.mk [.agg [.sc (.int .i64 0),.own 1 0 [],.own 1 0 []],.sc (.int .i64 9)] [])) (Ag (call 64 [.sc (.int .u64 a0),.sc (.int .i64 a2),.sc (.int .u64 a3)]) fun x8 x9=>Ac x9<|Ab x8 fun Cl Cw=>Es 1 Cl fun Dl Dr=>Ac Cw<|Gp fu call a0 a1 a2 a3 (fu) (a0) (a1) (a2) 0 0 0 0 ([]) ([]) (a2) Dl 0 Dr ([]))))) (Ae C0 Tryz.prog fu d):=by kernel_rfl
abbrev Nb:FuncId:=42
noncomputable def El (fu:Nat)(call:Ah)(a0_0 a0_1:Int)(a1 O8:Int)(H6:Nat)(R0:List PV)(Ic:Nat)(Sy:List PV)(nn:Nat)(y0 y1:Int)(y2 y3 y4:Int)(y5:Nat)(y6:List PV)(y7:Nat)(y8:List PV):Option A0:=Co CB Tryz.prog fu call 42 Tryz.f42 (Bm Tryz.f42) [.agg [.sc (.int .i64 a0_0),.sc (.int .u64 a0_1)],.sc (.int .u64 a1),.agg [.sc (.int .i64 O8),.lst false 1 H6 R0,.lst false 1 Ic Sy]] [.r,.r,.r,.r,.l,.r,.l] nn ⟨lk [(3,(.ptr 3 0)),(5,(.ptr 5 0)),(7,(.sc (.int .u64 y0))),(9,(.sc (.int .i64 y1)))],B7 [(3,(.st [(.sc (.int .i64 y2)),(.sc (.int .u64 y3))])),(5,(.st [(.sc (.int .i64 y4)),(.lst false 1 y5 y6),(.lst false 1 y7 y8)]))]⟩
theorem Jq (fu:Nat)(call:Ah)(a0_0 a0_1:Int)(a1 O8:Int)(H6:Nat)(R0:List PV)(Ic:Nat)(Sy:List PV)(nn:Nat)(y0 y1:Int)(y2 y3 y4:Int)(y5:Nat)(y6:List PV)(y7:Nat)(y8:List PV):El fu call a0_0 a0_1 a1 O8 H6 R0 Ic Sy (nn+1) y0 y1 y2 y3 y4 y5 y6 y7 y8=(A9 (decide (y1<y2)) (Aa (wrap .u64 y1) fun Ea=>Au (decide (0<=Ea))<|Aa (D7 .i64 y4 Ea) fun En=>Aa (Qv .i64 En 1) fun E2=>A9 (E2==0) (Aa (wrap .i64 (y1+1)) fun Fg=>Au (decide (0<=y1)&&decide (y1<(↑y7:Int)))<|Ad .u64 (List.getD y8 (Int.toNat y1*1) .top) fun Fp=>Ag (call 79 [.sc (.int .i64 Fg),.sc (.int .u64 y0),.sc (.int .u64 Fp)]) fun Hp Hb=>Ac Hb<|Ab Hp fun Hq Dz=>Ad .u64 Hq fun Dq=>Ac Dz<|Aa (wrap .i64 (y1+1)) fun F5=>El fu call a0_0 a0_1 a1 O8 H6 R0 Ic Sy (nn) Dq F5 (y2) (y3) (y4) (y5) (y6) (y7) (y8)) (Aa (wrap .i64 (y1+1)) fun H3=>Au (decide (0<=y1)&&decide (y1<(↑y7:Int)))<|Ad .u64 (List.getD y8 (Int.toNat y1*1) .top) fun E1=>Ag (call 79 [.sc (.int .i64 H3),.sc (.int .u64 E1),.sc (.int .u64 y0)]) fun Jk L8=>Ac L8<|Ab Jk fun Jt Mr=>Ad .u64 Jt fun Mb=>Ac Mr<|Aa (wrap .i64 (y1+1)) fun Np=>El fu call a0_0 a0_1 a1 O8 H6 R0 Ic Sy (nn) Mb Np (y2) (y3) (y4) (y5) (y6) (y7) (y8))) (A9 (y0 != y3) (some (A0.mk [.sc (.int .i64 15)] [])) (some (A0.mk [.sc (.int .i64 0)] [])))):=by kernel_rfl
theorem Vv (fu d:Nat)(a0_0 a0_1:Int)(a1 O8:Int)(H6:Nat)(R0:List PV)(Ic:Nat)(Sy:List PV):Ae C0 Tryz.prog fu (d+1) Nb [.agg [.sc (.int .i64 a0_0),.sc (.int .u64 a0_1)],.sc (.int .u64 a1),.agg [.sc (.int .i64 O8),.lst false 1 H6 R0,.lst false 1 Ic Sy]]=(fun (call:Ah)=>Ag (call 38 [.sc (.int .i64 a0_0)]) fun x1 x2=>Ac x2<|Ab x1 fun x3 x4=>Bj x3 fun x5=>Ac x4<|A9 (!x5) (some (A0.mk [.sc (.int .i64 9)] [])) (A9 (decide (O8<0)) (some (A0.mk [.sc (.int .i64 9)] [])) (Aa (wrap .u64 a0_0) fun x6=>Au (decide (0<=x6))<|Aa (Hc .i64 1 x6) fun x7=>A9 (decide (O8>=x7)) (some (A0.mk [.sc (.int .i64 9)] [])) (A9 ((↑H6:Int) != 18) (some (A0.mk [.sc (.int .i64 4)] [])) (A9 ((↑Ic:Int) != a0_0) (some (A0.mk [.sc (.int .i64 4)] [])) (Ag (call 83 [.sc (.int .i64 O8),.sc (.int .u64 a1),.lst false 1 H6 R0]) fun x8 x9=>Ac x9<|Ab x8 fun Cl Cw=>Ad .u64 Cl fun Dl=>Ab Cw fun Dr Dk=>Ad .i64 Dr fun D9=>Ac Dk<|El fu call a0_0 a0_1 a1 O8 H6 R0 Ic Sy (fu) Dl 0 (a0_0) (a0_1) (O8) (H6) (R0) (Ic) (Sy))))))) (Ae C0 Tryz.prog fu d):=by kernel_rfl
abbrev Jr:FuncId:=57
theorem R6 (fu d:Nat)(a0_0 a0_1:Int):Ae C0 Tryz.prog fu (d+1) Jr [.agg [.sc (.int .i64 a0_0),.sc (.int .u64 a0_1)]]=(fun (call:Ah)=>Ag (call 38 [.sc (.int .i64 a0_0)]) fun x1 x2=>Ac x2<|Ab x1 fun x3 x4=>Bj x3 fun x5=>Ac x4<|A9 (!x5) (some (A0.mk [.own 1 0 [],.sc (.int .i64 9)] [])) (Aa (wrap .u8 a0_0) fun x6=>Ag (call 84 [.lst false 1 1 [.sc (.int .u64 a0_1)]]) fun x7 x8=>Ac x8<|Ab x7 fun x9 Cl=>Es 1 x9 fun Cw Dl=>Ac Cl<|Au (decide (0+Cw*1<=Dl.length))<|Au (decide (List.length (List.take (Cw*1) (List.drop 0 Dl))=Cw*1)&&decide ((1+Cw)*1<=1099511627776)&&decide (1+Cw<=1099511627776))<|Aa (1+Cw) fun Dr=>Aa ([.sc (.int .u8 x6)]++List.take (Cw*1) (List.drop 0 Dl)) fun Dk=>Au (decide (Dr*1<=Dk.length))<|some (A0.mk [.own 1 Dr (List.take (Dr*1) Dk),.sc (.int .i64 0)] []))) (Ae C0 Tryz.prog fu d):=by kernel_rfl
abbrev Jp:FuncId:=80
noncomputable def Eu (fu:Nat)(call:Ah)(a0n:Nat)(a0:List PV)(a1n:Nat)(a1:List PV)(nn y0:Nat)(y1:List PV)(y2:Nat)(y3:List PV)(y4:Int):Option A0:=Co CB Tryz.prog fu call 80 Tryz.f80 (Bm Tryz.f80) [.lst false 1 a0n a0,.lst false 1 a1n a1] [.r,.r,.l,.r,.l] nn ⟨lk [(0,(.lst false 1 y0 y1)),(1,(.lst false 1 y2 y3)),(5,(.sc (.int .i64 y4)))],B7 []⟩
theorem Ig (fu:Nat)(call:Ah)(a0n:Nat)(a0:List PV)(a1n:Nat)(a1:List PV)(nn y0:Nat)(y1:List PV)(y2:Nat)(y3:List PV)(y4:Int):Eu fu call a0n a0 a1n a1 (nn+1) y0 y1 y2 y3 y4=(A9 (decide (y4<(↑y0:Int))) (Au (decide (0<=y4)&&decide (y4<(↑y0:Int)))<|Ad .u64 (List.getD y1 (Int.toNat y4*1) .top) fun x1=>Au (decide (0<=y4)&&decide (y4<(↑y2:Int)))<|Ad .u64 (List.getD y3 (Int.toNat y4*1) .top) fun x2=>A9 (x1 != x2) (some (A0.mk [.sc (.bool false)] [])) (Aa (wrap .i64 (y4+1)) fun x3=>Eu fu call a0n a0 a1n a1 (nn) (y0) (y1) (y2) (y3) x3)) (some (A0.mk [.sc (.bool true)] []))):=by kernel_rfl
theorem Ti (fu d a0n:Nat)(a0:List PV)(a1n:Nat)(a1:List PV):Ae C0 Tryz.prog fu (d+1) Jp [.lst false 1 a0n a0,.lst false 1 a1n a1]=(fun (call:Ah)=>A9 ((↑a0n:Int) != (↑a1n:Int)) (some (A0.mk [.sc (.bool false)] [])) (Eu fu call a0n a0 a1n a1 (fu) (a0n) (a0) (a1n) (a1) 0)) (Ae C0 Tryz.prog fu d):=by kernel_rfl
abbrev Hv:FuncId:=40
theorem O0 (fu d:Nat)(a0_0:Int)(RB:Nat)(a0_1:List PV)(Fn:Nat)(a0_2:List PV)(a1_0:Int)(Amw:Nat)(a1_1:List PV)(Anj:Nat)(a1_2:List PV):Ae C0 Tryz.prog fu (d+1) Hv [.agg [.sc (.int .i64 a0_0),.lst false 1 RB a0_1,.lst false 1 Fn a0_2],.agg [.sc (.int .i64 a1_0),.lst false 1 Amw a1_1,.lst false 1 Anj a1_2]]=(fun (call:Ah)=>A9 (a0_0==a1_0) (Ag (call 80 [.lst false 1 RB a0_1,.lst false 1 Amw a1_1]) fun x1 x2=>Ac x2<|Ab x1 fun x3 x4=>Bj x3 fun x5=>Ac x4<|A9 x5 (Ag (call 80 [.lst false 1 Fn a0_2,.lst false 1 Anj a1_2]) fun x6 x7=>Ac x7<|Ab x6 fun x8 x9=>Bj x8 fun Cl=>Ac x9<|some (A0.mk [.sc (.bool Cl)] [])) (some (A0.mk [.sc (.bool false)] []))) (some (A0.mk [.sc (.bool false)] []))) (Ae C0 Tryz.prog fu d):=by kernel_rfl
end
section
open Go.IntKind (wrap)
theorem P1 {α:Type}(f:Nat->α)(i:Nat):(List.range (i+1)).map f=(List.range i).map f++[f i]:=by
 rw [List.range_succ,List.map_append];rfl
section
variable {fu d:Nat}
theorem Ua (h:Int):Ae C0 Tryz.prog fu (d+1) Nm [.sc (.int .i64 h)]=some ⟨[.sc (.bool (!Dh h))],[]⟩:=by
 rw [V2];unfold Dh;by_cases h0:h<0
 ·simp (disch:=omega) only [Bx,h0,decide_true,Bool.true_or,Ck]
 ·have e:decide (h<=4) = !decide (h>4):=by
   by_cases c:h<=4
   ·have:¬h>4:=by omega
    simp [c,this]
   ·have:h>4:=by omega
    simp [c,this]
  simp (disch:=omega) only [Bx,h0,decide_false,Bool.false_or,e]
theorem Abl {ws:List Int}(hl:ws.length<=100)(hfu:1000<=fu)(dom:Int):Ae C0 Tryz.prog fu (d+4) Ji [.sc (.int .i64 dom),.lst false 1 (A6 ws).length (Af .u8 (A6 ws))]=some ⟨[.sc (.int .u64 (My dom (A6 ws)))],[]⟩:=
 MD (xs:=Kd) (Ss ws) (by rw [Dn];omega) (by omega) (by rw [Dn];omega) dom
theorem HE {call:Ah}{a0 m:Int}:∀(k nn:Nat)(i:Nat),i+k=16->k<nn ->
  Gf fu call a0 nn m ((List.range i).map (Gn m)).length (Jg m i) (15-(i:Int)) (Af .i64 ((List.range i).map (Gn m)))=some ⟨[.own 1 18 (Af .i64 (OR m))],[]⟩
 |_,0,_,_,h=>by omega
 |0,nn+1,i,hi,hn=>by
  have e:i=16:=by omega
  subst e;have hs:=J4 m 16
  have wq:wrap .i64 (Int.tdiv (Jg m 16) 16)=Jg m 16 / 16:=by
   rw [Int.tdiv_eq_ediv_of_nonneg (by omega),Al (by omega) (by omega)]
  have wm:Int.tmod (Jg m 16) 16=Jg m 16 % 16:=Int.tmod_eq_emod_of_nonneg (by omega)
  have e2:Af .i64 ((List.range 16).map (Gn m))++[PV.sc (.int .i64 (Jg m 16 / 16)),PV.sc (.int .i64 (Jg m 16 % 16))]=Af .i64 (OR m):=by
   unfold OR;rw [Af,Af,List.flatMap_append];rfl
  have L:(Af .i64 (OR m)).length=18:=by rw [Am,Ac1]
  have tk:List.take 18 (Af .i64 (OR m))=Af .i64 (OR m):=To (by omega)
  have l16:((List.range 16).map (Gn m)).length=16:=by simp
  have L16:=Am .i64 ((List.range 16).map (Gn m));have t16:=J6 .i64 ((List.range 16).map (Gn m));rw [l16] at L16 t16 ⊢;rw [J9,Dj _ _ _ (by omega)]
  simp (disch:=omega) only [Bx,wq,wm,B8,t16,e2,L16,Nat.reduceAdd,L,tk]
 |k+1,nn+1,i,hi,hn=>by
  have ih:=HE (call:=call) (a0:=a0) (m:=m) k nn (i+1) (by omega) (by omega)
  have hb:=Q1 m i;have hs:=J4 m i;have w1:wrap .i64 (4*(15-(i:Int)))=60-4*(i:Int):=by rw [Al (by omega) (by omega)];omega
  have w2:wrap .u64 (60-4*(i:Int))=60-4*(i:Int):=Cq (by omega) (by omega)
  have hd:wrap .i64 (Qv .u64 (D7 .u64 m (60-4*(i:Int))) 15)=Gn m i:=rfl;have w15:wrap .i64 (15-Gn m i)=15-Gn m i:=Al (by omega) (by omega)
  have ws:wrap .i64 (Jg m i+(15-Gn m i))=Jg m (i+1):=by rw [Al (by omega) (by omega)];rfl
  have wi:wrap .i64 (15-(i:Int)-1)=15-((i+1:Nat):Int):=by rw [Al (by omega) (by omega)];omega
  have L:=Am .i64 ((List.range i).map (Gn m));have l16:((List.range i).map (Gn m)).length=i:=by simp
  rw [P1,Kt,List.length_singleton,←Fv] at ih;rw [J9];simp (disch:=omega) only [Bx,w1,w2,hd,w15,ws,wi,B8,J6,L];exact ih
theorem QV (hfu:1000<=fu)(m:Int):Ae C0 Tryz.prog fu (d+1) Ov [.sc (.int .u64 m)]=some ⟨[.own 1 18 (Af .i64 (OR m))],[]⟩:=by
 rw [Yl];exact HE (fu:=fu) (a0:=m) (m:=m) 16 fu 0 (by omega) (by omega)
theorem PC {leaf chain:Int}{a0 a1 a2 a3 a4:Int}(hfu:1000<=fu){t:Int}(ht:t<=15):∀(k nn:Nat)(p x:Int),(k:Int)=t-p->0<=p->k<nn ->
  Hi fu (Ae C0 Tryz.prog fu (d+4)) a0 a1 a2 a3 a4 nn leaf chain t x p=some ⟨[.sc (.int .u64 (Qz leaf chain k p x))],[]⟩
 |_,0,_,_,_,_,h=>by omega
 |0,nn+1,p,x,hk,hp,hn=>by
  rw [M1];simp only [Hm];rw [A5 (by omega),Dj _ _ _ (by omega)]
  rfl
 |k+1,nn+1,p,x,hk,hp,hn=>by
  have w:wrap .i64 (p+1)=p+1:=Al (by omega) (by omega)
  have wd:Ae C0 Tryz.prog fu (d+4) Ec [.lst false 1 4 [.sc (.int .u64 (wrap .u64 leaf)),.sc (.int .u64 (wrap .u64 chain)),.sc (.int .u64 (wrap .u64 p)),.sc (.int .u64 x)]]=_:=Tf (xs:=Kd) (ws:=[wrap .u64 leaf,wrap .u64 chain,wrap .u64 p,x]) (by simp) (by omega) (by simp;omega)
  have hs:=Abl (fu:=fu) (d:=d) (ws:=[wrap .u64 leaf,wrap .u64 chain,wrap .u64 p,x]) (by simp) hfu 1
  have ih:=PC (leaf:=leaf) (chain:=chain) (a0:=a0) (a1:=a1) (a2:=a2) (a3:=a3) (a4:=a4) hfu ht k nn (p+1) (My 1 (A6 [wrap .u64 leaf,wrap .u64 chain,wrap .u64 p,x])) (by omega) (by omega) (by omega)
  have L:=Am .u8 (A6 [wrap .u64 leaf,wrap .u64 chain,wrap .u64 p,x]);have eR:Qz leaf chain (k+1) p x=Qz leaf chain k (p+1) (My 1 (A6 [wrap .u64 leaf,wrap .u64 chain,wrap .u64 p,x])):=rfl;rw [eR];generalize A6 [wrap .u64 leaf,wrap .u64 chain,wrap .u64 p,x]=W at wd hs ih L ⊢;have e15:(if (15:Int)<t then 15 else t)=t:=A5 (by omega)
  rw [M1];simp (disch:=omega) only [Bx,e15,wd,B8,Br,E6,J6,L,hs,w];exact ih
theorem TI {leaf chain:Int}(hfu:1000<=fu)(k:Nat)(f t x:Int)(hk:(k:Int)=t-f) (h0:0<=f)(h1:t<=15):Ae C0 Tryz.prog fu (d+5) Rk [.sc (.int .i64 leaf),.sc (.int .i64 chain),.sc (.int .i64 f),.sc (.int .i64 t),.sc (.int .u64 x)]=some ⟨[.sc (.int .u64 (Qz leaf chain k f x))],[]⟩:=by
 rw [BN];simp only [Hm];rw [A5 (by omega)]
 exact PC hfu h1 k fu f x hk h0 (by omega)
theorem NM (hfu:1000<=fu)(seed leaf chain:Int):Ae C0 Tryz.prog fu (d+5) M3 [.sc (.int .u64 seed),.sc (.int .i64 leaf),.sc (.int .i64 chain)]=some ⟨[.sc (.int .u64 (EW seed leaf chain))],[]⟩:=by
 have wd:Ae C0 Tryz.prog fu (d+4) Ec [.lst false 1 2 [.sc (.int .u64 (wrap .u64 leaf)),.sc (.int .u64 (wrap .u64 chain))]]=_:=Tf (xs:=Kd) (ws:=[wrap .u64 leaf,wrap .u64 chain]) (by simp) (by omega) (by simp;omega)
 have hs:=Amf (xs:=Kd) (fu:=fu) (d:=d) (Ss [wrap .u64 leaf,wrap .u64 chain]) (by rw [Dn];simp) (by omega) (by rw [Dn];simp;omega) seed 1
 have L:=Am .u8 (A6 [wrap .u64 leaf,wrap .u64 chain]);rw [W9];unfold EW;generalize A6 [wrap .u64 leaf,wrap .u64 chain]=W at wd hs L ⊢;simp (disch:=omega) only [Bx,wd,B8,Br,E6,J6,L,hs]
theorem Ar3 (hfu:1000<=fu)(w:Int):Ae C0 Tryz.prog fu (d+1) Ec [.lst false 1 1 [.sc (.int .u64 w)]]=some ⟨[.own 1 8 (Af .u8 (D3 w))],[]⟩:=by
 have:=Tf (xs:=Kd) (fu:=fu) (d:=d) (ws:=[w]) (by simp) (by omega) (by simp;omega)
 simp only [A6,List.flatMap_cons,List.flatMap_nil,List.append_nil,Ja,AV,Fa] at this;exact this
theorem VL (hfu:1000<=fu)(leaf:Int){E:List Int}(hE:E.length<=50):Ae C0 Tryz.prog fu (d+5) P6 [.sc (.int .i64 leaf),.lst false 1 E.length (Af .u64 E)]=some ⟨[.sc (.int .u64 (Y5 leaf E))],[]⟩:=by
 have w1:=Ar3 (fu:=fu) (d:=d+3) hfu (wrap .u64 leaf);have w2:=Tf (xs:=Kd) (fu:=fu) (d:=d+3) (ws:=E) (by omega) (by omega) (by omega)
 have hs:=Abl (fu:=fu) (d:=d) (ws:=wrap .u64 leaf::E) (by simp;omega) hfu 2
 have eW:A6 (wrap .u64 leaf::E)=D3 (wrap .u64 leaf)++A6 E:=rfl
 have eC:Af .u8 (D3 (wrap .u64 leaf))++Af .u8 (A6 E)=Af .u8 (A6 (wrap .u64 leaf::E)):=by
  rw [eW,Af,Af,Af,List.flatMap_append]
 have l0:(D3 (wrap .u64 leaf)).length=8:=Fa _;have l1:=Dn E;have l2:(A6 (wrap .u64 leaf::E)).length=8+(A6 E).length:=by rw [eW,Kt,l0]
 have L0:=Am .u8 (D3 (wrap .u64 leaf));rw [l0] at L0;have L1:=Am .u8 (A6 E);have L2:=Am .u8 (A6 (wrap .u64 leaf::E));have t8:List.take 8 (Af .u8 (D3 (wrap .u64 leaf)))=Af .u8 (D3 (wrap .u64 leaf)):=To (by omega)
 have tW:List.take (8+(A6 E).length) (Af .u8 (A6 (wrap .u64 leaf::E)))=Af .u8 (A6 (wrap .u64 leaf::E)):=To (by omega)
 rw [l2] at hs;rw [Zx];simp (disch:=omega) only [Bx,w1,w2,B8,Br,E6,J6,t8,L0,L1,eC,L2,tW,hs];rfl
theorem MO {a0 a1 seed leaf:Int}(hfu:1000<=fu):∀(k nn i:Nat),i+k=18->k<nn ->
  Gs fu (Ae C0 Tryz.prog fu (d+5)) a0 a1 nn seed leaf ((List.range i).map (Xx seed leaf)).length i (Af .u64 ((List.range i).map (Xx seed leaf)))=some ⟨[.sc (.int .u64 (Ih seed leaf))],[]⟩
 |_,0,_,_,h=>by omega
 |0,nn+1,i,hi,hn=>by
  have e:i=18:=by omega
  subst e;have l18:((List.range 18).map (Xx seed leaf)).length=18:=by simp
  have en:=VL (fu:=fu) (d:=d) hfu leaf (E:=(List.range 18).map (Xx seed leaf)) (by omega)
  have L:=Am .u64 ((List.range 18).map (Xx seed leaf));rw [Lq,Dj _ _ _ (by omega)]
  simp (disch:=omega) only [Bx,B8,Br,E6,J6,L,en];rfl
 |k+1,nn+1,i,hi,hn=>by
  have ih:=MO (a0:=a0) (a1:=a1) (seed:=seed) (leaf:=leaf) hfu k nn (i+1) (by omega) (by omega)
  have sc:=NM (fu:=fu) (d:=d) hfu seed leaf i;have rn:=TI (fu:=fu) (d:=d) (leaf:=leaf) (chain:=i) hfu 15 0 15 (EW seed leaf i) (by omega) (by omega) (by omega)
  have w:wrap .i64 ((i:Int)+1)=((i+1:Nat):Int):=by rw [Al (by omega) (by omega)];omega
  have L:=Am .u64 ((List.range i).map (Xx seed leaf));have li:((List.range i).map (Xx seed leaf)).length=i:=by simp
  rw [P1,Kt,List.length_singleton,←Fv] at ih;rw [Lq];simp (disch:=omega) only [Bx,sc,rn,B8,J6,L,w];exact ih
theorem Agy (hfu:1000<=fu)(seed leaf:Int):Ae C0 Tryz.prog fu (d+6) Py [.sc (.int .u64 seed),.sc (.int .i64 leaf)]=some ⟨[.sc (.int .u64 (Ih seed leaf))],[]⟩:=by
 rw [Zt];exact MO (fu:=fu) (d:=d) hfu 18 fu 0 (by omega) (by omega)
theorem Am3 (m:Int){i:Nat}(h:i<18):(OR m)[i]?=some (dg m i):=by
 unfold dg;rw [List.getD_eq_getElem?_getD,List.getElem?_eq_getElem (by rw [Ac1];omega)]
 rfl
theorem Wf {a0 a1 a2 seed leaf m:Int}(hfu:1000<=fu):∀(k nn i:Nat),i+k=18->k<nn ->
  Fc fu (Ae C0 Tryz.prog fu (d+5)) a0 a1 a2 nn seed leaf 18 ((List.range i).map (Vs seed leaf m)).length i (Af .i64 (OR m)) (Af .u64 ((List.range i).map (Vs seed leaf m)))=some ⟨[.own 1 18 (Af .u64 (I3 seed leaf m))],[]⟩
 |_,0,_,_,h=>by omega
 |0,nn+1,i,hi,hn=>by
  have e:i=18:=by omega
  subst e;have l18:((List.range 18).map (Vs seed leaf m)).length=18:=by simp
  have L:=Am .u64 ((List.range 18).map (Vs seed leaf m));rw [Is,Dj _ _ _ (by omega)]
  simp (disch:=omega) only [Bx,B8,J6,L];rw [l18];rfl
 |k+1,nn+1,i,hi,hn=>by
  have ih:=Wf (a0:=a0) (a1:=a1) (a2:=a2) (seed:=seed) (leaf:=leaf) (m:=m) hfu k nn (i+1) (by omega) (by omega)
  have hb:=Tc m i;have sc:=NM (fu:=fu) (d:=d) hfu seed leaf i;have rn:=TI (fu:=fu) (d:=d) (leaf:=leaf) (chain:=i) hfu (dg m i).toNat 0 (dg m i) (EW seed leaf i) (by omega) (by omega) (by omega)
  have w:wrap .i64 ((i:Int)+1)=((i+1:Nat):Int):=by rw [Al (by omega) (by omega)];omega
  have L:=Am .u64 ((List.range i).map (Vs seed leaf m));have li:((List.range i).map (Vs seed leaf m)).length=i:=by simp
  rw [P1,Kt,List.length_singleton,←Fv] at ih;rw [Is];simp (disch:=omega) only [Bx,Gy,B8,Br,Vf (Am3 m (show i<18 by omega)),sc,rn,J6,L,w]
  exact ih
theorem TW (hfu:1000<=fu)(seed leaf m:Int):Ae C0 Tryz.prog fu (d+6) Ko [.sc (.int .u64 seed),.sc (.int .i64 leaf),.sc (.int .u64 m)]=some ⟨[.own 1 18 (Af .u64 (I3 seed leaf m))],[]⟩:=by
 rw [Ut];have sp:=QV (fu:=fu) (d:=d+4) hfu m;simp only [Bx,sp];exact Wf (fu:=fu) (d:=d) hfu 18 fu 0 (by omega) (by omega)
theorem Yy {a0 a1:Int}{n:Nat}{c:List PV}{leaf m:Int}{s:List Int}(hs:s.length=18)(hfu:1000<=fu):∀(k nn i:Nat),i+k=18->k<nn ->
  Fl fu (Ae C0 Tryz.prog fu (d+5)) a0 a1 n c nn leaf s.length (Af .u64 s) 18 ((List.range i).map (Ym leaf m s)).length i (Af .i64 (OR m)) (Af .u64 ((List.range i).map (Ym leaf m s)))=some ⟨[.sc (.int .u64 (ST leaf m s)),.sc (.int .i64 0)],[]⟩
 |_,0,_,_,h=>by omega
 |0,nn+1,i,hi,hn=>by
  have e:i=18:=by omega
  subst e;have l18:((List.range 18).map (Ym leaf m s)).length=18:=by simp
  have en:=VL (fu:=fu) (d:=d) hfu leaf (E:=(List.range 18).map (Ym leaf m s)) (by omega)
  have L:=Am .u64 ((List.range 18).map (Ym leaf m s));rw [I0,Dj _ _ _ (by omega)]
  simp (disch:=omega) only [Bx,B8,Br,E6,J6,L,en];rfl
 |k+1,nn+1,i,hi,hn=>by
  have ih:=Yy (a0:=a0) (a1:=a1) (n:=n) (c:=c) (leaf:=leaf) (m:=m) hs hfu k nn (i+1) (by omega) (by omega)
  obtain ⟨x,hx⟩:∃x,s[i]?=some x:=⟨_,List.getElem?_eq_getElem (by omega)⟩
  have hb:=Tc m i;have rn:=TI (fu:=fu) (d:=d) (leaf:=leaf) (chain:=i) hfu (15-dg m i).toNat (dg m i) 15 x (by omega) (by omega) (by omega)
  have ev:Qz leaf i (15-dg m i).toNat (dg m i) x=Ym leaf m s i:=by
   unfold Ym;rw [List.getD_eq_getElem?_getD,hx];rfl
  rw [ev] at rn;have w:wrap .i64 ((i:Int)+1)=((i+1:Nat):Int):=by rw [Al (by omega) (by omega)];omega
  have L:=Am .u64 ((List.range i).map (Ym leaf m s));have li:((List.range i).map (Ym leaf m s)).length=i:=by simp
  rw [P1,Kt,List.length_singleton,←Fv] at ih;rw [I0];simp (disch:=omega) only [Bx,Gy,B8,Br,Vf (Am3 m (show i<18 by omega)),Vf hx,rn,J6,L,w]
  exact ih
theorem WK (hfu:1000<=fu)(leaf m:Int)(s:List Int):Ae C0 Tryz.prog fu (d+6) Lh [.sc (.int .i64 leaf),.sc (.int .u64 m),.lst false 1 s.length (Af .u64 s)]=some ⟨(if s.length=18 then [.sc (.int .u64 (ST leaf m s)),.sc (.int .i64 0)] else [.sc (.int .u64 0),.sc (.int .i64 4)]),[]⟩:=by
 refine (Vo fu (d+5) leaf m s.length (Af .u64 s)).trans ?_;by_cases h:s.length=18
 ·have sp:=QV (fu:=fu) (d:=d+4) hfu m;have lp:=Yy (fu:=fu) (d:=d) (a0:=leaf) (a1:=m) (n:=s.length) (c:=Af .u64 s) (leaf:=leaf) (m:=m) h hfu 18 fu 0 (by omega) (by omega)
  simp only [D5];rw [Bv h,Bv (by omega)]
  simp only [Bx,sp];exact lp
 ·simp only [D5];rw [A5 h,A5 (by omega)]
theorem Zi (hfu:1000<=fu)(level a b:Int):Ae C0 Tryz.prog fu (d+5) Ni [.sc (.int .i64 level),.sc (.int .u64 a),.sc (.int .u64 b)]=some ⟨[.sc (.int .u64 (Mt level a b))],[]⟩:=by
 have wd:Ae C0 Tryz.prog fu (d+4) Ec [.lst false 1 3 [.sc (.int .u64 (wrap .u64 level)),.sc (.int .u64 a),.sc (.int .u64 b)]]=_:=Tf (xs:=Kd) (ws:=[wrap .u64 level,a,b]) (by simp) (by omega) (by simp;omega)
 have hs:=Abl (fu:=fu) (d:=d) (ws:=[wrap .u64 level,a,b]) (by simp) hfu 3
 have L:=Am .u8 (A6 [wrap .u64 level,a,b]);rw [V6];unfold Mt;generalize A6 [wrap .u64 level,a,b]=W at wd hs L ⊢;simp (disch:=omega) only [Bx,wd,B8,Br,E6,J6,L,hs]
theorem DX (hfu:1000<=fu)(seed:Int):∀(l:Nat)(i B:Int),0<=i->i<=B->(2 ^ l:Nat)*(B+1)<=1000000000->l<=20->Ae C0 Tryz.prog fu (d+7+l) Qg [.sc (.int .u64 seed),.sc (.int .i64 l),.sc (.int .i64 i)]=some ⟨[.sc (.int .u64 (B6 seed l i))],[]⟩
 |0,i,B,h0,h1,h2,hl=>by
  have lf:=Agy (fu:=fu) (d:=d) hfu seed i;refine (P9 fu (d+6) seed 0 i).trans ?_;simp only [Bx,Et,if_true,lf];rfl
 |l+1,i,B,h0,h1,h2,hl=>by
  have hq:(2 ^ (l+1):Nat)=2 ^ l*2:=Nat.pow_succ _ _;have hpos:0<2 ^ l:=Nat.pow_pos (by omega)
  rw [hq] at h2;generalize hQ:2 ^ l=q at h2 hpos
  have hb:((q*2:Nat):Int)*(B+1)=(q:Int)*(2*B+1+1):=by
   rw [Int.natCast_mul,Int.mul_assoc]
   congr 1
   omega
  rw [hb] at h2
  have hBq:2*B+1+1<=(q:Int)*(2*B+1+1):=by
   have:=Int.mul_le_mul_of_nonneg_right (show (1:Int)<=q by omega) (show (0:Int)<=2*B+1+1 by omega)
   omega
  have n1:=DX hfu seed l (2*i) (2*B+1) (by omega) (by omega) (by rw [hQ];exact h2) (by omega)
  have n2:=DX hfu seed l (2*i+1) (2*B+1) (by omega) (by omega) (by rw [hQ];exact h2) (by omega)
  have pr:=Zi (fu:=fu) (d:=d+2+l) hfu ((l+1:Nat):Int) (B6 seed l (2*i)) (B6 seed l (2*i+1));rw [show d+2+l+5=d+7+l by omega] at pr
  have w1:wrap .i64 (((l+1:Nat):Int)-1)=(l:Int):=by rw [Al (by omega) (by omega)];omega
  have w2:wrap .i64 (2*i)=2*i:=Al (by omega) (by omega)
  have w3:wrap .i64 (2*i+1)=2*i+1:=Al (by omega) (by omega)
  have ne:¬(((l+1:Nat):Int)=0):=by omega
  refine (P9 fu (d+7+l) seed ((l+1:Nat):Int) i).trans ?_;simp only [Bx,Et,ne,if_false,w1,w2,w3,n1,n2,pr];rfl
end
end
section
open Go.IntKind (wrap)
theorem wu {h:Int}(h0:0<=h)(h4:h<=4):wrap .u64 h=h:=Cq (by omega) (by omega)
theorem Abd {leaf h:Int}(h0:0<=h)(h4:h<=4)(ho:Io leaf h=false):0<=leaf∧leaf<2 ^ h.toNat:=by
 unfold Io at ho;simp only [Bool.or_eq_false_iff,decide_eq_false_iff_not] at ho;have:h=0∨h=1∨h=2∨h=3∨h=4:=by omega
 rcases this with rfl|rfl|rfl|rfl|rfl
 ·have e:Hc .i64 1 0=1:=by decide
  rw [e] at ho;exact ⟨by omega,by show leaf<1;omega⟩
 ·have e:Hc .i64 1 1=2:=by decide
  rw [e] at ho;exact ⟨by omega,by show leaf<2;omega⟩
 ·have e:Hc .i64 1 2=4:=by decide
  rw [e] at ho;exact ⟨by omega,by show leaf<4;omega⟩
 ·have e:Hc .i64 1 3=8:=by decide
  rw [e] at ho;exact ⟨by omega,by show leaf<8;omega⟩
 ·have e:Hc .i64 1 4=16:=by decide
  rw [e] at ho;exact ⟨by omega,by show leaf<16;omega⟩
theorem Asn {h:Int}(h0:0<=h)(h4:h<=4):(2:Int) ^ h.toNat<=16:=by
 have:h=0∨h=1∨h=2∨h=3∨h=4:=by omega
 rcases this with rfl|rfl|rfl|rfl|rfl<;>decide
theorem Aah {leaf:Int}(h0:0<=leaf)(h1:leaf<16){k:Nat}(hk:k<4):0<=Fx leaf k∧Fx leaf k<=15:=by
 have H:∀n:Fin 16,∀k:Fin 4,0<=Fx (n.val:Int) k.val∧Fx (n.val:Int) k.val<=15:=by decide
 obtain ⟨n,rfl⟩:=Int.eq_ofNat_of_zero_le h0;exact H ⟨n,by omega⟩ ⟨k,hk⟩
section
variable {fu d:Nat}
theorem Abc (hfu:1000<=fu)(seed h:Int):Ae C0 Tryz.prog fu (d+12) Nn [.sc (.int .u64 seed),.sc (.int .i64 h)]=some ⟨[.agg (G0 seed h).cells,.sc (.int .i64 (if Dh h=true then 9 else 0))],[]⟩:=by
 refine (Xb fu (d+11) seed h).trans ?_;have h1:=Ua (fu:=fu) (d:=d+10) h;unfold G0;cases c1:Dh h
 ·rw [c1] at h1;have hb:=Hx c1
  have nd:=DX (fu:=fu) (d:=d+4-h.toNat) hfu seed h.toNat 0 0 (by omega) (by omega) (by
   have:h=0∨h=1∨h=2∨h=3∨h=4:=by omega
   rcases this with rfl|rfl|rfl|rfl|rfl<;>decide) (by omega)
  rw [show d+4-h.toNat+7+h.toNat=d+11 by omega,show ((h.toNat:Nat):Int)=h by omega] at nd
  simp only [Bx,h1,nd];rfl
 ·rw [c1] at h1;simp only [Bx,h1];rfl
theorem KH {a0 a1 a2 a3:Int}{seed leaf h:Int}(hh:0<=h∧h<=4)(hl:0<=leaf∧leaf<16)(hfu:1000<=fu){y4 y9:Int}{y5 y6:Nat}{y7 y8:List PV}{ch:List Int}:∀(k nn i:Nat),i+k=h.toNat->k<nn ->
  Gp fu (Ae C0 Tryz.prog fu (d+11)) a0 a1 a2 a3 nn seed h leaf i y4 y5 y6 y7 y8 leaf ch.length ((List.range i).map fun k=>B6 seed k (Fx leaf k)).length (Af .u64 ch) (Af .u64 ((List.range i).map fun k=>B6 seed k (Fx leaf k)))=some ⟨[.agg (Sg.mk leaf ch ((List.range h.toNat).map fun k=>B6 seed k (Fx leaf k))).owned,.sc (.int .i64 0)],[]⟩
 |_,0,_,_,h=>by omega
 |0,nn+1,i,hi,hn=>by
  have e:i=h.toNat:=by omega
  subst e;have L1:=Am .u64 ch;have L2:=Am .u64 ((List.range h.toNat).map fun k=>B6 seed k (Fx leaf k))
  rw [Ln,Dj _ _ _ (by omega)]
  simp (disch:=omega) only [Bx,B8,J6,L1,L2];rfl
 |k+1,nn+1,i,hi,hn=>by
  have ih:=KH (a0:=a0) (a1:=a1) (a2:=a2) (a3:=a3) (seed:=seed) (y4:=y4) (y9:=y9) (y5:=y5) (y6:=y6) (y7:=y7) (y8:=y8) (ch:=ch) hh hl hfu k nn (i+1) (by omega) (by omega)
  have sb:=Aah hl.1 hl.2 (k:=i) (by omega)
  have nd:=DX (fu:=fu) (d:=d+4-i) hfu seed i (Fx leaf i) 15 sb.1 sb.2 (by
   have:i=0∨i=1∨i=2∨i=3:=by omega
   rcases this with rfl|rfl|rfl|rfl<;>decide) (by omega)
  rw [show d+4-i+7+i=d+11 by omega] at nd
  have es:D2 .i64 (D7 .i64 leaf (i:Int)) 1=Fx leaf i:=rfl;have w:wrap .i64 ((i:Int)+1)=((i+1:Nat):Int):=by rw [Al (by omega) (by omega)];omega
  have wi:wrap .u64 (i:Int)=i:=Cq (by omega) (by omega)
  have L:=Am .u64 ((List.range i).map fun k=>B6 seed k (Fx leaf k))
  have li:((List.range i).map fun k=>B6 seed k (Fx leaf k)).length=i:=by simp
  rw [P1,Kt,List.length_singleton,←Fv] at ih;rw [Ln];simp (disch:=omega) only [Bx,wi,es,nd,B8,J6,L,w];exact ih
theorem Ai3 (hfu:1000<=fu)(seed h leaf m:Int):Ae C0 Tryz.prog fu (d+12) Po [.sc (.int .u64 seed),.sc (.int .i64 h),.sc (.int .i64 leaf),.sc (.int .u64 m)]=some ⟨SL (EE seed h leaf m),[]⟩:=by
 refine (AY fu (d+11) seed h leaf m).trans ?_;have h1:=Ua (fu:=fu) (d:=d+10) h;unfold EE;cases c1:Dh h
 ·rw [c1] at h1;have hb:=Hx c1;have w:=wu hb.1 hb.2;rw [A5 (by simp)]
  by_cases hn:leaf<0
  ·have ho:Io leaf h=true:=by unfold Io;simp [hn]
   rw [Bv ho];simp (disch:=omega) only [Bx,h1];rfl
  ·by_cases hg:leaf>=Hc .i64 1 h
   ·have ho:Io leaf h=true:=by unfold Io;simp [hg]
    rw [Bv ho];simp (disch:=first|omega|exact hg) only [Bx,h1,w];rfl
   ·have ho:Io leaf h=false:=by unfold Io;simp only [Bool.or_eq_false_iff,decide_eq_false_iff_not];exact ⟨hn,hg⟩
    have hlt:=Abd hb.1 hb.2 ho;have h16:=Asn hb.1 hb.2;rw [A5 (by rw [ho];simp)]
    have sl:=TW (fu:=fu) (d:=d+5) hfu seed leaf m;have lp:=KH (fu:=fu) (d:=d) (a0:=seed) (a1:=h) (a2:=leaf) (a3:=m) (seed:=seed) (leaf:=leaf) (h:=h) hb (by omega) hfu (y4:=0) (y9:=0) (y5:=0) (y6:=0) (y7:=[]) (y8:=[]) (ch:=I3 seed leaf m) h.toNat fu 0 (by omega) (by omega)
    have l18:(I3 seed leaf m).length=18:=by simp [I3]
    rw [l18] at lp;simp (disch:=first|omega|exact hg) only [Bx,h1,w,sl];exact lp
 ·rw [c1] at h1;rw [Bv rfl];simp (disch:=omega) only [Bx,h1];rfl
theorem DY {a0 a1 a2 a3:Int}{n1 n2 n3:Nat}{c1 c2 c3:List PV}{root leaf:Int}{path:List Int}(hp:path.length<=100)(hfu:1000<=fu):∀(r:List Int)(i nn:Nat)(x:Int),path.drop i=r->r.length<nn->i<=path.length ->
  El fu (Ae C0 Tryz.prog fu (d+5)) a0 a1 a2 a3 n1 c1 n2 c2 nn x i path.length root leaf n3 c3 path.length (Af .u64 path)=some ⟨[.sc (.int .i64 (okE (V1 leaf i x r) root))],[]⟩
 |_,_,0,_,_,h,_=>by omega
 |[],i,nn+1,x,h,hn,hi=>by
  have:=drop_nil h;rw [Jq,Dj _ _ _ (by omega),D5]
  rw [MQ];unfold okE;by_cases e:x=root
  ·rw [Bv e,Bv e]
  ·rw [A5 e,A5 e]
 |s::r,i,nn+1,x,h,hn,hi=>by
  obtain ⟨h1,h2,h3⟩:=B3 h;simp only [Ja] at hn;have w:wrap .i64 ((i:Int)+1)=((i+1:Nat):Int):=by rw [Al (by omega) (by omega)];omega
  have wi:wrap .u64 (i:Int)=i:=Cq (by omega) (by omega)
  have ih:=fun x=>DY (a0:=a0) (a1:=a1) (a2:=a2) (a3:=a3) (n1:=n1) (n2:=n2) (n3:=n3) (c1:=c1) (c2:=c2) (c3:=c3) (root:=root) (leaf:=leaf) hp hfu r (i+1) nn x h3 (by omega) (by omega)
  have p1:=Zi (fu:=fu) (d:=d) hfu ((i+1:Nat):Int) x s;have p2:=Zi (fu:=fu) (d:=d) hfu ((i+1:Nat):Int) s x;rw [Jq,Vu];by_cases hb:Qv .i64 (D7 .i64 leaf i) 1=0
  ·rw [Bv hb,←ih];simp (disch:=omega) only [Bx,Gy,B8,Vf h2,Et,wi,hb,w,p1,if_true]
  ·rw [A5 hb,←ih];simp (disch:=omega) only [Bx,Gy,B8,Vf h2,Et,wi,hb,w,p2,if_false]
theorem Abo (hfu:1000<=fu)(k:Ky)(m:Int)(s:Sg):Ae C0 Tryz.prog fu (d+7) Nb [.agg k.cells,.sc (.int .u64 m),.agg s.cells]=some ⟨[.sc (.int .i64 (OU k m s))],[]⟩:=by
 refine (Vv fu (d+6) k.h k.root m s.leaf s.chains.length (Af .u64 s.chains) s.path.length (Af .u64 s.path)).trans ?_;have h1:=Ua (fu:=fu) (d:=d+5) k.h;unfold OU;cases c1:Dh k.h
 ·rw [c1] at h1;have hb:=Hx c1;have w:=wu hb.1 hb.2;rw [A5 (by simp)]
  by_cases hn:s.leaf<0
  ·have ho:Io s.leaf k.h=true:=by unfold Io;simp [hn]
   rw [Bv ho];simp (disch:=omega) only [Bx,h1]
  ·by_cases hg:s.leaf>=Hc .i64 1 k.h
   ·have ho:Io s.leaf k.h=true:=by unfold Io;simp [hg]
    rw [Bv ho];simp (disch:=first|omega|exact hg) only [Bx,h1,w]
   ·have ho:Io s.leaf k.h=false:=by unfold Io;simp only [Bool.or_eq_false_iff,decide_eq_false_iff_not];exact ⟨hn,hg⟩
    rw [A5 (by rw [ho];simp)]
    by_cases c3:s.chains.length=18
    ·by_cases c4:(s.path.length:Int)=k.h
     ·have rc:=WK (fu:=fu) (d:=d) hfu s.leaf m s.chains;rw [Bv c3] at rc;have vl:=DY (fu:=fu) (d:=d+1) (a0:=k.h) (a1:=k.root) (a2:=m) (a3:=s.leaf) (n1:=s.chains.length) (n2:=s.path.length) (n3:=s.chains.length) (c1:=Af .u64 s.chains) (c2:=Af .u64 s.path) (c3:=Af .u64 s.chains) (root:=k.root) (leaf:=s.leaf) (path:=s.path) (by omega) hfu s.path 0 fu (ST s.leaf m s.chains) rfl (by omega) (by omega)
      rw [A5 (by omega),A5 (by omega),←vl]
      simp (disch:=first|omega|exact hg) only [Bx,h1,w,D5,rc,c4,if_true];rw [Bv (by omega)]
      rfl
     ·rw [A5 (by omega),Bv c4]
      simp (disch:=first|omega|exact hg) only [Bx,h1,w,D5,c4,if_false];rw [Bv (by omega)]
    ·rw [Bv c3];simp (disch:=first|omega|exact hg) only [Bx,h1,w,D5];rw [A5 (by omega)]
 ·rw [c1] at h1;rw [Bv rfl];simp (disch:=omega) only [Bx,h1]
theorem Aa4 (hfu:1000<=fu)(k:Ky):Ae C0 Tryz.prog fu (d+2) Jr [.agg k.cells]=some ⟨(if Dh k.h=true then [.own 1 0 [],.sc (.int .i64 9)] else [.own 1 9 (Af .u8 (Jo k)),.sc (.int .i64 0)]),[]⟩:=by
 refine (R6 fu (d+1) k.h k.root).trans ?_;have h1:=Ua (fu:=fu) (d:=d) k.h;have wd:=Ar3 (fu:=fu) (d:=d) hfu k.root;have L:=Am .u8 (D3 k.root);rw [Fa] at L;have t8:List.take 8 (Af .u8 (D3 k.root))=Af .u8 (D3 k.root):=To (by omega)
 have t9:List.take 9 ([PV.sc (.int .u8 (wrap .u8 k.h))]++Af .u8 (D3 k.root))=Af .u8 (Jo k):=by
  rw [To (by rw [Kt,L];simp)]
  rfl
 have L9:([PV.sc (.int .u8 (wrap .u8 k.h))]++Af .u8 (D3 k.root)).length=9:=by rw [Kt,L];rfl
 cases c1:Dh k.h
 ·rw [c1] at h1;rw [A5 (by simp)]
  simp (disch:=omega) only [Bx,h1,wd,B8,Br,E6,L,t8,Nat.reduceAdd,L9,t9]
 ·rw [c1] at h1;rw [Bv rfl];simp (disch:=omega) only [Bx,h1]
end
end
section
open Go.IntKind (wrap)
section
variable {fu d:Nat}
end
theorem Aj4 (seed leaf m:Int):ST leaf m (I3 seed leaf m)=Ih seed leaf:=by
 unfold ST Ih LD
 congr 1
 refine List.map_congr_left fun i hi=>?_
 have hi:=List.mem_range.1 hi;have hb:=Tc m i;unfold Ym Xx
 have e:(I3 seed leaf m).getD i 0=Vs seed leaf m i:=by
  unfold I3;rw [List.getD_eq_getElem?_getD,List.getElem?_map,List.getElem?_range hi];rfl
 rw [e];unfold Vs;have:=YZ leaf i (dg m i).toNat (15-dg m i).toNat 0 (EW seed leaf i);rw [show (dg m i).toNat+(15-dg m i).toNat=15 by omega,show (0:Int)+((dg m i).toNat:Nat)=dg m i by omega] at this
 exact this.symm
theorem Aep:∀n:Fin 16,∀k:Fin 4,
  (Qv .i64 (D7 .i64 (n.val:Int) k.val) 1=0∧D7 .i64 (n.val:Int) k.val=2*D7 .i64 (n.val:Int) ((k.val+1:Nat):Int)∧Fx n.val k.val=2*D7 .i64 (n.val:Int) ((k.val+1:Nat):Int)+1) ∨
  (Qv .i64 (D7 .i64 (n.val:Int) k.val) 1≠0∧D7 .i64 (n.val:Int) k.val=2*D7 .i64 (n.val:Int) ((k.val+1:Nat):Int)+1∧Fx n.val k.val=2*D7 .i64 (n.val:Int) ((k.val+1:Nat):Int)):=by decide
theorem MN (seed:Int){leaf:Int}(h0:0<=leaf)(h1:leaf<16):∀(k i:Nat),i+k<=4 ->
  V1 leaf i (B6 seed i (D7 .i64 leaf i)) ((List.range' i k).map fun j=>B6 seed j (Fx leaf j))=B6 seed (i+k) (D7 .i64 leaf ((i+k:Nat):Int))
 |0,i,_=>rfl
 |k+1,i,h=>by
  rw [List.range'_succ,Zzw,Vu];obtain ⟨n,rfl⟩:=Int.eq_ofNat_of_zero_le h0;have ih:=MN seed h0 h1 k (i+1) (by omega)
  rw [show i+(k+1)=i+1+k by omega,←ih]
  congr 1
  rcases Aep ⟨n,by omega⟩ ⟨i,by omega⟩ with ⟨a,b,c⟩|⟨a,b,c⟩
  ·simp only at a b c;rw [Bv a,b,c];rfl
  ·simp only at a b c;rw [A5 a,b,c];rfl
theorem Ah9 {seed h leaf m:Int}(hh:Dh h=false)(ho:Io leaf h=false):OU (G0 seed h) m ⟨leaf,I3 seed leaf m,(List.range h.toNat).map fun k=>B6 seed k (Fx leaf k)⟩=0:=by
 have hb:=Hx hh;have hl:=Abd hb.1 hb.2 ho;have h16:=Asn hb.1 hb.2
 have eP:G0 seed h=⟨h,B6 seed h.toNat 0⟩:=by
  unfold G0;rw [hh];rfl
 rw [eP];unfold OU;simp only;rw [A5 (show ¬Dh h=true by rw [hh];simp),A5 (show ¬Io leaf h=true by rw [ho];simp),A5 (show ¬(I3 seed leaf m).length≠18 by simp [I3]),A5 (by rw [List.length_map,List.length_range];omega),Aj4]
 have c:=MN seed hl.1 (show leaf<16 by omega) h.toNat 0 (by omega)
 have e0:D7 .i64 leaf ((0:Nat):Int)=leaf:=by
  show leaf.fdiv (2 ^ (min ((0:Nat):Int).toNat IntKind.i64.bits))=leaf;have:(2:Int) ^ (min ((0:Nat):Int).toNat IntKind.i64.bits)=1:=by decide
  rw [this,Int.fdiv_one]
 have eh:D7 .i64 leaf ((0+h.toNat:Nat):Int)=0:=by
  have H:∀n:Fin 16,∀k:Fin 5,(n.val:Int)<2 ^ k.val->D7 .i64 (n.val:Int) ((0+k.val:Nat):Int)=0:=by decide
  obtain ⟨n,hn⟩:=Int.eq_ofNat_of_zero_le hl.1;have:=H ⟨n,by omega⟩ ⟨h.toNat,by omega⟩ (by simp only;rw [←hn];exact hl.2)
  rw [hn];exact this
 rw [e0,eh,Br] at c;have er:List.range' 0 h.toNat=List.range h.toNat:=List.range_eq_range'.symm;rw [er] at c;have el:B6 seed 0 leaf=Ih seed leaf:=rfl;rw [el] at c;rw [c];unfold okE;rw [Bv rfl]
end
section
open Go.IntKind (wrap)
set_option maxRecDepth 100000
abbrev GN:FuncId:=68
theorem XK (fu d:Nat)(a0:ByteArray):Ae C0 Tryz.prog fu (d+1) GN [.sc (.string a0)]=(fun (call:Ah)=>some (A0.mk [.own 3 1 [.sc (.int .i64 4),.sc (.int .u64 0),.sc (.string a0)]] [])) (Ae C0 Tryz.prog fu d):=by kernel_rfl
abbrev HS:FuncId:=69
theorem YM (fu d:Nat)(a0:Int):Ae C0 Tryz.prog fu (d+1) HS [.sc (.int .u64 a0)]=(fun (call:Ah)=>some (A0.mk [.own 3 1 [.sc (.int .i64 1),.sc (.int .u64 a0),.sc (.string (ByteArray.mk #[]))]] [])) (Ae C0 Tryz.prog fu d):=by kernel_rfl
abbrev CJ:FuncId:=70
theorem TN (fu d a0n:Nat)(a0:List PV):Ae C0 Tryz.prog fu (d+1) CJ [.lst false 1 a0n a0]=(fun (call:Ah)=>Au (decide (a0.length=a0n))<|E5 (bytesOf a0) fun x1=>some (A0.mk [.own 3 1 [.sc (.int .i64 3),.sc (.int .u64 0),.sc (.string (ByteArray.mk (List.toArray x1)))]] [])) (Ae C0 Tryz.prog fu d):=by kernel_rfl
abbrev GG:FuncId:=71
theorem VG (fu d:Nat)(a0:Bool):Ae C0 Tryz.prog fu (d+1) GG [.sc (.bool a0)]=(fun (call:Ah)=>A9 (a0) (some (A0.mk [.own 3 1 [.sc (.int .i64 7),.sc (.int .u64 1),.sc (.string (ByteArray.mk #[]))]] [])) (some (A0.mk [.own 3 1 [.sc (.int .i64 7),.sc (.int .u64 0),.sc (.string (ByteArray.mk #[]))]] []))) (Ae C0 Tryz.prog fu d):=by kernel_rfl
abbrev CY:FuncId:=127
theorem SD (fu d:Nat)(a0:Int):Ae C0 Tryz.prog fu (d+1) CY [.sc (.int .u64 a0)]=(fun (call:Ah)=>A9 (decide (a0<24)) (some (A0.mk [.sc (.int .i64 0)] [])) (A9 (decide (a0<256)) (some (A0.mk [.sc (.int .i64 1)] [])) (A9 (decide (a0<65536)) (some (A0.mk [.sc (.int .i64 2)] [])) (A9 (decide (a0<4294967296)) (some (A0.mk [.sc (.int .i64 4)] [])) (some (A0.mk [.sc (.int .i64 8)] [])))))) (Ae C0 Tryz.prog fu d):=by kernel_rfl
abbrev Zb:FuncId:=131
theorem NY (fu d:Nat)(a0_0 a0_1:Int)(a0_2:ByteArray):Ae C0 Tryz.prog fu (d+1) Zb [.agg [.sc (.int .i64 a0_0),.sc (.int .u64 a0_1),.sc (.string a0_2)]]=(fun (call:Ah)=>A9 (a0_0==3) (some (A0.mk [.sc (.bool (a0_1==0))] [])) (A9 (a0_0==4) (some (A0.mk [.sc (.bool (a0_1==0))] [])) (A9 (a0_0==8) (A9 (a0_1==0) (some (A0.mk [.sc (.bool (Array.toList (ByteArray.data a0_2)==Array.toList (ByteArray.data (ByteArray.mk #[]))))] [])) (some (A0.mk [.sc (.bool false)] []))) (A9 (a0_0==7) (A9 (decide (a0_1<=1)) (some (A0.mk [.sc (.bool (Array.toList (ByteArray.data a0_2)==Array.toList (ByteArray.data (ByteArray.mk #[]))))] [])) (some (A0.mk [.sc (.bool false)] []))) (some (A0.mk [.sc (.bool (Array.toList (ByteArray.data a0_2)==Array.toList (ByteArray.data (ByteArray.mk #[]))))] [])))))) (Ae C0 Tryz.prog fu d):=by kernel_rfl
abbrev Wq:FuncId:=129
theorem JG (fu d a0n:Nat)(a0:List PV)(a1n:Nat)(a1:List PV):Ae C0 Tryz.prog fu (d+1) Wq [.lst false 1 a0n a0,.lst false 1 a1n a1]=(fun (call:Ah)=>A9 ((↑a0n:Int) != (↑a1n:Int)) (some (A0.mk [.sc (.bool (decide ((↑a0n:Int)<(↑a1n:Int))))] [])) (Ag (call 133 [.lst false 1 a0n a0,.lst false 1 a1n a1]) fun x1 x2=>Ac x2<|Ab x1 fun x3 x4=>Ad .i64 x3 fun x5=>Ac x4<|some (A0.mk [.sc (.bool (decide (x5<0)))] []))) (Ae C0 Tryz.prog fu d):=by kernel_rfl
abbrev Kw:FuncId:=119
noncomputable def Dy (fu:Nat)(call:Ah)(a0n:Nat)(a0:List PV)(a1 a2:Int)(nn y0:Nat)(y1 y2:Int)(y3:List PV):Option A0:=Co CB Tryz.prog fu call 119 Tryz.f119 (Bm Tryz.f119) [.own 1 a0n a0,.sc (.int .u8 a1),.sc (.int .u64 a2)] [.r,.r,.r,.r,.r,.l,.r,.l] nn ⟨lk [(0,(.view 0 1 0 y0)),(2,(.sc (.int .u64 y1))),(9,(.sc (.int .i64 y2)))],B7 [(0,(.ar false y3))]⟩
theorem Nd (fu:Nat)(call:Ah)(a0n:Nat)(a0:List PV)(a1 a2:Int)(nn y0:Nat)(y1 y2:Int)(y3:List PV):Dy fu call a0n a0 a1 a2 (nn+1) y0 y1 y2 y3=(A9 (decide (y2>=0)) (Aa (wrap .i64 (8*y2)) fun E2=>Au (decide (0<=E2))<|Aa (D7 .u64 y1 E2) fun Fg=>Aa (wrap .u8 Fg) fun Fp=>Au (decide (y0*1<=y3.length)&&true&&decide ((y0+1)*1<=1099511627776)&&decide (y0+1<=1099511627776))<|Aa (y0+1) fun Hp=>Aa (List.take (y0*1) y3++[.sc (.int .u8 Fp)]) fun Hb=>Aa (wrap .i64 (y2-1)) fun Hq=>Dy fu call a0n a0 a1 a2 (nn) Hp (y1) Hq Hb) (Au (decide (y0*1<=y3.length))<|some (A0.mk [.own 1 y0 (List.take (y0*1) y3)] []))):=by kernel_rfl
theorem EB (fu d a0n:Nat)(a0:List PV)(a1 a2:Int):Ae C0 Tryz.prog fu (d+1) Kw [.own 1 a0n a0,.sc (.int .u8 a1),.sc (.int .u64 a2)]=(fun (call:Ah)=>Aa (Hc .u8 a1 5) fun x1=>A9 (decide (a2<24)) (Aa (wrap .u8 a2) fun x2=>Aa (wrap .u8 (x1+x2)) fun x3=>Au (decide (a0n*1<=a0.length)&&true&&decide ((a0n+1)*1<=1099511627776)&&decide (a0n+1<=1099511627776))<|Aa (a0n+1) fun x4=>Aa (List.take (a0n*1) a0++[.sc (.int .u8 x3)]) fun x5=>Au (decide (x4*1<=x5.length))<|some (A0.mk [.own 1 x4 (List.take (x4*1) x5)] [])) (A9 (decide (a2<256)) (Aa (wrap .u8 (x1+24)) fun x6=>Au (decide (a0n*1<=a0.length)&&true&&decide ((a0n+1)*1<=1099511627776)&&decide (a0n+1<=1099511627776))<|Aa (a0n+1) fun x7=>Aa (List.take (a0n*1) a0++[.sc (.int .u8 x6)]) fun x8=>Dy fu call a0n a0 a1 a2 (fu) x7 (a2) 0 x8) (A9 (decide (a2<65536)) (Aa (wrap .u8 (x1+25)) fun x9=>Au (decide (a0n*1<=a0.length)&&true&&decide ((a0n+1)*1<=1099511627776)&&decide (a0n+1<=1099511627776))<|Aa (a0n+1) fun Cl=>Aa (List.take (a0n*1) a0++[.sc (.int .u8 x9)]) fun Cw=>Dy fu call a0n a0 a1 a2 (fu) Cl (a2) 1 Cw) (A9 (decide (a2<4294967296)) (Aa (wrap .u8 (x1+26)) fun Dl=>Au (decide (a0n*1<=a0.length)&&true&&decide ((a0n+1)*1<=1099511627776)&&decide (a0n+1<=1099511627776))<|Aa (a0n+1) fun Dr=>Aa (List.take (a0n*1) a0++[.sc (.int .u8 Dl)]) fun Dk=>Dy fu call a0n a0 a1 a2 (fu) Dr (a2) 3 Dk) (Aa (wrap .u8 (x1+27)) fun D9=>Au (decide (a0n*1<=a0.length)&&true&&decide ((a0n+1)*1<=1099511627776)&&decide (a0n+1<=1099511627776))<|Aa (a0n+1) fun Ea=>Aa (List.take (a0n*1) a0++[.sc (.int .u8 D9)]) fun En=>Dy fu call a0n a0 a1 a2 (fu) Ea (a2) 7 En))))) (Ae C0 Tryz.prog fu d):=by kernel_rfl
abbrev Rf:FuncId:=102
theorem DQ (fu d a0n:Nat)(a0:List PV)(a1_0 a1_1:Int)(a1_2:ByteArray):Ae C0 Tryz.prog fu (d+1) Rf [.own 1 a0n a0,.agg [.sc (.int .i64 a1_0),.sc (.int .u64 a1_1),.sc (.string a1_2)]]=(fun (call:Ah)=>A9 (a1_0==7) (Aa (wrap .u8 a1_1) fun x1=>Aa (wrap .u8 (244+x1)) fun x2=>Au (decide (a0n*1<=a0.length)&&true&&decide ((a0n+1)*1<=1099511627776)&&decide (a0n+1<=1099511627776))<|Aa (a0n+1) fun x3=>Aa (List.take (a0n*1) a0++[.sc (.int .u8 x2)]) fun x4=>Au (decide (x3*1<=x4.length))<|some (A0.mk [.own 1 x3 (List.take (x3*1) x4)] [])) (A9 (a1_0==8) (Au (decide (a0n*1<=a0.length)&&true&&decide ((a0n+1)*1<=1099511627776)&&decide (a0n+1<=1099511627776))<|Aa (a0n+1) fun x5=>Aa (List.take (a0n*1) a0++[.sc (.int .u8 246)]) fun x6=>Au (decide (x5*1<=x6.length))<|some (A0.mk [.own 1 x5 (List.take (x5*1) x6)] [])) (A9 (a1_0==3) (Aa (wrap .i64 (a1_0-1)) fun x7=>Aa (wrap .u8 x7) fun x8=>Aa (wrap .u64 (↑(ByteArray.size a1_2):Int)) fun x9=>Au (decide (a0n*1<=a0.length))<|Ag (call 119 [.own 1 a0n (List.take (a0n*1) a0),.sc (.int .u8 x8),.sc (.int .u64 x9)]) fun Cl Cw=>Ab Cl fun Dl Dr=>Es 1 Dl fun Dk D9=>Ac Dr<|Ac Cw<|Au (decide (Dk*1<=D9.length)&&decide (List.length (Dv a1_2)=ByteArray.size a1_2*1)&&decide ((Dk+ByteArray.size a1_2)*1<=1099511627776)&&decide (Dk+ByteArray.size a1_2<=1099511627776))<|Aa (Dk+ByteArray.size a1_2) fun Ea=>Aa (List.take (Dk*1) D9++Dv a1_2) fun En=>Au (decide (Ea*1<=En.length))<|some (A0.mk [.own 1 Ea (List.take (Ea*1) En)] [])) (A9 (a1_0==4) (Aa (wrap .i64 (a1_0-1)) fun E2=>Aa (wrap .u8 E2) fun Fg=>Aa (wrap .u64 (↑(ByteArray.size a1_2):Int)) fun Fp=>Au (decide (a0n*1<=a0.length))<|Ag (call 119 [.own 1 a0n (List.take (a0n*1) a0),.sc (.int .u8 Fg),.sc (.int .u64 Fp)]) fun Hp Hb=>Ab Hp fun Hq Dz=>Es 1 Hq fun Dq F5=>Ac Dz<|Ac Hb<|Au (decide (Dq*1<=F5.length)&&decide (List.length (Dv a1_2)=ByteArray.size a1_2*1)&&decide ((Dq+ByteArray.size a1_2)*1<=1099511627776)&&decide (Dq+ByteArray.size a1_2<=1099511627776))<|Aa (Dq+ByteArray.size a1_2) fun H3=>Aa (List.take (Dq*1) F5++Dv a1_2) fun E1=>Au (decide (H3*1<=E1.length))<|some (A0.mk [.own 1 H3 (List.take (H3*1) E1)] [])) (Aa (wrap .i64 (a1_0-1)) fun Jk=>Aa (wrap .u8 Jk) fun L8=>Au (decide (a0n*1<=a0.length))<|Ag (call 119 [.own 1 a0n (List.take (a0n*1) a0),.sc (.int .u8 L8),.sc (.int .u64 a1_1)]) fun Jt Mr=>Ab Jt fun Mb Np=>Es 1 Mb fun Qp Pt=>Ac Np<|Ac Mr<|Au (decide (Qp*1<=Pt.length))<|some (A0.mk [.own 1 Qp (List.take (Qp*1) Pt)] [])))))) (Ae C0 Tryz.prog fu d):=by kernel_rfl
abbrev S4:FuncId:=90
theorem ER (fu d a0_0n:Nat)(a0_0:List PV)(a0_1:Int):Ae C0 Tryz.prog fu (d+1) S4 [.pbox [.own 3 a0_0n a0_0,.sc (.int .i64 a0_1)]]=(fun (call:Ah)=>A9 (decide (a0_1>0)) (Au (decide (a0_0n*3<=a0_0.length))<|some (A0.mk [.sc (.bool ((↑a0_0n:Int)==0))] [[.own 3 a0_0n (List.take (a0_0n*3) a0_0),.sc (.int .i64 a0_1)]])) (Au (decide (a0_0n*3<=a0_0.length))<|some (A0.mk [.sc (.bool false)] [[.own 3 a0_0n (List.take (a0_0n*3) a0_0),.sc (.int .i64 a0_1)]]))) (Ae C0 Tryz.prog fu d):=by kernel_rfl
abbrev Rj:FuncId:=128
theorem EA (fu d a0_0n:Nat)(a0_0:List PV)(a0_1:Int):Ae C0 Tryz.prog fu (d+1) Rj [.pbox [.own 3 a0_0n a0_0,.sc (.int .i64 a0_1)]]=(fun (call:Ah)=>A9 (decide ((↑a0_0n:Int)>0)) (Aa (wrap .i64 ((↑a0_0n:Int)-1)) fun x1=>Au (decide (0<=x1)&&decide (x1<(↑a0_0n:Int)))<|Bj (List.getD a0_0 (0+Int.toNat x1*3+0) .top) fun x2=>A9 x2 (Aa (wrap .i64 ((↑a0_0n:Int)-1)) fun x3=>Au (decide (0<=x3)&&decide (x3<(↑a0_0n:Int)))<|Ad .i64 (List.getD a0_0 (0+Int.toNat x3*3+1) .top) fun x4=>Aa (Int.tmod x4 2) fun x5=>Au (decide (a0_0n*3<=a0_0.length))<|some (A0.mk [.sc (.bool (x5==0))] [[.own 3 a0_0n (List.take (a0_0n*3) a0_0),.sc (.int .i64 a0_1)]])) (Au (decide (a0_0n*3<=a0_0.length))<|some (A0.mk [.sc (.bool false)] [[.own 3 a0_0n (List.take (a0_0n*3) a0_0),.sc (.int .i64 a0_1)]]))) (Au (decide (a0_0n*3<=a0_0.length))<|some (A0.mk [.sc (.bool false)] [[.own 3 a0_0n (List.take (a0_0n*3) a0_0),.sc (.int .i64 a0_1)]]))) (Ae C0 Tryz.prog fu d):=by kernel_rfl
abbrev Q8:FuncId:=114
theorem BL (fu d a0_0n:Nat)(a0_0:List PV)(a0_1 a1:Int):Ae C0 Tryz.prog fu (d+1) Q8 [.pbox [.own 3 a0_0n a0_0,.sc (.int .i64 a0_1)],.sc (.int .i64 a1)]=(fun (call:Ah)=>A9 (decide (a0_1>=512)) (Au (decide (a0_0n*3<=a0_0.length))<|some (A0.mk [.sc (.int .i64 8)] [[.own 3 a0_0n (List.take (a0_0n*3) a0_0),.sc (.int .i64 a0_1)]])) (A9 (decide (a1<1)) (Au (decide (a0_0n*3<=a0_0.length))<|some (A0.mk [.sc (.int .i64 3)] [[.own 3 a0_0n (List.take (a0_0n*3) a0_0),.sc (.int .i64 a0_1)]])) (A9 (decide (a1>8)) (Au (decide (a0_0n*3<=a0_0.length))<|some (A0.mk [.sc (.int .i64 3)] [[.own 3 a0_0n (List.take (a0_0n*3) a0_0),.sc (.int .i64 a0_1)]])) (Au (decide (a0_0n*3<=a0_0.length))<|Ag (call 128 [.pbox [.own 3 a0_0n (List.take (a0_0n*3) a0_0),.sc (.int .i64 a0_1)]]) fun x1 x2=>Ab x1 fun x3 x4=>Bj x3 fun x5=>Ac x4<|Ab x2 fun x6 x7=>Ab x6 fun x8 x9=>Es 3 x8 fun Cl Cw=>Ab x9 fun Dl Dr=>Ad .i64 Dl fun Dk=>Ac Dr<|Ac x7<|A9 x5 (A9 (a1 != 1) (A9 (a1 != 2) (A9 (a1 != 4) (Au (decide (Cl*3<=Cw.length))<|some (A0.mk [.sc (.int .i64 3)] [[.own 3 Cl (List.take (Cl*3) Cw),.sc (.int .i64 Dk)]])) (A9 (decide ((↑Cl:Int)>8)) (Au (decide (Cl*3<=Cw.length))<|some (A0.mk [.sc (.int .i64 5)] [[.own 3 Cl (List.take (Cl*3) Cw),.sc (.int .i64 Dk)]])) (Au (decide (Cl*3<=Cw.length))<|some (A0.mk [.sc (.int .i64 0)] [[.own 3 Cl (List.take (Cl*3) Cw),.sc (.int .i64 Dk)]])))) (A9 (decide ((↑Cl:Int)>8)) (Au (decide (Cl*3<=Cw.length))<|some (A0.mk [.sc (.int .i64 5)] [[.own 3 Cl (List.take (Cl*3) Cw),.sc (.int .i64 Dk)]])) (Au (decide (Cl*3<=Cw.length))<|some (A0.mk [.sc (.int .i64 0)] [[.own 3 Cl (List.take (Cl*3) Cw),.sc (.int .i64 Dk)]])))) (A9 (decide ((↑Cl:Int)>8)) (Au (decide (Cl*3<=Cw.length))<|some (A0.mk [.sc (.int .i64 5)] [[.own 3 Cl (List.take (Cl*3) Cw),.sc (.int .i64 Dk)]])) (Au (decide (Cl*3<=Cw.length))<|some (A0.mk [.sc (.int .i64 0)] [[.own 3 Cl (List.take (Cl*3) Cw),.sc (.int .i64 Dk)]])))) (A9 (decide ((↑Cl:Int)>8)) (Au (decide (Cl*3<=Cw.length))<|some (A0.mk [.sc (.int .i64 5)] [[.own 3 Cl (List.take (Cl*3) Cw),.sc (.int .i64 Dk)]])) (Au (decide (Cl*3<=Cw.length))<|some (A0.mk [.sc (.int .i64 0)] [[.own 3 Cl (List.take (Cl*3) Cw),.sc (.int .i64 Dk)]]))))))) (Ae C0 Tryz.prog fu d):=by kernel_rfl
abbrev Sx:FuncId:=130
noncomputable def A8 (fu:Nat)(call:Ah)(a0_0n:Nat)(a0_0:List PV)(a0_1 a1_0 a1_1:Int)(a1_2:ByteArray)(nn:Nat)(y0:Int)(y1:Nat)(y2:Int)(y3:List PV):Option A0:=Co CB Tryz.prog fu call 130 Tryz.f130 (Bm Tryz.f130) [.pbox [.own 3 a0_0n a0_0,.sc (.int .i64 a0_1)],.agg [.sc (.int .i64 a1_0),.sc (.int .u64 a1_1),.sc (.string a1_2)]] [.r,.r,.r,.r,.r,.r,.l] nn ⟨lk [(0,(.ptr 212000 0)),(5,(.sc (.int .i64 y0)))],B7 [(212000,(.st [(.view 212106 3 0 y1),(.sc (.int .i64 y2))])),(212106,(.ar false y3))]⟩
theorem Oo (fu:Nat)(call:Ah)(a0_0n:Nat)(a0_0:List PV)(a0_1 a1_0 a1_1:Int)(a1_2:ByteArray)(nn:Nat)(y0:Int)(y1:Nat)(y2:Int)(y3:List PV):A8 fu call a0_0n a0_0 a0_1 a1_0 a1_1 a1_2 (nn+1) y0 y1 y2 y3=(A9 (decide (y0>0)) (Aa (wrap .i64 (y0-1)) fun Pt=>Au (decide (0<=Pt)&&decide (Pt<(↑y1:Int)))<|Ad .i64 (List.getD y3 (0+Int.toNat Pt*3+1) .top) fun R5=>A9 (R5==0) (Aa (wrap .i64 (y0-1)) fun Hh=>Au (decide (0<=Hh))<|Au (decide (Int.toNat Hh<=y1))<|Aa (Int.toNat Hh-0) fun J8=>Aa (wrap .i64 (y0-1)) fun Va=>A8 fu call a0_0n a0_0 a0_1 a1_0 a1_1 a1_2 (nn) Va J8 (y2) (y3)) (Au (decide (y1*3<=y3.length))<|some (A0.mk [] [[.own 3 y1 (List.take (y1*3) y3),.sc (.int .i64 y2)]]))) (Au (decide (y1*3<=y3.length))<|some (A0.mk [] [[.own 3 y1 (List.take (y1*3) y3),.sc (.int .i64 y2)]]))):=by kernel_rfl
theorem ES (fu d a0_0n:Nat)(a0_0:List PV)(a0_1 a1_0 a1_1:Int)(a1_2:ByteArray):Ae C0 Tryz.prog fu (d+1) Sx [.pbox [.own 3 a0_0n a0_0,.sc (.int .i64 a0_1)],.agg [.sc (.int .i64 a1_0),.sc (.int .u64 a1_1),.sc (.string a1_2)]]=(fun (call:Ah)=>Aa (wrap .i64 (a0_1+1)) fun x1=>A9 (decide ((↑a0_0n:Int)>0)) (Aa (wrap .i64 ((↑a0_0n:Int)-1)) fun x2=>Au (decide (0<=x2)&&decide (x2<(↑a0_0n:Int)))<|Ad .i64 (List.getD a0_0 (0+Int.toNat x2*3+1) .top) fun x3=>Aa (wrap .i64 (x3-1)) fun x4=>Au (decide (0<=x2)&&decide (x2<(↑a0_0n:Int)))<|Au (decide (0+Int.toNat x2*3+1+1<=a0_0.length))<|Aa (Bd a0_0 [.sc (.int .i64 x4)] (0+Int.toNat x2*3+1)) fun x5=>A9 (a1_0==5) (A9 (decide (a1_1>0)) (Aa (wrap .i64 a1_1) fun x6=>Au (decide (a0_0n*3<=x5.length)&&true&&decide ((a0_0n+1)*40<=1099511627776)&&decide (a0_0n+1<=1099511627776))<|Aa (a0_0n+1) fun x7=>Aa (List.take (a0_0n*3) x5++[.sc (.bool false),.sc (.int .i64 x6),.lst false 1 0 []]) fun x8=>A9 (a1_0==6) (A9 (decide (a1_1>0)) (Aa (wrap .i64 a1_1) fun x9=>Aa (wrap .i64 (2*x9)) fun Cl=>Au (decide (x7*3<=x8.length)&&true&&decide ((x7+1)*40<=1099511627776)&&decide (x7+1<=1099511627776))<|Aa (x7+1) fun Cw=>Aa (List.take (x7*3) x8++[.sc (.bool true),.sc (.int .i64 Cl),.lst false 1 0 []]) fun Dl=>A8 fu call a0_0n a0_0 a0_1 a1_0 a1_1 a1_2 (fu) ((↑Cw:Int)) Cw x1 Dl) (A8 fu call a0_0n a0_0 a0_1 a1_0 a1_1 a1_2 (fu) ((↑x7:Int)) x7 x1 x8)) (A8 fu call a0_0n a0_0 a0_1 a1_0 a1_1 a1_2 (fu) ((↑x7:Int)) x7 x1 x8)) (A9 (a1_0==6) (A9 (decide (a1_1>0)) (Aa (wrap .i64 a1_1) fun Dr=>Aa (wrap .i64 (2*Dr)) fun Dk=>Au (decide (a0_0n*3<=x5.length)&&true&&decide ((a0_0n+1)*40<=1099511627776)&&decide (a0_0n+1<=1099511627776))<|Aa (a0_0n+1) fun D9=>Aa (List.take (a0_0n*3) x5++[.sc (.bool true),.sc (.int .i64 Dk),.lst false 1 0 []]) fun Ea=>A8 fu call a0_0n a0_0 a0_1 a1_0 a1_1 a1_2 (fu) ((↑D9:Int)) D9 x1 Ea) (A8 fu call a0_0n a0_0 a0_1 a1_0 a1_1 a1_2 (fu) ((↑a0_0n:Int)) (a0_0n) x1 x5)) (A8 fu call a0_0n a0_0 a0_1 a1_0 a1_1 a1_2 (fu) ((↑a0_0n:Int)) (a0_0n) x1 x5))) (A9 (a1_0==6) (A9 (decide (a1_1>0)) (Aa (wrap .i64 a1_1) fun En=>Aa (wrap .i64 (2*En)) fun E2=>Au (decide (a0_0n*3<=x5.length)&&true&&decide ((a0_0n+1)*40<=1099511627776)&&decide (a0_0n+1<=1099511627776))<|Aa (a0_0n+1) fun Fg=>Aa (List.take (a0_0n*3) x5++[.sc (.bool true),.sc (.int .i64 E2),.lst false 1 0 []]) fun Fp=>A8 fu call a0_0n a0_0 a0_1 a1_0 a1_1 a1_2 (fu) ((↑Fg:Int)) Fg x1 Fp) (A8 fu call a0_0n a0_0 a0_1 a1_0 a1_1 a1_2 (fu) ((↑a0_0n:Int)) (a0_0n) x1 x5)) (A8 fu call a0_0n a0_0 a0_1 a1_0 a1_1 a1_2 (fu) ((↑a0_0n:Int)) (a0_0n) x1 x5))) (A9 (a1_0==5) (A9 (decide (a1_1>0)) (Aa (wrap .i64 a1_1) fun Hp=>Au (decide (a0_0n*3<=a0_0.length)&&true&&decide ((a0_0n+1)*40<=1099511627776)&&decide (a0_0n+1<=1099511627776))<|Aa (a0_0n+1) fun Hb=>Aa (List.take (a0_0n*3) a0_0++[.sc (.bool false),.sc (.int .i64 Hp),.lst false 1 0 []]) fun Hq=>A9 (a1_0==6) (A9 (decide (a1_1>0)) (Aa (wrap .i64 a1_1) fun Dz=>Aa (wrap .i64 (2*Dz)) fun Dq=>Au (decide (Hb*3<=Hq.length)&&true&&decide ((Hb+1)*40<=1099511627776)&&decide (Hb+1<=1099511627776))<|Aa (Hb+1) fun F5=>Aa (List.take (Hb*3) Hq++[.sc (.bool true),.sc (.int .i64 Dq),.lst false 1 0 []]) fun H3=>A8 fu call a0_0n a0_0 a0_1 a1_0 a1_1 a1_2 (fu) ((↑F5:Int)) F5 x1 H3) (A8 fu call a0_0n a0_0 a0_1 a1_0 a1_1 a1_2 (fu) ((↑Hb:Int)) Hb x1 Hq)) (A8 fu call a0_0n a0_0 a0_1 a1_0 a1_1 a1_2 (fu) ((↑Hb:Int)) Hb x1 Hq)) (A9 (a1_0==6) (A9 (decide (a1_1>0)) (Aa (wrap .i64 a1_1) fun E1=>Aa (wrap .i64 (2*E1)) fun Jk=>Au (decide (a0_0n*3<=a0_0.length)&&true&&decide ((a0_0n+1)*40<=1099511627776)&&decide (a0_0n+1<=1099511627776))<|Aa (a0_0n+1) fun L8=>Aa (List.take (a0_0n*3) a0_0++[.sc (.bool true),.sc (.int .i64 Jk),.lst false 1 0 []]) fun Jt=>A8 fu call a0_0n a0_0 a0_1 a1_0 a1_1 a1_2 (fu) ((↑L8:Int)) L8 x1 Jt) (A8 fu call a0_0n a0_0 a0_1 a1_0 a1_1 a1_2 (fu) ((↑a0_0n:Int)) (a0_0n) x1 (a0_0))) (A8 fu call a0_0n a0_0 a0_1 a1_0 a1_1 a1_2 (fu) ((↑a0_0n:Int)) (a0_0n) x1 (a0_0)))) (A9 (a1_0==6) (A9 (decide (a1_1>0)) (Aa (wrap .i64 a1_1) fun Mr=>Aa (wrap .i64 (2*Mr)) fun Mb=>Au (decide (a0_0n*3<=a0_0.length)&&true&&decide ((a0_0n+1)*40<=1099511627776)&&decide (a0_0n+1<=1099511627776))<|Aa (a0_0n+1) fun Np=>Aa (List.take (a0_0n*3) a0_0++[.sc (.bool true),.sc (.int .i64 Mb),.lst false 1 0 []]) fun Qp=>A8 fu call a0_0n a0_0 a0_1 a1_0 a1_1 a1_2 (fu) ((↑Np:Int)) Np x1 Qp) (A8 fu call a0_0n a0_0 a0_1 a1_0 a1_1 a1_2 (fu) ((↑a0_0n:Int)) (a0_0n) x1 (a0_0))) (A8 fu call a0_0n a0_0 a0_1 a1_0 a1_1 a1_2 (fu) ((↑a0_0n:Int)) (a0_0n) x1 (a0_0))))) (Ae C0 Tryz.prog fu d):=by kernel_rfl
abbrev Jf:FuncId:=115
theorem Je (fu d a0_0n:Nat)(a0_0:List PV)(a0_1 a1_0 a1_1:Int)(a1_2:ByteArray):Ae C0 Tryz.prog fu (d+1) Jf [.pbox [.own 3 a0_0n a0_0,.sc (.int .i64 a0_1)],.agg [.sc (.int .i64 a1_0),.sc (.int .u64 a1_1),.sc (.string a1_2)]]=(fun (call:Ah)=>A9 (a1_0==4) (Ag (call 56 [.sc (.string a1_2)]) fun x1 x2=>Ac x2<|Ab x1 fun x3 x4=>Bj x3 fun x5=>Ac x4<|A9 (!x5) (Au (decide (a0_0n*3<=a0_0.length))<|some (A0.mk [.sc (.int .i64 6)] [[.own 3 a0_0n (List.take (a0_0n*3) a0_0),.sc (.int .i64 a0_1)]])) (Au (decide (a0_0n*3<=a0_0.length))<|Ag (call 128 [.pbox [.own 3 a0_0n (List.take (a0_0n*3) a0_0),.sc (.int .i64 a0_1)]]) fun x6 x7=>Ab x6 fun x8 x9=>Bj x8 fun Cl=>Ac x9<|Ab x7 fun Cw Dl=>Ab Cw fun Dr Dk=>Es 3 Dr fun D9 Ea=>Ab Dk fun En E2=>Ad .i64 En fun Fg=>Ac E2<|Ac Dl<|A9 Cl (Aa (wrap .i64 ((↑D9:Int)-1)) fun Fp=>Au (decide (0<=Fp)&&decide (Fp<(↑D9:Int)))<|Ag (call 102 [.own 1 0 [],.agg [.sc (.int .i64 a1_0),.sc (.int .u64 a1_1),.sc (.string a1_2)]]) fun Hp Hb=>Ab Hp fun Hq Dz=>Es 1 Hq fun Dq F5=>Ac Dz<|Ac Hb<|Fk 1 (List.getD Ea (0+Int.toNat Fp*3+0+2) .top) fun H3 E1 Jk=>A9 (decide (0<E1)) (Fk 1 (List.getD Ea (0+Int.toNat Fp*3+0+2) .top) fun L8 Jt Mr=>Au (decide (0+Dq*1<=F5.length))<|Ag (call 129 [.lst false 1 Jt Mr,.lst false 1 Dq (List.take (Dq*1) (List.drop 0 F5))]) fun Mb Np=>Ac Np<|Ab Mb fun Qp Pt=>Bj Qp fun R5=>Ac Pt<|A9 (!R5) (Au (decide (D9*3<=Ea.length))<|some (A0.mk [.sc (.int .i64 7)] [[.own 3 D9 (List.take (D9*3) Ea),.sc (.int .i64 Fg)]])) (Au (decide (0+Int.toNat Fp*3+0+2+1<=Ea.length))<|Au (decide (0+Dq*1<=F5.length))<|Aa (Bd Ea [.lst false 1 Dq (List.take (Dq*1) (List.drop 0 F5))] (0+Int.toNat Fp*3+0+2)) fun Hh=>Au (decide (D9*3<=Hh.length))<|Ag (call 130 [.pbox [.own 3 D9 (List.take (D9*3) Hh),.sc (.int .i64 Fg)],.agg [.sc (.int .i64 a1_0),.sc (.int .u64 a1_1),.sc (.string a1_2)]]) fun J8 Va=>Ac J8<|Ab Va fun Y9 Qq=>Ab Y9 fun Nw Uh=>Es 3 Nw fun Sd Tp=>Ab Uh fun Xd Yb=>Ad .i64 Xd fun Sn=>Ac Yb<|Ac Qq<|Au (decide (Sd*3<=Tp.length))<|some (A0.mk [.sc (.int .i64 0)] [[.own 3 Sd (List.take (Sd*3) Tp),.sc (.int .i64 Sn)]]))) (Y7 (Fk 1 (List.getD Ea (0+Int.toNat Fp*3+0+2) .top) fun Vz Yj Xv=>Au (decide (0+Dq*1<=F5.length))<|Ag (call 129 [.lst false 1 Yj Xv,.lst false 1 Dq (List.take (Dq*1) (List.drop 0 F5))]) fun Pc X8=>Ac X8<|Ab Pc fun DW BE=>Bj DW fun Za=>Ac BE<|A9 (!Za) (Au (decide (D9*3<=Ea.length))<|some (A0.mk [.sc (.int .i64 7)] [[.own 3 D9 (List.take (D9*3) Ea),.sc (.int .i64 Fg)]])) (Au (decide (0+Int.toNat Fp*3+0+2+1<=Ea.length))<|Au (decide (0+Dq*1<=F5.length))<|Aa (Bd Ea [.lst false 1 Dq (List.take (Dq*1) (List.drop 0 F5))] (0+Int.toNat Fp*3+0+2)) fun U0=>Au (decide (D9*3<=U0.length))<|Ag (call 130 [.pbox [.own 3 D9 (List.take (D9*3) U0),.sc (.int .i64 Fg)],.agg [.sc (.int .i64 a1_0),.sc (.int .u64 a1_1),.sc (.string a1_2)]]) fun X4 BC=>Ac X4<|Ab BC fun Y2 Ze=>Ab Y2 fun BB Y8=>Es 3 BB fun Zd Xc=>Ab Y8 fun Xm BO=>Ad .i64 Xm fun Zj=>Ac BO<|Ac Ze<|Au (decide (Zd*3<=Xc.length))<|some (A0.mk [.sc (.int .i64 0)] [[.own 3 Zd (List.take (Zd*3) Xc),.sc (.int .i64 Zj)]]))) (Au (decide (0+Int.toNat Fp*3+0+2+1<=Ea.length))<|Au (decide (0+Dq*1<=F5.length))<|Aa (Bd Ea [.lst false 1 Dq (List.take (Dq*1) (List.drop 0 F5))] (0+Int.toNat Fp*3+0+2)) fun Yv=>Au (decide (D9*3<=Yv.length))<|Ag (call 130 [.pbox [.own 3 D9 (List.take (D9*3) Yv),.sc (.int .i64 Fg)],.agg [.sc (.int .i64 a1_0),.sc (.int .u64 a1_1),.sc (.string a1_2)]]) fun Y1 AG=>Ac Y1<|Ab AG fun EH Z3=>Ab EH fun Yu HC=>Es 3 Yu fun BA EN=>Ab HC fun IP IX=>Ad .i64 IP fun TZ=>Ac IX<|Ac Z3<|Au (decide (BA*3<=EN.length))<|some (A0.mk [.sc (.int .i64 0)] [[.own 3 BA (List.take (BA*3) EN),.sc (.int .i64 TZ)]])))) (Au (decide (D9*3<=Ea.length))<|Ag (call 130 [.pbox [.own 3 D9 (List.take (D9*3) Ea),.sc (.int .i64 Fg)],.agg [.sc (.int .i64 a1_0),.sc (.int .u64 a1_1),.sc (.string a1_2)]]) fun NQ RW=>Ac NQ<|Ab RW fun NS WY=>Ab NS fun XT VB=>Es 3 XT fun SV EG=>Ab VB fun RS UE=>Ad .i64 RS fun YG=>Ac UE<|Ac WY<|Au (decide (SV*3<=EG.length))<|some (A0.mk [.sc (.int .i64 0)] [[.own 3 SV (List.take (SV*3) EG),.sc (.int .i64 YG)]])))) (Au (decide (a0_0n*3<=a0_0.length))<|Ag (call 128 [.pbox [.own 3 a0_0n (List.take (a0_0n*3) a0_0),.sc (.int .i64 a0_1)]]) fun ZE x94=>Ab ZE fun x95 ZZ=>Bj x95 fun UZ=>Ac ZZ<|Ab x94 fun ZK ZN=>Ab ZK fun Ya We=>Es 3 Ya fun H4 D8=>Ab We fun AR Tg=>Ad .i64 AR fun Sk=>Ac Tg<|Ac ZN<|A9 UZ (Aa (wrap .i64 ((↑H4:Int)-1)) fun Kz=>Au (decide (0<=Kz)&&decide (Kz<(↑H4:Int)))<|Ag (call 102 [.own 1 0 [],.agg [.sc (.int .i64 a1_0),.sc (.int .u64 a1_1),.sc (.string a1_2)]]) fun AP Z9=>Ab AP fun Zz AA=>Es 1 Zz fun Iy Kl=>Ac AA<|Ac Z9<|Fk 1 (List.getD D8 (0+Int.toNat Kz*3+0+2) .top) fun Zs AQ AF=>A9 (decide (0<AQ)) (Fk 1 (List.getD D8 (0+Int.toNat Kz*3+0+2) .top) fun FQ Ul Wy=>Au (decide (0+Iy*1<=Kl.length))<|Ag (call 129 [.lst false 1 Ul Wy,.lst false 1 Iy (List.take (Iy*1) (List.drop 0 Kl))]) fun Ye X9=>Ac X9<|Ab Ye fun Zk DU=>Bj Zk fun Tl=>Ac DU<|A9 (!Tl) (Au (decide (H4*3<=D8.length))<|some (A0.mk [.sc (.int .i64 7)] [[.own 3 H4 (List.take (H4*3) D8),.sc (.int .i64 Sk)]])) (Au (decide (0+Int.toNat Kz*3+0+2+1<=D8.length))<|Au (decide (0+Iy*1<=Kl.length))<|Aa (Bd D8 [.lst false 1 Iy (List.take (Iy*1) (List.drop 0 Kl))] (0+Int.toNat Kz*3+0+2)) fun Rx=>Au (decide (H4*3<=Rx.length))<|Ag (call 130 [.pbox [.own 3 H4 (List.take (H4*3) Rx),.sc (.int .i64 Sk)],.agg [.sc (.int .i64 a1_0),.sc (.int .u64 a1_1),.sc (.string a1_2)]]) fun Qy Tz=>Ac Qy<|Ab Tz fun Vj BJ=>Ab Vj fun AK JP=>Es 3 AK fun FM Zy=>Ab JP fun HZ LJ=>Ad .i64 HZ fun LR=>Ac LJ<|Ac BJ<|Au (decide (FM*3<=Zy.length))<|some (A0.mk [.sc (.int .i64 0)] [[.own 3 FM (List.take (FM*3) Zy),.sc (.int .i64 LR)]]))) (Y7 (Fk 1 (List.getD D8 (0+Int.toNat Kz*3+0+2) .top) fun NV KF FB=>Au (decide (0+Iy*1<=Kl.length))<|Ag (call 129 [.lst false 1 KF FB,.lst false 1 Iy (List.take (Iy*1) (List.drop 0 Kl))]) fun HX JJ=>Ac JJ<|Ab HX fun ME MA=>Bj ME fun GD=>Ac MA<|A9 (!GD) (Au (decide (H4*3<=D8.length))<|some (A0.mk [.sc (.int .i64 7)] [[.own 3 H4 (List.take (H4*3) D8),.sc (.int .i64 Sk)]])) (Au (decide (0+Int.toNat Kz*3+0+2+1<=D8.length))<|Au (decide (0+Iy*1<=Kl.length))<|Aa (Bd D8 [.lst false 1 Iy (List.take (Iy*1) (List.drop 0 Kl))] (0+Int.toNat Kz*3+0+2)) fun IB=>Au (decide (H4*3<=IB.length))<|Ag (call 130 [.pbox [.own 3 H4 (List.take (H4*3) IB),.sc (.int .i64 Sk)],.agg [.sc (.int .i64 a1_0),.sc (.int .u64 a1_1),.sc (.string a1_2)]]) fun IH HT=>Ac IH<|Ab HT fun LM UF=>Ab LM fun WS TG=>Es 3 WS fun EM OJ=>Ab TG fun RY Ab6=>Ad .i64 RY fun Ab5=>Ac Ab6<|Ac UF<|Au (decide (EM*3<=OJ.length))<|some (A0.mk [.sc (.int .i64 0)] [[.own 3 EM (List.take (EM*3) OJ),.sc (.int .i64 Ab5)]]))) (Au (decide (0+Int.toNat Kz*3+0+2+1<=D8.length))<|Au (decide (0+Iy*1<=Kl.length))<|Aa (Bd D8 [.lst false 1 Iy (List.take (Iy*1) (List.drop 0 Kl))] (0+Int.toNat Kz*3+0+2)) fun YL=>Au (decide (H4*3<=YL.length))<|Ag (call 130 [.pbox [.own 3 H4 (List.take (H4*3) YL),.sc (.int .i64 Sk)],.agg [.sc (.int .i64 a1_0),.sc (.int .u64 a1_1),.sc (.string a1_2)]]) fun RZ VK=>Ac RZ<|Ab VK fun Aaq Aag=>Ab Aaq fun VT Aao=>Es 3 VT fun TH Aax=>Ab Aao fun Aac TT=>Ad .i64 Aac fun WP=>Ac TT<|Ac Aag<|Au (decide (TH*3<=Aax.length))<|some (A0.mk [.sc (.int .i64 0)] [[.own 3 TH (List.take (TH*3) Aax),.sc (.int .i64 WP)]])))) (Au (decide (H4*3<=D8.length))<|Ag (call 130 [.pbox [.own 3 H4 (List.take (H4*3) D8),.sc (.int .i64 Sk)],.agg [.sc (.int .i64 a1_0),.sc (.int .u64 a1_1),.sc (.string a1_2)]]) fun Abn ZX=>Ac Abn<|Ab ZX fun Ab2 Aid=>Ab Ab2 fun Aji Akc=>Es 3 Aji fun Aa1 Aet=>Ab Akc fun Ah6 Aje=>Ad .i64 Ah6 fun Aho=>Ac Aje<|Ac Aid<|Au (decide (Aa1*3<=Aet.length))<|some (A0.mk [.sc (.int .i64 0)] [[.own 3 Aa1 (List.take (Aa1*3) Aet),.sc (.int .i64 Aho)]])))) (Ae C0 Tryz.prog fu d):=by kernel_rfl
abbrev Oz:FuncId:=118
theorem Yd (fu d a0_0n:Nat)(a0_0:List PV)(a0_1 a1_0 a1_1:Int)(a1_2:ByteArray):Ae C0 Tryz.prog fu (d+1) Oz [.pbox [.own 3 a0_0n a0_0,.sc (.int .i64 a0_1)],.agg [.sc (.int .i64 a1_0),.sc (.int .u64 a1_1),.sc (.string a1_2)]]=(fun (call:Ah)=>Au (decide (a0_0n*3<=a0_0.length))<|Ag (call 90 [.pbox [.own 3 a0_0n (List.take (a0_0n*3) a0_0),.sc (.int .i64 a0_1)]]) fun x1 x2=>Ab x1 fun x3 x4=>Bj x3 fun x5=>Ac x4<|Ab x2 fun x6 x7=>Ab x6 fun x8 x9=>Es 3 x8 fun Cl Cw=>Ab x9 fun Dl Dr=>Ad .i64 Dl fun Dk=>Ac Dr<|Ac x7<|A9 x5 (Au (decide (Cl*3<=Cw.length))<|some (A0.mk [.sc (.int .i64 2)] [[.own 3 Cl (List.take (Cl*3) Cw),.sc (.int .i64 Dk)]])) (Au (decide (Cl*3<=Cw.length))<|Ag (call 114 [.pbox [.own 3 Cl (List.take (Cl*3) Cw),.sc (.int .i64 Dk)],.sc (.int .i64 a1_0)]) fun D9 Ea=>Ab D9 fun En E2=>Ad .i64 En fun Fg=>Ac E2<|Ab Ea fun Fp Hp=>Ab Fp fun Hb Hq=>Es 3 Hb fun Dz Dq=>Ab Hq fun F5 H3=>Ad .i64 F5 fun E1=>Ac H3<|Ac Hp<|A9 (Fg != 0) (Au (decide (Dz*3<=Dq.length))<|some (A0.mk [.sc (.int .i64 Fg)] [[.own 3 Dz (List.take (Dz*3) Dq),.sc (.int .i64 E1)]])) (Ag (call 131 [.agg [.sc (.int .i64 a1_0),.sc (.int .u64 a1_1),.sc (.string a1_2)]]) fun Jk L8=>Ac L8<|Ab Jk fun Jt Mr=>Bj Jt fun Mb=>Ac Mr<|A9 (!Mb) (Au (decide (Dz*3<=Dq.length))<|some (A0.mk [.sc (.int .i64 4)] [[.own 3 Dz (List.take (Dz*3) Dq),.sc (.int .i64 E1)]])) (A9 (decide ((↑(ByteArray.size a1_2):Int)>1024)) (Au (decide (Dz*3<=Dq.length))<|some (A0.mk [.sc (.int .i64 8)] [[.own 3 Dz (List.take (Dz*3) Dq),.sc (.int .i64 E1)]])) (A9 (a1_0==5) (A9 (decide (a1_1>512)) (Au (decide (Dz*3<=Dq.length))<|some (A0.mk [.sc (.int .i64 8)] [[.own 3 Dz (List.take (Dz*3) Dq),.sc (.int .i64 E1)]])) (Au (decide (Dz*3<=Dq.length))<|Ag (call 115 [.pbox [.own 3 Dz (List.take (Dz*3) Dq),.sc (.int .i64 E1)],.agg [.sc (.int .i64 a1_0),.sc (.int .u64 a1_1),.sc (.string a1_2)]]) fun Np Qp=>Ab Np fun Pt R5=>Ad .i64 Pt fun Hh=>Ac R5<|Ab Qp fun J8 Va=>Ab J8 fun Y9 Qq=>Es 3 Y9 fun Nw Uh=>Ab Qq fun Sd Tp=>Ad .i64 Sd fun Xd=>Ac Tp<|Ac Va<|Au (decide (Nw*3<=Uh.length))<|some (A0.mk [.sc (.int .i64 Hh)] [[.own 3 Nw (List.take (Nw*3) Uh),.sc (.int .i64 Xd)]]))) (A9 (a1_0==6) (A9 (decide (a1_1>512)) (Au (decide (Dz*3<=Dq.length))<|some (A0.mk [.sc (.int .i64 8)] [[.own 3 Dz (List.take (Dz*3) Dq),.sc (.int .i64 E1)]])) (Au (decide (Dz*3<=Dq.length))<|Ag (call 115 [.pbox [.own 3 Dz (List.take (Dz*3) Dq),.sc (.int .i64 E1)],.agg [.sc (.int .i64 a1_0),.sc (.int .u64 a1_1),.sc (.string a1_2)]]) fun Yb Sn=>Ab Yb fun Vz Yj=>Ad .i64 Vz fun Xv=>Ac Yj<|Ab Sn fun Pc X8=>Ab Pc fun DW BE=>Es 3 DW fun Za U0=>Ab BE fun X4 BC=>Ad .i64 X4 fun Y2=>Ac BC<|Ac X8<|Au (decide (Za*3<=U0.length))<|some (A0.mk [.sc (.int .i64 Xv)] [[.own 3 Za (List.take (Za*3) U0),.sc (.int .i64 Y2)]]))) (Au (decide (Dz*3<=Dq.length))<|Ag (call 115 [.pbox [.own 3 Dz (List.take (Dz*3) Dq),.sc (.int .i64 E1)],.agg [.sc (.int .i64 a1_0),.sc (.int .u64 a1_1),.sc (.string a1_2)]]) fun Ze BB=>Ab Ze fun Y8 Zd=>Ad .i64 Y8 fun Xc=>Ac Zd<|Ab BB fun Xm BO=>Ab Xm fun Zj Yv=>Es 3 Zj fun Y1 AG=>Ab Yv fun EH Z3=>Ad .i64 EH fun Yu=>Ac Z3<|Ac BO<|Au (decide (Y1*3<=AG.length))<|some (A0.mk [.sc (.int .i64 Xc)] [[.own 3 Y1 (List.take (Y1*3) AG),.sc (.int .i64 Yu)]])))))))) (Ae C0 Tryz.prog fu d):=by kernel_rfl
abbrev Uz:FuncId:=101
noncomputable def Im (fu:Nat)(call:Ah)(a0n:Nat)(a0:List PV)(nn y0:Nat)(y1:List PV)(y2 y3:Int)(y4:Nat)(y5:Int)(y6:List PV):Option A0:=Co CB Tryz.prog fu call 101 Tryz.f101 (Bm Tryz.f101) [.lst false 3 a0n a0] [.r,.r,.l,.r,.l] nn ⟨lk [(3,(.ptr 3 0)),(7,(.lst false 3 y0 y1)),(8,(.sc (.int .i64 y2))),(9,(.sc (.int .i64 y3)))],B7 [(3,(.st [(.view 25 3 0 y4),(.sc (.int .i64 y5))])),(25,(.ar false y6))]⟩
theorem P3 (fu:Nat)(call:Ah)(a0n:Nat)(a0:List PV)(nn y0:Nat)(y1:List PV)(y2 y3:Int)(y4:Nat)(y5:Int)(y6:List PV):Im fu call a0n a0 (nn+1) y0 y1 y2 y3 y4 y5 y6=(A9 (decide (y3<y2)) (Au (decide (0<=y3)&&decide (y3<(↑y0:Int)))<|Ad .i64 (List.getD y1 (Int.toNat y3*3) .top) fun x1=>Ad .u64 (List.getD y1 (Int.toNat y3*3+1) .top) fun x2=>Cj (List.getD y1 (Int.toNat y3*3+1+1) .top) fun x3=>Au (decide (y4*3<=y6.length))<|Ag (call 118 [.pbox [.own 3 y4 (List.take (y4*3) y6),.sc (.int .i64 y5)],.agg [.sc (.int .i64 x1),.sc (.int .u64 x2),.sc (.string x3)]]) fun x4 x5=>Ab x4 fun x6 x7=>Ad .i64 x6 fun x8=>Ac x7<|Ab x5 fun x9 Cl=>Ab x9 fun Cw Dl=>Es 3 Cw fun Dr Dk=>Ab Dl fun D9 Ea=>Ad .i64 D9 fun En=>Ac Ea<|Ac Cl<|A9 (x8 != 0) (some (A0.mk [.sc (.int .i64 x8)] [])) (Aa (wrap .i64 (y3+1)) fun E2=>Im fu call a0n a0 (nn) (y0) (y1) (y2) E2 Dr En Dk)) (Au (decide (y4*3<=y6.length))<|Ag (call 90 [.pbox [.own 3 y4 (List.take (y4*3) y6),.sc (.int .i64 y5)]]) fun Fg Fp=>Ab Fg fun Hp Hb=>Bj Hp fun Hq=>Ac Hb<|Ab Fp fun Dz Dq=>Ab Dz fun F5 H3=>Es 3 F5 fun E1 Jk=>Ab H3 fun L8 Jt=>Ad .i64 L8 fun Mr=>Ac Jt<|Ac Dq<|A9 (!Hq) (some (A0.mk [.sc (.int .i64 1)] [])) (some (A0.mk [.sc (.int .i64 0)] [])))):=by kernel_rfl
theorem IF (fu d a0n:Nat)(a0:List PV):Ae C0 Tryz.prog fu (d+1) Uz [.lst false 3 a0n a0]=(fun (call:Ah)=>Im fu call a0n a0 (fu) (a0n) (a0) ((↑a0n:Int)) 0 0 0 ([])) (Ae C0 Tryz.prog fu d):=by kernel_rfl
abbrev Wo:FuncId:=100
theorem JQ (fu d a0n:Nat)(a0:List PV):Ae C0 Tryz.prog fu (d+1) Wo [.own 3 a0n a0]=(fun (call:Ah)=>Au (decide (0+a0n*3<=a0.length))<|Ag (call 101 [.lst false 3 a0n (List.take (a0n*3) (List.drop 0 a0))]) fun x1 x2=>Ac x2<|Ab x1 fun x3 x4=>Ad .i64 x3 fun x5=>Ac x4<|A9 (x5 != 0) (some (A0.mk [.own 3 0 [],.sc (.int .i64 x5)] [])) (Au (decide (a0n*3<=a0.length))<|some (A0.mk [.own 3 a0n (List.take (a0n*3) a0),.sc (.int .i64 0)] []))) (Ae C0 Tryz.prog fu d):=by kernel_rfl
abbrev Yw:FuncId:=99
noncomputable def Kb (fu:Nat)(call:Ah)(a0n:Nat)(a0:List PV)(nn y0:Nat)(y1:List PV)(y2 y3:Int):Option A0:=Co CB Tryz.prog fu call 99 Tryz.f99 (Bm Tryz.f99) [.lst false 1 a0n a0] [.r,.l,.r,.l] nn ⟨lk [(6,(.lst false 1 y0 y1)),(7,(.sc (.int .i64 y2))),(8,(.sc (.int .i64 y3)))],B7 []⟩
theorem S5 (fu:Nat)(call:Ah)(a0n:Nat)(a0:List PV)(nn y0:Nat)(y1:List PV)(y2 y3:Int):Kb fu call a0n a0 (nn+1) y0 y1 y2 y3=(A9 (decide (y3<y2)) (Au (decide (0<=y3)&&decide (y3<(↑y0:Int)))<|Fk 3 (List.getD y1 (Int.toNat y3*1) .top) fun x1 x2 x3=>Ag (call 101 [.lst false 3 x2 x3]) fun x4 x5=>Ac x5<|Ab x4 fun x6 x7=>Ad .i64 x6 fun x8=>Ac x7<|A9 (x8 != 0) (some (A0.mk [.sc (.int .i64 x8)] [])) (Aa (wrap .i64 (y3+1)) fun x9=>Kb fu call a0n a0 (nn) (y0) (y1) (y2) x9)) (some (A0.mk [.sc (.int .i64 0)] []))):=by kernel_rfl
theorem OB (fu d a0n:Nat)(a0:List PV):Ae C0 Tryz.prog fu (d+1) Yw [.lst false 1 a0n a0]=(fun (call:Ah)=>Kb fu call a0n a0 (fu) (a0n) (a0) ((↑a0n:Int)) 0) (Ae C0 Tryz.prog fu d):=by kernel_rfl
abbrev Ty:FuncId:=67
noncomputable def Ms (fu:Nat)(call:Ah)(a0n:Nat)(a0:List PV)(nn y0 y1:Nat)(y2:List PV)(y3 y4:Int)(y5:List PV):Option A0:=Co CB Tryz.prog fu call 67 Tryz.f67 (Bm Tryz.f67) [.lst false 1 a0n a0] [.r,.r,.r,.l,.r,.l] nn ⟨lk [(5,(.view 5 3 0 y0)),(18,(.lst false 1 y1 y2)),(19,(.sc (.int .i64 y3))),(20,(.sc (.int .i64 y4)))],B7 [(5,(.ar false y5))]⟩
theorem U5 (fu:Nat)(call:Ah)(a0n:Nat)(a0:List PV)(nn y0 y1:Nat)(y2:List PV)(y3 y4:Int)(y5:List PV):Ms fu call a0n a0 (nn+1) y0 y1 y2 y3 y4 y5=(A9 (decide (y4<y3)) (Au (decide (0<=y4)&&decide (y4<(↑y1:Int)))<|Fk 3 (List.getD y2 (Int.toNat y4*1) .top) fun x7 x8 x9=>A9 (decide ((↑y0:Int)>512)) (Au (decide (y0*3<=y5.length))<|Ag (call 100 [.own 3 y0 (List.take (y0*3) y5)]) fun Cl Cw=>Ab Cl fun Dl Dr=>Es 3 Dl fun Dk D9=>Ab Dr fun Ea En=>Ad .i64 Ea fun E2=>Ac En<|Ac Cw<|Au (decide (Dk*3<=D9.length))<|some (A0.mk [.own 3 Dk (List.take (Dk*3) D9),.sc (.int .i64 E2)] [])) (Au (decide (y0*3<=y5.length)&&decide (x9.length=x8*3)&&decide ((y0+x8)*32<=1099511627776)&&decide (y0+x8<=1099511627776))<|Aa (y0+x8) fun Fg=>Aa (List.take (y0*3) y5++x9) fun Fp=>Aa (wrap .i64 (y4+1)) fun Hp=>Ms fu call a0n a0 (nn) Fg (y1) (y2) (y3) Hp Fp)) (Au (decide (y0*3<=y5.length))<|Ag (call 100 [.own 3 y0 (List.take (y0*3) y5)]) fun Hb Hq=>Ab Hb fun Dz Dq=>Es 3 Dz fun F5 H3=>Ab Dq fun E1 Jk=>Ad .i64 E1 fun L8=>Ac Jk<|Ac Hq<|Au (decide (F5*3<=H3.length))<|some (A0.mk [.own 3 F5 (List.take (F5*3) H3),.sc (.int .i64 L8)] []))):=by kernel_rfl
theorem TC (fu d a0n:Nat)(a0:List PV):Ae C0 Tryz.prog fu (d+1) Ty [.lst false 1 a0n a0]=(fun (call:Ah)=>Ag (call 99 [.lst false 1 a0n a0]) fun x1 x2=>Ac x2<|Ab x1 fun x3 x4=>Ad .i64 x3 fun x5=>Ac x4<|A9 (x5 != 0) (some (A0.mk [.own 3 0 [],.sc (.int .i64 x5)] [])) (Aa (wrap .u64 (↑a0n:Int)) fun x6=>Ms fu call a0n a0 (fu) 1 (a0n) (a0) ((↑a0n:Int)) 0 ([.sc (.int .i64 5),.sc (.int .u64 x6),.sc (.string (ByteArray.mk #[]))]))) (Ae C0 Tryz.prog fu d):=by kernel_rfl
abbrev Ru:FuncId:=72
noncomputable def Ka (fu:Nat)(call:Ah)(a0n:Nat)(a0:List PV)(nn y0 y1:Nat)(y2:List PV)(y3 y4:Int)(y5:List PV):Option A0:=Co CB Tryz.prog fu call 72 Tryz.f72 (Bm Tryz.f72) [.lst false 3 a0n a0] [.r,.r,.r,.l,.r,.l] nn ⟨lk [(5,(.view 5 1 0 y0)),(13,(.lst false 3 y1 y2)),(14,(.sc (.int .i64 y3))),(15,(.sc (.int .i64 y4)))],B7 [(5,(.ar false y5))]⟩
theorem S9 (fu:Nat)(call:Ah)(a0n:Nat)(a0:List PV)(nn y0 y1:Nat)(y2:List PV)(y3 y4:Int)(y5:List PV):Ka fu call a0n a0 (nn+1) y0 y1 y2 y3 y4 y5=(A9 (decide (y4<y3)) (Au (decide (0<=y4)&&decide (y4<(↑y1:Int)))<|Ad .i64 (List.getD y2 (Int.toNat y4*3) .top) fun x6=>Ad .u64 (List.getD y2 (Int.toNat y4*3+1) .top) fun x7=>Cj (List.getD y2 (Int.toNat y4*3+1+1) .top) fun x8=>Au (decide (y0*1<=y5.length))<|Ag (call 102 [.own 1 y0 (List.take (y0*1) y5),.agg [.sc (.int .i64 x6),.sc (.int .u64 x7),.sc (.string x8)]]) fun x9 Cl=>Ab x9 fun Cw Dl=>Es 1 Cw fun Dr Dk=>Ac Dl<|Ac Cl<|Aa (wrap .i64 (y4+1)) fun D9=>Ka fu call a0n a0 (nn) Dr (y1) (y2) (y3) D9 Dk) (Au (decide (y0*1<=y5.length))<|some (A0.mk [.own 1 y0 (List.take (y0*1) y5),.sc (.int .i64 0)] []))):=by kernel_rfl
theorem NW (fu d a0n:Nat)(a0:List PV):Ae C0 Tryz.prog fu (d+1) Ru [.lst false 3 a0n a0]=(fun (call:Ah)=>Ag (call 101 [.lst false 3 a0n a0]) fun x1 x2=>Ac x2<|Ab x1 fun x3 x4=>Ad .i64 x3 fun x5=>Ac x4<|A9 (x5 != 0) (some (A0.mk [.own 1 0 [],.sc (.int .i64 x5)] [])) (Ka fu call a0n a0 (fu) 0 (a0n) (a0) ((↑a0n:Int)) 0 ([]))) (Ae C0 Tryz.prog fu d):=by kernel_rfl
end
section
open Go.IntKind (wrap)
set_option maxRecDepth 100000
abbrev Pr:FuncId:=116
noncomputable def C8 (fu:Nat)(call:Ah)(a0_0 a0_1:Int)(a0_2:ByteArray)(nn:Nat)(y0 y1:Int):Option A0:=Co CB Tryz.prog fu call 116 Tryz.f116 (Bm Tryz.f116) [.agg [.sc (.int .i64 a0_0),.sc (.int .u64 a0_1),.sc (.string a0_2)]] [.r,.r,.r] nn ⟨lk [(3,(.sc (.int .u64 y0))),(4,(.sc (.int .u8 y1)))],B7 []⟩
theorem Vk (fu:Nat)(call:Ah)(a0_0 a0_1:Int)(a0_2:ByteArray)(nn:Nat)(hnn:0<nn)(y0 y1:Int):C8 fu call a0_0 a0_1 a0_2 nn y0 y1=(A9 (decide (y0<24)) (Aa (wrap .u8 y0) fun x5=>Aa (wrap .u8 (y1+x5)) fun x6=>some (A0.mk [.own 1 1 [.sc (.int .u8 x6)]] [])) (A9 (decide (y0<256)) (Aa (wrap .u8 (y1+24)) fun x7=>Aa (wrap .u8 y0) fun x8=>some (A0.mk [.own 1 2 [.sc (.int .u8 x7),.sc (.int .u8 x8)]] [])) (A9 (decide (y0<65536)) (Aa (wrap .u8 (y1+25)) fun x9=>Aa (D7 .u64 y0 8) fun Cl=>Aa (wrap .u8 Cl) fun Cw=>Aa (wrap .u8 y0) fun Dl=>some (A0.mk [.own 1 3 [.sc (.int .u8 x9),.sc (.int .u8 Cw),.sc (.int .u8 Dl)]] [])) (A9 (decide (y0<4294967296)) (Aa (wrap .u8 (y1+26)) fun Dr=>Aa (D7 .u64 y0 24) fun Dk=>Aa (wrap .u8 Dk) fun D9=>Aa (D7 .u64 y0 16) fun Ea=>Aa (wrap .u8 Ea) fun En=>Aa (D7 .u64 y0 8) fun E2=>Aa (wrap .u8 E2) fun Fg=>Aa (wrap .u8 y0) fun Fp=>some (A0.mk [.own 1 5 [.sc (.int .u8 Dr),.sc (.int .u8 D9),.sc (.int .u8 En),.sc (.int .u8 Fg),.sc (.int .u8 Fp)]] [])) (Aa (wrap .u8 (y1+27)) fun Hp=>Ag (call 84 [.lst false 1 1 [.sc (.int .u64 y0)]]) fun Hb Hq=>Ac Hq<|Ab Hb fun Dz Dq=>Es 1 Dz fun F5 H3=>Ac Dq<|Au (decide (0+F5*1<=H3.length))<|Au (decide (List.length (List.take (F5*1) (List.drop 0 H3))=F5*1)&&decide ((1+F5)*1<=1099511627776)&&decide (1+F5<=1099511627776))<|Aa (1+F5) fun E1=>Aa ([.sc (.int .u8 Hp)]++List.take (F5*1) (List.drop 0 H3)) fun Jk=>Au (decide (E1*1<=Jk.length))<|some (A0.mk [.own 1 E1 (List.take (E1*1) Jk)] [])))))):=by cases nn with|zero=>exact absurd hnn (Nat.lt_irrefl 0)|succ nn=>kernel_rfl
theorem AM (fu d:Nat)(a0_0 a0_1:Int)(a0_2:ByteArray):Ae C0 Tryz.prog fu (d+1) Pr [.agg [.sc (.int .i64 a0_0),.sc (.int .u64 a0_1),.sc (.string a0_2)]]=(fun (call:Ah)=>A9 (a0_0==7) (Aa (wrap .u8 a0_1) fun x1=>Aa (wrap .u8 (244+x1)) fun x2=>some (A0.mk [.own 1 1 [.sc (.int .u8 x2)]] [])) (A9 (a0_0==8) (some (A0.mk [.own 1 1 [.sc (.int .u8 246)]] [])) (A9 (a0_0==2) (C8 fu call a0_0 a0_1 a0_2 (fu) (a0_1) 32) (A9 (a0_0==3) (Aa (wrap .u64 (↑(ByteArray.size a0_2):Int)) fun x3=>C8 fu call a0_0 a0_1 a0_2 (fu) x3 64) (A9 (a0_0==4) (Aa (wrap .u64 (↑(ByteArray.size a0_2):Int)) fun x4=>C8 fu call a0_0 a0_1 a0_2 (fu) x4 96) (A9 (a0_0==5) (C8 fu call a0_0 a0_1 a0_2 (fu) (a0_1) 128) (A9 (a0_0==6) (C8 fu call a0_0 a0_1 a0_2 (fu) (a0_1) 160) (C8 fu call a0_0 a0_1 a0_2 (fu) (a0_1) 0)))))))) (Ae C0 Tryz.prog fu d):=by kernel_rfl
abbrev Oc:FuncId:=94
theorem Xw (fu d:Nat)(a0_0 a0_1:Int)(a0_2:ByteArray):Ae C0 Tryz.prog fu (d+1) Oc [.agg [.sc (.int .i64 a0_0),.sc (.int .u64 a0_1),.sc (.string a0_2)]]=(fun (call:Ah)=>Ag (call 116 [.agg [.sc (.int .i64 a0_0),.sc (.int .u64 a0_1),.sc (.string a0_2)]]) fun x1 x2=>Ac x2<|Ab x1 fun x3 x4=>Es 1 x3 fun x5 x6=>Ac x4<|Au (decide (0+x5*1<=x6.length))<|Au (decide (List.length (List.take (x5*1) (List.drop 0 x6))=x5))<|E5 (bytesOf (List.take (x5*1) (List.drop 0 x6))) fun x7=>Au (decide (ByteArray.size (ByteArray.mk (List.toArray x7))+ByteArray.size a0_2<=9223372036854775807))<|Aa (ByteArray.mk (List.toArray x7)++a0_2) fun x8=>some (A0.mk [.sc (.string x8)] [])) (Ae C0 Tryz.prog fu d):=by kernel_rfl
end
section
open Go.IntKind (wrap)
def I7 (s:ByteArray):List Int:=s.data.toList.map fun b=>(b.toNat:Int)
def Cd (l:List Int):ByteArray:=⟨(l.map fun n=>n.toNat.toUInt8).toArray⟩
theorem Qn (s:ByteArray):(I7 s).length=s.size:=by
 unfold I7;rw [List.length_map];rfl
theorem ZP (s:ByteArray):Kx (I7 s):=by
 intro x hx;obtain ⟨b,_,rfl⟩:=List.mem_map.1 hx;have:=b.toNat_lt;omega
theorem Na (s:ByteArray):Dv s=Af .u8 (I7 s):=by
 unfold Dv I7
 induction s.data.toList with
 |nil=>rfl
 |cons b l ih=>rw [Zzw,Zzw,ih];rfl
theorem Ge (l:List Int):(Cd l).size=l.length:=by
 show (l.map fun n=>n.toNat.toUInt8).toArray.size=_
 simp
theorem O1 {l:List Int}(h:Kx l):I7 (Cd l)=l:=by
 unfold I7 Cd;simp only [List.map_map]
 have:∀l:List Int,Kx l->List.map ((fun b:UInt8=>(b.toNat:Int)) ∘ fun n:Int=>n.toNat.toUInt8) l=l:=by
  intro l
  induction l with
  |nil=>intro _;rfl
  |cons x l ih=>
   intro h;have hx:=h x (by simp)
   rw [Zzw,ih fun y hy=>h y (by simp [hy])]
   congr 1
   show ((x.toNat.toUInt8.toNat:Nat):Int)=x;rw [Nat.toUInt8,UInt8.toNat_ofNat'];omega
 exact this l h
theorem CI (s:ByteArray):Cd (I7 s)=s:=by
 unfold Cd I7;simp only [List.map_map]
 have:∀l:List UInt8,List.map ((fun n:Int=>n.toNat.toUInt8) ∘ fun b:UInt8=>(b.toNat:Int)) l=l:=by
  intro l
  induction l with
  |nil=>rfl
  |cons x l ih=>
   rw [Zzw,ih]
   congr 1
   show ((x.toNat:Int).toNat).toUInt8=x;rw [Gy];simp
 rw [this]
theorem He:∀l:List Int,bytesOf (Af .u8 l)=some (l.map fun n=>n.toNat.toUInt8)
 |[]=>rfl
 |x::l=>by
  show (bytesOf (Af .u8 l)).map (x.toNat.toUInt8 :: ·)=_
  rw [He l];rfl
theorem YU (l:List Int)(s:ByteArray):Cd l++s=Cd (l++I7 s):=by
 conv=>lhs;rw [←CI s]
 unfold Cd;apply ByteArray.ext;rw [ByteArray.data_append];simp
def tb (n:Int)(k:Nat):List Int:=(List.range' (8-k) k).map (Da n)
def C3 (mj n:Int):List Int:=
 if n<24 then [32*mj+n] else if n<256 then (32*mj+24)::tb n 1 else if n<65536 then (32*mj+25)::tb n 2 else if n<4294967296 then (32*mj+26)::tb n 4 else (32*mj+27)::tb n 8
structure It where
 k:Int
 n:Int
 s:ByteArray
def It.cells (x:It):List PV:=[.sc (.int .i64 x.k),.sc (.int .u64 x.n),.sc (.string x.s)]
def Bw (x:It):List Int:=
 if x.k=7 then [wrap .u8 (244+wrap .u8 x.n)] else if x.k=8 then [246] else if x.k=3 then C3 2 x.s.size++I7 x.s else if x.k=4 then C3 3 x.s.size++I7 x.s else C3 (x.k-1) x.n
theorem Zh (n:Int)(k:Nat):(tb n k).length=k:=by simp [tb]
theorem Av0 (n:Int)(k:Nat):Kx (tb n k):=by
 intro x hx;obtain ⟨j,_,rfl⟩:=List.mem_map.1 hx;exact VU n j
theorem Ho (mj n:Int):1<=(C3 mj n).length∧(C3 mj n).length<=9:=by
 unfold C3
 repeat' split
 all_goals simp [Zh]
theorem UU {mj n:Int}(h0:0<=mj)(h1:mj<=6)(hn:0<=n):Kx (C3 mj n):=by
 have hc:∀(a:Int) (l:List Int),0<=a∧a<=255->Kx l->Kx (a::l):=by
  intro a l ha hl x hx;rcases List.mem_cons.1 hx with rfl|hx
  ·exact ha
  ·exact hl x hx
 unfold C3
 repeat' split
 ·exact hc _ _ (by omega) (fun _ h=>by simp at h)
 all_goals exact hc _ _ (by omega) (Av0 _ _)
theorem Adi {x:It}(h0:1<=x.k)(h1:x.k<=8)(hn:0<=x.n):Kx (Bw x):=by
 have happ:∀(a b:List Int),Kx a->Kx b->Kx (a++b):=by
  intro a b ha hb y hy;rcases List.mem_append.1 hy with h|h
  ·exact ha y h
  ·exact hb y h
 unfold Bw
 repeat' split
 ·intro y hy;simp at hy;subst hy;simp only [wrap,IntKind.signed,IntKind.bits];simp;omega
 ·intro y hy;simp at hy;omega
 ·exact happ _ _ (UU (by omega) (by omega) (by omega)) (ZP _)
 ·exact happ _ _ (UU (by omega) (by omega) (by omega)) (ZP _)
 ·exact UU (by omega) (by omega) hn
theorem Ha (x:It):(Bw x).length<=9+x.s.size:=by
 unfold Bw;have h2:=Ho 2 x.s.size;have h3:=Ho 3 x.s.size;have h4:=Ho (x.k-1) x.n;have hs:=Qn x.s
 repeat' split
 all_goals try simp only [Kt,Ja,AV]
 all_goals omega
section
variable {fu d:Nat}
theorem QP {call:Ah}{a0n:Nat}{a0:List PV}{a1 a2 n:Int}:∀(k nn:Nat)(l:List Int),k<=8->k<nn->l.length+k<=1000000 ->
  Dy fu call a0n a0 a1 a2 nn l.length n ((k:Int)-1) (Af .u8 l)=some ⟨[.own 1 (l++tb n k).length (Af .u8 (l++tb n k))],[]⟩
 |_,0,_,_,h,_=>by omega
 |0,nn+1,l,hk,hn,hl=>by
  have L:=Am .u8 l;rw [Nd,Dj _ _ _ (by omega)]
  simp (disch:=omega) only [Bx,B8,J6,L];simp [tb]
 |k+1,nn+1,l,hk,hn,hl=>by
  have ih:=QP (call:=call) (a0n:=a0n) (a0:=a0) (a1:=a1) (a2:=a2) (n:=n) k nn (l++[Da n (8-(k+1))]) (by omega) (by omega) (by simp;omega)
  have L:=Am .u8 l;have w8:wrap .i64 (8*(((k+1:Nat):Int)-1))=8*(k:Int):=by rw [Al (by omega) (by omega)];omega
  have w:wrap .i64 (((k+1:Nat):Int)-1-1)=(k:Int)-1:=by rw [Al (by omega) (by omega)];omega
  have hb:wrap .u8 (D7 .u64 n (8*(k:Int)))=Da n (8-(k+1)):=by
   unfold Da;rw [show 56-8*((8-(k+1):Nat):Int)=8*(k:Int) by omega]
  have et:tb n (k+1)=Da n (8-(k+1))::tb n k:=by
   unfold tb;rw [List.range'_succ,Zzw,show 8-(k+1)+1=8-k by omega]
  have ea:l++tb n (k+1)=l++[Da n (8-(k+1))]++tb n k:=by rw [et];simp
  rw [ea,←ih,Nd];simp (disch:=omega) only [Bx,w8,hb,w,B8,J6,L,Fv,Kt,Ja,AV,Br]
theorem Auh {mj:Int}(h0:0<=mj)(h1:mj<=7):Hc .u8 mj 5=32*mj:=by
 have:mj=0∨mj=1∨mj=2∨mj=3∨mj=4∨mj=5∨mj=6∨mj=7:=by omega
 rcases this with rfl|rfl|rfl|rfl|rfl|rfl|rfl|rfl<;>decide
theorem Ado (hfu:1000<=fu){l:List Int}(hl:l.length<=900000){mj n:Int}(h0:0<=mj)(h1:mj<=5)(hn:0<=n):Ae C0 Tryz.prog fu (d+1) Kw [.own 1 l.length (Af .u8 l),.sc (.int .u8 mj),.sc (.int .u64 n)]=some ⟨[.own 1 (l++C3 mj n).length (Af .u8 (l++C3 mj n))],[]⟩:=by
 rw [EB];have s5:=Auh h0 (by omega)
 have L:=Am .u8 l;have w24:wrap .u8 (32*mj+24)=32*mj+24:=F2 (by omega) (by omega)
 have w25:wrap .u8 (32*mj+25)=32*mj+25:=F2 (by omega) (by omega)
 have w26:wrap .u8 (32*mj+26)=32*mj+26:=F2 (by omega) (by omega)
 have w27:wrap .u8 (32*mj+27)=32*mj+27:=F2 (by omega) (by omega)
 have lp:=fun (k:Nat) (hk:k<=8) (b:Int)=>QP (fu:=fu) (call:=Ae C0 Tryz.prog fu d) (a0n:=l.length) (a0:=Af .u8 l) (a1:=mj) (a2:=n) (n:=n) k fu (l++[b]) hk (by omega) (by simp;omega)
 have ec:∀(b:Int) (t:List Int),l++b::t=l++[b]++t:=by intro b t;simp
 unfold C3;by_cases c1:n<24
 ·have wn:wrap .u8 n=n:=F2 (by omega) (by omega)
  have ws:wrap .u8 (32*mj+n)=32*mj+n:=F2 (by omega) (by omega)
  have L1:=Am .u8 (l++[32*mj+n]);have t1:=J6 .u8 (l++[32*mj+n]);simp only [Kt,Ja,AV,Br] at L1 t1;rw [Bv c1];simp (disch:=omega) only [Bx,s5,wn,ws,B8,J6,L,Fv,L1,t1,Kt,Ja,AV,Br]
 ·by_cases c2:n<256
  ·have l1:=lp 1 (by omega) (32*mj+24)
   rw [show ((1:Nat):Int)-1=0 by omega] at l1
   rw [A5 c1,Bv c2,ec,←l1];simp (disch:=omega) only [Bx,s5,w24,B8,J6,L,Fv,Kt,Ja,AV,Br]
  ·by_cases c3:n<65536
   ·have l1:=lp 2 (by omega) (32*mj+25)
    rw [show ((2:Nat):Int)-1=1 by omega] at l1
    rw [A5 c1,A5 c2,Bv c3,ec,←l1];simp (disch:=omega) only [Bx,s5,w25,B8,J6,L,Fv,Kt,Ja,AV,Br]
   ·by_cases c4:n<4294967296
    ·have l1:=lp 4 (by omega) (32*mj+26)
     rw [show ((4:Nat):Int)-1=3 by omega] at l1
     rw [A5 c1,A5 c2,A5 c3,Bv c4,ec,←l1];simp (disch:=omega) only [Bx,s5,w26,B8,J6,L,Fv,Kt,Ja,AV,Br]
    ·have l1:=lp 8 (by omega) (32*mj+27)
     rw [show ((8:Nat):Int)-1=7 by omega] at l1
     rw [A5 c1,A5 c2,A5 c3,A5 c4,ec,←l1];simp (disch:=omega) only [Bx,s5,w27,B8,J6,L,Fv,Kt,Ja,AV,Br]
structure It.ok (x:It):Prop where
 k1:1<=x.k
 k8:x.k<=8
 n0:0<=x.n
 s0:x.s.size<=500000
theorem Add (hfu:1000<=fu){l:List Int}(hl:l.length<=300000){x:It}(hx:x.ok):Ae C0 Tryz.prog fu (d+2) Rf [.own 1 l.length (Af .u8 l),.agg x.cells]=some ⟨[.own 1 (l++Bw x).length (Af .u8 (l++Bw x))],[]⟩:=by
 obtain ⟨k,n,s⟩:=x;obtain ⟨k1,k8,n0,s0⟩:=hx;simp only at k1 k8 n0 s0;refine (DQ fu (d+1) l.length (Af .u8 l) k n s).trans ?_;have L:=Am .u8 l;have hsl:=Qn s;unfold Bw;simp only;by_cases c7:k=7
 ·subst c7;have L1:=Am .u8 (l++[wrap .u8 (244+wrap .u8 n)]);have t1:=J6 .u8 (l++[wrap .u8 (244+wrap .u8 n)]);simp only [Kt,Ja,AV,Br] at L1 t1;simp (disch:=omega) only [Bx,Et,if_true,B8,J6,L,Fv,L1,t1,Kt,Ja,AV,Br]
 ·by_cases c8:k=8
  ·subst c8;have L1:=Am .u8 (l++[246]);have t1:=J6 .u8 (l++[246]);simp only [Kt,Ja,AV,Br] at L1 t1;rw [A5 c7,Bv rfl];simp (disch:=omega) only [Bx,Et,c7,if_false,if_true,B8,J6,L,Fv,L1,t1,Kt,Ja,AV,Br]
  ·have dat:∀mj:Int,0<=mj->mj<=5->(Ae C0 Tryz.prog fu (d+1) Kw [.own 1 l.length (Af .u8 l),.sc (.int .u8 mj),.sc (.int .u64 s.size)]=some ⟨[.own 1 (l++C3 mj s.size).length (Af .u8 (l++C3 mj s.size))],[]⟩)∧(l++C3 mj s.size).length<=300009∧List.take (l++C3 mj s.size).length (Af .u8 (l++C3 mj s.size))=Af .u8 (l++C3 mj s.size)∧(Af .u8 (l++C3 mj s.size)).length=(l++C3 mj s.size).length∧Af .u8 (l++C3 mj s.size)++Dv s=Af .u8 (l++(C3 mj s.size++I7 s))∧(l++(C3 mj s.size++I7 s)).length=(l++C3 mj s.size).length+s.size∧(Af .u8 (l++(C3 mj s.size++I7 s))).length=(l++C3 mj s.size).length+s.size:=by
    intro mj h0 h1;have hh:=Ho mj s.size;refine ⟨Ado hfu (by omega) h0 h1 (by omega),by rw [Kt];omega,J6 _ _,Am _ _,?_,?_,?_⟩
    ·rw [Na,←ZJ,Af,Af,Af,List.flatMap_append (xs:=l++C3 mj s.size)]
    ·rw [←ZJ,Kt,hsl]
    ·rw [Am,←ZJ,Kt,hsl]
   have ss:(Dv s).length=s.size:=by rw [Na,Am,hsl]
   have wsz:wrap .u64 (s.size:Int)=s.size:=Cq (by omega) (by omega)
   rw [A5 c7,A5 c8];by_cases c3:k=3
   ·subst c3;obtain ⟨p1,p2,p3,p4,p5,p6,p7⟩:=dat 2 (by omega) (by omega)
    have w1:wrap .i64 ((3:Int)-1)=2:=by decide
    have w2:wrap .u8 (2:Int)=2:=by decide
    have t1:List.take ((l++C3 2 s.size).length+s.size) (Af .u8 (l++(C3 2 s.size++I7 s)))=Af .u8 (l++(C3 2 s.size++I7 s)):=To (by omega)
    rw [Bv rfl];simp (disch:=omega) only [Bx,Et,c7,c8,if_false,if_true,w1,w2,wsz,B8,J6,L,p1];generalize (l++C3 2 s.size).length=N at *
    simp (disch:=omega) only [Bx,B8,p3,p4,p5,p7,t1,ss];rw [p6]
   ·by_cases c4:k=4
    ·subst c4;obtain ⟨p1,p2,p3,p4,p5,p6,p7⟩:=dat 3 (by omega) (by omega)
     have w1:wrap .i64 ((4:Int)-1)=3:=by decide
     have w2:wrap .u8 (3:Int)=3:=by decide
     have t1:List.take ((l++C3 3 s.size).length+s.size) (Af .u8 (l++(C3 3 s.size++I7 s)))=Af .u8 (l++(C3 3 s.size++I7 s)):=To (by omega)
     rw [A5 c3,Bv rfl];simp (disch:=omega) only [Bx,Et,c7,c8,c3,if_false,if_true,w1,w2,wsz,B8,J6,L,p1];generalize (l++C3 3 s.size).length=N at *
     simp (disch:=omega) only [Bx,B8,p3,p4,p5,p7,t1,ss];rw [p6]
    ·have w1:wrap .i64 (k-1)=k-1:=Al (by omega) (by omega)
     have w2:wrap .u8 (k-1)=k-1:=F2 (by omega) (by omega)
     have p1:=Ado (fu:=fu) (d:=d) hfu (l:=l) (by omega) (mj:=k-1) (n:=n) (by omega) (by omega) n0
     have L2:=Am .u8 (l++C3 (k-1) n);have t2:=J6 .u8 (l++C3 (k-1) n);rw [A5 c3,A5 c4];simp (disch:=omega) only [Bx,Et,c7,c8,c3,c4,if_false,w1,w2,B8,J6,L,p1,L2,t2]
end
end
section
open Go.IntKind (wrap)
set_option maxRecDepth 100000
abbrev Lo:FuncId:=48
theorem Vg (fu d:Nat)(a0 a1 a2:Int):Ae C0 Tryz.prog fu (d+1) Lo [.sc (.int .i64 a0),.sc (.int .i64 a1),.sc (.int .i64 a2)]=(fun (call:Ah)=>A9 (decide (a0>=a1)) (some (A0.mk [.sc (.bool (decide (a0<=a2)))] [])) (some (A0.mk [.sc (.bool false)] []))) (Ae C0 Tryz.prog fu d):=by kernel_rfl
abbrev Mu:FuncId:=59
theorem Ww (fu d:Nat)(a0:Int):Ae C0 Tryz.prog fu (d+1) Mu [.sc (.int .i64 a0)]=(fun (call:Ah)=>Aa (wrap .u64 a0) fun x1=>some (A0.mk [.agg [.sc (.int .i64 5),.sc (.int .u64 x1),.sc (.string (ByteArray.mk #[]))]] [])) (Ae C0 Tryz.prog fu d):=by kernel_rfl
abbrev Oj:FuncId:=60
theorem Yi (fu d:Nat)(a0:ByteArray):Ae C0 Tryz.prog fu (d+1) Oj [.sc (.string a0)]=(fun (call:Ah)=>some (A0.mk [.agg [.sc (.int .i64 4),.sc (.int .u64 0),.sc (.string a0)]] [])) (Ae C0 Tryz.prog fu d):=by kernel_rfl
abbrev Lr:FuncId:=61
theorem Vl (fu d:Nat)(a0:Int):Ae C0 Tryz.prog fu (d+1) Lr [.sc (.int .u64 a0)]=(fun (call:Ah)=>some (A0.mk [.agg [.sc (.int .i64 1),.sc (.int .u64 a0),.sc (.string (ByteArray.mk #[]))]] [])) (Ae C0 Tryz.prog fu d):=by kernel_rfl
abbrev Oh:FuncId:=62
theorem X5 (fu d a0n:Nat)(a0:List PV):Ae C0 Tryz.prog fu (d+1) Oh [.lst false 1 a0n a0]=(fun (call:Ah)=>Au (decide (a0.length=a0n))<|E5 (bytesOf a0) fun x1=>some (A0.mk [.agg [.sc (.int .i64 3),.sc (.int .u64 0),.sc (.string (ByteArray.mk (List.toArray x1)))]] [])) (Ae C0 Tryz.prog fu d):=by kernel_rfl
abbrev Ku:FuncId:=63
theorem Ue (fu d:Nat)(a0:Bool):Ae C0 Tryz.prog fu (d+1) Ku [.sc (.bool a0)]=(fun (call:Ah)=>A9 (a0) (some (A0.mk [.agg [.sc (.int .i64 7),.sc (.int .u64 1),.sc (.string (ByteArray.mk #[]))]] [])) (some (A0.mk [.agg [.sc (.int .i64 7),.sc (.int .u64 0),.sc (.string (ByteArray.mk #[]))]] []))) (Ae C0 Tryz.prog fu d):=by kernel_rfl
abbrev Nh:FuncId:=58
noncomputable def F4 (fu:Nat)(call:Ah)(a0n:Nat)(a0:List PV)(nn y0:Nat)(y1:List PV)(y2:Nat)(y3:Int)(y4:List PV):Option A0:=Co CB Tryz.prog fu call 58 Tryz.f58 (Bm Tryz.f58) [.lst false 3 a0n a0] [.r,.r,.l,.r,.l] nn ⟨lk [(0,(.lst false 3 y0 y1)),(3,(.view 3 1 0 y2)),(4,(.sc (.int .i64 y3)))],B7 [(3,(.ar false y4))]⟩
theorem J2 (fu:Nat)(call:Ah)(a0n:Nat)(a0:List PV)(nn y0:Nat)(y1:List PV)(y2:Nat)(y3:Int)(y4:List PV):F4 fu call a0n a0 (nn+1) y0 y1 y2 y3 y4=(A9 (decide (y3<(↑y0:Int))) (Au (decide (0<=y3)&&decide (y3<(↑y0:Int)))<|Ad .i64 (List.getD y1 (Int.toNat y3*3) .top) fun x1=>Ad .u64 (List.getD y1 (Int.toNat y3*3+1) .top) fun x2=>Cj (List.getD y1 (Int.toNat y3*3+1+1) .top) fun x3=>Ag (call 94 [.agg [.sc (.int .i64 x1),.sc (.int .u64 x2),.sc (.string x3)]]) fun x4 x5=>Ac x5<|Ab x4 fun x6 x7=>Cj x6 fun x8=>Ac x7<|Au (decide (y2*1<=y4.length)&&decide (List.length (Dv x8)=ByteArray.size x8*1)&&decide ((y2+ByteArray.size x8)*1<=1099511627776)&&decide (y2+ByteArray.size x8<=1099511627776))<|Aa (y2+ByteArray.size x8) fun x9=>Aa (List.take (y2*1) y4++Dv x8) fun Cl=>Aa (wrap .i64 (y3+1)) fun Cw=>F4 fu call a0n a0 (nn) (y0) (y1) x9 Cw Cl) (Au (decide (y2*1<=y4.length))<|some (A0.mk [.own 1 y2 (List.take (y2*1) y4)] []))):=by kernel_rfl
theorem V3 (fu d a0n:Nat)(a0:List PV):Ae C0 Tryz.prog fu (d+1) Nh [.lst false 3 a0n a0]=(fun (call:Ah)=>F4 fu call a0n a0 (fu) (a0n) (a0) 0 0 ([])) (Ae C0 Tryz.prog fu d):=by kernel_rfl
abbrev Om:FuncId:=32
theorem Yf (fu d:Nat)(a0_0 a0_1:ByteArray)(a0_2 a0_3:Int)(a0_4 a0_5 a0_6:Int)(a0_7:Bool)(a0_8 a0_9 a0_10:Int)(a0_11n:Nat)(a0_11:List PV)(a0_12n:Nat)(a0_12:List PV):Ae C0 Tryz.prog fu (d+1) Om [.agg [.sc (.string a0_0),.sc (.string a0_1),.sc (.int .u64 a0_2),.sc (.int .i64 a0_3),.sc (.int .u64 a0_4),.sc (.int .i64 a0_5),.sc (.int .i64 a0_6),.sc (.bool a0_7),.sc (.int .i64 a0_8),.sc (.int .u64 a0_9),.sc (.int .i64 a0_10),.lst false 1 a0_11n a0_11,.lst false 1 a0_12n a0_12]]=(fun (call:Ah)=>Ag (call 48 [.sc (.int .i64 (↑(ByteArray.size a0_0):Int)),.sc (.int .i64 1),.sc (.int .i64 32)]) fun x1 x2=>Ac x2<|Ab x1 fun x3 x4=>Bj x3 fun x5=>Ac x4<|A9 (!x5) (some (A0.mk [.own 1 0 [],.sc (.int .i64 9)] [])) (Ag (call 48 [.sc (.int .i64 (↑(ByteArray.size a0_1):Int)),.sc (.int .i64 1),.sc (.int .i64 32)]) fun x6 x7=>Ac x7<|Ab x6 fun x8 x9=>Bj x8 fun Cl=>Ac x9<|A9 (!Cl) (some (A0.mk [.own 1 0 [],.sc (.int .i64 9)] [])) (Ag (call 56 [.sc (.string a0_0)]) fun Cw Dl=>Ac Dl<|Ab Cw fun Dr Dk=>Bj Dr fun D9=>Ac Dk<|A9 (!D9) (some (A0.mk [.own 1 0 [],.sc (.int .i64 6)] [])) (Ag (call 56 [.sc (.string a0_1)]) fun Ea En=>Ac En<|Ab Ea fun E2 Fg=>Bj E2 fun Fp=>Ac Fg<|A9 (!Fp) (some (A0.mk [.own 1 0 [],.sc (.int .i64 6)] [])) (Ag (call 57 [.agg [.sc (.int .i64 a0_3),.sc (.int .u64 a0_4)]]) fun Hp Hb=>Ac Hb<|Ab Hp fun Hq Dz=>Es 1 Hq fun Dq F5=>Ab Dz fun H3 E1=>Ad .i64 H3 fun Jk=>Ac E1<|A9 (Jk != 0) (some (A0.mk [.own 1 0 [],.sc (.int .i64 Jk)] [])) (A9 (decide (a0_5<0)) (some (A0.mk [.own 1 0 [],.sc (.int .i64 9)] [])) (A9 (decide (a0_6<a0_5)) (some (A0.mk [.own 1 0 [],.sc (.int .i64 9)] [])) (A9 (decide (a0_6>1099511627776)) (some (A0.mk [.own 1 0 [],.sc (.int .i64 9)] [])) (Ag (call 48 [.sc (.int .i64 a0_8),.sc (.int .i64 0),.sc (.int .i64 2)]) fun L8 Jt=>Ac Jt<|Ab L8 fun Mr Mb=>Bj Mr fun Np=>Ac Mb<|A9 (!Np) (some (A0.mk [.own 1 0 [],.sc (.int .i64 9)] [])) (A9 (a0_8 != 0) (A9 (!a0_7) (some (A0.mk [.own 1 0 [],.sc (.int .i64 4)] [])) (Ag (call 59 [.sc (.int .i64 9)]) fun Qp Pt=>Ac Pt<|Ab Qp fun R5 Hh=>C4 R5 fun J8=>Ab J8 fun Va Y9=>Ad .i64 Va fun Qq=>Ab Y9 fun Nw Uh=>Ad .u64 Nw fun Sd=>Ab Uh fun Tp Xd=>Cj Tp fun Yb=>Ac Xd<|Ac Hh<|Ag (call 60 [.sc (.string a0_0)]) fun Sn Vz=>Ac Vz<|Ab Sn fun Yj Xv=>C4 Yj fun Pc=>Ab Pc fun X8 DW=>Ad .i64 X8 fun BE=>Ab DW fun Za U0=>Ad .u64 Za fun X4=>Ab U0 fun BC Y2=>Cj BC fun Ze=>Ac Y2<|Ac Xv<|Ag (call 60 [.sc (.string a0_1)]) fun BB Y8=>Ac Y8<|Ab BB fun Zd Xc=>C4 Zd fun Xm=>Ab Xm fun BO Zj=>Ad .i64 BO fun Yv=>Ab Zj fun Y1 AG=>Ad .u64 Y1 fun EH=>Ab AG fun Z3 Yu=>Cj Z3 fun HC=>Ac Yu<|Ac Xc<|Ag (call 61 [.sc (.int .u64 a0_2)]) fun BA EN=>Ac EN<|Ab BA fun IP IX=>C4 IP fun TZ=>Ab TZ fun NQ RW=>Ad .i64 NQ fun NS=>Ab RW fun WY XT=>Ad .u64 WY fun VB=>Ab XT fun SV EG=>Cj SV fun RS=>Ac EG<|Ac IX<|Au (decide (0+Dq*1<=F5.length))<|Ag (call 62 [.lst false 1 Dq (List.take (Dq*1) (List.drop 0 F5))]) fun UE YG=>Ac YG<|Ab UE fun ZE x94=>C4 ZE fun x95=>Ab x95 fun ZZ UZ=>Ad .i64 ZZ fun ZK=>Ab UZ fun ZN Ya=>Ad .u64 ZN fun We=>Ab Ya fun H4 D8=>Cj H4 fun AR=>Ac D8<|Ac x94<|Aa (wrap .u64 a0_5) fun Tg=>Ag (call 61 [.sc (.int .u64 Tg)]) fun Sk Kz=>Ac Kz<|Ab Sk fun AP Z9=>C4 AP fun Zz=>Ab Zz fun AA Iy=>Ad .i64 AA fun Kl=>Ab Iy fun Zs AQ=>Ad .u64 Zs fun AF=>Ab AQ fun FQ Ul=>Cj FQ fun Wy=>Ac Ul<|Ac Z9<|Aa (wrap .u64 a0_6) fun Ye=>Ag (call 61 [.sc (.int .u64 Ye)]) fun X9 Zk=>Ac Zk<|Ab X9 fun DU Tl=>C4 DU fun Rx=>Ab Rx fun Qy Tz=>Ad .i64 Qy fun Vj=>Ab Tz fun BJ AK=>Ad .u64 BJ fun JP=>Ab AK fun FM Zy=>Cj FM fun HZ=>Ac Zy<|Ac Tl<|Ag (call 63 [.sc (.bool a0_7)]) fun LJ LR=>Ac LR<|Ab LJ fun NV KF=>C4 NV fun FB=>Ab FB fun HX JJ=>Ad .i64 HX fun ME=>Ab JJ fun MA GD=>Ad .u64 MA fun IB=>Ab GD fun IH HT=>Cj IH fun LM=>Ac HT<|Ac KF<|Aa (wrap .u64 a0_8) fun UF=>Ag (call 61 [.sc (.int .u64 UF)]) fun WS TG=>Ac TG<|Ab WS fun EM OJ=>C4 EM fun RY=>Ab RY fun Ab6 Ab5=>Ad .i64 Ab6 fun YL=>Ab Ab5 fun RZ VK=>Ad .u64 RZ fun Aaq=>Ab VK fun Aag VT=>Cj Aag fun Aao=>Ac VT<|Ac OJ<|Ag (call 61 [.sc (.int .u64 a0_9)]) fun TH Aax=>Ac Aax<|Ab TH fun Aac TT=>C4 Aac fun WP=>Ab WP fun Abn ZX=>Ad .i64 Abn fun Ab2=>Ab ZX fun Aid Aji=>Ad .u64 Aid fun Akc=>Ab Aji fun Aa1 Aet=>Cj Aa1 fun Ah6=>Ac Aet<|Ac TT<|Ag (call 58 [.lst false 3 10 [.sc (.int .i64 Qq),.sc (.int .u64 Sd),.sc (.string Yb),.sc (.int .i64 BE),.sc (.int .u64 X4),.sc (.string Ze),.sc (.int .i64 Yv),.sc (.int .u64 EH),.sc (.string HC),.sc (.int .i64 NS),.sc (.int .u64 VB),.sc (.string RS),.sc (.int .i64 ZK),.sc (.int .u64 We),.sc (.string AR),.sc (.int .i64 Kl),.sc (.int .u64 AF),.sc (.string Wy),.sc (.int .i64 Vj),.sc (.int .u64 JP),.sc (.string HZ),.sc (.int .i64 ME),.sc (.int .u64 IB),.sc (.string LM),.sc (.int .i64 YL),.sc (.int .u64 Aaq),.sc (.string Aao),.sc (.int .i64 Ab2),.sc (.int .u64 Akc),.sc (.string Ah6)]]) fun Aje Aho=>Ac Aho<|Ab Aje fun Ar8 Ar5=>Es 1 Ar8 fun Ajp Alz=>Ac Ar5<|Au (decide (Ajp*1<=Alz.length))<|some (A0.mk [.own 1 Ajp (List.take (Ajp*1) Alz),.sc (.int .i64 0)] []))) (Ag (call 59 [.sc (.int .i64 9)]) fun Aog Ant=>Ac Ant<|Ab Aog fun Ard Ark=>C4 Ard fun Aoq=>Ab Aoq fun Apr Ap7=>Ad .i64 Apr fun Ar7=>Ab Ap7 fun Asa Aqm=>Ad .u64 Asa fun Arc=>Ab Aqm fun Aq0 Ary=>Cj Aq0 fun Aol=>Ac Ary<|Ac Ark<|Ag (call 60 [.sc (.string a0_0)]) fun Aoc Ao7=>Ac Ao7<|Ab Aoc fun Aqi Asb=>C4 Aqi fun Aq2=>Ab Aq2 fun Ao9 Anr=>Ad .i64 Ao9 fun Arz=>Ab Anr fun Asy Apw=>Ad .u64 Asy fun Arb=>Ab Apw fun Asu Ao8=>Cj Asu fun Att=>Ac Ao8<|Ac Asb<|Ag (call 60 [.sc (.string a0_1)]) fun Aoi Ap5=>Ac Ap5<|Ab Aoi fun Apj An1=>C4 Apj fun Atw=>Ab Atw fun Are Asd=>Ad .i64 Are fun Aqx=>Ab Asd fun Aq5 At7=>Ad .u64 Aq5 fun Aqu=>Ab At7 fun Ar0 Ass=>Cj Ar0 fun Aox=>Ac Ass<|Ac An1<|Ag (call 61 [.sc (.int .u64 a0_2)]) fun Aoe Aq9=>Ac Aq9<|Ab Aoe fun Aq7 Aqg=>C4 Aq7 fun Arg=>Ab Arg fun Ans Aoy=>Ad .i64 Ans fun Aot=>Ab Aoy fun Aro Aub=>Ad .u64 Aro fun Ap0=>Ab Aub fun Aod Auc=>Cj Aod fun An0=>Ac Auc<|Ac Aqg<|Au (decide (0+Dq*1<=F5.length))<|Ag (call 62 [.lst false 1 Dq (List.take (Dq*1) (List.drop 0 F5))]) fun Aoo Apa=>Ac Apa<|Ab Aoo fun Ao6 Ar2=>C4 Ao6 fun Asp=>Ab Asp fun Apb Apf=>Ad .i64 Apb fun Aru=>Ab Apf fun Arv Aqk=>Ad .u64 Arv fun Ats=>Ab Aqk fun Asq Asc=>Cj Asq fun Asl=>Ac Asc<|Ac Ar2<|Aa (wrap .u64 a0_5) fun Aps=>Ag (call 61 [.sc (.int .u64 Aps)]) fun Ao2 Aok=>Ac Aok<|Ab Ao2 fun Aq8 Apm=>C4 Aq8 fun Aql=>Ab Aql fun Aqt Ask=>Ad .i64 Aqt fun Aqd=>Ab Ask fun Art Arn=>Ad .u64 Art fun Ase=>Ab Arn fun Asx Aqo=>Cj Asx fun Apd=>Ac Aqo<|Ac Apm<|Aa (wrap .u64 a0_6) fun Ap6=>Ag (call 61 [.sc (.int .u64 Ap6)]) fun Anp Aor=>Ac Aor<|Ab Anp fun Aon Ap2=>C4 Aon fun Asv=>Ab Asv fun Ao4 Asf=>Ad .i64 Ao4 fun Aoj=>Ab Asf fun Aqb Ar9=>Ad .u64 Aqb fun Aqz=>Ab Ar9 fun Apn Anw=>Cj Apn fun Aoh=>Ac Anw<|Ac Ap2<|Ag (call 63 [.sc (.bool a0_7)]) fun Asm Apv=>Ac Apv<|Ab Asm fun Aqq An7=>C4 Aqq fun Aoa=>Ab Aoa fun Apg Aqp=>Ad .i64 Apg fun Arq=>Ab Aqp fun Aq1 An3=>Ad .u64 Aq1 fun Ast=>Ab An3 fun Ar1 Ato=>Cj Ar1 fun Apk=>Ac Ato<|Ac An7<|Aa (wrap .u64 a0_8) fun Arh=>Ag (call 61 [.sc (.int .u64 Arh)]) fun Asg Asz=>Ac Asz<|Ab Asg fun At5 Api=>C4 At5 fun An6=>Ab An6 fun An2 Apt=>Ad .i64 An2 fun Atq=>Ab Apt fun Arp Arj=>Ad .u64 Arp fun Apq=>Ab Arj fun Aoz Aq4=>Cj Aoz fun An5=>Ac Aq4<|Ac Api<|Ag (call 61 [.sc (.int .u64 a0_9)]) fun Aes Ao3=>Ac Ao3<|Ab Aes fun Asj Aqn=>C4 Asj fun Apy=>Ab Apy fun Atj Aau=>Ad .i64 Atj fun ZT=>Ab Aau fun Anv Ap3=>Ad .u64 Anv fun Ab9=>Ab Ap3 fun App Arr=>Cj App fun Ash=>Ac Arr<|Ac Aqn<|Ag (call 58 [.lst false 3 10 [.sc (.int .i64 Ar7),.sc (.int .u64 Arc),.sc (.string Aol),.sc (.int .i64 Arz),.sc (.int .u64 Arb),.sc (.string Att),.sc (.int .i64 Aqx),.sc (.int .u64 Aqu),.sc (.string Aox),.sc (.int .i64 Aot),.sc (.int .u64 Ap0),.sc (.string An0),.sc (.int .i64 Aru),.sc (.int .u64 Ats),.sc (.string Asl),.sc (.int .i64 Aqd),.sc (.int .u64 Ase),.sc (.string Apd),.sc (.int .i64 Aoj),.sc (.int .u64 Aqz),.sc (.string Aoh),.sc (.int .i64 Arq),.sc (.int .u64 Ast),.sc (.string Apk),.sc (.int .i64 Atq),.sc (.int .u64 Apq),.sc (.string An5),.sc (.int .i64 ZT),.sc (.int .u64 Ab9),.sc (.string Ash)]]) fun Asw Arl=>Ac Arl<|Ab Asw fun Ap1 Aqr=>Es 1 Ap1 fun Aim Al4=>Ac Aqr<|Au (decide (Aim*1<=Al4.length))<|some (A0.mk [.own 1 Aim (List.take (Aim*1) Al4),.sc (.int .i64 0)] [])))))))))))) (Ae C0 Tryz.prog fu d):=by kernel_rfl
abbrev Ot:FuncId:=13
theorem Yn (fu d:Nat)(a0_0 a0_1:ByteArray)(a0_2 a0_3:Int)(a0_4 a0_5 a0_6:Int)(a0_7:Bool)(a0_8 a0_9 a0_10:Int)(a0_11n:Nat)(a0_11:List PV)(a0_12n:Nat)(a0_12:List PV)(a1 a2 a3:Int):Ae C0 Tryz.prog fu (d+1) Ot [.agg [.sc (.string a0_0),.sc (.string a0_1),.sc (.int .u64 a0_2),.sc (.int .i64 a0_3),.sc (.int .u64 a0_4),.sc (.int .i64 a0_5),.sc (.int .i64 a0_6),.sc (.bool a0_7),.sc (.int .i64 a0_8),.sc (.int .u64 a0_9),.sc (.int .i64 a0_10),.lst false 1 a0_11n a0_11,.lst false 1 a0_12n a0_12],.sc (.int .u64 a1),.sc (.int .i64 a2),.sc (.int .i64 a3)]=(fun (call:Ah)=>Ag (call 32 [.agg [.sc (.string a0_0),.sc (.string a0_1),.sc (.int .u64 a0_2),.sc (.int .i64 a0_3),.sc (.int .u64 a0_4),.sc (.int .i64 a0_5),.sc (.int .i64 a0_6),.sc (.bool a0_7),.sc (.int .i64 a0_8),.sc (.int .u64 a0_9),.sc (.int .i64 a0_10),.lst false 1 a0_11n a0_11,.lst false 1 a0_12n a0_12]]) fun x1 x2=>Ac x2<|Ab x1 fun x3 x4=>Es 1 x3 fun x5 x6=>Ab x4 fun x7 x8=>Ad .i64 x7 fun x9=>Ac x8<|A9 (x9 != 0) (some (A0.mk [.agg [.sc (.string (ByteArray.mk #[])),.sc (.string (ByteArray.mk #[])),.sc (.int .u64 0),.sc (.int .i64 0),.sc (.int .u64 0),.sc (.int .i64 0),.sc (.int .i64 0),.sc (.bool false),.sc (.int .i64 0),.sc (.int .u64 0),.sc (.int .i64 0),.lst false 1 0 [],.lst false 1 0 []],.sc (.int .i64 x9)] [])) (Au (decide (0+x5*1<=x6.length))<|Ag (call 34 [.sc (.int .i64 14),.lst false 1 x5 (List.take (x5*1) (List.drop 0 x6))]) fun Cl Cw=>Ac Cw<|Ab Cl fun Dl Dr=>Ad .u64 Dl fun Dk=>Ac Dr<|Ag (call 33 [.sc (.int .u64 a1),.sc (.int .i64 a2),.sc (.int .i64 a3),.sc (.int .u64 Dk)]) fun D9 Ea=>Ac Ea<|Ab D9 fun En E2=>C4 En fun Fg=>Ab Fg fun Fp Hp=>Ad .i64 Fp fun Hb=>Ab Hp fun Hq Dz=>Es 1 Hq fun Dq F5=>Ab Dz fun H3 E1=>Es 1 H3 fun Jk L8=>Ac E1<|Ab E2 fun Jt Mr=>Ad .i64 Jt fun Mb=>Ac Mr<|A9 (Mb != 0) (some (A0.mk [.agg [.sc (.string (ByteArray.mk #[])),.sc (.string (ByteArray.mk #[])),.sc (.int .u64 0),.sc (.int .i64 0),.sc (.int .u64 0),.sc (.int .i64 0),.sc (.int .i64 0),.sc (.bool false),.sc (.int .i64 0),.sc (.int .u64 0),.sc (.int .i64 0),.lst false 1 0 [],.lst false 1 0 []],.sc (.int .i64 Mb)] [])) (Au (decide (0+Dq*1<=F5.length))<|Au (decide (0+Jk*1<=L8.length))<|some (A0.mk [.agg [.sc (.string a0_0),.sc (.string a0_1),.sc (.int .u64 a0_2),.sc (.int .i64 a0_3),.sc (.int .u64 a0_4),.sc (.int .i64 a0_5),.sc (.int .i64 a0_6),.sc (.bool a0_7),.sc (.int .i64 a0_8),.sc (.int .u64 a0_9),.sc (.int .i64 Hb),.lst false 1 Dq (List.take (Dq*1) (List.drop 0 F5)),.lst false 1 Jk (List.take (Jk*1) (List.drop 0 L8))],.sc (.int .i64 0)] [])))) (Ae C0 Tryz.prog fu d):=by kernel_rfl
abbrev L5:FuncId:=21
theorem Vh (fu d:Nat)(a0_0 a0_1:ByteArray)(a0_2 a0_3:Int)(a0_4 a0_5 a0_6:Int)(a0_7:Bool)(a0_8 a0_9 a0_10:Int)(a0_11n:Nat)(a0_11:List PV)(a0_12n:Nat)(a0_12:List PV)(a1_0 a1_1:Int):Ae C0 Tryz.prog fu (d+1) L5 [.agg [.sc (.string a0_0),.sc (.string a0_1),.sc (.int .u64 a0_2),.sc (.int .i64 a0_3),.sc (.int .u64 a0_4),.sc (.int .i64 a0_5),.sc (.int .i64 a0_6),.sc (.bool a0_7),.sc (.int .i64 a0_8),.sc (.int .u64 a0_9),.sc (.int .i64 a0_10),.lst false 1 a0_11n a0_11,.lst false 1 a0_12n a0_12],.agg [.sc (.int .i64 a1_0),.sc (.int .u64 a1_1)]]=(fun (call:Ah)=>Ag (call 32 [.agg [.sc (.string a0_0),.sc (.string a0_1),.sc (.int .u64 a0_2),.sc (.int .i64 a0_3),.sc (.int .u64 a0_4),.sc (.int .i64 a0_5),.sc (.int .i64 a0_6),.sc (.bool a0_7),.sc (.int .i64 a0_8),.sc (.int .u64 a0_9),.sc (.int .i64 a0_10),.lst false 1 a0_11n a0_11,.lst false 1 a0_12n a0_12]]) fun x1 x2=>Ac x2<|Ab x1 fun x3 x4=>Es 1 x3 fun x5 x6=>Ab x4 fun x7 x8=>Ad .i64 x7 fun x9=>Ac x8<|A9 (x9 != 0) (some (A0.mk [.sc (.int .i64 x9)] [])) (Au (decide (0+x5*1<=x6.length))<|Ag (call 34 [.sc (.int .i64 14),.lst false 1 x5 (List.take (x5*1) (List.drop 0 x6))]) fun Cl Cw=>Ac Cw<|Ab Cl fun Dl Dr=>Ad .u64 Dl fun Dk=>Ac Dr<|Ag (call 42 [.agg [.sc (.int .i64 a1_0),.sc (.int .u64 a1_1)],.sc (.int .u64 Dk),.agg [.sc (.int .i64 a0_10),.lst false 1 a0_11n a0_11,.lst false 1 a0_12n a0_12]]) fun D9 Ea=>Ac Ea<|Ab D9 fun En E2=>Ad .i64 En fun Fg=>Ac E2<|some (A0.mk [.sc (.int .i64 Fg)] []))) (Ae C0 Tryz.prog fu d):=by kernel_rfl
abbrev Lt:FuncId:=49
noncomputable def Eb (fu:Nat)(call:Ah)(a0_0 a0_1:ByteArray)(a0_2 a0_3:Int)(a0_4 a0_5 a0_6:Int)(a0_7:Bool)(a0_8 a0_9 a0_10:Int)(a0_11n:Nat)(a0_11:List PV)(a0_12n:Nat)(a0_12:List PV)(a1n:Nat)(a1:List PV)(nn y0:Nat)(y1:List PV)(y2:Int)(y3 y4:ByteArray)(y5 y6:Int)(y7 y8 y9:Int)(y10:Bool)(Gh H2 Jb:Int)(Ks:Nat)(Lj:List PV)(Oy:Nat)(Ob:List PV):Option A0:=Co CB Tryz.prog fu call 49 Tryz.f49 (Bm Tryz.f49) [.agg [.sc (.string a0_0),.sc (.string a0_1),.sc (.int .u64 a0_2),.sc (.int .i64 a0_3),.sc (.int .u64 a0_4),.sc (.int .i64 a0_5),.sc (.int .i64 a0_6),.sc (.bool a0_7),.sc (.int .i64 a0_8),.sc (.int .u64 a0_9),.sc (.int .i64 a0_10),.lst false 1 a0_11n a0_11,.lst false 1 a0_12n a0_12],.lst false 3 a1n a1] [.r,.l,.r,.l] nn ⟨lk [(1,(.lst false 3 y0 y1)),(2,(.ptr 2 0)),(5,(.sc (.int .i64 y2)))],B7 [(2,(.st [(.sc (.string y3)),(.sc (.string y4)),(.sc (.int .u64 y5)),(.sc (.int .i64 y6)),(.sc (.int .u64 y7)),(.sc (.int .i64 y8)),(.sc (.int .i64 y9)),(.sc (.bool y10)),(.sc (.int .i64 Gh)),(.sc (.int .u64 H2)),(.sc (.int .i64 Jb)),(.lst false 1 Ks Lj),(.lst false 1 Oy Ob)]))]⟩
theorem I4 (fu:Nat)(call:Ah)(a0_0 a0_1:ByteArray)(a0_2 a0_3:Int)(a0_4 a0_5 a0_6:Int)(a0_7:Bool)(a0_8 a0_9 a0_10:Int)(a0_11n:Nat)(a0_11:List PV)(a0_12n:Nat)(a0_12:List PV)(a1n:Nat)(a1:List PV)(nn y0:Nat)(y1:List PV)(y2:Int)(y3 y4:ByteArray)(y5 y6:Int)(y7 y8 y9:Int)(y10:Bool)(Gh H2 Jb:Int)(Ks:Nat)(Lj:List PV)(Oy:Nat)(Ob:List PV):Eb fu call a0_0 a0_1 a0_2 a0_3 a0_4 a0_5 a0_6 a0_7 a0_8 a0_9 a0_10 a0_11n a0_11 a0_12n a0_12 a1n a1 (nn+1) y0 y1 y2 y3 y4 y5 y6 y7 y8 y9 y10 Gh H2 Jb Ks Lj Oy Ob=(A9 (decide (y2<(↑y0:Int))) (Au (decide (0<=y2)&&decide (y2<(↑y0:Int)))<|Cj (List.getD y1 (Int.toNat y2*3+0) .top) fun x1=>A9 (Array.toList (ByteArray.data x1)==Array.toList (ByteArray.data y4)) (Au (decide (0<=y2)&&decide (y2<(↑y0:Int)))<|Ad .i64 (List.getD y1 (Int.toNat y2*3+1) .top) fun x2=>Ad .u64 (List.getD y1 (Int.toNat y2*3+1+1) .top) fun x3=>Ag (call 21 [.agg [.sc (.string y3),.sc (.string y4),.sc (.int .u64 y5),.sc (.int .i64 y6),.sc (.int .u64 y7),.sc (.int .i64 y8),.sc (.int .i64 y9),.sc (.bool y10),.sc (.int .i64 Gh),.sc (.int .u64 H2),.sc (.int .i64 Jb),.lst false 1 Ks Lj,.lst false 1 Oy Ob],.agg [.sc (.int .i64 x2),.sc (.int .u64 x3)]]) fun x4 x5=>Ac x5<|Ab x4 fun x6 x7=>Ad .i64 x6 fun x8=>Ac x7<|A9 (x8==0) (some (A0.mk [.sc (.int .i64 y2)] [])) (Aa (wrap .i64 (y2+1)) fun x9=>Eb fu call a0_0 a0_1 a0_2 a0_3 a0_4 a0_5 a0_6 a0_7 a0_8 a0_9 a0_10 a0_11n a0_11 a0_12n a0_12 a1n a1 (nn) (y0) (y1) x9 (y3) (y4) (y5) (y6) (y7) (y8) (y9) (y10) (Gh) (H2) (Jb) (Ks) (Lj) (Oy) (Ob))) (Aa (wrap .i64 (y2+1)) fun Cl=>Eb fu call a0_0 a0_1 a0_2 a0_3 a0_4 a0_5 a0_6 a0_7 a0_8 a0_9 a0_10 a0_11n a0_11 a0_12n a0_12 a1n a1 (nn) (y0) (y1) Cl (y3) (y4) (y5) (y6) (y7) (y8) (y9) (y10) (Gh) (H2) (Jb) (Ks) (Lj) (Oy) (Ob))) (some (A0.mk [.sc (.int .i64 (-1))] []))):=by kernel_rfl
theorem Vm (fu d:Nat)(a0_0 a0_1:ByteArray)(a0_2 a0_3:Int)(a0_4 a0_5 a0_6:Int)(a0_7:Bool)(a0_8 a0_9 a0_10:Int)(a0_11n:Nat)(a0_11:List PV)(a0_12n:Nat)(a0_12:List PV)(a1n:Nat)(a1:List PV):Ae C0 Tryz.prog fu (d+1) Lt [.agg [.sc (.string a0_0),.sc (.string a0_1),.sc (.int .u64 a0_2),.sc (.int .i64 a0_3),.sc (.int .u64 a0_4),.sc (.int .i64 a0_5),.sc (.int .i64 a0_6),.sc (.bool a0_7),.sc (.int .i64 a0_8),.sc (.int .u64 a0_9),.sc (.int .i64 a0_10),.lst false 1 a0_11n a0_11,.lst false 1 a0_12n a0_12],.lst false 3 a1n a1]=(fun (call:Ah)=>Eb fu call a0_0 a0_1 a0_2 a0_3 a0_4 a0_5 a0_6 a0_7 a0_8 a0_9 a0_10 a0_11n a0_11 a0_12n a0_12 a1n a1 (fu) (a1n) (a1) 0 (a0_0) (a0_1) (a0_2) (a0_3) (a0_4) (a0_5) (a0_6) (a0_7) (a0_8) (a0_9) (a0_10) (a0_11n) (a0_11) (a0_12n) (a0_12)) (Ae C0 Tryz.prog fu d):=by kernel_rfl
abbrev On:FuncId:=28
noncomputable def D1 (fu:Nat)(call:Ah)(a0n:Nat)(a0:List PV)(a1n:Nat)(a1:List PV)(a2n:Nat)(a2:List PV)(a3:Int)(nn y0:Nat)(y1:List PV)(y2:Nat)(y3:List PV)(y4:Nat)(y5:List PV)(y6 y7:Int):Option A0:=Co CB Tryz.prog fu call 28 Tryz.f28 (Bm Tryz.f28) [.lst false 13 a0n a0,.lst false 3 a1n a1,.lst false 3 a2n a2,.sc (.int .i64 a3)] [.r,.r,.r,.l,.r,.l] nn ⟨lk [(0,(.lst false 13 y0 y1)),(1,(.lst false 3 y2 y3)),(2,(.lst false 3 y4 y5)),(3,(.sc (.int .i64 y6))),(10,(.sc (.int .i64 y7)))],B7 []⟩
noncomputable def Gg (fu:Nat)(call:Ah)(a0n:Nat)(a0:List PV)(a1n:Nat)(a1:List PV)(a2n:Nat)(a2:List PV)(a3:Int)(m0 nn y0:Nat)(y1:List PV)(y2:Nat)(y3:List PV)(y4:Nat)(y5:List PV)(y6 y7:Int)(y8 y9:ByteArray)(y10 Gh:Int)(H2 Jb Ks:Int)(Lj:Bool)(Oy Ob U6:Int)(Zv:Nat)(Yk:List PV)(U8:Nat)(TU:List PV):Option A0:=Co CB Tryz.prog fu call 28 Tryz.f28 (Bm Tryz.f28) [.lst false 13 a0n a0,.lst false 3 a1n a1,.lst false 3 a2n a2,.sc (.int .i64 a3)] [.r,.r,.r,.l,.r,.l,.i m0,.r,.l,.l,.r,.r] nn ⟨lk [(0,(.lst false 13 y0 y1)),(1,(.lst false 3 y2 y3)),(2,(.lst false 3 y4 y5)),(3,(.sc (.int .i64 y6))),(10,(.sc (.int .i64 y7))),(11,(.ptr 11 0))],B7 [(11,(.st [(.sc (.string y8)),(.sc (.string y9)),(.sc (.int .u64 y10)),(.sc (.int .i64 Gh)),(.sc (.int .u64 H2)),(.sc (.int .i64 Jb)),(.sc (.int .i64 Ks)),(.sc (.bool Lj)),(.sc (.int .i64 Oy)),(.sc (.int .u64 Ob)),(.sc (.int .i64 U6)),(.lst false 1 Zv Yk),(.lst false 1 U8 TU)]))]⟩
noncomputable def Cy (fu:Nat)(call:Ah)(a0n:Nat)(a0:List PV)(a1n:Nat)(a1:List PV)(a2n:Nat)(a2:List PV)(a3:Int)(m0 nn y0:Nat)(y1:List PV)(y2:Nat)(y3:List PV)(y4:Nat)(y5:List PV)(y6 y7 y8:Int)(y9 y10:ByteArray)(Gh H2:Int)(Jb Ks Lj:Int)(Oy:Bool)(Ob U6 Zv:Int)(Yk:Nat)(U8:List PV)(TU:Nat)(y23:List PV):Option A0:=Co CB Tryz.prog fu call 28 Tryz.f28 (Bm Tryz.f28) [.lst false 13 a0n a0,.lst false 3 a1n a1,.lst false 3 a2n a2,.sc (.int .i64 a3)] [.r,.r,.r,.l,.r,.l,.i m0,.r,.l,.l,.r,.r,.r,.l,.r,.l] nn ⟨lk [(0,(.lst false 13 y0 y1)),(1,(.lst false 3 y2 y3)),(2,(.lst false 3 y4 y5)),(3,(.sc (.int .i64 y6))),(10,(.sc (.int .i64 y7))),(11,(.ptr 11 0)),(14,(.sc (.int .i64 y8)))],B7 [(11,(.st [(.sc (.string y9)),(.sc (.string y10)),(.sc (.int .u64 Gh)),(.sc (.int .i64 H2)),(.sc (.int .u64 Jb)),(.sc (.int .i64 Ks)),(.sc (.int .i64 Lj)),(.sc (.bool Oy)),(.sc (.int .i64 Ob)),(.sc (.int .u64 U6)),(.sc (.int .i64 Zv)),(.lst false 1 Yk U8),(.lst false 1 TU y23)]))]⟩
theorem Hk (fu:Nat)(call:Ah)(a0n:Nat)(a0:List PV)(a1n:Nat)(a1:List PV)(a2n:Nat)(a2:List PV)(a3:Int)(nn y0:Nat)(y1:List PV)(y2:Nat)(y3:List PV)(y4:Nat)(y5:List PV)(y6 y7:Int):D1 fu call a0n a0 a1n a1 a2n a2 a3 (nn+1) y0 y1 y2 y3 y4 y5 y6 y7=(A9 (decide (y7<(↑y0:Int))) (Au (decide (0<=y7)&&decide (y7<(↑y0:Int)))<|Cj (List.getD y1 (Int.toNat y7*13) .top) fun Cw=>Cj (List.getD y1 (Int.toNat y7*13+1) .top) fun Dl=>Ad .u64 (List.getD y1 (Int.toNat y7*13+1+1) .top) fun Dr=>Ad .i64 (List.getD y1 (Int.toNat y7*13+1+1+1) .top) fun Dk=>Ad .u64 (List.getD y1 (Int.toNat y7*13+1+1+1+1) .top) fun D9=>Ad .i64 (List.getD y1 (Int.toNat y7*13+1+1+1+1+1) .top) fun Ea=>Ad .i64 (List.getD y1 (Int.toNat y7*13+1+1+1+1+1+1) .top) fun En=>Bj (List.getD y1 (Int.toNat y7*13+1+1+1+1+1+1+1) .top) fun E2=>Ad .i64 (List.getD y1 (Int.toNat y7*13+1+1+1+1+1+1+1+1) .top) fun Fg=>Ad .u64 (List.getD y1 (Int.toNat y7*13+1+1+1+1+1+1+1+1+1) .top) fun Fp=>Ad .i64 (List.getD y1 (Int.toNat y7*13+1+1+1+1+1+1+1+1+1+1) .top) fun Hp=>Fk 1 (List.getD y1 (Int.toNat y7*13+1+1+1+1+1+1+1+1+1+1+1) .top) fun Hb Hq Dz=>Fk 1 (List.getD y1 (Int.toNat y7*13+1+1+1+1+1+1+1+1+1+1+1+1) .top) fun Dq F5 H3=>Ag (call 32 [.agg [.sc (.string Cw),.sc (.string Dl),.sc (.int .u64 Dr),.sc (.int .i64 Dk),.sc (.int .u64 D9),.sc (.int .i64 Ea),.sc (.int .i64 En),.sc (.bool E2),.sc (.int .i64 Fg),.sc (.int .u64 Fp),.sc (.int .i64 Hp),.lst false 1 Hq Dz,.lst false 1 F5 H3]]) fun E1 Jk=>Ac Jk<|Ab E1 fun L8 Jt=>Es 1 L8 fun Mr Mb=>Ab Jt fun Np Qp=>Ad .i64 Np fun Pt=>Ac Qp<|A9 (Pt != 0) (some (A0.mk [.sc (.int .i64 0),.sc (.int .i64 Pt)] [])) (Ag (call 48 [.sc (.int .i64 y6),.sc (.int .i64 Ea),.sc (.int .i64 En)]) fun R5 Hh=>Ac Hh<|Ab R5 fun J8 Va=>Bj J8 fun Y9=>Ac Va<|A9 (!Y9) (some (A0.mk [.sc (.int .i64 0),.sc (.int .i64 38)] [])) (A9 (decide (y7>0)) (A9 (!E2) (some (A0.mk [.sc (.int .i64 0),.sc (.int .i64 38)] [])) (Aa (wrap .i64 (y7-1)) fun Qq=>A9 (decide (Fg<Qq)) (some (A0.mk [.sc (.int .i64 0),.sc (.int .i64 38)] [])) (Gg fu call a0n a0 a1n a1 a2n a2 a3 nn (fu) (y0) (y1) (y2) (y3) (y4) (y5) (y6) (y7) Cw Dl Dr Dk D9 Ea En E2 Fg Fp Hp Hq Dz F5 H3))) (Gg fu call a0n a0 a1n a1 a2n a2 a3 nn (fu) (y0) (y1) (y2) (y3) (y4) (y5) (y6) (y7) Cw Dl Dr Dk D9 Ea En E2 Fg Fp Hp Hq Dz F5 H3)))) (Aa (wrap .i64 ((↑y0:Int)-1)) fun Nw=>Au (decide (0<=Nw)&&decide (Nw<(↑y0:Int)))<|Cj (List.getD y1 (Int.toNat Nw*13) .top) fun Uh=>Cj (List.getD y1 (Int.toNat Nw*13+1) .top) fun Sd=>Ad .u64 (List.getD y1 (Int.toNat Nw*13+1+1) .top) fun Tp=>Ad .i64 (List.getD y1 (Int.toNat Nw*13+1+1+1) .top) fun Xd=>Ad .u64 (List.getD y1 (Int.toNat Nw*13+1+1+1+1) .top) fun Yb=>Ad .i64 (List.getD y1 (Int.toNat Nw*13+1+1+1+1+1) .top) fun Sn=>Ad .i64 (List.getD y1 (Int.toNat Nw*13+1+1+1+1+1+1) .top) fun Vz=>Bj (List.getD y1 (Int.toNat Nw*13+1+1+1+1+1+1+1) .top) fun Yj=>Ad .i64 (List.getD y1 (Int.toNat Nw*13+1+1+1+1+1+1+1+1) .top) fun Xv=>Ad .u64 (List.getD y1 (Int.toNat Nw*13+1+1+1+1+1+1+1+1+1) .top) fun Pc=>Ad .i64 (List.getD y1 (Int.toNat Nw*13+1+1+1+1+1+1+1+1+1+1) .top) fun X8=>Fk 1 (List.getD y1 (Int.toNat Nw*13+1+1+1+1+1+1+1+1+1+1+1) .top) fun DW BE Za=>Fk 1 (List.getD y1 (Int.toNat Nw*13+1+1+1+1+1+1+1+1+1+1+1+1) .top) fun U0 X4 BC=>Ag (call 49 [.agg [.sc (.string Uh),.sc (.string Sd),.sc (.int .u64 Tp),.sc (.int .i64 Xd),.sc (.int .u64 Yb),.sc (.int .i64 Sn),.sc (.int .i64 Vz),.sc (.bool Yj),.sc (.int .i64 Xv),.sc (.int .u64 Pc),.sc (.int .i64 X8),.lst false 1 BE Za,.lst false 1 X4 BC],.lst false 3 y2 y3]) fun Y2 Ze=>Ac Ze<|Ab Y2 fun BB Y8=>Ad .i64 BB fun Zd=>Ac Y8<|A9 (decide (Zd<0)) (some (A0.mk [.sc (.int .i64 0),.sc (.int .i64 38)] [])) (some (A0.mk [.sc (.int .i64 Zd),.sc (.int .i64 0)] [])))):=by kernel_rfl
theorem Ur (fu:Nat)(call:Ah)(a0n:Nat)(a0:List PV)(a1n:Nat)(a1:List PV)(a2n:Nat)(a2:List PV)(a3:Int)(m0 nn:Nat)(hnn:0<nn)(y0:Nat)(y1:List PV)(y2:Nat)(y3:List PV)(y4:Nat)(y5:List PV)(y6 y7:Int)(y8 y9:ByteArray)(y10 Gh:Int)(H2 Jb Ks:Int)(Lj:Bool)(Oy Ob U6:Int)(Zv:Nat)(Yk:List PV)(U8:Nat)(TU:List PV):Gg fu call a0n a0 a1n a1 a2n a2 a3 m0 nn y0 y1 y2 y3 y4 y5 y6 y7 y8 y9 y10 Gh H2 Jb Ks Lj Oy Ob U6 Zv Yk U8 TU=(Cy fu call a0n a0 a1n a1 a2n a2 a3 m0 (fu) (y0) (y1) (y2) (y3) (y4) (y5) (y6) (y7) 0 (y8) (y9) (y10) (Gh) (H2) (Jb) (Ks) (Lj) (Oy) (Ob) (U6) (Zv) (Yk) (U8) (TU)):=by cases nn with|zero=>exact absurd hnn (Nat.lt_irrefl 0)|succ nn=>kernel_rfl
theorem Hj (fu:Nat)(call:Ah)(a0n:Nat)(a0:List PV)(a1n:Nat)(a1:List PV)(a2n:Nat)(a2:List PV)(a3:Int)(m0 nn y0:Nat)(y1:List PV)(y2:Nat)(y3:List PV)(y4:Nat)(y5:List PV)(y6 y7 y8:Int)(y9 y10:ByteArray)(Gh H2:Int)(Jb Ks Lj:Int)(Oy:Bool)(Ob U6 Zv:Int)(Yk:Nat)(U8:List PV)(TU:Nat)(y23:List PV):Cy fu call a0n a0 a1n a1 a2n a2 a3 m0 (nn+1) y0 y1 y2 y3 y4 y5 y6 y7 y8 y9 y10 Gh H2 Jb Ks Lj Oy Ob U6 Zv Yk U8 TU y23=(A9 (decide (y8<(↑y4:Int))) (Au (decide (0<=y8)&&decide (y8<(↑y4:Int)))<|Cj (List.getD y5 (Int.toNat y8*3+0) .top) fun Xc=>A9 (Array.toList (ByteArray.data Xc)==Array.toList (ByteArray.data y10)) (Au (decide (0<=y8)&&decide (y8<(↑y4:Int)))<|Ad .u64 (List.getD y5 (Int.toNat y8*3+1) .top) fun Xm=>A9 (Xm==Gh) (Au (decide (0<=y8)&&decide (y8<(↑y4:Int)))<|Ad .i64 (List.getD y5 (Int.toNat y8*3+2) .top) fun BO=>A9 (decide (BO<=y6)) (some (A0.mk [.sc (.int .i64 0),.sc (.int .i64 39)] [])) (Aa (wrap .i64 (y8+1)) fun Zj=>Cy fu call a0n a0 a1n a1 a2n a2 a3 m0 (nn) (y0) (y1) (y2) (y3) (y4) (y5) (y6) (y7) Zj (y9) (y10) (Gh) (H2) (Jb) (Ks) (Lj) (Oy) (Ob) (U6) (Zv) (Yk) (U8) (TU) (y23))) (Aa (wrap .i64 (y8+1)) fun Yv=>Cy fu call a0n a0 a1n a1 a2n a2 a3 m0 (nn) (y0) (y1) (y2) (y3) (y4) (y5) (y6) (y7) Yv (y9) (y10) (Gh) (H2) (Jb) (Ks) (Lj) (Oy) (Ob) (U6) (Zv) (Yk) (U8) (TU) (y23))) (Aa (wrap .i64 (y8+1)) fun Y1=>Cy fu call a0n a0 a1n a1 a2n a2 a3 m0 (nn) (y0) (y1) (y2) (y3) (y4) (y5) (y6) (y7) Y1 (y9) (y10) (Gh) (H2) (Jb) (Ks) (Lj) (Oy) (Ob) (U6) (Zv) (Yk) (U8) (TU) (y23))) (Aa (wrap .i64 (y7+1)) fun AG=>A9 (decide (AG<(↑y0:Int))) (Aa (wrap .i64 (y7+1)) fun EH=>Au (decide (0<=EH)&&decide (EH<(↑y0:Int)))<|Cj (List.getD y1 (Int.toNat EH*13+0) .top) fun Z3=>A9 (!Array.toList (ByteArray.data y10)==Array.toList (ByteArray.data Z3)) (some (A0.mk [.sc (.int .i64 0),.sc (.int .i64 38)] [])) (Aa (wrap .i64 (y7+1)) fun Yu=>Au (decide (0<=Yu)&&decide (Yu<(↑y0:Int)))<|Ad .i64 (List.getD y1 (Int.toNat Yu*13+3) .top) fun HC=>Ad .u64 (List.getD y1 (Int.toNat Yu*13+3+1) .top) fun BA=>Ag (call 21 [.agg [.sc (.string y9),.sc (.string y10),.sc (.int .u64 Gh),.sc (.int .i64 H2),.sc (.int .u64 Jb),.sc (.int .i64 Ks),.sc (.int .i64 Lj),.sc (.bool Oy),.sc (.int .i64 Ob),.sc (.int .u64 U6),.sc (.int .i64 Zv),.lst false 1 Yk U8,.lst false 1 TU y23],.agg [.sc (.int .i64 HC),.sc (.int .u64 BA)]]) fun EN IP=>Ac IP<|Ab EN fun IX TZ=>Ad .i64 IX fun NQ=>Ac TZ<|A9 (NQ != 0) (some (A0.mk [.sc (.int .i64 0),.sc (.int .i64 NQ)] [])) (Aa (wrap .i64 (y7+1)) fun RW=>D1 fu call a0n a0 a1n a1 a2n a2 a3 (m0) (y0) (y1) (y2) (y3) (y4) (y5) (y6) RW))) (Aa (wrap .i64 (y7+1)) fun NS=>D1 fu call a0n a0 a1n a1 a2n a2 a3 (m0) (y0) (y1) (y2) (y3) (y4) (y5) (y6) NS))):=by kernel_rfl
theorem Xz (fu d a0n:Nat)(a0:List PV)(a1n:Nat)(a1:List PV)(a2n:Nat)(a2:List PV)(a3:Int):Ae C0 Tryz.prog fu (d+1) On [.lst false 13 a0n a0,.lst false 3 a1n a1,.lst false 3 a2n a2,.sc (.int .i64 a3)]=(fun (call:Ah)=>Ag (call 48 [.sc (.int .i64 a3),.sc (.int .i64 0),.sc (.int .i64 1099511627776)]) fun x1 x2=>Ac x2<|Ab x1 fun x3 x4=>Bj x3 fun x5=>Ac x4<|A9 (!x5) (some (A0.mk [.sc (.int .i64 0),.sc (.int .i64 9)] [])) (Ag (call 48 [.sc (.int .i64 (↑a0n:Int)),.sc (.int .i64 1),.sc (.int .i64 3)]) fun x6 x7=>Ac x7<|Ab x6 fun x8 x9=>Bj x8 fun Cl=>Ac x9<|A9 (!Cl) (some (A0.mk [.sc (.int .i64 0),.sc (.int .i64 38)] [])) (D1 fu call a0n a0 a1n a1 a2n a2 a3 (fu) (a0n) (a0) (a1n) (a1) (a2n) (a2) (a3) 0))) (Ae C0 Tryz.prog fu d):=by kernel_rfl
abbrev G7:FuncId:=19
theorem Mk (fu d:Nat)(a0_0 a0_1:ByteArray)(a0_2 a0_3:Int)(a0_4 a0_5 a0_6:Int)(a0_7:Bool)(a0_8 a0_9 a0_10:Int)(a0_11n:Nat)(a0_11:List PV)(a0_12n:Nat)(a0_12:List PV)(a1_0 a1_1:ByteArray)(a1_2 Aij:Int)(Agq Ait Ai8:Int)(Ai0:Bool)(Aj6 Aiv YI:Int)(Ah8:Nat)(XS:List PV)(Ajt:Nat)(WN:List PV):Ae C0 Tryz.prog fu (d+1) G7 [.agg [.sc (.string a0_0),.sc (.string a0_1),.sc (.int .u64 a0_2),.sc (.int .i64 a0_3),.sc (.int .u64 a0_4),.sc (.int .i64 a0_5),.sc (.int .i64 a0_6),.sc (.bool a0_7),.sc (.int .i64 a0_8),.sc (.int .u64 a0_9),.sc (.int .i64 a0_10),.lst false 1 a0_11n a0_11,.lst false 1 a0_12n a0_12],.agg [.sc (.string a1_0),.sc (.string a1_1),.sc (.int .u64 a1_2),.sc (.int .i64 Aij),.sc (.int .u64 Agq),.sc (.int .i64 Ait),.sc (.int .i64 Ai8),.sc (.bool Ai0),.sc (.int .i64 Aj6),.sc (.int .u64 Aiv),.sc (.int .i64 YI),.lst false 1 Ah8 XS,.lst false 1 Ajt WN]]=(fun (call:Ah)=>A9 (Array.toList (ByteArray.data a0_0)==Array.toList (ByteArray.data a1_0)) (A9 (Array.toList (ByteArray.data a0_1)==Array.toList (ByteArray.data a1_1)) (A9 (a0_2==a1_2) (A9 (a0_3==Aij&&(a0_4==Agq&&true)) (A9 (a0_5==Ait) (A9 (a0_6==Ai8) (A9 (a0_7==Ai0) (A9 (a0_8==Aj6) (A9 (a0_9==Aiv) (Ag (call 40 [.agg [.sc (.int .i64 a0_10),.lst false 1 a0_11n a0_11,.lst false 1 a0_12n a0_12],.agg [.sc (.int .i64 YI),.lst false 1 Ah8 XS,.lst false 1 Ajt WN]]) fun x1 x2=>Ac x2<|Ab x1 fun x3 x4=>Bj x3 fun x5=>Ac x4<|some (A0.mk [.sc (.bool x5)] [])) (some (A0.mk [.sc (.bool false)] []))) (some (A0.mk [.sc (.bool false)] []))) (some (A0.mk [.sc (.bool false)] []))) (some (A0.mk [.sc (.bool false)] []))) (some (A0.mk [.sc (.bool false)] []))) (some (A0.mk [.sc (.bool false)] []))) (some (A0.mk [.sc (.bool false)] []))) (some (A0.mk [.sc (.bool false)] []))) (some (A0.mk [.sc (.bool false)] []))) (Ae C0 Tryz.prog fu d):=by kernel_rfl
end
section
open Go.IntKind (wrap)
def Th (x:It):List Int:=
 if x.k=7 then [wrap .u8 (244+wrap .u8 x.n)] else if x.k=8 then [246] else if x.k=3 then C3 2 x.s.size else if x.k=4 then C3 3 x.s.size else C3 (x.k-1) x.n
def It.dat (x:It):Prop:=x.k=3∨x.k=4∨I7 x.s=[]
theorem Ad4 {x:It}(h:x.dat):Bw x=Th x++I7 x.s:=by
 unfold Bw Th;by_cases c7:x.k=7
 ·rcases h with h|h|h
  ·omega
  ·omega
  ·simp [c7,h]
 ·by_cases c8:x.k=8
  ·rcases h with h|h|h
   ·omega
   ·omega
   ·simp [c8,h]
  ·by_cases c3:x.k=3
   ·simp [c3]
   ·by_cases c4:x.k=4
    ·simp [c4]
    ·rcases h with h|h|h
     ·omega
     ·omega
     ·simp [c7,c8,c3,c4,h]
theorem Afs (x:It):(Th x).length<=9:=by
 have h2:=Ho 2 x.s.size;have h3:=Ho 3 x.s.size;have h4:=Ho (x.k-1) x.n;unfold Th
 repeat' split
 all_goals try simp only [Ja,AV]
 all_goals omega
theorem Aia (v:Int):D7 .u64 v 0=v:=by
 show v.fdiv (2 ^ (min (0:Int).toNat IntKind.u64.bits))=v;have:(2:Int) ^ (min (0:Int).toNat IntKind.u64.bits)=1:=by decide
 rw [this,Int.fdiv_one]
theorem tb1 (v:Int):tb v 1=[wrap .u8 v]:=by
 show [wrap .u8 (D7 .u64 v (56-8*((7:Nat):Int)))]=_;rw [show (56:Int)-8*((7:Nat):Int)=0 by omega,Aia]
theorem tb2 (v:Int):tb v 2=[wrap .u8 (D7 .u64 v 8),wrap .u8 v]:=by
 show [wrap .u8 (D7 .u64 v (56-8*((6:Nat):Int))),wrap .u8 (D7 .u64 v (56-8*((7:Nat):Int)))]=_;rw [show (56:Int)-8*((7:Nat):Int)=0 by omega,show (56:Int)-8*((6:Nat):Int)=8 by omega,Aia]
theorem tb4 (v:Int):tb v 4=[wrap .u8 (D7 .u64 v 24),wrap .u8 (D7 .u64 v 16),wrap .u8 (D7 .u64 v 8),wrap .u8 v]:=by
 show [wrap .u8 (D7 .u64 v (56-8*((4:Nat):Int))),wrap .u8 (D7 .u64 v (56-8*((5:Nat):Int))),wrap .u8 (D7 .u64 v (56-8*((6:Nat):Int))),wrap .u8 (D7 .u64 v (56-8*((7:Nat):Int)))]=_;rw [show (56:Int)-8*((7:Nat):Int)=0 by omega,show (56:Int)-8*((6:Nat):Int)=8 by omega,show (56:Int)-8*((5:Nat):Int)=16 by omega,show (56:Int)-8*((4:Nat):Int)=24 by omega,Aia]
theorem tb8 (v:Int):tb v 8=D3 v:=rfl
section
variable {fu d:Nat}
theorem Akg (hfu:1000<=fu){k n:Int}{s:ByteArray}{nn:Nat}(hn:0<nn){mj v:Int}(h0:0<=mj)(h1:mj<=5)(hv:0<=v):
  C8 fu (Ae C0 Tryz.prog fu (d+1)) k n s nn v (32*mj)=some ⟨[.own 1 (C3 mj v).length (Af .u8 (C3 mj v))],[]⟩:=by
 rw [Vk (hnn:=hn)];have w24:wrap .u8 (32*mj+24)=32*mj+24:=F2 (by omega) (by omega)
 have w25:wrap .u8 (32*mj+25)=32*mj+25:=F2 (by omega) (by omega)
 have w26:wrap .u8 (32*mj+26)=32*mj+26:=F2 (by omega) (by omega)
 have w27:wrap .u8 (32*mj+27)=32*mj+27:=F2 (by omega) (by omega)
 unfold C3;by_cases c1:v<24
 ·have wn:wrap .u8 v=v:=F2 (by omega) (by omega)
  have ws:wrap .u8 (32*mj+v)=32*mj+v:=F2 (by omega) (by omega)
  rw [Bv c1];simp (disch:=omega) only [Bx,wn,ws];rfl
 ·by_cases c2:v<256
  ·rw [A5 c1,Bv c2,tb1];simp (disch:=omega) only [Bx,w24];rfl
  ·by_cases c3:v<65536
   ·rw [A5 c1,A5 c2,Bv c3,tb2];simp (disch:=omega) only [Bx,w25];rfl
   ·by_cases c4:v<4294967296
    ·rw [A5 c1,A5 c2,A5 c3,Bv c4,tb4];simp (disch:=omega) only [Bx,w26];rfl
    ·have wd:=Ar3 (fu:=fu) (d:=d) hfu v;have L:=Am .u8 (D3 v);rw [Fa] at L;have t8:List.take 8 (Af .u8 (D3 v))=Af .u8 (D3 v):=To (by omega)
     have eC:[PV.sc (.int .u8 (32*mj+27))]++Af .u8 (D3 v)=Af .u8 ((32*mj+27)::D3 v):=rfl;have L9:(Af .u8 ((32*mj+27)::D3 v)).length=9:=by rw [Am,Ja,Fa]
     have t9:List.take 9 (Af .u8 ((32*mj+27)::D3 v))=Af .u8 ((32*mj+27)::D3 v):=To (by omega)
     rw [A5 c1,A5 c2,A5 c3,A5 c4,tb8,Ja,Fa];simp (disch:=omega) only [Bx,w27,wd,B8,Br,E6,L,t8,eC,Nat.reduceAdd,L9,t9]
theorem Aj2 (hfu:1000<=fu){x:It}(hx:x.ok):Ae C0 Tryz.prog fu (d+2) Pr [.agg x.cells]=some ⟨[.own 1 (Th x).length (Af .u8 (Th x))],[]⟩:=by
 obtain ⟨k,n,s⟩:=x;obtain ⟨k1,k8,n0,s0⟩:=hx;simp only at k1 k8 n0 s0;refine (AM fu (d+1) k n s).trans ?_;have wsz:wrap .u64 (s.size:Int)=s.size:=Cq (by omega) (by omega)
 have J:=fun (mj v:Int) (h0:0<=mj) (h1:mj<=5) (hv:0<=v)=>Akg (fu:=fu) (d:=d) hfu (k:=k) (n:=n) (s:=s) (nn:=fu) (by omega) h0 h1 hv
 have j0:=J 0 n (by omega) (by omega) n0
 have j1:=J 1 n (by omega) (by omega) n0
 have j2:=J 2 s.size (by omega) (by omega) (by omega)
 have j3:=J 3 s.size (by omega) (by omega) (by omega)
 have j4:=J 4 n (by omega) (by omega) n0
 have j5:=J 5 n (by omega) (by omega) n0
 rw [show (32:Int)*0=0 by omega] at j0
 rw [show (32:Int)*1=32 by omega] at j1
 rw [show (32:Int)*2=64 by omega] at j2
 rw [show (32:Int)*3=96 by omega] at j3
 rw [show (32:Int)*4=128 by omega] at j4
 rw [show (32:Int)*5=160 by omega] at j5
 unfold Th;simp only;have:k=1∨k=2∨k=3∨k=4∨k=5∨k=6∨k=7∨k=8:=by omega
 rcases this with rfl|rfl|rfl|rfl|rfl|rfl|rfl|rfl
 ·simp only [Bx,Et,Int.reduceEq,if_true,if_false,Int.reduceSub,j0]
 ·simp only [Bx,Et,Int.reduceEq,if_true,if_false,Int.reduceSub,j1]
 ·simp only [Bx,Et,Int.reduceEq,if_true,if_false,Int.reduceSub,wsz,j2]
 ·simp only [Bx,Et,Int.reduceEq,if_true,if_false,Int.reduceSub,wsz,j3]
 ·simp only [Bx,Et,Int.reduceEq,if_true,if_false,Int.reduceSub,j4]
 ·simp only [Bx,Et,Int.reduceEq,if_true,if_false,Int.reduceSub,j5]
 ·simp only [Bx,Et,Int.reduceEq,if_true,if_false];rfl
 ·simp only [Bx,Et,Int.reduceEq,if_true,if_false];rfl
theorem Afj (hfu:1000<=fu){x:It}(hx:x.ok)(hd:x.dat):Ae C0 Tryz.prog fu (d+3) Oc [.agg x.cells]=some ⟨[.sc (.string (Cd (Bw x)))],[]⟩:=by
 refine (Xw fu (d+2) x.k x.n x.s).trans ?_;have hr:=Aj2 (fu:=fu) (d:=d) hfu hx;have L:=Am .u8 (Th x);have l9:=Afs x;have bo:=He (Th x);have eA:ByteArray.mk (List.map (fun n:Int=>n.toNat.toUInt8) (Th x)).toArray=Cd (Th x):=rfl
 have sz:=Ge (Th x);have s0:=hx.s0;have ap:Cd (Th x)++x.s=Cd (Bw x):=by rw [YU,Ad4 hd]
 simp only [It.cells] at hr;simp (disch:=omega) only [Bx,hr,B8,Br,E6,J6,L,bo,eA,sz,ap]
def Ci (its:List It):List PV:=its.flatMap It.cells
theorem It.cells_len (x:It):x.cells.length=3:=rfl
def Bf (its:List It):List Int:=its.flatMap Bw
theorem HJ {a0n:Nat}{a0:List PV}{its:List It}(hk:∀x∈its,x.ok∧x.dat)(hl:its.length<=1000)(hfu:1000<=fu):∀(r:List It)(i nn:Nat)(b:List Int),its.drop i=r->r.length<nn->b.length+500010*r.length<=1000000000 ->
  F4 fu (Ae C0 Tryz.prog fu (d+3)) a0n a0 nn its.length (Ci its) b.length i (Af .u8 b)=some ⟨[.own 1 (b++Bf r).length (Af .u8 (b++Bf r))],[]⟩
 |_,_,0,_,_,h,_=>by omega
 |[],i,nn+1,b,h,hn,hb=>by
  have:=drop_nil h;have L:=Am .u8 b;rw [J2,Dj _ _ _ (by omega)]
  simp (disch:=omega) only [Bx,B8,J6,L];simp [Bf]
 |x::r,i,nn+1,b,h,hn,hb=>by
  obtain ⟨h1,h2,h3⟩:=B3 h;simp only [Ja] at hn hb;obtain ⟨ok,dt⟩:=hk x (List.mem_of_getElem? h2);have hil:=Ha x;have hs0:=ok.s0;have g0:(Ci its).getD (i*3) .top=.sc (.int .i64 x.k):=Ef It.cells_len h2 (j:=0) (by omega)
  have g1:(Ci its).getD (i*3+1) .top=.sc (.int .u64 x.n):=Ef It.cells_len h2 (j:=1) (by omega)
  have g2:(Ci its).getD (i*3+1+1) .top=.sc (.string x.s):=Ef It.cells_len h2 (j:=2) (by omega)
  have by_:=Afj (fu:=fu) (d:=d) hfu ok dt;simp only [It.cells] at by_;have ih:=HJ (a0n:=a0n) (a0:=a0) hk hl hfu r (i+1) nn (b++Bw x) h3 (by omega) (by rw [Kt];omega)
  have w:wrap .i64 ((i:Int)+1)=((i+1:Nat):Int):=by rw [Al (by omega) (by omega)];omega
  have L:=Am .u8 b;have hB:=Adi ok.k1 ok.k8 ok.n0;have sc:Dv (Cd (Bw x))=Af .u8 (Bw x):=by rw [Na,O1 hB]
  have sz:=Ge (Bw x);have Li:=Am .u8 (Bw x);have ea:Af .u8 b++Af .u8 (Bw x)=Af .u8 (b++Bw x):=by rw [Af,Af,Af,List.flatMap_append]
  have ei:Bf (x::r)=Bw x++Bf r:=rfl;rw [ei,←ZJ,←ih,J2];simp (disch:=omega) only [Bx,Gy,g0,g1,g2,by_,sc,sz,Li,B8,J6,L,ea,w,Kt]
theorem Afg {its:List It}(hk:∀x∈its,x.ok∧x.dat)(hl:its.length<=900)(hfu:1000<=fu):Ae C0 Tryz.prog fu (d+4) Nh [.lst false 3 its.length (Ci its)]=some ⟨[.own 1 (Bf its).length (Af .u8 (Bf its))],[]⟩:=by
 rw [V3];exact HJ (fu:=fu) (d:=d) (a0n:=its.length) (a0:=Ci its) hk (by omega) hfu its 0 fu [] rfl (by omega) (by simp;omega)
end
end
end Go.Proofs.YtdjihiphpgkfmaaGreatDoor.Pv
