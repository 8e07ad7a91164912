/-
  The proof of CertificatePaths, part 4.
-/
import Derived.Test.YtdjihiphpgkfmaaGreatDoorPC
import Derived.Test.YtdjihiphpgkfmaaGreatDoorRows
set_option linter.unusedSimpArgs false
set_option linter.unusedVariables false
namespace Go.Proofs.YtdjihiphpgkfmaaGreatDoor.Pv
section
open Go.IntKind (wrap)
section
variable {fu d:Nat} {xs:FuncId->Option (List PV->Option A0)}
theorem Ah5 {x k:Int}(hk:k=13∨k=16∨k=17∨k=21∨k=32):Ae (CX xs) Tryz.prog fu (d+1) Ok [.sc (.int .u64 x),.sc (.int .i64 k)]=some ⟨[.sc (.int .u64 (rot x k))],[]⟩:=by
 rw [Yn];rcases hk with rfl|rfl|rfl|rfl|rfl<;>kernel_rfl
theorem Ag4 {x k:Int}(hk:k=13∨k=16∨k=17∨k=21∨k=32):Ae (CX xs) Tryz.prog fu (d+1) Pk [.sc (.int .u64 x),.sc (.int .u64 k)]=some ⟨[.sc (.int .u64 (rot x k))],[]⟩:=by
 rw [AH];rcases hk with rfl|rfl|rfl|rfl|rfl<;>kernel_rfl
theorem GL {a0 a1 a2 a3 a4:Int}:∀(k i nn:Nat)(v:W4),k<nn->i+k<=100 ->
  Fm fu (Ae (CX xs) Tryz.prog fu (d+1)) a0 a1 a2 a3 a4 nn ((i+k:Nat):Int) i v.a v.b v.c v.d=some ⟨[],[(Ab4 k v).cells]⟩
 |_,_,0,_,h,_=>by omega
 |0,i,nn+1,v,h,hi=>by
  rw [I7,Dj _ _ _ (by omega)]
  rfl
 |k+1,i,nn+1,v,h,hi=>by
  have ih:=GL (a0:=a0) (a1:=a1) (a2:=a2) (a3:=a3) (a4:=a4) k (i+1) nn (NR v) (by omega) (by omega)
  have w:wrap .i64 ((i:Int)+1)=((i+1:Nat):Int):=by rw [Al (by omega) (by omega)];omega
  have r13:=fun x=>Ah5 (xs:=xs) (fu:=fu) (d:=d) (x:=x) (k:=13) (by simp)
  have r16:=fun x=>Ah5 (xs:=xs) (fu:=fu) (d:=d) (x:=x) (k:=16) (by simp)
  have r17:=fun x=>Ah5 (xs:=xs) (fu:=fu) (d:=d) (x:=x) (k:=17) (by simp)
  have r21:=fun x=>Ah5 (xs:=xs) (fu:=fu) (d:=d) (x:=x) (k:=21) (by simp)
  have r32:=fun x=>Ah5 (xs:=xs) (fu:=fu) (d:=d) (x:=x) (k:=32) (by simp)
  rw [I7];simp (disch:=omega) only [Bz,r13,r16,r17,r21,r32,w];rw [show i+(k+1)=i+1+k by omega]
  exact ih
theorem PM (k:Nat)(hk:k<=4)(hfu:100<=fu)(v:W4):Ae (CX xs) Tryz.prog fu (d+2) Ls [.pbox [.sc (.int .u64 v.a),.sc (.int .u64 v.b),.sc (.int .u64 v.c),.sc (.int .u64 v.d)],.sc (.int .i64 k)]=some ⟨[],[(Ab4 k v).cells]⟩:=by
 rw [Vh];have:=GL (xs:=xs) (fu:=fu) (d:=d) (a0:=v.a) (a1:=v.b) (a2:=v.c) (a3:=v.d) (a4:=k) k 0 fu v (by omega) (by omega)
 rw [Br] at this;exact this
theorem PJ (hfu:100<=fu)(v:W4)(m:Int):Ae (CX xs) Tryz.prog fu (d+3) Lm [.pbox [.sc (.int .u64 v.a),.sc (.int .u64 v.b),.sc (.int .u64 v.c),.sc (.int .u64 v.d)],.sc (.int .u64 m)]=some ⟨[],[(Tn v m).cells]⟩:=by
 rw [Vm];have r2:=PM (xs:=xs) (fu:=fu) (d:=d) 2 (by omega) hfu ⟨v.a,v.b,v.c,D1 .u64 v.d m⟩
 have e2:((2:Nat):Int)=2:=rfl;rw [e2] at r2;unfold Tn;generalize Ab4 2 ⟨v.a,v.b,v.c,D1 .u64 v.d m⟩=R at r2 ⊢;simp only [W4.cells] at r2;simp only [Bz,r2];rfl
theorem Atk {a b:Int}{k:Nat}(hk:k<8)(ha:0<=a)(ha':a<((2 ^ (8*k):Nat):Int)) (hb:0<=b)(hb':b<=255):RD .u64 a (Hc .u64 b (8*(k:Int)))=a+((2 ^ (8*k):Nat):Int)*b:=by
 obtain ⟨n,rfl⟩:=Int.eq_ofNat_of_zero_le hb;have e:(8*(k:Int)).toNat=8*k:=by omega
 have hp:n*2 ^ (8*k)<=255*2 ^ (8*k):=Nat.mul_le_mul_right _ (by omega)
 have h56:2 ^ (8*k)<=2 ^ 56:=Nat.pow_le_pow_right (by omega) (by omega)
 have e56:(2:Nat) ^ 56=72057594037927936:=by decide
 rw [e56] at h56;generalize hP:2 ^ (8*k)=p at *
 have hpos:n*p<=255*p:=hp
 have hs:Hc .u64 (n:Int) (8*(k:Int))=(n:Int)*((2 ^ (8*(k:Int)).toNat:Nat):Int):=Acx (by omega) (by omega) (by omega) (by
  rw [e,hP];have:((n*p:Nat):Int)<=((255*p:Nat):Int):=by omega
  rw [←Int.natCast_mul];omega)
 rw [hs,e,hP]
 have:=(UQ (a:=a) (c:=((n*p:Nat):Int)) (8*k) n ha (by rw [hP];exact ha') (by rw [hP]) (by
  have:((n*p:Nat):Int)<=((255*p:Nat):Int):=by omega
  omega)).1
 rw [←Int.natCast_mul,this,Int.mul_comm ((p:Nat):Int),←Int.natCast_mul]
theorem Atl (k:Nat):((2 ^ (8*k):Nat):Int)=256 ^ k:=by
 rw [Nat.pow_mul];simp
theorem HM {call:Ah}{n:Nat}{c:List PV}{l:List Int}(hb:Kw l)(hl:l.length<=8):∀(r:List Int)(i nn:Nat),l.drop i=r->r.length<nn->i<=l.length ->
  Io fu call n c nn (Sy (l.take i)) l.length (Af .u8 l) l.length i=some ⟨[.sc (.int .u64 (Sy l))],[]⟩
 |_,_,0,_,h,_=>by omega
 |[],i,nn+1,h,hn,hi=>by
  have:=drop_nil h;rw [Pm,Dj _ _ _ (by omega),Tp (by omega)]
 |b::r,i,nn+1,h,hn,hi=>by
  obtain ⟨h1,h2,h3⟩:=B3 h;simp only [Jd] at hn;have ih:=HM (call:=call) (n:=n) (c:=c) hb hl r (i+1) nn h3 (by omega) (by omega)
  have hbb:=hb b (List.mem_of_getElem? h2);have w:wrap .i64 ((i:Int)+1)=((i+1:Nat):Int):=by rw [Al (by omega) (by omega)];omega
  have w8:wrap .i64 (8*(i:Int))=8*(i:Int):=Al (by omega) (by omega)
  have wb:wrap .u64 b=b:=Cq (by omega) (by omega)
  have hbnd:=Uj (l:=l.take i) fun x hx=>hb x (List.mem_of_mem_take hx)
  have htl:(l.take i).length=i:=by rw [List.length_take];omega
  rw [htl] at hbnd
  have hj:RD .u64 (Sy (l.take i)) (Hc .u64 b (8*(i:Int)))=Sy (l.take (i+1)):=by
   rw [Atk (by omega) hbnd.1 (by rw [Atl];exact hbnd.2) hbb.1 hbb.2,List.take_add_one,h2,Zj,htl,Atl]
   simp [Sy]
  rw [Pm];simp (disch:=omega) only [Bz,Gu,B8,Vg h2,w,w8,wb,hj];exact ih
theorem QX {l:List Int}(hb:Kw l)(hl:l.length<=8)(hfu:100<=fu):Ae (CX xs) Tryz.prog fu (d+1) U5 [.lst false 1 l.length (Af .u8 l)]=some ⟨[.sc (.int .u64 (Sy l))],[]⟩:=by
 rw [IK];exact HM hb hl l 0 fu rfl (by omega) (by omega)
theorem Il (k:IntKind)(l:List Int)(i:Nat):List.drop i (Af k l)=Af k (l.drop i):=by
 have:=BJ (CH k) l i
 simpa using this
theorem Pf (k:IntKind)(l:List Int)(i:Nat):List.take i (Af k l)=Af k (l.take i):=by
 have:=DX (CH k) l i
 simpa using this
theorem Kw.drop {l:List Int}(h:Kw l)(i:Nat):Kw (l.drop i):=fun x hx=>h x (List.mem_of_mem_drop hx)
theorem Kw.take {l:List Int}(h:Kw l)(i:Nat):Kw (l.take i):=fun x hx=>h x (List.mem_of_mem_take hx)
theorem Amh {a0 a1:Int}{n:Nat}{c:List PV}{l:List Int}(hb:Kw l)(hl:l.length<=1099511627776)(hfu:100<=fu)(nn:Nat)(v:W4):
  I4 fu (Ae (CX xs) Tryz.prog fu (d+3)) a0 a1 n c (nn+1) l.length (Af .u8 l) ((l.length / 8:Nat):Int) ((l.length / 8:Nat):Int) ((l.length / 8:Nat):Int) v.a v.b v.c v.d=some ⟨[.sc (.int .u64 (Aga (Ad7 (Tn v (Ny l)))))],[]⟩:=by
 have w8:wrap .i64 (8*((l.length / 8:Nat):Int))=((8*(l.length / 8):Nat):Int):=by rw [Al (by omega) (by omega)];omega
 have wl:wrap .u64 (l.length:Int)=l.length:=Cq (by omega) (by omega)
 have hdl:(l.drop (8*(l.length / 8))).length=l.length-8*(l.length / 8):=List.length_drop;have li:=QX (xs:=xs) (fu:=fu) (d:=d+2) (hb.drop (8*(l.length / 8))) (by omega) hfu
 rw [hdl] at li;have tk:List.take (l.length-8*(l.length / 8)) (Af .u8 (l.drop (8*(l.length / 8))))=Af .u8 (l.drop (8*(l.length / 8))):=Tp (by rw [Am,hdl];omega)
 have hbn:=Uj (hb.drop (8*(l.length / 8)));rw [hdl] at hbn
 have hp7:(256:Int) ^ (l.length-8*(l.length / 8))<=256 ^ 7:=by
  have:(256:Nat) ^ (l.length-8*(l.length / 8))<=256 ^ 7:=Nat.pow_le_pow_right (by omega) (by omega)
  have h2:(((256:Nat) ^ (l.length-8*(l.length / 8)):Nat):Int)<=((256 ^ 7:Nat):Int):=by omega
  simpa using h2
 have hlast:RD .u64 (Sy (l.drop (8*(l.length / 8)))) (Hc .u64 (l.length:Int) 56)=Ny l:=by
  have hs:Hc .u64 (l.length:Int) 56=(((l.length % 256)*2 ^ 56:Nat):Int):=by
   show wrap .u64 ((l.length:Int)*2 ^ (min (56:Int).toNat IntKind.u64.bits))=_;have h2:(2:Int) ^ (min (56:Int).toNat IntKind.u64.bits)=72057594037927936:=by decide
   have h3:(2:Nat) ^ 56=72057594037927936:=by decide
   rw [h2,h3];simp only [wrap,IntKind.signed,IntKind.bits];simp;omega
  have h56:(256:Int) ^ 7=((2 ^ 56:Nat):Int):=by decide
  have h3:(2:Nat) ^ 56=72057594037927936:=by decide
  rw [hs,(UQ 56 (l.length % 256) hbn.1 (by omega) rfl (by omega)).1]
  unfold Ny;omega
 have ab:=PJ (xs:=xs) (fu:=fu) (d:=d) hfu v (Ny l);have r4:=PM (xs:=xs) (fu:=fu) (d:=d+1) 4 (by omega) hfu ⟨(Tn v (Ny l)).a,(Tn v (Ny l)).b,D1 .u64 (Tn v (Ny l)).c 255,(Tn v (Ny l)).d⟩
 have e4:((4:Nat):Int)=4:=rfl;rw [e4] at r4;unfold Ad7;generalize Tn v (Ny l)=U at ab r4 ⊢;generalize Ab4 4 ⟨U.a,U.b,D1 .u64 U.c 255,U.d⟩=R at r4 ⊢;simp only [W4.cells] at ab r4;rw [Vd];simp (disch:=omega) only [Bz,Gu,B8,w8,wl,Il,tk,li,hlast,ab,r4];rfl
theorem YY {a0 a1:Int}{n:Nat}{c:List PV}{l:List Int}(hb:Kw l)(hl:l.length<=1099511627776)(hfu:100<=fu):∀(k i nn:Nat)(v:W4),i+k=l.length / 8->k<nn ->
  I4 fu (Ae (CX xs) Tryz.prog fu (d+3)) a0 a1 n c nn l.length (Af .u8 l) ((l.length / 8:Nat):Int) ((l.length / 8:Nat):Int) i v.a v.b v.c v.d=some ⟨[.sc (.int .u64 (Aga (Ad7 (Tn (OA k v (l.drop (8*i))) (Ny l)))))],[]⟩
 |_,_,0,_,_,h=>by omega
 |0,i,nn+1,v,hi,hn=>by
  have e:i=l.length / 8:=by omega
  subst e;exact Amh hb hl hfu nn v
 |k+1,i,nn+1,v,hi,hn=>by
  have w:wrap .i64 ((i:Int)+1)=((i+1:Nat):Int):=by rw [Al (by omega) (by omega)];omega
  have w8:wrap .i64 (8*(i:Int))=((8*i:Nat):Int):=by rw [Al (by omega) (by omega)];omega
  have w88:wrap .i64 (((8*i:Nat):Int)+8)=((8*i+8:Nat):Int):=by rw [Al (by omega) (by omega)];omega
  have hdl:((l.drop (8*i)).take 8).length=8:=by rw [List.length_take,List.length_drop];omega
  have li:=QX (xs:=xs) (fu:=fu) (d:=d+2) ((hb.drop (8*i)).take 8) (by omega) hfu
  rw [hdl] at li;have e8:8*i+8-8*i=8:=by omega
  have ab:=PJ (xs:=xs) (fu:=fu) (d:=d) hfu v (Sy ((l.drop (8*i)).take 8));have ih:=YY (a0:=a0) (a1:=a1) (n:=n) (c:=c) hb hl hfu k (i+1) nn (Tn v (Sy ((l.drop (8*i)).take 8))) (by omega) (by omega)
  have eN:OA (k+1) v (l.drop (8*i))=OA k (Tn v (Sy ((l.drop (8*i)).take 8))) (l.drop (8*(i+1))):=by
   rw [OA,List.drop_drop,show 8*i+8=8*(i+1) by omega]
  rw [eN];generalize Tn v (Sy ((l.drop (8*i)).take 8))=U at ab ih ⊢;simp only [W4.cells] at ab;rw [Vd];simp (disch:=omega) only [Bz,Gu,B8,w,w8,w88,e8,Il,Pf,li,ab];exact ih
theorem Aj0 {l:List Int}(hb:Kw l)(hl:l.length<=1099511627776)(hfu:100<=fu)(hf:l.length<fu)(k0 k1:Int):Ae (CX xs) Tryz.prog fu (d+4) BH [.sc (.int .u64 k0),.sc (.int .u64 k1),.lst false 1 l.length (Af .u8 l)]=some ⟨[.sc (.int .u64 (Amd k0 k1 l))],[]⟩:=by
 rw [SJ]
 have w:wrap .i64 (Int.tdiv (l.length:Int) 8)=((l.length / 8:Nat):Int):=by
  rw [Int.tdiv_eq_ediv_of_nonneg (by omega),Al (by omega) (by omega)]
  omega
 have lp:=YY (xs:=xs) (fu:=fu) (d:=d) (a0:=k0) (a1:=k1) (n:=l.length) (c:=Af .u8 l) hb hl hfu (l.length / 8) 0 fu (Ap9 k0 k1) (by omega) (by omega)
 simp only [Hl,w];exact lp
theorem Ade {l:List Int}(hb:Kw l)(hl:l.length<=1099511627776)(hfu:100<=fu)(hf:l.length<fu)(dom:Int):Ae (CX xs) Tryz.prog fu (d+5) R0 [.sc (.int .i64 dom),.lst false 1 l.length (Af .u8 l)]=some ⟨[.sc (.int .u64 (Nb dom l))],[]⟩:=by
 rw [OT];have s:=Aj0 (xs:=xs) (fu:=fu) (d:=d) hb hl hfu hf (wrap .u64 dom) 0;simp only [Bz,s];rfl
theorem Pg (v:W4):Ae (CX xs) Tryz.prog fu (d+2) Nz [.agg [.sc (.int .u64 v.a),.sc (.int .u64 v.b),.sc (.int .u64 v.c),.sc (.int .u64 v.d)]]=some ⟨[.agg (NR v).cells],[]⟩:=by
 have r13:=fun x=>Ag4 (xs:=xs) (fu:=fu) (d:=d) (x:=x) (k:=13) (by simp)
 have r16:=fun x=>Ag4 (xs:=xs) (fu:=fu) (d:=d) (x:=x) (k:=16) (by simp)
 have r17:=fun x=>Ag4 (xs:=xs) (fu:=fu) (d:=d) (x:=x) (k:=17) (by simp)
 have r21:=fun x=>Ag4 (xs:=xs) (fu:=fu) (d:=d) (x:=x) (k:=21) (by simp)
 have r32:=fun x=>Ag4 (xs:=xs) (fu:=fu) (d:=d) (x:=x) (k:=32) (by simp)
 rw [Xx];simp (disch:=omega) only [Bz,r13,r16,r17,r21,r32];rfl
def Vk (l:List Int)(i k:Nat):Int:=if i+k<l.length then l.getD (i+k) 0 else if k=7 then (l.length:Int) % 256 else 0
def pc (l:List Int)(i:Nat):List Int:=(List.range 8).map (Vk l i)
theorem Av4 {l:List Int}(hb:Kw l)(i:Nat):Kw (pc l i):=by
 intro x hx;obtain ⟨k,hk,rfl⟩:=List.mem_map.1 hx;unfold Vk;split
 ·rename_i h;rw [List.getD_eq_getElem?_getD,List.getElem?_eq_getElem h];exact hb _ (List.getElem_mem h)
 ·split<;>omega
theorem Al6 {l:List Int}{i:Nat}(h:i+8<=l.length):pc l i=(l.drop i).take 8:=by
 refine List.ext_getElem (by simp [pc];omega) fun k h1 h2=>?_
 have hk:k<8:=by simpa [pc] using h1
 simp only [pc,List.getElem_map,List.getElem_range,List.getElem_take,List.getElem_drop,Vk];rw [Bu (by omega),List.getD_eq_getElem?_getD,List.getElem?_eq_getElem (by omega)]
 rfl
theorem QY (x:Int):∀n,Sy (List.replicate n 0++[x])=256 ^ n*x
 |0=>by simp [Sy]
 |n+1=>by
  rw [List.replicate_succ,List.cons_append,Sy,QY x n,Int.pow_succ,Int.mul_comm (256 ^ n) 256,Int.mul_assoc];omega
theorem Ak1 {l:List Int}:Sy (pc l (8*(l.length / 8)))=Ny l:=by
 have e:pc l (8*(l.length / 8))=l.drop (8*(l.length / 8))++(List.replicate (7-(l.length-8*(l.length / 8))) 0++[(l.length:Int) % 256]):=by
  refine List.ext_getElem (by simp [pc];omega) fun k h1 h2=>?_
  have hk:k<8:=by simpa [pc] using h1
  simp only [pc,List.getElem_map,List.getElem_range,Vk];by_cases hc:8*(l.length / 8)+k<l.length
  ·rw [Bu hc,List.getElem_append_left (by rw [List.length_drop];omega),List.getElem_drop,List.getD_eq_getElem?_getD,List.getElem?_eq_getElem hc]
   rfl
  ·rw [A5 hc,List.getElem_append_right (by rw [List.length_drop];omega)]
   by_cases h7:k=7
   ·rw [Bu h7,List.getElem_append_right (by simp;omega)]
    simp
   ·rw [A5 h7,List.getElem_append_left (by simp;omega)]
    simp
 rw [e,Zj,QY];unfold Ny
 have:(256:Int) ^ (l.drop (8*(l.length / 8))).length*(256 ^ (7-(l.length-8*(l.length / 8)))*((l.length:Int) % 256))=72057594037927936*((l.length:Int) % 256):=by
  rw [←Int.mul_assoc,←Int.pow_add,List.length_drop];have:l.length-8*(l.length / 8)+(7-(l.length-8*(l.length / 8)))=7:=by omega
  rw [this];rfl
 rw [this]
theorem Atm {a b:Int}(ha:0<=a)(ha':a<72057594037927936)(hb:0<=b)(hb':b<=255):RD .u64 (Hc .u64 a 8) b=b+256*a:=by
 obtain ⟨n,rfl⟩:=Int.eq_ofNat_of_zero_le ha
 have hs:Hc .u64 (n:Int) 8=((n*2 ^ 8:Nat):Int):=by
  have:=Acx (a:=(n:Int)) (k:=8) (by omega) (by omega) (by omega) (by
   have:(2 ^ (8:Int).toNat:Nat)=256:=by decide
   rw [this];omega)
  rw [this];have:(2 ^ (8:Int).toNat:Nat)=256:=by decide
  rw [this];have:(2 ^ 8:Nat)=256:=by decide
  rw [this];omega
 have h8:(2 ^ 8:Nat)=256:=by decide
 rw [hs,(UQ (a:=b) 8 n hb (by rw [h8];omega) rfl (by rw [h8];omega)).2,h8]
 omega
theorem Ac8 {a0 a1:Int}{n m0:Nat}{c:List PV}{l:List Int}(hb:Kw l)(hl:l.length<=1099511627776){i:Nat}(hi:i<=l.length)(v:W4):∀(j nn:Nat),j<=8->j<nn ->
  Er fu (Ae (CX xs) Tryz.prog fu (d+2)) a0 a1 n c m0 nn l.length (Af .u8 l) i (Sy ((pc l i).drop j)) ((j:Int)-1) v.cells =
   Fx fu (Ae (CX xs) Tryz.prog fu (d+2)) a0 a1 n c m0 l.length (Af .u8 l) ((i+8:Nat):Int) (Tn v (Sy (pc l i))).cells
 |_,0,_,h=>by omega
 |0,nn+1,hj,hn=>by
  have w8:wrap .i64 ((i:Int)+8)=((i+8:Nat):Int):=by rw [Al (by omega) (by omega)];omega
  have r1:=Pg (xs:=xs) (fu:=fu) (d:=d) ⟨v.a,v.b,v.c,D1 .u64 v.d (Sy (pc l i))⟩;have r2:=Pg (xs:=xs) (fu:=fu) (d:=d) (NR ⟨v.a,v.b,v.c,D1 .u64 v.d (Sy (pc l i))⟩);have eA:Tn v (Sy (pc l i))=Atw (NR (NR ⟨v.a,v.b,v.c,D1 .u64 v.d (Sy (pc l i))⟩)) (Sy (pc l i)):=rfl;rw [eA];generalize NR ⟨v.a,v.b,v.c,D1 .u64 v.d (Sy (pc l i))⟩=U at r1 r2 ⊢;generalize NR U=U2 at r2 ⊢;simp only [W4.cells] at r1 r2;rw [Mw,Dj _ _ _ (by omega),E6]
  simp only [W4.cells,List.getD_cons_zero,List.getD_cons_succ,TQ,Hl];simp (disch:=first|omega|(simp;done)) only [Bz,Bd,List.take_succ_cons,List.take_zero,List.drop_succ_cons,E6,List.drop_nil,List.cons_append,Zzq,List.append_nil,Jd,Zw,List.getD_cons_zero,List.getD_cons_succ,r1,r2,w8,Br,Nat.reduceAdd,Nat.reduceLeDiff,List.append_eq]
  rfl
 |j+1,nn+1,hj,hn=>by
  have ih:=Ac8 (a0:=a0) (a1:=a1) (n:=n) (m0:=m0) (c:=c) hb hl hi v j nn (by omega) (by omega)
  have hw:wrap .i64 ((i:Int)+(((j+1:Nat):Int)-1))=((i+j:Nat):Int):=by rw [Al (by omega) (by omega)];omega
  have wj:wrap .i64 (((j+1:Nat):Int)-1-1)=(j:Int)-1:=by rw [Al (by omega) (by omega)];omega
  have hd:(pc l i).drop j=Vk l i j::(pc l i).drop (j+1):=by
   rw [List.drop_eq_getElem_cons (by simp [pc];omega)]
   simp [pc]
  have hB:=Av4 hb i;have hbn:=Uj (hB.drop (j+1))
  have hp7:(256:Int) ^ ((pc l i).drop (j+1)).length<=72057594037927936:=by
   have hlen:((pc l i).drop (j+1)).length<=7:=by simp [pc]
   have:(256:Nat) ^ ((pc l i).drop (j+1)).length<=256 ^ 7:=Nat.pow_le_pow_right (by omega) hlen
   have h2:(((256:Nat) ^ ((pc l i).drop (j+1)).length:Nat):Int)<=((256 ^ 7:Nat):Int):=by omega
   simpa using h2
  have hc0:0<=Vk l i j∧Vk l i j<=255:=hB _ (by rw [←E6 (l:=pc l i)];exact List.mem_of_mem_drop (i:=j) (by rw [E6,hd];simp))
  have hj2:RD .u64 (Hc .u64 (Sy ((pc l i).drop (j+1))) 8) (Vk l i j)=Sy ((pc l i).drop j):=by
   rw [Atm hbn.1 (by omega) hc0.1 hc0.2,hd]
   rfl
  have wc:wrap .u64 (Vk l i j)=Vk l i j:=Cq (by omega) (by omega)
  rw [Mw,LP _ _ _ (by omega)]
  simp only [Hl,hw];by_cases c1:i+j<l.length
  ·have e:Vk l i j=l.getD (i+j) 0:=by unfold Vk;rw [Bu c1]
   have e2:l[i+j]?=some (Vk l i j):=by rw [e,List.getD_eq_getElem?_getD,List.getElem?_eq_getElem c1];rfl
   rw [LP _ _ _ (by omega)]
   simp (disch:=omega) only [Bz,Gu,B8,Vg e2,wc,hj2,wj];exact ih
  ·rw [Dj _ _ _ (by omega)]
   by_cases h7:j=7
   ·subst h7;have e:Vk l i 7=(l.length:Int) % 256:=by unfold Vk;rw [A5 c1,Bu rfl]
    have e8:wrap .u8 (l.length:Int)=Vk l i 7:=by
     rw [e];simp only [wrap,IntKind.signed,IntKind.bits];simp
    rw [Eu,Bu (by omega),e8,wc,hj2,wj]
    exact ih
   ·have e:Vk l i j=0:=by unfold Vk;rw [A5 c1,A5 h7]
    rw [e] at hj2;rw [Eu,A5 (by omega),hj2,wj]
    exact ih
theorem RE {a0 a1:Int}{n:Nat}{c:List PV}{l:List Int}(hb:Kw l)(hl:l.length<=1099511627776)(hfu:100<=fu):∀(k i nn:Nat)(v:W4),i+k=l.length / 8->k+1<nn ->
  Fx fu (Ae (CX xs) Tryz.prog fu (d+2)) a0 a1 n c nn l.length (Af .u8 l) ((8*i:Nat):Int) v.cells=some ⟨[.sc (.int .u64 (Aga (Ad7 (Tn (OA k v (l.drop (8*i))) (Ny l)))))],[]⟩
 |_,_,0,_,_,h=>by omega
 |k,i,nn+1,v,hi,hn=>by
  have step:=Ac8 (xs:=xs) (fu:=fu) (d:=d) (a0:=a0) (a1:=a1) (n:=n) (m0:=nn) (c:=c) hb hl (i:=8*i) (by omega) v 8 fu (by omega) (by omega)
  have e0:Sy ((pc l (8*i)).drop 8)=0:=by rw [List.drop_of_length_le (by simp [pc])];rfl
  rw [e0] at step;rw [M8,LP _ _ _ (by omega)]
  refine step.trans ?_;cases k with
  |zero=>
   have e:i=l.length / 8:=by omega
   subst e;rw [Ak1];generalize hv:Tn v (Ny l)=u;obtain ⟨nn',rfl⟩:∃nn',nn=nn'+1:=⟨nn-1,by omega⟩
   have r1:=Pg (xs:=xs) (fu:=fu) (d:=d) ⟨u.a,u.b,D1 .u64 u.c 255,u.d⟩;have r2:=Pg (xs:=xs) (fu:=fu) (d:=d) (NR ⟨u.a,u.b,D1 .u64 u.c 255,u.d⟩);have r3:=Pg (xs:=xs) (fu:=fu) (d:=d) (NR (NR ⟨u.a,u.b,D1 .u64 u.c 255,u.d⟩));have r4:=Pg (xs:=xs) (fu:=fu) (d:=d) (NR (NR (NR ⟨u.a,u.b,D1 .u64 u.c 255,u.d⟩)))
   have eF:Aga (Ad7 (Tn (OA 0 v (l.drop (8*(l.length / 8)))) (Ny l)))=Aga (NR (NR (NR (NR ⟨u.a,u.b,D1 .u64 u.c 255,u.d⟩)))):=by
    rw [OA,hv];rfl
   rw [eF];clear eF;generalize NR ⟨u.a,u.b,D1 .u64 u.c 255,u.d⟩=U1 at r1 r2 r3 r4 ⊢;generalize NR U1=U2 at r2 r3 r4 ⊢;generalize NR U2=U3 at r3 r4 ⊢;generalize NR U3=U4 at r4 ⊢;simp only [W4.cells] at r1 r2 r3 r4;rw [M8,Dj _ _ _ (by omega)]
   simp only [W4.cells,List.getD_cons_zero,List.getD_cons_succ,TQ,Hl];simp (disch:=first|omega|(simp;done)) only [Bz,Bd,List.take_succ_cons,List.take_zero,List.drop_succ_cons,E6,List.drop_nil,List.cons_append,Zzq,List.append_nil,Jd,Zw,List.getD_cons_zero,List.getD_cons_succ,r1,r2,r3,r4,Br,Nat.reduceAdd,Nat.reduceLeDiff,List.append_eq]
   rfl
  |succ k=>
   have ih:=RE (a0:=a0) (a1:=a1) (n:=n) (c:=c) hb hl hfu k (i+1) nn (Tn v (Sy (pc l (8*i)))) (by omega) (by omega)
   rw [show 8*i+8=8*(i+1) by omega,ih,Al6 (by omega)]
   simp only [OA,List.drop_drop];rw [show 8*(i+1)=8*i+8 by omega]
theorem Adv {l:List Int}(hb:Kw l)(hl:l.length<=1099511627776)(hfu:100<=fu)(hf:l.length<fu)(k0 k1:Int):Ae (CX xs) Tryz.prog fu (d+3) Rh [.sc (.int .u64 k0),.sc (.int .u64 k1),.lst false 1 l.length (Af .u8 l)]=some ⟨[.sc (.int .u64 (Amd k0 k1 l))],[]⟩:=by
 rw [CV];exact RE (xs:=xs) (fu:=fu) (d:=d) (a0:=k0) (a1:=k1) (n:=l.length) (c:=Af .u8 l) hb hl hfu (l.length / 8) 0 fu (Ap9 k0 k1) (by omega) (by omega)
theorem KT {l:List Int}(hb:Kw l)(hl:l.length<=1099511627776)(hfu:100<=fu)(hf:l.length<fu)(dom:Int):Ae (CX xs) Tryz.prog fu (d+4) Jo [.sc (.int .i64 dom),.lst false 1 l.length (Af .u8 l)]=some ⟨[.sc (.int .u64 (Nb dom l))],[]⟩:=by
 rw [AF];have s:=Adv (xs:=xs) (fu:=fu) (d:=d) hb hl hfu hf (wrap .u64 dom) 0;simp only [Bz,s];rfl
theorem Akw {l:List Int}(hb:Kw l)(hl:l.length<=1099511627776)(hfu:100<=fu)(hf:l.length<fu)(key dom:Int):Ae (CX xs) Tryz.prog fu (d+4) Re [.sc (.int .u64 key),.sc (.int .i64 dom),.lst false 1 l.length (Af .u8 l)]=some ⟨[.sc (.int .u64 (Amg key dom l))],[]⟩:=by
 rw [DU];have s:=Adv (xs:=xs) (fu:=fu) (d:=d) hb hl hfu hf key (wrap .u64 (1+wrap .u64 dom));simp only [Bz,s];rfl
end
end
section
open Go.IntKind (wrap)
def Da (w:Int)(k:Nat):Int:=wrap .u8 (D8 .u64 w (56-8*(k:Int)))
def D3 (w:Int):List Int:=(List.range' 0 8).map (Da w)
def A6 (ws:List Int):List Int:=ws.flatMap D3
theorem E9 (w:Int):(D3 w).length=8:=rfl
section
variable {fu d:Nat} {xs:FuncId->Option (List PV->Option A0)} {call:Ah} {n:Nat} {c:List PV}
theorem WU {ws:List Int}{w:Int}{m0 l:Nat}{i k:Int}:∀(r j nn:Nat)(bs:List Int),8-j=r->r<nn->j<=8->bs.length+r<=34359738368 ->
  I9 fu call n c m0 nn bs.length w l (Af .u64 ws) k i j (Af .u8 bs) =
   Hm fu call n c m0 (bs++(List.range' j (8-j)).map (Da w)).length l (Af .u64 ws) k (wrap .i64 (i+1)) (Af .u8 (bs++(List.range' j (8-j)).map (Da w)))
 |r,j,0,bs,_,h,_,_=>by omega
 |0,j,nn+1,bs,hr,_,hj,_=>by
  have e:j=8:=by omega
  subst e;rw [Q8];simp (disch:=omega) only [Bz];simp
 |r+1,j,nn+1,bs,hr,hn,hj,hb=>by
  have ih:=WU (ws:=ws) (w:=w) (m0:=m0) (l:=l) (i:=i) (k:=k) r (j+1) nn (bs++[Da w j]) (by omega) (by omega) (by omega) (by simp;omega)
  have e8:=Am .u8 bs;rw [Q8]
  have hx:wrap .u8 (D8 .u64 w (wrap .i64 (56-wrap .i64 (8*(j:Int)))))=Da w j:=by
   rw [Al (x:=8*(j:Int)) (by omega) (by omega),Al (by omega) (by omega)]
   rfl
  have h0:0<=wrap .i64 (56-wrap .i64 (8*(j:Int))):=by
   rw [Al (x:=8*(j:Int)) (by omega) (by omega),Al (by omega) (by omega)]
   omega
  have hrange:List.range' j (8-j)=j::List.range' (j+1) (8-(j+1)):=by
   rw [show 8-j=(8-(j+1))+1 by omega]
   exact List.range'_succ
  simp (disch:=first|omega|exact h0) only [Bz,B8,hx,J7,F0,Al (x:=(j:Int)+1)];rw [hrange];simp only [Kh,Jd,Zw,Br,ZK,Zzw,List.singleton_append] at ih ⊢;exact ih
theorem JD {ws:List Int}(hl:ws.length<=1073741824)(hfu:100<=fu):∀(r:List Int)(i nn:Nat)(bs:List Int),ws.drop i=r->r.length<nn->bs.length=8*i ->
  Hm fu call n c nn bs.length ws.length (Af .u64 ws) ws.length i (Af .u8 bs)=some ⟨[.own 1 (bs++A6 r).length (Af .u8 (bs++A6 r))],[]⟩
 |r,i,0,_,_,h,_=>by omega
 |[],i,nn+1,bs,h,_,_=>by
  have:=drop_nil h;have e8:=Am .u8 bs;rw [Ro];simp (disch:=omega) only [Bz,B8,J7,A6,List.flatMap_nil,List.append_nil]
 |w::r,i,nn+1,bs,h,hn,hb=>by
  obtain ⟨h1,h2,h3⟩:=B3 h;simp only [Jd] at hn;rw [Ro];simp (disch:=omega) only [Bz,Gu,B8,Vg h2];rw [show (0:Int)=((0:Nat):Int) from rfl,WU 8 0 fu bs rfl (by omega) (by omega) (by omega),Al (by omega) (by omega)]
  have ih:=JD hl hfu r (i+1) nn (bs++D3 w) h3 (by omega) (by simp [E9];omega)
  have e:bs++D3 w++A6 r=bs++A6 (w::r):=by simp [A6]
  rw [e] at ih;exact ih
theorem Pw {ws:List Int}(hl:ws.length<=1073741824)(hfu:100<=fu)(hf:ws.length<fu):Ae (CX xs) Tryz.prog fu (d+1) Ft [.lst false 1 ws.length (Af .u64 ws)]=some ⟨[.own 1 (A6 ws).length (Af .u8 (A6 ws))],[]⟩:=by
 rw [NL];simp (disch:=omega) only [Bz,Al,Int.mul_one];exact JD hl hfu ws 0 fu [] rfl hf rfl
theorem QO {ws:List Int}{w:Int}{m0 i:Nat}(hw:ws[i]?=some w):∀(r nn:Nat)(j:Int)(bs:List Int),j=(r:Int)-1->r<=8->r<nn->bs.length+r<=34359738368 ->
  Gc fu call n c m0 nn ws.length (Af .u64 ws) bs.length i j (Af .u8 bs) =
   Ez fu call n c m0 ws.length (Af .u64 ws) (bs++(List.range' (8-r) r).map (Da w)).length (wrap .i64 (i+1)) (Af .u8 (bs++(List.range' (8-r) r).map (Da w)))
 |r,0,j,bs,_,_,h,_=>by omega
 |0,nn+1,j,bs,hr,_,_,_=>by
  rw [Kn];simp (disch:=omega) only [Bz];simp
 |r+1,nn+1,j,bs,hr,hle,hn,hb=>by
  have hi:=SC hw;have ih:=QO (m0:=m0) hw r nn (j-1) (bs++[Da w (8-(r+1))]) (by omega) (by omega) (by omega) (by simp;omega)
  have e8:=Am .u8 bs
  have hx:wrap .u8 (D8 .u64 w (wrap .u64 (wrap .i64 (8*j))))=Da w (8-(r+1)):=by
   rw [Al (by omega) (by omega),Cq (by omega) (by omega)]
   unfold Da;rw [show 56-8*((8-(r+1):Nat):Int)=8*j by omega]
  have h0:0<=wrap .u64 (wrap .i64 (8*j)):=by
   rw [Al (by omega) (by omega),Cq (by omega) (by omega)]
   omega
  have hrange:List.range' (8-(r+1)) (r+1)=(8-(r+1))::List.range' (8-r) r:=by
   rw [List.range'_succ,show 8-(r+1)+1=8-r by omega]
  rw [Kn];simp (disch:=first|omega|exact h0) only [Bz,Gu,B8,Vg hw,hx,J7,F0,Al (x:=j-1)];rw [hrange];simp only [Kh,Jd,Zw,Br,ZK,Zzw,List.singleton_append] at ih ⊢;exact ih
theorem GE {ws:List Int}(hl:ws.length<=1073741824)(hfu:100<=fu):∀(r:List Int)(i nn:Nat)(bs:List Int),ws.drop i=r->r.length<nn->bs.length=8*i ->
  Ez fu call n c nn ws.length (Af .u64 ws) bs.length i (Af .u8 bs)=some ⟨[.own 1 (bs++A6 r).length (Af .u8 (bs++A6 r))],[]⟩
 |r,i,0,_,_,h,_=>by omega
 |[],i,nn+1,bs,h,_,_=>by
  have:=drop_nil h;have e8:=Am .u8 bs;rw [Kv];simp (disch:=omega) only [Bz,B8,J7,A6,List.flatMap_nil,List.append_nil]
 |w::r,i,nn+1,bs,h,hn,hb=>by
  obtain ⟨h1,h2,h3⟩:=B3 h;simp only [Jd] at hn;rw [Kv];simp (disch:=omega) only [Bz];rw [QO h2 8 fu 7 bs rfl (by omega) (by omega) (by omega),Al (by omega) (by omega)]
  have ih:=GE hl hfu r (i+1) nn (bs++D3 w) h3 (by omega) (by simp [E9];omega)
  have e:bs++D3 w++A6 r=bs++A6 (w::r):=by simp [A6]
  rw [e] at ih;exact ih
theorem Ta {ws:List Int}(hl:ws.length<=1073741824)(hfu:100<=fu)(hf:ws.length<fu):Ae (CX xs) Tryz.prog fu (d+1) Ee [.lst false 1 ws.length (Af .u64 ws)]=some ⟨[.own 1 (A6 ws).length (Af .u8 (A6 ws))],[]⟩:=by
 rw [Ye];exact GE hl hfu ws 0 fu [] rfl hf rfl
end
abbrev Fo (a b:Int):Int:=RD .u64 (Hc .u64 a 8) (wrap .u64 b)
def NJ (bs:List Int):Int:=bs.foldl Fo 0
theorem Ani {q:Int}(h0:0<=q)(h1:q<=18446744073709551615):Fo (q / 256) (wrap .u8 q)=q:=by
 have e1:Hc .u64 (q / 256) 8=q / 256*256:=by
  unfold Hc;have:((8:Int).toNat.min IntKind.u64.bits)=8:=by decide
  show wrap .u64 (q / 256*2 ^ (min (8:Int).toNat IntKind.u64.bits))=_;have h2:(2:Int) ^ (min (8:Int).toNat IntKind.u64.bits)=256:=by decide
  rw [h2,Cq (by omega) (by omega)]
 have e2:wrap .u8 q=q % 256:=by
  simp only [wrap,IntKind.signed,IntKind.bits];simp
 have e3:wrap .u64 (q % 256)=q % 256:=Cq (by omega) (by omega)
 unfold Fo;rw [e1,e2,e3];obtain ⟨n,rfl⟩:=Int.eq_ofNat_of_zero_le h0;have hn:n<18446744073709551616:=by omega
 have e4:(BitVec.ofInt 64 ((n:Int) / 256*256)).toNat=n / 256*256:=by
  rw [BitVec.toNat_ofInt];omega
 have e5:(BitVec.ofInt 64 ((n:Int) % 256)).toNat=n % 256:=by
  rw [BitVec.toNat_ofInt];omega
 have e6:n / 256*256 ||| n % 256=n:=by
  have:=Nat.shiftLeft_add_eq_or_of_lt (show n % 256<2 ^ 8 by omega) (n / 256)
  rw [Nat.shiftLeft_eq] at this;rw [←this];omega
 unfold RD;show wrap .u64 ((BitVec.ofInt 64 ((n:Int) / 256*256) ||| BitVec.ofInt 64 ((n:Int) % 256)).toNat:Int)=n;rw [BitVec.toNat_or,e4,e5,e6,Cq (by omega) (by omega)]
theorem PF {w:Int}(k:Nat)(hk:k<8):Da w k=wrap .u8 (w / 2 ^ (56-8*k)):=by
 unfold Da D8;have e:(56-8*(k:Int)).toNat=56-8*k:=by omega
 rw [e,Nat.min_eq_left (by show 56-8*k<=64;omega),Int.fdiv_eq_ediv_of_nonneg _ (Int.le_of_lt (Int.pow_pos (by omega)))]
theorem PK {w:Int}(h0:0<=w)(h1:w<=18446744073709551615):NJ (D3 w)=w:=by
 have st:∀(k:Nat) (D:Int),k<8->(2:Int) ^ (56-8*k)=D->0<D->Fo (w / D / 256) (Da w k)=w / D:=by
  intro k D hk hD hp;rw [PF k hk,hD];exact Ani (Int.ediv_nonneg h0 (Int.le_of_lt hp)) (Int.le_trans (Int.ediv_le_self _ h0) h1)
 have s0:=st 0 72057594037927936 (by omega) (by decide) (by omega)
 have s1:=st 1 281474976710656 (by omega) (by decide) (by omega)
 have s2:=st 2 1099511627776 (by omega) (by decide) (by omega)
 have s3:=st 3 4294967296 (by omega) (by decide) (by omega)
 have s4:=st 4 16777216 (by omega) (by decide) (by omega)
 have s5:=st 5 65536 (by omega) (by decide) (by omega)
 have s6:=st 6 256 (by omega) (by decide) (by omega)
 have s7:=st 7 1 (by omega) (by decide) (by omega)
 rw [show w / 72057594037927936 / 256=0 by omega] at s0
 rw [show w / 281474976710656 / 256=w / 72057594037927936 by omega] at s1
 rw [show w / 1099511627776 / 256=w / 281474976710656 by omega] at s2
 rw [show w / 4294967296 / 256=w / 1099511627776 by omega] at s3
 rw [show w / 16777216 / 256=w / 4294967296 by omega] at s4
 rw [show w / 65536 / 256=w / 16777216 by omega] at s5
 rw [show w / 256 / 256=w / 65536 by omega] at s6
 rw [show w / 1 / 256=w / 256 by omega,show w / 1=w by omega] at s7
 show Fo (Fo (Fo (Fo (Fo (Fo (Fo (Fo 0 (Da w 0)) (Da w 1)) (Da w 2)) (Da w 3)) (Da w 4)) (Da w 5)) (Da w 6)) (Da w 7)=w;rw [s0,s1,s2,s3,s4,s5,s6,s7]
end
section
open Go.IntKind (wrap)
set_option maxRecDepth 100000
abbrev R5:FuncId:=104
noncomputable def Ga (fu:Nat)(call:Ah)(a0:Int)(nn:Nat)(y0 y1 y2:Int)(y3 y4:List PV):Option A0:=Co CB Tryz.prog fu call 104 Tryz.f104 (Bm Tryz.f104) [.sc (.int .u64 a0)] [.r,.r,.r,.l,.r,.l] nn ⟨lk [(0,(.sc (.int .u64 y0))),(2,(.ptr 2 0)),(3,(.ptr 3 0)),(4,(.sc (.int .i64 y1))),(6,(.sc (.int .i64 y2)))],B7 [(2,(.ar false y3)),(3,(.ar false y4))]⟩
noncomputable def Q1 (fu:Nat)(call:Ah)(a0:Int)(nn:Nat)(y0 y1:List PV):Option A0:=Co CB Tryz.prog fu call 104 Tryz.f104 (Bm Tryz.f104) [.sc (.int .u64 a0)] [.r,.r,.r,.r,.r] nn ⟨lk [(2,(.ptr 2 0)),(3,(.ptr 3 0))],B7 [(2,(.ar false y0)),(3,(.ar false y1))]⟩
noncomputable def Q4 (fu:Nat)(call:Ah)(a0:Int)(nn:Nat)(y0:List PV):Option A0:=Co CB Tryz.prog fu call 104 Tryz.f104 (Bm Tryz.f104) [.sc (.int .u64 a0)] [.r,.r,.r,.r,.r,.r] nn ⟨lk [(2,(.ptr 2 0))],B7 [(2,(.ar false y0))]⟩
theorem Of (fu:Nat)(call:Ah)(a0:Int)(nn:Nat)(y0 y1 y2:Int)(y3 y4:List PV):Ga fu call a0 (nn+1) y0 y1 y2 y3 y4=(A9 (decide (y2<16)) (Aa (wrap .i64 (4*y2)) fun x1=>Aa (wrap .i64 (60-x1)) fun x2=>Au (decide (0<=x2))<|Aa (D8 .u64 y0 x2) fun x3=>Aa (Qu .u64 x3 15) fun x4=>Aa (wrap .i64 x4) fun x5=>Au (decide (0<=y2)&&decide (y2<18))<|Au (decide (0+Int.toNat y2*1+1<=y4.length))<|Aa (Bd y4 [.sc (.int .i64 x5)] (0+Int.toNat y2*1)) fun x6=>Au (decide (0<=y2)&&decide (y2<18))<|Ad .i64 (List.getD x6 (0+Int.toNat y2*1) .top) fun x7=>Aa (wrap .i64 (15-x7)) fun x8=>Aa (wrap .i64 (y1+x8)) fun x9=>Aa (wrap .i64 (y2+1)) fun Cl=>Ga fu call a0 (nn) (y0) x9 Cl (y3) x6) (Aa (wrap .i64 (Int.tdiv y1 16)) fun Cw=>Au (decide (17<=y4.length))<|Aa (Bd y4 [.sc (.int .i64 Cw)] 16) fun Dl=>Aa (Int.tmod y1 16) fun Ds=>Au (decide (18<=Dl.length))<|Aa (Bd Dl [.sc (.int .i64 Ds)] 17) fun Dk=>Q1 fu call a0 (fu) (y3) Dk)):=by kernel_rfl
theorem Yb (fu:Nat)(call:Ah)(a0:Int)(nn:Nat)(hnn:0<nn)(y0 y1:List PV):Q1 fu call a0 nn y0 y1=(Ad .i64 (List.getD y1 0 .top) fun D9=>Ad .i64 (List.getD y1 1 .top) fun Ea=>Ad .i64 (List.getD y1 2 .top) fun En=>Ad .i64 (List.getD y1 3 .top) fun E1=>Ad .i64 (List.getD y1 4 .top) fun Fg=>Ad .i64 (List.getD y1 5 .top) fun Fp=>Ad .i64 (List.getD y1 6 .top) fun Ho=>Ad .i64 (List.getD y1 7 .top) fun Hb=>Ad .i64 (List.getD y1 8 .top) fun Hr=>Ad .i64 (List.getD y1 9 .top) fun Dz=>Ad .i64 (List.getD y1 10 .top) fun Dq=>Ad .i64 (List.getD y1 11 .top) fun F5=>Ad .i64 (List.getD y1 12 .top) fun H3=>Ad .i64 (List.getD y1 13 .top) fun E2=>Ad .i64 (List.getD y1 14 .top) fun Jg=>Ad .i64 (List.getD y1 15 .top) fun L6=>Ad .i64 (List.getD y1 16 .top) fun J3=>Ad .i64 (List.getD y1 17 .top) fun Mp=>Au (decide (18<=y0.length))<|Aa (Bd y0 [.sc (.int .i64 D9),.sc (.int .i64 Ea),.sc (.int .i64 En),.sc (.int .i64 E1),.sc (.int .i64 Fg),.sc (.int .i64 Fp),.sc (.int .i64 Ho),.sc (.int .i64 Hb),.sc (.int .i64 Hr),.sc (.int .i64 Dz),.sc (.int .i64 Dq),.sc (.int .i64 F5),.sc (.int .i64 H3),.sc (.int .i64 E2),.sc (.int .i64 Jg),.sc (.int .i64 L6),.sc (.int .i64 J3),.sc (.int .i64 Mp)] 0) fun Mg=>Q4 fu call a0 (fu) Mg):=by cases nn with|zero=>exact absurd hnn (Nat.lt_irrefl 0)|succ nn=>kernel_rfl
theorem X5 (fu:Nat)(call:Ah)(a0:Int)(nn:Nat)(hnn:0<nn)(y0:List PV):Q4 fu call a0 nn y0=(Ad .i64 (List.getD y0 0 .top) fun Nm=>Ad .i64 (List.getD y0 1 .top) fun Pt=>Ad .i64 (List.getD y0 2 .top) fun P7=>Ad .i64 (List.getD y0 3 .top) fun R4=>Ad .i64 (List.getD y0 4 .top) fun Hi=>Ad .i64 (List.getD y0 5 .top) fun J8=>Ad .i64 (List.getD y0 6 .top) fun Uy=>Ad .i64 (List.getD y0 7 .top) fun Y8=>Ad .i64 (List.getD y0 8 .top) fun Ph=>Ad .i64 (List.getD y0 9 .top) fun Nw=>Ad .i64 (List.getD y0 10 .top) fun Uo=>Ad .i64 (List.getD y0 11 .top) fun Sb=>Ad .i64 (List.getD y0 12 .top) fun To=>Ad .i64 (List.getD y0 13 .top) fun Xt=>Ad .i64 (List.getD y0 14 .top) fun Yh=>Ad .i64 (List.getD y0 15 .top) fun Sd=>Ad .i64 (List.getD y0 16 .top) fun We=>Ad .i64 (List.getD y0 17 .top) fun Yk=>some (A0.mk [.agg [.sc (.int .i64 Nm),.sc (.int .i64 Pt),.sc (.int .i64 P7),.sc (.int .i64 R4),.sc (.int .i64 Hi),.sc (.int .i64 J8),.sc (.int .i64 Uy),.sc (.int .i64 Y8),.sc (.int .i64 Ph),.sc (.int .i64 Nw),.sc (.int .i64 Uo),.sc (.int .i64 Sb),.sc (.int .i64 To),.sc (.int .i64 Xt),.sc (.int .i64 Yh),.sc (.int .i64 Sd),.sc (.int .i64 We),.sc (.int .i64 Yk)]] [])):=by cases nn with|zero=>exact absurd hnn (Nat.lt_irrefl 0)|succ nn=>kernel_rfl
theorem FY {xs:FuncId->Option (List PV->Option A0)} (fu d:Nat)(a0:Int):Ae (CX xs) Tryz.prog fu (d+1) R5 [.sc (.int .u64 a0)]=(fun (call:Ah)=>Ga fu call a0 (fu) (a0) 0 0 ([.sc (.int .i64 0),.sc (.int .i64 0),.sc (.int .i64 0),.sc (.int .i64 0),.sc (.int .i64 0),.sc (.int .i64 0),.sc (.int .i64 0),.sc (.int .i64 0),.sc (.int .i64 0),.sc (.int .i64 0),.sc (.int .i64 0),.sc (.int .i64 0),.sc (.int .i64 0),.sc (.int .i64 0),.sc (.int .i64 0),.sc (.int .i64 0),.sc (.int .i64 0),.sc (.int .i64 0)]) ([.sc (.int .i64 0),.sc (.int .i64 0),.sc (.int .i64 0),.sc (.int .i64 0),.sc (.int .i64 0),.sc (.int .i64 0),.sc (.int .i64 0),.sc (.int .i64 0),.sc (.int .i64 0),.sc (.int .i64 0),.sc (.int .i64 0),.sc (.int .i64 0),.sc (.int .i64 0),.sc (.int .i64 0),.sc (.int .i64 0),.sc (.int .i64 0),.sc (.int .i64 0),.sc (.int .i64 0)])) (Ae (CX xs) Tryz.prog fu d):=by kernel_rfl
abbrev Ze:FuncId:=105
noncomputable def Kj (fu:Nat)(call:Ah)(a0 a1:Int)(a2 a3 a4:Int)(nn:Nat)(y0 y1:Int)(y2 y3 y4:Int):Option A0:=Co CB Tryz.prog fu call 105 Tryz.f105 (Bm Tryz.f105) [.sc (.int .i64 a0),.sc (.int .i64 a1),.sc (.int .i64 a2),.sc (.int .i64 a3),.sc (.int .u64 a4)] [.r,.r,.l,.r,.l] nn ⟨lk [(0,(.sc (.int .i64 y0))),(1,(.sc (.int .i64 y1))),(4,(.sc (.int .u64 y2))),(11,(.sc (.int .i64 y3))),(12,(.sc (.int .i64 y4)))],B7 []⟩
theorem S8 (fu:Nat)(call:Ah)(a0 a1:Int)(a2 a3 a4:Int)(nn:Nat)(y0 y1:Int)(y2 y3 y4:Int):Kj fu call a0 a1 a2 a3 a4 (nn+1) y0 y1 y2 y3 y4=(A9 (decide (y4<y3)) (Aa (wrap .u64 y0) fun x3=>Aa (wrap .u64 y1) fun x4=>Aa (wrap .u64 y4) fun x5=>Ag (call 89 [.lst false 1 4 [.sc (.int .u64 x3),.sc (.int .u64 x4),.sc (.int .u64 x5),.sc (.int .u64 y2)]]) fun x6 x7=>Ac x7<|Ab x6 fun x8 x9=>Es 1 x8 fun Cl Cw=>Ac x9<|Au (decide (0+Cl*1<=Cw.length))<|Ag (call 73 [.sc (.int .i64 1),.lst false 1 Cl (List.take (Cl*1) (List.drop 0 Cw))]) fun Dl Ds=>Ac Ds<|Ab Dl fun Dk D9=>Ad .u64 Dk fun Ea=>Ac D9<|Aa (wrap .i64 (y4+1)) fun En=>Kj fu call a0 a1 a2 a3 a4 (nn) (y0) (y1) Ea (y3) En) (some (A0.mk [.sc (.int .u64 y2)] []))):=by kernel_rfl
theorem NW {xs:FuncId->Option (List PV->Option A0)} (fu d:Nat)(a0 a1:Int)(a2 a3 a4:Int):Ae (CX xs) Tryz.prog fu (d+1) Ze [.sc (.int .i64 a0),.sc (.int .i64 a1),.sc (.int .i64 a2),.sc (.int .i64 a3),.sc (.int .u64 a4)]=(fun (call:Ah)=>Aa (if 15<a3 then 15 else a3) fun x1=>Aa (if a2<0 then 0 else a2) fun x2=>Kj fu call a0 a1 a2 a3 a4 (fu) (a0) (a1) (a4) x1 x2) (Ae (CX xs) Tryz.prog fu d):=by kernel_rfl
abbrev Q2:FuncId:=110
theorem DN {xs:FuncId->Option (List PV->Option A0)} (fu d:Nat)(a0 a1_0:Int)(a1_1 a1_2:Int)(Ahs Ah4:Int)(Aj3 Akg:Int)(Akd Ain:Int)(Ajn YV:Int)(WA XM:Int)(Amu Anm:Int)(Amv Ams Amt:Int):Ae (CX xs) Tryz.prog fu (d+1) Q2 [.sc (.int .i64 a0),.agg [.sc (.int .u64 a1_0),.sc (.int .u64 a1_1),.sc (.int .u64 a1_2),.sc (.int .u64 Ahs),.sc (.int .u64 Ah4),.sc (.int .u64 Aj3),.sc (.int .u64 Akg),.sc (.int .u64 Akd),.sc (.int .u64 Ain),.sc (.int .u64 Ajn),.sc (.int .u64 YV),.sc (.int .u64 WA),.sc (.int .u64 XM),.sc (.int .u64 Amu),.sc (.int .u64 Anm),.sc (.int .u64 Amv),.sc (.int .u64 Ams),.sc (.int .u64 Amt)]]=(fun (call:Ah)=>Aa (wrap .u64 a0) fun x1=>Ag (call 89 [.lst false 1 19 [.sc (.int .u64 x1),.sc (.int .u64 a1_0),.sc (.int .u64 a1_1),.sc (.int .u64 a1_2),.sc (.int .u64 Ahs),.sc (.int .u64 Ah4),.sc (.int .u64 Aj3),.sc (.int .u64 Akg),.sc (.int .u64 Akd),.sc (.int .u64 Ain),.sc (.int .u64 Ajn),.sc (.int .u64 YV),.sc (.int .u64 WA),.sc (.int .u64 XM),.sc (.int .u64 Amu),.sc (.int .u64 Anm),.sc (.int .u64 Amv),.sc (.int .u64 Ams),.sc (.int .u64 Amt)]]) fun x2 x3=>Ac x3<|Ab x2 fun x4 x5=>Es 1 x4 fun x6 x7=>Ac x5<|Au (decide (0+x6*1<=x7.length))<|Ag (call 73 [.sc (.int .i64 2),.lst false 1 x6 (List.take (x6*1) (List.drop 0 x7))]) fun x8 x9=>Ac x9<|Ab x8 fun Cl Cw=>Ad .u64 Cl fun Dl=>Ac Cw<|some (A0.mk [.sc (.int .u64 Dl)] [])) (Ae (CX xs) Tryz.prog fu d):=by kernel_rfl
abbrev Q7:FuncId:=81
noncomputable def Eo (fu:Nat)(call:Ah)(a0 a1:Int)(a2n:Nat)(a2:List PV)(nn:Nat)(y0:Int)(y1:Nat)(y2:List PV)(y3 y4:Int)(y5 y6:Int)(y7 y8:Int)(y9 y10:Int)(Gk Hx:Int)(Ja Kp:Int)(Lq Ob:Int)(Ol Va:Int)(Zt Yj U6:Int)(SP:List PV):Option A0:=Co CB Tryz.prog fu call 81 Tryz.f81 (Bm Tryz.f81) [.sc (.int .i64 a0),.sc (.int .u64 a1),.lst false 1 a2n a2] [.r,.r,.r,.l,.r,.l] nn ⟨lk [(0,(.sc (.int .i64 y0))),(2,(.lst false 1 y1 y2)),(8,(.ptr 8 0)),(15,(.agg [(.sc (.int .i64 y3)),(.sc (.int .i64 y4)),(.sc (.int .i64 y5)),(.sc (.int .i64 y6)),(.sc (.int .i64 y7)),(.sc (.int .i64 y8)),(.sc (.int .i64 y9)),(.sc (.int .i64 y10)),(.sc (.int .i64 Gk)),(.sc (.int .i64 Hx)),(.sc (.int .i64 Ja)),(.sc (.int .i64 Kp)),(.sc (.int .i64 Lq)),(.sc (.int .i64 Ob)),(.sc (.int .i64 Ol)),(.sc (.int .i64 Va)),(.sc (.int .i64 Zt)),(.sc (.int .i64 Yj))])),(16,(.sc (.int .i64 U6)))],B7 [(8,(.ar false SP))]⟩
noncomputable def Qd (fu:Nat)(call:Ah)(a0 a1:Int)(a2n:Nat)(a2:List PV)(nn:Nat)(y0:Int)(y1:List PV):Option A0:=Co CB Tryz.prog fu call 81 Tryz.f81 (Bm Tryz.f81) [.sc (.int .i64 a0),.sc (.int .u64 a1),.lst false 1 a2n a2] [.r,.r,.r] nn ⟨lk [(0,(.sc (.int .i64 y0))),(8,(.ptr 8 0))],B7 [(8,(.ar false y1))]⟩
noncomputable def Qg (fu:Nat)(call:Ah)(a0 a1:Int)(a2n:Nat)(a2:List PV)(nn:Nat)(y0 y1:Int):Option A0:=Co CB Tryz.prog fu call 81 Tryz.f81 (Bm Tryz.f81) [.sc (.int .i64 a0),.sc (.int .u64 a1),.lst false 1 a2n a2] [.r,.r,.r,.r] nn ⟨lk [(6,(.sc (.int .u64 y0))),(7,(.sc (.int .i64 y1)))],B7 []⟩
theorem Nf (fu:Nat)(call:Ah)(a0 a1:Int)(a2n:Nat)(a2:List PV)(nn:Nat)(y0:Int)(y1:Nat)(y2:List PV)(y3 y4:Int)(y5 y6:Int)(y7 y8:Int)(y9 y10:Int)(Gk Hx:Int)(Ja Kp:Int)(Lq Ob:Int)(Ol Va:Int)(Zt Yj U6:Int)(SP:List PV):Eo fu call a0 a1 a2n a2 (nn+1) y0 y1 y2 y3 y4 y5 y6 y7 y8 y9 y10 Gk Hx Ja Kp Lq Ob Ol Va Zt Yj U6 SP=(A9 (decide (U6<18)) (Au (decide (0<=U6)&&decide (U6<18)&&true)<|Ad .i64 (List.getD [.sc (.int .i64 y3),.sc (.int .i64 y4),.sc (.int .i64 y5),.sc (.int .i64 y6),.sc (.int .i64 y7),.sc (.int .i64 y8),.sc (.int .i64 y9),.sc (.int .i64 y10),.sc (.int .i64 Gk),.sc (.int .i64 Hx),.sc (.int .i64 Ja),.sc (.int .i64 Kp),.sc (.int .i64 Lq),.sc (.int .i64 Ob),.sc (.int .i64 Ol),.sc (.int .i64 Va),.sc (.int .i64 Zt),.sc (.int .i64 Yj)] (Int.toNat U6*1) .top) fun BA=>Au (decide (0<=U6)&&decide (U6<(↑y1:Int)))<|Ad .u64 (List.getD y2 (Int.toNat U6*1) .top) fun Zd=>Ag (call 105 [.sc (.int .i64 y0),.sc (.int .i64 U6),.sc (.int .i64 BA),.sc (.int .i64 15),.sc (.int .u64 Zd)]) fun Y6 BB=>Ac BB<|Ab Y6 fun Y1 Za=>Ad .u64 Y1 fun Xv=>Ac Za<|Au (decide (0<=U6)&&decide (U6<18))<|Au (decide (0+Int.toNat U6*1+1<=SP.length))<|Aa (Bd SP [.sc (.int .u64 Xv)] (0+Int.toNat U6*1)) fun Xj=>Aa (wrap .i64 (U6+1)) fun EB=>Eo fu call a0 a1 a2n a2 (nn) (y0) (y1) (y2) (y3) (y4) (y5) (y6) (y7) (y8) (y9) (y10) (Gk) (Hx) (Ja) (Kp) (Lq) (Ob) (Ol) (Va) (Zt) (Yj) EB Xj) (Qd fu call a0 a1 a2n a2 (fu) (y0) (SP))):=by kernel_rfl
theorem W5 (fu:Nat)(call:Ah)(a0 a1:Int)(a2n:Nat)(a2:List PV)(nn:Nat)(hnn:0<nn)(y0:Int)(y1:List PV):Qd fu call a0 a1 a2n a2 nn y0 y1=(Ad .u64 (List.getD y1 0 .top) fun Zs=>Ad .u64 (List.getD y1 1 .top) fun Y2=>Ad .u64 (List.getD y1 2 .top) fun Zf=>Ad .u64 (List.getD y1 3 .top) fun Zz=>Ad .u64 (List.getD y1 4 .top) fun EG=>Ad .u64 (List.getD y1 5 .top) fun Zk=>Ad .u64 (List.getD y1 6 .top) fun Y4=>Ad .u64 (List.getD y1 7 .top) fun GZ=>Ad .u64 (List.getD y1 8 .top) fun BE=>Ad .u64 (List.getD y1 9 .top) fun FP=>Ad .u64 (List.getD y1 10 .top) fun IU=>Ad .u64 (List.getD y1 11 .top) fun IW=>Ad .u64 (List.getD y1 12 .top) fun UI=>Ad .u64 (List.getD y1 13 .top) fun NQ=>Ad .u64 (List.getD y1 14 .top) fun RU=>Ad .u64 (List.getD y1 15 .top) fun OL=>Ad .u64 (List.getD y1 16 .top) fun ZG=>Ad .u64 (List.getD y1 17 .top) fun WJ=>Ag (call 110 [.sc (.int .i64 y0),.agg [.sc (.int .u64 Zs),.sc (.int .u64 Y2),.sc (.int .u64 Zf),.sc (.int .u64 Zz),.sc (.int .u64 EG),.sc (.int .u64 Zk),.sc (.int .u64 Y4),.sc (.int .u64 GZ),.sc (.int .u64 BE),.sc (.int .u64 FP),.sc (.int .u64 IU),.sc (.int .u64 IW),.sc (.int .u64 UI),.sc (.int .u64 NQ),.sc (.int .u64 RU),.sc (.int .u64 OL),.sc (.int .u64 ZG),.sc (.int .u64 WJ)]]) fun UX TX=>Ac TX<|Ab UX fun EI RG=>Ad .u64 EI fun SE=>Ac RG<|Qg fu call a0 a1 a2n a2 (fu) SE 0):=by cases nn with|zero=>exact absurd hnn (Nat.lt_irrefl 0)|succ nn=>kernel_rfl
theorem Xa (fu:Nat)(call:Ah)(a0 a1:Int)(a2n:Nat)(a2:List PV)(nn:Nat)(hnn:0<nn)(y0 y1:Int):Qg fu call a0 a1 a2n a2 nn y0 y1=(some (A0.mk [.sc (.int .u64 y0),.sc (.int .i64 y1)] [])):=by cases nn with|zero=>exact absurd hnn (Nat.lt_irrefl 0)|succ nn=>kernel_rfl
theorem BZ {xs:FuncId->Option (List PV->Option A0)} (fu d:Nat)(a0 a1:Int)(a2n:Nat)(a2:List PV):Ae (CX xs) Tryz.prog fu (d+1) Q7 [.sc (.int .i64 a0),.sc (.int .u64 a1),.lst false 1 a2n a2]=(fun (call:Ah)=>A9 ((↑a2n:Int) != 18) (some (A0.mk [.sc (.int .u64 0),.sc (.int .i64 4)] [])) (Ag (call 104 [.sc (.int .u64 a1)]) fun x1 x2=>Ac x2<|Ab x1 fun x3 x4=>C4 x3 fun x5=>Ab x5 fun x6 x7=>Ad .i64 x6 fun x8=>Ab x7 fun x9 Cl=>Ad .i64 x9 fun Cw=>Ab Cl fun Dl Ds=>Ad .i64 Dl fun Dk=>Ab Ds fun D9 Ea=>Ad .i64 D9 fun En=>Ab Ea fun E1 Fg=>Ad .i64 E1 fun Fp=>Ab Fg fun Ho Hb=>Ad .i64 Ho fun Hr=>Ab Hb fun Dz Dq=>Ad .i64 Dz fun F5=>Ab Dq fun H3 E2=>Ad .i64 H3 fun Jg=>Ab E2 fun L6 J3=>Ad .i64 L6 fun Mp=>Ab J3 fun Mg Nm=>Ad .i64 Mg fun Pt=>Ab Nm fun P7 R4=>Ad .i64 P7 fun Hi=>Ab R4 fun J8 Uy=>Ad .i64 J8 fun Y8=>Ab Uy fun Ph Nw=>Ad .i64 Ph fun Uo=>Ab Nw fun Sb To=>Ad .i64 Sb fun Xt=>Ab To fun Yh Sd=>Ad .i64 Yh fun We=>Ab Sd fun Yk Xe=>Ad .i64 Yk fun O3=>Ab Xe fun Yl DK=>Ad .i64 Yl fun BC=>Ab DK fun Y3 U7=>Ad .i64 Y3 fun X7=>Ac U7<|Ac x4<|Eo fu call a0 a1 a2n a2 (fu) (a0) (a2n) (a2) x8 Cw Dk En Fp Hr F5 Jg Mp Pt Hi Y8 Uo Xt We O3 BC X7 0 ([.sc (.int .u64 0),.sc (.int .u64 0),.sc (.int .u64 0),.sc (.int .u64 0),.sc (.int .u64 0),.sc (.int .u64 0),.sc (.int .u64 0),.sc (.int .u64 0),.sc (.int .u64 0),.sc (.int .u64 0),.sc (.int .u64 0),.sc (.int .u64 0),.sc (.int .u64 0),.sc (.int .u64 0),.sc (.int .u64 0),.sc (.int .u64 0),.sc (.int .u64 0),.sc (.int .u64 0)]))) (Ae (CX xs) Tryz.prog fu d):=by kernel_rfl
abbrev Sv:FuncId:=106
theorem FC {xs:FuncId->Option (List PV->Option A0)} (fu d:Nat)(a0 a1 a2:Int):Ae (CX xs) Tryz.prog fu (d+1) Sv [.sc (.int .u64 a0),.sc (.int .i64 a1),.sc (.int .i64 a2)]=(fun (call:Ah)=>Aa (wrap .u64 a1) fun x1=>Aa (wrap .u64 a2) fun x2=>Ag (call 89 [.lst false 1 2 [.sc (.int .u64 x1),.sc (.int .u64 x2)]]) fun x3 x4=>Ac x4<|Ab x3 fun x5 x6=>Es 1 x5 fun x7 x8=>Ac x6<|Au (decide (0+x7*1<=x8.length))<|Ag (call 123 [.sc (.int .u64 a0),.sc (.int .i64 1),.lst false 1 x7 (List.take (x7*1) (List.drop 0 x8))]) fun x9 Cl=>Ac Cl<|Ab x9 fun Cw Dl=>Ad .u64 Cw fun Ds=>Ac Dl<|some (A0.mk [.sc (.int .u64 Ds)] [])) (Ae (CX xs) Tryz.prog fu d):=by kernel_rfl
abbrev Mi:FuncId:=108
noncomputable def Fb (fu:Nat)(call:Ah)(a0 a1:Int)(nn:Nat)(y0 y1 y2:Int)(y3:List PV):Option A0:=Co CB Tryz.prog fu call 108 Tryz.f108 (Bm Tryz.f108) [.sc (.int .u64 a0),.sc (.int .i64 a1)] [.r,.r,.l,.r,.l] nn ⟨lk [(0,(.sc (.int .u64 y0))),(1,(.sc (.int .i64 y1))),(5,(.ptr 5 0)),(7,(.sc (.int .i64 y2)))],B7 [(5,(.ar false y3))]⟩
noncomputable def Rq (fu:Nat)(call:Ah)(a0 a1:Int)(nn:Nat)(y0:Int)(y1:List PV):Option A0:=Co CB Tryz.prog fu call 108 Tryz.f108 (Bm Tryz.f108) [.sc (.int .u64 a0),.sc (.int .i64 a1)] [.r,.r] nn ⟨lk [(1,(.sc (.int .i64 y0))),(5,(.ptr 5 0))],B7 [(5,(.ar false y1))]⟩
noncomputable def Q0 (fu:Nat)(call:Ah)(a0 a1:Int)(nn:Nat)(y0:Int):Option A0:=Co CB Tryz.prog fu call 108 Tryz.f108 (Bm Tryz.f108) [.sc (.int .u64 a0),.sc (.int .i64 a1)] [.r,.r,.r] nn ⟨lk [(4,(.sc (.int .u64 y0)))],B7 []⟩
theorem Oy (fu:Nat)(call:Ah)(a0 a1:Int)(nn:Nat)(y0 y1 y2:Int)(y3:List PV):Fb fu call a0 a1 (nn+1) y0 y1 y2 y3=(A9 (decide (y2<18)) (Ag (call 106 [.sc (.int .u64 y0),.sc (.int .i64 y1),.sc (.int .i64 y2)]) fun x1 x2=>Ac x2<|Ab x1 fun x3 x4=>Ad .u64 x3 fun x5=>Ac x4<|Ag (call 105 [.sc (.int .i64 y1),.sc (.int .i64 y2),.sc (.int .i64 0),.sc (.int .i64 15),.sc (.int .u64 x5)]) fun x6 x7=>Ac x7<|Ab x6 fun x8 x9=>Ad .u64 x8 fun Cl=>Ac x9<|Au (decide (0<=y2)&&decide (y2<18))<|Au (decide (0+Int.toNat y2*1+1<=y3.length))<|Aa (Bd y3 [.sc (.int .u64 Cl)] (0+Int.toNat y2*1)) fun Cw=>Aa (wrap .i64 (y2+1)) fun Dl=>Fb fu call a0 a1 (nn) (y0) (y1) Dl Cw) (Rq fu call a0 a1 (fu) (y1) (y3))):=by kernel_rfl
theorem X4 (fu:Nat)(call:Ah)(a0 a1:Int)(nn:Nat)(hnn:0<nn)(y0:Int)(y1:List PV):Rq fu call a0 a1 nn y0 y1=(Ad .u64 (List.getD y1 0 .top) fun Ds=>Ad .u64 (List.getD y1 1 .top) fun Dk=>Ad .u64 (List.getD y1 2 .top) fun D9=>Ad .u64 (List.getD y1 3 .top) fun Ea=>Ad .u64 (List.getD y1 4 .top) fun En=>Ad .u64 (List.getD y1 5 .top) fun E1=>Ad .u64 (List.getD y1 6 .top) fun Fg=>Ad .u64 (List.getD y1 7 .top) fun Fp=>Ad .u64 (List.getD y1 8 .top) fun Ho=>Ad .u64 (List.getD y1 9 .top) fun Hb=>Ad .u64 (List.getD y1 10 .top) fun Hr=>Ad .u64 (List.getD y1 11 .top) fun Dz=>Ad .u64 (List.getD y1 12 .top) fun Dq=>Ad .u64 (List.getD y1 13 .top) fun F5=>Ad .u64 (List.getD y1 14 .top) fun H3=>Ad .u64 (List.getD y1 15 .top) fun E2=>Ad .u64 (List.getD y1 16 .top) fun Jg=>Ad .u64 (List.getD y1 17 .top) fun L6=>Ag (call 110 [.sc (.int .i64 y0),.agg [.sc (.int .u64 Ds),.sc (.int .u64 Dk),.sc (.int .u64 D9),.sc (.int .u64 Ea),.sc (.int .u64 En),.sc (.int .u64 E1),.sc (.int .u64 Fg),.sc (.int .u64 Fp),.sc (.int .u64 Ho),.sc (.int .u64 Hb),.sc (.int .u64 Hr),.sc (.int .u64 Dz),.sc (.int .u64 Dq),.sc (.int .u64 F5),.sc (.int .u64 H3),.sc (.int .u64 E2),.sc (.int .u64 Jg),.sc (.int .u64 L6)]]) fun J3 Mp=>Ac Mp<|Ab J3 fun Mg Nm=>Ad .u64 Mg fun Pt=>Ac Nm<|Q0 fu call a0 a1 (fu) Pt):=by cases nn with|zero=>exact absurd hnn (Nat.lt_irrefl 0)|succ nn=>kernel_rfl
theorem X6 (fu:Nat)(call:Ah)(a0 a1:Int)(nn:Nat)(hnn:0<nn)(y0:Int):Q0 fu call a0 a1 nn y0=(some (A0.mk [.sc (.int .u64 y0)] [])):=by cases nn with|zero=>exact absurd hnn (Nat.lt_irrefl 0)|succ nn=>kernel_rfl
theorem GD {xs:FuncId->Option (List PV->Option A0)} (fu d:Nat)(a0 a1:Int):Ae (CX xs) Tryz.prog fu (d+1) Mi [.sc (.int .u64 a0),.sc (.int .i64 a1)]=(fun (call:Ah)=>Fb fu call a0 a1 (fu) (a0) (a1) 0 ([.sc (.int .u64 0),.sc (.int .u64 0),.sc (.int .u64 0),.sc (.int .u64 0),.sc (.int .u64 0),.sc (.int .u64 0),.sc (.int .u64 0),.sc (.int .u64 0),.sc (.int .u64 0),.sc (.int .u64 0),.sc (.int .u64 0),.sc (.int .u64 0),.sc (.int .u64 0),.sc (.int .u64 0),.sc (.int .u64 0),.sc (.int .u64 0),.sc (.int .u64 0),.sc (.int .u64 0)])) (Ae (CX xs) Tryz.prog fu d):=by kernel_rfl
abbrev P8:FuncId:=76
noncomputable def Jc (fu:Nat)(call:Ah)(a0 a1 a2:Int)(nn:Nat)(y0 y1:Int)(y2 y3:Int)(y4 y5:Int)(y6 y7:Int)(y8 y9:Int)(y10 Gk:Int)(Hx Ja:Int)(Kp Lq:Int)(Ob Ol:Int)(Va Zt Yj:Int)(U6:List PV):Option A0:=Co CB Tryz.prog fu call 76 Tryz.f76 (Bm Tryz.f76) [.sc (.int .u64 a0),.sc (.int .i64 a1),.sc (.int .u64 a2)] [.r,.r,.l,.r,.l] nn ⟨lk [(0,(.sc (.int .u64 y0))),(1,(.sc (.int .i64 y1))),(7,(.ptr 7 0)),(11,(.agg [(.sc (.int .i64 y2)),(.sc (.int .i64 y3)),(.sc (.int .i64 y4)),(.sc (.int .i64 y5)),(.sc (.int .i64 y6)),(.sc (.int .i64 y7)),(.sc (.int .i64 y8)),(.sc (.int .i64 y9)),(.sc (.int .i64 y10)),(.sc (.int .i64 Gk)),(.sc (.int .i64 Hx)),(.sc (.int .i64 Ja)),(.sc (.int .i64 Kp)),(.sc (.int .i64 Lq)),(.sc (.int .i64 Ob)),(.sc (.int .i64 Ol)),(.sc (.int .i64 Va)),(.sc (.int .i64 Zt))])),(12,(.sc (.int .i64 Yj)))],B7 [(7,(.ar false U6))]⟩
theorem Rf (fu:Nat)(call:Ah)(a0 a1 a2:Int)(nn:Nat)(y0 y1:Int)(y2 y3:Int)(y4 y5:Int)(y6 y7:Int)(y8 y9:Int)(y10 Gk:Int)(Hx Ja:Int)(Kp Lq:Int)(Ob Ol:Int)(Va Zt Yj:Int)(U6:List PV):Jc fu call a0 a1 a2 (nn+1) y0 y1 y2 y3 y4 y5 y6 y7 y8 y9 y10 Gk Hx Ja Kp Lq Ob Ol Va Zt Yj U6=(A9 (decide (Yj<18)) (Au (decide (0<=Yj)&&decide (Yj<18)&&true)<|Ad .i64 (List.getD [.sc (.int .i64 y2),.sc (.int .i64 y3),.sc (.int .i64 y4),.sc (.int .i64 y5),.sc (.int .i64 y6),.sc (.int .i64 y7),.sc (.int .i64 y8),.sc (.int .i64 y9),.sc (.int .i64 y10),.sc (.int .i64 Gk),.sc (.int .i64 Hx),.sc (.int .i64 Ja),.sc (.int .i64 Kp),.sc (.int .i64 Lq),.sc (.int .i64 Ob),.sc (.int .i64 Ol),.sc (.int .i64 Va),.sc (.int .i64 Zt)] (Int.toNat Yj*1) .top) fun BA=>Ag (call 106 [.sc (.int .u64 y0),.sc (.int .i64 y1),.sc (.int .i64 Yj)]) fun Zd Y6=>Ac Y6<|Ab Zd fun BB Y1=>Ad .u64 BB fun Za=>Ac Y1<|Ag (call 105 [.sc (.int .i64 y1),.sc (.int .i64 Yj),.sc (.int .i64 0),.sc (.int .i64 BA),.sc (.int .u64 Za)]) fun Xv Xj=>Ac Xj<|Ab Xv fun EB Zs=>Ad .u64 EB fun Y2=>Ac Zs<|Au (decide (0<=Yj)&&decide (Yj<18))<|Au (decide (0+Int.toNat Yj*1+1<=U6.length))<|Aa (Bd U6 [.sc (.int .u64 Y2)] (0+Int.toNat Yj*1)) fun Zf=>Aa (wrap .i64 (Yj+1)) fun Zz=>Jc fu call a0 a1 a2 (nn) (y0) (y1) (y2) (y3) (y4) (y5) (y6) (y7) (y8) (y9) (y10) (Gk) (Hx) (Ja) (Kp) (Lq) (Ob) (Ol) (Va) (Zt) Zz Zf) (Au (decide (18<=U6.length))<|Au (decide (18<=U6.length))<|some (A0.mk [.own 1 18 (List.take 18 U6)] []))):=by kernel_rfl
theorem MV {xs:FuncId->Option (List PV->Option A0)} (fu d:Nat)(a0 a1 a2:Int):Ae (CX xs) Tryz.prog fu (d+1) P8 [.sc (.int .u64 a0),.sc (.int .i64 a1),.sc (.int .u64 a2)]=(fun (call:Ah)=>Ag (call 104 [.sc (.int .u64 a2)]) fun x1 x2=>Ac x2<|Ab x1 fun x3 x4=>C4 x3 fun x5=>Ab x5 fun x6 x7=>Ad .i64 x6 fun x8=>Ab x7 fun x9 Cl=>Ad .i64 x9 fun Cw=>Ab Cl fun Dl Ds=>Ad .i64 Dl fun Dk=>Ab Ds fun D9 Ea=>Ad .i64 D9 fun En=>Ab Ea fun E1 Fg=>Ad .i64 E1 fun Fp=>Ab Fg fun Ho Hb=>Ad .i64 Ho fun Hr=>Ab Hb fun Dz Dq=>Ad .i64 Dz fun F5=>Ab Dq fun H3 E2=>Ad .i64 H3 fun Jg=>Ab E2 fun L6 J3=>Ad .i64 L6 fun Mp=>Ab J3 fun Mg Nm=>Ad .i64 Mg fun Pt=>Ab Nm fun P7 R4=>Ad .i64 P7 fun Hi=>Ab R4 fun J8 Uy=>Ad .i64 J8 fun Y8=>Ab Uy fun Ph Nw=>Ad .i64 Ph fun Uo=>Ab Nw fun Sb To=>Ad .i64 Sb fun Xt=>Ab To fun Yh Sd=>Ad .i64 Yh fun We=>Ab Sd fun Yk Xe=>Ad .i64 Yk fun O3=>Ab Xe fun Yl DK=>Ad .i64 Yl fun BC=>Ab DK fun Y3 U7=>Ad .i64 Y3 fun X7=>Ac U7<|Ac x4<|Jc fu call a0 a1 a2 (fu) (a0) (a1) x8 Cw Dk En Fp Hr F5 Jg Mp Pt Hi Y8 Uo Xt We O3 BC X7 0 ([.sc (.int .u64 0),.sc (.int .u64 0),.sc (.int .u64 0),.sc (.int .u64 0),.sc (.int .u64 0),.sc (.int .u64 0),.sc (.int .u64 0),.sc (.int .u64 0),.sc (.int .u64 0),.sc (.int .u64 0),.sc (.int .u64 0),.sc (.int .u64 0),.sc (.int .u64 0),.sc (.int .u64 0),.sc (.int .u64 0),.sc (.int .u64 0),.sc (.int .u64 0),.sc (.int .u64 0)])) (Ae (CX xs) Tryz.prog fu d):=by kernel_rfl
abbrev Ku:FuncId:=74
theorem ND {xs:FuncId->Option (List PV->Option A0)} (fu d:Nat)(a0:Int):Ae (CX xs) Tryz.prog fu (d+1) Ku [.sc (.int .i64 a0)]=(fun (call:Ah)=>A9 (decide (a0<0)) (some (A0.mk [.sc (.bool true)] [])) (some (A0.mk [.sc (.bool (decide (a0>4)))] []))) (Ae (CX xs) Tryz.prog fu d):=by kernel_rfl
abbrev H0:FuncId:=75
theorem EE {xs:FuncId->Option (List PV->Option A0)} (fu d:Nat)(a0 a1:Int):Ae (CX xs) Tryz.prog fu (d+1) H0 [.sc (.int .i64 a0),.sc (.int .i64 a1)]=(fun (call:Ah)=>A9 (decide (a0<0)) (some (A0.mk [.sc (.bool true)] [])) (Au (decide (0<=a1))<|Aa (Hc .i64 1 a1) fun x1=>some (A0.mk [.sc (.bool (decide (a0>=x1)))] []))) (Ae (CX xs) Tryz.prog fu d):=by kernel_rfl
abbrev U0:FuncId:=92
noncomputable def G2 (fu:Nat)(call:Ah)(a0n:Nat)(a0:List PV)(nn y0:Nat)(y1:List PV)(y2:Nat)(y3 y4:Int)(y5:List PV):Option A0:=Co CB Tryz.prog fu call 92 Tryz.f92 (Bm Tryz.f92) [.lst false 1 a0n a0] [.r,.r,.l,.r,.l] nn ⟨lk [(0,(.lst false 1 y0 y1)),(3,(.view 3 1 0 y2)),(12,(.sc (.int .i64 y3))),(13,(.sc (.int .i64 y4)))],B7 [(3,(.ar false y5))]⟩
noncomputable def Iq (fu:Nat)(call:Ah)(a0n:Nat)(a0:List PV)(m0 nn y0:Nat)(y1:List PV)(y2:Nat)(y3 y4 y5:Int)(y6:Nat)(y7:List PV)(y8 y9:Int)(y10:List PV):Option A0:=Co CB Tryz.prog fu call 92 Tryz.f92 (Bm Tryz.f92) [.lst false 1 a0n a0] [.r,.r,.l,.r,.l,.i m0,.r,.r,.l,.l,.r,.r,.l] nn ⟨lk [(0,(.lst false 1 y0 y1)),(3,(.view 3 1 0 y2)),(4,(.sc (.int .i64 y3))),(12,(.sc (.int .i64 y4))),(13,(.sc (.int .i64 y5))),(22,(.lst false 1 y6 y7)),(23,(.sc (.int .i64 y8))),(24,(.sc (.int .i64 y9)))],B7 [(3,(.ar false y10))]⟩
theorem Qn (fu:Nat)(call:Ah)(a0n:Nat)(a0:List PV)(nn y0:Nat)(y1:List PV)(y2:Nat)(y3 y4:Int)(y5:List PV):G2 fu call a0n a0 (nn+1) y0 y1 y2 y3 y4 y5=(A9 (decide (y4<y3)) (Aa (wrap .i64 (8*y4)) fun x2=>Aa (wrap .i64 (8*y4)) fun x3=>Aa (wrap .i64 (x3+8)) fun x4=>Au (decide (0<=x2))<|Au (decide (0<=x4))<|Au (decide (Int.toNat x2<=Int.toNat x4)&&decide (Int.toNat x4<=y0))<|Aa (Int.toNat x4-Int.toNat x2) fun x5=>Aa (List.take (x5*1) (List.drop (Int.toNat x2*1) y1)) fun x6=>Iq fu call a0n a0 nn (fu) (y0) (y1) (y2) (y4) (y3) (y4) x5 x6 ((↑x5:Int)) 0 (y5)) (Au (decide (y2*1<=y5.length))<|some (A0.mk [.own 1 y2 (List.take (y2*1) y5)] []))):=by kernel_rfl
theorem Py (fu:Nat)(call:Ah)(a0n:Nat)(a0:List PV)(m0 nn y0:Nat)(y1:List PV)(y2:Nat)(y3 y4 y5:Int)(y6:Nat)(y7:List PV)(y8 y9:Int)(y10:List PV):Iq fu call a0n a0 m0 (nn+1) y0 y1 y2 y3 y4 y5 y6 y7 y8 y9 y10=(A9 (decide (y9<y8)) (Au (decide (0<=y9)&&decide (y9<(↑y6:Int)))<|Ad .u8 (List.getD y7 (Int.toNat y9*1) .top) fun x7=>Au (decide (0<=y3)&&decide (y3<(↑y2:Int)))<|Ad .u64 (List.getD y10 (0+Int.toNat y3*1) .top) fun x8=>Aa (Hc .u64 x8 8) fun x9=>Aa (wrap .u64 x7) fun Cl=>Aa (RD .u64 x9 Cl) fun Cw=>Au (decide (0<=y3)&&decide (y3<(↑y2:Int)))<|Au (decide (0+Int.toNat y3*1+1<=y10.length))<|Aa (Bd y10 [.sc (.int .u64 Cw)] (0+Int.toNat y3*1)) fun Dl=>Aa (wrap .i64 (y9+1)) fun Ds=>Iq fu call a0n a0 m0 (nn) (y0) (y1) (y2) (y3) (y4) (y5) (y6) (y7) (y8) Ds Dl) (Aa (wrap .i64 (y5+1)) fun Dk=>G2 fu call a0n a0 (m0) (y0) (y1) (y2) (y4) Dk (y10))):=by kernel_rfl
theorem HT {xs:FuncId->Option (List PV->Option A0)} (fu d a0n:Nat)(a0:List PV):Ae (CX xs) Tryz.prog fu (d+1) U0 [.lst false 1 a0n a0]=(fun (call:Ah)=>Aa (wrap .i64 (Int.tdiv (↑a0n:Int) 8)) fun x1=>Au (decide (0<=x1)&&decide (x1<=x1)&&decide (x1*8<=1099511627776)&&decide (x1<=1099511627776))<|G2 fu call a0n a0 (fu) (a0n) (a0) x1.toNat ((↑x1.toNat:Int)) 0 (Sw x1.toNat [.sc (.int .u64 0)])) (Ae (CX xs) Tryz.prog fu d):=by kernel_rfl
abbrev Mh:FuncId:=82
theorem ES {xs:FuncId->Option (List PV->Option A0)} (fu d:Nat)(a0 a1 a2:Int):Ae (CX xs) Tryz.prog fu (d+1) Mh [.sc (.int .i64 a0),.sc (.int .u64 a1),.sc (.int .u64 a2)]=(fun (call:Ah)=>Aa (wrap .u64 a0) fun x1=>Ag (call 89 [.lst false 1 3 [.sc (.int .u64 x1),.sc (.int .u64 a1),.sc (.int .u64 a2)]]) fun x2 x3=>Ac x3<|Ab x2 fun x4 x5=>Es 1 x4 fun x6 x7=>Ac x5<|Au (decide (0+x6*1<=x7.length))<|Ag (call 73 [.sc (.int .i64 3),.lst false 1 x6 (List.take (x6*1) (List.drop 0 x7))]) fun x8 x9=>Ac x9<|Ab x8 fun Cl Cw=>Ad .u64 Cl fun Dl=>Ac Cw<|some (A0.mk [.sc (.int .u64 Dl)] [])) (Ae (CX xs) Tryz.prog fu d):=by kernel_rfl
abbrev Ov:FuncId:=66
theorem X8 {xs:FuncId->Option (List PV->Option A0)} (fu d:Nat)(a0_0 a0_1:Int):Ae (CX xs) Tryz.prog fu (d+1) Ov [.agg [.sc (.int .i64 a0_0),.sc (.int .u64 a0_1)]]=(fun (call:Ah)=>Ag (call 74 [.sc (.int .i64 a0_0)]) fun x1 x2=>Ac x2<|Ab x1 fun x3 x4=>Bj x3 fun x5=>Ac x4<|A9 x5 (some (A0.mk [.own 1 0 [],.sc (.int .i64 9)] [])) (Aa (wrap .u8 a0_0) fun x6=>Ag (call 89 [.lst false 1 1 [.sc (.int .u64 a0_1)]]) fun x7 x8=>Ac x8<|Ab x7 fun x9 Cl=>Es 1 x9 fun Cw Dl=>Ac Cl<|Au (decide (0+Cw*1<=Dl.length))<|Au (decide (List.length (List.take (Cw*1) (List.drop 0 Dl))=Cw*1)&&decide ((1+Cw)*1<=1099511627776)&&decide (1+Cw<=1099511627776))<|Aa (1+Cw) fun Ds=>Aa ([.sc (.int .u8 x6)]++List.take (Cw*1) (List.drop 0 Dl)) fun Dk=>Au (decide (Ds*1<=Dk.length))<|some (A0.mk [.own 1 Ds (List.take (Ds*1) Dk),.sc (.int .i64 0)] []))) (Ae (CX xs) Tryz.prog fu d):=by kernel_rfl
abbrev Ou:FuncId:=53
theorem Ya {xs:FuncId->Option (List PV->Option A0)} (fu d a0n:Nat)(a0:List PV):Ae (CX xs) Tryz.prog fu (d+1) Ou [.lst false 1 a0n a0]=(fun (call:Ah)=>A9 ((↑a0n:Int) != 9) (some (A0.mk [.agg [.sc (.int .i64 0),.sc (.int .u64 0)],.sc (.int .i64 2)] [])) (Au (decide (0<(↑a0n:Int)))<|Ad .u8 (List.getD a0 0 .top) fun x1=>Aa (wrap .i64 x1) fun x2=>Ag (call 74 [.sc (.int .i64 x2)]) fun x3 x4=>Ac x4<|Ab x3 fun x5 x6=>Bj x5 fun x7=>Ac x6<|A9 x7 (some (A0.mk [.agg [.sc (.int .i64 0),.sc (.int .u64 0)],.sc (.int .i64 2)] [])) (Au (decide (0<(↑a0n:Int)))<|Ad .u8 (List.getD a0 0 .top) fun x8=>Aa (wrap .i64 x8) fun x9=>Au (decide (1<=a0n)&&decide (a0n<=a0n))<|Aa (a0n-1) fun Cl=>Aa (List.take (Cl*1) (List.drop 1 a0)) fun Cw=>Ag (call 92 [.lst false 1 Cl Cw]) fun Dl Ds=>Ac Ds<|Ab Dl fun Dk D9=>Es 1 Dk fun Ea En=>Ac D9<|Au (decide (0<(↑Ea:Int)))<|Ad .u64 (List.getD En 0 .top) fun E1=>some (A0.mk [.agg [.sc (.int .i64 x9),.sc (.int .u64 E1)],.sc (.int .i64 0)] [])))) (Ae (CX xs) Tryz.prog fu d):=by kernel_rfl
abbrev Ir:FuncId:=50
theorem Qx {xs:FuncId->Option (List PV->Option A0)} (fu d:Nat)(a0_0:Int)(RC:Nat)(a0_1:List PV)(Fn:Nat)(a0_2:List PV):Ae (CX xs) Tryz.prog fu (d+1) Ir [.agg [.sc (.int .i64 a0_0),.lst false 1 RC a0_1,.lst false 1 Fn a0_2]]=(fun (call:Ah)=>Ag (call 74 [.sc (.int .i64 (↑Fn:Int))]) fun x1 x2=>Ac x2<|Ab x1 fun x3 x4=>Bj x3 fun x5=>Ac x4<|A9 x5 (some (A0.mk [.own 1 0 [],.sc (.int .i64 9)] [])) (Ag (call 75 [.sc (.int .i64 a0_0),.sc (.int .i64 (↑Fn:Int))]) fun x6 x7=>Ac x7<|Ab x6 fun x8 x9=>Bj x8 fun Cl=>Ac x9<|A9 Cl (some (A0.mk [.own 1 0 [],.sc (.int .i64 9)] [])) (A9 ((↑RC:Int) != 18) (some (A0.mk [.own 1 0 [],.sc (.int .i64 4)] [])) (Aa (wrap .u8 a0_0) fun Cw=>Aa (wrap .u8 (↑Fn:Int)) fun Dl=>Ag (call 89 [.lst false 1 RC a0_1]) fun Ds Dk=>Ac Dk<|Ab Ds fun D9 Ea=>Es 1 D9 fun En E1=>Ac Ea<|Au (decide (0+En*1<=E1.length))<|Au (decide (List.length (List.take (En*1) (List.drop 0 E1))=En*1)&&decide ((2+En)*1<=1099511627776)&&decide (2+En<=1099511627776))<|Aa (2+En) fun Fg=>Aa ([.sc (.int .u8 Cw),.sc (.int .u8 Dl)]++List.take (En*1) (List.drop 0 E1)) fun Fp=>Ag (call 89 [.lst false 1 Fn a0_2]) fun Ho Hb=>Ac Hb<|Ab Ho fun Hr Dz=>Es 1 Hr fun Dq F5=>Ac Dz<|Au (decide (0+Dq*1<=F5.length))<|Au (decide (Fg*1<=Fp.length)&&decide (List.length (List.take (Dq*1) (List.drop 0 F5))=Dq*1)&&decide ((Fg+Dq)*1<=1099511627776)&&decide (Fg+Dq<=1099511627776))<|Aa (Fg+Dq) fun H3=>Aa (List.take (Fg*1) Fp++List.take (Dq*1) (List.drop 0 F5)) fun E2=>Au (decide (H3*1<=E2.length))<|some (A0.mk [.own 1 H3 (List.take (H3*1) E2),.sc (.int .i64 0)] []))))) (Ae (CX xs) Tryz.prog fu d):=by kernel_rfl
abbrev Iu:FuncId:=54
theorem Qr {xs:FuncId->Option (List PV->Option A0)} (fu d a0n:Nat)(a0:List PV):Ae (CX xs) Tryz.prog fu (d+1) Iu [.lst false 1 a0n a0]=(fun (call:Ah)=>A9 (decide ((↑a0n:Int)<2)) (some (A0.mk [.agg [.sc (.int .i64 0),.own 1 0 [],.own 1 0 []],.sc (.int .i64 2)] [])) (Au (decide (0<(↑a0n:Int)))<|Ad .u8 (List.getD a0 0 .top) fun x1=>Aa (wrap .i64 x1) fun x2=>Au (decide (1<(↑a0n:Int)))<|Ad .u8 (List.getD a0 1 .top) fun x3=>Aa (wrap .i64 x3) fun x4=>Ag (call 74 [.sc (.int .i64 x4)]) fun x5 x6=>Ac x6<|Ab x5 fun x7 x8=>Bj x7 fun x9=>Ac x8<|A9 x9 (some (A0.mk [.agg [.sc (.int .i64 0),.own 1 0 [],.own 1 0 []],.sc (.int .i64 2)] [])) (Ag (call 75 [.sc (.int .i64 x2),.sc (.int .i64 x4)]) fun Cl Cw=>Ac Cw<|Ab Cl fun Dl Ds=>Bj Dl fun Dk=>Ac Ds<|A9 Dk (some (A0.mk [.agg [.sc (.int .i64 0),.own 1 0 [],.own 1 0 []],.sc (.int .i64 2)] [])) (Aa (wrap .i64 (18+x4)) fun D9=>Aa (wrap .i64 (8*D9)) fun Ea=>Aa (wrap .i64 (2+Ea)) fun En=>A9 ((↑a0n:Int) != En) (some (A0.mk [.agg [.sc (.int .i64 0),.own 1 0 [],.own 1 0 []],.sc (.int .i64 2)] [])) (Au (decide (146<=a0n))<|Aa (List.take 144 (List.drop 2 a0)) fun E1=>Ag (call 92 [.lst false 1 144 E1]) fun Fg Fp=>Ac Fp<|Ab Fg fun Ho Hb=>Es 1 Ho fun Hr Dz=>Ac Hb<|Au (decide (146<=a0n)&&decide (a0n<=a0n))<|Aa (a0n-146) fun Dq=>Aa (List.take (Dq*1) (List.drop 146 a0)) fun F5=>Ag (call 92 [.lst false 1 Dq F5]) fun H3 E2=>Ac E2<|Ab H3 fun Jg L6=>Es 1 Jg fun J3 Mp=>Ac L6<|Au (decide (Hr*1<=Dz.length))<|Au (decide (J3*1<=Mp.length))<|some (A0.mk [.agg [.sc (.int .i64 x2),.own 1 Hr (List.take (Hr*1) Dz),.own 1 J3 (List.take (J3*1) Mp)],.sc (.int .i64 0)] [])))))) (Ae (CX xs) Tryz.prog fu d):=by kernel_rfl
abbrev Su:FuncId:=41
noncomputable def Gd (fu:Nat)(call:Ah)(a0_0 a0_1:Int)(a1 Oz:Int)(Ie:Nat)(Rz:List PV)(H7:Nat)(Si:List PV)(nn:Nat)(y0:Int)(y1:Nat)(y2:List PV)(y3 y4:Int)(y5 y6 y7:Int)(y8:Nat)(y9:List PV)(y10:Nat)(Gk:List PV):Option A0:=Co CB Tryz.prog fu call 41 Tryz.f41 (Bm Tryz.f41) [.agg [.sc (.int .i64 a0_0),.sc (.int .u64 a0_1)],.sc (.int .u64 a1),.agg [.sc (.int .i64 Oz),.lst false 1 Ie Rz,.lst false 1 H7 Si]] [.r,.r,.r,.r,.r,.l,.r,.l] nn ⟨lk [(3,(.ptr 3 0)),(5,(.ptr 5 0)),(7,(.sc (.int .u64 y0))),(46,(.lst false 1 y1 y2)),(47,(.sc (.int .i64 y3))),(48,(.sc (.int .i64 y4)))],B7 [(3,(.st [(.sc (.int .i64 y5)),(.sc (.int .u64 y6))])),(5,(.st [(.sc (.int .i64 y7)),(.lst false 1 y8 y9),(.lst false 1 y10 Gk)]))]⟩
theorem Om (fu:Nat)(call:Ah)(a0_0 a0_1:Int)(a1 Oz:Int)(Ie:Nat)(Rz:List PV)(H7:Nat)(Si:List PV)(nn:Nat)(y0:Int)(y1:Nat)(y2:List PV)(y3 y4:Int)(y5 y6 y7:Int)(y8:Nat)(y9:List PV)(y10:Nat)(Gk:List PV):Gd fu call a0_0 a0_1 a1 Oz Ie Rz H7 Si (nn+1) y0 y1 y2 y3 y4 y5 y6 y7 y8 y9 y10 Gk=(A9 (decide (y4<y3)) (Au (decide (0<=y4)&&decide (y4<(↑y1:Int)))<|Ad .u64 (List.getD y2 (Int.toNat y4*1) .top) fun Fg=>Au (decide (0<=y4))<|Aa (D8 .i64 y7 y4) fun Fp=>Aa (Qu .i64 Fp 1) fun Ho=>A9 (Ho==0) (Aa (wrap .i64 (y4+1)) fun Hb=>Ag (call 82 [.sc (.int .i64 Hb),.sc (.int .u64 y0),.sc (.int .u64 Fg)]) fun Hr Dz=>Ac Dz<|Ab Hr fun Dq F5=>Ad .u64 Dq fun H3=>Ac F5<|Aa (wrap .i64 (y4+1)) fun E2=>Gd fu call a0_0 a0_1 a1 Oz Ie Rz H7 Si (nn) H3 (y1) (y2) (y3) E2 (y5) (y6) (y7) (y8) (y9) (y10) (Gk)) (Aa (wrap .i64 (y4+1)) fun Jg=>Ag (call 82 [.sc (.int .i64 Jg),.sc (.int .u64 Fg),.sc (.int .u64 y0)]) fun L6 J3=>Ac J3<|Ab L6 fun Mp Mg=>Ad .u64 Mp fun Nm=>Ac Mg<|Aa (wrap .i64 (y4+1)) fun Pt=>Gd fu call a0_0 a0_1 a1 Oz Ie Rz H7 Si (nn) Nm (y1) (y2) (y3) Pt (y5) (y6) (y7) (y8) (y9) (y10) (Gk))) (A9 (y0 != y6) (some (A0.mk [.sc (.int .i64 15)] [])) (some (A0.mk [.sc (.int .i64 0)] [])))):=by kernel_rfl
theorem FQ {xs:FuncId->Option (List PV->Option A0)} (fu d:Nat)(a0_0 a0_1:Int)(a1 Oz:Int)(Ie:Nat)(Rz:List PV)(H7:Nat)(Si:List PV):Ae (CX xs) Tryz.prog fu (d+1) Su [.agg [.sc (.int .i64 a0_0),.sc (.int .u64 a0_1)],.sc (.int .u64 a1),.agg [.sc (.int .i64 Oz),.lst false 1 Ie Rz,.lst false 1 H7 Si]]=(fun (call:Ah)=>Ag (call 74 [.sc (.int .i64 a0_0)]) fun x1 x2=>Ac x2<|Ab x1 fun x3 x4=>Bj x3 fun x5=>Ac x4<|A9 x5 (some (A0.mk [.sc (.int .i64 9)] [])) (Ag (call 75 [.sc (.int .i64 Oz),.sc (.int .i64 a0_0)]) fun x6 x7=>Ac x7<|Ab x6 fun x8 x9=>Bj x8 fun Cl=>Ac x9<|A9 Cl (some (A0.mk [.sc (.int .i64 9)] [])) (A9 ((↑Ie:Int) != 18) (some (A0.mk [.sc (.int .i64 4)] [])) (A9 ((↑H7:Int) != a0_0) (some (A0.mk [.sc (.int .i64 4)] [])) (Ag (call 81 [.sc (.int .i64 Oz),.sc (.int .u64 a1),.lst false 1 Ie Rz]) fun Cw Dl=>Ac Dl<|Ab Cw fun Ds Dk=>Ad .u64 Ds fun D9=>Ab Dk fun Ea En=>Ad .i64 Ea fun E1=>Ac En<|A9 (E1 != 0) (some (A0.mk [.sc (.int .i64 E1)] [])) (Gd fu call a0_0 a0_1 a1 Oz Ie Rz H7 Si (fu) D9 (H7) (Si) ((↑H7:Int)) 0 (a0_0) (a0_1) (Oz) (Ie) (Rz) (H7) (Si))))))) (Ae (CX xs) Tryz.prog fu d):=by kernel_rfl
end
section
open Go.IntKind (wrap)
theorem Anp {a m:Int}(h0:0<=m)(h1:m<=18446744073709551615):0<=Qu .u64 a m∧Qu .u64 a m<=m:=by
 have hle:(BitVec.ofInt 64 a &&& BitVec.ofInt 64 m).toNat<=m.toNat:=by
  rw [BitVec.toNat_and];refine Nat.le_trans Nat.and_le_right ?_;rw [BitVec.toNat_ofInt];omega
 have:Qu .u64 a m=((BitVec.ofInt 64 a &&& BitVec.ofInt 64 m).toNat:Int):=by
  unfold Qu;exact Cq (by omega) (by show ((BitVec.ofInt 64 a &&& BitVec.ofInt 64 m).toNat:Int)<=_;omega)
 rw [this];omega
theorem Ka (k:IntKind)(l:List Int)(i:Nat)(x:Int):(Af k l).set i (.sc (.int k x))=Af k (l.set i x):=by
 induction l generalizing i with
 |nil=>rfl
 |cons a l ih=>
  cases i with
  |zero=>rfl
  |succ i=>
   show (PV.sc (.int k a)::Af k l).set (i+1) _=PV.sc (.int k a)::Af k (l.set i x);rw [List.set_cons_succ,ih]
theorem VR (w:Int)(k:Nat):0<=Da w k∧Da w k<=255:=by
 unfold Da;simp only [wrap,IntKind.signed,IntKind.bits];simp;omega
theorem Adm (w:Int):Kw (D3 w):=by
 intro x hx;obtain ⟨k,_,rfl⟩:=List.mem_map.1 hx;exact VR w k
theorem Td (ws:List Int):Kw (A6 ws):=by
 intro x hx;obtain ⟨w,_,hx⟩:=List.mem_flatMap.1 hx;exact Adm w x hx
theorem Dm (ws:List Int):(A6 ws).length=8*ws.length:=by
 induction ws with
 |nil=>rfl
 |cons w ws ih=>
  show (D3 w++A6 ws).length=_;rw [Kh,ih,E9,Jd];omega
def Gn (m:Int)(k:Nat):Int:=wrap .i64 (Qu .u64 (D8 .u64 m (60-4*(k:Int))) 15)
theorem Rb (m:Int)(k:Nat):0<=Gn m k∧Gn m k<=15:=by
 have:=Anp (a:=D8 .u64 m (60-4*(k:Int))) (m:=15) (by omega) (by omega)
 unfold Gn;rw [Al (by omega) (by omega)]
 exact this
def Jm (m:Int):Nat->Int
 |0=>0
 |k+1=>Jm m k+(15-Gn m k)
theorem J4 (m:Int):∀k,0<=Jm m k∧Jm m k<=15*k
 |0=>by simp [Jm]
 |k+1=>by
  have h1:=J4 m k;have h2:=Rb m k;simp only [Jm];omega
def ON (m:Int):List Int:=(List.range 16).map (Gn m)++[Jm m 16 / 16,Jm m 16 % 16]
def dg (m:Int)(k:Nat):Int:=(ON m).getD k 0
theorem Adi (m:Int):(ON m).length=18:=rfl
theorem Amo {m x:Int}(h:x∈ON m):0<=x∧x<=15:=by
 have hs:=J4 m 16;unfold ON at h;rcases List.mem_append.1 h with h|h
 ·obtain ⟨k,_,rfl⟩:=List.mem_map.1 h;exact Rb m k
 ·simp at h;rcases h with rfl|rfl<;>omega
theorem S5 (m:Int)(k:Nat):0<=dg m k∧dg m k<=15:=by
 unfold dg;rw [List.getD_eq_getElem?_getD];cases h:(ON m)[k]? with
 |none=>simp
 |some x=>exact Amo (List.mem_of_getElem? h)
def dl (m:Int)(i:Nat):List Int:=(List.range i).map (Gn m)++List.replicate (18-i) 0
theorem Ab1 (m:Int){i:Nat}(h:i<=18):(dl m i).length=18:=by simp [dl];omega
theorem Ate (m:Int){i:Nat}(h:i<18):(dl m (i+1))[i]?=some (Gn m i):=by
 unfold dl;rw [List.getElem?_append_left (by simp)]
 simp
theorem Arf (m:Int){i:Nat}(h:i<18):(dl m i).set i (Gn m i)=dl m (i+1):=by
 unfold dl;rw [List.set_append_right _ _ (by simp),List.length_map,List.length_range,Nat.sub_self,show 18-i=(18-(i+1))+1 by omega,List.replicate_succ,List.set_cons_zero,List.range_succ,List.map_append,ZK]
 rfl
def Qv (leaf chain:Int):Nat->Int->Int->Int
 |0,_,x=>x
 |k+1,p,x=>Qv leaf chain k (p+1) (Nb 1 (A6 [wrap .u64 leaf,wrap .u64 chain,wrap .u64 p,x]))
theorem VD (leaf chain:Int):∀(k j:Nat)(p x:Int),Qv leaf chain (k+j) p x=Qv leaf chain j (p+k) (Qv leaf chain k p x)
 |0,j,p,x=>by simp [Qv]
 |k+1,j,p,x=>by
  rw [show k+1+j=(k+j)+1 by omega]
  simp only [Qv];rw [VD leaf chain k j]
  congr 1
  omega
def Y7 (leaf:Int)(E:List Int):Int:=Nb 2 (A6 (wrap .u64 leaf::E))
def Yo (leaf m:Int)(s:List Int)(k:Nat):Int:=Qv leaf k (15-dg m k).toNat (dg m k) (s.getD k 0)
def LO (leaf m:Int)(s:List Int):List Int:=(List.range 18).map (Yo leaf m s)
def RX (leaf m:Int)(s:List Int):Int:=Y7 leaf (LO leaf m s)
def el (leaf m:Int)(s:List Int)(i:Nat):List Int:=(List.range i).map (Yo leaf m s)++List.replicate (18-i) 0
theorem Ajz (leaf m:Int)(s:List Int){i:Nat}(h:i<=18):(el leaf m s i).length=18:=by simp [el];omega
theorem Aqd (leaf m:Int)(s:List Int){i:Nat}(h:i<18):(el leaf m s i).set i (Yo leaf m s i)=el leaf m s (i+1):=by
 unfold el;rw [List.set_append_right _ _ (by simp),List.length_map,List.length_range,Nat.sub_self,show 18-i=(18-(i+1))+1 by omega,List.replicate_succ,List.set_cons_zero,List.range_succ,List.map_append,ZK]
 rfl
theorem Atv (leaf m:Int)(s:List Int):el leaf m s 18=LO leaf m s:=by
 unfold el LO;simp
end
section
open Go.IntKind (wrap)
set_option maxRecDepth 20000
section
variable {fu d:Nat} {xs:FuncId->Option (List PV->Option A0)}
theorem Ai1 {ws:List Int}(hl:ws.length<=100)(hfu:1000<=fu)(dom:Int):Ae (CX xs) Tryz.prog fu (d+5) R0 [.sc (.int .i64 dom),.lst false 1 (A6 ws).length (Af .u8 (A6 ws))]=some ⟨[.sc (.int .u64 (Nb dom (A6 ws)))],[]⟩:=
 Ade (Td ws) (by rw [Dm];omega) (by omega) (by rw [Dm];omega) dom
theorem VX {leaf chain:Int}{a0 a1 a2 a3 a4:Int}(hfu:1000<=fu){t:Int}(ht:t<=15):∀(k nn:Nat)(p x:Int),(k:Int)=t-p->0<=p->k<nn ->
  Kj fu (Ae (CX xs) Tryz.prog fu (d+5)) a0 a1 a2 a3 a4 nn leaf chain x t p=some ⟨[.sc (.int .u64 (Qv leaf chain k p x))],[]⟩
 |_,0,_,_,_,_,h=>by omega
 |0,nn+1,p,x,hk,hp,hn=>by
  rw [S8,Dj _ _ _ (by omega)]
  rfl
 |k+1,nn+1,p,x,hk,hp,hn=>by
  have w:wrap .i64 (p+1)=p+1:=Al (by omega) (by omega)
  have wd:Ae (CX xs) Tryz.prog fu (d+5) Ft [.lst false 1 4 [.sc (.int .u64 (wrap .u64 leaf)),.sc (.int .u64 (wrap .u64 chain)),.sc (.int .u64 (wrap .u64 p)),.sc (.int .u64 x)]]=_:=Pw (ws:=[wrap .u64 leaf,wrap .u64 chain,wrap .u64 p,x]) (by simp) (by omega) (by simp;omega)
  have hs:=Ai1 (xs:=xs) (fu:=fu) (d:=d) (ws:=[wrap .u64 leaf,wrap .u64 chain,wrap .u64 p,x]) (by simp) hfu 1
  have ih:=VX (leaf:=leaf) (chain:=chain) (a0:=a0) (a1:=a1) (a2:=a2) (a3:=a3) (a4:=a4) hfu ht k nn (p+1) (Nb 1 (A6 [wrap .u64 leaf,wrap .u64 chain,wrap .u64 p,x])) (by omega) (by omega) (by omega)
  have L:=Am .u8 (A6 [wrap .u64 leaf,wrap .u64 chain,wrap .u64 p,x]);have eR:Qv leaf chain (k+1) p x=Qv leaf chain k (p+1) (Nb 1 (A6 [wrap .u64 leaf,wrap .u64 chain,wrap .u64 p,x])):=rfl;rw [eR];generalize A6 [wrap .u64 leaf,wrap .u64 chain,wrap .u64 p,x]=W at wd hs ih L ⊢;rw [S8];simp (disch:=omega) only [Bz,wd,B8,Br,E6,J7,L,hs,w];exact ih
theorem Aav {leaf chain:Int}(hfu:1000<=fu)(k:Nat)(f t x:Int)(hk:(k:Int)=t-f) (h0:0<=f)(h1:t<=15):Ae (CX xs) Tryz.prog fu (d+6) Ze [.sc (.int .i64 leaf),.sc (.int .i64 chain),.sc (.int .i64 f),.sc (.int .i64 t),.sc (.int .u64 x)]=some ⟨[.sc (.int .u64 (Qv leaf chain k f x))],[]⟩:=by
 rw [NW];simp only [Hl];rw [A5 (by omega),A5 (by omega)]
 exact VX hfu h1 k fu f x hk h0 (by omega)
theorem HR {call:Ah}{a0 m:Int}{y3:List PV}:∀(k i nn:Nat),i+k=16->k<nn ->
  Ga fu call a0 nn m (Jm m i) i y3 (Af .i64 (dl m i))=Ga fu call a0 (nn-k) m (Jm m 16) 16 y3 (Af .i64 (dl m 16))
 |_,_,0,_,h=>by omega
 |0,i,nn+1,hi,hn=>by
  have e:i=16:=by omega
  subst e;rfl
 |k+1,i,nn+1,hi,hn=>by
  have ih:=HR (call:=call) (a0:=a0) (y3:=y3) (m:=m) k (i+1) nn (by omega) (by omega)
  have hb:=Rb m i;have hs:=J4 m i;have w:wrap .i64 ((i:Int)+1)=((i+1:Nat):Int):=by rw [Al (by omega) (by omega)];omega
  have w4:wrap .i64 (4*(i:Int))=4*(i:Int):=Al (by omega) (by omega)
  have w60:wrap .i64 (60-4*(i:Int))=60-4*(i:Int):=Al (by omega) (by omega)
  have hd:wrap .i64 (Qu .u64 (D8 .u64 m (60-4*(i:Int))) 15)=Gn m i:=rfl;have w15:wrap .i64 (15-Gn m i)=15-Gn m i:=Al (by omega) (by omega)
  have ws:wrap .i64 (Jm m i+(15-Gn m i))=Jm m (i+1):=by rw [Al (by omega) (by omega)];rfl
  have L:(Af .i64 (dl m i)).length=18:=by rw [Am,Ab1 m (by omega)]
  have hset:Bd (Af .i64 (dl m i)) [.sc (.int .i64 (Gn m i))] i=Af .i64 (dl m (i+1)):=by
   rw [Fd (by omega),Ka,Arf m (by omega)]
  have hat:(Af .i64 (dl m (i+1))).getD i .top=.sc (.int .i64 (Gn m i)):=Vg (Ate m (by omega))
  rw [show nn+1-(k+1)=nn-k by omega,←ih,Of]
  simp (disch:=omega) only [Bz,Gu,B8,Br,w,w4,w60,hd,L,hset,hat,w15,ws]
theorem RN (hfu:1000<=fu)(m:Int):Ae (CX xs) Tryz.prog fu (d+1) R5 [.sc (.int .u64 m)]=some ⟨[.agg (Af .i64 (ON m))],[]⟩:=by
 rw [FY];have lp:=HR (fu:=fu) (call:=Ae (CX xs) Tryz.prog fu d) (a0:=m) (m:=m) (y3:=Af .i64 (List.replicate 18 0)) 16 0 fu (by omega) (by omega)
 obtain ⟨f',hf'⟩:∃f',fu-16=f'+1:=⟨fu-17,by omega⟩
 rw [hf'] at lp;refine Eq.trans lp ?_;have hs:=J4 m 16
 have wq:wrap .i64 (Int.tdiv (Jm m 16) 16)=Jm m 16 / 16:=by
  rw [Int.tdiv_eq_ediv_of_nonneg (by omega),Al (by omega) (by omega)]
 have wm:Int.tmod (Jm m 16) 16=Jm m 16 % 16:=Int.tmod_eq_emod_of_nonneg (by omega)
 have L:(Af .i64 (dl m 16)).length=18:=by rw [Am,Ab1 m (by omega)]
 have h1:Bd (Af .i64 (dl m 16)) [.sc (.int .i64 (Jm m 16 / 16))] 16=Af .i64 ((dl m 16).set 16 (Jm m 16 / 16)):=by
  rw [Fd (by omega),Ka]
 have L2:(Af .i64 ((dl m 16).set 16 (Jm m 16 / 16))).length=18:=by rw [Am,List.length_set,Ab1 m (by omega)]
 have h2:Bd (Af .i64 ((dl m 16).set 16 (Jm m 16 / 16))) [.sc (.int .i64 (Jm m 16 % 16))] 17=Af .i64 (ON m):=by
  rw [Fd (by omega),Ka]
  rfl
 rw [Of,Dj _ _ _ (by omega)]
 simp only [Hl,wq,wm,L,h1,L2,h2];generalize hq:Jm m 16 / 16=q at *
 generalize hr:Jm m 16 % 16=r at *
 have hD:Af .i64 (ON m)=[.sc (.int .i64 (Gn m 0)),.sc (.int .i64 (Gn m 1)),.sc (.int .i64 (Gn m 2)),.sc (.int .i64 (Gn m 3)),.sc (.int .i64 (Gn m 4)),.sc (.int .i64 (Gn m 5)),.sc (.int .i64 (Gn m 6)),.sc (.int .i64 (Gn m 7)),.sc (.int .i64 (Gn m 8)),.sc (.int .i64 (Gn m 9)),.sc (.int .i64 (Gn m 10)),.sc (.int .i64 (Gn m 11)),.sc (.int .i64 (Gn m 12)),.sc (.int .i64 (Gn m 13)),.sc (.int .i64 (Gn m 14)),.sc (.int .i64 (Gn m 15)),.sc (.int .i64 q),.sc (.int .i64 r)]:=by
  unfold ON;rw [hq,hr];rfl
 rw [hD];have hr18:(Af .i64 (List.replicate 18 0)).length=18:=rfl
 have hsp:∀c:List PV,c.length=18->Bd (Af .i64 (List.replicate 18 0)) c 0=c:=by
  intro c hc;unfold Bd;rw [hc,List.drop_of_length_le (by rw [hr18];omega)]
  simp
 rw [Yb (hnn:=by omega)]
 simp only [Bz,List.getD_cons_zero,List.getD_cons_succ,hr18];rw [hsp _ rfl];simp (disch:=omega) only [Bz,X5,List.getD_cons_zero,List.getD_cons_succ]
theorem NA (hfu:1000<=fu)(leaf:Int){E:List Int}(hE:E.length=18):Ae (CX xs) Tryz.prog fu (d+6) Q2 [.sc (.int .i64 leaf),.agg (Af .u64 E)]=some ⟨[.sc (.int .u64 (Y7 leaf E))],[]⟩:=by
 match E,hE with
 |[e0,e1,e2,e3,e4,e5,e6,e7,e8,e9,e10,e11,e12,e13,e14,e15,e16,e17],_=>
  have wd:Ae (CX xs) Tryz.prog fu (d+5) Ft [.lst false 1 19 [.sc (.int .u64 (wrap .u64 leaf)),.sc (.int .u64 e0),.sc (.int .u64 e1),.sc (.int .u64 e2),.sc (.int .u64 e3),.sc (.int .u64 e4),.sc (.int .u64 e5),.sc (.int .u64 e6),.sc (.int .u64 e7),.sc (.int .u64 e8),.sc (.int .u64 e9),.sc (.int .u64 e10),.sc (.int .u64 e11),.sc (.int .u64 e12),.sc (.int .u64 e13),.sc (.int .u64 e14),.sc (.int .u64 e15),.sc (.int .u64 e16),.sc (.int .u64 e17)]]=_:=Pw (ws:=wrap .u64 leaf::[e0,e1,e2,e3,e4,e5,e6,e7,e8,e9,e10,e11,e12,e13,e14,e15,e16,e17]) (by simp) (by omega) (by simp;omega)
  have hs:=Ai1 (xs:=xs) (fu:=fu) (d:=d) (ws:=wrap .u64 leaf::[e0,e1,e2,e3,e4,e5,e6,e7,e8,e9,e10,e11,e12,e13,e14,e15,e16,e17]) (by simp) hfu 2
  have L:=Am .u8 (A6 (wrap .u64 leaf::[e0,e1,e2,e3,e4,e5,e6,e7,e8,e9,e10,e11,e12,e13,e14,e15,e16,e17]));have eR:Y7 leaf [e0,e1,e2,e3,e4,e5,e6,e7,e8,e9,e10,e11,e12,e13,e14,e15,e16,e17]=Nb 2 (A6 (wrap .u64 leaf::[e0,e1,e2,e3,e4,e5,e6,e7,e8,e9,e10,e11,e12,e13,e14,e15,e16,e17])):=rfl;rw [eR];generalize A6 (wrap .u64 leaf::[e0,e1,e2,e3,e4,e5,e6,e7,e8,e9,e10,e11,e12,e13,e14,e15,e16,e17])=W at wd hs L ⊢;refine (DN fu (d+5) leaf e0 e1 e2 e3 e4 e5 e6 e7 e8 e9 e10 e11 e12 e13 e14 e15 e16 e17).trans ?_;simp (disch:=omega) only [Bz,wd,B8,Br,E6,J7,L,hs]
theorem Am0 (g:Nat->Int){i:Nat}(hi:i<18):List.getD [PV.sc (.int .i64 (g 0)),PV.sc (.int .i64 (g 1)),PV.sc (.int .i64 (g 2)),PV.sc (.int .i64 (g 3)),PV.sc (.int .i64 (g 4)),PV.sc (.int .i64 (g 5)),PV.sc (.int .i64 (g 6)),PV.sc (.int .i64 (g 7)),PV.sc (.int .i64 (g 8)),PV.sc (.int .i64 (g 9)),PV.sc (.int .i64 (g 10)),PV.sc (.int .i64 (g 11)),PV.sc (.int .i64 (g 12)),PV.sc (.int .i64 (g 13)),PV.sc (.int .i64 (g 14)),PV.sc (.int .i64 (g 15)),PV.sc (.int .i64 (g 16)),PV.sc (.int .i64 (g 17))] i PV.top=.sc (.int .i64 (g i)):=by
 have:((List.range 18).map g)[i]?=some (g i):=by simp [hi]
 exact Vg (k:=.i64) this
theorem DV {a0 a1:Int}{a2n:Nat}{a2:List PV}{leaf m:Int}{s:List Int}(hs:s.length=18)(hfu:1000<=fu)(g:Nat->Int)(hg:∀k,g k=dg m k):∀(k i nn:Nat),i+k=18->k<nn ->
  Eo fu (Ae (CX xs) Tryz.prog fu (d+6)) a0 a1 a2n a2 nn leaf s.length (Af .u64 s) (g 0) (g 1) (g 2) (g 3) (g 4) (g 5) (g 6) (g 7) (g 8) (g 9) (g 10) (g 11) (g 12) (g 13) (g 14) (g 15) (g 16) (g 17) i (Af .u64 (el leaf m s i)) =
   Eo fu (Ae (CX xs) Tryz.prog fu (d+6)) a0 a1 a2n a2 (nn-k) leaf s.length (Af .u64 s) (g 0) (g 1) (g 2) (g 3) (g 4) (g 5) (g 6) (g 7) (g 8) (g 9) (g 10) (g 11) (g 12) (g 13) (g 14) (g 15) (g 16) (g 17) 18 (Af .u64 (el leaf m s 18))
 |_,_,0,_,h=>by omega
 |0,i,nn+1,hi,hn=>by
  have e:i=18:=by omega
  subst e;rfl
 |k+1,i,nn+1,hi,hn=>by
  have ih:=DV (a0:=a0) (a1:=a1) (a2n:=a2n) (a2:=a2) (leaf:=leaf) (m:=m) hs hfu g hg k (i+1) nn (by omega) (by omega)
  obtain ⟨x,hx⟩:∃x,s[i]?=some x:=⟨_,List.getElem?_eq_getElem (by omega)⟩
  have hb:=S5 m i;have hgi:=Am0 g (i:=i) (by omega)
  have w:wrap .i64 ((i:Int)+1)=((i+1:Nat):Int):=by rw [Al (by omega) (by omega)];omega
  have rn:=Aav (xs:=xs) (fu:=fu) (d:=d) (leaf:=leaf) (chain:=i) hfu (15-dg m i).toNat (g i) 15 x (by rw [hg];omega) (by rw [hg];omega) (by omega)
  have ev:Qv leaf i (15-dg m i).toNat (g i) x=Yo leaf m s i:=by
   unfold Yo;rw [List.getD_eq_getElem?_getD,hx,hg];rfl
  rw [ev] at rn;have L:(Af .u64 (el leaf m s i)).length=18:=by rw [Am,Ajz leaf m s (by omega)]
  have hset:Bd (Af .u64 (el leaf m s i)) [.sc (.int .u64 (Yo leaf m s i))] i=Af .u64 (el leaf m s (i+1)):=by
   rw [Fd (by omega),Ka,Aqd leaf m s (by omega)]
  rw [show nn+1-(k+1)=nn-k by omega,←ih,Nf]
  simp (disch:=omega) only [Bz,Gu,B8,Br,hgi,Vg hx,rn,L,hset,w]
theorem VN (hfu:1000<=fu){a0 a1 leaf:Int}{a2n n nn:Nat}{a2 c:List PV}{g:Nat->Int}{E:List Int}(hE:E.length=18):
  Eo fu (Ae (CX xs) Tryz.prog fu (d+6)) a0 a1 a2n a2 (nn+1) leaf n c (g 0) (g 1) (g 2) (g 3) (g 4) (g 5) (g 6) (g 7) (g 8) (g 9) (g 10) (g 11) (g 12) (g 13) (g 14) (g 15) (g 16) (g 17) 18 (Af .u64 E)=some ⟨[.sc (.int .u64 (Y7 leaf E)),.sc (.int .i64 0)],[]⟩:=by
 match E,hE with
 |[e0,e1,e2,e3,e4,e5,e6,e7,e8,e9,e10,e11,e12,e13,e14,e15,e16,e17],hE=>
  have cb:=NA (xs:=xs) (fu:=fu) (d:=d) hfu leaf hE;have hc:Af .u64 [e0,e1,e2,e3,e4,e5,e6,e7,e8,e9,e10,e11,e12,e13,e14,e15,e16,e17]=[.sc (.int .u64 e0),.sc (.int .u64 e1),.sc (.int .u64 e2),.sc (.int .u64 e3),.sc (.int .u64 e4),.sc (.int .u64 e5),.sc (.int .u64 e6),.sc (.int .u64 e7),.sc (.int .u64 e8),.sc (.int .u64 e9),.sc (.int .u64 e10),.sc (.int .u64 e11),.sc (.int .u64 e12),.sc (.int .u64 e13),.sc (.int .u64 e14),.sc (.int .u64 e15),.sc (.int .u64 e16),.sc (.int .u64 e17)]:=rfl;rw [hc] at cb ⊢;generalize Y7 leaf [e0,e1,e2,e3,e4,e5,e6,e7,e8,e9,e10,e11,e12,e13,e14,e15,e16,e17]=R at cb ⊢;rw [Nf,Dj _ _ _ (by omega)]
  simp (disch:=omega) only [Bz,W5,Xa,List.getD_cons_zero,List.getD_cons_succ,cb]
theorem Aam (hfu:1000<=fu)(leaf m:Int)(s:List Int):Ae (CX xs) Tryz.prog fu (d+7) Q7 [.sc (.int .i64 leaf),.sc (.int .u64 m),.lst false 1 s.length (Af .u64 s)]=some ⟨(if s.length=18 then [.sc (.int .u64 (RX leaf m s)),.sc (.int .i64 0)] else [.sc (.int .u64 0),.sc (.int .i64 4)]),[]⟩:=by
 rw [BZ];by_cases h:s.length=18
 ·have dq:=RN (xs:=xs) (fu:=fu) (d:=d+5) hfu m;have hD:Af .i64 (ON m)=[.sc (.int .i64 (dg m 0)),.sc (.int .i64 (dg m 1)),.sc (.int .i64 (dg m 2)),.sc (.int .i64 (dg m 3)),.sc (.int .i64 (dg m 4)),.sc (.int .i64 (dg m 5)),.sc (.int .i64 (dg m 6)),.sc (.int .i64 (dg m 7)),.sc (.int .i64 (dg m 8)),.sc (.int .i64 (dg m 9)),.sc (.int .i64 (dg m 10)),.sc (.int .i64 (dg m 11)),.sc (.int .i64 (dg m 12)),.sc (.int .i64 (dg m 13)),.sc (.int .i64 (dg m 14)),.sc (.int .i64 (dg m 15)),.sc (.int .i64 (dg m 16)),.sc (.int .i64 (dg m 17))]:=rfl;rw [hD] at dq;simp only [D5];rw [Bu h,Bu (by omega)]
  simp only [Bz,dq];have lp:=DV (xs:=xs) (fu:=fu) (d:=d) (a0:=leaf) (a1:=m) (a2n:=s.length) (a2:=Af .u64 s) (leaf:=leaf) (m:=m) h hfu (dg m) (fun _=>rfl) 18 0 fu (by omega) (by omega)
  obtain ⟨f',hf'⟩:∃f',fu-18=f'+1:=⟨fu-19,by omega⟩
  rw [hf'] at lp;refine Eq.trans lp ?_;have eE:el leaf m s 18=LO leaf m s:=Atv leaf m s;have hl:(LO leaf m s).length=18:=by rw [←eE,Ajz leaf m s (by omega)]
  have eR:RX leaf m s=Y7 leaf (LO leaf m s):=rfl;rw [eE,eR];exact VN hfu hl
 ·simp only [D5];rw [A5 h,A5 (by omega)]
end
end
section
open Go.IntKind (wrap)
structure Ky where
 h:Int
 root:Int
structure Sg where
 leaf:Int
 chains:List Int
 path:List Int
def Ky.cells (k:Ky):List PV:=[.sc (.int .i64 k.h),.sc (.int .u64 k.root)]
def Sg.cells (s:Sg):List PV:=[.sc (.int .i64 s.leaf),.lst false 1 s.chains.length (Af .u64 s.chains),.lst false 1 s.path.length (Af .u64 s.path)]
def Dh (h:Int):Bool:=decide (h<0)||decide (h>4)
def Ip (leaf h:Int):Bool:=decide (leaf<0)||decide (leaf>=Hc .i64 1 h)
def Mo (level a b:Int):Int:=Nb 3 (A6 [wrap .u64 level,a,b])
def Wy (leaf:Int):Nat->Int->List Int->Int
 |_,x,[]=>x
 |i,x,s::r=>Wy leaf (i+1) (if Qu .i64 (D8 .i64 leaf i) 1=0 then Mo ((i+1:Nat):Int) x s else Mo ((i+1:Nat):Int) s x) r
def okE (x root:Int):Int:=if x=root then 0 else 15
theorem JU (leaf:Int)(i:Nat)(x:Int):Wy leaf i x []=x:=rfl
theorem Wk (leaf:Int)(i:Nat)(x s:Int)(r:List Int):Wy leaf i x (s::r)=Wy leaf (i+1) (if Qu .i64 (D8 .i64 leaf i) 1=0 then Mo ((i+1:Nat):Int) x s else Mo ((i+1:Nat):Int) s x) r:=rfl
def OK (k:Ky)(m:Int)(s:Sg):Int:=
 if Dh k.h=true then 9 else if Ip s.leaf k.h=true then 9 else if s.chains.length≠18 then 4 else if (s.path.length:Int)≠k.h then 4 else
 okE (Wy s.leaf 0 (RX s.leaf m s.chains) s.path) k.root
theorem H2 {h:Int}(hh:Dh h=false):0<=h∧h<=4:=by
 unfold Dh at hh;simp at hh;omega
section
variable {fu d:Nat} {xs:FuncId->Option (List PV->Option A0)}
theorem Ui (h:Int):Ae (CX xs) Tryz.prog fu (d+1) Ku [.sc (.int .i64 h)]=some ⟨[.sc (.bool (Dh h))],[]⟩:=by
 rw [ND];unfold Dh;by_cases h0:h<0
 ·simp only [Bz,EP,h0,decide_true,Bool.true_or,if_true]
 ·simp only [Bz,EP,h0,decide_false,Bool.false_or,if_false]
theorem Px (leaf h:Int)(h0:0<=h):Ae (CX xs) Tryz.prog fu (d+1) H0 [.sc (.int .i64 leaf),.sc (.int .i64 h)]=some ⟨[.sc (.bool (Ip leaf h))],[]⟩:=by
 rw [EE];unfold Ip;by_cases hl:leaf<0
 ·simp only [Bz,EP,hl,decide_true,Bool.true_or,if_true]
 ·simp (disch:=omega) only [Bz,EP,hl,decide_false,Bool.false_or,if_false]
theorem FA (hfu:1000<=fu)(level a b:Int):Ae (CX xs) Tryz.prog fu (d+6) Mh [.sc (.int .i64 level),.sc (.int .u64 a),.sc (.int .u64 b)]=some ⟨[.sc (.int .u64 (Mo level a b))],[]⟩:=by
 have wd:Ae (CX xs) Tryz.prog fu (d+5) Ft [.lst false 1 3 [.sc (.int .u64 (wrap .u64 level)),.sc (.int .u64 a),.sc (.int .u64 b)]]=_:=Pw (ws:=[wrap .u64 level,a,b]) (by simp) (by omega) (by simp;omega)
 have hs:=Ai1 (xs:=xs) (fu:=fu) (d:=d) (ws:=[wrap .u64 level,a,b]) (by simp) hfu 3
 have L:=Am .u8 (A6 [wrap .u64 level,a,b]);rw [ES];unfold Mo;generalize A6 [wrap .u64 level,a,b]=W at wd hs L ⊢;simp (disch:=omega) only [Bz,wd,B8,Br,E6,J7,L,hs]
theorem GR {a0 a1 a2 a3:Int}{n1 n2 n3 n4:Nat}{c1 c2 c3 c4:List PV}{y5 root leaf:Int}{path:List Int}(hp:path.length<=100)(hfu:1000<=fu):∀(r:List Int)(i nn:Nat)(x:Int),path.drop i=r->r.length<nn->i<=path.length ->
  Gd fu (Ae (CX xs) Tryz.prog fu (d+6)) a0 a1 a2 a3 n1 c1 n2 c2 nn x path.length (Af .u64 path) path.length i y5 root leaf n3 c3 n4 c4=some ⟨[.sc (.int .i64 (okE (Wy leaf i x r) root))],[]⟩
 |_,_,0,_,_,h,_=>by omega
 |[],i,nn+1,x,h,hn,hi=>by
  have:=drop_nil h;rw [Om,Dj _ _ _ (by omega),D5]
  rw [JU];unfold okE;by_cases e:x=root
  ·rw [Bu e,Bu e]
  ·rw [A5 e,A5 e]
 |s::r,i,nn+1,x,h,hn,hi=>by
  obtain ⟨h1,h2,h3⟩:=B3 h;simp only [Jd] at hn;have w:wrap .i64 ((i:Int)+1)=((i+1:Nat):Int):=by rw [Al (by omega) (by omega)];omega
  have ih:=fun x=>GR (a0:=a0) (a1:=a1) (a2:=a2) (a3:=a3) (n1:=n1) (n2:=n2) (n3:=n3) (n4:=n4) (c1:=c1) (c2:=c2) (c3:=c3) (c4:=c4) (y5:=y5) (root:=root) (leaf:=leaf) hp hfu r (i+1) nn x h3 (by omega) (by omega)
  have p1:=FA (xs:=xs) (fu:=fu) (d:=d) hfu ((i+1:Nat):Int) x s;have p2:=FA (xs:=xs) (fu:=fu) (d:=d) hfu ((i+1:Nat):Int) s x;rw [Om,Wk];by_cases hb:Qu .i64 (D8 .i64 leaf i) 1=0
  ·rw [Bu hb,←ih];simp (disch:=omega) only [Bz,Gu,B8,Vg h2,Eu,hb,w,p1,if_true]
  ·rw [A5 hb,←ih];simp (disch:=omega) only [Bz,Gu,B8,Vg h2,Eu,hb,w,p2,if_false]
theorem Afh (hfu:1000<=fu)(k:Ky)(m:Int)(s:Sg):Ae (CX xs) Tryz.prog fu (d+8) Su [.agg k.cells,.sc (.int .u64 m),.agg s.cells]=some ⟨[.sc (.int .i64 (OK k m s))],[]⟩:=by
 refine (FQ fu (d+7) k.h k.root m s.leaf s.chains.length (Af .u64 s.chains) s.path.length (Af .u64 s.path)).trans ?_;have h1:=Ui (xs:=xs) (fu:=fu) (d:=d+6) k.h;unfold OK;cases c1:Dh k.h
 ·rw [c1] at h1;have hb:=H2 c1;have h2:=Px (xs:=xs) (fu:=fu) (d:=d+6) s.leaf k.h hb.1;cases c2:Ip s.leaf k.h
  ·rw [c2] at h2;by_cases c3:s.chains.length=18
   ·by_cases c4:(s.path.length:Int)=k.h
    ·have rc:=Aam (xs:=xs) (fu:=fu) (d:=d) hfu s.leaf m s.chains;rw [Bu c3] at rc;have vl:=GR (xs:=xs) (fu:=fu) (d:=d+1) (a0:=k.h) (a1:=k.root) (a2:=m) (a3:=s.leaf) (n1:=s.chains.length) (n2:=s.path.length) (n3:=s.chains.length) (n4:=s.path.length) (c1:=Af .u64 s.chains) (c2:=Af .u64 s.path) (c3:=Af .u64 s.chains) (c4:=Af .u64 s.path) (y5:=k.h) (root:=k.root) (leaf:=s.leaf) (path:=s.path) (by omega) hfu s.path 0 fu (RX s.leaf m s.chains) rfl (by omega) (by omega)
     rw [A5 (by simp),A5 (by simp),A5 (by omega),A5 (by omega),←vl]
     simp (disch:=omega) only [Bz,h1,h2,D5,rc,if_true,c4];rw [Bu (by omega)]
     rfl
    ·rw [A5 (by simp),A5 (by simp),A5 (by omega),Bu c4]
     simp (disch:=omega) only [Bz,h1,h2,D5,c4,if_false];rw [Bu (by omega)]
   ·rw [A5 (by simp),A5 (by simp),Bu c3]
    simp (disch:=omega) only [Bz,h1,h2,D5];rw [A5 (by omega)]
  ·rw [c2] at h2;rw [A5 (by simp),Bu rfl]
   simp (disch:=omega) only [Bz,h1,h2]
 ·rw [c1] at h1;rw [Bu rfl];simp (disch:=omega) only [Bz,h1]
def Jn (k:Ky):List Int:=wrap .u8 k.h::D3 k.root
def FG (s:Sg):List Int:=wrap .u8 s.leaf::wrap .u8 s.path.length::(A6 s.chains++A6 s.path)
theorem owd (hfu:1000<=fu)(w:Int):Ae (CX xs) Tryz.prog fu (d+1) Ft [.lst false 1 1 [.sc (.int .u64 w)]]=some ⟨[.own 1 8 (Af .u8 (D3 w))],[]⟩:=by
 have:=Pw (xs:=xs) (fu:=fu) (d:=d) (ws:=[w]) (by simp) (by omega) (by simp;omega)
 simp only [A6,List.flatMap_cons,List.flatMap_nil,List.append_nil,Jd,Zw,E9] at this;exact this
theorem Ad1 (hfu:1000<=fu)(k:Ky):Ae (CX xs) Tryz.prog fu (d+2) Ov [.agg k.cells]=some ⟨(if Dh k.h=true then [.own 1 0 [],.sc (.int .i64 9)] else [.own 1 9 (Af .u8 (Jn k)),.sc (.int .i64 0)]),[]⟩:=by
 refine (X8 fu (d+1) k.h k.root).trans ?_;have h1:=Ui (xs:=xs) (fu:=fu) (d:=d) k.h;have wd:=owd (xs:=xs) (fu:=fu) (d:=d) hfu k.root;have L:=Am .u8 (D3 k.root);rw [E9] at L;have t8:List.take 8 (Af .u8 (D3 k.root))=Af .u8 (D3 k.root):=Tp (by omega)
 have t9:List.take 9 ([PV.sc (.int .u8 (wrap .u8 k.h))]++Af .u8 (D3 k.root))=Af .u8 (Jn k):=by
  rw [Tp (by rw [Kh,L];simp)]
  rfl
 have L9:([PV.sc (.int .u8 (wrap .u8 k.h))]++Af .u8 (D3 k.root)).length=9:=by rw [Kh,L];rfl
 cases c1:Dh k.h
 ·rw [c1] at h1;rw [A5 (by simp)]
  simp (disch:=omega) only [Bz,h1,wd,B8,Br,E6,L,t8,Nat.reduceAdd,L9,t9]
 ·rw [c1] at h1;rw [Bu rfl];simp (disch:=omega) only [Bz,h1]
theorem Aer (hfu:1000<=fu)(s:Sg)(hp:s.path.length<=1000000000)(hf:s.path.length<fu):Ae (CX xs) Tryz.prog fu (d+2) Ir [.agg s.cells]=some ⟨(if Dh s.path.length=true then [.own 1 0 [],.sc (.int .i64 9)] else if Ip s.leaf s.path.length=true then [.own 1 0 [],.sc (.int .i64 9)] else if s.chains.length≠18 then [.own 1 0 [],.sc (.int .i64 4)] else [.own 1 (FG s).length (Af .u8 (FG s)),.sc (.int .i64 0)]),[]⟩:=by
 refine (Qx fu (d+1) s.leaf s.chains.length (Af .u64 s.chains) s.path.length (Af .u64 s.path)).trans ?_;have h1:=Ui (xs:=xs) (fu:=fu) (d:=d) s.path.length;cases c1:Dh s.path.length
 ·rw [c1] at h1;have hb:=H2 c1;have h2:=Px (xs:=xs) (fu:=fu) (d:=d) s.leaf s.path.length hb.1;cases c2:Ip s.leaf s.path.length
  ·rw [c2] at h2;by_cases c3:s.chains.length=18
   ·have w1:=Pw (xs:=xs) (fu:=fu) (d:=d) (ws:=s.chains) (by omega) (by omega) (by omega)
    have w2:=Pw (xs:=xs) (fu:=fu) (d:=d) (ws:=s.path) (by omega) (by omega) (by omega)
    have l1:=Dm s.chains;have l2:=Dm s.path;have L1:=Am .u8 (A6 s.chains);have L2:=Am .u8 (A6 s.path)
    have eB:Af .u8 (FG s)=[PV.sc (.int .u8 (wrap .u8 s.leaf)),PV.sc (.int .u8 (wrap .u8 s.path.length))]++Af .u8 (A6 s.chains)++Af .u8 (A6 s.path):=by
     unfold FG;simp
    have eL:(FG s).length=2+(A6 s.chains).length+(A6 s.path).length:=by
     unfold FG;simp;omega
    rw [A5 (by simp),A5 (by simp),A5 (by omega),eB,eL]
    have t2:List.take (2+(A6 s.chains).length) ([PV.sc (.int .u8 (wrap .u8 s.leaf)),PV.sc (.int .u8 (wrap .u8 s.path.length))]++Af .u8 (A6 s.chains))=[PV.sc (.int .u8 (wrap .u8 s.leaf)),PV.sc (.int .u8 (wrap .u8 s.path.length))]++Af .u8 (A6 s.chains):=Tp (by rw [Kh,L1];simp)
    have t3:List.take (2+(A6 s.chains).length+(A6 s.path).length) ([PV.sc (.int .u8 (wrap .u8 s.leaf)),PV.sc (.int .u8 (wrap .u8 s.path.length))]++Af .u8 (A6 s.chains)++Af .u8 (A6 s.path))=[PV.sc (.int .u8 (wrap .u8 s.leaf)),PV.sc (.int .u8 (wrap .u8 s.path.length))]++Af .u8 (A6 s.chains)++Af .u8 (A6 s.path):=Tp (by rw [Kh,Kh,L1,L2];simp)
    have k2:([PV.sc (.int .u8 (wrap .u8 s.leaf)),PV.sc (.int .u8 (wrap .u8 s.path.length))]++Af .u8 (A6 s.chains)).length=2+(A6 s.chains).length:=by rw [Kh,L1];rfl
    have k3:([PV.sc (.int .u8 (wrap .u8 s.leaf)),PV.sc (.int .u8 (wrap .u8 s.path.length))]++Af .u8 (A6 s.chains)++Af .u8 (A6 s.path)).length=2+(A6 s.chains).length+(A6 s.path).length:=by rw [Kh,k2,L2]
    simp (disch:=omega) only [Bz,h1,h2,D5,w1,w2,B8,Br,E6,L1,L2,J7,t2,t3,k2,k3];rw [Bu (by omega)]
   ·rw [A5 (by simp),A5 (by simp),Bu c3]
    simp (disch:=omega) only [Bz,h1,h2,D5];rw [A5 (by omega)]
  ·rw [c2] at h2;rw [A5 (by simp),Bu rfl]
   simp (disch:=omega) only [Bz,h1,h2]
 ·rw [c1] at h1;rw [Bu rfl];simp (disch:=omega) only [Bz,h1]
def R1 (l:List Int)(i:Nat):Int:=NJ ((l.drop (8*i)).take 8)
def Fv (l:List Int):List Int:=(List.range (l.length / 8)).map (R1 l)
def wl (l:List Int)(i:Nat):List Int:=(List.range i).map (R1 l)++List.replicate (l.length / 8-i) 0
theorem Aie (l:List Int){i:Nat}(h:i<=l.length / 8):(wl l i).length=l.length / 8:=by simp [wl];omega
theorem Ao3 (l:List Int){i:Nat}(h:i<l.length / 8):(wl l i).set i (R1 l i)=wl l (i+1):=by
 unfold wl;rw [List.set_append_right _ _ (by simp),List.length_map,List.length_range,Nat.sub_self,show l.length / 8-i=(l.length / 8-(i+1))+1 by omega,List.replicate_succ,List.set_cons_zero,List.range_succ,List.map_append,ZK]
 rfl
theorem Amk (l:List Int){i:Nat}(h:i<l.length / 8):(wl l i).set i 0=wl l i:=by
 unfold wl;rw [List.set_append_right _ _ (by simp),List.length_map,List.length_range,Nat.sub_self,show l.length / 8-i=(l.length / 8-(i+1))+1 by omega,List.replicate_succ,List.set_cons_zero]
theorem PG {n m0:Nat}{c:List PV}{l:List Int}(hl:l.length<=1000000){i:Nat}(hi:i<l.length / 8){q:List Int}(hq:q.length<=8):∀(r:List Int)(j nn:Nat)(x:Int),q.drop j=r->r.length<nn->j<=q.length ->
  Iq fu (Ae (CX xs) Tryz.prog fu d) n c m0 nn l.length (Af .u8 l) (l.length / 8) i ((l.length / 8:Nat):Int) i q.length (Af .u8 q) q.length j (Af .u64 ((wl l i).set i x)) =
   G2 fu (Ae (CX xs) Tryz.prog fu d) n c m0 l.length (Af .u8 l) (l.length / 8) ((l.length / 8:Nat):Int) ((i+1:Nat):Int) (Af .u64 ((wl l i).set i (r.foldl Fo x)))
 |_,_,0,_,_,h,_=>by omega
 |[],j,nn+1,x,h,hn,hj=>by
  have:=drop_nil h;have w:wrap .i64 ((i:Int)+1)=((i+1:Nat):Int):=by rw [Al (by omega) (by omega)];omega
  rw [Py,Dj _ _ _ (by omega)]
  simp only [Hl,w,List.foldl_nil]
 |b::r,j,nn+1,x,h,hn,hj=>by
  obtain ⟨h1,h2,h3⟩:=B3 h;simp only [Jd] at hn;have w:wrap .i64 ((j:Int)+1)=((j+1:Nat):Int):=by rw [Al (by omega) (by omega)];omega
  have L:(Af .u64 ((wl l i).set i x)).length=l.length / 8:=by rw [Am,List.length_set,Aie l (by omega)]
  have hat:(Af .u64 ((wl l i).set i x)).getD i .top=.sc (.int .u64 x):=Vg (by rw [List.getElem?_set_self (by rw [Aie l (by omega)];omega)])
  have hset:Bd (Af .u64 ((wl l i).set i x)) [.sc (.int .u64 (Fo x b))] i=Af .u64 ((wl l i).set i (Fo x b)):=by
   rw [Fd (by omega),Ka,List.set_set]
  have ih:=PG (n:=n) (m0:=m0) (c:=c) hl hi hq r (j+1) nn (Fo x b) h3 (by omega) (by omega)
  rw [List.foldl_cons,←ih,Py];simp (disch:=omega) only [Bz,Gu,B8,Br,Vg h2,hat,L,w];exact congrArg _ hset
theorem GQ {n:Nat}{c:List PV}{l:List Int}(hl:l.length<=1000000)(hfu:100<=fu):∀(k i nn:Nat),i+k=l.length / 8->k<nn ->
  G2 fu (Ae (CX xs) Tryz.prog fu d) n c nn l.length (Af .u8 l) (l.length / 8) ((l.length / 8:Nat):Int) i (Af .u64 (wl l i))=some ⟨[.own 1 (l.length / 8) (Af .u64 (Fv l))],[]⟩
 |_,_,0,_,h=>by omega
 |0,i,nn+1,hi,hn=>by
  have e:i=l.length / 8:=by omega
  subst e;have e2:wl l (l.length / 8)=Fv l:=by unfold wl Fv;simp
  have L:(Af .u64 (Fv l)).length=l.length / 8:=by rw [Am];simp [Fv]
  have tk:List.take (l.length / 8) (Af .u64 (Fv l))=Af .u64 (Fv l):=Tp (by omega)
  rw [Qn,Dj _ _ _ (by omega),e2]
  simp (disch:=omega) only [Bz,B8,L,tk]
 |k+1,i,nn+1,hi,hn=>by
  have ih:=GQ (n:=n) (c:=c) hl hfu k (i+1) nn (by omega) (by omega)
  have w8:wrap .i64 (8*(i:Int))=((8*i:Nat):Int):=by rw [Al (by omega) (by omega)];omega
  have w88:wrap .i64 (((8*i:Nat):Int)+8)=((8*i+8:Nat):Int):=by rw [Al (by omega) (by omega)];omega
  have e8:8*i+8-8*i=8:=by omega
  have hdl:((l.drop (8*i)).take 8).length=8:=by rw [List.length_take,List.length_drop];omega
  have st:=PG (xs:=xs) (fu:=fu) (d:=d) (n:=n) (m0:=nn) (c:=c) hl (i:=i) (by omega) (q:=(l.drop (8*i)).take 8) (by omega) ((l.drop (8*i)).take 8) 0 fu 0 rfl (by omega) (by omega)
  rw [Amk l (by omega),hdl] at st
  have ew:((l.drop (8*i)).take 8).foldl Fo 0=R1 l i:=rfl;rw [ew,Ao3 l (by omega),ih] at st
  rw [Qn];simp (disch:=omega) only [Bz,Gu,B8,w8,w88,e8,Il,Pf];exact st
theorem JH (n:Nat):Sw n [.sc (.int .u64 0)]=Af .u64 (List.replicate n 0):=by
 induction n with
 |zero=>rfl
 |succ n ih=>
  show ([PV.sc (.int .u64 0)]::List.replicate n [PV.sc (.int .u64 0)]).flatten=_;rw [List.flatten_cons,List.replicate_succ];show _++Sw n [.sc (.int .u64 0)]=PV.sc (.int .u64 0)::Af .u64 (List.replicate n 0);rw [ih];rfl
theorem FI {l:List Int}(hl:l.length<=1000000)(hfu:100<=fu)(hf:l.length<fu):Ae (CX xs) Tryz.prog fu (d+1) U0 [.lst false 1 l.length (Af .u8 l)]=some ⟨[.own 1 (l.length / 8) (Af .u64 (Fv l))],[]⟩:=by
 rw [HT]
 have w:wrap .i64 (Int.tdiv (l.length:Int) 8)=((l.length / 8:Nat):Int):=by
  rw [Int.tdiv_eq_ediv_of_nonneg (by omega),Al (by omega) (by omega)]
  omega
 have lp:=GQ (xs:=xs) (fu:=fu) (d:=d) (n:=l.length) (c:=Af .u8 l) hl hfu (l.length / 8) 0 fu (by omega) (by omega)
 have e0:wl l 0=List.replicate (l.length / 8) 0:=by unfold wl;simp
 rw [e0] at lp;simp (disch:=omega) only [Bz,w,Gu,JH,Int.le_refl];exact lp
def NB (l:List Int):Option Ky:=if l.length=9∧Dh (l.getD 0 0)=false then some ⟨l.getD 0 0,R1 (l.drop 1) 0⟩ else none
def Aa2 (o:Option Ky):List PV:=match o with|some k=>[.agg k.cells,.sc (.int .i64 0)]|none=>[.agg (Ky.mk 0 0).cells,.sc (.int .i64 2)]
theorem Af0 (hfu:1000<=fu){l:List Int}(hb:Kw l):Ae (CX xs) Tryz.prog fu (d+2) Ou [.lst false 1 l.length (Af .u8 l)]=some ⟨Aa2 (NB l),[]⟩:=by
 refine (Ya fu (d+1) l.length (Af .u8 l)).trans ?_;unfold NB;by_cases h9:l.length=9
 ·obtain ⟨x,hx⟩:∃x,l[0]?=some x:=⟨_,List.getElem?_eq_getElem (by omega)⟩
  have hxb:=hb x (List.mem_of_getElem? hx);have wx:wrap .i64 x=x:=Al (by omega) (by omega)
  have gx:l.getD 0 0=x:=by rw [List.getD_eq_getElem?_getD,hx];rfl
  have h1:=Ui (xs:=xs) (fu:=fu) (d:=d) x;rw [gx];cases c1:Dh x
  ·rw [c1] at h1;have hdl:(l.drop 1).length=8:=by rw [List.length_drop];omega
   have dw:=FI (xs:=xs) (fu:=fu) (d:=d) (l:=l.drop 1) (by omega) (by omega) (by omega)
   rw [hdl] at dw;have hat:(Af .u64 (Fv (l.drop 1))).getD 0 .top=.sc (.int .u64 (R1 (l.drop 1) 0)):=Vg (by unfold Fv;rw [hdl];rfl)
   have e8:9-1=8:=rfl;have tk:List.take 8 (Af .u8 (l.drop 1))=Af .u8 (l.drop 1):=Tp (by rw [Am];omega)
   rw [Bu ⟨h9,rfl⟩,h9];simp (disch:=omega) only [Bz,D5,Vg hx,wx,h1,B8,Il,e8,tk,dw,hat];rfl
  ·rw [c1] at h1;rw [A5 (by simp),h9]
   simp (disch:=omega) only [Bz,D5,Vg hx,wx,h1];rfl
 ·rw [A5 (by simp [h9])]
  simp (disch:=omega) only [D5];rw [A5 (by omega)]
  rfl
def sgD (l:List Int):Option Sg:=
 if 2<=l.length∧Dh (l.getD 1 0)=false∧Ip (l.getD 0 0) (l.getD 1 0)=false∧(l.length:Int)=2+8*(18+l.getD 1 0) then some ⟨l.getD 0 0,Fv ((l.drop 2).take 144),Fv (l.drop 146)⟩ else none
def Sg.owned (s:Sg):List PV:=[.sc (.int .i64 s.leaf),.own 1 s.chains.length (Af .u64 s.chains),.own 1 s.path.length (Af .u64 s.path)]
def Ads (o:Option Sg):List PV:=match o with|some s=>[.agg s.owned,.sc (.int .i64 0)]|none=>[.agg (Sg.mk 0 [] []).owned,.sc (.int .i64 2)]
theorem Qh (l:List Int):(Fv l).length=l.length / 8:=by simp [Fv]
theorem Af4 (hfu:1000<=fu){l:List Int}(hb:Kw l):Ae (CX xs) Tryz.prog fu (d+2) Iu [.lst false 1 l.length (Af .u8 l)]=some ⟨Ads (sgD l),[]⟩:=by
 refine (Qr fu (d+1) l.length (Af .u8 l)).trans ?_;unfold sgD;by_cases h2:2<=l.length
 ·obtain ⟨x,hx⟩:∃x,l[0]?=some x:=⟨_,List.getElem?_eq_getElem (by omega)⟩
  obtain ⟨y,hy⟩:∃y,l[1]?=some y:=⟨_,List.getElem?_eq_getElem (by omega)⟩
  have hxb:=hb x (List.mem_of_getElem? hx);have hyb:=hb y (List.mem_of_getElem? hy);have wx:wrap .i64 x=x:=Al (by omega) (by omega)
  have wy:wrap .i64 y=y:=Al (by omega) (by omega)
  have gx:l.getD 0 0=x:=by rw [List.getD_eq_getElem?_getD,hx];rfl
  have gy:l.getD 1 0=y:=by rw [List.getD_eq_getElem?_getD,hy];rfl
  have h1:=Ui (xs:=xs) (fu:=fu) (d:=d) y;have ho:=Px (xs:=xs) (fu:=fu) (d:=d) x y (by omega)
  have w1:wrap .i64 (18+y)=18+y:=Al (by omega) (by omega)
  have w2:wrap .i64 (8*(18+y))=8*(18+y):=Al (by omega) (by omega)
  have w3:wrap .i64 (2+8*(18+y))=2+8*(18+y):=Al (by omega) (by omega)
  rw [gx,gy];cases c1:Dh y
  ·rw [c1] at h1;cases c2:Ip x y
   ·rw [c2] at ho;by_cases c3:(l.length:Int)=2+8*(18+y)
    ·have hy4:=H2 c1;have d1:=FI (xs:=xs) (fu:=fu) (d:=d) (l:=(l.drop 2).take 144) (by rw [List.length_take,List.length_drop];omega) (by omega) (by rw [List.length_take,List.length_drop];omega)
     have d2:=FI (xs:=xs) (fu:=fu) (d:=d) (l:=l.drop 146) (by rw [List.length_drop];omega) (by omega) (by rw [List.length_drop];omega)
     have l1:((l.drop 2).take 144).length=144:=by rw [List.length_take,List.length_drop];omega
     have l2:(l.drop 146).length=l.length-146:=List.length_drop;rw [l1] at d1;have L1:(Af .u64 (Fv ((l.drop 2).take 144))).length=18:=by rw [Am,Qh,l1]
     have L2:(Af .u64 (Fv (l.drop 146))).length=(l.length-146) / 8:=by rw [Am,Qh,l2]
     rw [l2] at d2;have t1:List.take (144 / 8) (Af .u64 (Fv ((l.drop 2).take 144)))=Af .u64 (Fv ((l.drop 2).take 144)):=Tp (by omega)
     have t2:List.take ((l.length-146) / 8) (Af .u64 (Fv (l.drop 146)))=Af .u64 (Fv (l.drop 146)):=Tp (by omega)
     have t3:List.take (l.length-146) (l.drop 146)=l.drop 146:=Tp (by omega)
     rw [Bu ⟨h2,rfl,rfl,c3⟩];simp (disch:=omega) only [Bz,D5,Vg hx,Vg hy,wx,wy,h1,ho,w1,w2,w3,B8,Il,Pf,d1,d2,t3,L1,L2,t1,t2];rw [Bu c3];simp only [Ads,Sg.owned,Qh,l1,l2]
    ·rw [A5 (by simp [c3])]
     simp (disch:=omega) only [Bz,D5,Vg hx,Vg hy,wx,wy,h1,ho,w1,w2,w3];rw [A5 c3];rfl
   ·rw [c2] at ho;rw [A5 (by simp)]
    simp (disch:=omega) only [Bz,D5,Vg hx,Vg hy,wx,wy,h1,ho];rfl
  ·rw [c1] at h1;rw [A5 (by simp)]
   simp (disch:=omega) only [Bz,D5,Vg hx,Vg hy,wx,wy,h1];rfl
 ·rw [A5 (by simp [h2])]
  simp (disch:=omega) only [Bz];rfl
end
end
section
open Go.IntKind (wrap)
def ER (seed leaf chain:Int):Int:=Amg seed 1 (A6 [wrap .u64 leaf,wrap .u64 chain])
def Xw (seed leaf:Int)(c:Nat):Int:=Qv leaf c 15 0 (ER seed leaf c)
def Ig (seed leaf:Int):Int:=Y7 leaf ((List.range 18).map (Xw seed leaf))
def Wz (seed leaf m:Int)(c:Nat):Int:=Qv leaf c (dg m c).toNat 0 (ER seed leaf c)
def I3 (seed leaf m:Int):List Int:=(List.range 18).map (Wz seed leaf m)
def B5 (seed:Int):Nat->Int->Int
 |0,i=>Ig seed i
 |l+1,i=>Mo ((l+1:Nat):Int) (B5 seed l (2*i)) (B5 seed l (2*i+1))
def Gz (seed:Int)(h:Int):Ky:=if Dh h=true then ⟨0,0⟩ else ⟨h,B5 seed h.toNat 0⟩
def Fy (leaf:Int)(k:Nat):Int:=D1 .i64 (D8 .i64 leaf k) 1
def BO (seed:Int)(h leaf m:Int):Option Sg:=if Dh h=true then none else if Ip leaf h=true then none else some ⟨leaf,I3 seed leaf m,(List.range h.toNat).map fun k=>B5 seed k (Fy leaf k)⟩
def UF (o:Option Sg):List PV:=match o with|some s=>[.agg s.owned,.sc (.int .i64 0)]|none=>[.agg (Sg.mk 0 [] []).owned,.sc (.int .i64 9)]
end
section
open Go.IntKind (wrap)
set_option maxRecDepth 20000
section
variable {fu d:Nat} {xs:FuncId->Option (List PV->Option A0)}
theorem Aq3 {l:List Int}(hb:Kw l)(hl:l.length<=1099511627776)(hfu:100<=fu)(hf:l.length<fu)(key dom:Int):Ae (CX xs) Tryz.prog fu (d+5) BS [.sc (.int .u64 key),.sc (.int .i64 dom),.lst false 1 l.length (Af .u8 l)]=some ⟨[.sc (.int .u64 (Amg key dom l))],[]⟩:=by
 rw [UL];have s:=Aj0 (xs:=xs) (fu:=fu) (d:=d) hb hl hfu hf key (wrap .u64 (1+wrap .u64 dom));simp only [Bz,s];rfl
theorem RO (hfu:1000<=fu)(seed leaf chain:Int):Ae (CX xs) Tryz.prog fu (d+6) Sv [.sc (.int .u64 seed),.sc (.int .i64 leaf),.sc (.int .i64 chain)]=some ⟨[.sc (.int .u64 (ER seed leaf chain))],[]⟩:=by
 have wd:Ae (CX xs) Tryz.prog fu (d+5) Ft [.lst false 1 2 [.sc (.int .u64 (wrap .u64 leaf)),.sc (.int .u64 (wrap .u64 chain))]]=_:=Pw (ws:=[wrap .u64 leaf,wrap .u64 chain]) (by simp) (by omega) (by simp;omega)
 have hs:=Aq3 (xs:=xs) (fu:=fu) (d:=d) (Td [wrap .u64 leaf,wrap .u64 chain]) (by rw [Dm];simp) (by omega) (by rw [Dm];simp;omega) seed 1
 have L:=Am .u8 (A6 [wrap .u64 leaf,wrap .u64 chain]);rw [FC];unfold ER;generalize A6 [wrap .u64 leaf,wrap .u64 chain]=W at wd hs L ⊢;simp (disch:=omega) only [Bz,wd,B8,Br,E6,J7,L,hs]
def pl (g:Nat->Int)(i:Nat):List Int:=(List.range i).map g++List.replicate (18-i) 0
theorem Aas (g:Nat->Int){i:Nat}(h:i<=18):(pl g i).length=18:=by simp [pl];omega
theorem Ail (g:Nat->Int){i:Nat}(h:i<18):(pl g i).set i (g i)=pl g (i+1):=by
 unfold pl;rw [List.set_append_right _ _ (by simp),List.length_map,List.length_range,Nat.sub_self,show 18-i=(18-(i+1))+1 by omega,List.replicate_succ,List.set_cons_zero,List.range_succ,List.map_append,ZK]
 rfl
theorem Ann (g:Nat->Int):pl g 18=(List.range 18).map g:=by simp [pl]
theorem GG {a0 a1 seed leaf:Int}(hfu:1000<=fu):∀(k i nn:Nat),i+k=18->k<nn ->
  Fb fu (Ae (CX xs) Tryz.prog fu (d+6)) a0 a1 nn seed leaf i (Af .u64 (pl (Xw seed leaf) i))=Fb fu (Ae (CX xs) Tryz.prog fu (d+6)) a0 a1 (nn-k) seed leaf 18 (Af .u64 (pl (Xw seed leaf) 18))
 |_,_,0,_,h=>by omega
 |0,i,nn+1,hi,hn=>by
  have e:i=18:=by omega
  subst e;rfl
 |k+1,i,nn+1,hi,hn=>by
  have ih:=GG (a0:=a0) (a1:=a1) (seed:=seed) (leaf:=leaf) hfu k (i+1) nn (by omega) (by omega)
  have w:wrap .i64 ((i:Int)+1)=((i+1:Nat):Int):=by rw [Al (by omega) (by omega)];omega
  have sc:=RO (xs:=xs) (fu:=fu) (d:=d) hfu seed leaf i;have rn:=Aav (xs:=xs) (fu:=fu) (d:=d) (leaf:=leaf) (chain:=i) hfu 15 0 15 (ER seed leaf i) (by omega) (by omega) (by omega)
  have ev:Qv leaf i 15 0 (ER seed leaf i)=Xw seed leaf i:=rfl;rw [ev] at rn;have L:(Af .u64 (pl (Xw seed leaf) i)).length=18:=by rw [Am,Aas _ (by omega)]
  have hset:Bd (Af .u64 (pl (Xw seed leaf) i)) [.sc (.int .u64 (Xw seed leaf i))] i=Af .u64 (pl (Xw seed leaf) (i+1)):=by
   rw [Fd (by omega),Ka,Ail _ (by omega)]
  rw [show nn+1-(k+1)=nn-k by omega,←ih,Oy]
  simp (disch:=omega) only [Bz,Gu,B8,Br,sc,rn,L,hset,w]
theorem ZX (hfu:1000<=fu){a0 a1 seed leaf:Int}{nn:Nat}{E:List Int}(hE:E.length=18):
  Fb fu (Ae (CX xs) Tryz.prog fu (d+6)) a0 a1 (nn+1) seed leaf 18 (Af .u64 E)=some ⟨[.sc (.int .u64 (Y7 leaf E))],[]⟩:=by
 match E,hE with
 |[e0,e1,e2,e3,e4,e5,e6,e7,e8,e9,e10,e11,e12,e13,e14,e15,e16,e17],hE=>
  have cb:=NA (xs:=xs) (fu:=fu) (d:=d) hfu leaf hE;have hc:Af .u64 [e0,e1,e2,e3,e4,e5,e6,e7,e8,e9,e10,e11,e12,e13,e14,e15,e16,e17]=[.sc (.int .u64 e0),.sc (.int .u64 e1),.sc (.int .u64 e2),.sc (.int .u64 e3),.sc (.int .u64 e4),.sc (.int .u64 e5),.sc (.int .u64 e6),.sc (.int .u64 e7),.sc (.int .u64 e8),.sc (.int .u64 e9),.sc (.int .u64 e10),.sc (.int .u64 e11),.sc (.int .u64 e12),.sc (.int .u64 e13),.sc (.int .u64 e14),.sc (.int .u64 e15),.sc (.int .u64 e16),.sc (.int .u64 e17)]:=rfl;rw [hc] at cb ⊢;generalize Y7 leaf [e0,e1,e2,e3,e4,e5,e6,e7,e8,e9,e10,e11,e12,e13,e14,e15,e16,e17]=R at cb ⊢;rw [Oy,Dj _ _ _ (by omega)]
  simp (disch:=omega) only [Bz,X4,X6,List.getD_cons_zero,List.getD_cons_succ,cb]
theorem Afr (hfu:1000<=fu)(seed leaf:Int):Ae (CX xs) Tryz.prog fu (d+7) Mi [.sc (.int .u64 seed),.sc (.int .i64 leaf)]=some ⟨[.sc (.int .u64 (Ig seed leaf))],[]⟩:=by
 rw [GD];have lp:=GG (xs:=xs) (fu:=fu) (d:=d) (a0:=seed) (a1:=leaf) (seed:=seed) (leaf:=leaf) hfu 18 0 fu (by omega) (by omega)
 obtain ⟨f',hf'⟩:∃f',fu-18=f'+1:=⟨fu-19,by omega⟩
 rw [hf'] at lp;refine Eq.trans lp ?_;rw [Ann];exact ZX hfu (by simp)
theorem PA {a0 a1 a2:Int}{seed leaf m:Int}(hfu:1000<=fu)(g:Nat->Int)(hg:∀k,g k=dg m k):∀(k i nn:Nat),i+k=18->k<nn ->
  Jc fu (Ae (CX xs) Tryz.prog fu (d+6)) a0 a1 a2 nn seed leaf (g 0) (g 1) (g 2) (g 3) (g 4) (g 5) (g 6) (g 7) (g 8) (g 9) (g 10) (g 11) (g 12) (g 13) (g 14) (g 15) (g 16) (g 17) i (Af .u64 (pl (Wz seed leaf m) i)) =
   some ⟨[.own 1 18 (Af .u64 (I3 seed leaf m))],[]⟩
 |_,_,0,_,h=>by omega
 |0,i,nn+1,hi,hn=>by
  have e:i=18:=by omega
  subst e;have L:(Af .u64 (pl (Wz seed leaf m) 18)).length=18:=by rw [Am,Aas _ (by omega)]
  have T:List.take 18 (Af .u64 (pl (Wz seed leaf m) 18))=Af .u64 (I3 seed leaf m):=by rw [Tp (by omega),Ann];rfl
  rw [Rf,Dj _ _ _ (by omega)]
  simp (disch:=omega) only [Bz,L,T]
 |k+1,i,nn+1,hi,hn=>by
  have ih:=PA (a0:=a0) (a1:=a1) (a2:=a2) (seed:=seed) (leaf:=leaf) (m:=m) hfu g hg k (i+1) nn (by omega) (by omega)
  have hb:=S5 m i;have hgi:=Am0 g (i:=i) (by omega)
  have w:wrap .i64 ((i:Int)+1)=((i+1:Nat):Int):=by rw [Al (by omega) (by omega)];omega
  have sc:=RO (xs:=xs) (fu:=fu) (d:=d) hfu seed leaf i;have rn:=Aav (xs:=xs) (fu:=fu) (d:=d) (leaf:=leaf) (chain:=i) hfu (dg m i).toNat 0 (g i) (ER seed leaf i) (by rw [hg];omega) (by omega) (by rw [hg];omega)
  have ev:Qv leaf i (dg m i).toNat 0 (ER seed leaf i)=Wz seed leaf m i:=rfl;rw [ev] at rn;have L:(Af .u64 (pl (Wz seed leaf m) i)).length=18:=by rw [Am,Aas _ (by omega)]
  have hset:Bd (Af .u64 (pl (Wz seed leaf m) i)) [.sc (.int .u64 (Wz seed leaf m i))] i=Af .u64 (pl (Wz seed leaf m) (i+1)):=by
   rw [Fd (by omega),Ka,Ail _ (by omega)]
  rw [Rf];simp (disch:=omega) only [Bz,Gu,B8,Br,hgi,sc,rn,L,hset,w];exact ih
theorem Alg (hfu:1000<=fu)(seed leaf m:Int):Ae (CX xs) Tryz.prog fu (d+7) P8 [.sc (.int .u64 seed),.sc (.int .i64 leaf),.sc (.int .u64 m)]=some ⟨[.own 1 18 (Af .u64 (I3 seed leaf m))],[]⟩:=by
 rw [MV];have dq:=RN (xs:=xs) (fu:=fu) (d:=d+5) hfu m;have hD:Af .i64 (ON m)=[.sc (.int .i64 (dg m 0)),.sc (.int .i64 (dg m 1)),.sc (.int .i64 (dg m 2)),.sc (.int .i64 (dg m 3)),.sc (.int .i64 (dg m 4)),.sc (.int .i64 (dg m 5)),.sc (.int .i64 (dg m 6)),.sc (.int .i64 (dg m 7)),.sc (.int .i64 (dg m 8)),.sc (.int .i64 (dg m 9)),.sc (.int .i64 (dg m 10)),.sc (.int .i64 (dg m 11)),.sc (.int .i64 (dg m 12)),.sc (.int .i64 (dg m 13)),.sc (.int .i64 (dg m 14)),.sc (.int .i64 (dg m 15)),.sc (.int .i64 (dg m 16)),.sc (.int .i64 (dg m 17))]:=rfl;rw [hD] at dq;simp only [Bz,dq];exact PA (fu:=fu) (d:=d) (a0:=seed) (a1:=leaf) (a2:=m) hfu (dg m) (fun _=>rfl) 18 0 fu (by omega) (by omega)
end
end
section
open Go.IntKind (wrap)
def JT (h leaf:Int):Bool:=Dh h||Ip leaf h
def tkL (h leaf:Int):Int:=if JT h leaf=true then 0 else leaf
def tkC (seed h leaf m:Int):List Int:=if JT h leaf=true then [] else I3 seed leaf m
def tkP (seed h leaf:Int):List Int:=if JT h leaf=true then [] else (List.range h.toNat).map fun k=>B5 seed k (Fy leaf k)
def tkE (h leaf:Int):Int:=if JT h leaf=true then 9 else 0
def Arw (args:List PV):Option A0:=
 match args with
 |[.sc (.int .u64 seed),.sc (.int .i64 h),.sc (.int .i64 leaf),.sc (.int .u64 m)]=>
  some ⟨[.agg [.sc (.int .i64 (tkL h leaf)),.lst false 1 (tkC seed h leaf m).length (Af .u64 (tkC seed h leaf m)),.lst false 1 (tkP seed h leaf).length (Af .u64 (tkP seed h leaf))],.sc (.int .i64 (tkE h leaf))],[]⟩
 |_=>none
def Kr (f:FuncId):Option (List PV->Option A0):=
 bif Nat.beq f 56 then some JY else
 bif Nat.beq f 133 then some Vt else
 bif Nat.beq f 37 then some Arw else
 bif Nat.beq f 1000000 then some (fun _=>none) else none
abbrev C0:Hs:=CX Kr
end
section
open Go.IntKind (wrap)
set_option maxRecDepth 100000
abbrev Nd:FuncId:=38
theorem Ws (fu d:Nat)(a0:Int):Ae C0 Tryz.prog fu (d+1) Nd [.sc (.int .i64 a0)]=(fun (call:Ah)=>A9 (decide (a0>=0)) (some (A0.mk [.sc (.bool (decide (a0<=4)))] [])) (some (A0.mk [.sc (.bool false)] []))) (Ae C0 Tryz.prog fu d):=by kernel_rfl
abbrev Oe:FuncId:=95
noncomputable def Gf (fu:Nat)(call:Ah)(a0:Int)(nn:Nat)(y0:Int)(y1:Nat)(y2 y3:Int)(y4:List PV):Option A0:=Co CB Tryz.prog fu call 95 Tryz.f95 (Bm Tryz.f95) [.sc (.int .u64 a0)] [.r,.r,.r,.l,.r,.l] nn ⟨lk [(0,(.sc (.int .u64 y0))),(3,(.view 3 1 0 y1)),(4,(.sc (.int .i64 y2))),(5,(.sc (.int .i64 y3)))],B7 [(3,(.ar false y4))]⟩
theorem Kc (fu:Nat)(call:Ah)(a0:Int)(nn:Nat)(y0:Int)(y1:Nat)(y2 y3:Int)(y4:List PV):Gf fu call a0 (nn+1) y0 y1 y2 y3 y4=(A9 (decide (y3>=0)) (Aa (wrap .i64 (4*y3)) fun x1=>Aa (wrap .u64 x1) fun x2=>Au (decide (0<=x2))<|Aa (D8 .u64 y0 x2) fun x3=>Aa (Qu .u64 x3 15) fun x4=>Aa (wrap .i64 x4) fun x5=>Au (decide (y1*1<=y4.length)&&true&&decide ((y1+1)*8<=1099511627776)&&decide (y1+1<=1099511627776))<|Aa (y1+1) fun x6=>Aa (List.take (y1*1) y4++[.sc (.int .i64 x5)]) fun x7=>Aa (wrap .i64 (15-x5)) fun x8=>Aa (wrap .i64 (y2+x8)) fun x9=>Aa (wrap .i64 (y3-1)) fun Cl=>Gf fu call a0 (nn) (y0) x6 x9 Cl x7) (Aa (wrap .i64 (Int.tdiv y2 16)) fun Cw=>Aa (Int.tmod y2 16) fun Dl=>Au (decide (y1*1<=y4.length)&&true&&decide ((y1+2)*8<=1099511627776)&&decide (y1+2<=1099511627776))<|Aa (y1+2) fun Ds=>Aa (List.take (y1*1) y4++[.sc (.int .i64 Cw),.sc (.int .i64 Dl)]) fun Dk=>Au (decide (Ds*1<=Dk.length))<|some (A0.mk [.own 1 Ds (List.take (Ds*1) Dk)] []))):=by kernel_rfl
theorem X3 (fu d:Nat)(a0:Int):Ae C0 Tryz.prog fu (d+1) Oe [.sc (.int .u64 a0)]=(fun (call:Ah)=>Gf fu call a0 (fu) (a0) 0 0 15 ([])) (Ae C0 Tryz.prog fu d):=by kernel_rfl
abbrev Rn:FuncId:=96
noncomputable def Hj (fu:Nat)(call:Ah)(a0 a1:Int)(a2 a3 a4:Int)(nn:Nat)(y0 y1:Int)(y2 y3 y4:Int):Option A0:=Co CB Tryz.prog fu call 96 Tryz.f96 (Bm Tryz.f96) [.sc (.int .i64 a0),.sc (.int .i64 a1),.sc (.int .i64 a2),.sc (.int .i64 a3),.sc (.int .u64 a4)] [.r,.l,.r,.l] nn ⟨lk [(0,(.sc (.int .i64 y0))),(1,(.sc (.int .i64 y1))),(3,(.sc (.int .i64 y2))),(4,(.sc (.int .u64 y3))),(11,(.sc (.int .i64 y4)))],B7 []⟩
theorem Ni (fu:Nat)(call:Ah)(a0 a1:Int)(a2 a3 a4:Int)(nn:Nat)(y0 y1:Int)(y2 y3 y4:Int):Hj fu call a0 a1 a2 a3 a4 (nn+1) y0 y1 y2 y3 y4=(Aa (if 15<y2 then 15 else y2) fun x2=>A9 (decide (y4<x2)) (Aa (wrap .u64 y0) fun x3=>Aa (wrap .u64 y1) fun x4=>Aa (wrap .u64 y4) fun x5=>Ag (call 84 [.lst false 1 4 [.sc (.int .u64 x3),.sc (.int .u64 x4),.sc (.int .u64 x5),.sc (.int .u64 y3)]]) fun x6 x7=>Ac x7<|Ab x6 fun x8 x9=>Es 1 x8 fun Cl Cw=>Ac x9<|Au (decide (0+Cl*1<=Cw.length))<|Ag (call 34 [.sc (.int .i64 1),.lst false 1 Cl (List.take (Cl*1) (List.drop 0 Cw))]) fun Dl Ds=>Ac Ds<|Ab Dl fun Dk D9=>Ad .u64 Dk fun Ea=>Ac D9<|Aa (wrap .i64 (y4+1)) fun En=>Hj fu call a0 a1 a2 a3 a4 (nn) (y0) (y1) (y2) Ea En) (some (A0.mk [.sc (.int .u64 y3)] []))):=by kernel_rfl
theorem EF (fu d:Nat)(a0 a1:Int)(a2 a3 a4:Int):Ae C0 Tryz.prog fu (d+1) Rn [.sc (.int .i64 a0),.sc (.int .i64 a1),.sc (.int .i64 a2),.sc (.int .i64 a3),.sc (.int .u64 a4)]=(fun (call:Ah)=>Aa (if a2<0 then 0 else a2) fun x1=>Hj fu call a0 a1 a2 a3 a4 (fu) (a0) (a1) (a3) (a4) x1) (Ae C0 Tryz.prog fu d):=by kernel_rfl
abbrev M7:FuncId:=97
theorem Vs (fu d:Nat)(a0 a1 a2:Int):Ae C0 Tryz.prog fu (d+1) M7 [.sc (.int .u64 a0),.sc (.int .i64 a1),.sc (.int .i64 a2)]=(fun (call:Ah)=>Aa (wrap .u64 a1) fun x1=>Aa (wrap .u64 a2) fun x2=>Ag (call 84 [.lst false 1 2 [.sc (.int .u64 x1),.sc (.int .u64 x2)]]) fun x3 x4=>Ac x4<|Ab x3 fun x5 x6=>Es 1 x5 fun x7 x8=>Ac x6<|Au (decide (0+x7*1<=x8.length))<|Ag (call 88 [.sc (.int .u64 a0),.sc (.int .i64 1),.lst false 1 x7 (List.take (x7*1) (List.drop 0 x8))]) fun x9 Cl=>Ac Cl<|Ab x9 fun Cw Dl=>Ad .u64 Cw fun Ds=>Ac Dl<|some (A0.mk [.sc (.int .u64 Ds)] [])) (Ae C0 Tryz.prog fu d):=by kernel_rfl
abbrev P1:FuncId:=109
theorem Zq (fu d:Nat)(a0:Int)(a1n:Nat)(a1:List PV):Ae C0 Tryz.prog fu (d+1) P1 [.sc (.int .i64 a0),.lst false 1 a1n a1]=(fun (call:Ah)=>Aa (wrap .u64 a0) fun x1=>Ag (call 84 [.lst false 1 1 [.sc (.int .u64 x1)]]) fun x2 x3=>Ac x3<|Ab x2 fun x4 x5=>Es 1 x4 fun x6 x7=>Ac x5<|Ag (call 84 [.lst false 1 a1n a1]) fun x8 x9=>Ac x9<|Ab x8 fun Cl Cw=>Es 1 Cl fun Dl Ds=>Ac Cw<|Au (decide (0+Dl*1<=Ds.length))<|Au (decide (x6*1<=x7.length)&&decide (List.length (List.take (Dl*1) (List.drop 0 Ds))=Dl*1)&&decide ((x6+Dl)*1<=1099511627776)&&decide (x6+Dl<=1099511627776))<|Aa (x6+Dl) fun Dk=>Aa (List.take (x6*1) x7++List.take (Dl*1) (List.drop 0 Ds)) fun D9=>Au (decide (0+Dk*1<=D9.length))<|Ag (call 34 [.sc (.int .i64 2),.lst false 1 Dk (List.take (Dk*1) (List.drop 0 D9))]) fun Ea En=>Ac En<|Ab Ea fun E1 Fg=>Ad .u64 E1 fun Fp=>Ac Fg<|some (A0.mk [.sc (.int .u64 Fp)] [])) (Ae C0 Tryz.prog fu d):=by kernel_rfl
abbrev P2:FuncId:=78
noncomputable def Gx (fu:Nat)(call:Ah)(a0 a1:Int)(nn:Nat)(y0 y1:Int)(y2:Nat)(y3:Int)(y4:List PV):Option A0:=Co CB Tryz.prog fu call 78 Tryz.f78 (Bm Tryz.f78) [.sc (.int .u64 a0),.sc (.int .i64 a1)] [.r,.r,.l,.r,.l] nn ⟨lk [(0,(.sc (.int .u64 y0))),(1,(.sc (.int .i64 y1))),(5,(.view 5 1 0 y2)),(6,(.sc (.int .i64 y3)))],B7 [(5,(.ar false y4))]⟩
theorem Ln (fu:Nat)(call:Ah)(a0 a1:Int)(nn:Nat)(y0 y1:Int)(y2:Nat)(y3:Int)(y4:List PV):Gx fu call a0 a1 (nn+1) y0 y1 y2 y3 y4=(A9 (decide (y3<18)) (Ag (call 97 [.sc (.int .u64 y0),.sc (.int .i64 y1),.sc (.int .i64 y3)]) fun x1 x2=>Ac x2<|Ab x1 fun x3 x4=>Ad .u64 x3 fun x5=>Ac x4<|Ag (call 96 [.sc (.int .i64 y1),.sc (.int .i64 y3),.sc (.int .i64 0),.sc (.int .i64 15),.sc (.int .u64 x5)]) fun x6 x7=>Ac x7<|Ab x6 fun x8 x9=>Ad .u64 x8 fun Cl=>Ac x9<|Au (decide (y2*1<=y4.length)&&true&&decide ((y2+1)*8<=1099511627776)&&decide (y2+1<=1099511627776))<|Aa (y2+1) fun Cw=>Aa (List.take (y2*1) y4++[.sc (.int .u64 Cl)]) fun Dl=>Aa (wrap .i64 (y3+1)) fun Ds=>Gx fu call a0 a1 (nn) (y0) (y1) Cw Ds Dl) (Au (decide (0+y2*1<=y4.length))<|Ag (call 109 [.sc (.int .i64 y1),.lst false 1 y2 (List.take (y2*1) (List.drop 0 y4))]) fun Dk D9=>Ac D9<|Ab Dk fun Ea En=>Ad .u64 Ea fun E1=>Ac En<|some (A0.mk [.sc (.int .u64 E1)] []))):=by kernel_rfl
theorem AR (fu d:Nat)(a0 a1:Int):Ae C0 Tryz.prog fu (d+1) P2 [.sc (.int .u64 a0),.sc (.int .i64 a1)]=(fun (call:Ah)=>Gx fu call a0 a1 (fu) (a0) (a1) 0 0 ([])) (Ae C0 Tryz.prog fu d):=by kernel_rfl
abbrev Ks:FuncId:=64
noncomputable def Fc (fu:Nat)(call:Ah)(a0 a1 a2:Int)(nn:Nat)(y0 y1:Int)(y2 y3:Nat)(y4:Int)(y5 y6:List PV):Option A0:=Co CB Tryz.prog fu call 64 Tryz.f64 (Bm Tryz.f64) [.sc (.int .u64 a0),.sc (.int .i64 a1),.sc (.int .u64 a2)] [.r,.r,.r,.l,.r,.l] nn ⟨lk [(0,(.sc (.int .u64 y0))),(1,(.sc (.int .i64 y1))),(7,(.view 7 1 0 y2)),(8,(.view 8 1 0 y3)),(9,(.sc (.int .i64 y4)))],B7 [(7,(.ar false y5)),(8,(.ar false y6))]⟩
theorem Is (fu:Nat)(call:Ah)(a0 a1 a2:Int)(nn:Nat)(y0 y1:Int)(y2 y3:Nat)(y4:Int)(y5 y6:List PV):Fc fu call a0 a1 a2 (nn+1) y0 y1 y2 y3 y4 y5 y6=(A9 (decide (y4<18)) (Au (decide (0<=y4)&&decide (y4<(↑y2:Int)))<|Ad .i64 (List.getD y5 (0+Int.toNat y4*1) .top) fun x7=>Ag (call 97 [.sc (.int .u64 y0),.sc (.int .i64 y1),.sc (.int .i64 y4)]) fun x8 x9=>Ac x9<|Ab x8 fun Cl Cw=>Ad .u64 Cl fun Dl=>Ac Cw<|Ag (call 96 [.sc (.int .i64 y1),.sc (.int .i64 y4),.sc (.int .i64 0),.sc (.int .i64 x7),.sc (.int .u64 Dl)]) fun Ds Dk=>Ac Dk<|Ab Ds fun D9 Ea=>Ad .u64 D9 fun En=>Ac Ea<|Au (decide (y3*1<=y6.length)&&true&&decide ((y3+1)*8<=1099511627776)&&decide (y3+1<=1099511627776))<|Aa (y3+1) fun E1=>Aa (List.take (y3*1) y6++[.sc (.int .u64 En)]) fun Fg=>Aa (wrap .i64 (y4+1)) fun Fp=>Fc fu call a0 a1 a2 (nn) (y0) (y1) (y2) E1 Fp (y5) Fg) (Au (decide (y3*1<=y6.length))<|some (A0.mk [.own 1 y3 (List.take (y3*1) y6)] []))):=by kernel_rfl
theorem Ut (fu d:Nat)(a0 a1 a2:Int):Ae C0 Tryz.prog fu (d+1) Ks [.sc (.int .u64 a0),.sc (.int .i64 a1),.sc (.int .u64 a2)]=(fun (call:Ah)=>Ag (call 95 [.sc (.int .u64 a2)]) fun x1 x2=>Ac x2<|Ab x1 fun x3 x4=>Es 1 x3 fun x5 x6=>Ac x4<|Fc fu call a0 a1 a2 (fu) (a0) (a1) x5 0 0 x6 ([])) (Ae C0 Tryz.prog fu d):=by kernel_rfl
abbrev Lz:FuncId:=83
noncomputable def Fl (fu:Nat)(call:Ah)(a0 a1:Int)(a2n:Nat)(a2:List PV)(nn:Nat)(y0:Int)(y1:Nat)(y2:List PV)(y3 y4:Nat)(y5:Int)(y6 y7:List PV):Option A0:=Co CB Tryz.prog fu call 83 Tryz.f83 (Bm Tryz.f83) [.sc (.int .i64 a0),.sc (.int .u64 a1),.lst false 1 a2n a2] [.r,.r,.r,.r,.l,.r,.l] nn ⟨lk [(0,(.sc (.int .i64 y0))),(2,(.lst false 1 y1 y2)),(8,(.view 8 1 0 y3)),(9,(.view 9 1 0 y4)),(10,(.sc (.int .i64 y5)))],B7 [(8,(.ar false y6)),(9,(.ar false y7))]⟩
theorem I6 (fu:Nat)(call:Ah)(a0 a1:Int)(a2n:Nat)(a2:List PV)(nn:Nat)(y0:Int)(y1:Nat)(y2:List PV)(y3 y4:Nat)(y5:Int)(y6 y7:List PV):Fl fu call a0 a1 a2n a2 (nn+1) y0 y1 y2 y3 y4 y5 y6 y7=(A9 (decide (y5<18)) (Au (decide (0<=y5)&&decide (y5<(↑y3:Int)))<|Ad .i64 (List.getD y6 (0+Int.toNat y5*1) .top) fun x7=>Au (decide (0<=y5)&&decide (y5<(↑y1:Int)))<|Ad .u64 (List.getD y2 (Int.toNat y5*1) .top) fun x8=>Ag (call 96 [.sc (.int .i64 y0),.sc (.int .i64 y5),.sc (.int .i64 x7),.sc (.int .i64 15),.sc (.int .u64 x8)]) fun x9 Cl=>Ac Cl<|Ab x9 fun Cw Dl=>Ad .u64 Cw fun Ds=>Ac Dl<|Au (decide (y4*1<=y7.length)&&true&&decide ((y4+1)*8<=1099511627776)&&decide (y4+1<=1099511627776))<|Aa (y4+1) fun Dk=>Aa (List.take (y4*1) y7++[.sc (.int .u64 Ds)]) fun D9=>Aa (wrap .i64 (y5+1)) fun Ea=>Fl fu call a0 a1 a2n a2 (nn) (y0) (y1) (y2) (y3) Dk Ea (y6) D9) (Au (decide (0+y4*1<=y7.length))<|Ag (call 109 [.sc (.int .i64 y0),.lst false 1 y4 (List.take (y4*1) (List.drop 0 y7))]) fun En E1=>Ac E1<|Ab En fun Fg Fp=>Ad .u64 Fg fun Ho=>Ac Fp<|some (A0.mk [.sc (.int .u64 Ho),.sc (.int .i64 0)] []))):=by kernel_rfl
theorem Vi (fu d:Nat)(a0 a1:Int)(a2n:Nat)(a2:List PV):Ae C0 Tryz.prog fu (d+1) Lz [.sc (.int .i64 a0),.sc (.int .u64 a1),.lst false 1 a2n a2]=(fun (call:Ah)=>A9 ((↑a2n:Int) != 18) (some (A0.mk [.sc (.int .u64 0),.sc (.int .i64 4)] [])) (Ag (call 95 [.sc (.int .u64 a1)]) fun x1 x2=>Ac x2<|Ab x1 fun x3 x4=>Es 1 x3 fun x5 x6=>Ac x4<|Fl fu call a0 a1 a2n a2 (fu) (a0) (a2n) (a2) x5 0 0 x6 ([]))) (Ae C0 Tryz.prog fu d):=by kernel_rfl
abbrev Mv:FuncId:=79
theorem Wo (fu d:Nat)(a0 a1 a2:Int):Ae C0 Tryz.prog fu (d+1) Mv [.sc (.int .i64 a0),.sc (.int .u64 a1),.sc (.int .u64 a2)]=(fun (call:Ah)=>Aa (wrap .u64 a0) fun x1=>Ag (call 84 [.lst false 1 3 [.sc (.int .u64 x1),.sc (.int .u64 a1),.sc (.int .u64 a2)]]) fun x2 x3=>Ac x3<|Ab x2 fun x4 x5=>Es 1 x4 fun x6 x7=>Ac x5<|Au (decide (0+x6*1<=x7.length))<|Ag (call 34 [.sc (.int .i64 3),.lst false 1 x6 (List.take (x6*1) (List.drop 0 x7))]) fun x8 x9=>Ac x9<|Ab x8 fun Cl Cw=>Ad .u64 Cl fun Dl=>Ac Cw<|some (A0.mk [.sc (.int .u64 Dl)] [])) (Ae C0 Tryz.prog fu d):=by kernel_rfl
abbrev Pq:FuncId:=39
theorem Pn (fu d:Nat)(a0 a1 a2:Int):Ae C0 Tryz.prog fu (d+1) Pq [.sc (.int .u64 a0),.sc (.int .i64 a1),.sc (.int .i64 a2)]=(fun (call:Ah)=>A9 (a1==0) (Ag (call 78 [.sc (.int .u64 a0),.sc (.int .i64 a2)]) fun x1 x2=>Ac x2<|Ab x1 fun x3 x4=>Ad .u64 x3 fun x5=>Ac x4<|some (A0.mk [.sc (.int .u64 x5)] [])) (Aa (wrap .i64 (a1-1)) fun x6=>Aa (wrap .i64 (2*a2)) fun x7=>Ag (call 39 [.sc (.int .u64 a0),.sc (.int .i64 x6),.sc (.int .i64 x7)]) fun x8 x9=>Ac x9<|Ab x8 fun Cl Cw=>Ad .u64 Cl fun Dl=>Ac Cw<|Aa (wrap .i64 (a1-1)) fun Ds=>Aa (wrap .i64 (2*a2)) fun Dk=>Aa (wrap .i64 (Dk+1)) fun D9=>Ag (call 39 [.sc (.int .u64 a0),.sc (.int .i64 Ds),.sc (.int .i64 D9)]) fun Ea En=>Ac En<|Ab Ea fun E1 Fg=>Ad .u64 E1 fun Fp=>Ac Fg<|Ag (call 79 [.sc (.int .i64 a1),.sc (.int .u64 Dl),.sc (.int .u64 Fp)]) fun Ho Hb=>Ac Hb<|Ab Ho fun Hr Dz=>Ad .u64 Hr fun Dq=>Ac Dz<|some (A0.mk [.sc (.int .u64 Dq)] []))) (Ae C0 Tryz.prog fu d):=by kernel_rfl
abbrev Nc:FuncId:=18
theorem W0 (fu d:Nat)(a0 a1:Int):Ae C0 Tryz.prog fu (d+1) Nc [.sc (.int .u64 a0),.sc (.int .i64 a1)]=(fun (call:Ah)=>Ag (call 38 [.sc (.int .i64 a1)]) fun x1 x2=>Ac x2<|Ab x1 fun x3 x4=>Bj x3 fun x5=>Ac x4<|A9 (!x5) (some (A0.mk [.agg [.sc (.int .i64 0),.sc (.int .u64 0)],.sc (.int .i64 9)] [])) (Ag (call 39 [.sc (.int .u64 a0),.sc (.int .i64 a1),.sc (.int .i64 0)]) fun x6 x7=>Ac x7<|Ab x6 fun x8 x9=>Ad .u64 x8 fun Cl=>Ac x9<|some (A0.mk [.agg [.sc (.int .i64 a1),.sc (.int .u64 Cl)],.sc (.int .i64 0)] []))) (Ae C0 Tryz.prog fu d):=by kernel_rfl
abbrev Qj:FuncId:=33
noncomputable def Gr (fu:Nat)(call:Ah)(a0 a1:Int)(a2 a3:Int)(nn:Nat)(y0 y1:Int)(y2 y3 y4:Int)(y5 y6:Nat)(y7 y8:List PV)(y9:Int)(y10 Gk:Nat)(Hx Ja:List PV):Option A0:=Co CB Tryz.prog fu call 33 Tryz.f33 (Bm Tryz.f33) [.sc (.int .u64 a0),.sc (.int .i64 a1),.sc (.int .i64 a2),.sc (.int .u64 a3)] [.r,.r,.r,.l,.r,.l] nn ⟨lk [(0,(.sc (.int .u64 y0))),(1,(.sc (.int .i64 y1))),(2,(.sc (.int .i64 y2))),(8,(.ptr 8 0)),(10,(.ptr 10 0)),(11,(.sc (.int .i64 y3)))],B7 [(8,(.st [(.sc (.int .i64 y4)),(.view 112 1 0 y5),(.view 164 1 0 y6)])),(112,(.ar false y7)),(164,(.ar false y8)),(10,(.st [(.sc (.int .i64 y9)),(.view 114 1 0 y10),(.view 166 1 0 Gk)])),(114,(.ar false Hx)),(166,(.ar false Ja))]⟩
theorem Lr (fu:Nat)(call:Ah)(a0 a1:Int)(a2 a3:Int)(nn:Nat)(y0 y1:Int)(y2 y3 y4:Int)(y5 y6:Nat)(y7 y8:List PV)(y9:Int)(y10 Gk:Nat)(Hx Ja:List PV):Gr fu call a0 a1 a2 a3 (nn+1) y0 y1 y2 y3 y4 y5 y6 y7 y8 y9 y10 Gk Hx Ja=(A9 (decide (y3<y1)) (Aa (wrap .u64 y3) fun Dk=>Au (decide (0<=Dk))<|Aa (D8 .i64 y2 Dk) fun D9=>Aa (D1 .i64 D9 1) fun Ea=>Ag (call 39 [.sc (.int .u64 y0),.sc (.int .i64 y3),.sc (.int .i64 Ea)]) fun En E1=>Ac E1<|Ab En fun Fg Fp=>Ad .u64 Fg fun Ho=>Ac Fp<|Au (decide (Gk*1<=Ja.length)&&true&&decide ((Gk+1)*8<=1099511627776)&&decide (Gk+1<=1099511627776))<|Aa (Gk+1) fun Hb=>Aa (List.take (Gk*1) Ja++[.sc (.int .u64 Ho)]) fun Hr=>Aa (wrap .i64 (y3+1)) fun Dz=>Gr fu call a0 a1 a2 a3 (nn) (y0) (y1) (y2) Dz (y4) (y5) (y6) (y7) (y8) (y9) (y10) Hb (Hx) Hr) (Au (decide (y10*1<=Hx.length))<|Au (decide (Gk*1<=Ja.length))<|some (A0.mk [.agg [.sc (.int .i64 y9),.own 1 y10 (List.take (y10*1) Hx),.own 1 Gk (List.take (Gk*1) Ja)],.sc (.int .i64 0)] []))):=by kernel_rfl
theorem Z2 (fu d:Nat)(a0 a1:Int)(a2 a3:Int):Ae C0 Tryz.prog fu (d+1) Qj [.sc (.int .u64 a0),.sc (.int .i64 a1),.sc (.int .i64 a2),.sc (.int .u64 a3)]=(fun (call:Ah)=>Ag (call 38 [.sc (.int .i64 a1)]) fun x1 x2=>Ac x2<|Ab x1 fun x3 x4=>Bj x3 fun x5=>Ac x4<|A9 (!x5) (some (A0.mk [.agg [.sc (.int .i64 0),.own 1 0 [],.own 1 0 []],.sc (.int .i64 9)] [])) (A9 (decide (a2<0)) (some (A0.mk [.agg [.sc (.int .i64 0),.own 1 0 [],.own 1 0 []],.sc (.int .i64 9)] [])) (Aa (wrap .u64 a1) fun x6=>Au (decide (0<=x6))<|Aa (Hc .i64 1 x6) fun x7=>A9 (decide (a2>=x7)) (some (A0.mk [.agg [.sc (.int .i64 0),.own 1 0 [],.own 1 0 []],.sc (.int .i64 9)] [])) (Ag (call 64 [.sc (.int .u64 a0),.sc (.int .i64 a2),.sc (.int .u64 a3)]) fun x8 x9=>Ac x9<|Ab x8 fun Cl Cw=>Es 1 Cl fun Dl Ds=>Ac Cw<|Gr fu call a0 a1 a2 a3 (fu) (a0) (a1) (a2) 0 0 0 0 ([]) ([]) (a2) Dl 0 Ds ([]))))) (Ae C0 Tryz.prog fu d):=by kernel_rfl
abbrev Nh:FuncId:=42
noncomputable def El (fu:Nat)(call:Ah)(a0_0 a0_1:Int)(a1 Oz:Int)(Ie:Nat)(Rz:List PV)(H7:Nat)(Si:List PV)(nn:Nat)(y0 y1:Int)(y2 y3 y4:Int)(y5:Nat)(y6:List PV)(y7:Nat)(y8:List PV):Option A0:=Co CB Tryz.prog fu call 42 Tryz.f42 (Bm Tryz.f42) [.agg [.sc (.int .i64 a0_0),.sc (.int .u64 a0_1)],.sc (.int .u64 a1),.agg [.sc (.int .i64 Oz),.lst false 1 Ie Rz,.lst false 1 H7 Si]] [.r,.r,.r,.r,.l,.r,.l] nn ⟨lk [(3,(.ptr 3 0)),(5,(.ptr 5 0)),(7,(.sc (.int .u64 y0))),(9,(.sc (.int .i64 y1)))],B7 [(3,(.st [(.sc (.int .i64 y2)),(.sc (.int .u64 y3))])),(5,(.st [(.sc (.int .i64 y4)),(.lst false 1 y5 y6),(.lst false 1 y7 y8)]))]⟩
theorem J0 (fu:Nat)(call:Ah)(a0_0 a0_1:Int)(a1 Oz:Int)(Ie:Nat)(Rz:List PV)(H7:Nat)(Si:List PV)(nn:Nat)(y0 y1:Int)(y2 y3 y4:Int)(y5:Nat)(y6:List PV)(y7:Nat)(y8:List PV):El fu call a0_0 a0_1 a1 Oz Ie Rz H7 Si (nn+1) y0 y1 y2 y3 y4 y5 y6 y7 y8=(A9 (decide (y1<y2)) (Aa (wrap .u64 y1) fun Ea=>Au (decide (0<=Ea))<|Aa (D8 .i64 y4 Ea) fun En=>Aa (Qu .i64 En 1) fun E1=>A9 (E1==0) (Aa (wrap .i64 (y1+1)) fun Fg=>Au (decide (0<=y1)&&decide (y1<(↑y7:Int)))<|Ad .u64 (List.getD y8 (Int.toNat y1*1) .top) fun Fp=>Ag (call 79 [.sc (.int .i64 Fg),.sc (.int .u64 y0),.sc (.int .u64 Fp)]) fun Ho Hb=>Ac Hb<|Ab Ho fun Hr Dz=>Ad .u64 Hr fun Dq=>Ac Dz<|Aa (wrap .i64 (y1+1)) fun F5=>El fu call a0_0 a0_1 a1 Oz Ie Rz H7 Si (nn) Dq F5 (y2) (y3) (y4) (y5) (y6) (y7) (y8)) (Aa (wrap .i64 (y1+1)) fun H3=>Au (decide (0<=y1)&&decide (y1<(↑y7:Int)))<|Ad .u64 (List.getD y8 (Int.toNat y1*1) .top) fun E2=>Ag (call 79 [.sc (.int .i64 H3),.sc (.int .u64 E2),.sc (.int .u64 y0)]) fun Jg L6=>Ac L6<|Ab Jg fun J3 Mp=>Ad .u64 J3 fun Mg=>Ac Mp<|Aa (wrap .i64 (y1+1)) fun Nm=>El fu call a0_0 a0_1 a1 Oz Ie Rz H7 Si (nn) Mg Nm (y2) (y3) (y4) (y5) (y6) (y7) (y8))) (A9 (y0 != y3) (some (A0.mk [.sc (.int .i64 15)] [])) (some (A0.mk [.sc (.int .i64 0)] [])))):=by kernel_rfl
theorem Vz (fu d:Nat)(a0_0 a0_1:Int)(a1 Oz:Int)(Ie:Nat)(Rz:List PV)(H7:Nat)(Si:List PV):Ae C0 Tryz.prog fu (d+1) Nh [.agg [.sc (.int .i64 a0_0),.sc (.int .u64 a0_1)],.sc (.int .u64 a1),.agg [.sc (.int .i64 Oz),.lst false 1 Ie Rz,.lst false 1 H7 Si]]=(fun (call:Ah)=>Ag (call 38 [.sc (.int .i64 a0_0)]) fun x1 x2=>Ac x2<|Ab x1 fun x3 x4=>Bj x3 fun x5=>Ac x4<|A9 (!x5) (some (A0.mk [.sc (.int .i64 9)] [])) (A9 (decide (Oz<0)) (some (A0.mk [.sc (.int .i64 9)] [])) (Aa (wrap .u64 a0_0) fun x6=>Au (decide (0<=x6))<|Aa (Hc .i64 1 x6) fun x7=>A9 (decide (Oz>=x7)) (some (A0.mk [.sc (.int .i64 9)] [])) (A9 ((↑Ie:Int) != 18) (some (A0.mk [.sc (.int .i64 4)] [])) (A9 ((↑H7:Int) != a0_0) (some (A0.mk [.sc (.int .i64 4)] [])) (Ag (call 83 [.sc (.int .i64 Oz),.sc (.int .u64 a1),.lst false 1 Ie Rz]) fun x8 x9=>Ac x9<|Ab x8 fun Cl Cw=>Ad .u64 Cl fun Dl=>Ab Cw fun Ds Dk=>Ad .i64 Ds fun D9=>Ac Dk<|El fu call a0_0 a0_1 a1 Oz Ie Rz H7 Si (fu) Dl 0 (a0_0) (a0_1) (Oz) (Ie) (Rz) (H7) (Si))))))) (Ae C0 Tryz.prog fu d):=by kernel_rfl
abbrev J5:FuncId:=57
theorem S2 (fu d:Nat)(a0_0 a0_1:Int):Ae C0 Tryz.prog fu (d+1) J5 [.agg [.sc (.int .i64 a0_0),.sc (.int .u64 a0_1)]]=(fun (call:Ah)=>Ag (call 38 [.sc (.int .i64 a0_0)]) fun x1 x2=>Ac x2<|Ab x1 fun x3 x4=>Bj x3 fun x5=>Ac x4<|A9 (!x5) (some (A0.mk [.own 1 0 [],.sc (.int .i64 9)] [])) (Aa (wrap .u8 a0_0) fun x6=>Ag (call 84 [.lst false 1 1 [.sc (.int .u64 a0_1)]]) fun x7 x8=>Ac x8<|Ab x7 fun x9 Cl=>Es 1 x9 fun Cw Dl=>Ac Cl<|Au (decide (0+Cw*1<=Dl.length))<|Au (decide (List.length (List.take (Cw*1) (List.drop 0 Dl))=Cw*1)&&decide ((1+Cw)*1<=1099511627776)&&decide (1+Cw<=1099511627776))<|Aa (1+Cw) fun Ds=>Aa ([.sc (.int .u8 x6)]++List.take (Cw*1) (List.drop 0 Dl)) fun Dk=>Au (decide (Ds*1<=Dk.length))<|some (A0.mk [.own 1 Ds (List.take (Ds*1) Dk),.sc (.int .i64 0)] []))) (Ae C0 Tryz.prog fu d):=by kernel_rfl
abbrev Jy:FuncId:=80
noncomputable def Ev (fu:Nat)(call:Ah)(a0n:Nat)(a0:List PV)(a1n:Nat)(a1:List PV)(nn y0:Nat)(y1:List PV)(y2:Nat)(y3:List PV)(y4:Int):Option A0:=Co CB Tryz.prog fu call 80 Tryz.f80 (Bm Tryz.f80) [.lst false 1 a0n a0,.lst false 1 a1n a1] [.r,.r,.l,.r,.l] nn ⟨lk [(0,(.lst false 1 y0 y1)),(1,(.lst false 1 y2 y3)),(5,(.sc (.int .i64 y4)))],B7 []⟩
theorem Ic (fu:Nat)(call:Ah)(a0n:Nat)(a0:List PV)(a1n:Nat)(a1:List PV)(nn y0:Nat)(y1:List PV)(y2:Nat)(y3:List PV)(y4:Int):Ev fu call a0n a0 a1n a1 (nn+1) y0 y1 y2 y3 y4=(A9 (decide (y4<(↑y0:Int))) (Au (decide (0<=y4)&&decide (y4<(↑y0:Int)))<|Ad .u64 (List.getD y1 (Int.toNat y4*1) .top) fun x1=>Au (decide (0<=y4)&&decide (y4<(↑y2:Int)))<|Ad .u64 (List.getD y3 (Int.toNat y4*1) .top) fun x2=>A9 (x1 != x2) (some (A0.mk [.sc (.bool false)] [])) (Aa (wrap .i64 (y4+1)) fun x3=>Ev fu call a0n a0 a1n a1 (nn) (y0) (y1) (y2) (y3) x3)) (some (A0.mk [.sc (.bool true)] []))):=by kernel_rfl
theorem Sq (fu d a0n:Nat)(a0:List PV)(a1n:Nat)(a1:List PV):Ae C0 Tryz.prog fu (d+1) Jy [.lst false 1 a0n a0,.lst false 1 a1n a1]=(fun (call:Ah)=>A9 ((↑a0n:Int) != (↑a1n:Int)) (some (A0.mk [.sc (.bool false)] [])) (Ev fu call a0n a0 a1n a1 (fu) (a0n) (a0) (a1n) (a1) 0)) (Ae C0 Tryz.prog fu d):=by kernel_rfl
abbrev Hv:FuncId:=40
theorem Pa (fu d:Nat)(a0_0:Int)(RC:Nat)(a0_1:List PV)(Fn:Nat)(a0_2:List PV)(a1_0:Int)(Anb:Nat)(a1_1:List PV)(Ang:Nat)(a1_2:List PV):Ae C0 Tryz.prog fu (d+1) Hv [.agg [.sc (.int .i64 a0_0),.lst false 1 RC a0_1,.lst false 1 Fn a0_2],.agg [.sc (.int .i64 a1_0),.lst false 1 Anb a1_1,.lst false 1 Ang a1_2]]=(fun (call:Ah)=>A9 (a0_0==a1_0) (Ag (call 80 [.lst false 1 RC a0_1,.lst false 1 Anb a1_1]) fun x1 x2=>Ac x2<|Ab x1 fun x3 x4=>Bj x3 fun x5=>Ac x4<|A9 x5 (Ag (call 80 [.lst false 1 Fn a0_2,.lst false 1 Ang a1_2]) fun x6 x7=>Ac x7<|Ab x6 fun x8 x9=>Bj x8 fun Cl=>Ac x9<|some (A0.mk [.sc (.bool Cl)] [])) (some (A0.mk [.sc (.bool false)] []))) (some (A0.mk [.sc (.bool false)] []))) (Ae C0 Tryz.prog fu d):=by kernel_rfl
end
section
open Go.IntKind (wrap)
theorem Pr {α:Type}(f:Nat->α)(i:Nat):(List.range (i+1)).map f=(List.range i).map f++[f i]:=by
 rw [List.range_succ,List.map_append];rfl
section
variable {fu d:Nat}
theorem Uk (h:Int):Ae C0 Tryz.prog fu (d+1) Nd [.sc (.int .i64 h)]=some ⟨[.sc (.bool (!Dh h))],[]⟩:=by
 rw [Ws];unfold Dh;by_cases h0:h<0
 ·simp (disch:=omega) only [Bz,h0,decide_true,Bool.true_or,Ck]
 ·have e:decide (h<=4) = !decide (h>4):=by
   by_cases c:h<=4
   ·have:¬h>4:=by omega
    simp [c,this]
   ·have:h>4:=by omega
    simp [c,this]
  simp (disch:=omega) only [Bz,h0,decide_false,Bool.false_or,e]
theorem Ab8 {ws:List Int}(hl:ws.length<=100)(hfu:1000<=fu)(dom:Int):Ae C0 Tryz.prog fu (d+4) Jo [.sc (.int .i64 dom),.lst false 1 (A6 ws).length (Af .u8 (A6 ws))]=some ⟨[.sc (.int .u64 (Nb dom (A6 ws)))],[]⟩:=
 KT (xs:=Kr) (Td ws) (by rw [Dm];omega) (by omega) (by rw [Dm];omega) dom
theorem GX {call:Ah}{a0 m:Int}:∀(k nn:Nat)(i:Nat),i+k=16->k<nn ->
  Gf fu call a0 nn m ((List.range i).map (Gn m)).length (Jm m i) (15-(i:Int)) (Af .i64 ((List.range i).map (Gn m)))=some ⟨[.own 1 18 (Af .i64 (ON m))],[]⟩
 |_,0,_,_,h=>by omega
 |0,nn+1,i,hi,hn=>by
  have e:i=16:=by omega
  subst e;have hs:=J4 m 16
  have wq:wrap .i64 (Int.tdiv (Jm m 16) 16)=Jm m 16 / 16:=by
   rw [Int.tdiv_eq_ediv_of_nonneg (by omega),Al (by omega) (by omega)]
  have wm:Int.tmod (Jm m 16) 16=Jm m 16 % 16:=Int.tmod_eq_emod_of_nonneg (by omega)
  have e2:Af .i64 ((List.range 16).map (Gn m))++[PV.sc (.int .i64 (Jm m 16 / 16)),PV.sc (.int .i64 (Jm m 16 % 16))]=Af .i64 (ON m):=by
   unfold ON;rw [Af,Af,List.flatMap_append];rfl
  have L:(Af .i64 (ON m)).length=18:=by rw [Am,Adi]
  have tk:List.take 18 (Af .i64 (ON m))=Af .i64 (ON m):=Tp (by omega)
  have l16:((List.range 16).map (Gn m)).length=16:=by simp
  have L16:=Am .i64 ((List.range 16).map (Gn m));have t16:=J7 .i64 ((List.range 16).map (Gn m));rw [l16] at L16 t16 ⊢;rw [Kc,Dj _ _ _ (by omega)]
  simp (disch:=omega) only [Bz,wq,wm,B8,t16,e2,L16,Nat.reduceAdd,L,tk]
 |k+1,nn+1,i,hi,hn=>by
  have ih:=GX (call:=call) (a0:=a0) (m:=m) k nn (i+1) (by omega) (by omega)
  have hb:=Rb m i;have hs:=J4 m i;have w1:wrap .i64 (4*(15-(i:Int)))=60-4*(i:Int):=by rw [Al (by omega) (by omega)];omega
  have w2:wrap .u64 (60-4*(i:Int))=60-4*(i:Int):=Cq (by omega) (by omega)
  have hd:wrap .i64 (Qu .u64 (D8 .u64 m (60-4*(i:Int))) 15)=Gn m i:=rfl;have w15:wrap .i64 (15-Gn m i)=15-Gn m i:=Al (by omega) (by omega)
  have ws:wrap .i64 (Jm m i+(15-Gn m i))=Jm m (i+1):=by rw [Al (by omega) (by omega)];rfl
  have wi:wrap .i64 (15-(i:Int)-1)=15-((i+1:Nat):Int):=by rw [Al (by omega) (by omega)];omega
  have L:=Am .i64 ((List.range i).map (Gn m));have l16:((List.range i).map (Gn m)).length=i:=by simp
  rw [Pr,Kh,List.length_singleton,←F0] at ih;rw [Kc];simp (disch:=omega) only [Bz,w1,w2,hd,w15,ws,wi,B8,J7,L];exact ih
theorem PT (hfu:1000<=fu)(m:Int):Ae C0 Tryz.prog fu (d+1) Oe [.sc (.int .u64 m)]=some ⟨[.own 1 18 (Af .i64 (ON m))],[]⟩:=by
 rw [X3];exact GX (fu:=fu) (a0:=m) (m:=m) 16 fu 0 (by omega) (by omega)
theorem QD {leaf chain:Int}{a0 a1 a2 a3 a4:Int}(hfu:1000<=fu){t:Int}(ht:t<=15):∀(k nn:Nat)(p x:Int),(k:Int)=t-p->0<=p->k<nn ->
  Hj fu (Ae C0 Tryz.prog fu (d+4)) a0 a1 a2 a3 a4 nn leaf chain t x p=some ⟨[.sc (.int .u64 (Qv leaf chain k p x))],[]⟩
 |_,0,_,_,_,_,h=>by omega
 |0,nn+1,p,x,hk,hp,hn=>by
  rw [Ni];simp only [Hl];rw [A5 (by omega),Dj _ _ _ (by omega)]
  rfl
 |k+1,nn+1,p,x,hk,hp,hn=>by
  have w:wrap .i64 (p+1)=p+1:=Al (by omega) (by omega)
  have wd:Ae C0 Tryz.prog fu (d+4) Ee [.lst false 1 4 [.sc (.int .u64 (wrap .u64 leaf)),.sc (.int .u64 (wrap .u64 chain)),.sc (.int .u64 (wrap .u64 p)),.sc (.int .u64 x)]]=_:=Ta (xs:=Kr) (ws:=[wrap .u64 leaf,wrap .u64 chain,wrap .u64 p,x]) (by simp) (by omega) (by simp;omega)
  have hs:=Ab8 (fu:=fu) (d:=d) (ws:=[wrap .u64 leaf,wrap .u64 chain,wrap .u64 p,x]) (by simp) hfu 1
  have ih:=QD (leaf:=leaf) (chain:=chain) (a0:=a0) (a1:=a1) (a2:=a2) (a3:=a3) (a4:=a4) hfu ht k nn (p+1) (Nb 1 (A6 [wrap .u64 leaf,wrap .u64 chain,wrap .u64 p,x])) (by omega) (by omega) (by omega)
  have L:=Am .u8 (A6 [wrap .u64 leaf,wrap .u64 chain,wrap .u64 p,x]);have eR:Qv leaf chain (k+1) p x=Qv leaf chain k (p+1) (Nb 1 (A6 [wrap .u64 leaf,wrap .u64 chain,wrap .u64 p,x])):=rfl;rw [eR];generalize A6 [wrap .u64 leaf,wrap .u64 chain,wrap .u64 p,x]=W at wd hs ih L ⊢;have e15:(if (15:Int)<t then 15 else t)=t:=A5 (by omega)
  rw [Ni];simp (disch:=omega) only [Bz,e15,wd,B8,Br,E6,J7,L,hs,w];exact ih
theorem TS {leaf chain:Int}(hfu:1000<=fu)(k:Nat)(f t x:Int)(hk:(k:Int)=t-f) (h0:0<=f)(h1:t<=15):Ae C0 Tryz.prog fu (d+5) Rn [.sc (.int .i64 leaf),.sc (.int .i64 chain),.sc (.int .i64 f),.sc (.int .i64 t),.sc (.int .u64 x)]=some ⟨[.sc (.int .u64 (Qv leaf chain k f x))],[]⟩:=by
 rw [EF];simp only [Hl];rw [A5 (by omega)]
 exact QD hfu h1 k fu f x hk h0 (by omega)
theorem LW (hfu:1000<=fu)(seed leaf chain:Int):Ae C0 Tryz.prog fu (d+5) M7 [.sc (.int .u64 seed),.sc (.int .i64 leaf),.sc (.int .i64 chain)]=some ⟨[.sc (.int .u64 (ER seed leaf chain))],[]⟩:=by
 have wd:Ae C0 Tryz.prog fu (d+4) Ee [.lst false 1 2 [.sc (.int .u64 (wrap .u64 leaf)),.sc (.int .u64 (wrap .u64 chain))]]=_:=Ta (xs:=Kr) (ws:=[wrap .u64 leaf,wrap .u64 chain]) (by simp) (by omega) (by simp;omega)
 have hs:=Akw (xs:=Kr) (fu:=fu) (d:=d) (Td [wrap .u64 leaf,wrap .u64 chain]) (by rw [Dm];simp) (by omega) (by rw [Dm];simp;omega) seed 1
 have L:=Am .u8 (A6 [wrap .u64 leaf,wrap .u64 chain]);rw [Vs];unfold ER;generalize A6 [wrap .u64 leaf,wrap .u64 chain]=W at wd hs L ⊢;simp (disch:=omega) only [Bz,wd,B8,Br,E6,J7,L,hs]
theorem Aog (hfu:1000<=fu)(w:Int):Ae C0 Tryz.prog fu (d+1) Ee [.lst false 1 1 [.sc (.int .u64 w)]]=some ⟨[.own 1 8 (Af .u8 (D3 w))],[]⟩:=by
 have:=Ta (xs:=Kr) (fu:=fu) (d:=d) (ws:=[w]) (by simp) (by omega) (by simp;omega)
 simp only [A6,List.flatMap_cons,List.flatMap_nil,List.append_nil,Jd,Zw,E9] at this;exact this
theorem ZA (hfu:1000<=fu)(leaf:Int){E:List Int}(hE:E.length<=50):Ae C0 Tryz.prog fu (d+5) P1 [.sc (.int .i64 leaf),.lst false 1 E.length (Af .u64 E)]=some ⟨[.sc (.int .u64 (Y7 leaf E))],[]⟩:=by
 have w1:=Aog (fu:=fu) (d:=d+3) hfu (wrap .u64 leaf);have w2:=Ta (xs:=Kr) (fu:=fu) (d:=d+3) (ws:=E) (by omega) (by omega) (by omega)
 have hs:=Ab8 (fu:=fu) (d:=d) (ws:=wrap .u64 leaf::E) (by simp;omega) hfu 2
 have eW:A6 (wrap .u64 leaf::E)=D3 (wrap .u64 leaf)++A6 E:=rfl
 have eC:Af .u8 (D3 (wrap .u64 leaf))++Af .u8 (A6 E)=Af .u8 (A6 (wrap .u64 leaf::E)):=by
  rw [eW,Af,Af,Af,List.flatMap_append]
 have l0:(D3 (wrap .u64 leaf)).length=8:=E9 _;have l1:=Dm E;have l2:(A6 (wrap .u64 leaf::E)).length=8+(A6 E).length:=by rw [eW,Kh,l0]
 have L0:=Am .u8 (D3 (wrap .u64 leaf));rw [l0] at L0;have L1:=Am .u8 (A6 E);have L2:=Am .u8 (A6 (wrap .u64 leaf::E));have t8:List.take 8 (Af .u8 (D3 (wrap .u64 leaf)))=Af .u8 (D3 (wrap .u64 leaf)):=Tp (by omega)
 have tW:List.take (8+(A6 E).length) (Af .u8 (A6 (wrap .u64 leaf::E)))=Af .u8 (A6 (wrap .u64 leaf::E)):=Tp (by omega)
 rw [l2] at hs;rw [Zq];simp (disch:=omega) only [Bz,w1,w2,B8,Br,E6,J7,t8,L0,L1,eC,L2,tW,hs];rfl
theorem JO {a0 a1 seed leaf:Int}(hfu:1000<=fu):∀(k nn i:Nat),i+k=18->k<nn ->
  Gx fu (Ae C0 Tryz.prog fu (d+5)) a0 a1 nn seed leaf ((List.range i).map (Xw seed leaf)).length i (Af .u64 ((List.range i).map (Xw seed leaf)))=some ⟨[.sc (.int .u64 (Ig seed leaf))],[]⟩
 |_,0,_,_,h=>by omega
 |0,nn+1,i,hi,hn=>by
  have e:i=18:=by omega
  subst e;have l18:((List.range 18).map (Xw seed leaf)).length=18:=by simp
  have en:=ZA (fu:=fu) (d:=d) hfu leaf (E:=(List.range 18).map (Xw seed leaf)) (by omega)
  have L:=Am .u64 ((List.range 18).map (Xw seed leaf));rw [Ln,Dj _ _ _ (by omega)]
  simp (disch:=omega) only [Bz,B8,Br,E6,J7,L,en];rfl
 |k+1,nn+1,i,hi,hn=>by
  have ih:=JO (a0:=a0) (a1:=a1) (seed:=seed) (leaf:=leaf) hfu k nn (i+1) (by omega) (by omega)
  have sc:=LW (fu:=fu) (d:=d) hfu seed leaf i;have rn:=TS (fu:=fu) (d:=d) (leaf:=leaf) (chain:=i) hfu 15 0 15 (ER seed leaf i) (by omega) (by omega) (by omega)
  have w:wrap .i64 ((i:Int)+1)=((i+1:Nat):Int):=by rw [Al (by omega) (by omega)];omega
  have L:=Am .u64 ((List.range i).map (Xw seed leaf));have li:((List.range i).map (Xw seed leaf)).length=i:=by simp
  rw [Pr,Kh,List.length_singleton,←F0] at ih;rw [Ln];simp (disch:=omega) only [Bz,sc,rn,B8,J7,L,w];exact ih
theorem Ahk (hfu:1000<=fu)(seed leaf:Int):Ae C0 Tryz.prog fu (d+6) P2 [.sc (.int .u64 seed),.sc (.int .i64 leaf)]=some ⟨[.sc (.int .u64 (Ig seed leaf))],[]⟩:=by
 rw [AR];exact JO (fu:=fu) (d:=d) hfu 18 fu 0 (by omega) (by omega)
theorem Am7 (m:Int){i:Nat}(h:i<18):(ON m)[i]?=some (dg m i):=by
 unfold dg;rw [List.getD_eq_getElem?_getD,List.getElem?_eq_getElem (by rw [Adi];omega)]
 rfl
theorem W9 {a0 a1 a2 seed leaf m:Int}(hfu:1000<=fu):∀(k nn i:Nat),i+k=18->k<nn ->
  Fc fu (Ae C0 Tryz.prog fu (d+5)) a0 a1 a2 nn seed leaf 18 ((List.range i).map (Wz seed leaf m)).length i (Af .i64 (ON m)) (Af .u64 ((List.range i).map (Wz seed leaf m)))=some ⟨[.own 1 18 (Af .u64 (I3 seed leaf m))],[]⟩
 |_,0,_,_,h=>by omega
 |0,nn+1,i,hi,hn=>by
  have e:i=18:=by omega
  subst e;have l18:((List.range 18).map (Wz seed leaf m)).length=18:=by simp
  have L:=Am .u64 ((List.range 18).map (Wz seed leaf m));rw [Is,Dj _ _ _ (by omega)]
  simp (disch:=omega) only [Bz,B8,J7,L];rw [l18];rfl
 |k+1,nn+1,i,hi,hn=>by
  have ih:=W9 (a0:=a0) (a1:=a1) (a2:=a2) (seed:=seed) (leaf:=leaf) (m:=m) hfu k nn (i+1) (by omega) (by omega)
  have hb:=S5 m i;have sc:=LW (fu:=fu) (d:=d) hfu seed leaf i;have rn:=TS (fu:=fu) (d:=d) (leaf:=leaf) (chain:=i) hfu (dg m i).toNat 0 (dg m i) (ER seed leaf i) (by omega) (by omega) (by omega)
  have w:wrap .i64 ((i:Int)+1)=((i+1:Nat):Int):=by rw [Al (by omega) (by omega)];omega
  have L:=Am .u64 ((List.range i).map (Wz seed leaf m));have li:((List.range i).map (Wz seed leaf m)).length=i:=by simp
  rw [Pr,Kh,List.length_singleton,←F0] at ih;rw [Is];simp (disch:=omega) only [Bz,Gu,B8,Br,Vg (Am7 m (show i<18 by omega)),sc,rn,J7,L,w]
  exact ih
theorem SX (hfu:1000<=fu)(seed leaf m:Int):Ae C0 Tryz.prog fu (d+6) Ks [.sc (.int .u64 seed),.sc (.int .i64 leaf),.sc (.int .u64 m)]=some ⟨[.own 1 18 (Af .u64 (I3 seed leaf m))],[]⟩:=by
 rw [Ut];have sp:=PT (fu:=fu) (d:=d+4) hfu m;simp only [Bz,sp];exact W9 (fu:=fu) (d:=d) hfu 18 fu 0 (by omega) (by omega)
theorem Yw {a0 a1:Int}{n:Nat}{c:List PV}{leaf m:Int}{s:List Int}(hs:s.length=18)(hfu:1000<=fu):∀(k nn i:Nat),i+k=18->k<nn ->
  Fl fu (Ae C0 Tryz.prog fu (d+5)) a0 a1 n c nn leaf s.length (Af .u64 s) 18 ((List.range i).map (Yo leaf m s)).length i (Af .i64 (ON m)) (Af .u64 ((List.range i).map (Yo leaf m s)))=some ⟨[.sc (.int .u64 (RX leaf m s)),.sc (.int .i64 0)],[]⟩
 |_,0,_,_,h=>by omega
 |0,nn+1,i,hi,hn=>by
  have e:i=18:=by omega
  subst e;have l18:((List.range 18).map (Yo leaf m s)).length=18:=by simp
  have en:=ZA (fu:=fu) (d:=d) hfu leaf (E:=(List.range 18).map (Yo leaf m s)) (by omega)
  have L:=Am .u64 ((List.range 18).map (Yo leaf m s));rw [I6,Dj _ _ _ (by omega)]
  simp (disch:=omega) only [Bz,B8,Br,E6,J7,L,en];rfl
 |k+1,nn+1,i,hi,hn=>by
  have ih:=Yw (a0:=a0) (a1:=a1) (n:=n) (c:=c) (leaf:=leaf) (m:=m) hs hfu k nn (i+1) (by omega) (by omega)
  obtain ⟨x,hx⟩:∃x,s[i]?=some x:=⟨_,List.getElem?_eq_getElem (by omega)⟩
  have hb:=S5 m i;have rn:=TS (fu:=fu) (d:=d) (leaf:=leaf) (chain:=i) hfu (15-dg m i).toNat (dg m i) 15 x (by omega) (by omega) (by omega)
  have ev:Qv leaf i (15-dg m i).toNat (dg m i) x=Yo leaf m s i:=by
   unfold Yo;rw [List.getD_eq_getElem?_getD,hx];rfl
  rw [ev] at rn;have w:wrap .i64 ((i:Int)+1)=((i+1:Nat):Int):=by rw [Al (by omega) (by omega)];omega
  have L:=Am .u64 ((List.range i).map (Yo leaf m s));have li:((List.range i).map (Yo leaf m s)).length=i:=by simp
  rw [Pr,Kh,List.length_singleton,←F0] at ih;rw [I6];simp (disch:=omega) only [Bz,Gu,B8,Br,Vg (Am7 m (show i<18 by omega)),Vg hx,rn,J7,L,w]
  exact ih
theorem YN (hfu:1000<=fu)(leaf m:Int)(s:List Int):Ae C0 Tryz.prog fu (d+6) Lz [.sc (.int .i64 leaf),.sc (.int .u64 m),.lst false 1 s.length (Af .u64 s)]=some ⟨(if s.length=18 then [.sc (.int .u64 (RX leaf m s)),.sc (.int .i64 0)] else [.sc (.int .u64 0),.sc (.int .i64 4)]),[]⟩:=by
 refine (Vi fu (d+5) leaf m s.length (Af .u64 s)).trans ?_;by_cases h:s.length=18
 ·have sp:=PT (fu:=fu) (d:=d+4) hfu m;have lp:=Yw (fu:=fu) (d:=d) (a0:=leaf) (a1:=m) (n:=s.length) (c:=Af .u64 s) (leaf:=leaf) (m:=m) h hfu 18 fu 0 (by omega) (by omega)
  simp only [D5];rw [Bu h,Bu (by omega)]
  simp only [Bz,sp];exact lp
 ·simp only [D5];rw [A5 h,A5 (by omega)]
theorem Zx (hfu:1000<=fu)(level a b:Int):Ae C0 Tryz.prog fu (d+5) Mv [.sc (.int .i64 level),.sc (.int .u64 a),.sc (.int .u64 b)]=some ⟨[.sc (.int .u64 (Mo level a b))],[]⟩:=by
 have wd:Ae C0 Tryz.prog fu (d+4) Ee [.lst false 1 3 [.sc (.int .u64 (wrap .u64 level)),.sc (.int .u64 a),.sc (.int .u64 b)]]=_:=Ta (xs:=Kr) (ws:=[wrap .u64 level,a,b]) (by simp) (by omega) (by simp;omega)
 have hs:=Ab8 (fu:=fu) (d:=d) (ws:=[wrap .u64 level,a,b]) (by simp) hfu 3
 have L:=Am .u8 (A6 [wrap .u64 level,a,b]);rw [Wo];unfold Mo;generalize A6 [wrap .u64 level,a,b]=W at wd hs L ⊢;simp (disch:=omega) only [Bz,wd,B8,Br,E6,J7,L,hs]
theorem DE (hfu:1000<=fu)(seed:Int):∀(l:Nat)(i B:Int),0<=i->i<=B->(2 ^ l:Nat)*(B+1)<=1000000000->l<=20->Ae C0 Tryz.prog fu (d+7+l) Pq [.sc (.int .u64 seed),.sc (.int .i64 l),.sc (.int .i64 i)]=some ⟨[.sc (.int .u64 (B5 seed l i))],[]⟩
 |0,i,B,h0,h1,h2,hl=>by
  have lf:=Ahk (fu:=fu) (d:=d) hfu seed i;refine (Pn fu (d+6) seed 0 i).trans ?_;simp only [Bz,Eu,if_true,lf];rfl
 |l+1,i,B,h0,h1,h2,hl=>by
  have hq:(2 ^ (l+1):Nat)=2 ^ l*2:=Nat.pow_succ _ _;have hpos:0<2 ^ l:=Nat.pow_pos (by omega)
  rw [hq] at h2;generalize hQ:2 ^ l=q at h2 hpos
  have hb:((q*2:Nat):Int)*(B+1)=(q:Int)*(2*B+1+1):=by
   rw [Int.natCast_mul,Int.mul_assoc]
   congr 1
   omega
  rw [hb] at h2
  have hBq:2*B+1+1<=(q:Int)*(2*B+1+1):=by
   have:=Int.mul_le_mul_of_nonneg_right (show (1:Int)<=q by omega) (show (0:Int)<=2*B+1+1 by omega)
   omega
  have n1:=DE hfu seed l (2*i) (2*B+1) (by omega) (by omega) (by rw [hQ];exact h2) (by omega)
  have n2:=DE hfu seed l (2*i+1) (2*B+1) (by omega) (by omega) (by rw [hQ];exact h2) (by omega)
  have pr:=Zx (fu:=fu) (d:=d+2+l) hfu ((l+1:Nat):Int) (B5 seed l (2*i)) (B5 seed l (2*i+1));rw [show d+2+l+5=d+7+l by omega] at pr
  have w1:wrap .i64 (((l+1:Nat):Int)-1)=(l:Int):=by rw [Al (by omega) (by omega)];omega
  have w2:wrap .i64 (2*i)=2*i:=Al (by omega) (by omega)
  have w3:wrap .i64 (2*i+1)=2*i+1:=Al (by omega) (by omega)
  have ne:¬(((l+1:Nat):Int)=0):=by omega
  refine (Pn fu (d+7+l) seed ((l+1:Nat):Int) i).trans ?_;simp only [Bz,Eu,ne,if_false,w1,w2,w3,n1,n2,pr];rfl
end
end
section
open Go.IntKind (wrap)
theorem wu {h:Int}(h0:0<=h)(h4:h<=4):wrap .u64 h=h:=Cq (by omega) (by omega)
theorem Aax {leaf h:Int}(h0:0<=h)(h4:h<=4)(ho:Ip leaf h=false):0<=leaf∧leaf<2 ^ h.toNat:=by
 unfold Ip at ho;simp only [Bool.or_eq_false_iff,decide_eq_false_iff_not] at ho;have:h=0∨h=1∨h=2∨h=3∨h=4:=by omega
 rcases this with rfl|rfl|rfl|rfl|rfl
 ·have e:Hc .i64 1 0=1:=by decide
  rw [e] at ho;exact ⟨by omega,by show leaf<1;omega⟩
 ·have e:Hc .i64 1 1=2:=by decide
  rw [e] at ho;exact ⟨by omega,by show leaf<2;omega⟩
 ·have e:Hc .i64 1 2=4:=by decide
  rw [e] at ho;exact ⟨by omega,by show leaf<4;omega⟩
 ·have e:Hc .i64 1 3=8:=by decide
  rw [e] at ho;exact ⟨by omega,by show leaf<8;omega⟩
 ·have e:Hc .i64 1 4=16:=by decide
  rw [e] at ho;exact ⟨by omega,by show leaf<16;omega⟩
theorem Aqt {h:Int}(h0:0<=h)(h4:h<=4):(2:Int) ^ h.toNat<=16:=by
 have:h=0∨h=1∨h=2∨h=3∨h=4:=by omega
 rcases this with rfl|rfl|rfl|rfl|rfl<;>decide
theorem Abs {leaf:Int}(h0:0<=leaf)(h1:leaf<16){k:Nat}(hk:k<4):0<=Fy leaf k∧Fy leaf k<=15:=by
 have H:∀n:Fin 16,∀k:Fin 4,0<=Fy (n.val:Int) k.val∧Fy (n.val:Int) k.val<=15:=by decide
 obtain ⟨n,rfl⟩:=Int.eq_ofNat_of_zero_le h0;exact H ⟨n,by omega⟩ ⟨k,hk⟩
section
variable {fu d:Nat}
theorem Aal (hfu:1000<=fu)(seed h:Int):Ae C0 Tryz.prog fu (d+12) Nc [.sc (.int .u64 seed),.sc (.int .i64 h)]=some ⟨[.agg (Gz seed h).cells,.sc (.int .i64 (if Dh h=true then 9 else 0))],[]⟩:=by
 refine (W0 fu (d+11) seed h).trans ?_;have h1:=Uk (fu:=fu) (d:=d+10) h;unfold Gz;cases c1:Dh h
 ·rw [c1] at h1;have hb:=H2 c1
  have nd:=DE (fu:=fu) (d:=d+4-h.toNat) hfu seed h.toNat 0 0 (by omega) (by omega) (by
   have:h=0∨h=1∨h=2∨h=3∨h=4:=by omega
   rcases this with rfl|rfl|rfl|rfl|rfl<;>decide) (by omega)
  rw [show d+4-h.toNat+7+h.toNat=d+11 by omega,show ((h.toNat:Nat):Int)=h by omega] at nd
  simp only [Bz,h1,nd];rfl
 ·rw [c1] at h1;simp only [Bz,h1];rfl
theorem JV {a0 a1 a2 a3:Int}{seed leaf h:Int}(hh:0<=h∧h<=4)(hl:0<=leaf∧leaf<16)(hfu:1000<=fu){y4 y9:Int}{y5 y6:Nat}{y7 y8:List PV}{ch:List Int}:∀(k nn i:Nat),i+k=h.toNat->k<nn ->
  Gr fu (Ae C0 Tryz.prog fu (d+11)) a0 a1 a2 a3 nn seed h leaf i y4 y5 y6 y7 y8 leaf ch.length ((List.range i).map fun k=>B5 seed k (Fy leaf k)).length (Af .u64 ch) (Af .u64 ((List.range i).map fun k=>B5 seed k (Fy leaf k)))=some ⟨[.agg (Sg.mk leaf ch ((List.range h.toNat).map fun k=>B5 seed k (Fy leaf k))).owned,.sc (.int .i64 0)],[]⟩
 |_,0,_,_,h=>by omega
 |0,nn+1,i,hi,hn=>by
  have e:i=h.toNat:=by omega
  subst e;have L1:=Am .u64 ch;have L2:=Am .u64 ((List.range h.toNat).map fun k=>B5 seed k (Fy leaf k))
  rw [Lr,Dj _ _ _ (by omega)]
  simp (disch:=omega) only [Bz,B8,J7,L1,L2];rfl
 |k+1,nn+1,i,hi,hn=>by
  have ih:=JV (a0:=a0) (a1:=a1) (a2:=a2) (a3:=a3) (seed:=seed) (y4:=y4) (y9:=y9) (y5:=y5) (y6:=y6) (y7:=y7) (y8:=y8) (ch:=ch) hh hl hfu k nn (i+1) (by omega) (by omega)
  have sb:=Abs hl.1 hl.2 (k:=i) (by omega)
  have nd:=DE (fu:=fu) (d:=d+4-i) hfu seed i (Fy leaf i) 15 sb.1 sb.2 (by
   have:i=0∨i=1∨i=2∨i=3:=by omega
   rcases this with rfl|rfl|rfl|rfl<;>decide) (by omega)
  rw [show d+4-i+7+i=d+11 by omega] at nd
  have es:D1 .i64 (D8 .i64 leaf (i:Int)) 1=Fy leaf i:=rfl;have w:wrap .i64 ((i:Int)+1)=((i+1:Nat):Int):=by rw [Al (by omega) (by omega)];omega
  have wi:wrap .u64 (i:Int)=i:=Cq (by omega) (by omega)
  have L:=Am .u64 ((List.range i).map fun k=>B5 seed k (Fy leaf k))
  have li:((List.range i).map fun k=>B5 seed k (Fy leaf k)).length=i:=by simp
  rw [Pr,Kh,List.length_singleton,←F0] at ih;rw [Lr];simp (disch:=omega) only [Bz,wi,es,nd,B8,J7,L,w];exact ih
theorem Ag7 (hfu:1000<=fu)(seed h leaf m:Int):Ae C0 Tryz.prog fu (d+12) Qj [.sc (.int .u64 seed),.sc (.int .i64 h),.sc (.int .i64 leaf),.sc (.int .u64 m)]=some ⟨UF (BO seed h leaf m),[]⟩:=by
 refine (Z2 fu (d+11) seed h leaf m).trans ?_;have h1:=Uk (fu:=fu) (d:=d+10) h;unfold BO;cases c1:Dh h
 ·rw [c1] at h1;have hb:=H2 c1;have w:=wu hb.1 hb.2;rw [A5 (by simp)]
  by_cases hn:leaf<0
  ·have ho:Ip leaf h=true:=by unfold Ip;simp [hn]
   rw [Bu ho];simp (disch:=omega) only [Bz,h1];rfl
  ·by_cases hg:leaf>=Hc .i64 1 h
   ·have ho:Ip leaf h=true:=by unfold Ip;simp [hg]
    rw [Bu ho];simp (disch:=first|omega|exact hg) only [Bz,h1,w];rfl
   ·have ho:Ip leaf h=false:=by unfold Ip;simp only [Bool.or_eq_false_iff,decide_eq_false_iff_not];exact ⟨hn,hg⟩
    have hlt:=Aax hb.1 hb.2 ho;have h16:=Aqt hb.1 hb.2;rw [A5 (by rw [ho];simp)]
    have sl:=SX (fu:=fu) (d:=d+5) hfu seed leaf m;have lp:=JV (fu:=fu) (d:=d) (a0:=seed) (a1:=h) (a2:=leaf) (a3:=m) (seed:=seed) (leaf:=leaf) (h:=h) hb (by omega) hfu (y4:=0) (y9:=0) (y5:=0) (y6:=0) (y7:=[]) (y8:=[]) (ch:=I3 seed leaf m) h.toNat fu 0 (by omega) (by omega)
    have l18:(I3 seed leaf m).length=18:=by simp [I3]
    rw [l18] at lp;simp (disch:=first|omega|exact hg) only [Bz,h1,w,sl];exact lp
 ·rw [c1] at h1;rw [Bu rfl];simp (disch:=omega) only [Bz,h1];rfl
theorem CN {a0 a1 a2 a3:Int}{n1 n2 n3:Nat}{c1 c2 c3:List PV}{root leaf:Int}{path:List Int}(hp:path.length<=100)(hfu:1000<=fu):∀(r:List Int)(i nn:Nat)(x:Int),path.drop i=r->r.length<nn->i<=path.length ->
  El fu (Ae C0 Tryz.prog fu (d+5)) a0 a1 a2 a3 n1 c1 n2 c2 nn x i path.length root leaf n3 c3 path.length (Af .u64 path)=some ⟨[.sc (.int .i64 (okE (Wy leaf i x r) root))],[]⟩
 |_,_,0,_,_,h,_=>by omega
 |[],i,nn+1,x,h,hn,hi=>by
  have:=drop_nil h;rw [J0,Dj _ _ _ (by omega),D5]
  rw [JU];unfold okE;by_cases e:x=root
  ·rw [Bu e,Bu e]
  ·rw [A5 e,A5 e]
 |s::r,i,nn+1,x,h,hn,hi=>by
  obtain ⟨h1,h2,h3⟩:=B3 h;simp only [Jd] at hn;have w:wrap .i64 ((i:Int)+1)=((i+1:Nat):Int):=by rw [Al (by omega) (by omega)];omega
  have wi:wrap .u64 (i:Int)=i:=Cq (by omega) (by omega)
  have ih:=fun x=>CN (a0:=a0) (a1:=a1) (a2:=a2) (a3:=a3) (n1:=n1) (n2:=n2) (n3:=n3) (c1:=c1) (c2:=c2) (c3:=c3) (root:=root) (leaf:=leaf) hp hfu r (i+1) nn x h3 (by omega) (by omega)
  have p1:=Zx (fu:=fu) (d:=d) hfu ((i+1:Nat):Int) x s;have p2:=Zx (fu:=fu) (d:=d) hfu ((i+1:Nat):Int) s x;rw [J0,Wk];by_cases hb:Qu .i64 (D8 .i64 leaf i) 1=0
  ·rw [Bu hb,←ih];simp (disch:=omega) only [Bz,Gu,B8,Vg h2,Eu,wi,hb,w,p1,if_true]
  ·rw [A5 hb,←ih];simp (disch:=omega) only [Bz,Gu,B8,Vg h2,Eu,wi,hb,w,p2,if_false]
theorem ZS (hfu:1000<=fu)(k:Ky)(m:Int)(s:Sg):Ae C0 Tryz.prog fu (d+7) Nh [.agg k.cells,.sc (.int .u64 m),.agg s.cells]=some ⟨[.sc (.int .i64 (OK k m s))],[]⟩:=by
 refine (Vz fu (d+6) k.h k.root m s.leaf s.chains.length (Af .u64 s.chains) s.path.length (Af .u64 s.path)).trans ?_;have h1:=Uk (fu:=fu) (d:=d+5) k.h;unfold OK;cases c1:Dh k.h
 ·rw [c1] at h1;have hb:=H2 c1;have w:=wu hb.1 hb.2;rw [A5 (by simp)]
  by_cases hn:s.leaf<0
  ·have ho:Ip s.leaf k.h=true:=by unfold Ip;simp [hn]
   rw [Bu ho];simp (disch:=omega) only [Bz,h1]
  ·by_cases hg:s.leaf>=Hc .i64 1 k.h
   ·have ho:Ip s.leaf k.h=true:=by unfold Ip;simp [hg]
    rw [Bu ho];simp (disch:=first|omega|exact hg) only [Bz,h1,w]
   ·have ho:Ip s.leaf k.h=false:=by unfold Ip;simp only [Bool.or_eq_false_iff,decide_eq_false_iff_not];exact ⟨hn,hg⟩
    rw [A5 (by rw [ho];simp)]
    by_cases c3:s.chains.length=18
    ·by_cases c4:(s.path.length:Int)=k.h
     ·have rc:=YN (fu:=fu) (d:=d) hfu s.leaf m s.chains;rw [Bu c3] at rc;have vl:=CN (fu:=fu) (d:=d+1) (a0:=k.h) (a1:=k.root) (a2:=m) (a3:=s.leaf) (n1:=s.chains.length) (n2:=s.path.length) (n3:=s.chains.length) (c1:=Af .u64 s.chains) (c2:=Af .u64 s.path) (c3:=Af .u64 s.chains) (root:=k.root) (leaf:=s.leaf) (path:=s.path) (by omega) hfu s.path 0 fu (RX s.leaf m s.chains) rfl (by omega) (by omega)
      rw [A5 (by omega),A5 (by omega),←vl]
      simp (disch:=first|omega|exact hg) only [Bz,h1,w,D5,rc,c4,if_true];rw [Bu (by omega)]
      rfl
     ·rw [A5 (by omega),Bu c4]
      simp (disch:=first|omega|exact hg) only [Bz,h1,w,D5,c4,if_false];rw [Bu (by omega)]
    ·rw [Bu c3];simp (disch:=first|omega|exact hg) only [Bz,h1,w,D5];rw [A5 (by omega)]
 ·rw [c1] at h1;rw [Bu rfl];simp (disch:=omega) only [Bz,h1]
theorem ZW (hfu:1000<=fu)(k:Ky):Ae C0 Tryz.prog fu (d+2) J5 [.agg k.cells]=some ⟨(if Dh k.h=true then [.own 1 0 [],.sc (.int .i64 9)] else [.own 1 9 (Af .u8 (Jn k)),.sc (.int .i64 0)]),[]⟩:=by
 refine (S2 fu (d+1) k.h k.root).trans ?_;have h1:=Uk (fu:=fu) (d:=d) k.h;have wd:=Aog (fu:=fu) (d:=d) hfu k.root;have L:=Am .u8 (D3 k.root);rw [E9] at L;have t8:List.take 8 (Af .u8 (D3 k.root))=Af .u8 (D3 k.root):=Tp (by omega)
 have t9:List.take 9 ([PV.sc (.int .u8 (wrap .u8 k.h))]++Af .u8 (D3 k.root))=Af .u8 (Jn k):=by
  rw [Tp (by rw [Kh,L];simp)]
  rfl
 have L9:([PV.sc (.int .u8 (wrap .u8 k.h))]++Af .u8 (D3 k.root)).length=9:=by rw [Kh,L];rfl
 cases c1:Dh k.h
 ·rw [c1] at h1;rw [A5 (by simp)]
  simp (disch:=omega) only [Bz,h1,wd,B8,Br,E6,L,t8,Nat.reduceAdd,L9,t9]
 ·rw [c1] at h1;rw [Bu rfl];simp (disch:=omega) only [Bz,h1]
end
end
section
open Go.IntKind (wrap)
section
variable {fu d:Nat}
end
theorem Aii (seed leaf m:Int):RX leaf m (I3 seed leaf m)=Ig seed leaf:=by
 unfold RX Ig LO
 congr 1
 refine List.map_congr_left fun i hi=>?_
 have hi:=List.mem_range.1 hi;have hb:=S5 m i;unfold Yo Xw
 have e:(I3 seed leaf m).getD i 0=Wz seed leaf m i:=by
  unfold I3;rw [List.getD_eq_getElem?_getD,List.getElem?_map,List.getElem?_range hi];rfl
 rw [e];unfold Wz;have:=VD leaf i (dg m i).toNat (15-dg m i).toNat 0 (ER seed leaf i);rw [show (dg m i).toNat+(15-dg m i).toNat=15 by omega,show (0:Int)+((dg m i).toNat:Nat)=dg m i by omega] at this
 exact this.symm
theorem Ae4:∀n:Fin 16,∀k:Fin 4,
  (Qu .i64 (D8 .i64 (n.val:Int) k.val) 1=0∧D8 .i64 (n.val:Int) k.val=2*D8 .i64 (n.val:Int) ((k.val+1:Nat):Int)∧Fy n.val k.val=2*D8 .i64 (n.val:Int) ((k.val+1:Nat):Int)+1) ∨
  (Qu .i64 (D8 .i64 (n.val:Int) k.val) 1≠0∧D8 .i64 (n.val:Int) k.val=2*D8 .i64 (n.val:Int) ((k.val+1:Nat):Int)+1∧Fy n.val k.val=2*D8 .i64 (n.val:Int) ((k.val+1:Nat):Int)):=by decide
theorem MJ (seed:Int){leaf:Int}(h0:0<=leaf)(h1:leaf<16):∀(k i:Nat),i+k<=4 ->
  Wy leaf i (B5 seed i (D8 .i64 leaf i)) ((List.range' i k).map fun j=>B5 seed j (Fy leaf j))=B5 seed (i+k) (D8 .i64 leaf ((i+k:Nat):Int))
 |0,i,_=>rfl
 |k+1,i,h=>by
  rw [List.range'_succ,Zzw,Wk];obtain ⟨n,rfl⟩:=Int.eq_ofNat_of_zero_le h0;have ih:=MJ seed h0 h1 k (i+1) (by omega)
  rw [show i+(k+1)=i+1+k by omega,←ih]
  congr 1
  rcases Ae4 ⟨n,by omega⟩ ⟨i,by omega⟩ with ⟨a,b,c⟩|⟨a,b,c⟩
  ·simp only at a b c;rw [Bu a,b,c];rfl
  ·simp only at a b c;rw [A5 a,b,c];rfl
theorem Agp {seed h leaf m:Int}(hh:Dh h=false)(ho:Ip leaf h=false):OK (Gz seed h) m ⟨leaf,I3 seed leaf m,(List.range h.toNat).map fun k=>B5 seed k (Fy leaf k)⟩=0:=by
 have hb:=H2 hh;have hl:=Aax hb.1 hb.2 ho;have h16:=Aqt hb.1 hb.2
 have eP:Gz seed h=⟨h,B5 seed h.toNat 0⟩:=by
  unfold Gz;rw [hh];rfl
 rw [eP];unfold OK;simp only;rw [A5 (show ¬Dh h=true by rw [hh];simp),A5 (show ¬Ip leaf h=true by rw [ho];simp),A5 (show ¬(I3 seed leaf m).length≠18 by simp [I3]),A5 (by rw [List.length_map,List.length_range];omega),Aii]
 have c:=MJ seed hl.1 (show leaf<16 by omega) h.toNat 0 (by omega)
 have e0:D8 .i64 leaf ((0:Nat):Int)=leaf:=by
  show leaf.fdiv (2 ^ (min ((0:Nat):Int).toNat IntKind.i64.bits))=leaf;have:(2:Int) ^ (min ((0:Nat):Int).toNat IntKind.i64.bits)=1:=by decide
  rw [this,Int.fdiv_one]
 have eh:D8 .i64 leaf ((0+h.toNat:Nat):Int)=0:=by
  have H:∀n:Fin 16,∀k:Fin 5,(n.val:Int)<2 ^ k.val->D8 .i64 (n.val:Int) ((0+k.val:Nat):Int)=0:=by decide
  obtain ⟨n,hn⟩:=Int.eq_ofNat_of_zero_le hl.1;have:=H ⟨n,by omega⟩ ⟨h.toNat,by omega⟩ (by simp only;rw [←hn];exact hl.2)
  rw [hn];exact this
 rw [e0,eh,Br] at c;have er:List.range' 0 h.toNat=List.range h.toNat:=List.range_eq_range'.symm;rw [er] at c;have el:B5 seed 0 leaf=Ig seed leaf:=rfl;rw [el] at c;rw [c];unfold okE;rw [Bu rfl]
end
section
open Go.IntKind (wrap)
set_option maxRecDepth 100000
abbrev HE:FuncId:=68
theorem VE (fu d:Nat)(a0:ByteArray):Ae C0 Tryz.prog fu (d+1) HE [.sc (.string a0)]=(fun (call:Ah)=>some (A0.mk [.own 3 1 [.sc (.int .i64 4),.sc (.int .u64 0),.sc (.string a0)]] [])) (Ae C0 Tryz.prog fu d):=by kernel_rfl
abbrev HF:FuncId:=69
theorem XL (fu d:Nat)(a0:Int):Ae C0 Tryz.prog fu (d+1) HF [.sc (.int .u64 a0)]=(fun (call:Ah)=>some (A0.mk [.own 3 1 [.sc (.int .i64 1),.sc (.int .u64 a0),.sc (.string (ByteArray.mk #[]))]] [])) (Ae C0 Tryz.prog fu d):=by kernel_rfl
abbrev CM:FuncId:=70
theorem SW (fu d a0n:Nat)(a0:List PV):Ae C0 Tryz.prog fu (d+1) CM [.lst false 1 a0n a0]=(fun (call:Ah)=>Au (decide (a0.length=a0n))<|E5 (bytesOf a0) fun x1=>some (A0.mk [.own 3 1 [.sc (.int .i64 3),.sc (.int .u64 0),.sc (.string (ByteArray.mk (List.toArray x1)))]] [])) (Ae C0 Tryz.prog fu d):=by kernel_rfl
abbrev HL:FuncId:=71
theorem VT (fu d:Nat)(a0:Bool):Ae C0 Tryz.prog fu (d+1) HL [.sc (.bool a0)]=(fun (call:Ah)=>A9 (a0) (some (A0.mk [.own 3 1 [.sc (.int .i64 7),.sc (.int .u64 1),.sc (.string (ByteArray.mk #[]))]] [])) (some (A0.mk [.own 3 1 [.sc (.int .i64 7),.sc (.int .u64 0),.sc (.string (ByteArray.mk #[]))]] []))) (Ae C0 Tryz.prog fu d):=by kernel_rfl
abbrev CZ:FuncId:=127
theorem TT (fu d:Nat)(a0:Int):Ae C0 Tryz.prog fu (d+1) CZ [.sc (.int .u64 a0)]=(fun (call:Ah)=>A9 (decide (a0<24)) (some (A0.mk [.sc (.int .i64 0)] [])) (A9 (decide (a0<256)) (some (A0.mk [.sc (.int .i64 1)] [])) (A9 (decide (a0<65536)) (some (A0.mk [.sc (.int .i64 2)] [])) (A9 (decide (a0<4294967296)) (some (A0.mk [.sc (.int .i64 4)] [])) (some (A0.mk [.sc (.int .i64 8)] [])))))) (Ae C0 Tryz.prog fu d):=by kernel_rfl
abbrev Yv:FuncId:=131
theorem OI (fu d:Nat)(a0_0 a0_1:Int)(a0_2:ByteArray):Ae C0 Tryz.prog fu (d+1) Yv [.agg [.sc (.int .i64 a0_0),.sc (.int .u64 a0_1),.sc (.string a0_2)]]=(fun (call:Ah)=>A9 (a0_0==3) (some (A0.mk [.sc (.bool (a0_1==0))] [])) (A9 (a0_0==4) (some (A0.mk [.sc (.bool (a0_1==0))] [])) (A9 (a0_0==8) (A9 (a0_1==0) (some (A0.mk [.sc (.bool (Array.toList (ByteArray.data a0_2)==Array.toList (ByteArray.data (ByteArray.mk #[]))))] [])) (some (A0.mk [.sc (.bool false)] []))) (A9 (a0_0==7) (A9 (decide (a0_1<=1)) (some (A0.mk [.sc (.bool (Array.toList (ByteArray.data a0_2)==Array.toList (ByteArray.data (ByteArray.mk #[]))))] [])) (some (A0.mk [.sc (.bool false)] []))) (some (A0.mk [.sc (.bool (Array.toList (ByteArray.data a0_2)==Array.toList (ByteArray.data (ByteArray.mk #[]))))] [])))))) (Ae C0 Tryz.prog fu d):=by kernel_rfl
abbrev Wv:FuncId:=129
theorem MT (fu d a0n:Nat)(a0:List PV)(a1n:Nat)(a1:List PV):Ae C0 Tryz.prog fu (d+1) Wv [.lst false 1 a0n a0,.lst false 1 a1n a1]=(fun (call:Ah)=>A9 ((↑a0n:Int) != (↑a1n:Int)) (some (A0.mk [.sc (.bool (decide ((↑a0n:Int)<(↑a1n:Int))))] [])) (Ag (call 133 [.lst false 1 a0n a0,.lst false 1 a1n a1]) fun x1 x2=>Ac x2<|Ab x1 fun x3 x4=>Ad .i64 x3 fun x5=>Ac x4<|some (A0.mk [.sc (.bool (decide (x5<0)))] []))) (Ae C0 Tryz.prog fu d):=by kernel_rfl
abbrev Kd:FuncId:=119
noncomputable def Dy (fu:Nat)(call:Ah)(a0n:Nat)(a0:List PV)(a1 a2:Int)(nn y0:Nat)(y1 y2:Int)(y3:List PV):Option A0:=Co CB Tryz.prog fu call 119 Tryz.f119 (Bm Tryz.f119) [.own 1 a0n a0,.sc (.int .u8 a1),.sc (.int .u64 a2)] [.r,.r,.r,.r,.r,.l,.r,.l] nn ⟨lk [(0,(.view 0 1 0 y0)),(2,(.sc (.int .u64 y1))),(9,(.sc (.int .i64 y2)))],B7 [(0,(.ar false y3))]⟩
theorem Nj (fu:Nat)(call:Ah)(a0n:Nat)(a0:List PV)(a1 a2:Int)(nn y0:Nat)(y1 y2:Int)(y3:List PV):Dy fu call a0n a0 a1 a2 (nn+1) y0 y1 y2 y3=(A9 (decide (y2>=0)) (Aa (wrap .i64 (8*y2)) fun E1=>Au (decide (0<=E1))<|Aa (D8 .u64 y1 E1) fun Fg=>Aa (wrap .u8 Fg) fun Fp=>Au (decide (y0*1<=y3.length)&&true&&decide ((y0+1)*1<=1099511627776)&&decide (y0+1<=1099511627776))<|Aa (y0+1) fun Ho=>Aa (List.take (y0*1) y3++[.sc (.int .u8 Fp)]) fun Hb=>Aa (wrap .i64 (y2-1)) fun Hr=>Dy fu call a0n a0 a1 a2 (nn) Ho (y1) Hr Hb) (Au (decide (y0*1<=y3.length))<|some (A0.mk [.own 1 y0 (List.take (y0*1) y3)] []))):=by kernel_rfl
theorem DY (fu d a0n:Nat)(a0:List PV)(a1 a2:Int):Ae C0 Tryz.prog fu (d+1) Kd [.own 1 a0n a0,.sc (.int .u8 a1),.sc (.int .u64 a2)]=(fun (call:Ah)=>Aa (Hc .u8 a1 5) fun x1=>A9 (decide (a2<24)) (Aa (wrap .u8 a2) fun x2=>Aa (wrap .u8 (x1+x2)) fun x3=>Au (decide (a0n*1<=a0.length)&&true&&decide ((a0n+1)*1<=1099511627776)&&decide (a0n+1<=1099511627776))<|Aa (a0n+1) fun x4=>Aa (List.take (a0n*1) a0++[.sc (.int .u8 x3)]) fun x5=>Au (decide (x4*1<=x5.length))<|some (A0.mk [.own 1 x4 (List.take (x4*1) x5)] [])) (A9 (decide (a2<256)) (Aa (wrap .u8 (x1+24)) fun x6=>Au (decide (a0n*1<=a0.length)&&true&&decide ((a0n+1)*1<=1099511627776)&&decide (a0n+1<=1099511627776))<|Aa (a0n+1) fun x7=>Aa (List.take (a0n*1) a0++[.sc (.int .u8 x6)]) fun x8=>Dy fu call a0n a0 a1 a2 (fu) x7 (a2) 0 x8) (A9 (decide (a2<65536)) (Aa (wrap .u8 (x1+25)) fun x9=>Au (decide (a0n*1<=a0.length)&&true&&decide ((a0n+1)*1<=1099511627776)&&decide (a0n+1<=1099511627776))<|Aa (a0n+1) fun Cl=>Aa (List.take (a0n*1) a0++[.sc (.int .u8 x9)]) fun Cw=>Dy fu call a0n a0 a1 a2 (fu) Cl (a2) 1 Cw) (A9 (decide (a2<4294967296)) (Aa (wrap .u8 (x1+26)) fun Dl=>Au (decide (a0n*1<=a0.length)&&true&&decide ((a0n+1)*1<=1099511627776)&&decide (a0n+1<=1099511627776))<|Aa (a0n+1) fun Ds=>Aa (List.take (a0n*1) a0++[.sc (.int .u8 Dl)]) fun Dk=>Dy fu call a0n a0 a1 a2 (fu) Ds (a2) 3 Dk) (Aa (wrap .u8 (x1+27)) fun D9=>Au (decide (a0n*1<=a0.length)&&true&&decide ((a0n+1)*1<=1099511627776)&&decide (a0n+1<=1099511627776))<|Aa (a0n+1) fun Ea=>Aa (List.take (a0n*1) a0++[.sc (.int .u8 D9)]) fun En=>Dy fu call a0n a0 a1 a2 (fu) Ea (a2) 7 En))))) (Ae C0 Tryz.prog fu d):=by kernel_rfl
abbrev Ri:FuncId:=102
theorem BG (fu d a0n:Nat)(a0:List PV)(a1_0 a1_1:Int)(a1_2:ByteArray):Ae C0 Tryz.prog fu (d+1) Ri [.own 1 a0n a0,.agg [.sc (.int .i64 a1_0),.sc (.int .u64 a1_1),.sc (.string a1_2)]]=(fun (call:Ah)=>A9 (a1_0==7) (Aa (wrap .u8 a1_1) fun x1=>Aa (wrap .u8 (244+x1)) fun x2=>Au (decide (a0n*1<=a0.length)&&true&&decide ((a0n+1)*1<=1099511627776)&&decide (a0n+1<=1099511627776))<|Aa (a0n+1) fun x3=>Aa (List.take (a0n*1) a0++[.sc (.int .u8 x2)]) fun x4=>Au (decide (x3*1<=x4.length))<|some (A0.mk [.own 1 x3 (List.take (x3*1) x4)] [])) (A9 (a1_0==8) (Au (decide (a0n*1<=a0.length)&&true&&decide ((a0n+1)*1<=1099511627776)&&decide (a0n+1<=1099511627776))<|Aa (a0n+1) fun x5=>Aa (List.take (a0n*1) a0++[.sc (.int .u8 246)]) fun x6=>Au (decide (x5*1<=x6.length))<|some (A0.mk [.own 1 x5 (List.take (x5*1) x6)] [])) (A9 (a1_0==3) (Aa (wrap .i64 (a1_0-1)) fun x7=>Aa (wrap .u8 x7) fun x8=>Aa (wrap .u64 (↑(ByteArray.size a1_2):Int)) fun x9=>Au (decide (a0n*1<=a0.length))<|Ag (call 119 [.own 1 a0n (List.take (a0n*1) a0),.sc (.int .u8 x8),.sc (.int .u64 x9)]) fun Cl Cw=>Ab Cl fun Dl Ds=>Es 1 Dl fun Dk D9=>Ac Ds<|Ac Cw<|Au (decide (Dk*1<=D9.length)&&decide (List.length (Dv a1_2)=ByteArray.size a1_2*1)&&decide ((Dk+ByteArray.size a1_2)*1<=1099511627776)&&decide (Dk+ByteArray.size a1_2<=1099511627776))<|Aa (Dk+ByteArray.size a1_2) fun Ea=>Aa (List.take (Dk*1) D9++Dv a1_2) fun En=>Au (decide (Ea*1<=En.length))<|some (A0.mk [.own 1 Ea (List.take (Ea*1) En)] [])) (A9 (a1_0==4) (Aa (wrap .i64 (a1_0-1)) fun E1=>Aa (wrap .u8 E1) fun Fg=>Aa (wrap .u64 (↑(ByteArray.size a1_2):Int)) fun Fp=>Au (decide (a0n*1<=a0.length))<|Ag (call 119 [.own 1 a0n (List.take (a0n*1) a0),.sc (.int .u8 Fg),.sc (.int .u64 Fp)]) fun Ho Hb=>Ab Ho fun Hr Dz=>Es 1 Hr fun Dq F5=>Ac Dz<|Ac Hb<|Au (decide (Dq*1<=F5.length)&&decide (List.length (Dv a1_2)=ByteArray.size a1_2*1)&&decide ((Dq+ByteArray.size a1_2)*1<=1099511627776)&&decide (Dq+ByteArray.size a1_2<=1099511627776))<|Aa (Dq+ByteArray.size a1_2) fun H3=>Aa (List.take (Dq*1) F5++Dv a1_2) fun E2=>Au (decide (H3*1<=E2.length))<|some (A0.mk [.own 1 H3 (List.take (H3*1) E2)] [])) (Aa (wrap .i64 (a1_0-1)) fun Jg=>Aa (wrap .u8 Jg) fun L6=>Au (decide (a0n*1<=a0.length))<|Ag (call 119 [.own 1 a0n (List.take (a0n*1) a0),.sc (.int .u8 L6),.sc (.int .u64 a1_1)]) fun J3 Mp=>Ab J3 fun Mg Nm=>Es 1 Mg fun Pt P7=>Ac Nm<|Ac Mp<|Au (decide (Pt*1<=P7.length))<|some (A0.mk [.own 1 Pt (List.take (Pt*1) P7)] [])))))) (Ae C0 Tryz.prog fu d):=by kernel_rfl
abbrev Tf:FuncId:=90
theorem FH (fu d a0_0n:Nat)(a0_0:List PV)(a0_1:Int):Ae C0 Tryz.prog fu (d+1) Tf [.pbox [.own 3 a0_0n a0_0,.sc (.int .i64 a0_1)]]=(fun (call:Ah)=>A9 (decide (a0_1>0)) (Au (decide (a0_0n*3<=a0_0.length))<|some (A0.mk [.sc (.bool ((↑a0_0n:Int)==0))] [[.own 3 a0_0n (List.take (a0_0n*3) a0_0),.sc (.int .i64 a0_1)]])) (Au (decide (a0_0n*3<=a0_0.length))<|some (A0.mk [.sc (.bool false)] [[.own 3 a0_0n (List.take (a0_0n*3) a0_0),.sc (.int .i64 a0_1)]]))) (Ae C0 Tryz.prog fu d):=by kernel_rfl
abbrev Rr:FuncId:=128
theorem BW (fu d a0_0n:Nat)(a0_0:List PV)(a0_1:Int):Ae C0 Tryz.prog fu (d+1) Rr [.pbox [.own 3 a0_0n a0_0,.sc (.int .i64 a0_1)]]=(fun (call:Ah)=>A9 (decide ((↑a0_0n:Int)>0)) (Aa (wrap .i64 ((↑a0_0n:Int)-1)) fun x1=>Au (decide (0<=x1)&&decide (x1<(↑a0_0n:Int)))<|Bj (List.getD a0_0 (0+Int.toNat x1*3+0) .top) fun x2=>A9 x2 (Aa (wrap .i64 ((↑a0_0n:Int)-1)) fun x3=>Au (decide (0<=x3)&&decide (x3<(↑a0_0n:Int)))<|Ad .i64 (List.getD a0_0 (0+Int.toNat x3*3+1) .top) fun x4=>Aa (Int.tmod x4 2) fun x5=>Au (decide (a0_0n*3<=a0_0.length))<|some (A0.mk [.sc (.bool (x5==0))] [[.own 3 a0_0n (List.take (a0_0n*3) a0_0),.sc (.int .i64 a0_1)]])) (Au (decide (a0_0n*3<=a0_0.length))<|some (A0.mk [.sc (.bool false)] [[.own 3 a0_0n (List.take (a0_0n*3) a0_0),.sc (.int .i64 a0_1)]]))) (Au (decide (a0_0n*3<=a0_0.length))<|some (A0.mk [.sc (.bool false)] [[.own 3 a0_0n (List.take (a0_0n*3) a0_0),.sc (.int .i64 a0_1)]]))) (Ae C0 Tryz.prog fu d):=by kernel_rfl
abbrev Ra:FuncId:=114
theorem CI (fu d a0_0n:Nat)(a0_0:List PV)(a0_1 a1:Int):Ae C0 Tryz.prog fu (d+1) Ra [.pbox [.own 3 a0_0n a0_0,.sc (.int .i64 a0_1)],.sc (.int .i64 a1)]=(fun (call:Ah)=>A9 (decide (a0_1>=512)) (Au (decide (a0_0n*3<=a0_0.length))<|some (A0.mk [.sc (.int .i64 8)] [[.own 3 a0_0n (List.take (a0_0n*3) a0_0),.sc (.int .i64 a0_1)]])) (A9 (decide (a1<1)) (Au (decide (a0_0n*3<=a0_0.length))<|some (A0.mk [.sc (.int .i64 3)] [[.own 3 a0_0n (List.take (a0_0n*3) a0_0),.sc (.int .i64 a0_1)]])) (A9 (decide (a1>8)) (Au (decide (a0_0n*3<=a0_0.length))<|some (A0.mk [.sc (.int .i64 3)] [[.own 3 a0_0n (List.take (a0_0n*3) a0_0),.sc (.int .i64 a0_1)]])) (Au (decide (a0_0n*3<=a0_0.length))<|Ag (call 128 [.pbox [.own 3 a0_0n (List.take (a0_0n*3) a0_0),.sc (.int .i64 a0_1)]]) fun x1 x2=>Ab x1 fun x3 x4=>Bj x3 fun x5=>Ac x4<|Ab x2 fun x6 x7=>Ab x6 fun x8 x9=>Es 3 x8 fun Cl Cw=>Ab x9 fun Dl Ds=>Ad .i64 Dl fun Dk=>Ac Ds<|Ac x7<|A9 x5 (A9 (a1 != 1) (A9 (a1 != 2) (A9 (a1 != 4) (Au (decide (Cl*3<=Cw.length))<|some (A0.mk [.sc (.int .i64 3)] [[.own 3 Cl (List.take (Cl*3) Cw),.sc (.int .i64 Dk)]])) (A9 (decide ((↑Cl:Int)>8)) (Au (decide (Cl*3<=Cw.length))<|some (A0.mk [.sc (.int .i64 5)] [[.own 3 Cl (List.take (Cl*3) Cw),.sc (.int .i64 Dk)]])) (Au (decide (Cl*3<=Cw.length))<|some (A0.mk [.sc (.int .i64 0)] [[.own 3 Cl (List.take (Cl*3) Cw),.sc (.int .i64 Dk)]])))) (A9 (decide ((↑Cl:Int)>8)) (Au (decide (Cl*3<=Cw.length))<|some (A0.mk [.sc (.int .i64 5)] [[.own 3 Cl (List.take (Cl*3) Cw),.sc (.int .i64 Dk)]])) (Au (decide (Cl*3<=Cw.length))<|some (A0.mk [.sc (.int .i64 0)] [[.own 3 Cl (List.take (Cl*3) Cw),.sc (.int .i64 Dk)]])))) (A9 (decide ((↑Cl:Int)>8)) (Au (decide (Cl*3<=Cw.length))<|some (A0.mk [.sc (.int .i64 5)] [[.own 3 Cl (List.take (Cl*3) Cw),.sc (.int .i64 Dk)]])) (Au (decide (Cl*3<=Cw.length))<|some (A0.mk [.sc (.int .i64 0)] [[.own 3 Cl (List.take (Cl*3) Cw),.sc (.int .i64 Dk)]])))) (A9 (decide ((↑Cl:Int)>8)) (Au (decide (Cl*3<=Cw.length))<|some (A0.mk [.sc (.int .i64 5)] [[.own 3 Cl (List.take (Cl*3) Cw),.sc (.int .i64 Dk)]])) (Au (decide (Cl*3<=Cw.length))<|some (A0.mk [.sc (.int .i64 0)] [[.own 3 Cl (List.take (Cl*3) Cw),.sc (.int .i64 Dk)]]))))))) (Ae C0 Tryz.prog fu d):=by kernel_rfl
abbrev S9:FuncId:=130
noncomputable def A8 (fu:Nat)(call:Ah)(a0_0n:Nat)(a0_0:List PV)(a0_1 a1_0 a1_1:Int)(a1_2:ByteArray)(nn:Nat)(y0:Int)(y1:Nat)(y2:Int)(y3:List PV):Option A0:=Co CB Tryz.prog fu call 130 Tryz.f130 (Bm Tryz.f130) [.pbox [.own 3 a0_0n a0_0,.sc (.int .i64 a0_1)],.agg [.sc (.int .i64 a1_0),.sc (.int .u64 a1_1),.sc (.string a1_2)]] [.r,.r,.r,.r,.r,.r,.l] nn ⟨lk [(0,(.ptr 212000 0)),(5,(.sc (.int .i64 y0)))],B7 [(212000,(.st [(.view 212106 3 0 y1),(.sc (.int .i64 y2))])),(212106,(.ar false y3))]⟩
theorem Oo (fu:Nat)(call:Ah)(a0_0n:Nat)(a0_0:List PV)(a0_1 a1_0 a1_1:Int)(a1_2:ByteArray)(nn:Nat)(y0:Int)(y1:Nat)(y2:Int)(y3:List PV):A8 fu call a0_0n a0_0 a0_1 a1_0 a1_1 a1_2 (nn+1) y0 y1 y2 y3=(A9 (decide (y0>0)) (Aa (wrap .i64 (y0-1)) fun P7=>Au (decide (0<=P7)&&decide (P7<(↑y1:Int)))<|Ad .i64 (List.getD y3 (0+Int.toNat P7*3+1) .top) fun R4=>A9 (R4==0) (Aa (wrap .i64 (y0-1)) fun Hi=>Au (decide (0<=Hi))<|Au (decide (Int.toNat Hi<=y1))<|Aa (Int.toNat Hi-0) fun J8=>Aa (wrap .i64 (y0-1)) fun Uy=>A8 fu call a0_0n a0_0 a0_1 a1_0 a1_1 a1_2 (nn) Uy J8 (y2) (y3)) (Au (decide (y1*3<=y3.length))<|some (A0.mk [] [[.own 3 y1 (List.take (y1*3) y3),.sc (.int .i64 y2)]]))) (Au (decide (y1*3<=y3.length))<|some (A0.mk [] [[.own 3 y1 (List.take (y1*3) y3),.sc (.int .i64 y2)]]))):=by kernel_rfl
theorem FM (fu d a0_0n:Nat)(a0_0:List PV)(a0_1 a1_0 a1_1:Int)(a1_2:ByteArray):Ae C0 Tryz.prog fu (d+1) S9 [.pbox [.own 3 a0_0n a0_0,.sc (.int .i64 a0_1)],.agg [.sc (.int .i64 a1_0),.sc (.int .u64 a1_1),.sc (.string a1_2)]]=(fun (call:Ah)=>Aa (wrap .i64 (a0_1+1)) fun x1=>A9 (decide ((↑a0_0n:Int)>0)) (Aa (wrap .i64 ((↑a0_0n:Int)-1)) fun x2=>Au (decide (0<=x2)&&decide (x2<(↑a0_0n:Int)))<|Ad .i64 (List.getD a0_0 (0+Int.toNat x2*3+1) .top) fun x3=>Aa (wrap .i64 (x3-1)) fun x4=>Au (decide (0<=x2)&&decide (x2<(↑a0_0n:Int)))<|Au (decide (0+Int.toNat x2*3+1+1<=a0_0.length))<|Aa (Bd a0_0 [.sc (.int .i64 x4)] (0+Int.toNat x2*3+1)) fun x5=>A9 (a1_0==5) (A9 (decide (a1_1>0)) (Aa (wrap .i64 a1_1) fun x6=>Au (decide (a0_0n*3<=x5.length)&&true&&decide ((a0_0n+1)*40<=1099511627776)&&decide (a0_0n+1<=1099511627776))<|Aa (a0_0n+1) fun x7=>Aa (List.take (a0_0n*3) x5++[.sc (.bool false),.sc (.int .i64 x6),.lst false 1 0 []]) fun x8=>A9 (a1_0==6) (A9 (decide (a1_1>0)) (Aa (wrap .i64 a1_1) fun x9=>Aa (wrap .i64 (2*x9)) fun Cl=>Au (decide (x7*3<=x8.length)&&true&&decide ((x7+1)*40<=1099511627776)&&decide (x7+1<=1099511627776))<|Aa (x7+1) fun Cw=>Aa (List.take (x7*3) x8++[.sc (.bool true),.sc (.int .i64 Cl),.lst false 1 0 []]) fun Dl=>A8 fu call a0_0n a0_0 a0_1 a1_0 a1_1 a1_2 (fu) ((↑Cw:Int)) Cw x1 Dl) (A8 fu call a0_0n a0_0 a0_1 a1_0 a1_1 a1_2 (fu) ((↑x7:Int)) x7 x1 x8)) (A8 fu call a0_0n a0_0 a0_1 a1_0 a1_1 a1_2 (fu) ((↑x7:Int)) x7 x1 x8)) (A9 (a1_0==6) (A9 (decide (a1_1>0)) (Aa (wrap .i64 a1_1) fun Ds=>Aa (wrap .i64 (2*Ds)) fun Dk=>Au (decide (a0_0n*3<=x5.length)&&true&&decide ((a0_0n+1)*40<=1099511627776)&&decide (a0_0n+1<=1099511627776))<|Aa (a0_0n+1) fun D9=>Aa (List.take (a0_0n*3) x5++[.sc (.bool true),.sc (.int .i64 Dk),.lst false 1 0 []]) fun Ea=>A8 fu call a0_0n a0_0 a0_1 a1_0 a1_1 a1_2 (fu) ((↑D9:Int)) D9 x1 Ea) (A8 fu call a0_0n a0_0 a0_1 a1_0 a1_1 a1_2 (fu) ((↑a0_0n:Int)) (a0_0n) x1 x5)) (A8 fu call a0_0n a0_0 a0_1 a1_0 a1_1 a1_2 (fu) ((↑a0_0n:Int)) (a0_0n) x1 x5))) (A9 (a1_0==6) (A9 (decide (a1_1>0)) (Aa (wrap .i64 a1_1) fun En=>Aa (wrap .i64 (2*En)) fun E1=>Au (decide (a0_0n*3<=x5.length)&&true&&decide ((a0_0n+1)*40<=1099511627776)&&decide (a0_0n+1<=1099511627776))<|Aa (a0_0n+1) fun Fg=>Aa (List.take (a0_0n*3) x5++[.sc (.bool true),.sc (.int .i64 E1),.lst false 1 0 []]) fun Fp=>A8 fu call a0_0n a0_0 a0_1 a1_0 a1_1 a1_2 (fu) ((↑Fg:Int)) Fg x1 Fp) (A8 fu call a0_0n a0_0 a0_1 a1_0 a1_1 a1_2 (fu) ((↑a0_0n:Int)) (a0_0n) x1 x5)) (A8 fu call a0_0n a0_0 a0_1 a1_0 a1_1 a1_2 (fu) ((↑a0_0n:Int)) (a0_0n) x1 x5))) (A9 (a1_0==5) (A9 (decide (a1_1>0)) (Aa (wrap .i64 a1_1) fun Ho=>Au (decide (a0_0n*3<=a0_0.length)&&true&&decide ((a0_0n+1)*40<=1099511627776)&&decide (a0_0n+1<=1099511627776))<|Aa (a0_0n+1) fun Hb=>Aa (List.take (a0_0n*3) a0_0++[.sc (.bool false),.sc (.int .i64 Ho),.lst false 1 0 []]) fun Hr=>A9 (a1_0==6) (A9 (decide (a1_1>0)) (Aa (wrap .i64 a1_1) fun Dz=>Aa (wrap .i64 (2*Dz)) fun Dq=>Au (decide (Hb*3<=Hr.length)&&true&&decide ((Hb+1)*40<=1099511627776)&&decide (Hb+1<=1099511627776))<|Aa (Hb+1) fun F5=>Aa (List.take (Hb*3) Hr++[.sc (.bool true),.sc (.int .i64 Dq),.lst false 1 0 []]) fun H3=>A8 fu call a0_0n a0_0 a0_1 a1_0 a1_1 a1_2 (fu) ((↑F5:Int)) F5 x1 H3) (A8 fu call a0_0n a0_0 a0_1 a1_0 a1_1 a1_2 (fu) ((↑Hb:Int)) Hb x1 Hr)) (A8 fu call a0_0n a0_0 a0_1 a1_0 a1_1 a1_2 (fu) ((↑Hb:Int)) Hb x1 Hr)) (A9 (a1_0==6) (A9 (decide (a1_1>0)) (Aa (wrap .i64 a1_1) fun E2=>Aa (wrap .i64 (2*E2)) fun Jg=>Au (decide (a0_0n*3<=a0_0.length)&&true&&decide ((a0_0n+1)*40<=1099511627776)&&decide (a0_0n+1<=1099511627776))<|Aa (a0_0n+1) fun L6=>Aa (List.take (a0_0n*3) a0_0++[.sc (.bool true),.sc (.int .i64 Jg),.lst false 1 0 []]) fun J3=>A8 fu call a0_0n a0_0 a0_1 a1_0 a1_1 a1_2 (fu) ((↑L6:Int)) L6 x1 J3) (A8 fu call a0_0n a0_0 a0_1 a1_0 a1_1 a1_2 (fu) ((↑a0_0n:Int)) (a0_0n) x1 (a0_0))) (A8 fu call a0_0n a0_0 a0_1 a1_0 a1_1 a1_2 (fu) ((↑a0_0n:Int)) (a0_0n) x1 (a0_0)))) (A9 (a1_0==6) (A9 (decide (a1_1>0)) (Aa (wrap .i64 a1_1) fun Mp=>Aa (wrap .i64 (2*Mp)) fun Mg=>Au (decide (a0_0n*3<=a0_0.length)&&true&&decide ((a0_0n+1)*40<=1099511627776)&&decide (a0_0n+1<=1099511627776))<|Aa (a0_0n+1) fun Nm=>Aa (List.take (a0_0n*3) a0_0++[.sc (.bool true),.sc (.int .i64 Mg),.lst false 1 0 []]) fun Pt=>A8 fu call a0_0n a0_0 a0_1 a1_0 a1_1 a1_2 (fu) ((↑Nm:Int)) Nm x1 Pt) (A8 fu call a0_0n a0_0 a0_1 a1_0 a1_1 a1_2 (fu) ((↑a0_0n:Int)) (a0_0n) x1 (a0_0))) (A8 fu call a0_0n a0_0 a0_1 a1_0 a1_1 a1_2 (fu) ((↑a0_0n:Int)) (a0_0n) x1 (a0_0))))) (Ae C0 Tryz.prog fu d):=by kernel_rfl
abbrev Jk:FuncId:=115
theorem Jf (fu d a0_0n:Nat)(a0_0:List PV)(a0_1 a1_0 a1_1:Int)(a1_2:ByteArray):Ae C0 Tryz.prog fu (d+1) Jk [.pbox [.own 3 a0_0n a0_0,.sc (.int .i64 a0_1)],.agg [.sc (.int .i64 a1_0),.sc (.int .u64 a1_1),.sc (.string a1_2)]]=(fun (call:Ah)=>A9 (a1_0==4) (Ag (call 56 [.sc (.string a1_2)]) fun x1 x2=>Ac x2<|Ab x1 fun x3 x4=>Bj x3 fun x5=>Ac x4<|A9 (!x5) (Au (decide (a0_0n*3<=a0_0.length))<|some (A0.mk [.sc (.int .i64 6)] [[.own 3 a0_0n (List.take (a0_0n*3) a0_0),.sc (.int .i64 a0_1)]])) (Au (decide (a0_0n*3<=a0_0.length))<|Ag (call 128 [.pbox [.own 3 a0_0n (List.take (a0_0n*3) a0_0),.sc (.int .i64 a0_1)]]) fun x6 x7=>Ab x6 fun x8 x9=>Bj x8 fun Cl=>Ac x9<|Ab x7 fun Cw Dl=>Ab Cw fun Ds Dk=>Es 3 Ds fun D9 Ea=>Ab Dk fun En E1=>Ad .i64 En fun Fg=>Ac E1<|Ac Dl<|A9 Cl (Aa (wrap .i64 ((↑D9:Int)-1)) fun Fp=>Au (decide (0<=Fp)&&decide (Fp<(↑D9:Int)))<|Ag (call 102 [.own 1 0 [],.agg [.sc (.int .i64 a1_0),.sc (.int .u64 a1_1),.sc (.string a1_2)]]) fun Ho Hb=>Ab Ho fun Hr Dz=>Es 1 Hr fun Dq F5=>Ac Dz<|Ac Hb<|Fk 1 (List.getD Ea (0+Int.toNat Fp*3+0+2) .top) fun H3 E2 Jg=>A9 (decide (0<E2)) (Fk 1 (List.getD Ea (0+Int.toNat Fp*3+0+2) .top) fun L6 J3 Mp=>Au (decide (0+Dq*1<=F5.length))<|Ag (call 129 [.lst false 1 J3 Mp,.lst false 1 Dq (List.take (Dq*1) (List.drop 0 F5))]) fun Mg Nm=>Ac Nm<|Ab Mg fun Pt P7=>Bj Pt fun R4=>Ac P7<|A9 (!R4) (Au (decide (D9*3<=Ea.length))<|some (A0.mk [.sc (.int .i64 7)] [[.own 3 D9 (List.take (D9*3) Ea),.sc (.int .i64 Fg)]])) (Au (decide (0+Int.toNat Fp*3+0+2+1<=Ea.length))<|Au (decide (0+Dq*1<=F5.length))<|Aa (Bd Ea [.lst false 1 Dq (List.take (Dq*1) (List.drop 0 F5))] (0+Int.toNat Fp*3+0+2)) fun Hi=>Au (decide (D9*3<=Hi.length))<|Ag (call 130 [.pbox [.own 3 D9 (List.take (D9*3) Hi),.sc (.int .i64 Fg)],.agg [.sc (.int .i64 a1_0),.sc (.int .u64 a1_1),.sc (.string a1_2)]]) fun J8 Uy=>Ac J8<|Ab Uy fun Y8 Ph=>Ab Y8 fun Nw Uo=>Es 3 Nw fun Sb To=>Ab Uo fun Xt Yh=>Ad .i64 Xt fun Sd=>Ac Yh<|Ac Ph<|Au (decide (Sb*3<=To.length))<|some (A0.mk [.sc (.int .i64 0)] [[.own 3 Sb (List.take (Sb*3) To),.sc (.int .i64 Sd)]]))) (Yu (Fk 1 (List.getD Ea (0+Int.toNat Fp*3+0+2) .top) fun We Yk Xe=>Au (decide (0+Dq*1<=F5.length))<|Ag (call 129 [.lst false 1 Yk Xe,.lst false 1 Dq (List.take (Dq*1) (List.drop 0 F5))]) fun O3 Yl=>Ac Yl<|Ab O3 fun DK BC=>Bj DK fun Y3=>Ac BC<|A9 (!Y3) (Au (decide (D9*3<=Ea.length))<|some (A0.mk [.sc (.int .i64 7)] [[.own 3 D9 (List.take (D9*3) Ea),.sc (.int .i64 Fg)]])) (Au (decide (0+Int.toNat Fp*3+0+2+1<=Ea.length))<|Au (decide (0+Dq*1<=F5.length))<|Aa (Bd Ea [.lst false 1 Dq (List.take (Dq*1) (List.drop 0 F5))] (0+Int.toNat Fp*3+0+2)) fun U7=>Au (decide (D9*3<=U7.length))<|Ag (call 130 [.pbox [.own 3 D9 (List.take (D9*3) U7),.sc (.int .i64 Fg)],.agg [.sc (.int .i64 a1_0),.sc (.int .u64 a1_1),.sc (.string a1_2)]]) fun X7 BA=>Ac X7<|Ab BA fun Zd Y6=>Ab Zd fun BB Y1=>Es 3 BB fun Za Xv=>Ab Y1 fun Xj EB=>Ad .i64 Xj fun Zs=>Ac EB<|Ac Y6<|Au (decide (Za*3<=Xv.length))<|some (A0.mk [.sc (.int .i64 0)] [[.own 3 Za (List.take (Za*3) Xv),.sc (.int .i64 Zs)]]))) (Au (decide (0+Int.toNat Fp*3+0+2+1<=Ea.length))<|Au (decide (0+Dq*1<=F5.length))<|Aa (Bd Ea [.lst false 1 Dq (List.take (Dq*1) (List.drop 0 F5))] (0+Int.toNat Fp*3+0+2)) fun Y2=>Au (decide (D9*3<=Y2.length))<|Ag (call 130 [.pbox [.own 3 D9 (List.take (D9*3) Y2),.sc (.int .i64 Fg)],.agg [.sc (.int .i64 a1_0),.sc (.int .u64 a1_1),.sc (.string a1_2)]]) fun Zf Zz=>Ac Zf<|Ab Zz fun EG Zk=>Ab EG fun Y4 GZ=>Es 3 Y4 fun BE FP=>Ab GZ fun IU IW=>Ad .i64 IU fun UI=>Ac IW<|Ac Zk<|Au (decide (BE*3<=FP.length))<|some (A0.mk [.sc (.int .i64 0)] [[.own 3 BE (List.take (BE*3) FP),.sc (.int .i64 UI)]])))) (Au (decide (D9*3<=Ea.length))<|Ag (call 130 [.pbox [.own 3 D9 (List.take (D9*3) Ea),.sc (.int .i64 Fg)],.agg [.sc (.int .i64 a1_0),.sc (.int .u64 a1_1),.sc (.string a1_2)]]) fun NQ RU=>Ac NQ<|Ab RU fun OL ZG=>Ab OL fun WJ UX=>Es 3 WJ fun TX EI=>Ab UX fun RG SE=>Ad .i64 RG fun YA=>Ac SE<|Ac ZG<|Au (decide (TX*3<=EI.length))<|some (A0.mk [.sc (.int .i64 0)] [[.own 3 TX (List.take (TX*3) EI),.sc (.int .i64 YA)]])))) (Au (decide (a0_0n*3<=a0_0.length))<|Ag (call 128 [.pbox [.own 3 a0_0n (List.take (a0_0n*3) a0_0),.sc (.int .i64 a0_1)]]) fun VI x94=>Ab VI fun x95 x96=>Bj x95 fun UZ=>Ac x96<|Ab x94 fun ZM ZN=>Ab ZM fun Ys Xb=>Es 3 Ys fun H5 D7=>Ab Xb fun Z6 Tl=>Ad .i64 Z6 fun R7=>Ac Tl<|Ac ZN<|A9 UZ (Aa (wrap .i64 ((↑H5:Int)-1)) fun Kx=>Au (decide (0<=Kx)&&decide (Kx<(↑H5:Int)))<|Ag (call 102 [.own 1 0 [],.agg [.sc (.int .i64 a1_0),.sc (.int .u64 a1_1),.sc (.string a1_2)]]) fun Zu AM=>Ab Zu fun Z4 Zr=>Es 1 Z4 fun Iy Kl=>Ac Zr<|Ac AM<|Fk 1 (List.getD D7 (0+Int.toNat Kx*3+0+2) .top) fun AW Zh AP=>A9 (decide (0<Zh)) (Fk 1 (List.getD D7 (0+Int.toNat Kx*3+0+2) .top) fun FS Ub Vw=>Au (decide (0+Iy*1<=Kl.length))<|Ag (call 129 [.lst false 1 Ub Vw,.lst false 1 Iy (List.take (Iy*1) (List.drop 0 Kl))]) fun Yi X9=>Ac X9<|Ab Yi fun Zo BI=>Bj Zo fun Tg=>Ac BI<|A9 (!Tg) (Au (decide (H5*3<=D7.length))<|some (A0.mk [.sc (.int .i64 7)] [[.own 3 H5 (List.take (H5*3) D7),.sc (.int .i64 R7)]])) (Au (decide (0+Int.toNat Kx*3+0+2+1<=D7.length))<|Au (decide (0+Iy*1<=Kl.length))<|Aa (Bd D7 [.lst false 1 Iy (List.take (Iy*1) (List.drop 0 Kl))] (0+Int.toNat Kx*3+0+2)) fun R3=>Au (decide (H5*3<=R3.length))<|Ag (call 130 [.pbox [.own 3 H5 (List.take (H5*3) R3),.sc (.int .i64 R7)],.agg [.sc (.int .i64 a1_0),.sc (.int .u64 a1_1),.sc (.string a1_2)]]) fun Qt Tu=>Ac Qt<|Ab Tu fun Vl CF=>Ab Vl fun Zi JN=>Es 3 Zi fun EO Zp=>Ab JN fun IF JL=>Ad .i64 IF fun LF=>Ac JL<|Ac CF<|Au (decide (EO*3<=Zp.length))<|some (A0.mk [.sc (.int .i64 0)] [[.own 3 EO (List.take (EO*3) Zp),.sc (.int .i64 LF)]]))) (Yu (Fk 1 (List.getD D7 (0+Int.toNat Kx*3+0+2) .top) fun NX LD FB=>Au (decide (0+Iy*1<=Kl.length))<|Ag (call 129 [.lst false 1 LD FB,.lst false 1 Iy (List.take (Iy*1) (List.drop 0 Kl))]) fun IC JQ=>Ac JQ<|Ab IC fun MS LX=>Bj MS fun FR=>Ac LX<|A9 (!FR) (Au (decide (H5*3<=D7.length))<|some (A0.mk [.sc (.int .i64 7)] [[.own 3 H5 (List.take (H5*3) D7),.sc (.int .i64 R7)]])) (Au (decide (0+Int.toNat Kx*3+0+2+1<=D7.length))<|Au (decide (0+Iy*1<=Kl.length))<|Aa (Bd D7 [.lst false 1 Iy (List.take (Iy*1) (List.drop 0 Kl))] (0+Int.toNat Kx*3+0+2)) fun IG=>Au (decide (H5*3<=IG.length))<|Ag (call 130 [.pbox [.own 3 H5 (List.take (H5*3) IG),.sc (.int .i64 R7)],.agg [.sc (.int .i64 a1_0),.sc (.int .u64 a1_1),.sc (.string a1_2)]]) fun IA HU=>Ac IA<|Ab HU fun NG SG=>Ab NG fun XK UG=>Es 3 XK fun EQ OW=>Ab UG fun SF Aad=>Ad .i64 SF fun Aa7=>Ac Aad<|Ac SG<|Au (decide (EQ*3<=OW.length))<|some (A0.mk [.sc (.int .i64 0)] [[.own 3 EQ (List.take (EQ*3) OW),.sc (.int .i64 Aa7)]]))) (Au (decide (0+Int.toNat Kx*3+0+2+1<=D7.length))<|Au (decide (0+Iy*1<=Kl.length))<|Aa (Bd D7 [.lst false 1 Iy (List.take (Iy*1) (List.drop 0 Kl))] (0+Int.toNat Kx*3+0+2)) fun YG=>Au (decide (H5*3<=YG.length))<|Ag (call 130 [.pbox [.own 3 H5 (List.take (H5*3) YG),.sc (.int .i64 R7)],.agg [.sc (.int .i64 a1_0),.sc (.int .u64 a1_1),.sc (.string a1_2)]]) fun RY ZF=>Ac RY<|Ab ZF fun Aai Aa4=>Ab Aai fun WR Aa3=>Es 3 WR fun TP Aak=>Ab Aa3 fun Aaw SA=>Ad .i64 Aaw fun YK=>Ac SA<|Ac Aa4<|Au (decide (TP*3<=Aak.length))<|some (A0.mk [.sc (.int .i64 0)] [[.own 3 TP (List.take (TP*3) Aak),.sc (.int .i64 YK)]])))) (Au (decide (H5*3<=D7.length))<|Ag (call 130 [.pbox [.own 3 H5 (List.take (H5*3) D7),.sc (.int .i64 R7)],.agg [.sc (.int .i64 a1_0),.sc (.int .u64 a1_1),.sc (.string a1_2)]]) fun Abn Aaz=>Ac Abn<|Ab Aaz fun Aar Ags=>Ab Aar fun Ajv Ai9=>Es 3 Ajv fun Aca Afb=>Ab Ai9 fun Aj2 Ahg=>Ad .i64 Aj2 fun Agz=>Ac Ahg<|Ac Ags<|Au (decide (Aca*3<=Afb.length))<|some (A0.mk [.sc (.int .i64 0)] [[.own 3 Aca (List.take (Aca*3) Afb),.sc (.int .i64 Agz)]])))) (Ae C0 Tryz.prog fu d):=by kernel_rfl
abbrev Oh:FuncId:=118
theorem Yr (fu d a0_0n:Nat)(a0_0:List PV)(a0_1 a1_0 a1_1:Int)(a1_2:ByteArray):Ae C0 Tryz.prog fu (d+1) Oh [.pbox [.own 3 a0_0n a0_0,.sc (.int .i64 a0_1)],.agg [.sc (.int .i64 a1_0),.sc (.int .u64 a1_1),.sc (.string a1_2)]]=(fun (call:Ah)=>Au (decide (a0_0n*3<=a0_0.length))<|Ag (call 90 [.pbox [.own 3 a0_0n (List.take (a0_0n*3) a0_0),.sc (.int .i64 a0_1)]]) fun x1 x2=>Ab x1 fun x3 x4=>Bj x3 fun x5=>Ac x4<|Ab x2 fun x6 x7=>Ab x6 fun x8 x9=>Es 3 x8 fun Cl Cw=>Ab x9 fun Dl Ds=>Ad .i64 Dl fun Dk=>Ac Ds<|Ac x7<|A9 x5 (Au (decide (Cl*3<=Cw.length))<|some (A0.mk [.sc (.int .i64 2)] [[.own 3 Cl (List.take (Cl*3) Cw),.sc (.int .i64 Dk)]])) (Au (decide (Cl*3<=Cw.length))<|Ag (call 114 [.pbox [.own 3 Cl (List.take (Cl*3) Cw),.sc (.int .i64 Dk)],.sc (.int .i64 a1_0)]) fun D9 Ea=>Ab D9 fun En E1=>Ad .i64 En fun Fg=>Ac E1<|Ab Ea fun Fp Ho=>Ab Fp fun Hb Hr=>Es 3 Hb fun Dz Dq=>Ab Hr fun F5 H3=>Ad .i64 F5 fun E2=>Ac H3<|Ac Ho<|A9 (Fg != 0) (Au (decide (Dz*3<=Dq.length))<|some (A0.mk [.sc (.int .i64 Fg)] [[.own 3 Dz (List.take (Dz*3) Dq),.sc (.int .i64 E2)]])) (Ag (call 131 [.agg [.sc (.int .i64 a1_0),.sc (.int .u64 a1_1),.sc (.string a1_2)]]) fun Jg L6=>Ac L6<|Ab Jg fun J3 Mp=>Bj J3 fun Mg=>Ac Mp<|A9 (!Mg) (Au (decide (Dz*3<=Dq.length))<|some (A0.mk [.sc (.int .i64 4)] [[.own 3 Dz (List.take (Dz*3) Dq),.sc (.int .i64 E2)]])) (A9 (decide ((↑(ByteArray.size a1_2):Int)>1024)) (Au (decide (Dz*3<=Dq.length))<|some (A0.mk [.sc (.int .i64 8)] [[.own 3 Dz (List.take (Dz*3) Dq),.sc (.int .i64 E2)]])) (A9 (a1_0==5) (A9 (decide (a1_1>512)) (Au (decide (Dz*3<=Dq.length))<|some (A0.mk [.sc (.int .i64 8)] [[.own 3 Dz (List.take (Dz*3) Dq),.sc (.int .i64 E2)]])) (Au (decide (Dz*3<=Dq.length))<|Ag (call 115 [.pbox [.own 3 Dz (List.take (Dz*3) Dq),.sc (.int .i64 E2)],.agg [.sc (.int .i64 a1_0),.sc (.int .u64 a1_1),.sc (.string a1_2)]]) fun Nm Pt=>Ab Nm fun P7 R4=>Ad .i64 P7 fun Hi=>Ac R4<|Ab Pt fun J8 Uy=>Ab J8 fun Y8 Ph=>Es 3 Y8 fun Nw Uo=>Ab Ph fun Sb To=>Ad .i64 Sb fun Xt=>Ac To<|Ac Uy<|Au (decide (Nw*3<=Uo.length))<|some (A0.mk [.sc (.int .i64 Hi)] [[.own 3 Nw (List.take (Nw*3) Uo),.sc (.int .i64 Xt)]]))) (A9 (a1_0==6) (A9 (decide (a1_1>512)) (Au (decide (Dz*3<=Dq.length))<|some (A0.mk [.sc (.int .i64 8)] [[.own 3 Dz (List.take (Dz*3) Dq),.sc (.int .i64 E2)]])) (Au (decide (Dz*3<=Dq.length))<|Ag (call 115 [.pbox [.own 3 Dz (List.take (Dz*3) Dq),.sc (.int .i64 E2)],.agg [.sc (.int .i64 a1_0),.sc (.int .u64 a1_1),.sc (.string a1_2)]]) fun Yh Sd=>Ab Yh fun We Yk=>Ad .i64 We fun Xe=>Ac Yk<|Ab Sd fun O3 Yl=>Ab O3 fun DK BC=>Es 3 DK fun Y3 U7=>Ab BC fun X7 BA=>Ad .i64 X7 fun Zd=>Ac BA<|Ac Yl<|Au (decide (Y3*3<=U7.length))<|some (A0.mk [.sc (.int .i64 Xe)] [[.own 3 Y3 (List.take (Y3*3) U7),.sc (.int .i64 Zd)]]))) (Au (decide (Dz*3<=Dq.length))<|Ag (call 115 [.pbox [.own 3 Dz (List.take (Dz*3) Dq),.sc (.int .i64 E2)],.agg [.sc (.int .i64 a1_0),.sc (.int .u64 a1_1),.sc (.string a1_2)]]) fun Y6 BB=>Ab Y6 fun Y1 Za=>Ad .i64 Y1 fun Xv=>Ac Za<|Ab BB fun Xj EB=>Ab Xj fun Zs Y2=>Es 3 Zs fun Zf Zz=>Ab Y2 fun EG Zk=>Ad .i64 EG fun Y4=>Ac Zk<|Ac EB<|Au (decide (Zf*3<=Zz.length))<|some (A0.mk [.sc (.int .i64 Xv)] [[.own 3 Zf (List.take (Zf*3) Zz),.sc (.int .i64 Y4)]])))))))) (Ae C0 Tryz.prog fu d):=by kernel_rfl
abbrev Ux:FuncId:=101
noncomputable def Im (fu:Nat)(call:Ah)(a0n:Nat)(a0:List PV)(nn y0:Nat)(y1:List PV)(y2 y3:Int)(y4:Nat)(y5:Int)(y6:List PV):Option A0:=Co CB Tryz.prog fu call 101 Tryz.f101 (Bm Tryz.f101) [.lst false 3 a0n a0] [.r,.r,.l,.r,.l] nn ⟨lk [(3,(.ptr 3 0)),(7,(.lst false 3 y0 y1)),(8,(.sc (.int .i64 y2))),(9,(.sc (.int .i64 y3)))],B7 [(3,(.st [(.view 25 3 0 y4),(.sc (.int .i64 y5))])),(25,(.ar false y6))]⟩
theorem Pi (fu:Nat)(call:Ah)(a0n:Nat)(a0:List PV)(nn y0:Nat)(y1:List PV)(y2 y3:Int)(y4:Nat)(y5:Int)(y6:List PV):Im fu call a0n a0 (nn+1) y0 y1 y2 y3 y4 y5 y6=(A9 (decide (y3<y2)) (Au (decide (0<=y3)&&decide (y3<(↑y0:Int)))<|Ad .i64 (List.getD y1 (Int.toNat y3*3) .top) fun x1=>Ad .u64 (List.getD y1 (Int.toNat y3*3+1) .top) fun x2=>Cj (List.getD y1 (Int.toNat y3*3+1+1) .top) fun x3=>Au (decide (y4*3<=y6.length))<|Ag (call 118 [.pbox [.own 3 y4 (List.take (y4*3) y6),.sc (.int .i64 y5)],.agg [.sc (.int .i64 x1),.sc (.int .u64 x2),.sc (.string x3)]]) fun x4 x5=>Ab x4 fun x6 x7=>Ad .i64 x6 fun x8=>Ac x7<|Ab x5 fun x9 Cl=>Ab x9 fun Cw Dl=>Es 3 Cw fun Ds Dk=>Ab Dl fun D9 Ea=>Ad .i64 D9 fun En=>Ac Ea<|Ac Cl<|A9 (x8 != 0) (some (A0.mk [.sc (.int .i64 x8)] [])) (Aa (wrap .i64 (y3+1)) fun E1=>Im fu call a0n a0 (nn) (y0) (y1) (y2) E1 Ds En Dk)) (Au (decide (y4*3<=y6.length))<|Ag (call 90 [.pbox [.own 3 y4 (List.take (y4*3) y6),.sc (.int .i64 y5)]]) fun Fg Fp=>Ab Fg fun Ho Hb=>Bj Ho fun Hr=>Ac Hb<|Ab Fp fun Dz Dq=>Ab Dz fun F5 H3=>Es 3 F5 fun E2 Jg=>Ab H3 fun L6 J3=>Ad .i64 L6 fun Mp=>Ac J3<|Ac Dq<|A9 (!Hr) (some (A0.mk [.sc (.int .i64 1)] [])) (some (A0.mk [.sc (.int .i64 0)] [])))):=by kernel_rfl
theorem HV (fu d a0n:Nat)(a0:List PV):Ae C0 Tryz.prog fu (d+1) Ux [.lst false 3 a0n a0]=(fun (call:Ah)=>Im fu call a0n a0 (fu) (a0n) (a0) ((↑a0n:Int)) 0 0 0 ([])) (Ae C0 Tryz.prog fu d):=by kernel_rfl
abbrev Wh:FuncId:=100
theorem KY (fu d a0n:Nat)(a0:List PV):Ae C0 Tryz.prog fu (d+1) Wh [.own 3 a0n a0]=(fun (call:Ah)=>Au (decide (0+a0n*3<=a0.length))<|Ag (call 101 [.lst false 3 a0n (List.take (a0n*3) (List.drop 0 a0))]) fun x1 x2=>Ac x2<|Ab x1 fun x3 x4=>Ad .i64 x3 fun x5=>Ac x4<|A9 (x5 != 0) (some (A0.mk [.own 3 0 [],.sc (.int .i64 x5)] [])) (Au (decide (a0n*3<=a0.length))<|some (A0.mk [.own 3 a0n (List.take (a0n*3) a0),.sc (.int .i64 0)] []))) (Ae C0 Tryz.prog fu d):=by kernel_rfl
abbrev Y5:FuncId:=99
noncomputable def Kb (fu:Nat)(call:Ah)(a0n:Nat)(a0:List PV)(nn y0:Nat)(y1:List PV)(y2 y3:Int):Option A0:=Co CB Tryz.prog fu call 99 Tryz.f99 (Bm Tryz.f99) [.lst false 1 a0n a0] [.r,.l,.r,.l] nn ⟨lk [(6,(.lst false 1 y0 y1)),(7,(.sc (.int .i64 y2))),(8,(.sc (.int .i64 y3)))],B7 []⟩
theorem R6 (fu:Nat)(call:Ah)(a0n:Nat)(a0:List PV)(nn y0:Nat)(y1:List PV)(y2 y3:Int):Kb fu call a0n a0 (nn+1) y0 y1 y2 y3=(A9 (decide (y3<y2)) (Au (decide (0<=y3)&&decide (y3<(↑y0:Int)))<|Fk 3 (List.getD y1 (Int.toNat y3*1) .top) fun x1 x2 x3=>Ag (call 101 [.lst false 3 x2 x3]) fun x4 x5=>Ac x5<|Ab x4 fun x6 x7=>Ad .i64 x6 fun x8=>Ac x7<|A9 (x8 != 0) (some (A0.mk [.sc (.int .i64 x8)] [])) (Aa (wrap .i64 (y3+1)) fun x9=>Kb fu call a0n a0 (nn) (y0) (y1) (y2) x9)) (some (A0.mk [.sc (.int .i64 0)] []))):=by kernel_rfl
theorem NS (fu d a0n:Nat)(a0:List PV):Ae C0 Tryz.prog fu (d+1) Y5 [.lst false 1 a0n a0]=(fun (call:Ah)=>Kb fu call a0n a0 (fu) (a0n) (a0) ((↑a0n:Int)) 0) (Ae C0 Tryz.prog fu d):=by kernel_rfl
abbrev Ua:FuncId:=67
noncomputable def Mr (fu:Nat)(call:Ah)(a0n:Nat)(a0:List PV)(nn y0 y1:Nat)(y2:List PV)(y3 y4:Int)(y5:List PV):Option A0:=Co CB Tryz.prog fu call 67 Tryz.f67 (Bm Tryz.f67) [.lst false 1 a0n a0] [.r,.r,.r,.l,.r,.l] nn ⟨lk [(5,(.view 5 3 0 y0)),(18,(.lst false 1 y1 y2)),(19,(.sc (.int .i64 y3))),(20,(.sc (.int .i64 y4)))],B7 [(5,(.ar false y5))]⟩
theorem U8 (fu:Nat)(call:Ah)(a0n:Nat)(a0:List PV)(nn y0 y1:Nat)(y2:List PV)(y3 y4:Int)(y5:List PV):Mr fu call a0n a0 (nn+1) y0 y1 y2 y3 y4 y5=(A9 (decide (y4<y3)) (Au (decide (0<=y4)&&decide (y4<(↑y1:Int)))<|Fk 3 (List.getD y2 (Int.toNat y4*1) .top) fun x7 x8 x9=>A9 (decide ((↑y0:Int)>512)) (Au (decide (y0*3<=y5.length))<|Ag (call 100 [.own 3 y0 (List.take (y0*3) y5)]) fun Cl Cw=>Ab Cl fun Dl Ds=>Es 3 Dl fun Dk D9=>Ab Ds fun Ea En=>Ad .i64 Ea fun E1=>Ac En<|Ac Cw<|Au (decide (Dk*3<=D9.length))<|some (A0.mk [.own 3 Dk (List.take (Dk*3) D9),.sc (.int .i64 E1)] [])) (Au (decide (y0*3<=y5.length)&&decide (x9.length=x8*3)&&decide ((y0+x8)*32<=1099511627776)&&decide (y0+x8<=1099511627776))<|Aa (y0+x8) fun Fg=>Aa (List.take (y0*3) y5++x9) fun Fp=>Aa (wrap .i64 (y4+1)) fun Ho=>Mr fu call a0n a0 (nn) Fg (y1) (y2) (y3) Ho Fp)) (Au (decide (y0*3<=y5.length))<|Ag (call 100 [.own 3 y0 (List.take (y0*3) y5)]) fun Hb Hr=>Ab Hb fun Dz Dq=>Es 3 Dz fun F5 H3=>Ab Dq fun E2 Jg=>Ad .i64 E2 fun L6=>Ac Jg<|Ac Hr<|Au (decide (F5*3<=H3.length))<|some (A0.mk [.own 3 F5 (List.take (F5*3) H3),.sc (.int .i64 L6)] []))):=by kernel_rfl
theorem TI (fu d a0n:Nat)(a0:List PV):Ae C0 Tryz.prog fu (d+1) Ua [.lst false 1 a0n a0]=(fun (call:Ah)=>Ag (call 99 [.lst false 1 a0n a0]) fun x1 x2=>Ac x2<|Ab x1 fun x3 x4=>Ad .i64 x3 fun x5=>Ac x4<|A9 (x5 != 0) (some (A0.mk [.own 3 0 [],.sc (.int .i64 x5)] [])) (Aa (wrap .u64 (↑a0n:Int)) fun x6=>Mr fu call a0n a0 (fu) 1 (a0n) (a0) ((↑a0n:Int)) 0 ([.sc (.int .i64 5),.sc (.int .u64 x6),.sc (.string (ByteArray.mk #[]))]))) (Ae C0 Tryz.prog fu d):=by kernel_rfl
abbrev Rs:FuncId:=72
noncomputable def Ke (fu:Nat)(call:Ah)(a0n:Nat)(a0:List PV)(nn y0 y1:Nat)(y2:List PV)(y3 y4:Int)(y5:List PV):Option A0:=Co CB Tryz.prog fu call 72 Tryz.f72 (Bm Tryz.f72) [.lst false 3 a0n a0] [.r,.r,.r,.l,.r,.l] nn ⟨lk [(5,(.view 5 1 0 y0)),(13,(.lst false 3 y1 y2)),(14,(.sc (.int .i64 y3))),(15,(.sc (.int .i64 y4)))],B7 [(5,(.ar false y5))]⟩
theorem Sm (fu:Nat)(call:Ah)(a0n:Nat)(a0:List PV)(nn y0 y1:Nat)(y2:List PV)(y3 y4:Int)(y5:List PV):Ke fu call a0n a0 (nn+1) y0 y1 y2 y3 y4 y5=(A9 (decide (y4<y3)) (Au (decide (0<=y4)&&decide (y4<(↑y1:Int)))<|Ad .i64 (List.getD y2 (Int.toNat y4*3) .top) fun x6=>Ad .u64 (List.getD y2 (Int.toNat y4*3+1) .top) fun x7=>Cj (List.getD y2 (Int.toNat y4*3+1+1) .top) fun x8=>Au (decide (y0*1<=y5.length))<|Ag (call 102 [.own 1 y0 (List.take (y0*1) y5),.agg [.sc (.int .i64 x6),.sc (.int .u64 x7),.sc (.string x8)]]) fun x9 Cl=>Ab x9 fun Cw Dl=>Es 1 Cw fun Ds Dk=>Ac Dl<|Ac Cl<|Aa (wrap .i64 (y4+1)) fun D9=>Ke fu call a0n a0 (nn) Ds (y1) (y2) (y3) D9 Dk) (Au (decide (y0*1<=y5.length))<|some (A0.mk [.own 1 y0 (List.take (y0*1) y5),.sc (.int .i64 0)] []))):=by kernel_rfl
theorem OR (fu d a0n:Nat)(a0:List PV):Ae C0 Tryz.prog fu (d+1) Rs [.lst false 3 a0n a0]=(fun (call:Ah)=>Ag (call 101 [.lst false 3 a0n a0]) fun x1 x2=>Ac x2<|Ab x1 fun x3 x4=>Ad .i64 x3 fun x5=>Ac x4<|A9 (x5 != 0) (some (A0.mk [.own 1 0 [],.sc (.int .i64 x5)] [])) (Ke fu call a0n a0 (fu) 0 (a0n) (a0) ((↑a0n:Int)) 0 ([]))) (Ae C0 Tryz.prog fu d):=by kernel_rfl
end
section
open Go.IntKind (wrap)
set_option maxRecDepth 100000
abbrev Ps:FuncId:=116
noncomputable def C8 (fu:Nat)(call:Ah)(a0_0 a0_1:Int)(a0_2:ByteArray)(nn:Nat)(y0 y1:Int):Option A0:=Co CB Tryz.prog fu call 116 Tryz.f116 (Bm Tryz.f116) [.agg [.sc (.int .i64 a0_0),.sc (.int .u64 a0_1),.sc (.string a0_2)]] [.r,.r,.r] nn ⟨lk [(3,(.sc (.int .u64 y0))),(4,(.sc (.int .u8 y1)))],B7 []⟩
theorem Vn (fu:Nat)(call:Ah)(a0_0 a0_1:Int)(a0_2:ByteArray)(nn:Nat)(hnn:0<nn)(y0 y1:Int):C8 fu call a0_0 a0_1 a0_2 nn y0 y1=(A9 (decide (y0<24)) (Aa (wrap .u8 y0) fun x5=>Aa (wrap .u8 (y1+x5)) fun x6=>some (A0.mk [.own 1 1 [.sc (.int .u8 x6)]] [])) (A9 (decide (y0<256)) (Aa (wrap .u8 (y1+24)) fun x7=>Aa (wrap .u8 y0) fun x8=>some (A0.mk [.own 1 2 [.sc (.int .u8 x7),.sc (.int .u8 x8)]] [])) (A9 (decide (y0<65536)) (Aa (wrap .u8 (y1+25)) fun x9=>Aa (D8 .u64 y0 8) fun Cl=>Aa (wrap .u8 Cl) fun Cw=>Aa (wrap .u8 y0) fun Dl=>some (A0.mk [.own 1 3 [.sc (.int .u8 x9),.sc (.int .u8 Cw),.sc (.int .u8 Dl)]] [])) (A9 (decide (y0<4294967296)) (Aa (wrap .u8 (y1+26)) fun Ds=>Aa (D8 .u64 y0 24) fun Dk=>Aa (wrap .u8 Dk) fun D9=>Aa (D8 .u64 y0 16) fun Ea=>Aa (wrap .u8 Ea) fun En=>Aa (D8 .u64 y0 8) fun E1=>Aa (wrap .u8 E1) fun Fg=>Aa (wrap .u8 y0) fun Fp=>some (A0.mk [.own 1 5 [.sc (.int .u8 Ds),.sc (.int .u8 D9),.sc (.int .u8 En),.sc (.int .u8 Fg),.sc (.int .u8 Fp)]] [])) (Aa (wrap .u8 (y1+27)) fun Ho=>Ag (call 84 [.lst false 1 1 [.sc (.int .u64 y0)]]) fun Hb Hr=>Ac Hr<|Ab Hb fun Dz Dq=>Es 1 Dz fun F5 H3=>Ac Dq<|Au (decide (0+F5*1<=H3.length))<|Au (decide (List.length (List.take (F5*1) (List.drop 0 H3))=F5*1)&&decide ((1+F5)*1<=1099511627776)&&decide (1+F5<=1099511627776))<|Aa (1+F5) fun E2=>Aa ([.sc (.int .u8 Ho)]++List.take (F5*1) (List.drop 0 H3)) fun Jg=>Au (decide (E2*1<=Jg.length))<|some (A0.mk [.own 1 E2 (List.take (E2*1) Jg)] [])))))):=by cases nn with|zero=>exact absurd hnn (Nat.lt_irrefl 0)|succ nn=>kernel_rfl
theorem AA (fu d:Nat)(a0_0 a0_1:Int)(a0_2:ByteArray):Ae C0 Tryz.prog fu (d+1) Ps [.agg [.sc (.int .i64 a0_0),.sc (.int .u64 a0_1),.sc (.string a0_2)]]=(fun (call:Ah)=>A9 (a0_0==7) (Aa (wrap .u8 a0_1) fun x1=>Aa (wrap .u8 (244+x1)) fun x2=>some (A0.mk [.own 1 1 [.sc (.int .u8 x2)]] [])) (A9 (a0_0==8) (some (A0.mk [.own 1 1 [.sc (.int .u8 246)]] [])) (A9 (a0_0==2) (C8 fu call a0_0 a0_1 a0_2 (fu) (a0_1) 32) (A9 (a0_0==3) (Aa (wrap .u64 (↑(ByteArray.size a0_2):Int)) fun x3=>C8 fu call a0_0 a0_1 a0_2 (fu) x3 64) (A9 (a0_0==4) (Aa (wrap .u64 (↑(ByteArray.size a0_2):Int)) fun x4=>C8 fu call a0_0 a0_1 a0_2 (fu) x4 96) (A9 (a0_0==5) (C8 fu call a0_0 a0_1 a0_2 (fu) (a0_1) 128) (A9 (a0_0==6) (C8 fu call a0_0 a0_1 a0_2 (fu) (a0_1) 160) (C8 fu call a0_0 a0_1 a0_2 (fu) (a0_1) 0)))))))) (Ae C0 Tryz.prog fu d):=by kernel_rfl
abbrev Ot:FuncId:=94
theorem Xz (fu d:Nat)(a0_0 a0_1:Int)(a0_2:ByteArray):Ae C0 Tryz.prog fu (d+1) Ot [.agg [.sc (.int .i64 a0_0),.sc (.int .u64 a0_1),.sc (.string a0_2)]]=(fun (call:Ah)=>Ag (call 116 [.agg [.sc (.int .i64 a0_0),.sc (.int .u64 a0_1),.sc (.string a0_2)]]) fun x1 x2=>Ac x2<|Ab x1 fun x3 x4=>Es 1 x3 fun x5 x6=>Ac x4<|Au (decide (0+x5*1<=x6.length))<|Au (decide (List.length (List.take (x5*1) (List.drop 0 x6))=x5))<|E5 (bytesOf (List.take (x5*1) (List.drop 0 x6))) fun x7=>Au (decide (ByteArray.size (ByteArray.mk (List.toArray x7))+ByteArray.size a0_2<=9223372036854775807))<|Aa (ByteArray.mk (List.toArray x7)++a0_2) fun x8=>some (A0.mk [.sc (.string x8)] [])) (Ae C0 Tryz.prog fu d):=by kernel_rfl
end
section
open Go.IntKind (wrap)
def I1 (s:ByteArray):List Int:=s.data.toList.map fun b=>(b.toNat:Int)
def Cd (l:List Int):ByteArray:=⟨(l.map fun n=>n.toNat.toUInt8).toArray⟩
theorem Qi (s:ByteArray):(I1 s).length=s.size:=by
 unfold I1;rw [List.length_map];rfl
theorem Ab6 (s:ByteArray):Kw (I1 s):=by
 intro x hx;obtain ⟨b,_,rfl⟩:=List.mem_map.1 hx;have:=b.toNat_lt;omega
theorem Mu (s:ByteArray):Dv s=Af .u8 (I1 s):=by
 unfold Dv I1
 induction s.data.toList with
 |nil=>rfl
 |cons b l ih=>rw [Zzw,Zzw,ih];rfl
theorem Ge (l:List Int):(Cd l).size=l.length:=by
 show (l.map fun n=>n.toNat.toUInt8).toArray.size=_
 simp
theorem O4 {l:List Int}(h:Kw l):I1 (Cd l)=l:=by
 unfold I1 Cd;simp only [List.map_map]
 have:∀l:List Int,Kw l->List.map ((fun b:UInt8=>(b.toNat:Int)) ∘ fun n:Int=>n.toNat.toUInt8) l=l:=by
  intro l
  induction l with
  |nil=>intro _;rfl
  |cons x l ih=>
   intro h;have hx:=h x (by simp)
   rw [Zzw,ih fun y hy=>h y (by simp [hy])]
   congr 1
   show ((x.toNat.toUInt8.toNat:Nat):Int)=x;rw [Nat.toUInt8,UInt8.toNat_ofNat'];omega
 exact this l h
theorem BF (s:ByteArray):Cd (I1 s)=s:=by
 unfold Cd I1;simp only [List.map_map]
 have:∀l:List UInt8,List.map ((fun n:Int=>n.toNat.toUInt8) ∘ fun b:UInt8=>(b.toNat:Int)) l=l:=by
  intro l
  induction l with
  |nil=>rfl
  |cons x l ih=>
   rw [Zzw,ih]
   congr 1
   show ((x.toNat:Int).toNat).toUInt8=x;rw [Gu];simp
 rw [this]
theorem Hf:∀l:List Int,bytesOf (Af .u8 l)=some (l.map fun n=>n.toNat.toUInt8)
 |[]=>rfl
 |x::l=>by
  show (bytesOf (Af .u8 l)).map (x.toNat.toUInt8 :: ·)=_
  rw [Hf l];rfl
theorem ZB (l:List Int)(s:ByteArray):Cd l++s=Cd (l++I1 s):=by
 conv=>lhs;rw [←BF s]
 unfold Cd;apply ByteArray.ext;rw [ByteArray.data_append];simp
def tb (n:Int)(k:Nat):List Int:=(List.range' (8-k) k).map (Da n)
def C3 (mj n:Int):List Int:=
 if n<24 then [32*mj+n] else if n<256 then (32*mj+24)::tb n 1 else if n<65536 then (32*mj+25)::tb n 2 else if n<4294967296 then (32*mj+26)::tb n 4 else (32*mj+27)::tb n 8
structure It where
 k:Int
 n:Int
 s:ByteArray
def It.cells (x:It):List PV:=[.sc (.int .i64 x.k),.sc (.int .u64 x.n),.sc (.string x.s)]
def Bw (x:It):List Int:=
 if x.k=7 then [wrap .u8 (244+wrap .u8 x.n)] else if x.k=8 then [246] else if x.k=3 then C3 2 x.s.size++I1 x.s else if x.k=4 then C3 3 x.s.size++I1 x.s else C3 (x.k-1) x.n
theorem Zm (n:Int)(k:Nat):(tb n k).length=k:=by simp [tb]
theorem A33 (n:Int)(k:Nat):Kw (tb n k):=by
 intro x hx;obtain ⟨j,_,rfl⟩:=List.mem_map.1 hx;exact VR n j
theorem Hn (mj n:Int):1<=(C3 mj n).length∧(C3 mj n).length<=9:=by
 unfold C3
 repeat' split
 all_goals simp [Zm]
theorem TW {mj n:Int}(h0:0<=mj)(h1:mj<=6)(hn:0<=n):Kw (C3 mj n):=by
 have hc:∀(a:Int) (l:List Int),0<=a∧a<=255->Kw l->Kw (a::l):=by
  intro a l ha hl x hx;rcases List.mem_cons.1 hx with rfl|hx
  ·exact ha
  ·exact hl x hx
 unfold C3
 repeat' split
 ·exact hc _ _ (by omega) (fun _ h=>by simp at h)
 all_goals exact hc _ _ (by omega) (A33 _ _)
theorem Ack {x:It}(h0:1<=x.k)(h1:x.k<=8)(hn:0<=x.n):Kw (Bw x):=by
 have happ:∀(a b:List Int),Kw a->Kw b->Kw (a++b):=by
  intro a b ha hb y hy;rcases List.mem_append.1 hy with h|h
  ·exact ha y h
  ·exact hb y h
 unfold Bw
 repeat' split
 ·intro y hy;simp at hy;subst hy;simp only [wrap,IntKind.signed,IntKind.bits];simp;omega
 ·intro y hy;simp at hy;omega
 ·exact happ _ _ (TW (by omega) (by omega) (by omega)) (Ab6 _)
 ·exact happ _ _ (TW (by omega) (by omega) (by omega)) (Ab6 _)
 ·exact TW (by omega) (by omega) hn
theorem G5 (x:It):(Bw x).length<=9+x.s.size:=by
 unfold Bw;have h2:=Hn 2 x.s.size;have h3:=Hn 3 x.s.size;have h4:=Hn (x.k-1) x.n;have hs:=Qi x.s
 repeat' split
 all_goals try simp only [Kh,Jd,Zw]
 all_goals omega
section
variable {fu d:Nat}
theorem RH {call:Ah}{a0n:Nat}{a0:List PV}{a1 a2 n:Int}:∀(k nn:Nat)(l:List Int),k<=8->k<nn->l.length+k<=1000000 ->
  Dy fu call a0n a0 a1 a2 nn l.length n ((k:Int)-1) (Af .u8 l)=some ⟨[.own 1 (l++tb n k).length (Af .u8 (l++tb n k))],[]⟩
 |_,0,_,_,h,_=>by omega
 |0,nn+1,l,hk,hn,hl=>by
  have L:=Am .u8 l;rw [Nj,Dj _ _ _ (by omega)]
  simp (disch:=omega) only [Bz,B8,J7,L];simp [tb]
 |k+1,nn+1,l,hk,hn,hl=>by
  have ih:=RH (call:=call) (a0n:=a0n) (a0:=a0) (a1:=a1) (a2:=a2) (n:=n) k nn (l++[Da n (8-(k+1))]) (by omega) (by omega) (by simp;omega)
  have L:=Am .u8 l;have w8:wrap .i64 (8*(((k+1:Nat):Int)-1))=8*(k:Int):=by rw [Al (by omega) (by omega)];omega
  have w:wrap .i64 (((k+1:Nat):Int)-1-1)=(k:Int)-1:=by rw [Al (by omega) (by omega)];omega
  have hb:wrap .u8 (D8 .u64 n (8*(k:Int)))=Da n (8-(k+1)):=by
   unfold Da;rw [show 56-8*((8-(k+1):Nat):Int)=8*(k:Int) by omega]
  have et:tb n (k+1)=Da n (8-(k+1))::tb n k:=by
   unfold tb;rw [List.range'_succ,Zzw,show 8-(k+1)+1=8-k by omega]
  have ea:l++tb n (k+1)=l++[Da n (8-(k+1))]++tb n k:=by rw [et];simp
  rw [ea,←ih,Nj];simp (disch:=omega) only [Bz,w8,hb,w,B8,J7,L,F0,Kh,Jd,Zw,Br]
theorem A0e {mj:Int}(h0:0<=mj)(h1:mj<=7):Hc .u8 mj 5=32*mj:=by
 have:mj=0∨mj=1∨mj=2∨mj=3∨mj=4∨mj=5∨mj=6∨mj=7:=by omega
 rcases this with rfl|rfl|rfl|rfl|rfl|rfl|rfl|rfl<;>decide
theorem Acr (hfu:1000<=fu){l:List Int}(hl:l.length<=900000){mj n:Int}(h0:0<=mj)(h1:mj<=5)(hn:0<=n):Ae C0 Tryz.prog fu (d+1) Kd [.own 1 l.length (Af .u8 l),.sc (.int .u8 mj),.sc (.int .u64 n)]=some ⟨[.own 1 (l++C3 mj n).length (Af .u8 (l++C3 mj n))],[]⟩:=by
 rw [DY];have s5:=A0e h0 (by omega)
 have L:=Am .u8 l;have w24:wrap .u8 (32*mj+24)=32*mj+24:=F2 (by omega) (by omega)
 have w25:wrap .u8 (32*mj+25)=32*mj+25:=F2 (by omega) (by omega)
 have w26:wrap .u8 (32*mj+26)=32*mj+26:=F2 (by omega) (by omega)
 have w27:wrap .u8 (32*mj+27)=32*mj+27:=F2 (by omega) (by omega)
 have lp:=fun (k:Nat) (hk:k<=8) (b:Int)=>RH (fu:=fu) (call:=Ae C0 Tryz.prog fu d) (a0n:=l.length) (a0:=Af .u8 l) (a1:=mj) (a2:=n) (n:=n) k fu (l++[b]) hk (by omega) (by simp;omega)
 have ec:∀(b:Int) (t:List Int),l++b::t=l++[b]++t:=by intro b t;simp
 unfold C3;by_cases c1:n<24
 ·have wn:wrap .u8 n=n:=F2 (by omega) (by omega)
  have ws:wrap .u8 (32*mj+n)=32*mj+n:=F2 (by omega) (by omega)
  have L1:=Am .u8 (l++[32*mj+n]);have t1:=J7 .u8 (l++[32*mj+n]);simp only [Kh,Jd,Zw,Br] at L1 t1;rw [Bu c1];simp (disch:=omega) only [Bz,s5,wn,ws,B8,J7,L,F0,L1,t1,Kh,Jd,Zw,Br]
 ·by_cases c2:n<256
  ·have l1:=lp 1 (by omega) (32*mj+24)
   rw [show ((1:Nat):Int)-1=0 by omega] at l1
   rw [A5 c1,Bu c2,ec,←l1];simp (disch:=omega) only [Bz,s5,w24,B8,J7,L,F0,Kh,Jd,Zw,Br]
  ·by_cases c3:n<65536
   ·have l1:=lp 2 (by omega) (32*mj+25)
    rw [show ((2:Nat):Int)-1=1 by omega] at l1
    rw [A5 c1,A5 c2,Bu c3,ec,←l1];simp (disch:=omega) only [Bz,s5,w25,B8,J7,L,F0,Kh,Jd,Zw,Br]
   ·by_cases c4:n<4294967296
    ·have l1:=lp 4 (by omega) (32*mj+26)
     rw [show ((4:Nat):Int)-1=3 by omega] at l1
     rw [A5 c1,A5 c2,A5 c3,Bu c4,ec,←l1];simp (disch:=omega) only [Bz,s5,w26,B8,J7,L,F0,Kh,Jd,Zw,Br]
    ·have l1:=lp 8 (by omega) (32*mj+27)
     rw [show ((8:Nat):Int)-1=7 by omega] at l1
     rw [A5 c1,A5 c2,A5 c3,A5 c4,ec,←l1];simp (disch:=omega) only [Bz,s5,w27,B8,J7,L,F0,Kh,Jd,Zw,Br]
structure It.ok (x:It):Prop where
 k1:1<=x.k
 k8:x.k<=8
 n0:0<=x.n
 s0:x.s.size<=500000
theorem Acg (hfu:1000<=fu){l:List Int}(hl:l.length<=300000){x:It}(hx:x.ok):Ae C0 Tryz.prog fu (d+2) Ri [.own 1 l.length (Af .u8 l),.agg x.cells]=some ⟨[.own 1 (l++Bw x).length (Af .u8 (l++Bw x))],[]⟩:=by
 obtain ⟨k,n,s⟩:=x;obtain ⟨k1,k8,n0,s0⟩:=hx;simp only at k1 k8 n0 s0;refine (BG fu (d+1) l.length (Af .u8 l) k n s).trans ?_;have L:=Am .u8 l;have hsl:=Qi s;unfold Bw;simp only;by_cases c7:k=7
 ·subst c7;have L1:=Am .u8 (l++[wrap .u8 (244+wrap .u8 n)]);have t1:=J7 .u8 (l++[wrap .u8 (244+wrap .u8 n)]);simp only [Kh,Jd,Zw,Br] at L1 t1;simp (disch:=omega) only [Bz,Eu,if_true,B8,J7,L,F0,L1,t1,Kh,Jd,Zw,Br]
 ·by_cases c8:k=8
  ·subst c8;have L1:=Am .u8 (l++[246]);have t1:=J7 .u8 (l++[246]);simp only [Kh,Jd,Zw,Br] at L1 t1;rw [A5 c7,Bu rfl];simp (disch:=omega) only [Bz,Eu,c7,if_false,if_true,B8,J7,L,F0,L1,t1,Kh,Jd,Zw,Br]
  ·have dat:∀mj:Int,0<=mj->mj<=5->(Ae C0 Tryz.prog fu (d+1) Kd [.own 1 l.length (Af .u8 l),.sc (.int .u8 mj),.sc (.int .u64 s.size)]=some ⟨[.own 1 (l++C3 mj s.size).length (Af .u8 (l++C3 mj s.size))],[]⟩)∧(l++C3 mj s.size).length<=300009∧List.take (l++C3 mj s.size).length (Af .u8 (l++C3 mj s.size))=Af .u8 (l++C3 mj s.size)∧(Af .u8 (l++C3 mj s.size)).length=(l++C3 mj s.size).length∧Af .u8 (l++C3 mj s.size)++Dv s=Af .u8 (l++(C3 mj s.size++I1 s))∧(l++(C3 mj s.size++I1 s)).length=(l++C3 mj s.size).length+s.size∧(Af .u8 (l++(C3 mj s.size++I1 s))).length=(l++C3 mj s.size).length+s.size:=by
    intro mj h0 h1;have hh:=Hn mj s.size;refine ⟨Acr hfu (by omega) h0 h1 (by omega),by rw [Kh];omega,J7 _ _,Am _ _,?_,?_,?_⟩
    ·rw [Mu,←ZK,Af,Af,Af,List.flatMap_append (xs:=l++C3 mj s.size)]
    ·rw [←ZK,Kh,hsl]
    ·rw [Am,←ZK,Kh,hsl]
   have ss:(Dv s).length=s.size:=by rw [Mu,Am,hsl]
   have wsz:wrap .u64 (s.size:Int)=s.size:=Cq (by omega) (by omega)
   rw [A5 c7,A5 c8];by_cases c3:k=3
   ·subst c3;obtain ⟨p1,p2,p3,p4,p5,p6,p7⟩:=dat 2 (by omega) (by omega)
    have w1:wrap .i64 ((3:Int)-1)=2:=by decide
    have w2:wrap .u8 (2:Int)=2:=by decide
    have t1:List.take ((l++C3 2 s.size).length+s.size) (Af .u8 (l++(C3 2 s.size++I1 s)))=Af .u8 (l++(C3 2 s.size++I1 s)):=Tp (by omega)
    rw [Bu rfl];simp (disch:=omega) only [Bz,Eu,c7,c8,if_false,if_true,w1,w2,wsz,B8,J7,L,p1];generalize (l++C3 2 s.size).length=N at *
    simp (disch:=omega) only [Bz,B8,p3,p4,p5,p7,t1,ss];rw [p6]
   ·by_cases c4:k=4
    ·subst c4;obtain ⟨p1,p2,p3,p4,p5,p6,p7⟩:=dat 3 (by omega) (by omega)
     have w1:wrap .i64 ((4:Int)-1)=3:=by decide
     have w2:wrap .u8 (3:Int)=3:=by decide
     have t1:List.take ((l++C3 3 s.size).length+s.size) (Af .u8 (l++(C3 3 s.size++I1 s)))=Af .u8 (l++(C3 3 s.size++I1 s)):=Tp (by omega)
     rw [A5 c3,Bu rfl];simp (disch:=omega) only [Bz,Eu,c7,c8,c3,if_false,if_true,w1,w2,wsz,B8,J7,L,p1];generalize (l++C3 3 s.size).length=N at *
     simp (disch:=omega) only [Bz,B8,p3,p4,p5,p7,t1,ss];rw [p6]
    ·have w1:wrap .i64 (k-1)=k-1:=Al (by omega) (by omega)
     have w2:wrap .u8 (k-1)=k-1:=F2 (by omega) (by omega)
     have p1:=Acr (fu:=fu) (d:=d) hfu (l:=l) (by omega) (mj:=k-1) (n:=n) (by omega) (by omega) n0
     have L2:=Am .u8 (l++C3 (k-1) n);have t2:=J7 .u8 (l++C3 (k-1) n);rw [A5 c3,A5 c4];simp (disch:=omega) only [Bz,Eu,c7,c8,c3,c4,if_false,w1,w2,B8,J7,L,p1,L2,t2]
end
end
section
open Go.IntKind (wrap)
set_option maxRecDepth 100000
abbrev Ly:FuncId:=48
theorem Vj (fu d:Nat)(a0 a1 a2:Int):Ae C0 Tryz.prog fu (d+1) Ly [.sc (.int .i64 a0),.sc (.int .i64 a1),.sc (.int .i64 a2)]=(fun (call:Ah)=>A9 (decide (a0>=a1)) (some (A0.mk [.sc (.bool (decide (a0<=a2)))] [])) (some (A0.mk [.sc (.bool false)] []))) (Ae C0 Tryz.prog fu d):=by kernel_rfl
abbrev M3:FuncId:=59
theorem Wx (fu d:Nat)(a0:Int):Ae C0 Tryz.prog fu (d+1) M3 [.sc (.int .i64 a0)]=(fun (call:Ah)=>Aa (wrap .u64 a0) fun x1=>some (A0.mk [.agg [.sc (.int .i64 5),.sc (.int .u64 x1),.sc (.string (ByteArray.mk #[]))]] [])) (Ae C0 Tryz.prog fu d):=by kernel_rfl
abbrev Oq:FuncId:=60
theorem Yq (fu d:Nat)(a0:ByteArray):Ae C0 Tryz.prog fu (d+1) Oq [.sc (.string a0)]=(fun (call:Ah)=>some (A0.mk [.agg [.sc (.int .i64 4),.sc (.int .u64 0),.sc (.string a0)]] [])) (Ae C0 Tryz.prog fu d):=by kernel_rfl
abbrev Lx:FuncId:=61
theorem Vo (fu d:Nat)(a0:Int):Ae C0 Tryz.prog fu (d+1) Lx [.sc (.int .u64 a0)]=(fun (call:Ah)=>some (A0.mk [.agg [.sc (.int .i64 1),.sc (.int .u64 a0),.sc (.string (ByteArray.mk #[]))]] [])) (Ae C0 Tryz.prog fu d):=by kernel_rfl
abbrev Oi:FuncId:=62
theorem Yp (fu d a0n:Nat)(a0:List PV):Ae C0 Tryz.prog fu (d+1) Oi [.lst false 1 a0n a0]=(fun (call:Ah)=>Au (decide (a0.length=a0n))<|E5 (bytesOf a0) fun x1=>some (A0.mk [.agg [.sc (.int .i64 3),.sc (.int .u64 0),.sc (.string (ByteArray.mk (List.toArray x1)))]] [])) (Ae C0 Tryz.prog fu d):=by kernel_rfl
abbrev Kq:FuncId:=63
theorem Up (fu d:Nat)(a0:Bool):Ae C0 Tryz.prog fu (d+1) Kq [.sc (.bool a0)]=(fun (call:Ah)=>A9 (a0) (some (A0.mk [.agg [.sc (.int .i64 7),.sc (.int .u64 1),.sc (.string (ByteArray.mk #[]))]] [])) (some (A0.mk [.agg [.sc (.int .i64 7),.sc (.int .u64 0),.sc (.string (ByteArray.mk #[]))]] []))) (Ae C0 Tryz.prog fu d):=by kernel_rfl
abbrev M5:FuncId:=58
noncomputable def F3 (fu:Nat)(call:Ah)(a0n:Nat)(a0:List PV)(nn y0:Nat)(y1:List PV)(y2:Nat)(y3:Int)(y4:List PV):Option A0:=Co CB Tryz.prog fu call 58 Tryz.f58 (Bm Tryz.f58) [.lst false 3 a0n a0] [.r,.r,.l,.r,.l] nn ⟨lk [(0,(.lst false 3 y0 y1)),(3,(.view 3 1 0 y2)),(4,(.sc (.int .i64 y3)))],B7 [(3,(.ar false y4))]⟩
theorem Jt (fu:Nat)(call:Ah)(a0n:Nat)(a0:List PV)(nn y0:Nat)(y1:List PV)(y2:Nat)(y3:Int)(y4:List PV):F3 fu call a0n a0 (nn+1) y0 y1 y2 y3 y4=(A9 (decide (y3<(↑y0:Int))) (Au (decide (0<=y3)&&decide (y3<(↑y0:Int)))<|Ad .i64 (List.getD y1 (Int.toNat y3*3) .top) fun x1=>Ad .u64 (List.getD y1 (Int.toNat y3*3+1) .top) fun x2=>Cj (List.getD y1 (Int.toNat y3*3+1+1) .top) fun x3=>Ag (call 94 [.agg [.sc (.int .i64 x1),.sc (.int .u64 x2),.sc (.string x3)]]) fun x4 x5=>Ac x5<|Ab x4 fun x6 x7=>Cj x6 fun x8=>Ac x7<|Au (decide (y2*1<=y4.length)&&decide (List.length (Dv x8)=ByteArray.size x8*1)&&decide ((y2+ByteArray.size x8)*1<=1099511627776)&&decide (y2+ByteArray.size x8<=1099511627776))<|Aa (y2+ByteArray.size x8) fun x9=>Aa (List.take (y2*1) y4++Dv x8) fun Cl=>Aa (wrap .i64 (y3+1)) fun Cw=>F3 fu call a0n a0 (nn) (y0) (y1) x9 Cw Cl) (Au (decide (y2*1<=y4.length))<|some (A0.mk [.own 1 y2 (List.take (y2*1) y4)] []))):=by kernel_rfl
theorem W8 (fu d a0n:Nat)(a0:List PV):Ae C0 Tryz.prog fu (d+1) M5 [.lst false 3 a0n a0]=(fun (call:Ah)=>F3 fu call a0n a0 (fu) (a0n) (a0) 0 0 ([])) (Ae C0 Tryz.prog fu d):=by kernel_rfl
abbrev Og:FuncId:=32
theorem Yf (fu d:Nat)(a0_0 a0_1:ByteArray)(a0_2 a0_3:Int)(a0_4 a0_5 a0_6:Int)(a0_7:Bool)(a0_8 a0_9 a0_10:Int)(a0_11n:Nat)(a0_11:List PV)(a0_12n:Nat)(a0_12:List PV):Ae C0 Tryz.prog fu (d+1) Og [.agg [.sc (.string a0_0),.sc (.string a0_1),.sc (.int .u64 a0_2),.sc (.int .i64 a0_3),.sc (.int .u64 a0_4),.sc (.int .i64 a0_5),.sc (.int .i64 a0_6),.sc (.bool a0_7),.sc (.int .i64 a0_8),.sc (.int .u64 a0_9),.sc (.int .i64 a0_10),.lst false 1 a0_11n a0_11,.lst false 1 a0_12n a0_12]]=(fun (call:Ah)=>Ag (call 48 [.sc (.int .i64 (↑(ByteArray.size a0_0):Int)),.sc (.int .i64 1),.sc (.int .i64 32)]) fun x1 x2=>Ac x2<|Ab x1 fun x3 x4=>Bj x3 fun x5=>Ac x4<|A9 (!x5) (some (A0.mk [.own 1 0 [],.sc (.int .i64 9)] [])) (Ag (call 48 [.sc (.int .i64 (↑(ByteArray.size a0_1):Int)),.sc (.int .i64 1),.sc (.int .i64 32)]) fun x6 x7=>Ac x7<|Ab x6 fun x8 x9=>Bj x8 fun Cl=>Ac x9<|A9 (!Cl) (some (A0.mk [.own 1 0 [],.sc (.int .i64 9)] [])) (Ag (call 56 [.sc (.string a0_0)]) fun Cw Dl=>Ac Dl<|Ab Cw fun Ds Dk=>Bj Ds fun D9=>Ac Dk<|A9 (!D9) (some (A0.mk [.own 1 0 [],.sc (.int .i64 6)] [])) (Ag (call 56 [.sc (.string a0_1)]) fun Ea En=>Ac En<|Ab Ea fun E1 Fg=>Bj E1 fun Fp=>Ac Fg<|A9 (!Fp) (some (A0.mk [.own 1 0 [],.sc (.int .i64 6)] [])) (Ag (call 57 [.agg [.sc (.int .i64 a0_3),.sc (.int .u64 a0_4)]]) fun Ho Hb=>Ac Hb<|Ab Ho fun Hr Dz=>Es 1 Hr fun Dq F5=>Ab Dz fun H3 E2=>Ad .i64 H3 fun Jg=>Ac E2<|A9 (Jg != 0) (some (A0.mk [.own 1 0 [],.sc (.int .i64 Jg)] [])) (A9 (decide (a0_5<0)) (some (A0.mk [.own 1 0 [],.sc (.int .i64 9)] [])) (A9 (decide (a0_6<a0_5)) (some (A0.mk [.own 1 0 [],.sc (.int .i64 9)] [])) (A9 (decide (a0_6>1099511627776)) (some (A0.mk [.own 1 0 [],.sc (.int .i64 9)] [])) (Ag (call 48 [.sc (.int .i64 a0_8),.sc (.int .i64 0),.sc (.int .i64 2)]) fun L6 J3=>Ac J3<|Ab L6 fun Mp Mg=>Bj Mp fun Nm=>Ac Mg<|A9 (!Nm) (some (A0.mk [.own 1 0 [],.sc (.int .i64 9)] [])) (A9 (a0_8 != 0) (A9 (!a0_7) (some (A0.mk [.own 1 0 [],.sc (.int .i64 4)] [])) (Ag (call 59 [.sc (.int .i64 9)]) fun Pt P7=>Ac P7<|Ab Pt fun R4 Hi=>C4 R4 fun J8=>Ab J8 fun Uy Y8=>Ad .i64 Uy fun Ph=>Ab Y8 fun Nw Uo=>Ad .u64 Nw fun Sb=>Ab Uo fun To Xt=>Cj To fun Yh=>Ac Xt<|Ac Hi<|Ag (call 60 [.sc (.string a0_0)]) fun Sd We=>Ac We<|Ab Sd fun Yk Xe=>C4 Yk fun O3=>Ab O3 fun Yl DK=>Ad .i64 Yl fun BC=>Ab DK fun Y3 U7=>Ad .u64 Y3 fun X7=>Ab U7 fun BA Zd=>Cj BA fun Y6=>Ac Zd<|Ac Xe<|Ag (call 60 [.sc (.string a0_1)]) fun BB Y1=>Ac Y1<|Ab BB fun Za Xv=>C4 Za fun Xj=>Ab Xj fun EB Zs=>Ad .i64 EB fun Y2=>Ab Zs fun Zf Zz=>Ad .u64 Zf fun EG=>Ab Zz fun Zk Y4=>Cj Zk fun GZ=>Ac Y4<|Ac Xv<|Ag (call 61 [.sc (.int .u64 a0_2)]) fun BE FP=>Ac FP<|Ab BE fun IU IW=>C4 IU fun UI=>Ab UI fun NQ RU=>Ad .i64 NQ fun OL=>Ab RU fun ZG WJ=>Ad .u64 ZG fun UX=>Ab WJ fun TX EI=>Cj TX fun RG=>Ac EI<|Ac IW<|Au (decide (0+Dq*1<=F5.length))<|Ag (call 62 [.lst false 1 Dq (List.take (Dq*1) (List.drop 0 F5))]) fun SE YA=>Ac YA<|Ab SE fun VI x94=>C4 VI fun x95=>Ab x95 fun x96 UZ=>Ad .i64 x96 fun ZM=>Ab UZ fun ZN Ys=>Ad .u64 ZN fun Xb=>Ab Ys fun H5 D7=>Cj H5 fun Z6=>Ac D7<|Ac x94<|Aa (wrap .u64 a0_5) fun Tl=>Ag (call 61 [.sc (.int .u64 Tl)]) fun R7 Kx=>Ac Kx<|Ab R7 fun Zu AM=>C4 Zu fun Z4=>Ab Z4 fun Zr Iy=>Ad .i64 Zr fun Kl=>Ab Iy fun AW Zh=>Ad .u64 AW fun AP=>Ab Zh fun FS Ub=>Cj FS fun Vw=>Ac Ub<|Ac AM<|Aa (wrap .u64 a0_6) fun Yi=>Ag (call 61 [.sc (.int .u64 Yi)]) fun X9 Zo=>Ac Zo<|Ab X9 fun BI Tg=>C4 BI fun R3=>Ab R3 fun Qt Tu=>Ad .i64 Qt fun Vl=>Ab Tu fun CF Zi=>Ad .u64 CF fun JN=>Ab Zi fun EO Zp=>Cj EO fun IF=>Ac Zp<|Ac Tg<|Ag (call 63 [.sc (.bool a0_7)]) fun JL LF=>Ac LF<|Ab JL fun NX LD=>C4 NX fun FB=>Ab FB fun IC JQ=>Ad .i64 IC fun MS=>Ab JQ fun LX FR=>Ad .u64 LX fun IG=>Ab FR fun IA HU=>Cj IA fun NG=>Ac HU<|Ac LD<|Aa (wrap .u64 a0_8) fun SG=>Ag (call 61 [.sc (.int .u64 SG)]) fun XK UG=>Ac UG<|Ab XK fun EQ OW=>C4 EQ fun SF=>Ab SF fun Aad Aa7=>Ad .i64 Aad fun YG=>Ab Aa7 fun RY ZF=>Ad .u64 RY fun Aai=>Ab ZF fun Aa4 WR=>Cj Aa4 fun Aa3=>Ac WR<|Ac OW<|Ag (call 61 [.sc (.int .u64 a0_9)]) fun TP Aak=>Ac Aak<|Ab TP fun Aaw SA=>C4 Aaw fun YK=>Ab YK fun Abn Aaz=>Ad .i64 Abn fun Aar=>Ab Aaz fun Ags Ajv=>Ad .u64 Ags fun Ai9=>Ab Ajv fun Aca Afb=>Cj Aca fun Aj2=>Ac Afb<|Ac SA<|Ag (call 58 [.lst false 3 10 [.sc (.int .i64 Ph),.sc (.int .u64 Sb),.sc (.string Yh),.sc (.int .i64 BC),.sc (.int .u64 X7),.sc (.string Y6),.sc (.int .i64 Y2),.sc (.int .u64 EG),.sc (.string GZ),.sc (.int .i64 OL),.sc (.int .u64 UX),.sc (.string RG),.sc (.int .i64 ZM),.sc (.int .u64 Xb),.sc (.string Z6),.sc (.int .i64 Kl),.sc (.int .u64 AP),.sc (.string Vw),.sc (.int .i64 Vl),.sc (.int .u64 JN),.sc (.string IF),.sc (.int .i64 MS),.sc (.int .u64 IG),.sc (.string NG),.sc (.int .i64 YG),.sc (.int .u64 Aai),.sc (.string Aa3),.sc (.int .i64 Aar),.sc (.int .u64 Ai9),.sc (.string Aj2)]]) fun Ahg Agz=>Ac Agz<|Ab Ahg fun Anr Aol=>Es 1 Anr fun Aj8 Alu=>Ac Aol<|Au (decide (Aj8*1<=Alu.length))<|some (A0.mk [.own 1 Aj8 (List.take (Aj8*1) Alu),.sc (.int .i64 0)] []))) (Ag (call 59 [.sc (.int .i64 9)]) fun Apu Aou=>Ac Aou<|Ab Apu fun Aqy Anx=>C4 Aqy fun Ar5=>Ab Ar5 fun Aqf Arg=>Ad .i64 Aqf fun Arr=>Ab Arg fun Aov Asw=>Ad .u64 Aov fun Ark=>Ab Asw fun Ass An8=>Cj Ass fun Ar3=>Ac An8<|Ac Anx<|Ag (call 60 [.sc (.string a0_0)]) fun An0 Asr=>Ac Asr<|Ab An0 fun Ars Asf=>C4 Ars fun Apc=>Ab Apc fun Aq0 Apa=>Ad .i64 Aq0 fun Aoz=>Ab Apa fun Ao2 Ap7=>Ad .u64 Ao2 fun Aok=>Ab Ap7 fun Apo Aro=>Cj Apo fun At5=>Ac Aro<|Ac Asf<|Ag (call 60 [.sc (.string a0_1)]) fun Aq8 Aps=>Ac Aps<|Ab Aq8 fun Apb Anu=>C4 Apb fun Ath=>Ab Ath fun Aqe Asy=>Ad .i64 Aqe fun Arv=>Ab Asy fun Ar6 Atz=>Ad .u64 Ar6 fun Asb=>Ab Atz fun Ar2 Ao1=>Cj Ar2 fun Anw=>Ac Ao1<|Ac Anu<|Ag (call 61 [.sc (.int .u64 a0_2)]) fun Aq1 Apx=>Ac Apx<|Ab Aq1 fun Aq4 Art=>C4 Aq4 fun Ao6=>Ab Ao6 fun Apy Arn=>Ad .i64 Apy fun Aqr=>Ab Arn fun An5 Ati=>Ad .u64 An5 fun Apf=>Ab Ati fun An2 Att=>Cj An2 fun Aob=>Ac Att<|Ac Art<|Au (decide (0+Dq*1<=F5.length))<|Ag (call 62 [.lst false 1 Dq (List.take (Dq*1) (List.drop 0 F5))]) fun Aox Aqb=>Ac Aqb<|Ab Aox fun Aoq Apg=>C4 Aoq fun Ap4=>Ab Ap4 fun Ask App=>Ad .i64 Ask fun Anv=>Ab App fun Aqg Ar1=>Ad .u64 Aqg fun Atp=>Ab Ar1 fun Aoa Ary=>Cj Aoa fun Asx=>Ac Ary<|Ac Apg<|Aa (wrap .u64 a0_5) fun Ao9=>Ag (call 61 [.sc (.int .u64 Ao9)]) fun Aq6 An3=>Ac An3<|Ab Aq6 fun Aom Aqk=>C4 Aom fun Apt=>Ab Apt fun Apq Ap8=>Ad .i64 Apq fun Asc=>Ab Ap8 fun Arm Aq7=>Ad .u64 Arm fun Apl=>Ab Aq7 fun Ap5 Arh=>Cj Ap5 fun Aqx=>Ac Arh<|Ac Aqk<|Aa (wrap .u64 a0_6) fun Ar8=>Ag (call 61 [.sc (.int .u64 Ar8)]) fun Aqj Asq=>Ac Asq<|Ab Aqj fun Arp Aoy=>C4 Arp fun Anz=>Ab Anz fun Aow Ar0=>Ad .i64 Aow fun Asg=>Ab Ar0 fun Arb Are=>Ad .u64 Arb fun Aqz=>Ab Are fun Aql Ap6=>Cj Aql fun Aoe=>Ac Ap6<|Ac Aoy<|Ag (call 63 [.sc (.bool a0_7)]) fun Aq2 Asz=>Ac Asz<|Ab Aq2 fun Asd Ar9=>C4 Asd fun Apd=>Ab Apd fun Aqv Aor=>Ad .i64 Aqv fun Aqs=>Ab Aor fun Aru Asu=>Ad .u64 Aru fun Aqa=>Ab Asu fun Apj At4=>Cj Apj fun Ard=>Ac At4<|Ac Ar9<|Aa (wrap .u64 a0_8) fun Aot=>Ag (call 61 [.sc (.int .u64 Aot)]) fun Aos Aon=>Ac Aon<|Ab Aos fun Auc Aoo=>C4 Auc fun Arl=>Ab Arl fun Aqw Ao5=>Ad .i64 Aqw fun Atj=>Ab Ao5 fun Ant Aso=>Ad .u64 Ant fun Aqn=>Ab Aso fun Apv Ap2=>Cj Apv fun An4=>Ac Ap2<|Ac Aoo<|Ag (call 61 [.sc (.int .u64 a0_9)]) fun Ae8 Ar4=>Ac Ar4<|Ab Ae8 fun Ara Apm=>C4 Ara fun Aod=>Ab Aod fun Aue ZQ=>Ad .i64 Aue fun ZO=>Ab ZQ fun Ao8 Ap3=>Ad .u64 Ao8 fun Aac=>Ab Ap3 fun Asi Aq5=>Cj Asi fun Aph=>Ac Aq5<|Ac Apm<|Ag (call 58 [.lst false 3 10 [.sc (.int .i64 Arr),.sc (.int .u64 Ark),.sc (.string Ar3),.sc (.int .i64 Aoz),.sc (.int .u64 Aok),.sc (.string At5),.sc (.int .i64 Arv),.sc (.int .u64 Asb),.sc (.string Anw),.sc (.int .i64 Aqr),.sc (.int .u64 Apf),.sc (.string Aob),.sc (.int .i64 Anv),.sc (.int .u64 Atp),.sc (.string Asx),.sc (.int .i64 Asc),.sc (.int .u64 Apl),.sc (.string Aqx),.sc (.int .i64 Asg),.sc (.int .u64 Aqz),.sc (.string Aoe),.sc (.int .i64 Aqs),.sc (.int .u64 Aqa),.sc (.string Ard),.sc (.int .i64 Atj),.sc (.int .u64 Aqn),.sc (.string An4),.sc (.int .i64 ZO),.sc (.int .u64 Aac),.sc (.string Aph)]]) fun Ao0 Ao7=>Ac Ao7<|Ab Ao0 fun Aqu An1=>Es 1 Aqu fun Ai2 Alw=>Ac An1<|Au (decide (Ai2*1<=Alw.length))<|some (A0.mk [.own 1 Ai2 (List.take (Ai2*1) Alw),.sc (.int .i64 0)] [])))))))))))) (Ae C0 Tryz.prog fu d):=by kernel_rfl
abbrev Oj:FuncId:=13
theorem Xy (fu d:Nat)(a0_0 a0_1:ByteArray)(a0_2 a0_3:Int)(a0_4 a0_5 a0_6:Int)(a0_7:Bool)(a0_8 a0_9 a0_10:Int)(a0_11n:Nat)(a0_11:List PV)(a0_12n:Nat)(a0_12:List PV)(a1 a2 a3:Int):Ae C0 Tryz.prog fu (d+1) Oj [.agg [.sc (.string a0_0),.sc (.string a0_1),.sc (.int .u64 a0_2),.sc (.int .i64 a0_3),.sc (.int .u64 a0_4),.sc (.int .i64 a0_5),.sc (.int .i64 a0_6),.sc (.bool a0_7),.sc (.int .i64 a0_8),.sc (.int .u64 a0_9),.sc (.int .i64 a0_10),.lst false 1 a0_11n a0_11,.lst false 1 a0_12n a0_12],.sc (.int .u64 a1),.sc (.int .i64 a2),.sc (.int .i64 a3)]=(fun (call:Ah)=>Ag (call 32 [.agg [.sc (.string a0_0),.sc (.string a0_1),.sc (.int .u64 a0_2),.sc (.int .i64 a0_3),.sc (.int .u64 a0_4),.sc (.int .i64 a0_5),.sc (.int .i64 a0_6),.sc (.bool a0_7),.sc (.int .i64 a0_8),.sc (.int .u64 a0_9),.sc (.int .i64 a0_10),.lst false 1 a0_11n a0_11,.lst false 1 a0_12n a0_12]]) fun x1 x2=>Ac x2<|Ab x1 fun x3 x4=>Es 1 x3 fun x5 x6=>Ab x4 fun x7 x8=>Ad .i64 x7 fun x9=>Ac x8<|A9 (x9 != 0) (some (A0.mk [.agg [.sc (.string (ByteArray.mk #[])),.sc (.string (ByteArray.mk #[])),.sc (.int .u64 0),.sc (.int .i64 0),.sc (.int .u64 0),.sc (.int .i64 0),.sc (.int .i64 0),.sc (.bool false),.sc (.int .i64 0),.sc (.int .u64 0),.sc (.int .i64 0),.lst false 1 0 [],.lst false 1 0 []],.sc (.int .i64 x9)] [])) (Au (decide (0+x5*1<=x6.length))<|Ag (call 34 [.sc (.int .i64 14),.lst false 1 x5 (List.take (x5*1) (List.drop 0 x6))]) fun Cl Cw=>Ac Cw<|Ab Cl fun Dl Ds=>Ad .u64 Dl fun Dk=>Ac Ds<|Ag (call 33 [.sc (.int .u64 a1),.sc (.int .i64 a2),.sc (.int .i64 a3),.sc (.int .u64 Dk)]) fun D9 Ea=>Ac Ea<|Ab D9 fun En E1=>C4 En fun Fg=>Ab Fg fun Fp Ho=>Ad .i64 Fp fun Hb=>Ab Ho fun Hr Dz=>Es 1 Hr fun Dq F5=>Ab Dz fun H3 E2=>Es 1 H3 fun Jg L6=>Ac E2<|Ab E1 fun J3 Mp=>Ad .i64 J3 fun Mg=>Ac Mp<|A9 (Mg != 0) (some (A0.mk [.agg [.sc (.string (ByteArray.mk #[])),.sc (.string (ByteArray.mk #[])),.sc (.int .u64 0),.sc (.int .i64 0),.sc (.int .u64 0),.sc (.int .i64 0),.sc (.int .i64 0),.sc (.bool false),.sc (.int .i64 0),.sc (.int .u64 0),.sc (.int .i64 0),.lst false 1 0 [],.lst false 1 0 []],.sc (.int .i64 Mg)] [])) (Au (decide (0+Dq*1<=F5.length))<|Au (decide (0+Jg*1<=L6.length))<|some (A0.mk [.agg [.sc (.string a0_0),.sc (.string a0_1),.sc (.int .u64 a0_2),.sc (.int .i64 a0_3),.sc (.int .u64 a0_4),.sc (.int .i64 a0_5),.sc (.int .i64 a0_6),.sc (.bool a0_7),.sc (.int .i64 a0_8),.sc (.int .u64 a0_9),.sc (.int .i64 Hb),.lst false 1 Dq (List.take (Dq*1) (List.drop 0 F5)),.lst false 1 Jg (List.take (Jg*1) (List.drop 0 L6))],.sc (.int .i64 0)] [])))) (Ae C0 Tryz.prog fu d):=by kernel_rfl
abbrev Lu:FuncId:=21
theorem Vf (fu d:Nat)(a0_0 a0_1:ByteArray)(a0_2 a0_3:Int)(a0_4 a0_5 a0_6:Int)(a0_7:Bool)(a0_8 a0_9 a0_10:Int)(a0_11n:Nat)(a0_11:List PV)(a0_12n:Nat)(a0_12:List PV)(a1_0 a1_1:Int):Ae C0 Tryz.prog fu (d+1) Lu [.agg [.sc (.string a0_0),.sc (.string a0_1),.sc (.int .u64 a0_2),.sc (.int .i64 a0_3),.sc (.int .u64 a0_4),.sc (.int .i64 a0_5),.sc (.int .i64 a0_6),.sc (.bool a0_7),.sc (.int .i64 a0_8),.sc (.int .u64 a0_9),.sc (.int .i64 a0_10),.lst false 1 a0_11n a0_11,.lst false 1 a0_12n a0_12],.agg [.sc (.int .i64 a1_0),.sc (.int .u64 a1_1)]]=(fun (call:Ah)=>Ag (call 32 [.agg [.sc (.string a0_0),.sc (.string a0_1),.sc (.int .u64 a0_2),.sc (.int .i64 a0_3),.sc (.int .u64 a0_4),.sc (.int .i64 a0_5),.sc (.int .i64 a0_6),.sc (.bool a0_7),.sc (.int .i64 a0_8),.sc (.int .u64 a0_9),.sc (.int .i64 a0_10),.lst false 1 a0_11n a0_11,.lst false 1 a0_12n a0_12]]) fun x1 x2=>Ac x2<|Ab x1 fun x3 x4=>Es 1 x3 fun x5 x6=>Ab x4 fun x7 x8=>Ad .i64 x7 fun x9=>Ac x8<|A9 (x9 != 0) (some (A0.mk [.sc (.int .i64 x9)] [])) (Au (decide (0+x5*1<=x6.length))<|Ag (call 34 [.sc (.int .i64 14),.lst false 1 x5 (List.take (x5*1) (List.drop 0 x6))]) fun Cl Cw=>Ac Cw<|Ab Cl fun Dl Ds=>Ad .u64 Dl fun Dk=>Ac Ds<|Ag (call 42 [.agg [.sc (.int .i64 a1_0),.sc (.int .u64 a1_1)],.sc (.int .u64 Dk),.agg [.sc (.int .i64 a0_10),.lst false 1 a0_11n a0_11,.lst false 1 a0_12n a0_12]]) fun D9 Ea=>Ac Ea<|Ab D9 fun En E1=>Ad .i64 En fun Fg=>Ac E1<|some (A0.mk [.sc (.int .i64 Fg)] []))) (Ae C0 Tryz.prog fu d):=by kernel_rfl
abbrev Lj:FuncId:=49
noncomputable def Eb (fu:Nat)(call:Ah)(a0_0 a0_1:ByteArray)(a0_2 a0_3:Int)(a0_4 a0_5 a0_6:Int)(a0_7:Bool)(a0_8 a0_9 a0_10:Int)(a0_11n:Nat)(a0_11:List PV)(a0_12n:Nat)(a0_12:List PV)(a1n:Nat)(a1:List PV)(nn y0:Nat)(y1:List PV)(y2:Int)(y3 y4:ByteArray)(y5 y6:Int)(y7 y8 y9:Int)(y10:Bool)(Gk Hx Ja:Int)(Kp:Nat)(Lq:List PV)(Ob:Nat)(Ol:List PV):Option A0:=Co CB Tryz.prog fu call 49 Tryz.f49 (Bm Tryz.f49) [.agg [.sc (.string a0_0),.sc (.string a0_1),.sc (.int .u64 a0_2),.sc (.int .i64 a0_3),.sc (.int .u64 a0_4),.sc (.int .i64 a0_5),.sc (.int .i64 a0_6),.sc (.bool a0_7),.sc (.int .i64 a0_8),.sc (.int .u64 a0_9),.sc (.int .i64 a0_10),.lst false 1 a0_11n a0_11,.lst false 1 a0_12n a0_12],.lst false 3 a1n a1] [.r,.l,.r,.l] nn ⟨lk [(1,(.lst false 3 y0 y1)),(2,(.ptr 2 0)),(5,(.sc (.int .i64 y2)))],B7 [(2,(.st [(.sc (.string y3)),(.sc (.string y4)),(.sc (.int .u64 y5)),(.sc (.int .i64 y6)),(.sc (.int .u64 y7)),(.sc (.int .i64 y8)),(.sc (.int .i64 y9)),(.sc (.bool y10)),(.sc (.int .i64 Gk)),(.sc (.int .u64 Hx)),(.sc (.int .i64 Ja)),(.lst false 1 Kp Lq),(.lst false 1 Ob Ol)]))]⟩
theorem I5 (fu:Nat)(call:Ah)(a0_0 a0_1:ByteArray)(a0_2 a0_3:Int)(a0_4 a0_5 a0_6:Int)(a0_7:Bool)(a0_8 a0_9 a0_10:Int)(a0_11n:Nat)(a0_11:List PV)(a0_12n:Nat)(a0_12:List PV)(a1n:Nat)(a1:List PV)(nn y0:Nat)(y1:List PV)(y2:Int)(y3 y4:ByteArray)(y5 y6:Int)(y7 y8 y9:Int)(y10:Bool)(Gk Hx Ja:Int)(Kp:Nat)(Lq:List PV)(Ob:Nat)(Ol:List PV):Eb fu call a0_0 a0_1 a0_2 a0_3 a0_4 a0_5 a0_6 a0_7 a0_8 a0_9 a0_10 a0_11n a0_11 a0_12n a0_12 a1n a1 (nn+1) y0 y1 y2 y3 y4 y5 y6 y7 y8 y9 y10 Gk Hx Ja Kp Lq Ob Ol=(A9 (decide (y2<(↑y0:Int))) (Au (decide (0<=y2)&&decide (y2<(↑y0:Int)))<|Cj (List.getD y1 (Int.toNat y2*3+0) .top) fun x1=>A9 (Array.toList (ByteArray.data x1)==Array.toList (ByteArray.data y4)) (Au (decide (0<=y2)&&decide (y2<(↑y0:Int)))<|Ad .i64 (List.getD y1 (Int.toNat y2*3+1) .top) fun x2=>Ad .u64 (List.getD y1 (Int.toNat y2*3+1+1) .top) fun x3=>Ag (call 21 [.agg [.sc (.string y3),.sc (.string y4),.sc (.int .u64 y5),.sc (.int .i64 y6),.sc (.int .u64 y7),.sc (.int .i64 y8),.sc (.int .i64 y9),.sc (.bool y10),.sc (.int .i64 Gk),.sc (.int .u64 Hx),.sc (.int .i64 Ja),.lst false 1 Kp Lq,.lst false 1 Ob Ol],.agg [.sc (.int .i64 x2),.sc (.int .u64 x3)]]) fun x4 x5=>Ac x5<|Ab x4 fun x6 x7=>Ad .i64 x6 fun x8=>Ac x7<|A9 (x8==0) (some (A0.mk [.sc (.int .i64 y2)] [])) (Aa (wrap .i64 (y2+1)) fun x9=>Eb fu call a0_0 a0_1 a0_2 a0_3 a0_4 a0_5 a0_6 a0_7 a0_8 a0_9 a0_10 a0_11n a0_11 a0_12n a0_12 a1n a1 (nn) (y0) (y1) x9 (y3) (y4) (y5) (y6) (y7) (y8) (y9) (y10) (Gk) (Hx) (Ja) (Kp) (Lq) (Ob) (Ol))) (Aa (wrap .i64 (y2+1)) fun Cl=>Eb fu call a0_0 a0_1 a0_2 a0_3 a0_4 a0_5 a0_6 a0_7 a0_8 a0_9 a0_10 a0_11n a0_11 a0_12n a0_12 a1n a1 (nn) (y0) (y1) Cl (y3) (y4) (y5) (y6) (y7) (y8) (y9) (y10) (Gk) (Hx) (Ja) (Kp) (Lq) (Ob) (Ol))) (some (A0.mk [.sc (.int .i64 (-1))] []))):=by kernel_rfl
theorem Vp (fu d:Nat)(a0_0 a0_1:ByteArray)(a0_2 a0_3:Int)(a0_4 a0_5 a0_6:Int)(a0_7:Bool)(a0_8 a0_9 a0_10:Int)(a0_11n:Nat)(a0_11:List PV)(a0_12n:Nat)(a0_12:List PV)(a1n:Nat)(a1:List PV):Ae C0 Tryz.prog fu (d+1) Lj [.agg [.sc (.string a0_0),.sc (.string a0_1),.sc (.int .u64 a0_2),.sc (.int .i64 a0_3),.sc (.int .u64 a0_4),.sc (.int .i64 a0_5),.sc (.int .i64 a0_6),.sc (.bool a0_7),.sc (.int .i64 a0_8),.sc (.int .u64 a0_9),.sc (.int .i64 a0_10),.lst false 1 a0_11n a0_11,.lst false 1 a0_12n a0_12],.lst false 3 a1n a1]=(fun (call:Ah)=>Eb fu call a0_0 a0_1 a0_2 a0_3 a0_4 a0_5 a0_6 a0_7 a0_8 a0_9 a0_10 a0_11n a0_11 a0_12n a0_12 a1n a1 (fu) (a1n) (a1) 0 (a0_0) (a0_1) (a0_2) (a0_3) (a0_4) (a0_5) (a0_6) (a0_7) (a0_8) (a0_9) (a0_10) (a0_11n) (a0_11) (a0_12n) (a0_12)) (Ae C0 Tryz.prog fu d):=by kernel_rfl
abbrev Oa:FuncId:=28
noncomputable def D0 (fu:Nat)(call:Ah)(a0n:Nat)(a0:List PV)(a1n:Nat)(a1:List PV)(a2n:Nat)(a2:List PV)(a3:Int)(nn y0:Nat)(y1:List PV)(y2:Nat)(y3:List PV)(y4:Nat)(y5:List PV)(y6 y7:Int):Option A0:=Co CB Tryz.prog fu call 28 Tryz.f28 (Bm Tryz.f28) [.lst false 13 a0n a0,.lst false 3 a1n a1,.lst false 3 a2n a2,.sc (.int .i64 a3)] [.r,.r,.r,.l,.r,.l] nn ⟨lk [(0,(.lst false 13 y0 y1)),(1,(.lst false 3 y2 y3)),(2,(.lst false 3 y4 y5)),(3,(.sc (.int .i64 y6))),(10,(.sc (.int .i64 y7)))],B7 []⟩
noncomputable def Gg (fu:Nat)(call:Ah)(a0n:Nat)(a0:List PV)(a1n:Nat)(a1:List PV)(a2n:Nat)(a2:List PV)(a3:Int)(m0 nn y0:Nat)(y1:List PV)(y2:Nat)(y3:List PV)(y4:Nat)(y5:List PV)(y6 y7:Int)(y8 y9:ByteArray)(y10 Gk:Int)(Hx Ja Kp:Int)(Lq:Bool)(Ob Ol Va:Int)(Zt:Nat)(Yj:List PV)(U6:Nat)(SP:List PV):Option A0:=Co CB Tryz.prog fu call 28 Tryz.f28 (Bm Tryz.f28) [.lst false 13 a0n a0,.lst false 3 a1n a1,.lst false 3 a2n a2,.sc (.int .i64 a3)] [.r,.r,.r,.l,.r,.l,.i m0,.r,.l,.l,.r,.r] nn ⟨lk [(0,(.lst false 13 y0 y1)),(1,(.lst false 3 y2 y3)),(2,(.lst false 3 y4 y5)),(3,(.sc (.int .i64 y6))),(10,(.sc (.int .i64 y7))),(11,(.ptr 11 0))],B7 [(11,(.st [(.sc (.string y8)),(.sc (.string y9)),(.sc (.int .u64 y10)),(.sc (.int .i64 Gk)),(.sc (.int .u64 Hx)),(.sc (.int .i64 Ja)),(.sc (.int .i64 Kp)),(.sc (.bool Lq)),(.sc (.int .i64 Ob)),(.sc (.int .u64 Ol)),(.sc (.int .i64 Va)),(.lst false 1 Zt Yj),(.lst false 1 U6 SP)]))]⟩
noncomputable def Cy (fu:Nat)(call:Ah)(a0n:Nat)(a0:List PV)(a1n:Nat)(a1:List PV)(a2n:Nat)(a2:List PV)(a3:Int)(m0 nn y0:Nat)(y1:List PV)(y2:Nat)(y3:List PV)(y4:Nat)(y5:List PV)(y6 y7 y8:Int)(y9 y10:ByteArray)(Gk Hx:Int)(Ja Kp Lq:Int)(Ob:Bool)(Ol Va Zt:Int)(Yj:Nat)(U6:List PV)(SP:Nat)(y23:List PV):Option A0:=Co CB Tryz.prog fu call 28 Tryz.f28 (Bm Tryz.f28) [.lst false 13 a0n a0,.lst false 3 a1n a1,.lst false 3 a2n a2,.sc (.int .i64 a3)] [.r,.r,.r,.l,.r,.l,.i m0,.r,.l,.l,.r,.r,.r,.l,.r,.l] nn ⟨lk [(0,(.lst false 13 y0 y1)),(1,(.lst false 3 y2 y3)),(2,(.lst false 3 y4 y5)),(3,(.sc (.int .i64 y6))),(10,(.sc (.int .i64 y7))),(11,(.ptr 11 0)),(14,(.sc (.int .i64 y8)))],B7 [(11,(.st [(.sc (.string y9)),(.sc (.string y10)),(.sc (.int .u64 Gk)),(.sc (.int .i64 Hx)),(.sc (.int .u64 Ja)),(.sc (.int .i64 Kp)),(.sc (.int .i64 Lq)),(.sc (.bool Ob)),(.sc (.int .i64 Ol)),(.sc (.int .u64 Va)),(.sc (.int .i64 Zt)),(.lst false 1 Yj U6),(.lst false 1 SP y23)]))]⟩
theorem Hk (fu:Nat)(call:Ah)(a0n:Nat)(a0:List PV)(a1n:Nat)(a1:List PV)(a2n:Nat)(a2:List PV)(a3:Int)(nn y0:Nat)(y1:List PV)(y2:Nat)(y3:List PV)(y4:Nat)(y5:List PV)(y6 y7:Int):D0 fu call a0n a0 a1n a1 a2n a2 a3 (nn+1) y0 y1 y2 y3 y4 y5 y6 y7=(A9 (decide (y7<(↑y0:Int))) (Au (decide (0<=y7)&&decide (y7<(↑y0:Int)))<|Cj (List.getD y1 (Int.toNat y7*13) .top) fun Cw=>Cj (List.getD y1 (Int.toNat y7*13+1) .top) fun Dl=>Ad .u64 (List.getD y1 (Int.toNat y7*13+1+1) .top) fun Ds=>Ad .i64 (List.getD y1 (Int.toNat y7*13+1+1+1) .top) fun Dk=>Ad .u64 (List.getD y1 (Int.toNat y7*13+1+1+1+1) .top) fun D9=>Ad .i64 (List.getD y1 (Int.toNat y7*13+1+1+1+1+1) .top) fun Ea=>Ad .i64 (List.getD y1 (Int.toNat y7*13+1+1+1+1+1+1) .top) fun En=>Bj (List.getD y1 (Int.toNat y7*13+1+1+1+1+1+1+1) .top) fun E1=>Ad .i64 (List.getD y1 (Int.toNat y7*13+1+1+1+1+1+1+1+1) .top) fun Fg=>Ad .u64 (List.getD y1 (Int.toNat y7*13+1+1+1+1+1+1+1+1+1) .top) fun Fp=>Ad .i64 (List.getD y1 (Int.toNat y7*13+1+1+1+1+1+1+1+1+1+1) .top) fun Ho=>Fk 1 (List.getD y1 (Int.toNat y7*13+1+1+1+1+1+1+1+1+1+1+1) .top) fun Hb Hr Dz=>Fk 1 (List.getD y1 (Int.toNat y7*13+1+1+1+1+1+1+1+1+1+1+1+1) .top) fun Dq F5 H3=>Ag (call 32 [.agg [.sc (.string Cw),.sc (.string Dl),.sc (.int .u64 Ds),.sc (.int .i64 Dk),.sc (.int .u64 D9),.sc (.int .i64 Ea),.sc (.int .i64 En),.sc (.bool E1),.sc (.int .i64 Fg),.sc (.int .u64 Fp),.sc (.int .i64 Ho),.lst false 1 Hr Dz,.lst false 1 F5 H3]]) fun E2 Jg=>Ac Jg<|Ab E2 fun L6 J3=>Es 1 L6 fun Mp Mg=>Ab J3 fun Nm Pt=>Ad .i64 Nm fun P7=>Ac Pt<|A9 (P7 != 0) (some (A0.mk [.sc (.int .i64 0),.sc (.int .i64 P7)] [])) (Ag (call 48 [.sc (.int .i64 y6),.sc (.int .i64 Ea),.sc (.int .i64 En)]) fun R4 Hi=>Ac Hi<|Ab R4 fun J8 Uy=>Bj J8 fun Y8=>Ac Uy<|A9 (!Y8) (some (A0.mk [.sc (.int .i64 0),.sc (.int .i64 38)] [])) (A9 (decide (y7>0)) (A9 (!E1) (some (A0.mk [.sc (.int .i64 0),.sc (.int .i64 38)] [])) (Aa (wrap .i64 (y7-1)) fun Ph=>A9 (decide (Fg<Ph)) (some (A0.mk [.sc (.int .i64 0),.sc (.int .i64 38)] [])) (Gg fu call a0n a0 a1n a1 a2n a2 a3 nn (fu) (y0) (y1) (y2) (y3) (y4) (y5) (y6) (y7) Cw Dl Ds Dk D9 Ea En E1 Fg Fp Ho Hr Dz F5 H3))) (Gg fu call a0n a0 a1n a1 a2n a2 a3 nn (fu) (y0) (y1) (y2) (y3) (y4) (y5) (y6) (y7) Cw Dl Ds Dk D9 Ea En E1 Fg Fp Ho Hr Dz F5 H3)))) (Aa (wrap .i64 ((↑y0:Int)-1)) fun Nw=>Au (decide (0<=Nw)&&decide (Nw<(↑y0:Int)))<|Cj (List.getD y1 (Int.toNat Nw*13) .top) fun Uo=>Cj (List.getD y1 (Int.toNat Nw*13+1) .top) fun Sb=>Ad .u64 (List.getD y1 (Int.toNat Nw*13+1+1) .top) fun To=>Ad .i64 (List.getD y1 (Int.toNat Nw*13+1+1+1) .top) fun Xt=>Ad .u64 (List.getD y1 (Int.toNat Nw*13+1+1+1+1) .top) fun Yh=>Ad .i64 (List.getD y1 (Int.toNat Nw*13+1+1+1+1+1) .top) fun Sd=>Ad .i64 (List.getD y1 (Int.toNat Nw*13+1+1+1+1+1+1) .top) fun We=>Bj (List.getD y1 (Int.toNat Nw*13+1+1+1+1+1+1+1) .top) fun Yk=>Ad .i64 (List.getD y1 (Int.toNat Nw*13+1+1+1+1+1+1+1+1) .top) fun Xe=>Ad .u64 (List.getD y1 (Int.toNat Nw*13+1+1+1+1+1+1+1+1+1) .top) fun O3=>Ad .i64 (List.getD y1 (Int.toNat Nw*13+1+1+1+1+1+1+1+1+1+1) .top) fun Yl=>Fk 1 (List.getD y1 (Int.toNat Nw*13+1+1+1+1+1+1+1+1+1+1+1) .top) fun DK BC Y3=>Fk 1 (List.getD y1 (Int.toNat Nw*13+1+1+1+1+1+1+1+1+1+1+1+1) .top) fun U7 X7 BA=>Ag (call 49 [.agg [.sc (.string Uo),.sc (.string Sb),.sc (.int .u64 To),.sc (.int .i64 Xt),.sc (.int .u64 Yh),.sc (.int .i64 Sd),.sc (.int .i64 We),.sc (.bool Yk),.sc (.int .i64 Xe),.sc (.int .u64 O3),.sc (.int .i64 Yl),.lst false 1 BC Y3,.lst false 1 X7 BA],.lst false 3 y2 y3]) fun Zd Y6=>Ac Y6<|Ab Zd fun BB Y1=>Ad .i64 BB fun Za=>Ac Y1<|A9 (decide (Za<0)) (some (A0.mk [.sc (.int .i64 0),.sc (.int .i64 38)] [])) (some (A0.mk [.sc (.int .i64 Za),.sc (.int .i64 0)] [])))):=by kernel_rfl
theorem Ts (fu:Nat)(call:Ah)(a0n:Nat)(a0:List PV)(a1n:Nat)(a1:List PV)(a2n:Nat)(a2:List PV)(a3:Int)(m0 nn:Nat)(hnn:0<nn)(y0:Nat)(y1:List PV)(y2:Nat)(y3:List PV)(y4:Nat)(y5:List PV)(y6 y7:Int)(y8 y9:ByteArray)(y10 Gk:Int)(Hx Ja Kp:Int)(Lq:Bool)(Ob Ol Va:Int)(Zt:Nat)(Yj:List PV)(U6:Nat)(SP:List PV):Gg fu call a0n a0 a1n a1 a2n a2 a3 m0 nn y0 y1 y2 y3 y4 y5 y6 y7 y8 y9 y10 Gk Hx Ja Kp Lq Ob Ol Va Zt Yj U6 SP=(Cy fu call a0n a0 a1n a1 a2n a2 a3 m0 (fu) (y0) (y1) (y2) (y3) (y4) (y5) (y6) (y7) 0 (y8) (y9) (y10) (Gk) (Hx) (Ja) (Kp) (Lq) (Ob) (Ol) (Va) (Zt) (Yj) (U6) (SP)):=by cases nn with|zero=>exact absurd hnn (Nat.lt_irrefl 0)|succ nn=>kernel_rfl
theorem Hh (fu:Nat)(call:Ah)(a0n:Nat)(a0:List PV)(a1n:Nat)(a1:List PV)(a2n:Nat)(a2:List PV)(a3:Int)(m0 nn y0:Nat)(y1:List PV)(y2:Nat)(y3:List PV)(y4:Nat)(y5:List PV)(y6 y7 y8:Int)(y9 y10:ByteArray)(Gk Hx:Int)(Ja Kp Lq:Int)(Ob:Bool)(Ol Va Zt:Int)(Yj:Nat)(U6:List PV)(SP:Nat)(y23:List PV):Cy fu call a0n a0 a1n a1 a2n a2 a3 m0 (nn+1) y0 y1 y2 y3 y4 y5 y6 y7 y8 y9 y10 Gk Hx Ja Kp Lq Ob Ol Va Zt Yj U6 SP y23=(A9 (decide (y8<(↑y4:Int))) (Au (decide (0<=y8)&&decide (y8<(↑y4:Int)))<|Cj (List.getD y5 (Int.toNat y8*3+0) .top) fun Xv=>A9 (Array.toList (ByteArray.data Xv)==Array.toList (ByteArray.data y10)) (Au (decide (0<=y8)&&decide (y8<(↑y4:Int)))<|Ad .u64 (List.getD y5 (Int.toNat y8*3+1) .top) fun Xj=>A9 (Xj==Gk) (Au (decide (0<=y8)&&decide (y8<(↑y4:Int)))<|Ad .i64 (List.getD y5 (Int.toNat y8*3+2) .top) fun EB=>A9 (decide (EB<=y6)) (some (A0.mk [.sc (.int .i64 0),.sc (.int .i64 39)] [])) (Aa (wrap .i64 (y8+1)) fun Zs=>Cy fu call a0n a0 a1n a1 a2n a2 a3 m0 (nn) (y0) (y1) (y2) (y3) (y4) (y5) (y6) (y7) Zs (y9) (y10) (Gk) (Hx) (Ja) (Kp) (Lq) (Ob) (Ol) (Va) (Zt) (Yj) (U6) (SP) (y23))) (Aa (wrap .i64 (y8+1)) fun Y2=>Cy fu call a0n a0 a1n a1 a2n a2 a3 m0 (nn) (y0) (y1) (y2) (y3) (y4) (y5) (y6) (y7) Y2 (y9) (y10) (Gk) (Hx) (Ja) (Kp) (Lq) (Ob) (Ol) (Va) (Zt) (Yj) (U6) (SP) (y23))) (Aa (wrap .i64 (y8+1)) fun Zf=>Cy fu call a0n a0 a1n a1 a2n a2 a3 m0 (nn) (y0) (y1) (y2) (y3) (y4) (y5) (y6) (y7) Zf (y9) (y10) (Gk) (Hx) (Ja) (Kp) (Lq) (Ob) (Ol) (Va) (Zt) (Yj) (U6) (SP) (y23))) (Aa (wrap .i64 (y7+1)) fun Zz=>A9 (decide (Zz<(↑y0:Int))) (Aa (wrap .i64 (y7+1)) fun EG=>Au (decide (0<=EG)&&decide (EG<(↑y0:Int)))<|Cj (List.getD y1 (Int.toNat EG*13+0) .top) fun Zk=>A9 (!Array.toList (ByteArray.data y10)==Array.toList (ByteArray.data Zk)) (some (A0.mk [.sc (.int .i64 0),.sc (.int .i64 38)] [])) (Aa (wrap .i64 (y7+1)) fun Y4=>Au (decide (0<=Y4)&&decide (Y4<(↑y0:Int)))<|Ad .i64 (List.getD y1 (Int.toNat Y4*13+3) .top) fun GZ=>Ad .u64 (List.getD y1 (Int.toNat Y4*13+3+1) .top) fun BE=>Ag (call 21 [.agg [.sc (.string y9),.sc (.string y10),.sc (.int .u64 Gk),.sc (.int .i64 Hx),.sc (.int .u64 Ja),.sc (.int .i64 Kp),.sc (.int .i64 Lq),.sc (.bool Ob),.sc (.int .i64 Ol),.sc (.int .u64 Va),.sc (.int .i64 Zt),.lst false 1 Yj U6,.lst false 1 SP y23],.agg [.sc (.int .i64 GZ),.sc (.int .u64 BE)]]) fun FP IU=>Ac IU<|Ab FP fun IW UI=>Ad .i64 IW fun NQ=>Ac UI<|A9 (NQ != 0) (some (A0.mk [.sc (.int .i64 0),.sc (.int .i64 NQ)] [])) (Aa (wrap .i64 (y7+1)) fun RU=>D0 fu call a0n a0 a1n a1 a2n a2 a3 (m0) (y0) (y1) (y2) (y3) (y4) (y5) (y6) RU))) (Aa (wrap .i64 (y7+1)) fun OL=>D0 fu call a0n a0 a1n a1 a2n a2 a3 (m0) (y0) (y1) (y2) (y3) (y4) (y5) (y6) OL))):=by kernel_rfl
theorem Yd (fu d a0n:Nat)(a0:List PV)(a1n:Nat)(a1:List PV)(a2n:Nat)(a2:List PV)(a3:Int):Ae C0 Tryz.prog fu (d+1) Oa [.lst false 13 a0n a0,.lst false 3 a1n a1,.lst false 3 a2n a2,.sc (.int .i64 a3)]=(fun (call:Ah)=>Ag (call 48 [.sc (.int .i64 a3),.sc (.int .i64 0),.sc (.int .i64 1099511627776)]) fun x1 x2=>Ac x2<|Ab x1 fun x3 x4=>Bj x3 fun x5=>Ac x4<|A9 (!x5) (some (A0.mk [.sc (.int .i64 0),.sc (.int .i64 9)] [])) (Ag (call 48 [.sc (.int .i64 (↑a0n:Int)),.sc (.int .i64 1),.sc (.int .i64 3)]) fun x6 x7=>Ac x7<|Ab x6 fun x8 x9=>Bj x8 fun Cl=>Ac x9<|A9 (!Cl) (some (A0.mk [.sc (.int .i64 0),.sc (.int .i64 38)] [])) (D0 fu call a0n a0 a1n a1 a2n a2 a3 (fu) (a0n) (a0) (a1n) (a1) (a2n) (a2) (a3) 0))) (Ae C0 Tryz.prog fu d):=by kernel_rfl
abbrev Ha:FuncId:=19
theorem Ma (fu d:Nat)(a0_0 a0_1:ByteArray)(a0_2 a0_3:Int)(a0_4 a0_5 a0_6:Int)(a0_7:Bool)(a0_8 a0_9 a0_10:Int)(a0_11n:Nat)(a0_11:List PV)(a0_12n:Nat)(a0_12:List PV)(a1_0 a1_1:ByteArray)(a1_2 Ahs:Int)(Ah4 Aj3 Akg:Int)(Akd:Bool)(Ain Ajn YV:Int)(Ajr:Nat)(WA:List PV)(Akl:Nat)(XM:List PV):Ae C0 Tryz.prog fu (d+1) Ha [.agg [.sc (.string a0_0),.sc (.string a0_1),.sc (.int .u64 a0_2),.sc (.int .i64 a0_3),.sc (.int .u64 a0_4),.sc (.int .i64 a0_5),.sc (.int .i64 a0_6),.sc (.bool a0_7),.sc (.int .i64 a0_8),.sc (.int .u64 a0_9),.sc (.int .i64 a0_10),.lst false 1 a0_11n a0_11,.lst false 1 a0_12n a0_12],.agg [.sc (.string a1_0),.sc (.string a1_1),.sc (.int .u64 a1_2),.sc (.int .i64 Ahs),.sc (.int .u64 Ah4),.sc (.int .i64 Aj3),.sc (.int .i64 Akg),.sc (.bool Akd),.sc (.int .i64 Ain),.sc (.int .u64 Ajn),.sc (.int .i64 YV),.lst false 1 Ajr WA,.lst false 1 Akl XM]]=(fun (call:Ah)=>A9 (Array.toList (ByteArray.data a0_0)==Array.toList (ByteArray.data a1_0)) (A9 (Array.toList (ByteArray.data a0_1)==Array.toList (ByteArray.data a1_1)) (A9 (a0_2==a1_2) (A9 (a0_3==Ahs&&(a0_4==Ah4&&true)) (A9 (a0_5==Aj3) (A9 (a0_6==Akg) (A9 (a0_7==Akd) (A9 (a0_8==Ain) (A9 (a0_9==Ajn) (Ag (call 40 [.agg [.sc (.int .i64 a0_10),.lst false 1 a0_11n a0_11,.lst false 1 a0_12n a0_12],.agg [.sc (.int .i64 YV),.lst false 1 Ajr WA,.lst false 1 Akl XM]]) fun x1 x2=>Ac x2<|Ab x1 fun x3 x4=>Bj x3 fun x5=>Ac x4<|some (A0.mk [.sc (.bool x5)] [])) (some (A0.mk [.sc (.bool false)] []))) (some (A0.mk [.sc (.bool false)] []))) (some (A0.mk [.sc (.bool false)] []))) (some (A0.mk [.sc (.bool false)] []))) (some (A0.mk [.sc (.bool false)] []))) (some (A0.mk [.sc (.bool false)] []))) (some (A0.mk [.sc (.bool false)] []))) (some (A0.mk [.sc (.bool false)] []))) (some (A0.mk [.sc (.bool false)] []))) (Ae C0 Tryz.prog fu d):=by kernel_rfl
end
section
open Go.IntKind (wrap)
def Te (x:It):List Int:=
 if x.k=7 then [wrap .u8 (244+wrap .u8 x.n)] else if x.k=8 then [246] else if x.k=3 then C3 2 x.s.size else if x.k=4 then C3 3 x.s.size else C3 (x.k-1) x.n
def It.dat (x:It):Prop:=x.k=3∨x.k=4∨I1 x.s=[]
theorem Age {x:It}(h:x.dat):Bw x=Te x++I1 x.s:=by
 unfold Bw Te;by_cases c7:x.k=7
 ·rcases h with h|h|h
  ·omega
  ·omega
  ·simp [c7,h]
 ·by_cases c8:x.k=8
  ·rcases h with h|h|h
   ·omega
   ·omega
   ·simp [c8,h]
  ·by_cases c3:x.k=3
   ·simp [c3]
   ·by_cases c4:x.k=4
    ·simp [c4]
    ·rcases h with h|h|h
     ·omega
     ·omega
     ·simp [c7,c8,c3,c4,h]
theorem Afd (x:It):(Te x).length<=9:=by
 have h2:=Hn 2 x.s.size;have h3:=Hn 3 x.s.size;have h4:=Hn (x.k-1) x.n;unfold Te
 repeat' split
 all_goals try simp only [Jd,Zw]
 all_goals omega
theorem Aj1 (v:Int):D8 .u64 v 0=v:=by
 show v.fdiv (2 ^ (min (0:Int).toNat IntKind.u64.bits))=v;have:(2:Int) ^ (min (0:Int).toNat IntKind.u64.bits)=1:=by decide
 rw [this,Int.fdiv_one]
theorem tb1 (v:Int):tb v 1=[wrap .u8 v]:=by
 show [wrap .u8 (D8 .u64 v (56-8*((7:Nat):Int)))]=_;rw [show (56:Int)-8*((7:Nat):Int)=0 by omega,Aj1]
theorem tb2 (v:Int):tb v 2=[wrap .u8 (D8 .u64 v 8),wrap .u8 v]:=by
 show [wrap .u8 (D8 .u64 v (56-8*((6:Nat):Int))),wrap .u8 (D8 .u64 v (56-8*((7:Nat):Int)))]=_;rw [show (56:Int)-8*((7:Nat):Int)=0 by omega,show (56:Int)-8*((6:Nat):Int)=8 by omega,Aj1]
theorem tb4 (v:Int):tb v 4=[wrap .u8 (D8 .u64 v 24),wrap .u8 (D8 .u64 v 16),wrap .u8 (D8 .u64 v 8),wrap .u8 v]:=by
 show [wrap .u8 (D8 .u64 v (56-8*((4:Nat):Int))),wrap .u8 (D8 .u64 v (56-8*((5:Nat):Int))),wrap .u8 (D8 .u64 v (56-8*((6:Nat):Int))),wrap .u8 (D8 .u64 v (56-8*((7:Nat):Int)))]=_;rw [show (56:Int)-8*((7:Nat):Int)=0 by omega,show (56:Int)-8*((6:Nat):Int)=8 by omega,show (56:Int)-8*((5:Nat):Int)=16 by omega,show (56:Int)-8*((4:Nat):Int)=24 by omega,Aj1]
theorem tb8 (v:Int):tb v 8=D3 v:=rfl
section
variable {fu d:Nat}
theorem Ake (hfu:1000<=fu){k n:Int}{s:ByteArray}{nn:Nat}(hn:0<nn){mj v:Int}(h0:0<=mj)(h1:mj<=5)(hv:0<=v):
  C8 fu (Ae C0 Tryz.prog fu (d+1)) k n s nn v (32*mj)=some ⟨[.own 1 (C3 mj v).length (Af .u8 (C3 mj v))],[]⟩:=by
 rw [Vn (hnn:=hn)];have w24:wrap .u8 (32*mj+24)=32*mj+24:=F2 (by omega) (by omega)
 have w25:wrap .u8 (32*mj+25)=32*mj+25:=F2 (by omega) (by omega)
 have w26:wrap .u8 (32*mj+26)=32*mj+26:=F2 (by omega) (by omega)
 have w27:wrap .u8 (32*mj+27)=32*mj+27:=F2 (by omega) (by omega)
 unfold C3;by_cases c1:v<24
 ·have wn:wrap .u8 v=v:=F2 (by omega) (by omega)
  have ws:wrap .u8 (32*mj+v)=32*mj+v:=F2 (by omega) (by omega)
  rw [Bu c1];simp (disch:=omega) only [Bz,wn,ws];rfl
 ·by_cases c2:v<256
  ·rw [A5 c1,Bu c2,tb1];simp (disch:=omega) only [Bz,w24];rfl
  ·by_cases c3:v<65536
   ·rw [A5 c1,A5 c2,Bu c3,tb2];simp (disch:=omega) only [Bz,w25];rfl
   ·by_cases c4:v<4294967296
    ·rw [A5 c1,A5 c2,A5 c3,Bu c4,tb4];simp (disch:=omega) only [Bz,w26];rfl
    ·have wd:=Aog (fu:=fu) (d:=d) hfu v;have L:=Am .u8 (D3 v);rw [E9] at L;have t8:List.take 8 (Af .u8 (D3 v))=Af .u8 (D3 v):=Tp (by omega)
     have eC:[PV.sc (.int .u8 (32*mj+27))]++Af .u8 (D3 v)=Af .u8 ((32*mj+27)::D3 v):=rfl;have L9:(Af .u8 ((32*mj+27)::D3 v)).length=9:=by rw [Am,Jd,E9]
     have t9:List.take 9 (Af .u8 ((32*mj+27)::D3 v))=Af .u8 ((32*mj+27)::D3 v):=Tp (by omega)
     rw [A5 c1,A5 c2,A5 c3,A5 c4,tb8,Jd,E9];simp (disch:=omega) only [Bz,w27,wd,B8,Br,E6,L,t8,eC,Nat.reduceAdd,L9,t9]
theorem Ai4 (hfu:1000<=fu){x:It}(hx:x.ok):Ae C0 Tryz.prog fu (d+2) Ps [.agg x.cells]=some ⟨[.own 1 (Te x).length (Af .u8 (Te x))],[]⟩:=by
 obtain ⟨k,n,s⟩:=x;obtain ⟨k1,k8,n0,s0⟩:=hx;simp only at k1 k8 n0 s0;refine (AA fu (d+1) k n s).trans ?_;have wsz:wrap .u64 (s.size:Int)=s.size:=Cq (by omega) (by omega)
 have J:=fun (mj v:Int) (h0:0<=mj) (h1:mj<=5) (hv:0<=v)=>Ake (fu:=fu) (d:=d) hfu (k:=k) (n:=n) (s:=s) (nn:=fu) (by omega) h0 h1 hv
 have j0:=J 0 n (by omega) (by omega) n0
 have j1:=J 1 n (by omega) (by omega) n0
 have j2:=J 2 s.size (by omega) (by omega) (by omega)
 have j3:=J 3 s.size (by omega) (by omega) (by omega)
 have j4:=J 4 n (by omega) (by omega) n0
 have j5:=J 5 n (by omega) (by omega) n0
 rw [show (32:Int)*0=0 by omega] at j0
 rw [show (32:Int)*1=32 by omega] at j1
 rw [show (32:Int)*2=64 by omega] at j2
 rw [show (32:Int)*3=96 by omega] at j3
 rw [show (32:Int)*4=128 by omega] at j4
 rw [show (32:Int)*5=160 by omega] at j5
 unfold Te;simp only;have:k=1∨k=2∨k=3∨k=4∨k=5∨k=6∨k=7∨k=8:=by omega
 rcases this with rfl|rfl|rfl|rfl|rfl|rfl|rfl|rfl
 ·simp only [Bz,Eu,Int.reduceEq,if_true,if_false,Int.reduceSub,j0]
 ·simp only [Bz,Eu,Int.reduceEq,if_true,if_false,Int.reduceSub,j1]
 ·simp only [Bz,Eu,Int.reduceEq,if_true,if_false,Int.reduceSub,wsz,j2]
 ·simp only [Bz,Eu,Int.reduceEq,if_true,if_false,Int.reduceSub,wsz,j3]
 ·simp only [Bz,Eu,Int.reduceEq,if_true,if_false,Int.reduceSub,j4]
 ·simp only [Bz,Eu,Int.reduceEq,if_true,if_false,Int.reduceSub,j5]
 ·simp only [Bz,Eu,Int.reduceEq,if_true,if_false];rfl
 ·simp only [Bz,Eu,Int.reduceEq,if_true,if_false];rfl
theorem Ad4 (hfu:1000<=fu){x:It}(hx:x.ok)(hd:x.dat):Ae C0 Tryz.prog fu (d+3) Ot [.agg x.cells]=some ⟨[.sc (.string (Cd (Bw x)))],[]⟩:=by
 refine (Xz fu (d+2) x.k x.n x.s).trans ?_;have hr:=Ai4 (fu:=fu) (d:=d) hfu hx;have L:=Am .u8 (Te x);have l9:=Afd x;have bo:=Hf (Te x);have eA:ByteArray.mk (List.map (fun n:Int=>n.toNat.toUInt8) (Te x)).toArray=Cd (Te x):=rfl
 have sz:=Ge (Te x);have s0:=hx.s0;have ap:Cd (Te x)++x.s=Cd (Bw x):=by rw [ZB,Age hd]
 simp only [It.cells] at hr;simp (disch:=omega) only [Bz,hr,B8,Br,E6,J7,L,bo,eA,sz,ap]
def Ci (its:List It):List PV:=its.flatMap It.cells
theorem It.cells_len (x:It):x.cells.length=3:=rfl
def Bf (its:List It):List Int:=its.flatMap Bw
theorem HJ {a0n:Nat}{a0:List PV}{its:List It}(hk:∀x∈its,x.ok∧x.dat)(hl:its.length<=1000)(hfu:1000<=fu):∀(r:List It)(i nn:Nat)(b:List Int),its.drop i=r->r.length<nn->b.length+500010*r.length<=1000000000 ->
  F3 fu (Ae C0 Tryz.prog fu (d+3)) a0n a0 nn its.length (Ci its) b.length i (Af .u8 b)=some ⟨[.own 1 (b++Bf r).length (Af .u8 (b++Bf r))],[]⟩
 |_,_,0,_,_,h,_=>by omega
 |[],i,nn+1,b,h,hn,hb=>by
  have:=drop_nil h;have L:=Am .u8 b;rw [Jt,Dj _ _ _ (by omega)]
  simp (disch:=omega) only [Bz,B8,J7,L];simp [Bf]
 |x::r,i,nn+1,b,h,hn,hb=>by
  obtain ⟨h1,h2,h3⟩:=B3 h;simp only [Jd] at hn hb;obtain ⟨ok,dt⟩:=hk x (List.mem_of_getElem? h2);have hil:=G5 x;have hs0:=ok.s0;have g0:(Ci its).getD (i*3) .top=.sc (.int .i64 x.k):=Ei It.cells_len h2 (j:=0) (by omega)
  have g1:(Ci its).getD (i*3+1) .top=.sc (.int .u64 x.n):=Ei It.cells_len h2 (j:=1) (by omega)
  have g2:(Ci its).getD (i*3+1+1) .top=.sc (.string x.s):=Ei It.cells_len h2 (j:=2) (by omega)
  have by_:=Ad4 (fu:=fu) (d:=d) hfu ok dt;simp only [It.cells] at by_;have ih:=HJ (a0n:=a0n) (a0:=a0) hk hl hfu r (i+1) nn (b++Bw x) h3 (by omega) (by rw [Kh];omega)
  have w:wrap .i64 ((i:Int)+1)=((i+1:Nat):Int):=by rw [Al (by omega) (by omega)];omega
  have L:=Am .u8 b;have hB:=Ack ok.k1 ok.k8 ok.n0;have sc:Dv (Cd (Bw x))=Af .u8 (Bw x):=by rw [Mu,O4 hB]
  have sz:=Ge (Bw x);have Li:=Am .u8 (Bw x);have ea:Af .u8 b++Af .u8 (Bw x)=Af .u8 (b++Bw x):=by rw [Af,Af,Af,List.flatMap_append]
  have ei:Bf (x::r)=Bw x++Bf r:=rfl;rw [ei,←ZK,←ih,Jt];simp (disch:=omega) only [Bz,Gu,g0,g1,g2,by_,sc,sz,Li,B8,J7,L,ea,w,Kh]
theorem Aeq {its:List It}(hk:∀x∈its,x.ok∧x.dat)(hl:its.length<=900)(hfu:1000<=fu):Ae C0 Tryz.prog fu (d+4) M5 [.lst false 3 its.length (Ci its)]=some ⟨[.own 1 (Bf its).length (Af .u8 (Bf its))],[]⟩:=by
 rw [W8];exact HJ (fu:=fu) (d:=d) (a0n:=its.length) (a0:=Ci its) hk (by omega) hfu its 0 fu [] rfl (by omega) (by simp;omega)
end
end
end Go.Proofs.YtdjihiphpgkfmaaGreatDoor.Pv
