/-
  The proof of CertificateStrict, part 4.
-/
import Derived.Test.YtdjihiphpgkfmaaGreatDoorTC
import Derived.Test.YtdjihiphpgkfmaaGreatDoorRows
set_option linter.unusedSimpArgs false
set_option linter.unusedVariables false
namespace Go.Proofs.YtdjihiphpgkfmaaGreatDoor.Pv
section
open Go.IntKind (wrap)
section
variable {fu d:Nat} {xs:FuncId->Option (List PV->Option A0)}
theorem Ahu {x k:Int}(hk:k=13∨k=16∨k=17∨k=21∨k=32):Ae (CX xs) Tryz.prog fu (d+1) M3 [.sc (.int .u64 x),.sc (.int .i64 k)]=some ⟨[.sc (.int .u64 (rot x k))],[]⟩:=by
 rw [Wp];rcases hk with rfl|rfl|rfl|rfl|rfl<;>kernel_rfl
theorem Aib {x k:Int}(hk:k=13∨k=16∨k=17∨k=21∨k=32):Ae (CX xs) Tryz.prog fu (d+1) O0 [.sc (.int .u64 x),.sc (.int .u64 k)]=some ⟨[.sc (.int .u64 (rot x k))],[]⟩:=by
 rw [Yh];rcases hk with rfl|rfl|rfl|rfl|rfl<;>kernel_rfl
theorem EW {a0 a1 a2 a3 a4:Int}:∀(k i nn:Nat)(v:W4),k<nn->i+k<=100 ->
  Fa fu (Ae (CX xs) Tryz.prog fu (d+1)) a0 a1 a2 a3 a4 nn ((i+k:Nat):Int) i v.a v.b v.c v.d=some ⟨[],[(Aaf k v).cells]⟩
 |_,_,0,_,h,_=>by omega
 |0,i,nn+1,v,h,hi=>by
  rw [Ig,Dr _ _ _ (by omega)]
  rfl
 |k+1,i,nn+1,v,h,hi=>by
  have ih:=EW (a0:=a0) (a1:=a1) (a2:=a2) (a3:=a3) (a4:=a4) k (i+1) nn (LS v) (by omega) (by omega)
  have w:wrap .i64 ((i:Int)+1)=((i+1:Nat):Int):=by rw [Aj (by omega) (by omega)];omega
  have r13:=fun x=>Ahu (xs:=xs) (fu:=fu) (d:=d) (x:=x) (k:=13) (by simp)
  have r16:=fun x=>Ahu (xs:=xs) (fu:=fu) (d:=d) (x:=x) (k:=16) (by simp)
  have r17:=fun x=>Ahu (xs:=xs) (fu:=fu) (d:=d) (x:=x) (k:=17) (by simp)
  have r21:=fun x=>Ahu (xs:=xs) (fu:=fu) (d:=d) (x:=x) (k:=21) (by simp)
  have r32:=fun x=>Ahu (xs:=xs) (fu:=fu) (d:=d) (x:=x) (k:=32) (by simp)
  rw [Ig];simp (disch:=omega) only [Bz,r13,r16,r17,r21,r32,w];rw [show i+(k+1)=i+1+k by omega]
  exact ih
theorem OV (k:Nat)(hk:k<=4)(hfu:100<=fu)(v:W4):Ae (CX xs) Tryz.prog fu (d+2) J8 [.pbox [.sc (.int .u64 v.a),.sc (.int .u64 v.b),.sc (.int .u64 v.c),.sc (.int .u64 v.d)],.sc (.int .i64 k)]=some ⟨[],[(Aaf k v).cells]⟩:=by
 rw [T0];have:=EW (xs:=xs) (fu:=fu) (d:=d) (a0:=v.a) (a1:=v.b) (a2:=v.c) (a3:=v.d) (a4:=k) k 0 fu v (by omega) (by omega)
 rw [Br] at this;exact this
theorem NL (hfu:100<=fu)(v:W4)(m:Int):Ae (CX xs) Tryz.prog fu (d+3) Kc [.pbox [.sc (.int .u64 v.a),.sc (.int .u64 v.b),.sc (.int .u64 v.c),.sc (.int .u64 v.d)],.sc (.int .u64 m)]=some ⟨[],[(Q9 v m).cells]⟩:=by
 rw [Tt];have r2:=OV (xs:=xs) (fu:=fu) (d:=d) 2 (by omega) hfu ⟨v.a,v.b,v.c,Dw .u64 v.d m⟩
 have e2:((2:Nat):Int)=2:=rfl;rw [e2] at r2;unfold Q9;generalize Aaf 2 ⟨v.a,v.b,v.c,Dw .u64 v.d m⟩=R at r2 ⊢;simp only [W4.cells] at r2;simp only [Bz,r2];rfl
theorem Ast {a b:Int}{k:Nat}(hk:k<8)(ha:0<=a)(ha':a<((2 ^ (8*k):Nat):Int)) (hb:0<=b)(hb':b<=255):NP .u64 a (G4 .u64 b (8*(k:Int)))=a+((2 ^ (8*k):Nat):Int)*b:=by
 obtain ⟨n,rfl⟩:=Int.eq_ofNat_of_zero_le hb;have e:(8*(k:Int)).toNat=8*k:=by omega
 have hp:n*2 ^ (8*k)<=255*2 ^ (8*k):=Nat.mul_le_mul_right _ (by omega)
 have h56:2 ^ (8*k)<=2 ^ 56:=Nat.pow_le_pow_right (by omega) (by omega)
 have e56:(2:Nat) ^ 56=72057594037927936:=by decide
 rw [e56] at h56;generalize hP:2 ^ (8*k)=p at *
 have hpos:n*p<=255*p:=hp
 have hs:G4 .u64 (n:Int) (8*(k:Int))=(n:Int)*((2 ^ (8*(k:Int)).toNat:Nat):Int):=Ab8 (by omega) (by omega) (by omega) (by
  rw [e,hP];have:((n*p:Nat):Int)<=((255*p:Nat):Int):=by omega
  rw [←Int.natCast_mul];omega)
 rw [hs,e,hP]
 have:=(QA (a:=a) (c:=((n*p:Nat):Int)) (8*k) n ha (by rw [hP];exact ha') (by rw [hP]) (by
  have:((n*p:Nat):Int)<=((255*p:Nat):Int):=by omega
  omega)).1
 rw [←Int.natCast_mul,this,Int.mul_comm ((p:Nat):Int),←Int.natCast_mul]
theorem As3 (k:Nat):((2 ^ (8*k):Nat):Int)=256 ^ k:=by
 rw [Nat.pow_mul];simp
theorem EX {call:Ai}{n:Nat}{c:List PV}{l:List Int}(hb:Jy l)(hl:l.length<=8):∀(r:List Int)(i nn:Nat),l.drop i=r->r.length<nn->i<=l.length ->
  H5 fu call n c nn (Rt (l.take i)) l.length (Af .u8 l) l.length i=some ⟨[.sc (.int .u64 (Rt l))],[]⟩
 |_,_,0,_,h,_=>by omega
 |[],i,nn+1,h,hn,hi=>by
  have:=drop_nil h;rw [Pc,Dr _ _ _ (by omega),R9 (by omega)]
 |b::r,i,nn+1,h,hn,hi=>by
  obtain ⟨h1,h2,h3⟩:=Cs h;simp only [J2] at hn;have ih:=EX (call:=call) (n:=n) (c:=c) hb hl r (i+1) nn h3 (by omega) (by omega)
  have hbb:=hb b (List.mem_of_getElem? h2);have w:wrap .i64 ((i:Int)+1)=((i+1:Nat):Int):=by rw [Aj (by omega) (by omega)];omega
  have w8:wrap .i64 (8*(i:Int))=8*(i:Int):=Aj (by omega) (by omega)
  have wb:wrap .u64 b=b:=Cn (by omega) (by omega)
  have hbnd:=Sl (l:=l.take i) fun x hx=>hb x (List.mem_of_mem_take hx)
  have htl:(l.take i).length=i:=by rw [List.length_take];omega
  rw [htl] at hbnd
  have hj:NP .u64 (Rt (l.take i)) (G4 .u64 b (8*(i:Int)))=Rt (l.take (i+1)):=by
   rw [Ast (by omega) hbnd.1 (by rw [As3];exact hbnd.2) hbb.1 hbb.2,List.take_add_one,h2,X3,htl,As3]
   simp [Rt]
  rw [Pc];simp (disch:=omega) only [Bz,He,B8,W5 h2,w,w8,wb,hj];exact ih
theorem PP {l:List Int}(hb:Jy l)(hl:l.length<=8)(hfu:100<=fu):Ae (CX xs) Tryz.prog fu (d+1) Tn [.lst false 1 l.length (Af .u8 l)]=some ⟨[.sc (.int .u64 (Rt l))],[]⟩:=by
 rw [FY];exact EX hb hl l 0 fu rfl (by omega) (by omega)
theorem H1 (k:IntKind)(l:List Int)(i:Nat):List.drop i (Af k l)=Af k (l.drop i):=by
 have:=Zg (AE k) l i
 simpa using this
theorem Nx (k:IntKind)(l:List Int)(i:Nat):List.take i (Af k l)=Af k (l.take i):=by
 have:=AK (AE k) l i
 simpa using this
theorem Jy.drop {l:List Int}(h:Jy l)(i:Nat):Jy (l.drop i):=fun x hx=>h x (List.mem_of_mem_drop hx)
theorem Jy.take {l:List Int}(h:Jy l)(i:Nat):Jy (l.take i):=fun x hx=>h x (List.mem_of_mem_take hx)
theorem Ak6 {a0 a1:Int}{n:Nat}{c:List PV}{l:List Int}(hb:Jy l)(hl:l.length<=1099511627776)(hfu:100<=fu)(nn:Nat)(v:W4):
  Ii fu (Ae (CX xs) Tryz.prog fu (d+3)) a0 a1 n c (nn+1) l.length (Af .u8 l) ((l.length / 8:Nat):Int) ((l.length / 8:Nat):Int) ((l.length / 8:Nat):Int) v.a v.b v.c v.d=some ⟨[.sc (.int .u64 (Acr (Acx (Q9 v (Nb l)))))],[]⟩:=by
 have w8:wrap .i64 (8*((l.length / 8:Nat):Int))=((8*(l.length / 8):Nat):Int):=by rw [Aj (by omega) (by omega)];omega
 have wl:wrap .u64 (l.length:Int)=l.length:=Cn (by omega) (by omega)
 have hdl:(l.drop (8*(l.length / 8))).length=l.length-8*(l.length / 8):=List.length_drop;have li:=PP (xs:=xs) (fu:=fu) (d:=d+2) (hb.drop (8*(l.length / 8))) (by omega) hfu
 rw [hdl] at li;have tk:List.take (l.length-8*(l.length / 8)) (Af .u8 (l.drop (8*(l.length / 8))))=Af .u8 (l.drop (8*(l.length / 8))):=R9 (by rw [Ak,hdl];omega)
 have hbn:=Sl (hb.drop (8*(l.length / 8)));rw [hdl] at hbn
 have hp7:(256:Int) ^ (l.length-8*(l.length / 8))<=256 ^ 7:=by
  have:(256:Nat) ^ (l.length-8*(l.length / 8))<=256 ^ 7:=Nat.pow_le_pow_right (by omega) (by omega)
  have h2:(((256:Nat) ^ (l.length-8*(l.length / 8)):Nat):Int)<=((256 ^ 7:Nat):Int):=by omega
  simpa using h2
 have hlast:NP .u64 (Rt (l.drop (8*(l.length / 8)))) (G4 .u64 (l.length:Int) 56)=Nb l:=by
  have hs:G4 .u64 (l.length:Int) 56=(((l.length % 256)*2 ^ 56:Nat):Int):=by
   show wrap .u64 ((l.length:Int)*2 ^ (min (56:Int).toNat IntKind.u64.bits))=_;have h2:(2:Int) ^ (min (56:Int).toNat IntKind.u64.bits)=72057594037927936:=by decide
   have h3:(2:Nat) ^ 56=72057594037927936:=by decide
   rw [h2,h3];simp only [wrap,IntKind.signed,IntKind.bits];simp;omega
  have h56:(256:Int) ^ 7=((2 ^ 56:Nat):Int):=by decide
  have h3:(2:Nat) ^ 56=72057594037927936:=by decide
  rw [hs,(QA 56 (l.length % 256) hbn.1 (by omega) rfl (by omega)).1]
  unfold Nb;omega
 have ab:=NL (xs:=xs) (fu:=fu) (d:=d) hfu v (Nb l);have r4:=OV (xs:=xs) (fu:=fu) (d:=d+1) 4 (by omega) hfu ⟨(Q9 v (Nb l)).a,(Q9 v (Nb l)).b,Dw .u64 (Q9 v (Nb l)).c 255,(Q9 v (Nb l)).d⟩
 have e4:((4:Nat):Int)=4:=rfl;rw [e4] at r4;unfold Acx;generalize Q9 v (Nb l)=U at ab r4 ⊢;generalize Aaf 4 ⟨U.a,U.b,Dw .u64 U.c 255,U.d⟩=R at r4 ⊢;simp only [W4.cells] at ab r4;rw [Te];simp (disch:=omega) only [Bz,He,B8,w8,wl,H1,tk,li,hlast,ab,r4];rfl
theorem VH {a0 a1:Int}{n:Nat}{c:List PV}{l:List Int}(hb:Jy l)(hl:l.length<=1099511627776)(hfu:100<=fu):∀(k i nn:Nat)(v:W4),i+k=l.length / 8->k<nn ->
  Ii fu (Ae (CX xs) Tryz.prog fu (d+3)) a0 a1 n c nn l.length (Af .u8 l) ((l.length / 8:Nat):Int) ((l.length / 8:Nat):Int) i v.a v.b v.c v.d=some ⟨[.sc (.int .u64 (Acr (Acx (Q9 (MC k v (l.drop (8*i))) (Nb l)))))],[]⟩
 |_,_,0,_,_,h=>by omega
 |0,i,nn+1,v,hi,hn=>by
  have e:i=l.length / 8:=by omega
  subst e;exact Ak6 hb hl hfu nn v
 |k+1,i,nn+1,v,hi,hn=>by
  have w:wrap .i64 ((i:Int)+1)=((i+1:Nat):Int):=by rw [Aj (by omega) (by omega)];omega
  have w8:wrap .i64 (8*(i:Int))=((8*i:Nat):Int):=by rw [Aj (by omega) (by omega)];omega
  have w88:wrap .i64 (((8*i:Nat):Int)+8)=((8*i+8:Nat):Int):=by rw [Aj (by omega) (by omega)];omega
  have hdl:((l.drop (8*i)).take 8).length=8:=by rw [List.length_take,List.length_drop];omega
  have li:=PP (xs:=xs) (fu:=fu) (d:=d+2) ((hb.drop (8*i)).take 8) (by omega) hfu
  rw [hdl] at li;have e8:8*i+8-8*i=8:=by omega
  have ab:=NL (xs:=xs) (fu:=fu) (d:=d) hfu v (Rt ((l.drop (8*i)).take 8));have ih:=VH (a0:=a0) (a1:=a1) (n:=n) (c:=c) hb hl hfu k (i+1) nn (Q9 v (Rt ((l.drop (8*i)).take 8))) (by omega) (by omega)
  have eN:MC (k+1) v (l.drop (8*i))=MC k (Q9 v (Rt ((l.drop (8*i)).take 8))) (l.drop (8*(i+1))):=by
   rw [MC,List.drop_drop,show 8*i+8=8*(i+1) by omega]
  rw [eN];generalize Q9 v (Rt ((l.drop (8*i)).take 8))=U at ab ih ⊢;simp only [W4.cells] at ab;rw [Te];simp (disch:=omega) only [Bz,He,B8,w,w8,w88,e8,H1,Nx,li,ab];exact ih
theorem Af8 {l:List Int}(hb:Jy l)(hl:l.length<=1099511627776)(hfu:100<=fu)(hf:l.length<fu)(k0 k1:Int):Ae (CX xs) Tryz.prog fu (d+4) BE [.sc (.int .u64 k0),.sc (.int .u64 k1),.lst false 1 l.length (Af .u8 l)]=some ⟨[.sc (.int .u64 (Ajx k0 k1 l))],[]⟩:=by
 rw [QN]
 have w:wrap .i64 (Int.tdiv (l.length:Int) 8)=((l.length / 8:Nat):Int):=by
  rw [Int.tdiv_eq_ediv_of_nonneg (by omega),Aj (by omega) (by omega)]
  omega
 have lp:=VH (xs:=xs) (fu:=fu) (d:=d) (a0:=k0) (a1:=k1) (n:=l.length) (c:=Af .u8 l) hb hl hfu (l.length / 8) 0 fu (Ari k0 k1) (by omega) (by omega)
 simp only [G6,w];exact lp
theorem Abb {l:List Int}(hb:Jy l)(hl:l.length<=1099511627776)(hfu:100<=fu)(hf:l.length<fu)(dom:Int):Ae (CX xs) Tryz.prog fu (d+5) Qs [.sc (.int .i64 dom),.lst false 1 l.length (Af .u8 l)]=some ⟨[.sc (.int .u64 (Mw dom l))],[]⟩:=by
 rw [LW];have s:=Af8 (xs:=xs) (fu:=fu) (d:=d) hb hl hfu hf (wrap .u64 dom) 0;simp only [Bz,s];rfl
theorem Nz (v:W4):Ae (CX xs) Tryz.prog fu (d+2) My [.agg [.sc (.int .u64 v.a),.sc (.int .u64 v.b),.sc (.int .u64 v.c),.sc (.int .u64 v.d)]]=some ⟨[.agg (LS v).cells],[]⟩:=by
 have r13:=fun x=>Aib (xs:=xs) (fu:=fu) (d:=d) (x:=x) (k:=13) (by simp)
 have r16:=fun x=>Aib (xs:=xs) (fu:=fu) (d:=d) (x:=x) (k:=16) (by simp)
 have r17:=fun x=>Aib (xs:=xs) (fu:=fu) (d:=d) (x:=x) (k:=17) (by simp)
 have r21:=fun x=>Aib (xs:=xs) (fu:=fu) (d:=d) (x:=x) (k:=21) (by simp)
 have r32:=fun x=>Aib (xs:=xs) (fu:=fu) (d:=d) (x:=x) (k:=32) (by simp)
 rw [Wf];simp (disch:=omega) only [Bz,r13,r16,r17,r21,r32];rfl
def Tz (l:List Int)(i k:Nat):Int:=if i+k<l.length then l.getD (i+k) 0 else if k=7 then (l.length:Int) % 256 else 0
def pc (l:List Int)(i:Nat):List Int:=(List.range 8).map (Tz l i)
theorem Axu {l:List Int}(hb:Jy l)(i:Nat):Jy (pc l i):=by
 intro x hx;obtain ⟨k,hk,rfl⟩:=List.mem_map.1 hx;unfold Tz;split
 ·rename_i h;rw [List.getD_eq_getElem?_getD,List.getElem?_eq_getElem h];exact hb _ (List.getElem_mem h)
 ·split<;>omega
theorem Akk {l:List Int}{i:Nat}(h:i+8<=l.length):pc l i=(l.drop i).take 8:=by
 refine List.ext_getElem (by simp [pc];omega) fun k h1 h2=>?_
 have hk:k<8:=by simpa [pc] using h1
 simp only [pc,List.getElem_map,List.getElem_range,List.getElem_take,List.getElem_drop,Tz];rw [B4 (by omega),List.getD_eq_getElem?_getD,List.getElem?_eq_getElem (by omega)]
 rfl
theorem PA (x:Int):∀n,Rt (List.replicate n 0++[x])=256 ^ n*x
 |0=>by simp [Rt]
 |n+1=>by
  rw [List.replicate_succ,List.cons_append,Rt,PA x n,Int.pow_succ,Int.mul_comm (256 ^ n) 256,Int.mul_assoc];omega
theorem Akl {l:List Int}:Rt (pc l (8*(l.length / 8)))=Nb l:=by
 have e:pc l (8*(l.length / 8))=l.drop (8*(l.length / 8))++(List.replicate (7-(l.length-8*(l.length / 8))) 0++[(l.length:Int) % 256]):=by
  refine List.ext_getElem (by simp [pc];omega) fun k h1 h2=>?_
  have hk:k<8:=by simpa [pc] using h1
  simp only [pc,List.getElem_map,List.getElem_range,Tz];by_cases hc:8*(l.length / 8)+k<l.length
  ·rw [B4 hc,List.getElem_append_left (by rw [List.length_drop];omega),List.getElem_drop,List.getD_eq_getElem?_getD,List.getElem?_eq_getElem hc]
   rfl
  ·rw [A6 hc,List.getElem_append_right (by rw [List.length_drop];omega)]
   by_cases h7:k=7
   ·rw [B4 h7,List.getElem_append_right (by simp;omega)]
    simp
   ·rw [A6 h7,List.getElem_append_left (by simp;omega)]
    simp
 rw [e,X3,PA];unfold Nb
 have:(256:Int) ^ (l.drop (8*(l.length / 8))).length*(256 ^ (7-(l.length-8*(l.length / 8)))*((l.length:Int) % 256))=72057594037927936*((l.length:Int) % 256):=by
  rw [←Int.mul_assoc,←Int.pow_add,List.length_drop];have:l.length-8*(l.length / 8)+(7-(l.length-8*(l.length / 8)))=7:=by omega
  rw [this];rfl
 rw [this]
theorem Ar5 {a b:Int}(ha:0<=a)(ha':a<72057594037927936)(hb:0<=b)(hb':b<=255):NP .u64 (G4 .u64 a 8) b=b+256*a:=by
 obtain ⟨n,rfl⟩:=Int.eq_ofNat_of_zero_le ha
 have hs:G4 .u64 (n:Int) 8=((n*2 ^ 8:Nat):Int):=by
  have:=Ab8 (a:=(n:Int)) (k:=8) (by omega) (by omega) (by omega) (by
   have:(2 ^ (8:Int).toNat:Nat)=256:=by decide
   rw [this];omega)
  rw [this];have:(2 ^ (8:Int).toNat:Nat)=256:=by decide
  rw [this];have:(2 ^ 8:Nat)=256:=by decide
  rw [this];omega
 have h8:(2 ^ 8:Nat)=256:=by decide
 rw [hs,(QA (a:=b) 8 n hb (by rw [h8];omega) rfl (by rw [h8];omega)).2,h8]
 omega
theorem Aas {a0 a1:Int}{n m0:Nat}{c:List PV}{l:List Int}(hb:Jy l)(hl:l.length<=1099511627776){i:Nat}(hi:i<=l.length)(v:W4):∀(j nn:Nat),j<=8->j<nn ->
  Eg fu (Ae (CX xs) Tryz.prog fu (d+2)) a0 a1 n c m0 nn l.length (Af .u8 l) i (Rt ((pc l i).drop j)) ((j:Int)-1) v.cells =
   Fl fu (Ae (CX xs) Tryz.prog fu (d+2)) a0 a1 n c m0 l.length (Af .u8 l) ((i+8:Nat):Int) (Q9 v (Rt (pc l i))).cells
 |_,0,_,h=>by omega
 |0,nn+1,hj,hn=>by
  have w8:wrap .i64 ((i:Int)+8)=((i+8:Nat):Int):=by rw [Aj (by omega) (by omega)];omega
  have r1:=Nz (xs:=xs) (fu:=fu) (d:=d) ⟨v.a,v.b,v.c,Dw .u64 v.d (Rt (pc l i))⟩;have r2:=Nz (xs:=xs) (fu:=fu) (d:=d) (LS ⟨v.a,v.b,v.c,Dw .u64 v.d (Rt (pc l i))⟩);have eA:Q9 v (Rt (pc l i))=Aso (LS (LS ⟨v.a,v.b,v.c,Dw .u64 v.d (Rt (pc l i))⟩)) (Rt (pc l i)):=rfl;rw [eA];generalize LS ⟨v.a,v.b,v.c,Dw .u64 v.d (Rt (pc l i))⟩=U at r1 r2 ⊢;generalize LS U=U2 at r2 ⊢;simp only [W4.cells] at r1 r2;rw [Mk,Dr _ _ _ (by omega),E6]
  simp only [W4.cells,List.getD_cons_zero,List.getD_cons_succ,PY,G6];simp (disch:=first|omega|(simp;done)) only [Bz,Ba,List.take_succ_cons,List.take_zero,List.drop_succ_cons,E6,List.drop_nil,List.cons_append,Zzq,List.append_nil,J2,Wh,List.getD_cons_zero,List.getD_cons_succ,r1,r2,w8,Br,Nat.reduceAdd,Nat.reduceLeDiff,List.append_eq]
  rfl
 |j+1,nn+1,hj,hn=>by
  have ih:=Aas (a0:=a0) (a1:=a1) (n:=n) (m0:=m0) (c:=c) hb hl hi v j nn (by omega) (by omega)
  have hw:wrap .i64 ((i:Int)+(((j+1:Nat):Int)-1))=((i+j:Nat):Int):=by rw [Aj (by omega) (by omega)];omega
  have wj:wrap .i64 (((j+1:Nat):Int)-1-1)=(j:Int)-1:=by rw [Aj (by omega) (by omega)];omega
  have hd:(pc l i).drop j=Tz l i j::(pc l i).drop (j+1):=by
   rw [List.drop_eq_getElem_cons (by simp [pc];omega)]
   simp [pc]
  have hB:=Axu hb i;have hbn:=Sl (hB.drop (j+1))
  have hp7:(256:Int) ^ ((pc l i).drop (j+1)).length<=72057594037927936:=by
   have hlen:((pc l i).drop (j+1)).length<=7:=by simp [pc]
   have:(256:Nat) ^ ((pc l i).drop (j+1)).length<=256 ^ 7:=Nat.pow_le_pow_right (by omega) hlen
   have h2:(((256:Nat) ^ ((pc l i).drop (j+1)).length:Nat):Int)<=((256 ^ 7:Nat):Int):=by omega
   simpa using h2
  have hc0:0<=Tz l i j∧Tz l i j<=255:=hB _ (by rw [←E6 (l:=pc l i)];exact List.mem_of_mem_drop (i:=j) (by rw [E6,hd];simp))
  have hj2:NP .u64 (G4 .u64 (Rt ((pc l i).drop (j+1))) 8) (Tz l i j)=Rt ((pc l i).drop j):=by
   rw [Ar5 hbn.1 (by omega) hc0.1 hc0.2,hd]
   rfl
  have wc:wrap .u64 (Tz l i j)=Tz l i j:=Cn (by omega) (by omega)
  rw [Mk,KC _ _ _ (by omega)]
  simp only [G6,hw];by_cases c1:i+j<l.length
  ·have e:Tz l i j=l.getD (i+j) 0:=by unfold Tz;rw [B4 c1]
   have e2:l[i+j]?=some (Tz l i j):=by rw [e,List.getD_eq_getElem?_getD,List.getElem?_eq_getElem c1];rfl
   rw [KC _ _ _ (by omega)]
   simp (disch:=omega) only [Bz,He,B8,W5 e2,wc,hj2,wj];exact ih
  ·rw [Dr _ _ _ (by omega)]
   by_cases h7:j=7
   ·subst h7;have e:Tz l i 7=(l.length:Int) % 256:=by unfold Tz;rw [A6 c1,B4 rfl]
    have e8:wrap .u8 (l.length:Int)=Tz l i 7:=by
     rw [e];simp only [wrap,IntKind.signed,IntKind.bits];simp
    rw [E9,B4 (by omega),e8,wc,hj2,wj]
    exact ih
   ·have e:Tz l i j=0:=by unfold Tz;rw [A6 c1,A6 h7]
    rw [e] at hj2;rw [E9,A6 (by omega),hj2,wj]
    exact ih
theorem PH {a0 a1:Int}{n:Nat}{c:List PV}{l:List Int}(hb:Jy l)(hl:l.length<=1099511627776)(hfu:100<=fu):∀(k i nn:Nat)(v:W4),i+k=l.length / 8->k+1<nn ->
  Fl fu (Ae (CX xs) Tryz.prog fu (d+2)) a0 a1 n c nn l.length (Af .u8 l) ((8*i:Nat):Int) v.cells=some ⟨[.sc (.int .u64 (Acr (Acx (Q9 (MC k v (l.drop (8*i))) (Nb l)))))],[]⟩
 |_,_,0,_,_,h=>by omega
 |k,i,nn+1,v,hi,hn=>by
  have step:=Aas (xs:=xs) (fu:=fu) (d:=d) (a0:=a0) (a1:=a1) (n:=n) (m0:=nn) (c:=c) hb hl (i:=8*i) (by omega) v 8 fu (by omega) (by omega)
  have e0:Rt ((pc l (8*i)).drop 8)=0:=by rw [List.drop_of_length_le (by simp [pc])];rfl
  rw [e0] at step;rw [Ll,KC _ _ _ (by omega)]
  refine step.trans ?_;cases k with
  |zero=>
   have e:i=l.length / 8:=by omega
   subst e;rw [Akl];generalize hv:Q9 v (Nb l)=u;obtain ⟨nn',rfl⟩:∃nn',nn=nn'+1:=⟨nn-1,by omega⟩
   have r1:=Nz (xs:=xs) (fu:=fu) (d:=d) ⟨u.a,u.b,Dw .u64 u.c 255,u.d⟩;have r2:=Nz (xs:=xs) (fu:=fu) (d:=d) (LS ⟨u.a,u.b,Dw .u64 u.c 255,u.d⟩);have r3:=Nz (xs:=xs) (fu:=fu) (d:=d) (LS (LS ⟨u.a,u.b,Dw .u64 u.c 255,u.d⟩));have r4:=Nz (xs:=xs) (fu:=fu) (d:=d) (LS (LS (LS ⟨u.a,u.b,Dw .u64 u.c 255,u.d⟩)))
   have eF:Acr (Acx (Q9 (MC 0 v (l.drop (8*(l.length / 8)))) (Nb l)))=Acr (LS (LS (LS (LS ⟨u.a,u.b,Dw .u64 u.c 255,u.d⟩)))):=by
    rw [MC,hv];rfl
   rw [eF];clear eF;generalize LS ⟨u.a,u.b,Dw .u64 u.c 255,u.d⟩=U1 at r1 r2 r3 r4 ⊢;generalize LS U1=U2 at r2 r3 r4 ⊢;generalize LS U2=U3 at r3 r4 ⊢;generalize LS U3=U4 at r4 ⊢;simp only [W4.cells] at r1 r2 r3 r4;rw [Ll,Dr _ _ _ (by omega)]
   simp only [W4.cells,List.getD_cons_zero,List.getD_cons_succ,PY,G6];simp (disch:=first|omega|(simp;done)) only [Bz,Ba,List.take_succ_cons,List.take_zero,List.drop_succ_cons,E6,List.drop_nil,List.cons_append,Zzq,List.append_nil,J2,Wh,List.getD_cons_zero,List.getD_cons_succ,r1,r2,r3,r4,Br,Nat.reduceAdd,Nat.reduceLeDiff,List.append_eq]
   rfl
  |succ k=>
   have ih:=PH (a0:=a0) (a1:=a1) (n:=n) (c:=c) hb hl hfu k (i+1) nn (Q9 v (Rt (pc l (8*i)))) (by omega) (by omega)
   rw [show 8*i+8=8*(i+1) by omega,ih,Akk (by omega)]
   simp only [MC,List.drop_drop];rw [show 8*(i+1)=8*i+8 by omega]
theorem Aar {l:List Int}(hb:Jy l)(hl:l.length<=1099511627776)(hfu:100<=fu)(hf:l.length<fu)(k0 k1:Int):Ae (CX xs) Tryz.prog fu (d+3) Qi [.sc (.int .u64 k0),.sc (.int .u64 k1),.lst false 1 l.length (Af .u8 l)]=some ⟨[.sc (.int .u64 (Ajx k0 k1 l))],[]⟩:=by
 rw [Zz];exact PH (xs:=xs) (fu:=fu) (d:=d) (a0:=k0) (a1:=k1) (n:=l.length) (c:=Af .u8 l) hb hl hfu (l.length / 8) 0 fu (Ari k0 k1) (by omega) (by omega)
theorem TW {l:List Int}(hb:Jy l)(hl:l.length<=1099511627776)(hfu:100<=fu)(hf:l.length<fu)(dom:Int):Ae (CX xs) Tryz.prog fu (d+4) Iu [.sc (.int .i64 dom),.lst false 1 l.length (Af .u8 l)]=some ⟨[.sc (.int .u64 (Mw dom l))],[]⟩:=by
 rw [Xy];have s:=Aar (xs:=xs) (fu:=fu) (d:=d) hb hl hfu hf (wrap .u64 dom) 0;simp only [Bz,s];rfl
theorem Akr {l:List Int}(hb:Jy l)(hl:l.length<=1099511627776)(hfu:100<=fu)(hf:l.length<fu)(key dom:Int):Ae (CX xs) Tryz.prog fu (d+4) Pr [.sc (.int .u64 key),.sc (.int .i64 dom),.lst false 1 l.length (Af .u8 l)]=some ⟨[.sc (.int .u64 (Akt key dom l))],[]⟩:=by
 rw [BD];have s:=Aar (xs:=xs) (fu:=fu) (d:=d) hb hl hfu hf key (wrap .u64 (1+wrap .u64 dom));simp only [Bz,s];rfl
end
end
section
open Go.IntKind (wrap)
def C7 (w:Int)(k:Nat):Int:=wrap .u8 (D3 .u64 w (56-8*(k:Int)))
def Dv (w:Int):List Int:=(List.range' 0 8).map (C7 w)
def A4 (ws:List Int):List Int:=ws.flatMap Dv
theorem Er (w:Int):(Dv w).length=8:=rfl
section
variable {fu d:Nat} {xs:FuncId->Option (List PV->Option A0)} {call:Ai} {n:Nat} {c:List PV}
theorem UP {ws:List Int}{w:Int}{m0 l:Nat}{i k:Int}:∀(r j nn:Nat)(bs:List Int),8-j=r->r<nn->j<=8->bs.length+r<=34359738368 ->
  Ik fu call n c m0 nn bs.length w l (Af .u64 ws) k i j (Af .u8 bs) =
   G3 fu call n c m0 (bs++(List.range' j (8-j)).map (C7 w)).length l (Af .u64 ws) k (wrap .i64 (i+1)) (Af .u8 (bs++(List.range' j (8-j)).map (C7 w)))
 |r,j,0,bs,_,h,_,_=>by omega
 |0,j,nn+1,bs,hr,_,hj,_=>by
  have e:j=8:=by omega
  subst e;rw [Ps];simp (disch:=omega) only [Bz];simp
 |r+1,j,nn+1,bs,hr,hn,hj,hb=>by
  have ih:=UP (ws:=ws) (w:=w) (m0:=m0) (l:=l) (i:=i) (k:=k) r (j+1) nn (bs++[C7 w j]) (by omega) (by omega) (by omega) (by simp;omega)
  have e8:=Ak .u8 bs;rw [Ps]
  have hx:wrap .u8 (D3 .u64 w (wrap .i64 (56-wrap .i64 (8*(j:Int)))))=C7 w j:=by
   rw [Aj (x:=8*(j:Int)) (by omega) (by omega),Aj (by omega) (by omega)]
   rfl
  have h0:0<=wrap .i64 (56-wrap .i64 (8*(j:Int))):=by
   rw [Aj (x:=8*(j:Int)) (by omega) (by omega),Aj (by omega) (by omega)]
   omega
  have hrange:List.range' j (8-j)=j::List.range' (j+1) (8-(j+1)):=by
   rw [show 8-j=(8-(j+1))+1 by omega]
   exact List.range'_succ
  simp (disch:=first|omega|exact h0) only [Bz,B8,hx,J3,F1,Aj (x:=(j:Int)+1)];rw [hrange];simp only [Jz,J2,Wh,Br,WY,Zzw,List.singleton_append] at ih ⊢;exact ih
theorem HV {ws:List Int}(hl:ws.length<=1073741824)(hfu:100<=fu):∀(r:List Int)(i nn:Nat)(bs:List Int),ws.drop i=r->r.length<nn->bs.length=8*i ->
  G3 fu call n c nn bs.length ws.length (Af .u64 ws) ws.length i (Af .u8 bs)=some ⟨[.own 1 (bs++A4 r).length (Af .u8 (bs++A4 r))],[]⟩
 |r,i,0,_,_,h,_=>by omega
 |[],i,nn+1,bs,h,_,_=>by
  have:=drop_nil h;have e8:=Ak .u8 bs;rw [Qh];simp (disch:=omega) only [Bz,B8,J3,A4,List.flatMap_nil,List.append_nil]
 |w::r,i,nn+1,bs,h,hn,hb=>by
  obtain ⟨h1,h2,h3⟩:=Cs h;simp only [J2] at hn;rw [Qh];simp (disch:=omega) only [Bz,He,B8,W5 h2];rw [show (0:Int)=((0:Nat):Int) from rfl,UP 8 0 fu bs rfl (by omega) (by omega) (by omega),Aj (by omega) (by omega)]
  have ih:=HV hl hfu r (i+1) nn (bs++Dv w) h3 (by omega) (by simp [Er];omega)
  have e:bs++Dv w++A4 r=bs++A4 (w::r):=by simp [A4]
  rw [e] at ih;exact ih
theorem Pa {ws:List Int}(hl:ws.length<=1073741824)(hfu:100<=fu)(hf:ws.length<fu):Ae (CX xs) Tryz.prog fu (d+1) Fe [.lst false 1 ws.length (Af .u64 ws)]=some ⟨[.own 1 (A4 ws).length (Af .u8 (A4 ws))],[]⟩:=by
 rw [IE];simp (disch:=omega) only [Bz,Aj,Int.mul_one];exact HV hl hfu ws 0 fu [] rfl hf rfl
theorem PL {ws:List Int}{w:Int}{m0 i:Nat}(hw:ws[i]?=some w):∀(r nn:Nat)(j:Int)(bs:List Int),j=(r:Int)-1->r<=8->r<nn->bs.length+r<=34359738368 ->
  Fx fu call n c m0 nn ws.length (Af .u64 ws) bs.length i j (Af .u8 bs) =
   Em fu call n c m0 ws.length (Af .u64 ws) (bs++(List.range' (8-r) r).map (C7 w)).length (wrap .i64 (i+1)) (Af .u8 (bs++(List.range' (8-r) r).map (C7 w)))
 |r,0,j,bs,_,_,h,_=>by omega
 |0,nn+1,j,bs,hr,_,_,_=>by
  rw [Jp];simp (disch:=omega) only [Bz];simp
 |r+1,nn+1,j,bs,hr,hle,hn,hb=>by
  have hi:=Ag2 hw;have ih:=PL (m0:=m0) hw r nn (j-1) (bs++[C7 w (8-(r+1))]) (by omega) (by omega) (by omega) (by simp;omega)
  have e8:=Ak .u8 bs
  have hx:wrap .u8 (D3 .u64 w (wrap .u64 (wrap .i64 (8*j))))=C7 w (8-(r+1)):=by
   rw [Aj (by omega) (by omega),Cn (by omega) (by omega)]
   unfold C7;rw [show 56-8*((8-(r+1):Nat):Int)=8*j by omega]
  have h0:0<=wrap .u64 (wrap .i64 (8*j)):=by
   rw [Aj (by omega) (by omega),Cn (by omega) (by omega)]
   omega
  have hrange:List.range' (8-(r+1)) (r+1)=(8-(r+1))::List.range' (8-r) r:=by
   rw [List.range'_succ,show 8-(r+1)+1=8-r by omega]
  rw [Jp];simp (disch:=first|omega|exact h0) only [Bz,He,B8,W5 hw,hx,J3,F1,Aj (x:=j-1)];rw [hrange];simp only [Jz,J2,Wh,Br,WY,Zzw,List.singleton_append] at ih ⊢;exact ih
theorem FJ {ws:List Int}(hl:ws.length<=1073741824)(hfu:100<=fu):∀(r:List Int)(i nn:Nat)(bs:List Int),ws.drop i=r->r.length<nn->bs.length=8*i ->
  Em fu call n c nn ws.length (Af .u64 ws) bs.length i (Af .u8 bs)=some ⟨[.own 1 (bs++A4 r).length (Af .u8 (bs++A4 r))],[]⟩
 |r,i,0,_,_,h,_=>by omega
 |[],i,nn+1,bs,h,_,_=>by
  have:=drop_nil h;have e8:=Ak .u8 bs;rw [Jo];simp (disch:=omega) only [Bz,B8,J3,A4,List.flatMap_nil,List.append_nil]
 |w::r,i,nn+1,bs,h,hn,hb=>by
  obtain ⟨h1,h2,h3⟩:=Cs h;simp only [J2] at hn;rw [Jo];simp (disch:=omega) only [Bz];rw [PL h2 8 fu 7 bs rfl (by omega) (by omega) (by omega),Aj (by omega) (by omega)]
  have ih:=FJ hl hfu r (i+1) nn (bs++Dv w) h3 (by omega) (by simp [Er];omega)
  have e:bs++Dv w++A4 r=bs++A4 (w::r):=by simp [A4]
  rw [e] at ih;exact ih
theorem Rp {ws:List Int}(hl:ws.length<=1073741824)(hfu:100<=fu)(hf:ws.length<fu):Ae (CX xs) Tryz.prog fu (d+1) D4 [.lst false 1 ws.length (Af .u64 ws)]=some ⟨[.own 1 (A4 ws).length (Af .u8 (A4 ws))],[]⟩:=by
 rw [Ww];exact FJ hl hfu ws 0 fu [] rfl hf rfl
end
abbrev Fb (a b:Int):Int:=NP .u64 (G4 .u64 a 8) (wrap .u64 b)
def IU (bs:List Int):Int:=bs.foldl Fb 0
theorem Alo {q:Int}(h0:0<=q)(h1:q<=18446744073709551615):Fb (q / 256) (wrap .u8 q)=q:=by
 have e1:G4 .u64 (q / 256) 8=q / 256*256:=by
  unfold G4;have:((8:Int).toNat.min IntKind.u64.bits)=8:=by decide
  show wrap .u64 (q / 256*2 ^ (min (8:Int).toNat IntKind.u64.bits))=_;have h2:(2:Int) ^ (min (8:Int).toNat IntKind.u64.bits)=256:=by decide
  rw [h2,Cn (by omega) (by omega)]
 have e2:wrap .u8 q=q % 256:=by
  simp only [wrap,IntKind.signed,IntKind.bits];simp
 have e3:wrap .u64 (q % 256)=q % 256:=Cn (by omega) (by omega)
 unfold Fb;rw [e1,e2,e3];obtain ⟨n,rfl⟩:=Int.eq_ofNat_of_zero_le h0;have hn:n<18446744073709551616:=by omega
 have e4:(BitVec.ofInt 64 ((n:Int) / 256*256)).toNat=n / 256*256:=by
  rw [BitVec.toNat_ofInt];omega
 have e5:(BitVec.ofInt 64 ((n:Int) % 256)).toNat=n % 256:=by
  rw [BitVec.toNat_ofInt];omega
 have e6:n / 256*256 ||| n % 256=n:=by
  have:=Nat.shiftLeft_add_eq_or_of_lt (show n % 256<2 ^ 8 by omega) (n / 256)
  rw [Nat.shiftLeft_eq] at this;rw [←this];omega
 unfold NP;show wrap .u64 ((BitVec.ofInt 64 ((n:Int) / 256*256) ||| BitVec.ofInt 64 ((n:Int) % 256)).toNat:Int)=n;rw [BitVec.toNat_or,e4,e5,e6,Cn (by omega) (by omega)]
theorem OZ {w:Int}(k:Nat)(hk:k<8):C7 w k=wrap .u8 (w / 2 ^ (56-8*k)):=by
 unfold C7 D3;have e:(56-8*(k:Int)).toNat=56-8*k:=by omega
 rw [e,Nat.min_eq_left (by show 56-8*k<=64;omega),Int.fdiv_eq_ediv_of_nonneg _ (Int.le_of_lt (Int.pow_pos (by omega)))]
theorem NU {w:Int}(h0:0<=w)(h1:w<=18446744073709551615):IU (Dv w)=w:=by
 have st:∀(k:Nat) (D:Int),k<8->(2:Int) ^ (56-8*k)=D->0<D->Fb (w / D / 256) (C7 w k)=w / D:=by
  intro k D hk hD hp;rw [OZ k hk,hD];exact Alo (Int.ediv_nonneg h0 (Int.le_of_lt hp)) (Int.le_trans (Int.ediv_le_self _ h0) h1)
 have s0:=st 0 72057594037927936 (by omega) (by decide) (by omega)
 have s1:=st 1 281474976710656 (by omega) (by decide) (by omega)
 have s2:=st 2 1099511627776 (by omega) (by decide) (by omega)
 have s3:=st 3 4294967296 (by omega) (by decide) (by omega)
 have s4:=st 4 16777216 (by omega) (by decide) (by omega)
 have s5:=st 5 65536 (by omega) (by decide) (by omega)
 have s6:=st 6 256 (by omega) (by decide) (by omega)
 have s7:=st 7 1 (by omega) (by decide) (by omega)
 rw [show w / 72057594037927936 / 256=0 by omega] at s0
 rw [show w / 281474976710656 / 256=w / 72057594037927936 by omega] at s1
 rw [show w / 1099511627776 / 256=w / 281474976710656 by omega] at s2
 rw [show w / 4294967296 / 256=w / 1099511627776 by omega] at s3
 rw [show w / 16777216 / 256=w / 4294967296 by omega] at s4
 rw [show w / 65536 / 256=w / 16777216 by omega] at s5
 rw [show w / 256 / 256=w / 65536 by omega] at s6
 rw [show w / 1 / 256=w / 256 by omega,show w / 1=w by omega] at s7
 show Fb (Fb (Fb (Fb (Fb (Fb (Fb (Fb 0 (C7 w 0)) (C7 w 1)) (C7 w 2)) (C7 w 3)) (C7 w 4)) (C7 w 5)) (C7 w 6)) (C7 w 7)=w;rw [s0,s1,s2,s3,s4,s5,s6,s7]
end
section
open Go.IntKind (wrap)
set_option maxRecDepth 100000
abbrev Qz:FuncId:=104
noncomputable def F3 (fu:Nat)(call:Ai)(a0:Int)(nn:Nat)(y0 y1 y2:Int)(y3 y4:List PV):Option A0:=C5 CB Tryz.prog fu call 104 Tryz.f104 (Bw Tryz.f104) [.sc (.int .u64 a0)] [.r,.r,.r,.l,.r,.l] nn ⟨lk [(0,(.sc (.int .u64 y0))),(2,(.ptr 2 0)),(3,(.ptr 3 0)),(4,(.sc (.int .i64 y1))),(6,(.sc (.int .i64 y2)))],B5 [(2,(.ar false y3)),(3,(.ar false y4))]⟩
noncomputable def P0 (fu:Nat)(call:Ai)(a0:Int)(nn:Nat)(y0 y1:List PV):Option A0:=C5 CB Tryz.prog fu call 104 Tryz.f104 (Bw Tryz.f104) [.sc (.int .u64 a0)] [.r,.r,.r,.r,.r] nn ⟨lk [(2,(.ptr 2 0)),(3,(.ptr 3 0))],B5 [(2,(.ar false y0)),(3,(.ar false y1))]⟩
noncomputable def Pq (fu:Nat)(call:Ai)(a0:Int)(nn:Nat)(y0:List PV):Option A0:=C5 CB Tryz.prog fu call 104 Tryz.f104 (Bw Tryz.f104) [.sc (.int .u64 a0)] [.r,.r,.r,.r,.r,.r] nn ⟨lk [(2,(.ptr 2 0))],B5 [(2,(.ar false y0))]⟩
theorem Na (fu:Nat)(call:Ai)(a0:Int)(nn:Nat)(y0 y1 y2:Int)(y3 y4:List PV):F3 fu call a0 (nn+1) y0 y1 y2 y3 y4=(Bc (decide (y2<16)) (Aa (wrap .i64 (4*y2)) fun x1=>Aa (wrap .i64 (60-x1)) fun x2=>Ap (decide (0<=x2))<|Aa (D3 .u64 y0 x2) fun x3=>Aa (Qx .u64 x3 15) fun x4=>Aa (wrap .i64 x4) fun x5=>Ap (decide (0<=y2)&&decide (y2<18))<|Ap (decide (0+Int.toNat y2*1+1<=y4.length))<|Aa (Ba y4 [.sc (.int .i64 x5)] (0+Int.toNat y2*1)) fun x6=>Ap (decide (0<=y2)&&decide (y2<18))<|Ad .i64 (List.getD x6 (0+Int.toNat y2*1) .top) fun x7=>Aa (wrap .i64 (15-x7)) fun x8=>Aa (wrap .i64 (y1+x8)) fun x9=>Aa (wrap .i64 (y2+1)) fun Cm=>F3 fu call a0 (nn) (y0) x9 Cm (y3) x6) (Aa (wrap .i64 (Int.tdiv y1 16)) fun C3=>Ap (decide (17<=y4.length))<|Aa (Ba y4 [.sc (.int .i64 C3)] 16) fun Dt=>Aa (Int.tmod y1 16) fun D0=>Ap (decide (18<=Dt.length))<|Aa (Ba Dt [.sc (.int .i64 D0)] 17) fun Dq=>P0 fu call a0 (fu) (y3) Dq)):=by kernel_rfl
theorem Wk (fu:Nat)(call:Ai)(a0:Int)(nn:Nat)(hnn:0<nn)(y0 y1:List PV):P0 fu call a0 nn y0 y1=(Ad .i64 (List.getD y1 0 .top) fun Ed=>Ad .i64 (List.getD y1 1 .top) fun Ek=>Ad .i64 (List.getD y1 2 .top) fun Ez=>Ad .i64 (List.getD y1 3 .top) fun Fo=>Ad .i64 (List.getD y1 4 .top) fun Fg=>Ad .i64 (List.getD y1 5 .top) fun Ex=>Ad .i64 (List.getD y1 6 .top) fun H6=>Ad .i64 (List.getD y1 7 .top) fun Gz=>Ad .i64 (List.getD y1 8 .top) fun Hx=>Ad .i64 (List.getD y1 9 .top) fun D1=>Ad .i64 (List.getD y1 10 .top) fun Dm=>Ad .i64 (List.getD y1 11 .top) fun F6=>Ad .i64 (List.getD y1 12 .top) fun H9=>Ad .i64 (List.getD y1 13 .top) fun Ey=>Ad .i64 (List.getD y1 14 .top) fun Jw=>Ad .i64 (List.getD y1 15 .top) fun Mq=>Ad .i64 (List.getD y1 16 .top) fun J1=>Ad .i64 (List.getD y1 17 .top) fun Mm=>Ap (decide (18<=y0.length))<|Aa (Ba y0 [.sc (.int .i64 Ed),.sc (.int .i64 Ek),.sc (.int .i64 Ez),.sc (.int .i64 Fo),.sc (.int .i64 Fg),.sc (.int .i64 Ex),.sc (.int .i64 H6),.sc (.int .i64 Gz),.sc (.int .i64 Hx),.sc (.int .i64 D1),.sc (.int .i64 Dm),.sc (.int .i64 F6),.sc (.int .i64 H9),.sc (.int .i64 Ey),.sc (.int .i64 Jw),.sc (.int .i64 Mq),.sc (.int .i64 J1),.sc (.int .i64 Mm)] 0) fun Ml=>Pq fu call a0 (fu) Ml):=by cases nn with|zero=>exact absurd hnn (Nat.lt_irrefl 0)|succ nn=>kernel_rfl
theorem We (fu:Nat)(call:Ai)(a0:Int)(nn:Nat)(hnn:0<nn)(y0:List PV):Pq fu call a0 nn y0=(Ad .i64 (List.getD y0 0 .top) fun Ny=>Ad .i64 (List.getD y0 1 .top) fun Pu=>Ad .i64 (List.getD y0 2 .top) fun Qp=>Ad .i64 (List.getD y0 3 .top) fun Sd=>Ad .i64 (List.getD y0 4 .top) fun G2=>Ad .i64 (List.getD y0 5 .top) fun J0=>Ad .i64 (List.getD y0 6 .top) fun Ur=>Ad .i64 (List.getD y0 7 .top) fun Yu=>Ad .i64 (List.getD y0 8 .top) fun Oo=>Ad .i64 (List.getD y0 9 .top) fun Uh=>Ad .i64 (List.getD y0 10 .top) fun Tq=>Ad .i64 (List.getD y0 11 .top) fun Sr=>Ad .i64 (List.getD y0 12 .top) fun Tp=>Ad .i64 (List.getD y0 13 .top) fun Xh=>Ad .i64 (List.getD y0 14 .top) fun X6=>Ad .i64 (List.getD y0 15 .top) fun Ss=>Ad .i64 (List.getD y0 16 .top) fun Wm=>Ad .i64 (List.getD y0 17 .top) fun Wy=>some (A0.mk [.agg [.sc (.int .i64 Ny),.sc (.int .i64 Pu),.sc (.int .i64 Qp),.sc (.int .i64 Sd),.sc (.int .i64 G2),.sc (.int .i64 J0),.sc (.int .i64 Ur),.sc (.int .i64 Yu),.sc (.int .i64 Oo),.sc (.int .i64 Uh),.sc (.int .i64 Tq),.sc (.int .i64 Sr),.sc (.int .i64 Tp),.sc (.int .i64 Xh),.sc (.int .i64 X6),.sc (.int .i64 Ss),.sc (.int .i64 Wm),.sc (.int .i64 Wy)]] [])):=by cases nn with|zero=>exact absurd hnn (Nat.lt_irrefl 0)|succ nn=>kernel_rfl
theorem CV {xs:FuncId->Option (List PV->Option A0)} (fu d:Nat)(a0:Int):Ae (CX xs) Tryz.prog fu (d+1) Qz [.sc (.int .u64 a0)]=(fun (call:Ai)=>F3 fu call a0 (fu) (a0) 0 0 ([.sc (.int .i64 0),.sc (.int .i64 0),.sc (.int .i64 0),.sc (.int .i64 0),.sc (.int .i64 0),.sc (.int .i64 0),.sc (.int .i64 0),.sc (.int .i64 0),.sc (.int .i64 0),.sc (.int .i64 0),.sc (.int .i64 0),.sc (.int .i64 0),.sc (.int .i64 0),.sc (.int .i64 0),.sc (.int .i64 0),.sc (.int .i64 0),.sc (.int .i64 0),.sc (.int .i64 0)]) ([.sc (.int .i64 0),.sc (.int .i64 0),.sc (.int .i64 0),.sc (.int .i64 0),.sc (.int .i64 0),.sc (.int .i64 0),.sc (.int .i64 0),.sc (.int .i64 0),.sc (.int .i64 0),.sc (.int .i64 0),.sc (.int .i64 0),.sc (.int .i64 0),.sc (.int .i64 0),.sc (.int .i64 0),.sc (.int .i64 0),.sc (.int .i64 0),.sc (.int .i64 0),.sc (.int .i64 0)])) (Ae (CX xs) Tryz.prog fu d):=by kernel_rfl
abbrev Xe:FuncId:=105
noncomputable def Jq (fu:Nat)(call:Ai)(a0 a1:Int)(a2 a3 a4:Int)(nn:Nat)(y0 y1:Int)(y2 y3 y4:Int):Option A0:=C5 CB Tryz.prog fu call 105 Tryz.f105 (Bw Tryz.f105) [.sc (.int .i64 a0),.sc (.int .i64 a1),.sc (.int .i64 a2),.sc (.int .i64 a3),.sc (.int .u64 a4)] [.r,.r,.l,.r,.l] nn ⟨lk [(0,(.sc (.int .i64 y0))),(1,(.sc (.int .i64 y1))),(4,(.sc (.int .u64 y2))),(11,(.sc (.int .i64 y3))),(12,(.sc (.int .i64 y4)))],B5 []⟩
theorem Rq (fu:Nat)(call:Ai)(a0 a1:Int)(a2 a3 a4:Int)(nn:Nat)(y0 y1:Int)(y2 y3 y4:Int):Jq fu call a0 a1 a2 a3 a4 (nn+1) y0 y1 y2 y3 y4=(Bc (decide (y4<y3)) (Aa (wrap .u64 y0) fun x3=>Aa (wrap .u64 y1) fun x4=>Aa (wrap .u64 y4) fun x5=>Ag (call 89 [.lst false 1 4 [.sc (.int .u64 x3),.sc (.int .u64 x4),.sc (.int .u64 x5),.sc (.int .u64 y2)]]) fun x6 x7=>Ac x7<|Ab x6 fun x8 x9=>El 1 x8 fun Cm C3=>Ac x9<|Ap (decide (0+Cm*1<=C3.length))<|Ag (call 73 [.sc (.int .i64 1),.lst false 1 Cm (List.take (Cm*1) (List.drop 0 C3))]) fun Dt D0=>Ac D0<|Ab Dt fun Dq Ed=>Ad .u64 Dq fun Ek=>Ac Ed<|Aa (wrap .i64 (y4+1)) fun Ez=>Jq fu call a0 a1 a2 a3 a4 (nn) (y0) (y1) Ek (y3) Ez) (some (A0.mk [.sc (.int .u64 y2)] []))):=by kernel_rfl
theorem MG {xs:FuncId->Option (List PV->Option A0)} (fu d:Nat)(a0 a1:Int)(a2 a3 a4:Int):Ae (CX xs) Tryz.prog fu (d+1) Xe [.sc (.int .i64 a0),.sc (.int .i64 a1),.sc (.int .i64 a2),.sc (.int .i64 a3),.sc (.int .u64 a4)]=(fun (call:Ai)=>Aa (if 15<a3 then 15 else a3) fun x1=>Aa (if a2<0 then 0 else a2) fun x2=>Jq fu call a0 a1 a2 a3 a4 (fu) (a0) (a1) (a4) x1 x2) (Ae (CX xs) Tryz.prog fu d):=by kernel_rfl
abbrev Pt:FuncId:=110
theorem AG {xs:FuncId->Option (List PV->Option A0)} (fu d:Nat)(a0 a1_0:Int)(a1_1 a1_2:Int)(Agy Ah4:Int)(Ah0 Agc:Int)(Afq Ag5:Int)(Afz TY:Int)(UB TQ:Int)(Ama Al2:Int)(Aln Alj Alk:Int):Ae (CX xs) Tryz.prog fu (d+1) Pt [.sc (.int .i64 a0),.agg [.sc (.int .u64 a1_0),.sc (.int .u64 a1_1),.sc (.int .u64 a1_2),.sc (.int .u64 Agy),.sc (.int .u64 Ah4),.sc (.int .u64 Ah0),.sc (.int .u64 Agc),.sc (.int .u64 Afq),.sc (.int .u64 Ag5),.sc (.int .u64 Afz),.sc (.int .u64 TY),.sc (.int .u64 UB),.sc (.int .u64 TQ),.sc (.int .u64 Ama),.sc (.int .u64 Al2),.sc (.int .u64 Aln),.sc (.int .u64 Alj),.sc (.int .u64 Alk)]]=(fun (call:Ai)=>Aa (wrap .u64 a0) fun x1=>Ag (call 89 [.lst false 1 19 [.sc (.int .u64 x1),.sc (.int .u64 a1_0),.sc (.int .u64 a1_1),.sc (.int .u64 a1_2),.sc (.int .u64 Agy),.sc (.int .u64 Ah4),.sc (.int .u64 Ah0),.sc (.int .u64 Agc),.sc (.int .u64 Afq),.sc (.int .u64 Ag5),.sc (.int .u64 Afz),.sc (.int .u64 TY),.sc (.int .u64 UB),.sc (.int .u64 TQ),.sc (.int .u64 Ama),.sc (.int .u64 Al2),.sc (.int .u64 Aln),.sc (.int .u64 Alj),.sc (.int .u64 Alk)]]) fun x2 x3=>Ac x3<|Ab x2 fun x4 x5=>El 1 x4 fun x6 x7=>Ac x5<|Ap (decide (0+x6*1<=x7.length))<|Ag (call 73 [.sc (.int .i64 2),.lst false 1 x6 (List.take (x6*1) (List.drop 0 x7))]) fun x8 x9=>Ac x9<|Ab x8 fun Cm C3=>Ad .u64 Cm fun Dt=>Ac C3<|some (A0.mk [.sc (.int .u64 Dt)] [])) (Ae (CX xs) Tryz.prog fu d):=by kernel_rfl
abbrev Qk:FuncId:=81
noncomputable def Ee (fu:Nat)(call:Ai)(a0 a1:Int)(a2n:Nat)(a2:List PV)(nn:Nat)(y0:Int)(y1:Nat)(y2:List PV)(y3 y4:Int)(y5 y6:Int)(y7 y8:Int)(y9 y10:Int)(Jj Nv:Int)(Tm Yz:Int)(Yv Y0:Int)(Yw GG:Int)(SQ NY GF:Int)(y22:List PV):Option A0:=C5 CB Tryz.prog fu call 81 Tryz.f81 (Bw Tryz.f81) [.sc (.int .i64 a0),.sc (.int .u64 a1),.lst false 1 a2n a2] [.r,.r,.r,.l,.r,.l] nn ⟨lk [(0,(.sc (.int .i64 y0))),(2,(.lst false 1 y1 y2)),(8,(.ptr 8 0)),(15,(.agg [(.sc (.int .i64 y3)),(.sc (.int .i64 y4)),(.sc (.int .i64 y5)),(.sc (.int .i64 y6)),(.sc (.int .i64 y7)),(.sc (.int .i64 y8)),(.sc (.int .i64 y9)),(.sc (.int .i64 y10)),(.sc (.int .i64 Jj)),(.sc (.int .i64 Nv)),(.sc (.int .i64 Tm)),(.sc (.int .i64 Yz)),(.sc (.int .i64 Yv)),(.sc (.int .i64 Y0)),(.sc (.int .i64 Yw)),(.sc (.int .i64 GG)),(.sc (.int .i64 SQ)),(.sc (.int .i64 NY))])),(16,(.sc (.int .i64 GF)))],B5 [(8,(.ar false y22))]⟩
noncomputable def Ok (fu:Nat)(call:Ai)(a0 a1:Int)(a2n:Nat)(a2:List PV)(nn:Nat)(y0:Int)(y1:List PV):Option A0:=C5 CB Tryz.prog fu call 81 Tryz.f81 (Bw Tryz.f81) [.sc (.int .i64 a0),.sc (.int .u64 a1),.lst false 1 a2n a2] [.r,.r,.r] nn ⟨lk [(0,(.sc (.int .i64 y0))),(8,(.ptr 8 0))],B5 [(8,(.ar false y1))]⟩
noncomputable def O3 (fu:Nat)(call:Ai)(a0 a1:Int)(a2n:Nat)(a2:List PV)(nn:Nat)(y0 y1:Int):Option A0:=C5 CB Tryz.prog fu call 81 Tryz.f81 (Bw Tryz.f81) [.sc (.int .i64 a0),.sc (.int .u64 a1),.lst false 1 a2n a2] [.r,.r,.r,.r] nn ⟨lk [(6,(.sc (.int .u64 y0))),(7,(.sc (.int .i64 y1)))],B5 []⟩
theorem Lr (fu:Nat)(call:Ai)(a0 a1:Int)(a2n:Nat)(a2:List PV)(nn:Nat)(y0:Int)(y1:Nat)(y2:List PV)(y3 y4:Int)(y5 y6:Int)(y7 y8:Int)(y9 y10:Int)(Jj Nv:Int)(Tm Yz:Int)(Yv Y0:Int)(Yw GG:Int)(SQ NY GF:Int)(y22:List PV):Ee fu call a0 a1 a2n a2 (nn+1) y0 y1 y2 y3 y4 y5 y6 y7 y8 y9 y10 Jj Nv Tm Yz Yv Y0 Yw GG SQ NY GF y22=(Bc (decide (GF<18)) (Ap (decide (0<=GF)&&decide (GF<18)&&true)<|Ad .i64 (List.getD [.sc (.int .i64 y3),.sc (.int .i64 y4),.sc (.int .i64 y5),.sc (.int .i64 y6),.sc (.int .i64 y7),.sc (.int .i64 y8),.sc (.int .i64 y9),.sc (.int .i64 y10),.sc (.int .i64 Jj),.sc (.int .i64 Nv),.sc (.int .i64 Tm),.sc (.int .i64 Yz),.sc (.int .i64 Yv),.sc (.int .i64 Y0),.sc (.int .i64 Yw),.sc (.int .i64 GG),.sc (.int .i64 SQ),.sc (.int .i64 NY)] (Int.toNat GF*1) .top) fun AF=>Ap (decide (0<=GF)&&decide (GF<(↑y1:Int)))<|Ad .u64 (List.getD y2 (Int.toNat GF*1) .top) fun Y2=>Ag (call 105 [.sc (.int .i64 y0),.sc (.int .i64 GF),.sc (.int .i64 AF),.sc (.int .i64 15),.sc (.int .u64 Y2)]) fun Zi CH=>Ac CH<|Ab Zi fun AO BK=>Ad .u64 AO fun W0=>Ac BK<|Ap (decide (0<=GF)&&decide (GF<18))<|Ap (decide (0+Int.toNat GF*1+1<=y22.length))<|Aa (Ba y22 [.sc (.int .u64 W0)] (0+Int.toNat GF*1)) fun Xq=>Aa (wrap .i64 (GF+1)) fun EF=>Ee fu call a0 a1 a2n a2 (nn) (y0) (y1) (y2) (y3) (y4) (y5) (y6) (y7) (y8) (y9) (y10) (Jj) (Nv) (Tm) (Yz) (Yv) (Y0) (Yw) (GG) (SQ) (NY) EF Xq) (Ok fu call a0 a1 a2n a2 (fu) (y0) (y22))):=by kernel_rfl
theorem Uo (fu:Nat)(call:Ai)(a0 a1:Int)(a2n:Nat)(a2:List PV)(nn:Nat)(hnn:0<nn)(y0:Int)(y1:List PV):Ok fu call a0 a1 a2n a2 nn y0 y1=(Ad .u64 (List.getD y1 0 .top) fun BQ=>Ad .u64 (List.getD y1 1 .top) fun BI=>Ad .u64 (List.getD y1 2 .top) fun Y1=>Ad .u64 (List.getD y1 3 .top) fun BN=>Ad .u64 (List.getD y1 4 .top) fun KF=>Ad .u64 (List.getD y1 5 .top) fun BJ=>Ad .u64 (List.getD y1 6 .top) fun CU=>Ad .u64 (List.getD y1 7 .top) fun GQ=>Ad .u64 (List.getD y1 8 .top) fun BP=>Ad .u64 (List.getD y1 9 .top) fun ET=>Ad .u64 (List.getD y1 10 .top) fun IH=>Ad .u64 (List.getD y1 11 .top) fun JL=>Ad .u64 (List.getD y1 12 .top) fun TB=>Ad .u64 (List.getD y1 13 .top) fun SE=>Ad .u64 (List.getD y1 14 .top) fun QK=>Ad .u64 (List.getD y1 15 .top) fun OA=>Ad .u64 (List.getD y1 16 .top) fun WJ=>Ad .u64 (List.getD y1 17 .top) fun SX=>Ag (call 110 [.sc (.int .i64 y0),.agg [.sc (.int .u64 BQ),.sc (.int .u64 BI),.sc (.int .u64 Y1),.sc (.int .u64 BN),.sc (.int .u64 KF),.sc (.int .u64 BJ),.sc (.int .u64 CU),.sc (.int .u64 GQ),.sc (.int .u64 BP),.sc (.int .u64 ET),.sc (.int .u64 IH),.sc (.int .u64 JL),.sc (.int .u64 TB),.sc (.int .u64 SE),.sc (.int .u64 QK),.sc (.int .u64 OA),.sc (.int .u64 WJ),.sc (.int .u64 SX)]]) fun SS SN=>Ac SN<|Ab SS fun GN PB=>Ad .u64 GN fun RW=>Ac PB<|O3 fu call a0 a1 a2n a2 (fu) RW 0):=by cases nn with|zero=>exact absurd hnn (Nat.lt_irrefl 0)|succ nn=>kernel_rfl
theorem Vl (fu:Nat)(call:Ai)(a0 a1:Int)(a2n:Nat)(a2:List PV)(nn:Nat)(hnn:0<nn)(y0 y1:Int):O3 fu call a0 a1 a2n a2 nn y0 y1=(some (A0.mk [.sc (.int .u64 y0),.sc (.int .i64 y1)] [])):=by cases nn with|zero=>exact absurd hnn (Nat.lt_irrefl 0)|succ nn=>kernel_rfl
theorem Zk {xs:FuncId->Option (List PV->Option A0)} (fu d:Nat)(a0 a1:Int)(a2n:Nat)(a2:List PV):Ae (CX xs) Tryz.prog fu (d+1) Qk [.sc (.int .i64 a0),.sc (.int .u64 a1),.lst false 1 a2n a2]=(fun (call:Ai)=>Bc ((↑a2n:Int) != 18) (some (A0.mk [.sc (.int .u64 0),.sc (.int .i64 4)] [])) (Ag (call 104 [.sc (.int .u64 a1)]) fun x1 x2=>Ac x2<|Ab x1 fun x3 x4=>Cy x3 fun x5=>Ab x5 fun x6 x7=>Ad .i64 x6 fun x8=>Ab x7 fun x9 Cm=>Ad .i64 x9 fun C3=>Ab Cm fun Dt D0=>Ad .i64 Dt fun Dq=>Ab D0 fun Ed Ek=>Ad .i64 Ed fun Ez=>Ab Ek fun Fo Fg=>Ad .i64 Fo fun Ex=>Ab Fg fun H6 Gz=>Ad .i64 H6 fun Hx=>Ab Gz fun D1 Dm=>Ad .i64 D1 fun F6=>Ab Dm fun H9 Ey=>Ad .i64 H9 fun Jw=>Ab Ey fun Mq J1=>Ad .i64 Mq fun Mm=>Ab J1 fun Ml Ny=>Ad .i64 Ml fun Pu=>Ab Ny fun Qp Sd=>Ad .i64 Qp fun G2=>Ab Sd fun J0 Ur=>Ad .i64 J0 fun Yu=>Ab Ur fun Oo Uh=>Ad .i64 Oo fun Tq=>Ab Uh fun Sr Tp=>Ad .i64 Sr fun Xh=>Ab Tp fun X6 Ss=>Ad .i64 X6 fun Wm=>Ab Ss fun Wy Xd=>Ad .i64 Wy fun Pi=>Ab Xd fun Yi BM=>Ad .i64 Yi fun BL=>Ab BM fun P2 Ub=>Ad .i64 P2 fun Ym=>Ac Ub<|Ac x4<|Ee fu call a0 a1 a2n a2 (fu) (a0) (a2n) (a2) x8 C3 Dq Ez Ex Hx F6 Jw Mm Pu G2 Yu Tq Xh Wm Pi BL Ym 0 ([.sc (.int .u64 0),.sc (.int .u64 0),.sc (.int .u64 0),.sc (.int .u64 0),.sc (.int .u64 0),.sc (.int .u64 0),.sc (.int .u64 0),.sc (.int .u64 0),.sc (.int .u64 0),.sc (.int .u64 0),.sc (.int .u64 0),.sc (.int .u64 0),.sc (.int .u64 0),.sc (.int .u64 0),.sc (.int .u64 0),.sc (.int .u64 0),.sc (.int .u64 0),.sc (.int .u64 0)]))) (Ae (CX xs) Tryz.prog fu d):=by kernel_rfl
abbrev Q0:FuncId:=106
theorem DY {xs:FuncId->Option (List PV->Option A0)} (fu d:Nat)(a0 a1 a2:Int):Ae (CX xs) Tryz.prog fu (d+1) Q0 [.sc (.int .u64 a0),.sc (.int .i64 a1),.sc (.int .i64 a2)]=(fun (call:Ai)=>Aa (wrap .u64 a1) fun x1=>Aa (wrap .u64 a2) fun x2=>Ag (call 89 [.lst false 1 2 [.sc (.int .u64 x1),.sc (.int .u64 x2)]]) fun x3 x4=>Ac x4<|Ab x3 fun x5 x6=>El 1 x5 fun x7 x8=>Ac x6<|Ap (decide (0+x7*1<=x8.length))<|Ag (call 123 [.sc (.int .u64 a0),.sc (.int .i64 1),.lst false 1 x7 (List.take (x7*1) (List.drop 0 x8))]) fun x9 Cm=>Ac Cm<|Ab x9 fun C3 Dt=>Ad .u64 C3 fun D0=>Ac Dt<|some (A0.mk [.sc (.int .u64 D0)] [])) (Ae (CX xs) Tryz.prog fu d):=by kernel_rfl
abbrev Ku:FuncId:=108
noncomputable def Es (fu:Nat)(call:Ai)(a0 a1:Int)(nn:Nat)(y0 y1 y2:Int)(y3:List PV):Option A0:=C5 CB Tryz.prog fu call 108 Tryz.f108 (Bw Tryz.f108) [.sc (.int .u64 a0),.sc (.int .i64 a1)] [.r,.r,.l,.r,.l] nn ⟨lk [(0,(.sc (.int .u64 y0))),(1,(.sc (.int .i64 y1))),(5,(.ptr 5 0)),(7,(.sc (.int .i64 y2)))],B5 [(5,(.ar false y3))]⟩
noncomputable def P5 (fu:Nat)(call:Ai)(a0 a1:Int)(nn:Nat)(y0:Int)(y1:List PV):Option A0:=C5 CB Tryz.prog fu call 108 Tryz.f108 (Bw Tryz.f108) [.sc (.int .u64 a0),.sc (.int .i64 a1)] [.r,.r] nn ⟨lk [(1,(.sc (.int .i64 y0))),(5,(.ptr 5 0))],B5 [(5,(.ar false y1))]⟩
noncomputable def Px (fu:Nat)(call:Ai)(a0 a1:Int)(nn:Nat)(y0:Int):Option A0:=C5 CB Tryz.prog fu call 108 Tryz.f108 (Bw Tryz.f108) [.sc (.int .u64 a0),.sc (.int .i64 a1)] [.r,.r,.r] nn ⟨lk [(4,(.sc (.int .u64 y0)))],B5 []⟩
theorem M8 (fu:Nat)(call:Ai)(a0 a1:Int)(nn:Nat)(y0 y1 y2:Int)(y3:List PV):Es fu call a0 a1 (nn+1) y0 y1 y2 y3=(Bc (decide (y2<18)) (Ag (call 106 [.sc (.int .u64 y0),.sc (.int .i64 y1),.sc (.int .i64 y2)]) fun x1 x2=>Ac x2<|Ab x1 fun x3 x4=>Ad .u64 x3 fun x5=>Ac x4<|Ag (call 105 [.sc (.int .i64 y1),.sc (.int .i64 y2),.sc (.int .i64 0),.sc (.int .i64 15),.sc (.int .u64 x5)]) fun x6 x7=>Ac x7<|Ab x6 fun x8 x9=>Ad .u64 x8 fun Cm=>Ac x9<|Ap (decide (0<=y2)&&decide (y2<18))<|Ap (decide (0+Int.toNat y2*1+1<=y3.length))<|Aa (Ba y3 [.sc (.int .u64 Cm)] (0+Int.toNat y2*1)) fun C3=>Aa (wrap .i64 (y2+1)) fun Dt=>Es fu call a0 a1 (nn) (y0) (y1) Dt C3) (P5 fu call a0 a1 (fu) (y1) (y3))):=by kernel_rfl
theorem Wr (fu:Nat)(call:Ai)(a0 a1:Int)(nn:Nat)(hnn:0<nn)(y0:Int)(y1:List PV):P5 fu call a0 a1 nn y0 y1=(Ad .u64 (List.getD y1 0 .top) fun D0=>Ad .u64 (List.getD y1 1 .top) fun Dq=>Ad .u64 (List.getD y1 2 .top) fun Ed=>Ad .u64 (List.getD y1 3 .top) fun Ek=>Ad .u64 (List.getD y1 4 .top) fun Ez=>Ad .u64 (List.getD y1 5 .top) fun Fo=>Ad .u64 (List.getD y1 6 .top) fun Fg=>Ad .u64 (List.getD y1 7 .top) fun Ex=>Ad .u64 (List.getD y1 8 .top) fun H6=>Ad .u64 (List.getD y1 9 .top) fun Gz=>Ad .u64 (List.getD y1 10 .top) fun Hx=>Ad .u64 (List.getD y1 11 .top) fun D1=>Ad .u64 (List.getD y1 12 .top) fun Dm=>Ad .u64 (List.getD y1 13 .top) fun F6=>Ad .u64 (List.getD y1 14 .top) fun H9=>Ad .u64 (List.getD y1 15 .top) fun Ey=>Ad .u64 (List.getD y1 16 .top) fun Jw=>Ad .u64 (List.getD y1 17 .top) fun Mq=>Ag (call 110 [.sc (.int .i64 y0),.agg [.sc (.int .u64 D0),.sc (.int .u64 Dq),.sc (.int .u64 Ed),.sc (.int .u64 Ek),.sc (.int .u64 Ez),.sc (.int .u64 Fo),.sc (.int .u64 Fg),.sc (.int .u64 Ex),.sc (.int .u64 H6),.sc (.int .u64 Gz),.sc (.int .u64 Hx),.sc (.int .u64 D1),.sc (.int .u64 Dm),.sc (.int .u64 F6),.sc (.int .u64 H9),.sc (.int .u64 Ey),.sc (.int .u64 Jw),.sc (.int .u64 Mq)]]) fun J1 Mm=>Ac Mm<|Ab J1 fun Ml Ny=>Ad .u64 Ml fun Pu=>Ac Ny<|Px fu call a0 a1 (fu) Pu):=by cases nn with|zero=>exact absurd hnn (Nat.lt_irrefl 0)|succ nn=>kernel_rfl
theorem Wj (fu:Nat)(call:Ai)(a0 a1:Int)(nn:Nat)(hnn:0<nn)(y0:Int):Px fu call a0 a1 nn y0=(some (A0.mk [.sc (.int .u64 y0)] [])):=by cases nn with|zero=>exact absurd hnn (Nat.lt_irrefl 0)|succ nn=>kernel_rfl
theorem CA {xs:FuncId->Option (List PV->Option A0)} (fu d:Nat)(a0 a1:Int):Ae (CX xs) Tryz.prog fu (d+1) Ku [.sc (.int .u64 a0),.sc (.int .i64 a1)]=(fun (call:Ai)=>Es fu call a0 a1 (fu) (a0) (a1) 0 ([.sc (.int .u64 0),.sc (.int .u64 0),.sc (.int .u64 0),.sc (.int .u64 0),.sc (.int .u64 0),.sc (.int .u64 0),.sc (.int .u64 0),.sc (.int .u64 0),.sc (.int .u64 0),.sc (.int .u64 0),.sc (.int .u64 0),.sc (.int .u64 0),.sc (.int .u64 0),.sc (.int .u64 0),.sc (.int .u64 0),.sc (.int .u64 0),.sc (.int .u64 0),.sc (.int .u64 0)])) (Ae (CX xs) Tryz.prog fu d):=by kernel_rfl
abbrev Oa:FuncId:=76
noncomputable def Im (fu:Nat)(call:Ai)(a0 a1 a2:Int)(nn:Nat)(y0 y1:Int)(y2 y3:Int)(y4 y5:Int)(y6 y7:Int)(y8 y9:Int)(y10 Jj:Int)(Nv Tm:Int)(Yz Yv:Int)(Y0 Yw:Int)(GG SQ NY:Int)(GF:List PV):Option A0:=C5 CB Tryz.prog fu call 76 Tryz.f76 (Bw Tryz.f76) [.sc (.int .u64 a0),.sc (.int .i64 a1),.sc (.int .u64 a2)] [.r,.r,.l,.r,.l] nn ⟨lk [(0,(.sc (.int .u64 y0))),(1,(.sc (.int .i64 y1))),(7,(.ptr 7 0)),(11,(.agg [(.sc (.int .i64 y2)),(.sc (.int .i64 y3)),(.sc (.int .i64 y4)),(.sc (.int .i64 y5)),(.sc (.int .i64 y6)),(.sc (.int .i64 y7)),(.sc (.int .i64 y8)),(.sc (.int .i64 y9)),(.sc (.int .i64 y10)),(.sc (.int .i64 Jj)),(.sc (.int .i64 Nv)),(.sc (.int .i64 Tm)),(.sc (.int .i64 Yz)),(.sc (.int .i64 Yv)),(.sc (.int .i64 Y0)),(.sc (.int .i64 Yw)),(.sc (.int .i64 GG)),(.sc (.int .i64 SQ))])),(12,(.sc (.int .i64 NY)))],B5 [(7,(.ar false GF))]⟩
theorem Pz (fu:Nat)(call:Ai)(a0 a1 a2:Int)(nn:Nat)(y0 y1:Int)(y2 y3:Int)(y4 y5:Int)(y6 y7:Int)(y8 y9:Int)(y10 Jj:Int)(Nv Tm:Int)(Yz Yv:Int)(Y0 Yw:Int)(GG SQ NY:Int)(GF:List PV):Im fu call a0 a1 a2 (nn+1) y0 y1 y2 y3 y4 y5 y6 y7 y8 y9 y10 Jj Nv Tm Yz Yv Y0 Yw GG SQ NY GF=(Bc (decide (NY<18)) (Ap (decide (0<=NY)&&decide (NY<18)&&true)<|Ad .i64 (List.getD [.sc (.int .i64 y2),.sc (.int .i64 y3),.sc (.int .i64 y4),.sc (.int .i64 y5),.sc (.int .i64 y6),.sc (.int .i64 y7),.sc (.int .i64 y8),.sc (.int .i64 y9),.sc (.int .i64 y10),.sc (.int .i64 Jj),.sc (.int .i64 Nv),.sc (.int .i64 Tm),.sc (.int .i64 Yz),.sc (.int .i64 Yv),.sc (.int .i64 Y0),.sc (.int .i64 Yw),.sc (.int .i64 GG),.sc (.int .i64 SQ)] (Int.toNat NY*1) .top) fun AF=>Ag (call 106 [.sc (.int .u64 y0),.sc (.int .i64 y1),.sc (.int .i64 NY)]) fun Y2 Zi=>Ac Zi<|Ab Y2 fun CH AO=>Ad .u64 CH fun BK=>Ac AO<|Ag (call 105 [.sc (.int .i64 y1),.sc (.int .i64 NY),.sc (.int .i64 0),.sc (.int .i64 AF),.sc (.int .u64 BK)]) fun W0 Xq=>Ac Xq<|Ab W0 fun EF BQ=>Ad .u64 EF fun BI=>Ac BQ<|Ap (decide (0<=NY)&&decide (NY<18))<|Ap (decide (0+Int.toNat NY*1+1<=GF.length))<|Aa (Ba GF [.sc (.int .u64 BI)] (0+Int.toNat NY*1)) fun Y1=>Aa (wrap .i64 (NY+1)) fun BN=>Im fu call a0 a1 a2 (nn) (y0) (y1) (y2) (y3) (y4) (y5) (y6) (y7) (y8) (y9) (y10) (Jj) (Nv) (Tm) (Yz) (Yv) (Y0) (Yw) (GG) (SQ) BN Y1) (Ap (decide (18<=GF.length))<|Ap (decide (18<=GF.length))<|some (A0.mk [.own 1 18 (List.take 18 GF)] []))):=by kernel_rfl
theorem LM {xs:FuncId->Option (List PV->Option A0)} (fu d:Nat)(a0 a1 a2:Int):Ae (CX xs) Tryz.prog fu (d+1) Oa [.sc (.int .u64 a0),.sc (.int .i64 a1),.sc (.int .u64 a2)]=(fun (call:Ai)=>Ag (call 104 [.sc (.int .u64 a2)]) fun x1 x2=>Ac x2<|Ab x1 fun x3 x4=>Cy x3 fun x5=>Ab x5 fun x6 x7=>Ad .i64 x6 fun x8=>Ab x7 fun x9 Cm=>Ad .i64 x9 fun C3=>Ab Cm fun Dt D0=>Ad .i64 Dt fun Dq=>Ab D0 fun Ed Ek=>Ad .i64 Ed fun Ez=>Ab Ek fun Fo Fg=>Ad .i64 Fo fun Ex=>Ab Fg fun H6 Gz=>Ad .i64 H6 fun Hx=>Ab Gz fun D1 Dm=>Ad .i64 D1 fun F6=>Ab Dm fun H9 Ey=>Ad .i64 H9 fun Jw=>Ab Ey fun Mq J1=>Ad .i64 Mq fun Mm=>Ab J1 fun Ml Ny=>Ad .i64 Ml fun Pu=>Ab Ny fun Qp Sd=>Ad .i64 Qp fun G2=>Ab Sd fun J0 Ur=>Ad .i64 J0 fun Yu=>Ab Ur fun Oo Uh=>Ad .i64 Oo fun Tq=>Ab Uh fun Sr Tp=>Ad .i64 Sr fun Xh=>Ab Tp fun X6 Ss=>Ad .i64 X6 fun Wm=>Ab Ss fun Wy Xd=>Ad .i64 Wy fun Pi=>Ab Xd fun Yi BM=>Ad .i64 Yi fun BL=>Ab BM fun P2 Ub=>Ad .i64 P2 fun Ym=>Ac Ub<|Ac x4<|Im fu call a0 a1 a2 (fu) (a0) (a1) x8 C3 Dq Ez Ex Hx F6 Jw Mm Pu G2 Yu Tq Xh Wm Pi BL Ym 0 ([.sc (.int .u64 0),.sc (.int .u64 0),.sc (.int .u64 0),.sc (.int .u64 0),.sc (.int .u64 0),.sc (.int .u64 0),.sc (.int .u64 0),.sc (.int .u64 0),.sc (.int .u64 0),.sc (.int .u64 0),.sc (.int .u64 0),.sc (.int .u64 0),.sc (.int .u64 0),.sc (.int .u64 0),.sc (.int .u64 0),.sc (.int .u64 0),.sc (.int .u64 0),.sc (.int .u64 0)])) (Ae (CX xs) Tryz.prog fu d):=by kernel_rfl
abbrev Jk:FuncId:=74
theorem HT {xs:FuncId->Option (List PV->Option A0)} (fu d:Nat)(a0:Int):Ae (CX xs) Tryz.prog fu (d+1) Jk [.sc (.int .i64 a0)]=(fun (call:Ai)=>Bc (decide (a0<0)) (some (A0.mk [.sc (.bool true)] [])) (some (A0.mk [.sc (.bool (decide (a0>4)))] []))) (Ae (CX xs) Tryz.prog fu d):=by kernel_rfl
abbrev Hj:FuncId:=75
theorem Zy {xs:FuncId->Option (List PV->Option A0)} (fu d:Nat)(a0 a1:Int):Ae (CX xs) Tryz.prog fu (d+1) Hj [.sc (.int .i64 a0),.sc (.int .i64 a1)]=(fun (call:Ai)=>Bc (decide (a0<0)) (some (A0.mk [.sc (.bool true)] [])) (Ap (decide (0<=a1))<|Aa (G4 .i64 1 a1) fun x1=>some (A0.mk [.sc (.bool (decide (a0>=x1)))] []))) (Ae (CX xs) Tryz.prog fu d):=by kernel_rfl
abbrev Td:FuncId:=92
noncomputable def Gm (fu:Nat)(call:Ai)(a0n:Nat)(a0:List PV)(nn y0:Nat)(y1:List PV)(y2:Nat)(y3 y4:Int)(y5:List PV):Option A0:=C5 CB Tryz.prog fu call 92 Tryz.f92 (Bw Tryz.f92) [.lst false 1 a0n a0] [.r,.r,.l,.r,.l] nn ⟨lk [(0,(.lst false 1 y0 y1)),(3,(.view 3 1 0 y2)),(12,(.sc (.int .i64 y3))),(13,(.sc (.int .i64 y4)))],B5 [(3,(.ar false y5))]⟩
noncomputable def H3 (fu:Nat)(call:Ai)(a0n:Nat)(a0:List PV)(m0 nn y0:Nat)(y1:List PV)(y2:Nat)(y3 y4 y5:Int)(y6:Nat)(y7:List PV)(y8 y9:Int)(y10:List PV):Option A0:=C5 CB Tryz.prog fu call 92 Tryz.f92 (Bw Tryz.f92) [.lst false 1 a0n a0] [.r,.r,.l,.r,.l,.i m0,.r,.r,.l,.l,.r,.r,.l] nn ⟨lk [(0,(.lst false 1 y0 y1)),(3,(.view 3 1 0 y2)),(4,(.sc (.int .i64 y3))),(12,(.sc (.int .i64 y4))),(13,(.sc (.int .i64 y5))),(22,(.lst false 1 y6 y7)),(23,(.sc (.int .i64 y8))),(24,(.sc (.int .i64 y9)))],B5 [(3,(.ar false y10))]⟩
theorem Oe (fu:Nat)(call:Ai)(a0n:Nat)(a0:List PV)(nn y0:Nat)(y1:List PV)(y2:Nat)(y3 y4:Int)(y5:List PV):Gm fu call a0n a0 (nn+1) y0 y1 y2 y3 y4 y5=(Bc (decide (y4<y3)) (Aa (wrap .i64 (8*y4)) fun x2=>Aa (wrap .i64 (8*y4)) fun x3=>Aa (wrap .i64 (x3+8)) fun x4=>Ap (decide (0<=x2))<|Ap (decide (0<=x4))<|Ap (decide (Int.toNat x2<=Int.toNat x4)&&decide (Int.toNat x4<=y0))<|Aa (Int.toNat x4-Int.toNat x2) fun x5=>Aa (List.take (x5*1) (List.drop (Int.toNat x2*1) y1)) fun x6=>H3 fu call a0n a0 nn (fu) (y0) (y1) (y2) (y4) (y3) (y4) x5 x6 ((↑x5:Int)) 0 (y5)) (Ap (decide (y2*1<=y5.length))<|some (A0.mk [.own 1 y2 (List.take (y2*1) y5)] []))):=by kernel_rfl
theorem O9 (fu:Nat)(call:Ai)(a0n:Nat)(a0:List PV)(m0 nn y0:Nat)(y1:List PV)(y2:Nat)(y3 y4 y5:Int)(y6:Nat)(y7:List PV)(y8 y9:Int)(y10:List PV):H3 fu call a0n a0 m0 (nn+1) y0 y1 y2 y3 y4 y5 y6 y7 y8 y9 y10=(Bc (decide (y9<y8)) (Ap (decide (0<=y9)&&decide (y9<(↑y6:Int)))<|Ad .u8 (List.getD y7 (Int.toNat y9*1) .top) fun x7=>Ap (decide (0<=y3)&&decide (y3<(↑y2:Int)))<|Ad .u64 (List.getD y10 (0+Int.toNat y3*1) .top) fun x8=>Aa (G4 .u64 x8 8) fun x9=>Aa (wrap .u64 x7) fun Cm=>Aa (NP .u64 x9 Cm) fun C3=>Ap (decide (0<=y3)&&decide (y3<(↑y2:Int)))<|Ap (decide (0+Int.toNat y3*1+1<=y10.length))<|Aa (Ba y10 [.sc (.int .u64 C3)] (0+Int.toNat y3*1)) fun Dt=>Aa (wrap .i64 (y9+1)) fun D0=>H3 fu call a0n a0 m0 (nn) (y0) (y1) (y2) (y3) (y4) (y5) (y6) (y7) (y8) D0 Dt) (Aa (wrap .i64 (y5+1)) fun Dq=>Gm fu call a0n a0 (m0) (y0) (y1) (y2) (y4) Dq (y10))):=by kernel_rfl
theorem GB {xs:FuncId->Option (List PV->Option A0)} (fu d a0n:Nat)(a0:List PV):Ae (CX xs) Tryz.prog fu (d+1) Td [.lst false 1 a0n a0]=(fun (call:Ai)=>Aa (wrap .i64 (Int.tdiv (↑a0n:Int) 8)) fun x1=>Ap (decide (0<=x1)&&decide (x1<=x1)&&decide (x1*8<=1099511627776)&&decide (x1<=1099511627776))<|Gm fu call a0n a0 (fu) (a0n) (a0) x1.toNat ((↑x1.toNat:Int)) 0 (Q4 x1.toNat [.sc (.int .u64 0)])) (Ae (CX xs) Tryz.prog fu d):=by kernel_rfl
abbrev Km:FuncId:=82
theorem CW {xs:FuncId->Option (List PV->Option A0)} (fu d:Nat)(a0 a1 a2:Int):Ae (CX xs) Tryz.prog fu (d+1) Km [.sc (.int .i64 a0),.sc (.int .u64 a1),.sc (.int .u64 a2)]=(fun (call:Ai)=>Aa (wrap .u64 a0) fun x1=>Ag (call 89 [.lst false 1 3 [.sc (.int .u64 x1),.sc (.int .u64 a1),.sc (.int .u64 a2)]]) fun x2 x3=>Ac x3<|Ab x2 fun x4 x5=>El 1 x4 fun x6 x7=>Ac x5<|Ap (decide (0+x6*1<=x7.length))<|Ag (call 73 [.sc (.int .i64 3),.lst false 1 x6 (List.take (x6*1) (List.drop 0 x7))]) fun x8 x9=>Ac x9<|Ab x8 fun Cm C3=>Ad .u64 Cm fun Dt=>Ac C3<|some (A0.mk [.sc (.int .u64 Dt)] [])) (Ae (CX xs) Tryz.prog fu d):=by kernel_rfl
abbrev M6:FuncId:=66
theorem Wo {xs:FuncId->Option (List PV->Option A0)} (fu d:Nat)(a0_0 a0_1:Int):Ae (CX xs) Tryz.prog fu (d+1) M6 [.agg [.sc (.int .i64 a0_0),.sc (.int .u64 a0_1)]]=(fun (call:Ai)=>Ag (call 74 [.sc (.int .i64 a0_0)]) fun x1 x2=>Ac x2<|Ab x1 fun x3 x4=>Bl x3 fun x5=>Ac x4<|Bc x5 (some (A0.mk [.own 1 0 [],.sc (.int .i64 9)] [])) (Aa (wrap .u8 a0_0) fun x6=>Ag (call 89 [.lst false 1 1 [.sc (.int .u64 a0_1)]]) fun x7 x8=>Ac x8<|Ab x7 fun x9 Cm=>El 1 x9 fun C3 Dt=>Ac Cm<|Ap (decide (0+C3*1<=Dt.length))<|Ap (decide (List.length (List.take (C3*1) (List.drop 0 Dt))=C3*1)&&decide ((1+C3)*1<=1099511627776)&&decide (1+C3<=1099511627776))<|Aa (1+C3) fun D0=>Aa ([.sc (.int .u8 x6)]++List.take (C3*1) (List.drop 0 Dt)) fun Dq=>Ap (decide (D0*1<=Dq.length))<|some (A0.mk [.own 1 D0 (List.take (D0*1) Dq),.sc (.int .i64 0)] []))) (Ae (CX xs) Tryz.prog fu d):=by kernel_rfl
abbrev M1:FuncId:=53
theorem Wq {xs:FuncId->Option (List PV->Option A0)} (fu d a0n:Nat)(a0:List PV):Ae (CX xs) Tryz.prog fu (d+1) M1 [.lst false 1 a0n a0]=(fun (call:Ai)=>Bc ((↑a0n:Int) != 9) (some (A0.mk [.agg [.sc (.int .i64 0),.sc (.int .u64 0)],.sc (.int .i64 2)] [])) (Ap (decide (0<(↑a0n:Int)))<|Ad .u8 (List.getD a0 0 .top) fun x1=>Aa (wrap .i64 x1) fun x2=>Ag (call 74 [.sc (.int .i64 x2)]) fun x3 x4=>Ac x4<|Ab x3 fun x5 x6=>Bl x5 fun x7=>Ac x6<|Bc x7 (some (A0.mk [.agg [.sc (.int .i64 0),.sc (.int .u64 0)],.sc (.int .i64 2)] [])) (Ap (decide (0<(↑a0n:Int)))<|Ad .u8 (List.getD a0 0 .top) fun x8=>Aa (wrap .i64 x8) fun x9=>Ap (decide (1<=a0n)&&decide (a0n<=a0n))<|Aa (a0n-1) fun Cm=>Aa (List.take (Cm*1) (List.drop 1 a0)) fun C3=>Ag (call 92 [.lst false 1 Cm C3]) fun Dt D0=>Ac D0<|Ab Dt fun Dq Ed=>El 1 Dq fun Ek Ez=>Ac Ed<|Ap (decide (0<(↑Ek:Int)))<|Ad .u64 (List.getD Ez 0 .top) fun Fo=>some (A0.mk [.agg [.sc (.int .i64 x9),.sc (.int .u64 Fo)],.sc (.int .i64 0)] [])))) (Ae (CX xs) Tryz.prog fu d):=by kernel_rfl
abbrev H8:FuncId:=50
theorem Pn {xs:FuncId->Option (List PV->Option A0)} (fu d:Nat)(a0_0:Int)(NR:Nat)(a0_1:List PV)(Fc:Nat)(a0_2:List PV):Ae (CX xs) Tryz.prog fu (d+1) H8 [.agg [.sc (.int .i64 a0_0),.lst false 1 NR a0_1,.lst false 1 Fc a0_2]]=(fun (call:Ai)=>Ag (call 74 [.sc (.int .i64 (↑Fc:Int))]) fun x1 x2=>Ac x2<|Ab x1 fun x3 x4=>Bl x3 fun x5=>Ac x4<|Bc x5 (some (A0.mk [.own 1 0 [],.sc (.int .i64 9)] [])) (Ag (call 75 [.sc (.int .i64 a0_0),.sc (.int .i64 (↑Fc:Int))]) fun x6 x7=>Ac x7<|Ab x6 fun x8 x9=>Bl x8 fun Cm=>Ac x9<|Bc Cm (some (A0.mk [.own 1 0 [],.sc (.int .i64 9)] [])) (Bc ((↑NR:Int) != 18) (some (A0.mk [.own 1 0 [],.sc (.int .i64 4)] [])) (Aa (wrap .u8 a0_0) fun C3=>Aa (wrap .u8 (↑Fc:Int)) fun Dt=>Ag (call 89 [.lst false 1 NR a0_1]) fun D0 Dq=>Ac Dq<|Ab D0 fun Ed Ek=>El 1 Ed fun Ez Fo=>Ac Ek<|Ap (decide (0+Ez*1<=Fo.length))<|Ap (decide (List.length (List.take (Ez*1) (List.drop 0 Fo))=Ez*1)&&decide ((2+Ez)*1<=1099511627776)&&decide (2+Ez<=1099511627776))<|Aa (2+Ez) fun Fg=>Aa ([.sc (.int .u8 C3),.sc (.int .u8 Dt)]++List.take (Ez*1) (List.drop 0 Fo)) fun Ex=>Ag (call 89 [.lst false 1 Fc a0_2]) fun H6 Gz=>Ac Gz<|Ab H6 fun Hx D1=>El 1 Hx fun Dm F6=>Ac D1<|Ap (decide (0+Dm*1<=F6.length))<|Ap (decide (Fg*1<=Ex.length)&&decide (List.length (List.take (Dm*1) (List.drop 0 F6))=Dm*1)&&decide ((Fg+Dm)*1<=1099511627776)&&decide (Fg+Dm<=1099511627776))<|Aa (Fg+Dm) fun H9=>Aa (List.take (Fg*1) Ex++List.take (Dm*1) (List.drop 0 F6)) fun Ey=>Ap (decide (H9*1<=Ey.length))<|some (A0.mk [.own 1 H9 (List.take (H9*1) Ey),.sc (.int .i64 0)] []))))) (Ae (CX xs) Tryz.prog fu d):=by kernel_rfl
abbrev H7:FuncId:=54
theorem Pk {xs:FuncId->Option (List PV->Option A0)} (fu d a0n:Nat)(a0:List PV):Ae (CX xs) Tryz.prog fu (d+1) H7 [.lst false 1 a0n a0]=(fun (call:Ai)=>Bc (decide ((↑a0n:Int)<2)) (some (A0.mk [.agg [.sc (.int .i64 0),.own 1 0 [],.own 1 0 []],.sc (.int .i64 2)] [])) (Ap (decide (0<(↑a0n:Int)))<|Ad .u8 (List.getD a0 0 .top) fun x1=>Aa (wrap .i64 x1) fun x2=>Ap (decide (1<(↑a0n:Int)))<|Ad .u8 (List.getD a0 1 .top) fun x3=>Aa (wrap .i64 x3) fun x4=>Ag (call 74 [.sc (.int .i64 x4)]) fun x5 x6=>Ac x6<|Ab x5 fun x7 x8=>Bl x7 fun x9=>Ac x8<|Bc x9 (some (A0.mk [.agg [.sc (.int .i64 0),.own 1 0 [],.own 1 0 []],.sc (.int .i64 2)] [])) (Ag (call 75 [.sc (.int .i64 x2),.sc (.int .i64 x4)]) fun Cm C3=>Ac C3<|Ab Cm fun Dt D0=>Bl Dt fun Dq=>Ac D0<|Bc Dq (some (A0.mk [.agg [.sc (.int .i64 0),.own 1 0 [],.own 1 0 []],.sc (.int .i64 2)] [])) (Aa (wrap .i64 (18+x4)) fun Ed=>Aa (wrap .i64 (8*Ed)) fun Ek=>Aa (wrap .i64 (2+Ek)) fun Ez=>Bc ((↑a0n:Int) != Ez) (some (A0.mk [.agg [.sc (.int .i64 0),.own 1 0 [],.own 1 0 []],.sc (.int .i64 2)] [])) (Ap (decide (146<=a0n))<|Aa (List.take 144 (List.drop 2 a0)) fun Fo=>Ag (call 92 [.lst false 1 144 Fo]) fun Fg Ex=>Ac Ex<|Ab Fg fun H6 Gz=>El 1 H6 fun Hx D1=>Ac Gz<|Ap (decide (146<=a0n)&&decide (a0n<=a0n))<|Aa (a0n-146) fun Dm=>Aa (List.take (Dm*1) (List.drop 146 a0)) fun F6=>Ag (call 92 [.lst false 1 Dm F6]) fun H9 Ey=>Ac Ey<|Ab H9 fun Jw Mq=>El 1 Jw fun J1 Mm=>Ac Mq<|Ap (decide (Hx*1<=D1.length))<|Ap (decide (J1*1<=Mm.length))<|some (A0.mk [.agg [.sc (.int .i64 x2),.own 1 Hx (List.take (Hx*1) D1),.own 1 J1 (List.take (J1*1) Mm)],.sc (.int .i64 0)] [])))))) (Ae (CX xs) Tryz.prog fu d):=by kernel_rfl
abbrev Rg:FuncId:=41
noncomputable def Fw (fu:Nat)(call:Ai)(a0_0 a0_1:Int)(a1 JK:Int)(Vn:Nat)(MT:List PV)(To:Nat)(MW:List PV)(nn:Nat)(y0:Int)(y1:Nat)(y2:List PV)(y3 y4:Int)(y5 y6 y7:Int)(y8:Nat)(y9:List PV)(y10:Nat)(Jj:List PV):Option A0:=C5 CB Tryz.prog fu call 41 Tryz.f41 (Bw Tryz.f41) [.agg [.sc (.int .i64 a0_0),.sc (.int .u64 a0_1)],.sc (.int .u64 a1),.agg [.sc (.int .i64 JK),.lst false 1 Vn MT,.lst false 1 To MW]] [.r,.r,.r,.r,.r,.l,.r,.l] nn ⟨lk [(3,(.ptr 3 0)),(5,(.ptr 5 0)),(7,(.sc (.int .u64 y0))),(46,(.lst false 1 y1 y2)),(47,(.sc (.int .i64 y3))),(48,(.sc (.int .i64 y4)))],B5 [(3,(.st [(.sc (.int .i64 y5)),(.sc (.int .u64 y6))])),(5,(.st [(.sc (.int .i64 y7)),(.lst false 1 y8 y9),(.lst false 1 y10 Jj)]))]⟩
theorem M7 (fu:Nat)(call:Ai)(a0_0 a0_1:Int)(a1 JK:Int)(Vn:Nat)(MT:List PV)(To:Nat)(MW:List PV)(nn:Nat)(y0:Int)(y1:Nat)(y2:List PV)(y3 y4:Int)(y5 y6 y7:Int)(y8:Nat)(y9:List PV)(y10:Nat)(Jj:List PV):Fw fu call a0_0 a0_1 a1 JK Vn MT To MW (nn+1) y0 y1 y2 y3 y4 y5 y6 y7 y8 y9 y10 Jj=(Bc (decide (y4<y3)) (Ap (decide (0<=y4)&&decide (y4<(↑y1:Int)))<|Ad .u64 (List.getD y2 (Int.toNat y4*1) .top) fun Fg=>Ap (decide (0<=y4))<|Aa (D3 .i64 y7 y4) fun Ex=>Aa (Qx .i64 Ex 1) fun H6=>Bc (H6==0) (Aa (wrap .i64 (y4+1)) fun Gz=>Ag (call 82 [.sc (.int .i64 Gz),.sc (.int .u64 y0),.sc (.int .u64 Fg)]) fun Hx D1=>Ac D1<|Ab Hx fun Dm F6=>Ad .u64 Dm fun H9=>Ac F6<|Aa (wrap .i64 (y4+1)) fun Ey=>Fw fu call a0_0 a0_1 a1 JK Vn MT To MW (nn) H9 (y1) (y2) (y3) Ey (y5) (y6) (y7) (y8) (y9) (y10) (Jj)) (Aa (wrap .i64 (y4+1)) fun Jw=>Ag (call 82 [.sc (.int .i64 Jw),.sc (.int .u64 Fg),.sc (.int .u64 y0)]) fun Mq J1=>Ac J1<|Ab Mq fun Mm Ml=>Ad .u64 Mm fun Ny=>Ac Ml<|Aa (wrap .i64 (y4+1)) fun Pu=>Fw fu call a0_0 a0_1 a1 JK Vn MT To MW (nn) Ny (y1) (y2) (y3) Pu (y5) (y6) (y7) (y8) (y9) (y10) (Jj))) (Bc (y0 != y6) (some (A0.mk [.sc (.int .i64 15)] [])) (some (A0.mk [.sc (.int .i64 0)] [])))):=by kernel_rfl
theorem CI {xs:FuncId->Option (List PV->Option A0)} (fu d:Nat)(a0_0 a0_1:Int)(a1 JK:Int)(Vn:Nat)(MT:List PV)(To:Nat)(MW:List PV):Ae (CX xs) Tryz.prog fu (d+1) Rg [.agg [.sc (.int .i64 a0_0),.sc (.int .u64 a0_1)],.sc (.int .u64 a1),.agg [.sc (.int .i64 JK),.lst false 1 Vn MT,.lst false 1 To MW]]=(fun (call:Ai)=>Ag (call 74 [.sc (.int .i64 a0_0)]) fun x1 x2=>Ac x2<|Ab x1 fun x3 x4=>Bl x3 fun x5=>Ac x4<|Bc x5 (some (A0.mk [.sc (.int .i64 9)] [])) (Ag (call 75 [.sc (.int .i64 JK),.sc (.int .i64 a0_0)]) fun x6 x7=>Ac x7<|Ab x6 fun x8 x9=>Bl x8 fun Cm=>Ac x9<|Bc Cm (some (A0.mk [.sc (.int .i64 9)] [])) (Bc ((↑Vn:Int) != 18) (some (A0.mk [.sc (.int .i64 4)] [])) (Bc ((↑To:Int) != a0_0) (some (A0.mk [.sc (.int .i64 4)] [])) (Ag (call 81 [.sc (.int .i64 JK),.sc (.int .u64 a1),.lst false 1 Vn MT]) fun C3 Dt=>Ac Dt<|Ab C3 fun D0 Dq=>Ad .u64 D0 fun Ed=>Ab Dq fun Ek Ez=>Ad .i64 Ek fun Fo=>Ac Ez<|Bc (Fo != 0) (some (A0.mk [.sc (.int .i64 Fo)] [])) (Fw fu call a0_0 a0_1 a1 JK Vn MT To MW (fu) Ed (To) (MW) ((↑To:Int)) 0 (a0_0) (a0_1) (JK) (Vn) (MT) (To) (MW))))))) (Ae (CX xs) Tryz.prog fu d):=by kernel_rfl
end
section
open Go.IntKind (wrap)
theorem Ap1 {a m:Int}(h0:0<=m)(h1:m<=18446744073709551615):0<=Qx .u64 a m∧Qx .u64 a m<=m:=by
 have hle:(BitVec.ofInt 64 a &&& BitVec.ofInt 64 m).toNat<=m.toNat:=by
  rw [BitVec.toNat_and];refine Nat.le_trans Nat.and_le_right ?_;rw [BitVec.toNat_ofInt];omega
 have:Qx .u64 a m=((BitVec.ofInt 64 a &&& BitVec.ofInt 64 m).toNat:Int):=by
  unfold Qx;exact Cn (by omega) (by show ((BitVec.ofInt 64 a &&& BitVec.ofInt 64 m).toNat:Int)<=_;omega)
 rw [this];omega
theorem Jv (k:IntKind)(l:List Int)(i:Nat)(x:Int):(Af k l).set i (.sc (.int k x))=Af k (l.set i x):=by
 induction l generalizing i with
 |nil=>rfl
 |cons a l ih=>
  cases i with
  |zero=>rfl
  |succ i=>
   show (PV.sc (.int k a)::Af k l).set (i+1) _=PV.sc (.int k a)::Af k (l.set i x);rw [List.set_cons_succ,ih]
theorem UR (w:Int)(k:Nat):0<=C7 w k∧C7 w k<=255:=by
 unfold C7;simp only [wrap,IntKind.signed,IntKind.bits];simp;omega
theorem Abx (w:Int):Jy (Dv w):=by
 intro x hx;obtain ⟨k,_,rfl⟩:=List.mem_map.1 hx;exact UR w k
theorem Q6 (ws:List Int):Jy (A4 ws):=by
 intro x hx;obtain ⟨w,_,hx⟩:=List.mem_flatMap.1 hx;exact Abx w x hx
theorem Df (ws:List Int):(A4 ws).length=8*ws.length:=by
 induction ws with
 |nil=>rfl
 |cons w ws ih=>
  show (Dv w++A4 ws).length=_;rw [Jz,ih,Er,J2];omega
def F9 (m:Int)(k:Nat):Int:=wrap .i64 (Qx .u64 (D3 .u64 m (60-4*(k:Int))) 15)
theorem P3 (m:Int)(k:Nat):0<=F9 m k∧F9 m k<=15:=by
 have:=Ap1 (a:=D3 .u64 m (60-4*(k:Int))) (m:=15) (by omega) (by omega)
 unfold F9;rw [Aj (by omega) (by omega)]
 exact this
def Ir (m:Int):Nat->Int
 |0=>0
 |k+1=>Ir m k+(15-F9 m k)
theorem I4 (m:Int):∀k,0<=Ir m k∧Ir m k<=15*k
 |0=>by simp [Ir]
 |k+1=>by
  have h1:=I4 m k;have h2:=P3 m k;simp only [Ir];omega
def NJ (m:Int):List Int:=(List.range 16).map (F9 m)++[Ir m 16 / 16,Ir m 16 % 16]
def dg (m:Int)(k:Nat):Int:=(NJ m).getD k 0
theorem Aay (m:Int):(NJ m).length=18:=rfl
theorem Aj7 {m x:Int}(h:x∈NJ m):0<=x∧x<=15:=by
 have hs:=I4 m 16;unfold NJ at h;rcases List.mem_append.1 h with h|h
 ·obtain ⟨k,_,rfl⟩:=List.mem_map.1 h;exact P3 m k
 ·simp at h;rcases h with rfl|rfl<;>omega
theorem V2 (m:Int)(k:Nat):0<=dg m k∧dg m k<=15:=by
 unfold dg;rw [List.getD_eq_getElem?_getD];cases h:(NJ m)[k]? with
 |none=>simp
 |some x=>exact Aj7 (List.mem_of_getElem? h)
def dl (m:Int)(i:Nat):List Int:=(List.range i).map (F9 m)++List.replicate (18-i) 0
theorem XS (m:Int){i:Nat}(h:i<=18):(dl m i).length=18:=by simp [dl];omega
theorem Ask (m:Int){i:Nat}(h:i<18):(dl m (i+1))[i]?=some (F9 m i):=by
 unfold dl;rw [List.getElem?_append_left (by simp)]
 simp
theorem Apt (m:Int){i:Nat}(h:i<18):(dl m i).set i (F9 m i)=dl m (i+1):=by
 unfold dl;rw [List.set_append_right _ _ (by simp),List.length_map,List.length_range,Nat.sub_self,show 18-i=(18-(i+1))+1 by omega,List.replicate_succ,List.set_cons_zero,List.range_succ,List.map_append,WY]
 rfl
def Qw (leaf chain:Int):Nat->Int->Int->Int
 |0,_,x=>x
 |k+1,p,x=>Qw leaf chain k (p+1) (Mw 1 (A4 [wrap .u64 leaf,wrap .u64 chain,wrap .u64 p,x]))
theorem WW (leaf chain:Int):∀(k j:Nat)(p x:Int),Qw leaf chain (k+j) p x=Qw leaf chain j (p+k) (Qw leaf chain k p x)
 |0,j,p,x=>by simp [Qw]
 |k+1,j,p,x=>by
  rw [show k+1+j=(k+j)+1 by omega]
  simp only [Qw];rw [WW leaf chain k j]
  congr 1
  omega
def Xf (leaf:Int)(E:List Int):Int:=Mw 2 (A4 (wrap .u64 leaf::E))
def ZR (leaf m:Int)(s:List Int)(k:Nat):Int:=Qw leaf k (15-dg m k).toNat (dg m k) (s.getD k 0)
def HH (leaf m:Int)(s:List Int):List Int:=(List.range 18).map (ZR leaf m s)
def Ac7 (leaf m:Int)(s:List Int):Int:=Xf leaf (HH leaf m s)
def el (leaf m:Int)(s:List Int)(i:Nat):List Int:=(List.range i).map (ZR leaf m s)++List.replicate (18-i) 0
theorem Af1 (leaf m:Int)(s:List Int){i:Nat}(h:i<=18):(el leaf m s i).length=18:=by simp [el];omega
theorem Aqs (leaf m:Int)(s:List Int){i:Nat}(h:i<18):(el leaf m s i).set i (ZR leaf m s i)=el leaf m s (i+1):=by
 unfold el;rw [List.set_append_right _ _ (by simp),List.length_map,List.length_range,Nat.sub_self,show 18-i=(18-(i+1))+1 by omega,List.replicate_succ,List.set_cons_zero,List.range_succ,List.map_append,WY]
 rfl
theorem Asz (leaf m:Int)(s:List Int):el leaf m s 18=HH leaf m s:=by
 unfold el HH;simp
end
section
open Go.IntKind (wrap)
set_option maxRecDepth 20000
section
variable {fu d:Nat} {xs:FuncId->Option (List PV->Option A0)}
theorem Agj {ws:List Int}(hl:ws.length<=100)(hfu:1000<=fu)(dom:Int):Ae (CX xs) Tryz.prog fu (d+5) Qs [.sc (.int .i64 dom),.lst false 1 (A4 ws).length (Af .u8 (A4 ws))]=some ⟨[.sc (.int .u64 (Mw dom (A4 ws)))],[]⟩:=
 Abb (Q6 ws) (by rw [Df];omega) (by omega) (by rw [Df];omega) dom
theorem TZ {leaf chain:Int}{a0 a1 a2 a3 a4:Int}(hfu:1000<=fu){t:Int}(ht:t<=15):∀(k nn:Nat)(p x:Int),(k:Int)=t-p->0<=p->k<nn ->
  Jq fu (Ae (CX xs) Tryz.prog fu (d+5)) a0 a1 a2 a3 a4 nn leaf chain x t p=some ⟨[.sc (.int .u64 (Qw leaf chain k p x))],[]⟩
 |_,0,_,_,_,_,h=>by omega
 |0,nn+1,p,x,hk,hp,hn=>by
  rw [Rq,Dr _ _ _ (by omega)]
  rfl
 |k+1,nn+1,p,x,hk,hp,hn=>by
  have w:wrap .i64 (p+1)=p+1:=Aj (by omega) (by omega)
  have wd:Ae (CX xs) Tryz.prog fu (d+5) Fe [.lst false 1 4 [.sc (.int .u64 (wrap .u64 leaf)),.sc (.int .u64 (wrap .u64 chain)),.sc (.int .u64 (wrap .u64 p)),.sc (.int .u64 x)]]=_:=Pa (ws:=[wrap .u64 leaf,wrap .u64 chain,wrap .u64 p,x]) (by simp) (by omega) (by simp;omega)
  have hs:=Agj (xs:=xs) (fu:=fu) (d:=d) (ws:=[wrap .u64 leaf,wrap .u64 chain,wrap .u64 p,x]) (by simp) hfu 1
  have ih:=TZ (leaf:=leaf) (chain:=chain) (a0:=a0) (a1:=a1) (a2:=a2) (a3:=a3) (a4:=a4) hfu ht k nn (p+1) (Mw 1 (A4 [wrap .u64 leaf,wrap .u64 chain,wrap .u64 p,x])) (by omega) (by omega) (by omega)
  have L:=Ak .u8 (A4 [wrap .u64 leaf,wrap .u64 chain,wrap .u64 p,x]);have eR:Qw leaf chain (k+1) p x=Qw leaf chain k (p+1) (Mw 1 (A4 [wrap .u64 leaf,wrap .u64 chain,wrap .u64 p,x])):=rfl;rw [eR];generalize A4 [wrap .u64 leaf,wrap .u64 chain,wrap .u64 p,x]=W at wd hs ih L ⊢;rw [Rq];simp (disch:=omega) only [Bz,wd,B8,Br,E6,J3,L,hs,w];exact ih
theorem Aam {leaf chain:Int}(hfu:1000<=fu)(k:Nat)(f t x:Int)(hk:(k:Int)=t-f) (h0:0<=f)(h1:t<=15):Ae (CX xs) Tryz.prog fu (d+6) Xe [.sc (.int .i64 leaf),.sc (.int .i64 chain),.sc (.int .i64 f),.sc (.int .i64 t),.sc (.int .u64 x)]=some ⟨[.sc (.int .u64 (Qw leaf chain k f x))],[]⟩:=by
 rw [MG];simp only [G6];rw [A6 (by omega),A6 (by omega)]
 exact TZ hfu h1 k fu f x hk h0 (by omega)
theorem FA {call:Ai}{a0 m:Int}{y3:List PV}:∀(k i nn:Nat),i+k=16->k<nn ->
  F3 fu call a0 nn m (Ir m i) i y3 (Af .i64 (dl m i))=F3 fu call a0 (nn-k) m (Ir m 16) 16 y3 (Af .i64 (dl m 16))
 |_,_,0,_,h=>by omega
 |0,i,nn+1,hi,hn=>by
  have e:i=16:=by omega
  subst e;rfl
 |k+1,i,nn+1,hi,hn=>by
  have ih:=FA (call:=call) (a0:=a0) (y3:=y3) (m:=m) k (i+1) nn (by omega) (by omega)
  have hb:=P3 m i;have hs:=I4 m i;have w:wrap .i64 ((i:Int)+1)=((i+1:Nat):Int):=by rw [Aj (by omega) (by omega)];omega
  have w4:wrap .i64 (4*(i:Int))=4*(i:Int):=Aj (by omega) (by omega)
  have w60:wrap .i64 (60-4*(i:Int))=60-4*(i:Int):=Aj (by omega) (by omega)
  have hd:wrap .i64 (Qx .u64 (D3 .u64 m (60-4*(i:Int))) 15)=F9 m i:=rfl;have w15:wrap .i64 (15-F9 m i)=15-F9 m i:=Aj (by omega) (by omega)
  have ws:wrap .i64 (Ir m i+(15-F9 m i))=Ir m (i+1):=by rw [Aj (by omega) (by omega)];rfl
  have L:(Af .i64 (dl m i)).length=18:=by rw [Ak,XS m (by omega)]
  have hset:Ba (Af .i64 (dl m i)) [.sc (.int .i64 (F9 m i))] i=Af .i64 (dl m (i+1)):=by
   rw [Ev (by omega),Jv,Apt m (by omega)]
  have hat:(Af .i64 (dl m (i+1))).getD i .top=.sc (.int .i64 (F9 m i)):=W5 (Ask m (by omega))
  rw [show nn+1-(k+1)=nn-k by omega,←ih,Na]
  simp (disch:=omega) only [Bz,He,B8,Br,w,w4,w60,hd,L,hset,hat,w15,ws]
theorem NT (hfu:1000<=fu)(m:Int):Ae (CX xs) Tryz.prog fu (d+1) Qz [.sc (.int .u64 m)]=some ⟨[.agg (Af .i64 (NJ m))],[]⟩:=by
 rw [CV];have lp:=FA (fu:=fu) (call:=Ae (CX xs) Tryz.prog fu d) (a0:=m) (m:=m) (y3:=Af .i64 (List.replicate 18 0)) 16 0 fu (by omega) (by omega)
 obtain ⟨f',hf'⟩:∃f',fu-16=f'+1:=⟨fu-17,by omega⟩
 rw [hf'] at lp;refine Eq.trans lp ?_;have hs:=I4 m 16
 have wq:wrap .i64 (Int.tdiv (Ir m 16) 16)=Ir m 16 / 16:=by
  rw [Int.tdiv_eq_ediv_of_nonneg (by omega),Aj (by omega) (by omega)]
 have wm:Int.tmod (Ir m 16) 16=Ir m 16 % 16:=Int.tmod_eq_emod_of_nonneg (by omega)
 have L:(Af .i64 (dl m 16)).length=18:=by rw [Ak,XS m (by omega)]
 have h1:Ba (Af .i64 (dl m 16)) [.sc (.int .i64 (Ir m 16 / 16))] 16=Af .i64 ((dl m 16).set 16 (Ir m 16 / 16)):=by
  rw [Ev (by omega),Jv]
 have L2:(Af .i64 ((dl m 16).set 16 (Ir m 16 / 16))).length=18:=by rw [Ak,List.length_set,XS m (by omega)]
 have h2:Ba (Af .i64 ((dl m 16).set 16 (Ir m 16 / 16))) [.sc (.int .i64 (Ir m 16 % 16))] 17=Af .i64 (NJ m):=by
  rw [Ev (by omega),Jv]
  rfl
 rw [Na,Dr _ _ _ (by omega)]
 simp only [G6,wq,wm,L,h1,L2,h2];generalize hq:Ir m 16 / 16=q at *
 generalize hr:Ir m 16 % 16=r at *
 have hD:Af .i64 (NJ m)=[.sc (.int .i64 (F9 m 0)),.sc (.int .i64 (F9 m 1)),.sc (.int .i64 (F9 m 2)),.sc (.int .i64 (F9 m 3)),.sc (.int .i64 (F9 m 4)),.sc (.int .i64 (F9 m 5)),.sc (.int .i64 (F9 m 6)),.sc (.int .i64 (F9 m 7)),.sc (.int .i64 (F9 m 8)),.sc (.int .i64 (F9 m 9)),.sc (.int .i64 (F9 m 10)),.sc (.int .i64 (F9 m 11)),.sc (.int .i64 (F9 m 12)),.sc (.int .i64 (F9 m 13)),.sc (.int .i64 (F9 m 14)),.sc (.int .i64 (F9 m 15)),.sc (.int .i64 q),.sc (.int .i64 r)]:=by
  unfold NJ;rw [hq,hr];rfl
 rw [hD];have hr18:(Af .i64 (List.replicate 18 0)).length=18:=rfl
 have hsp:∀c:List PV,c.length=18->Ba (Af .i64 (List.replicate 18 0)) c 0=c:=by
  intro c hc;unfold Ba;rw [hc,List.drop_of_length_le (by rw [hr18];omega)]
  simp
 rw [Wk (hnn:=by omega)]
 simp only [Bz,List.getD_cons_zero,List.getD_cons_succ,hr18];rw [hsp _ rfl];simp (disch:=omega) only [Bz,We,List.getD_cons_zero,List.getD_cons_succ]
theorem KQ (hfu:1000<=fu)(leaf:Int){E:List Int}(hE:E.length=18):Ae (CX xs) Tryz.prog fu (d+6) Pt [.sc (.int .i64 leaf),.agg (Af .u64 E)]=some ⟨[.sc (.int .u64 (Xf leaf E))],[]⟩:=by
 match E,hE with
 |[e0,e1,e2,e3,e4,e5,e6,e7,e8,e9,e10,e11,e12,e13,e14,e15,e16,e17],_=>
  have wd:Ae (CX xs) Tryz.prog fu (d+5) Fe [.lst false 1 19 [.sc (.int .u64 (wrap .u64 leaf)),.sc (.int .u64 e0),.sc (.int .u64 e1),.sc (.int .u64 e2),.sc (.int .u64 e3),.sc (.int .u64 e4),.sc (.int .u64 e5),.sc (.int .u64 e6),.sc (.int .u64 e7),.sc (.int .u64 e8),.sc (.int .u64 e9),.sc (.int .u64 e10),.sc (.int .u64 e11),.sc (.int .u64 e12),.sc (.int .u64 e13),.sc (.int .u64 e14),.sc (.int .u64 e15),.sc (.int .u64 e16),.sc (.int .u64 e17)]]=_:=Pa (ws:=wrap .u64 leaf::[e0,e1,e2,e3,e4,e5,e6,e7,e8,e9,e10,e11,e12,e13,e14,e15,e16,e17]) (by simp) (by omega) (by simp;omega)
  have hs:=Agj (xs:=xs) (fu:=fu) (d:=d) (ws:=wrap .u64 leaf::[e0,e1,e2,e3,e4,e5,e6,e7,e8,e9,e10,e11,e12,e13,e14,e15,e16,e17]) (by simp) hfu 2
  have L:=Ak .u8 (A4 (wrap .u64 leaf::[e0,e1,e2,e3,e4,e5,e6,e7,e8,e9,e10,e11,e12,e13,e14,e15,e16,e17]));have eR:Xf leaf [e0,e1,e2,e3,e4,e5,e6,e7,e8,e9,e10,e11,e12,e13,e14,e15,e16,e17]=Mw 2 (A4 (wrap .u64 leaf::[e0,e1,e2,e3,e4,e5,e6,e7,e8,e9,e10,e11,e12,e13,e14,e15,e16,e17])):=rfl;rw [eR];generalize A4 (wrap .u64 leaf::[e0,e1,e2,e3,e4,e5,e6,e7,e8,e9,e10,e11,e12,e13,e14,e15,e16,e17])=W at wd hs L ⊢;refine (AG fu (d+5) leaf e0 e1 e2 e3 e4 e5 e6 e7 e8 e9 e10 e11 e12 e13 e14 e15 e16 e17).trans ?_;simp (disch:=omega) only [Bz,wd,B8,Br,E6,J3,L,hs]
theorem Alq (g:Nat->Int){i:Nat}(hi:i<18):List.getD [PV.sc (.int .i64 (g 0)),PV.sc (.int .i64 (g 1)),PV.sc (.int .i64 (g 2)),PV.sc (.int .i64 (g 3)),PV.sc (.int .i64 (g 4)),PV.sc (.int .i64 (g 5)),PV.sc (.int .i64 (g 6)),PV.sc (.int .i64 (g 7)),PV.sc (.int .i64 (g 8)),PV.sc (.int .i64 (g 9)),PV.sc (.int .i64 (g 10)),PV.sc (.int .i64 (g 11)),PV.sc (.int .i64 (g 12)),PV.sc (.int .i64 (g 13)),PV.sc (.int .i64 (g 14)),PV.sc (.int .i64 (g 15)),PV.sc (.int .i64 (g 16)),PV.sc (.int .i64 (g 17))] i PV.top=.sc (.int .i64 (g i)):=by
 have:((List.range 18).map g)[i]?=some (g i):=by simp [hi]
 exact W5 (k:=.i64) this
theorem Zo {a0 a1:Int}{a2n:Nat}{a2:List PV}{leaf m:Int}{s:List Int}(hs:s.length=18)(hfu:1000<=fu)(g:Nat->Int)(hg:∀k,g k=dg m k):∀(k i nn:Nat),i+k=18->k<nn ->
  Ee fu (Ae (CX xs) Tryz.prog fu (d+6)) a0 a1 a2n a2 nn leaf s.length (Af .u64 s) (g 0) (g 1) (g 2) (g 3) (g 4) (g 5) (g 6) (g 7) (g 8) (g 9) (g 10) (g 11) (g 12) (g 13) (g 14) (g 15) (g 16) (g 17) i (Af .u64 (el leaf m s i)) =
   Ee fu (Ae (CX xs) Tryz.prog fu (d+6)) a0 a1 a2n a2 (nn-k) leaf s.length (Af .u64 s) (g 0) (g 1) (g 2) (g 3) (g 4) (g 5) (g 6) (g 7) (g 8) (g 9) (g 10) (g 11) (g 12) (g 13) (g 14) (g 15) (g 16) (g 17) 18 (Af .u64 (el leaf m s 18))
 |_,_,0,_,h=>by omega
 |0,i,nn+1,hi,hn=>by
  have e:i=18:=by omega
  subst e;rfl
 |k+1,i,nn+1,hi,hn=>by
  have ih:=Zo (a0:=a0) (a1:=a1) (a2n:=a2n) (a2:=a2) (leaf:=leaf) (m:=m) hs hfu g hg k (i+1) nn (by omega) (by omega)
  obtain ⟨x,hx⟩:∃x,s[i]?=some x:=⟨_,List.getElem?_eq_getElem (by omega)⟩
  have hb:=V2 m i;have hgi:=Alq g (i:=i) (by omega)
  have w:wrap .i64 ((i:Int)+1)=((i+1:Nat):Int):=by rw [Aj (by omega) (by omega)];omega
  have rn:=Aam (xs:=xs) (fu:=fu) (d:=d) (leaf:=leaf) (chain:=i) hfu (15-dg m i).toNat (g i) 15 x (by rw [hg];omega) (by rw [hg];omega) (by omega)
  have ev:Qw leaf i (15-dg m i).toNat (g i) x=ZR leaf m s i:=by
   unfold ZR;rw [List.getD_eq_getElem?_getD,hx,hg];rfl
  rw [ev] at rn;have L:(Af .u64 (el leaf m s i)).length=18:=by rw [Ak,Af1 leaf m s (by omega)]
  have hset:Ba (Af .u64 (el leaf m s i)) [.sc (.int .u64 (ZR leaf m s i))] i=Af .u64 (el leaf m s (i+1)):=by
   rw [Ev (by omega),Jv,Aqs leaf m s (by omega)]
  rw [show nn+1-(k+1)=nn-k by omega,←ih,Lr]
  simp (disch:=omega) only [Bz,He,B8,Br,hgi,W5 hx,rn,L,hset,w]
theorem VR (hfu:1000<=fu){a0 a1 leaf:Int}{a2n n nn:Nat}{a2 c:List PV}{g:Nat->Int}{E:List Int}(hE:E.length=18):
  Ee fu (Ae (CX xs) Tryz.prog fu (d+6)) a0 a1 a2n a2 (nn+1) leaf n c (g 0) (g 1) (g 2) (g 3) (g 4) (g 5) (g 6) (g 7) (g 8) (g 9) (g 10) (g 11) (g 12) (g 13) (g 14) (g 15) (g 16) (g 17) 18 (Af .u64 E)=some ⟨[.sc (.int .u64 (Xf leaf E)),.sc (.int .i64 0)],[]⟩:=by
 match E,hE with
 |[e0,e1,e2,e3,e4,e5,e6,e7,e8,e9,e10,e11,e12,e13,e14,e15,e16,e17],hE=>
  have cb:=KQ (xs:=xs) (fu:=fu) (d:=d) hfu leaf hE;have hc:Af .u64 [e0,e1,e2,e3,e4,e5,e6,e7,e8,e9,e10,e11,e12,e13,e14,e15,e16,e17]=[.sc (.int .u64 e0),.sc (.int .u64 e1),.sc (.int .u64 e2),.sc (.int .u64 e3),.sc (.int .u64 e4),.sc (.int .u64 e5),.sc (.int .u64 e6),.sc (.int .u64 e7),.sc (.int .u64 e8),.sc (.int .u64 e9),.sc (.int .u64 e10),.sc (.int .u64 e11),.sc (.int .u64 e12),.sc (.int .u64 e13),.sc (.int .u64 e14),.sc (.int .u64 e15),.sc (.int .u64 e16),.sc (.int .u64 e17)]:=rfl;rw [hc] at cb ⊢;generalize Xf leaf [e0,e1,e2,e3,e4,e5,e6,e7,e8,e9,e10,e11,e12,e13,e14,e15,e16,e17]=R at cb ⊢;rw [Lr,Dr _ _ _ (by omega)]
  simp (disch:=omega) only [Bz,Uo,Vl,List.getD_cons_zero,List.getD_cons_succ,cb]
theorem YP (hfu:1000<=fu)(leaf m:Int)(s:List Int):Ae (CX xs) Tryz.prog fu (d+7) Qk [.sc (.int .i64 leaf),.sc (.int .u64 m),.lst false 1 s.length (Af .u64 s)]=some ⟨(if s.length=18 then [.sc (.int .u64 (Ac7 leaf m s)),.sc (.int .i64 0)] else [.sc (.int .u64 0),.sc (.int .i64 4)]),[]⟩:=by
 rw [Zk];by_cases h:s.length=18
 ·have dq:=NT (xs:=xs) (fu:=fu) (d:=d+5) hfu m;have hD:Af .i64 (NJ m)=[.sc (.int .i64 (dg m 0)),.sc (.int .i64 (dg m 1)),.sc (.int .i64 (dg m 2)),.sc (.int .i64 (dg m 3)),.sc (.int .i64 (dg m 4)),.sc (.int .i64 (dg m 5)),.sc (.int .i64 (dg m 6)),.sc (.int .i64 (dg m 7)),.sc (.int .i64 (dg m 8)),.sc (.int .i64 (dg m 9)),.sc (.int .i64 (dg m 10)),.sc (.int .i64 (dg m 11)),.sc (.int .i64 (dg m 12)),.sc (.int .i64 (dg m 13)),.sc (.int .i64 (dg m 14)),.sc (.int .i64 (dg m 15)),.sc (.int .i64 (dg m 16)),.sc (.int .i64 (dg m 17))]:=rfl;rw [hD] at dq;simp only [Fq];rw [B4 h,B4 (by omega)]
  simp only [Bz,dq];have lp:=Zo (xs:=xs) (fu:=fu) (d:=d) (a0:=leaf) (a1:=m) (a2n:=s.length) (a2:=Af .u64 s) (leaf:=leaf) (m:=m) h hfu (dg m) (fun _=>rfl) 18 0 fu (by omega) (by omega)
  obtain ⟨f',hf'⟩:∃f',fu-18=f'+1:=⟨fu-19,by omega⟩
  rw [hf'] at lp;refine Eq.trans lp ?_;have eE:el leaf m s 18=HH leaf m s:=Asz leaf m s;have hl:(HH leaf m s).length=18:=by rw [←eE,Af1 leaf m s (by omega)]
  have eR:Ac7 leaf m s=Xf leaf (HH leaf m s):=rfl;rw [eE,eR];exact VR hfu hl
 ·simp only [Fq];rw [A6 h,A6 (by omega)]
end
end
section
open Go.IntKind (wrap)
structure Ky where
 h:Int
 root:Int
structure Sg where
 leaf:Int
 chains:List Int
 path:List Int
def Ky.cells (k:Ky):List PV:=[.sc (.int .i64 k.h),.sc (.int .u64 k.root)]
def Sg.cells (s:Sg):List PV:=[.sc (.int .i64 s.leaf),.lst false 1 s.chains.length (Af .u64 s.chains),.lst false 1 s.path.length (Af .u64 s.path)]
def De (h:Int):Bool:=decide (h<0)||decide (h>4)
def J6 (leaf h:Int):Bool:=decide (leaf<0)||decide (leaf>=G4 .i64 1 h)
def Lj (level a b:Int):Int:=Mw 3 (A4 [wrap .u64 level,a,b])
def Yp (leaf:Int):Nat->Int->List Int->Int
 |_,x,[]=>x
 |i,x,s::r=>Yp leaf (i+1) (if Qx .i64 (D3 .i64 leaf i) 1=0 then Lj ((i+1:Nat):Int) x s else Lj ((i+1:Nat):Int) s x) r
def okE (x root:Int):Int:=if x=root then 0 else 15
theorem YN (leaf:Int)(i:Nat)(x:Int):Yp leaf i x []=x:=rfl
theorem ES (leaf:Int)(i:Nat)(x s:Int)(r:List Int):Yp leaf i x (s::r)=Yp leaf (i+1) (if Qx .i64 (D3 .i64 leaf i) 1=0 then Lj ((i+1:Nat):Int) x s else Lj ((i+1:Nat):Int) s x) r:=rfl
def VD (k:Ky)(m:Int)(s:Sg):Int:=
 if De k.h=true then 9 else if J6 s.leaf k.h=true then 9 else if s.chains.length≠18 then 4 else if (s.path.length:Int)≠k.h then 4 else
 okE (Yp s.leaf 0 (Ac7 s.leaf m s.chains) s.path) k.root
theorem H0 {h:Int}(hh:De h=false):0<=h∧h<=4:=by
 unfold De at hh;simp at hh;omega
section
variable {fu d:Nat} {xs:FuncId->Option (List PV->Option A0)}
theorem S0 (h:Int):Ae (CX xs) Tryz.prog fu (d+1) Jk [.sc (.int .i64 h)]=some ⟨[.sc (.bool (De h))],[]⟩:=by
 rw [HT];unfold De;by_cases h0:h<0
 ·simp only [Bz,DB,h0,decide_true,Bool.true_or,if_true]
 ·simp only [Bz,DB,h0,decide_false,Bool.false_or,if_false]
theorem Pd (leaf h:Int)(h0:0<=h):Ae (CX xs) Tryz.prog fu (d+1) Hj [.sc (.int .i64 leaf),.sc (.int .i64 h)]=some ⟨[.sc (.bool (J6 leaf h))],[]⟩:=by
 rw [Zy];unfold J6;by_cases hl:leaf<0
 ·simp only [Bz,DB,hl,decide_true,Bool.true_or,if_true]
 ·simp (disch:=omega) only [Bz,DB,hl,decide_false,Bool.false_or,if_false]
theorem DS (hfu:1000<=fu)(level a b:Int):Ae (CX xs) Tryz.prog fu (d+6) Km [.sc (.int .i64 level),.sc (.int .u64 a),.sc (.int .u64 b)]=some ⟨[.sc (.int .u64 (Lj level a b))],[]⟩:=by
 have wd:Ae (CX xs) Tryz.prog fu (d+5) Fe [.lst false 1 3 [.sc (.int .u64 (wrap .u64 level)),.sc (.int .u64 a),.sc (.int .u64 b)]]=_:=Pa (ws:=[wrap .u64 level,a,b]) (by simp) (by omega) (by simp;omega)
 have hs:=Agj (xs:=xs) (fu:=fu) (d:=d) (ws:=[wrap .u64 level,a,b]) (by simp) hfu 3
 have L:=Ak .u8 (A4 [wrap .u64 level,a,b]);rw [CW];unfold Lj;generalize A4 [wrap .u64 level,a,b]=W at wd hs L ⊢;simp (disch:=omega) only [Bz,wd,B8,Br,E6,J3,L,hs]
theorem EM {a0 a1 a2 a3:Int}{n1 n2 n3 n4:Nat}{c1 c2 c3 c4:List PV}{y5 root leaf:Int}{path:List Int}(hp:path.length<=100)(hfu:1000<=fu):∀(r:List Int)(i nn:Nat)(x:Int),path.drop i=r->r.length<nn->i<=path.length ->
  Fw fu (Ae (CX xs) Tryz.prog fu (d+6)) a0 a1 a2 a3 n1 c1 n2 c2 nn x path.length (Af .u64 path) path.length i y5 root leaf n3 c3 n4 c4=some ⟨[.sc (.int .i64 (okE (Yp leaf i x r) root))],[]⟩
 |_,_,0,_,_,h,_=>by omega
 |[],i,nn+1,x,h,hn,hi=>by
  have:=drop_nil h;rw [M7,Dr _ _ _ (by omega),Fq]
  rw [YN];unfold okE;by_cases e:x=root
  ·rw [B4 e,B4 e]
  ·rw [A6 e,A6 e]
 |s::r,i,nn+1,x,h,hn,hi=>by
  obtain ⟨h1,h2,h3⟩:=Cs h;simp only [J2] at hn;have w:wrap .i64 ((i:Int)+1)=((i+1:Nat):Int):=by rw [Aj (by omega) (by omega)];omega
  have ih:=fun x=>EM (a0:=a0) (a1:=a1) (a2:=a2) (a3:=a3) (n1:=n1) (n2:=n2) (n3:=n3) (n4:=n4) (c1:=c1) (c2:=c2) (c3:=c3) (c4:=c4) (y5:=y5) (root:=root) (leaf:=leaf) hp hfu r (i+1) nn x h3 (by omega) (by omega)
  have p1:=DS (xs:=xs) (fu:=fu) (d:=d) hfu ((i+1:Nat):Int) x s;have p2:=DS (xs:=xs) (fu:=fu) (d:=d) hfu ((i+1:Nat):Int) s x;rw [M7,ES];by_cases hb:Qx .i64 (D3 .i64 leaf i) 1=0
  ·rw [B4 hb,←ih];simp (disch:=omega) only [Bz,He,B8,W5 h2,E9,hb,w,p1,if_true]
  ·rw [A6 hb,←ih];simp (disch:=omega) only [Bz,He,B8,W5 h2,E9,hb,w,p2,if_false]
theorem Ad0 (hfu:1000<=fu)(k:Ky)(m:Int)(s:Sg):Ae (CX xs) Tryz.prog fu (d+8) Rg [.agg k.cells,.sc (.int .u64 m),.agg s.cells]=some ⟨[.sc (.int .i64 (VD k m s))],[]⟩:=by
 refine (CI fu (d+7) k.h k.root m s.leaf s.chains.length (Af .u64 s.chains) s.path.length (Af .u64 s.path)).trans ?_;have h1:=S0 (xs:=xs) (fu:=fu) (d:=d+6) k.h;unfold VD;cases c1:De k.h
 ·rw [c1] at h1;have hb:=H0 c1;have h2:=Pd (xs:=xs) (fu:=fu) (d:=d+6) s.leaf k.h hb.1;cases c2:J6 s.leaf k.h
  ·rw [c2] at h2;by_cases c3:s.chains.length=18
   ·by_cases c4:(s.path.length:Int)=k.h
    ·have rc:=YP (xs:=xs) (fu:=fu) (d:=d) hfu s.leaf m s.chains;rw [B4 c3] at rc;have vl:=EM (xs:=xs) (fu:=fu) (d:=d+1) (a0:=k.h) (a1:=k.root) (a2:=m) (a3:=s.leaf) (n1:=s.chains.length) (n2:=s.path.length) (n3:=s.chains.length) (n4:=s.path.length) (c1:=Af .u64 s.chains) (c2:=Af .u64 s.path) (c3:=Af .u64 s.chains) (c4:=Af .u64 s.path) (y5:=k.h) (root:=k.root) (leaf:=s.leaf) (path:=s.path) (by omega) hfu s.path 0 fu (Ac7 s.leaf m s.chains) rfl (by omega) (by omega)
     rw [A6 (by simp),A6 (by simp),A6 (by omega),A6 (by omega),←vl]
     simp (disch:=omega) only [Bz,h1,h2,Fq,rc,if_true,c4];rw [B4 (by omega)]
     rfl
    ·rw [A6 (by simp),A6 (by simp),A6 (by omega),B4 c4]
     simp (disch:=omega) only [Bz,h1,h2,Fq,c4,if_false];rw [B4 (by omega)]
   ·rw [A6 (by simp),A6 (by simp),B4 c3]
    simp (disch:=omega) only [Bz,h1,h2,Fq];rw [A6 (by omega)]
  ·rw [c2] at h2;rw [A6 (by simp),B4 rfl]
   simp (disch:=omega) only [Bz,h1,h2]
 ·rw [c1] at h1;rw [B4 rfl];simp (disch:=omega) only [Bz,h1]
def Io (k:Ky):List Int:=wrap .u8 k.h::Dv k.root
def DD (s:Sg):List Int:=wrap .u8 s.leaf::wrap .u8 s.path.length::(A4 s.chains++A4 s.path)
theorem owd (hfu:1000<=fu)(w:Int):Ae (CX xs) Tryz.prog fu (d+1) Fe [.lst false 1 1 [.sc (.int .u64 w)]]=some ⟨[.own 1 8 (Af .u8 (Dv w))],[]⟩:=by
 have:=Pa (xs:=xs) (fu:=fu) (d:=d) (ws:=[w]) (by simp) (by omega) (by simp;omega)
 simp only [A4,List.flatMap_cons,List.flatMap_nil,List.append_nil,J2,Wh,Er] at this;exact this
theorem Adh (hfu:1000<=fu)(k:Ky):Ae (CX xs) Tryz.prog fu (d+2) M6 [.agg k.cells]=some ⟨(if De k.h=true then [.own 1 0 [],.sc (.int .i64 9)] else [.own 1 9 (Af .u8 (Io k)),.sc (.int .i64 0)]),[]⟩:=by
 refine (Wo fu (d+1) k.h k.root).trans ?_;have h1:=S0 (xs:=xs) (fu:=fu) (d:=d) k.h;have wd:=owd (xs:=xs) (fu:=fu) (d:=d) hfu k.root;have L:=Ak .u8 (Dv k.root);rw [Er] at L;have t8:List.take 8 (Af .u8 (Dv k.root))=Af .u8 (Dv k.root):=R9 (by omega)
 have t9:List.take 9 ([PV.sc (.int .u8 (wrap .u8 k.h))]++Af .u8 (Dv k.root))=Af .u8 (Io k):=by
  rw [R9 (by rw [Jz,L];simp)]
  rfl
 have L9:([PV.sc (.int .u8 (wrap .u8 k.h))]++Af .u8 (Dv k.root)).length=9:=by rw [Jz,L];rfl
 cases c1:De k.h
 ·rw [c1] at h1;rw [A6 (by simp)]
  simp (disch:=omega) only [Bz,h1,wd,B8,Br,E6,L,t8,Nat.reduceAdd,L9,t9]
 ·rw [c1] at h1;rw [B4 rfl];simp (disch:=omega) only [Bz,h1]
theorem Aex (hfu:1000<=fu)(s:Sg)(hp:s.path.length<=1000000000)(hf:s.path.length<fu):Ae (CX xs) Tryz.prog fu (d+2) H8 [.agg s.cells]=some ⟨(if De s.path.length=true then [.own 1 0 [],.sc (.int .i64 9)] else if J6 s.leaf s.path.length=true then [.own 1 0 [],.sc (.int .i64 9)] else if s.chains.length≠18 then [.own 1 0 [],.sc (.int .i64 4)] else [.own 1 (DD s).length (Af .u8 (DD s)),.sc (.int .i64 0)]),[]⟩:=by
 refine (Pn fu (d+1) s.leaf s.chains.length (Af .u64 s.chains) s.path.length (Af .u64 s.path)).trans ?_;have h1:=S0 (xs:=xs) (fu:=fu) (d:=d) s.path.length;cases c1:De s.path.length
 ·rw [c1] at h1;have hb:=H0 c1;have h2:=Pd (xs:=xs) (fu:=fu) (d:=d) s.leaf s.path.length hb.1;cases c2:J6 s.leaf s.path.length
  ·rw [c2] at h2;by_cases c3:s.chains.length=18
   ·have w1:=Pa (xs:=xs) (fu:=fu) (d:=d) (ws:=s.chains) (by omega) (by omega) (by omega)
    have w2:=Pa (xs:=xs) (fu:=fu) (d:=d) (ws:=s.path) (by omega) (by omega) (by omega)
    have l1:=Df s.chains;have l2:=Df s.path;have L1:=Ak .u8 (A4 s.chains);have L2:=Ak .u8 (A4 s.path)
    have eB:Af .u8 (DD s)=[PV.sc (.int .u8 (wrap .u8 s.leaf)),PV.sc (.int .u8 (wrap .u8 s.path.length))]++Af .u8 (A4 s.chains)++Af .u8 (A4 s.path):=by
     unfold DD;simp
    have eL:(DD s).length=2+(A4 s.chains).length+(A4 s.path).length:=by
     unfold DD;simp;omega
    rw [A6 (by simp),A6 (by simp),A6 (by omega),eB,eL]
    have t2:List.take (2+(A4 s.chains).length) ([PV.sc (.int .u8 (wrap .u8 s.leaf)),PV.sc (.int .u8 (wrap .u8 s.path.length))]++Af .u8 (A4 s.chains))=[PV.sc (.int .u8 (wrap .u8 s.leaf)),PV.sc (.int .u8 (wrap .u8 s.path.length))]++Af .u8 (A4 s.chains):=R9 (by rw [Jz,L1];simp)
    have t3:List.take (2+(A4 s.chains).length+(A4 s.path).length) ([PV.sc (.int .u8 (wrap .u8 s.leaf)),PV.sc (.int .u8 (wrap .u8 s.path.length))]++Af .u8 (A4 s.chains)++Af .u8 (A4 s.path))=[PV.sc (.int .u8 (wrap .u8 s.leaf)),PV.sc (.int .u8 (wrap .u8 s.path.length))]++Af .u8 (A4 s.chains)++Af .u8 (A4 s.path):=R9 (by rw [Jz,Jz,L1,L2];simp)
    have k2:([PV.sc (.int .u8 (wrap .u8 s.leaf)),PV.sc (.int .u8 (wrap .u8 s.path.length))]++Af .u8 (A4 s.chains)).length=2+(A4 s.chains).length:=by rw [Jz,L1];rfl
    have k3:([PV.sc (.int .u8 (wrap .u8 s.leaf)),PV.sc (.int .u8 (wrap .u8 s.path.length))]++Af .u8 (A4 s.chains)++Af .u8 (A4 s.path)).length=2+(A4 s.chains).length+(A4 s.path).length:=by rw [Jz,k2,L2]
    simp (disch:=omega) only [Bz,h1,h2,Fq,w1,w2,B8,Br,E6,L1,L2,J3,t2,t3,k2,k3];rw [B4 (by omega)]
   ·rw [A6 (by simp),A6 (by simp),B4 c3]
    simp (disch:=omega) only [Bz,h1,h2,Fq];rw [A6 (by omega)]
  ·rw [c2] at h2;rw [A6 (by simp),B4 rfl]
   simp (disch:=omega) only [Bz,h1,h2]
 ·rw [c1] at h1;rw [B4 rfl];simp (disch:=omega) only [Bz,h1]
def Qq (l:List Int)(i:Nat):Int:=IU ((l.drop (8*i)).take 8)
def Fi (l:List Int):List Int:=(List.range (l.length / 8)).map (Qq l)
def wl (l:List Int)(i:Nat):List Int:=(List.range i).map (Qq l)++List.replicate (l.length / 8-i) 0
theorem Ahs (l:List Int){i:Nat}(h:i<=l.length / 8):(wl l i).length=l.length / 8:=by simp [wl];omega
theorem Anb (l:List Int){i:Nat}(h:i<l.length / 8):(wl l i).set i (Qq l i)=wl l (i+1):=by
 unfold wl;rw [List.set_append_right _ _ (by simp),List.length_map,List.length_range,Nat.sub_self,show l.length / 8-i=(l.length / 8-(i+1))+1 by omega,List.replicate_succ,List.set_cons_zero,List.range_succ,List.map_append,WY]
 rfl
theorem Alc (l:List Int){i:Nat}(h:i<l.length / 8):(wl l i).set i 0=wl l i:=by
 unfold wl;rw [List.set_append_right _ _ (by simp),List.length_map,List.length_range,Nat.sub_self,show l.length / 8-i=(l.length / 8-(i+1))+1 by omega,List.replicate_succ,List.set_cons_zero]
theorem OB {n m0:Nat}{c:List PV}{l:List Int}(hl:l.length<=1000000){i:Nat}(hi:i<l.length / 8){q:List Int}(hq:q.length<=8):∀(r:List Int)(j nn:Nat)(x:Int),q.drop j=r->r.length<nn->j<=q.length ->
  H3 fu (Ae (CX xs) Tryz.prog fu d) n c m0 nn l.length (Af .u8 l) (l.length / 8) i ((l.length / 8:Nat):Int) i q.length (Af .u8 q) q.length j (Af .u64 ((wl l i).set i x)) =
   Gm fu (Ae (CX xs) Tryz.prog fu d) n c m0 l.length (Af .u8 l) (l.length / 8) ((l.length / 8:Nat):Int) ((i+1:Nat):Int) (Af .u64 ((wl l i).set i (r.foldl Fb x)))
 |_,_,0,_,_,h,_=>by omega
 |[],j,nn+1,x,h,hn,hj=>by
  have:=drop_nil h;have w:wrap .i64 ((i:Int)+1)=((i+1:Nat):Int):=by rw [Aj (by omega) (by omega)];omega
  rw [O9,Dr _ _ _ (by omega)]
  simp only [G6,w,List.foldl_nil]
 |b::r,j,nn+1,x,h,hn,hj=>by
  obtain ⟨h1,h2,h3⟩:=Cs h;simp only [J2] at hn;have w:wrap .i64 ((j:Int)+1)=((j+1:Nat):Int):=by rw [Aj (by omega) (by omega)];omega
  have L:(Af .u64 ((wl l i).set i x)).length=l.length / 8:=by rw [Ak,List.length_set,Ahs l (by omega)]
  have hat:(Af .u64 ((wl l i).set i x)).getD i .top=.sc (.int .u64 x):=W5 (by rw [List.getElem?_set_self (by rw [Ahs l (by omega)];omega)])
  have hset:Ba (Af .u64 ((wl l i).set i x)) [.sc (.int .u64 (Fb x b))] i=Af .u64 ((wl l i).set i (Fb x b)):=by
   rw [Ev (by omega),Jv,List.set_set]
  have ih:=OB (n:=n) (m0:=m0) (c:=c) hl hi hq r (j+1) nn (Fb x b) h3 (by omega) (by omega)
  rw [List.foldl_cons,←ih,O9];simp (disch:=omega) only [Bz,He,B8,Br,W5 h2,hat,L,w];exact congrArg _ hset
theorem EI {n:Nat}{c:List PV}{l:List Int}(hl:l.length<=1000000)(hfu:100<=fu):∀(k i nn:Nat),i+k=l.length / 8->k<nn ->
  Gm fu (Ae (CX xs) Tryz.prog fu d) n c nn l.length (Af .u8 l) (l.length / 8) ((l.length / 8:Nat):Int) i (Af .u64 (wl l i))=some ⟨[.own 1 (l.length / 8) (Af .u64 (Fi l))],[]⟩
 |_,_,0,_,h=>by omega
 |0,i,nn+1,hi,hn=>by
  have e:i=l.length / 8:=by omega
  subst e;have e2:wl l (l.length / 8)=Fi l:=by unfold wl Fi;simp
  have L:(Af .u64 (Fi l)).length=l.length / 8:=by rw [Ak];simp [Fi]
  have tk:List.take (l.length / 8) (Af .u64 (Fi l))=Af .u64 (Fi l):=R9 (by omega)
  rw [Oe,Dr _ _ _ (by omega),e2]
  simp (disch:=omega) only [Bz,B8,L,tk]
 |k+1,i,nn+1,hi,hn=>by
  have ih:=EI (n:=n) (c:=c) hl hfu k (i+1) nn (by omega) (by omega)
  have w8:wrap .i64 (8*(i:Int))=((8*i:Nat):Int):=by rw [Aj (by omega) (by omega)];omega
  have w88:wrap .i64 (((8*i:Nat):Int)+8)=((8*i+8:Nat):Int):=by rw [Aj (by omega) (by omega)];omega
  have e8:8*i+8-8*i=8:=by omega
  have hdl:((l.drop (8*i)).take 8).length=8:=by rw [List.length_take,List.length_drop];omega
  have st:=OB (xs:=xs) (fu:=fu) (d:=d) (n:=n) (m0:=nn) (c:=c) hl (i:=i) (by omega) (q:=(l.drop (8*i)).take 8) (by omega) ((l.drop (8*i)).take 8) 0 fu 0 rfl (by omega) (by omega)
  rw [Alc l (by omega),hdl] at st
  have ew:((l.drop (8*i)).take 8).foldl Fb 0=Qq l i:=rfl;rw [ew,Anb l (by omega),ih] at st
  rw [Oe];simp (disch:=omega) only [Bz,He,B8,w8,w88,e8,H1,Nx];exact st
theorem JU (n:Nat):Q4 n [.sc (.int .u64 0)]=Af .u64 (List.replicate n 0):=by
 induction n with
 |zero=>rfl
 |succ n ih=>
  show ([PV.sc (.int .u64 0)]::List.replicate n [PV.sc (.int .u64 0)]).flatten=_;rw [List.flatten_cons,List.replicate_succ];show _++Q4 n [.sc (.int .u64 0)]=PV.sc (.int .u64 0)::Af .u64 (List.replicate n 0);rw [ih];rfl
theorem CJ {l:List Int}(hl:l.length<=1000000)(hfu:100<=fu)(hf:l.length<fu):Ae (CX xs) Tryz.prog fu (d+1) Td [.lst false 1 l.length (Af .u8 l)]=some ⟨[.own 1 (l.length / 8) (Af .u64 (Fi l))],[]⟩:=by
 rw [GB]
 have w:wrap .i64 (Int.tdiv (l.length:Int) 8)=((l.length / 8:Nat):Int):=by
  rw [Int.tdiv_eq_ediv_of_nonneg (by omega),Aj (by omega) (by omega)]
  omega
 have lp:=EI (xs:=xs) (fu:=fu) (d:=d) (n:=l.length) (c:=Af .u8 l) hl hfu (l.length / 8) 0 fu (by omega) (by omega)
 have e0:wl l 0=List.replicate (l.length / 8) 0:=by unfold wl;simp
 rw [e0] at lp;simp (disch:=omega) only [Bz,w,He,JU,Int.le_refl];exact lp
def JA (l:List Int):Option Ky:=if l.length=9∧De (l.getD 0 0)=false then some ⟨l.getD 0 0,Qq (l.drop 1) 0⟩ else none
def YM (o:Option Ky):List PV:=match o with|some k=>[.agg k.cells,.sc (.int .i64 0)]|none=>[.agg (Ky.mk 0 0).cells,.sc (.int .i64 2)]
theorem Acf (hfu:1000<=fu){l:List Int}(hb:Jy l):Ae (CX xs) Tryz.prog fu (d+2) M1 [.lst false 1 l.length (Af .u8 l)]=some ⟨YM (JA l),[]⟩:=by
 refine (Wq fu (d+1) l.length (Af .u8 l)).trans ?_;unfold JA;by_cases h9:l.length=9
 ·obtain ⟨x,hx⟩:∃x,l[0]?=some x:=⟨_,List.getElem?_eq_getElem (by omega)⟩
  have hxb:=hb x (List.mem_of_getElem? hx);have wx:wrap .i64 x=x:=Aj (by omega) (by omega)
  have gx:l.getD 0 0=x:=by rw [List.getD_eq_getElem?_getD,hx];rfl
  have h1:=S0 (xs:=xs) (fu:=fu) (d:=d) x;rw [gx];cases c1:De x
  ·rw [c1] at h1;have hdl:(l.drop 1).length=8:=by rw [List.length_drop];omega
   have dw:=CJ (xs:=xs) (fu:=fu) (d:=d) (l:=l.drop 1) (by omega) (by omega) (by omega)
   rw [hdl] at dw;have hat:(Af .u64 (Fi (l.drop 1))).getD 0 .top=.sc (.int .u64 (Qq (l.drop 1) 0)):=W5 (by unfold Fi;rw [hdl];rfl)
   have e8:9-1=8:=rfl;have tk:List.take 8 (Af .u8 (l.drop 1))=Af .u8 (l.drop 1):=R9 (by rw [Ak];omega)
   rw [B4 ⟨h9,rfl⟩,h9];simp (disch:=omega) only [Bz,Fq,W5 hx,wx,h1,B8,H1,e8,tk,dw,hat];rfl
  ·rw [c1] at h1;rw [A6 (by simp),h9]
   simp (disch:=omega) only [Bz,Fq,W5 hx,wx,h1];rfl
 ·rw [A6 (by simp [h9])]
  simp (disch:=omega) only [Fq];rw [A6 (by omega)]
  rfl
def sgD (l:List Int):Option Sg:=
 if 2<=l.length∧De (l.getD 1 0)=false∧J6 (l.getD 0 0) (l.getD 1 0)=false∧(l.length:Int)=2+8*(18+l.getD 1 0) then some ⟨l.getD 0 0,Fi ((l.drop 2).take 144),Fi (l.drop 146)⟩ else none
def Sg.owned (s:Sg):List PV:=[.sc (.int .i64 s.leaf),.own 1 s.chains.length (Af .u64 s.chains),.own 1 s.path.length (Af .u64 s.path)]
def Abj (o:Option Sg):List PV:=match o with|some s=>[.agg s.owned,.sc (.int .i64 0)]|none=>[.agg (Sg.mk 0 [] []).owned,.sc (.int .i64 2)]
theorem Oi (l:List Int):(Fi l).length=l.length / 8:=by simp [Fi]
theorem Acl (hfu:1000<=fu){l:List Int}(hb:Jy l):Ae (CX xs) Tryz.prog fu (d+2) H7 [.lst false 1 l.length (Af .u8 l)]=some ⟨Abj (sgD l),[]⟩:=by
 refine (Pk fu (d+1) l.length (Af .u8 l)).trans ?_;unfold sgD;by_cases h2:2<=l.length
 ·obtain ⟨x,hx⟩:∃x,l[0]?=some x:=⟨_,List.getElem?_eq_getElem (by omega)⟩
  obtain ⟨y,hy⟩:∃y,l[1]?=some y:=⟨_,List.getElem?_eq_getElem (by omega)⟩
  have hxb:=hb x (List.mem_of_getElem? hx);have hyb:=hb y (List.mem_of_getElem? hy);have wx:wrap .i64 x=x:=Aj (by omega) (by omega)
  have wy:wrap .i64 y=y:=Aj (by omega) (by omega)
  have gx:l.getD 0 0=x:=by rw [List.getD_eq_getElem?_getD,hx];rfl
  have gy:l.getD 1 0=y:=by rw [List.getD_eq_getElem?_getD,hy];rfl
  have h1:=S0 (xs:=xs) (fu:=fu) (d:=d) y;have ho:=Pd (xs:=xs) (fu:=fu) (d:=d) x y (by omega)
  have w1:wrap .i64 (18+y)=18+y:=Aj (by omega) (by omega)
  have w2:wrap .i64 (8*(18+y))=8*(18+y):=Aj (by omega) (by omega)
  have w3:wrap .i64 (2+8*(18+y))=2+8*(18+y):=Aj (by omega) (by omega)
  rw [gx,gy];cases c1:De y
  ·rw [c1] at h1;cases c2:J6 x y
   ·rw [c2] at ho;by_cases c3:(l.length:Int)=2+8*(18+y)
    ·have hy4:=H0 c1;have d1:=CJ (xs:=xs) (fu:=fu) (d:=d) (l:=(l.drop 2).take 144) (by rw [List.length_take,List.length_drop];omega) (by omega) (by rw [List.length_take,List.length_drop];omega)
     have d2:=CJ (xs:=xs) (fu:=fu) (d:=d) (l:=l.drop 146) (by rw [List.length_drop];omega) (by omega) (by rw [List.length_drop];omega)
     have l1:((l.drop 2).take 144).length=144:=by rw [List.length_take,List.length_drop];omega
     have l2:(l.drop 146).length=l.length-146:=List.length_drop;rw [l1] at d1;have L1:(Af .u64 (Fi ((l.drop 2).take 144))).length=18:=by rw [Ak,Oi,l1]
     have L2:(Af .u64 (Fi (l.drop 146))).length=(l.length-146) / 8:=by rw [Ak,Oi,l2]
     rw [l2] at d2;have t1:List.take (144 / 8) (Af .u64 (Fi ((l.drop 2).take 144)))=Af .u64 (Fi ((l.drop 2).take 144)):=R9 (by omega)
     have t2:List.take ((l.length-146) / 8) (Af .u64 (Fi (l.drop 146)))=Af .u64 (Fi (l.drop 146)):=R9 (by omega)
     have t3:List.take (l.length-146) (l.drop 146)=l.drop 146:=R9 (by omega)
     rw [B4 ⟨h2,rfl,rfl,c3⟩];simp (disch:=omega) only [Bz,Fq,W5 hx,W5 hy,wx,wy,h1,ho,w1,w2,w3,B8,H1,Nx,d1,d2,t3,L1,L2,t1,t2];rw [B4 c3];simp only [Abj,Sg.owned,Oi,l1,l2]
    ·rw [A6 (by simp [c3])]
     simp (disch:=omega) only [Bz,Fq,W5 hx,W5 hy,wx,wy,h1,ho,w1,w2,w3];rw [A6 c3];rfl
   ·rw [c2] at ho;rw [A6 (by simp)]
    simp (disch:=omega) only [Bz,Fq,W5 hx,W5 hy,wx,wy,h1,ho];rfl
  ·rw [c1] at h1;rw [A6 (by simp)]
   simp (disch:=omega) only [Bz,Fq,W5 hx,W5 hy,wx,wy,h1];rfl
 ·rw [A6 (by simp [h2])]
  simp (disch:=omega) only [Bz];rfl
end
end
section
open Go.IntKind (wrap)
def CP (seed leaf chain:Int):Int:=Akt seed 1 (A4 [wrap .u64 leaf,wrap .u64 chain])
def Wc (seed leaf:Int)(c:Nat):Int:=Qw leaf c 15 0 (CP seed leaf c)
def Hs (seed leaf:Int):Int:=Xf leaf ((List.range 18).map (Wc seed leaf))
def Us (seed leaf m:Int)(c:Nat):Int:=Qw leaf c (dg m c).toNat 0 (CP seed leaf c)
def Ih (seed leaf m:Int):List Int:=(List.range 18).map (Us seed leaf m)
def Bv (seed:Int):Nat->Int->Int
 |0,i=>Hs seed i
 |l+1,i=>Lj ((l+1:Nat):Int) (Bv seed l (2*i)) (Bv seed l (2*i+1))
def Gq (seed:Int)(h:Int):Ky:=if De h=true then ⟨0,0⟩ else ⟨h,Bv seed h.toNat 0⟩
def Fj (leaf:Int)(k:Nat):Int:=Dw .i64 (D3 .i64 leaf k) 1
def Y5 (seed:Int)(h leaf m:Int):Option Sg:=if De h=true then none else if J6 leaf h=true then none else some ⟨leaf,Ih seed leaf m,(List.range h.toNat).map fun k=>Bv seed k (Fj leaf k)⟩
def RE (o:Option Sg):List PV:=match o with|some s=>[.agg s.owned,.sc (.int .i64 0)]|none=>[.agg (Sg.mk 0 [] []).owned,.sc (.int .i64 9)]
end
section
open Go.IntKind (wrap)
set_option maxRecDepth 20000
section
variable {fu d:Nat} {xs:FuncId->Option (List PV->Option A0)}
theorem An2 {l:List Int}(hb:Jy l)(hl:l.length<=1099511627776)(hfu:100<=fu)(hf:l.length<fu)(key dom:Int):Ae (CX xs) Tryz.prog fu (d+5) AA [.sc (.int .u64 key),.sc (.int .i64 dom),.lst false 1 l.length (Af .u8 l)]=some ⟨[.sc (.int .u64 (Akt key dom l))],[]⟩:=by
 rw [RR];have s:=Af8 (xs:=xs) (fu:=fu) (d:=d) hb hl hfu hf key (wrap .u64 (1+wrap .u64 dom));simp only [Bz,s];rfl
theorem PO (hfu:1000<=fu)(seed leaf chain:Int):Ae (CX xs) Tryz.prog fu (d+6) Q0 [.sc (.int .u64 seed),.sc (.int .i64 leaf),.sc (.int .i64 chain)]=some ⟨[.sc (.int .u64 (CP seed leaf chain))],[]⟩:=by
 have wd:Ae (CX xs) Tryz.prog fu (d+5) Fe [.lst false 1 2 [.sc (.int .u64 (wrap .u64 leaf)),.sc (.int .u64 (wrap .u64 chain))]]=_:=Pa (ws:=[wrap .u64 leaf,wrap .u64 chain]) (by simp) (by omega) (by simp;omega)
 have hs:=An2 (xs:=xs) (fu:=fu) (d:=d) (Q6 [wrap .u64 leaf,wrap .u64 chain]) (by rw [Df];simp) (by omega) (by rw [Df];simp;omega) seed 1
 have L:=Ak .u8 (A4 [wrap .u64 leaf,wrap .u64 chain]);rw [DY];unfold CP;generalize A4 [wrap .u64 leaf,wrap .u64 chain]=W at wd hs L ⊢;simp (disch:=omega) only [Bz,wd,B8,Br,E6,J3,L,hs]
def pl (g:Nat->Int)(i:Nat):List Int:=(List.range i).map g++List.replicate (18-i) 0
theorem Aak (g:Nat->Int){i:Nat}(h:i<=18):(pl g i).length=18:=by simp [pl];omega
theorem Ags (g:Nat->Int){i:Nat}(h:i<18):(pl g i).set i (g i)=pl g (i+1):=by
 unfold pl;rw [List.set_append_right _ _ (by simp),List.length_map,List.length_range,Nat.sub_self,show 18-i=(18-(i+1))+1 by omega,List.replicate_succ,List.set_cons_zero,List.range_succ,List.map_append,WY]
 rfl
theorem Amb (g:Nat->Int):pl g 18=(List.range 18).map g:=by simp [pl]
theorem FH {a0 a1 seed leaf:Int}(hfu:1000<=fu):∀(k i nn:Nat),i+k=18->k<nn ->
  Es fu (Ae (CX xs) Tryz.prog fu (d+6)) a0 a1 nn seed leaf i (Af .u64 (pl (Wc seed leaf) i))=Es fu (Ae (CX xs) Tryz.prog fu (d+6)) a0 a1 (nn-k) seed leaf 18 (Af .u64 (pl (Wc seed leaf) 18))
 |_,_,0,_,h=>by omega
 |0,i,nn+1,hi,hn=>by
  have e:i=18:=by omega
  subst e;rfl
 |k+1,i,nn+1,hi,hn=>by
  have ih:=FH (a0:=a0) (a1:=a1) (seed:=seed) (leaf:=leaf) hfu k (i+1) nn (by omega) (by omega)
  have w:wrap .i64 ((i:Int)+1)=((i+1:Nat):Int):=by rw [Aj (by omega) (by omega)];omega
  have sc:=PO (xs:=xs) (fu:=fu) (d:=d) hfu seed leaf i;have rn:=Aam (xs:=xs) (fu:=fu) (d:=d) (leaf:=leaf) (chain:=i) hfu 15 0 15 (CP seed leaf i) (by omega) (by omega) (by omega)
  have ev:Qw leaf i 15 0 (CP seed leaf i)=Wc seed leaf i:=rfl;rw [ev] at rn;have L:(Af .u64 (pl (Wc seed leaf) i)).length=18:=by rw [Ak,Aak _ (by omega)]
  have hset:Ba (Af .u64 (pl (Wc seed leaf) i)) [.sc (.int .u64 (Wc seed leaf i))] i=Af .u64 (pl (Wc seed leaf) (i+1)):=by
   rw [Ev (by omega),Jv,Ags _ (by omega)]
  rw [show nn+1-(k+1)=nn-k by omega,←ih,M8]
  simp (disch:=omega) only [Bz,He,B8,Br,sc,rn,L,hset,w]
theorem YU (hfu:1000<=fu){a0 a1 seed leaf:Int}{nn:Nat}{E:List Int}(hE:E.length=18):
  Es fu (Ae (CX xs) Tryz.prog fu (d+6)) a0 a1 (nn+1) seed leaf 18 (Af .u64 E)=some ⟨[.sc (.int .u64 (Xf leaf E))],[]⟩:=by
 match E,hE with
 |[e0,e1,e2,e3,e4,e5,e6,e7,e8,e9,e10,e11,e12,e13,e14,e15,e16,e17],hE=>
  have cb:=KQ (xs:=xs) (fu:=fu) (d:=d) hfu leaf hE;have hc:Af .u64 [e0,e1,e2,e3,e4,e5,e6,e7,e8,e9,e10,e11,e12,e13,e14,e15,e16,e17]=[.sc (.int .u64 e0),.sc (.int .u64 e1),.sc (.int .u64 e2),.sc (.int .u64 e3),.sc (.int .u64 e4),.sc (.int .u64 e5),.sc (.int .u64 e6),.sc (.int .u64 e7),.sc (.int .u64 e8),.sc (.int .u64 e9),.sc (.int .u64 e10),.sc (.int .u64 e11),.sc (.int .u64 e12),.sc (.int .u64 e13),.sc (.int .u64 e14),.sc (.int .u64 e15),.sc (.int .u64 e16),.sc (.int .u64 e17)]:=rfl;rw [hc] at cb ⊢;generalize Xf leaf [e0,e1,e2,e3,e4,e5,e6,e7,e8,e9,e10,e11,e12,e13,e14,e15,e16,e17]=R at cb ⊢;rw [M8,Dr _ _ _ (by omega)]
  simp (disch:=omega) only [Bz,Wr,Wj,List.getD_cons_zero,List.getD_cons_succ,cb]
theorem Ac6 (hfu:1000<=fu)(seed leaf:Int):Ae (CX xs) Tryz.prog fu (d+7) Ku [.sc (.int .u64 seed),.sc (.int .i64 leaf)]=some ⟨[.sc (.int .u64 (Hs seed leaf))],[]⟩:=by
 rw [CA];have lp:=FH (xs:=xs) (fu:=fu) (d:=d) (a0:=seed) (a1:=leaf) (seed:=seed) (leaf:=leaf) hfu 18 0 fu (by omega) (by omega)
 obtain ⟨f',hf'⟩:∃f',fu-18=f'+1:=⟨fu-19,by omega⟩
 rw [hf'] at lp;refine Eq.trans lp ?_;rw [Amb];exact YU hfu (by simp)
theorem NG {a0 a1 a2:Int}{seed leaf m:Int}(hfu:1000<=fu)(g:Nat->Int)(hg:∀k,g k=dg m k):∀(k i nn:Nat),i+k=18->k<nn ->
  Im fu (Ae (CX xs) Tryz.prog fu (d+6)) a0 a1 a2 nn seed leaf (g 0) (g 1) (g 2) (g 3) (g 4) (g 5) (g 6) (g 7) (g 8) (g 9) (g 10) (g 11) (g 12) (g 13) (g 14) (g 15) (g 16) (g 17) i (Af .u64 (pl (Us seed leaf m) i)) =
   some ⟨[.own 1 18 (Af .u64 (Ih seed leaf m))],[]⟩
 |_,_,0,_,h=>by omega
 |0,i,nn+1,hi,hn=>by
  have e:i=18:=by omega
  subst e;have L:(Af .u64 (pl (Us seed leaf m) 18)).length=18:=by rw [Ak,Aak _ (by omega)]
  have T:List.take 18 (Af .u64 (pl (Us seed leaf m) 18))=Af .u64 (Ih seed leaf m):=by rw [R9 (by omega),Amb];rfl
  rw [Pz,Dr _ _ _ (by omega)]
  simp (disch:=omega) only [Bz,L,T]
 |k+1,i,nn+1,hi,hn=>by
  have ih:=NG (a0:=a0) (a1:=a1) (a2:=a2) (seed:=seed) (leaf:=leaf) (m:=m) hfu g hg k (i+1) nn (by omega) (by omega)
  have hb:=V2 m i;have hgi:=Alq g (i:=i) (by omega)
  have w:wrap .i64 ((i:Int)+1)=((i+1:Nat):Int):=by rw [Aj (by omega) (by omega)];omega
  have sc:=PO (xs:=xs) (fu:=fu) (d:=d) hfu seed leaf i;have rn:=Aam (xs:=xs) (fu:=fu) (d:=d) (leaf:=leaf) (chain:=i) hfu (dg m i).toNat 0 (g i) (CP seed leaf i) (by rw [hg];omega) (by omega) (by rw [hg];omega)
  have ev:Qw leaf i (dg m i).toNat 0 (CP seed leaf i)=Us seed leaf m i:=rfl;rw [ev] at rn;have L:(Af .u64 (pl (Us seed leaf m) i)).length=18:=by rw [Ak,Aak _ (by omega)]
  have hset:Ba (Af .u64 (pl (Us seed leaf m) i)) [.sc (.int .u64 (Us seed leaf m i))] i=Af .u64 (pl (Us seed leaf m) (i+1)):=by
   rw [Ev (by omega),Jv,Ags _ (by omega)]
  rw [Pz];simp (disch:=omega) only [Bz,He,B8,Br,hgi,sc,rn,L,hset,w];exact ih
theorem Ak0 (hfu:1000<=fu)(seed leaf m:Int):Ae (CX xs) Tryz.prog fu (d+7) Oa [.sc (.int .u64 seed),.sc (.int .i64 leaf),.sc (.int .u64 m)]=some ⟨[.own 1 18 (Af .u64 (Ih seed leaf m))],[]⟩:=by
 rw [LM];have dq:=NT (xs:=xs) (fu:=fu) (d:=d+5) hfu m;have hD:Af .i64 (NJ m)=[.sc (.int .i64 (dg m 0)),.sc (.int .i64 (dg m 1)),.sc (.int .i64 (dg m 2)),.sc (.int .i64 (dg m 3)),.sc (.int .i64 (dg m 4)),.sc (.int .i64 (dg m 5)),.sc (.int .i64 (dg m 6)),.sc (.int .i64 (dg m 7)),.sc (.int .i64 (dg m 8)),.sc (.int .i64 (dg m 9)),.sc (.int .i64 (dg m 10)),.sc (.int .i64 (dg m 11)),.sc (.int .i64 (dg m 12)),.sc (.int .i64 (dg m 13)),.sc (.int .i64 (dg m 14)),.sc (.int .i64 (dg m 15)),.sc (.int .i64 (dg m 16)),.sc (.int .i64 (dg m 17))]:=rfl;rw [hD] at dq;simp only [Bz,dq];exact NG (fu:=fu) (d:=d) (a0:=seed) (a1:=leaf) (a2:=m) hfu (dg m) (fun _=>rfl) 18 0 fu (by omega) (by omega)
end
end
section
open Go.IntKind (wrap)
def LG (h leaf:Int):Bool:=De h||J6 leaf h
def tkL (h leaf:Int):Int:=if LG h leaf=true then 0 else leaf
def tkC (seed h leaf m:Int):List Int:=if LG h leaf=true then [] else Ih seed leaf m
def tkP (seed h leaf:Int):List Int:=if LG h leaf=true then [] else (List.range h.toNat).map fun k=>Bv seed k (Fj leaf k)
def tkE (h leaf:Int):Int:=if LG h leaf=true then 9 else 0
def Ap8 (args:List PV):Option A0:=
 match args with
 |[.sc (.int .u64 seed),.sc (.int .i64 h),.sc (.int .i64 leaf),.sc (.int .u64 m)]=>
  some ⟨[.agg [.sc (.int .i64 (tkL h leaf)),.lst false 1 (tkC seed h leaf m).length (Af .u64 (tkC seed h leaf m)),.lst false 1 (tkP seed h leaf).length (Af .u64 (tkP seed h leaf))],.sc (.int .i64 (tkE h leaf))],[]⟩
 |_=>none
def J9 (f:FuncId):Option (List PV->Option A0):=
 bif Nat.beq f 56 then some HX else
 bif Nat.beq f 133 then some U8 else
 bif Nat.beq f 37 then some Ap8 else
 bif Nat.beq f 1000000 then some (fun _=>none) else none
abbrev C0:Hb:=CX J9
end
section
open Go.IntKind (wrap)
set_option maxRecDepth 100000
abbrev Mf:FuncId:=38
theorem Vc (fu d:Nat)(a0:Int):Ae C0 Tryz.prog fu (d+1) Mf [.sc (.int .i64 a0)]=(fun (call:Ai)=>Bc (decide (a0>=0)) (some (A0.mk [.sc (.bool (decide (a0<=4)))] [])) (some (A0.mk [.sc (.bool false)] []))) (Ae C0 Tryz.prog fu d):=by kernel_rfl
abbrev M9:FuncId:=95
noncomputable def F2 (fu:Nat)(call:Ai)(a0:Int)(nn:Nat)(y0:Int)(y1:Nat)(y2 y3:Int)(y4:List PV):Option A0:=C5 CB Tryz.prog fu call 95 Tryz.f95 (Bw Tryz.f95) [.sc (.int .u64 a0)] [.r,.r,.r,.l,.r,.l] nn ⟨lk [(0,(.sc (.int .u64 y0))),(3,(.view 3 1 0 y1)),(4,(.sc (.int .i64 y2))),(5,(.sc (.int .i64 y3)))],B5 [(3,(.ar false y4))]⟩
theorem Js (fu:Nat)(call:Ai)(a0:Int)(nn:Nat)(y0:Int)(y1:Nat)(y2 y3:Int)(y4:List PV):F2 fu call a0 (nn+1) y0 y1 y2 y3 y4=(Bc (decide (y3>=0)) (Aa (wrap .i64 (4*y3)) fun x1=>Aa (wrap .u64 x1) fun x2=>Ap (decide (0<=x2))<|Aa (D3 .u64 y0 x2) fun x3=>Aa (Qx .u64 x3 15) fun x4=>Aa (wrap .i64 x4) fun x5=>Ap (decide (y1*1<=y4.length)&&true&&decide ((y1+1)*8<=1099511627776)&&decide (y1+1<=1099511627776))<|Aa (y1+1) fun x6=>Aa (List.take (y1*1) y4++[.sc (.int .i64 x5)]) fun x7=>Aa (wrap .i64 (15-x5)) fun x8=>Aa (wrap .i64 (y2+x8)) fun x9=>Aa (wrap .i64 (y3-1)) fun Cm=>F2 fu call a0 (nn) (y0) x6 x9 Cm x7) (Aa (wrap .i64 (Int.tdiv y2 16)) fun C3=>Aa (Int.tmod y2 16) fun Dt=>Ap (decide (y1*1<=y4.length)&&true&&decide ((y1+2)*8<=1099511627776)&&decide (y1+2<=1099511627776))<|Aa (y1+2) fun D0=>Aa (List.take (y1*1) y4++[.sc (.int .i64 C3),.sc (.int .i64 Dt)]) fun Dq=>Ap (decide (D0*1<=Dq.length))<|some (A0.mk [.own 1 D0 (List.take (D0*1) Dq)] []))):=by kernel_rfl
theorem Wd (fu d:Nat)(a0:Int):Ae C0 Tryz.prog fu (d+1) M9 [.sc (.int .u64 a0)]=(fun (call:Ai)=>F2 fu call a0 (fu) (a0) 0 0 15 ([])) (Ae C0 Tryz.prog fu d):=by kernel_rfl
abbrev P8:FuncId:=96
noncomputable def Gy (fu:Nat)(call:Ai)(a0 a1:Int)(a2 a3 a4:Int)(nn:Nat)(y0 y1:Int)(y2 y3 y4:Int):Option A0:=C5 CB Tryz.prog fu call 96 Tryz.f96 (Bw Tryz.f96) [.sc (.int .i64 a0),.sc (.int .i64 a1),.sc (.int .i64 a2),.sc (.int .i64 a3),.sc (.int .u64 a4)] [.r,.l,.r,.l] nn ⟨lk [(0,(.sc (.int .i64 y0))),(1,(.sc (.int .i64 y1))),(3,(.sc (.int .i64 y2))),(4,(.sc (.int .u64 y3))),(11,(.sc (.int .i64 y4)))],B5 []⟩
theorem Ls (fu:Nat)(call:Ai)(a0 a1:Int)(a2 a3 a4:Int)(nn:Nat)(y0 y1:Int)(y2 y3 y4:Int):Gy fu call a0 a1 a2 a3 a4 (nn+1) y0 y1 y2 y3 y4=(Aa (if 15<y2 then 15 else y2) fun x2=>Bc (decide (y4<x2)) (Aa (wrap .u64 y0) fun x3=>Aa (wrap .u64 y1) fun x4=>Aa (wrap .u64 y4) fun x5=>Ag (call 84 [.lst false 1 4 [.sc (.int .u64 x3),.sc (.int .u64 x4),.sc (.int .u64 x5),.sc (.int .u64 y3)]]) fun x6 x7=>Ac x7<|Ab x6 fun x8 x9=>El 1 x8 fun Cm C3=>Ac x9<|Ap (decide (0+Cm*1<=C3.length))<|Ag (call 34 [.sc (.int .i64 1),.lst false 1 Cm (List.take (Cm*1) (List.drop 0 C3))]) fun Dt D0=>Ac D0<|Ab Dt fun Dq Ed=>Ad .u64 Dq fun Ek=>Ac Ed<|Aa (wrap .i64 (y4+1)) fun Ez=>Gy fu call a0 a1 a2 a3 a4 (nn) (y0) (y1) (y2) Ek Ez) (some (A0.mk [.sc (.int .u64 y3)] []))):=by kernel_rfl
theorem Zb (fu d:Nat)(a0 a1:Int)(a2 a3 a4:Int):Ae C0 Tryz.prog fu (d+1) P8 [.sc (.int .i64 a0),.sc (.int .i64 a1),.sc (.int .i64 a2),.sc (.int .i64 a3),.sc (.int .u64 a4)]=(fun (call:Ai)=>Aa (if a2<0 then 0 else a2) fun x1=>Gy fu call a0 a1 a2 a3 a4 (fu) (a0) (a1) (a3) (a4) x1) (Ae C0 Tryz.prog fu d):=by kernel_rfl
abbrev Lu:FuncId:=97
theorem Ux (fu d:Nat)(a0 a1 a2:Int):Ae C0 Tryz.prog fu (d+1) Lu [.sc (.int .u64 a0),.sc (.int .i64 a1),.sc (.int .i64 a2)]=(fun (call:Ai)=>Aa (wrap .u64 a1) fun x1=>Aa (wrap .u64 a2) fun x2=>Ag (call 84 [.lst false 1 2 [.sc (.int .u64 x1),.sc (.int .u64 x2)]]) fun x3 x4=>Ac x4<|Ab x3 fun x5 x6=>El 1 x5 fun x7 x8=>Ac x6<|Ap (decide (0+x7*1<=x8.length))<|Ag (call 88 [.sc (.int .u64 a0),.sc (.int .i64 1),.lst false 1 x7 (List.take (x7*1) (List.drop 0 x8))]) fun x9 Cm=>Ac Cm<|Ab x9 fun C3 Dt=>Ad .u64 C3 fun D0=>Ac Dt<|some (A0.mk [.sc (.int .u64 D0)] [])) (Ae C0 Tryz.prog fu d):=by kernel_rfl
abbrev Oc:FuncId:=109
theorem Yg (fu d:Nat)(a0:Int)(a1n:Nat)(a1:List PV):Ae C0 Tryz.prog fu (d+1) Oc [.sc (.int .i64 a0),.lst false 1 a1n a1]=(fun (call:Ai)=>Aa (wrap .u64 a0) fun x1=>Ag (call 84 [.lst false 1 1 [.sc (.int .u64 x1)]]) fun x2 x3=>Ac x3<|Ab x2 fun x4 x5=>El 1 x4 fun x6 x7=>Ac x5<|Ag (call 84 [.lst false 1 a1n a1]) fun x8 x9=>Ac x9<|Ab x8 fun Cm C3=>El 1 Cm fun Dt D0=>Ac C3<|Ap (decide (0+Dt*1<=D0.length))<|Ap (decide (x6*1<=x7.length)&&decide (List.length (List.take (Dt*1) (List.drop 0 D0))=Dt*1)&&decide ((x6+Dt)*1<=1099511627776)&&decide (x6+Dt<=1099511627776))<|Aa (x6+Dt) fun Dq=>Aa (List.take (x6*1) x7++List.take (Dt*1) (List.drop 0 D0)) fun Ed=>Ap (decide (0+Dq*1<=Ed.length))<|Ag (call 34 [.sc (.int .i64 2),.lst false 1 Dq (List.take (Dq*1) (List.drop 0 Ed))]) fun Ek Ez=>Ac Ez<|Ab Ek fun Fo Fg=>Ad .u64 Fo fun Ex=>Ac Fg<|some (A0.mk [.sc (.int .u64 Ex)] [])) (Ae C0 Tryz.prog fu d):=by kernel_rfl
abbrev Og:FuncId:=78
noncomputable def Gd (fu:Nat)(call:Ai)(a0 a1:Int)(nn:Nat)(y0 y1:Int)(y2:Nat)(y3:Int)(y4:List PV):Option A0:=C5 CB Tryz.prog fu call 78 Tryz.f78 (Bw Tryz.f78) [.sc (.int .u64 a0),.sc (.int .i64 a1)] [.r,.r,.l,.r,.l] nn ⟨lk [(0,(.sc (.int .u64 y0))),(1,(.sc (.int .i64 y1))),(5,(.view 5 1 0 y2)),(6,(.sc (.int .i64 y3)))],B5 [(5,(.ar false y4))]⟩
theorem Kg (fu:Nat)(call:Ai)(a0 a1:Int)(nn:Nat)(y0 y1:Int)(y2:Nat)(y3:Int)(y4:List PV):Gd fu call a0 a1 (nn+1) y0 y1 y2 y3 y4=(Bc (decide (y3<18)) (Ag (call 97 [.sc (.int .u64 y0),.sc (.int .i64 y1),.sc (.int .i64 y3)]) fun x1 x2=>Ac x2<|Ab x1 fun x3 x4=>Ad .u64 x3 fun x5=>Ac x4<|Ag (call 96 [.sc (.int .i64 y1),.sc (.int .i64 y3),.sc (.int .i64 0),.sc (.int .i64 15),.sc (.int .u64 x5)]) fun x6 x7=>Ac x7<|Ab x6 fun x8 x9=>Ad .u64 x8 fun Cm=>Ac x9<|Ap (decide (y2*1<=y4.length)&&true&&decide ((y2+1)*8<=1099511627776)&&decide (y2+1<=1099511627776))<|Aa (y2+1) fun C3=>Aa (List.take (y2*1) y4++[.sc (.int .u64 Cm)]) fun Dt=>Aa (wrap .i64 (y3+1)) fun D0=>Gd fu call a0 a1 (nn) (y0) (y1) C3 D0 Dt) (Ap (decide (0+y2*1<=y4.length))<|Ag (call 109 [.sc (.int .i64 y1),.lst false 1 y2 (List.take (y2*1) (List.drop 0 y4))]) fun Dq Ed=>Ac Ed<|Ab Dq fun Ek Ez=>Ad .u64 Ek fun Fo=>Ac Ez<|some (A0.mk [.sc (.int .u64 Fo)] []))):=by kernel_rfl
theorem Yn (fu d:Nat)(a0 a1:Int):Ae C0 Tryz.prog fu (d+1) Og [.sc (.int .u64 a0),.sc (.int .i64 a1)]=(fun (call:Ai)=>Gd fu call a0 a1 (fu) (a0) (a1) 0 0 ([])) (Ae C0 Tryz.prog fu d):=by kernel_rfl
abbrev Jr:FuncId:=64
noncomputable def Et (fu:Nat)(call:Ai)(a0 a1 a2:Int)(nn:Nat)(y0 y1:Int)(y2 y3:Nat)(y4:Int)(y5 y6:List PV):Option A0:=C5 CB Tryz.prog fu call 64 Tryz.f64 (Bw Tryz.f64) [.sc (.int .u64 a0),.sc (.int .i64 a1),.sc (.int .u64 a2)] [.r,.r,.r,.l,.r,.l] nn ⟨lk [(0,(.sc (.int .u64 y0))),(1,(.sc (.int .i64 y1))),(7,(.view 7 1 0 y2)),(8,(.view 8 1 0 y3)),(9,(.sc (.int .i64 y4)))],B5 [(7,(.ar false y5)),(8,(.ar false y6))]⟩
theorem Ia (fu:Nat)(call:Ai)(a0 a1 a2:Int)(nn:Nat)(y0 y1:Int)(y2 y3:Nat)(y4:Int)(y5 y6:List PV):Et fu call a0 a1 a2 (nn+1) y0 y1 y2 y3 y4 y5 y6=(Bc (decide (y4<18)) (Ap (decide (0<=y4)&&decide (y4<(↑y2:Int)))<|Ad .i64 (List.getD y5 (0+Int.toNat y4*1) .top) fun x7=>Ag (call 97 [.sc (.int .u64 y0),.sc (.int .i64 y1),.sc (.int .i64 y4)]) fun x8 x9=>Ac x9<|Ab x8 fun Cm C3=>Ad .u64 Cm fun Dt=>Ac C3<|Ag (call 96 [.sc (.int .i64 y1),.sc (.int .i64 y4),.sc (.int .i64 0),.sc (.int .i64 x7),.sc (.int .u64 Dt)]) fun D0 Dq=>Ac Dq<|Ab D0 fun Ed Ek=>Ad .u64 Ed fun Ez=>Ac Ek<|Ap (decide (y3*1<=y6.length)&&true&&decide ((y3+1)*8<=1099511627776)&&decide (y3+1<=1099511627776))<|Aa (y3+1) fun Fo=>Aa (List.take (y3*1) y6++[.sc (.int .u64 Ez)]) fun Fg=>Aa (wrap .i64 (y4+1)) fun Ex=>Et fu call a0 a1 a2 (nn) (y0) (y1) (y2) Fo Ex (y5) Fg) (Ap (decide (y3*1<=y6.length))<|some (A0.mk [.own 1 y3 (List.take (y3*1) y6)] []))):=by kernel_rfl
theorem Si (fu d:Nat)(a0 a1 a2:Int):Ae C0 Tryz.prog fu (d+1) Jr [.sc (.int .u64 a0),.sc (.int .i64 a1),.sc (.int .u64 a2)]=(fun (call:Ai)=>Ag (call 95 [.sc (.int .u64 a2)]) fun x1 x2=>Ac x2<|Ab x1 fun x3 x4=>El 1 x3 fun x5 x6=>Ac x4<|Et fu call a0 a1 a2 (fu) (a0) (a1) x5 0 0 x6 ([])) (Ae C0 Tryz.prog fu d):=by kernel_rfl
abbrev Ma:FuncId:=79
theorem U7 (fu d:Nat)(a0 a1 a2:Int):Ae C0 Tryz.prog fu (d+1) Ma [.sc (.int .i64 a0),.sc (.int .u64 a1),.sc (.int .u64 a2)]=(fun (call:Ai)=>Aa (wrap .u64 a0) fun x1=>Ag (call 84 [.lst false 1 3 [.sc (.int .u64 x1),.sc (.int .u64 a1),.sc (.int .u64 a2)]]) fun x2 x3=>Ac x3<|Ab x2 fun x4 x5=>El 1 x4 fun x6 x7=>Ac x5<|Ap (decide (0+x6*1<=x7.length))<|Ag (call 34 [.sc (.int .i64 3),.lst false 1 x6 (List.take (x6*1) (List.drop 0 x7))]) fun x8 x9=>Ac x9<|Ab x8 fun Cm C3=>Ad .u64 Cm fun Dt=>Ac C3<|some (A0.mk [.sc (.int .u64 Dt)] [])) (Ae C0 Tryz.prog fu d):=by kernel_rfl
abbrev Pf:FuncId:=39
theorem On (fu d:Nat)(a0 a1 a2:Int):Ae C0 Tryz.prog fu (d+1) Pf [.sc (.int .u64 a0),.sc (.int .i64 a1),.sc (.int .i64 a2)]=(fun (call:Ai)=>Bc (a1==0) (Ag (call 78 [.sc (.int .u64 a0),.sc (.int .i64 a2)]) fun x1 x2=>Ac x2<|Ab x1 fun x3 x4=>Ad .u64 x3 fun x5=>Ac x4<|some (A0.mk [.sc (.int .u64 x5)] [])) (Aa (wrap .i64 (a1-1)) fun x6=>Aa (wrap .i64 (2*a2)) fun x7=>Ag (call 39 [.sc (.int .u64 a0),.sc (.int .i64 x6),.sc (.int .i64 x7)]) fun x8 x9=>Ac x9<|Ab x8 fun Cm C3=>Ad .u64 Cm fun Dt=>Ac C3<|Aa (wrap .i64 (a1-1)) fun D0=>Aa (wrap .i64 (2*a2)) fun Dq=>Aa (wrap .i64 (Dq+1)) fun Ed=>Ag (call 39 [.sc (.int .u64 a0),.sc (.int .i64 D0),.sc (.int .i64 Ed)]) fun Ek Ez=>Ac Ez<|Ab Ek fun Fo Fg=>Ad .u64 Fo fun Ex=>Ac Fg<|Ag (call 79 [.sc (.int .i64 a1),.sc (.int .u64 Dt),.sc (.int .u64 Ex)]) fun H6 Gz=>Ac Gz<|Ab H6 fun Hx D1=>Ad .u64 Hx fun Dm=>Ac D1<|some (A0.mk [.sc (.int .u64 Dm)] []))) (Ae C0 Tryz.prog fu d):=by kernel_rfl
abbrev Mi:FuncId:=18
theorem Vp (fu d:Nat)(a0 a1:Int):Ae C0 Tryz.prog fu (d+1) Mi [.sc (.int .u64 a0),.sc (.int .i64 a1)]=(fun (call:Ai)=>Ag (call 38 [.sc (.int .i64 a1)]) fun x1 x2=>Ac x2<|Ab x1 fun x3 x4=>Bl x3 fun x5=>Ac x4<|Bc (!x5) (some (A0.mk [.agg [.sc (.int .i64 0),.sc (.int .u64 0)],.sc (.int .i64 9)] [])) (Ag (call 39 [.sc (.int .u64 a0),.sc (.int .i64 a1),.sc (.int .i64 0)]) fun x6 x7=>Ac x7<|Ab x6 fun x8 x9=>Ad .u64 x8 fun Cm=>Ac x9<|some (A0.mk [.agg [.sc (.int .i64 a1),.sc (.int .u64 Cm)],.sc (.int .i64 0)] []))) (Ae C0 Tryz.prog fu d):=by kernel_rfl
abbrev Ot:FuncId:=33
noncomputable def Gh (fu:Nat)(call:Ai)(a0 a1:Int)(a2 a3:Int)(nn:Nat)(y0 y1:Int)(y2 y3 y4:Int)(y5 y6:Nat)(y7 y8:List PV)(y9:Int)(y10 Jj:Nat)(Nv Tm:List PV):Option A0:=C5 CB Tryz.prog fu call 33 Tryz.f33 (Bw Tryz.f33) [.sc (.int .u64 a0),.sc (.int .i64 a1),.sc (.int .i64 a2),.sc (.int .u64 a3)] [.r,.r,.r,.l,.r,.l] nn ⟨lk [(0,(.sc (.int .u64 y0))),(1,(.sc (.int .i64 y1))),(2,(.sc (.int .i64 y2))),(8,(.ptr 8 0)),(10,(.ptr 10 0)),(11,(.sc (.int .i64 y3)))],B5 [(8,(.st [(.sc (.int .i64 y4)),(.view 112 1 0 y5),(.view 164 1 0 y6)])),(112,(.ar false y7)),(164,(.ar false y8)),(10,(.st [(.sc (.int .i64 y9)),(.view 114 1 0 y10),(.view 166 1 0 Jj)])),(114,(.ar false Nv)),(166,(.ar false Tm))]⟩
theorem Ke (fu:Nat)(call:Ai)(a0 a1:Int)(a2 a3:Int)(nn:Nat)(y0 y1:Int)(y2 y3 y4:Int)(y5 y6:Nat)(y7 y8:List PV)(y9:Int)(y10 Jj:Nat)(Nv Tm:List PV):Gh fu call a0 a1 a2 a3 (nn+1) y0 y1 y2 y3 y4 y5 y6 y7 y8 y9 y10 Jj Nv Tm=(Bc (decide (y3<y1)) (Aa (wrap .u64 y3) fun Dq=>Ap (decide (0<=Dq))<|Aa (D3 .i64 y2 Dq) fun Ed=>Aa (Dw .i64 Ed 1) fun Ek=>Ag (call 39 [.sc (.int .u64 y0),.sc (.int .i64 y3),.sc (.int .i64 Ek)]) fun Ez Fo=>Ac Fo<|Ab Ez fun Fg Ex=>Ad .u64 Fg fun H6=>Ac Ex<|Ap (decide (Jj*1<=Tm.length)&&true&&decide ((Jj+1)*8<=1099511627776)&&decide (Jj+1<=1099511627776))<|Aa (Jj+1) fun Gz=>Aa (List.take (Jj*1) Tm++[.sc (.int .u64 H6)]) fun Hx=>Aa (wrap .i64 (y3+1)) fun D1=>Gh fu call a0 a1 a2 a3 (nn) (y0) (y1) (y2) D1 (y4) (y5) (y6) (y7) (y8) (y9) (y10) Gz (Nv) Hx) (Ap (decide (y10*1<=Nv.length))<|Ap (decide (Jj*1<=Tm.length))<|some (A0.mk [.agg [.sc (.int .i64 y9),.own 1 y10 (List.take (y10*1) Nv),.own 1 Jj (List.take (Jj*1) Tm)],.sc (.int .i64 0)] []))):=by kernel_rfl
theorem Ys (fu d:Nat)(a0 a1:Int)(a2 a3:Int):Ae C0 Tryz.prog fu (d+1) Ot [.sc (.int .u64 a0),.sc (.int .i64 a1),.sc (.int .i64 a2),.sc (.int .u64 a3)]=(fun (call:Ai)=>Ag (call 38 [.sc (.int .i64 a1)]) fun x1 x2=>Ac x2<|Ab x1 fun x3 x4=>Bl x3 fun x5=>Ac x4<|Bc (!x5) (some (A0.mk [.agg [.sc (.int .i64 0),.own 1 0 [],.own 1 0 []],.sc (.int .i64 9)] [])) (Bc (decide (a2<0)) (some (A0.mk [.agg [.sc (.int .i64 0),.own 1 0 [],.own 1 0 []],.sc (.int .i64 9)] [])) (Aa (wrap .u64 a1) fun x6=>Ap (decide (0<=x6))<|Aa (G4 .i64 1 x6) fun x7=>Bc (decide (a2>=x7)) (some (A0.mk [.agg [.sc (.int .i64 0),.own 1 0 [],.own 1 0 []],.sc (.int .i64 9)] [])) (Ag (call 64 [.sc (.int .u64 a0),.sc (.int .i64 a2),.sc (.int .u64 a3)]) fun x8 x9=>Ac x9<|Ab x8 fun Cm C3=>El 1 Cm fun Dt D0=>Ac C3<|Gh fu call a0 a1 a2 a3 (fu) (a0) (a1) (a2) 0 0 0 0 ([]) ([]) (a2) Dt 0 D0 ([]))))) (Ae C0 Tryz.prog fu d):=by kernel_rfl
abbrev I5:FuncId:=57
theorem Q5 (fu d:Nat)(a0_0 a0_1:Int):Ae C0 Tryz.prog fu (d+1) I5 [.agg [.sc (.int .i64 a0_0),.sc (.int .u64 a0_1)]]=(fun (call:Ai)=>Ag (call 38 [.sc (.int .i64 a0_0)]) fun x1 x2=>Ac x2<|Ab x1 fun x3 x4=>Bl x3 fun x5=>Ac x4<|Bc (!x5) (some (A0.mk [.own 1 0 [],.sc (.int .i64 9)] [])) (Aa (wrap .u8 a0_0) fun x6=>Ag (call 84 [.lst false 1 1 [.sc (.int .u64 a0_1)]]) fun x7 x8=>Ac x8<|Ab x7 fun x9 Cm=>El 1 x9 fun C3 Dt=>Ac Cm<|Ap (decide (0+C3*1<=Dt.length))<|Ap (decide (List.length (List.take (C3*1) (List.drop 0 Dt))=C3*1)&&decide ((1+C3)*1<=1099511627776)&&decide (1+C3<=1099511627776))<|Aa (1+C3) fun D0=>Aa ([.sc (.int .u8 x6)]++List.take (C3*1) (List.drop 0 Dt)) fun Dq=>Ap (decide (D0*1<=Dq.length))<|some (A0.mk [.own 1 D0 (List.take (D0*1) Dq),.sc (.int .i64 0)] []))) (Ae C0 Tryz.prog fu d):=by kernel_rfl
abbrev I6:FuncId:=80
noncomputable def Eh (fu:Nat)(call:Ai)(a0n:Nat)(a0:List PV)(a1n:Nat)(a1:List PV)(nn y0:Nat)(y1:List PV)(y2:Nat)(y3:List PV)(y4:Int):Option A0:=C5 CB Tryz.prog fu call 80 Tryz.f80 (Bw Tryz.f80) [.lst false 1 a0n a0,.lst false 1 a1n a1] [.r,.r,.l,.r,.l] nn ⟨lk [(0,(.lst false 1 y0 y1)),(1,(.lst false 1 y2 y3)),(5,(.sc (.int .i64 y4)))],B5 []⟩
theorem Hq (fu:Nat)(call:Ai)(a0n:Nat)(a0:List PV)(a1n:Nat)(a1:List PV)(nn y0:Nat)(y1:List PV)(y2:Nat)(y3:List PV)(y4:Int):Eh fu call a0n a0 a1n a1 (nn+1) y0 y1 y2 y3 y4=(Bc (decide (y4<(↑y0:Int))) (Ap (decide (0<=y4)&&decide (y4<(↑y0:Int)))<|Ad .u64 (List.getD y1 (Int.toNat y4*1) .top) fun x1=>Ap (decide (0<=y4)&&decide (y4<(↑y2:Int)))<|Ad .u64 (List.getD y3 (Int.toNat y4*1) .top) fun x2=>Bc (x1 != x2) (some (A0.mk [.sc (.bool false)] [])) (Aa (wrap .i64 (y4+1)) fun x3=>Eh fu call a0n a0 a1n a1 (nn) (y0) (y1) (y2) (y3) x3)) (some (A0.mk [.sc (.bool true)] []))):=by kernel_rfl
theorem Rh (fu d a0n:Nat)(a0:List PV)(a1n:Nat)(a1:List PV):Ae C0 Tryz.prog fu (d+1) I6 [.lst false 1 a0n a0,.lst false 1 a1n a1]=(fun (call:Ai)=>Bc ((↑a0n:Int) != (↑a1n:Int)) (some (A0.mk [.sc (.bool false)] [])) (Eh fu call a0n a0 a1n a1 (fu) (a0n) (a0) (a1n) (a1) 0)) (Ae C0 Tryz.prog fu d):=by kernel_rfl
abbrev Hk:FuncId:=40
theorem Ns (fu d:Nat)(a0_0:Int)(NR:Nat)(a0_1:List PV)(Fc:Nat)(a0_2:List PV)(a1_0:Int)(Alz:Nat)(a1_1:List PV)(Alx:Nat)(a1_2:List PV):Ae C0 Tryz.prog fu (d+1) Hk [.agg [.sc (.int .i64 a0_0),.lst false 1 NR a0_1,.lst false 1 Fc a0_2],.agg [.sc (.int .i64 a1_0),.lst false 1 Alz a1_1,.lst false 1 Alx a1_2]]=(fun (call:Ai)=>Bc (a0_0==a1_0) (Ag (call 80 [.lst false 1 NR a0_1,.lst false 1 Alz a1_1]) fun x1 x2=>Ac x2<|Ab x1 fun x3 x4=>Bl x3 fun x5=>Ac x4<|Bc x5 (Ag (call 80 [.lst false 1 Fc a0_2,.lst false 1 Alx a1_2]) fun x6 x7=>Ac x7<|Ab x6 fun x8 x9=>Bl x8 fun Cm=>Ac x9<|some (A0.mk [.sc (.bool Cm)] [])) (some (A0.mk [.sc (.bool false)] []))) (some (A0.mk [.sc (.bool false)] []))) (Ae C0 Tryz.prog fu d):=by kernel_rfl
end
section
open Go.IntKind (wrap)
theorem S3 {α:Type}(f:Nat->α)(i:Nat):(List.range (i+1)).map f=(List.range i).map f++[f i]:=by
 rw [List.range_succ,List.map_append];rfl
section
variable {fu d:Nat}
theorem Yd (h:Int):Ae C0 Tryz.prog fu (d+1) Mf [.sc (.int .i64 h)]=some ⟨[.sc (.bool (!De h))],[]⟩:=by
 rw [Vc];unfold De;by_cases h0:h<0
 ·simp (disch:=omega) only [Bz,h0,decide_true,Bool.true_or,Dd]
 ·have e:decide (h<=4) = !decide (h>4):=by
   by_cases c:h<=4
   ·have:¬h>4:=by omega
    simp [c,this]
   ·have:h>4:=by omega
    simp [c,this]
  simp (disch:=omega) only [Bz,h0,decide_false,Bool.false_or,e]
theorem YK {ws:List Int}(hl:ws.length<=100)(hfu:1000<=fu)(dom:Int):Ae C0 Tryz.prog fu (d+4) Iu [.sc (.int .i64 dom),.lst false 1 (A4 ws).length (Af .u8 (A4 ws))]=some ⟨[.sc (.int .u64 (Mw dom (A4 ws)))],[]⟩:=
 TW (xs:=J9) (Q6 ws) (by rw [Df];omega) (by omega) (by rw [Df];omega) dom
theorem ED {call:Ai}{a0 m:Int}:∀(k nn:Nat)(i:Nat),i+k=16->k<nn ->
  F2 fu call a0 nn m ((List.range i).map (F9 m)).length (Ir m i) (15-(i:Int)) (Af .i64 ((List.range i).map (F9 m)))=some ⟨[.own 1 18 (Af .i64 (NJ m))],[]⟩
 |_,0,_,_,h=>by omega
 |0,nn+1,i,hi,hn=>by
  have e:i=16:=by omega
  subst e;have hs:=I4 m 16
  have wq:wrap .i64 (Int.tdiv (Ir m 16) 16)=Ir m 16 / 16:=by
   rw [Int.tdiv_eq_ediv_of_nonneg (by omega),Aj (by omega) (by omega)]
  have wm:Int.tmod (Ir m 16) 16=Ir m 16 % 16:=Int.tmod_eq_emod_of_nonneg (by omega)
  have e2:Af .i64 ((List.range 16).map (F9 m))++[PV.sc (.int .i64 (Ir m 16 / 16)),PV.sc (.int .i64 (Ir m 16 % 16))]=Af .i64 (NJ m):=by
   unfold NJ;rw [Af,Af,List.flatMap_append];rfl
  have L:(Af .i64 (NJ m)).length=18:=by rw [Ak,Aay]
  have tk:List.take 18 (Af .i64 (NJ m))=Af .i64 (NJ m):=R9 (by omega)
  have l16:((List.range 16).map (F9 m)).length=16:=by simp
  have L16:=Ak .i64 ((List.range 16).map (F9 m));have t16:=J3 .i64 ((List.range 16).map (F9 m));rw [l16] at L16 t16 ⊢;rw [Js,Dr _ _ _ (by omega)]
  simp (disch:=omega) only [Bz,wq,wm,B8,t16,e2,L16,Nat.reduceAdd,L,tk]
 |k+1,nn+1,i,hi,hn=>by
  have ih:=ED (call:=call) (a0:=a0) (m:=m) k nn (i+1) (by omega) (by omega)
  have hb:=P3 m i;have hs:=I4 m i;have w1:wrap .i64 (4*(15-(i:Int)))=60-4*(i:Int):=by rw [Aj (by omega) (by omega)];omega
  have w2:wrap .u64 (60-4*(i:Int))=60-4*(i:Int):=Cn (by omega) (by omega)
  have hd:wrap .i64 (Qx .u64 (D3 .u64 m (60-4*(i:Int))) 15)=F9 m i:=rfl;have w15:wrap .i64 (15-F9 m i)=15-F9 m i:=Aj (by omega) (by omega)
  have ws:wrap .i64 (Ir m i+(15-F9 m i))=Ir m (i+1):=by rw [Aj (by omega) (by omega)];rfl
  have wi:wrap .i64 (15-(i:Int)-1)=15-((i+1:Nat):Int):=by rw [Aj (by omega) (by omega)];omega
  have L:=Ak .i64 ((List.range i).map (F9 m));have l16:((List.range i).map (F9 m)).length=i:=by simp
  rw [S3,Jz,List.length_singleton,←F1] at ih;rw [Js];simp (disch:=omega) only [Bz,w1,w2,hd,w15,ws,wi,B8,J3,L];exact ih
theorem Aez (hfu:1000<=fu)(m:Int):Ae C0 Tryz.prog fu (d+1) M9 [.sc (.int .u64 m)]=some ⟨[.own 1 18 (Af .i64 (NJ m))],[]⟩:=by
 rw [Wd];exact ED (fu:=fu) (a0:=m) (m:=m) 16 fu 0 (by omega) (by omega)
theorem NX {leaf chain:Int}{a0 a1 a2 a3 a4:Int}(hfu:1000<=fu){t:Int}(ht:t<=15):∀(k nn:Nat)(p x:Int),(k:Int)=t-p->0<=p->k<nn ->
  Gy fu (Ae C0 Tryz.prog fu (d+4)) a0 a1 a2 a3 a4 nn leaf chain t x p=some ⟨[.sc (.int .u64 (Qw leaf chain k p x))],[]⟩
 |_,0,_,_,_,_,h=>by omega
 |0,nn+1,p,x,hk,hp,hn=>by
  rw [Ls];simp only [G6];rw [A6 (by omega),Dr _ _ _ (by omega)]
  rfl
 |k+1,nn+1,p,x,hk,hp,hn=>by
  have w:wrap .i64 (p+1)=p+1:=Aj (by omega) (by omega)
  have wd:Ae C0 Tryz.prog fu (d+4) D4 [.lst false 1 4 [.sc (.int .u64 (wrap .u64 leaf)),.sc (.int .u64 (wrap .u64 chain)),.sc (.int .u64 (wrap .u64 p)),.sc (.int .u64 x)]]=_:=Rp (xs:=J9) (ws:=[wrap .u64 leaf,wrap .u64 chain,wrap .u64 p,x]) (by simp) (by omega) (by simp;omega)
  have hs:=YK (fu:=fu) (d:=d) (ws:=[wrap .u64 leaf,wrap .u64 chain,wrap .u64 p,x]) (by simp) hfu 1
  have ih:=NX (leaf:=leaf) (chain:=chain) (a0:=a0) (a1:=a1) (a2:=a2) (a3:=a3) (a4:=a4) hfu ht k nn (p+1) (Mw 1 (A4 [wrap .u64 leaf,wrap .u64 chain,wrap .u64 p,x])) (by omega) (by omega) (by omega)
  have L:=Ak .u8 (A4 [wrap .u64 leaf,wrap .u64 chain,wrap .u64 p,x]);have eR:Qw leaf chain (k+1) p x=Qw leaf chain k (p+1) (Mw 1 (A4 [wrap .u64 leaf,wrap .u64 chain,wrap .u64 p,x])):=rfl;rw [eR];generalize A4 [wrap .u64 leaf,wrap .u64 chain,wrap .u64 p,x]=W at wd hs ih L ⊢;have e15:(if (15:Int)<t then 15 else t)=t:=A6 (by omega)
  rw [Ls];simp (disch:=omega) only [Bz,e15,wd,B8,Br,E6,J3,L,hs,w];exact ih
theorem Abk {leaf chain:Int}(hfu:1000<=fu)(k:Nat)(f t x:Int)(hk:(k:Int)=t-f) (h0:0<=f)(h1:t<=15):Ae C0 Tryz.prog fu (d+5) P8 [.sc (.int .i64 leaf),.sc (.int .i64 chain),.sc (.int .i64 f),.sc (.int .i64 t),.sc (.int .u64 x)]=some ⟨[.sc (.int .u64 (Qw leaf chain k f x))],[]⟩:=by
 rw [Zb];simp only [G6];rw [A6 (by omega)]
 exact NX hfu h1 k fu f x hk h0 (by omega)
theorem HR (hfu:1000<=fu)(seed leaf chain:Int):Ae C0 Tryz.prog fu (d+5) Lu [.sc (.int .u64 seed),.sc (.int .i64 leaf),.sc (.int .i64 chain)]=some ⟨[.sc (.int .u64 (CP seed leaf chain))],[]⟩:=by
 have wd:Ae C0 Tryz.prog fu (d+4) D4 [.lst false 1 2 [.sc (.int .u64 (wrap .u64 leaf)),.sc (.int .u64 (wrap .u64 chain))]]=_:=Rp (xs:=J9) (ws:=[wrap .u64 leaf,wrap .u64 chain]) (by simp) (by omega) (by simp;omega)
 have hs:=Akr (xs:=J9) (fu:=fu) (d:=d) (Q6 [wrap .u64 leaf,wrap .u64 chain]) (by rw [Df];simp) (by omega) (by rw [Df];simp;omega) seed 1
 have L:=Ak .u8 (A4 [wrap .u64 leaf,wrap .u64 chain]);rw [Ux];unfold CP;generalize A4 [wrap .u64 leaf,wrap .u64 chain]=W at wd hs L ⊢;simp (disch:=omega) only [Bz,wd,B8,Br,E6,J3,L,hs]
theorem Aos (hfu:1000<=fu)(w:Int):Ae C0 Tryz.prog fu (d+1) D4 [.lst false 1 1 [.sc (.int .u64 w)]]=some ⟨[.own 1 8 (Af .u8 (Dv w))],[]⟩:=by
 have:=Rp (xs:=J9) (fu:=fu) (d:=d) (ws:=[w]) (by simp) (by omega) (by simp;omega)
 simp only [A4,List.flatMap_cons,List.flatMap_nil,List.append_nil,J2,Wh,Er] at this;exact this
theorem Aiq (hfu:1000<=fu)(leaf:Int){E:List Int}(hE:E.length<=50):Ae C0 Tryz.prog fu (d+5) Oc [.sc (.int .i64 leaf),.lst false 1 E.length (Af .u64 E)]=some ⟨[.sc (.int .u64 (Xf leaf E))],[]⟩:=by
 have w1:=Aos (fu:=fu) (d:=d+3) hfu (wrap .u64 leaf);have w2:=Rp (xs:=J9) (fu:=fu) (d:=d+3) (ws:=E) (by omega) (by omega) (by omega)
 have hs:=YK (fu:=fu) (d:=d) (ws:=wrap .u64 leaf::E) (by simp;omega) hfu 2
 have eW:A4 (wrap .u64 leaf::E)=Dv (wrap .u64 leaf)++A4 E:=rfl
 have eC:Af .u8 (Dv (wrap .u64 leaf))++Af .u8 (A4 E)=Af .u8 (A4 (wrap .u64 leaf::E)):=by
  rw [eW,Af,Af,Af,List.flatMap_append]
 have l0:(Dv (wrap .u64 leaf)).length=8:=Er _;have l1:=Df E;have l2:(A4 (wrap .u64 leaf::E)).length=8+(A4 E).length:=by rw [eW,Jz,l0]
 have L0:=Ak .u8 (Dv (wrap .u64 leaf));rw [l0] at L0;have L1:=Ak .u8 (A4 E);have L2:=Ak .u8 (A4 (wrap .u64 leaf::E));have t8:List.take 8 (Af .u8 (Dv (wrap .u64 leaf)))=Af .u8 (Dv (wrap .u64 leaf)):=R9 (by omega)
 have tW:List.take (8+(A4 E).length) (Af .u8 (A4 (wrap .u64 leaf::E)))=Af .u8 (A4 (wrap .u64 leaf::E)):=R9 (by omega)
 rw [l2] at hs;rw [Yg];simp (disch:=omega) only [Bz,w1,w2,B8,Br,E6,J3,t8,L0,L1,eC,L2,tW,hs];rfl
theorem HN {a0 a1 seed leaf:Int}(hfu:1000<=fu):∀(k nn i:Nat),i+k=18->k<nn ->
  Gd fu (Ae C0 Tryz.prog fu (d+5)) a0 a1 nn seed leaf ((List.range i).map (Wc seed leaf)).length i (Af .u64 ((List.range i).map (Wc seed leaf)))=some ⟨[.sc (.int .u64 (Hs seed leaf))],[]⟩
 |_,0,_,_,h=>by omega
 |0,nn+1,i,hi,hn=>by
  have e:i=18:=by omega
  subst e;have l18:((List.range 18).map (Wc seed leaf)).length=18:=by simp
  have en:=Aiq (fu:=fu) (d:=d) hfu leaf (E:=(List.range 18).map (Wc seed leaf)) (by omega)
  have L:=Ak .u64 ((List.range 18).map (Wc seed leaf));rw [Kg,Dr _ _ _ (by omega)]
  simp (disch:=omega) only [Bz,B8,Br,E6,J3,L,en];rfl
 |k+1,nn+1,i,hi,hn=>by
  have ih:=HN (a0:=a0) (a1:=a1) (seed:=seed) (leaf:=leaf) hfu k nn (i+1) (by omega) (by omega)
  have sc:=HR (fu:=fu) (d:=d) hfu seed leaf i;have rn:=Abk (fu:=fu) (d:=d) (leaf:=leaf) (chain:=i) hfu 15 0 15 (CP seed leaf i) (by omega) (by omega) (by omega)
  have w:wrap .i64 ((i:Int)+1)=((i+1:Nat):Int):=by rw [Aj (by omega) (by omega)];omega
  have L:=Ak .u64 ((List.range i).map (Wc seed leaf));have li:((List.range i).map (Wc seed leaf)).length=i:=by simp
  rw [S3,Jz,List.length_singleton,←F1] at ih;rw [Kg];simp (disch:=omega) only [Bz,sc,rn,B8,J3,L,w];exact ih
theorem Aid (hfu:1000<=fu)(seed leaf:Int):Ae C0 Tryz.prog fu (d+6) Og [.sc (.int .u64 seed),.sc (.int .i64 leaf)]=some ⟨[.sc (.int .u64 (Hs seed leaf))],[]⟩:=by
 rw [Yn];exact HN (fu:=fu) (d:=d) hfu 18 fu 0 (by omega) (by omega)
theorem Ar7 (m:Int){i:Nat}(h:i<18):(NJ m)[i]?=some (dg m i):=by
 unfold dg;rw [List.getD_eq_getElem?_getD,List.getElem?_eq_getElem (by rw [Aay];omega)]
 rfl
theorem U0 {a0 a1 a2 seed leaf m:Int}(hfu:1000<=fu):∀(k nn i:Nat),i+k=18->k<nn ->
  Et fu (Ae C0 Tryz.prog fu (d+5)) a0 a1 a2 nn seed leaf 18 ((List.range i).map (Us seed leaf m)).length i (Af .i64 (NJ m)) (Af .u64 ((List.range i).map (Us seed leaf m)))=some ⟨[.own 1 18 (Af .u64 (Ih seed leaf m))],[]⟩
 |_,0,_,_,h=>by omega
 |0,nn+1,i,hi,hn=>by
  have e:i=18:=by omega
  subst e;have l18:((List.range 18).map (Us seed leaf m)).length=18:=by simp
  have L:=Ak .u64 ((List.range 18).map (Us seed leaf m));rw [Ia,Dr _ _ _ (by omega)]
  simp (disch:=omega) only [Bz,B8,J3,L];rw [l18];rfl
 |k+1,nn+1,i,hi,hn=>by
  have ih:=U0 (a0:=a0) (a1:=a1) (a2:=a2) (seed:=seed) (leaf:=leaf) (m:=m) hfu k nn (i+1) (by omega) (by omega)
  have hb:=V2 m i;have sc:=HR (fu:=fu) (d:=d) hfu seed leaf i;have rn:=Abk (fu:=fu) (d:=d) (leaf:=leaf) (chain:=i) hfu (dg m i).toNat 0 (dg m i) (CP seed leaf i) (by omega) (by omega) (by omega)
  have w:wrap .i64 ((i:Int)+1)=((i+1:Nat):Int):=by rw [Aj (by omega) (by omega)];omega
  have L:=Ak .u64 ((List.range i).map (Us seed leaf m));have li:((List.range i).map (Us seed leaf m)).length=i:=by simp
  rw [S3,Jz,List.length_singleton,←F1] at ih;rw [Ia];simp (disch:=omega) only [Bz,He,B8,Br,W5 (Ar7 m (show i<18 by omega)),sc,rn,J3,L,w]
  exact ih
theorem SG (hfu:1000<=fu)(seed leaf m:Int):Ae C0 Tryz.prog fu (d+6) Jr [.sc (.int .u64 seed),.sc (.int .i64 leaf),.sc (.int .u64 m)]=some ⟨[.own 1 18 (Af .u64 (Ih seed leaf m))],[]⟩:=by
 rw [Si];have sp:=Aez (fu:=fu) (d:=d+4) hfu m;simp only [Bz,sp];exact U0 (fu:=fu) (d:=d) hfu 18 fu 0 (by omega) (by omega)
theorem ZJ (hfu:1000<=fu)(level a b:Int):Ae C0 Tryz.prog fu (d+5) Ma [.sc (.int .i64 level),.sc (.int .u64 a),.sc (.int .u64 b)]=some ⟨[.sc (.int .u64 (Lj level a b))],[]⟩:=by
 have wd:Ae C0 Tryz.prog fu (d+4) D4 [.lst false 1 3 [.sc (.int .u64 (wrap .u64 level)),.sc (.int .u64 a),.sc (.int .u64 b)]]=_:=Rp (xs:=J9) (ws:=[wrap .u64 level,a,b]) (by simp) (by omega) (by simp;omega)
 have hs:=YK (fu:=fu) (d:=d) (ws:=[wrap .u64 level,a,b]) (by simp) hfu 3
 have L:=Ak .u8 (A4 [wrap .u64 level,a,b]);rw [U7];unfold Lj;generalize A4 [wrap .u64 level,a,b]=W at wd hs L ⊢;simp (disch:=omega) only [Bz,wd,B8,Br,E6,J3,L,hs]
theorem BC (hfu:1000<=fu)(seed:Int):∀(l:Nat)(i B:Int),0<=i->i<=B->(2 ^ l:Nat)*(B+1)<=1000000000->l<=20->Ae C0 Tryz.prog fu (d+7+l) Pf [.sc (.int .u64 seed),.sc (.int .i64 l),.sc (.int .i64 i)]=some ⟨[.sc (.int .u64 (Bv seed l i))],[]⟩
 |0,i,B,h0,h1,h2,hl=>by
  have lf:=Aid (fu:=fu) (d:=d) hfu seed i;refine (On fu (d+6) seed 0 i).trans ?_;simp only [Bz,E9,if_true,lf];rfl
 |l+1,i,B,h0,h1,h2,hl=>by
  have hq:(2 ^ (l+1):Nat)=2 ^ l*2:=Nat.pow_succ _ _;have hpos:0<2 ^ l:=Nat.pow_pos (by omega)
  rw [hq] at h2;generalize hQ:2 ^ l=q at h2 hpos
  have hb:((q*2:Nat):Int)*(B+1)=(q:Int)*(2*B+1+1):=by
   rw [Int.natCast_mul,Int.mul_assoc]
   congr 1
   omega
  rw [hb] at h2
  have hBq:2*B+1+1<=(q:Int)*(2*B+1+1):=by
   have:=Int.mul_le_mul_of_nonneg_right (show (1:Int)<=q by omega) (show (0:Int)<=2*B+1+1 by omega)
   omega
  have n1:=BC hfu seed l (2*i) (2*B+1) (by omega) (by omega) (by rw [hQ];exact h2) (by omega)
  have n2:=BC hfu seed l (2*i+1) (2*B+1) (by omega) (by omega) (by rw [hQ];exact h2) (by omega)
  have pr:=ZJ (fu:=fu) (d:=d+2+l) hfu ((l+1:Nat):Int) (Bv seed l (2*i)) (Bv seed l (2*i+1));rw [show d+2+l+5=d+7+l by omega] at pr
  have w1:wrap .i64 (((l+1:Nat):Int)-1)=(l:Int):=by rw [Aj (by omega) (by omega)];omega
  have w2:wrap .i64 (2*i)=2*i:=Aj (by omega) (by omega)
  have w3:wrap .i64 (2*i+1)=2*i+1:=Aj (by omega) (by omega)
  have ne:¬(((l+1:Nat):Int)=0):=by omega
  refine (On fu (d+7+l) seed ((l+1:Nat):Int) i).trans ?_;simp only [Bz,E9,ne,if_false,w1,w2,w3,n1,n2,pr];rfl
end
end
section
open Go.IntKind (wrap)
theorem wu {h:Int}(h0:0<=h)(h4:h<=4):wrap .u64 h=h:=Cn (by omega) (by omega)
theorem YQ {leaf h:Int}(h0:0<=h)(h4:h<=4)(ho:J6 leaf h=false):0<=leaf∧leaf<2 ^ h.toNat:=by
 unfold J6 at ho;simp only [Bool.or_eq_false_iff,decide_eq_false_iff_not] at ho;have:h=0∨h=1∨h=2∨h=3∨h=4:=by omega
 rcases this with rfl|rfl|rfl|rfl|rfl
 ·have e:G4 .i64 1 0=1:=by decide
  rw [e] at ho;exact ⟨by omega,by show leaf<1;omega⟩
 ·have e:G4 .i64 1 1=2:=by decide
  rw [e] at ho;exact ⟨by omega,by show leaf<2;omega⟩
 ·have e:G4 .i64 1 2=4:=by decide
  rw [e] at ho;exact ⟨by omega,by show leaf<4;omega⟩
 ·have e:G4 .i64 1 3=8:=by decide
  rw [e] at ho;exact ⟨by omega,by show leaf<8;omega⟩
 ·have e:G4 .i64 1 4=16:=by decide
  rw [e] at ho;exact ⟨by omega,by show leaf<16;omega⟩
theorem Ara {h:Int}(h0:0<=h)(h4:h<=4):(2:Int) ^ h.toNat<=16:=by
 have:h=0∨h=1∨h=2∨h=3∨h=4:=by omega
 rcases this with rfl|rfl|rfl|rfl|rfl<;>decide
theorem XN {leaf:Int}(h0:0<=leaf)(h1:leaf<16){k:Nat}(hk:k<4):0<=Fj leaf k∧Fj leaf k<=15:=by
 have H:∀n:Fin 16,∀k:Fin 4,0<=Fj (n.val:Int) k.val∧Fj (n.val:Int) k.val<=15:=by decide
 obtain ⟨n,rfl⟩:=Int.eq_ofNat_of_zero_le h0;exact H ⟨n,by omega⟩ ⟨k,hk⟩
section
variable {fu d:Nat}
theorem XF (hfu:1000<=fu)(seed h:Int):Ae C0 Tryz.prog fu (d+12) Mi [.sc (.int .u64 seed),.sc (.int .i64 h)]=some ⟨[.agg (Gq seed h).cells,.sc (.int .i64 (if De h=true then 9 else 0))],[]⟩:=by
 refine (Vp fu (d+11) seed h).trans ?_;have h1:=Yd (fu:=fu) (d:=d+10) h;unfold Gq;cases c1:De h
 ·rw [c1] at h1;have hb:=H0 c1
  have nd:=BC (fu:=fu) (d:=d+4-h.toNat) hfu seed h.toNat 0 0 (by omega) (by omega) (by
   have:h=0∨h=1∨h=2∨h=3∨h=4:=by omega
   rcases this with rfl|rfl|rfl|rfl|rfl<;>decide) (by omega)
  rw [show d+4-h.toNat+7+h.toNat=d+11 by omega,show ((h.toNat:Nat):Int)=h by omega] at nd
  simp only [Bz,h1,nd];rfl
 ·rw [c1] at h1;simp only [Bz,h1];rfl
theorem IQ {a0 a1 a2 a3:Int}{seed leaf h:Int}(hh:0<=h∧h<=4)(hl:0<=leaf∧leaf<16)(hfu:1000<=fu){y4 y9:Int}{y5 y6:Nat}{y7 y8:List PV}{ch:List Int}:∀(k nn i:Nat),i+k=h.toNat->k<nn ->
  Gh fu (Ae C0 Tryz.prog fu (d+11)) a0 a1 a2 a3 nn seed h leaf i y4 y5 y6 y7 y8 leaf ch.length ((List.range i).map fun k=>Bv seed k (Fj leaf k)).length (Af .u64 ch) (Af .u64 ((List.range i).map fun k=>Bv seed k (Fj leaf k)))=some ⟨[.agg (Sg.mk leaf ch ((List.range h.toNat).map fun k=>Bv seed k (Fj leaf k))).owned,.sc (.int .i64 0)],[]⟩
 |_,0,_,_,h=>by omega
 |0,nn+1,i,hi,hn=>by
  have e:i=h.toNat:=by omega
  subst e;have L1:=Ak .u64 ch;have L2:=Ak .u64 ((List.range h.toNat).map fun k=>Bv seed k (Fj leaf k))
  rw [Ke,Dr _ _ _ (by omega)]
  simp (disch:=omega) only [Bz,B8,J3,L1,L2];rfl
 |k+1,nn+1,i,hi,hn=>by
  have ih:=IQ (a0:=a0) (a1:=a1) (a2:=a2) (a3:=a3) (seed:=seed) (y4:=y4) (y9:=y9) (y5:=y5) (y6:=y6) (y7:=y7) (y8:=y8) (ch:=ch) hh hl hfu k nn (i+1) (by omega) (by omega)
  have sb:=XN hl.1 hl.2 (k:=i) (by omega)
  have nd:=BC (fu:=fu) (d:=d+4-i) hfu seed i (Fj leaf i) 15 sb.1 sb.2 (by
   have:i=0∨i=1∨i=2∨i=3:=by omega
   rcases this with rfl|rfl|rfl|rfl<;>decide) (by omega)
  rw [show d+4-i+7+i=d+11 by omega] at nd
  have es:Dw .i64 (D3 .i64 leaf (i:Int)) 1=Fj leaf i:=rfl;have w:wrap .i64 ((i:Int)+1)=((i+1:Nat):Int):=by rw [Aj (by omega) (by omega)];omega
  have wi:wrap .u64 (i:Int)=i:=Cn (by omega) (by omega)
  have L:=Ak .u64 ((List.range i).map fun k=>Bv seed k (Fj leaf k))
  have li:((List.range i).map fun k=>Bv seed k (Fj leaf k)).length=i:=by simp
  rw [S3,Jz,List.length_singleton,←F1] at ih;rw [Ke];simp (disch:=omega) only [Bz,wi,es,nd,B8,J3,L,w];exact ih
theorem Agh (hfu:1000<=fu)(seed h leaf m:Int):Ae C0 Tryz.prog fu (d+12) Ot [.sc (.int .u64 seed),.sc (.int .i64 h),.sc (.int .i64 leaf),.sc (.int .u64 m)]=some ⟨RE (Y5 seed h leaf m),[]⟩:=by
 refine (Ys fu (d+11) seed h leaf m).trans ?_;have h1:=Yd (fu:=fu) (d:=d+10) h;unfold Y5;cases c1:De h
 ·rw [c1] at h1;have hb:=H0 c1;have w:=wu hb.1 hb.2;rw [A6 (by simp)]
  by_cases hn:leaf<0
  ·have ho:J6 leaf h=true:=by unfold J6;simp [hn]
   rw [B4 ho];simp (disch:=omega) only [Bz,h1];rfl
  ·by_cases hg:leaf>=G4 .i64 1 h
   ·have ho:J6 leaf h=true:=by unfold J6;simp [hg]
    rw [B4 ho];simp (disch:=first|omega|exact hg) only [Bz,h1,w];rfl
   ·have ho:J6 leaf h=false:=by unfold J6;simp only [Bool.or_eq_false_iff,decide_eq_false_iff_not];exact ⟨hn,hg⟩
    have hlt:=YQ hb.1 hb.2 ho;have h16:=Ara hb.1 hb.2;rw [A6 (by rw [ho];simp)]
    have sl:=SG (fu:=fu) (d:=d+5) hfu seed leaf m;have lp:=IQ (fu:=fu) (d:=d) (a0:=seed) (a1:=h) (a2:=leaf) (a3:=m) (seed:=seed) (leaf:=leaf) (h:=h) hb (by omega) hfu (y4:=0) (y9:=0) (y5:=0) (y6:=0) (y7:=[]) (y8:=[]) (ch:=Ih seed leaf m) h.toNat fu 0 (by omega) (by omega)
    have l18:(Ih seed leaf m).length=18:=by simp [Ih]
    rw [l18] at lp;simp (disch:=first|omega|exact hg) only [Bz,h1,w,sl];exact lp
 ·rw [c1] at h1;rw [B4 rfl];simp (disch:=omega) only [Bz,h1];rfl
theorem XT (hfu:1000<=fu)(k:Ky):Ae C0 Tryz.prog fu (d+2) I5 [.agg k.cells]=some ⟨(if De k.h=true then [.own 1 0 [],.sc (.int .i64 9)] else [.own 1 9 (Af .u8 (Io k)),.sc (.int .i64 0)]),[]⟩:=by
 refine (Q5 fu (d+1) k.h k.root).trans ?_;have h1:=Yd (fu:=fu) (d:=d) k.h;have wd:=Aos (fu:=fu) (d:=d) hfu k.root;have L:=Ak .u8 (Dv k.root);rw [Er] at L;have t8:List.take 8 (Af .u8 (Dv k.root))=Af .u8 (Dv k.root):=R9 (by omega)
 have t9:List.take 9 ([PV.sc (.int .u8 (wrap .u8 k.h))]++Af .u8 (Dv k.root))=Af .u8 (Io k):=by
  rw [R9 (by rw [Jz,L];simp)]
  rfl
 have L9:([PV.sc (.int .u8 (wrap .u8 k.h))]++Af .u8 (Dv k.root)).length=9:=by rw [Jz,L];rfl
 cases c1:De k.h
 ·rw [c1] at h1;rw [A6 (by simp)]
  simp (disch:=omega) only [Bz,h1,wd,B8,Br,E6,L,t8,Nat.reduceAdd,L9,t9]
 ·rw [c1] at h1;rw [B4 rfl];simp (disch:=omega) only [Bz,h1]
end
end
section
open Go.IntKind (wrap)
section
variable {fu d:Nat}
end
theorem Agv (seed leaf m:Int):Ac7 leaf m (Ih seed leaf m)=Hs seed leaf:=by
 unfold Ac7 Hs HH
 congr 1
 refine List.map_congr_left fun i hi=>?_
 have hi:=List.mem_range.1 hi;have hb:=V2 m i;unfold ZR Wc
 have e:(Ih seed leaf m).getD i 0=Us seed leaf m i:=by
  unfold Ih;rw [List.getD_eq_getElem?_getD,List.getElem?_map,List.getElem?_range hi];rfl
 rw [e];unfold Us;have:=WW leaf i (dg m i).toNat (15-dg m i).toNat 0 (CP seed leaf i);rw [show (dg m i).toNat+(15-dg m i).toNat=15 by omega,show (0:Int)+((dg m i).toNat:Nat)=dg m i by omega] at this
 exact this.symm
theorem Aer:∀n:Fin 16,∀k:Fin 4,
  (Qx .i64 (D3 .i64 (n.val:Int) k.val) 1=0∧D3 .i64 (n.val:Int) k.val=2*D3 .i64 (n.val:Int) ((k.val+1:Nat):Int)∧Fj n.val k.val=2*D3 .i64 (n.val:Int) ((k.val+1:Nat):Int)+1) ∨
  (Qx .i64 (D3 .i64 (n.val:Int) k.val) 1≠0∧D3 .i64 (n.val:Int) k.val=2*D3 .i64 (n.val:Int) ((k.val+1:Nat):Int)+1∧Fj n.val k.val=2*D3 .i64 (n.val:Int) ((k.val+1:Nat):Int)):=by decide
theorem HG (seed:Int){leaf:Int}(h0:0<=leaf)(h1:leaf<16):∀(k i:Nat),i+k<=4 ->
  Yp leaf i (Bv seed i (D3 .i64 leaf i)) ((List.range' i k).map fun j=>Bv seed j (Fj leaf j))=Bv seed (i+k) (D3 .i64 leaf ((i+k:Nat):Int))
 |0,i,_=>rfl
 |k+1,i,h=>by
  rw [List.range'_succ,Zzw,ES];obtain ⟨n,rfl⟩:=Int.eq_ofNat_of_zero_le h0;have ih:=HG seed h0 h1 k (i+1) (by omega)
  rw [show i+(k+1)=i+1+k by omega,←ih]
  congr 1
  rcases Aer ⟨n,by omega⟩ ⟨i,by omega⟩ with ⟨a,b,c⟩|⟨a,b,c⟩
  ·simp only at a b c;rw [B4 a,b,c];rfl
  ·simp only at a b c;rw [A6 a,b,c];rfl
theorem Ahm {seed h leaf m:Int}(hh:De h=false)(ho:J6 leaf h=false):VD (Gq seed h) m ⟨leaf,Ih seed leaf m,(List.range h.toNat).map fun k=>Bv seed k (Fj leaf k)⟩=0:=by
 have hb:=H0 hh;have hl:=YQ hb.1 hb.2 ho;have h16:=Ara hb.1 hb.2
 have eP:Gq seed h=⟨h,Bv seed h.toNat 0⟩:=by
  unfold Gq;rw [hh];rfl
 rw [eP];unfold VD;simp only;rw [A6 (show ¬De h=true by rw [hh];simp),A6 (show ¬J6 leaf h=true by rw [ho];simp),A6 (show ¬(Ih seed leaf m).length≠18 by simp [Ih]),A6 (by rw [List.length_map,List.length_range];omega),Agv]
 have c:=HG seed hl.1 (show leaf<16 by omega) h.toNat 0 (by omega)
 have e0:D3 .i64 leaf ((0:Nat):Int)=leaf:=by
  show leaf.fdiv (2 ^ (min ((0:Nat):Int).toNat IntKind.i64.bits))=leaf;have:(2:Int) ^ (min ((0:Nat):Int).toNat IntKind.i64.bits)=1:=by decide
  rw [this,Int.fdiv_one]
 have eh:D3 .i64 leaf ((0+h.toNat:Nat):Int)=0:=by
  have H:∀n:Fin 16,∀k:Fin 5,(n.val:Int)<2 ^ k.val->D3 .i64 (n.val:Int) ((0+k.val:Nat):Int)=0:=by decide
  obtain ⟨n,hn⟩:=Int.eq_ofNat_of_zero_le hl.1;have:=H ⟨n,by omega⟩ ⟨h.toNat,by omega⟩ (by simp only;rw [←hn];exact hl.2)
  rw [hn];exact this
 rw [e0,eh,Br] at c;have er:List.range' 0 h.toNat=List.range h.toNat:=List.range_eq_range'.symm;rw [er] at c;have el:Bv seed 0 leaf=Hs seed leaf:=rfl;rw [el] at c;rw [c];unfold okE;rw [B4 rfl]
end
section
open Go.IntKind (wrap)
set_option maxRecDepth 100000
abbrev EP:FuncId:=68
theorem VI (fu d:Nat)(a0:ByteArray):Ae C0 Tryz.prog fu (d+1) EP [.sc (.string a0)]=(fun (call:Ai)=>some (A0.mk [.own 3 1 [.sc (.int .i64 4),.sc (.int .u64 0),.sc (.string a0)]] [])) (Ae C0 Tryz.prog fu d):=by kernel_rfl
abbrev FB:FuncId:=69
theorem VQ (fu d:Nat)(a0:Int):Ae C0 Tryz.prog fu (d+1) FB [.sc (.int .u64 a0)]=(fun (call:Ai)=>some (A0.mk [.own 3 1 [.sc (.int .i64 1),.sc (.int .u64 a0),.sc (.string (ByteArray.mk #[]))]] [])) (Ae C0 Tryz.prog fu d):=by kernel_rfl
abbrev Zw:FuncId:=70
theorem QI (fu d a0n:Nat)(a0:List PV):Ae C0 Tryz.prog fu (d+1) Zw [.lst false 1 a0n a0]=(fun (call:Ai)=>Ap (decide (a0.length=a0n))<|Ep (bytesOf a0) fun x1=>some (A0.mk [.own 3 1 [.sc (.int .i64 3),.sc (.int .u64 0),.sc (.string (ByteArray.mk (List.toArray x1)))]] [])) (Ae C0 Tryz.prog fu d):=by kernel_rfl
abbrev FD:FuncId:=71
theorem UJ (fu d:Nat)(a0:Bool):Ae C0 Tryz.prog fu (d+1) FD [.sc (.bool a0)]=(fun (call:Ai)=>Bc (a0) (some (A0.mk [.own 3 1 [.sc (.int .i64 7),.sc (.int .u64 1),.sc (.string (ByteArray.mk #[]))]] [])) (some (A0.mk [.own 3 1 [.sc (.int .i64 7),.sc (.int .u64 0),.sc (.string (ByteArray.mk #[]))]] []))) (Ae C0 Tryz.prog fu d):=by kernel_rfl
abbrev Z7:FuncId:=127
theorem QO (fu d:Nat)(a0:Int):Ae C0 Tryz.prog fu (d+1) Z7 [.sc (.int .u64 a0)]=(fun (call:Ai)=>Bc (decide (a0<24)) (some (A0.mk [.sc (.int .i64 0)] [])) (Bc (decide (a0<256)) (some (A0.mk [.sc (.int .i64 1)] [])) (Bc (decide (a0<65536)) (some (A0.mk [.sc (.int .i64 2)] [])) (Bc (decide (a0<4294967296)) (some (A0.mk [.sc (.int .i64 4)] [])) (some (A0.mk [.sc (.int .i64 8)] [])))))) (Ae C0 Tryz.prog fu d):=by kernel_rfl
abbrev Xc:FuncId:=131
theorem LZ (fu d:Nat)(a0_0 a0_1:Int)(a0_2:ByteArray):Ae C0 Tryz.prog fu (d+1) Xc [.agg [.sc (.int .i64 a0_0),.sc (.int .u64 a0_1),.sc (.string a0_2)]]=(fun (call:Ai)=>Bc (a0_0==3) (some (A0.mk [.sc (.bool (a0_1==0))] [])) (Bc (a0_0==4) (some (A0.mk [.sc (.bool (a0_1==0))] [])) (Bc (a0_0==8) (Bc (a0_1==0) (some (A0.mk [.sc (.bool (Array.toList (ByteArray.data a0_2)==Array.toList (ByteArray.data (ByteArray.mk #[]))))] [])) (some (A0.mk [.sc (.bool false)] []))) (Bc (a0_0==7) (Bc (decide (a0_1<=1)) (some (A0.mk [.sc (.bool (Array.toList (ByteArray.data a0_2)==Array.toList (ByteArray.data (ByteArray.mk #[]))))] [])) (some (A0.mk [.sc (.bool false)] []))) (some (A0.mk [.sc (.bool (Array.toList (ByteArray.data a0_2)==Array.toList (ByteArray.data (ByteArray.mk #[]))))] [])))))) (Ae C0 Tryz.prog fu d):=by kernel_rfl
abbrev Uq:FuncId:=129
theorem LH (fu d a0n:Nat)(a0:List PV)(a1n:Nat)(a1:List PV):Ae C0 Tryz.prog fu (d+1) Uq [.lst false 1 a0n a0,.lst false 1 a1n a1]=(fun (call:Ai)=>Bc ((↑a0n:Int) != (↑a1n:Int)) (some (A0.mk [.sc (.bool (decide ((↑a0n:Int)<(↑a1n:Int))))] [])) (Ag (call 133 [.lst false 1 a0n a0,.lst false 1 a1n a1]) fun x1 x2=>Ac x2<|Ab x1 fun x3 x4=>Ad .i64 x3 fun x5=>Ac x4<|some (A0.mk [.sc (.bool (decide (x5<0)))] []))) (Ae C0 Tryz.prog fu d):=by kernel_rfl
abbrev Ji:FuncId:=119
noncomputable def Ds (fu:Nat)(call:Ai)(a0n:Nat)(a0:List PV)(a1 a2:Int)(nn y0:Nat)(y1 y2:Int)(y3:List PV):Option A0:=C5 CB Tryz.prog fu call 119 Tryz.f119 (Bw Tryz.f119) [.own 1 a0n a0,.sc (.int .u8 a1),.sc (.int .u64 a2)] [.r,.r,.r,.r,.r,.l,.r,.l] nn ⟨lk [(0,(.view 0 1 0 y0)),(2,(.sc (.int .u64 y1))),(9,(.sc (.int .i64 y2)))],B5 [(0,(.ar false y3))]⟩
theorem L8 (fu:Nat)(call:Ai)(a0n:Nat)(a0:List PV)(a1 a2:Int)(nn y0:Nat)(y1 y2:Int)(y3:List PV):Ds fu call a0n a0 a1 a2 (nn+1) y0 y1 y2 y3=(Bc (decide (y2>=0)) (Aa (wrap .i64 (8*y2)) fun Fo=>Ap (decide (0<=Fo))<|Aa (D3 .u64 y1 Fo) fun Fg=>Aa (wrap .u8 Fg) fun Ex=>Ap (decide (y0*1<=y3.length)&&true&&decide ((y0+1)*1<=1099511627776)&&decide (y0+1<=1099511627776))<|Aa (y0+1) fun H6=>Aa (List.take (y0*1) y3++[.sc (.int .u8 Ex)]) fun Gz=>Aa (wrap .i64 (y2-1)) fun Hx=>Ds fu call a0n a0 a1 a2 (nn) H6 (y1) Hx Gz) (Ap (decide (y0*1<=y3.length))<|some (A0.mk [.own 1 y0 (List.take (y0*1) y3)] []))):=by kernel_rfl
theorem Zm (fu d a0n:Nat)(a0:List PV)(a1 a2:Int):Ae C0 Tryz.prog fu (d+1) Ji [.own 1 a0n a0,.sc (.int .u8 a1),.sc (.int .u64 a2)]=(fun (call:Ai)=>Aa (G4 .u8 a1 5) fun x1=>Bc (decide (a2<24)) (Aa (wrap .u8 a2) fun x2=>Aa (wrap .u8 (x1+x2)) fun x3=>Ap (decide (a0n*1<=a0.length)&&true&&decide ((a0n+1)*1<=1099511627776)&&decide (a0n+1<=1099511627776))<|Aa (a0n+1) fun x4=>Aa (List.take (a0n*1) a0++[.sc (.int .u8 x3)]) fun x5=>Ap (decide (x4*1<=x5.length))<|some (A0.mk [.own 1 x4 (List.take (x4*1) x5)] [])) (Bc (decide (a2<256)) (Aa (wrap .u8 (x1+24)) fun x6=>Ap (decide (a0n*1<=a0.length)&&true&&decide ((a0n+1)*1<=1099511627776)&&decide (a0n+1<=1099511627776))<|Aa (a0n+1) fun x7=>Aa (List.take (a0n*1) a0++[.sc (.int .u8 x6)]) fun x8=>Ds fu call a0n a0 a1 a2 (fu) x7 (a2) 0 x8) (Bc (decide (a2<65536)) (Aa (wrap .u8 (x1+25)) fun x9=>Ap (decide (a0n*1<=a0.length)&&true&&decide ((a0n+1)*1<=1099511627776)&&decide (a0n+1<=1099511627776))<|Aa (a0n+1) fun Cm=>Aa (List.take (a0n*1) a0++[.sc (.int .u8 x9)]) fun C3=>Ds fu call a0n a0 a1 a2 (fu) Cm (a2) 1 C3) (Bc (decide (a2<4294967296)) (Aa (wrap .u8 (x1+26)) fun Dt=>Ap (decide (a0n*1<=a0.length)&&true&&decide ((a0n+1)*1<=1099511627776)&&decide (a0n+1<=1099511627776))<|Aa (a0n+1) fun D0=>Aa (List.take (a0n*1) a0++[.sc (.int .u8 Dt)]) fun Dq=>Ds fu call a0n a0 a1 a2 (fu) D0 (a2) 3 Dq) (Aa (wrap .u8 (x1+27)) fun Ed=>Ap (decide (a0n*1<=a0.length)&&true&&decide ((a0n+1)*1<=1099511627776)&&decide (a0n+1<=1099511627776))<|Aa (a0n+1) fun Ek=>Aa (List.take (a0n*1) a0++[.sc (.int .u8 Ed)]) fun Ez=>Ds fu call a0n a0 a1 a2 (fu) Ek (a2) 7 Ez))))) (Ae C0 Tryz.prog fu d):=by kernel_rfl
abbrev Qe:FuncId:=102
theorem Y3 (fu d a0n:Nat)(a0:List PV)(a1_0 a1_1:Int)(a1_2:ByteArray):Ae C0 Tryz.prog fu (d+1) Qe [.own 1 a0n a0,.agg [.sc (.int .i64 a1_0),.sc (.int .u64 a1_1),.sc (.string a1_2)]]=(fun (call:Ai)=>Bc (a1_0==7) (Aa (wrap .u8 a1_1) fun x1=>Aa (wrap .u8 (244+x1)) fun x2=>Ap (decide (a0n*1<=a0.length)&&true&&decide ((a0n+1)*1<=1099511627776)&&decide (a0n+1<=1099511627776))<|Aa (a0n+1) fun x3=>Aa (List.take (a0n*1) a0++[.sc (.int .u8 x2)]) fun x4=>Ap (decide (x3*1<=x4.length))<|some (A0.mk [.own 1 x3 (List.take (x3*1) x4)] [])) (Bc (a1_0==8) (Ap (decide (a0n*1<=a0.length)&&true&&decide ((a0n+1)*1<=1099511627776)&&decide (a0n+1<=1099511627776))<|Aa (a0n+1) fun x5=>Aa (List.take (a0n*1) a0++[.sc (.int .u8 246)]) fun x6=>Ap (decide (x5*1<=x6.length))<|some (A0.mk [.own 1 x5 (List.take (x5*1) x6)] [])) (Bc (a1_0==3) (Aa (wrap .i64 (a1_0-1)) fun x7=>Aa (wrap .u8 x7) fun x8=>Aa (wrap .u64 (↑(ByteArray.size a1_2):Int)) fun x9=>Ap (decide (a0n*1<=a0.length))<|Ag (call 119 [.own 1 a0n (List.take (a0n*1) a0),.sc (.int .u8 x8),.sc (.int .u64 x9)]) fun Cm C3=>Ab Cm fun Dt D0=>El 1 Dt fun Dq Ed=>Ac D0<|Ac C3<|Ap (decide (Dq*1<=Ed.length)&&decide (List.length (Dl a1_2)=ByteArray.size a1_2*1)&&decide ((Dq+ByteArray.size a1_2)*1<=1099511627776)&&decide (Dq+ByteArray.size a1_2<=1099511627776))<|Aa (Dq+ByteArray.size a1_2) fun Ek=>Aa (List.take (Dq*1) Ed++Dl a1_2) fun Ez=>Ap (decide (Ek*1<=Ez.length))<|some (A0.mk [.own 1 Ek (List.take (Ek*1) Ez)] [])) (Bc (a1_0==4) (Aa (wrap .i64 (a1_0-1)) fun Fo=>Aa (wrap .u8 Fo) fun Fg=>Aa (wrap .u64 (↑(ByteArray.size a1_2):Int)) fun Ex=>Ap (decide (a0n*1<=a0.length))<|Ag (call 119 [.own 1 a0n (List.take (a0n*1) a0),.sc (.int .u8 Fg),.sc (.int .u64 Ex)]) fun H6 Gz=>Ab H6 fun Hx D1=>El 1 Hx fun Dm F6=>Ac D1<|Ac Gz<|Ap (decide (Dm*1<=F6.length)&&decide (List.length (Dl a1_2)=ByteArray.size a1_2*1)&&decide ((Dm+ByteArray.size a1_2)*1<=1099511627776)&&decide (Dm+ByteArray.size a1_2<=1099511627776))<|Aa (Dm+ByteArray.size a1_2) fun H9=>Aa (List.take (Dm*1) F6++Dl a1_2) fun Ey=>Ap (decide (H9*1<=Ey.length))<|some (A0.mk [.own 1 H9 (List.take (H9*1) Ey)] [])) (Aa (wrap .i64 (a1_0-1)) fun Jw=>Aa (wrap .u8 Jw) fun Mq=>Ap (decide (a0n*1<=a0.length))<|Ag (call 119 [.own 1 a0n (List.take (a0n*1) a0),.sc (.int .u8 Mq),.sc (.int .u64 a1_1)]) fun J1 Mm=>Ab J1 fun Ml Ny=>El 1 Ml fun Pu Qp=>Ac Ny<|Ac Mm<|Ap (decide (Pu*1<=Qp.length))<|some (A0.mk [.own 1 Pu (List.take (Pu*1) Qp)] [])))))) (Ae C0 Tryz.prog fu d):=by kernel_rfl
abbrev Rs:FuncId:=90
theorem DJ (fu d a0_0n:Nat)(a0_0:List PV)(a0_1:Int):Ae C0 Tryz.prog fu (d+1) Rs [.pbox [.own 3 a0_0n a0_0,.sc (.int .i64 a0_1)]]=(fun (call:Ai)=>Bc (decide (a0_1>0)) (Ap (decide (a0_0n*3<=a0_0.length))<|some (A0.mk [.sc (.bool ((↑a0_0n:Int)==0))] [[.own 3 a0_0n (List.take (a0_0n*3) a0_0),.sc (.int .i64 a0_1)]])) (Ap (decide (a0_0n*3<=a0_0.length))<|some (A0.mk [.sc (.bool false)] [[.own 3 a0_0n (List.take (a0_0n*3) a0_0),.sc (.int .i64 a0_1)]]))) (Ae C0 Tryz.prog fu d):=by kernel_rfl
abbrev P7:FuncId:=128
theorem Za (fu d a0_0n:Nat)(a0_0:List PV)(a0_1:Int):Ae C0 Tryz.prog fu (d+1) P7 [.pbox [.own 3 a0_0n a0_0,.sc (.int .i64 a0_1)]]=(fun (call:Ai)=>Bc (decide ((↑a0_0n:Int)>0)) (Aa (wrap .i64 ((↑a0_0n:Int)-1)) fun x1=>Ap (decide (0<=x1)&&decide (x1<(↑a0_0n:Int)))<|Bl (List.getD a0_0 (0+Int.toNat x1*3+0) .top) fun x2=>Bc x2 (Aa (wrap .i64 ((↑a0_0n:Int)-1)) fun x3=>Ap (decide (0<=x3)&&decide (x3<(↑a0_0n:Int)))<|Ad .i64 (List.getD a0_0 (0+Int.toNat x3*3+1) .top) fun x4=>Aa (Int.tmod x4 2) fun x5=>Ap (decide (a0_0n*3<=a0_0.length))<|some (A0.mk [.sc (.bool (x5==0))] [[.own 3 a0_0n (List.take (a0_0n*3) a0_0),.sc (.int .i64 a0_1)]])) (Ap (decide (a0_0n*3<=a0_0.length))<|some (A0.mk [.sc (.bool false)] [[.own 3 a0_0n (List.take (a0_0n*3) a0_0),.sc (.int .i64 a0_1)]]))) (Ap (decide (a0_0n*3<=a0_0.length))<|some (A0.mk [.sc (.bool false)] [[.own 3 a0_0n (List.take (a0_0n*3) a0_0),.sc (.int .i64 a0_1)]]))) (Ae C0 Tryz.prog fu d):=by kernel_rfl
abbrev P1:FuncId:=114
theorem AM (fu d a0_0n:Nat)(a0_0:List PV)(a0_1 a1:Int):Ae C0 Tryz.prog fu (d+1) P1 [.pbox [.own 3 a0_0n a0_0,.sc (.int .i64 a0_1)],.sc (.int .i64 a1)]=(fun (call:Ai)=>Bc (decide (a0_1>=512)) (Ap (decide (a0_0n*3<=a0_0.length))<|some (A0.mk [.sc (.int .i64 8)] [[.own 3 a0_0n (List.take (a0_0n*3) a0_0),.sc (.int .i64 a0_1)]])) (Bc (decide (a1<1)) (Ap (decide (a0_0n*3<=a0_0.length))<|some (A0.mk [.sc (.int .i64 3)] [[.own 3 a0_0n (List.take (a0_0n*3) a0_0),.sc (.int .i64 a0_1)]])) (Bc (decide (a1>8)) (Ap (decide (a0_0n*3<=a0_0.length))<|some (A0.mk [.sc (.int .i64 3)] [[.own 3 a0_0n (List.take (a0_0n*3) a0_0),.sc (.int .i64 a0_1)]])) (Ap (decide (a0_0n*3<=a0_0.length))<|Ag (call 128 [.pbox [.own 3 a0_0n (List.take (a0_0n*3) a0_0),.sc (.int .i64 a0_1)]]) fun x1 x2=>Ab x1 fun x3 x4=>Bl x3 fun x5=>Ac x4<|Ab x2 fun x6 x7=>Ab x6 fun x8 x9=>El 3 x8 fun Cm C3=>Ab x9 fun Dt D0=>Ad .i64 Dt fun Dq=>Ac D0<|Ac x7<|Bc x5 (Bc (a1 != 1) (Bc (a1 != 2) (Bc (a1 != 4) (Ap (decide (Cm*3<=C3.length))<|some (A0.mk [.sc (.int .i64 3)] [[.own 3 Cm (List.take (Cm*3) C3),.sc (.int .i64 Dq)]])) (Bc (decide ((↑Cm:Int)>8)) (Ap (decide (Cm*3<=C3.length))<|some (A0.mk [.sc (.int .i64 5)] [[.own 3 Cm (List.take (Cm*3) C3),.sc (.int .i64 Dq)]])) (Ap (decide (Cm*3<=C3.length))<|some (A0.mk [.sc (.int .i64 0)] [[.own 3 Cm (List.take (Cm*3) C3),.sc (.int .i64 Dq)]])))) (Bc (decide ((↑Cm:Int)>8)) (Ap (decide (Cm*3<=C3.length))<|some (A0.mk [.sc (.int .i64 5)] [[.own 3 Cm (List.take (Cm*3) C3),.sc (.int .i64 Dq)]])) (Ap (decide (Cm*3<=C3.length))<|some (A0.mk [.sc (.int .i64 0)] [[.own 3 Cm (List.take (Cm*3) C3),.sc (.int .i64 Dq)]])))) (Bc (decide ((↑Cm:Int)>8)) (Ap (decide (Cm*3<=C3.length))<|some (A0.mk [.sc (.int .i64 5)] [[.own 3 Cm (List.take (Cm*3) C3),.sc (.int .i64 Dq)]])) (Ap (decide (Cm*3<=C3.length))<|some (A0.mk [.sc (.int .i64 0)] [[.own 3 Cm (List.take (Cm*3) C3),.sc (.int .i64 Dq)]])))) (Bc (decide ((↑Cm:Int)>8)) (Ap (decide (Cm*3<=C3.length))<|some (A0.mk [.sc (.int .i64 5)] [[.own 3 Cm (List.take (Cm*3) C3),.sc (.int .i64 Dq)]])) (Ap (decide (Cm*3<=C3.length))<|some (A0.mk [.sc (.int .i64 0)] [[.own 3 Cm (List.take (Cm*3) C3),.sc (.int .i64 Dq)]]))))))) (Ae C0 Tryz.prog fu d):=by kernel_rfl
abbrev Ry:FuncId:=130
noncomputable def A8 (fu:Nat)(call:Ai)(a0_0n:Nat)(a0_0:List PV)(a0_1 a1_0 a1_1:Int)(a1_2:ByteArray)(nn:Nat)(y0:Int)(y1:Nat)(y2:Int)(y3:List PV):Option A0:=C5 CB Tryz.prog fu call 130 Tryz.f130 (Bw Tryz.f130) [.pbox [.own 3 a0_0n a0_0,.sc (.int .i64 a0_1)],.agg [.sc (.int .i64 a1_0),.sc (.int .u64 a1_1),.sc (.string a1_2)]] [.r,.r,.r,.r,.r,.r,.l] nn ⟨lk [(0,(.ptr 212000 0)),(5,(.sc (.int .i64 y0)))],B5 [(212000,(.st [(.view 212106 3 0 y1),(.sc (.int .i64 y2))])),(212106,(.ar false y3))]⟩
theorem Nh (fu:Nat)(call:Ai)(a0_0n:Nat)(a0_0:List PV)(a0_1 a1_0 a1_1:Int)(a1_2:ByteArray)(nn:Nat)(y0:Int)(y1:Nat)(y2:Int)(y3:List PV):A8 fu call a0_0n a0_0 a0_1 a1_0 a1_1 a1_2 (nn+1) y0 y1 y2 y3=(Bc (decide (y0>0)) (Aa (wrap .i64 (y0-1)) fun Qp=>Ap (decide (0<=Qp)&&decide (Qp<(↑y1:Int)))<|Ad .i64 (List.getD y3 (0+Int.toNat Qp*3+1) .top) fun Sd=>Bc (Sd==0) (Aa (wrap .i64 (y0-1)) fun G2=>Ap (decide (0<=G2))<|Ap (decide (Int.toNat G2<=y1))<|Aa (Int.toNat G2-0) fun J0=>Aa (wrap .i64 (y0-1)) fun Ur=>A8 fu call a0_0n a0_0 a0_1 a1_0 a1_1 a1_2 (nn) Ur J0 (y2) (y3)) (Ap (decide (y1*3<=y3.length))<|some (A0.mk [] [[.own 3 y1 (List.take (y1*3) y3),.sc (.int .i64 y2)]]))) (Ap (decide (y1*3<=y3.length))<|some (A0.mk [] [[.own 3 y1 (List.take (y1*3) y3),.sc (.int .i64 y2)]]))):=by kernel_rfl
theorem DQ (fu d a0_0n:Nat)(a0_0:List PV)(a0_1 a1_0 a1_1:Int)(a1_2:ByteArray):Ae C0 Tryz.prog fu (d+1) Ry [.pbox [.own 3 a0_0n a0_0,.sc (.int .i64 a0_1)],.agg [.sc (.int .i64 a1_0),.sc (.int .u64 a1_1),.sc (.string a1_2)]]=(fun (call:Ai)=>Aa (wrap .i64 (a0_1+1)) fun x1=>Bc (decide ((↑a0_0n:Int)>0)) (Aa (wrap .i64 ((↑a0_0n:Int)-1)) fun x2=>Ap (decide (0<=x2)&&decide (x2<(↑a0_0n:Int)))<|Ad .i64 (List.getD a0_0 (0+Int.toNat x2*3+1) .top) fun x3=>Aa (wrap .i64 (x3-1)) fun x4=>Ap (decide (0<=x2)&&decide (x2<(↑a0_0n:Int)))<|Ap (decide (0+Int.toNat x2*3+1+1<=a0_0.length))<|Aa (Ba a0_0 [.sc (.int .i64 x4)] (0+Int.toNat x2*3+1)) fun x5=>Bc (a1_0==5) (Bc (decide (a1_1>0)) (Aa (wrap .i64 a1_1) fun x6=>Ap (decide (a0_0n*3<=x5.length)&&true&&decide ((a0_0n+1)*40<=1099511627776)&&decide (a0_0n+1<=1099511627776))<|Aa (a0_0n+1) fun x7=>Aa (List.take (a0_0n*3) x5++[.sc (.bool false),.sc (.int .i64 x6),.lst false 1 0 []]) fun x8=>Bc (a1_0==6) (Bc (decide (a1_1>0)) (Aa (wrap .i64 a1_1) fun x9=>Aa (wrap .i64 (2*x9)) fun Cm=>Ap (decide (x7*3<=x8.length)&&true&&decide ((x7+1)*40<=1099511627776)&&decide (x7+1<=1099511627776))<|Aa (x7+1) fun C3=>Aa (List.take (x7*3) x8++[.sc (.bool true),.sc (.int .i64 Cm),.lst false 1 0 []]) fun Dt=>A8 fu call a0_0n a0_0 a0_1 a1_0 a1_1 a1_2 (fu) ((↑C3:Int)) C3 x1 Dt) (A8 fu call a0_0n a0_0 a0_1 a1_0 a1_1 a1_2 (fu) ((↑x7:Int)) x7 x1 x8)) (A8 fu call a0_0n a0_0 a0_1 a1_0 a1_1 a1_2 (fu) ((↑x7:Int)) x7 x1 x8)) (Bc (a1_0==6) (Bc (decide (a1_1>0)) (Aa (wrap .i64 a1_1) fun D0=>Aa (wrap .i64 (2*D0)) fun Dq=>Ap (decide (a0_0n*3<=x5.length)&&true&&decide ((a0_0n+1)*40<=1099511627776)&&decide (a0_0n+1<=1099511627776))<|Aa (a0_0n+1) fun Ed=>Aa (List.take (a0_0n*3) x5++[.sc (.bool true),.sc (.int .i64 Dq),.lst false 1 0 []]) fun Ek=>A8 fu call a0_0n a0_0 a0_1 a1_0 a1_1 a1_2 (fu) ((↑Ed:Int)) Ed x1 Ek) (A8 fu call a0_0n a0_0 a0_1 a1_0 a1_1 a1_2 (fu) ((↑a0_0n:Int)) (a0_0n) x1 x5)) (A8 fu call a0_0n a0_0 a0_1 a1_0 a1_1 a1_2 (fu) ((↑a0_0n:Int)) (a0_0n) x1 x5))) (Bc (a1_0==6) (Bc (decide (a1_1>0)) (Aa (wrap .i64 a1_1) fun Ez=>Aa (wrap .i64 (2*Ez)) fun Fo=>Ap (decide (a0_0n*3<=x5.length)&&true&&decide ((a0_0n+1)*40<=1099511627776)&&decide (a0_0n+1<=1099511627776))<|Aa (a0_0n+1) fun Fg=>Aa (List.take (a0_0n*3) x5++[.sc (.bool true),.sc (.int .i64 Fo),.lst false 1 0 []]) fun Ex=>A8 fu call a0_0n a0_0 a0_1 a1_0 a1_1 a1_2 (fu) ((↑Fg:Int)) Fg x1 Ex) (A8 fu call a0_0n a0_0 a0_1 a1_0 a1_1 a1_2 (fu) ((↑a0_0n:Int)) (a0_0n) x1 x5)) (A8 fu call a0_0n a0_0 a0_1 a1_0 a1_1 a1_2 (fu) ((↑a0_0n:Int)) (a0_0n) x1 x5))) (Bc (a1_0==5) (Bc (decide (a1_1>0)) (Aa (wrap .i64 a1_1) fun H6=>Ap (decide (a0_0n*3<=a0_0.length)&&true&&decide ((a0_0n+1)*40<=1099511627776)&&decide (a0_0n+1<=1099511627776))<|Aa (a0_0n+1) fun Gz=>Aa (List.take (a0_0n*3) a0_0++[.sc (.bool false),.sc (.int .i64 H6),.lst false 1 0 []]) fun Hx=>Bc (a1_0==6) (Bc (decide (a1_1>0)) (Aa (wrap .i64 a1_1) fun D1=>Aa (wrap .i64 (2*D1)) fun Dm=>Ap (decide (Gz*3<=Hx.length)&&true&&decide ((Gz+1)*40<=1099511627776)&&decide (Gz+1<=1099511627776))<|Aa (Gz+1) fun F6=>Aa (List.take (Gz*3) Hx++[.sc (.bool true),.sc (.int .i64 Dm),.lst false 1 0 []]) fun H9=>A8 fu call a0_0n a0_0 a0_1 a1_0 a1_1 a1_2 (fu) ((↑F6:Int)) F6 x1 H9) (A8 fu call a0_0n a0_0 a0_1 a1_0 a1_1 a1_2 (fu) ((↑Gz:Int)) Gz x1 Hx)) (A8 fu call a0_0n a0_0 a0_1 a1_0 a1_1 a1_2 (fu) ((↑Gz:Int)) Gz x1 Hx)) (Bc (a1_0==6) (Bc (decide (a1_1>0)) (Aa (wrap .i64 a1_1) fun Ey=>Aa (wrap .i64 (2*Ey)) fun Jw=>Ap (decide (a0_0n*3<=a0_0.length)&&true&&decide ((a0_0n+1)*40<=1099511627776)&&decide (a0_0n+1<=1099511627776))<|Aa (a0_0n+1) fun Mq=>Aa (List.take (a0_0n*3) a0_0++[.sc (.bool true),.sc (.int .i64 Jw),.lst false 1 0 []]) fun J1=>A8 fu call a0_0n a0_0 a0_1 a1_0 a1_1 a1_2 (fu) ((↑Mq:Int)) Mq x1 J1) (A8 fu call a0_0n a0_0 a0_1 a1_0 a1_1 a1_2 (fu) ((↑a0_0n:Int)) (a0_0n) x1 (a0_0))) (A8 fu call a0_0n a0_0 a0_1 a1_0 a1_1 a1_2 (fu) ((↑a0_0n:Int)) (a0_0n) x1 (a0_0)))) (Bc (a1_0==6) (Bc (decide (a1_1>0)) (Aa (wrap .i64 a1_1) fun Mm=>Aa (wrap .i64 (2*Mm)) fun Ml=>Ap (decide (a0_0n*3<=a0_0.length)&&true&&decide ((a0_0n+1)*40<=1099511627776)&&decide (a0_0n+1<=1099511627776))<|Aa (a0_0n+1) fun Ny=>Aa (List.take (a0_0n*3) a0_0++[.sc (.bool true),.sc (.int .i64 Ml),.lst false 1 0 []]) fun Pu=>A8 fu call a0_0n a0_0 a0_1 a1_0 a1_1 a1_2 (fu) ((↑Ny:Int)) Ny x1 Pu) (A8 fu call a0_0n a0_0 a0_1 a1_0 a1_1 a1_2 (fu) ((↑a0_0n:Int)) (a0_0n) x1 (a0_0))) (A8 fu call a0_0n a0_0 a0_1 a1_0 a1_1 a1_2 (fu) ((↑a0_0n:Int)) (a0_0n) x1 (a0_0))))) (Ae C0 Tryz.prog fu d):=by kernel_rfl
abbrev Iz:FuncId:=115
theorem I0 (fu d a0_0n:Nat)(a0_0:List PV)(a0_1 a1_0 a1_1:Int)(a1_2:ByteArray):Ae C0 Tryz.prog fu (d+1) Iz [.pbox [.own 3 a0_0n a0_0,.sc (.int .i64 a0_1)],.agg [.sc (.int .i64 a1_0),.sc (.int .u64 a1_1),.sc (.string a1_2)]]=(fun (call:Ai)=>Bc (a1_0==4) (Ag (call 56 [.sc (.string a1_2)]) fun x1 x2=>Ac x2<|Ab x1 fun x3 x4=>Bl x3 fun x5=>Ac x4<|Bc (!x5) (Ap (decide (a0_0n*3<=a0_0.length))<|some (A0.mk [.sc (.int .i64 6)] [[.own 3 a0_0n (List.take (a0_0n*3) a0_0),.sc (.int .i64 a0_1)]])) (Ap (decide (a0_0n*3<=a0_0.length))<|Ag (call 128 [.pbox [.own 3 a0_0n (List.take (a0_0n*3) a0_0),.sc (.int .i64 a0_1)]]) fun x6 x7=>Ab x6 fun x8 x9=>Bl x8 fun Cm=>Ac x9<|Ab x7 fun C3 Dt=>Ab C3 fun D0 Dq=>El 3 D0 fun Ed Ek=>Ab Dq fun Ez Fo=>Ad .i64 Ez fun Fg=>Ac Fo<|Ac Dt<|Bc Cm (Aa (wrap .i64 ((↑Ed:Int)-1)) fun Ex=>Ap (decide (0<=Ex)&&decide (Ex<(↑Ed:Int)))<|Ag (call 102 [.own 1 0 [],.agg [.sc (.int .i64 a1_0),.sc (.int .u64 a1_1),.sc (.string a1_2)]]) fun H6 Gz=>Ab H6 fun Hx D1=>El 1 Hx fun Dm F6=>Ac D1<|Ac Gz<|Fd 1 (List.getD Ek (0+Int.toNat Ex*3+0+2) .top) fun H9 Ey Jw=>Bc (decide (0<Ey)) (Fd 1 (List.getD Ek (0+Int.toNat Ex*3+0+2) .top) fun Mq J1 Mm=>Ap (decide (0+Dm*1<=F6.length))<|Ag (call 129 [.lst false 1 J1 Mm,.lst false 1 Dm (List.take (Dm*1) (List.drop 0 F6))]) fun Ml Ny=>Ac Ny<|Ab Ml fun Pu Qp=>Bl Pu fun Sd=>Ac Qp<|Bc (!Sd) (Ap (decide (Ed*3<=Ek.length))<|some (A0.mk [.sc (.int .i64 7)] [[.own 3 Ed (List.take (Ed*3) Ek),.sc (.int .i64 Fg)]])) (Ap (decide (0+Int.toNat Ex*3+0+2+1<=Ek.length))<|Ap (decide (0+Dm*1<=F6.length))<|Aa (Ba Ek [.lst false 1 Dm (List.take (Dm*1) (List.drop 0 F6))] (0+Int.toNat Ex*3+0+2)) fun G2=>Ap (decide (Ed*3<=G2.length))<|Ag (call 130 [.pbox [.own 3 Ed (List.take (Ed*3) G2),.sc (.int .i64 Fg)],.agg [.sc (.int .i64 a1_0),.sc (.int .u64 a1_1),.sc (.string a1_2)]]) fun J0 Ur=>Ac J0<|Ab Ur fun Yu Oo=>Ab Yu fun Uh Tq=>El 3 Uh fun Sr Tp=>Ab Tq fun Xh X6=>Ad .i64 Xh fun Ss=>Ac X6<|Ac Oo<|Ap (decide (Sr*3<=Tp.length))<|some (A0.mk [.sc (.int .i64 0)] [[.own 3 Sr (List.take (Sr*3) Tp),.sc (.int .i64 Ss)]]))) (Xa (Fd 1 (List.getD Ek (0+Int.toNat Ex*3+0+2) .top) fun Wm Wy Xd=>Ap (decide (0+Dm*1<=F6.length))<|Ag (call 129 [.lst false 1 Wy Xd,.lst false 1 Dm (List.take (Dm*1) (List.drop 0 F6))]) fun Pi Yi=>Ac Yi<|Ab Pi fun BM BL=>Bl BM fun P2=>Ac BL<|Bc (!P2) (Ap (decide (Ed*3<=Ek.length))<|some (A0.mk [.sc (.int .i64 7)] [[.own 3 Ed (List.take (Ed*3) Ek),.sc (.int .i64 Fg)]])) (Ap (decide (0+Int.toNat Ex*3+0+2+1<=Ek.length))<|Ap (decide (0+Dm*1<=F6.length))<|Aa (Ba Ek [.lst false 1 Dm (List.take (Dm*1) (List.drop 0 F6))] (0+Int.toNat Ex*3+0+2)) fun Ub=>Ap (decide (Ed*3<=Ub.length))<|Ag (call 130 [.pbox [.own 3 Ed (List.take (Ed*3) Ub),.sc (.int .i64 Fg)],.agg [.sc (.int .i64 a1_0),.sc (.int .u64 a1_1),.sc (.string a1_2)]]) fun Ym AF=>Ac Ym<|Ab AF fun Y2 Zi=>Ab Y2 fun CH AO=>El 3 CH fun BK W0=>Ab AO fun Xq EF=>Ad .i64 Xq fun BQ=>Ac EF<|Ac Zi<|Ap (decide (BK*3<=W0.length))<|some (A0.mk [.sc (.int .i64 0)] [[.own 3 BK (List.take (BK*3) W0),.sc (.int .i64 BQ)]]))) (Ap (decide (0+Int.toNat Ex*3+0+2+1<=Ek.length))<|Ap (decide (0+Dm*1<=F6.length))<|Aa (Ba Ek [.lst false 1 Dm (List.take (Dm*1) (List.drop 0 F6))] (0+Int.toNat Ex*3+0+2)) fun BI=>Ap (decide (Ed*3<=BI.length))<|Ag (call 130 [.pbox [.own 3 Ed (List.take (Ed*3) BI),.sc (.int .i64 Fg)],.agg [.sc (.int .i64 a1_0),.sc (.int .u64 a1_1),.sc (.string a1_2)]]) fun Y1 BN=>Ac Y1<|Ab BN fun KF BJ=>Ab KF fun CU GQ=>El 3 CU fun BP ET=>Ab GQ fun IH JL=>Ad .i64 IH fun TB=>Ac JL<|Ac BJ<|Ap (decide (BP*3<=ET.length))<|some (A0.mk [.sc (.int .i64 0)] [[.own 3 BP (List.take (BP*3) ET),.sc (.int .i64 TB)]])))) (Ap (decide (Ed*3<=Ek.length))<|Ag (call 130 [.pbox [.own 3 Ed (List.take (Ed*3) Ek),.sc (.int .i64 Fg)],.agg [.sc (.int .i64 a1_0),.sc (.int .u64 a1_1),.sc (.string a1_2)]]) fun SE QK=>Ac SE<|Ab QK fun OA WJ=>Ab OA fun SX SS=>El 3 SX fun SN GN=>Ab SS fun PB RW=>Ad .i64 PB fun UC=>Ac RW<|Ac WJ<|Ap (decide (SN*3<=GN.length))<|some (A0.mk [.sc (.int .i64 0)] [[.own 3 SN (List.take (SN*3) GN),.sc (.int .i64 UC)]])))) (Ap (decide (a0_0n*3<=a0_0.length))<|Ag (call 128 [.pbox [.own 3 a0_0n (List.take (a0_0n*3) a0_0),.sc (.int .i64 a0_1)]]) fun UN ZL=>Ab UN fun ZZ YV=>Bl ZZ fun WZ=>Ac YV<|Ab ZL fun x98 x99=>Ab x98 fun Y9 Xn=>El 3 Y9 fun H2 D2=>Ab Xn fun DK Tv=>Ad .i64 DK fun Ts=>Ac Tv<|Ac x99<|Bc WZ (Aa (wrap .i64 ((↑H2:Int)-1)) fun Ln=>Ap (decide (0<=Ln)&&decide (Ln<(↑H2:Int)))<|Ag (call 102 [.own 1 0 [],.agg [.sc (.int .i64 a1_0),.sc (.int .u64 a1_1),.sc (.string a1_2)]]) fun DN DW=>Ab DN fun DR CG=>El 1 DR fun Iy Lf=>Ac CG<|Ac DW<|Fd 1 (List.getD D2 (0+Int.toNat Ln*3+0+2) .top) fun BZ BV DV=>Bc (decide (0<BV)) (Fd 1 (List.getD D2 (0+Int.toNat Ln*3+0+2) .top) fun JD Vm Xp=>Ap (decide (0+Iy*1<=Lf.length))<|Ag (call 129 [.lst false 1 Vm Xp,.lst false 1 Iy (List.take (Iy*1) (List.drop 0 Lf))]) fun Z1 Zf=>Ac Zf<|Ab Z1 fun CY GK=>Bl CY fun Tu=>Ac GK<|Bc (!Tu) (Ap (decide (H2*3<=D2.length))<|some (A0.mk [.sc (.int .i64 7)] [[.own 3 H2 (List.take (H2*3) D2),.sc (.int .i64 Ts)]])) (Ap (decide (0+Int.toNat Ln*3+0+2+1<=D2.length))<|Ap (decide (0+Iy*1<=Lf.length))<|Aa (Ba D2 [.lst false 1 Iy (List.take (Iy*1) (List.drop 0 Lf))] (0+Int.toNat Ln*3+0+2)) fun Ta=>Ap (decide (H2*3<=Ta.length))<|Ag (call 130 [.pbox [.own 3 H2 (List.take (H2*3) Ta),.sc (.int .i64 Ts)],.agg [.sc (.int .i64 a1_0),.sc (.int .u64 a1_1),.sc (.string a1_2)]]) fun Rn Vu=>Ac Rn<|Ab Vu fun Tx BG=>Ab Tx fun Yo JB=>El 3 Yo fun DU Ye=>Ab JB fun GA IW=>Ad .i64 GA fun HS=>Ac IW<|Ac BG<|Ap (decide (DU*3<=Ye.length))<|some (A0.mk [.sc (.int .i64 0)] [[.own 3 DU (List.take (DU*3) Ye),.sc (.int .i64 HS)]]))) (Xa (Fd 1 (List.getD D2 (0+Int.toNat Ln*3+0+2) .top) fun LV IC DO=>Ap (decide (0+Iy*1<=Lf.length))<|Ag (call 129 [.lst false 1 IC DO,.lst false 1 Iy (List.take (Iy*1) (List.drop 0 Lf))]) fun GJ HJ=>Ac HJ<|Ab GJ fun JN JX=>Bl JN fun DC=>Ac JX<|Bc (!DC) (Ap (decide (H2*3<=D2.length))<|some (A0.mk [.sc (.int .i64 7)] [[.own 3 H2 (List.take (H2*3) D2),.sc (.int .i64 Ts)]])) (Ap (decide (0+Int.toNat Ln*3+0+2+1<=D2.length))<|Ap (decide (0+Iy*1<=Lf.length))<|Aa (Ba D2 [.lst false 1 Iy (List.take (Iy*1) (List.drop 0 Lf))] (0+Int.toNat Ln*3+0+2)) fun FX=>Ap (decide (H2*3<=FX.length))<|Ag (call 130 [.pbox [.own 3 H2 (List.take (H2*3) FX),.sc (.int .i64 Ts)],.agg [.sc (.int .i64 a1_0),.sc (.int .u64 a1_1),.sc (.string a1_2)]]) fun GL FZ=>Ac GL<|Ab FZ fun HM QY=>Ab HM fun TA SH=>El 3 TA fun DH MP=>Ab SH fun RB ZE=>Ad .i64 RB fun ZC=>Ac ZE<|Ac QY<|Ap (decide (DH*3<=MP.length))<|some (A0.mk [.sc (.int .i64 0)] [[.own 3 DH (List.take (DH*3) MP),.sc (.int .i64 ZC)]]))) (Ap (decide (0+Int.toNat Ln*3+0+2+1<=D2.length))<|Ap (decide (0+Iy*1<=Lf.length))<|Aa (Ba D2 [.lst false 1 Iy (List.take (Iy*1) (List.drop 0 Lf))] (0+Int.toNat Ln*3+0+2)) fun VO=>Ap (decide (H2*3<=VO.length))<|Ag (call 130 [.pbox [.own 3 H2 (List.take (H2*3) VO),.sc (.int .i64 Ts)],.agg [.sc (.int .i64 a1_0),.sc (.int .u64 a1_1),.sc (.string a1_2)]]) fun RU VE=>Ac RU<|Ab VE fun YJ ZI=>Ab YJ fun TF ZM=>El 3 TF fun QJ XR=>Ab ZM fun ZO QC=>Ad .i64 ZO fun VK=>Ac QC<|Ac ZI<|Ap (decide (QJ*3<=XR.length))<|some (A0.mk [.sc (.int .i64 0)] [[.own 3 QJ (List.take (QJ*3) XR),.sc (.int .i64 VK)]])))) (Ap (decide (H2*3<=D2.length))<|Ag (call 130 [.pbox [.own 3 H2 (List.take (H2*3) D2),.sc (.int .i64 Ts)],.agg [.sc (.int .i64 a1_0),.sc (.int .u64 a1_1),.sc (.string a1_2)]]) fun Aan ZD=>Ac Aan<|Ab ZD fun Aah Af4=>Ab Aah fun Agg Ah8=>El 3 Agg fun Aag Add=>Ab Ah8 fun Aht Agm=>Ad .i64 Aht fun Ahy=>Ac Agm<|Ac Af4<|Ap (decide (Aag*3<=Add.length))<|some (A0.mk [.sc (.int .i64 0)] [[.own 3 Aag (List.take (Aag*3) Add),.sc (.int .i64 Ahy)]])))) (Ae C0 Tryz.prog fu d):=by kernel_rfl
abbrev M5:FuncId:=118
theorem Wn (fu d a0_0n:Nat)(a0_0:List PV)(a0_1 a1_0 a1_1:Int)(a1_2:ByteArray):Ae C0 Tryz.prog fu (d+1) M5 [.pbox [.own 3 a0_0n a0_0,.sc (.int .i64 a0_1)],.agg [.sc (.int .i64 a1_0),.sc (.int .u64 a1_1),.sc (.string a1_2)]]=(fun (call:Ai)=>Ap (decide (a0_0n*3<=a0_0.length))<|Ag (call 90 [.pbox [.own 3 a0_0n (List.take (a0_0n*3) a0_0),.sc (.int .i64 a0_1)]]) fun x1 x2=>Ab x1 fun x3 x4=>Bl x3 fun x5=>Ac x4<|Ab x2 fun x6 x7=>Ab x6 fun x8 x9=>El 3 x8 fun Cm C3=>Ab x9 fun Dt D0=>Ad .i64 Dt fun Dq=>Ac D0<|Ac x7<|Bc x5 (Ap (decide (Cm*3<=C3.length))<|some (A0.mk [.sc (.int .i64 2)] [[.own 3 Cm (List.take (Cm*3) C3),.sc (.int .i64 Dq)]])) (Ap (decide (Cm*3<=C3.length))<|Ag (call 114 [.pbox [.own 3 Cm (List.take (Cm*3) C3),.sc (.int .i64 Dq)],.sc (.int .i64 a1_0)]) fun Ed Ek=>Ab Ed fun Ez Fo=>Ad .i64 Ez fun Fg=>Ac Fo<|Ab Ek fun Ex H6=>Ab Ex fun Gz Hx=>El 3 Gz fun D1 Dm=>Ab Hx fun F6 H9=>Ad .i64 F6 fun Ey=>Ac H9<|Ac H6<|Bc (Fg != 0) (Ap (decide (D1*3<=Dm.length))<|some (A0.mk [.sc (.int .i64 Fg)] [[.own 3 D1 (List.take (D1*3) Dm),.sc (.int .i64 Ey)]])) (Ag (call 131 [.agg [.sc (.int .i64 a1_0),.sc (.int .u64 a1_1),.sc (.string a1_2)]]) fun Jw Mq=>Ac Mq<|Ab Jw fun J1 Mm=>Bl J1 fun Ml=>Ac Mm<|Bc (!Ml) (Ap (decide (D1*3<=Dm.length))<|some (A0.mk [.sc (.int .i64 4)] [[.own 3 D1 (List.take (D1*3) Dm),.sc (.int .i64 Ey)]])) (Bc (decide ((↑(ByteArray.size a1_2):Int)>1024)) (Ap (decide (D1*3<=Dm.length))<|some (A0.mk [.sc (.int .i64 8)] [[.own 3 D1 (List.take (D1*3) Dm),.sc (.int .i64 Ey)]])) (Bc (a1_0==5) (Bc (decide (a1_1>512)) (Ap (decide (D1*3<=Dm.length))<|some (A0.mk [.sc (.int .i64 8)] [[.own 3 D1 (List.take (D1*3) Dm),.sc (.int .i64 Ey)]])) (Ap (decide (D1*3<=Dm.length))<|Ag (call 115 [.pbox [.own 3 D1 (List.take (D1*3) Dm),.sc (.int .i64 Ey)],.agg [.sc (.int .i64 a1_0),.sc (.int .u64 a1_1),.sc (.string a1_2)]]) fun Ny Pu=>Ab Ny fun Qp Sd=>Ad .i64 Qp fun G2=>Ac Sd<|Ab Pu fun J0 Ur=>Ab J0 fun Yu Oo=>El 3 Yu fun Uh Tq=>Ab Oo fun Sr Tp=>Ad .i64 Sr fun Xh=>Ac Tp<|Ac Ur<|Ap (decide (Uh*3<=Tq.length))<|some (A0.mk [.sc (.int .i64 G2)] [[.own 3 Uh (List.take (Uh*3) Tq),.sc (.int .i64 Xh)]]))) (Bc (a1_0==6) (Bc (decide (a1_1>512)) (Ap (decide (D1*3<=Dm.length))<|some (A0.mk [.sc (.int .i64 8)] [[.own 3 D1 (List.take (D1*3) Dm),.sc (.int .i64 Ey)]])) (Ap (decide (D1*3<=Dm.length))<|Ag (call 115 [.pbox [.own 3 D1 (List.take (D1*3) Dm),.sc (.int .i64 Ey)],.agg [.sc (.int .i64 a1_0),.sc (.int .u64 a1_1),.sc (.string a1_2)]]) fun X6 Ss=>Ab X6 fun Wm Wy=>Ad .i64 Wm fun Xd=>Ac Wy<|Ab Ss fun Pi Yi=>Ab Pi fun BM BL=>El 3 BM fun P2 Ub=>Ab BL fun Ym AF=>Ad .i64 Ym fun Y2=>Ac AF<|Ac Yi<|Ap (decide (P2*3<=Ub.length))<|some (A0.mk [.sc (.int .i64 Xd)] [[.own 3 P2 (List.take (P2*3) Ub),.sc (.int .i64 Y2)]]))) (Ap (decide (D1*3<=Dm.length))<|Ag (call 115 [.pbox [.own 3 D1 (List.take (D1*3) Dm),.sc (.int .i64 Ey)],.agg [.sc (.int .i64 a1_0),.sc (.int .u64 a1_1),.sc (.string a1_2)]]) fun Zi CH=>Ab Zi fun AO BK=>Ad .i64 AO fun W0=>Ac BK<|Ab CH fun Xq EF=>Ab Xq fun BQ BI=>El 3 BQ fun Y1 BN=>Ab BI fun KF BJ=>Ad .i64 KF fun CU=>Ac BJ<|Ac EF<|Ap (decide (Y1*3<=BN.length))<|some (A0.mk [.sc (.int .i64 W0)] [[.own 3 Y1 (List.take (Y1*3) BN),.sc (.int .i64 CU)]])))))))) (Ae C0 Tryz.prog fu d):=by kernel_rfl
abbrev Th:FuncId:=101
noncomputable def Hy (fu:Nat)(call:Ai)(a0n:Nat)(a0:List PV)(nn y0:Nat)(y1:List PV)(y2 y3:Int)(y4:Nat)(y5:Int)(y6:List PV):Option A0:=C5 CB Tryz.prog fu call 101 Tryz.f101 (Bw Tryz.f101) [.lst false 3 a0n a0] [.r,.r,.l,.r,.l] nn ⟨lk [(3,(.ptr 3 0)),(7,(.lst false 3 y0 y1)),(8,(.sc (.int .i64 y2))),(9,(.sc (.int .i64 y3)))],B5 [(3,(.st [(.view 25 3 0 y4),(.sc (.int .i64 y5))])),(25,(.ar false y6))]⟩
theorem Om (fu:Nat)(call:Ai)(a0n:Nat)(a0:List PV)(nn y0:Nat)(y1:List PV)(y2 y3:Int)(y4:Nat)(y5:Int)(y6:List PV):Hy fu call a0n a0 (nn+1) y0 y1 y2 y3 y4 y5 y6=(Bc (decide (y3<y2)) (Ap (decide (0<=y3)&&decide (y3<(↑y0:Int)))<|Ad .i64 (List.getD y1 (Int.toNat y3*3) .top) fun x1=>Ad .u64 (List.getD y1 (Int.toNat y3*3+1) .top) fun x2=>Co (List.getD y1 (Int.toNat y3*3+1+1) .top) fun x3=>Ap (decide (y4*3<=y6.length))<|Ag (call 118 [.pbox [.own 3 y4 (List.take (y4*3) y6),.sc (.int .i64 y5)],.agg [.sc (.int .i64 x1),.sc (.int .u64 x2),.sc (.string x3)]]) fun x4 x5=>Ab x4 fun x6 x7=>Ad .i64 x6 fun x8=>Ac x7<|Ab x5 fun x9 Cm=>Ab x9 fun C3 Dt=>El 3 C3 fun D0 Dq=>Ab Dt fun Ed Ek=>Ad .i64 Ed fun Ez=>Ac Ek<|Ac Cm<|Bc (x8 != 0) (some (A0.mk [.sc (.int .i64 x8)] [])) (Aa (wrap .i64 (y3+1)) fun Fo=>Hy fu call a0n a0 (nn) (y0) (y1) (y2) Fo D0 Ez Dq)) (Ap (decide (y4*3<=y6.length))<|Ag (call 90 [.pbox [.own 3 y4 (List.take (y4*3) y6),.sc (.int .i64 y5)]]) fun Fg Ex=>Ab Fg fun H6 Gz=>Bl H6 fun Hx=>Ac Gz<|Ab Ex fun D1 Dm=>Ab D1 fun F6 H9=>El 3 F6 fun Ey Jw=>Ab H9 fun Mq J1=>Ad .i64 Mq fun Mm=>Ac J1<|Ac Dm<|Bc (!Hx) (some (A0.mk [.sc (.int .i64 1)] [])) (some (A0.mk [.sc (.int .i64 0)] [])))):=by kernel_rfl
theorem GI (fu d a0n:Nat)(a0:List PV):Ae C0 Tryz.prog fu (d+1) Th [.lst false 3 a0n a0]=(fun (call:Ai)=>Hy fu call a0n a0 (fu) (a0n) (a0) ((↑a0n:Int)) 0 0 0 ([])) (Ae C0 Tryz.prog fu d):=by kernel_rfl
abbrev Uz:FuncId:=100
theorem LF (fu d a0n:Nat)(a0:List PV):Ae C0 Tryz.prog fu (d+1) Uz [.own 3 a0n a0]=(fun (call:Ai)=>Ap (decide (0+a0n*3<=a0.length))<|Ag (call 101 [.lst false 3 a0n (List.take (a0n*3) (List.drop 0 a0))]) fun x1 x2=>Ac x2<|Ab x1 fun x3 x4=>Ad .i64 x3 fun x5=>Ac x4<|Bc (x5 != 0) (some (A0.mk [.own 3 0 [],.sc (.int .i64 x5)] [])) (Ap (decide (a0n*3<=a0.length))<|some (A0.mk [.own 3 a0n (List.take (a0n*3) a0),.sc (.int .i64 0)] []))) (Ae C0 Tryz.prog fu d):=by kernel_rfl
abbrev W8:FuncId:=99
noncomputable def Je (fu:Nat)(call:Ai)(a0n:Nat)(a0:List PV)(nn y0:Nat)(y1:List PV)(y2 y3:Int):Option A0:=C5 CB Tryz.prog fu call 99 Tryz.f99 (Bw Tryz.f99) [.lst false 1 a0n a0] [.r,.l,.r,.l] nn ⟨lk [(6,(.lst false 1 y0 y1)),(7,(.sc (.int .i64 y2))),(8,(.sc (.int .i64 y3)))],B5 []⟩
theorem Re (fu:Nat)(call:Ai)(a0n:Nat)(a0:List PV)(nn y0:Nat)(y1:List PV)(y2 y3:Int):Je fu call a0n a0 (nn+1) y0 y1 y2 y3=(Bc (decide (y3<y2)) (Ap (decide (0<=y3)&&decide (y3<(↑y0:Int)))<|Fd 3 (List.getD y1 (Int.toNat y3*1) .top) fun x1 x2 x3=>Ag (call 101 [.lst false 3 x2 x3]) fun x4 x5=>Ac x5<|Ab x4 fun x6 x7=>Ad .i64 x6 fun x8=>Ac x7<|Bc (x8 != 0) (some (A0.mk [.sc (.int .i64 x8)] [])) (Aa (wrap .i64 (y3+1)) fun x9=>Je fu call a0n a0 (nn) (y0) (y1) (y2) x9)) (some (A0.mk [.sc (.int .i64 0)] []))):=by kernel_rfl
theorem LY (fu d a0n:Nat)(a0:List PV):Ae C0 Tryz.prog fu (d+1) W8 [.lst false 1 a0n a0]=(fun (call:Ai)=>Je fu call a0n a0 (fu) (a0n) (a0) ((↑a0n:Int)) 0) (Ae C0 Tryz.prog fu d):=by kernel_rfl
abbrev S6:FuncId:=67
noncomputable def Lg (fu:Nat)(call:Ai)(a0n:Nat)(a0:List PV)(nn y0 y1:Nat)(y2:List PV)(y3 y4:Int)(y5:List PV):Option A0:=C5 CB Tryz.prog fu call 67 Tryz.f67 (Bw Tryz.f67) [.lst false 1 a0n a0] [.r,.r,.r,.l,.r,.l] nn ⟨lk [(5,(.view 5 3 0 y0)),(18,(.lst false 1 y1 y2)),(19,(.sc (.int .i64 y3))),(20,(.sc (.int .i64 y4)))],B5 [(5,(.ar false y5))]⟩
theorem Tk (fu:Nat)(call:Ai)(a0n:Nat)(a0:List PV)(nn y0 y1:Nat)(y2:List PV)(y3 y4:Int)(y5:List PV):Lg fu call a0n a0 (nn+1) y0 y1 y2 y3 y4 y5=(Bc (decide (y4<y3)) (Ap (decide (0<=y4)&&decide (y4<(↑y1:Int)))<|Fd 3 (List.getD y2 (Int.toNat y4*1) .top) fun x7 x8 x9=>Bc (decide ((↑y0:Int)>512)) (Ap (decide (y0*3<=y5.length))<|Ag (call 100 [.own 3 y0 (List.take (y0*3) y5)]) fun Cm C3=>Ab Cm fun Dt D0=>El 3 Dt fun Dq Ed=>Ab D0 fun Ek Ez=>Ad .i64 Ek fun Fo=>Ac Ez<|Ac C3<|Ap (decide (Dq*3<=Ed.length))<|some (A0.mk [.own 3 Dq (List.take (Dq*3) Ed),.sc (.int .i64 Fo)] [])) (Ap (decide (y0*3<=y5.length)&&decide (x9.length=x8*3)&&decide ((y0+x8)*32<=1099511627776)&&decide (y0+x8<=1099511627776))<|Aa (y0+x8) fun Fg=>Aa (List.take (y0*3) y5++x9) fun Ex=>Aa (wrap .i64 (y4+1)) fun H6=>Lg fu call a0n a0 (nn) Fg (y1) (y2) (y3) H6 Ex)) (Ap (decide (y0*3<=y5.length))<|Ag (call 100 [.own 3 y0 (List.take (y0*3) y5)]) fun Gz Hx=>Ab Gz fun D1 Dm=>El 3 D1 fun F6 H9=>Ab Dm fun Ey Jw=>Ad .i64 Ey fun Mq=>Ac Jw<|Ac Hx<|Ap (decide (F6*3<=H9.length))<|some (A0.mk [.own 3 F6 (List.take (F6*3) H9),.sc (.int .i64 Mq)] []))):=by kernel_rfl
theorem RZ (fu d a0n:Nat)(a0:List PV):Ae C0 Tryz.prog fu (d+1) S6 [.lst false 1 a0n a0]=(fun (call:Ai)=>Ag (call 99 [.lst false 1 a0n a0]) fun x1 x2=>Ac x2<|Ab x1 fun x3 x4=>Ad .i64 x3 fun x5=>Ac x4<|Bc (x5 != 0) (some (A0.mk [.own 3 0 [],.sc (.int .i64 x5)] [])) (Aa (wrap .u64 (↑a0n:Int)) fun x6=>Lg fu call a0n a0 (fu) 1 (a0n) (a0) ((↑a0n:Int)) 0 ([.sc (.int .i64 5),.sc (.int .u64 x6),.sc (.string (ByteArray.mk #[]))]))) (Ae C0 Tryz.prog fu d):=by kernel_rfl
abbrev Ql:FuncId:=72
noncomputable def Jh (fu:Nat)(call:Ai)(a0n:Nat)(a0:List PV)(nn y0 y1:Nat)(y2:List PV)(y3 y4:Int)(y5:List PV):Option A0:=C5 CB Tryz.prog fu call 72 Tryz.f72 (Bw Tryz.f72) [.lst false 3 a0n a0] [.r,.r,.r,.l,.r,.l] nn ⟨lk [(5,(.view 5 1 0 y0)),(13,(.lst false 3 y1 y2)),(14,(.sc (.int .i64 y3))),(15,(.sc (.int .i64 y4)))],B5 [(5,(.ar false y5))]⟩
theorem R3 (fu:Nat)(call:Ai)(a0n:Nat)(a0:List PV)(nn y0 y1:Nat)(y2:List PV)(y3 y4:Int)(y5:List PV):Jh fu call a0n a0 (nn+1) y0 y1 y2 y3 y4 y5=(Bc (decide (y4<y3)) (Ap (decide (0<=y4)&&decide (y4<(↑y1:Int)))<|Ad .i64 (List.getD y2 (Int.toNat y4*3) .top) fun x6=>Ad .u64 (List.getD y2 (Int.toNat y4*3+1) .top) fun x7=>Co (List.getD y2 (Int.toNat y4*3+1+1) .top) fun x8=>Ap (decide (y0*1<=y5.length))<|Ag (call 102 [.own 1 y0 (List.take (y0*1) y5),.agg [.sc (.int .i64 x6),.sc (.int .u64 x7),.sc (.string x8)]]) fun x9 Cm=>Ab x9 fun C3 Dt=>El 1 C3 fun D0 Dq=>Ac Dt<|Ac Cm<|Aa (wrap .i64 (y4+1)) fun Ed=>Jh fu call a0n a0 (nn) D0 (y1) (y2) (y3) Ed Dq) (Ap (decide (y0*1<=y5.length))<|some (A0.mk [.own 1 y0 (List.take (y0*1) y5),.sc (.int .i64 0)] []))):=by kernel_rfl
theorem ML (fu d a0n:Nat)(a0:List PV):Ae C0 Tryz.prog fu (d+1) Ql [.lst false 3 a0n a0]=(fun (call:Ai)=>Ag (call 101 [.lst false 3 a0n a0]) fun x1 x2=>Ac x2<|Ab x1 fun x3 x4=>Ad .i64 x3 fun x5=>Ac x4<|Bc (x5 != 0) (some (A0.mk [.own 1 0 [],.sc (.int .i64 x5)] [])) (Jh fu call a0n a0 (fu) 0 (a0n) (a0) ((↑a0n:Int)) 0 ([]))) (Ae C0 Tryz.prog fu d):=by kernel_rfl
end
section
open Go.IntKind (wrap)
set_option maxRecDepth 100000
abbrev Of:FuncId:=116
noncomputable def C4 (fu:Nat)(call:Ai)(a0_0 a0_1:Int)(a0_2:ByteArray)(nn:Nat)(y0 y1:Int):Option A0:=C5 CB Tryz.prog fu call 116 Tryz.f116 (Bw Tryz.f116) [.agg [.sc (.int .i64 a0_0),.sc (.int .u64 a0_1),.sc (.string a0_2)]] [.r,.r,.r] nn ⟨lk [(3,(.sc (.int .u64 y0))),(4,(.sc (.int .u8 y1)))],B5 []⟩
theorem Tw (fu:Nat)(call:Ai)(a0_0 a0_1:Int)(a0_2:ByteArray)(nn:Nat)(hnn:0<nn)(y0 y1:Int):C4 fu call a0_0 a0_1 a0_2 nn y0 y1=(Bc (decide (y0<24)) (Aa (wrap .u8 y0) fun x5=>Aa (wrap .u8 (y1+x5)) fun x6=>some (A0.mk [.own 1 1 [.sc (.int .u8 x6)]] [])) (Bc (decide (y0<256)) (Aa (wrap .u8 (y1+24)) fun x7=>Aa (wrap .u8 y0) fun x8=>some (A0.mk [.own 1 2 [.sc (.int .u8 x7),.sc (.int .u8 x8)]] [])) (Bc (decide (y0<65536)) (Aa (wrap .u8 (y1+25)) fun x9=>Aa (D3 .u64 y0 8) fun Cm=>Aa (wrap .u8 Cm) fun C3=>Aa (wrap .u8 y0) fun Dt=>some (A0.mk [.own 1 3 [.sc (.int .u8 x9),.sc (.int .u8 C3),.sc (.int .u8 Dt)]] [])) (Bc (decide (y0<4294967296)) (Aa (wrap .u8 (y1+26)) fun D0=>Aa (D3 .u64 y0 24) fun Dq=>Aa (wrap .u8 Dq) fun Ed=>Aa (D3 .u64 y0 16) fun Ek=>Aa (wrap .u8 Ek) fun Ez=>Aa (D3 .u64 y0 8) fun Fo=>Aa (wrap .u8 Fo) fun Fg=>Aa (wrap .u8 y0) fun Ex=>some (A0.mk [.own 1 5 [.sc (.int .u8 D0),.sc (.int .u8 Ed),.sc (.int .u8 Ez),.sc (.int .u8 Fg),.sc (.int .u8 Ex)]] [])) (Aa (wrap .u8 (y1+27)) fun H6=>Ag (call 84 [.lst false 1 1 [.sc (.int .u64 y0)]]) fun Gz Hx=>Ac Hx<|Ab Gz fun D1 Dm=>El 1 D1 fun F6 H9=>Ac Dm<|Ap (decide (0+F6*1<=H9.length))<|Ap (decide (List.length (List.take (F6*1) (List.drop 0 H9))=F6*1)&&decide ((1+F6)*1<=1099511627776)&&decide (1+F6<=1099511627776))<|Aa (1+F6) fun Ey=>Aa ([.sc (.int .u8 H6)]++List.take (F6*1) (List.drop 0 H9)) fun Jw=>Ap (decide (Ey*1<=Jw.length))<|some (A0.mk [.own 1 Ey (List.take (Ey*1) Jw)] [])))))):=by cases nn with|zero=>exact absurd hnn (Nat.lt_irrefl 0)|succ nn=>kernel_rfl
theorem Yt (fu d:Nat)(a0_0 a0_1:Int)(a0_2:ByteArray):Ae C0 Tryz.prog fu (d+1) Of [.agg [.sc (.int .i64 a0_0),.sc (.int .u64 a0_1),.sc (.string a0_2)]]=(fun (call:Ai)=>Bc (a0_0==7) (Aa (wrap .u8 a0_1) fun x1=>Aa (wrap .u8 (244+x1)) fun x2=>some (A0.mk [.own 1 1 [.sc (.int .u8 x2)]] [])) (Bc (a0_0==8) (some (A0.mk [.own 1 1 [.sc (.int .u8 246)]] [])) (Bc (a0_0==2) (C4 fu call a0_0 a0_1 a0_2 (fu) (a0_1) 32) (Bc (a0_0==3) (Aa (wrap .u64 (↑(ByteArray.size a0_2):Int)) fun x3=>C4 fu call a0_0 a0_1 a0_2 (fu) x3 64) (Bc (a0_0==4) (Aa (wrap .u64 (↑(ByteArray.size a0_2):Int)) fun x4=>C4 fu call a0_0 a0_1 a0_2 (fu) x4 96) (Bc (a0_0==5) (C4 fu call a0_0 a0_1 a0_2 (fu) (a0_1) 128) (Bc (a0_0==6) (C4 fu call a0_0 a0_1 a0_2 (fu) (a0_1) 160) (C4 fu call a0_0 a0_1 a0_2 (fu) (a0_1) 0)))))))) (Ae C0 Tryz.prog fu d):=by kernel_rfl
abbrev Mv:FuncId:=94
theorem Wl (fu d:Nat)(a0_0 a0_1:Int)(a0_2:ByteArray):Ae C0 Tryz.prog fu (d+1) Mv [.agg [.sc (.int .i64 a0_0),.sc (.int .u64 a0_1),.sc (.string a0_2)]]=(fun (call:Ai)=>Ag (call 116 [.agg [.sc (.int .i64 a0_0),.sc (.int .u64 a0_1),.sc (.string a0_2)]]) fun x1 x2=>Ac x2<|Ab x1 fun x3 x4=>El 1 x3 fun x5 x6=>Ac x4<|Ap (decide (0+x5*1<=x6.length))<|Ap (decide (List.length (List.take (x5*1) (List.drop 0 x6))=x5))<|Ep (bytesOf (List.take (x5*1) (List.drop 0 x6))) fun x7=>Ap (decide (ByteArray.size (ByteArray.mk (List.toArray x7))+ByteArray.size a0_2<=9223372036854775807))<|Aa (ByteArray.mk (List.toArray x7)++a0_2) fun x8=>some (A0.mk [.sc (.string x8)] [])) (Ae C0 Tryz.prog fu d):=by kernel_rfl
end
section
open Go.IntKind (wrap)
def Id (s:ByteArray):List Int:=s.data.toList.map fun b=>(b.toNat:Int)
def Ca (l:List Int):ByteArray:=⟨(l.map fun n=>n.toNat.toUInt8).toArray⟩
theorem Oh (s:ByteArray):(Id s).length=s.size:=by
 unfold Id;rw [List.length_map];rfl
theorem YS (s:ByteArray):Jy (Id s):=by
 intro x hx;obtain ⟨b,_,rfl⟩:=List.mem_map.1 hx;have:=b.toNat_lt;omega
theorem Lt (s:ByteArray):Dl s=Af .u8 (Id s):=by
 unfold Dl Id
 induction s.data.toList with
 |nil=>rfl
 |cons b l ih=>rw [Zzw,Zzw,ih];rfl
theorem Fy (l:List Int):(Ca l).size=l.length:=by
 show (l.map fun n=>n.toNat.toUInt8).toArray.size=_
 simp
theorem Nq {l:List Int}(h:Jy l):Id (Ca l)=l:=by
 unfold Id Ca;simp only [List.map_map]
 have:∀l:List Int,Jy l->List.map ((fun b:UInt8=>(b.toNat:Int)) ∘ fun n:Int=>n.toNat.toUInt8) l=l:=by
  intro l
  induction l with
  |nil=>intro _;rfl
  |cons x l ih=>
   intro h;have hx:=h x (by simp)
   rw [Zzw,ih fun y hy=>h y (by simp [hy])]
   congr 1
   show ((x.toNat.toUInt8.toNat:Nat):Int)=x;rw [Nat.toUInt8,UInt8.toNat_ofNat'];omega
 exact this l h
theorem Zd (s:ByteArray):Ca (Id s)=s:=by
 unfold Ca Id;simp only [List.map_map]
 have:∀l:List UInt8,List.map ((fun n:Int=>n.toNat.toUInt8) ∘ fun b:UInt8=>(b.toNat:Int)) l=l:=by
  intro l
  induction l with
  |nil=>rfl
  |cons x l ih=>
   rw [Zzw,ih]
   congr 1
   show ((x.toNat:Int).toNat).toUInt8=x;rw [He];simp
 rw [this]
theorem Gw:∀l:List Int,bytesOf (Af .u8 l)=some (l.map fun n=>n.toNat.toUInt8)
 |[]=>rfl
 |x::l=>by
  show (bytesOf (Af .u8 l)).map (x.toNat.toUInt8 :: ·)=_
  rw [Gw l];rfl
theorem VS (l:List Int)(s:ByteArray):Ca l++s=Ca (l++Id s):=by
 conv=>lhs;rw [←Zd s]
 unfold Ca;apply ByteArray.ext;rw [ByteArray.data_append];simp
def tb (n:Int)(k:Nat):List Int:=(List.range' (8-k) k).map (C7 n)
def Cx (mj n:Int):List Int:=
 if n<24 then [32*mj+n] else if n<256 then (32*mj+24)::tb n 1 else if n<65536 then (32*mj+25)::tb n 2 else if n<4294967296 then (32*mj+26)::tb n 4 else (32*mj+27)::tb n 8
structure It where
 k:Int
 n:Int
 s:ByteArray
def It.cells (x:It):List PV:=[.sc (.int .i64 x.k),.sc (.int .u64 x.n),.sc (.string x.s)]
def Bp (x:It):List Int:=
 if x.k=7 then [wrap .u8 (244+wrap .u8 x.n)] else if x.k=8 then [246] else if x.k=3 then Cx 2 x.s.size++Id x.s else if x.k=4 then Cx 3 x.s.size++Id x.s else Cx (x.k-1) x.n
theorem Xx (n:Int)(k:Nat):(tb n k).length=k:=by simp [tb]
theorem A3z (n:Int)(k:Nat):Jy (tb n k):=by
 intro x hx;obtain ⟨j,_,rfl⟩:=List.mem_map.1 hx;exact UR n j
theorem G8 (mj n:Int):1<=(Cx mj n).length∧(Cx mj n).length<=9:=by
 unfold Cx
 repeat' split
 all_goals simp [Xx]
theorem QH {mj n:Int}(h0:0<=mj)(h1:mj<=6)(hn:0<=n):Jy (Cx mj n):=by
 have hc:∀(a:Int) (l:List Int),0<=a∧a<=255->Jy l->Jy (a::l):=by
  intro a l ha hl x hx;rcases List.mem_cons.1 hx with rfl|hx
  ·exact ha
  ·exact hl x hx
 unfold Cx
 repeat' split
 ·exact hc _ _ (by omega) (fun _ h=>by simp at h)
 all_goals exact hc _ _ (by omega) (A3z _ _)
theorem Abz {x:It}(h0:1<=x.k)(h1:x.k<=8)(hn:0<=x.n):Jy (Bp x):=by
 have happ:∀(a b:List Int),Jy a->Jy b->Jy (a++b):=by
  intro a b ha hb y hy;rcases List.mem_append.1 hy with h|h
  ·exact ha y h
  ·exact hb y h
 unfold Bp
 repeat' split
 ·intro y hy;simp at hy;subst hy;simp only [wrap,IntKind.signed,IntKind.bits];simp;omega
 ·intro y hy;simp at hy;omega
 ·exact happ _ _ (QH (by omega) (by omega) (by omega)) (YS _)
 ·exact happ _ _ (QH (by omega) (by omega) (by omega)) (YS _)
 ·exact QH (by omega) (by omega) hn
theorem Gk (x:It):(Bp x).length<=9+x.s.size:=by
 unfold Bp;have h2:=G8 2 x.s.size;have h3:=G8 3 x.s.size;have h4:=G8 (x.k-1) x.n;have hs:=Oh x.s
 repeat' split
 all_goals try simp only [Jz,J2,Wh]
 all_goals omega
section
variable {fu d:Nat}
theorem PJ {call:Ai}{a0n:Nat}{a0:List PV}{a1 a2 n:Int}:∀(k nn:Nat)(l:List Int),k<=8->k<nn->l.length+k<=1000000 ->
  Ds fu call a0n a0 a1 a2 nn l.length n ((k:Int)-1) (Af .u8 l)=some ⟨[.own 1 (l++tb n k).length (Af .u8 (l++tb n k))],[]⟩
 |_,0,_,_,h,_=>by omega
 |0,nn+1,l,hk,hn,hl=>by
  have L:=Ak .u8 l;rw [L8,Dr _ _ _ (by omega)]
  simp (disch:=omega) only [Bz,B8,J3,L];simp [tb]
 |k+1,nn+1,l,hk,hn,hl=>by
  have ih:=PJ (call:=call) (a0n:=a0n) (a0:=a0) (a1:=a1) (a2:=a2) (n:=n) k nn (l++[C7 n (8-(k+1))]) (by omega) (by omega) (by simp;omega)
  have L:=Ak .u8 l;have w8:wrap .i64 (8*(((k+1:Nat):Int)-1))=8*(k:Int):=by rw [Aj (by omega) (by omega)];omega
  have w:wrap .i64 (((k+1:Nat):Int)-1-1)=(k:Int)-1:=by rw [Aj (by omega) (by omega)];omega
  have hb:wrap .u8 (D3 .u64 n (8*(k:Int)))=C7 n (8-(k+1)):=by
   unfold C7;rw [show 56-8*((8-(k+1):Nat):Int)=8*(k:Int) by omega]
  have et:tb n (k+1)=C7 n (8-(k+1))::tb n k:=by
   unfold tb;rw [List.range'_succ,Zzw,show 8-(k+1)+1=8-k by omega]
  have ea:l++tb n (k+1)=l++[C7 n (8-(k+1))]++tb n k:=by rw [et];simp
  rw [ea,←ih,L8];simp (disch:=omega) only [Bz,w8,hb,w,B8,J3,L,F1,Jz,J2,Wh,Br]
theorem Az7 {mj:Int}(h0:0<=mj)(h1:mj<=7):G4 .u8 mj 5=32*mj:=by
 have:mj=0∨mj=1∨mj=2∨mj=3∨mj=4∨mj=5∨mj=6∨mj=7:=by omega
 rcases this with rfl|rfl|rfl|rfl|rfl|rfl|rfl|rfl<;>decide
theorem Aa9 (hfu:1000<=fu){l:List Int}(hl:l.length<=900000){mj n:Int}(h0:0<=mj)(h1:mj<=5)(hn:0<=n):Ae C0 Tryz.prog fu (d+1) Ji [.own 1 l.length (Af .u8 l),.sc (.int .u8 mj),.sc (.int .u64 n)]=some ⟨[.own 1 (l++Cx mj n).length (Af .u8 (l++Cx mj n))],[]⟩:=by
 rw [Zm];have s5:=Az7 h0 (by omega)
 have L:=Ak .u8 l;have w24:wrap .u8 (32*mj+24)=32*mj+24:=Fn (by omega) (by omega)
 have w25:wrap .u8 (32*mj+25)=32*mj+25:=Fn (by omega) (by omega)
 have w26:wrap .u8 (32*mj+26)=32*mj+26:=Fn (by omega) (by omega)
 have w27:wrap .u8 (32*mj+27)=32*mj+27:=Fn (by omega) (by omega)
 have lp:=fun (k:Nat) (hk:k<=8) (b:Int)=>PJ (fu:=fu) (call:=Ae C0 Tryz.prog fu d) (a0n:=l.length) (a0:=Af .u8 l) (a1:=mj) (a2:=n) (n:=n) k fu (l++[b]) hk (by omega) (by simp;omega)
 have ec:∀(b:Int) (t:List Int),l++b::t=l++[b]++t:=by intro b t;simp
 unfold Cx;by_cases c1:n<24
 ·have wn:wrap .u8 n=n:=Fn (by omega) (by omega)
  have ws:wrap .u8 (32*mj+n)=32*mj+n:=Fn (by omega) (by omega)
  have L1:=Ak .u8 (l++[32*mj+n]);have t1:=J3 .u8 (l++[32*mj+n]);simp only [Jz,J2,Wh,Br] at L1 t1;rw [B4 c1];simp (disch:=omega) only [Bz,s5,wn,ws,B8,J3,L,F1,L1,t1,Jz,J2,Wh,Br]
 ·by_cases c2:n<256
  ·have l1:=lp 1 (by omega) (32*mj+24)
   rw [show ((1:Nat):Int)-1=0 by omega] at l1
   rw [A6 c1,B4 c2,ec,←l1];simp (disch:=omega) only [Bz,s5,w24,B8,J3,L,F1,Jz,J2,Wh,Br]
  ·by_cases c3:n<65536
   ·have l1:=lp 2 (by omega) (32*mj+25)
    rw [show ((2:Nat):Int)-1=1 by omega] at l1
    rw [A6 c1,A6 c2,B4 c3,ec,←l1];simp (disch:=omega) only [Bz,s5,w25,B8,J3,L,F1,Jz,J2,Wh,Br]
   ·by_cases c4:n<4294967296
    ·have l1:=lp 4 (by omega) (32*mj+26)
     rw [show ((4:Nat):Int)-1=3 by omega] at l1
     rw [A6 c1,A6 c2,A6 c3,B4 c4,ec,←l1];simp (disch:=omega) only [Bz,s5,w26,B8,J3,L,F1,Jz,J2,Wh,Br]
    ·have l1:=lp 8 (by omega) (32*mj+27)
     rw [show ((8:Nat):Int)-1=7 by omega] at l1
     rw [A6 c1,A6 c2,A6 c3,A6 c4,ec,←l1];simp (disch:=omega) only [Bz,s5,w27,B8,J3,L,F1,Jz,J2,Wh,Br]
structure It.ok (x:It):Prop where
 k1:1<=x.k
 k8:x.k<=8
 n0:0<=x.n
 s0:x.s.size<=500000
theorem Aa5 (hfu:1000<=fu){l:List Int}(hl:l.length<=300000){x:It}(hx:x.ok):Ae C0 Tryz.prog fu (d+2) Qe [.own 1 l.length (Af .u8 l),.agg x.cells]=some ⟨[.own 1 (l++Bp x).length (Af .u8 (l++Bp x))],[]⟩:=by
 obtain ⟨k,n,s⟩:=x;obtain ⟨k1,k8,n0,s0⟩:=hx;simp only at k1 k8 n0 s0;refine (Y3 fu (d+1) l.length (Af .u8 l) k n s).trans ?_;have L:=Ak .u8 l;have hsl:=Oh s;unfold Bp;simp only;by_cases c7:k=7
 ·subst c7;have L1:=Ak .u8 (l++[wrap .u8 (244+wrap .u8 n)]);have t1:=J3 .u8 (l++[wrap .u8 (244+wrap .u8 n)]);simp only [Jz,J2,Wh,Br] at L1 t1;simp (disch:=omega) only [Bz,E9,if_true,B8,J3,L,F1,L1,t1,Jz,J2,Wh,Br]
 ·by_cases c8:k=8
  ·subst c8;have L1:=Ak .u8 (l++[246]);have t1:=J3 .u8 (l++[246]);simp only [Jz,J2,Wh,Br] at L1 t1;rw [A6 c7,B4 rfl];simp (disch:=omega) only [Bz,E9,c7,if_false,if_true,B8,J3,L,F1,L1,t1,Jz,J2,Wh,Br]
  ·have dat:∀mj:Int,0<=mj->mj<=5->(Ae C0 Tryz.prog fu (d+1) Ji [.own 1 l.length (Af .u8 l),.sc (.int .u8 mj),.sc (.int .u64 s.size)]=some ⟨[.own 1 (l++Cx mj s.size).length (Af .u8 (l++Cx mj s.size))],[]⟩)∧(l++Cx mj s.size).length<=300009∧List.take (l++Cx mj s.size).length (Af .u8 (l++Cx mj s.size))=Af .u8 (l++Cx mj s.size)∧(Af .u8 (l++Cx mj s.size)).length=(l++Cx mj s.size).length∧Af .u8 (l++Cx mj s.size)++Dl s=Af .u8 (l++(Cx mj s.size++Id s))∧(l++(Cx mj s.size++Id s)).length=(l++Cx mj s.size).length+s.size∧(Af .u8 (l++(Cx mj s.size++Id s))).length=(l++Cx mj s.size).length+s.size:=by
    intro mj h0 h1;have hh:=G8 mj s.size;refine ⟨Aa9 hfu (by omega) h0 h1 (by omega),by rw [Jz];omega,J3 _ _,Ak _ _,?_,?_,?_⟩
    ·rw [Lt,←WY,Af,Af,Af,List.flatMap_append (xs:=l++Cx mj s.size)]
    ·rw [←WY,Jz,hsl]
    ·rw [Ak,←WY,Jz,hsl]
   have ss:(Dl s).length=s.size:=by rw [Lt,Ak,hsl]
   have wsz:wrap .u64 (s.size:Int)=s.size:=Cn (by omega) (by omega)
   rw [A6 c7,A6 c8];by_cases c3:k=3
   ·subst c3;obtain ⟨p1,p2,p3,p4,p5,p6,p7⟩:=dat 2 (by omega) (by omega)
    have w1:wrap .i64 ((3:Int)-1)=2:=by decide
    have w2:wrap .u8 (2:Int)=2:=by decide
    have t1:List.take ((l++Cx 2 s.size).length+s.size) (Af .u8 (l++(Cx 2 s.size++Id s)))=Af .u8 (l++(Cx 2 s.size++Id s)):=R9 (by omega)
    rw [B4 rfl];simp (disch:=omega) only [Bz,E9,c7,c8,if_false,if_true,w1,w2,wsz,B8,J3,L,p1];generalize (l++Cx 2 s.size).length=N at *
    simp (disch:=omega) only [Bz,B8,p3,p4,p5,p7,t1,ss];rw [p6]
   ·by_cases c4:k=4
    ·subst c4;obtain ⟨p1,p2,p3,p4,p5,p6,p7⟩:=dat 3 (by omega) (by omega)
     have w1:wrap .i64 ((4:Int)-1)=3:=by decide
     have w2:wrap .u8 (3:Int)=3:=by decide
     have t1:List.take ((l++Cx 3 s.size).length+s.size) (Af .u8 (l++(Cx 3 s.size++Id s)))=Af .u8 (l++(Cx 3 s.size++Id s)):=R9 (by omega)
     rw [A6 c3,B4 rfl];simp (disch:=omega) only [Bz,E9,c7,c8,c3,if_false,if_true,w1,w2,wsz,B8,J3,L,p1];generalize (l++Cx 3 s.size).length=N at *
     simp (disch:=omega) only [Bz,B8,p3,p4,p5,p7,t1,ss];rw [p6]
    ·have w1:wrap .i64 (k-1)=k-1:=Aj (by omega) (by omega)
     have w2:wrap .u8 (k-1)=k-1:=Fn (by omega) (by omega)
     have p1:=Aa9 (fu:=fu) (d:=d) hfu (l:=l) (by omega) (mj:=k-1) (n:=n) (by omega) (by omega) n0
     have L2:=Ak .u8 (l++Cx (k-1) n);have t2:=J3 .u8 (l++Cx (k-1) n);rw [A6 c3,A6 c4];simp (disch:=omega) only [Bz,E9,c7,c8,c3,c4,if_false,w1,w2,B8,J3,L,p1,L2,t2]
end
end
section
open Go.IntKind (wrap)
set_option maxRecDepth 100000
abbrev Kh:FuncId:=48
theorem Ty (fu d:Nat)(a0 a1 a2:Int):Ae C0 Tryz.prog fu (d+1) Kh [.sc (.int .i64 a0),.sc (.int .i64 a1),.sc (.int .i64 a2)]=(fun (call:Ai)=>Bc (decide (a0>=a1)) (some (A0.mk [.sc (.bool (decide (a0<=a2)))] [])) (some (A0.mk [.sc (.bool false)] []))) (Ae C0 Tryz.prog fu d):=by kernel_rfl
abbrev Mh:FuncId:=59
theorem Vg (fu d:Nat)(a0:Int):Ae C0 Tryz.prog fu (d+1) Mh [.sc (.int .i64 a0)]=(fun (call:Ai)=>Aa (wrap .u64 a0) fun x1=>some (A0.mk [.agg [.sc (.int .i64 5),.sc (.int .u64 x1),.sc (.string (ByteArray.mk #[]))]] [])) (Ae C0 Tryz.prog fu d):=by kernel_rfl
abbrev Ng:FuncId:=60
theorem Wu (fu d:Nat)(a0:ByteArray):Ae C0 Tryz.prog fu (d+1) Ng [.sc (.string a0)]=(fun (call:Ai)=>some (A0.mk [.agg [.sc (.int .i64 4),.sc (.int .u64 0),.sc (.string a0)]] [])) (Ae C0 Tryz.prog fu d):=by kernel_rfl
abbrev Ka:FuncId:=61
theorem Tr (fu d:Nat)(a0:Int):Ae C0 Tryz.prog fu (d+1) Ka [.sc (.int .u64 a0)]=(fun (call:Ai)=>some (A0.mk [.agg [.sc (.int .i64 1),.sc (.int .u64 a0),.sc (.string (ByteArray.mk #[]))]] [])) (Ae C0 Tryz.prog fu d):=by kernel_rfl
abbrev M4:FuncId:=62
theorem Wv (fu d a0n:Nat)(a0:List PV):Ae C0 Tryz.prog fu (d+1) M4 [.lst false 1 a0n a0]=(fun (call:Ai)=>Ap (decide (a0.length=a0n))<|Ep (bytesOf a0) fun x1=>some (A0.mk [.agg [.sc (.int .i64 3),.sc (.int .u64 0),.sc (.string (ByteArray.mk (List.toArray x1)))]] [])) (Ae C0 Tryz.prog fu d):=by kernel_rfl
abbrev Jg:FuncId:=63
theorem Se (fu d:Nat)(a0:Bool):Ae C0 Tryz.prog fu (d+1) Jg [.sc (.bool a0)]=(fun (call:Ai)=>Bc (a0) (some (A0.mk [.agg [.sc (.int .i64 7),.sc (.int .u64 1),.sc (.string (ByteArray.mk #[]))]] [])) (some (A0.mk [.agg [.sc (.int .i64 7),.sc (.int .u64 0),.sc (.string (ByteArray.mk #[]))]] []))) (Ae C0 Tryz.prog fu d):=by kernel_rfl
abbrev L5:FuncId:=58
noncomputable def Fs (fu:Nat)(call:Ai)(a0n:Nat)(a0:List PV)(nn y0:Nat)(y1:List PV)(y2:Nat)(y3:Int)(y4:List PV):Option A0:=C5 CB Tryz.prog fu call 58 Tryz.f58 (Bw Tryz.f58) [.lst false 3 a0n a0] [.r,.r,.l,.r,.l] nn ⟨lk [(0,(.lst false 3 y0 y1)),(3,(.view 3 1 0 y2)),(4,(.sc (.int .i64 y3)))],B5 [(3,(.ar false y4))]⟩
theorem Ja (fu:Nat)(call:Ai)(a0n:Nat)(a0:List PV)(nn y0:Nat)(y1:List PV)(y2:Nat)(y3:Int)(y4:List PV):Fs fu call a0n a0 (nn+1) y0 y1 y2 y3 y4=(Bc (decide (y3<(↑y0:Int))) (Ap (decide (0<=y3)&&decide (y3<(↑y0:Int)))<|Ad .i64 (List.getD y1 (Int.toNat y3*3) .top) fun x1=>Ad .u64 (List.getD y1 (Int.toNat y3*3+1) .top) fun x2=>Co (List.getD y1 (Int.toNat y3*3+1+1) .top) fun x3=>Ag (call 94 [.agg [.sc (.int .i64 x1),.sc (.int .u64 x2),.sc (.string x3)]]) fun x4 x5=>Ac x5<|Ab x4 fun x6 x7=>Co x6 fun x8=>Ac x7<|Ap (decide (y2*1<=y4.length)&&decide (List.length (Dl x8)=ByteArray.size x8*1)&&decide ((y2+ByteArray.size x8)*1<=1099511627776)&&decide (y2+ByteArray.size x8<=1099511627776))<|Aa (y2+ByteArray.size x8) fun x9=>Aa (List.take (y2*1) y4++Dl x8) fun Cm=>Aa (wrap .i64 (y3+1)) fun C3=>Fs fu call a0n a0 (nn) (y0) (y1) x9 C3 Cm) (Ap (decide (y2*1<=y4.length))<|some (A0.mk [.own 1 y2 (List.take (y2*1) y4)] []))):=by kernel_rfl
theorem Ug (fu d a0n:Nat)(a0:List PV):Ae C0 Tryz.prog fu (d+1) L5 [.lst false 3 a0n a0]=(fun (call:Ai)=>Fs fu call a0n a0 (fu) (a0n) (a0) 0 0 ([])) (Ae C0 Tryz.prog fu d):=by kernel_rfl
abbrev Ni:FuncId:=32
theorem Ws (fu d:Nat)(a0_0 a0_1:ByteArray)(a0_2 a0_3:Int)(a0_4 a0_5 a0_6:Int)(a0_7:Bool)(a0_8 a0_9 a0_10:Int)(a0_11n:Nat)(a0_11:List PV)(a0_12n:Nat)(a0_12:List PV):Ae C0 Tryz.prog fu (d+1) Ni [.agg [.sc (.string a0_0),.sc (.string a0_1),.sc (.int .u64 a0_2),.sc (.int .i64 a0_3),.sc (.int .u64 a0_4),.sc (.int .i64 a0_5),.sc (.int .i64 a0_6),.sc (.bool a0_7),.sc (.int .i64 a0_8),.sc (.int .u64 a0_9),.sc (.int .i64 a0_10),.lst false 1 a0_11n a0_11,.lst false 1 a0_12n a0_12]]=(fun (call:Ai)=>Ag (call 48 [.sc (.int .i64 (↑(ByteArray.size a0_0):Int)),.sc (.int .i64 1),.sc (.int .i64 32)]) fun x1 x2=>Ac x2<|Ab x1 fun x3 x4=>Bl x3 fun x5=>Ac x4<|Bc (!x5) (some (A0.mk [.own 1 0 [],.sc (.int .i64 9)] [])) (Ag (call 48 [.sc (.int .i64 (↑(ByteArray.size a0_1):Int)),.sc (.int .i64 1),.sc (.int .i64 32)]) fun x6 x7=>Ac x7<|Ab x6 fun x8 x9=>Bl x8 fun Cm=>Ac x9<|Bc (!Cm) (some (A0.mk [.own 1 0 [],.sc (.int .i64 9)] [])) (Ag (call 56 [.sc (.string a0_0)]) fun C3 Dt=>Ac Dt<|Ab C3 fun D0 Dq=>Bl D0 fun Ed=>Ac Dq<|Bc (!Ed) (some (A0.mk [.own 1 0 [],.sc (.int .i64 6)] [])) (Ag (call 56 [.sc (.string a0_1)]) fun Ek Ez=>Ac Ez<|Ab Ek fun Fo Fg=>Bl Fo fun Ex=>Ac Fg<|Bc (!Ex) (some (A0.mk [.own 1 0 [],.sc (.int .i64 6)] [])) (Ag (call 57 [.agg [.sc (.int .i64 a0_3),.sc (.int .u64 a0_4)]]) fun H6 Gz=>Ac Gz<|Ab H6 fun Hx D1=>El 1 Hx fun Dm F6=>Ab D1 fun H9 Ey=>Ad .i64 H9 fun Jw=>Ac Ey<|Bc (Jw != 0) (some (A0.mk [.own 1 0 [],.sc (.int .i64 Jw)] [])) (Bc (decide (a0_5<0)) (some (A0.mk [.own 1 0 [],.sc (.int .i64 9)] [])) (Bc (decide (a0_6<a0_5)) (some (A0.mk [.own 1 0 [],.sc (.int .i64 9)] [])) (Bc (decide (a0_6>1099511627776)) (some (A0.mk [.own 1 0 [],.sc (.int .i64 9)] [])) (Ag (call 48 [.sc (.int .i64 a0_8),.sc (.int .i64 0),.sc (.int .i64 2)]) fun Mq J1=>Ac J1<|Ab Mq fun Mm Ml=>Bl Mm fun Ny=>Ac Ml<|Bc (!Ny) (some (A0.mk [.own 1 0 [],.sc (.int .i64 9)] [])) (Bc (a0_8 != 0) (Bc (!a0_7) (some (A0.mk [.own 1 0 [],.sc (.int .i64 4)] [])) (Ag (call 59 [.sc (.int .i64 9)]) fun Pu Qp=>Ac Qp<|Ab Pu fun Sd G2=>Cy Sd fun J0=>Ab J0 fun Ur Yu=>Ad .i64 Ur fun Oo=>Ab Yu fun Uh Tq=>Ad .u64 Uh fun Sr=>Ab Tq fun Tp Xh=>Co Tp fun X6=>Ac Xh<|Ac G2<|Ag (call 60 [.sc (.string a0_0)]) fun Ss Wm=>Ac Wm<|Ab Ss fun Wy Xd=>Cy Wy fun Pi=>Ab Pi fun Yi BM=>Ad .i64 Yi fun BL=>Ab BM fun P2 Ub=>Ad .u64 P2 fun Ym=>Ab Ub fun AF Y2=>Co AF fun Zi=>Ac Y2<|Ac Xd<|Ag (call 60 [.sc (.string a0_1)]) fun CH AO=>Ac AO<|Ab CH fun BK W0=>Cy BK fun Xq=>Ab Xq fun EF BQ=>Ad .i64 EF fun BI=>Ab BQ fun Y1 BN=>Ad .u64 Y1 fun KF=>Ab BN fun BJ CU=>Co BJ fun GQ=>Ac CU<|Ac W0<|Ag (call 61 [.sc (.int .u64 a0_2)]) fun BP ET=>Ac ET<|Ab BP fun IH JL=>Cy IH fun TB=>Ab TB fun SE QK=>Ad .i64 SE fun OA=>Ab QK fun WJ SX=>Ad .u64 WJ fun SS=>Ab SX fun SN GN=>Co SN fun PB=>Ac GN<|Ac JL<|Ap (decide (0+Dm*1<=F6.length))<|Ag (call 62 [.lst false 1 Dm (List.take (Dm*1) (List.drop 0 F6))]) fun RW UC=>Ac UC<|Ab RW fun UN ZL=>Cy UN fun ZZ=>Ab ZZ fun YV WZ=>Ad .i64 YV fun x98=>Ab WZ fun x99 Y9=>Ad .u64 x99 fun Xn=>Ab Y9 fun H2 D2=>Co H2 fun DK=>Ac D2<|Ac ZL<|Aa (wrap .u64 a0_5) fun Tv=>Ag (call 61 [.sc (.int .u64 Tv)]) fun Ts Ln=>Ac Ln<|Ab Ts fun DN DW=>Cy DN fun DR=>Ab DR fun CG Iy=>Ad .i64 CG fun Lf=>Ab Iy fun BZ BV=>Ad .u64 BZ fun DV=>Ab BV fun JD Vm=>Co JD fun Xp=>Ac Vm<|Ac DW<|Aa (wrap .u64 a0_6) fun Z1=>Ag (call 61 [.sc (.int .u64 Z1)]) fun Zf CY=>Ac CY<|Ab Zf fun GK Tu=>Cy GK fun Ta=>Ab Ta fun Rn Vu=>Ad .i64 Rn fun Tx=>Ab Vu fun BG Yo=>Ad .u64 BG fun JB=>Ab Yo fun DU Ye=>Co DU fun GA=>Ac Ye<|Ac Tu<|Ag (call 63 [.sc (.bool a0_7)]) fun IW HS=>Ac HS<|Ab IW fun LV IC=>Cy LV fun DO=>Ab DO fun GJ HJ=>Ad .i64 GJ fun JN=>Ab HJ fun JX DC=>Ad .u64 JX fun FX=>Ab DC fun GL FZ=>Co GL fun HM=>Ac FZ<|Ac IC<|Aa (wrap .u64 a0_8) fun QY=>Ag (call 61 [.sc (.int .u64 QY)]) fun TA SH=>Ac SH<|Ab TA fun DH MP=>Cy DH fun RB=>Ab RB fun ZE ZC=>Ad .i64 ZE fun VO=>Ab ZC fun RU VE=>Ad .u64 RU fun YJ=>Ab VE fun ZI TF=>Co ZI fun ZM=>Ac TF<|Ac MP<|Ag (call 61 [.sc (.int .u64 a0_9)]) fun QJ XR=>Ac XR<|Ab QJ fun ZO QC=>Cy ZO fun VK=>Ab VK fun Aan ZD=>Ad .i64 Aan fun Aah=>Ab ZD fun Af4 Agg=>Ad .u64 Af4 fun Ah8=>Ab Agg fun Aag Add=>Co Aag fun Aht=>Ac Add<|Ac QC<|Ag (call 58 [.lst false 3 10 [.sc (.int .i64 Oo),.sc (.int .u64 Sr),.sc (.string X6),.sc (.int .i64 BL),.sc (.int .u64 Ym),.sc (.string Zi),.sc (.int .i64 BI),.sc (.int .u64 KF),.sc (.string GQ),.sc (.int .i64 OA),.sc (.int .u64 SS),.sc (.string PB),.sc (.int .i64 x98),.sc (.int .u64 Xn),.sc (.string DK),.sc (.int .i64 Lf),.sc (.int .u64 DV),.sc (.string Xp),.sc (.int .i64 Tx),.sc (.int .u64 JB),.sc (.string GA),.sc (.int .i64 JN),.sc (.int .u64 FX),.sc (.string HM),.sc (.int .i64 VO),.sc (.int .u64 YJ),.sc (.string ZM),.sc (.int .i64 Aah),.sc (.int .u64 Ah8),.sc (.string Aht)]]) fun Agm Ahy=>Ac Ahy<|Ab Agm fun An5 Aor=>El 1 An5 fun Afe Ajt=>Ac Aor<|Ap (decide (Afe*1<=Ajt.length))<|some (A0.mk [.own 1 Afe (List.take (Afe*1) Ajt),.sc (.int .i64 0)] []))) (Ag (call 59 [.sc (.int .i64 9)]) fun Amm Aq5=>Ac Aq5<|Ab Amm fun Ap3 Aoi=>Cy Ap3 fun Aou=>Ab Aou fun Amz Ark=>Ad .i64 Amz fun App=>Ab Ark fun Anc Anz=>Ad .u64 Anc fun Aqu=>Ab Anz fun Ao7 Anx=>Co Ao7 fun Ank=>Ac Anx<|Ac Aoi<|Ag (call 60 [.sc (.string a0_0)]) fun Aqa Apw=>Ac Apw<|Ab Aqa fun Aod And=>Cy Aod fun Aqd=>Ab Aqd fun Aqq Arb=>Ad .i64 Aqq fun Aq2=>Ab Arb fun Amn Aqk=>Ad .u64 Amn fun An8=>Ab Aqk fun Apv Anr=>Co Apv fun Asf=>Ac Anr<|Ac And<|Ag (call 60 [.sc (.string a0_1)]) fun Anp An3=>Ac An3<|Ab Anp fun Aml Amo=>Cy Aml fun Asx=>Ab Asx fun Arc Aql=>Ad .i64 Arc fun Aps=>Ab Aql fun An9 As0=>Ad .u64 An9 fun Amq=>Ab As0 fun Anv Am0=>Co Anv fun Apn=>Ac Am0<|Ac Amo<|Ag (call 61 [.sc (.int .u64 a0_2)]) fun Aqp Aom=>Ac Aom<|Ab Aqp fun Amc Aq1=>Cy Amc fun Am3=>Ab Am3 fun Ape Ap4=>Ad .i64 Ape fun Apj=>Ab Ap4 fun Aq6 Asi=>Ad .u64 Aq6 fun Aoq=>Ab Asi fun Apa Asu=>Co Apa fun Amt=>Ac Asu<|Ac Aq1<|Ap (decide (0+Dm*1<=F6.length))<|Ag (call 62 [.lst false 1 Dm (List.take (Dm*1) (List.drop 0 F6))]) fun Am5 Ap9=>Ac Ap9<|Ab Am5 fun Aol Aqe=>Cy Aol fun Apf=>Ab Apf fun Aqf Apb=>Ad .i64 Aqf fun Aog=>Ab Apb fun Aqy Apl=>Ad .u64 Aqy fun Ase=>Ab Apl fun Arj Ao9=>Co Arj fun Ani=>Ac Ao9<|Ac Aqe<|Aa (wrap .u64 a0_5) fun Am2=>Ag (call 61 [.sc (.int .u64 Am2)]) fun Ap6 Ap0=>Ac Ap0<|Ab Ap6 fun Aok Amd=>Cy Aok fun Ans=>Ab Ans fun Aob Arf=>Ad .i64 Aob fun Am9=>Ab Arf fun Aq4 Arn=>Ad .u64 Aq4 fun Aqo=>Ab Arn fun Ame Anj=>Co Ame fun Anu=>Ac Anj<|Ac Amd<|Aa (wrap .u64 a0_6) fun Aqi=>Ag (call 61 [.sc (.int .u64 Aqi)]) fun Arh Am1=>Ac Am1<|Ab Arh fun Ams Am8=>Cy Ams fun Amw=>Ab Amw fun Aqm Aox=>Ad .i64 Aqm fun Aon=>Ab Aox fun Arm Ana=>Ad .u64 Arm fun Apz=>Ab Ana fun Anm Amu=>Co Anm fun Amv=>Ac Amu<|Ac Am8<|Ag (call 63 [.sc (.bool a0_7)]) fun Aoj Aow=>Ac Aow<|Ab Aoj fun Aq0 Anh=>Cy Aq0 fun Ann=>Ab Ann fun Aqb Aq8=>Ad .i64 Aqb fun Ao3=>Ab Aq8 fun Am6 Apy=>Ad .u64 Am6 fun Apr=>Ab Apy fun Aqr Ass=>Co Aqr fun Aoc=>Ac Ass<|Ac Anh<|Aa (wrap .u64 a0_8) fun Apo=>Ag (call 61 [.sc (.int .u64 Apo)]) fun Aoa Apg=>Ac Apg<|Ab Aoa fun Ar1 Aqw=>Cy Ar1 fun Aqn=>Ab Aqn fun Am7 Apc=>Ad .i64 Am7 fun Ar8=>Ab Apc fun Aoh Ap7=>Ad .u64 Aoh fun Amy=>Ab Ap7 fun Am4 Ano=>Co Am4 fun Ap5=>Ac Ano<|Ac Aqw<|Ag (call 61 [.sc (.int .u64 a0_9)]) fun Acs Apm=>Ac Apm<|Ab Acs fun An6 Aq3=>Cy An6 fun Api=>Ab Api fun Asy ZW=>Ad .i64 Asy fun Aal=>Ab ZW fun Apu Aqt=>Ad .u64 Apu fun XO=>Ab Aqt fun Aoy Aov=>Co Aoy fun Aqx=>Ac Aov<|Ac Aq3<|Ag (call 58 [.lst false 3 10 [.sc (.int .i64 App),.sc (.int .u64 Aqu),.sc (.string Ank),.sc (.int .i64 Aq2),.sc (.int .u64 An8),.sc (.string Asf),.sc (.int .i64 Aps),.sc (.int .u64 Amq),.sc (.string Apn),.sc (.int .i64 Apj),.sc (.int .u64 Aoq),.sc (.string Amt),.sc (.int .i64 Aog),.sc (.int .u64 Ase),.sc (.string Ani),.sc (.int .i64 Am9),.sc (.int .u64 Aqo),.sc (.string Anu),.sc (.int .i64 Aon),.sc (.int .u64 Apz),.sc (.string Amv),.sc (.int .i64 Ao3),.sc (.int .u64 Apr),.sc (.string Aoc),.sc (.int .i64 Ar8),.sc (.int .u64 Amy),.sc (.string Ap5),.sc (.int .i64 Aal),.sc (.int .u64 XO),.sc (.string Aqx)]]) fun Arl Ami=>Ac Ami<|Ab Arl fun Amp Apd=>El 1 Amp fun Afk Aka=>Ac Apd<|Ap (decide (Afk*1<=Aka.length))<|some (A0.mk [.own 1 Afk (List.take (Afk*1) Aka),.sc (.int .i64 0)] [])))))))))))) (Ae C0 Tryz.prog fu d):=by kernel_rfl
abbrev M2:FuncId:=13
theorem Wi (fu d:Nat)(a0_0 a0_1:ByteArray)(a0_2 a0_3:Int)(a0_4 a0_5 a0_6:Int)(a0_7:Bool)(a0_8 a0_9 a0_10:Int)(a0_11n:Nat)(a0_11:List PV)(a0_12n:Nat)(a0_12:List PV)(a1 a2 a3:Int):Ae C0 Tryz.prog fu (d+1) M2 [.agg [.sc (.string a0_0),.sc (.string a0_1),.sc (.int .u64 a0_2),.sc (.int .i64 a0_3),.sc (.int .u64 a0_4),.sc (.int .i64 a0_5),.sc (.int .i64 a0_6),.sc (.bool a0_7),.sc (.int .i64 a0_8),.sc (.int .u64 a0_9),.sc (.int .i64 a0_10),.lst false 1 a0_11n a0_11,.lst false 1 a0_12n a0_12],.sc (.int .u64 a1),.sc (.int .i64 a2),.sc (.int .i64 a3)]=(fun (call:Ai)=>Ag (call 32 [.agg [.sc (.string a0_0),.sc (.string a0_1),.sc (.int .u64 a0_2),.sc (.int .i64 a0_3),.sc (.int .u64 a0_4),.sc (.int .i64 a0_5),.sc (.int .i64 a0_6),.sc (.bool a0_7),.sc (.int .i64 a0_8),.sc (.int .u64 a0_9),.sc (.int .i64 a0_10),.lst false 1 a0_11n a0_11,.lst false 1 a0_12n a0_12]]) fun x1 x2=>Ac x2<|Ab x1 fun x3 x4=>El 1 x3 fun x5 x6=>Ab x4 fun x7 x8=>Ad .i64 x7 fun x9=>Ac x8<|Bc (x9 != 0) (some (A0.mk [.agg [.sc (.string (ByteArray.mk #[])),.sc (.string (ByteArray.mk #[])),.sc (.int .u64 0),.sc (.int .i64 0),.sc (.int .u64 0),.sc (.int .i64 0),.sc (.int .i64 0),.sc (.bool false),.sc (.int .i64 0),.sc (.int .u64 0),.sc (.int .i64 0),.lst false 1 0 [],.lst false 1 0 []],.sc (.int .i64 x9)] [])) (Ap (decide (0+x5*1<=x6.length))<|Ag (call 34 [.sc (.int .i64 14),.lst false 1 x5 (List.take (x5*1) (List.drop 0 x6))]) fun Cm C3=>Ac C3<|Ab Cm fun Dt D0=>Ad .u64 Dt fun Dq=>Ac D0<|Ag (call 33 [.sc (.int .u64 a1),.sc (.int .i64 a2),.sc (.int .i64 a3),.sc (.int .u64 Dq)]) fun Ed Ek=>Ac Ek<|Ab Ed fun Ez Fo=>Cy Ez fun Fg=>Ab Fg fun Ex H6=>Ad .i64 Ex fun Gz=>Ab H6 fun Hx D1=>El 1 Hx fun Dm F6=>Ab D1 fun H9 Ey=>El 1 H9 fun Jw Mq=>Ac Ey<|Ab Fo fun J1 Mm=>Ad .i64 J1 fun Ml=>Ac Mm<|Bc (Ml != 0) (some (A0.mk [.agg [.sc (.string (ByteArray.mk #[])),.sc (.string (ByteArray.mk #[])),.sc (.int .u64 0),.sc (.int .i64 0),.sc (.int .u64 0),.sc (.int .i64 0),.sc (.int .i64 0),.sc (.bool false),.sc (.int .i64 0),.sc (.int .u64 0),.sc (.int .i64 0),.lst false 1 0 [],.lst false 1 0 []],.sc (.int .i64 Ml)] [])) (Ap (decide (0+Dm*1<=F6.length))<|Ap (decide (0+Jw*1<=Mq.length))<|some (A0.mk [.agg [.sc (.string a0_0),.sc (.string a0_1),.sc (.int .u64 a0_2),.sc (.int .i64 a0_3),.sc (.int .u64 a0_4),.sc (.int .i64 a0_5),.sc (.int .i64 a0_6),.sc (.bool a0_7),.sc (.int .i64 a0_8),.sc (.int .u64 a0_9),.sc (.int .i64 Gz),.lst false 1 Dm (List.take (Dm*1) (List.drop 0 F6)),.lst false 1 Jw (List.take (Jw*1) (List.drop 0 Mq))],.sc (.int .i64 0)] [])))) (Ae C0 Tryz.prog fu d):=by kernel_rfl
abbrev Gn:FuncId:=19
theorem Ld (fu d:Nat)(a0_0 a0_1:ByteArray)(a0_2 a0_3:Int)(a0_4 a0_5 a0_6:Int)(a0_7:Bool)(a0_8 a0_9 a0_10:Int)(a0_11n:Nat)(a0_11:List PV)(a0_12n:Nat)(a0_12:List PV)(a1_0 a1_1:ByteArray)(a1_2 Agy:Int)(Ah4 Ah0 Agc:Int)(Afq:Bool)(Ag5 Afz TY:Int)(Ah2:Nat)(UB:List PV)(Ai7:Nat)(TQ:List PV):Ae C0 Tryz.prog fu (d+1) Gn [.agg [.sc (.string a0_0),.sc (.string a0_1),.sc (.int .u64 a0_2),.sc (.int .i64 a0_3),.sc (.int .u64 a0_4),.sc (.int .i64 a0_5),.sc (.int .i64 a0_6),.sc (.bool a0_7),.sc (.int .i64 a0_8),.sc (.int .u64 a0_9),.sc (.int .i64 a0_10),.lst false 1 a0_11n a0_11,.lst false 1 a0_12n a0_12],.agg [.sc (.string a1_0),.sc (.string a1_1),.sc (.int .u64 a1_2),.sc (.int .i64 Agy),.sc (.int .u64 Ah4),.sc (.int .i64 Ah0),.sc (.int .i64 Agc),.sc (.bool Afq),.sc (.int .i64 Ag5),.sc (.int .u64 Afz),.sc (.int .i64 TY),.lst false 1 Ah2 UB,.lst false 1 Ai7 TQ]]=(fun (call:Ai)=>Bc (Array.toList (ByteArray.data a0_0)==Array.toList (ByteArray.data a1_0)) (Bc (Array.toList (ByteArray.data a0_1)==Array.toList (ByteArray.data a1_1)) (Bc (a0_2==a1_2) (Bc (a0_3==Agy&&(a0_4==Ah4&&true)) (Bc (a0_5==Ah0) (Bc (a0_6==Agc) (Bc (a0_7==Afq) (Bc (a0_8==Ag5) (Bc (a0_9==Afz) (Ag (call 40 [.agg [.sc (.int .i64 a0_10),.lst false 1 a0_11n a0_11,.lst false 1 a0_12n a0_12],.agg [.sc (.int .i64 TY),.lst false 1 Ah2 UB,.lst false 1 Ai7 TQ]]) fun x1 x2=>Ac x2<|Ab x1 fun x3 x4=>Bl x3 fun x5=>Ac x4<|some (A0.mk [.sc (.bool x5)] [])) (some (A0.mk [.sc (.bool false)] []))) (some (A0.mk [.sc (.bool false)] []))) (some (A0.mk [.sc (.bool false)] []))) (some (A0.mk [.sc (.bool false)] []))) (some (A0.mk [.sc (.bool false)] []))) (some (A0.mk [.sc (.bool false)] []))) (some (A0.mk [.sc (.bool false)] []))) (some (A0.mk [.sc (.bool false)] []))) (some (A0.mk [.sc (.bool false)] []))) (Ae C0 Tryz.prog fu d):=by kernel_rfl
end
section
open Go.IntKind (wrap)
def Ri (x:It):List Int:=
 if x.k=7 then [wrap .u8 (244+wrap .u8 x.n)] else if x.k=8 then [246] else if x.k=3 then Cx 2 x.s.size else if x.k=4 then Cx 3 x.s.size else Cx (x.k-1) x.n
def It.dat (x:It):Prop:=x.k=3∨x.k=4∨Id x.s=[]
theorem Adu {x:It}(h:x.dat):Bp x=Ri x++Id x.s:=by
 unfold Bp Ri;by_cases c7:x.k=7
 ·rcases h with h|h|h
  ·omega
  ·omega
  ·simp [c7,h]
 ·by_cases c8:x.k=8
  ·rcases h with h|h|h
   ·omega
   ·omega
   ·simp [c8,h]
  ·by_cases c3:x.k=3
   ·simp [c3]
   ·by_cases c4:x.k=4
    ·simp [c4]
    ·rcases h with h|h|h
     ·omega
     ·omega
     ·simp [c7,c8,c3,c4,h]
theorem Adg (x:It):(Ri x).length<=9:=by
 have h2:=G8 2 x.s.size;have h3:=G8 3 x.s.size;have h4:=G8 (x.k-1) x.n;unfold Ri
 repeat' split
 all_goals try simp only [J2,Wh]
 all_goals omega
theorem Ag8 (v:Int):D3 .u64 v 0=v:=by
 show v.fdiv (2 ^ (min (0:Int).toNat IntKind.u64.bits))=v;have:(2:Int) ^ (min (0:Int).toNat IntKind.u64.bits)=1:=by decide
 rw [this,Int.fdiv_one]
theorem tb1 (v:Int):tb v 1=[wrap .u8 v]:=by
 show [wrap .u8 (D3 .u64 v (56-8*((7:Nat):Int)))]=_;rw [show (56:Int)-8*((7:Nat):Int)=0 by omega,Ag8]
theorem tb2 (v:Int):tb v 2=[wrap .u8 (D3 .u64 v 8),wrap .u8 v]:=by
 show [wrap .u8 (D3 .u64 v (56-8*((6:Nat):Int))),wrap .u8 (D3 .u64 v (56-8*((7:Nat):Int)))]=_;rw [show (56:Int)-8*((7:Nat):Int)=0 by omega,show (56:Int)-8*((6:Nat):Int)=8 by omega,Ag8]
theorem tb4 (v:Int):tb v 4=[wrap .u8 (D3 .u64 v 24),wrap .u8 (D3 .u64 v 16),wrap .u8 (D3 .u64 v 8),wrap .u8 v]:=by
 show [wrap .u8 (D3 .u64 v (56-8*((4:Nat):Int))),wrap .u8 (D3 .u64 v (56-8*((5:Nat):Int))),wrap .u8 (D3 .u64 v (56-8*((6:Nat):Int))),wrap .u8 (D3 .u64 v (56-8*((7:Nat):Int)))]=_;rw [show (56:Int)-8*((7:Nat):Int)=0 by omega,show (56:Int)-8*((6:Nat):Int)=8 by omega,show (56:Int)-8*((5:Nat):Int)=16 by omega,show (56:Int)-8*((4:Nat):Int)=24 by omega,Ag8]
theorem tb8 (v:Int):tb v 8=Dv v:=rfl
section
variable {fu d:Nat}
theorem Ahc (hfu:1000<=fu){k n:Int}{s:ByteArray}{nn:Nat}(hn:0<nn){mj v:Int}(h0:0<=mj)(h1:mj<=5)(hv:0<=v):
  C4 fu (Ae C0 Tryz.prog fu (d+1)) k n s nn v (32*mj)=some ⟨[.own 1 (Cx mj v).length (Af .u8 (Cx mj v))],[]⟩:=by
 rw [Tw (hnn:=hn)];have w24:wrap .u8 (32*mj+24)=32*mj+24:=Fn (by omega) (by omega)
 have w25:wrap .u8 (32*mj+25)=32*mj+25:=Fn (by omega) (by omega)
 have w26:wrap .u8 (32*mj+26)=32*mj+26:=Fn (by omega) (by omega)
 have w27:wrap .u8 (32*mj+27)=32*mj+27:=Fn (by omega) (by omega)
 unfold Cx;by_cases c1:v<24
 ·have wn:wrap .u8 v=v:=Fn (by omega) (by omega)
  have ws:wrap .u8 (32*mj+v)=32*mj+v:=Fn (by omega) (by omega)
  rw [B4 c1];simp (disch:=omega) only [Bz,wn,ws];rfl
 ·by_cases c2:v<256
  ·rw [A6 c1,B4 c2,tb1];simp (disch:=omega) only [Bz,w24];rfl
  ·by_cases c3:v<65536
   ·rw [A6 c1,A6 c2,B4 c3,tb2];simp (disch:=omega) only [Bz,w25];rfl
   ·by_cases c4:v<4294967296
    ·rw [A6 c1,A6 c2,A6 c3,B4 c4,tb4];simp (disch:=omega) only [Bz,w26];rfl
    ·have wd:=Aos (fu:=fu) (d:=d) hfu v;have L:=Ak .u8 (Dv v);rw [Er] at L;have t8:List.take 8 (Af .u8 (Dv v))=Af .u8 (Dv v):=R9 (by omega)
     have eC:[PV.sc (.int .u8 (32*mj+27))]++Af .u8 (Dv v)=Af .u8 ((32*mj+27)::Dv v):=rfl;have L9:(Af .u8 ((32*mj+27)::Dv v)).length=9:=by rw [Ak,J2,Er]
     have t9:List.take 9 (Af .u8 ((32*mj+27)::Dv v))=Af .u8 ((32*mj+27)::Dv v):=R9 (by omega)
     rw [A6 c1,A6 c2,A6 c3,A6 c4,tb8,J2,Er];simp (disch:=omega) only [Bz,w27,wd,B8,Br,E6,L,t8,eC,Nat.reduceAdd,L9,t9]
theorem Afs (hfu:1000<=fu){x:It}(hx:x.ok):Ae C0 Tryz.prog fu (d+2) Of [.agg x.cells]=some ⟨[.own 1 (Ri x).length (Af .u8 (Ri x))],[]⟩:=by
 obtain ⟨k,n,s⟩:=x;obtain ⟨k1,k8,n0,s0⟩:=hx;simp only at k1 k8 n0 s0;refine (Yt fu (d+1) k n s).trans ?_;have wsz:wrap .u64 (s.size:Int)=s.size:=Cn (by omega) (by omega)
 have J:=fun (mj v:Int) (h0:0<=mj) (h1:mj<=5) (hv:0<=v)=>Ahc (fu:=fu) (d:=d) hfu (k:=k) (n:=n) (s:=s) (nn:=fu) (by omega) h0 h1 hv
 have j0:=J 0 n (by omega) (by omega) n0
 have j1:=J 1 n (by omega) (by omega) n0
 have j2:=J 2 s.size (by omega) (by omega) (by omega)
 have j3:=J 3 s.size (by omega) (by omega) (by omega)
 have j4:=J 4 n (by omega) (by omega) n0
 have j5:=J 5 n (by omega) (by omega) n0
 rw [show (32:Int)*0=0 by omega] at j0
 rw [show (32:Int)*1=32 by omega] at j1
 rw [show (32:Int)*2=64 by omega] at j2
 rw [show (32:Int)*3=96 by omega] at j3
 rw [show (32:Int)*4=128 by omega] at j4
 rw [show (32:Int)*5=160 by omega] at j5
 unfold Ri;simp only;have:k=1∨k=2∨k=3∨k=4∨k=5∨k=6∨k=7∨k=8:=by omega
 rcases this with rfl|rfl|rfl|rfl|rfl|rfl|rfl|rfl
 ·simp only [Bz,E9,Int.reduceEq,if_true,if_false,Int.reduceSub,j0]
 ·simp only [Bz,E9,Int.reduceEq,if_true,if_false,Int.reduceSub,j1]
 ·simp only [Bz,E9,Int.reduceEq,if_true,if_false,Int.reduceSub,wsz,j2]
 ·simp only [Bz,E9,Int.reduceEq,if_true,if_false,Int.reduceSub,wsz,j3]
 ·simp only [Bz,E9,Int.reduceEq,if_true,if_false,Int.reduceSub,j4]
 ·simp only [Bz,E9,Int.reduceEq,if_true,if_false,Int.reduceSub,j5]
 ·simp only [Bz,E9,Int.reduceEq,if_true,if_false];rfl
 ·simp only [Bz,E9,Int.reduceEq,if_true,if_false];rfl
theorem Ae0 (hfu:1000<=fu){x:It}(hx:x.ok)(hd:x.dat):Ae C0 Tryz.prog fu (d+3) Mv [.agg x.cells]=some ⟨[.sc (.string (Ca (Bp x)))],[]⟩:=by
 refine (Wl fu (d+2) x.k x.n x.s).trans ?_;have hr:=Afs (fu:=fu) (d:=d) hfu hx;have L:=Ak .u8 (Ri x);have l9:=Adg x;have bo:=Gw (Ri x);have eA:ByteArray.mk (List.map (fun n:Int=>n.toNat.toUInt8) (Ri x)).toArray=Ca (Ri x):=rfl
 have sz:=Fy (Ri x);have s0:=hx.s0;have ap:Ca (Ri x)++x.s=Ca (Bp x):=by rw [VS,Adu hd]
 simp only [It.cells] at hr;simp (disch:=omega) only [Bz,hr,B8,Br,E6,J3,L,bo,eA,sz,ap]
def Cg (its:List It):List PV:=its.flatMap It.cells
theorem It.cells_len (x:It):x.cells.length=3:=rfl
def Bf (its:List It):List Int:=its.flatMap Bp
theorem EE {a0n:Nat}{a0:List PV}{its:List It}(hk:∀x∈its,x.ok∧x.dat)(hl:its.length<=1000)(hfu:1000<=fu):∀(r:List It)(i nn:Nat)(b:List Int),its.drop i=r->r.length<nn->b.length+500010*r.length<=1000000000 ->
  Fs fu (Ae C0 Tryz.prog fu (d+3)) a0n a0 nn its.length (Cg its) b.length i (Af .u8 b)=some ⟨[.own 1 (b++Bf r).length (Af .u8 (b++Bf r))],[]⟩
 |_,_,0,_,_,h,_=>by omega
 |[],i,nn+1,b,h,hn,hb=>by
  have:=drop_nil h;have L:=Ak .u8 b;rw [Ja,Dr _ _ _ (by omega)]
  simp (disch:=omega) only [Bz,B8,J3,L];simp [Bf]
 |x::r,i,nn+1,b,h,hn,hb=>by
  obtain ⟨h1,h2,h3⟩:=Cs h;simp only [J2] at hn hb;obtain ⟨ok,dt⟩:=hk x (List.mem_of_getElem? h2);have hil:=Gk x;have hs0:=ok.s0;have g0:(Cg its).getD (i*3) .top=.sc (.int .i64 x.k):=Ea It.cells_len h2 (j:=0) (by omega)
  have g1:(Cg its).getD (i*3+1) .top=.sc (.int .u64 x.n):=Ea It.cells_len h2 (j:=1) (by omega)
  have g2:(Cg its).getD (i*3+1+1) .top=.sc (.string x.s):=Ea It.cells_len h2 (j:=2) (by omega)
  have by_:=Ae0 (fu:=fu) (d:=d) hfu ok dt;simp only [It.cells] at by_;have ih:=EE (a0n:=a0n) (a0:=a0) hk hl hfu r (i+1) nn (b++Bp x) h3 (by omega) (by rw [Jz];omega)
  have w:wrap .i64 ((i:Int)+1)=((i+1:Nat):Int):=by rw [Aj (by omega) (by omega)];omega
  have L:=Ak .u8 b;have hB:=Abz ok.k1 ok.k8 ok.n0;have sc:Dl (Ca (Bp x))=Af .u8 (Bp x):=by rw [Lt,Nq hB]
  have sz:=Fy (Bp x);have Li:=Ak .u8 (Bp x);have ea:Af .u8 b++Af .u8 (Bp x)=Af .u8 (b++Bp x):=by rw [Af,Af,Af,List.flatMap_append]
  have ei:Bf (x::r)=Bp x++Bf r:=rfl;rw [ei,←WY,←ih,Ja];simp (disch:=omega) only [Bz,He,g0,g1,g2,by_,sc,sz,Li,B8,J3,L,ea,w,Jz]
theorem Ady {its:List It}(hk:∀x∈its,x.ok∧x.dat)(hl:its.length<=900)(hfu:1000<=fu):Ae C0 Tryz.prog fu (d+4) L5 [.lst false 3 its.length (Cg its)]=some ⟨[.own 1 (Bf its).length (Af .u8 (Bf its))],[]⟩:=by
 rw [Ug];exact EE (fu:=fu) (d:=d) (a0n:=its.length) (a0:=Cg its) hk (by omega) hfu its 0 fu [] rfl (by omega) (by simp;omega)
end
end
section
open Go.IntKind (wrap)
structure Ce where
 subj:ByteArray
 iss:ByteArray
 serial:Int
 key:Ky
 fr:Int
 un:Int
 auth:Bool
 path:Int
 model:Int
 sig:Sg
def Ce.cells (c:Ce):List PV:=[.sc (.string c.subj),.sc (.string c.iss),.sc (.int .u64 c.serial),.sc (.int .i64 c.key.h),.sc (.int .u64 c.key.root),.sc (.int .i64 c.fr),.sc (.int .i64 c.un),.sc (.bool c.auth),.sc (.int .i64 c.path),.sc (.int .u64 c.model),.sc (.int .i64 c.sig.leaf),.lst false 1 c.sig.chains.length (Af .u64 c.sig.chains),.lst false 1 c.sig.path.length (Af .u64 c.sig.path)]
abbrev TV (s:ByteArray):Bool:=Lib.validD s.data.toList
abbrev F8:ByteArray:=⟨#[]⟩
def A3 (c:Ce):Int:=
 if c.subj.size<1∨32<c.subj.size then 9 else if c.iss.size<1∨32<c.iss.size then 9 else if TV c.subj=false then 6 else if TV c.iss=false then 6 else
 if De c.key.h=true then 9 else if c.fr<0 then 9 else if c.un<c.fr then 9 else if c.un>1099511627776 then 9 else if c.path<0∨2<c.path then 9 else if c.path≠0∧c.auth=false then 4 else 0
def Bb (c:Ce):List It:=[⟨5,9,F8⟩,⟨4,0,c.subj⟩,⟨4,0,c.iss⟩,⟨1,c.serial,F8⟩,⟨3,0,Ca (Io c.key)⟩,⟨1,c.fr,F8⟩,⟨1,c.un,F8⟩,⟨7,(if c.auth=true then 1 else 0),F8⟩,⟨1,c.path,F8⟩,⟨1,c.model,F8⟩]
structure Ce.wf (c:Ce):Prop where
 ser:0<=c.serial
 mod:0<=c.model
def Hg (c:Ce):List PV:=if A3 c=0 then [.own 1 (Bf (Bb c)).length (Af .u8 (Bf (Bb c))),.sc (.int .i64 0)] else [.own 1 0 [],.sc (.int .i64 (A3 c))]
theorem X5 {c:Ce}(hw:c.wf)(h:A3 c=0):∀x∈Bb c,x.ok∧x.dat:=by
 unfold A3 at h;have kl:(Ca (Io c.key)).size=9:=by rw [Fy];rfl
 have ns:F8.size=0:=rfl;have hs:=hw.ser;have hm:=hw.mod
 repeat' (split at h;· cases h)
 intro x hx;simp only [Bb,List.mem_cons,List.not_mem_nil,or_false] at hx;rcases hx with rfl|rfl|rfl|rfl|rfl|rfl|rfl|rfl|rfl|rfl
 ·exact ⟨⟨by simp,by simp,by simp,by simp [ns]⟩,.inr (.inr rfl)⟩
 ·exact ⟨⟨by simp,by simp,by simp,by simp only;omega⟩,.inr (.inl rfl)⟩
 ·exact ⟨⟨by simp,by simp,by simp,by simp only;omega⟩,.inr (.inl rfl)⟩
 ·exact ⟨⟨by simp,by simp,hs,by simp [ns]⟩,.inr (.inr rfl)⟩
 ·exact ⟨⟨by simp,by simp,by simp,by simp only [kl];omega⟩,.inl rfl⟩
 ·exact ⟨⟨by simp,by simp,by simp only;omega,by simp [ns]⟩,.inr (.inr rfl)⟩
 ·exact ⟨⟨by simp,by simp,by simp only;omega,by simp [ns]⟩,.inr (.inr rfl)⟩
 ·exact ⟨⟨by simp,by simp,by simp only;split<;>omega,by simp [ns]⟩,.inr (.inr rfl)⟩
 ·exact ⟨⟨by simp,by simp,by simp only;omega,by simp [ns]⟩,.inr (.inr rfl)⟩
 ·exact ⟨⟨by simp,by simp,hm,by simp [ns]⟩,.inr (.inr rfl)⟩
section
variable {fu d:Nat}
theorem O7 (s:ByteArray)(h:s.size<=9223372036854775807):Ae C0 Tryz.prog fu (d+1) 56 [.sc (.string s)]=some ⟨[.sc (.bool (TV s))],[]⟩:=by
 show HX [.sc (.string s)]=_;unfold HX;simp [h]
theorem CN (n lo hi:Int):Ae C0 Tryz.prog fu (d+1) Kh [.sc (.int .i64 n),.sc (.int .i64 lo),.sc (.int .i64 hi)]=some ⟨[.sc (.bool (decide (lo<=n)&&decide (n<=hi)))],[]⟩:=by
 rw [Ty];by_cases h:lo<=n
 ·simp (disch:=omega) only [Bz,h,decide_true,Bool.true_and]
 ·simp (disch:=omega) only [Bz,h,decide_false,Bool.false_and]
theorem Aev (n:Int)(h0:0<=n)(h1:n<=1000):Ae C0 Tryz.prog fu (d+1) Mh [.sc (.int .i64 n)]=some ⟨[.agg [.sc (.int .i64 5),.sc (.int .u64 n),.sc (.string F8)]],[]⟩:=by
 rw [Vg];have w:wrap .u64 n=n:=Cn (by omega) (by omega)
 simp only [Bz,w]
theorem TI (s:ByteArray):Ae C0 Tryz.prog fu (d+1) Ng [.sc (.string s)]=some ⟨[.agg [.sc (.int .i64 4),.sc (.int .u64 0),.sc (.string s)]],[]⟩:=by
 rw [Wu]
theorem Aaa (n:Int):Ae C0 Tryz.prog fu (d+1) Ka [.sc (.int .u64 n)]=some ⟨[.agg [.sc (.int .i64 1),.sc (.int .u64 n),.sc (.string F8)]],[]⟩:=by
 rw [Tr]
theorem Afb (l:List Int):Ae C0 Tryz.prog fu (d+1) M4 [.lst false 1 l.length (Af .u8 l)]=some ⟨[.agg [.sc (.int .i64 3),.sc (.int .u64 0),.sc (.string (Ca l))]],[]⟩:=by
 rw [Wv];have L:=Ak .u8 l;have bo:=Gw l;simp (disch:=omega) only [Bz,L,bo];rfl
theorem WX (b:Bool):Ae C0 Tryz.prog fu (d+1) Jg [.sc (.bool b)]=some ⟨[.agg [.sc (.int .i64 7),.sc (.int .u64 (if b=true then 1 else 0)),.sc (.string F8)]],[]⟩:=by
 rw [Se];cases b<;>rfl
theorem Agu (hfu:1000<=fu){c:Ce}(hw:c.wf)(hs1:c.subj.size<=9223372036854775807)(hs2:c.iss.size<=9223372036854775807):Ae C0 Tryz.prog fu (d+5) Ni [.agg c.cells]=some ⟨Hg c,[]⟩:=by
 refine (Ws fu (d+4) c.subj c.iss c.serial c.key.h c.key.root c.fr c.un c.auth c.path c.model c.sig.leaf c.sig.chains.length (Af .u64 c.sig.chains) c.sig.path.length (Af .u64 c.sig.path)).trans ?_;have n1:=CN (fu:=fu) (d:=d+3) c.subj.size 1 32;have n2:=CN (fu:=fu) (d:=d+3) c.iss.size 1 32;have n3:=CN (fu:=fu) (d:=d+3) c.path 0 2;have v1:=O7 (fu:=fu) (d:=d+3) c.subj hs1;have v2:=O7 (fu:=fu) (d:=d+3) c.iss hs2;have ek:=XT (fu:=fu) (d:=d+2) hfu c.key;have e90:((9:Int) != 0)=true:=rfl;have e00:((0:Int) != 0)=false:=rfl;simp only [Ky.cells] at ek;unfold Hg;by_cases e1:c.subj.size<1∨32<c.subj.size
 ·have hb:A3 c=9:=by unfold A3;rw [B4 e1]
  have:(decide ((1:Int)<=c.subj.size)&&decide ((c.subj.size:Int)<=32))=false:=by simp;omega
  rw [this] at n1;rw [hb,A6 (by omega)]
  try unfold Aa
  repeat first
   |((with_reducible first|apply Aw|apply Al|apply Ay|apply Ar|apply A7|apply Bg|apply Bx|apply Dg|apply Am);· first|with_reducible rfl|(simp (disch:=omega) only [n1,Int.reduceEq,Dd,Dy]<;>with_reducible rfl))
   |((with_reducible first|apply Ax|apply Au);· first|with_reducible rfl|omega|(simp (disch:=omega) only [gT,n1,Int.reduceEq,Dd,Dy]<;>omega))
   |(with_reducible apply Av;· first|with_reducible rfl|(simp (disch:=omega) only [gF,n1,Int.reduceEq,Dd,Dy]<;>omega))
  try simp (disch:=omega) only [n1,Int.reduceEq,Dd,Dy]
  all_goals rfl
 have q1:(decide ((1:Int)<=c.subj.size)&&decide ((c.subj.size:Int)<=32))=true:=by simp;omega
 rw [q1] at n1;by_cases e2:c.iss.size<1∨32<c.iss.size
 ·have hb:A3 c=9:=by unfold A3;rw [A6 e1,B4 e2]
  have:(decide ((1:Int)<=c.iss.size)&&decide ((c.iss.size:Int)<=32))=false:=by simp;omega
  rw [this] at n2;rw [hb,A6 (by omega)]
  try unfold Aa
  repeat first
   |((with_reducible first|apply Aw|apply Al|apply Ay|apply Ar|apply A7|apply Bg|apply Bx|apply Dg|apply Am);· first|with_reducible rfl|(simp (disch:=omega) only [n1,n2,Int.reduceEq,Dd,Dy]<;>with_reducible rfl))
   |((with_reducible first|apply Ax|apply Au);· first|with_reducible rfl|omega|(simp (disch:=omega) only [gT,n1,n2,Int.reduceEq,Dd,Dy]<;>omega))
   |(with_reducible apply Av;· first|with_reducible rfl|(simp (disch:=omega) only [gF,n1,n2,Int.reduceEq,Dd,Dy]<;>omega))
  try simp (disch:=omega) only [n1,n2,Int.reduceEq,Dd,Dy]
  all_goals rfl
 have q2:(decide ((1:Int)<=c.iss.size)&&decide ((c.iss.size:Int)<=32))=true:=by simp;omega
 rw [q2] at n2;cases e3:TV c.subj
 ·have hb:A3 c=6:=by unfold A3;rw [A6 e1,A6 e2,B4 e3]
  rw [e3] at v1;rw [hb,A6 (by omega)]
  try unfold Aa
  repeat first
   |((with_reducible first|apply Aw|apply Al|apply Ay|apply Ar|apply A7|apply Bg|apply Bx|apply Dg|apply Am);· first|with_reducible rfl|(simp (disch:=omega) only [n1,n2,v1,Int.reduceEq,Dd,Dy]<;>with_reducible rfl))
   |((with_reducible first|apply Ax|apply Au);· first|with_reducible rfl|omega|(simp (disch:=omega) only [gT,n1,n2,v1,Int.reduceEq,Dd,Dy]<;>omega))
   |(with_reducible apply Av;· first|with_reducible rfl|(simp (disch:=omega) only [gF,n1,n2,v1,Int.reduceEq,Dd,Dy]<;>omega))
  try simp (disch:=omega) only [n1,n2,v1,Int.reduceEq,Dd,Dy]
  all_goals rfl
 rw [e3] at v1;cases e4:TV c.iss
 ·have hb:A3 c=6:=by unfold A3;rw [A6 e1,A6 e2,A6 (by simp [e3]),B4 e4]
  rw [e4] at v2;rw [hb,A6 (by omega)]
  try unfold Aa
  repeat first
   |((with_reducible first|apply Aw|apply Al|apply Ay|apply Ar|apply A7|apply Bg|apply Bx|apply Dg|apply Am);· first|with_reducible rfl|(simp (disch:=omega) only [n1,n2,v1,v2,Int.reduceEq,Dd,Dy]<;>with_reducible rfl))
   |((with_reducible first|apply Ax|apply Au);· first|with_reducible rfl|omega|(simp (disch:=omega) only [gT,n1,n2,v1,v2,Int.reduceEq,Dd,Dy]<;>omega))
   |(with_reducible apply Av;· first|with_reducible rfl|(simp (disch:=omega) only [gF,n1,n2,v1,v2,Int.reduceEq,Dd,Dy]<;>omega))
  try simp (disch:=omega) only [n1,n2,v1,v2,Int.reduceEq,Dd,Dy]
  all_goals rfl
 rw [e4] at v2;cases e5:De c.key.h
 rotate_left
 ·have hb:A3 c=9:=by unfold A3;rw [A6 e1,A6 e2,A6 (by simp [e3]),A6 (by simp [e4]),B4 e5]
  rw [e5,B4 rfl] at ek;rw [hb,A6 (by omega)]
  try unfold Aa
  repeat first
   |((with_reducible first|apply Aw|apply Al|apply Ay|apply Ar|apply A7|apply Bg|apply Bx|apply Dg|apply Am);· first|with_reducible rfl|(simp (disch:=omega) only [n1,n2,v1,v2,ek,e90,e00,Int.reduceEq,Dd,Dy]<;>with_reducible rfl))
   |((with_reducible first|apply Ax|apply Au);· first|with_reducible rfl|omega|(simp (disch:=omega) only [gT,n1,n2,v1,v2,ek,e90,e00,Int.reduceEq,Dd,Dy]<;>omega))
   |(with_reducible apply Av;· first|with_reducible rfl|(simp (disch:=omega) only [gF,n1,n2,v1,v2,ek,e90,e00,Int.reduceEq,Dd,Dy]<;>omega))
  try simp (disch:=omega) only [n1,n2,v1,v2,ek,e90,e00,Int.reduceEq,Dd,Dy]
  all_goals rfl
 rw [e5,A6 (by simp)] at ek
 have B0:A3 c=if c.fr<0 then 9 else if c.un<c.fr then 9 else if c.un>1099511627776 then 9 else if c.path<0∨2<c.path then 9 else if c.path≠0∧c.auth=false then 4 else 0:=by
  unfold A3;rw [A6 e1,A6 e2,A6 (by simp [e3]),A6 (by simp [e4]),A6 (by simp [e5])]
 by_cases e6:c.fr<0
 ·have hb:A3 c=9:=by rw [B0,B4 e6]
  rw [hb,A6 (by omega)]
  try unfold Aa
  repeat first
   |((with_reducible first|apply Aw|apply Al|apply Ay|apply Ar|apply A7|apply Bg|apply Bx|apply Dg|apply Am);· first|with_reducible rfl|(simp (disch:=omega) only [n1,n2,v1,v2,ek,e90,e00,Int.reduceEq,Dd,Dy]<;>with_reducible rfl))
   |((with_reducible first|apply Ax|apply Au);· first|with_reducible rfl|omega|(simp (disch:=omega) only [gT,n1,n2,v1,v2,ek,e90,e00,Int.reduceEq,Dd,Dy]<;>omega))
   |(with_reducible apply Av;· first|with_reducible rfl|(simp (disch:=omega) only [gF,n1,n2,v1,v2,ek,e90,e00,Int.reduceEq,Dd,Dy]<;>omega))
  try simp (disch:=omega) only [n1,n2,v1,v2,ek,e90,e00,Int.reduceEq,Dd,Dy]
  all_goals rfl
 by_cases e7:c.un<c.fr
 ·have hb:A3 c=9:=by rw [B0,A6 e6,B4 e7]
  rw [hb,A6 (by omega)]
  try unfold Aa
  repeat first
   |((with_reducible first|apply Aw|apply Al|apply Ay|apply Ar|apply A7|apply Bg|apply Bx|apply Dg|apply Am);· first|with_reducible rfl|(simp (disch:=omega) only [n1,n2,v1,v2,ek,e90,e00,Int.reduceEq,Dd,Dy]<;>with_reducible rfl))
   |((with_reducible first|apply Ax|apply Au);· first|with_reducible rfl|omega|(simp (disch:=omega) only [gT,n1,n2,v1,v2,ek,e90,e00,Int.reduceEq,Dd,Dy]<;>omega))
   |(with_reducible apply Av;· first|with_reducible rfl|(simp (disch:=omega) only [gF,n1,n2,v1,v2,ek,e90,e00,Int.reduceEq,Dd,Dy]<;>omega))
  try simp (disch:=omega) only [n1,n2,v1,v2,ek,e90,e00,Int.reduceEq,Dd,Dy]
  all_goals rfl
 by_cases e8:c.un>1099511627776
 ·have hb:A3 c=9:=by rw [B0,A6 e6,A6 e7,B4 e8]
  rw [hb,A6 (by omega)]
  try unfold Aa
  repeat first
   |((with_reducible first|apply Aw|apply Al|apply Ay|apply Ar|apply A7|apply Bg|apply Bx|apply Dg|apply Am);· first|with_reducible rfl|(simp (disch:=omega) only [n1,n2,v1,v2,ek,e90,e00,Int.reduceEq,Dd,Dy]<;>with_reducible rfl))
   |((with_reducible first|apply Ax|apply Au);· first|with_reducible rfl|omega|(simp (disch:=omega) only [gT,n1,n2,v1,v2,ek,e90,e00,Int.reduceEq,Dd,Dy]<;>omega))
   |(with_reducible apply Av;· first|with_reducible rfl|(simp (disch:=omega) only [gF,n1,n2,v1,v2,ek,e90,e00,Int.reduceEq,Dd,Dy]<;>omega))
  try simp (disch:=omega) only [n1,n2,v1,v2,ek,e90,e00,Int.reduceEq,Dd,Dy]
  all_goals rfl
 by_cases e9:c.path<0∨2<c.path
 ·have hb:A3 c=9:=by rw [B0,A6 e6,A6 e7,A6 e8,B4 e9]
  have:(decide ((0:Int)<=c.path)&&decide (c.path<=2))=false:=by simp;omega
  rw [this] at n3;rw [hb,A6 (by omega)]
  try unfold Aa
  repeat first
   |((with_reducible first|apply Aw|apply Al|apply Ay|apply Ar|apply A7|apply Bg|apply Bx|apply Dg|apply Am);· first|with_reducible rfl|(simp (disch:=omega) only [n1,n2,v1,v2,ek,e90,e00,n3,Int.reduceEq,Dd,Dy]<;>with_reducible rfl))
   |((with_reducible first|apply Ax|apply Au);· first|with_reducible rfl|omega|(simp (disch:=omega) only [gT,n1,n2,v1,v2,ek,e90,e00,n3,Int.reduceEq,Dd,Dy]<;>omega))
   |(with_reducible apply Av;· first|with_reducible rfl|(simp (disch:=omega) only [gF,n1,n2,v1,v2,ek,e90,e00,n3,Int.reduceEq,Dd,Dy]<;>omega))
  try simp (disch:=omega) only [n1,n2,v1,v2,ek,e90,e00,n3,Int.reduceEq,Dd,Dy]
  all_goals rfl
 have q9:(decide ((0:Int)<=c.path)&&decide (c.path<=2))=true:=by simp;omega
 rw [q9] at n3;by_cases e10:c.path≠0∧c.auth=false
 ·have hb:A3 c=4:=by rw [B0,A6 e6,A6 e7,A6 e8,A6 e9,B4 e10]
  have ea:=e10.2;have ep:(c.path != 0)=true:=by simp [e10.1]
  rw [hb,A6 (by omega)]
  try unfold Aa
  repeat first
   |((with_reducible first|apply Aw|apply Al|apply Ay|apply Ar|apply A7|apply Bg|apply Bx|apply Dg|apply Am);· first|with_reducible rfl|(simp (disch:=omega) only [n1,n2,v1,v2,ek,e90,e00,n3,ep,ea,Int.reduceEq,Dd,Dy]<;>with_reducible rfl))
   |((with_reducible first|apply Ax|apply Au);· first|with_reducible rfl|omega|(simp (disch:=omega) only [gT,n1,n2,v1,v2,ek,e90,e00,n3,ep,ea,Int.reduceEq,Dd,Dy]<;>omega))
   |(with_reducible apply Av;· first|with_reducible rfl|(simp (disch:=omega) only [gF,n1,n2,v1,v2,ek,e90,e00,n3,ep,ea,Int.reduceEq,Dd,Dy]<;>omega))
  try simp (disch:=omega) only [n1,n2,v1,v2,ek,e90,e00,n3,ep,ea,Int.reduceEq,Dd,Dy]
  all_goals rfl
 have hb:A3 c=0:=by rw [B0,A6 e6,A6 e7,A6 e8,A6 e9,A6 e10]
 rw [hb,B4 rfl];have a0:=Aev (fu:=fu) (d:=d+3) 9 (by omega) (by omega)
 have t1:=TI (fu:=fu) (d:=d+3) c.subj;have t2:=TI (fu:=fu) (d:=d+3) c.iss;have nu:=fun n=>Aaa (fu:=fu) (d:=d+3) n
 have da:=Afb (fu:=fu) (d:=d+3) (Io c.key);have k9:(Io c.key).length=9:=rfl;rw [k9] at da;have bo:=WX (fu:=fu) (d:=d+3) c.auth;have wf:wrap .u64 c.fr=c.fr:=Cn (by omega) (by omega)
 have wu:wrap .u64 c.un=c.un:=Cn (by omega) (by omega)
 have wp:wrap .u64 c.path=c.path:=Cn (by omega) (by omega)
 have bi:=Ady (fu:=fu) (d:=d) (X5 hw hb) (by simp [Bb]) hfu
 have L9:=Ak .u8 (Io c.key);rw [k9] at L9;have tk9:List.take 9 (Af .u8 (Io c.key))=Af .u8 (Io c.key):=R9 (by omega)
 have LB:=Ak .u8 (Bf (Bb c));have tB:=J3 .u8 (Bf (Bb c));generalize Bf (Bb c)=W at bi LB tB ⊢;simp only [Bb,Cg,List.flatMap_cons,List.flatMap_nil,It.cells,List.cons_append,Zzq,List.append_nil,J2,Wh,Br,Nat.reduceAdd] at bi;have w0:wrap .u64 (0:Int)=0:=rfl;by_cases ep:c.path=0
 ·rw [ep] at bi n3
  try unfold Aa
  repeat first
   |((with_reducible first|apply Aw|apply Al|apply Ay|apply Ar|apply A7|apply Bg|apply Bx|apply Dg|apply Am);· first|with_reducible rfl|(simp (disch:=omega) only [n1,n2,v1,v2,ek,e90,e00,n3,ep,w0,a0,t1,t2,nu,B8,Br,E6,L9,tk9,da,wf,wu,bo,bi,LB,tB,Int.reduceEq,Dd,Dy]<;>with_reducible rfl))
   |((with_reducible first|apply Ax|apply Au);· first|with_reducible rfl|omega|(simp (disch:=omega) only [gT,n1,n2,v1,v2,ek,e90,e00,n3,ep,w0,a0,t1,t2,nu,B8,Br,E6,L9,tk9,da,wf,wu,bo,bi,LB,tB,Int.reduceEq,Dd,Dy]<;>omega))
   |(with_reducible apply Av;· first|with_reducible rfl|(simp (disch:=omega) only [gF,n1,n2,v1,v2,ek,e90,e00,n3,ep,w0,a0,t1,t2,nu,B8,Br,E6,L9,tk9,da,wf,wu,bo,bi,LB,tB,Int.reduceEq,Dd,Dy]<;>omega))
  try simp (disch:=omega) only [n1,n2,v1,v2,ek,e90,e00,n3,ep,w0,a0,t1,t2,nu,B8,Br,E6,L9,tk9,da,wf,wu,bo,bi,LB,tB,Int.reduceEq,Dd,Dy]
  all_goals rfl
 ·have ea:c.auth=true:=by
   cases h:c.auth
   ·exact absurd ⟨ep,h⟩ e10
   ·rfl
  rw [ea,B4 rfl] at bo bi;have ep:(c.path != 0)=true:=by simp [ep]
  try unfold Aa
  repeat first
   |((with_reducible first|apply Aw|apply Al|apply Ay|apply Ar|apply A7|apply Bg|apply Bx|apply Dg|apply Am);· first|with_reducible rfl|(simp (disch:=omega) only [n1,n2,v1,v2,ek,e90,e00,n3,ep,ea,a0,t1,t2,nu,B8,Br,E6,L9,tk9,da,wf,wu,wp,bo,bi,LB,tB,Int.reduceEq,Dd,Dy]<;>with_reducible rfl))
   |((with_reducible first|apply Ax|apply Au);· first|with_reducible rfl|omega|(simp (disch:=omega) only [gT,n1,n2,v1,v2,ek,e90,e00,n3,ep,ea,a0,t1,t2,nu,B8,Br,E6,L9,tk9,da,wf,wu,wp,bo,bi,LB,tB,Int.reduceEq,Dd,Dy]<;>omega))
   |(with_reducible apply Av;· first|with_reducible rfl|(simp (disch:=omega) only [gF,n1,n2,v1,v2,ek,e90,e00,n3,ep,ea,a0,t1,t2,nu,B8,Br,E6,L9,tk9,da,wf,wu,wp,bo,bi,LB,tB,Int.reduceEq,Dd,Dy]<;>omega))
  try simp (disch:=omega) only [n1,n2,v1,v2,ek,e90,e00,n3,ep,ea,a0,t1,t2,nu,B8,Br,E6,L9,tk9,da,wf,wu,wp,bo,bi,LB,tB,Int.reduceEq,Dd,Dy]
  all_goals rfl
end
end
section
open Go.IntKind (wrap)
def IY (s:Sg):Int:=if De s.path.length=true then 9 else if J6 s.leaf s.path.length=true then 9 else if s.chains.length≠18 then 4 else 0
def Ew (c:Ce):Int:=if A3 c=0 then IY c.sig else A3 c
def Hm (c:Ce):List Int:=Bf (Bb c)++DD c.sig
def RO (c:Ce):List PV:=if Ew c=0 then [.own 1 (Hm c).length (Af .u8 (Hm c)),.sc (.int .i64 0)] else [.own 1 0 [],.sc (.int .i64 (Ew c))]
def Lq (c:Ce):Int:=Mw 14 (Bf (Bb c))
def Uc (c:Ce)(k:Ky):Int:=if A3 c=0 then VD k (Lq c) c.sig else A3 c
def XC:Ce:=⟨F8,F8,0,⟨0,0⟩,0,0,false,0,0,⟨0,[],[]⟩⟩
def Tg (c:Ce)(seed h leaf:Int):Ce × Int:=
 if A3 c=0 then (match Y5 seed h leaf (Lq c) with|some s=>({ c with sig:=s },0)|none=>(XC,9)) else (XC,A3 c)
theorem Lm {c:Ce}(h:A3 c=0):(Bf (Bb c)).length<=200:=by
 have k9:(Ca (Io c.key)).size=9:=by rw [Fy];rfl
 have ns:F8.size=0:=rfl;unfold A3 at h
 have hs:c.subj.size<=32∧c.iss.size<=32:=by
  split at h
  ·cases h
  ·split at h
   ·cases h
   ·omega
 have e:Bf (Bb c)=Bp ⟨5,9,F8⟩++(Bp ⟨4,0,c.subj⟩++(Bp ⟨4,0,c.iss⟩++(Bp ⟨1,c.serial,F8⟩++(Bp ⟨3,0,Ca (Io c.key)⟩++(Bp ⟨1,c.fr,F8⟩++(Bp ⟨1,c.un,F8⟩++(Bp ⟨7,(if c.auth=true then 1 else 0),F8⟩++(Bp ⟨1,c.path,F8⟩++(Bp ⟨1,c.model,F8⟩++[]))))))))):=rfl
 rw [e];simp only [Jz,Wh];have i1:=Gk ⟨5,9,F8⟩;have i2:=Gk ⟨4,0,c.subj⟩;have i3:=Gk ⟨4,0,c.iss⟩;have i4:=Gk ⟨1,c.serial,F8⟩;have i5:=Gk ⟨3,0,Ca (Io c.key)⟩;have i6:=Gk ⟨1,c.fr,F8⟩;have i7:=Gk ⟨1,c.un,F8⟩;have i8:=Gk ⟨7,(if c.auth=true then 1 else 0),F8⟩
 have i9:=Gk ⟨1,c.path,F8⟩;have i0:=Gk ⟨1,c.model,F8⟩;simp only [ns,k9] at i1 i2 i3 i4 i5 i6 i7 i8 i9 i0;omega
theorem EB {c:Ce}(hw:c.wf)(h:A3 c=0):Jy (Bf (Bb c)):=by
 intro y hy;obtain ⟨x,hx,hy⟩:=List.mem_flatMap.1 hy;have:=(X5 hw h x hx).1;exact Abz this.k1 this.k8 this.n0 y hy
theorem CD {seed h leaf m:Int}{s:Sg}(e:Y5 seed h leaf m=some s):s.chains.length=18∧s.path.length<=4:=by
 unfold Y5 at e;split at e
 ·cases e
 ·rename_i hh;split at e
  ·cases e
  ·cases e;have:=H0 (by simpa using hh)
   simp [Ih];omega
section
variable {fu d:Nat} {c:Ce}
theorem Aec (hfu:1000<=fu)(hw:c.wf)(hs1:c.subj.size<=9223372036854775807)(hs2:c.iss.size<=9223372036854775807)(seed h leaf:Int):Ae C0 Tryz.prog fu (d+13) M2 [.agg c.cells,.sc (.int .u64 seed),.sc (.int .i64 h),.sc (.int .i64 leaf)]=some ⟨[.agg (Tg c seed h leaf).1.cells,.sc (.int .i64 (Tg c seed h leaf).2)],[]⟩:=by
 refine (Wi fu (d+12) c.subj c.iss c.serial c.key.h c.key.root c.fr c.un c.auth c.path c.model c.sig.leaf c.sig.chains.length (Af .u64 c.sig.chains) c.sig.path.length (Af .u64 c.sig.path) seed h leaf).trans ?_;have bq:=Agu (fu:=fu) (d:=d+7) hfu hw hs1 hs2;simp only [Ce.cells] at bq;unfold Hg at bq;unfold Tg;by_cases h0:A3 c=0
 ·have lb:=Lm h0;rw [B4 h0] at bq;rw [B4 h0];have e00:((0:Int) != 0)=false:=rfl;have e90:((9:Int) != 0)=true:=rfl;have hh:=TW (xs:=J9) (fu:=fu) (d:=d+8) (EB hw h0) (by omega) (by omega) (by omega) 14
  have sg:=Agh (fu:=fu) (d:=d) hfu seed h leaf (Lq c);have eW:Mw 14 (Bf (Bb c))=Lq c:=rfl;rw [eW] at hh;have L1:=Ak .u8 (Bf (Bb c));have t1:=J3 .u8 (Bf (Bb c));generalize (Bf (Bb c)).length=n1 at *
  generalize Af .u8 (Bf (Bb c))=c1 at *
  cases hs:Y5 seed h leaf (Lq c) with
  |none=>
   rw [hs] at sg;simp only [RE,Sg.owned,Wh] at sg
   try unfold Aa
   repeat first
    |((with_reducible first|apply Aw|apply Al|apply Ay|apply Bg|apply Bx|apply Am);· first|with_reducible rfl|(simp (disch:=omega) only [bq,e00,e90,B8,Br,E6,L1,t1,hh,sg]<;>with_reducible rfl))
    |((with_reducible first|apply Ax|apply Au);· first|with_reducible rfl|omega|(simp (disch:=omega) only [gT,bq,e00,e90,B8,Br,E6,L1,t1,hh,sg]<;>omega))
    |(with_reducible apply Av;· first|with_reducible rfl|(simp (disch:=omega) only [gF,bq,e00,e90,B8,Br,E6,L1,t1,hh,sg]<;>omega))
   try simp (disch:=omega) only [bq,e00,e90,B8,Br,E6,L1,t1,hh,sg]
   all_goals rfl
  |some s=>
   rw [hs] at sg;simp only [RE,Sg.owned] at sg;have hl:=CD hs;have La:=Ak .u64 s.chains;have Lb:=Ak .u64 s.path;have ta:=J3 .u64 s.chains;have tb:=J3 .u64 s.path
   try unfold Aa
   repeat first
    |((with_reducible first|apply Aw|apply Al|apply Ay|apply Bg|apply Bx|apply Am);· first|with_reducible rfl|(simp (disch:=omega) only [bq,e00,B8,Br,E6,L1,t1,hh,sg,La,Lb,ta,tb]<;>with_reducible rfl))
    |((with_reducible first|apply Ax|apply Au);· first|with_reducible rfl|omega|(simp (disch:=omega) only [gT,bq,e00,B8,Br,E6,L1,t1,hh,sg,La,Lb,ta,tb]<;>omega))
    |(with_reducible apply Av;· first|with_reducible rfl|(simp (disch:=omega) only [gF,bq,e00,B8,Br,E6,L1,t1,hh,sg,La,Lb,ta,tb]<;>omega))
   try simp (disch:=omega) only [bq,e00,B8,Br,E6,L1,t1,hh,sg,La,Lb,ta,tb]
   all_goals rfl
 ·have hne:(A3 c != 0)=true:=by simp [h0]
  rw [A6 h0] at bq;rw [A6 h0]
  try unfold Aa
  repeat first
   |((with_reducible first|apply Aw|apply Al|apply Ay|apply Bg|apply Bx|apply Am);· first|with_reducible rfl|(simp (disch:=omega) only [bq,hne]<;>with_reducible rfl))
   |((with_reducible first|apply Ax|apply Au);· first|with_reducible rfl|omega|(simp (disch:=omega) only [gT,bq,hne]<;>omega))
   |(with_reducible apply Av;· first|with_reducible rfl|(simp (disch:=omega) only [gF,bq,hne]<;>omega))
  try simp (disch:=omega) only [bq,hne]
  all_goals rfl
end
end
section
open Go.IntKind (wrap)
structure Gt where
 p:Bool
 left:Int
 last:List Int
def Gt.cells (f:Gt):List PV:=[.sc (.bool f.p),.sc (.int .i64 f.left),.lst false 1 f.last.length (Af .u8 f.last)]
def En (l:List Gt):List PV:=l.flatMap Gt.cells
theorem Gt.cells_len (f:Gt):f.cells.length=3:=rfl
theorem Cz (l:List Gt):(En l).length=l.length*3:=Xu Gt.cells_len l
theorem Dc (l:List Gt):List.take (l.length*3) (En l)=En l:=R9 (by rw [Cz];omega)
def Qo (l:List Gt):Bool:=match l.getLast? with|some f=>f.p&&(Int.tmod f.left 2==0)|none=>false
def Iw (l:List Gt)(cnt k:Int):Int:=
 if cnt>=512 then 8 else if k<1 then 3 else if k>8 then 3 else if Qo l=true∧k≠1∧k≠2∧k≠4 then 3 else if (l.length:Int)>8 then 5 else 0
abbrev J5 (l:List Gt)(cnt:Int):List PV:=[.own 3 l.length (En l),.sc (.int .i64 cnt)]
section
variable {fu d:Nat}
theorem QQ (l:List Gt)(cnt:Int):Ae C0 Tryz.prog fu (d+1) Rs [.pbox (J5 l cnt)]=some ⟨[.sc (.bool (decide (cnt>0)&&((l.length:Int)==0)))],[J5 l cnt]⟩:=by
 rw [DJ];have L:=Cz l;have t:=Dc l;by_cases h:cnt>0
 ·simp (disch:=omega) only [Bz,h,decide_true,Bool.true_and,L,t]
 ·simp (disch:=omega) only [Bz,h,decide_false,Bool.false_and,L,t]
theorem JZ {l:List Gt}(hl:l.length<=1000000)(cnt:Int):Ae C0 Tryz.prog fu (d+1) P7 [.pbox (J5 l cnt)]=some ⟨[.sc (.bool (Qo l))],[J5 l cnt]⟩:=by
 rw [Za];have L:=Cz l;have t:=Dc l;unfold Qo;rcases List.eq_nil_or_concat l with rfl|⟨l',f,rfl⟩
 ·have e0:¬(((([]:List Gt).length:Nat):Int)>0):=by simp
  simp (disch:=first|assumption|omega) only [Bz,L,t]
  first|done|rfl
 ·have hn:(l'.concat f).length=l'.length+1:=by simp
  have hx:(l'.concat f)[l'.length]?=some f:=by simp
  have gl:(l'.concat f).getLast?=some f:=by simp
  have w:wrap .i64 (((l'.concat f).length:Int)-1)=(l'.length:Int):=by rw [Aj (by omega) (by omega)];omega
  have g0:(En (l'.concat f)).getD (l'.length*3) .top=.sc (.bool f.p):=Ea Gt.cells_len hx (j:=0) (by omega)
  have g1:(En (l'.concat f)).getD (l'.length*3+1) .top=.sc (.int .i64 f.left):=Ea Gt.cells_len hx (j:=1) (by omega)
  rw [gl];cases hp:f.p
  ·rw [hp] at g0;simp (disch:=omega) only [Bz,w,He,Br,ON,g0,L,t,hp,Bool.false_and]
  ·rw [hp] at g0;simp (disch:=omega) only [Bz,w,He,Br,ON,g0,g1,L,t,hp,Bool.true_and]
theorem VG {l:List Gt}(hl:l.length<=1000000)(cnt k:Int):Ae C0 Tryz.prog fu (d+2) P1 [.pbox (J5 l cnt),.sc (.int .i64 k)]=some ⟨[.sc (.int .i64 (Iw l cnt k))],[J5 l cnt]⟩:=by
 refine (AM fu (d+1) l.length (En l) cnt k).trans ?_;have L:=Cz l;have t:=Dc l;have ak:=JZ (fu:=fu) (d:=d) hl cnt;unfold J5 at ak;unfold Iw;by_cases c1:cnt>=512
 ·rw [B4 c1];simp (disch:=omega) only [Bz,L,t]
 rw [A6 c1];by_cases c2:k<1
 ·rw [B4 c2];simp (disch:=omega) only [Bz,L,t]
 rw [A6 c2];by_cases c3:k>8
 ·rw [B4 c3];simp (disch:=omega) only [Bz,L,t]
 rw [A6 c3];cases ha:Qo l
 ·rw [ha] at ak;rw [A6 (by simp)]
  by_cases c5:(l.length:Int)>8
  ·rw [B4 c5];simp (disch:=omega) only [Bz,L,t,ak]
  ·rw [A6 c5];simp (disch:=omega) only [Bz,L,t,ak]
 ·rw [ha] at ak;by_cases c4:k≠1∧k≠2∧k≠4
  ·rw [B4 ⟨rfl,c4⟩];simp (disch:=omega) only [Bz,L,t,ak,Fq];rw [A6 c4.1,A6 c4.2.1,A6 c4.2.2]
  ·rw [A6 (fun h=>c4 h.2)]
   have hk:k=1∨k=2∨k=4:=by omega
   by_cases c5:(l.length:Int)>8
   ·rw [B4 c5];rcases hk with rfl|rfl|rfl<;>simp (disch:=omega) only [Bz,L,t,ak,Fq,Int.reduceEq,if_true,if_false]
   ·rw [A6 c5];rcases hk with rfl|rfl|rfl<;>simp (disch:=omega) only [Bz,L,t,ak,Fq,Int.reduceEq,if_true,if_false]
end
end
section
open Go.IntKind (wrap)
theorem Mg (l:List Gt):l=[]∨∃l' f,l=l'++[f]:=by
 rcases List.eq_nil_or_concat l with h|⟨a,b,h⟩
 ·exact .inl h
 ·exact .inr ⟨a,b,by simpa using h⟩
def CL (l:List Gt):List Gt:=(l.reverse.dropWhile fun f=>f.left==0).reverse
theorem NW {l:List Gt}{f:Gt}(h:f.left=0):CL (l++[f])=CL l:=by
 unfold CL;rw [List.reverse_append,List.reverse_singleton,List.singleton_append,List.dropWhile_cons_of_pos (by simp [h])]
theorem KG {l:List Gt}{f:Gt}(h:f.left≠0):CL (l++[f])=l++[f]:=by
 unfold CL;rw [List.reverse_append,List.reverse_singleton,List.singleton_append,List.dropWhile_cons_of_neg (by simp [h])]
 simp
def KS (l:List Gt):List Gt:=match l.getLast? with|some f=>l.dropLast++[⟨f.p,wrap .i64 (f.left-1),f.last⟩]|none=>[]
def NN (l:List Gt)(x:It):List Gt:=
 if x.k=5∧x.n>0 then l++[⟨false,wrap .i64 x.n,[]⟩] else if x.k=6∧x.n>0 then l++[⟨true,wrap .i64 (2*wrap .i64 x.n),[]⟩] else l
def Fh (l:List Gt)(x:It):List Gt:=CL (NN (KS l) x)
theorem U6 (l:List Gt)(f:Gt):KS (l++[f])=l++[⟨f.p,wrap .i64 (f.left-1),f.last⟩]:=by
 unfold KS;simp
theorem JS (l:List Gt):(KS l).length=l.length:=by
 rcases Mg l with rfl|⟨l',f,rfl⟩
 ·rfl
 ·rw [U6];simp
theorem R2 (a b:List Gt):En (a++b)=En a++En b:=by
 unfold En;rw [List.flatMap_append]
theorem Rk (f:Gt):En [f]=f.cells:=by
 unfold En;simp
section
variable {fu d:Nat}
theorem OG {call:Ai}{a0_0n:Nat}{a0_0:List PV}{a0_1 a1_0 a1_1:Int}{a1_2:ByteArray}{c:Int}:∀(n:Nat)(l:List Gt)(r:List PV)(nn:Nat),l.length=n->n<nn->n<=1000000 ->
  A8 fu call a0_0n a0_0 a0_1 a1_0 a1_1 a1_2 nn (l.length:Int) l.length c (En l++r)=some ⟨[],[J5 (CL l) c]⟩:=by
 intro n
 induction n with
 |zero=>
  intro l r nn hl hn _;obtain rfl:l=[]:=List.eq_nil_of_length_eq_zero hl;obtain ⟨m,rfl⟩:∃m,nn=m+1:=⟨nn-1,by omega⟩
  have e0:¬(((([]:List Gt).length:Nat):Int)>0):=by simp
  have e1:([]:List Gt).length*3<=(En []++r).length:=by simp
  rw [Nh];simp (disch:=first|assumption|omega) only [Bz];rfl
 |succ n ih=>
  intro l r nn hl hn hm;obtain ⟨m,rfl⟩:∃m,nn=m+1:=⟨nn-1,by omega⟩
  rcases Mg l with rfl|⟨l',f,rfl⟩
  ·simp at hl
  have hn':(l'++[f]).length=l'.length+1:=by simp
  have hx:(l'++[f])[l'.length]?=some f:=by simp
  have w:wrap .i64 (((l'++[f]).length:Int)-1)=(l'.length:Int):=by rw [Aj (by omega) (by omega)];omega
  have L:=Cz (l'++[f]);have L2:(En (l'++[f])++r).length=(l'++[f]).length*3+r.length:=by rw [Jz,L]
  have t:List.take ((l'++[f]).length*3) (En (l'++[f])++r)=En (l'++[f]):=by rw [←L,List.take_left'];rfl
  have g1:(En (l'++[f])++r).getD (l'.length*3+1) .top=.sc (.int .i64 f.left):=by
   have:=Ea (f:=Gt.cells) Gt.cells_len hx (j:=1) (by omega)
   rw [List.getD_eq_getElem?_getD,List.getElem?_append_left (by rw [L];omega),←List.getD_eq_getElem?_getD]
   exact this
  rw [Nh];by_cases hz:f.left=0
  ·have e:En (l'++[f])++r=En l'++(f.cells++r):=by rw [R2,Rk,WY]
   have q:=ih l' (f.cells++r) m (by omega) (by omega) (by omega)
   rw [←e] at q;rw [NW hz];have hb:(f.left==(0:Int))=true:=by simp [hz]
   simp (disch:=omega) only [Bz,w,He,Br,Nat.sub_zero,g1,hb,q]
  ·rw [KG hz];have hb:(f.left==(0:Int))=false:=by simp [hz]
   simp (disch:=omega) only [Bz,w,He,Br,g1,hb,L2,t]
theorem Aao {l:List Gt}{x:It}{cnt:Int}(hl:l.length<=100000)(hf:l.length+1<fu)(h0:0<=cnt)(h1:cnt<=1000000):
  Ae C0 Tryz.prog fu (d+1) Ry [.pbox (J5 l cnt),.agg x.cells]=some ⟨[],[J5 (Fh l x) (cnt+1)]⟩:=by
 obtain ⟨k,v,s⟩:=x;refine (DQ fu d l.length (En l) cnt k v s).trans ?_;have w1:wrap .i64 (cnt+1)=cnt+1:=Aj (by omega) (by omega)
 unfold Fh NN;have DL:=JS l;generalize hD:KS l=l1 at DL ⊢;have L1:(En l1).length=l.length*3:=by rw [Cz,DL]
 have t1:List.take (l.length*3) (En l1)=En l1:=R9 (by omega)
 have p5:∀b u,En l1++[.sc (.bool b),.sc (.int .i64 u),.lst false 1 0 []]=En (l1++[⟨b,u,[]⟩]):=by
  intro b u;rw [R2,Rk];rfl
 have lp0:∀call,A8 fu call l.length (En l) cnt k v s fu (l.length:Int) l.length (cnt+1) (En l1)=some ⟨[],[J5 (CL l1) (cnt+1)]⟩:=by
  intro call;have:=OG (fu:=fu) (call:=call) (a0_0n:=l.length) (a0_0:=En l) (a0_1:=cnt) (a1_0:=k) (a1_1:=v) (a1_2:=s) (c:=cnt+1) _ l1 [] fu rfl (by omega) (by omega)
  rw [List.append_nil,DL] at this;exact this
 have lp1:∀call f,A8 fu call l.length (En l) cnt k v s fu ((l.length+1:Nat):Int) (l.length+1) (cnt+1) (En (l1++[f]))=some ⟨[],[J5 (CL (l1++[f])) (cnt+1)]⟩:=by
  intro call f;have ll:(l1++[f]).length=l.length+1:=by simp [DL]
  have:=OG (fu:=fu) (call:=call) (a0_0n:=l.length) (a0_0:=En l) (a0_1:=cnt) (a1_0:=k) (a1_1:=v) (a1_2:=s) (c:=cnt+1) _ (l1++[f]) [] fu rfl (by omega) (by omega)
  rw [List.append_nil,ll] at this;exact this
 rcases Mg l with rfl|⟨l',f,rfl⟩
 ·have e0:¬(((([]:List Gt).length:Nat):Int)>0):=by simp
  obtain rfl:l1=[]:=by rw [←hD];rfl
  by_cases k5:k=5
  ·subst k5;by_cases hv:v>0
   ·rw [B4 ⟨rfl,hv⟩];simp (disch:=first|assumption|omega) only [Bz,w1,L1,t1,p5,lp1,Int.reduceBEq]
   ·rw [A6 (fun h=>hv h.2),A6 (fun h=>hv h.2)]
    simp (disch:=first|assumption|omega) only [Bz,w1,L1,t1,p5,lp0,Int.reduceBEq]
  ·have b5:(k==(5:Int))=false:=by simp [k5]
   rw [A6 (fun h=>k5 h.1)]
   by_cases k6:k=6
   ·subst k6;by_cases hv:v>0
    ·rw [B4 ⟨rfl,hv⟩];simp (disch:=first|assumption|omega) only [Bz,w1,L1,t1,p5,lp1,Int.reduceBEq]
    ·rw [A6 (fun h=>hv h.2)]
     simp (disch:=first|assumption|omega) only [Bz,w1,L1,t1,p5,lp0,Int.reduceBEq]
   ·have b6:(k==(6:Int))=false:=by simp [k6]
    rw [A6 (fun h=>k6 h.1)]
    simp (disch:=first|assumption|omega) only [Bz,w1,L1,t1,p5,lp0,b5,b6]
 ·have hn':(l'++[f]).length=l'.length+1:=by simp
  have hx:(l'++[f])[l'.length]?=some f:=by simp
  have w:wrap .i64 (((l'++[f]).length:Int)-1)=(l'.length:Int):=by rw [Aj (by omega) (by omega)];omega
  have L:=Cz (l'++[f]);have g1:(En (l'++[f])).getD (l'.length*3+1) .top=.sc (.int .i64 f.left):=Ea Gt.cells_len hx (j:=1) (by omega)
  have sp:Ba (En (l'++[f])) [.sc (.int .i64 (wrap .i64 (f.left-1)))] (l'.length*3+1)=En l1:=by
   rw [Ev (by omega),←hD,U6,R2,R2,Rk,Rk]
   have:=Cz l';rw [List.set_append_right _ _ (by omega)]
   have:l'.length*3+1-(En l').length=1:=by omega
   rw [this];rfl
  by_cases k5:k=5
  ·subst k5;by_cases hv:v>0
   ·rw [B4 ⟨rfl,hv⟩];simp (disch:=first|assumption|omega) only [Bz,w,w1,He,Br,g1,sp,L1,t1,p5,lp1,Int.reduceBEq]
   ·rw [A6 (fun h=>hv h.2),A6 (fun h=>hv h.2)]
    simp (disch:=first|assumption|omega) only [Bz,w,w1,He,Br,g1,sp,L1,t1,p5,lp0,Int.reduceBEq]
  ·have b5:(k==(5:Int))=false:=by simp [k5]
   rw [A6 (fun h=>k5 h.1)]
   by_cases k6:k=6
   ·subst k6;by_cases hv:v>0
    ·rw [B4 ⟨rfl,hv⟩];simp (disch:=first|assumption|omega) only [Bz,w,w1,He,Br,g1,sp,L1,t1,p5,lp1,Int.reduceBEq]
    ·rw [A6 (fun h=>hv h.2)]
     simp (disch:=first|assumption|omega) only [Bz,w,w1,He,Br,g1,sp,L1,t1,p5,lp0,Int.reduceBEq]
   ·have b6:(k==(6:Int))=false:=by simp [k6]
    rw [A6 (fun h=>k6 h.1)]
    simp (disch:=first|assumption|omega) only [Bz,w,w1,He,Br,g1,sp,L1,t1,p5,lp0,b5,b6]
end
end
end Go.Proofs.YtdjihiphpgkfmaaGreatDoor.Pv
