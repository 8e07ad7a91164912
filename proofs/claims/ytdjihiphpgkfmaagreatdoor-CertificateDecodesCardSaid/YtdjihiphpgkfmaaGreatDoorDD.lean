/-
  The proof of CertificateDecodes, part 4.
-/
import Derived.Test.YtdjihiphpgkfmaaGreatDoorDC
import Derived.Test.YtdjihiphpgkfmaaGreatDoorRows
set_option linter.unusedSimpArgs false
set_option linter.unusedVariables false
namespace Go.Proofs.YtdjihiphpgkfmaaGreatDoor.Pv
section
open Go.IntKind (wrap)
section
variable {fu d:Nat} {xs:FuncId->Option (List PV->Option Aw)}
theorem Amo {x k:Int}(hk:k=13∨k=16∨k=17∨k=21∨k=32):Ad (CX xs) Tryz.prog fu (d+1) Oz [.sc (.int .u64 x),.sc (.int .i64 k)]=some ⟨[.sc (.int .u64 (rot x k))],[]⟩:=by
 rw [Zl];rcases hk with rfl|rfl|rfl|rfl|rfl<;>kernel_rfl
theorem Am3 {x k:Int}(hk:k=13∨k=16∨k=17∨k=21∨k=32):Ad (CX xs) Tryz.prog fu (d+1) Ql [.sc (.int .u64 x),.sc (.int .u64 k)]=some ⟨[.sc (.int .u64 (rot x k))],[]⟩:=by
 rw [CE];rcases hk with rfl|rfl|rfl|rfl|rfl<;>kernel_rfl
theorem JX {a0 a1 a2 a3 a4:Int}:∀(k i nn:Nat)(v:W4),k<nn->i+k<=100 ->
  Fq fu (Ad (CX xs) Tryz.prog fu (d+1)) a0 a1 a2 a3 a4 nn ((i+k:Nat):Int) i v.a v.b v.c v.d=some ⟨[],[(Ac8 k v).cells]⟩
 |_,_,0,_,h,_=>by omega
 |0,i,nn+1,v,h,hi=>by
  rw [I9,Dv _ _ _ (by omega)]
  rfl
 |k+1,i,nn+1,v,h,hi=>by
  have ih:=JX (a0:=a0) (a1:=a1) (a2:=a2) (a3:=a3) (a4:=a4) k (i+1) nn (QG v) (by omega) (by omega)
  have w:wrap .i64 ((i:Int)+1)=((i+1:Nat):Int):=by rw [Ak (by omega) (by omega)];omega
  have r13:=fun x=>Amo (xs:=xs) (fu:=fu) (d:=d) (x:=x) (k:=13) (by simp)
  have r16:=fun x=>Amo (xs:=xs) (fu:=fu) (d:=d) (x:=x) (k:=16) (by simp)
  have r17:=fun x=>Amo (xs:=xs) (fu:=fu) (d:=d) (x:=x) (k:=17) (by simp)
  have r21:=fun x=>Amo (xs:=xs) (fu:=fu) (d:=d) (x:=x) (k:=21) (by simp)
  have r32:=fun x=>Amo (xs:=xs) (fu:=fu) (d:=d) (x:=x) (k:=32) (by simp)
  rw [I9];simp (disch:=omega) only [Bx,r13,r16,r17,r21,r32,w];rw [show i+(k+1)=i+1+k by omega]
  exact ih
theorem SE (k:Nat)(hk:k<=4)(hfu:100<=fu)(v:W4):Ad (CX xs) Tryz.prog fu (d+2) Lz [.pbox [.sc (.int .u64 v.a),.sc (.int .u64 v.b),.sc (.int .u64 v.c),.sc (.int .u64 v.d)],.sc (.int .i64 k)]=some ⟨[],[(Ac8 k v).cells]⟩:=by
 rw [Wf];have:=JX (xs:=xs) (fu:=fu) (d:=d) (a0:=v.a) (a1:=v.b) (a2:=v.c) (a3:=v.d) (a4:=k) k 0 fu v (by omega) (by omega)
 rw [Ck] at this;exact this
theorem SA (hfu:100<=fu)(v:W4)(m:Int):Ad (CX xs) Tryz.prog fu (d+3) Lt [.pbox [.sc (.int .u64 v.a),.sc (.int .u64 v.b),.sc (.int .u64 v.c),.sc (.int .u64 v.d)],.sc (.int .u64 m)]=some ⟨[],[(Tj v m).cells]⟩:=by
 rw [Wl];have r2:=SE (xs:=xs) (fu:=fu) (d:=d) 2 (by omega) hfu ⟨v.a,v.b,v.c,D7 .u64 v.d m⟩
 have e2:((2:Nat):Int)=2:=rfl;rw [e2] at r2;unfold Tj;generalize Ac8 2 ⟨v.a,v.b,v.c,D7 .u64 v.d m⟩=R at r2 ⊢;simp only [W4.cells] at r2;simp only [Bx,r2];rfl
theorem Atd {a b:Int}{k:Nat}(hk:k<8)(ha:0<=a)(ha':a<((2 ^ (8*k):Nat):Int)) (hb:0<=b)(hb':b<=255):QI .u64 a (Fp .u64 b (8*(k:Int)))=a+((2 ^ (8*k):Nat):Int)*b:=by
 obtain ⟨n,rfl⟩:=Int.eq_ofNat_of_zero_le hb;have e:(8*(k:Int)).toNat=8*k:=by omega
 have hp:n*2 ^ (8*k)<=255*2 ^ (8*k):=Nat.mul_le_mul_right _ (by omega)
 have h56:2 ^ (8*k)<=2 ^ 56:=Nat.pow_le_pow_right (by omega) (by omega)
 have e56:(2:Nat) ^ 56=72057594037927936:=by decide
 rw [e56] at h56;generalize hP:2 ^ (8*k)=p at *
 have hpos:n*p<=255*p:=hp
 have hs:Fp .u64 (n:Int) (8*(k:Int))=(n:Int)*((2 ^ (8*(k:Int)).toNat:Nat):Int):=Afr (by omega) (by omega) (by omega) (by
  rw [e,hP];have:((n*p:Nat):Int)<=((255*p:Nat):Int):=by omega
  rw [←Int.natCast_mul];omega)
 rw [hs,e,hP]
 have:=(VK (a:=a) (c:=((n*p:Nat):Int)) (8*k) n ha (by rw [hP];exact ha') (by rw [hP]) (by
  have:((n*p:Nat):Int)<=((255*p:Nat):Int):=by omega
  omega)).1
 rw [←Int.natCast_mul,this,Int.mul_comm ((p:Nat):Int),←Int.natCast_mul]
theorem Asn (k:Nat):((2 ^ (8*k):Nat):Int)=256 ^ k:=by
 rw [Nat.pow_mul];simp
theorem JC {call:Ah}{n:Nat}{c:List PV}{l:List Int}(hb:Hg l)(hl:l.length<=8):∀(r:List Int)(i nn:Nat),l.drop i=r->r.length<nn->i<=l.length ->
  Iq fu call n c nn (Sy (l.take i)) l.length (Af .u8 l) l.length i=some ⟨[.sc (.int .u64 (Sy l))],[]⟩
 |_,_,0,_,h,_=>by omega
 |[],i,nn+1,h,hn,hi=>by
  have:=drop_nil h;rw [Qy,Dv _ _ _ (by omega),Jv (by omega)]
 |b::r,i,nn+1,h,hn,hi=>by
  obtain ⟨h1,h2,h3⟩:=Cz h;simp only [Kb] at hn;have ih:=JC (call:=call) (n:=n) (c:=c) hb hl r (i+1) nn h3 (by omega) (by omega)
  have hbb:=hb b (List.mem_of_getElem? h2);have w:wrap .i64 ((i:Int)+1)=((i+1:Nat):Int):=by rw [Ak (by omega) (by omega)];omega
  have w8:wrap .i64 (8*(i:Int))=8*(i:Int):=Ak (by omega) (by omega)
  have wb:wrap .u64 b=b:=Ch (by omega) (by omega)
  have hbnd:=Un (l:=l.take i) fun x hx=>hb x (List.mem_of_mem_take hx)
  have htl:(l.take i).length=i:=by rw [List.length_take];omega
  rw [htl] at hbnd
  have hj:QI .u64 (Sy (l.take i)) (Fp .u64 b (8*(i:Int)))=Sy (l.take (i+1)):=by
   rw [Atd (by omega) hbnd.1 (by rw [Asn];exact hbnd.2) hbb.1 hbb.2,List.take_add_one,h2,BN,htl,Asn]
   simp [Sy]
  rw [Qy];simp (disch:=omega) only [Bx,Hi,Bz,Po h2,w,w8,wb,hj];exact ih
theorem TI {l:List Int}(hb:Hg l)(hl:l.length<=8)(hfu:100<=fu):Ad (CX xs) Tryz.prog fu (d+1) Vq [.lst false 1 l.length (Af .u8 l)]=some ⟨[.sc (.int .u64 (Sy l))],[]⟩:=by
 rw [KX];exact JC hb hl l 0 fu rfl (by omega) (by omega)
theorem Fs (k:IntKind)(l:List Int)(i:Nat):List.drop i (Af k l)=Af k (l.drop i):=by
 have:=VB (X8 k) l i
 simpa using this
theorem Ec (k:IntKind)(l:List Int)(i:Nat):List.take i (Af k l)=Af k (l.take i):=by
 have:=Aef (X8 k) l i
 simpa using this
theorem Hg.drop {l:List Int}(h:Hg l)(i:Nat):Hg (l.drop i):=fun x hx=>h x (List.mem_of_mem_drop hx)
theorem Hg.take {l:List Int}(h:Hg l)(i:Nat):Hg (l.take i):=fun x hx=>h x (List.mem_of_mem_take hx)
theorem Ao1 {a0 a1:Int}{n:Nat}{c:List PV}{l:List Int}(hb:Hg l)(hl:l.length<=1099511627776)(hfu:100<=fu)(nn:Nat)(v:W4):
  I6 fu (Ad (CX xs) Tryz.prog fu (d+3)) a0 a1 n c (nn+1) l.length (Af .u8 l) ((l.length / 8:Nat):Int) ((l.length / 8:Nat):Int) ((l.length / 8:Nat):Int) v.a v.b v.c v.d=some ⟨[.sc (.int .u64 (Aia (Ahs (Tj v (On l)))))],[]⟩:=by
 have w8:wrap .i64 (8*((l.length / 8:Nat):Int))=((8*(l.length / 8):Nat):Int):=by rw [Ak (by omega) (by omega)];omega
 have wl:wrap .u64 (l.length:Int)=l.length:=Ch (by omega) (by omega)
 have hdl:(l.drop (8*(l.length / 8))).length=l.length-8*(l.length / 8):=List.length_drop;have li:=TI (xs:=xs) (fu:=fu) (d:=d+2) (hb.drop (8*(l.length / 8))) (by omega) hfu
 rw [hdl] at li;have tk:List.take (l.length-8*(l.length / 8)) (Af .u8 (l.drop (8*(l.length / 8))))=Af .u8 (l.drop (8*(l.length / 8))):=Jv (by rw [Al,hdl];omega)
 have hbn:=Un (hb.drop (8*(l.length / 8)));rw [hdl] at hbn
 have hp7:(256:Int) ^ (l.length-8*(l.length / 8))<=256 ^ 7:=by
  have:(256:Nat) ^ (l.length-8*(l.length / 8))<=256 ^ 7:=Nat.pow_le_pow_right (by omega) (by omega)
  have h2:(((256:Nat) ^ (l.length-8*(l.length / 8)):Nat):Int)<=((256 ^ 7:Nat):Int):=by omega
  simpa using h2
 have hlast:QI .u64 (Sy (l.drop (8*(l.length / 8)))) (Fp .u64 (l.length:Int) 56)=On l:=by
  have hs:Fp .u64 (l.length:Int) 56=(((l.length % 256)*2 ^ 56:Nat):Int):=by
   show wrap .u64 ((l.length:Int)*2 ^ (min (56:Int).toNat IntKind.u64.bits))=_;have h2:(2:Int) ^ (min (56:Int).toNat IntKind.u64.bits)=72057594037927936:=by decide
   have h3:(2:Nat) ^ 56=72057594037927936:=by decide
   rw [h2,h3];simp only [wrap,IntKind.signed,IntKind.bits];simp;omega
  have h56:(256:Int) ^ 7=((2 ^ 56:Nat):Int):=by decide
  have h3:(2:Nat) ^ 56=72057594037927936:=by decide
  rw [hs,(VK 56 (l.length % 256) hbn.1 (by omega) rfl (by omega)).1]
  unfold On;omega
 have ab:=SA (xs:=xs) (fu:=fu) (d:=d) hfu v (On l);have r4:=SE (xs:=xs) (fu:=fu) (d:=d+1) 4 (by omega) hfu ⟨(Tj v (On l)).a,(Tj v (On l)).b,D7 .u64 (Tj v (On l)).c 255,(Tj v (On l)).d⟩
 have e4:((4:Nat):Int)=4:=rfl;rw [e4] at r4;unfold Ahs;generalize Tj v (On l)=U at ab r4 ⊢;generalize Ac8 4 ⟨U.a,U.b,D7 .u64 U.c 255,U.d⟩=R at r4 ⊢;simp only [W4.cells] at ab r4;rw [V2];simp (disch:=omega) only [Bx,Hi,Bz,w8,wl,Fs,tk,li,hlast,ab,r4];rfl
theorem ZY {a0 a1:Int}{n:Nat}{c:List PV}{l:List Int}(hb:Hg l)(hl:l.length<=1099511627776)(hfu:100<=fu):∀(k i nn:Nat)(v:W4),i+k=l.length / 8->k<nn ->
  I6 fu (Ad (CX xs) Tryz.prog fu (d+3)) a0 a1 n c nn l.length (Af .u8 l) ((l.length / 8:Nat):Int) ((l.length / 8:Nat):Int) i v.a v.b v.c v.d=some ⟨[.sc (.int .u64 (Aia (Ahs (Tj (RR k v (l.drop (8*i))) (On l)))))],[]⟩
 |_,_,0,_,_,h=>by omega
 |0,i,nn+1,v,hi,hn=>by
  have e:i=l.length / 8:=by omega
  subst e;exact Ao1 hb hl hfu nn v
 |k+1,i,nn+1,v,hi,hn=>by
  have w:wrap .i64 ((i:Int)+1)=((i+1:Nat):Int):=by rw [Ak (by omega) (by omega)];omega
  have w8:wrap .i64 (8*(i:Int))=((8*i:Nat):Int):=by rw [Ak (by omega) (by omega)];omega
  have w88:wrap .i64 (((8*i:Nat):Int)+8)=((8*i+8:Nat):Int):=by rw [Ak (by omega) (by omega)];omega
  have hdl:((l.drop (8*i)).take 8).length=8:=by rw [List.length_take,List.length_drop];omega
  have li:=TI (xs:=xs) (fu:=fu) (d:=d+2) ((hb.drop (8*i)).take 8) (by omega) hfu
  rw [hdl] at li;have e8:8*i+8-8*i=8:=by omega
  have ab:=SA (xs:=xs) (fu:=fu) (d:=d) hfu v (Sy ((l.drop (8*i)).take 8));have ih:=ZY (a0:=a0) (a1:=a1) (n:=n) (c:=c) hb hl hfu k (i+1) nn (Tj v (Sy ((l.drop (8*i)).take 8))) (by omega) (by omega)
  have eN:RR (k+1) v (l.drop (8*i))=RR k (Tj v (Sy ((l.drop (8*i)).take 8))) (l.drop (8*(i+1))):=by
   rw [RR,List.drop_drop,show 8*i+8=8*(i+1) by omega]
  rw [eN];generalize Tj v (Sy ((l.drop (8*i)).take 8))=U at ab ih ⊢;simp only [W4.cells] at ab;rw [V2];simp (disch:=omega) only [Bx,Hi,Bz,w,w8,w88,e8,Fs,Ec,li,ab];exact ih
theorem Aix {l:List Int}(hb:Hg l)(hl:l.length<=1099511627776)(hfu:100<=fu)(hf:l.length<fu)(k0 k1:Int):Ad (CX xs) Tryz.prog fu (d+4) FA [.sc (.int .u64 k0),.sc (.int .u64 k1),.lst false 1 l.length (Af .u8 l)]=some ⟨[.sc (.int .u64 (Anv k0 k1 l))],[]⟩:=by
 rw [WG]
 have w:wrap .i64 (Int.tdiv (l.length:Int) 8)=((l.length / 8:Nat):Int):=by
  rw [Int.tdiv_eq_ediv_of_nonneg (by omega),Ak (by omega) (by omega)]
  omega
 have lp:=ZY (xs:=xs) (fu:=fu) (d:=d) (a0:=k0) (a1:=k1) (n:=l.length) (c:=Af .u8 l) hb hl hfu (l.length / 8) 0 fu (Ap9 k0 k1) (by omega) (by omega)
 simp only [Ha,w];exact lp
theorem Afi {l:List Int}(hb:Hg l)(hl:l.length<=1099511627776)(hfu:100<=fu)(hf:l.length<fu)(dom:Int):Ad (CX xs) Tryz.prog fu (d+5) Si [.sc (.int .i64 dom),.lst false 1 l.length (Af .u8 l)]=some ⟨[.sc (.int .u64 (Ol dom l))],[]⟩:=by
 rw [QO];have s:=Aix (xs:=xs) (fu:=fu) (d:=d) hb hl hfu hf (wrap .u64 dom) 0;simp only [Bx,s];rfl
theorem Pr (v:W4):Ad (CX xs) Tryz.prog fu (d+2) Oo [.agg [.sc (.int .u64 v.a),.sc (.int .u64 v.b),.sc (.int .u64 v.c),.sc (.int .u64 v.d)]]=some ⟨[.agg (QG v).cells],[]⟩:=by
 have r13:=fun x=>Am3 (xs:=xs) (fu:=fu) (d:=d) (x:=x) (k:=13) (by simp)
 have r16:=fun x=>Am3 (xs:=xs) (fu:=fu) (d:=d) (x:=x) (k:=16) (by simp)
 have r17:=fun x=>Am3 (xs:=xs) (fu:=fu) (d:=d) (x:=x) (k:=17) (by simp)
 have r21:=fun x=>Am3 (xs:=xs) (fu:=fu) (d:=d) (x:=x) (k:=21) (by simp)
 have r32:=fun x=>Am3 (xs:=xs) (fu:=fu) (d:=d) (x:=x) (k:=32) (by simp)
 rw [Zq];simp (disch:=omega) only [Bx,r13,r16,r17,r21,r32];rfl
def Wd (l:List Int)(i k:Nat):Int:=if i+k<l.length then l.getD (i+k) 0 else if k=7 then (l.length:Int) % 256 else 0
def pc (l:List Int)(i:Nat):List Int:=(List.range 8).map (Wd l i)
theorem Avn {l:List Int}(hb:Hg l)(i:Nat):Hg (pc l i):=by
 intro x hx;obtain ⟨k,hk,rfl⟩:=List.mem_map.1 hx;unfold Wd;split
 ·rename_i h;rw [List.getD_eq_getElem?_getD,List.getElem?_eq_getElem h];exact hb _ (List.getElem_mem h)
 ·split<;>omega
theorem An1 {l:List Int}{i:Nat}(h:i+8<=l.length):pc l i=(l.drop i).take 8:=by
 refine List.ext_getElem (by simp [pc];omega) fun k h1 h2=>?_
 have hk:k<8:=by simpa [pc] using h1
 simp only [pc,List.getElem_map,List.getElem_range,List.getElem_take,List.getElem_drop,Wd];rw [Bv (by omega),List.getD_eq_getElem?_getD,List.getElem?_eq_getElem (by omega)]
 rfl
theorem TJ (x:Int):∀n,Sy (List.replicate n 0++[x])=256 ^ n*x
 |0=>by simp [Sy]
 |n+1=>by
  rw [List.replicate_succ,List.cons_append,Sy,TJ x n,Int.pow_succ,Int.mul_comm (256 ^ n) 256,Int.mul_assoc];omega
theorem An3 {l:List Int}:Sy (pc l (8*(l.length / 8)))=On l:=by
 have e:pc l (8*(l.length / 8))=l.drop (8*(l.length / 8))++(List.replicate (7-(l.length-8*(l.length / 8))) 0++[(l.length:Int) % 256]):=by
  refine List.ext_getElem (by simp [pc];omega) fun k h1 h2=>?_
  have hk:k<8:=by simpa [pc] using h1
  simp only [pc,List.getElem_map,List.getElem_range,Wd];by_cases hc:8*(l.length / 8)+k<l.length
  ·rw [Bv hc,List.getElem_append_left (by rw [List.length_drop];omega),List.getElem_drop,List.getD_eq_getElem?_getD,List.getElem?_eq_getElem hc]
   rfl
  ·rw [Az hc,List.getElem_append_right (by rw [List.length_drop];omega)]
   by_cases h7:k=7
   ·rw [Bv h7,List.getElem_append_right (by simp;omega)]
    simp
   ·rw [Az h7,List.getElem_append_left (by simp;omega)]
    simp
 rw [e,BN,TJ];unfold On
 have:(256:Int) ^ (l.drop (8*(l.length / 8))).length*(256 ^ (7-(l.length-8*(l.length / 8)))*((l.length:Int) % 256))=72057594037927936*((l.length:Int) % 256):=by
  rw [←Int.mul_assoc,←Int.pow_add,List.length_drop];have:l.length-8*(l.length / 8)+(7-(l.length-8*(l.length / 8)))=7:=by omega
  rw [this];rfl
 rw [this]
theorem As6 {a b:Int}(ha:0<=a)(ha':a<72057594037927936)(hb:0<=b)(hb':b<=255):QI .u64 (Fp .u64 a 8) b=b+256*a:=by
 obtain ⟨n,rfl⟩:=Int.eq_ofNat_of_zero_le ha
 have hs:Fp .u64 (n:Int) 8=((n*2 ^ 8:Nat):Int):=by
  have:=Afr (a:=(n:Int)) (k:=8) (by omega) (by omega) (by omega) (by
   have:(2 ^ (8:Int).toNat:Nat)=256:=by decide
   rw [this];omega)
  rw [this];have:(2 ^ (8:Int).toNat:Nat)=256:=by decide
  rw [this];have:(2 ^ 8:Nat)=256:=by decide
  rw [this];omega
 have h8:(2 ^ 8:Nat)=256:=by decide
 rw [hs,(VK (a:=b) 8 n hb (by rw [h8];omega) rfl (by rw [h8];omega)).2,h8]
 omega
theorem Aeo {a0 a1:Int}{n m0:Nat}{c:List PV}{l:List Int}(hb:Hg l)(hl:l.length<=1099511627776){i:Nat}(hi:i<=l.length)(v:W4):∀(j nn:Nat),j<=8->j<nn ->
  E2 fu (Ad (CX xs) Tryz.prog fu (d+2)) a0 a1 n c m0 nn l.length (Af .u8 l) i (Sy ((pc l i).drop j)) ((j:Int)-1) v.cells =
   Fw fu (Ad (CX xs) Tryz.prog fu (d+2)) a0 a1 n c m0 l.length (Af .u8 l) ((i+8:Nat):Int) (Tj v (Sy (pc l i))).cells
 |_,0,_,h=>by omega
 |0,nn+1,hj,hn=>by
  have w8:wrap .i64 ((i:Int)+8)=((i+8:Nat):Int):=by rw [Ak (by omega) (by omega)];omega
  have r1:=Pr (xs:=xs) (fu:=fu) (d:=d) ⟨v.a,v.b,v.c,D7 .u64 v.d (Sy (pc l i))⟩;have r2:=Pr (xs:=xs) (fu:=fu) (d:=d) (QG ⟨v.a,v.b,v.c,D7 .u64 v.d (Sy (pc l i))⟩);have eA:Tj v (Sy (pc l i))=As7 (QG (QG ⟨v.a,v.b,v.c,D7 .u64 v.d (Sy (pc l i))⟩)) (Sy (pc l i)):=rfl;rw [eA];generalize QG ⟨v.a,v.b,v.c,D7 .u64 v.d (Sy (pc l i))⟩=U at r1 r2 ⊢;generalize QG U=U2 at r2 ⊢;simp only [W4.cells] at r1 r2;rw [Nv,Dv _ _ _ (by omega),Di]
  simp only [W4.cells,List.getD_cons_zero,List.getD_cons_succ,VH,Ha];simp (disch:=first|omega|(simp;done)) only [Bx,Bo,List.take_succ_cons,List.take_zero,List.drop_succ_cons,Di,List.drop_nil,List.cons_append,Zzq,List.append_nil,Kb,ED,List.getD_cons_zero,List.getD_cons_succ,r1,r2,w8,Ck,Nat.reduceAdd,Nat.reduceLeDiff,List.append_eq]
  rfl
 |j+1,nn+1,hj,hn=>by
  have ih:=Aeo (a0:=a0) (a1:=a1) (n:=n) (m0:=m0) (c:=c) hb hl hi v j nn (by omega) (by omega)
  have hw:wrap .i64 ((i:Int)+(((j+1:Nat):Int)-1))=((i+j:Nat):Int):=by rw [Ak (by omega) (by omega)];omega
  have wj:wrap .i64 (((j+1:Nat):Int)-1-1)=(j:Int)-1:=by rw [Ak (by omega) (by omega)];omega
  have hd:(pc l i).drop j=Wd l i j::(pc l i).drop (j+1):=by
   rw [List.drop_eq_getElem_cons (by simp [pc];omega)]
   simp [pc]
  have hB:=Avn hb i;have hbn:=Un (hB.drop (j+1))
  have hp7:(256:Int) ^ ((pc l i).drop (j+1)).length<=72057594037927936:=by
   have hlen:((pc l i).drop (j+1)).length<=7:=by simp [pc]
   have:(256:Nat) ^ ((pc l i).drop (j+1)).length<=256 ^ 7:=Nat.pow_le_pow_right (by omega) hlen
   have h2:(((256:Nat) ^ ((pc l i).drop (j+1)).length:Nat):Int)<=((256 ^ 7:Nat):Int):=by omega
   simpa using h2
  have hc0:0<=Wd l i j∧Wd l i j<=255:=hB _ (by rw [←Di (l:=pc l i)];exact List.mem_of_mem_drop (i:=j) (by rw [Di,hd];simp))
  have hj2:QI .u64 (Fp .u64 (Sy ((pc l i).drop (j+1))) 8) (Wd l i j)=Sy ((pc l i).drop j):=by
   rw [As6 hbn.1 (by omega) hc0.1 hc0.2,hd]
   rfl
  have wc:wrap .u64 (Wd l i j)=Wd l i j:=Ch (by omega) (by omega)
  rw [Nv,PC _ _ _ (by omega)]
  simp only [Ha,hw];by_cases c1:i+j<l.length
  ·have e:Wd l i j=l.getD (i+j) 0:=by unfold Wd;rw [Bv c1]
   have e2:l[i+j]?=some (Wd l i j):=by rw [e,List.getD_eq_getElem?_getD,List.getElem?_eq_getElem c1];rfl
   rw [PC _ _ _ (by omega)]
   simp (disch:=omega) only [Bx,Hi,Bz,Po e2,wc,hj2,wj];exact ih
  ·rw [Dv _ _ _ (by omega)]
   by_cases h7:j=7
   ·subst h7;have e:Wd l i 7=(l.length:Int) % 256:=by unfold Wd;rw [Az c1,Bv rfl]
    have e8:wrap .u8 (l.length:Int)=Wd l i 7:=by
     rw [e];simp only [wrap,IntKind.signed,IntKind.bits];simp
    rw [Fo,Bv (by omega),e8,wc,hj2,wj]
    exact ih
   ·have e:Wd l i j=0:=by unfold Wd;rw [Az c1,Az h7]
    rw [e] at hj2;rw [Fo,Az (by omega),hj2,wj]
    exact ih
theorem SD {a0 a1:Int}{n:Nat}{c:List PV}{l:List Int}(hb:Hg l)(hl:l.length<=1099511627776)(hfu:100<=fu):∀(k i nn:Nat)(v:W4),i+k=l.length / 8->k+1<nn ->
  Fw fu (Ad (CX xs) Tryz.prog fu (d+2)) a0 a1 n c nn l.length (Af .u8 l) ((8*i:Nat):Int) v.cells=some ⟨[.sc (.int .u64 (Aia (Ahs (Tj (RR k v (l.drop (8*i))) (On l)))))],[]⟩
 |_,_,0,_,_,h=>by omega
 |k,i,nn+1,v,hi,hn=>by
  have step:=Aeo (xs:=xs) (fu:=fu) (d:=d) (a0:=a0) (a1:=a1) (n:=n) (m0:=nn) (c:=c) hb hl (i:=8*i) (by omega) v 8 fu (by omega) (by omega)
  have e0:Sy ((pc l (8*i)).drop 8)=0:=by rw [List.drop_of_length_le (by simp [pc])];rfl
  rw [e0] at step;rw [M9,PC _ _ _ (by omega)]
  refine step.trans ?_;cases k with
  |zero=>
   have e:i=l.length / 8:=by omega
   subst e;rw [An3];generalize hv:Tj v (On l)=u;obtain ⟨nn',rfl⟩:∃nn',nn=nn'+1:=⟨nn-1,by omega⟩
   have r1:=Pr (xs:=xs) (fu:=fu) (d:=d) ⟨u.a,u.b,D7 .u64 u.c 255,u.d⟩;have r2:=Pr (xs:=xs) (fu:=fu) (d:=d) (QG ⟨u.a,u.b,D7 .u64 u.c 255,u.d⟩);have r3:=Pr (xs:=xs) (fu:=fu) (d:=d) (QG (QG ⟨u.a,u.b,D7 .u64 u.c 255,u.d⟩));have r4:=Pr (xs:=xs) (fu:=fu) (d:=d) (QG (QG (QG ⟨u.a,u.b,D7 .u64 u.c 255,u.d⟩)))
   have eF:Aia (Ahs (Tj (RR 0 v (l.drop (8*(l.length / 8)))) (On l)))=Aia (QG (QG (QG (QG ⟨u.a,u.b,D7 .u64 u.c 255,u.d⟩)))):=by
    rw [RR,hv];rfl
   rw [eF];clear eF;generalize QG ⟨u.a,u.b,D7 .u64 u.c 255,u.d⟩=U1 at r1 r2 r3 r4 ⊢;generalize QG U1=U2 at r2 r3 r4 ⊢;generalize QG U2=U3 at r3 r4 ⊢;generalize QG U3=U4 at r4 ⊢;simp only [W4.cells] at r1 r2 r3 r4;rw [M9,Dv _ _ _ (by omega)]
   simp only [W4.cells,List.getD_cons_zero,List.getD_cons_succ,VH,Ha];simp (disch:=first|omega|(simp;done)) only [Bx,Bo,List.take_succ_cons,List.take_zero,List.drop_succ_cons,Di,List.drop_nil,List.cons_append,Zzq,List.append_nil,Kb,ED,List.getD_cons_zero,List.getD_cons_succ,r1,r2,r3,r4,Ck,Nat.reduceAdd,Nat.reduceLeDiff,List.append_eq]
   rfl
  |succ k=>
   have ih:=SD (a0:=a0) (a1:=a1) (n:=n) (c:=c) hb hl hfu k (i+1) nn (Tj v (Sy (pc l (8*i)))) (by omega) (by omega)
   rw [show 8*i+8=8*(i+1) by omega,ih,An1 (by omega)]
   simp only [RR,List.drop_drop];rw [show 8*(i+1)=8*i+8 by omega]
theorem Aek {l:List Int}(hb:Hg l)(hl:l.length<=1099511627776)(hfu:100<=fu)(hf:l.length<fu)(k0 k1:Int):Ad (CX xs) Tryz.prog fu (d+3) R4 [.sc (.int .u64 k0),.sc (.int .u64 k1),.lst false 1 l.length (Af .u8 l)]=some ⟨[.sc (.int .u64 (Anv k0 k1 l))],[]⟩:=by
 rw [EV];exact SD (xs:=xs) (fu:=fu) (d:=d) (a0:=k0) (a1:=k1) (n:=l.length) (c:=Af .u8 l) hb hl hfu (l.length / 8) 0 fu (Ap9 k0 k1) (by omega) (by omega)
theorem Aae {l:List Int}(hb:Hg l)(hl:l.length<=1099511627776)(hfu:100<=fu)(hf:l.length<fu)(dom:Int):Ad (CX xs) Tryz.prog fu (d+4) Jh [.sc (.int .i64 dom),.lst false 1 l.length (Af .u8 l)]=some ⟨[.sc (.int .u64 (Ol dom l))],[]⟩:=by
 rw [DD];have s:=Aek (xs:=xs) (fu:=fu) (d:=d) hb hl hfu hf (wrap .u64 dom) 0;simp only [Bx,s];rfl
theorem Ae7 {l:List Int}(hb:Hg l)(hl:l.length<=1099511627776)(hfu:100<=fu)(hf:l.length<fu)(key dom:Int):Ad (CX xs) Tryz.prog fu (d+4) Ry [.sc (.int .u64 key),.sc (.int .i64 dom),.lst false 1 l.length (Af .u8 l)]=some ⟨[.sc (.int .u64 (Ai3 key dom l))],[]⟩:=by
 rw [FQ];have s:=Aek (xs:=xs) (fu:=fu) (d:=d) hb hl hfu hf key (wrap .u64 (1+wrap .u64 dom));simp only [Bx,s];rfl
end
end
section
open Go.IntKind (wrap)
def Dl (w:Int)(k:Nat):Int:=wrap .u8 (Ei .u64 w (56-8*(k:Int)))
def Dq (w:Int):List Int:=(List.range' 0 8).map (Dl w)
def Ax (ws:List Int):List Int:=ws.flatMap Dq
theorem D1 (w:Int):(Dq w).length=8:=rfl
section
variable {fu d:Nat} {xs:FuncId->Option (List PV->Option Aw)} {call:Ah} {n:Nat} {c:List PV}
theorem Aaz {ws:List Int}{w:Int}{m0 l:Nat}{i k:Int}:∀(r j nn:Nat)(bs:List Int),8-j=r->r<nn->j<=8->bs.length+r<=34359738368 ->
  Je fu call n c m0 nn bs.length w l (Af .u64 ws) k i j (Af .u8 bs) =
   Hq fu call n c m0 (bs++(List.range' j (8-j)).map (Dl w)).length l (Af .u64 ws) k (wrap .i64 (i+1)) (Af .u8 (bs++(List.range' j (8-j)).map (Dl w)))
 |r,j,0,bs,_,h,_,_=>by omega
 |0,j,nn+1,bs,hr,_,hj,_=>by
  have e:j=8:=by omega
  subst e;rw [Rs];simp (disch:=omega) only [Bx];simp
 |r+1,j,nn+1,bs,hr,hn,hj,hb=>by
  have ih:=Aaz (ws:=ws) (w:=w) (m0:=m0) (l:=l) (i:=i) (k:=k) r (j+1) nn (bs++[Dl w j]) (by omega) (by omega) (by omega) (by simp;omega)
  have e8:=Al .u8 bs;rw [Rs]
  have hx:wrap .u8 (Ei .u64 w (wrap .i64 (56-wrap .i64 (8*(j:Int)))))=Dl w j:=by
   rw [Ak (x:=8*(j:Int)) (by omega) (by omega),Ak (by omega) (by omega)]
   rfl
  have h0:0<=wrap .i64 (56-wrap .i64 (8*(j:Int))):=by
   rw [Ak (x:=8*(j:Int)) (by omega) (by omega),Ak (by omega) (by omega)]
   omega
  have hrange:List.range' j (8-j)=j::List.range' (j+1) (8-(j+1)):=by
   rw [show 8-j=(8-(j+1))+1 by omega]
   exact List.range'_succ
  simp (disch:=first|omega|exact h0) only [Bx,Bz,hx,Ii,Fn,Ak (x:=(j:Int)+1)];rw [hrange];simp only [Hz,Kb,ED,Ck,Zzv,Zzw,List.singleton_append] at ih ⊢;exact ih
theorem NO {ws:List Int}(hl:ws.length<=1073741824)(hfu:100<=fu):∀(r:List Int)(i nn:Nat)(bs:List Int),ws.drop i=r->r.length<nn->bs.length=8*i ->
  Hq fu call n c nn bs.length ws.length (Af .u64 ws) ws.length i (Af .u8 bs)=some ⟨[.own 1 (bs++Ax r).length (Af .u8 (bs++Ax r))],[]⟩
 |r,i,0,_,_,h,_=>by omega
 |[],i,nn+1,bs,h,_,_=>by
  have:=drop_nil h;have e8:=Al .u8 bs;rw [Sc];simp (disch:=omega) only [Bx,Bz,Ii,Ax,List.flatMap_nil,List.append_nil]
 |w::r,i,nn+1,bs,h,hn,hb=>by
  obtain ⟨h1,h2,h3⟩:=Cz h;simp only [Kb] at hn;rw [Sc];simp (disch:=omega) only [Bx,Hi,Bz,Po h2];rw [show (0:Int)=((0:Nat):Int) from rfl,Aaz 8 0 fu bs rfl (by omega) (by omega) (by omega),Ak (by omega) (by omega)]
  have ih:=NO hl hfu r (i+1) nn (bs++Dq w) h3 (by omega) (by simp [D1];omega)
  have e:bs++Dq w++Ax r=bs++Ax (w::r):=by simp [Ax]
  rw [e] at ih;exact ih
theorem Qg {ws:List Int}(hl:ws.length<=1073741824)(hfu:100<=fu)(hf:ws.length<fu):Ad (CX xs) Tryz.prog fu (d+1) F0 [.lst false 1 ws.length (Af .u64 ws)]=some ⟨[.own 1 (Ax ws).length (Af .u8 (Ax ws))],[]⟩:=by
 rw [OS];simp (disch:=omega) only [Bx,Ak,Int.mul_one];exact NO hl hfu ws 0 fu [] rfl hf rfl
theorem SJ {ws:List Int}{w:Int}{m0 i:Nat}(hw:ws[i]?=some w):∀(r nn:Nat)(j:Int)(bs:List Int),j=(r:Int)-1->r<=8->r<nn->bs.length+r<=34359738368 ->
  Gd fu call n c m0 nn ws.length (Af .u64 ws) bs.length i j (Af .u8 bs) =
   Fd fu call n c m0 ws.length (Af .u64 ws) (bs++(List.range' (8-r) r).map (Dl w)).length (wrap .i64 (i+1)) (Af .u8 (bs++(List.range' (8-r) r).map (Dl w)))
 |r,0,j,bs,_,_,h,_=>by omega
 |0,nn+1,j,bs,hr,_,_,_=>by
  rw [Kj];simp (disch:=omega) only [Bx];simp
 |r+1,nn+1,j,bs,hr,hle,hn,hb=>by
  have hi:=Aru hw;have ih:=SJ (m0:=m0) hw r nn (j-1) (bs++[Dl w (8-(r+1))]) (by omega) (by omega) (by omega) (by simp;omega)
  have e8:=Al .u8 bs
  have hx:wrap .u8 (Ei .u64 w (wrap .u64 (wrap .i64 (8*j))))=Dl w (8-(r+1)):=by
   rw [Ak (by omega) (by omega),Ch (by omega) (by omega)]
   unfold Dl;rw [show 56-8*((8-(r+1):Nat):Int)=8*j by omega]
  have h0:0<=wrap .u64 (wrap .i64 (8*j)):=by
   rw [Ak (by omega) (by omega),Ch (by omega) (by omega)]
   omega
  have hrange:List.range' (8-(r+1)) (r+1)=(8-(r+1))::List.range' (8-r) r:=by
   rw [List.range'_succ,show 8-(r+1)+1=8-r by omega]
  rw [Kj];simp (disch:=first|omega|exact h0) only [Bx,Hi,Bz,Po hw,hx,Ii,Fn,Ak (x:=j-1)];rw [hrange];simp only [Hz,Kb,ED,Ck,Zzv,Zzw,List.singleton_append] at ih ⊢;exact ih
theorem JO {ws:List Int}(hl:ws.length<=1073741824)(hfu:100<=fu):∀(r:List Int)(i nn:Nat)(bs:List Int),ws.drop i=r->r.length<nn->bs.length=8*i ->
  Fd fu call n c nn ws.length (Af .u64 ws) bs.length i (Af .u8 bs)=some ⟨[.own 1 (bs++Ax r).length (Af .u8 (bs++Ax r))],[]⟩
 |r,i,0,_,_,h,_=>by omega
 |[],i,nn+1,bs,h,_,_=>by
  have:=drop_nil h;have e8:=Al .u8 bs;rw [Lg];simp (disch:=omega) only [Bx,Bz,Ii,Ax,List.flatMap_nil,List.append_nil]
 |w::r,i,nn+1,bs,h,hn,hb=>by
  obtain ⟨h1,h2,h3⟩:=Cz h;simp only [Kb] at hn;rw [Lg];simp (disch:=omega) only [Bx];rw [SJ h2 8 fu 7 bs rfl (by omega) (by omega) (by omega),Ak (by omega) (by omega)]
  have ih:=JO hl hfu r (i+1) nn (bs++Dq w) h3 (by omega) (by simp [D1];omega)
  have e:bs++Dq w++Ax r=bs++Ax (w::r):=by simp [Ax]
  rw [e] at ih;exact ih
theorem J1 {ws:List Int}(hl:ws.length<=1073741824)(hfu:100<=fu)(hf:ws.length<fu):Ad (CX xs) Tryz.prog fu (d+1) Dy [.lst false 1 ws.length (Af .u64 ws)]=some ⟨[.own 1 (Ax ws).length (Af .u8 (Ax ws))],[]⟩:=by
 rw [Z3];exact JO hl hfu ws 0 fu [] rfl hf rfl
end
abbrev Er (a b:Int):Int:=QI .u64 (Fp .u64 a 8) (wrap .u64 b)
def AE (bs:List Int):Int:=bs.foldl Er 0
theorem Ao7 {q:Int}(h0:0<=q)(h1:q<=18446744073709551615):Er (q / 256) (wrap .u8 q)=q:=by
 have e1:Fp .u64 (q / 256) 8=q / 256*256:=by
  unfold Fp;have:((8:Int).toNat.min IntKind.u64.bits)=8:=by decide
  show wrap .u64 (q / 256*2 ^ (min (8:Int).toNat IntKind.u64.bits))=_;have h2:(2:Int) ^ (min (8:Int).toNat IntKind.u64.bits)=256:=by decide
  rw [h2,Ch (by omega) (by omega)]
 have e2:wrap .u8 q=q % 256:=by
  simp only [wrap,IntKind.signed,IntKind.bits];simp
 have e3:wrap .u64 (q % 256)=q % 256:=Ch (by omega) (by omega)
 unfold Er;rw [e1,e2,e3];obtain ⟨n,rfl⟩:=Int.eq_ofNat_of_zero_le h0;have hn:n<18446744073709551616:=by omega
 have e4:(BitVec.ofInt 64 ((n:Int) / 256*256)).toNat=n / 256*256:=by
  rw [BitVec.toNat_ofInt];omega
 have e5:(BitVec.ofInt 64 ((n:Int) % 256)).toNat=n % 256:=by
  rw [BitVec.toNat_ofInt];omega
 have e6:n / 256*256 ||| n % 256=n:=by
  have:=Nat.shiftLeft_add_eq_or_of_lt (show n % 256<2 ^ 8 by omega) (n / 256)
  rw [Nat.shiftLeft_eq] at this;rw [←this];omega
 unfold QI;show wrap .u64 ((BitVec.ofInt 64 ((n:Int) / 256*256) ||| BitVec.ofInt 64 ((n:Int) % 256)).toNat:Int)=n;rw [BitVec.toNat_or,e4,e5,e6,Ch (by omega) (by omega)]
theorem UJ {w:Int}(k:Nat)(hk:k<8):Dl w k=wrap .u8 (w / 2 ^ (56-8*k)):=by
 unfold Dl Ei;have e:(56-8*(k:Int)).toNat=56-8*k:=by omega
 rw [e,Nat.min_eq_left (by show 56-8*k<=64;omega),Int.fdiv_eq_ediv_of_nonneg _ (Int.le_of_lt (Int.pow_pos (by omega)))]
theorem TM {w:Int}(h0:0<=w)(h1:w<=18446744073709551615):AE (Dq w)=w:=by
 have st:∀(k:Nat) (D:Int),k<8->(2:Int) ^ (56-8*k)=D->0<D->Er (w / D / 256) (Dl w k)=w / D:=by
  intro k D hk hD hp;rw [UJ k hk,hD];exact Ao7 (Int.ediv_nonneg h0 (Int.le_of_lt hp)) (Int.le_trans (Int.ediv_le_self _ h0) h1)
 have s0:=st 0 72057594037927936 (by omega) (by decide) (by omega)
 have s1:=st 1 281474976710656 (by omega) (by decide) (by omega)
 have s2:=st 2 1099511627776 (by omega) (by decide) (by omega)
 have s3:=st 3 4294967296 (by omega) (by decide) (by omega)
 have s4:=st 4 16777216 (by omega) (by decide) (by omega)
 have s5:=st 5 65536 (by omega) (by decide) (by omega)
 have s6:=st 6 256 (by omega) (by decide) (by omega)
 have s7:=st 7 1 (by omega) (by decide) (by omega)
 rw [show w / 72057594037927936 / 256=0 by omega] at s0
 rw [show w / 281474976710656 / 256=w / 72057594037927936 by omega] at s1
 rw [show w / 1099511627776 / 256=w / 281474976710656 by omega] at s2
 rw [show w / 4294967296 / 256=w / 1099511627776 by omega] at s3
 rw [show w / 16777216 / 256=w / 4294967296 by omega] at s4
 rw [show w / 65536 / 256=w / 16777216 by omega] at s5
 rw [show w / 256 / 256=w / 65536 by omega] at s6
 rw [show w / 1 / 256=w / 256 by omega,show w / 1=w by omega] at s7
 show Er (Er (Er (Er (Er (Er (Er (Er 0 (Dl w 0)) (Dl w 1)) (Dl w 2)) (Dl w 3)) (Dl w 4)) (Dl w 5)) (Dl w 6)) (Dl w 7)=w;rw [s0,s1,s2,s3,s4,s5,s6,s7]
end
section
open Go.IntKind (wrap)
set_option maxRecDepth 100000
abbrev To:FuncId:=104
noncomputable def Gc (fu:Nat)(call:Ah)(a0:Int)(nn:Nat)(y0 y1 y2:Int)(y3 y4:List PV):Option Aw:=C6 CB Tryz.prog fu call 104 Tryz.f104 (Cb Tryz.f104) [.sc (.int .u64 a0)] [.r,.r,.r,.l,.r,.l] nn ⟨lk [(0,(.sc (.int .u64 y0))),(2,(.ptr 2 0)),(3,(.ptr 3 0)),(4,(.sc (.int .i64 y1))),(6,(.sc (.int .i64 y2)))],Cj [(2,(.ar false y3)),(3,(.ar false y4))]⟩
noncomputable def R9 (fu:Nat)(call:Ah)(a0:Int)(nn:Nat)(y0 y1:List PV):Option Aw:=C6 CB Tryz.prog fu call 104 Tryz.f104 (Cb Tryz.f104) [.sc (.int .u64 a0)] [.r,.r,.r,.r,.r] nn ⟨lk [(2,(.ptr 2 0)),(3,(.ptr 3 0))],Cj [(2,(.ar false y0)),(3,(.ar false y1))]⟩
noncomputable def Ru (fu:Nat)(call:Ah)(a0:Int)(nn:Nat)(y0:List PV):Option Aw:=C6 CB Tryz.prog fu call 104 Tryz.f104 (Cb Tryz.f104) [.sc (.int .u64 a0)] [.r,.r,.r,.r,.r,.r] nn ⟨lk [(2,(.ptr 2 0))],Cj [(2,(.ar false y0))]⟩
theorem O6 (fu:Nat)(call:Ah)(a0:Int)(nn:Nat)(y0 y1 y2:Int)(y3 y4:List PV):Gc fu call a0 (nn+1) y0 y1 y2 y3 y4=(A3 (decide (y2<16)) (Aa (wrap .i64 (4*y2)) fun x1=>Aa (wrap .i64 (60-x1)) fun x2=>Ap (decide (0<=x2))<|Aa (Ei .u64 y0 x2) fun x3=>Aa (Mj .u64 x3 15) fun x4=>Aa (wrap .i64 x4) fun x5=>Ap (decide (0<=y2)&&decide (y2<18))<|Ap (decide (0+Int.toNat y2*1+1<=y4.length))<|Aa (Bo y4 [.sc (.int .i64 x5)] (0+Int.toNat y2*1)) fun x6=>Ap (decide (0<=y2)&&decide (y2<18))<|Ae .i64 (List.getD x6 (0+Int.toNat y2*1) .top) fun x7=>Aa (wrap .i64 (15-x7)) fun x8=>Aa (wrap .i64 (y1+x8)) fun x9=>Aa (wrap .i64 (y2+1)) fun Cm=>Gc fu call a0 (nn) (y0) x9 Cm (y3) x6) (Aa (wrap .i64 (Int.tdiv y1 16)) fun Bq=>Ap (decide (17<=y4.length))<|Aa (Bo y4 [.sc (.int .i64 Bq)] 16) fun Dm=>Aa (Int.tmod y1 16) fun Ds=>Ap (decide (18<=Dm.length))<|Aa (Bo Dm [.sc (.int .i64 Ds)] 17) fun Cu=>R9 fu call a0 (fu) (y3) Cu)):=by kernel_rfl
theorem AG (fu:Nat)(call:Ah)(a0:Int)(nn:Nat)(hnn:0<nn)(y0 y1:List PV):R9 fu call a0 nn y0 y1=(Ae .i64 (List.getD y1 0 .top) fun Dw=>Ae .i64 (List.getD y1 1 .top) fun Ea=>Ae .i64 (List.getD y1 2 .top) fun Ef=>Ae .i64 (List.getD y1 3 .top) fun Ew=>Ae .i64 (List.getD y1 4 .top) fun Ej=>Ae .i64 (List.getD y1 5 .top) fun Fb=>Ae .i64 (List.getD y1 6 .top) fun G9=>Ae .i64 (List.getD y1 7 .top) fun Cp=>Ae .i64 (List.getD y1 8 .top) fun Hb=>Ae .i64 (List.getD y1 9 .top) fun Dx=>Ae .i64 (List.getD y1 10 .top) fun B4=>Ae .i64 (List.getD y1 11 .top) fun Ft=>Ae .i64 (List.getD y1 12 .top) fun Hn=>Ae .i64 (List.getD y1 13 .top) fun Bk=>Ae .i64 (List.getD y1 14 .top) fun Ci=>Ae .i64 (List.getD y1 15 .top) fun I1=>Ae .i64 (List.getD y1 16 .top) fun Jd=>Ae .i64 (List.getD y1 17 .top) fun J9=>Ap (decide (18<=y0.length))<|Aa (Bo y0 [.sc (.int .i64 Dw),.sc (.int .i64 Ea),.sc (.int .i64 Ef),.sc (.int .i64 Ew),.sc (.int .i64 Ej),.sc (.int .i64 Fb),.sc (.int .i64 G9),.sc (.int .i64 Cp),.sc (.int .i64 Hb),.sc (.int .i64 Dx),.sc (.int .i64 B4),.sc (.int .i64 Ft),.sc (.int .i64 Hn),.sc (.int .i64 Bk),.sc (.int .i64 Ci),.sc (.int .i64 I1),.sc (.int .i64 Jd),.sc (.int .i64 J9)] 0) fun Kc=>Ru fu call a0 (fu) Kc):=by cases nn with|zero=>exact absurd hnn (Nat.lt_irrefl 0)|succ nn=>kernel_rfl
theorem Z2 (fu:Nat)(call:Ah)(a0:Int)(nn:Nat)(hnn:0<nn)(y0:List PV):Ru fu call a0 nn y0=(Ae .i64 (List.getD y0 0 .top) fun Lx=>Ae .i64 (List.getD y0 1 .top) fun Ob=>Ae .i64 (List.getD y0 2 .top) fun Pt=>Ae .i64 (List.getD y0 3 .top) fun Q5=>Ae .i64 (List.getD y0 4 .top) fun Gn=>Ae .i64 (List.getD y0 5 .top) fun Ie=>Ae .i64 (List.getD y0 6 .top) fun Sv=>Ae .i64 (List.getD y0 7 .top) fun Wg=>Ae .i64 (List.getD y0 8 .top) fun Kd=>Ae .i64 (List.getD y0 9 .top) fun S1=>Ae .i64 (List.getD y0 10 .top) fun Sd=>Ae .i64 (List.getD y0 11 .top) fun Re=>Ae .i64 (List.getD y0 12 .top) fun Sf=>Ae .i64 (List.getD y0 13 .top) fun Vp=>Ae .i64 (List.getD y0 14 .top) fun V9=>Ae .i64 (List.getD y0 15 .top) fun Q8=>Ae .i64 (List.getD y0 16 .top) fun Ud=>Ae .i64 (List.getD y0 17 .top) fun Vo=>some (Aw.mk [.agg [.sc (.int .i64 Lx),.sc (.int .i64 Ob),.sc (.int .i64 Pt),.sc (.int .i64 Q5),.sc (.int .i64 Gn),.sc (.int .i64 Ie),.sc (.int .i64 Sv),.sc (.int .i64 Wg),.sc (.int .i64 Kd),.sc (.int .i64 S1),.sc (.int .i64 Sd),.sc (.int .i64 Re),.sc (.int .i64 Sf),.sc (.int .i64 Vp),.sc (.int .i64 V9),.sc (.int .i64 Q8),.sc (.int .i64 Ud),.sc (.int .i64 Vo)]] [])):=by cases nn with|zero=>exact absurd hnn (Nat.lt_irrefl 0)|succ nn=>kernel_rfl
theorem HP {xs:FuncId->Option (List PV->Option Aw)} (fu d:Nat)(a0:Int):Ad (CX xs) Tryz.prog fu (d+1) To [.sc (.int .u64 a0)]=(fun (call:Ah)=>Gc fu call a0 (fu) (a0) 0 0 ([.sc (.int .i64 0),.sc (.int .i64 0),.sc (.int .i64 0),.sc (.int .i64 0),.sc (.int .i64 0),.sc (.int .i64 0),.sc (.int .i64 0),.sc (.int .i64 0),.sc (.int .i64 0),.sc (.int .i64 0),.sc (.int .i64 0),.sc (.int .i64 0),.sc (.int .i64 0),.sc (.int .i64 0),.sc (.int .i64 0),.sc (.int .i64 0),.sc (.int .i64 0),.sc (.int .i64 0)]) ([.sc (.int .i64 0),.sc (.int .i64 0),.sc (.int .i64 0),.sc (.int .i64 0),.sc (.int .i64 0),.sc (.int .i64 0),.sc (.int .i64 0),.sc (.int .i64 0),.sc (.int .i64 0),.sc (.int .i64 0),.sc (.int .i64 0),.sc (.int .i64 0),.sc (.int .i64 0),.sc (.int .i64 0),.sc (.int .i64 0),.sc (.int .i64 0),.sc (.int .i64 0),.sc (.int .i64 0)])) (Ad (CX xs) Tryz.prog fu d):=by kernel_rfl
abbrev AR:FuncId:=105
noncomputable def Kr (fu:Nat)(call:Ah)(a0 a1:Int)(a2 a3 a4:Int)(nn:Nat)(y0 y1:Int)(y2 y3 y4:Int):Option Aw:=C6 CB Tryz.prog fu call 105 Tryz.f105 (Cb Tryz.f105) [.sc (.int .i64 a0),.sc (.int .i64 a1),.sc (.int .i64 a2),.sc (.int .i64 a3),.sc (.int .u64 a4)] [.r,.r,.l,.r,.l] nn ⟨lk [(0,(.sc (.int .i64 y0))),(1,(.sc (.int .i64 y1))),(4,(.sc (.int .u64 y2))),(11,(.sc (.int .i64 y3))),(12,(.sc (.int .i64 y4)))],Cj []⟩
theorem S9 (fu:Nat)(call:Ah)(a0 a1:Int)(a2 a3 a4:Int)(nn:Nat)(y0 y1:Int)(y2 y3 y4:Int):Kr fu call a0 a1 a2 a3 a4 (nn+1) y0 y1 y2 y3 y4=(A3 (decide (y4<y3)) (Aa (wrap .u64 y0) fun x3=>Aa (wrap .u64 y1) fun x4=>Aa (wrap .u64 y4) fun x5=>Ag (call 89 [.lst false 1 4 [.sc (.int .u64 x3),.sc (.int .u64 x4),.sc (.int .u64 x5),.sc (.int .u64 y2)]]) fun x6 x7=>Ac x7<|Ab x6 fun x8 x9=>D4 1 x8 fun Cm Bq=>Ac x9<|Ap (decide (0+Cm*1<=Bq.length))<|Ag (call 73 [.sc (.int .i64 1),.lst false 1 Cm (List.take (Cm*1) (List.drop 0 Bq))]) fun Dm Ds=>Ac Ds<|Ab Dm fun Cu Dw=>Ae .u64 Cu fun Ea=>Ac Dw<|Aa (wrap .i64 (y4+1)) fun Ef=>Kr fu call a0 a1 a2 a3 a4 (nn) (y0) (y1) Ea (y3) Ef) (some (Aw.mk [.sc (.int .u64 y2)] []))):=by kernel_rfl
theorem QS {xs:FuncId->Option (List PV->Option Aw)} (fu d:Nat)(a0 a1:Int)(a2 a3 a4:Int):Ad (CX xs) Tryz.prog fu (d+1) AR [.sc (.int .i64 a0),.sc (.int .i64 a1),.sc (.int .i64 a2),.sc (.int .i64 a3),.sc (.int .u64 a4)]=(fun (call:Ah)=>Aa (if 15<a3 then 15 else a3) fun x1=>Aa (if a2<0 then 0 else a2) fun x2=>Kr fu call a0 a1 a2 a3 a4 (fu) (a0) (a1) (a4) x1 x2) (Ad (CX xs) Tryz.prog fu d):=by kernel_rfl
abbrev Ri:FuncId:=110
theorem EL {xs:FuncId->Option (List PV->Option Aw)} (fu d:Nat)(a0 a1_0:Int)(a1_1 a1_2:Int)(Ajk Ai0:Int)(Akz Al6:Int)(All Ajg:Int)(Aiw YH:Int)(XS Abj:Int)(Aph Apq:Int)(Apd Apo Apn:Int):Ad (CX xs) Tryz.prog fu (d+1) Ri [.sc (.int .i64 a0),.agg [.sc (.int .u64 a1_0),.sc (.int .u64 a1_1),.sc (.int .u64 a1_2),.sc (.int .u64 Ajk),.sc (.int .u64 Ai0),.sc (.int .u64 Akz),.sc (.int .u64 Al6),.sc (.int .u64 All),.sc (.int .u64 Ajg),.sc (.int .u64 Aiw),.sc (.int .u64 YH),.sc (.int .u64 XS),.sc (.int .u64 Abj),.sc (.int .u64 Aph),.sc (.int .u64 Apq),.sc (.int .u64 Apd),.sc (.int .u64 Apo),.sc (.int .u64 Apn)]]=(fun (call:Ah)=>Aa (wrap .u64 a0) fun x1=>Ag (call 89 [.lst false 1 19 [.sc (.int .u64 x1),.sc (.int .u64 a1_0),.sc (.int .u64 a1_1),.sc (.int .u64 a1_2),.sc (.int .u64 Ajk),.sc (.int .u64 Ai0),.sc (.int .u64 Akz),.sc (.int .u64 Al6),.sc (.int .u64 All),.sc (.int .u64 Ajg),.sc (.int .u64 Aiw),.sc (.int .u64 YH),.sc (.int .u64 XS),.sc (.int .u64 Abj),.sc (.int .u64 Aph),.sc (.int .u64 Apq),.sc (.int .u64 Apd),.sc (.int .u64 Apo),.sc (.int .u64 Apn)]]) fun x2 x3=>Ac x3<|Ab x2 fun x4 x5=>D4 1 x4 fun x6 x7=>Ac x5<|Ap (decide (0+x6*1<=x7.length))<|Ag (call 73 [.sc (.int .i64 2),.lst false 1 x6 (List.take (x6*1) (List.drop 0 x7))]) fun x8 x9=>Ac x9<|Ab x8 fun Cm Bq=>Ae .u64 Cm fun Dm=>Ac Bq<|some (Aw.mk [.sc (.int .u64 Dm)] [])) (Ad (CX xs) Tryz.prog fu d):=by kernel_rfl
abbrev Rr:FuncId:=81
noncomputable def E5 (fu:Nat)(call:Ah)(a0 a1:Int)(a2n:Nat)(a2:List PV)(nn:Nat)(y0:Int)(y1:Nat)(y2:List PV)(y3 y4:Int)(y5 y6:Int)(y7 y8:Int)(y9 y10:Int)(F6 Hu:Int)(Vm DI:Int)(DK DM:Int)(DH KT:Int)(XR ST KE:Int)(y22:List PV):Option Aw:=C6 CB Tryz.prog fu call 81 Tryz.f81 (Cb Tryz.f81) [.sc (.int .i64 a0),.sc (.int .u64 a1),.lst false 1 a2n a2] [.r,.r,.r,.l,.r,.l] nn ⟨lk [(0,(.sc (.int .i64 y0))),(2,(.lst false 1 y1 y2)),(8,(.ptr 8 0)),(15,(.agg [(.sc (.int .i64 y3)),(.sc (.int .i64 y4)),(.sc (.int .i64 y5)),(.sc (.int .i64 y6)),(.sc (.int .i64 y7)),(.sc (.int .i64 y8)),(.sc (.int .i64 y9)),(.sc (.int .i64 y10)),(.sc (.int .i64 F6)),(.sc (.int .i64 Hu)),(.sc (.int .i64 Vm)),(.sc (.int .i64 DI)),(.sc (.int .i64 DK)),(.sc (.int .i64 DM)),(.sc (.int .i64 DH)),(.sc (.int .i64 KT)),(.sc (.int .i64 XR)),(.sc (.int .i64 ST))])),(16,(.sc (.int .i64 KE)))],Cj [(8,(.ar false y22))]⟩
noncomputable def Qw (fu:Nat)(call:Ah)(a0 a1:Int)(a2n:Nat)(a2:List PV)(nn:Nat)(y0:Int)(y1:List PV):Option Aw:=C6 CB Tryz.prog fu call 81 Tryz.f81 (Cb Tryz.f81) [.sc (.int .i64 a0),.sc (.int .u64 a1),.lst false 1 a2n a2] [.r,.r,.r] nn ⟨lk [(0,(.sc (.int .i64 y0))),(8,(.ptr 8 0))],Cj [(8,(.ar false y1))]⟩
noncomputable def P1 (fu:Nat)(call:Ah)(a0 a1:Int)(a2n:Nat)(a2:List PV)(nn:Nat)(y0 y1:Int):Option Aw:=C6 CB Tryz.prog fu call 81 Tryz.f81 (Cb Tryz.f81) [.sc (.int .i64 a0),.sc (.int .u64 a1),.lst false 1 a2n a2] [.r,.r,.r,.r] nn ⟨lk [(6,(.sc (.int .u64 y0))),(7,(.sc (.int .i64 y1)))],Cj []⟩
theorem Nm (fu:Nat)(call:Ah)(a0 a1:Int)(a2n:Nat)(a2:List PV)(nn:Nat)(y0:Int)(y1:Nat)(y2:List PV)(y3 y4:Int)(y5 y6:Int)(y7 y8:Int)(y9 y10:Int)(F6 Hu:Int)(Vm DI:Int)(DK DM:Int)(DH KT:Int)(XR ST KE:Int)(y22:List PV):E5 fu call a0 a1 a2n a2 (nn+1) y0 y1 y2 y3 y4 y5 y6 y7 y8 y9 y10 F6 Hu Vm DI DK DM DH KT XR ST KE y22=(A3 (decide (KE<18)) (Ap (decide (0<=KE)&&decide (KE<18)&&true)<|Ae .i64 (List.getD [.sc (.int .i64 y3),.sc (.int .i64 y4),.sc (.int .i64 y5),.sc (.int .i64 y6),.sc (.int .i64 y7),.sc (.int .i64 y8),.sc (.int .i64 y9),.sc (.int .i64 y10),.sc (.int .i64 F6),.sc (.int .i64 Hu),.sc (.int .i64 Vm),.sc (.int .i64 DI),.sc (.int .i64 DK),.sc (.int .i64 DM),.sc (.int .i64 DH),.sc (.int .i64 KT),.sc (.int .i64 XR),.sc (.int .i64 ST)] (Int.toNat KE*1) .top) fun Wu=>Ap (decide (0<=KE)&&decide (KE<(↑y1:Int)))<|Ae .u64 (List.getD y2 (Int.toNat KE*1) .top) fun Su=>Ag (call 105 [.sc (.int .i64 y0),.sc (.int .i64 KE),.sc (.int .i64 Wu),.sc (.int .i64 15),.sc (.int .u64 Su)]) fun Rg Wn=>Ac Wn<|Ab Rg fun Wc Yb=>Ae .u64 Wc fun Uj=>Ac Yb<|Ap (decide (0<=KE)&&decide (KE<18))<|Ap (decide (0+Int.toNat KE*1+1<=y22.length))<|Aa (Bo y22 [.sc (.int .u64 Uj)] (0+Int.toNat KE*1)) fun Uc=>Aa (wrap .i64 (KE+1)) fun Z9=>E5 fu call a0 a1 a2n a2 (nn) (y0) (y1) (y2) (y3) (y4) (y5) (y6) (y7) (y8) (y9) (y10) (F6) (Hu) (Vm) (DI) (DK) (DM) (DH) (KT) (XR) (ST) Z9 Uc) (Qw fu call a0 a1 a2n a2 (fu) (y0) (y22))):=by kernel_rfl
theorem Ws (fu:Nat)(call:Ah)(a0 a1:Int)(a2n:Nat)(a2:List PV)(nn:Nat)(hnn:0<nn)(y0:Int)(y1:List PV):Qw fu call a0 a1 a2n a2 nn y0 y1=(Ae .u64 (List.getD y1 0 .top) fun Wy=>Ae .u64 (List.getD y1 1 .top) fun Wk=>Ae .u64 (List.getD y1 2 .top) fun Vu=>Ae .u64 (List.getD y1 3 .top) fun Ze=>Ae .u64 (List.getD y1 4 .top) fun AL=>Ae .u64 (List.getD y1 5 .top) fun Yz=>Ae .u64 (List.getD y1 6 .top) fun Z8=>Ae .u64 (List.getD y1 7 .top) fun BK=>Ae .u64 (List.getD y1 8 .top) fun Y0=>Ae .u64 (List.getD y1 9 .top) fun Tw=>Ae .u64 (List.getD y1 10 .top) fun DU=>Ae .u64 (List.getD y1 11 .top) fun GI=>Ae .u64 (List.getD y1 12 .top) fun PL=>Ae .u64 (List.getD y1 13 .top) fun MH=>Ae .u64 (List.getD y1 14 .top) fun LD=>Ae .u64 (List.getD y1 15 .top) fun HV=>Ae .u64 (List.getD y1 16 .top) fun KR=>Ae .u64 (List.getD y1 17 .top) fun ON=>Ag (call 110 [.sc (.int .i64 y0),.agg [.sc (.int .u64 Wy),.sc (.int .u64 Wk),.sc (.int .u64 Vu),.sc (.int .u64 Ze),.sc (.int .u64 AL),.sc (.int .u64 Yz),.sc (.int .u64 Z8),.sc (.int .u64 BK),.sc (.int .u64 Y0),.sc (.int .u64 Tw),.sc (.int .u64 DU),.sc (.int .u64 GI),.sc (.int .u64 PL),.sc (.int .u64 MH),.sc (.int .u64 LD),.sc (.int .u64 HV),.sc (.int .u64 KR),.sc (.int .u64 ON)]]) fun HO Vy=>Ac Vy<|Ab HO fun BA Y1=>Ae .u64 BA fun QU=>Ac Y1<|P1 fu call a0 a1 a2n a2 (fu) QU 0):=by cases nn with|zero=>exact absurd hnn (Nat.lt_irrefl 0)|succ nn=>kernel_rfl
theorem Ww (fu:Nat)(call:Ah)(a0 a1:Int)(a2n:Nat)(a2:List PV)(nn:Nat)(hnn:0<nn)(y0 y1:Int):P1 fu call a0 a1 a2n a2 nn y0 y1=(some (Aw.mk [.sc (.int .u64 y0),.sc (.int .i64 y1)] [])):=by cases nn with|zero=>exact absurd hnn (Nat.lt_irrefl 0)|succ nn=>kernel_rfl
theorem EA {xs:FuncId->Option (List PV->Option Aw)} (fu d:Nat)(a0 a1:Int)(a2n:Nat)(a2:List PV):Ad (CX xs) Tryz.prog fu (d+1) Rr [.sc (.int .i64 a0),.sc (.int .u64 a1),.lst false 1 a2n a2]=(fun (call:Ah)=>A3 ((↑a2n:Int) != 18) (some (Aw.mk [.sc (.int .u64 0),.sc (.int .i64 4)] [])) (Ag (call 104 [.sc (.int .u64 a1)]) fun x1 x2=>Ac x2<|Ab x1 fun x3 x4=>Dt x3 fun x5=>Ab x5 fun x6 x7=>Ae .i64 x6 fun x8=>Ab x7 fun x9 Cm=>Ae .i64 x9 fun Bq=>Ab Cm fun Dm Ds=>Ae .i64 Dm fun Cu=>Ab Ds fun Dw Ea=>Ae .i64 Dw fun Ef=>Ab Ea fun Ew Ej=>Ae .i64 Ew fun Fb=>Ab Ej fun G9 Cp=>Ae .i64 G9 fun Hb=>Ab Cp fun Dx B4=>Ae .i64 Dx fun Ft=>Ab B4 fun Hn Bk=>Ae .i64 Hn fun Ci=>Ab Bk fun I1 Jd=>Ae .i64 I1 fun J9=>Ab Jd fun Kc Lx=>Ae .i64 Kc fun Ob=>Ab Lx fun Pt Q5=>Ae .i64 Pt fun Gn=>Ab Q5 fun Ie Sv=>Ae .i64 Ie fun Wg=>Ab Sv fun Kd S1=>Ae .i64 Kd fun Sd=>Ab S1 fun Re Sf=>Ae .i64 Re fun Vp=>Ab Sf fun V9 Q8=>Ae .i64 V9 fun Ud=>Ab Q8 fun Vo Vx=>Ae .i64 Vo fun Nn=>Ab Vx fun Vt AC=>Ae .i64 Vt fun Ye=>Ab AC fun Up R7=>Ae .i64 Up fun Vl=>Ac R7<|Ac x4<|E5 fu call a0 a1 a2n a2 (fu) (a0) (a2n) (a2) x8 Bq Cu Ef Fb Hb Ft Ci J9 Ob Gn Wg Sd Vp Ud Nn Ye Vl 0 ([.sc (.int .u64 0),.sc (.int .u64 0),.sc (.int .u64 0),.sc (.int .u64 0),.sc (.int .u64 0),.sc (.int .u64 0),.sc (.int .u64 0),.sc (.int .u64 0),.sc (.int .u64 0),.sc (.int .u64 0),.sc (.int .u64 0),.sc (.int .u64 0),.sc (.int .u64 0),.sc (.int .u64 0),.sc (.int .u64 0),.sc (.int .u64 0),.sc (.int .u64 0),.sc (.int .u64 0)]))) (Ad (CX xs) Tryz.prog fu d):=by kernel_rfl
abbrev Ts:FuncId:=106
theorem GZ {xs:FuncId->Option (List PV->Option Aw)} (fu d:Nat)(a0 a1 a2:Int):Ad (CX xs) Tryz.prog fu (d+1) Ts [.sc (.int .u64 a0),.sc (.int .i64 a1),.sc (.int .i64 a2)]=(fun (call:Ah)=>Aa (wrap .u64 a1) fun x1=>Aa (wrap .u64 a2) fun x2=>Ag (call 89 [.lst false 1 2 [.sc (.int .u64 x1),.sc (.int .u64 x2)]]) fun x3 x4=>Ac x4<|Ab x3 fun x5 x6=>D4 1 x5 fun x7 x8=>Ac x6<|Ap (decide (0+x7*1<=x8.length))<|Ag (call 123 [.sc (.int .u64 a0),.sc (.int .i64 1),.lst false 1 x7 (List.take (x7*1) (List.drop 0 x8))]) fun x9 Cm=>Ac Cm<|Ab x9 fun Bq Dm=>Ae .u64 Bq fun Ds=>Ac Dm<|some (Aw.mk [.sc (.int .u64 Ds)] [])) (Ad (CX xs) Tryz.prog fu d):=by kernel_rfl
abbrev Mp:FuncId:=108
noncomputable def Fh (fu:Nat)(call:Ah)(a0 a1:Int)(nn:Nat)(y0 y1 y2:Int)(y3:List PV):Option Aw:=C6 CB Tryz.prog fu call 108 Tryz.f108 (Cb Tryz.f108) [.sc (.int .u64 a0),.sc (.int .i64 a1)] [.r,.r,.l,.r,.l] nn ⟨lk [(0,(.sc (.int .u64 y0))),(1,(.sc (.int .i64 y1))),(5,(.ptr 5 0)),(7,(.sc (.int .i64 y2)))],Cj [(5,(.ar false y3))]⟩
noncomputable def R8 (fu:Nat)(call:Ah)(a0 a1:Int)(nn:Nat)(y0:Int)(y1:List PV):Option Aw:=C6 CB Tryz.prog fu call 108 Tryz.f108 (Cb Tryz.f108) [.sc (.int .u64 a0),.sc (.int .i64 a1)] [.r,.r] nn ⟨lk [(1,(.sc (.int .i64 y0))),(5,(.ptr 5 0))],Cj [(5,(.ar false y1))]⟩
noncomputable def R6 (fu:Nat)(call:Ah)(a0 a1:Int)(nn:Nat)(y0:Int):Option Aw:=C6 CB Tryz.prog fu call 108 Tryz.f108 (Cb Tryz.f108) [.sc (.int .u64 a0),.sc (.int .i64 a1)] [.r,.r,.r] nn ⟨lk [(4,(.sc (.int .u64 y0)))],Cj []⟩
theorem Om (fu:Nat)(call:Ah)(a0 a1:Int)(nn:Nat)(y0 y1 y2:Int)(y3:List PV):Fh fu call a0 a1 (nn+1) y0 y1 y2 y3=(A3 (decide (y2<18)) (Ag (call 106 [.sc (.int .u64 y0),.sc (.int .i64 y1),.sc (.int .i64 y2)]) fun x1 x2=>Ac x2<|Ab x1 fun x3 x4=>Ae .u64 x3 fun x5=>Ac x4<|Ag (call 105 [.sc (.int .i64 y1),.sc (.int .i64 y2),.sc (.int .i64 0),.sc (.int .i64 15),.sc (.int .u64 x5)]) fun x6 x7=>Ac x7<|Ab x6 fun x8 x9=>Ae .u64 x8 fun Cm=>Ac x9<|Ap (decide (0<=y2)&&decide (y2<18))<|Ap (decide (0+Int.toNat y2*1+1<=y3.length))<|Aa (Bo y3 [.sc (.int .u64 Cm)] (0+Int.toNat y2*1)) fun Bq=>Aa (wrap .i64 (y2+1)) fun Dm=>Fh fu call a0 a1 (nn) (y0) (y1) Dm Bq) (R8 fu call a0 a1 (fu) (y1) (y3))):=by kernel_rfl
theorem Zr (fu:Nat)(call:Ah)(a0 a1:Int)(nn:Nat)(hnn:0<nn)(y0:Int)(y1:List PV):R8 fu call a0 a1 nn y0 y1=(Ae .u64 (List.getD y1 0 .top) fun Ds=>Ae .u64 (List.getD y1 1 .top) fun Cu=>Ae .u64 (List.getD y1 2 .top) fun Dw=>Ae .u64 (List.getD y1 3 .top) fun Ea=>Ae .u64 (List.getD y1 4 .top) fun Ef=>Ae .u64 (List.getD y1 5 .top) fun Ew=>Ae .u64 (List.getD y1 6 .top) fun Ej=>Ae .u64 (List.getD y1 7 .top) fun Fb=>Ae .u64 (List.getD y1 8 .top) fun G9=>Ae .u64 (List.getD y1 9 .top) fun Cp=>Ae .u64 (List.getD y1 10 .top) fun Hb=>Ae .u64 (List.getD y1 11 .top) fun Dx=>Ae .u64 (List.getD y1 12 .top) fun B4=>Ae .u64 (List.getD y1 13 .top) fun Ft=>Ae .u64 (List.getD y1 14 .top) fun Hn=>Ae .u64 (List.getD y1 15 .top) fun Bk=>Ae .u64 (List.getD y1 16 .top) fun Ci=>Ae .u64 (List.getD y1 17 .top) fun I1=>Ag (call 110 [.sc (.int .i64 y0),.agg [.sc (.int .u64 Ds),.sc (.int .u64 Cu),.sc (.int .u64 Dw),.sc (.int .u64 Ea),.sc (.int .u64 Ef),.sc (.int .u64 Ew),.sc (.int .u64 Ej),.sc (.int .u64 Fb),.sc (.int .u64 G9),.sc (.int .u64 Cp),.sc (.int .u64 Hb),.sc (.int .u64 Dx),.sc (.int .u64 B4),.sc (.int .u64 Ft),.sc (.int .u64 Hn),.sc (.int .u64 Bk),.sc (.int .u64 Ci),.sc (.int .u64 I1)]]) fun Jd J9=>Ac J9<|Ab Jd fun Kc Lx=>Ae .u64 Kc fun Ob=>Ac Lx<|R6 fu call a0 a1 (fu) Ob):=by cases nn with|zero=>exact absurd hnn (Nat.lt_irrefl 0)|succ nn=>kernel_rfl
theorem Z5 (fu:Nat)(call:Ah)(a0 a1:Int)(nn:Nat)(hnn:0<nn)(y0:Int):R6 fu call a0 a1 nn y0=(some (Aw.mk [.sc (.int .u64 y0)] [])):=by cases nn with|zero=>exact absurd hnn (Nat.lt_irrefl 0)|succ nn=>kernel_rfl
theorem IF {xs:FuncId->Option (List PV->Option Aw)} (fu d:Nat)(a0 a1:Int):Ad (CX xs) Tryz.prog fu (d+1) Mp [.sc (.int .u64 a0),.sc (.int .i64 a1)]=(fun (call:Ah)=>Fh fu call a0 a1 (fu) (a0) (a1) 0 ([.sc (.int .u64 0),.sc (.int .u64 0),.sc (.int .u64 0),.sc (.int .u64 0),.sc (.int .u64 0),.sc (.int .u64 0),.sc (.int .u64 0),.sc (.int .u64 0),.sc (.int .u64 0),.sc (.int .u64 0),.sc (.int .u64 0),.sc (.int .u64 0),.sc (.int .u64 0),.sc (.int .u64 0),.sc (.int .u64 0),.sc (.int .u64 0),.sc (.int .u64 0),.sc (.int .u64 0)])) (Ad (CX xs) Tryz.prog fu d):=by kernel_rfl
abbrev Qn:FuncId:=76
noncomputable def Jg (fu:Nat)(call:Ah)(a0 a1 a2:Int)(nn:Nat)(y0 y1:Int)(y2 y3:Int)(y4 y5:Int)(y6 y7:Int)(y8 y9:Int)(y10 F6:Int)(Hu Vm:Int)(DI DK:Int)(DM DH:Int)(KT XR ST:Int)(KE:List PV):Option Aw:=C6 CB Tryz.prog fu call 76 Tryz.f76 (Cb Tryz.f76) [.sc (.int .u64 a0),.sc (.int .i64 a1),.sc (.int .u64 a2)] [.r,.r,.l,.r,.l] nn ⟨lk [(0,(.sc (.int .u64 y0))),(1,(.sc (.int .i64 y1))),(7,(.ptr 7 0)),(11,(.agg [(.sc (.int .i64 y2)),(.sc (.int .i64 y3)),(.sc (.int .i64 y4)),(.sc (.int .i64 y5)),(.sc (.int .i64 y6)),(.sc (.int .i64 y7)),(.sc (.int .i64 y8)),(.sc (.int .i64 y9)),(.sc (.int .i64 y10)),(.sc (.int .i64 F6)),(.sc (.int .i64 Hu)),(.sc (.int .i64 Vm)),(.sc (.int .i64 DI)),(.sc (.int .i64 DK)),(.sc (.int .i64 DM)),(.sc (.int .i64 DH)),(.sc (.int .i64 KT)),(.sc (.int .i64 XR))])),(12,(.sc (.int .i64 ST)))],Cj [(7,(.ar false KE))]⟩
theorem Rj (fu:Nat)(call:Ah)(a0 a1 a2:Int)(nn:Nat)(y0 y1:Int)(y2 y3:Int)(y4 y5:Int)(y6 y7:Int)(y8 y9:Int)(y10 F6:Int)(Hu Vm:Int)(DI DK:Int)(DM DH:Int)(KT XR ST:Int)(KE:List PV):Jg fu call a0 a1 a2 (nn+1) y0 y1 y2 y3 y4 y5 y6 y7 y8 y9 y10 F6 Hu Vm DI DK DM DH KT XR ST KE=(A3 (decide (ST<18)) (Ap (decide (0<=ST)&&decide (ST<18)&&true)<|Ae .i64 (List.getD [.sc (.int .i64 y2),.sc (.int .i64 y3),.sc (.int .i64 y4),.sc (.int .i64 y5),.sc (.int .i64 y6),.sc (.int .i64 y7),.sc (.int .i64 y8),.sc (.int .i64 y9),.sc (.int .i64 y10),.sc (.int .i64 F6),.sc (.int .i64 Hu),.sc (.int .i64 Vm),.sc (.int .i64 DI),.sc (.int .i64 DK),.sc (.int .i64 DM),.sc (.int .i64 DH),.sc (.int .i64 KT),.sc (.int .i64 XR)] (Int.toNat ST*1) .top) fun Wu=>Ag (call 106 [.sc (.int .u64 y0),.sc (.int .i64 y1),.sc (.int .i64 ST)]) fun Su Rg=>Ac Rg<|Ab Su fun Wn Wc=>Ae .u64 Wn fun Yb=>Ac Wc<|Ag (call 105 [.sc (.int .i64 y1),.sc (.int .i64 ST),.sc (.int .i64 0),.sc (.int .i64 Wu),.sc (.int .u64 Yb)]) fun Uj Uc=>Ac Uc<|Ab Uj fun Z9 Wy=>Ae .u64 Z9 fun Wk=>Ac Wy<|Ap (decide (0<=ST)&&decide (ST<18))<|Ap (decide (0+Int.toNat ST*1+1<=KE.length))<|Aa (Bo KE [.sc (.int .u64 Wk)] (0+Int.toNat ST*1)) fun Vu=>Aa (wrap .i64 (ST+1)) fun Ze=>Jg fu call a0 a1 a2 (nn) (y0) (y1) (y2) (y3) (y4) (y5) (y6) (y7) (y8) (y9) (y10) (F6) (Hu) (Vm) (DI) (DK) (DM) (DH) (KT) (XR) Ze Vu) (Ap (decide (18<=KE.length))<|Ap (decide (18<=KE.length))<|some (Aw.mk [.own 1 18 (List.take 18 KE)] []))):=by kernel_rfl
theorem OW {xs:FuncId->Option (List PV->Option Aw)} (fu d:Nat)(a0 a1 a2:Int):Ad (CX xs) Tryz.prog fu (d+1) Qn [.sc (.int .u64 a0),.sc (.int .i64 a1),.sc (.int .u64 a2)]=(fun (call:Ah)=>Ag (call 104 [.sc (.int .u64 a2)]) fun x1 x2=>Ac x2<|Ab x1 fun x3 x4=>Dt x3 fun x5=>Ab x5 fun x6 x7=>Ae .i64 x6 fun x8=>Ab x7 fun x9 Cm=>Ae .i64 x9 fun Bq=>Ab Cm fun Dm Ds=>Ae .i64 Dm fun Cu=>Ab Ds fun Dw Ea=>Ae .i64 Dw fun Ef=>Ab Ea fun Ew Ej=>Ae .i64 Ew fun Fb=>Ab Ej fun G9 Cp=>Ae .i64 G9 fun Hb=>Ab Cp fun Dx B4=>Ae .i64 Dx fun Ft=>Ab B4 fun Hn Bk=>Ae .i64 Hn fun Ci=>Ab Bk fun I1 Jd=>Ae .i64 I1 fun J9=>Ab Jd fun Kc Lx=>Ae .i64 Kc fun Ob=>Ab Lx fun Pt Q5=>Ae .i64 Pt fun Gn=>Ab Q5 fun Ie Sv=>Ae .i64 Ie fun Wg=>Ab Sv fun Kd S1=>Ae .i64 Kd fun Sd=>Ab S1 fun Re Sf=>Ae .i64 Re fun Vp=>Ab Sf fun V9 Q8=>Ae .i64 V9 fun Ud=>Ab Q8 fun Vo Vx=>Ae .i64 Vo fun Nn=>Ab Vx fun Vt AC=>Ae .i64 Vt fun Ye=>Ab AC fun Up R7=>Ae .i64 Up fun Vl=>Ac R7<|Ac x4<|Jg fu call a0 a1 a2 (fu) (a0) (a1) x8 Bq Cu Ef Fb Hb Ft Ci J9 Ob Gn Wg Sd Vp Ud Nn Ye Vl 0 ([.sc (.int .u64 0),.sc (.int .u64 0),.sc (.int .u64 0),.sc (.int .u64 0),.sc (.int .u64 0),.sc (.int .u64 0),.sc (.int .u64 0),.sc (.int .u64 0),.sc (.int .u64 0),.sc (.int .u64 0),.sc (.int .u64 0),.sc (.int .u64 0),.sc (.int .u64 0),.sc (.int .u64 0),.sc (.int .u64 0),.sc (.int .u64 0),.sc (.int .u64 0),.sc (.int .u64 0)])) (Ad (CX xs) Tryz.prog fu d):=by kernel_rfl
abbrev K0:FuncId:=74
theorem OD {xs:FuncId->Option (List PV->Option Aw)} (fu d:Nat)(a0:Int):Ad (CX xs) Tryz.prog fu (d+1) K0 [.sc (.int .i64 a0)]=(fun (call:Ah)=>A3 (decide (a0<0)) (some (Aw.mk [.sc (.bool true)] [])) (some (Aw.mk [.sc (.bool (decide (a0>4)))] []))) (Ad (CX xs) Tryz.prog fu d):=by kernel_rfl
abbrev H4:FuncId:=75
theorem ES {xs:FuncId->Option (List PV->Option Aw)} (fu d:Nat)(a0 a1:Int):Ad (CX xs) Tryz.prog fu (d+1) H4 [.sc (.int .i64 a0),.sc (.int .i64 a1)]=(fun (call:Ah)=>A3 (decide (a0<0)) (some (Aw.mk [.sc (.bool true)] [])) (Ap (decide (0<=a1))<|Aa (Fp .i64 1 a1) fun x1=>some (Aw.mk [.sc (.bool (decide (a0>=x1)))] []))) (Ad (CX xs) Tryz.prog fu d):=by kernel_rfl
abbrev Vn:FuncId:=92
noncomputable def G2 (fu:Nat)(call:Ah)(a0n:Nat)(a0:List PV)(nn y0:Nat)(y1:List PV)(y2:Nat)(y3 y4:Int)(y5:List PV):Option Aw:=C6 CB Tryz.prog fu call 92 Tryz.f92 (Cb Tryz.f92) [.lst false 1 a0n a0] [.r,.r,.l,.r,.l] nn ⟨lk [(0,(.lst false 1 y0 y1)),(3,(.view 3 1 0 y2)),(12,(.sc (.int .i64 y3))),(13,(.sc (.int .i64 y4)))],Cj [(3,(.ar false y5))]⟩
noncomputable def Ir (fu:Nat)(call:Ah)(a0n:Nat)(a0:List PV)(m0 nn y0:Nat)(y1:List PV)(y2:Nat)(y3 y4 y5:Int)(y6:Nat)(y7:List PV)(y8 y9:Int)(y10:List PV):Option Aw:=C6 CB Tryz.prog fu call 92 Tryz.f92 (Cb Tryz.f92) [.lst false 1 a0n a0] [.r,.r,.l,.r,.l,.i m0,.r,.r,.l,.l,.r,.r,.l] nn ⟨lk [(0,(.lst false 1 y0 y1)),(3,(.view 3 1 0 y2)),(4,(.sc (.int .i64 y3))),(12,(.sc (.int .i64 y4))),(13,(.sc (.int .i64 y5))),(22,(.lst false 1 y6 y7)),(23,(.sc (.int .i64 y8))),(24,(.sc (.int .i64 y9)))],Cj [(3,(.ar false y10))]⟩
theorem P6 (fu:Nat)(call:Ah)(a0n:Nat)(a0:List PV)(nn y0:Nat)(y1:List PV)(y2:Nat)(y3 y4:Int)(y5:List PV):G2 fu call a0n a0 (nn+1) y0 y1 y2 y3 y4 y5=(A3 (decide (y4<y3)) (Aa (wrap .i64 (8*y4)) fun x2=>Aa (wrap .i64 (8*y4)) fun x3=>Aa (wrap .i64 (x3+8)) fun x4=>Ap (decide (0<=x2))<|Ap (decide (0<=x4))<|Ap (decide (Int.toNat x2<=Int.toNat x4)&&decide (Int.toNat x4<=y0))<|Aa (Int.toNat x4-Int.toNat x2) fun x5=>Aa (List.take (x5*1) (List.drop (Int.toNat x2*1) y1)) fun x6=>Ir fu call a0n a0 nn (fu) (y0) (y1) (y2) (y4) (y3) (y4) x5 x6 ((↑x5:Int)) 0 (y5)) (Ap (decide (y2*1<=y5.length))<|some (Aw.mk [.own 1 y2 (List.take (y2*1) y5)] []))):=by kernel_rfl
theorem Pz (fu:Nat)(call:Ah)(a0n:Nat)(a0:List PV)(m0 nn y0:Nat)(y1:List PV)(y2:Nat)(y3 y4 y5:Int)(y6:Nat)(y7:List PV)(y8 y9:Int)(y10:List PV):Ir fu call a0n a0 m0 (nn+1) y0 y1 y2 y3 y4 y5 y6 y7 y8 y9 y10=(A3 (decide (y9<y8)) (Ap (decide (0<=y9)&&decide (y9<(↑y6:Int)))<|Ae .u8 (List.getD y7 (Int.toNat y9*1) .top) fun x7=>Ap (decide (0<=y3)&&decide (y3<(↑y2:Int)))<|Ae .u64 (List.getD y10 (0+Int.toNat y3*1) .top) fun x8=>Aa (Fp .u64 x8 8) fun x9=>Aa (wrap .u64 x7) fun Cm=>Aa (QI .u64 x9 Cm) fun Bq=>Ap (decide (0<=y3)&&decide (y3<(↑y2:Int)))<|Ap (decide (0+Int.toNat y3*1+1<=y10.length))<|Aa (Bo y10 [.sc (.int .u64 Bq)] (0+Int.toNat y3*1)) fun Dm=>Aa (wrap .i64 (y9+1)) fun Ds=>Ir fu call a0n a0 m0 (nn) (y0) (y1) (y2) (y3) (y4) (y5) (y6) (y7) (y8) Ds Dm) (Aa (wrap .i64 (y5+1)) fun Cu=>G2 fu call a0n a0 (m0) (y0) (y1) (y2) (y4) Cu (y10))):=by kernel_rfl
theorem KO {xs:FuncId->Option (List PV->Option Aw)} (fu d a0n:Nat)(a0:List PV):Ad (CX xs) Tryz.prog fu (d+1) Vn [.lst false 1 a0n a0]=(fun (call:Ah)=>Aa (wrap .i64 (Int.tdiv (↑a0n:Int) 8)) fun x1=>Ap (decide (0<=x1)&&decide (x1<=x1)&&decide (x1*8<=1099511627776)&&decide (x1<=1099511627776))<|G2 fu call a0n a0 (fu) (a0n) (a0) x1.toNat ((↑x1.toNat:Int)) 0 (S8 x1.toNat [.sc (.int .u64 0)])) (Ad (CX xs) Tryz.prog fu d):=by kernel_rfl
abbrev Mv:FuncId:=82
theorem HA {xs:FuncId->Option (List PV->Option Aw)} (fu d:Nat)(a0 a1 a2:Int):Ad (CX xs) Tryz.prog fu (d+1) Mv [.sc (.int .i64 a0),.sc (.int .u64 a1),.sc (.int .u64 a2)]=(fun (call:Ah)=>Aa (wrap .u64 a0) fun x1=>Ag (call 89 [.lst false 1 3 [.sc (.int .u64 x1),.sc (.int .u64 a1),.sc (.int .u64 a2)]]) fun x2 x3=>Ac x3<|Ab x2 fun x4 x5=>D4 1 x4 fun x6 x7=>Ac x5<|Ap (decide (0+x6*1<=x7.length))<|Ag (call 73 [.sc (.int .i64 3),.lst false 1 x6 (List.take (x6*1) (List.drop 0 x7))]) fun x8 x9=>Ac x9<|Ab x8 fun Cm Bq=>Ae .u64 Cm fun Dm=>Ac Bq<|some (Aw.mk [.sc (.int .u64 Dm)] [])) (Ad (CX xs) Tryz.prog fu d):=by kernel_rfl
abbrev Oj:FuncId:=66
theorem Zy {xs:FuncId->Option (List PV->Option Aw)} (fu d:Nat)(a0_0 a0_1:Int):Ad (CX xs) Tryz.prog fu (d+1) Oj [.agg [.sc (.int .i64 a0_0),.sc (.int .u64 a0_1)]]=(fun (call:Ah)=>Ag (call 74 [.sc (.int .i64 a0_0)]) fun x1 x2=>Ac x2<|Ab x1 fun x3 x4=>Br x3 fun x5=>Ac x4<|A3 x5 (some (Aw.mk [.own 1 0 [],.sc (.int .i64 9)] [])) (Aa (wrap .u8 a0_0) fun x6=>Ag (call 89 [.lst false 1 1 [.sc (.int .u64 a0_1)]]) fun x7 x8=>Ac x8<|Ab x7 fun x9 Cm=>D4 1 x9 fun Bq Dm=>Ac Cm<|Ap (decide (0+Bq*1<=Dm.length))<|Ap (decide (List.length (List.take (Bq*1) (List.drop 0 Dm))=Bq*1)&&decide ((1+Bq)*1<=1099511627776)&&decide (1+Bq<=1099511627776))<|Aa (1+Bq) fun Ds=>Aa ([.sc (.int .u8 x6)]++List.take (Bq*1) (List.drop 0 Dm)) fun Cu=>Ap (decide (Ds*1<=Cu.length))<|some (Aw.mk [.own 1 Ds (List.take (Ds*1) Cu),.sc (.int .i64 0)] []))) (Ad (CX xs) Tryz.prog fu d):=by kernel_rfl
abbrev Ox:FuncId:=53
theorem Zn {xs:FuncId->Option (List PV->Option Aw)} (fu d a0n:Nat)(a0:List PV):Ad (CX xs) Tryz.prog fu (d+1) Ox [.lst false 1 a0n a0]=(fun (call:Ah)=>A3 ((↑a0n:Int) != 9) (some (Aw.mk [.agg [.sc (.int .i64 0),.sc (.int .u64 0)],.sc (.int .i64 2)] [])) (Ap (decide (0<(↑a0n:Int)))<|Ae .u8 (List.getD a0 0 .top) fun x1=>Aa (wrap .i64 x1) fun x2=>Ag (call 74 [.sc (.int .i64 x2)]) fun x3 x4=>Ac x4<|Ab x3 fun x5 x6=>Br x5 fun x7=>Ac x6<|A3 x7 (some (Aw.mk [.agg [.sc (.int .i64 0),.sc (.int .u64 0)],.sc (.int .i64 2)] [])) (Ap (decide (0<(↑a0n:Int)))<|Ae .u8 (List.getD a0 0 .top) fun x8=>Aa (wrap .i64 x8) fun x9=>Ap (decide (1<=a0n)&&decide (a0n<=a0n))<|Aa (a0n-1) fun Cm=>Aa (List.take (Cm*1) (List.drop 1 a0)) fun Bq=>Ag (call 92 [.lst false 1 Cm Bq]) fun Dm Ds=>Ac Ds<|Ab Dm fun Cu Dw=>D4 1 Cu fun Ea Ef=>Ac Dw<|Ap (decide (0<(↑Ea:Int)))<|Ae .u64 (List.getD Ef 0 .top) fun Ew=>some (Aw.mk [.agg [.sc (.int .i64 x9),.sc (.int .u64 Ew)],.sc (.int .i64 0)] [])))) (Ad (CX xs) Tryz.prog fu d):=by kernel_rfl
abbrev Iu:FuncId:=50
theorem Q7 {xs:FuncId->Option (List PV->Option Aw)} (fu d:Nat)(a0_0:Int)(AH:Nat)(a0_1:List PV)(a0_2n:Nat)(a0_2:List PV):Ad (CX xs) Tryz.prog fu (d+1) Iu [.agg [.sc (.int .i64 a0_0),.lst false 1 AH a0_1,.lst false 1 a0_2n a0_2]]=(fun (call:Ah)=>Ag (call 74 [.sc (.int .i64 (↑a0_2n:Int))]) fun x1 x2=>Ac x2<|Ab x1 fun x3 x4=>Br x3 fun x5=>Ac x4<|A3 x5 (some (Aw.mk [.own 1 0 [],.sc (.int .i64 9)] [])) (Ag (call 75 [.sc (.int .i64 a0_0),.sc (.int .i64 (↑a0_2n:Int))]) fun x6 x7=>Ac x7<|Ab x6 fun x8 x9=>Br x8 fun Cm=>Ac x9<|A3 Cm (some (Aw.mk [.own 1 0 [],.sc (.int .i64 9)] [])) (A3 ((↑AH:Int) != 18) (some (Aw.mk [.own 1 0 [],.sc (.int .i64 4)] [])) (Aa (wrap .u8 a0_0) fun Bq=>Aa (wrap .u8 (↑a0_2n:Int)) fun Dm=>Ag (call 89 [.lst false 1 AH a0_1]) fun Ds Cu=>Ac Cu<|Ab Ds fun Dw Ea=>D4 1 Dw fun Ef Ew=>Ac Ea<|Ap (decide (0+Ef*1<=Ew.length))<|Ap (decide (List.length (List.take (Ef*1) (List.drop 0 Ew))=Ef*1)&&decide ((2+Ef)*1<=1099511627776)&&decide (2+Ef<=1099511627776))<|Aa (2+Ef) fun Ej=>Aa ([.sc (.int .u8 Bq),.sc (.int .u8 Dm)]++List.take (Ef*1) (List.drop 0 Ew)) fun Fb=>Ag (call 89 [.lst false 1 a0_2n a0_2]) fun G9 Cp=>Ac Cp<|Ab G9 fun Hb Dx=>D4 1 Hb fun B4 Ft=>Ac Dx<|Ap (decide (0+B4*1<=Ft.length))<|Ap (decide (Ej*1<=Fb.length)&&decide (List.length (List.take (B4*1) (List.drop 0 Ft))=B4*1)&&decide ((Ej+B4)*1<=1099511627776)&&decide (Ej+B4<=1099511627776))<|Aa (Ej+B4) fun Hn=>Aa (List.take (Ej*1) Fb++List.take (B4*1) (List.drop 0 Ft)) fun Bk=>Ap (decide (Hn*1<=Bk.length))<|some (Aw.mk [.own 1 Hn (List.take (Hn*1) Bk),.sc (.int .i64 0)] []))))) (Ad (CX xs) Tryz.prog fu d):=by kernel_rfl
abbrev Iv:FuncId:=54
theorem Q6 {xs:FuncId->Option (List PV->Option Aw)} (fu d a0n:Nat)(a0:List PV):Ad (CX xs) Tryz.prog fu (d+1) Iv [.lst false 1 a0n a0]=(fun (call:Ah)=>A3 (decide ((↑a0n:Int)<2)) (some (Aw.mk [.agg [.sc (.int .i64 0),.own 1 0 [],.own 1 0 []],.sc (.int .i64 2)] [])) (Ap (decide (0<(↑a0n:Int)))<|Ae .u8 (List.getD a0 0 .top) fun x1=>Aa (wrap .i64 x1) fun x2=>Ap (decide (1<(↑a0n:Int)))<|Ae .u8 (List.getD a0 1 .top) fun x3=>Aa (wrap .i64 x3) fun x4=>Ag (call 74 [.sc (.int .i64 x4)]) fun x5 x6=>Ac x6<|Ab x5 fun x7 x8=>Br x7 fun x9=>Ac x8<|A3 x9 (some (Aw.mk [.agg [.sc (.int .i64 0),.own 1 0 [],.own 1 0 []],.sc (.int .i64 2)] [])) (Ag (call 75 [.sc (.int .i64 x2),.sc (.int .i64 x4)]) fun Cm Bq=>Ac Bq<|Ab Cm fun Dm Ds=>Br Dm fun Cu=>Ac Ds<|A3 Cu (some (Aw.mk [.agg [.sc (.int .i64 0),.own 1 0 [],.own 1 0 []],.sc (.int .i64 2)] [])) (Aa (wrap .i64 (18+x4)) fun Dw=>Aa (wrap .i64 (8*Dw)) fun Ea=>Aa (wrap .i64 (2+Ea)) fun Ef=>A3 ((↑a0n:Int) != Ef) (some (Aw.mk [.agg [.sc (.int .i64 0),.own 1 0 [],.own 1 0 []],.sc (.int .i64 2)] [])) (Ap (decide (146<=a0n))<|Aa (List.take 144 (List.drop 2 a0)) fun Ew=>Ag (call 92 [.lst false 1 144 Ew]) fun Ej Fb=>Ac Fb<|Ab Ej fun G9 Cp=>D4 1 G9 fun Hb Dx=>Ac Cp<|Ap (decide (146<=a0n)&&decide (a0n<=a0n))<|Aa (a0n-146) fun B4=>Aa (List.take (B4*1) (List.drop 146 a0)) fun Ft=>Ag (call 92 [.lst false 1 B4 Ft]) fun Hn Bk=>Ac Bk<|Ab Hn fun Ci I1=>D4 1 Ci fun Jd J9=>Ac I1<|Ap (decide (Hb*1<=Dx.length))<|Ap (decide (Jd*1<=J9.length))<|some (Aw.mk [.agg [.sc (.int .i64 x2),.own 1 Hb (List.take (Hb*1) Dx),.own 1 Jd (List.take (Jd*1) J9)],.sc (.int .i64 0)] [])))))) (Ad (CX xs) Tryz.prog fu d):=by kernel_rfl
abbrev Ta:FuncId:=41
noncomputable def Gf (fu:Nat)(call:Ah)(a0_0 a0_1:Int)(a1 MR:Int)(Yi:Nat)(QY:List PV)(Vs:Nat)(QJ:List PV)(nn:Nat)(y0:Int)(y1:Nat)(y2:List PV)(y3 y4:Int)(y5 y6 y7:Int)(y8:Nat)(y9:List PV)(y10:Nat)(F6:List PV):Option Aw:=C6 CB Tryz.prog fu call 41 Tryz.f41 (Cb Tryz.f41) [.agg [.sc (.int .i64 a0_0),.sc (.int .u64 a0_1)],.sc (.int .u64 a1),.agg [.sc (.int .i64 MR),.lst false 1 Yi QY,.lst false 1 Vs QJ]] [.r,.r,.r,.r,.r,.l,.r,.l] nn ⟨lk [(3,(.ptr 3 0)),(5,(.ptr 5 0)),(7,(.sc (.int .u64 y0))),(46,(.lst false 1 y1 y2)),(47,(.sc (.int .i64 y3))),(48,(.sc (.int .i64 y4)))],Cj [(3,(.st [(.sc (.int .i64 y5)),(.sc (.int .u64 y6))])),(5,(.st [(.sc (.int .i64 y7)),(.lst false 1 y8 y9),(.lst false 1 y10 F6)]))]⟩
theorem O1 (fu:Nat)(call:Ah)(a0_0 a0_1:Int)(a1 MR:Int)(Yi:Nat)(QY:List PV)(Vs:Nat)(QJ:List PV)(nn:Nat)(y0:Int)(y1:Nat)(y2:List PV)(y3 y4:Int)(y5 y6 y7:Int)(y8:Nat)(y9:List PV)(y10:Nat)(F6:List PV):Gf fu call a0_0 a0_1 a1 MR Yi QY Vs QJ (nn+1) y0 y1 y2 y3 y4 y5 y6 y7 y8 y9 y10 F6=(A3 (decide (y4<y3)) (Ap (decide (0<=y4)&&decide (y4<(↑y1:Int)))<|Ae .u64 (List.getD y2 (Int.toNat y4*1) .top) fun Ej=>Ap (decide (0<=y4))<|Aa (Ei .i64 y7 y4) fun Fb=>Aa (Mj .i64 Fb 1) fun G9=>A3 (G9==0) (Aa (wrap .i64 (y4+1)) fun Cp=>Ag (call 82 [.sc (.int .i64 Cp),.sc (.int .u64 y0),.sc (.int .u64 Ej)]) fun Hb Dx=>Ac Dx<|Ab Hb fun B4 Ft=>Ae .u64 B4 fun Hn=>Ac Ft<|Aa (wrap .i64 (y4+1)) fun Bk=>Gf fu call a0_0 a0_1 a1 MR Yi QY Vs QJ (nn) Hn (y1) (y2) (y3) Bk (y5) (y6) (y7) (y8) (y9) (y10) (F6)) (Aa (wrap .i64 (y4+1)) fun Ci=>Ag (call 82 [.sc (.int .i64 Ci),.sc (.int .u64 Ej),.sc (.int .u64 y0)]) fun I1 Jd=>Ac Jd<|Ab I1 fun J9 Kc=>Ae .u64 J9 fun Lx=>Ac Kc<|Aa (wrap .i64 (y4+1)) fun Ob=>Gf fu call a0_0 a0_1 a1 MR Yi QY Vs QJ (nn) Lx (y1) (y2) (y3) Ob (y5) (y6) (y7) (y8) (y9) (y10) (F6))) (A3 (y0 != y6) (some (Aw.mk [.sc (.int .i64 15)] [])) (some (Aw.mk [.sc (.int .i64 0)] [])))):=by kernel_rfl
theorem HY {xs:FuncId->Option (List PV->Option Aw)} (fu d:Nat)(a0_0 a0_1:Int)(a1 MR:Int)(Yi:Nat)(QY:List PV)(Vs:Nat)(QJ:List PV):Ad (CX xs) Tryz.prog fu (d+1) Ta [.agg [.sc (.int .i64 a0_0),.sc (.int .u64 a0_1)],.sc (.int .u64 a1),.agg [.sc (.int .i64 MR),.lst false 1 Yi QY,.lst false 1 Vs QJ]]=(fun (call:Ah)=>Ag (call 74 [.sc (.int .i64 a0_0)]) fun x1 x2=>Ac x2<|Ab x1 fun x3 x4=>Br x3 fun x5=>Ac x4<|A3 x5 (some (Aw.mk [.sc (.int .i64 9)] [])) (Ag (call 75 [.sc (.int .i64 MR),.sc (.int .i64 a0_0)]) fun x6 x7=>Ac x7<|Ab x6 fun x8 x9=>Br x8 fun Cm=>Ac x9<|A3 Cm (some (Aw.mk [.sc (.int .i64 9)] [])) (A3 ((↑Yi:Int) != 18) (some (Aw.mk [.sc (.int .i64 4)] [])) (A3 ((↑Vs:Int) != a0_0) (some (Aw.mk [.sc (.int .i64 4)] [])) (Ag (call 81 [.sc (.int .i64 MR),.sc (.int .u64 a1),.lst false 1 Yi QY]) fun Bq Dm=>Ac Dm<|Ab Bq fun Ds Cu=>Ae .u64 Ds fun Dw=>Ab Cu fun Ea Ef=>Ae .i64 Ea fun Ew=>Ac Ef<|A3 (Ew != 0) (some (Aw.mk [.sc (.int .i64 Ew)] [])) (Gf fu call a0_0 a0_1 a1 MR Yi QY Vs QJ (fu) Dw (Vs) (QJ) ((↑Vs:Int)) 0 (a0_0) (a0_1) (MR) (Yi) (QY) (Vs) (QJ))))))) (Ad (CX xs) Tryz.prog fu d):=by kernel_rfl
end
section
open Go.IntKind (wrap)
theorem Aqa {a m:Int}(h0:0<=m)(h1:m<=18446744073709551615):0<=Mj .u64 a m∧Mj .u64 a m<=m:=by
 have hle:(BitVec.ofInt 64 a &&& BitVec.ofInt 64 m).toNat<=m.toNat:=by
  rw [BitVec.toNat_and];refine Nat.le_trans Nat.and_le_right ?_;rw [BitVec.toNat_ofInt];omega
 have:Mj .u64 a m=((BitVec.ofInt 64 a &&& BitVec.ofInt 64 m).toNat:Int):=by
  unfold Mj;exact Ch (by omega) (by show ((BitVec.ofInt 64 a &&& BitVec.ofInt 64 m).toNat:Int)<=_;omega)
 rw [this];omega
theorem Kk (k:IntKind)(l:List Int)(i:Nat)(x:Int):(Af k l).set i (.sc (.int k x))=Af k (l.set i x):=by
 induction l generalizing i with
 |nil=>rfl
 |cons a l ih=>
  cases i with
  |zero=>rfl
  |succ i=>
   show (PV.sc (.int k a)::Af k l).set (i+1) _=PV.sc (.int k a)::Af k (l.set i x);rw [List.set_cons_succ,ih]
theorem YO (w:Int)(k:Nat):0<=Dl w k∧Dl w k<=255:=by
 unfold Dl;simp only [wrap,IntKind.signed,IntKind.bits];simp;omega
theorem WU (w:Int):Hg (Dq w):=by
 intro x hx;obtain ⟨k,_,rfl⟩:=List.mem_map.1 hx;exact YO w k
theorem Q2 (ws:List Int):Hg (Ax ws):=by
 intro x hx;obtain ⟨w,_,hx⟩:=List.mem_flatMap.1 hx;exact WU w x hx
theorem Cy (ws:List Int):(Ax ws).length=8*ws.length:=by
 induction ws with
 |nil=>rfl
 |cons w ws ih=>
  show (Dq w++Ax ws).length=_;rw [Hz,ih,D1,Kb];omega
def Gk (m:Int)(k:Nat):Int:=wrap .i64 (Mj .u64 (Ei .u64 m (60-4*(k:Int))) 15)
theorem R0 (m:Int)(k:Nat):0<=Gk m k∧Gk m k<=15:=by
 have:=Aqa (a:=Ei .u64 m (60-4*(k:Int))) (m:=15) (by omega) (by omega)
 unfold Gk;rw [Ak (by omega) (by omega)]
 exact this
def Jq (m:Int):Nat->Int
 |0=>0
 |k+1=>Jq m k+(15-Gk m k)
theorem Ju (m:Int):∀k,0<=Jq m k∧Jq m k<=15*k
 |0=>by simp [Jq]
 |k+1=>by
  have h1:=Ju m k;have h2:=R0 m k;simp only [Jq];omega
def UH (m:Int):List Int:=(List.range 16).map (Gk m)++[Jq m 16 / 16,Jq m 16 % 16]
def dg (m:Int)(k:Nat):Int:=(UH m).getD k 0
theorem Ad6 (m:Int):(UH m).length=18:=rfl
theorem Aot {m x:Int}(h:x∈UH m):0<=x∧x<=15:=by
 have hs:=Ju m 16;unfold UH at h;rcases List.mem_append.1 h with h|h
 ·obtain ⟨k,_,rfl⟩:=List.mem_map.1 h;exact R0 m k
 ·simp at h;rcases h with rfl|rfl<;>omega
theorem Zg (m:Int)(k:Nat):0<=dg m k∧dg m k<=15:=by
 unfold dg;rw [List.getD_eq_getElem?_getD];cases h:(UH m)[k]? with
 |none=>simp
 |some x=>exact Aot (List.mem_of_getElem? h)
def dl (m:Int)(i:Nat):List Int:=(List.range i).map (Gk m)++List.replicate (18-i) 0
theorem Acn (m:Int){i:Nat}(h:i<=18):(dl m i).length=18:=by simp [dl];omega
theorem Ass (m:Int){i:Nat}(h:i<18):(dl m (i+1))[i]?=some (Gk m i):=by
 unfold dl;rw [List.getElem?_append_left (by simp)]
 simp
theorem Aqc (m:Int){i:Nat}(h:i<18):(dl m i).set i (Gk m i)=dl m (i+1):=by
 unfold dl;rw [List.set_append_right _ _ (by simp),List.length_map,List.length_range,Nat.sub_self,show 18-i=(18-(i+1))+1 by omega,List.replicate_succ,List.set_cons_zero,List.range_succ,List.map_append,Zzv]
 rfl
def Sr (leaf chain:Int):Nat->Int->Int->Int
 |0,_,x=>x
 |k+1,p,x=>Sr leaf chain k (p+1) (Ol 1 (Ax [wrap .u64 leaf,wrap .u64 chain,wrap .u64 p,x]))
theorem YN (leaf chain:Int):∀(k j:Nat)(p x:Int),Sr leaf chain (k+j) p x=Sr leaf chain j (p+k) (Sr leaf chain k p x)
 |0,j,p,x=>by simp [Sr]
 |k+1,j,p,x=>by
  rw [show k+1+j=(k+j)+1 by omega]
  simp only [Sr];rw [YN leaf chain k j]
  congr 1
  omega
def AJ (leaf:Int)(E:List Int):Int:=Ol 2 (Ax (wrap .u64 leaf::E))
def Acy (leaf m:Int)(s:List Int)(k:Nat):Int:=Sr leaf k (15-dg m k).toNat (dg m k) (s.getD k 0)
def NF (leaf m:Int)(s:List Int):List Int:=(List.range 18).map (Acy leaf m s)
def Age (leaf m:Int)(s:List Int):Int:=AJ leaf (NF leaf m s)
def el (leaf m:Int)(s:List Int)(i:Nat):List Int:=(List.range i).map (Acy leaf m s)++List.replicate (18-i) 0
theorem Ajf (leaf m:Int)(s:List Int){i:Nat}(h:i<=18):(el leaf m s i).length=18:=by simp [el];omega
theorem Apw (leaf m:Int)(s:List Int){i:Nat}(h:i<18):(el leaf m s i).set i (Acy leaf m s i)=el leaf m s (i+1):=by
 unfold el;rw [List.set_append_right _ _ (by simp),List.length_map,List.length_range,Nat.sub_self,show 18-i=(18-(i+1))+1 by omega,List.replicate_succ,List.set_cons_zero,List.range_succ,List.map_append,Zzv]
 rfl
theorem As5 (leaf m:Int)(s:List Int):el leaf m s 18=NF leaf m s:=by
 unfold el NF;simp
end
section
open Go.IntKind (wrap)
set_option maxRecDepth 20000
section
variable {fu d:Nat} {xs:FuncId->Option (List PV->Option Aw)}
theorem Ai7 {ws:List Int}(hl:ws.length<=100)(hfu:1000<=fu)(dom:Int):Ad (CX xs) Tryz.prog fu (d+5) Si [.sc (.int .i64 dom),.lst false 1 (Ax ws).length (Af .u8 (Ax ws))]=some ⟨[.sc (.int .u64 (Ol dom (Ax ws)))],[]⟩:=
 Afi (Q2 ws) (by rw [Cy];omega) (by omega) (by rw [Cy];omega) dom
theorem YS {leaf chain:Int}{a0 a1 a2 a3 a4:Int}(hfu:1000<=fu){t:Int}(ht:t<=15):∀(k nn:Nat)(p x:Int),(k:Int)=t-p->0<=p->k<nn ->
  Kr fu (Ad (CX xs) Tryz.prog fu (d+5)) a0 a1 a2 a3 a4 nn leaf chain x t p=some ⟨[.sc (.int .u64 (Sr leaf chain k p x))],[]⟩
 |_,0,_,_,_,_,h=>by omega
 |0,nn+1,p,x,hk,hp,hn=>by
  rw [S9,Dv _ _ _ (by omega)]
  rfl
 |k+1,nn+1,p,x,hk,hp,hn=>by
  have w:wrap .i64 (p+1)=p+1:=Ak (by omega) (by omega)
  have wd:Ad (CX xs) Tryz.prog fu (d+5) F0 [.lst false 1 4 [.sc (.int .u64 (wrap .u64 leaf)),.sc (.int .u64 (wrap .u64 chain)),.sc (.int .u64 (wrap .u64 p)),.sc (.int .u64 x)]]=_:=Qg (ws:=[wrap .u64 leaf,wrap .u64 chain,wrap .u64 p,x]) (by simp) (by omega) (by simp;omega)
  have hs:=Ai7 (xs:=xs) (fu:=fu) (d:=d) (ws:=[wrap .u64 leaf,wrap .u64 chain,wrap .u64 p,x]) (by simp) hfu 1
  have ih:=YS (leaf:=leaf) (chain:=chain) (a0:=a0) (a1:=a1) (a2:=a2) (a3:=a3) (a4:=a4) hfu ht k nn (p+1) (Ol 1 (Ax [wrap .u64 leaf,wrap .u64 chain,wrap .u64 p,x])) (by omega) (by omega) (by omega)
  have L:=Al .u8 (Ax [wrap .u64 leaf,wrap .u64 chain,wrap .u64 p,x]);have eR:Sr leaf chain (k+1) p x=Sr leaf chain k (p+1) (Ol 1 (Ax [wrap .u64 leaf,wrap .u64 chain,wrap .u64 p,x])):=rfl;rw [eR];generalize Ax [wrap .u64 leaf,wrap .u64 chain,wrap .u64 p,x]=W at wd hs ih L ⊢;rw [S9];simp (disch:=omega) only [Bx,wd,Bz,Ck,Di,Ii,L,hs,w];exact ih
theorem Ad1 {leaf chain:Int}(hfu:1000<=fu)(k:Nat)(f t x:Int)(hk:(k:Int)=t-f) (h0:0<=f)(h1:t<=15):Ad (CX xs) Tryz.prog fu (d+6) AR [.sc (.int .i64 leaf),.sc (.int .i64 chain),.sc (.int .i64 f),.sc (.int .i64 t),.sc (.int .u64 x)]=some ⟨[.sc (.int .u64 (Sr leaf chain k f x))],[]⟩:=by
 rw [QS];simp only [Ha];rw [Az (by omega),Az (by omega)]
 exact YS hfu h1 k fu f x hk h0 (by omega)
theorem JT {call:Ah}{a0 m:Int}{y3:List PV}:∀(k i nn:Nat),i+k=16->k<nn ->
  Gc fu call a0 nn m (Jq m i) i y3 (Af .i64 (dl m i))=Gc fu call a0 (nn-k) m (Jq m 16) 16 y3 (Af .i64 (dl m 16))
 |_,_,0,_,h=>by omega
 |0,i,nn+1,hi,hn=>by
  have e:i=16:=by omega
  subst e;rfl
 |k+1,i,nn+1,hi,hn=>by
  have ih:=JT (call:=call) (a0:=a0) (y3:=y3) (m:=m) k (i+1) nn (by omega) (by omega)
  have hb:=R0 m i;have hs:=Ju m i;have w:wrap .i64 ((i:Int)+1)=((i+1:Nat):Int):=by rw [Ak (by omega) (by omega)];omega
  have w4:wrap .i64 (4*(i:Int))=4*(i:Int):=Ak (by omega) (by omega)
  have w60:wrap .i64 (60-4*(i:Int))=60-4*(i:Int):=Ak (by omega) (by omega)
  have hd:wrap .i64 (Mj .u64 (Ei .u64 m (60-4*(i:Int))) 15)=Gk m i:=rfl;have w15:wrap .i64 (15-Gk m i)=15-Gk m i:=Ak (by omega) (by omega)
  have ws:wrap .i64 (Jq m i+(15-Gk m i))=Jq m (i+1):=by rw [Ak (by omega) (by omega)];rfl
  have L:(Af .i64 (dl m i)).length=18:=by rw [Al,Acn m (by omega)]
  have hset:Bo (Af .i64 (dl m i)) [.sc (.int .i64 (Gk m i))] i=Af .i64 (dl m (i+1)):=by
   rw [Fj (by omega),Kk,Aqc m (by omega)]
  have hat:(Af .i64 (dl m (i+1))).getD i .top=.sc (.int .i64 (Gk m i)):=Po (Ass m (by omega))
  rw [show nn+1-(k+1)=nn-k by omega,←ih,O6]
  simp (disch:=omega) only [Bx,Hi,Bz,Ck,w,w4,w60,hd,L,hset,hat,w15,ws]
theorem SR (hfu:1000<=fu)(m:Int):Ad (CX xs) Tryz.prog fu (d+1) To [.sc (.int .u64 m)]=some ⟨[.agg (Af .i64 (UH m))],[]⟩:=by
 rw [HP];have lp:=JT (fu:=fu) (call:=Ad (CX xs) Tryz.prog fu d) (a0:=m) (m:=m) (y3:=Af .i64 (List.replicate 18 0)) 16 0 fu (by omega) (by omega)
 obtain ⟨f',hf'⟩:∃f',fu-16=f'+1:=⟨fu-17,by omega⟩
 rw [hf'] at lp;refine Eq.trans lp ?_;have hs:=Ju m 16
 have wq:wrap .i64 (Int.tdiv (Jq m 16) 16)=Jq m 16 / 16:=by
  rw [Int.tdiv_eq_ediv_of_nonneg (by omega),Ak (by omega) (by omega)]
 have wm:Int.tmod (Jq m 16) 16=Jq m 16 % 16:=Int.tmod_eq_emod_of_nonneg (by omega)
 have L:(Af .i64 (dl m 16)).length=18:=by rw [Al,Acn m (by omega)]
 have h1:Bo (Af .i64 (dl m 16)) [.sc (.int .i64 (Jq m 16 / 16))] 16=Af .i64 ((dl m 16).set 16 (Jq m 16 / 16)):=by
  rw [Fj (by omega),Kk]
 have L2:(Af .i64 ((dl m 16).set 16 (Jq m 16 / 16))).length=18:=by rw [Al,List.length_set,Acn m (by omega)]
 have h2:Bo (Af .i64 ((dl m 16).set 16 (Jq m 16 / 16))) [.sc (.int .i64 (Jq m 16 % 16))] 17=Af .i64 (UH m):=by
  rw [Fj (by omega),Kk]
  rfl
 rw [O6,Dv _ _ _ (by omega)]
 simp only [Ha,wq,wm,L,h1,L2,h2];generalize hq:Jq m 16 / 16=q at *
 generalize hr:Jq m 16 % 16=r at *
 have hD:Af .i64 (UH m)=[.sc (.int .i64 (Gk m 0)),.sc (.int .i64 (Gk m 1)),.sc (.int .i64 (Gk m 2)),.sc (.int .i64 (Gk m 3)),.sc (.int .i64 (Gk m 4)),.sc (.int .i64 (Gk m 5)),.sc (.int .i64 (Gk m 6)),.sc (.int .i64 (Gk m 7)),.sc (.int .i64 (Gk m 8)),.sc (.int .i64 (Gk m 9)),.sc (.int .i64 (Gk m 10)),.sc (.int .i64 (Gk m 11)),.sc (.int .i64 (Gk m 12)),.sc (.int .i64 (Gk m 13)),.sc (.int .i64 (Gk m 14)),.sc (.int .i64 (Gk m 15)),.sc (.int .i64 q),.sc (.int .i64 r)]:=by
  unfold UH;rw [hq,hr];rfl
 rw [hD];have hr18:(Af .i64 (List.replicate 18 0)).length=18:=rfl
 have hsp:∀c:List PV,c.length=18->Bo (Af .i64 (List.replicate 18 0)) c 0=c:=by
  intro c hc;unfold Bo;rw [hc,List.drop_of_length_le (by rw [hr18];omega)]
  simp
 rw [AG (hnn:=by omega)]
 simp only [Bx,List.getD_cons_zero,List.getD_cons_succ,hr18];rw [hsp _ rfl];simp (disch:=omega) only [Bx,Z2,List.getD_cons_zero,List.getD_cons_succ]
theorem NM (hfu:1000<=fu)(leaf:Int){E:List Int}(hE:E.length=18):Ad (CX xs) Tryz.prog fu (d+6) Ri [.sc (.int .i64 leaf),.agg (Af .u64 E)]=some ⟨[.sc (.int .u64 (AJ leaf E))],[]⟩:=by
 match E,hE with
 |[e0,e1,e2,e3,e4,e5,e6,e7,e8,e9,e10,e11,e12,e13,e14,e15,e16,e17],_=>
  have wd:Ad (CX xs) Tryz.prog fu (d+5) F0 [.lst false 1 19 [.sc (.int .u64 (wrap .u64 leaf)),.sc (.int .u64 e0),.sc (.int .u64 e1),.sc (.int .u64 e2),.sc (.int .u64 e3),.sc (.int .u64 e4),.sc (.int .u64 e5),.sc (.int .u64 e6),.sc (.int .u64 e7),.sc (.int .u64 e8),.sc (.int .u64 e9),.sc (.int .u64 e10),.sc (.int .u64 e11),.sc (.int .u64 e12),.sc (.int .u64 e13),.sc (.int .u64 e14),.sc (.int .u64 e15),.sc (.int .u64 e16),.sc (.int .u64 e17)]]=_:=Qg (ws:=wrap .u64 leaf::[e0,e1,e2,e3,e4,e5,e6,e7,e8,e9,e10,e11,e12,e13,e14,e15,e16,e17]) (by simp) (by omega) (by simp;omega)
  have hs:=Ai7 (xs:=xs) (fu:=fu) (d:=d) (ws:=wrap .u64 leaf::[e0,e1,e2,e3,e4,e5,e6,e7,e8,e9,e10,e11,e12,e13,e14,e15,e16,e17]) (by simp) hfu 2
  have L:=Al .u8 (Ax (wrap .u64 leaf::[e0,e1,e2,e3,e4,e5,e6,e7,e8,e9,e10,e11,e12,e13,e14,e15,e16,e17]));have eR:AJ leaf [e0,e1,e2,e3,e4,e5,e6,e7,e8,e9,e10,e11,e12,e13,e14,e15,e16,e17]=Ol 2 (Ax (wrap .u64 leaf::[e0,e1,e2,e3,e4,e5,e6,e7,e8,e9,e10,e11,e12,e13,e14,e15,e16,e17])):=rfl;rw [eR];generalize Ax (wrap .u64 leaf::[e0,e1,e2,e3,e4,e5,e6,e7,e8,e9,e10,e11,e12,e13,e14,e15,e16,e17])=W at wd hs L ⊢;refine (EL fu (d+5) leaf e0 e1 e2 e3 e4 e5 e6 e7 e8 e9 e10 e11 e12 e13 e14 e15 e16 e17).trans ?_;simp (disch:=omega) only [Bx,wd,Bz,Ck,Di,Ii,L,hs]
theorem App (g:Nat->Int){i:Nat}(hi:i<18):List.getD [PV.sc (.int .i64 (g 0)),PV.sc (.int .i64 (g 1)),PV.sc (.int .i64 (g 2)),PV.sc (.int .i64 (g 3)),PV.sc (.int .i64 (g 4)),PV.sc (.int .i64 (g 5)),PV.sc (.int .i64 (g 6)),PV.sc (.int .i64 (g 7)),PV.sc (.int .i64 (g 8)),PV.sc (.int .i64 (g 9)),PV.sc (.int .i64 (g 10)),PV.sc (.int .i64 (g 11)),PV.sc (.int .i64 (g 12)),PV.sc (.int .i64 (g 13)),PV.sc (.int .i64 (g 14)),PV.sc (.int .i64 (g 15)),PV.sc (.int .i64 (g 16)),PV.sc (.int .i64 (g 17))] i PV.top=.sc (.int .i64 (g i)):=by
 have:((List.range 18).map g)[i]?=some (g i):=by simp [hi]
 exact Po (k:=.i64) this
theorem FU {a0 a1:Int}{a2n:Nat}{a2:List PV}{leaf m:Int}{s:List Int}(hs:s.length=18)(hfu:1000<=fu)(g:Nat->Int)(hg:∀k,g k=dg m k):∀(k i nn:Nat),i+k=18->k<nn ->
  E5 fu (Ad (CX xs) Tryz.prog fu (d+6)) a0 a1 a2n a2 nn leaf s.length (Af .u64 s) (g 0) (g 1) (g 2) (g 3) (g 4) (g 5) (g 6) (g 7) (g 8) (g 9) (g 10) (g 11) (g 12) (g 13) (g 14) (g 15) (g 16) (g 17) i (Af .u64 (el leaf m s i)) =
   E5 fu (Ad (CX xs) Tryz.prog fu (d+6)) a0 a1 a2n a2 (nn-k) leaf s.length (Af .u64 s) (g 0) (g 1) (g 2) (g 3) (g 4) (g 5) (g 6) (g 7) (g 8) (g 9) (g 10) (g 11) (g 12) (g 13) (g 14) (g 15) (g 16) (g 17) 18 (Af .u64 (el leaf m s 18))
 |_,_,0,_,h=>by omega
 |0,i,nn+1,hi,hn=>by
  have e:i=18:=by omega
  subst e;rfl
 |k+1,i,nn+1,hi,hn=>by
  have ih:=FU (a0:=a0) (a1:=a1) (a2n:=a2n) (a2:=a2) (leaf:=leaf) (m:=m) hs hfu g hg k (i+1) nn (by omega) (by omega)
  obtain ⟨x,hx⟩:∃x,s[i]?=some x:=⟨_,List.getElem?_eq_getElem (by omega)⟩
  have hb:=Zg m i;have hgi:=App g (i:=i) (by omega)
  have w:wrap .i64 ((i:Int)+1)=((i+1:Nat):Int):=by rw [Ak (by omega) (by omega)];omega
  have rn:=Ad1 (xs:=xs) (fu:=fu) (d:=d) (leaf:=leaf) (chain:=i) hfu (15-dg m i).toNat (g i) 15 x (by rw [hg];omega) (by rw [hg];omega) (by omega)
  have ev:Sr leaf i (15-dg m i).toNat (g i) x=Acy leaf m s i:=by
   unfold Acy;rw [List.getD_eq_getElem?_getD,hx,hg];rfl
  rw [ev] at rn;have L:(Af .u64 (el leaf m s i)).length=18:=by rw [Al,Ajf leaf m s (by omega)]
  have hset:Bo (Af .u64 (el leaf m s i)) [.sc (.int .u64 (Acy leaf m s i))] i=Af .u64 (el leaf m s (i+1)):=by
   rw [Fj (by omega),Kk,Apw leaf m s (by omega)]
  rw [show nn+1-(k+1)=nn-k by omega,←ih,Nm]
  simp (disch:=omega) only [Bx,Hi,Bz,Ck,hgi,Po hx,rn,L,hset,w]
theorem XZ (hfu:1000<=fu){a0 a1 leaf:Int}{a2n n nn:Nat}{a2 c:List PV}{g:Nat->Int}{E:List Int}(hE:E.length=18):
  E5 fu (Ad (CX xs) Tryz.prog fu (d+6)) a0 a1 a2n a2 (nn+1) leaf n c (g 0) (g 1) (g 2) (g 3) (g 4) (g 5) (g 6) (g 7) (g 8) (g 9) (g 10) (g 11) (g 12) (g 13) (g 14) (g 15) (g 16) (g 17) 18 (Af .u64 E)=some ⟨[.sc (.int .u64 (AJ leaf E)),.sc (.int .i64 0)],[]⟩:=by
 match E,hE with
 |[e0,e1,e2,e3,e4,e5,e6,e7,e8,e9,e10,e11,e12,e13,e14,e15,e16,e17],hE=>
  have cb:=NM (xs:=xs) (fu:=fu) (d:=d) hfu leaf hE;have hc:Af .u64 [e0,e1,e2,e3,e4,e5,e6,e7,e8,e9,e10,e11,e12,e13,e14,e15,e16,e17]=[.sc (.int .u64 e0),.sc (.int .u64 e1),.sc (.int .u64 e2),.sc (.int .u64 e3),.sc (.int .u64 e4),.sc (.int .u64 e5),.sc (.int .u64 e6),.sc (.int .u64 e7),.sc (.int .u64 e8),.sc (.int .u64 e9),.sc (.int .u64 e10),.sc (.int .u64 e11),.sc (.int .u64 e12),.sc (.int .u64 e13),.sc (.int .u64 e14),.sc (.int .u64 e15),.sc (.int .u64 e16),.sc (.int .u64 e17)]:=rfl;rw [hc] at cb ⊢;generalize AJ leaf [e0,e1,e2,e3,e4,e5,e6,e7,e8,e9,e10,e11,e12,e13,e14,e15,e16,e17]=R at cb ⊢;rw [Nm,Dv _ _ _ (by omega)]
  simp (disch:=omega) only [Bx,Ws,Ww,List.getD_cons_zero,List.getD_cons_succ,cb]
theorem Adv (hfu:1000<=fu)(leaf m:Int)(s:List Int):Ad (CX xs) Tryz.prog fu (d+7) Rr [.sc (.int .i64 leaf),.sc (.int .u64 m),.lst false 1 s.length (Af .u64 s)]=some ⟨(if s.length=18 then [.sc (.int .u64 (Age leaf m s)),.sc (.int .i64 0)] else [.sc (.int .u64 0),.sc (.int .i64 4)]),[]⟩:=by
 rw [EA];by_cases h:s.length=18
 ·have dq:=SR (xs:=xs) (fu:=fu) (d:=d+5) hfu m;have hD:Af .i64 (UH m)=[.sc (.int .i64 (dg m 0)),.sc (.int .i64 (dg m 1)),.sc (.int .i64 (dg m 2)),.sc (.int .i64 (dg m 3)),.sc (.int .i64 (dg m 4)),.sc (.int .i64 (dg m 5)),.sc (.int .i64 (dg m 6)),.sc (.int .i64 (dg m 7)),.sc (.int .i64 (dg m 8)),.sc (.int .i64 (dg m 9)),.sc (.int .i64 (dg m 10)),.sc (.int .i64 (dg m 11)),.sc (.int .i64 (dg m 12)),.sc (.int .i64 (dg m 13)),.sc (.int .i64 (dg m 14)),.sc (.int .i64 (dg m 15)),.sc (.int .i64 (dg m 16)),.sc (.int .i64 (dg m 17))]:=rfl;rw [hD] at dq;simp only [D6];rw [Bv h,Bv (by omega)]
  simp only [Bx,dq];have lp:=FU (xs:=xs) (fu:=fu) (d:=d) (a0:=leaf) (a1:=m) (a2n:=s.length) (a2:=Af .u64 s) (leaf:=leaf) (m:=m) h hfu (dg m) (fun _=>rfl) 18 0 fu (by omega) (by omega)
  obtain ⟨f',hf'⟩:∃f',fu-18=f'+1:=⟨fu-19,by omega⟩
  rw [hf'] at lp;refine Eq.trans lp ?_;have eE:el leaf m s 18=NF leaf m s:=As5 leaf m s;have hl:(NF leaf m s).length=18:=by rw [←eE,Ajf leaf m s (by omega)]
  have eR:Age leaf m s=AJ leaf (NF leaf m s):=rfl;rw [eE,eR];exact XZ hfu hl
 ·simp only [D6];rw [Az h,Az (by omega)]
end
end
section
open Go.IntKind (wrap)
structure Ky where
 h:Int
 root:Int
structure Sg where
 leaf:Int
 chains:List Int
 path:List Int
def Ky.cells (k:Ky):List PV:=[.sc (.int .i64 k.h),.sc (.int .u64 k.root)]
def Sg.cells (s:Sg):List PV:=[.sc (.int .i64 s.leaf),.lst false 1 s.chains.length (Af .u64 s.chains),.lst false 1 s.path.length (Af .u64 s.path)]
def C4 (h:Int):Bool:=decide (h<0)||decide (h>4)
def Hp (leaf h:Int):Bool:=decide (leaf<0)||decide (leaf>=Fp .i64 1 h)
def M1 (level a b:Int):Int:=Ol 3 (Ax [wrap .u64 level,a,b])
def CL (leaf:Int):Nat->Int->List Int->Int
 |_,x,[]=>x
 |i,x,s::r=>CL leaf (i+1) (if Mj .i64 (Ei .i64 leaf i) 1=0 then M1 ((i+1:Nat):Int) x s else M1 ((i+1:Nat):Int) s x) r
def okE (x root:Int):Int:=if x=root then 0 else 15
theorem Adq (leaf:Int)(i:Nat)(x:Int):CL leaf i x []=x:=rfl
theorem JF (leaf:Int)(i:Nat)(x s:Int)(r:List Int):CL leaf i x (s::r)=CL leaf (i+1) (if Mj .i64 (Ei .i64 leaf i) 1=0 then M1 ((i+1:Nat):Int) x s else M1 ((i+1:Nat):Int) s x) r:=rfl
def Aaf (k:Ky)(m:Int)(s:Sg):Int:=
 if C4 k.h=true then 9 else if Hp s.leaf k.h=true then 9 else if s.chains.length≠18 then 4 else if (s.path.length:Int)≠k.h then 4 else
 okE (CL s.leaf 0 (Age s.leaf m s.chains) s.path) k.root
theorem H7 {h:Int}(hh:C4 h=false):0<=h∧h<=4:=by
 unfold C4 at hh;simp at hh;omega
section
variable {fu d:Nat} {xs:FuncId->Option (List PV->Option Aw)}
theorem Vd (h:Int):Ad (CX xs) Tryz.prog fu (d+1) K0 [.sc (.int .i64 h)]=some ⟨[.sc (.bool (C4 h))],[]⟩:=by
 rw [OD];unfold C4;by_cases h0:h<0
 ·simp only [Bx,HU,h0,decide_true,Bool.true_or,if_true]
 ·simp only [Bx,HU,h0,decide_false,Bool.false_or,if_false]
theorem P8 (leaf h:Int)(h0:0<=h):Ad (CX xs) Tryz.prog fu (d+1) H4 [.sc (.int .i64 leaf),.sc (.int .i64 h)]=some ⟨[.sc (.bool (Hp leaf h))],[]⟩:=by
 rw [ES];unfold Hp;by_cases hl:leaf<0
 ·simp only [Bx,HU,hl,decide_true,Bool.true_or,if_true]
 ·simp (disch:=omega) only [Bx,HU,hl,decide_false,Bool.false_or,if_false]
theorem GT (hfu:1000<=fu)(level a b:Int):Ad (CX xs) Tryz.prog fu (d+6) Mv [.sc (.int .i64 level),.sc (.int .u64 a),.sc (.int .u64 b)]=some ⟨[.sc (.int .u64 (M1 level a b))],[]⟩:=by
 have wd:Ad (CX xs) Tryz.prog fu (d+5) F0 [.lst false 1 3 [.sc (.int .u64 (wrap .u64 level)),.sc (.int .u64 a),.sc (.int .u64 b)]]=_:=Qg (ws:=[wrap .u64 level,a,b]) (by simp) (by omega) (by simp;omega)
 have hs:=Ai7 (xs:=xs) (fu:=fu) (d:=d) (ws:=[wrap .u64 level,a,b]) (by simp) hfu 3
 have L:=Al .u8 (Ax [wrap .u64 level,a,b]);rw [HA];unfold M1;generalize Ax [wrap .u64 level,a,b]=W at wd hs L ⊢;simp (disch:=omega) only [Bx,wd,Bz,Ck,Di,Ii,L,hs]
theorem JH {a0 a1 a2 a3:Int}{n1 n2 n3 n4:Nat}{c1 c2 c3 c4:List PV}{y5 root leaf:Int}{path:List Int}(hp:path.length<=100)(hfu:1000<=fu):∀(r:List Int)(i nn:Nat)(x:Int),path.drop i=r->r.length<nn->i<=path.length ->
  Gf fu (Ad (CX xs) Tryz.prog fu (d+6)) a0 a1 a2 a3 n1 c1 n2 c2 nn x path.length (Af .u64 path) path.length i y5 root leaf n3 c3 n4 c4=some ⟨[.sc (.int .i64 (okE (CL leaf i x r) root))],[]⟩
 |_,_,0,_,_,h,_=>by omega
 |[],i,nn+1,x,h,hn,hi=>by
  have:=drop_nil h;rw [O1,Dv _ _ _ (by omega),D6]
  rw [Adq];unfold okE;by_cases e:x=root
  ·rw [Bv e,Bv e]
  ·rw [Az e,Az e]
 |s::r,i,nn+1,x,h,hn,hi=>by
  obtain ⟨h1,h2,h3⟩:=Cz h;simp only [Kb] at hn;have w:wrap .i64 ((i:Int)+1)=((i+1:Nat):Int):=by rw [Ak (by omega) (by omega)];omega
  have ih:=fun x=>JH (a0:=a0) (a1:=a1) (a2:=a2) (a3:=a3) (n1:=n1) (n2:=n2) (n3:=n3) (n4:=n4) (c1:=c1) (c2:=c2) (c3:=c3) (c4:=c4) (y5:=y5) (root:=root) (leaf:=leaf) hp hfu r (i+1) nn x h3 (by omega) (by omega)
  have p1:=GT (xs:=xs) (fu:=fu) (d:=d) hfu ((i+1:Nat):Int) x s;have p2:=GT (xs:=xs) (fu:=fu) (d:=d) hfu ((i+1:Nat):Int) s x;rw [O1,JF];by_cases hb:Mj .i64 (Ei .i64 leaf i) 1=0
  ·rw [Bv hb,←ih];simp (disch:=omega) only [Bx,Hi,Bz,Po h2,Fo,hb,w,p1,if_true]
  ·rw [Az hb,←ih];simp (disch:=omega) only [Bx,Hi,Bz,Po h2,Fo,hb,w,p2,if_false]
theorem Ahu (hfu:1000<=fu)(k:Ky)(m:Int)(s:Sg):Ad (CX xs) Tryz.prog fu (d+8) Ta [.agg k.cells,.sc (.int .u64 m),.agg s.cells]=some ⟨[.sc (.int .i64 (Aaf k m s))],[]⟩:=by
 refine (HY fu (d+7) k.h k.root m s.leaf s.chains.length (Af .u64 s.chains) s.path.length (Af .u64 s.path)).trans ?_;have h1:=Vd (xs:=xs) (fu:=fu) (d:=d+6) k.h;unfold Aaf;cases c1:C4 k.h
 ·rw [c1] at h1;have hb:=H7 c1;have h2:=P8 (xs:=xs) (fu:=fu) (d:=d+6) s.leaf k.h hb.1;cases c2:Hp s.leaf k.h
  ·rw [c2] at h2;by_cases c3:s.chains.length=18
   ·by_cases c4:(s.path.length:Int)=k.h
    ·have rc:=Adv (xs:=xs) (fu:=fu) (d:=d) hfu s.leaf m s.chains;rw [Bv c3] at rc;have vl:=JH (xs:=xs) (fu:=fu) (d:=d+1) (a0:=k.h) (a1:=k.root) (a2:=m) (a3:=s.leaf) (n1:=s.chains.length) (n2:=s.path.length) (n3:=s.chains.length) (n4:=s.path.length) (c1:=Af .u64 s.chains) (c2:=Af .u64 s.path) (c3:=Af .u64 s.chains) (c4:=Af .u64 s.path) (y5:=k.h) (root:=k.root) (leaf:=s.leaf) (path:=s.path) (by omega) hfu s.path 0 fu (Age s.leaf m s.chains) rfl (by omega) (by omega)
     rw [Az (by simp),Az (by simp),Az (by omega),Az (by omega),←vl]
     simp (disch:=omega) only [Bx,h1,h2,D6,rc,if_true,c4];rw [Bv (by omega)]
     rfl
    ·rw [Az (by simp),Az (by simp),Az (by omega),Bv c4]
     simp (disch:=omega) only [Bx,h1,h2,D6,c4,if_false];rw [Bv (by omega)]
   ·rw [Az (by simp),Az (by simp),Bv c3]
    simp (disch:=omega) only [Bx,h1,h2,D6];rw [Az (by omega)]
  ·rw [c2] at h2;rw [Az (by simp),Bv rfl]
   simp (disch:=omega) only [Bx,h1,h2]
 ·rw [c1] at h1;rw [Bv rfl];simp (disch:=omega) only [Bx,h1]
def I7 (k:Ky):List Int:=wrap .u8 k.h::Dq k.root
def Sm (s:Sg):List Int:=wrap .u8 s.leaf::wrap .u8 s.path.length::(Ax s.chains++Ax s.path)
theorem owd (hfu:1000<=fu)(w:Int):Ad (CX xs) Tryz.prog fu (d+1) F0 [.lst false 1 1 [.sc (.int .u64 w)]]=some ⟨[.own 1 8 (Af .u8 (Dq w))],[]⟩:=by
 have:=Qg (xs:=xs) (fu:=fu) (d:=d) (ws:=[w]) (by simp) (by omega) (by simp;omega)
 simp only [Ax,List.flatMap_cons,List.flatMap_nil,List.append_nil,Kb,ED,D1] at this;exact this
theorem Agx (hfu:1000<=fu)(k:Ky):Ad (CX xs) Tryz.prog fu (d+2) Oj [.agg k.cells]=some ⟨(if C4 k.h=true then [.own 1 0 [],.sc (.int .i64 9)] else [.own 1 9 (Af .u8 (I7 k)),.sc (.int .i64 0)]),[]⟩:=by
 refine (Zy fu (d+1) k.h k.root).trans ?_;have h1:=Vd (xs:=xs) (fu:=fu) (d:=d) k.h;have wd:=owd (xs:=xs) (fu:=fu) (d:=d) hfu k.root;have L:=Al .u8 (Dq k.root);rw [D1] at L;have t8:List.take 8 (Af .u8 (Dq k.root))=Af .u8 (Dq k.root):=Jv (by omega)
 have t9:List.take 9 ([PV.sc (.int .u8 (wrap .u8 k.h))]++Af .u8 (Dq k.root))=Af .u8 (I7 k):=by
  rw [Jv (by rw [Hz,L];simp)]
  rfl
 have L9:([PV.sc (.int .u8 (wrap .u8 k.h))]++Af .u8 (Dq k.root)).length=9:=by rw [Hz,L];rfl
 cases c1:C4 k.h
 ·rw [c1] at h1;rw [Az (by simp)]
  simp (disch:=omega) only [Bx,h1,wd,Bz,Ck,Di,L,t8,Nat.reduceAdd,L9,t9]
 ·rw [c1] at h1;rw [Bv rfl];simp (disch:=omega) only [Bx,h1]
theorem Af2 (hfu:1000<=fu)(s:Sg)(hp:s.path.length<=1000000000)(hf:s.path.length<fu):Ad (CX xs) Tryz.prog fu (d+2) Iu [.agg s.cells]=some ⟨(if C4 s.path.length=true then [.own 1 0 [],.sc (.int .i64 9)] else if Hp s.leaf s.path.length=true then [.own 1 0 [],.sc (.int .i64 9)] else if s.chains.length≠18 then [.own 1 0 [],.sc (.int .i64 4)] else [.own 1 (Sm s).length (Af .u8 (Sm s)),.sc (.int .i64 0)]),[]⟩:=by
 refine (Q7 fu (d+1) s.leaf s.chains.length (Af .u64 s.chains) s.path.length (Af .u64 s.path)).trans ?_;have h1:=Vd (xs:=xs) (fu:=fu) (d:=d) s.path.length;cases c1:C4 s.path.length
 ·rw [c1] at h1;have hb:=H7 c1;have h2:=P8 (xs:=xs) (fu:=fu) (d:=d) s.leaf s.path.length hb.1;cases c2:Hp s.leaf s.path.length
  ·rw [c2] at h2;by_cases c3:s.chains.length=18
   ·have w1:=Qg (xs:=xs) (fu:=fu) (d:=d) (ws:=s.chains) (by omega) (by omega) (by omega)
    have w2:=Qg (xs:=xs) (fu:=fu) (d:=d) (ws:=s.path) (by omega) (by omega) (by omega)
    have l1:=Cy s.chains;have l2:=Cy s.path;have L1:=Al .u8 (Ax s.chains);have L2:=Al .u8 (Ax s.path)
    have eB:Af .u8 (Sm s)=[PV.sc (.int .u8 (wrap .u8 s.leaf)),PV.sc (.int .u8 (wrap .u8 s.path.length))]++Af .u8 (Ax s.chains)++Af .u8 (Ax s.path):=by
     unfold Sm;simp
    have eL:(Sm s).length=2+(Ax s.chains).length+(Ax s.path).length:=by
     unfold Sm;simp;omega
    rw [Az (by simp),Az (by simp),Az (by omega),eB,eL]
    have t2:List.take (2+(Ax s.chains).length) ([PV.sc (.int .u8 (wrap .u8 s.leaf)),PV.sc (.int .u8 (wrap .u8 s.path.length))]++Af .u8 (Ax s.chains))=[PV.sc (.int .u8 (wrap .u8 s.leaf)),PV.sc (.int .u8 (wrap .u8 s.path.length))]++Af .u8 (Ax s.chains):=Jv (by rw [Hz,L1];simp)
    have t3:List.take (2+(Ax s.chains).length+(Ax s.path).length) ([PV.sc (.int .u8 (wrap .u8 s.leaf)),PV.sc (.int .u8 (wrap .u8 s.path.length))]++Af .u8 (Ax s.chains)++Af .u8 (Ax s.path))=[PV.sc (.int .u8 (wrap .u8 s.leaf)),PV.sc (.int .u8 (wrap .u8 s.path.length))]++Af .u8 (Ax s.chains)++Af .u8 (Ax s.path):=Jv (by rw [Hz,Hz,L1,L2];simp)
    have k2:([PV.sc (.int .u8 (wrap .u8 s.leaf)),PV.sc (.int .u8 (wrap .u8 s.path.length))]++Af .u8 (Ax s.chains)).length=2+(Ax s.chains).length:=by rw [Hz,L1];rfl
    have k3:([PV.sc (.int .u8 (wrap .u8 s.leaf)),PV.sc (.int .u8 (wrap .u8 s.path.length))]++Af .u8 (Ax s.chains)++Af .u8 (Ax s.path)).length=2+(Ax s.chains).length+(Ax s.path).length:=by rw [Hz,k2,L2]
    simp (disch:=omega) only [Bx,h1,h2,D6,w1,w2,Bz,Ck,Di,L1,L2,Ii,t2,t3,k2,k3];rw [Bv (by omega)]
   ·rw [Az (by simp),Az (by simp),Bv c3]
    simp (disch:=omega) only [Bx,h1,h2,D6];rw [Az (by omega)]
  ·rw [c2] at h2;rw [Az (by simp),Bv rfl]
   simp (disch:=omega) only [Bx,h1,h2]
 ·rw [c1] at h1;rw [Bv rfl];simp (disch:=omega) only [Bx,h1]
def Iz (l:List Int)(i:Nat):Int:=AE ((l.drop (8*i)).take 8)
def E1 (l:List Int):List Int:=(List.range (l.length / 8)).map (Iz l)
def wl (l:List Int)(i:Nat):List Int:=(List.range i).map (Iz l)++List.replicate (l.length / 8-i) 0
theorem Akr (l:List Int){i:Nat}(h:i<=l.length / 8):(wl l i).length=l.length / 8:=by simp [wl];omega
theorem Ary (l:List Int){i:Nat}(h:i<l.length / 8):(wl l i).set i (Iz l i)=wl l (i+1):=by
 unfold wl;rw [List.set_append_right _ _ (by simp),List.length_map,List.length_range,Nat.sub_self,show l.length / 8-i=(l.length / 8-(i+1))+1 by omega,List.replicate_succ,List.set_cons_zero,List.range_succ,List.map_append,Zzv]
 rfl
theorem Ant (l:List Int){i:Nat}(h:i<l.length / 8):(wl l i).set i 0=wl l i:=by
 unfold wl;rw [List.set_append_right _ _ (by simp),List.length_map,List.length_range,Nat.sub_self,show l.length / 8-i=(l.length / 8-(i+1))+1 by omega,List.replicate_succ,List.set_cons_zero]
theorem TL {n m0:Nat}{c:List PV}{l:List Int}(hl:l.length<=1000000){i:Nat}(hi:i<l.length / 8){q:List Int}(hq:q.length<=8):∀(r:List Int)(j nn:Nat)(x:Int),q.drop j=r->r.length<nn->j<=q.length ->
  Ir fu (Ad (CX xs) Tryz.prog fu d) n c m0 nn l.length (Af .u8 l) (l.length / 8) i ((l.length / 8:Nat):Int) i q.length (Af .u8 q) q.length j (Af .u64 ((wl l i).set i x)) =
   G2 fu (Ad (CX xs) Tryz.prog fu d) n c m0 l.length (Af .u8 l) (l.length / 8) ((l.length / 8:Nat):Int) ((i+1:Nat):Int) (Af .u64 ((wl l i).set i (r.foldl Er x)))
 |_,_,0,_,_,h,_=>by omega
 |[],j,nn+1,x,h,hn,hj=>by
  have:=drop_nil h;have w:wrap .i64 ((i:Int)+1)=((i+1:Nat):Int):=by rw [Ak (by omega) (by omega)];omega
  rw [Pz,Dv _ _ _ (by omega)]
  simp only [Ha,w,List.foldl_nil]
 |b::r,j,nn+1,x,h,hn,hj=>by
  obtain ⟨h1,h2,h3⟩:=Cz h;simp only [Kb] at hn;have w:wrap .i64 ((j:Int)+1)=((j+1:Nat):Int):=by rw [Ak (by omega) (by omega)];omega
  have L:(Af .u64 ((wl l i).set i x)).length=l.length / 8:=by rw [Al,List.length_set,Akr l (by omega)]
  have hat:(Af .u64 ((wl l i).set i x)).getD i .top=.sc (.int .u64 x):=Po (by rw [List.getElem?_set_self (by rw [Akr l (by omega)];omega)])
  have hset:Bo (Af .u64 ((wl l i).set i x)) [.sc (.int .u64 (Er x b))] i=Af .u64 ((wl l i).set i (Er x b)):=by
   rw [Fj (by omega),Kk,List.set_set]
  have ih:=TL (n:=n) (m0:=m0) (c:=c) hl hi hq r (j+1) nn (Er x b) h3 (by omega) (by omega)
  rw [List.foldl_cons,←ih,Pz];simp (disch:=omega) only [Bx,Hi,Bz,Ck,Po h2,hat,L,w];exact congrArg _ hset
theorem JD {n:Nat}{c:List PV}{l:List Int}(hl:l.length<=1000000)(hfu:100<=fu):∀(k i nn:Nat),i+k=l.length / 8->k<nn ->
  G2 fu (Ad (CX xs) Tryz.prog fu d) n c nn l.length (Af .u8 l) (l.length / 8) ((l.length / 8:Nat):Int) i (Af .u64 (wl l i))=some ⟨[.own 1 (l.length / 8) (Af .u64 (E1 l))],[]⟩
 |_,_,0,_,h=>by omega
 |0,i,nn+1,hi,hn=>by
  have e:i=l.length / 8:=by omega
  subst e;have e2:wl l (l.length / 8)=E1 l:=by unfold wl E1;simp
  have L:(Af .u64 (E1 l)).length=l.length / 8:=by rw [Al];simp [E1]
  have tk:List.take (l.length / 8) (Af .u64 (E1 l))=Af .u64 (E1 l):=Jv (by omega)
  rw [P6,Dv _ _ _ (by omega),e2]
  simp (disch:=omega) only [Bx,Bz,L,tk]
 |k+1,i,nn+1,hi,hn=>by
  have ih:=JD (n:=n) (c:=c) hl hfu k (i+1) nn (by omega) (by omega)
  have w8:wrap .i64 (8*(i:Int))=((8*i:Nat):Int):=by rw [Ak (by omega) (by omega)];omega
  have w88:wrap .i64 (((8*i:Nat):Int)+8)=((8*i+8:Nat):Int):=by rw [Ak (by omega) (by omega)];omega
  have e8:8*i+8-8*i=8:=by omega
  have hdl:((l.drop (8*i)).take 8).length=8:=by rw [List.length_take,List.length_drop];omega
  have st:=TL (xs:=xs) (fu:=fu) (d:=d) (n:=n) (m0:=nn) (c:=c) hl (i:=i) (by omega) (q:=(l.drop (8*i)).take 8) (by omega) ((l.drop (8*i)).take 8) 0 fu 0 rfl (by omega) (by omega)
  rw [Ant l (by omega),hdl] at st
  have ew:((l.drop (8*i)).take 8).foldl Er 0=Iz l i:=rfl;rw [ew,Ary l (by omega),ih] at st
  rw [P6];simp (disch:=omega) only [Bx,Hi,Bz,w8,w88,e8,Fs,Ec];exact st
theorem OK (n:Nat):S8 n [.sc (.int .u64 0)]=Af .u64 (List.replicate n 0):=by
 induction n with
 |zero=>rfl
 |succ n ih=>
  show ([PV.sc (.int .u64 0)]::List.replicate n [PV.sc (.int .u64 0)]).flatten=_;rw [List.flatten_cons,List.replicate_succ];show _++S8 n [.sc (.int .u64 0)]=PV.sc (.int .u64 0)::Af .u64 (List.replicate n 0);rw [ih];rfl
theorem HD {l:List Int}(hl:l.length<=1000000)(hfu:100<=fu)(hf:l.length<fu):Ad (CX xs) Tryz.prog fu (d+1) Vn [.lst false 1 l.length (Af .u8 l)]=some ⟨[.own 1 (l.length / 8) (Af .u64 (E1 l))],[]⟩:=by
 rw [KO]
 have w:wrap .i64 (Int.tdiv (l.length:Int) 8)=((l.length / 8:Nat):Int):=by
  rw [Int.tdiv_eq_ediv_of_nonneg (by omega),Ak (by omega) (by omega)]
  omega
 have lp:=JD (xs:=xs) (fu:=fu) (d:=d) (n:=l.length) (c:=Af .u8 l) hl hfu (l.length / 8) 0 fu (by omega) (by omega)
 have e0:wl l 0=List.replicate (l.length / 8) 0:=by unfold wl;simp
 rw [e0] at lp;simp (disch:=omega) only [Bx,w,Hi,OK,Int.le_refl];exact lp
def Zo (l:List Int):Option Ky:=if l.length=9∧C4 (l.getD 0 0)=false then some ⟨l.getD 0 0,Iz (l.drop 1) 0⟩ else none
def GO (o:Option Ky):List PV:=match o with|some k=>[.agg k.cells,.sc (.int .i64 0)]|none=>[.agg (Ky.mk 0 0).cells,.sc (.int .i64 2)]
theorem Ag6 (hfu:1000<=fu){l:List Int}(hb:Hg l):Ad (CX xs) Tryz.prog fu (d+2) Ox [.lst false 1 l.length (Af .u8 l)]=some ⟨GO (Zo l),[]⟩:=by
 refine (Zn fu (d+1) l.length (Af .u8 l)).trans ?_;unfold Zo;by_cases h9:l.length=9
 ·obtain ⟨x,hx⟩:∃x,l[0]?=some x:=⟨_,List.getElem?_eq_getElem (by omega)⟩
  have hxb:=hb x (List.mem_of_getElem? hx);have wx:wrap .i64 x=x:=Ak (by omega) (by omega)
  have gx:l.getD 0 0=x:=by rw [List.getD_eq_getElem?_getD,hx];rfl
  have h1:=Vd (xs:=xs) (fu:=fu) (d:=d) x;rw [gx];cases c1:C4 x
  ·rw [c1] at h1;have hdl:(l.drop 1).length=8:=by rw [List.length_drop];omega
   have dw:=HD (xs:=xs) (fu:=fu) (d:=d) (l:=l.drop 1) (by omega) (by omega) (by omega)
   rw [hdl] at dw;have hat:(Af .u64 (E1 (l.drop 1))).getD 0 .top=.sc (.int .u64 (Iz (l.drop 1) 0)):=Po (by unfold E1;rw [hdl];rfl)
   have e8:9-1=8:=rfl;have tk:List.take 8 (Af .u8 (l.drop 1))=Af .u8 (l.drop 1):=Jv (by rw [Al];omega)
   rw [Bv ⟨h9,rfl⟩,h9];simp (disch:=omega) only [Bx,D6,Po hx,wx,h1,Bz,Fs,e8,tk,dw,hat];rfl
  ·rw [c1] at h1;rw [Az (by simp),h9]
   simp (disch:=omega) only [Bx,D6,Po hx,wx,h1];rfl
 ·rw [Az (by simp [h9])]
  simp (disch:=omega) only [D6];rw [Az (by omega)]
  rfl
def sgD (l:List Int):Option Sg:=
 if 2<=l.length∧C4 (l.getD 1 0)=false∧Hp (l.getD 0 0) (l.getD 1 0)=false∧(l.length:Int)=2+8*(18+l.getD 1 0) then some ⟨l.getD 0 0,E1 ((l.drop 2).take 144),E1 (l.drop 146)⟩ else none
def Sg.owned (s:Sg):List PV:=[.sc (.int .i64 s.leaf),.own 1 s.chains.length (Af .u64 s.chains),.own 1 s.path.length (Af .u64 s.path)]
def MP (o:Option Sg):List PV:=match o with|some s=>[.agg s.owned,.sc (.int .i64 0)]|none=>[.agg (Sg.mk 0 [] []).owned,.sc (.int .i64 2)]
theorem Qp (l:List Int):(E1 l).length=l.length / 8:=by simp [E1]
theorem Aft (hfu:1000<=fu){l:List Int}(hb:Hg l):Ad (CX xs) Tryz.prog fu (d+2) Iv [.lst false 1 l.length (Af .u8 l)]=some ⟨MP (sgD l),[]⟩:=by
 refine (Q6 fu (d+1) l.length (Af .u8 l)).trans ?_;unfold sgD;by_cases h2:2<=l.length
 ·obtain ⟨x,hx⟩:∃x,l[0]?=some x:=⟨_,List.getElem?_eq_getElem (by omega)⟩
  obtain ⟨y,hy⟩:∃y,l[1]?=some y:=⟨_,List.getElem?_eq_getElem (by omega)⟩
  have hxb:=hb x (List.mem_of_getElem? hx);have hyb:=hb y (List.mem_of_getElem? hy);have wx:wrap .i64 x=x:=Ak (by omega) (by omega)
  have wy:wrap .i64 y=y:=Ak (by omega) (by omega)
  have gx:l.getD 0 0=x:=by rw [List.getD_eq_getElem?_getD,hx];rfl
  have gy:l.getD 1 0=y:=by rw [List.getD_eq_getElem?_getD,hy];rfl
  have h1:=Vd (xs:=xs) (fu:=fu) (d:=d) y;have ho:=P8 (xs:=xs) (fu:=fu) (d:=d) x y (by omega)
  have w1:wrap .i64 (18+y)=18+y:=Ak (by omega) (by omega)
  have w2:wrap .i64 (8*(18+y))=8*(18+y):=Ak (by omega) (by omega)
  have w3:wrap .i64 (2+8*(18+y))=2+8*(18+y):=Ak (by omega) (by omega)
  rw [gx,gy];cases c1:C4 y
  ·rw [c1] at h1;cases c2:Hp x y
   ·rw [c2] at ho;by_cases c3:(l.length:Int)=2+8*(18+y)
    ·have hy4:=H7 c1;have d1:=HD (xs:=xs) (fu:=fu) (d:=d) (l:=(l.drop 2).take 144) (by rw [List.length_take,List.length_drop];omega) (by omega) (by rw [List.length_take,List.length_drop];omega)
     have d2:=HD (xs:=xs) (fu:=fu) (d:=d) (l:=l.drop 146) (by rw [List.length_drop];omega) (by omega) (by rw [List.length_drop];omega)
     have l1:((l.drop 2).take 144).length=144:=by rw [List.length_take,List.length_drop];omega
     have l2:(l.drop 146).length=l.length-146:=List.length_drop;rw [l1] at d1;have L1:(Af .u64 (E1 ((l.drop 2).take 144))).length=18:=by rw [Al,Qp,l1]
     have L2:(Af .u64 (E1 (l.drop 146))).length=(l.length-146) / 8:=by rw [Al,Qp,l2]
     rw [l2] at d2;have t1:List.take (144 / 8) (Af .u64 (E1 ((l.drop 2).take 144)))=Af .u64 (E1 ((l.drop 2).take 144)):=Jv (by omega)
     have t2:List.take ((l.length-146) / 8) (Af .u64 (E1 (l.drop 146)))=Af .u64 (E1 (l.drop 146)):=Jv (by omega)
     have t3:List.take (l.length-146) (l.drop 146)=l.drop 146:=Jv (by omega)
     rw [Bv ⟨h2,rfl,rfl,c3⟩];simp (disch:=omega) only [Bx,D6,Po hx,Po hy,wx,wy,h1,ho,w1,w2,w3,Bz,Fs,Ec,d1,d2,t3,L1,L2,t1,t2];rw [Bv c3];simp only [MP,Sg.owned,Qp,l1,l2]
    ·rw [Az (by simp [c3])]
     simp (disch:=omega) only [Bx,D6,Po hx,Po hy,wx,wy,h1,ho,w1,w2,w3];rw [Az c3];rfl
   ·rw [c2] at ho;rw [Az (by simp)]
    simp (disch:=omega) only [Bx,D6,Po hx,Po hy,wx,wy,h1,ho];rfl
  ·rw [c1] at h1;rw [Az (by simp)]
   simp (disch:=omega) only [Bx,D6,Po hx,Po hy,wx,wy,h1];rfl
 ·rw [Az (by simp [h2])]
  simp (disch:=omega) only [Bx];rfl
end
end
section
open Go.IntKind (wrap)
def IH (seed leaf chain:Int):Int:=Ai3 seed 1 (Ax [wrap .u64 leaf,wrap .u64 chain])
def Zu (seed leaf:Int)(c:Nat):Int:=Sr leaf c 15 0 (IH seed leaf c)
def Ij (seed leaf:Int):Int:=AJ leaf ((List.range 18).map (Zu seed leaf))
def Wz (seed leaf m:Int)(c:Nat):Int:=Sr leaf c (dg m c).toNat 0 (IH seed leaf c)
def Jc (seed leaf m:Int):List Int:=(List.range 18).map (Wz seed leaf m)
def Cf (seed:Int):Nat->Int->Int
 |0,i=>Ij seed i
 |l+1,i=>M1 ((l+1:Nat):Int) (Cf seed l (2*i)) (Cf seed l (2*i+1))
def My (seed:Int)(h:Int):Ky:=if C4 h=true then ⟨0,0⟩ else ⟨h,Cf seed h.toNat 0⟩
def Fy (leaf:Int)(k:Nat):Int:=D7 .i64 (Ei .i64 leaf k) 1
def EM (seed:Int)(h leaf m:Int):Option Sg:=if C4 h=true then none else if Hp leaf h=true then none else some ⟨leaf,Jc seed leaf m,(List.range h.toNat).map fun k=>Cf seed k (Fy leaf k)⟩
def WB (o:Option Sg):List PV:=match o with|some s=>[.agg s.owned,.sc (.int .i64 0)]|none=>[.agg (Sg.mk 0 [] []).owned,.sc (.int .i64 9)]
end
section
open Go.IntKind (wrap)
set_option maxRecDepth 20000
section
variable {fu d:Nat} {xs:FuncId->Option (List PV->Option Aw)}
theorem Ar3 {l:List Int}(hb:Hg l)(hl:l.length<=1099511627776)(hfu:100<=fu)(hf:l.length<fu)(key dom:Int):Ad (CX xs) Tryz.prog fu (d+5) FR [.sc (.int .u64 key),.sc (.int .i64 dom),.lst false 1 l.length (Af .u8 l)]=some ⟨[.sc (.int .u64 (Ai3 key dom l))],[]⟩:=by
 rw [WE];have s:=Aix (xs:=xs) (fu:=fu) (d:=d) hb hl hfu hf key (wrap .u64 (1+wrap .u64 dom));simp only [Bx,s];rfl
theorem SL (hfu:1000<=fu)(seed leaf chain:Int):Ad (CX xs) Tryz.prog fu (d+6) Ts [.sc (.int .u64 seed),.sc (.int .i64 leaf),.sc (.int .i64 chain)]=some ⟨[.sc (.int .u64 (IH seed leaf chain))],[]⟩:=by
 have wd:Ad (CX xs) Tryz.prog fu (d+5) F0 [.lst false 1 2 [.sc (.int .u64 (wrap .u64 leaf)),.sc (.int .u64 (wrap .u64 chain))]]=_:=Qg (ws:=[wrap .u64 leaf,wrap .u64 chain]) (by simp) (by omega) (by simp;omega)
 have hs:=Ar3 (xs:=xs) (fu:=fu) (d:=d) (Q2 [wrap .u64 leaf,wrap .u64 chain]) (by rw [Cy];simp) (by omega) (by rw [Cy];simp;omega) seed 1
 have L:=Al .u8 (Ax [wrap .u64 leaf,wrap .u64 chain]);rw [GZ];unfold IH;generalize Ax [wrap .u64 leaf,wrap .u64 chain]=W at wd hs L ⊢;simp (disch:=omega) only [Bx,wd,Bz,Ck,Di,Ii,L,hs]
def pl (g:Nat->Int)(i:Nat):List Int:=(List.range i).map g++List.replicate (18-i) 0
theorem Ab0 (g:Nat->Int){i:Nat}(h:i<=18):(pl g i).length=18:=by simp [pl];omega
theorem Ajc (g:Nat->Int){i:Nat}(h:i<18):(pl g i).set i (g i)=pl g (i+1):=by
 unfold pl;rw [List.set_append_right _ _ (by simp),List.length_map,List.length_range,Nat.sub_self,show 18-i=(18-(i+1))+1 by omega,List.replicate_succ,List.set_cons_zero,List.range_succ,List.map_append,Zzv]
 rfl
theorem Apl (g:Nat->Int):pl g 18=(List.range 18).map g:=by simp [pl]
theorem JU {a0 a1 seed leaf:Int}(hfu:1000<=fu):∀(k i nn:Nat),i+k=18->k<nn ->
  Fh fu (Ad (CX xs) Tryz.prog fu (d+6)) a0 a1 nn seed leaf i (Af .u64 (pl (Zu seed leaf) i))=Fh fu (Ad (CX xs) Tryz.prog fu (d+6)) a0 a1 (nn-k) seed leaf 18 (Af .u64 (pl (Zu seed leaf) 18))
 |_,_,0,_,h=>by omega
 |0,i,nn+1,hi,hn=>by
  have e:i=18:=by omega
  subst e;rfl
 |k+1,i,nn+1,hi,hn=>by
  have ih:=JU (a0:=a0) (a1:=a1) (seed:=seed) (leaf:=leaf) hfu k (i+1) nn (by omega) (by omega)
  have w:wrap .i64 ((i:Int)+1)=((i+1:Nat):Int):=by rw [Ak (by omega) (by omega)];omega
  have sc:=SL (xs:=xs) (fu:=fu) (d:=d) hfu seed leaf i;have rn:=Ad1 (xs:=xs) (fu:=fu) (d:=d) (leaf:=leaf) (chain:=i) hfu 15 0 15 (IH seed leaf i) (by omega) (by omega) (by omega)
  have ev:Sr leaf i 15 0 (IH seed leaf i)=Zu seed leaf i:=rfl;rw [ev] at rn;have L:(Af .u64 (pl (Zu seed leaf) i)).length=18:=by rw [Al,Ab0 _ (by omega)]
  have hset:Bo (Af .u64 (pl (Zu seed leaf) i)) [.sc (.int .u64 (Zu seed leaf i))] i=Af .u64 (pl (Zu seed leaf) (i+1)):=by
   rw [Fj (by omega),Kk,Ajc _ (by omega)]
  rw [show nn+1-(k+1)=nn-k by omega,←ih,Om]
  simp (disch:=omega) only [Bx,Hi,Bz,Ck,sc,rn,L,hset,w]
theorem Ab2 (hfu:1000<=fu){a0 a1 seed leaf:Int}{nn:Nat}{E:List Int}(hE:E.length=18):
  Fh fu (Ad (CX xs) Tryz.prog fu (d+6)) a0 a1 (nn+1) seed leaf 18 (Af .u64 E)=some ⟨[.sc (.int .u64 (AJ leaf E))],[]⟩:=by
 match E,hE with
 |[e0,e1,e2,e3,e4,e5,e6,e7,e8,e9,e10,e11,e12,e13,e14,e15,e16,e17],hE=>
  have cb:=NM (xs:=xs) (fu:=fu) (d:=d) hfu leaf hE;have hc:Af .u64 [e0,e1,e2,e3,e4,e5,e6,e7,e8,e9,e10,e11,e12,e13,e14,e15,e16,e17]=[.sc (.int .u64 e0),.sc (.int .u64 e1),.sc (.int .u64 e2),.sc (.int .u64 e3),.sc (.int .u64 e4),.sc (.int .u64 e5),.sc (.int .u64 e6),.sc (.int .u64 e7),.sc (.int .u64 e8),.sc (.int .u64 e9),.sc (.int .u64 e10),.sc (.int .u64 e11),.sc (.int .u64 e12),.sc (.int .u64 e13),.sc (.int .u64 e14),.sc (.int .u64 e15),.sc (.int .u64 e16),.sc (.int .u64 e17)]:=rfl;rw [hc] at cb ⊢;generalize AJ leaf [e0,e1,e2,e3,e4,e5,e6,e7,e8,e9,e10,e11,e12,e13,e14,e15,e16,e17]=R at cb ⊢;rw [Om,Dv _ _ _ (by omega)]
  simp (disch:=omega) only [Bx,Zr,Z5,List.getD_cons_zero,List.getD_cons_succ,cb]
theorem Ahc (hfu:1000<=fu)(seed leaf:Int):Ad (CX xs) Tryz.prog fu (d+7) Mp [.sc (.int .u64 seed),.sc (.int .i64 leaf)]=some ⟨[.sc (.int .u64 (Ij seed leaf))],[]⟩:=by
 rw [IF];have lp:=JU (xs:=xs) (fu:=fu) (d:=d) (a0:=seed) (a1:=leaf) (seed:=seed) (leaf:=leaf) hfu 18 0 fu (by omega) (by omega)
 obtain ⟨f',hf'⟩:∃f',fu-18=f'+1:=⟨fu-19,by omega⟩
 rw [hf'] at lp;refine Eq.trans lp ?_;rw [Apl];exact Ab2 hfu (by simp)
theorem UQ {a0 a1 a2:Int}{seed leaf m:Int}(hfu:1000<=fu)(g:Nat->Int)(hg:∀k,g k=dg m k):∀(k i nn:Nat),i+k=18->k<nn ->
  Jg fu (Ad (CX xs) Tryz.prog fu (d+6)) a0 a1 a2 nn seed leaf (g 0) (g 1) (g 2) (g 3) (g 4) (g 5) (g 6) (g 7) (g 8) (g 9) (g 10) (g 11) (g 12) (g 13) (g 14) (g 15) (g 16) (g 17) i (Af .u64 (pl (Wz seed leaf m) i)) =
   some ⟨[.own 1 18 (Af .u64 (Jc seed leaf m))],[]⟩
 |_,_,0,_,h=>by omega
 |0,i,nn+1,hi,hn=>by
  have e:i=18:=by omega
  subst e;have L:(Af .u64 (pl (Wz seed leaf m) 18)).length=18:=by rw [Al,Ab0 _ (by omega)]
  have T:List.take 18 (Af .u64 (pl (Wz seed leaf m) 18))=Af .u64 (Jc seed leaf m):=by rw [Jv (by omega),Apl];rfl
  rw [Rj,Dv _ _ _ (by omega)]
  simp (disch:=omega) only [Bx,L,T]
 |k+1,i,nn+1,hi,hn=>by
  have ih:=UQ (a0:=a0) (a1:=a1) (a2:=a2) (seed:=seed) (leaf:=leaf) (m:=m) hfu g hg k (i+1) nn (by omega) (by omega)
  have hb:=Zg m i;have hgi:=App g (i:=i) (by omega)
  have w:wrap .i64 ((i:Int)+1)=((i+1:Nat):Int):=by rw [Ak (by omega) (by omega)];omega
  have sc:=SL (xs:=xs) (fu:=fu) (d:=d) hfu seed leaf i;have rn:=Ad1 (xs:=xs) (fu:=fu) (d:=d) (leaf:=leaf) (chain:=i) hfu (dg m i).toNat 0 (g i) (IH seed leaf i) (by rw [hg];omega) (by omega) (by rw [hg];omega)
  have ev:Sr leaf i (dg m i).toNat 0 (IH seed leaf i)=Wz seed leaf m i:=rfl;rw [ev] at rn;have L:(Af .u64 (pl (Wz seed leaf m) i)).length=18:=by rw [Al,Ab0 _ (by omega)]
  have hset:Bo (Af .u64 (pl (Wz seed leaf m) i)) [.sc (.int .u64 (Wz seed leaf m i))] i=Af .u64 (pl (Wz seed leaf m) (i+1)):=by
   rw [Fj (by omega),Kk,Ajc _ (by omega)]
  rw [Rj];simp (disch:=omega) only [Bx,Hi,Bz,Ck,hgi,sc,rn,L,hset,w];exact ih
theorem Aox (hfu:1000<=fu)(seed leaf m:Int):Ad (CX xs) Tryz.prog fu (d+7) Qn [.sc (.int .u64 seed),.sc (.int .i64 leaf),.sc (.int .u64 m)]=some ⟨[.own 1 18 (Af .u64 (Jc seed leaf m))],[]⟩:=by
 rw [OW];have dq:=SR (xs:=xs) (fu:=fu) (d:=d+5) hfu m;have hD:Af .i64 (UH m)=[.sc (.int .i64 (dg m 0)),.sc (.int .i64 (dg m 1)),.sc (.int .i64 (dg m 2)),.sc (.int .i64 (dg m 3)),.sc (.int .i64 (dg m 4)),.sc (.int .i64 (dg m 5)),.sc (.int .i64 (dg m 6)),.sc (.int .i64 (dg m 7)),.sc (.int .i64 (dg m 8)),.sc (.int .i64 (dg m 9)),.sc (.int .i64 (dg m 10)),.sc (.int .i64 (dg m 11)),.sc (.int .i64 (dg m 12)),.sc (.int .i64 (dg m 13)),.sc (.int .i64 (dg m 14)),.sc (.int .i64 (dg m 15)),.sc (.int .i64 (dg m 16)),.sc (.int .i64 (dg m 17))]:=rfl;rw [hD] at dq;simp only [Bx,dq];exact UQ (fu:=fu) (d:=d) (a0:=seed) (a1:=leaf) (a2:=m) hfu (dg m) (fun _=>rfl) 18 0 fu (by omega) (by omega)
end
end
section
open Go.IntKind (wrap)
def NY (h leaf:Int):Bool:=C4 h||Hp leaf h
def tkL (h leaf:Int):Int:=if NY h leaf=true then 0 else leaf
def tkC (seed h leaf m:Int):List Int:=if NY h leaf=true then [] else Jc seed leaf m
def tkP (seed h leaf:Int):List Int:=if NY h leaf=true then [] else (List.range h.toNat).map fun k=>Cf seed k (Fy leaf k)
def tkE (h leaf:Int):Int:=if NY h leaf=true then 9 else 0
def Arh (args:List PV):Option Aw:=
 match args with
 |[.sc (.int .u64 seed),.sc (.int .i64 h),.sc (.int .i64 leaf),.sc (.int .u64 m)]=>
  some ⟨[.agg [.sc (.int .i64 (tkL h leaf)),.lst false 1 (tkC seed h leaf m).length (Af .u64 (tkC seed h leaf m)),.lst false 1 (tkP seed h leaf).length (Af .u64 (tkP seed h leaf))],.sc (.int .i64 (tkE h leaf))],[]⟩
 |_=>none
def Is (f:FuncId):Option (List PV->Option Aw):=
 bif Nat.beq f 56 then some MK else
 bif Nat.beq f 133 then some Wp else
 bif Nat.beq f 37 then some Arh else
 bif Nat.beq f 1000000 then some (fun _=>none) else none
abbrev C0:H0:=CX Is
end
section
open Go.IntKind (wrap)
set_option maxRecDepth 100000
abbrev Ng:FuncId:=38
theorem X3 (fu d:Nat)(a0:Int):Ad C0 Tryz.prog fu (d+1) Ng [.sc (.int .i64 a0)]=(fun (call:Ah)=>A3 (decide (a0>=0)) (some (Aw.mk [.sc (.bool (decide (a0<=4)))] [])) (some (Aw.mk [.sc (.bool false)] []))) (Ad C0 Tryz.prog fu d):=by kernel_rfl
abbrev O7:FuncId:=95
noncomputable def Ge (fu:Nat)(call:Ah)(a0:Int)(nn:Nat)(y0:Int)(y1:Nat)(y2 y3:Int)(y4:List PV):Option Aw:=C6 CB Tryz.prog fu call 95 Tryz.f95 (Cb Tryz.f95) [.sc (.int .u64 a0)] [.r,.r,.r,.l,.r,.l] nn ⟨lk [(0,(.sc (.int .u64 y0))),(3,(.view 3 1 0 y1)),(4,(.sc (.int .i64 y2))),(5,(.sc (.int .i64 y3)))],Cj [(3,(.ar false y4))]⟩
theorem Kt (fu:Nat)(call:Ah)(a0:Int)(nn:Nat)(y0:Int)(y1:Nat)(y2 y3:Int)(y4:List PV):Ge fu call a0 (nn+1) y0 y1 y2 y3 y4=(A3 (decide (y3>=0)) (Aa (wrap .i64 (4*y3)) fun x1=>Aa (wrap .u64 x1) fun x2=>Ap (decide (0<=x2))<|Aa (Ei .u64 y0 x2) fun x3=>Aa (Mj .u64 x3 15) fun x4=>Aa (wrap .i64 x4) fun x5=>Ap (decide (y1*1<=y4.length)&&true&&decide ((y1+1)*8<=1099511627776)&&decide (y1+1<=1099511627776))<|Aa (y1+1) fun x6=>Aa (List.take (y1*1) y4++[.sc (.int .i64 x5)]) fun x7=>Aa (wrap .i64 (15-x5)) fun x8=>Aa (wrap .i64 (y2+x8)) fun x9=>Aa (wrap .i64 (y3-1)) fun Cm=>Ge fu call a0 (nn) (y0) x6 x9 Cm x7) (Aa (wrap .i64 (Int.tdiv y2 16)) fun Bq=>Aa (Int.tmod y2 16) fun Dm=>Ap (decide (y1*1<=y4.length)&&true&&decide ((y1+2)*8<=1099511627776)&&decide (y1+2<=1099511627776))<|Aa (y1+2) fun Ds=>Aa (List.take (y1*1) y4++[.sc (.int .i64 Bq),.sc (.int .i64 Dm)]) fun Cu=>Ap (decide (Ds*1<=Cu.length))<|some (Aw.mk [.own 1 Ds (List.take (Ds*1) Cu)] []))):=by kernel_rfl
theorem AF (fu d:Nat)(a0:Int):Ad C0 Tryz.prog fu (d+1) O7 [.sc (.int .u64 a0)]=(fun (call:Ah)=>Ge fu call a0 (fu) (a0) 0 0 15 ([])) (Ad C0 Tryz.prog fu d):=by kernel_rfl
abbrev Rt:FuncId:=96
noncomputable def Hm (fu:Nat)(call:Ah)(a0 a1:Int)(a2 a3 a4:Int)(nn:Nat)(y0 y1:Int)(y2 y3 y4:Int):Option Aw:=C6 CB Tryz.prog fu call 96 Tryz.f96 (Cb Tryz.f96) [.sc (.int .i64 a0),.sc (.int .i64 a1),.sc (.int .i64 a2),.sc (.int .i64 a3),.sc (.int .u64 a4)] [.r,.l,.r,.l] nn ⟨lk [(0,(.sc (.int .i64 y0))),(1,(.sc (.int .i64 y1))),(3,(.sc (.int .i64 y2))),(4,(.sc (.int .u64 y3))),(11,(.sc (.int .i64 y4)))],Cj []⟩
theorem M3 (fu:Nat)(call:Ah)(a0 a1:Int)(a2 a3 a4:Int)(nn:Nat)(y0 y1:Int)(y2 y3 y4:Int):Hm fu call a0 a1 a2 a3 a4 (nn+1) y0 y1 y2 y3 y4=(Aa (if 15<y2 then 15 else y2) fun x2=>A3 (decide (y4<x2)) (Aa (wrap .u64 y0) fun x3=>Aa (wrap .u64 y1) fun x4=>Aa (wrap .u64 y4) fun x5=>Ag (call 84 [.lst false 1 4 [.sc (.int .u64 x3),.sc (.int .u64 x4),.sc (.int .u64 x5),.sc (.int .u64 y3)]]) fun x6 x7=>Ac x7<|Ab x6 fun x8 x9=>D4 1 x8 fun Cm Bq=>Ac x9<|Ap (decide (0+Cm*1<=Bq.length))<|Ag (call 34 [.sc (.int .i64 1),.lst false 1 Cm (List.take (Cm*1) (List.drop 0 Bq))]) fun Dm Ds=>Ac Ds<|Ab Dm fun Cu Dw=>Ae .u64 Cu fun Ea=>Ac Dw<|Aa (wrap .i64 (y4+1)) fun Ef=>Hm fu call a0 a1 a2 a3 a4 (nn) (y0) (y1) (y2) Ea Ef) (some (Aw.mk [.sc (.int .u64 y3)] []))):=by kernel_rfl
theorem DV (fu d:Nat)(a0 a1:Int)(a2 a3 a4:Int):Ad C0 Tryz.prog fu (d+1) Rt [.sc (.int .i64 a0),.sc (.int .i64 a1),.sc (.int .i64 a2),.sc (.int .i64 a3),.sc (.int .u64 a4)]=(fun (call:Ah)=>Aa (if a2<0 then 0 else a2) fun x1=>Hm fu call a0 a1 a2 a3 a4 (fu) (a0) (a1) (a3) (a4) x1) (Ad C0 Tryz.prog fu d):=by kernel_rfl
abbrev Nq:FuncId:=97
theorem Yf (fu d:Nat)(a0 a1 a2:Int):Ad C0 Tryz.prog fu (d+1) Nq [.sc (.int .u64 a0),.sc (.int .i64 a1),.sc (.int .i64 a2)]=(fun (call:Ah)=>Aa (wrap .u64 a1) fun x1=>Aa (wrap .u64 a2) fun x2=>Ag (call 84 [.lst false 1 2 [.sc (.int .u64 x1),.sc (.int .u64 x2)]]) fun x3 x4=>Ac x4<|Ab x3 fun x5 x6=>D4 1 x5 fun x7 x8=>Ac x6<|Ap (decide (0+x7*1<=x8.length))<|Ag (call 88 [.sc (.int .u64 a0),.sc (.int .i64 1),.lst false 1 x7 (List.take (x7*1) (List.drop 0 x8))]) fun x9 Cm=>Ac Cm<|Ab x9 fun Bq Dm=>Ae .u64 Bq fun Ds=>Ac Dm<|some (Aw.mk [.sc (.int .u64 Ds)] [])) (Ad C0 Tryz.prog fu d):=by kernel_rfl
abbrev Px:FuncId:=109
theorem BQ (fu d:Nat)(a0:Int)(a1n:Nat)(a1:List PV):Ad C0 Tryz.prog fu (d+1) Px [.sc (.int .i64 a0),.lst false 1 a1n a1]=(fun (call:Ah)=>Aa (wrap .u64 a0) fun x1=>Ag (call 84 [.lst false 1 1 [.sc (.int .u64 x1)]]) fun x2 x3=>Ac x3<|Ab x2 fun x4 x5=>D4 1 x4 fun x6 x7=>Ac x5<|Ag (call 84 [.lst false 1 a1n a1]) fun x8 x9=>Ac x9<|Ab x8 fun Cm Bq=>D4 1 Cm fun Dm Ds=>Ac Bq<|Ap (decide (0+Dm*1<=Ds.length))<|Ap (decide (x6*1<=x7.length)&&decide (List.length (List.take (Dm*1) (List.drop 0 Ds))=Dm*1)&&decide ((x6+Dm)*1<=1099511627776)&&decide (x6+Dm<=1099511627776))<|Aa (x6+Dm) fun Cu=>Aa (List.take (x6*1) x7++List.take (Dm*1) (List.drop 0 Ds)) fun Dw=>Ap (decide (0+Cu*1<=Dw.length))<|Ag (call 34 [.sc (.int .i64 2),.lst false 1 Cu (List.take (Cu*1) (List.drop 0 Dw))]) fun Ea Ef=>Ac Ef<|Ab Ea fun Ew Ej=>Ae .u64 Ew fun Fb=>Ac Ej<|some (Aw.mk [.sc (.int .u64 Fb)] [])) (Ad C0 Tryz.prog fu d):=by kernel_rfl
abbrev Qj:FuncId:=78
noncomputable def Gt (fu:Nat)(call:Ah)(a0 a1:Int)(nn:Nat)(y0 y1:Int)(y2:Nat)(y3:Int)(y4:List PV):Option Aw:=C6 CB Tryz.prog fu call 78 Tryz.f78 (Cb Tryz.f78) [.sc (.int .u64 a0),.sc (.int .i64 a1)] [.r,.r,.l,.r,.l] nn ⟨lk [(0,(.sc (.int .u64 y0))),(1,(.sc (.int .i64 y1))),(5,(.view 5 1 0 y2)),(6,(.sc (.int .i64 y3)))],Cj [(5,(.ar false y4))]⟩
theorem Mb (fu:Nat)(call:Ah)(a0 a1:Int)(nn:Nat)(y0 y1:Int)(y2:Nat)(y3:Int)(y4:List PV):Gt fu call a0 a1 (nn+1) y0 y1 y2 y3 y4=(A3 (decide (y3<18)) (Ag (call 97 [.sc (.int .u64 y0),.sc (.int .i64 y1),.sc (.int .i64 y3)]) fun x1 x2=>Ac x2<|Ab x1 fun x3 x4=>Ae .u64 x3 fun x5=>Ac x4<|Ag (call 96 [.sc (.int .i64 y1),.sc (.int .i64 y3),.sc (.int .i64 0),.sc (.int .i64 15),.sc (.int .u64 x5)]) fun x6 x7=>Ac x7<|Ab x6 fun x8 x9=>Ae .u64 x8 fun Cm=>Ac x9<|Ap (decide (y2*1<=y4.length)&&true&&decide ((y2+1)*8<=1099511627776)&&decide (y2+1<=1099511627776))<|Aa (y2+1) fun Bq=>Aa (List.take (y2*1) y4++[.sc (.int .u64 Cm)]) fun Dm=>Aa (wrap .i64 (y3+1)) fun Ds=>Gt fu call a0 a1 (nn) (y0) (y1) Bq Ds Dm) (Ap (decide (0+y2*1<=y4.length))<|Ag (call 109 [.sc (.int .i64 y1),.lst false 1 y2 (List.take (y2*1) (List.drop 0 y4))]) fun Cu Dw=>Ac Dw<|Ab Cu fun Ea Ef=>Ae .u64 Ea fun Ew=>Ac Ef<|some (Aw.mk [.sc (.int .u64 Ew)] []))):=by kernel_rfl
theorem BE (fu d:Nat)(a0 a1:Int):Ad C0 Tryz.prog fu (d+1) Qj [.sc (.int .u64 a0),.sc (.int .i64 a1)]=(fun (call:Ah)=>Gt fu call a0 a1 (fu) (a0) (a1) 0 0 ([])) (Ad C0 Tryz.prog fu d):=by kernel_rfl
abbrev Kw:FuncId:=64
noncomputable def Fg (fu:Nat)(call:Ah)(a0 a1 a2:Int)(nn:Nat)(y0 y1:Int)(y2 y3:Nat)(y4:Int)(y5 y6:List PV):Option Aw:=C6 CB Tryz.prog fu call 64 Tryz.f64 (Cb Tryz.f64) [.sc (.int .u64 a0),.sc (.int .i64 a1),.sc (.int .u64 a2)] [.r,.r,.r,.l,.r,.l] nn ⟨lk [(0,(.sc (.int .u64 y0))),(1,(.sc (.int .i64 y1))),(7,(.view 7 1 0 y2)),(8,(.view 8 1 0 y3)),(9,(.sc (.int .i64 y4)))],Cj [(7,(.ar false y5)),(8,(.ar false y6))]⟩
theorem Iy (fu:Nat)(call:Ah)(a0 a1 a2:Int)(nn:Nat)(y0 y1:Int)(y2 y3:Nat)(y4:Int)(y5 y6:List PV):Fg fu call a0 a1 a2 (nn+1) y0 y1 y2 y3 y4 y5 y6=(A3 (decide (y4<18)) (Ap (decide (0<=y4)&&decide (y4<(↑y2:Int)))<|Ae .i64 (List.getD y5 (0+Int.toNat y4*1) .top) fun x7=>Ag (call 97 [.sc (.int .u64 y0),.sc (.int .i64 y1),.sc (.int .i64 y4)]) fun x8 x9=>Ac x9<|Ab x8 fun Cm Bq=>Ae .u64 Cm fun Dm=>Ac Bq<|Ag (call 96 [.sc (.int .i64 y1),.sc (.int .i64 y4),.sc (.int .i64 0),.sc (.int .i64 x7),.sc (.int .u64 Dm)]) fun Ds Cu=>Ac Cu<|Ab Ds fun Dw Ea=>Ae .u64 Dw fun Ef=>Ac Ea<|Ap (decide (y3*1<=y6.length)&&true&&decide ((y3+1)*8<=1099511627776)&&decide (y3+1<=1099511627776))<|Aa (y3+1) fun Ew=>Aa (List.take (y3*1) y6++[.sc (.int .u64 Ef)]) fun Ej=>Aa (wrap .i64 (y4+1)) fun Fb=>Fg fu call a0 a1 a2 (nn) (y0) (y1) (y2) Ew Fb (y5) Ej) (Ap (decide (y3*1<=y6.length))<|some (Aw.mk [.own 1 y3 (List.take (y3*1) y6)] []))):=by kernel_rfl
theorem U5 (fu d:Nat)(a0 a1 a2:Int):Ad C0 Tryz.prog fu (d+1) Kw [.sc (.int .u64 a0),.sc (.int .i64 a1),.sc (.int .u64 a2)]=(fun (call:Ah)=>Ag (call 95 [.sc (.int .u64 a2)]) fun x1 x2=>Ac x2<|Ab x1 fun x3 x4=>D4 1 x3 fun x5 x6=>Ac x4<|Fg fu call a0 a1 a2 (fu) (a0) (a1) x5 0 0 x6 ([])) (Ad C0 Tryz.prog fu d):=by kernel_rfl
abbrev M4:FuncId:=79
theorem Yg (fu d:Nat)(a0 a1 a2:Int):Ad C0 Tryz.prog fu (d+1) M4 [.sc (.int .i64 a0),.sc (.int .u64 a1),.sc (.int .u64 a2)]=(fun (call:Ah)=>Aa (wrap .u64 a0) fun x1=>Ag (call 84 [.lst false 1 3 [.sc (.int .u64 x1),.sc (.int .u64 a1),.sc (.int .u64 a2)]]) fun x2 x3=>Ac x3<|Ab x2 fun x4 x5=>D4 1 x4 fun x6 x7=>Ac x5<|Ap (decide (0+x6*1<=x7.length))<|Ag (call 34 [.sc (.int .i64 3),.lst false 1 x6 (List.take (x6*1) (List.drop 0 x7))]) fun x8 x9=>Ac x9<|Ab x8 fun Cm Bq=>Ae .u64 Cm fun Dm=>Ac Bq<|some (Aw.mk [.sc (.int .u64 Dm)] [])) (Ad C0 Tryz.prog fu d):=by kernel_rfl
abbrev Qz:FuncId:=39
theorem Qx (fu d:Nat)(a0 a1 a2:Int):Ad C0 Tryz.prog fu (d+1) Qz [.sc (.int .u64 a0),.sc (.int .i64 a1),.sc (.int .i64 a2)]=(fun (call:Ah)=>A3 (a1==0) (Ag (call 78 [.sc (.int .u64 a0),.sc (.int .i64 a2)]) fun x1 x2=>Ac x2<|Ab x1 fun x3 x4=>Ae .u64 x3 fun x5=>Ac x4<|some (Aw.mk [.sc (.int .u64 x5)] [])) (Aa (wrap .i64 (a1-1)) fun x6=>Aa (wrap .i64 (2*a2)) fun x7=>Ag (call 39 [.sc (.int .u64 a0),.sc (.int .i64 x6),.sc (.int .i64 x7)]) fun x8 x9=>Ac x9<|Ab x8 fun Cm Bq=>Ae .u64 Cm fun Dm=>Ac Bq<|Aa (wrap .i64 (a1-1)) fun Ds=>Aa (wrap .i64 (2*a2)) fun Cu=>Aa (wrap .i64 (Cu+1)) fun Dw=>Ag (call 39 [.sc (.int .u64 a0),.sc (.int .i64 Ds),.sc (.int .i64 Dw)]) fun Ea Ef=>Ac Ef<|Ab Ea fun Ew Ej=>Ae .u64 Ew fun Fb=>Ac Ej<|Ag (call 79 [.sc (.int .i64 a1),.sc (.int .u64 Dm),.sc (.int .u64 Fb)]) fun G9 Cp=>Ac Cp<|Ab G9 fun Hb Dx=>Ae .u64 Hb fun B4=>Ac Dx<|some (Aw.mk [.sc (.int .u64 B4)] []))) (Ad C0 Tryz.prog fu d):=by kernel_rfl
abbrev Nd:FuncId:=18
theorem Yl (fu d:Nat)(a0 a1:Int):Ad C0 Tryz.prog fu (d+1) Nd [.sc (.int .u64 a0),.sc (.int .i64 a1)]=(fun (call:Ah)=>Ag (call 38 [.sc (.int .i64 a1)]) fun x1 x2=>Ac x2<|Ab x1 fun x3 x4=>Br x3 fun x5=>Ac x4<|A3 (!x5) (some (Aw.mk [.agg [.sc (.int .i64 0),.sc (.int .u64 0)],.sc (.int .i64 9)] [])) (Ag (call 39 [.sc (.int .u64 a0),.sc (.int .i64 a1),.sc (.int .i64 0)]) fun x6 x7=>Ac x7<|Ab x6 fun x8 x9=>Ae .u64 x8 fun Cm=>Ac x9<|some (Aw.mk [.agg [.sc (.int .i64 a1),.sc (.int .u64 Cm)],.sc (.int .i64 0)] []))) (Ad C0 Tryz.prog fu d):=by kernel_rfl
abbrev Q4:FuncId:=33
noncomputable def Gq (fu:Nat)(call:Ah)(a0 a1:Int)(a2 a3:Int)(nn:Nat)(y0 y1:Int)(y2 y3 y4:Int)(y5 y6:Nat)(y7 y8:List PV)(y9:Int)(y10 F6:Nat)(Hu Vm:List PV):Option Aw:=C6 CB Tryz.prog fu call 33 Tryz.f33 (Cb Tryz.f33) [.sc (.int .u64 a0),.sc (.int .i64 a1),.sc (.int .i64 a2),.sc (.int .u64 a3)] [.r,.r,.r,.l,.r,.l] nn ⟨lk [(0,(.sc (.int .u64 y0))),(1,(.sc (.int .i64 y1))),(2,(.sc (.int .i64 y2))),(8,(.ptr 8 0)),(10,(.ptr 10 0)),(11,(.sc (.int .i64 y3)))],Cj [(8,(.st [(.sc (.int .i64 y4)),(.view 112 1 0 y5),(.view 164 1 0 y6)])),(112,(.ar false y7)),(164,(.ar false y8)),(10,(.st [(.sc (.int .i64 y9)),(.view 114 1 0 y10),(.view 166 1 0 F6)])),(114,(.ar false Hu)),(166,(.ar false Vm))]⟩
theorem Mf (fu:Nat)(call:Ah)(a0 a1:Int)(a2 a3:Int)(nn:Nat)(y0 y1:Int)(y2 y3 y4:Int)(y5 y6:Nat)(y7 y8:List PV)(y9:Int)(y10 F6:Nat)(Hu Vm:List PV):Gq fu call a0 a1 a2 a3 (nn+1) y0 y1 y2 y3 y4 y5 y6 y7 y8 y9 y10 F6 Hu Vm=(A3 (decide (y3<y1)) (Aa (wrap .u64 y3) fun Cu=>Ap (decide (0<=Cu))<|Aa (Ei .i64 y2 Cu) fun Dw=>Aa (D7 .i64 Dw 1) fun Ea=>Ag (call 39 [.sc (.int .u64 y0),.sc (.int .i64 y3),.sc (.int .i64 Ea)]) fun Ef Ew=>Ac Ew<|Ab Ef fun Ej Fb=>Ae .u64 Ej fun G9=>Ac Fb<|Ap (decide (F6*1<=Vm.length)&&true&&decide ((F6+1)*8<=1099511627776)&&decide (F6+1<=1099511627776))<|Aa (F6+1) fun Cp=>Aa (List.take (F6*1) Vm++[.sc (.int .u64 G9)]) fun Hb=>Aa (wrap .i64 (y3+1)) fun Dx=>Gq fu call a0 a1 a2 a3 (nn) (y0) (y1) (y2) Dx (y4) (y5) (y6) (y7) (y8) (y9) (y10) Cp (Hu) Hb) (Ap (decide (y10*1<=Hu.length))<|Ap (decide (F6*1<=Vm.length))<|some (Aw.mk [.agg [.sc (.int .i64 y9),.own 1 y10 (List.take (y10*1) Hu),.own 1 F6 (List.take (F6*1) Vm)],.sc (.int .i64 0)] []))):=by kernel_rfl
theorem CJ (fu d:Nat)(a0 a1:Int)(a2 a3:Int):Ad C0 Tryz.prog fu (d+1) Q4 [.sc (.int .u64 a0),.sc (.int .i64 a1),.sc (.int .i64 a2),.sc (.int .u64 a3)]=(fun (call:Ah)=>Ag (call 38 [.sc (.int .i64 a1)]) fun x1 x2=>Ac x2<|Ab x1 fun x3 x4=>Br x3 fun x5=>Ac x4<|A3 (!x5) (some (Aw.mk [.agg [.sc (.int .i64 0),.own 1 0 [],.own 1 0 []],.sc (.int .i64 9)] [])) (A3 (decide (a2<0)) (some (Aw.mk [.agg [.sc (.int .i64 0),.own 1 0 [],.own 1 0 []],.sc (.int .i64 9)] [])) (Aa (wrap .u64 a1) fun x6=>Ap (decide (0<=x6))<|Aa (Fp .i64 1 x6) fun x7=>A3 (decide (a2>=x7)) (some (Aw.mk [.agg [.sc (.int .i64 0),.own 1 0 [],.own 1 0 []],.sc (.int .i64 9)] [])) (Ag (call 64 [.sc (.int .u64 a0),.sc (.int .i64 a2),.sc (.int .u64 a3)]) fun x8 x9=>Ac x9<|Ab x8 fun Cm Bq=>D4 1 Cm fun Dm Ds=>Ac Bq<|Gq fu call a0 a1 a2 a3 (fu) (a0) (a1) (a2) 0 0 0 0 ([]) ([]) (a2) Dm 0 Ds ([]))))) (Ad C0 Tryz.prog fu d):=by kernel_rfl
abbrev J4:FuncId:=57
theorem Te (fu d:Nat)(a0_0 a0_1:Int):Ad C0 Tryz.prog fu (d+1) J4 [.agg [.sc (.int .i64 a0_0),.sc (.int .u64 a0_1)]]=(fun (call:Ah)=>Ag (call 38 [.sc (.int .i64 a0_0)]) fun x1 x2=>Ac x2<|Ab x1 fun x3 x4=>Br x3 fun x5=>Ac x4<|A3 (!x5) (some (Aw.mk [.own 1 0 [],.sc (.int .i64 9)] [])) (Aa (wrap .u8 a0_0) fun x6=>Ag (call 84 [.lst false 1 1 [.sc (.int .u64 a0_1)]]) fun x7 x8=>Ac x8<|Ab x7 fun x9 Cm=>D4 1 x9 fun Bq Dm=>Ac Cm<|Ap (decide (0+Bq*1<=Dm.length))<|Ap (decide (List.length (List.take (Bq*1) (List.drop 0 Dm))=Bq*1)&&decide ((1+Bq)*1<=1099511627776)&&decide (1+Bq<=1099511627776))<|Aa (1+Bq) fun Ds=>Aa ([.sc (.int .u8 x6)]++List.take (Bq*1) (List.drop 0 Dm)) fun Cu=>Ap (decide (Ds*1<=Cu.length))<|some (Aw.mk [.own 1 Ds (List.take (Ds*1) Cu),.sc (.int .i64 0)] []))) (Ad C0 Tryz.prog fu d):=by kernel_rfl
abbrev J6:FuncId:=86
theorem Ub (fu d a0n:Nat)(a0:List PV):Ad C0 Tryz.prog fu (d+1) J6 [.lst false 1 a0n a0]=(fun (call:Ah)=>A3 ((↑a0n:Int) != 9) (some (Aw.mk [.agg [.sc (.int .i64 0),.sc (.int .u64 0)],.sc (.int .i64 2)] [])) (Ap (decide (0<(↑a0n:Int)))<|Ae .u8 (List.getD a0 0 .top) fun x1=>Aa (wrap .i64 x1) fun x2=>Ag (call 38 [.sc (.int .i64 x2)]) fun x3 x4=>Ac x4<|Ab x3 fun x5 x6=>Br x5 fun x7=>Ac x6<|A3 (!x7) (some (Aw.mk [.agg [.sc (.int .i64 0),.sc (.int .u64 0)],.sc (.int .i64 2)] [])) (Ap (decide (0<(↑a0n:Int)))<|Ae .u8 (List.getD a0 0 .top) fun x8=>Aa (wrap .i64 x8) fun x9=>Ap (decide (1<=a0n)&&decide (a0n<=a0n))<|Aa (a0n-1) fun Cm=>Aa (List.take (Cm*1) (List.drop 1 a0)) fun Bq=>Ag (call 112 [.lst false 1 Cm Bq]) fun Dm Ds=>Ac Ds<|Ab Dm fun Cu Dw=>Ae .u64 Cu fun Ea=>Ac Dw<|some (Aw.mk [.agg [.sc (.int .i64 x9),.sc (.int .u64 Ea)],.sc (.int .i64 0)] [])))) (Ad C0 Tryz.prog fu d):=by kernel_rfl
abbrev Hh:FuncId:=43
theorem Np (fu d:Nat)(a0_0:Int)(AH:Nat)(a0_1:List PV)(a0_2n:Nat)(a0_2:List PV):Ad C0 Tryz.prog fu (d+1) Hh [.agg [.sc (.int .i64 a0_0),.lst false 1 AH a0_1,.lst false 1 a0_2n a0_2]]=(fun (call:Ah)=>A3 (decide ((↑a0_2n:Int)>4)) (some (Aw.mk [.own 1 0 [],.sc (.int .i64 9)] [])) (A3 (decide (a0_0<0)) (some (Aw.mk [.own 1 0 [],.sc (.int .i64 9)] [])) (Aa (wrap .u64 (↑a0_2n:Int)) fun x1=>Ap (decide (0<=x1))<|Aa (Fp .i64 1 x1) fun x2=>A3 (decide (a0_0>=x2)) (some (Aw.mk [.own 1 0 [],.sc (.int .i64 9)] [])) (A3 ((↑AH:Int) != 18) (some (Aw.mk [.own 1 0 [],.sc (.int .i64 4)] [])) (Aa (wrap .u8 a0_0) fun x3=>Aa (wrap .u8 (↑a0_2n:Int)) fun x4=>Ag (call 84 [.lst false 1 AH a0_1]) fun x5 x6=>Ac x6<|Ab x5 fun x7 x8=>D4 1 x7 fun x9 Cm=>Ac x8<|Ap (decide (0+x9*1<=Cm.length))<|Ap (decide (List.length (List.take (x9*1) (List.drop 0 Cm))=x9*1)&&decide ((2+x9)*1<=1099511627776)&&decide (2+x9<=1099511627776))<|Aa (2+x9) fun Bq=>Aa ([.sc (.int .u8 x3),.sc (.int .u8 x4)]++List.take (x9*1) (List.drop 0 Cm)) fun Dm=>Ag (call 84 [.lst false 1 a0_2n a0_2]) fun Ds Cu=>Ac Cu<|Ab Ds fun Dw Ea=>D4 1 Dw fun Ef Ew=>Ac Ea<|Ap (decide (0+Ef*1<=Ew.length))<|Ap (decide (Bq*1<=Dm.length)&&decide (List.length (List.take (Ef*1) (List.drop 0 Ew))=Ef*1)&&decide ((Bq+Ef)*1<=1099511627776)&&decide (Bq+Ef<=1099511627776))<|Aa (Bq+Ef) fun Ej=>Aa (List.take (Bq*1) Dm++List.take (Ef*1) (List.drop 0 Ew)) fun Fb=>Ap (decide (Ej*1<=Fb.length))<|some (Aw.mk [.own 1 Ej (List.take (Ej*1) Fb),.sc (.int .i64 0)] [])))))) (Ad C0 Tryz.prog fu d):=by kernel_rfl
abbrev Hf:FuncId:=87
noncomputable def G0 (fu:Nat)(call:Ah)(a0n:Nat)(a0:List PV)(nn y0:Nat)(y1:List PV)(y2:Int)(y3 y4:Nat)(y5 y6:List PV):Option Aw:=C6 CB Tryz.prog fu call 87 Tryz.f87 (Cb Tryz.f87) [.lst false 1 a0n a0] [.r] nn ⟨lk [(0,(.lst false 1 y0 y1)),(2,(.ptr 2 0))],Cj [(2,(.st [(.sc (.int .i64 y2)),(.view 162 1 0 y3),(.view 242 1 0 y4)])),(162,(.ar false y5)),(242,(.ar false y6))]⟩
noncomputable def C3 (fu:Nat)(call:Ah)(a0n:Nat)(a0:List PV)(nn y0:Nat)(y1:List PV)(y2 y3:Int)(y4 y5:Nat)(y6 y7:List PV)(y8:Int)(y9 y10:Nat)(F6 Hu:List PV):Option Aw:=C6 CB Tryz.prog fu call 87 Tryz.f87 (Cb Tryz.f87) [.lst false 1 a0n a0] [.r,.r,.r,.l,.r,.l] nn ⟨lk [(0,(.lst false 1 y0 y1)),(2,(.ptr 2 0)),(4,(.ptr 4 0)),(5,(.sc (.int .i64 y2)))],Cj [(2,(.st [(.sc (.int .i64 y3)),(.view 162 1 0 y4),(.view 242 1 0 y5)])),(162,(.ar false y6)),(242,(.ar false y7)),(4,(.st [(.sc (.int .i64 y8)),(.view 164 1 0 y9),(.view 244 1 0 y10)])),(164,(.ar false F6)),(244,(.ar false Hu))]⟩
theorem Lh (fu:Nat)(call:Ah)(a0n:Nat)(a0:List PV)(nn:Nat)(hnn:0<nn)(y0:Nat)(y1:List PV)(y2:Int)(y3 y4:Nat)(y5 y6:List PV):G0 fu call a0n a0 nn y0 y1 y2 y3 y4 y5 y6=(Ap (decide (0<(↑y0:Int)))<|Ae .u8 (List.getD y1 0 .top) fun Ds=>Aa (wrap .i64 Ds) fun Cu=>C3 fu call a0n a0 (fu) (y0) (y1) 0 (y2) (y3) (y4) (y5) (y6) Cu 0 0 ([]) ([])):=by cases nn with|zero=>exact absurd hnn (Nat.lt_irrefl 0)|succ nn=>kernel_rfl
theorem Kl (fu:Nat)(call:Ah)(a0n:Nat)(a0:List PV)(nn y0:Nat)(y1:List PV)(y2 y3:Int)(y4 y5:Nat)(y6 y7:List PV)(y8:Int)(y9 y10:Nat)(F6 Hu:List PV):C3 fu call a0n a0 (nn+1) y0 y1 y2 y3 y4 y5 y6 y7 y8 y9 y10 F6 Hu=(Ap (decide (1<(↑y0:Int)))<|Ae .u8 (List.getD y1 1 .top) fun Dw=>Aa (wrap .i64 Dw) fun Ea=>Aa (wrap .i64 (18+Ea)) fun Ef=>A3 (decide (y2<Ef)) (Aa (wrap .i64 (8*y2)) fun Ew=>Aa (wrap .i64 (2+Ew)) fun Ej=>Aa (wrap .i64 (8*y2)) fun Fb=>Aa (wrap .i64 (10+Fb)) fun G9=>Ap (decide (0<=Ej))<|Ap (decide (0<=G9))<|Ap (decide (Int.toNat Ej<=Int.toNat G9)&&decide (Int.toNat G9<=y0))<|Aa (Int.toNat G9-Int.toNat Ej) fun Cp=>Aa (List.take (Cp*1) (List.drop (Int.toNat Ej*1) y1)) fun Hb=>Ag (call 112 [.lst false 1 Cp Hb]) fun Dx B4=>Ac B4<|Ab Dx fun Ft Hn=>Ae .u64 Ft fun Bk=>Ac Hn<|A3 (decide (y2<18)) (Ap (decide (y9*1<=F6.length)&&true&&decide ((y9+1)*8<=1099511627776)&&decide (y9+1<=1099511627776))<|Aa (y9+1) fun Ci=>Aa (List.take (y9*1) F6++[.sc (.int .u64 Bk)]) fun I1=>Aa (wrap .i64 (y2+1)) fun Jd=>C3 fu call a0n a0 (nn) (y0) (y1) Jd (y3) (y4) (y5) (y6) (y7) (y8) Ci (y10) I1 (Hu)) (Ap (decide (y10*1<=Hu.length)&&true&&decide ((y10+1)*8<=1099511627776)&&decide (y10+1<=1099511627776))<|Aa (y10+1) fun J9=>Aa (List.take (y10*1) Hu++[.sc (.int .u64 Bk)]) fun Kc=>Aa (wrap .i64 (y2+1)) fun Lx=>C3 fu call a0n a0 (nn) (y0) (y1) Lx (y3) (y4) (y5) (y6) (y7) (y8) (y9) J9 (F6) Kc)) (Ap (decide (y9*1<=F6.length))<|Ap (decide (y10*1<=Hu.length))<|some (Aw.mk [.agg [.sc (.int .i64 y8),.own 1 y9 (List.take (y9*1) F6),.own 1 y10 (List.take (y10*1) Hu)],.sc (.int .i64 0)] []))):=by kernel_rfl
theorem Nf (fu d a0n:Nat)(a0:List PV):Ad C0 Tryz.prog fu (d+1) Hf [.lst false 1 a0n a0]=(fun (call:Ah)=>A3 (decide ((↑a0n:Int)<2)) (some (Aw.mk [.agg [.sc (.int .i64 0),.own 1 0 [],.own 1 0 []],.sc (.int .i64 2)] [])) (Ap (decide (1<(↑a0n:Int)))<|Ae .u8 (List.getD a0 1 .top) fun x1=>Aa (wrap .i64 x1) fun x2=>A3 (decide (x2>4)) (some (Aw.mk [.agg [.sc (.int .i64 0),.own 1 0 [],.own 1 0 []],.sc (.int .i64 2)] [])) (Ap (decide (0<(↑a0n:Int)))<|Ae .u8 (List.getD a0 0 .top) fun x3=>Aa (wrap .i64 x3) fun x4=>Ap (decide (1<(↑a0n:Int)))<|Ae .u8 (List.getD a0 1 .top) fun x5=>Aa (wrap .u64 x5) fun x6=>Ap (decide (0<=x6))<|Aa (Fp .i64 1 x6) fun x7=>A3 (decide (x4>=x7)) (some (Aw.mk [.agg [.sc (.int .i64 0),.own 1 0 [],.own 1 0 []],.sc (.int .i64 2)] [])) (Ap (decide (1<(↑a0n:Int)))<|Ae .u8 (List.getD a0 1 .top) fun x8=>Aa (wrap .i64 x8) fun x9=>Aa (wrap .i64 (18+x9)) fun Cm=>Aa (wrap .i64 (8*Cm)) fun Bq=>Aa (wrap .i64 (2+Bq)) fun Dm=>A3 ((↑a0n:Int) != Dm) (some (Aw.mk [.agg [.sc (.int .i64 0),.own 1 0 [],.own 1 0 []],.sc (.int .i64 2)] [])) (G0 fu call a0n a0 (fu) (a0n) (a0) 0 0 0 ([]) ([])))))) (Ad C0 Tryz.prog fu d):=by kernel_rfl
abbrev Nx:FuncId:=46
noncomputable def F4 (fu:Nat)(call:Ah)(a0 a1 a2:Int)(nn:Nat)(y0 y1 y2:Int)(y3:Nat)(y4:Int)(y5:List PV):Option Aw:=C6 CB Tryz.prog fu call 46 Tryz.f46 (Cb Tryz.f46) [.sc (.int .u64 a0),.sc (.int .u64 a1),.sc (.int .i64 a2)] [.r,.r,.r,.l,.r,.l] nn ⟨lk [(0,(.sc (.int .u64 y0))),(1,(.sc (.int .u64 y1))),(2,(.sc (.int .i64 y2))),(7,(.view 7 1 0 y3)),(8,(.sc (.int .i64 y4)))],Cj [(7,(.ar false y5))]⟩
theorem G7 (fu:Nat)(call:Ah)(a0 a1 a2:Int)(nn:Nat)(y0 y1 y2:Int)(y3:Nat)(y4:Int)(y5:List PV):F4 fu call a0 a1 a2 (nn+1) y0 y1 y2 y3 y4 y5=(A3 (decide ((↑y3:Int)<y2)) (Aa (wrap .u64 y4) fun x3=>Ag (call 84 [.lst false 1 2 [.sc (.int .u64 y1),.sc (.int .u64 x3)]]) fun x4 x5=>Ac x5<|Ab x4 fun x6 x7=>D4 1 x6 fun x8 x9=>Ac x7<|Ap (decide (0+x8*1<=x9.length))<|Ag (call 88 [.sc (.int .u64 y0),.sc (.int .i64 5),.lst false 1 x8 (List.take (x8*1) (List.drop 0 x9))]) fun Cm Bq=>Ac Bq<|Ab Cm fun Dm Ds=>Ae .u64 Dm fun Cu=>Ac Ds<|Ag (call 84 [.lst false 1 1 [.sc (.int .u64 Cu)]]) fun Dw Ea=>Ac Ea<|Ab Dw fun Ef Ew=>D4 1 Ef fun Ej Fb=>Ac Ew<|Ap (decide (0+Ej*1<=Fb.length))<|Ap (decide (y3*1<=y5.length)&&decide (List.length (List.take (Ej*1) (List.drop 0 Fb))=Ej*1)&&decide ((y3+Ej)*1<=1099511627776)&&decide (y3+Ej<=1099511627776))<|Aa (y3+Ej) fun G9=>Aa (List.take (y3*1) y5++List.take (Ej*1) (List.drop 0 Fb)) fun Cp=>Aa (wrap .i64 (y4+1)) fun Hb=>F4 fu call a0 a1 a2 (nn) (y0) (y1) (y2) G9 Hb Cp) (Ap (decide (0<=y2))<|Ap (decide (Int.toNat y2<=y3))<|Aa (Int.toNat y2-0) fun Dx=>Ap (decide (Dx*1<=y5.length))<|some (Aw.mk [.own 1 Dx (List.take (Dx*1) y5)] []))):=by kernel_rfl
theorem Xz (fu d:Nat)(a0 a1 a2:Int):Ad C0 Tryz.prog fu (d+1) Nx [.sc (.int .u64 a0),.sc (.int .u64 a1),.sc (.int .i64 a2)]=(fun (call:Ah)=>Aa (if a2<0 then 0 else a2) fun x1=>Aa (if 1024<x1 then 1024 else x1) fun x2=>F4 fu call a0 a1 a2 (fu) (a0) (a1) x2 0 0 ([])) (Ad C0 Tryz.prog fu d):=by kernel_rfl
abbrev Jy:FuncId:=80
noncomputable def Fa (fu:Nat)(call:Ah)(a0n:Nat)(a0:List PV)(a1n:Nat)(a1:List PV)(nn y0:Nat)(y1:List PV)(y2:Nat)(y3:List PV)(y4:Int):Option Aw:=C6 CB Tryz.prog fu call 80 Tryz.f80 (Cb Tryz.f80) [.lst false 1 a0n a0,.lst false 1 a1n a1] [.r,.r,.l,.r,.l] nn ⟨lk [(0,(.lst false 1 y0 y1)),(1,(.lst false 1 y2 y3)),(5,(.sc (.int .i64 y4)))],Cj []⟩
theorem Ig (fu:Nat)(call:Ah)(a0n:Nat)(a0:List PV)(a1n:Nat)(a1:List PV)(nn y0:Nat)(y1:List PV)(y2:Nat)(y3:List PV)(y4:Int):Fa fu call a0n a0 a1n a1 (nn+1) y0 y1 y2 y3 y4=(A3 (decide (y4<(↑y0:Int))) (Ap (decide (0<=y4)&&decide (y4<(↑y0:Int)))<|Ae .u64 (List.getD y1 (Int.toNat y4*1) .top) fun x1=>Ap (decide (0<=y4)&&decide (y4<(↑y2:Int)))<|Ae .u64 (List.getD y3 (Int.toNat y4*1) .top) fun x2=>A3 (x1 != x2) (some (Aw.mk [.sc (.bool false)] [])) (Aa (wrap .i64 (y4+1)) fun x3=>Fa fu call a0n a0 a1n a1 (nn) (y0) (y1) (y2) (y3) x3)) (some (Aw.mk [.sc (.bool true)] []))):=by kernel_rfl
theorem Sx (fu d a0n:Nat)(a0:List PV)(a1n:Nat)(a1:List PV):Ad C0 Tryz.prog fu (d+1) Jy [.lst false 1 a0n a0,.lst false 1 a1n a1]=(fun (call:Ah)=>A3 ((↑a0n:Int) != (↑a1n:Int)) (some (Aw.mk [.sc (.bool false)] [])) (Fa fu call a0n a0 a1n a1 (fu) (a0n) (a0) (a1n) (a1) 0)) (Ad C0 Tryz.prog fu d):=by kernel_rfl
abbrev H2:FuncId:=40
theorem Ph (fu d:Nat)(a0_0:Int)(AH:Nat)(a0_1:List PV)(a0_2n:Nat)(a0_2:List PV)(a1_0:Int)(Apc:Nat)(a1_1:List PV)(Apj:Nat)(a1_2:List PV):Ad C0 Tryz.prog fu (d+1) H2 [.agg [.sc (.int .i64 a0_0),.lst false 1 AH a0_1,.lst false 1 a0_2n a0_2],.agg [.sc (.int .i64 a1_0),.lst false 1 Apc a1_1,.lst false 1 Apj a1_2]]=(fun (call:Ah)=>A3 (a0_0==a1_0) (Ag (call 80 [.lst false 1 AH a0_1,.lst false 1 Apc a1_1]) fun x1 x2=>Ac x2<|Ab x1 fun x3 x4=>Br x3 fun x5=>Ac x4<|A3 x5 (Ag (call 80 [.lst false 1 a0_2n a0_2,.lst false 1 Apj a1_2]) fun x6 x7=>Ac x7<|Ab x6 fun x8 x9=>Br x8 fun Cm=>Ac x9<|some (Aw.mk [.sc (.bool Cm)] [])) (some (Aw.mk [.sc (.bool false)] []))) (some (Aw.mk [.sc (.bool false)] []))) (Ad C0 Tryz.prog fu d):=by kernel_rfl
end
section
open Go.IntKind (wrap)
theorem Mx {α:Type}(f:Nat->α)(i:Nat):(List.range (i+1)).map f=(List.range i).map f++[f i]:=by
 rw [List.range_succ,List.map_append];rfl
section
variable {fu d:Nat}
theorem U8 (h:Int):Ad C0 Tryz.prog fu (d+1) Ng [.sc (.int .i64 h)]=some ⟨[.sc (.bool (!C4 h))],[]⟩:=by
 rw [X3];unfold C4;by_cases h0:h<0
 ·simp (disch:=omega) only [Bx,h0,decide_true,Bool.true_or,Bw]
 ·have e:decide (h<=4) = !decide (h>4):=by
   by_cases c:h<=4
   ·have:¬h>4:=by omega
    simp [c,this]
   ·have:h>4:=by omega
    simp [c,this]
  simp (disch:=omega) only [Bx,h0,decide_false,Bool.false_or,e]
theorem Adc {ws:List Int}(hl:ws.length<=100)(hfu:1000<=fu)(dom:Int):Ad C0 Tryz.prog fu (d+4) Jh [.sc (.int .i64 dom),.lst false 1 (Ax ws).length (Af .u8 (Ax ws))]=some ⟨[.sc (.int .u64 (Ol dom (Ax ws)))],[]⟩:=
 Aae (xs:=Is) (Q2 ws) (by rw [Cy];omega) (by omega) (by rw [Cy];omega) dom
theorem JE {call:Ah}{a0 m:Int}:∀(k nn:Nat)(i:Nat),i+k=16->k<nn ->
  Ge fu call a0 nn m ((List.range i).map (Gk m)).length (Jq m i) (15-(i:Int)) (Af .i64 ((List.range i).map (Gk m)))=some ⟨[.own 1 18 (Af .i64 (UH m))],[]⟩
 |_,0,_,_,h=>by omega
 |0,nn+1,i,hi,hn=>by
  have e:i=16:=by omega
  subst e;have hs:=Ju m 16
  have wq:wrap .i64 (Int.tdiv (Jq m 16) 16)=Jq m 16 / 16:=by
   rw [Int.tdiv_eq_ediv_of_nonneg (by omega),Ak (by omega) (by omega)]
  have wm:Int.tmod (Jq m 16) 16=Jq m 16 % 16:=Int.tmod_eq_emod_of_nonneg (by omega)
  have e2:Af .i64 ((List.range 16).map (Gk m))++[PV.sc (.int .i64 (Jq m 16 / 16)),PV.sc (.int .i64 (Jq m 16 % 16))]=Af .i64 (UH m):=by
   unfold UH;rw [Af,Af,List.flatMap_append];rfl
  have L:(Af .i64 (UH m)).length=18:=by rw [Al,Ad6]
  have tk:List.take 18 (Af .i64 (UH m))=Af .i64 (UH m):=Jv (by omega)
  have l16:((List.range 16).map (Gk m)).length=16:=by simp
  have L16:=Al .i64 ((List.range 16).map (Gk m));have t16:=Ii .i64 ((List.range 16).map (Gk m));rw [l16] at L16 t16 ⊢;rw [Kt,Dv _ _ _ (by omega)]
  simp (disch:=omega) only [Bx,wq,wm,Bz,t16,e2,L16,Nat.reduceAdd,L,tk]
 |k+1,nn+1,i,hi,hn=>by
  have ih:=JE (call:=call) (a0:=a0) (m:=m) k nn (i+1) (by omega) (by omega)
  have hb:=R0 m i;have hs:=Ju m i;have w1:wrap .i64 (4*(15-(i:Int)))=60-4*(i:Int):=by rw [Ak (by omega) (by omega)];omega
  have w2:wrap .u64 (60-4*(i:Int))=60-4*(i:Int):=Ch (by omega) (by omega)
  have hd:wrap .i64 (Mj .u64 (Ei .u64 m (60-4*(i:Int))) 15)=Gk m i:=rfl;have w15:wrap .i64 (15-Gk m i)=15-Gk m i:=Ak (by omega) (by omega)
  have ws:wrap .i64 (Jq m i+(15-Gk m i))=Jq m (i+1):=by rw [Ak (by omega) (by omega)];rfl
  have wi:wrap .i64 (15-(i:Int)-1)=15-((i+1:Nat):Int):=by rw [Ak (by omega) (by omega)];omega
  have L:=Al .i64 ((List.range i).map (Gk m));have l16:((List.range i).map (Gk m)).length=i:=by simp
  rw [Mx,Hz,List.length_singleton,←Fn] at ih;rw [Kt];simp (disch:=omega) only [Bx,w1,w2,hd,w15,ws,wi,Bz,Ii,L];exact ih
theorem Aip (hfu:1000<=fu)(m:Int):Ad C0 Tryz.prog fu (d+1) O7 [.sc (.int .u64 m)]=some ⟨[.own 1 18 (Af .i64 (UH m))],[]⟩:=by
 rw [AF];exact JE (fu:=fu) (a0:=m) (m:=m) 16 fu 0 (by omega) (by omega)
theorem TB {leaf chain:Int}{a0 a1 a2 a3 a4:Int}(hfu:1000<=fu){t:Int}(ht:t<=15):∀(k nn:Nat)(p x:Int),(k:Int)=t-p->0<=p->k<nn ->
  Hm fu (Ad C0 Tryz.prog fu (d+4)) a0 a1 a2 a3 a4 nn leaf chain t x p=some ⟨[.sc (.int .u64 (Sr leaf chain k p x))],[]⟩
 |_,0,_,_,_,_,h=>by omega
 |0,nn+1,p,x,hk,hp,hn=>by
  rw [M3];simp only [Ha];rw [Az (by omega),Dv _ _ _ (by omega)]
  rfl
 |k+1,nn+1,p,x,hk,hp,hn=>by
  have w:wrap .i64 (p+1)=p+1:=Ak (by omega) (by omega)
  have wd:Ad C0 Tryz.prog fu (d+4) Dy [.lst false 1 4 [.sc (.int .u64 (wrap .u64 leaf)),.sc (.int .u64 (wrap .u64 chain)),.sc (.int .u64 (wrap .u64 p)),.sc (.int .u64 x)]]=_:=J1 (xs:=Is) (ws:=[wrap .u64 leaf,wrap .u64 chain,wrap .u64 p,x]) (by simp) (by omega) (by simp;omega)
  have hs:=Adc (fu:=fu) (d:=d) (ws:=[wrap .u64 leaf,wrap .u64 chain,wrap .u64 p,x]) (by simp) hfu 1
  have ih:=TB (leaf:=leaf) (chain:=chain) (a0:=a0) (a1:=a1) (a2:=a2) (a3:=a3) (a4:=a4) hfu ht k nn (p+1) (Ol 1 (Ax [wrap .u64 leaf,wrap .u64 chain,wrap .u64 p,x])) (by omega) (by omega) (by omega)
  have L:=Al .u8 (Ax [wrap .u64 leaf,wrap .u64 chain,wrap .u64 p,x]);have eR:Sr leaf chain (k+1) p x=Sr leaf chain k (p+1) (Ol 1 (Ax [wrap .u64 leaf,wrap .u64 chain,wrap .u64 p,x])):=rfl;rw [eR];generalize Ax [wrap .u64 leaf,wrap .u64 chain,wrap .u64 p,x]=W at wd hs ih L ⊢;have e15:(if (15:Int)<t then 15 else t)=t:=Az (by omega)
  rw [M3];simp (disch:=omega) only [Bx,e15,wd,Bz,Ck,Di,Ii,L,hs,w];exact ih
theorem Ae5 {leaf chain:Int}(hfu:1000<=fu)(k:Nat)(f t x:Int)(hk:(k:Int)=t-f) (h0:0<=f)(h1:t<=15):Ad C0 Tryz.prog fu (d+5) Rt [.sc (.int .i64 leaf),.sc (.int .i64 chain),.sc (.int .i64 f),.sc (.int .i64 t),.sc (.int .u64 x)]=some ⟨[.sc (.int .u64 (Sr leaf chain k f x))],[]⟩:=by
 rw [DV];simp only [Ha];rw [Az (by omega)]
 exact TB hfu h1 k fu f x hk h0 (by omega)
theorem QC (hfu:1000<=fu)(seed leaf chain:Int):Ad C0 Tryz.prog fu (d+5) Nq [.sc (.int .u64 seed),.sc (.int .i64 leaf),.sc (.int .i64 chain)]=some ⟨[.sc (.int .u64 (IH seed leaf chain))],[]⟩:=by
 have wd:Ad C0 Tryz.prog fu (d+4) Dy [.lst false 1 2 [.sc (.int .u64 (wrap .u64 leaf)),.sc (.int .u64 (wrap .u64 chain))]]=_:=J1 (xs:=Is) (ws:=[wrap .u64 leaf,wrap .u64 chain]) (by simp) (by omega) (by simp;omega)
 have hs:=Ae7 (xs:=Is) (fu:=fu) (d:=d) (Q2 [wrap .u64 leaf,wrap .u64 chain]) (by rw [Cy];simp) (by omega) (by rw [Cy];simp;omega) seed 1
 have L:=Al .u8 (Ax [wrap .u64 leaf,wrap .u64 chain]);rw [Yf];unfold IH;generalize Ax [wrap .u64 leaf,wrap .u64 chain]=W at wd hs L ⊢;simp (disch:=omega) only [Bx,wd,Bz,Ck,Di,Ii,L,hs]
theorem Anm (hfu:1000<=fu)(w:Int):Ad C0 Tryz.prog fu (d+1) Dy [.lst false 1 1 [.sc (.int .u64 w)]]=some ⟨[.own 1 8 (Af .u8 (Dq w))],[]⟩:=by
 have:=J1 (xs:=Is) (fu:=fu) (d:=d) (ws:=[w]) (by simp) (by omega) (by simp;omega)
 simp only [Ax,List.flatMap_cons,List.flatMap_nil,List.append_nil,Kb,ED,D1] at this;exact this
theorem Ako (hfu:1000<=fu)(leaf:Int){E:List Int}(hE:E.length<=50):Ad C0 Tryz.prog fu (d+5) Px [.sc (.int .i64 leaf),.lst false 1 E.length (Af .u64 E)]=some ⟨[.sc (.int .u64 (AJ leaf E))],[]⟩:=by
 have w1:=Anm (fu:=fu) (d:=d+3) hfu (wrap .u64 leaf);have w2:=J1 (xs:=Is) (fu:=fu) (d:=d+3) (ws:=E) (by omega) (by omega) (by omega)
 have hs:=Adc (fu:=fu) (d:=d) (ws:=wrap .u64 leaf::E) (by simp;omega) hfu 2
 have eW:Ax (wrap .u64 leaf::E)=Dq (wrap .u64 leaf)++Ax E:=rfl
 have eC:Af .u8 (Dq (wrap .u64 leaf))++Af .u8 (Ax E)=Af .u8 (Ax (wrap .u64 leaf::E)):=by
  rw [eW,Af,Af,Af,List.flatMap_append]
 have l0:(Dq (wrap .u64 leaf)).length=8:=D1 _;have l1:=Cy E;have l2:(Ax (wrap .u64 leaf::E)).length=8+(Ax E).length:=by rw [eW,Hz,l0]
 have L0:=Al .u8 (Dq (wrap .u64 leaf));rw [l0] at L0;have L1:=Al .u8 (Ax E);have L2:=Al .u8 (Ax (wrap .u64 leaf::E));have t8:List.take 8 (Af .u8 (Dq (wrap .u64 leaf)))=Af .u8 (Dq (wrap .u64 leaf)):=Jv (by omega)
 have tW:List.take (8+(Ax E).length) (Af .u8 (Ax (wrap .u64 leaf::E)))=Af .u8 (Ax (wrap .u64 leaf::E)):=Jv (by omega)
 rw [l2] at hs;rw [BQ];simp (disch:=omega) only [Bx,w1,w2,Bz,Ck,Di,Ii,t8,L0,L1,eC,L2,tW,hs];rfl
theorem OT {a0 a1 seed leaf:Int}(hfu:1000<=fu):∀(k nn i:Nat),i+k=18->k<nn ->
  Gt fu (Ad C0 Tryz.prog fu (d+5)) a0 a1 nn seed leaf ((List.range i).map (Zu seed leaf)).length i (Af .u64 ((List.range i).map (Zu seed leaf)))=some ⟨[.sc (.int .u64 (Ij seed leaf))],[]⟩
 |_,0,_,_,h=>by omega
 |0,nn+1,i,hi,hn=>by
  have e:i=18:=by omega
  subst e;have l18:((List.range 18).map (Zu seed leaf)).length=18:=by simp
  have en:=Ako (fu:=fu) (d:=d) hfu leaf (E:=(List.range 18).map (Zu seed leaf)) (by omega)
  have L:=Al .u64 ((List.range 18).map (Zu seed leaf));rw [Mb,Dv _ _ _ (by omega)]
  simp (disch:=omega) only [Bx,Bz,Ck,Di,Ii,L,en];rfl
 |k+1,nn+1,i,hi,hn=>by
  have ih:=OT (a0:=a0) (a1:=a1) (seed:=seed) (leaf:=leaf) hfu k nn (i+1) (by omega) (by omega)
  have sc:=QC (fu:=fu) (d:=d) hfu seed leaf i;have rn:=Ae5 (fu:=fu) (d:=d) (leaf:=leaf) (chain:=i) hfu 15 0 15 (IH seed leaf i) (by omega) (by omega) (by omega)
  have w:wrap .i64 ((i:Int)+1)=((i+1:Nat):Int):=by rw [Ak (by omega) (by omega)];omega
  have L:=Al .u64 ((List.range i).map (Zu seed leaf));have li:((List.range i).map (Zu seed leaf)).length=i:=by simp
  rw [Mx,Hz,List.length_singleton,←Fn] at ih;rw [Mb];simp (disch:=omega) only [Bx,sc,rn,Bz,Ii,L,w];exact ih
theorem Ak3 (hfu:1000<=fu)(seed leaf:Int):Ad C0 Tryz.prog fu (d+6) Qj [.sc (.int .u64 seed),.sc (.int .i64 leaf)]=some ⟨[.sc (.int .u64 (Ij seed leaf))],[]⟩:=by
 rw [BE];exact OT (fu:=fu) (d:=d) hfu 18 fu 0 (by omega) (by omega)
theorem As1 (m:Int){i:Nat}(h:i<18):(UH m)[i]?=some (dg m i):=by
 unfold dg;rw [List.getD_eq_getElem?_getD,List.getElem?_eq_getElem (by rw [Ad6];omega)]
 rfl
theorem X7 {a0 a1 a2 seed leaf m:Int}(hfu:1000<=fu):∀(k nn i:Nat),i+k=18->k<nn ->
  Fg fu (Ad C0 Tryz.prog fu (d+5)) a0 a1 a2 nn seed leaf 18 ((List.range i).map (Wz seed leaf m)).length i (Af .i64 (UH m)) (Af .u64 ((List.range i).map (Wz seed leaf m)))=some ⟨[.own 1 18 (Af .u64 (Jc seed leaf m))],[]⟩
 |_,0,_,_,h=>by omega
 |0,nn+1,i,hi,hn=>by
  have e:i=18:=by omega
  subst e;have l18:((List.range 18).map (Wz seed leaf m)).length=18:=by simp
  have L:=Al .u64 ((List.range 18).map (Wz seed leaf m));rw [Iy,Dv _ _ _ (by omega)]
  simp (disch:=omega) only [Bx,Bz,Ii,L];rw [l18];rfl
 |k+1,nn+1,i,hi,hn=>by
  have ih:=X7 (a0:=a0) (a1:=a1) (a2:=a2) (seed:=seed) (leaf:=leaf) (m:=m) hfu k nn (i+1) (by omega) (by omega)
  have hb:=Zg m i;have sc:=QC (fu:=fu) (d:=d) hfu seed leaf i;have rn:=Ae5 (fu:=fu) (d:=d) (leaf:=leaf) (chain:=i) hfu (dg m i).toNat 0 (dg m i) (IH seed leaf i) (by omega) (by omega) (by omega)
  have w:wrap .i64 ((i:Int)+1)=((i+1:Nat):Int):=by rw [Ak (by omega) (by omega)];omega
  have L:=Al .u64 ((List.range i).map (Wz seed leaf m));have li:((List.range i).map (Wz seed leaf m)).length=i:=by simp
  rw [Mx,Hz,List.length_singleton,←Fn] at ih;rw [Iy];simp (disch:=omega) only [Bx,Hi,Bz,Ck,Po (As1 m (show i<18 by omega)),sc,rn,Ii,L,w]
  exact ih
theorem WP (hfu:1000<=fu)(seed leaf m:Int):Ad C0 Tryz.prog fu (d+6) Kw [.sc (.int .u64 seed),.sc (.int .i64 leaf),.sc (.int .u64 m)]=some ⟨[.own 1 18 (Af .u64 (Jc seed leaf m))],[]⟩:=by
 rw [U5];have sp:=Aip (fu:=fu) (d:=d+4) hfu m;simp only [Bx,sp];exact X7 (fu:=fu) (d:=d) hfu 18 fu 0 (by omega) (by omega)
theorem Adk (hfu:1000<=fu)(level a b:Int):Ad C0 Tryz.prog fu (d+5) M4 [.sc (.int .i64 level),.sc (.int .u64 a),.sc (.int .u64 b)]=some ⟨[.sc (.int .u64 (M1 level a b))],[]⟩:=by
 have wd:Ad C0 Tryz.prog fu (d+4) Dy [.lst false 1 3 [.sc (.int .u64 (wrap .u64 level)),.sc (.int .u64 a),.sc (.int .u64 b)]]=_:=J1 (xs:=Is) (ws:=[wrap .u64 level,a,b]) (by simp) (by omega) (by simp;omega)
 have hs:=Adc (fu:=fu) (d:=d) (ws:=[wrap .u64 level,a,b]) (by simp) hfu 3
 have L:=Al .u8 (Ax [wrap .u64 level,a,b]);rw [Yg];unfold M1;generalize Ax [wrap .u64 level,a,b]=W at wd hs L ⊢;simp (disch:=omega) only [Bx,wd,Bz,Ck,Di,Ii,L,hs]
theorem DR (hfu:1000<=fu)(seed:Int):∀(l:Nat)(i B:Int),0<=i->i<=B->(2 ^ l:Nat)*(B+1)<=1000000000->l<=20->Ad C0 Tryz.prog fu (d+7+l) Qz [.sc (.int .u64 seed),.sc (.int .i64 l),.sc (.int .i64 i)]=some ⟨[.sc (.int .u64 (Cf seed l i))],[]⟩
 |0,i,B,h0,h1,h2,hl=>by
  have lf:=Ak3 (fu:=fu) (d:=d) hfu seed i;refine (Qx fu (d+6) seed 0 i).trans ?_;simp only [Bx,Fo,if_true,lf];rfl
 |l+1,i,B,h0,h1,h2,hl=>by
  have hq:(2 ^ (l+1):Nat)=2 ^ l*2:=Nat.pow_succ _ _;have hpos:0<2 ^ l:=Nat.pow_pos (by omega)
  rw [hq] at h2;generalize hQ:2 ^ l=q at h2 hpos
  have hb:((q*2:Nat):Int)*(B+1)=(q:Int)*(2*B+1+1):=by
   rw [Int.natCast_mul,Int.mul_assoc]
   congr 1
   omega
  rw [hb] at h2
  have hBq:2*B+1+1<=(q:Int)*(2*B+1+1):=by
   have:=Int.mul_le_mul_of_nonneg_right (show (1:Int)<=q by omega) (show (0:Int)<=2*B+1+1 by omega)
   omega
  have n1:=DR hfu seed l (2*i) (2*B+1) (by omega) (by omega) (by rw [hQ];exact h2) (by omega)
  have n2:=DR hfu seed l (2*i+1) (2*B+1) (by omega) (by omega) (by rw [hQ];exact h2) (by omega)
  have pr:=Adk (fu:=fu) (d:=d+2+l) hfu ((l+1:Nat):Int) (Cf seed l (2*i)) (Cf seed l (2*i+1));rw [show d+2+l+5=d+7+l by omega] at pr
  have w1:wrap .i64 (((l+1:Nat):Int)-1)=(l:Int):=by rw [Ak (by omega) (by omega)];omega
  have w2:wrap .i64 (2*i)=2*i:=Ak (by omega) (by omega)
  have w3:wrap .i64 (2*i+1)=2*i+1:=Ak (by omega) (by omega)
  have ne:¬(((l+1:Nat):Int)=0):=by omega
  refine (Qx fu (d+7+l) seed ((l+1:Nat):Int) i).trans ?_;simp only [Bx,Fo,ne,if_false,w1,w2,w3,n1,n2,pr];rfl
end
end
section
open Go.IntKind (wrap)
theorem wu {h:Int}(h0:0<=h)(h4:h<=4):wrap .u64 h=h:=Ch (by omega) (by omega)
theorem Ado {leaf h:Int}(h0:0<=h)(h4:h<=4)(ho:Hp leaf h=false):0<=leaf∧leaf<2 ^ h.toNat:=by
 unfold Hp at ho;simp only [Bool.or_eq_false_iff,decide_eq_false_iff_not] at ho;have:h=0∨h=1∨h=2∨h=3∨h=4:=by omega
 rcases this with rfl|rfl|rfl|rfl|rfl
 ·have e:Fp .i64 1 0=1:=by decide
  rw [e] at ho;exact ⟨by omega,by show leaf<1;omega⟩
 ·have e:Fp .i64 1 1=2:=by decide
  rw [e] at ho;exact ⟨by omega,by show leaf<2;omega⟩
 ·have e:Fp .i64 1 2=4:=by decide
  rw [e] at ho;exact ⟨by omega,by show leaf<4;omega⟩
 ·have e:Fp .i64 1 3=8:=by decide
  rw [e] at ho;exact ⟨by omega,by show leaf<8;omega⟩
 ·have e:Fp .i64 1 4=16:=by decide
  rw [e] at ho;exact ⟨by omega,by show leaf<16;omega⟩
theorem Arm {h:Int}(h0:0<=h)(h4:h<=4):(2:Int) ^ h.toNat<=16:=by
 have:h=0∨h=1∨h=2∨h=3∨h=4:=by omega
 rcases this with rfl|rfl|rfl|rfl|rfl<;>decide
theorem Ad0 {leaf:Int}(h0:0<=leaf)(h1:leaf<16){k:Nat}(hk:k<4):0<=Fy leaf k∧Fy leaf k<=15:=by
 have H:∀n:Fin 16,∀k:Fin 4,0<=Fy (n.val:Int) k.val∧Fy (n.val:Int) k.val<=15:=by decide
 obtain ⟨n,rfl⟩:=Int.eq_ofNat_of_zero_le h0;exact H ⟨n,by omega⟩ ⟨k,hk⟩
section
variable {fu d:Nat}
theorem PE (hfu:1000<=fu)(seed h:Int):Ad C0 Tryz.prog fu (d+12) Nd [.sc (.int .u64 seed),.sc (.int .i64 h)]=some ⟨[.agg (My seed h).cells,.sc (.int .i64 (if C4 h=true then 9 else 0))],[]⟩:=by
 refine (Yl fu (d+11) seed h).trans ?_;have h1:=U8 (fu:=fu) (d:=d+10) h;unfold My;cases c1:C4 h
 ·rw [c1] at h1;have hb:=H7 c1
  have nd:=DR (fu:=fu) (d:=d+4-h.toNat) hfu seed h.toNat 0 0 (by omega) (by omega) (by
   have:h=0∨h=1∨h=2∨h=3∨h=4:=by omega
   rcases this with rfl|rfl|rfl|rfl|rfl<;>decide) (by omega)
  rw [show d+4-h.toNat+7+h.toNat=d+11 by omega,show ((h.toNat:Nat):Int)=h by omega] at nd
  simp only [Bx,h1,nd];rfl
 ·rw [c1] at h1;simp only [Bx,h1];rfl
theorem QA {a0 a1 a2 a3:Int}{seed leaf h:Int}(hh:0<=h∧h<=4)(hl:0<=leaf∧leaf<16)(hfu:1000<=fu){y4 y9:Int}{y5 y6:Nat}{y7 y8:List PV}{ch:List Int}:∀(k nn i:Nat),i+k=h.toNat->k<nn ->
  Gq fu (Ad C0 Tryz.prog fu (d+11)) a0 a1 a2 a3 nn seed h leaf i y4 y5 y6 y7 y8 leaf ch.length ((List.range i).map fun k=>Cf seed k (Fy leaf k)).length (Af .u64 ch) (Af .u64 ((List.range i).map fun k=>Cf seed k (Fy leaf k)))=some ⟨[.agg (Sg.mk leaf ch ((List.range h.toNat).map fun k=>Cf seed k (Fy leaf k))).owned,.sc (.int .i64 0)],[]⟩
 |_,0,_,_,h=>by omega
 |0,nn+1,i,hi,hn=>by
  have e:i=h.toNat:=by omega
  subst e;have L1:=Al .u64 ch;have L2:=Al .u64 ((List.range h.toNat).map fun k=>Cf seed k (Fy leaf k))
  rw [Mf,Dv _ _ _ (by omega)]
  simp (disch:=omega) only [Bx,Bz,Ii,L1,L2];rfl
 |k+1,nn+1,i,hi,hn=>by
  have ih:=QA (a0:=a0) (a1:=a1) (a2:=a2) (a3:=a3) (seed:=seed) (y4:=y4) (y9:=y9) (y5:=y5) (y6:=y6) (y7:=y7) (y8:=y8) (ch:=ch) hh hl hfu k nn (i+1) (by omega) (by omega)
  have sb:=Ad0 hl.1 hl.2 (k:=i) (by omega)
  have nd:=DR (fu:=fu) (d:=d+4-i) hfu seed i (Fy leaf i) 15 sb.1 sb.2 (by
   have:i=0∨i=1∨i=2∨i=3:=by omega
   rcases this with rfl|rfl|rfl|rfl<;>decide) (by omega)
  rw [show d+4-i+7+i=d+11 by omega] at nd
  have es:D7 .i64 (Ei .i64 leaf (i:Int)) 1=Fy leaf i:=rfl;have w:wrap .i64 ((i:Int)+1)=((i+1:Nat):Int):=by rw [Ak (by omega) (by omega)];omega
  have wi:wrap .u64 (i:Int)=i:=Ch (by omega) (by omega)
  have L:=Al .u64 ((List.range i).map fun k=>Cf seed k (Fy leaf k))
  have li:((List.range i).map fun k=>Cf seed k (Fy leaf k)).length=i:=by simp
  rw [Mx,Hz,List.length_singleton,←Fn] at ih;rw [Mf];simp (disch:=omega) only [Bx,wi,es,nd,Bz,Ii,L,w];exact ih
theorem Ala (hfu:1000<=fu)(seed h leaf m:Int):Ad C0 Tryz.prog fu (d+12) Q4 [.sc (.int .u64 seed),.sc (.int .i64 h),.sc (.int .i64 leaf),.sc (.int .u64 m)]=some ⟨WB (EM seed h leaf m),[]⟩:=by
 refine (CJ fu (d+11) seed h leaf m).trans ?_;have h1:=U8 (fu:=fu) (d:=d+10) h;unfold EM;cases c1:C4 h
 ·rw [c1] at h1;have hb:=H7 c1;have w:=wu hb.1 hb.2;rw [Az (by simp)]
  by_cases hn:leaf<0
  ·have ho:Hp leaf h=true:=by unfold Hp;simp [hn]
   rw [Bv ho];simp (disch:=omega) only [Bx,h1];rfl
  ·by_cases hg:leaf>=Fp .i64 1 h
   ·have ho:Hp leaf h=true:=by unfold Hp;simp [hg]
    rw [Bv ho];simp (disch:=first|omega|exact hg) only [Bx,h1,w];rfl
   ·have ho:Hp leaf h=false:=by unfold Hp;simp only [Bool.or_eq_false_iff,decide_eq_false_iff_not];exact ⟨hn,hg⟩
    have hlt:=Ado hb.1 hb.2 ho;have h16:=Arm hb.1 hb.2;rw [Az (by rw [ho];simp)]
    have sl:=WP (fu:=fu) (d:=d+5) hfu seed leaf m;have lp:=QA (fu:=fu) (d:=d) (a0:=seed) (a1:=h) (a2:=leaf) (a3:=m) (seed:=seed) (leaf:=leaf) (h:=h) hb (by omega) hfu (y4:=0) (y9:=0) (y5:=0) (y6:=0) (y7:=[]) (y8:=[]) (ch:=Jc seed leaf m) h.toNat fu 0 (by omega) (by omega)
    have l18:(Jc seed leaf m).length=18:=by simp [Jc]
    rw [l18] at lp;simp (disch:=first|omega|exact hg) only [Bx,h1,w,sl];exact lp
 ·rw [c1] at h1;rw [Bv rfl];simp (disch:=omega) only [Bx,h1];rfl
theorem Acu (hfu:1000<=fu)(k:Ky):Ad C0 Tryz.prog fu (d+2) J4 [.agg k.cells]=some ⟨(if C4 k.h=true then [.own 1 0 [],.sc (.int .i64 9)] else [.own 1 9 (Af .u8 (I7 k)),.sc (.int .i64 0)]),[]⟩:=by
 refine (Te fu (d+1) k.h k.root).trans ?_;have h1:=U8 (fu:=fu) (d:=d) k.h;have wd:=Anm (fu:=fu) (d:=d) hfu k.root;have L:=Al .u8 (Dq k.root);rw [D1] at L;have t8:List.take 8 (Af .u8 (Dq k.root))=Af .u8 (Dq k.root):=Jv (by omega)
 have t9:List.take 9 ([PV.sc (.int .u8 (wrap .u8 k.h))]++Af .u8 (Dq k.root))=Af .u8 (I7 k):=by
  rw [Jv (by rw [Hz,L];simp)]
  rfl
 have L9:([PV.sc (.int .u8 (wrap .u8 k.h))]++Af .u8 (Dq k.root)).length=9:=by rw [Hz,L];rfl
 cases c1:C4 k.h
 ·rw [c1] at h1;rw [Az (by simp)]
  simp (disch:=omega) only [Bx,h1,wd,Bz,Ck,Di,L,t8,Nat.reduceAdd,L9,t9]
 ·rw [c1] at h1;rw [Bv rfl];simp (disch:=omega) only [Bx,h1]
theorem MU {call:Ah}{n:Nat}{c:List PV}{l:List Int}(hl:l.length=8):∀(r:List Int)(j nn:Nat)(x:Int),l.drop j=r->r.length<nn->j<=8 ->
  Gl fu call n c nn l.length (Af .u8 l) x j=some ⟨[.sc (.int .u64 (r.foldl Er x))],[]⟩
 |_,_,0,_,_,h,_=>by omega
 |[],j,nn+1,x,h,hn,hj=>by
  have:=drop_nil h;rw [L7,Dv _ _ _ (by omega)]
  rfl
 |b::r,j,nn+1,x,h,hn,hj=>by
  obtain ⟨h1,h2,h3⟩:=Cz h;simp only [Kb] at hn;have w:wrap .i64 ((j:Int)+1)=((j+1:Nat):Int):=by rw [Ak (by omega) (by omega)];omega
  have ih:=MU (call:=call) (n:=n) (c:=c) hl r (j+1) nn (Er x b) h3 (by omega) (by omega)
  rw [List.foldl_cons,←ih,L7];simp (disch:=omega) only [Bx,Hi,Bz,Po h2,w]
theorem XV (hfu:1000<=fu){l:List Int}(hl:l.length=8):Ad C0 Tryz.prog fu (d+1) Qa [.lst false 1 8 (Af .u8 l)]=some ⟨[.sc (.int .u64 (AE l))],[]⟩:=by
 rw [AY];have:=MU (fu:=fu) (call:=Ad C0 Tryz.prog fu d) (n:=8) (c:=Af .u8 l) hl l 0 fu 0 rfl (by omega) (by omega)
 rw [hl] at this;exact this
theorem Aci (hfu:1000<=fu){l:List Int}(hb:Hg l):Ad C0 Tryz.prog fu (d+2) J6 [.lst false 1 l.length (Af .u8 l)]=some ⟨GO (Zo l),[]⟩:=by
 refine (Ub fu (d+1) l.length (Af .u8 l)).trans ?_;unfold Zo;by_cases h9:l.length=9
 ·obtain ⟨x,hx⟩:∃x,l[0]?=some x:=⟨_,List.getElem?_eq_getElem (by omega)⟩
  have hxb:=hb x (List.mem_of_getElem? hx);have wx:wrap .i64 x=x:=Ak (by omega) (by omega)
  have gx:l.getD 0 0=x:=by rw [List.getD_eq_getElem?_getD,hx];rfl
  have h1:=U8 (fu:=fu) (d:=d) x;rw [gx];cases c1:C4 x
  ·rw [c1] at h1;have hdl:(l.drop 1).length=8:=by rw [List.length_drop];omega
   have dw:=XV (fu:=fu) (d:=d) hfu hdl
   have ew:AE (l.drop 1)=Iz (l.drop 1) 0:=by
    unfold Iz;rw [Nat.mul_zero,Di,Jv (by omega)]
   rw [ew] at dw;have e8:9-1=8:=rfl;have tk:List.take 8 (Af .u8 (l.drop 1))=Af .u8 (l.drop 1):=Jv (by rw [Al];omega)
   rw [Bv ⟨h9,rfl⟩,h9];simp (disch:=omega) only [Bx,D6,Po hx,wx,h1,Bz,Fs,e8,tk,dw];rfl
  ·rw [c1] at h1;rw [Az (by simp),h9]
   simp (disch:=omega) only [Bx,D6,Po hx,wx,h1];rfl
 ·rw [Az (by simp [h9])]
  simp (disch:=omega) only [D6];rw [Az (by omega)]
  rfl
end
end
section
open Go.IntKind (wrap)
section
variable {fu d:Nat}
theorem Amj (n:Nat):C4 (n:Int)=decide ((n:Int)>4):=by
 unfold C4;have:¬((n:Int)<0):=by omega
 simp [this]
theorem Acv (hfu:1000<=fu)(s:Sg)(hp:s.path.length<=1000000000):Ad C0 Tryz.prog fu (d+2) Hh [.agg s.cells]=some ⟨(if C4 s.path.length=true then [.own 1 0 [],.sc (.int .i64 9)] else if Hp s.leaf s.path.length=true then [.own 1 0 [],.sc (.int .i64 9)] else if s.chains.length≠18 then [.own 1 0 [],.sc (.int .i64 4)] else [.own 1 (Sm s).length (Af .u8 (Sm s)),.sc (.int .i64 0)]),[]⟩:=by
 refine (Np fu (d+1) s.leaf s.chains.length (Af .u64 s.chains) s.path.length (Af .u64 s.path)).trans ?_;rw [Amj];by_cases c1:(s.path.length:Int)>4
 ·rw [Bv (by simp [c1])]
  simp (disch:=omega) only [Bx]
 ·rw [Az (by simp [c1])]
  have w:=wu (h:=s.path.length) (by omega) (by omega)
  by_cases hn:s.leaf<0
  ·have ho:Hp s.leaf s.path.length=true:=by unfold Hp;simp [hn]
   rw [Bv ho];simp (disch:=omega) only [Bx]
  ·by_cases hg:s.leaf>=Fp .i64 1 s.path.length
   ·have ho:Hp s.leaf s.path.length=true:=by unfold Hp;simp [hg]
    rw [Bv ho];simp (disch:=first|omega|exact hg) only [Bx,w]
   ·have ho:Hp s.leaf s.path.length=false:=by unfold Hp;simp only [Bool.or_eq_false_iff,decide_eq_false_iff_not];exact ⟨hn,hg⟩
    rw [Az (by rw [ho];simp)]
    by_cases c3:s.chains.length=18
    ·have w1:=J1 (xs:=Is) (fu:=fu) (d:=d) (ws:=s.chains) (by omega) (by omega) (by omega)
     have w2:=J1 (xs:=Is) (fu:=fu) (d:=d) (ws:=s.path) (by omega) (by omega) (by omega)
     have l1:=Cy s.chains;have l2:=Cy s.path;have L1:=Al .u8 (Ax s.chains);have L2:=Al .u8 (Ax s.path)
     have eB:Af .u8 (Sm s)=[PV.sc (.int .u8 (wrap .u8 s.leaf)),PV.sc (.int .u8 (wrap .u8 s.path.length))]++Af .u8 (Ax s.chains)++Af .u8 (Ax s.path):=by
      unfold Sm;simp
     have eL:(Sm s).length=2+(Ax s.chains).length+(Ax s.path).length:=by
      unfold Sm;simp;omega
     rw [Az (by omega),eB,eL]
     have t2:List.take (2+(Ax s.chains).length) ([PV.sc (.int .u8 (wrap .u8 s.leaf)),PV.sc (.int .u8 (wrap .u8 s.path.length))]++Af .u8 (Ax s.chains))=[PV.sc (.int .u8 (wrap .u8 s.leaf)),PV.sc (.int .u8 (wrap .u8 s.path.length))]++Af .u8 (Ax s.chains):=Jv (by rw [Hz,L1];simp)
     have t3:List.take (2+(Ax s.chains).length+(Ax s.path).length) ([PV.sc (.int .u8 (wrap .u8 s.leaf)),PV.sc (.int .u8 (wrap .u8 s.path.length))]++Af .u8 (Ax s.chains)++Af .u8 (Ax s.path))=[PV.sc (.int .u8 (wrap .u8 s.leaf)),PV.sc (.int .u8 (wrap .u8 s.path.length))]++Af .u8 (Ax s.chains)++Af .u8 (Ax s.path):=Jv (by rw [Hz,Hz,L1,L2];simp)
     have k2:([PV.sc (.int .u8 (wrap .u8 s.leaf)),PV.sc (.int .u8 (wrap .u8 s.path.length))]++Af .u8 (Ax s.chains)).length=2+(Ax s.chains).length:=by rw [Hz,L1];rfl
     have k3:([PV.sc (.int .u8 (wrap .u8 s.leaf)),PV.sc (.int .u8 (wrap .u8 s.path.length))]++Af .u8 (Ax s.chains)++Af .u8 (Ax s.path)).length=2+(Ax s.chains).length+(Ax s.path).length:=by rw [Hz,k2,L2]
     simp (disch:=first|omega|exact hg) only [Bx,w,D6,w1,w2,Bz,Ck,Di,L1,L2,Ii,t2,t3,k2,k3];rw [Bv (by omega)]
    ·rw [Bv c3];simp (disch:=first|omega|exact hg) only [Bx,w,D6];rw [Az (by omega)]
def Wv (l:List Int)(i:Nat):Int:=AE ((l.drop (2+8*i)).take 8)
theorem Anc {l:List Int}{i:Nat}(hi:i<18):Iz ((l.drop 2).take 144) i=Wv l i:=by
 unfold Iz Wv;rw [List.drop_take,List.take_take,List.drop_drop,Nat.min_eq_left (by omega)]
theorem Ann {l:List Int}{i:Nat}:Iz (l.drop 146) i=Wv l (18+i):=by
 unfold Iz Wv;rw [List.drop_drop,show 146+8*i=2+8*(18+i) by omega]
theorem EJ {n:Nat}{c:List PV}{l:List Int}(hl:l.length<=1000){y:Int}(hy1:l[1]?=some y) (hy:0<=y∧y<=4)(hlen:(l.length:Int)=2+8*(18+y)) (hfu:1000<=fu){y3 y4:Int}{n5 n6 n7:Nat}{c5 c6:List PV}{x:Int}:∀(k nn i:Nat),i+k=18+y.toNat->k<nn ->
  C3 fu (Ad C0 Tryz.prog fu (d+1)) n c nn l.length (Af .u8 l) i y3 n5 n6 c5 c6 x ((List.range (min i 18)).map (Wv l)).length ((List.range (i-18)).map fun j=>Wv l (18+j)).length (Af .u64 ((List.range (min i 18)).map (Wv l))) (Af .u64 ((List.range (i-18)).map fun j=>Wv l (18+j)))=some ⟨[.agg (Sg.mk x ((List.range 18).map (Wv l)) ((List.range y.toNat).map fun j=>Wv l (18+j))).owned,.sc (.int .i64 0)],[]⟩
 |_,0,_,_,h=>by omega
 |k,nn+1,i,hi,hn=>by
  have wy:wrap .i64 y=y:=Ak (by omega) (by omega)
  have w18:wrap .i64 (18+y)=18+y:=Ak (by omega) (by omega)
  have L1:=Al .u64 ((List.range (min i 18)).map (Wv l));have L2:=Al .u64 ((List.range (i-18)).map fun j=>Wv l (18+j))
  have m1:((List.range (min i 18)).map (Wv l)).length=min i 18:=by simp
  have m2:((List.range (i-18)).map fun j=>Wv l (18+j)).length=i-18:=by simp
  rw [Kl];cases k with
  |zero=>
   have e:i=18+y.toNat:=by omega
   have e1:min i 18=18:=by omega
   have e2:i-18=y.toNat:=by omega
   simp (disch:=omega) only [Bx,Po hy1,wy,w18,Bz,Ii,L1,L2];rw [e1,e2];rfl
  |succ k=>
   have ih:=EJ (n:=n) (c:=c) hl hy1 hy hlen hfu (y3:=y3) (y4:=y4) (n5:=n5) (n6:=n6) (n7:=n7) (c5:=c5) (c6:=c6) (x:=x) k nn (i+1) (by omega) (by omega)
   have w8:wrap .i64 (8*(i:Int))=((8*i:Nat):Int):=by rw [Ak (by omega) (by omega)];omega
   have w2:wrap .i64 (2+((8*i:Nat):Int))=((2+8*i:Nat):Int):=by rw [Ak (by omega) (by omega)];omega
   have w10:wrap .i64 (10+((8*i:Nat):Int))=((10+8*i:Nat):Int):=by rw [Ak (by omega) (by omega)];omega
   have w:wrap .i64 ((i:Int)+1)=((i+1:Nat):Int):=by rw [Ak (by omega) (by omega)];omega
   have e8:10+8*i-(2+8*i)=8:=by omega
   have hdl:((l.drop (2+8*i)).take 8).length=8:=by rw [List.length_take,List.length_drop];omega
   have wd:=XV (fu:=fu) (d:=d) hfu hdl;have ew:AE ((l.drop (2+8*i)).take 8)=Wv l i:=rfl;rw [ew] at wd;by_cases c18:i<18
   ·have a1:min (i+1) 18=min i 18+1:=by omega
    have a2:min i 18=i:=by omega
    have a3:i+1-18=i-18:=by omega
    rw [a1,a3,Mx,Hz,List.length_singleton,←Fn,a2] at ih;rw [a2] at L1 m1 ⊢;simp (disch:=omega) only [Bx,Po hy1,wy,w18,w8,w2,w10,Hi,Bz,e8,Fs,Ec,List.take_length,wd,L1,L2,w];exact ih
   ·have a1:min (i+1) 18=min i 18:=by omega
    have a3:i+1-18=(i-18)+1:=by omega
    rw [a1,a3,Mx,Hz,List.length_singleton,←Fn,show 18+(i-18)=i by omega] at ih
    simp (disch:=omega) only [Bx,Po hy1,wy,w18,w8,w2,w10,Hi,Bz,e8,Fs,Ec,List.take_length,wd,L1,L2,w];exact ih
theorem Ad2 (hfu:1000<=fu){l:List Int}(hb:Hg l):Ad C0 Tryz.prog fu (d+2) Hf [.lst false 1 l.length (Af .u8 l)]=some ⟨MP (sgD l),[]⟩:=by
 refine (Nf fu (d+1) l.length (Af .u8 l)).trans ?_;unfold sgD;by_cases h2:2<=l.length
 ·obtain ⟨x,hx⟩:∃x,l[0]?=some x:=⟨_,List.getElem?_eq_getElem (by omega)⟩
  obtain ⟨y,hy⟩:∃y,l[1]?=some y:=⟨_,List.getElem?_eq_getElem (by omega)⟩
  have hxb:=hb x (List.mem_of_getElem? hx);have hyb:=hb y (List.mem_of_getElem? hy);have wx:wrap .i64 x=x:=Ak (by omega) (by omega)
  have wy:wrap .i64 y=y:=Ak (by omega) (by omega)
  have wyu:wrap .u64 y=y:=Ch (by omega) (by omega)
  have gx:l.getD 0 0=x:=by rw [List.getD_eq_getElem?_getD,hx];rfl
  have gy:l.getD 1 0=y:=by rw [List.getD_eq_getElem?_getD,hy];rfl
  have w1:wrap .i64 (18+y)=18+y:=Ak (by omega) (by omega)
  have w2:wrap .i64 (8*(18+y))=8*(18+y):=Ak (by omega) (by omega)
  have w3:wrap .i64 (2+8*(18+y))=2+8*(18+y):=Ak (by omega) (by omega)
  rw [gx,gy]
  have ehi:C4 y=decide (y>4):=by
   unfold C4;have:¬(y<0):=by omega
   simp [this]
  have eou:Hp x y=decide (x>=Fp .i64 1 y):=by
   unfold Hp;have:¬(x<0):=by omega
   simp [this]
  rw [ehi,eou];by_cases c1:y>4
  ·rw [Az (by simp [c1])]
   simp (disch:=omega) only [Bx,Po hx,Po hy,wx,wy];rfl
  ·by_cases c2:x>=Fp .i64 1 y
   ·rw [Az (by simp [c2])]
    simp (disch:=first|omega|exact c2) only [Bx,Po hx,Po hy,wx,wy,wyu];rfl
   ·by_cases c3:(l.length:Int)=2+8*(18+y)
    ·rw [Bv ⟨h2,by simp [c1],by simp [c2],c3⟩]
     have lp:=EJ (fu:=fu) (d:=d) (n:=l.length) (c:=Af .u8 l) (l:=l) (by omega) hy (by omega) c3 hfu (y3:=0) (y4:=0) (n5:=0) (n6:=0) (n7:=0) (c5:=[]) (c6:=[]) (x:=x) (18+y.toNat) fu 0 (by omega) (by omega)
     simp (disch:=first|omega|exact c2) only [Bx,D6,Po hx,Po hy,wx,wy,wyu,w1,w2,w3];rw [Bv c3];simp (disch:=omega) only [Bx,Lh,Po hx,wx];refine Eq.trans lp ?_
     have e1:E1 ((l.drop 2).take 144)=(List.range 18).map (Wv l):=by
      unfold E1;rw [show ((l.drop 2).take 144).length / 8=18 by rw [List.length_take,List.length_drop];omega]
      exact List.map_congr_left fun i hi=>Anc (List.mem_range.1 hi)
     have e2:E1 (l.drop 146)=(List.range y.toNat).map fun j=>Wv l (18+j):=by
      unfold E1;rw [show (l.drop 146).length / 8=y.toNat by rw [List.length_drop];omega]
      exact List.map_congr_left fun i hi=>Ann
     rw [e1,e2];rfl
    ·rw [Az (by simp [c3])]
     simp (disch:=first|omega|exact c2) only [Bx,D6,Po hx,Po hy,wx,wy,wyu,w1,w2,w3];rw [Az c3];rfl
 ·rw [Az (by simp [h2])]
  simp (disch:=omega) only [Bx];rfl
end
theorem Ai8 (seed leaf m:Int):Age leaf m (Jc seed leaf m)=Ij seed leaf:=by
 unfold Age Ij NF
 congr 1
 refine List.map_congr_left fun i hi=>?_
 have hi:=List.mem_range.1 hi;have hb:=Zg m i;unfold Acy Zu
 have e:(Jc seed leaf m).getD i 0=Wz seed leaf m i:=by
  unfold Jc;rw [List.getD_eq_getElem?_getD,List.getElem?_map,List.getElem?_range hi];rfl
 rw [e];unfold Wz;have:=YN leaf i (dg m i).toNat (15-dg m i).toNat 0 (IH seed leaf i);rw [show (dg m i).toNat+(15-dg m i).toNat=15 by omega,show (0:Int)+((dg m i).toNat:Nat)=dg m i by omega] at this
 exact this.symm
theorem Aig:∀n:Fin 16,∀k:Fin 4,
  (Mj .i64 (Ei .i64 (n.val:Int) k.val) 1=0∧Ei .i64 (n.val:Int) k.val=2*Ei .i64 (n.val:Int) ((k.val+1:Nat):Int)∧Fy n.val k.val=2*Ei .i64 (n.val:Int) ((k.val+1:Nat):Int)+1) ∨
  (Mj .i64 (Ei .i64 (n.val:Int) k.val) 1≠0∧Ei .i64 (n.val:Int) k.val=2*Ei .i64 (n.val:Int) ((k.val+1:Nat):Int)+1∧Fy n.val k.val=2*Ei .i64 (n.val:Int) ((k.val+1:Nat):Int)):=by decide
theorem OZ (seed:Int){leaf:Int}(h0:0<=leaf)(h1:leaf<16):∀(k i:Nat),i+k<=4 ->
  CL leaf i (Cf seed i (Ei .i64 leaf i)) ((List.range' i k).map fun j=>Cf seed j (Fy leaf j))=Cf seed (i+k) (Ei .i64 leaf ((i+k:Nat):Int))
 |0,i,_=>rfl
 |k+1,i,h=>by
  rw [List.range'_succ,Zzw,JF];obtain ⟨n,rfl⟩:=Int.eq_ofNat_of_zero_le h0;have ih:=OZ seed h0 h1 k (i+1) (by omega)
  rw [show i+(k+1)=i+1+k by omega,←ih]
  congr 1
  rcases Aig ⟨n,by omega⟩ ⟨i,by omega⟩ with ⟨a,b,c⟩|⟨a,b,c⟩
  ·simp only at a b c;rw [Bv a,b,c];rfl
  ·simp only at a b c;rw [Az a,b,c];rfl
theorem Aks {seed h leaf m:Int}(hh:C4 h=false)(ho:Hp leaf h=false):Aaf (My seed h) m ⟨leaf,Jc seed leaf m,(List.range h.toNat).map fun k=>Cf seed k (Fy leaf k)⟩=0:=by
 have hb:=H7 hh;have hl:=Ado hb.1 hb.2 ho;have h16:=Arm hb.1 hb.2
 have eP:My seed h=⟨h,Cf seed h.toNat 0⟩:=by
  unfold My;rw [hh];rfl
 rw [eP];unfold Aaf;simp only;rw [Az (show ¬C4 h=true by rw [hh];simp),Az (show ¬Hp leaf h=true by rw [ho];simp),Az (show ¬(Jc seed leaf m).length≠18 by simp [Jc]),Az (by rw [List.length_map,List.length_range];omega),Ai8]
 have c:=OZ seed hl.1 (show leaf<16 by omega) h.toNat 0 (by omega)
 have e0:Ei .i64 leaf ((0:Nat):Int)=leaf:=by
  show leaf.fdiv (2 ^ (min ((0:Nat):Int).toNat IntKind.i64.bits))=leaf;have:(2:Int) ^ (min ((0:Nat):Int).toNat IntKind.i64.bits)=1:=by decide
  rw [this,Int.fdiv_one]
 have eh:Ei .i64 leaf ((0+h.toNat:Nat):Int)=0:=by
  have H:∀n:Fin 16,∀k:Fin 5,(n.val:Int)<2 ^ k.val->Ei .i64 (n.val:Int) ((0+k.val:Nat):Int)=0:=by decide
  obtain ⟨n,hn⟩:=Int.eq_ofNat_of_zero_le hl.1;have:=H ⟨n,by omega⟩ ⟨h.toNat,by omega⟩ (by simp only;rw [←hn];exact hl.2)
  rw [hn];exact this
 rw [e0,eh,Ck] at c;have er:List.range' 0 h.toNat=List.range h.toNat:=List.range_eq_range'.symm;rw [er] at c;have el:Cf seed 0 leaf=Ij seed leaf:=rfl;rw [el] at c;rw [c];unfold okE;rw [Bv rfl]
end
section
open Go.IntKind (wrap)
set_option maxRecDepth 100000
abbrev IU:FuncId:=68
theorem Aa1 (fu d:Nat)(a0:ByteArray):Ad C0 Tryz.prog fu (d+1) IU [.sc (.string a0)]=(fun (call:Ah)=>some (Aw.mk [.own 3 1 [.sc (.int .i64 4),.sc (.int .u64 0),.sc (.string a0)]] [])) (Ad C0 Tryz.prog fu d):=by kernel_rfl
abbrev JS:FuncId:=69
theorem Aa9 (fu d:Nat)(a0:Int):Ad C0 Tryz.prog fu (d+1) JS [.sc (.int .u64 a0)]=(fun (call:Ah)=>some (Aw.mk [.own 3 1 [.sc (.int .i64 1),.sc (.int .u64 a0),.sc (.string (ByteArray.mk #[]))]] [])) (Ad C0 Tryz.prog fu d):=by kernel_rfl
abbrev EH:FuncId:=70
theorem XG (fu d a0n:Nat)(a0:List PV):Ad C0 Tryz.prog fu (d+1) EH [.lst false 1 a0n a0]=(fun (call:Ah)=>Ap (decide (a0.length=a0n))<|Ev (bytesOf a0) fun x1=>some (Aw.mk [.own 3 1 [.sc (.int .i64 3),.sc (.int .u64 0),.sc (.string (ByteArray.mk (List.toArray x1)))]] [])) (Ad C0 Tryz.prog fu d):=by kernel_rfl
abbrev IQ:FuncId:=71
theorem ZE (fu d:Nat)(a0:Bool):Ad C0 Tryz.prog fu (d+1) IQ [.sc (.bool a0)]=(fun (call:Ah)=>A3 (a0) (some (Aw.mk [.own 3 1 [.sc (.int .i64 7),.sc (.int .u64 1),.sc (.string (ByteArray.mk #[]))]] [])) (some (Aw.mk [.own 3 1 [.sc (.int .i64 7),.sc (.int .u64 0),.sc (.string (ByteArray.mk #[]))]] []))) (Ad C0 Tryz.prog fu d):=by kernel_rfl
abbrev FC:FuncId:=127
theorem XE (fu d:Nat)(a0:Int):Ad C0 Tryz.prog fu (d+1) FC [.sc (.int .u64 a0)]=(fun (call:Ah)=>A3 (decide (a0<24)) (some (Aw.mk [.sc (.int .i64 0)] [])) (A3 (decide (a0<256)) (some (Aw.mk [.sc (.int .i64 1)] [])) (A3 (decide (a0<65536)) (some (Aw.mk [.sc (.int .i64 2)] [])) (A3 (decide (a0<4294967296)) (some (Aw.mk [.sc (.int .i64 4)] [])) (some (Aw.mk [.sc (.int .i64 8)] [])))))) (Ad C0 Tryz.prog fu d):=by kernel_rfl
abbrev AK:FuncId:=131
theorem RL (fu d:Nat)(a0_0 a0_1:Int)(a0_2:ByteArray):Ad C0 Tryz.prog fu (d+1) AK [.agg [.sc (.int .i64 a0_0),.sc (.int .u64 a0_1),.sc (.string a0_2)]]=(fun (call:Ah)=>A3 (a0_0==3) (some (Aw.mk [.sc (.bool (a0_1==0))] [])) (A3 (a0_0==4) (some (Aw.mk [.sc (.bool (a0_1==0))] [])) (A3 (a0_0==8) (A3 (a0_1==0) (some (Aw.mk [.sc (.bool (Array.toList (ByteArray.data a0_2)==Array.toList (ByteArray.data (ByteArray.mk #[]))))] [])) (some (Aw.mk [.sc (.bool false)] []))) (A3 (a0_0==7) (A3 (decide (a0_1<=1)) (some (Aw.mk [.sc (.bool (Array.toList (ByteArray.data a0_2)==Array.toList (ByteArray.data (ByteArray.mk #[]))))] [])) (some (Aw.mk [.sc (.bool false)] []))) (some (Aw.mk [.sc (.bool (Array.toList (ByteArray.data a0_2)==Array.toList (ByteArray.data (ByteArray.mk #[]))))] [])))))) (Ad C0 Tryz.prog fu d):=by kernel_rfl
abbrev Xg:FuncId:=129
theorem NT (fu d a0n:Nat)(a0:List PV)(a1n:Nat)(a1:List PV):Ad C0 Tryz.prog fu (d+1) Xg [.lst false 1 a0n a0,.lst false 1 a1n a1]=(fun (call:Ah)=>A3 ((↑a0n:Int) != (↑a1n:Int)) (some (Aw.mk [.sc (.bool (decide ((↑a0n:Int)<(↑a1n:Int))))] [])) (Ag (call 133 [.lst false 1 a0n a0,.lst false 1 a1n a1]) fun x1 x2=>Ac x2<|Ab x1 fun x3 x4=>Ae .i64 x3 fun x5=>Ac x4<|some (Aw.mk [.sc (.bool (decide (x5<0)))] []))) (Ad C0 Tryz.prog fu d):=by kernel_rfl
abbrev Lf:FuncId:=119
noncomputable def Eb (fu:Nat)(call:Ah)(a0n:Nat)(a0:List PV)(a1 a2:Int)(nn y0:Nat)(y1 y2:Int)(y3:List PV):Option Aw:=C6 CB Tryz.prog fu call 119 Tryz.f119 (Cb Tryz.f119) [.own 1 a0n a0,.sc (.int .u8 a1),.sc (.int .u64 a2)] [.r,.r,.r,.r,.r,.l,.r,.l] nn ⟨lk [(0,(.view 0 1 0 y0)),(2,(.sc (.int .u64 y1))),(9,(.sc (.int .i64 y2)))],Cj [(0,(.ar false y3))]⟩
theorem Nc (fu:Nat)(call:Ah)(a0n:Nat)(a0:List PV)(a1 a2:Int)(nn y0:Nat)(y1 y2:Int)(y3:List PV):Eb fu call a0n a0 a1 a2 (nn+1) y0 y1 y2 y3=(A3 (decide (y2>=0)) (Aa (wrap .i64 (8*y2)) fun Ew=>Ap (decide (0<=Ew))<|Aa (Ei .u64 y1 Ew) fun Ej=>Aa (wrap .u8 Ej) fun Fb=>Ap (decide (y0*1<=y3.length)&&true&&decide ((y0+1)*1<=1099511627776)&&decide (y0+1<=1099511627776))<|Aa (y0+1) fun G9=>Aa (List.take (y0*1) y3++[.sc (.int .u8 Fb)]) fun Cp=>Aa (wrap .i64 (y2-1)) fun Hb=>Eb fu call a0n a0 a1 a2 (nn) G9 (y1) Hb Cp) (Ap (decide (y0*1<=y3.length))<|some (Aw.mk [.own 1 y0 (List.take (y0*1) y3)] []))):=by kernel_rfl
theorem GA (fu d a0n:Nat)(a0:List PV)(a1 a2:Int):Ad C0 Tryz.prog fu (d+1) Lf [.own 1 a0n a0,.sc (.int .u8 a1),.sc (.int .u64 a2)]=(fun (call:Ah)=>Aa (Fp .u8 a1 5) fun x1=>A3 (decide (a2<24)) (Aa (wrap .u8 a2) fun x2=>Aa (wrap .u8 (x1+x2)) fun x3=>Ap (decide (a0n*1<=a0.length)&&true&&decide ((a0n+1)*1<=1099511627776)&&decide (a0n+1<=1099511627776))<|Aa (a0n+1) fun x4=>Aa (List.take (a0n*1) a0++[.sc (.int .u8 x3)]) fun x5=>Ap (decide (x4*1<=x5.length))<|some (Aw.mk [.own 1 x4 (List.take (x4*1) x5)] [])) (A3 (decide (a2<256)) (Aa (wrap .u8 (x1+24)) fun x6=>Ap (decide (a0n*1<=a0.length)&&true&&decide ((a0n+1)*1<=1099511627776)&&decide (a0n+1<=1099511627776))<|Aa (a0n+1) fun x7=>Aa (List.take (a0n*1) a0++[.sc (.int .u8 x6)]) fun x8=>Eb fu call a0n a0 a1 a2 (fu) x7 (a2) 0 x8) (A3 (decide (a2<65536)) (Aa (wrap .u8 (x1+25)) fun x9=>Ap (decide (a0n*1<=a0.length)&&true&&decide ((a0n+1)*1<=1099511627776)&&decide (a0n+1<=1099511627776))<|Aa (a0n+1) fun Cm=>Aa (List.take (a0n*1) a0++[.sc (.int .u8 x9)]) fun Bq=>Eb fu call a0n a0 a1 a2 (fu) Cm (a2) 1 Bq) (A3 (decide (a2<4294967296)) (Aa (wrap .u8 (x1+26)) fun Dm=>Ap (decide (a0n*1<=a0.length)&&true&&decide ((a0n+1)*1<=1099511627776)&&decide (a0n+1<=1099511627776))<|Aa (a0n+1) fun Ds=>Aa (List.take (a0n*1) a0++[.sc (.int .u8 Dm)]) fun Cu=>Eb fu call a0n a0 a1 a2 (fu) Ds (a2) 3 Cu) (Aa (wrap .u8 (x1+27)) fun Dw=>Ap (decide (a0n*1<=a0.length)&&true&&decide ((a0n+1)*1<=1099511627776)&&decide (a0n+1<=1099511627776))<|Aa (a0n+1) fun Ea=>Aa (List.take (a0n*1) a0++[.sc (.int .u8 Dw)]) fun Ef=>Eb fu call a0n a0 a1 a2 (fu) Ea (a2) 7 Ef))))) (Ad C0 Tryz.prog fu d):=by kernel_rfl
abbrev Rq:FuncId:=102
theorem EW (fu d a0n:Nat)(a0:List PV)(a1_0 a1_1:Int)(a1_2:ByteArray):Ad C0 Tryz.prog fu (d+1) Rq [.own 1 a0n a0,.agg [.sc (.int .i64 a1_0),.sc (.int .u64 a1_1),.sc (.string a1_2)]]=(fun (call:Ah)=>A3 (a1_0==7) (Aa (wrap .u8 a1_1) fun x1=>Aa (wrap .u8 (244+x1)) fun x2=>Ap (decide (a0n*1<=a0.length)&&true&&decide ((a0n+1)*1<=1099511627776)&&decide (a0n+1<=1099511627776))<|Aa (a0n+1) fun x3=>Aa (List.take (a0n*1) a0++[.sc (.int .u8 x2)]) fun x4=>Ap (decide (x3*1<=x4.length))<|some (Aw.mk [.own 1 x3 (List.take (x3*1) x4)] [])) (A3 (a1_0==8) (Ap (decide (a0n*1<=a0.length)&&true&&decide ((a0n+1)*1<=1099511627776)&&decide (a0n+1<=1099511627776))<|Aa (a0n+1) fun x5=>Aa (List.take (a0n*1) a0++[.sc (.int .u8 246)]) fun x6=>Ap (decide (x5*1<=x6.length))<|some (Aw.mk [.own 1 x5 (List.take (x5*1) x6)] [])) (A3 (a1_0==3) (Aa (wrap .i64 (a1_0-1)) fun x7=>Aa (wrap .u8 x7) fun x8=>Aa (wrap .u64 (↑(ByteArray.size a1_2):Int)) fun x9=>Ap (decide (a0n*1<=a0.length))<|Ag (call 119 [.own 1 a0n (List.take (a0n*1) a0),.sc (.int .u8 x8),.sc (.int .u64 x9)]) fun Cm Bq=>Ab Cm fun Dm Ds=>D4 1 Dm fun Cu Dw=>Ac Ds<|Ac Bq<|Ap (decide (Cu*1<=Dw.length)&&decide (List.length (Dh a1_2)=ByteArray.size a1_2*1)&&decide ((Cu+ByteArray.size a1_2)*1<=1099511627776)&&decide (Cu+ByteArray.size a1_2<=1099511627776))<|Aa (Cu+ByteArray.size a1_2) fun Ea=>Aa (List.take (Cu*1) Dw++Dh a1_2) fun Ef=>Ap (decide (Ea*1<=Ef.length))<|some (Aw.mk [.own 1 Ea (List.take (Ea*1) Ef)] [])) (A3 (a1_0==4) (Aa (wrap .i64 (a1_0-1)) fun Ew=>Aa (wrap .u8 Ew) fun Ej=>Aa (wrap .u64 (↑(ByteArray.size a1_2):Int)) fun Fb=>Ap (decide (a0n*1<=a0.length))<|Ag (call 119 [.own 1 a0n (List.take (a0n*1) a0),.sc (.int .u8 Ej),.sc (.int .u64 Fb)]) fun G9 Cp=>Ab G9 fun Hb Dx=>D4 1 Hb fun B4 Ft=>Ac Dx<|Ac Cp<|Ap (decide (B4*1<=Ft.length)&&decide (List.length (Dh a1_2)=ByteArray.size a1_2*1)&&decide ((B4+ByteArray.size a1_2)*1<=1099511627776)&&decide (B4+ByteArray.size a1_2<=1099511627776))<|Aa (B4+ByteArray.size a1_2) fun Hn=>Aa (List.take (B4*1) Ft++Dh a1_2) fun Bk=>Ap (decide (Hn*1<=Bk.length))<|some (Aw.mk [.own 1 Hn (List.take (Hn*1) Bk)] [])) (Aa (wrap .i64 (a1_0-1)) fun Ci=>Aa (wrap .u8 Ci) fun I1=>Ap (decide (a0n*1<=a0.length))<|Ag (call 119 [.own 1 a0n (List.take (a0n*1) a0),.sc (.int .u8 I1),.sc (.int .u64 a1_1)]) fun Jd J9=>Ab Jd fun Kc Lx=>D4 1 Kc fun Ob Pt=>Ac Lx<|Ac J9<|Ap (decide (Ob*1<=Pt.length))<|some (Aw.mk [.own 1 Ob (List.take (Ob*1) Pt)] [])))))) (Ad C0 Tryz.prog fu d):=by kernel_rfl
abbrev Tk:FuncId:=90
theorem GM (fu d a0_0n:Nat)(a0_0:List PV)(a0_1:Int):Ad C0 Tryz.prog fu (d+1) Tk [.pbox [.own 3 a0_0n a0_0,.sc (.int .i64 a0_1)]]=(fun (call:Ah)=>A3 (decide (a0_1>0)) (Ap (decide (a0_0n*3<=a0_0.length))<|some (Aw.mk [.sc (.bool ((↑a0_0n:Int)==0))] [[.own 3 a0_0n (List.take (a0_0n*3) a0_0),.sc (.int .i64 a0_1)]])) (Ap (decide (a0_0n*3<=a0_0.length))<|some (Aw.mk [.sc (.bool false)] [[.own 3 a0_0n (List.take (a0_0n*3) a0_0),.sc (.int .i64 a0_1)]]))) (Ad C0 Tryz.prog fu d):=by kernel_rfl
abbrev Rw:FuncId:=128
theorem GF (fu d a0_0n:Nat)(a0_0:List PV)(a0_1:Int):Ad C0 Tryz.prog fu (d+1) Rw [.pbox [.own 3 a0_0n a0_0,.sc (.int .i64 a0_1)]]=(fun (call:Ah)=>A3 (decide ((↑a0_0n:Int)>0)) (Aa (wrap .i64 ((↑a0_0n:Int)-1)) fun x1=>Ap (decide (0<=x1)&&decide (x1<(↑a0_0n:Int)))<|Br (List.getD a0_0 (0+Int.toNat x1*3+0) .top) fun x2=>A3 x2 (Aa (wrap .i64 ((↑a0_0n:Int)-1)) fun x3=>Ap (decide (0<=x3)&&decide (x3<(↑a0_0n:Int)))<|Ae .i64 (List.getD a0_0 (0+Int.toNat x3*3+1) .top) fun x4=>Aa (Int.tmod x4 2) fun x5=>Ap (decide (a0_0n*3<=a0_0.length))<|some (Aw.mk [.sc (.bool (x5==0))] [[.own 3 a0_0n (List.take (a0_0n*3) a0_0),.sc (.int .i64 a0_1)]])) (Ap (decide (a0_0n*3<=a0_0.length))<|some (Aw.mk [.sc (.bool false)] [[.own 3 a0_0n (List.take (a0_0n*3) a0_0),.sc (.int .i64 a0_1)]]))) (Ap (decide (a0_0n*3<=a0_0.length))<|some (Aw.mk [.sc (.bool false)] [[.own 3 a0_0n (List.take (a0_0n*3) a0_0),.sc (.int .i64 a0_1)]]))) (Ad C0 Tryz.prog fu d):=by kernel_rfl
abbrev R2:FuncId:=114
theorem FL (fu d a0_0n:Nat)(a0_0:List PV)(a0_1 a1:Int):Ad C0 Tryz.prog fu (d+1) R2 [.pbox [.own 3 a0_0n a0_0,.sc (.int .i64 a0_1)],.sc (.int .i64 a1)]=(fun (call:Ah)=>A3 (decide (a0_1>=512)) (Ap (decide (a0_0n*3<=a0_0.length))<|some (Aw.mk [.sc (.int .i64 8)] [[.own 3 a0_0n (List.take (a0_0n*3) a0_0),.sc (.int .i64 a0_1)]])) (A3 (decide (a1<1)) (Ap (decide (a0_0n*3<=a0_0.length))<|some (Aw.mk [.sc (.int .i64 3)] [[.own 3 a0_0n (List.take (a0_0n*3) a0_0),.sc (.int .i64 a0_1)]])) (A3 (decide (a1>8)) (Ap (decide (a0_0n*3<=a0_0.length))<|some (Aw.mk [.sc (.int .i64 3)] [[.own 3 a0_0n (List.take (a0_0n*3) a0_0),.sc (.int .i64 a0_1)]])) (Ap (decide (a0_0n*3<=a0_0.length))<|Ag (call 128 [.pbox [.own 3 a0_0n (List.take (a0_0n*3) a0_0),.sc (.int .i64 a0_1)]]) fun x1 x2=>Ab x1 fun x3 x4=>Br x3 fun x5=>Ac x4<|Ab x2 fun x6 x7=>Ab x6 fun x8 x9=>D4 3 x8 fun Cm Bq=>Ab x9 fun Dm Ds=>Ae .i64 Dm fun Cu=>Ac Ds<|Ac x7<|A3 x5 (A3 (a1 != 1) (A3 (a1 != 2) (A3 (a1 != 4) (Ap (decide (Cm*3<=Bq.length))<|some (Aw.mk [.sc (.int .i64 3)] [[.own 3 Cm (List.take (Cm*3) Bq),.sc (.int .i64 Cu)]])) (A3 (decide ((↑Cm:Int)>8)) (Ap (decide (Cm*3<=Bq.length))<|some (Aw.mk [.sc (.int .i64 5)] [[.own 3 Cm (List.take (Cm*3) Bq),.sc (.int .i64 Cu)]])) (Ap (decide (Cm*3<=Bq.length))<|some (Aw.mk [.sc (.int .i64 0)] [[.own 3 Cm (List.take (Cm*3) Bq),.sc (.int .i64 Cu)]])))) (A3 (decide ((↑Cm:Int)>8)) (Ap (decide (Cm*3<=Bq.length))<|some (Aw.mk [.sc (.int .i64 5)] [[.own 3 Cm (List.take (Cm*3) Bq),.sc (.int .i64 Cu)]])) (Ap (decide (Cm*3<=Bq.length))<|some (Aw.mk [.sc (.int .i64 0)] [[.own 3 Cm (List.take (Cm*3) Bq),.sc (.int .i64 Cu)]])))) (A3 (decide ((↑Cm:Int)>8)) (Ap (decide (Cm*3<=Bq.length))<|some (Aw.mk [.sc (.int .i64 5)] [[.own 3 Cm (List.take (Cm*3) Bq),.sc (.int .i64 Cu)]])) (Ap (decide (Cm*3<=Bq.length))<|some (Aw.mk [.sc (.int .i64 0)] [[.own 3 Cm (List.take (Cm*3) Bq),.sc (.int .i64 Cu)]])))) (A3 (decide ((↑Cm:Int)>8)) (Ap (decide (Cm*3<=Bq.length))<|some (Aw.mk [.sc (.int .i64 5)] [[.own 3 Cm (List.take (Cm*3) Bq),.sc (.int .i64 Cu)]])) (Ap (decide (Cm*3<=Bq.length))<|some (Aw.mk [.sc (.int .i64 0)] [[.own 3 Cm (List.take (Cm*3) Bq),.sc (.int .i64 Cu)]]))))))) (Ad C0 Tryz.prog fu d):=by kernel_rfl
abbrev Tx:FuncId:=130
noncomputable def Bf (fu:Nat)(call:Ah)(a0_0n:Nat)(a0_0:List PV)(a0_1 a1_0 a1_1:Int)(a1_2:ByteArray)(nn:Nat)(y0:Int)(y1:Nat)(y2:Int)(y3:List PV):Option Aw:=C6 CB Tryz.prog fu call 130 Tryz.f130 (Cb Tryz.f130) [.pbox [.own 3 a0_0n a0_0,.sc (.int .i64 a0_1)],.agg [.sc (.int .i64 a1_0),.sc (.int .u64 a1_1),.sc (.string a1_2)]] [.r,.r,.r,.r,.r,.r,.l] nn ⟨lk [(0,(.ptr 212000 0)),(5,(.sc (.int .i64 y0)))],Cj [(212000,(.st [(.view 212106 3 0 y1),(.sc (.int .i64 y2))])),(212106,(.ar false y3))]⟩
theorem O8 (fu:Nat)(call:Ah)(a0_0n:Nat)(a0_0:List PV)(a0_1 a1_0 a1_1:Int)(a1_2:ByteArray)(nn:Nat)(y0:Int)(y1:Nat)(y2:Int)(y3:List PV):Bf fu call a0_0n a0_0 a0_1 a1_0 a1_1 a1_2 (nn+1) y0 y1 y2 y3=(A3 (decide (y0>0)) (Aa (wrap .i64 (y0-1)) fun Pt=>Ap (decide (0<=Pt)&&decide (Pt<(↑y1:Int)))<|Ae .i64 (List.getD y3 (0+Int.toNat Pt*3+1) .top) fun Q5=>A3 (Q5==0) (Aa (wrap .i64 (y0-1)) fun Gn=>Ap (decide (0<=Gn))<|Ap (decide (Int.toNat Gn<=y1))<|Aa (Int.toNat Gn-0) fun Ie=>Aa (wrap .i64 (y0-1)) fun Sv=>Bf fu call a0_0n a0_0 a0_1 a1_0 a1_1 a1_2 (nn) Sv Ie (y2) (y3)) (Ap (decide (y1*3<=y3.length))<|some (Aw.mk [] [[.own 3 y1 (List.take (y1*3) y3),.sc (.int .i64 y2)]]))) (Ap (decide (y1*3<=y3.length))<|some (Aw.mk [] [[.own 3 y1 (List.take (y1*3) y3),.sc (.int .i64 y2)]]))):=by kernel_rfl
theorem HL (fu d a0_0n:Nat)(a0_0:List PV)(a0_1 a1_0 a1_1:Int)(a1_2:ByteArray):Ad C0 Tryz.prog fu (d+1) Tx [.pbox [.own 3 a0_0n a0_0,.sc (.int .i64 a0_1)],.agg [.sc (.int .i64 a1_0),.sc (.int .u64 a1_1),.sc (.string a1_2)]]=(fun (call:Ah)=>Aa (wrap .i64 (a0_1+1)) fun x1=>A3 (decide ((↑a0_0n:Int)>0)) (Aa (wrap .i64 ((↑a0_0n:Int)-1)) fun x2=>Ap (decide (0<=x2)&&decide (x2<(↑a0_0n:Int)))<|Ae .i64 (List.getD a0_0 (0+Int.toNat x2*3+1) .top) fun x3=>Aa (wrap .i64 (x3-1)) fun x4=>Ap (decide (0<=x2)&&decide (x2<(↑a0_0n:Int)))<|Ap (decide (0+Int.toNat x2*3+1+1<=a0_0.length))<|Aa (Bo a0_0 [.sc (.int .i64 x4)] (0+Int.toNat x2*3+1)) fun x5=>A3 (a1_0==5) (A3 (decide (a1_1>0)) (Aa (wrap .i64 a1_1) fun x6=>Ap (decide (a0_0n*3<=x5.length)&&true&&decide ((a0_0n+1)*40<=1099511627776)&&decide (a0_0n+1<=1099511627776))<|Aa (a0_0n+1) fun x7=>Aa (List.take (a0_0n*3) x5++[.sc (.bool false),.sc (.int .i64 x6),.lst false 1 0 []]) fun x8=>A3 (a1_0==6) (A3 (decide (a1_1>0)) (Aa (wrap .i64 a1_1) fun x9=>Aa (wrap .i64 (2*x9)) fun Cm=>Ap (decide (x7*3<=x8.length)&&true&&decide ((x7+1)*40<=1099511627776)&&decide (x7+1<=1099511627776))<|Aa (x7+1) fun Bq=>Aa (List.take (x7*3) x8++[.sc (.bool true),.sc (.int .i64 Cm),.lst false 1 0 []]) fun Dm=>Bf fu call a0_0n a0_0 a0_1 a1_0 a1_1 a1_2 (fu) ((↑Bq:Int)) Bq x1 Dm) (Bf fu call a0_0n a0_0 a0_1 a1_0 a1_1 a1_2 (fu) ((↑x7:Int)) x7 x1 x8)) (Bf fu call a0_0n a0_0 a0_1 a1_0 a1_1 a1_2 (fu) ((↑x7:Int)) x7 x1 x8)) (A3 (a1_0==6) (A3 (decide (a1_1>0)) (Aa (wrap .i64 a1_1) fun Ds=>Aa (wrap .i64 (2*Ds)) fun Cu=>Ap (decide (a0_0n*3<=x5.length)&&true&&decide ((a0_0n+1)*40<=1099511627776)&&decide (a0_0n+1<=1099511627776))<|Aa (a0_0n+1) fun Dw=>Aa (List.take (a0_0n*3) x5++[.sc (.bool true),.sc (.int .i64 Cu),.lst false 1 0 []]) fun Ea=>Bf fu call a0_0n a0_0 a0_1 a1_0 a1_1 a1_2 (fu) ((↑Dw:Int)) Dw x1 Ea) (Bf fu call a0_0n a0_0 a0_1 a1_0 a1_1 a1_2 (fu) ((↑a0_0n:Int)) (a0_0n) x1 x5)) (Bf fu call a0_0n a0_0 a0_1 a1_0 a1_1 a1_2 (fu) ((↑a0_0n:Int)) (a0_0n) x1 x5))) (A3 (a1_0==6) (A3 (decide (a1_1>0)) (Aa (wrap .i64 a1_1) fun Ef=>Aa (wrap .i64 (2*Ef)) fun Ew=>Ap (decide (a0_0n*3<=x5.length)&&true&&decide ((a0_0n+1)*40<=1099511627776)&&decide (a0_0n+1<=1099511627776))<|Aa (a0_0n+1) fun Ej=>Aa (List.take (a0_0n*3) x5++[.sc (.bool true),.sc (.int .i64 Ew),.lst false 1 0 []]) fun Fb=>Bf fu call a0_0n a0_0 a0_1 a1_0 a1_1 a1_2 (fu) ((↑Ej:Int)) Ej x1 Fb) (Bf fu call a0_0n a0_0 a0_1 a1_0 a1_1 a1_2 (fu) ((↑a0_0n:Int)) (a0_0n) x1 x5)) (Bf fu call a0_0n a0_0 a0_1 a1_0 a1_1 a1_2 (fu) ((↑a0_0n:Int)) (a0_0n) x1 x5))) (A3 (a1_0==5) (A3 (decide (a1_1>0)) (Aa (wrap .i64 a1_1) fun G9=>Ap (decide (a0_0n*3<=a0_0.length)&&true&&decide ((a0_0n+1)*40<=1099511627776)&&decide (a0_0n+1<=1099511627776))<|Aa (a0_0n+1) fun Cp=>Aa (List.take (a0_0n*3) a0_0++[.sc (.bool false),.sc (.int .i64 G9),.lst false 1 0 []]) fun Hb=>A3 (a1_0==6) (A3 (decide (a1_1>0)) (Aa (wrap .i64 a1_1) fun Dx=>Aa (wrap .i64 (2*Dx)) fun B4=>Ap (decide (Cp*3<=Hb.length)&&true&&decide ((Cp+1)*40<=1099511627776)&&decide (Cp+1<=1099511627776))<|Aa (Cp+1) fun Ft=>Aa (List.take (Cp*3) Hb++[.sc (.bool true),.sc (.int .i64 B4),.lst false 1 0 []]) fun Hn=>Bf fu call a0_0n a0_0 a0_1 a1_0 a1_1 a1_2 (fu) ((↑Ft:Int)) Ft x1 Hn) (Bf fu call a0_0n a0_0 a0_1 a1_0 a1_1 a1_2 (fu) ((↑Cp:Int)) Cp x1 Hb)) (Bf fu call a0_0n a0_0 a0_1 a1_0 a1_1 a1_2 (fu) ((↑Cp:Int)) Cp x1 Hb)) (A3 (a1_0==6) (A3 (decide (a1_1>0)) (Aa (wrap .i64 a1_1) fun Bk=>Aa (wrap .i64 (2*Bk)) fun Ci=>Ap (decide (a0_0n*3<=a0_0.length)&&true&&decide ((a0_0n+1)*40<=1099511627776)&&decide (a0_0n+1<=1099511627776))<|Aa (a0_0n+1) fun I1=>Aa (List.take (a0_0n*3) a0_0++[.sc (.bool true),.sc (.int .i64 Ci),.lst false 1 0 []]) fun Jd=>Bf fu call a0_0n a0_0 a0_1 a1_0 a1_1 a1_2 (fu) ((↑I1:Int)) I1 x1 Jd) (Bf fu call a0_0n a0_0 a0_1 a1_0 a1_1 a1_2 (fu) ((↑a0_0n:Int)) (a0_0n) x1 (a0_0))) (Bf fu call a0_0n a0_0 a0_1 a1_0 a1_1 a1_2 (fu) ((↑a0_0n:Int)) (a0_0n) x1 (a0_0)))) (A3 (a1_0==6) (A3 (decide (a1_1>0)) (Aa (wrap .i64 a1_1) fun J9=>Aa (wrap .i64 (2*J9)) fun Kc=>Ap (decide (a0_0n*3<=a0_0.length)&&true&&decide ((a0_0n+1)*40<=1099511627776)&&decide (a0_0n+1<=1099511627776))<|Aa (a0_0n+1) fun Lx=>Aa (List.take (a0_0n*3) a0_0++[.sc (.bool true),.sc (.int .i64 Kc),.lst false 1 0 []]) fun Ob=>Bf fu call a0_0n a0_0 a0_1 a1_0 a1_1 a1_2 (fu) ((↑Lx:Int)) Lx x1 Ob) (Bf fu call a0_0n a0_0 a0_1 a1_0 a1_1 a1_2 (fu) ((↑a0_0n:Int)) (a0_0n) x1 (a0_0))) (Bf fu call a0_0n a0_0 a0_1 a1_0 a1_1 a1_2 (fu) ((↑a0_0n:Int)) (a0_0n) x1 (a0_0))))) (Ad C0 Tryz.prog fu d):=by kernel_rfl
abbrev Ji:FuncId:=115
theorem Jo (fu d a0_0n:Nat)(a0_0:List PV)(a0_1 a1_0 a1_1:Int)(a1_2:ByteArray):Ad C0 Tryz.prog fu (d+1) Ji [.pbox [.own 3 a0_0n a0_0,.sc (.int .i64 a0_1)],.agg [.sc (.int .i64 a1_0),.sc (.int .u64 a1_1),.sc (.string a1_2)]]=(fun (call:Ah)=>A3 (a1_0==4) (Ag (call 56 [.sc (.string a1_2)]) fun x1 x2=>Ac x2<|Ab x1 fun x3 x4=>Br x3 fun x5=>Ac x4<|A3 (!x5) (Ap (decide (a0_0n*3<=a0_0.length))<|some (Aw.mk [.sc (.int .i64 6)] [[.own 3 a0_0n (List.take (a0_0n*3) a0_0),.sc (.int .i64 a0_1)]])) (Ap (decide (a0_0n*3<=a0_0.length))<|Ag (call 128 [.pbox [.own 3 a0_0n (List.take (a0_0n*3) a0_0),.sc (.int .i64 a0_1)]]) fun x6 x7=>Ab x6 fun x8 x9=>Br x8 fun Cm=>Ac x9<|Ab x7 fun Bq Dm=>Ab Bq fun Ds Cu=>D4 3 Ds fun Dw Ea=>Ab Cu fun Ef Ew=>Ae .i64 Ef fun Ej=>Ac Ew<|Ac Dm<|A3 Cm (Aa (wrap .i64 ((↑Dw:Int)-1)) fun Fb=>Ap (decide (0<=Fb)&&decide (Fb<(↑Dw:Int)))<|Ag (call 102 [.own 1 0 [],.agg [.sc (.int .i64 a1_0),.sc (.int .u64 a1_1),.sc (.string a1_2)]]) fun G9 Cp=>Ab G9 fun Hb Dx=>D4 1 Hb fun B4 Ft=>Ac Dx<|Ac Cp<|Ho 1 (List.getD Ea (0+Int.toNat Fb*3+0+2) .top) fun Hn Bk Ci=>A3 (decide (0<Bk)) (Ho 1 (List.getD Ea (0+Int.toNat Fb*3+0+2) .top) fun I1 Jd J9=>Ap (decide (0+B4*1<=Ft.length))<|Ag (call 129 [.lst false 1 Jd J9,.lst false 1 B4 (List.take (B4*1) (List.drop 0 Ft))]) fun Kc Lx=>Ac Lx<|Ab Kc fun Ob Pt=>Br Ob fun Q5=>Ac Pt<|A3 (!Q5) (Ap (decide (Dw*3<=Ea.length))<|some (Aw.mk [.sc (.int .i64 7)] [[.own 3 Dw (List.take (Dw*3) Ea),.sc (.int .i64 Ej)]])) (Ap (decide (0+Int.toNat Fb*3+0+2+1<=Ea.length))<|Ap (decide (0+B4*1<=Ft.length))<|Aa (Bo Ea [.lst false 1 B4 (List.take (B4*1) (List.drop 0 Ft))] (0+Int.toNat Fb*3+0+2)) fun Gn=>Ap (decide (Dw*3<=Gn.length))<|Ag (call 130 [.pbox [.own 3 Dw (List.take (Dw*3) Gn),.sc (.int .i64 Ej)],.agg [.sc (.int .i64 a1_0),.sc (.int .u64 a1_1),.sc (.string a1_2)]]) fun Ie Sv=>Ac Ie<|Ab Sv fun Wg Kd=>Ab Wg fun S1 Sd=>D4 3 S1 fun Re Sf=>Ab Sd fun Vp V9=>Ae .i64 Vp fun Q8=>Ac V9<|Ac Kd<|Ap (decide (Re*3<=Sf.length))<|some (Aw.mk [.sc (.int .i64 0)] [[.own 3 Re (List.take (Re*3) Sf),.sc (.int .i64 Q8)]]))) (AO (Ho 1 (List.getD Ea (0+Int.toNat Fb*3+0+2) .top) fun Ud Vo Vx=>Ap (decide (0+B4*1<=Ft.length))<|Ag (call 129 [.lst false 1 Vo Vx,.lst false 1 B4 (List.take (B4*1) (List.drop 0 Ft))]) fun Nn Vt=>Ac Vt<|Ab Nn fun AC Ye=>Br AC fun Up=>Ac Ye<|A3 (!Up) (Ap (decide (Dw*3<=Ea.length))<|some (Aw.mk [.sc (.int .i64 7)] [[.own 3 Dw (List.take (Dw*3) Ea),.sc (.int .i64 Ej)]])) (Ap (decide (0+Int.toNat Fb*3+0+2+1<=Ea.length))<|Ap (decide (0+B4*1<=Ft.length))<|Aa (Bo Ea [.lst false 1 B4 (List.take (B4*1) (List.drop 0 Ft))] (0+Int.toNat Fb*3+0+2)) fun R7=>Ap (decide (Dw*3<=R7.length))<|Ag (call 130 [.pbox [.own 3 Dw (List.take (Dw*3) R7),.sc (.int .i64 Ej)],.agg [.sc (.int .i64 a1_0),.sc (.int .u64 a1_1),.sc (.string a1_2)]]) fun Vl Wu=>Ac Vl<|Ab Wu fun Su Rg=>Ab Su fun Wn Wc=>D4 3 Wn fun Yb Uj=>Ab Wc fun Uc Z9=>Ae .i64 Uc fun Wy=>Ac Z9<|Ac Rg<|Ap (decide (Yb*3<=Uj.length))<|some (Aw.mk [.sc (.int .i64 0)] [[.own 3 Yb (List.take (Yb*3) Uj),.sc (.int .i64 Wy)]]))) (Ap (decide (0+Int.toNat Fb*3+0+2+1<=Ea.length))<|Ap (decide (0+B4*1<=Ft.length))<|Aa (Bo Ea [.lst false 1 B4 (List.take (B4*1) (List.drop 0 Ft))] (0+Int.toNat Fb*3+0+2)) fun Wk=>Ap (decide (Dw*3<=Wk.length))<|Ag (call 130 [.pbox [.own 3 Dw (List.take (Dw*3) Wk),.sc (.int .i64 Ej)],.agg [.sc (.int .i64 a1_0),.sc (.int .u64 a1_1),.sc (.string a1_2)]]) fun Vu Ze=>Ac Vu<|Ab Ze fun AL Yz=>Ab AL fun Z8 BK=>D4 3 Z8 fun Y0 Tw=>Ab BK fun DU GI=>Ae .i64 DU fun PL=>Ac GI<|Ac Yz<|Ap (decide (Y0*3<=Tw.length))<|some (Aw.mk [.sc (.int .i64 0)] [[.own 3 Y0 (List.take (Y0*3) Tw),.sc (.int .i64 PL)]])))) (Ap (decide (Dw*3<=Ea.length))<|Ag (call 130 [.pbox [.own 3 Dw (List.take (Dw*3) Ea),.sc (.int .i64 Ej)],.agg [.sc (.int .i64 a1_0),.sc (.int .u64 a1_1),.sc (.string a1_2)]]) fun MH LD=>Ac MH<|Ab LD fun HV KR=>Ab HV fun ON HO=>D4 3 ON fun Vy BA=>Ab HO fun Y1 QU=>Ae .i64 Y1 fun RY=>Ac QU<|Ac KR<|Ap (decide (Vy*3<=BA.length))<|some (Aw.mk [.sc (.int .i64 0)] [[.own 3 Vy (List.take (Vy*3) BA),.sc (.int .i64 RY)]])))) (Ap (decide (a0_0n*3<=a0_0.length))<|Ag (call 128 [.pbox [.own 3 a0_0n (List.take (a0_0n*3) a0_0),.sc (.int .i64 a0_1)]]) fun RP GG=>Ab RP fun UW VV=>Br UW fun RF=>Ac VV<|Ab GG fun SN CW=>Ab SN fun Us Sq=>D4 3 Us fun Hc I0=>Ab Sq fun We Pe=>Ae .i64 We fun Pd=>Ac Pe<|Ac CW<|A3 RF (Aa (wrap .i64 ((↑Hc:Int)-1)) fun Ja=>Ap (decide (0<=Ja)&&decide (Ja<(↑Hc:Int)))<|Ag (call 102 [.own 1 0 [],.agg [.sc (.int .i64 a1_0),.sc (.int .u64 a1_1),.sc (.string a1_2)]]) fun V7 W9=>Ab V7 fun Xy X4=>D4 1 Xy fun Ik Jp=>Ac X4<|Ac W9<|Ho 1 (List.getD I0 (0+Int.toNat Ja*3+0+2) .top) fun Xs Ys W0=>A3 (decide (0<Ys)) (Ho 1 (List.getD I0 (0+Int.toNat Ja*3+0+2) .top) fun BT Yj Wm=>Ap (decide (0+Ik*1<=Jp.length))<|Ag (call 129 [.lst false 1 Yj Wm,.lst false 1 Ik (List.take (Ik*1) (List.drop 0 Jp))]) fun Wa V8=>Ac V8<|Ab Wa fun Wq Yq=>Br Wq fun Yd=>Ac Yq<|A3 (!Yd) (Ap (decide (Hc*3<=I0.length))<|some (Aw.mk [.sc (.int .i64 7)] [[.own 3 Hc (List.take (Hc*3) I0),.sc (.int .i64 Pd)]])) (Ap (decide (0+Int.toNat Ja*3+0+2+1<=I0.length))<|Ap (decide (0+Ik*1<=Jp.length))<|Aa (Bo I0 [.lst false 1 Ik (List.take (Ik*1) (List.drop 0 Jp))] (0+Int.toNat Ja*3+0+2)) fun Oa=>Ap (decide (Hc*3<=Oa.length))<|Ag (call 130 [.pbox [.own 3 Hc (List.take (Hc*3) Oa),.sc (.int .i64 Pd)],.agg [.sc (.int .i64 a1_0),.sc (.int .u64 a1_1),.sc (.string a1_2)]]) fun Pa Sk=>Ac Pa<|Ab Sk fun Xb Yv=>Ab Xb fun Ko CF=>D4 3 Ko fun Xr Uf=>Ab CF fun AD FY=>Ae .i64 AD fun BC=>Ac FY<|Ac Yv<|Ap (decide (Xr*3<=Uf.length))<|some (Aw.mk [.sc (.int .i64 0)] [[.own 3 Xr (List.take (Xr*3) Uf),.sc (.int .i64 BC)]]))) (AO (Ho 1 (List.getD I0 (0+Int.toNat Ja*3+0+2) .top) fun DQ BX Xu=>Ap (decide (0+Ik*1<=Jp.length))<|Ag (call 129 [.lst false 1 BX Xu,.lst false 1 Ik (List.take (Ik*1) (List.drop 0 Jp))]) fun Zv CV=>Ac CV<|Ab Zv fun CZ BW=>Br CZ fun Xo=>Ac BW<|A3 (!Xo) (Ap (decide (Hc*3<=I0.length))<|some (Aw.mk [.sc (.int .i64 7)] [[.own 3 Hc (List.take (Hc*3) I0),.sc (.int .i64 Pd)]])) (Ap (decide (0+Int.toNat Ja*3+0+2+1<=I0.length))<|Ap (decide (0+Ik*1<=Jp.length))<|Aa (Bo I0 [.lst false 1 Ik (List.take (Ik*1) (List.drop 0 Jp))] (0+Int.toNat Ja*3+0+2)) fun AB=>Ap (decide (Hc*3<=AB.length))<|Ag (call 130 [.pbox [.own 3 Hc (List.take (Hc*3) AB),.sc (.int .i64 Pd)],.agg [.sc (.int .i64 a1_0),.sc (.int .u64 a1_1),.sc (.string a1_2)]]) fun BH Z1=>Ac BH<|Ab Z1 fun CR IA=>Ab CR fun KP HZ=>D4 3 KP fun Wb CO=>Ab HZ fun GL LC=>Ae .i64 GL fun Va=>Ac LC<|Ac IA<|Ap (decide (Wb*3<=CO.length))<|some (Aw.mk [.sc (.int .i64 0)] [[.own 3 Wb (List.take (Wb*3) CO),.sc (.int .i64 Va)]]))) (Ap (decide (0+Int.toNat Ja*3+0+2+1<=I0.length))<|Ap (decide (0+Ik*1<=Jp.length))<|Aa (Bo I0 [.lst false 1 Ik (List.take (Ik*1) (List.drop 0 Jp))] (0+Int.toNat Ja*3+0+2)) fun LF=>Ap (decide (Hc*3<=LF.length))<|Ag (call 130 [.pbox [.own 3 Hc (List.take (Hc*3) LF),.sc (.int .i64 Pd)],.agg [.sc (.int .i64 a1_0),.sc (.int .u64 a1_1),.sc (.string a1_2)]]) fun HJ KW=>Ac HJ<|Ab KW fun PX Gb=>Ab PX fun Oe MJ=>D4 3 Oe fun HK NA=>Ab MJ fun RC HN=>Ae .i64 RC fun KI=>Ac HN<|Ac Gb<|Ap (decide (HK*3<=NA.length))<|some (Aw.mk [.sc (.int .i64 0)] [[.own 3 HK (List.take (HK*3) NA),.sc (.int .i64 KI)]])))) (Ap (decide (Hc*3<=I0.length))<|Ag (call 130 [.pbox [.own 3 Hc (List.take (Hc*3) I0),.sc (.int .i64 Pd)],.agg [.sc (.int .i64 a1_0),.sc (.int .u64 a1_1),.sc (.string a1_2)]]) fun MB KN=>Ac MB<|Ab KN fun MY XJ=>Ab MY fun VP WA=>D4 3 VP fun KQ IE=>Ab WA fun WV QZ=>Ae .i64 WV fun VL=>Ac QZ<|Ac XJ<|Ap (decide (KQ*3<=IE.length))<|some (Aw.mk [.sc (.int .i64 0)] [[.own 3 KQ (List.take (KQ*3) IE),.sc (.int .i64 VL)]])))) (Ad C0 Tryz.prog fu d):=by kernel_rfl
abbrev O2:FuncId:=118
theorem Zx (fu d a0_0n:Nat)(a0_0:List PV)(a0_1 a1_0 a1_1:Int)(a1_2:ByteArray):Ad C0 Tryz.prog fu (d+1) O2 [.pbox [.own 3 a0_0n a0_0,.sc (.int .i64 a0_1)],.agg [.sc (.int .i64 a1_0),.sc (.int .u64 a1_1),.sc (.string a1_2)]]=(fun (call:Ah)=>Ap (decide (a0_0n*3<=a0_0.length))<|Ag (call 90 [.pbox [.own 3 a0_0n (List.take (a0_0n*3) a0_0),.sc (.int .i64 a0_1)]]) fun x1 x2=>Ab x1 fun x3 x4=>Br x3 fun x5=>Ac x4<|Ab x2 fun x6 x7=>Ab x6 fun x8 x9=>D4 3 x8 fun Cm Bq=>Ab x9 fun Dm Ds=>Ae .i64 Dm fun Cu=>Ac Ds<|Ac x7<|A3 x5 (Ap (decide (Cm*3<=Bq.length))<|some (Aw.mk [.sc (.int .i64 2)] [[.own 3 Cm (List.take (Cm*3) Bq),.sc (.int .i64 Cu)]])) (Ap (decide (Cm*3<=Bq.length))<|Ag (call 114 [.pbox [.own 3 Cm (List.take (Cm*3) Bq),.sc (.int .i64 Cu)],.sc (.int .i64 a1_0)]) fun Dw Ea=>Ab Dw fun Ef Ew=>Ae .i64 Ef fun Ej=>Ac Ew<|Ab Ea fun Fb G9=>Ab Fb fun Cp Hb=>D4 3 Cp fun Dx B4=>Ab Hb fun Ft Hn=>Ae .i64 Ft fun Bk=>Ac Hn<|Ac G9<|A3 (Ej != 0) (Ap (decide (Dx*3<=B4.length))<|some (Aw.mk [.sc (.int .i64 Ej)] [[.own 3 Dx (List.take (Dx*3) B4),.sc (.int .i64 Bk)]])) (Ag (call 131 [.agg [.sc (.int .i64 a1_0),.sc (.int .u64 a1_1),.sc (.string a1_2)]]) fun Ci I1=>Ac I1<|Ab Ci fun Jd J9=>Br Jd fun Kc=>Ac J9<|A3 (!Kc) (Ap (decide (Dx*3<=B4.length))<|some (Aw.mk [.sc (.int .i64 4)] [[.own 3 Dx (List.take (Dx*3) B4),.sc (.int .i64 Bk)]])) (A3 (decide ((↑(ByteArray.size a1_2):Int)>1024)) (Ap (decide (Dx*3<=B4.length))<|some (Aw.mk [.sc (.int .i64 8)] [[.own 3 Dx (List.take (Dx*3) B4),.sc (.int .i64 Bk)]])) (A3 (a1_0==5) (A3 (decide (a1_1>512)) (Ap (decide (Dx*3<=B4.length))<|some (Aw.mk [.sc (.int .i64 8)] [[.own 3 Dx (List.take (Dx*3) B4),.sc (.int .i64 Bk)]])) (Ap (decide (Dx*3<=B4.length))<|Ag (call 115 [.pbox [.own 3 Dx (List.take (Dx*3) B4),.sc (.int .i64 Bk)],.agg [.sc (.int .i64 a1_0),.sc (.int .u64 a1_1),.sc (.string a1_2)]]) fun Lx Ob=>Ab Lx fun Pt Q5=>Ae .i64 Pt fun Gn=>Ac Q5<|Ab Ob fun Ie Sv=>Ab Ie fun Wg Kd=>D4 3 Wg fun S1 Sd=>Ab Kd fun Re Sf=>Ae .i64 Re fun Vp=>Ac Sf<|Ac Sv<|Ap (decide (S1*3<=Sd.length))<|some (Aw.mk [.sc (.int .i64 Gn)] [[.own 3 S1 (List.take (S1*3) Sd),.sc (.int .i64 Vp)]]))) (A3 (a1_0==6) (A3 (decide (a1_1>512)) (Ap (decide (Dx*3<=B4.length))<|some (Aw.mk [.sc (.int .i64 8)] [[.own 3 Dx (List.take (Dx*3) B4),.sc (.int .i64 Bk)]])) (Ap (decide (Dx*3<=B4.length))<|Ag (call 115 [.pbox [.own 3 Dx (List.take (Dx*3) B4),.sc (.int .i64 Bk)],.agg [.sc (.int .i64 a1_0),.sc (.int .u64 a1_1),.sc (.string a1_2)]]) fun V9 Q8=>Ab V9 fun Ud Vo=>Ae .i64 Ud fun Vx=>Ac Vo<|Ab Q8 fun Nn Vt=>Ab Nn fun AC Ye=>D4 3 AC fun Up R7=>Ab Ye fun Vl Wu=>Ae .i64 Vl fun Su=>Ac Wu<|Ac Vt<|Ap (decide (Up*3<=R7.length))<|some (Aw.mk [.sc (.int .i64 Vx)] [[.own 3 Up (List.take (Up*3) R7),.sc (.int .i64 Su)]]))) (Ap (decide (Dx*3<=B4.length))<|Ag (call 115 [.pbox [.own 3 Dx (List.take (Dx*3) B4),.sc (.int .i64 Bk)],.agg [.sc (.int .i64 a1_0),.sc (.int .u64 a1_1),.sc (.string a1_2)]]) fun Rg Wn=>Ab Rg fun Wc Yb=>Ae .i64 Wc fun Uj=>Ac Yb<|Ab Wn fun Uc Z9=>Ab Uc fun Wy Wk=>D4 3 Wy fun Vu Ze=>Ab Wk fun AL Yz=>Ae .i64 AL fun Z8=>Ac Yz<|Ac Z9<|Ap (decide (Vu*3<=Ze.length))<|some (Aw.mk [.sc (.int .i64 Uj)] [[.own 3 Vu (List.take (Vu*3) Ze),.sc (.int .i64 Z8)]])))))))) (Ad C0 Tryz.prog fu d):=by kernel_rfl
abbrev Vw:FuncId:=101
noncomputable def Io (fu:Nat)(call:Ah)(a0n:Nat)(a0:List PV)(nn y0:Nat)(y1:List PV)(y2 y3:Int)(y4:Nat)(y5:Int)(y6:List PV):Option Aw:=C6 CB Tryz.prog fu call 101 Tryz.f101 (Cb Tryz.f101) [.lst false 3 a0n a0] [.r,.r,.l,.r,.l] nn ⟨lk [(3,(.ptr 3 0)),(7,(.lst false 3 y0 y1)),(8,(.sc (.int .i64 y2))),(9,(.sc (.int .i64 y3)))],Cj [(3,(.st [(.view 25 3 0 y4),(.sc (.int .i64 y5))])),(25,(.ar false y6))]⟩
theorem Qu (fu:Nat)(call:Ah)(a0n:Nat)(a0:List PV)(nn y0:Nat)(y1:List PV)(y2 y3:Int)(y4:Nat)(y5:Int)(y6:List PV):Io fu call a0n a0 (nn+1) y0 y1 y2 y3 y4 y5 y6=(A3 (decide (y3<y2)) (Ap (decide (0<=y3)&&decide (y3<(↑y0:Int)))<|Ae .i64 (List.getD y1 (Int.toNat y3*3) .top) fun x1=>Ae .u64 (List.getD y1 (Int.toNat y3*3+1) .top) fun x2=>Cr (List.getD y1 (Int.toNat y3*3+1+1) .top) fun x3=>Ap (decide (y4*3<=y6.length))<|Ag (call 118 [.pbox [.own 3 y4 (List.take (y4*3) y6),.sc (.int .i64 y5)],.agg [.sc (.int .i64 x1),.sc (.int .u64 x2),.sc (.string x3)]]) fun x4 x5=>Ab x4 fun x6 x7=>Ae .i64 x6 fun x8=>Ac x7<|Ab x5 fun x9 Cm=>Ab x9 fun Bq Dm=>D4 3 Bq fun Ds Cu=>Ab Dm fun Dw Ea=>Ae .i64 Dw fun Ef=>Ac Ea<|Ac Cm<|A3 (x8 != 0) (some (Aw.mk [.sc (.int .i64 x8)] [])) (Aa (wrap .i64 (y3+1)) fun Ew=>Io fu call a0n a0 (nn) (y0) (y1) (y2) Ew Ds Ef Cu)) (Ap (decide (y4*3<=y6.length))<|Ag (call 90 [.pbox [.own 3 y4 (List.take (y4*3) y6),.sc (.int .i64 y5)]]) fun Ej Fb=>Ab Ej fun G9 Cp=>Br G9 fun Hb=>Ac Cp<|Ab Fb fun Dx B4=>Ab Dx fun Ft Hn=>D4 3 Ft fun Bk Ci=>Ab Hn fun I1 Jd=>Ae .i64 I1 fun J9=>Ac Jd<|Ac B4<|A3 (!Hb) (some (Aw.mk [.sc (.int .i64 1)] [])) (some (Aw.mk [.sc (.int .i64 0)] [])))):=by kernel_rfl
theorem KU (fu d a0n:Nat)(a0:List PV):Ad C0 Tryz.prog fu (d+1) Vw [.lst false 3 a0n a0]=(fun (call:Ah)=>Io fu call a0n a0 (fu) (a0n) (a0) ((↑a0n:Int)) 0 0 0 ([])) (Ad C0 Tryz.prog fu d):=by kernel_rfl
abbrev X5:FuncId:=100
theorem PM (fu d a0n:Nat)(a0:List PV):Ad C0 Tryz.prog fu (d+1) X5 [.own 3 a0n a0]=(fun (call:Ah)=>Ap (decide (0+a0n*3<=a0.length))<|Ag (call 101 [.lst false 3 a0n (List.take (a0n*3) (List.drop 0 a0))]) fun x1 x2=>Ac x2<|Ab x1 fun x3 x4=>Ae .i64 x3 fun x5=>Ac x4<|A3 (x5 != 0) (some (Aw.mk [.own 3 0 [],.sc (.int .i64 x5)] [])) (Ap (decide (a0n*3<=a0.length))<|some (Aw.mk [.own 3 a0n (List.take (a0n*3) a0),.sc (.int .i64 0)] []))) (Ad C0 Tryz.prog fu d):=by kernel_rfl
abbrev AN:FuncId:=99
noncomputable def Kq (fu:Nat)(call:Ah)(a0n:Nat)(a0:List PV)(nn y0:Nat)(y1:List PV)(y2 y3:Int):Option Aw:=C6 CB Tryz.prog fu call 99 Tryz.f99 (Cb Tryz.f99) [.lst false 1 a0n a0] [.r,.l,.r,.l] nn ⟨lk [(6,(.lst false 1 y0 y1)),(7,(.sc (.int .i64 y2))),(8,(.sc (.int .i64 y3)))],Cj []⟩
theorem S3 (fu:Nat)(call:Ah)(a0n:Nat)(a0:List PV)(nn y0:Nat)(y1:List PV)(y2 y3:Int):Kq fu call a0n a0 (nn+1) y0 y1 y2 y3=(A3 (decide (y3<y2)) (Ap (decide (0<=y3)&&decide (y3<(↑y0:Int)))<|Ho 3 (List.getD y1 (Int.toNat y3*1) .top) fun x1 x2 x3=>Ag (call 101 [.lst false 3 x2 x3]) fun x4 x5=>Ac x5<|Ab x4 fun x6 x7=>Ae .i64 x6 fun x8=>Ac x7<|A3 (x8 != 0) (some (Aw.mk [.sc (.int .i64 x8)] [])) (Aa (wrap .i64 (y3+1)) fun x9=>Kq fu call a0n a0 (nn) (y0) (y1) (y2) x9)) (some (Aw.mk [.sc (.int .i64 0)] []))):=by kernel_rfl
theorem QV (fu d a0n:Nat)(a0:List PV):Ad C0 Tryz.prog fu (d+1) AN [.lst false 1 a0n a0]=(fun (call:Ah)=>Kq fu call a0n a0 (fu) (a0n) (a0) ((↑a0n:Int)) 0) (Ad C0 Tryz.prog fu d):=by kernel_rfl
abbrev Uk:FuncId:=67
noncomputable def M0 (fu:Nat)(call:Ah)(a0n:Nat)(a0:List PV)(nn y0 y1:Nat)(y2:List PV)(y3 y4:Int)(y5:List PV):Option Aw:=C6 CB Tryz.prog fu call 67 Tryz.f67 (Cb Tryz.f67) [.lst false 1 a0n a0] [.r,.r,.r,.l,.r,.l] nn ⟨lk [(5,(.view 5 3 0 y0)),(18,(.lst false 1 y1 y2)),(19,(.sc (.int .i64 y3))),(20,(.sc (.int .i64 y4)))],Cj [(5,(.ar false y5))]⟩
theorem Vr (fu:Nat)(call:Ah)(a0n:Nat)(a0:List PV)(nn y0 y1:Nat)(y2:List PV)(y3 y4:Int)(y5:List PV):M0 fu call a0n a0 (nn+1) y0 y1 y2 y3 y4 y5=(A3 (decide (y4<y3)) (Ap (decide (0<=y4)&&decide (y4<(↑y1:Int)))<|Ho 3 (List.getD y2 (Int.toNat y4*1) .top) fun x7 x8 x9=>A3 (decide ((↑y0:Int)>512)) (Ap (decide (y0*3<=y5.length))<|Ag (call 100 [.own 3 y0 (List.take (y0*3) y5)]) fun Cm Bq=>Ab Cm fun Dm Ds=>D4 3 Dm fun Cu Dw=>Ab Ds fun Ea Ef=>Ae .i64 Ea fun Ew=>Ac Ef<|Ac Bq<|Ap (decide (Cu*3<=Dw.length))<|some (Aw.mk [.own 3 Cu (List.take (Cu*3) Dw),.sc (.int .i64 Ew)] [])) (Ap (decide (y0*3<=y5.length)&&decide (x9.length=x8*3)&&decide ((y0+x8)*32<=1099511627776)&&decide (y0+x8<=1099511627776))<|Aa (y0+x8) fun Ej=>Aa (List.take (y0*3) y5++x9) fun Fb=>Aa (wrap .i64 (y4+1)) fun G9=>M0 fu call a0n a0 (nn) Ej (y1) (y2) (y3) G9 Fb)) (Ap (decide (y0*3<=y5.length))<|Ag (call 100 [.own 3 y0 (List.take (y0*3) y5)]) fun Cp Hb=>Ab Cp fun Dx B4=>D4 3 Dx fun Ft Hn=>Ab B4 fun Bk Ci=>Ae .i64 Bk fun I1=>Ac Ci<|Ac Hb<|Ap (decide (Ft*3<=Hn.length))<|some (Aw.mk [.own 3 Ft (List.take (Ft*3) Hn),.sc (.int .i64 I1)] []))):=by kernel_rfl
theorem WJ (fu d a0n:Nat)(a0:List PV):Ad C0 Tryz.prog fu (d+1) Uk [.lst false 1 a0n a0]=(fun (call:Ah)=>Ag (call 99 [.lst false 1 a0n a0]) fun x1 x2=>Ac x2<|Ab x1 fun x3 x4=>Ae .i64 x3 fun x5=>Ac x4<|A3 (x5 != 0) (some (Aw.mk [.own 3 0 [],.sc (.int .i64 x5)] [])) (Aa (wrap .u64 (↑a0n:Int)) fun x6=>M0 fu call a0n a0 (fu) 1 (a0n) (a0) ((↑a0n:Int)) 0 ([.sc (.int .i64 5),.sc (.int .u64 x6),.sc (.string (ByteArray.mk #[]))]))) (Ad C0 Tryz.prog fu d):=by kernel_rfl
abbrev Sh:FuncId:=72
noncomputable def Kz (fu:Nat)(call:Ah)(a0n:Nat)(a0:List PV)(nn y0 y1:Nat)(y2:List PV)(y3 y4:Int)(y5:List PV):Option Aw:=C6 CB Tryz.prog fu call 72 Tryz.f72 (Cb Tryz.f72) [.lst false 3 a0n a0] [.r,.r,.r,.l,.r,.l] nn ⟨lk [(5,(.view 5 1 0 y0)),(13,(.lst false 3 y1 y2)),(14,(.sc (.int .i64 y3))),(15,(.sc (.int .i64 y4)))],Cj [(5,(.ar false y5))]⟩
theorem Tr (fu:Nat)(call:Ah)(a0n:Nat)(a0:List PV)(nn y0 y1:Nat)(y2:List PV)(y3 y4:Int)(y5:List PV):Kz fu call a0n a0 (nn+1) y0 y1 y2 y3 y4 y5=(A3 (decide (y4<y3)) (Ap (decide (0<=y4)&&decide (y4<(↑y1:Int)))<|Ae .i64 (List.getD y2 (Int.toNat y4*3) .top) fun x6=>Ae .u64 (List.getD y2 (Int.toNat y4*3+1) .top) fun x7=>Cr (List.getD y2 (Int.toNat y4*3+1+1) .top) fun x8=>Ap (decide (y0*1<=y5.length))<|Ag (call 102 [.own 1 y0 (List.take (y0*1) y5),.agg [.sc (.int .i64 x6),.sc (.int .u64 x7),.sc (.string x8)]]) fun x9 Cm=>Ab x9 fun Bq Dm=>D4 1 Bq fun Ds Cu=>Ac Dm<|Ac Cm<|Aa (wrap .i64 (y4+1)) fun Dw=>Kz fu call a0n a0 (nn) Ds (y1) (y2) (y3) Dw Cu) (Ap (decide (y0*1<=y5.length))<|some (Aw.mk [.own 1 y0 (List.take (y0*1) y5),.sc (.int .i64 0)] []))):=by kernel_rfl
theorem RK (fu d a0n:Nat)(a0:List PV):Ad C0 Tryz.prog fu (d+1) Sh [.lst false 3 a0n a0]=(fun (call:Ah)=>Ag (call 101 [.lst false 3 a0n a0]) fun x1 x2=>Ac x2<|Ab x1 fun x3 x4=>Ae .i64 x3 fun x5=>Ac x4<|A3 (x5 != 0) (some (Aw.mk [.own 1 0 [],.sc (.int .i64 x5)] [])) (Kz fu call a0n a0 (fu) 0 (a0n) (a0) ((↑a0n:Int)) 0 ([]))) (Ad C0 Tryz.prog fu d):=by kernel_rfl
end
section
open Go.IntKind (wrap)
set_option maxRecDepth 100000
abbrev Q1:FuncId:=126
theorem CI (fu d:Nat)(a0 a1:ByteArray):Ad C0 Tryz.prog fu (d+1) Q1 [.sc (.string a0),.sc (.string a1)]=(fun (call:Ah)=>A3 ((↑(ByteArray.size a0):Int) != (↑(ByteArray.size a1):Int)) (some (Aw.mk [.sc (.bool (decide ((↑(ByteArray.size a0):Int)<(↑(ByteArray.size a1):Int))))] [])) (some (Aw.mk [.sc (.bool (Op.bytesLess (Array.toList (ByteArray.data a0)) (Array.toList (ByteArray.data a1))))] []))) (Ad C0 Tryz.prog fu d):=by kernel_rfl
abbrev O3:FuncId:=125
theorem Zm (fu d:Nat)(a0:Int):Ad C0 Tryz.prog fu (d+1) O3 [.sc (.int .i64 a0)]=(fun (call:Ah)=>A3 (a0==1) (some (Aw.mk [.sc (.bool true)] [])) (A3 (a0==2) (some (Aw.mk [.sc (.bool true)] [])) (some (Aw.mk [.sc (.bool (a0==4))] [])))) (Ad C0 Tryz.prog fu d):=by kernel_rfl
abbrev Qh:FuncId:=116
noncomputable def Dj (fu:Nat)(call:Ah)(a0_0 a0_1:Int)(a0_2:ByteArray)(nn:Nat)(y0 y1:Int):Option Aw:=C6 CB Tryz.prog fu call 116 Tryz.f116 (Cb Tryz.f116) [.agg [.sc (.int .i64 a0_0),.sc (.int .u64 a0_1),.sc (.string a0_2)]] [.r,.r,.r] nn ⟨lk [(3,(.sc (.int .u64 y0))),(4,(.sc (.int .u8 y1)))],Cj []⟩
theorem Wj (fu:Nat)(call:Ah)(a0_0 a0_1:Int)(a0_2:ByteArray)(nn:Nat)(hnn:0<nn)(y0 y1:Int):Dj fu call a0_0 a0_1 a0_2 nn y0 y1=(A3 (decide (y0<24)) (Aa (wrap .u8 y0) fun x5=>Aa (wrap .u8 (y1+x5)) fun x6=>some (Aw.mk [.own 1 1 [.sc (.int .u8 x6)]] [])) (A3 (decide (y0<256)) (Aa (wrap .u8 (y1+24)) fun x7=>Aa (wrap .u8 y0) fun x8=>some (Aw.mk [.own 1 2 [.sc (.int .u8 x7),.sc (.int .u8 x8)]] [])) (A3 (decide (y0<65536)) (Aa (wrap .u8 (y1+25)) fun x9=>Aa (Ei .u64 y0 8) fun Cm=>Aa (wrap .u8 Cm) fun Bq=>Aa (wrap .u8 y0) fun Dm=>some (Aw.mk [.own 1 3 [.sc (.int .u8 x9),.sc (.int .u8 Bq),.sc (.int .u8 Dm)]] [])) (A3 (decide (y0<4294967296)) (Aa (wrap .u8 (y1+26)) fun Ds=>Aa (Ei .u64 y0 24) fun Cu=>Aa (wrap .u8 Cu) fun Dw=>Aa (Ei .u64 y0 16) fun Ea=>Aa (wrap .u8 Ea) fun Ef=>Aa (Ei .u64 y0 8) fun Ew=>Aa (wrap .u8 Ew) fun Ej=>Aa (wrap .u8 y0) fun Fb=>some (Aw.mk [.own 1 5 [.sc (.int .u8 Ds),.sc (.int .u8 Dw),.sc (.int .u8 Ef),.sc (.int .u8 Ej),.sc (.int .u8 Fb)]] [])) (Aa (wrap .u8 (y1+27)) fun G9=>Ag (call 84 [.lst false 1 1 [.sc (.int .u64 y0)]]) fun Cp Hb=>Ac Hb<|Ab Cp fun Dx B4=>D4 1 Dx fun Ft Hn=>Ac B4<|Ap (decide (0+Ft*1<=Hn.length))<|Ap (decide (List.length (List.take (Ft*1) (List.drop 0 Hn))=Ft*1)&&decide ((1+Ft)*1<=1099511627776)&&decide (1+Ft<=1099511627776))<|Aa (1+Ft) fun Bk=>Aa ([.sc (.int .u8 G9)]++List.take (Ft*1) (List.drop 0 Hn)) fun Ci=>Ap (decide (Bk*1<=Ci.length))<|some (Aw.mk [.own 1 Bk (List.take (Bk*1) Ci)] [])))))):=by cases nn with|zero=>exact absurd hnn (Nat.lt_irrefl 0)|succ nn=>kernel_rfl
theorem BJ (fu d:Nat)(a0_0 a0_1:Int)(a0_2:ByteArray):Ad C0 Tryz.prog fu (d+1) Qh [.agg [.sc (.int .i64 a0_0),.sc (.int .u64 a0_1),.sc (.string a0_2)]]=(fun (call:Ah)=>A3 (a0_0==7) (Aa (wrap .u8 a0_1) fun x1=>Aa (wrap .u8 (244+x1)) fun x2=>some (Aw.mk [.own 1 1 [.sc (.int .u8 x2)]] [])) (A3 (a0_0==8) (some (Aw.mk [.own 1 1 [.sc (.int .u8 246)]] [])) (A3 (a0_0==2) (Dj fu call a0_0 a0_1 a0_2 (fu) (a0_1) 32) (A3 (a0_0==3) (Aa (wrap .u64 (↑(ByteArray.size a0_2):Int)) fun x3=>Dj fu call a0_0 a0_1 a0_2 (fu) x3 64) (A3 (a0_0==4) (Aa (wrap .u64 (↑(ByteArray.size a0_2):Int)) fun x4=>Dj fu call a0_0 a0_1 a0_2 (fu) x4 96) (A3 (a0_0==5) (Dj fu call a0_0 a0_1 a0_2 (fu) (a0_1) 128) (A3 (a0_0==6) (Dj fu call a0_0 a0_1 a0_2 (fu) (a0_1) 160) (Dj fu call a0_0 a0_1 a0_2 (fu) (a0_1) 0)))))))) (Ad C0 Tryz.prog fu d):=by kernel_rfl
abbrev Ou:FuncId:=94
theorem Zs (fu d:Nat)(a0_0 a0_1:Int)(a0_2:ByteArray):Ad C0 Tryz.prog fu (d+1) Ou [.agg [.sc (.int .i64 a0_0),.sc (.int .u64 a0_1),.sc (.string a0_2)]]=(fun (call:Ah)=>Ag (call 116 [.agg [.sc (.int .i64 a0_0),.sc (.int .u64 a0_1),.sc (.string a0_2)]]) fun x1 x2=>Ac x2<|Ab x1 fun x3 x4=>D4 1 x3 fun x5 x6=>Ac x4<|Ap (decide (0+x5*1<=x6.length))<|Ap (decide (List.length (List.take (x5*1) (List.drop 0 x6))=x5))<|Ev (bytesOf (List.take (x5*1) (List.drop 0 x6))) fun x7=>Ap (decide (ByteArray.size (ByteArray.mk (List.toArray x7))+ByteArray.size a0_2<=9223372036854775807))<|Aa (ByteArray.mk (List.toArray x7)++a0_2) fun x8=>some (Aw.mk [.sc (.string x8)] [])) (Ad C0 Tryz.prog fu d):=by kernel_rfl
abbrev Iw:FuncId:=124
noncomputable def C2 (fu:Nat)(call:Ah)(a0_0:ByteArray)(a0_1:Int)(a0_2n:Nat)(a0_2:List PV)(nn:Nat)(y0 y1:Int)(y2 y3:Int)(y4:ByteArray)(y5:Int)(y6:Nat)(y7:List PV)(y8 y9:Int)(y10:ByteArray):Option Aw:=C6 CB Tryz.prog fu call 124 Tryz.f124 (Cb Tryz.f124) [.pbox [.sc (.string a0_0),.sc (.int .i64 a0_1),.own 3 a0_2n a0_2]] [.r,.r,.r,.r,.r,.r,.r,.r,.r,.r,.r,.l,.r,.l] nn ⟨lk [(0,(.ptr 274000 0)),(2,(.ptr 2 0)),(5,(.sc (.int .i64 y0))),(7,(.sc (.int .i64 y1))),(8,(.sc (.int .u64 y2))),(9,(.sc (.int .i64 y3)))],Cj [(274000,(.st [(.sc (.string y4)),(.sc (.int .i64 y5)),(.view 274411 3 0 y6)])),(274411,(.ar false y7)),(2,(.st [(.sc (.int .i64 y8)),(.sc (.int .u64 y9)),(.sc (.string y10))]))]⟩
theorem Hr (fu:Nat)(call:Ah)(a0_0:ByteArray)(a0_1:Int)(a0_2n:Nat)(a0_2:List PV)(nn:Nat)(y0 y1:Int)(y2 y3:Int)(y4:ByteArray)(y5:Int)(y6:Nat)(y7:List PV)(y8 y9:Int)(y10:ByteArray):C2 fu call a0_0 a0_1 a0_2n a0_2 (nn+1) y0 y1 y2 y3 y4 y5 y6 y7 y8 y9 y10=(A3 (decide (y3<y1)) (Aa (Fp .u64 y2 8) fun Cp=>Aa (wrap .i64 (y5+1)) fun Hb=>Aa (wrap .i64 (Hb+y3)) fun Dx=>Ap (decide (0<=Dx))<|Ev ((Array.toList (ByteArray.data y4))[Int.toNat Dx]?) fun B4=>Aa (wrap .u64 (↑(UInt8.toNat B4):Int)) fun Ft=>Aa (QI .u64 Cp Ft) fun Hn=>Aa (wrap .i64 (y3+1)) fun Bk=>C2 fu call a0_0 a0_1 a0_2n a0_2 (nn) (y0) (y1) Hn Bk (y4) (y5) (y6) (y7) (y8) (y9) (y10)) (Ap (decide (0<=y1)&&decide (y1<9))<|Ae .u64 (List.getD [.sc (.int .u64 0),.sc (.int .u64 24),.sc (.int .u64 256),.sc (.int .u64 0),.sc (.int .u64 65536),.sc (.int .u64 0),.sc (.int .u64 0),.sc (.int .u64 0),.sc (.int .u64 4294967296)] (0+Int.toNat y1*1) .top) fun Ci=>A3 (decide (y2<Ci)) (Ap (decide (y6*3<=y7.length))<|some (Aw.mk [.agg [.sc (.int .i64 0),.sc (.int .u64 0),.sc (.string (ByteArray.mk #[]))],.sc (.int .i64 2)] [[.sc (.string y4),.sc (.int .i64 y5),.own 3 y6 (List.take (y6*3) y7)]])) (Aa (wrap .i64 (1+y1)) fun I1=>Aa (wrap .i64 (y5+I1)) fun Jd=>Ap (decide (0<=y0)&&decide (y0<6))<|Ae .i64 (List.getD [.sc (.int .i64 1),.sc (.int .i64 2),.sc (.int .i64 3),.sc (.int .i64 4),.sc (.int .i64 5),.sc (.int .i64 6)] (0+Int.toNat y0*1) .top) fun J9=>Ap (decide (y6*3<=y7.length))<|some (Aw.mk [.agg [.sc (.int .i64 J9),.sc (.int .u64 y2),.sc (.string (ByteArray.mk #[]))],.sc (.int .i64 0)] [[.sc (.string y4),.sc (.int .i64 Jd),.own 3 y6 (List.take (y6*3) y7)]])))):=by kernel_rfl
theorem Rc (fu d:Nat)(a0_0:ByteArray)(a0_1:Int)(a0_2n:Nat)(a0_2:List PV):Ad C0 Tryz.prog fu (d+1) Iw [.pbox [.sc (.string a0_0),.sc (.int .i64 a0_1),.own 3 a0_2n a0_2]]=(fun (call:Ah)=>A3 (decide (a0_1>=(↑(ByteArray.size a0_0):Int))) (Ap (decide (a0_2n*3<=a0_2.length))<|some (Aw.mk [.agg [.sc (.int .i64 0),.sc (.int .u64 0),.sc (.string (ByteArray.mk #[]))],.sc (.int .i64 1)] [[.sc (.string a0_0),.sc (.int .i64 a0_1),.own 3 a0_2n (List.take (a0_2n*3) a0_2)]])) (Ap (decide (0<=a0_1))<|Ev ((Array.toList (ByteArray.data a0_0))[Int.toNat a0_1]?) fun x1=>A3 ((↑(UInt8.toNat x1):Int)==244) (Aa (wrap .i64 (a0_1+1)) fun x2=>Aa (wrap .u8 ((↑(UInt8.toNat x1):Int)-244)) fun x3=>Aa (wrap .u64 x3) fun x4=>Ap (decide (a0_2n*3<=a0_2.length))<|some (Aw.mk [.agg [.sc (.int .i64 7),.sc (.int .u64 x4),.sc (.string (ByteArray.mk #[]))],.sc (.int .i64 0)] [[.sc (.string a0_0),.sc (.int .i64 x2),.own 3 a0_2n (List.take (a0_2n*3) a0_2)]])) (A3 ((↑(UInt8.toNat x1):Int)==245) (Aa (wrap .i64 (a0_1+1)) fun x5=>Aa (wrap .u8 ((↑(UInt8.toNat x1):Int)-244)) fun x6=>Aa (wrap .u64 x6) fun x7=>Ap (decide (a0_2n*3<=a0_2.length))<|some (Aw.mk [.agg [.sc (.int .i64 7),.sc (.int .u64 x7),.sc (.string (ByteArray.mk #[]))],.sc (.int .i64 0)] [[.sc (.string a0_0),.sc (.int .i64 x5),.own 3 a0_2n (List.take (a0_2n*3) a0_2)]])) (A3 ((↑(UInt8.toNat x1):Int)==246) (Aa (wrap .i64 (a0_1+1)) fun x8=>Ap (decide (a0_2n*3<=a0_2.length))<|some (Aw.mk [.agg [.sc (.int .i64 8),.sc (.int .u64 0),.sc (.string (ByteArray.mk #[]))],.sc (.int .i64 0)] [[.sc (.string a0_0),.sc (.int .i64 x8),.own 3 a0_2n (List.take (a0_2n*3) a0_2)]])) (Aa (Ei .u8 (↑(UInt8.toNat x1):Int) 5) fun x9=>Aa (wrap .i64 x9) fun Cm=>Aa (Mj .u8 (↑(UInt8.toNat x1):Int) 31) fun Bq=>Aa (wrap .i64 Bq) fun Dm=>A3 (decide (Cm>5)) (Ap (decide (a0_2n*3<=a0_2.length))<|some (Aw.mk [.agg [.sc (.int .i64 0),.sc (.int .u64 0),.sc (.string (ByteArray.mk #[]))],.sc (.int .i64 2)] [[.sc (.string a0_0),.sc (.int .i64 a0_1),.own 3 a0_2n (List.take (a0_2n*3) a0_2)]])) (A3 (decide (Dm>27)) (Ap (decide (a0_2n*3<=a0_2.length))<|some (Aw.mk [.agg [.sc (.int .i64 0),.sc (.int .u64 0),.sc (.string (ByteArray.mk #[]))],.sc (.int .i64 2)] [[.sc (.string a0_0),.sc (.int .i64 a0_1),.own 3 a0_2n (List.take (a0_2n*3) a0_2)]])) (A3 (decide (Dm>=24)) (Aa (wrap .i64 (Dm-24)) fun Ds=>Aa (wrap .u64 Ds) fun Cu=>Ap (decide (0<=Cu))<|Aa (Fp .i64 1 Cu) fun Dw=>Aa (wrap .i64 ((↑(ByteArray.size a0_0):Int)-a0_1)) fun Ea=>Aa (wrap .i64 (Ea-1)) fun Ef=>A3 (decide (Ef<Dw)) (Ap (decide (a0_2n*3<=a0_2.length))<|some (Aw.mk [.agg [.sc (.int .i64 0),.sc (.int .u64 0),.sc (.string (ByteArray.mk #[]))],.sc (.int .i64 1)] [[.sc (.string a0_0),.sc (.int .i64 a0_1),.own 3 a0_2n (List.take (a0_2n*3) a0_2)]])) (Aa (wrap .u64 Dm) fun Ew=>A3 (decide (Dw>0)) (C2 fu call a0_0 a0_1 a0_2n a0_2 (fu) Cm Dw 0 0 (a0_0) (a0_1) (a0_2n) (a0_2) 0 0 (ByteArray.mk #[])) (C2 fu call a0_0 a0_1 a0_2n a0_2 (fu) Cm Dw Ew 0 (a0_0) (a0_1) (a0_2n) (a0_2) 0 0 (ByteArray.mk #[])))) (Aa (wrap .i64 ((↑(ByteArray.size a0_0):Int)-a0_1)) fun Ej=>Aa (wrap .i64 (Ej-1)) fun Fb=>A3 (decide (Fb<0)) (Ap (decide (a0_2n*3<=a0_2.length))<|some (Aw.mk [.agg [.sc (.int .i64 0),.sc (.int .u64 0),.sc (.string (ByteArray.mk #[]))],.sc (.int .i64 1)] [[.sc (.string a0_0),.sc (.int .i64 a0_1),.own 3 a0_2n (List.take (a0_2n*3) a0_2)]])) (Aa (wrap .u64 Dm) fun G9=>C2 fu call a0_0 a0_1 a0_2n a0_2 (fu) Cm 0 G9 0 (a0_0) (a0_1) (a0_2n) (a0_2) 0 0 (ByteArray.mk #[])))))))))) (Ad C0 Tryz.prog fu d):=by kernel_rfl
abbrev C7:FuncId:=111
noncomputable def Ai (fu:Nat)(call:Ah)(a0_0:ByteArray)(a0_1:Int)(a0_2n:Nat)(a0_2:List PV)(a1:Int)(a2:Bool)(a3:ByteArray)(nn:Nat)(y0:Int)(y1:Bool)(y2:ByteArray)(y3:Int)(y4 y5:Bool)(y6:ByteArray)(y7:Int)(y8:Nat)(y9:List PV)(y10 F6:Int)(Hu:ByteArray):Option Aw:=C6 CB Tryz.prog fu call 111 Tryz.f111 (Cb Tryz.f111) [.pbox [.sc (.string a0_0),.sc (.int .i64 a0_1),.own 3 a0_2n a0_2],.sc (.int .i64 a1),.sc (.bool a2),.sc (.string a3)] [.r,.r,.r,.r,.r,.r] nn ⟨lk [(0,(.ptr 382000 0)),(1,(.sc (.int .i64 y0))),(2,(.sc (.bool y1))),(3,(.sc (.string y2))),(9,(.ptr 9 0)),(11,(.sc (.int .u64 y3))),(12,(.sc (.bool y4))),(13,(.sc (.bool y5)))],Cj [(382000,(.st [(.sc (.string y6)),(.sc (.int .i64 y7)),(.view 382573 3 0 y8)])),(382573,(.ar false y9)),(9,(.st [(.sc (.int .i64 y10)),(.sc (.int .u64 F6)),(.sc (.string Hu))]))]⟩
noncomputable def A7 (fu:Nat)(call:Ah)(a0_0:ByteArray)(a0_1:Int)(a0_2n:Nat)(a0_2:List PV)(a1:Int)(a2:Bool)(a3:ByteArray)(nn:Nat)(y0 y1:Int)(y2:Bool)(y3:ByteArray)(y4:Int)(y5:ByteArray)(y6:Int)(y7:Nat)(y8:List PV)(y9 y10:Int)(F6:ByteArray):Option Aw:=C6 CB Tryz.prog fu call 111 Tryz.f111 (Cb Tryz.f111) [.pbox [.sc (.string a0_0),.sc (.int .i64 a0_1),.own 3 a0_2n a0_2],.sc (.int .i64 a1),.sc (.bool a2),.sc (.string a3)] [.r,.r,.r,.r,.r,.r,.r,.r,.r,.r,.r,.r,.l,.r,.l] nn ⟨lk [(0,(.ptr 382000 0)),(1,(.sc (.int .i64 y0))),(9,(.ptr 9 0)),(11,(.sc (.int .u64 y1))),(13,(.sc (.bool y2))),(14,(.sc (.string y3))),(15,(.sc (.int .u64 y4)))],Cj [(382000,(.st [(.sc (.string y5)),(.sc (.int .i64 y6)),(.view 382573 3 0 y7)])),(382573,(.ar false y8)),(9,(.st [(.sc (.int .i64 y9)),(.sc (.int .u64 y10)),(.sc (.string F6))]))]⟩
theorem Hs (fu:Nat)(call:Ah)(a0_0:ByteArray)(a0_1:Int)(a0_2n:Nat)(a0_2:List PV)(a1:Int)(a2:Bool)(a3:ByteArray)(nn:Nat)(hnn:0<nn)(y0:Int)(y1:Bool)(y2:ByteArray)(y3:Int)(y4 y5:Bool)(y6:ByteArray)(y7:Int)(y8:Nat)(y9:List PV)(y10 F6:Int)(Hu:ByteArray):Ai fu call a0_0 a0_1 a0_2n a0_2 a1 a2 a3 nn y0 y1 y2 y3 y4 y5 y6 y7 y8 y9 y10 F6 Hu=(A3 (y4) (Aa (wrap .i64 y3) fun ON=>Aa (wrap .i64 (y7+ON)) fun HO=>Ap (decide (0<=y7))<|Ap (decide (0<=HO))<|Ap (decide (Int.toNat y7<=Int.toNat HO)&&decide (Int.toNat HO<=ByteArray.size y6))<|Aa (ByteArray.extract y6 y7.toNat HO.toNat) fun Vy=>Aa (wrap .i64 y3) fun BA=>Aa (wrap .i64 (y7+BA)) fun Y1=>A3 (y10==4) (Ag (call 56 [.sc (.string Vy)]) fun QU RY=>Ac RY<|Ab QU fun RP GG=>Br RP fun UW=>Ac GG<|A3 (!UW) (Ap (decide (y8*3<=y9.length))<|some (Aw.mk [.sc (.int .i64 6)] [[.sc (.string y6),.sc (.int .i64 Y1),.own 3 y8 (List.take (y8*3) y9)]])) (A3 (y1) (A3 (!Array.toList (ByteArray.data y2)==Array.toList (ByteArray.data (ByteArray.mk #[]))) (Ag (call 94 [.agg [.sc (.int .i64 y10),.sc (.int .u64 0),.sc (.string Vy)]]) fun VV RF=>Ac RF<|Ab VV fun SN CW=>Cr SN fun Us=>Ac CW<|Ag (call 126 [.sc (.string y2),.sc (.string Us)]) fun Sq Hc=>Ac Hc<|Ab Sq fun I0 We=>Br I0 fun Pe=>Ac We<|A3 (!Pe) (Ap (decide (y8*3<=y9.length))<|some (Aw.mk [.sc (.int .i64 7)] [[.sc (.string y6),.sc (.int .i64 Y1),.own 3 y8 (List.take (y8*3) y9)]])) (Ap (decide (y8*3<=y9.length)&&true&&decide ((y8+1)*32<=1099511627776)&&decide (y8+1<=1099511627776))<|Aa (y8+1) fun Pd=>Aa (List.take (y8*3) y9++[.sc (.int .i64 y10),.sc (.int .u64 0),.sc (.string Vy)]) fun Ja=>A7 fu call a0_0 a0_1 a0_2n a0_2 a1 a2 a3 (fu) (y0) (y3) (y5) (ByteArray.mk #[]) 0 (y6) Y1 Pd Ja (y10) 0 Vy)) (Ap (decide (y8*3<=y9.length)&&true&&decide ((y8+1)*32<=1099511627776)&&decide (y8+1<=1099511627776))<|Aa (y8+1) fun V7=>Aa (List.take (y8*3) y9++[.sc (.int .i64 y10),.sc (.int .u64 0),.sc (.string Vy)]) fun W9=>A7 fu call a0_0 a0_1 a0_2n a0_2 a1 a2 a3 (fu) (y0) (y3) (y5) (ByteArray.mk #[]) 0 (y6) Y1 V7 W9 (y10) 0 Vy)) (Ap (decide (y8*3<=y9.length)&&true&&decide ((y8+1)*32<=1099511627776)&&decide (y8+1<=1099511627776))<|Aa (y8+1) fun Xy=>Aa (List.take (y8*3) y9++[.sc (.int .i64 y10),.sc (.int .u64 0),.sc (.string Vy)]) fun X4=>A7 fu call a0_0 a0_1 a0_2n a0_2 a1 a2 a3 (fu) (y0) (y3) (y5) (ByteArray.mk #[]) 0 (y6) Y1 Xy X4 (y10) 0 Vy))) (A3 (y1) (A3 (!Array.toList (ByteArray.data y2)==Array.toList (ByteArray.data (ByteArray.mk #[]))) (Ag (call 94 [.agg [.sc (.int .i64 y10),.sc (.int .u64 0),.sc (.string Vy)]]) fun Ik Jp=>Ac Jp<|Ab Ik fun Xs Ys=>Cr Xs fun W0=>Ac Ys<|Ag (call 126 [.sc (.string y2),.sc (.string W0)]) fun BT Yj=>Ac Yj<|Ab BT fun Wm Wa=>Br Wm fun V8=>Ac Wa<|A3 (!V8) (Ap (decide (y8*3<=y9.length))<|some (Aw.mk [.sc (.int .i64 7)] [[.sc (.string y6),.sc (.int .i64 Y1),.own 3 y8 (List.take (y8*3) y9)]])) (Ap (decide (y8*3<=y9.length)&&true&&decide ((y8+1)*32<=1099511627776)&&decide (y8+1<=1099511627776))<|Aa (y8+1) fun Wq=>Aa (List.take (y8*3) y9++[.sc (.int .i64 y10),.sc (.int .u64 0),.sc (.string Vy)]) fun Yq=>A7 fu call a0_0 a0_1 a0_2n a0_2 a1 a2 a3 (fu) (y0) (y3) (y5) (ByteArray.mk #[]) 0 (y6) Y1 Wq Yq (y10) 0 Vy)) (Ap (decide (y8*3<=y9.length)&&true&&decide ((y8+1)*32<=1099511627776)&&decide (y8+1<=1099511627776))<|Aa (y8+1) fun Yd=>Aa (List.take (y8*3) y9++[.sc (.int .i64 y10),.sc (.int .u64 0),.sc (.string Vy)]) fun Oa=>A7 fu call a0_0 a0_1 a0_2n a0_2 a1 a2 a3 (fu) (y0) (y3) (y5) (ByteArray.mk #[]) 0 (y6) Y1 Yd Oa (y10) 0 Vy)) (Ap (decide (y8*3<=y9.length)&&true&&decide ((y8+1)*32<=1099511627776)&&decide (y8+1<=1099511627776))<|Aa (y8+1) fun Pa=>Aa (List.take (y8*3) y9++[.sc (.int .i64 y10),.sc (.int .u64 0),.sc (.string Vy)]) fun Sk=>A7 fu call a0_0 a0_1 a0_2n a0_2 a1 a2 a3 (fu) (y0) (y3) (y5) (ByteArray.mk #[]) 0 (y6) Y1 Pa Sk (y10) 0 Vy))) (A3 (y10==4) (Ag (call 56 [.sc (.string Hu)]) fun Xb Yv=>Ac Yv<|Ab Xb fun Ko CF=>Br Ko fun Xr=>Ac CF<|A3 (!Xr) (Ap (decide (y8*3<=y9.length))<|some (Aw.mk [.sc (.int .i64 6)] [[.sc (.string y6),.sc (.int .i64 y7),.own 3 y8 (List.take (y8*3) y9)]])) (A3 (y1) (A3 (!Array.toList (ByteArray.data y2)==Array.toList (ByteArray.data (ByteArray.mk #[]))) (Ag (call 94 [.agg [.sc (.int .i64 y10),.sc (.int .u64 F6),.sc (.string Hu)]]) fun Uf AD=>Ac AD<|Ab Uf fun FY BC=>Cr FY fun DQ=>Ac BC<|Ag (call 126 [.sc (.string y2),.sc (.string DQ)]) fun BX Xu=>Ac Xu<|Ab BX fun Zv CV=>Br Zv fun CZ=>Ac CV<|A3 (!CZ) (Ap (decide (y8*3<=y9.length))<|some (Aw.mk [.sc (.int .i64 7)] [[.sc (.string y6),.sc (.int .i64 y7),.own 3 y8 (List.take (y8*3) y9)]])) (Ap (decide (y8*3<=y9.length)&&true&&decide ((y8+1)*32<=1099511627776)&&decide (y8+1<=1099511627776))<|Aa (y8+1) fun BW=>Aa (List.take (y8*3) y9++[.sc (.int .i64 y10),.sc (.int .u64 F6),.sc (.string Hu)]) fun Xo=>A7 fu call a0_0 a0_1 a0_2n a0_2 a1 a2 a3 (fu) (y0) (y3) (y5) (ByteArray.mk #[]) 0 (y6) (y7) BW Xo (y10) (F6) (Hu))) (Ap (decide (y8*3<=y9.length)&&true&&decide ((y8+1)*32<=1099511627776)&&decide (y8+1<=1099511627776))<|Aa (y8+1) fun AB=>Aa (List.take (y8*3) y9++[.sc (.int .i64 y10),.sc (.int .u64 F6),.sc (.string Hu)]) fun BH=>A7 fu call a0_0 a0_1 a0_2n a0_2 a1 a2 a3 (fu) (y0) (y3) (y5) (ByteArray.mk #[]) 0 (y6) (y7) AB BH (y10) (F6) (Hu))) (Ap (decide (y8*3<=y9.length)&&true&&decide ((y8+1)*32<=1099511627776)&&decide (y8+1<=1099511627776))<|Aa (y8+1) fun Z1=>Aa (List.take (y8*3) y9++[.sc (.int .i64 y10),.sc (.int .u64 F6),.sc (.string Hu)]) fun CR=>A7 fu call a0_0 a0_1 a0_2n a0_2 a1 a2 a3 (fu) (y0) (y3) (y5) (ByteArray.mk #[]) 0 (y6) (y7) Z1 CR (y10) (F6) (Hu)))) (A3 (y1) (A3 (!Array.toList (ByteArray.data y2)==Array.toList (ByteArray.data (ByteArray.mk #[]))) (Ag (call 94 [.agg [.sc (.int .i64 y10),.sc (.int .u64 F6),.sc (.string Hu)]]) fun IA KP=>Ac KP<|Ab IA fun HZ Wb=>Cr HZ fun CO=>Ac Wb<|Ag (call 126 [.sc (.string y2),.sc (.string CO)]) fun GL LC=>Ac LC<|Ab GL fun Va LF=>Br Va fun HJ=>Ac LF<|A3 (!HJ) (Ap (decide (y8*3<=y9.length))<|some (Aw.mk [.sc (.int .i64 7)] [[.sc (.string y6),.sc (.int .i64 y7),.own 3 y8 (List.take (y8*3) y9)]])) (Ap (decide (y8*3<=y9.length)&&true&&decide ((y8+1)*32<=1099511627776)&&decide (y8+1<=1099511627776))<|Aa (y8+1) fun KW=>Aa (List.take (y8*3) y9++[.sc (.int .i64 y10),.sc (.int .u64 F6),.sc (.string Hu)]) fun PX=>A7 fu call a0_0 a0_1 a0_2n a0_2 a1 a2 a3 (fu) (y0) (y3) (y5) (ByteArray.mk #[]) 0 (y6) (y7) KW PX (y10) (F6) (Hu))) (Ap (decide (y8*3<=y9.length)&&true&&decide ((y8+1)*32<=1099511627776)&&decide (y8+1<=1099511627776))<|Aa (y8+1) fun Gb=>Aa (List.take (y8*3) y9++[.sc (.int .i64 y10),.sc (.int .u64 F6),.sc (.string Hu)]) fun Oe=>A7 fu call a0_0 a0_1 a0_2n a0_2 a1 a2 a3 (fu) (y0) (y3) (y5) (ByteArray.mk #[]) 0 (y6) (y7) Gb Oe (y10) (F6) (Hu))) (Ap (decide (y8*3<=y9.length)&&true&&decide ((y8+1)*32<=1099511627776)&&decide (y8+1<=1099511627776))<|Aa (y8+1) fun MJ=>Aa (List.take (y8*3) y9++[.sc (.int .i64 y10),.sc (.int .u64 F6),.sc (.string Hu)]) fun HK=>A7 fu call a0_0 a0_1 a0_2n a0_2 a1 a2 a3 (fu) (y0) (y3) (y5) (ByteArray.mk #[]) 0 (y6) (y7) MJ HK (y10) (F6) (Hu))))):=by cases nn with|zero=>exact absurd hnn (Nat.lt_irrefl 0)|succ nn=>kernel_rfl
theorem D5 (fu:Nat)(call:Ah)(a0_0:ByteArray)(a0_1:Int)(a0_2n:Nat)(a0_2:List PV)(a1:Int)(a2:Bool)(a3:ByteArray)(nn:Nat)(y0 y1:Int)(y2:Bool)(y3:ByteArray)(y4:Int)(y5:ByteArray)(y6:Int)(y7:Nat)(y8:List PV)(y9 y10:Int)(F6:ByteArray):A7 fu call a0_0 a0_1 a0_2n a0_2 a1 a2 a3 (nn+1) y0 y1 y2 y3 y4 y5 y6 y7 y8 y9 y10 F6=(A3 (y2) (A3 (decide (y4<y1)) (A3 (y9==6) (Aa (wrap .i64 (y0+1)) fun NA=>Ap (decide (y7*3<=y8.length))<|Ag (call 111 [.pbox [.sc (.string y5),.sc (.int .i64 y6),.own 3 y7 (List.take (y7*3) y8)],.sc (.int .i64 NA),.sc (.bool true),.sc (.string y3)]) fun RC HN=>Ab RC fun KI MB=>Ae .i64 KI fun KN=>Ac MB<|Ab HN fun MY XJ=>Ab MY fun VP WA=>Cr VP fun KQ=>Ab WA fun IE WV=>Ae .i64 IE fun QZ=>Ab WV fun VL Abq=>D4 3 VL fun KS Uy=>Ac Abq<|Ac XJ<|A3 (KN != 0) (Ap (decide (KS*3<=Uy.length))<|some (Aw.mk [.sc (.int .i64 KN)] [[.sc (.string KQ),.sc (.int .i64 QZ),.own 3 KS (List.take (KS*3) Uy)]])) (Ap (decide ((↑y7:Int)<(↑KS:Int)))<|Ae .i64 (List.getD Uy (0+Int.toNat (↑y7:Int)*3) .top) fun KV=>Ae .u64 (List.getD Uy (0+Int.toNat (↑y7:Int)*3+1) .top) fun Adz=>Cr (List.getD Uy (0+Int.toNat (↑y7:Int)*3+1+1) .top) fun Ahr=>Ag (call 94 [.agg [.sc (.int .i64 KV),.sc (.int .u64 Adz),.sc (.string Ahr)]]) fun NS Adj=>Ac Adj<|Ab NS fun Ady Ade=>Cr Ady fun Acs=>Ac Ade<|Aa (wrap .i64 (y0+1)) fun Aca=>Ap (decide (KS*3<=Uy.length))<|Ag (call 111 [.pbox [.sc (.string KQ),.sc (.int .i64 QZ),.own 3 KS (List.take (KS*3) Uy)],.sc (.int .i64 Aca),.sc (.bool false),.sc (.string (ByteArray.mk #[]))]) fun RE Adr=>Ab RE fun Abp VN=>Ae .i64 Abp fun VS=>Ac VN<|Ab Adr fun Ahw OU=>Ab Ahw fun MW Aco=>Cr MW fun ZR=>Ab Aco fun PR Ac2=>Ae .i64 PR fun Ahp=>Ab Ac2 fun Ak8 Aju=>D4 3 Ak8 fun RB Abn=>Ac Aju<|Ac OU<|A3 (VS != 0) (Ap (decide (RB*3<=Abn.length))<|some (Aw.mk [.sc (.int .i64 VS)] [[.sc (.string ZR),.sc (.int .i64 Ahp),.own 3 RB (List.take (RB*3) Abn)]])) (Aa (wrap .u64 (y4+1)) fun Amw=>A7 fu call a0_0 a0_1 a0_2n a0_2 a1 a2 a3 (nn) (y0) (y1) (y2) Acs Amw ZR Ahp RB Abn (y9) (y10) (F6)))) (Aa (wrap .i64 (y0+1)) fun Alv=>Ap (decide (y7*3<=y8.length))<|Ag (call 111 [.pbox [.sc (.string y5),.sc (.int .i64 y6),.own 3 y7 (List.take (y7*3) y8)],.sc (.int .i64 Alv),.sc (.bool false),.sc (.string (ByteArray.mk #[]))]) fun Ajv An6=>Ab Ajv fun Amh Ajx=>Ae .i64 Amh fun Afv=>Ac Ajx<|Ab An6 fun Ajt Akl=>Ab Ajt fun Acp Ama=>Cr Acp fun Ag9=>Ab Ama fun Akv Ali=>Ae .i64 Akv fun Ag8=>Ab Ali fun Akg Alh=>D4 3 Akg fun Aax Acj=>Ac Alh<|Ac Akl<|A3 (Afv != 0) (Ap (decide (Aax*3<=Acj.length))<|some (Aw.mk [.sc (.int .i64 Afv)] [[.sc (.string Ag9),.sc (.int .i64 Ag8),.own 3 Aax (List.take (Aax*3) Acj)]])) (Aa (wrap .u64 (y4+1)) fun Aml=>A7 fu call a0_0 a0_1 a0_2n a0_2 a1 a2 a3 (nn) (y0) (y1) (y2) (y3) Aml Ag9 Ag8 Aax Acj (y9) (y10) (F6)))) (Ap (decide (y7*3<=y8.length))<|some (Aw.mk [.sc (.int .i64 0)] [[.sc (.string y5),.sc (.int .i64 y6),.own 3 y7 (List.take (y7*3) y8)]]))) (Ap (decide (y7*3<=y8.length))<|some (Aw.mk [.sc (.int .i64 0)] [[.sc (.string y5),.sc (.int .i64 y6),.own 3 y7 (List.take (y7*3) y8)]]))):=by kernel_rfl
theorem Rb (fu d:Nat)(a0_0:ByteArray)(a0_1:Int)(a0_2n:Nat)(a0_2:List PV)(a1:Int)(a2:Bool)(a3:ByteArray):Ad C0 Tryz.prog fu (d+1) C7 [.pbox [.sc (.string a0_0),.sc (.int .i64 a0_1),.own 3 a0_2n a0_2],.sc (.int .i64 a1),.sc (.bool a2),.sc (.string a3)]=(fun (call:Ah)=>Ap (decide (a0_2n*3<=a0_2.length))<|Ag (call 124 [.pbox [.sc (.string a0_0),.sc (.int .i64 a0_1),.own 3 a0_2n (List.take (a0_2n*3) a0_2)]]) fun x1 x2=>Ab x1 fun x3 x4=>Dt x3 fun x5=>Ab x5 fun x6 x7=>Ae .i64 x6 fun x8=>Ab x7 fun x9 Cm=>Ae .u64 x9 fun Bq=>Ab Cm fun Dm Ds=>Cr Dm fun Cu=>Ac Ds<|Ab x4 fun Dw Ea=>Ae .i64 Dw fun Ef=>Ac Ea<|Ab x2 fun Ew Ej=>Ab Ew fun Fb G9=>Cr Fb fun Cp=>Ab G9 fun Hb Dx=>Ae .i64 Hb fun B4=>Ab Dx fun Ft Hn=>D4 3 Ft fun Bk Ci=>Ac Hn<|Ac Ej<|A3 (Ef != 0) (Ap (decide (Bk*3<=Ci.length))<|some (Aw.mk [.sc (.int .i64 Ef)] [[.sc (.string Cp),.sc (.int .i64 B4),.own 3 Bk (List.take (Bk*3) Ci)]])) (A3 (x8==3) (A3 (x8==5) (A3 (decide ((↑Bk:Int)>=512)) (Ap (decide (Bk*3<=Ci.length))<|some (Aw.mk [.sc (.int .i64 8)] [[.sc (.string Cp),.sc (.int .i64 B4),.own 3 Bk (List.take (Bk*3) Ci)]])) (A3 (a2) (Ag (call 125 [.sc (.int .i64 x8)]) fun I1 Jd=>Ac Jd<|Ab I1 fun J9 Kc=>Br J9 fun Lx=>Ac Kc<|A3 (!Lx) (Ap (decide (Bk*3<=Ci.length))<|some (Aw.mk [.sc (.int .i64 3)] [[.sc (.string Cp),.sc (.int .i64 B4),.own 3 Bk (List.take (Bk*3) Ci)]])) (A3 (decide (a1>8)) (Ap (decide (Bk*3<=Ci.length))<|some (Aw.mk [.sc (.int .i64 5)] [[.sc (.string Cp),.sc (.int .i64 B4),.own 3 Bk (List.take (Bk*3) Ci)]])) (A3 (decide (Bq>1024)) (Ap (decide (Bk*3<=Ci.length))<|some (Aw.mk [.sc (.int .i64 8)] [[.sc (.string Cp),.sc (.int .i64 B4),.own 3 Bk (List.take (Bk*3) Ci)]])) (A3 (decide (Bq>512)) (Ap (decide (Bk*3<=Ci.length))<|some (Aw.mk [.sc (.int .i64 8)] [[.sc (.string Cp),.sc (.int .i64 B4),.own 3 Bk (List.take (Bk*3) Ci)]])) (Aa (wrap .i64 ((↑(ByteArray.size Cp):Int)-B4)) fun Ob=>Aa (wrap .u64 Ob) fun Pt=>A3 (decide (Pt<Bq)) (Ap (decide (Bk*3<=Ci.length))<|some (Aw.mk [.sc (.int .i64 1)] [[.sc (.string Cp),.sc (.int .i64 B4),.own 3 Bk (List.take (Bk*3) Ci)]])) (Ai fu call a0_0 a0_1 a0_2n a0_2 a1 a2 a3 (fu) (a1) (a2) (a3) Bq (true) (true) Cp B4 Bk Ci x8 Bq Cu)))))) (A3 (decide (a1>8)) (Ap (decide (Bk*3<=Ci.length))<|some (Aw.mk [.sc (.int .i64 5)] [[.sc (.string Cp),.sc (.int .i64 B4),.own 3 Bk (List.take (Bk*3) Ci)]])) (A3 (decide (Bq>1024)) (Ap (decide (Bk*3<=Ci.length))<|some (Aw.mk [.sc (.int .i64 8)] [[.sc (.string Cp),.sc (.int .i64 B4),.own 3 Bk (List.take (Bk*3) Ci)]])) (A3 (decide (Bq>512)) (Ap (decide (Bk*3<=Ci.length))<|some (Aw.mk [.sc (.int .i64 8)] [[.sc (.string Cp),.sc (.int .i64 B4),.own 3 Bk (List.take (Bk*3) Ci)]])) (Aa (wrap .i64 ((↑(ByteArray.size Cp):Int)-B4)) fun Q5=>Aa (wrap .u64 Q5) fun Gn=>A3 (decide (Gn<Bq)) (Ap (decide (Bk*3<=Ci.length))<|some (Aw.mk [.sc (.int .i64 1)] [[.sc (.string Cp),.sc (.int .i64 B4),.own 3 Bk (List.take (Bk*3) Ci)]])) (Ai fu call a0_0 a0_1 a0_2n a0_2 a1 a2 a3 (fu) (a1) (a2) (a3) Bq (true) (true) Cp B4 Bk Ci x8 Bq Cu))))))) (A3 (decide ((↑Bk:Int)>=512)) (Ap (decide (Bk*3<=Ci.length))<|some (Aw.mk [.sc (.int .i64 8)] [[.sc (.string Cp),.sc (.int .i64 B4),.own 3 Bk (List.take (Bk*3) Ci)]])) (A3 (a2) (Ag (call 125 [.sc (.int .i64 x8)]) fun Ie Sv=>Ac Sv<|Ab Ie fun Wg Kd=>Br Wg fun S1=>Ac Kd<|A3 (!S1) (Ap (decide (Bk*3<=Ci.length))<|some (Aw.mk [.sc (.int .i64 3)] [[.sc (.string Cp),.sc (.int .i64 B4),.own 3 Bk (List.take (Bk*3) Ci)]])) (A3 (decide (a1>8)) (Ap (decide (Bk*3<=Ci.length))<|some (Aw.mk [.sc (.int .i64 5)] [[.sc (.string Cp),.sc (.int .i64 B4),.own 3 Bk (List.take (Bk*3) Ci)]])) (A3 (decide (Bq>1024)) (Ap (decide (Bk*3<=Ci.length))<|some (Aw.mk [.sc (.int .i64 8)] [[.sc (.string Cp),.sc (.int .i64 B4),.own 3 Bk (List.take (Bk*3) Ci)]])) (A3 (x8==6) (A3 (decide (Bq>512)) (Ap (decide (Bk*3<=Ci.length))<|some (Aw.mk [.sc (.int .i64 8)] [[.sc (.string Cp),.sc (.int .i64 B4),.own 3 Bk (List.take (Bk*3) Ci)]])) (Aa (wrap .i64 ((↑(ByteArray.size Cp):Int)-B4)) fun Sd=>Aa (wrap .u64 Sd) fun Re=>A3 (decide (Re<Bq)) (Ap (decide (Bk*3<=Ci.length))<|some (Aw.mk [.sc (.int .i64 1)] [[.sc (.string Cp),.sc (.int .i64 B4),.own 3 Bk (List.take (Bk*3) Ci)]])) (Ai fu call a0_0 a0_1 a0_2n a0_2 a1 a2 a3 (fu) (a1) (a2) (a3) Bq (true) (x8==6) Cp B4 Bk Ci x8 Bq Cu))) (Aa (wrap .i64 ((↑(ByteArray.size Cp):Int)-B4)) fun Sf=>Aa (wrap .u64 Sf) fun Vp=>A3 (decide (Vp<Bq)) (Ap (decide (Bk*3<=Ci.length))<|some (Aw.mk [.sc (.int .i64 1)] [[.sc (.string Cp),.sc (.int .i64 B4),.own 3 Bk (List.take (Bk*3) Ci)]])) (Ai fu call a0_0 a0_1 a0_2n a0_2 a1 a2 a3 (fu) (a1) (a2) (a3) Bq (true) (x8==6) Cp B4 Bk Ci x8 Bq Cu)))))) (A3 (decide (a1>8)) (Ap (decide (Bk*3<=Ci.length))<|some (Aw.mk [.sc (.int .i64 5)] [[.sc (.string Cp),.sc (.int .i64 B4),.own 3 Bk (List.take (Bk*3) Ci)]])) (A3 (decide (Bq>1024)) (Ap (decide (Bk*3<=Ci.length))<|some (Aw.mk [.sc (.int .i64 8)] [[.sc (.string Cp),.sc (.int .i64 B4),.own 3 Bk (List.take (Bk*3) Ci)]])) (A3 (x8==6) (A3 (decide (Bq>512)) (Ap (decide (Bk*3<=Ci.length))<|some (Aw.mk [.sc (.int .i64 8)] [[.sc (.string Cp),.sc (.int .i64 B4),.own 3 Bk (List.take (Bk*3) Ci)]])) (Aa (wrap .i64 ((↑(ByteArray.size Cp):Int)-B4)) fun V9=>Aa (wrap .u64 V9) fun Q8=>A3 (decide (Q8<Bq)) (Ap (decide (Bk*3<=Ci.length))<|some (Aw.mk [.sc (.int .i64 1)] [[.sc (.string Cp),.sc (.int .i64 B4),.own 3 Bk (List.take (Bk*3) Ci)]])) (Ai fu call a0_0 a0_1 a0_2n a0_2 a1 a2 a3 (fu) (a1) (a2) (a3) Bq (true) (x8==6) Cp B4 Bk Ci x8 Bq Cu))) (Aa (wrap .i64 ((↑(ByteArray.size Cp):Int)-B4)) fun Ud=>Aa (wrap .u64 Ud) fun Vo=>A3 (decide (Vo<Bq)) (Ap (decide (Bk*3<=Ci.length))<|some (Aw.mk [.sc (.int .i64 1)] [[.sc (.string Cp),.sc (.int .i64 B4),.own 3 Bk (List.take (Bk*3) Ci)]])) (Ai fu call a0_0 a0_1 a0_2n a0_2 a1 a2 a3 (fu) (a1) (a2) (a3) Bq (true) (x8==6) Cp B4 Bk Ci x8 Bq Cu)))))))) (A3 (x8==5) (A3 (decide ((↑Bk:Int)>=512)) (Ap (decide (Bk*3<=Ci.length))<|some (Aw.mk [.sc (.int .i64 8)] [[.sc (.string Cp),.sc (.int .i64 B4),.own 3 Bk (List.take (Bk*3) Ci)]])) (A3 (a2) (Ag (call 125 [.sc (.int .i64 x8)]) fun Vx Nn=>Ac Nn<|Ab Vx fun Vt AC=>Br Vt fun Ye=>Ac AC<|A3 (!Ye) (Ap (decide (Bk*3<=Ci.length))<|some (Aw.mk [.sc (.int .i64 3)] [[.sc (.string Cp),.sc (.int .i64 B4),.own 3 Bk (List.take (Bk*3) Ci)]])) (A3 (decide (a1>8)) (Ap (decide (Bk*3<=Ci.length))<|some (Aw.mk [.sc (.int .i64 5)] [[.sc (.string Cp),.sc (.int .i64 B4),.own 3 Bk (List.take (Bk*3) Ci)]])) (A3 (x8==4) (A3 (decide (Bq>1024)) (Ap (decide (Bk*3<=Ci.length))<|some (Aw.mk [.sc (.int .i64 8)] [[.sc (.string Cp),.sc (.int .i64 B4),.own 3 Bk (List.take (Bk*3) Ci)]])) (A3 (decide (Bq>512)) (Ap (decide (Bk*3<=Ci.length))<|some (Aw.mk [.sc (.int .i64 8)] [[.sc (.string Cp),.sc (.int .i64 B4),.own 3 Bk (List.take (Bk*3) Ci)]])) (A3 (x8==4) (Aa (wrap .i64 ((↑(ByteArray.size Cp):Int)-B4)) fun Up=>Aa (wrap .u64 Up) fun R7=>A3 (decide (R7<Bq)) (Ap (decide (Bk*3<=Ci.length))<|some (Aw.mk [.sc (.int .i64 1)] [[.sc (.string Cp),.sc (.int .i64 B4),.own 3 Bk (List.take (Bk*3) Ci)]])) (Ai fu call a0_0 a0_1 a0_2n a0_2 a1 a2 a3 (fu) (a1) (a2) (a3) Bq (x8==4) (true) Cp B4 Bk Ci x8 Bq Cu)) (Ai fu call a0_0 a0_1 a0_2n a0_2 a1 a2 a3 (fu) (a1) (a2) (a3) Bq (x8==4) (true) Cp B4 Bk Ci x8 Bq Cu)))) (A3 (decide (Bq>512)) (Ap (decide (Bk*3<=Ci.length))<|some (Aw.mk [.sc (.int .i64 8)] [[.sc (.string Cp),.sc (.int .i64 B4),.own 3 Bk (List.take (Bk*3) Ci)]])) (A3 (x8==4) (Aa (wrap .i64 ((↑(ByteArray.size Cp):Int)-B4)) fun Vl=>Aa (wrap .u64 Vl) fun Wu=>A3 (decide (Wu<Bq)) (Ap (decide (Bk*3<=Ci.length))<|some (Aw.mk [.sc (.int .i64 1)] [[.sc (.string Cp),.sc (.int .i64 B4),.own 3 Bk (List.take (Bk*3) Ci)]])) (Ai fu call a0_0 a0_1 a0_2n a0_2 a1 a2 a3 (fu) (a1) (a2) (a3) Bq (x8==4) (true) Cp B4 Bk Ci x8 Bq Cu)) (Ai fu call a0_0 a0_1 a0_2n a0_2 a1 a2 a3 (fu) (a1) (a2) (a3) Bq (x8==4) (true) Cp B4 Bk Ci x8 Bq Cu)))))) (A3 (decide (a1>8)) (Ap (decide (Bk*3<=Ci.length))<|some (Aw.mk [.sc (.int .i64 5)] [[.sc (.string Cp),.sc (.int .i64 B4),.own 3 Bk (List.take (Bk*3) Ci)]])) (A3 (x8==4) (A3 (decide (Bq>1024)) (Ap (decide (Bk*3<=Ci.length))<|some (Aw.mk [.sc (.int .i64 8)] [[.sc (.string Cp),.sc (.int .i64 B4),.own 3 Bk (List.take (Bk*3) Ci)]])) (A3 (decide (Bq>512)) (Ap (decide (Bk*3<=Ci.length))<|some (Aw.mk [.sc (.int .i64 8)] [[.sc (.string Cp),.sc (.int .i64 B4),.own 3 Bk (List.take (Bk*3) Ci)]])) (A3 (x8==4) (Aa (wrap .i64 ((↑(ByteArray.size Cp):Int)-B4)) fun Su=>Aa (wrap .u64 Su) fun Rg=>A3 (decide (Rg<Bq)) (Ap (decide (Bk*3<=Ci.length))<|some (Aw.mk [.sc (.int .i64 1)] [[.sc (.string Cp),.sc (.int .i64 B4),.own 3 Bk (List.take (Bk*3) Ci)]])) (Ai fu call a0_0 a0_1 a0_2n a0_2 a1 a2 a3 (fu) (a1) (a2) (a3) Bq (x8==4) (true) Cp B4 Bk Ci x8 Bq Cu)) (Ai fu call a0_0 a0_1 a0_2n a0_2 a1 a2 a3 (fu) (a1) (a2) (a3) Bq (x8==4) (true) Cp B4 Bk Ci x8 Bq Cu)))) (A3 (decide (Bq>512)) (Ap (decide (Bk*3<=Ci.length))<|some (Aw.mk [.sc (.int .i64 8)] [[.sc (.string Cp),.sc (.int .i64 B4),.own 3 Bk (List.take (Bk*3) Ci)]])) (A3 (x8==4) (Aa (wrap .i64 ((↑(ByteArray.size Cp):Int)-B4)) fun Wn=>Aa (wrap .u64 Wn) fun Wc=>A3 (decide (Wc<Bq)) (Ap (decide (Bk*3<=Ci.length))<|some (Aw.mk [.sc (.int .i64 1)] [[.sc (.string Cp),.sc (.int .i64 B4),.own 3 Bk (List.take (Bk*3) Ci)]])) (Ai fu call a0_0 a0_1 a0_2n a0_2 a1 a2 a3 (fu) (a1) (a2) (a3) Bq (x8==4) (true) Cp B4 Bk Ci x8 Bq Cu)) (Ai fu call a0_0 a0_1 a0_2n a0_2 a1 a2 a3 (fu) (a1) (a2) (a3) Bq (x8==4) (true) Cp B4 Bk Ci x8 Bq Cu))))))) (A3 (decide ((↑Bk:Int)>=512)) (Ap (decide (Bk*3<=Ci.length))<|some (Aw.mk [.sc (.int .i64 8)] [[.sc (.string Cp),.sc (.int .i64 B4),.own 3 Bk (List.take (Bk*3) Ci)]])) (A3 (a2) (Ag (call 125 [.sc (.int .i64 x8)]) fun Yb Uj=>Ac Uj<|Ab Yb fun Uc Z9=>Br Uc fun Wy=>Ac Z9<|A3 (!Wy) (Ap (decide (Bk*3<=Ci.length))<|some (Aw.mk [.sc (.int .i64 3)] [[.sc (.string Cp),.sc (.int .i64 B4),.own 3 Bk (List.take (Bk*3) Ci)]])) (A3 (decide (a1>8)) (Ap (decide (Bk*3<=Ci.length))<|some (Aw.mk [.sc (.int .i64 5)] [[.sc (.string Cp),.sc (.int .i64 B4),.own 3 Bk (List.take (Bk*3) Ci)]])) (A3 (x8==4) (A3 (decide (Bq>1024)) (Ap (decide (Bk*3<=Ci.length))<|some (Aw.mk [.sc (.int .i64 8)] [[.sc (.string Cp),.sc (.int .i64 B4),.own 3 Bk (List.take (Bk*3) Ci)]])) (A3 (x8==6) (A3 (decide (Bq>512)) (Ap (decide (Bk*3<=Ci.length))<|some (Aw.mk [.sc (.int .i64 8)] [[.sc (.string Cp),.sc (.int .i64 B4),.own 3 Bk (List.take (Bk*3) Ci)]])) (A3 (x8==4) (Aa (wrap .i64 ((↑(ByteArray.size Cp):Int)-B4)) fun Wk=>Aa (wrap .u64 Wk) fun Vu=>A3 (decide (Vu<Bq)) (Ap (decide (Bk*3<=Ci.length))<|some (Aw.mk [.sc (.int .i64 1)] [[.sc (.string Cp),.sc (.int .i64 B4),.own 3 Bk (List.take (Bk*3) Ci)]])) (Ai fu call a0_0 a0_1 a0_2n a0_2 a1 a2 a3 (fu) (a1) (a2) (a3) Bq (x8==4) (x8==6) Cp B4 Bk Ci x8 Bq Cu)) (Ai fu call a0_0 a0_1 a0_2n a0_2 a1 a2 a3 (fu) (a1) (a2) (a3) Bq (x8==4) (x8==6) Cp B4 Bk Ci x8 Bq Cu))) (A3 (x8==4) (Aa (wrap .i64 ((↑(ByteArray.size Cp):Int)-B4)) fun Ze=>Aa (wrap .u64 Ze) fun AL=>A3 (decide (AL<Bq)) (Ap (decide (Bk*3<=Ci.length))<|some (Aw.mk [.sc (.int .i64 1)] [[.sc (.string Cp),.sc (.int .i64 B4),.own 3 Bk (List.take (Bk*3) Ci)]])) (Ai fu call a0_0 a0_1 a0_2n a0_2 a1 a2 a3 (fu) (a1) (a2) (a3) Bq (x8==4) (x8==6) Cp B4 Bk Ci x8 Bq Cu)) (Ai fu call a0_0 a0_1 a0_2n a0_2 a1 a2 a3 (fu) (a1) (a2) (a3) Bq (x8==4) (x8==6) Cp B4 Bk Ci x8 Bq Cu)))) (A3 (x8==6) (A3 (decide (Bq>512)) (Ap (decide (Bk*3<=Ci.length))<|some (Aw.mk [.sc (.int .i64 8)] [[.sc (.string Cp),.sc (.int .i64 B4),.own 3 Bk (List.take (Bk*3) Ci)]])) (A3 (x8==4) (Aa (wrap .i64 ((↑(ByteArray.size Cp):Int)-B4)) fun Yz=>Aa (wrap .u64 Yz) fun Z8=>A3 (decide (Z8<Bq)) (Ap (decide (Bk*3<=Ci.length))<|some (Aw.mk [.sc (.int .i64 1)] [[.sc (.string Cp),.sc (.int .i64 B4),.own 3 Bk (List.take (Bk*3) Ci)]])) (Ai fu call a0_0 a0_1 a0_2n a0_2 a1 a2 a3 (fu) (a1) (a2) (a3) Bq (x8==4) (x8==6) Cp B4 Bk Ci x8 Bq Cu)) (Ai fu call a0_0 a0_1 a0_2n a0_2 a1 a2 a3 (fu) (a1) (a2) (a3) Bq (x8==4) (x8==6) Cp B4 Bk Ci x8 Bq Cu))) (A3 (x8==4) (Aa (wrap .i64 ((↑(ByteArray.size Cp):Int)-B4)) fun BK=>Aa (wrap .u64 BK) fun Y0=>A3 (decide (Y0<Bq)) (Ap (decide (Bk*3<=Ci.length))<|some (Aw.mk [.sc (.int .i64 1)] [[.sc (.string Cp),.sc (.int .i64 B4),.own 3 Bk (List.take (Bk*3) Ci)]])) (Ai fu call a0_0 a0_1 a0_2n a0_2 a1 a2 a3 (fu) (a1) (a2) (a3) Bq (x8==4) (x8==6) Cp B4 Bk Ci x8 Bq Cu)) (Ai fu call a0_0 a0_1 a0_2n a0_2 a1 a2 a3 (fu) (a1) (a2) (a3) Bq (x8==4) (x8==6) Cp B4 Bk Ci x8 Bq Cu)))))) (A3 (decide (a1>8)) (Ap (decide (Bk*3<=Ci.length))<|some (Aw.mk [.sc (.int .i64 5)] [[.sc (.string Cp),.sc (.int .i64 B4),.own 3 Bk (List.take (Bk*3) Ci)]])) (A3 (x8==4) (A3 (decide (Bq>1024)) (Ap (decide (Bk*3<=Ci.length))<|some (Aw.mk [.sc (.int .i64 8)] [[.sc (.string Cp),.sc (.int .i64 B4),.own 3 Bk (List.take (Bk*3) Ci)]])) (A3 (x8==6) (A3 (decide (Bq>512)) (Ap (decide (Bk*3<=Ci.length))<|some (Aw.mk [.sc (.int .i64 8)] [[.sc (.string Cp),.sc (.int .i64 B4),.own 3 Bk (List.take (Bk*3) Ci)]])) (A3 (x8==4) (Aa (wrap .i64 ((↑(ByteArray.size Cp):Int)-B4)) fun Tw=>Aa (wrap .u64 Tw) fun DU=>A3 (decide (DU<Bq)) (Ap (decide (Bk*3<=Ci.length))<|some (Aw.mk [.sc (.int .i64 1)] [[.sc (.string Cp),.sc (.int .i64 B4),.own 3 Bk (List.take (Bk*3) Ci)]])) (Ai fu call a0_0 a0_1 a0_2n a0_2 a1 a2 a3 (fu) (a1) (a2) (a3) Bq (x8==4) (x8==6) Cp B4 Bk Ci x8 Bq Cu)) (Ai fu call a0_0 a0_1 a0_2n a0_2 a1 a2 a3 (fu) (a1) (a2) (a3) Bq (x8==4) (x8==6) Cp B4 Bk Ci x8 Bq Cu))) (A3 (x8==4) (Aa (wrap .i64 ((↑(ByteArray.size Cp):Int)-B4)) fun GI=>Aa (wrap .u64 GI) fun PL=>A3 (decide (PL<Bq)) (Ap (decide (Bk*3<=Ci.length))<|some (Aw.mk [.sc (.int .i64 1)] [[.sc (.string Cp),.sc (.int .i64 B4),.own 3 Bk (List.take (Bk*3) Ci)]])) (Ai fu call a0_0 a0_1 a0_2n a0_2 a1 a2 a3 (fu) (a1) (a2) (a3) Bq (x8==4) (x8==6) Cp B4 Bk Ci x8 Bq Cu)) (Ai fu call a0_0 a0_1 a0_2n a0_2 a1 a2 a3 (fu) (a1) (a2) (a3) Bq (x8==4) (x8==6) Cp B4 Bk Ci x8 Bq Cu)))) (A3 (x8==6) (A3 (decide (Bq>512)) (Ap (decide (Bk*3<=Ci.length))<|some (Aw.mk [.sc (.int .i64 8)] [[.sc (.string Cp),.sc (.int .i64 B4),.own 3 Bk (List.take (Bk*3) Ci)]])) (A3 (x8==4) (Aa (wrap .i64 ((↑(ByteArray.size Cp):Int)-B4)) fun MH=>Aa (wrap .u64 MH) fun LD=>A3 (decide (LD<Bq)) (Ap (decide (Bk*3<=Ci.length))<|some (Aw.mk [.sc (.int .i64 1)] [[.sc (.string Cp),.sc (.int .i64 B4),.own 3 Bk (List.take (Bk*3) Ci)]])) (Ai fu call a0_0 a0_1 a0_2n a0_2 a1 a2 a3 (fu) (a1) (a2) (a3) Bq (x8==4) (x8==6) Cp B4 Bk Ci x8 Bq Cu)) (Ai fu call a0_0 a0_1 a0_2n a0_2 a1 a2 a3 (fu) (a1) (a2) (a3) Bq (x8==4) (x8==6) Cp B4 Bk Ci x8 Bq Cu))) (A3 (x8==4) (Aa (wrap .i64 ((↑(ByteArray.size Cp):Int)-B4)) fun HV=>Aa (wrap .u64 HV) fun KR=>A3 (decide (KR<Bq)) (Ap (decide (Bk*3<=Ci.length))<|some (Aw.mk [.sc (.int .i64 1)] [[.sc (.string Cp),.sc (.int .i64 B4),.own 3 Bk (List.take (Bk*3) Ci)]])) (Ai fu call a0_0 a0_1 a0_2n a0_2 a1 a2 a3 (fu) (a1) (a2) (a3) Bq (x8==4) (x8==6) Cp B4 Bk Ci x8 Bq Cu)) (Ai fu call a0_0 a0_1 a0_2n a0_2 a1 a2 a3 (fu) (a1) (a2) (a3) Bq (x8==4) (x8==6) Cp B4 Bk Ci x8 Bq Cu)))))))))) (Ad C0 Tryz.prog fu d):=by kernel_rfl
abbrev Nu:FuncId:=85
theorem Xt (fu d a0n:Nat)(a0:List PV):Ad C0 Tryz.prog fu (d+1) Nu [.lst false 1 a0n a0]=(fun (call:Ah)=>Ap (decide (a0.length=a0n))<|Ev (bytesOf a0) fun x1=>Ag (call 111 [.pbox [.sc (.string (ByteArray.mk (List.toArray x1))),.sc (.int .i64 0),.own 3 0 []],.sc (.int .i64 0),.sc (.bool false),.sc (.string (ByteArray.mk #[]))]) fun x2 x3=>Ab x2 fun x4 x5=>Ae .i64 x4 fun x6=>Ac x5<|Ab x3 fun x7 x8=>Ab x7 fun x9 Cm=>Cr x9 fun Bq=>Ab Cm fun Dm Ds=>Ae .i64 Dm fun Cu=>Ab Ds fun Dw Ea=>D4 3 Dw fun Ef Ew=>Ac Ea<|Ac x8<|A3 (x6 != 0) (some (Aw.mk [.own 3 0 [],.sc (.int .i64 0),.sc (.int .i64 x6)] [])) (Ap (decide (Ef*3<=Ew.length))<|some (Aw.mk [.own 3 Ef (List.take (Ef*3) Ew),.sc (.int .i64 Cu),.sc (.int .i64 0)] []))) (Ad C0 Tryz.prog fu d):=by kernel_rfl
end
section
open Go.IntKind (wrap)
def Cg (s:ByteArray):List Int:=s.data.toList.map fun b=>(b.toNat:Int)
def Bj (l:List Int):ByteArray:=⟨(l.map fun n=>n.toNat.toUInt8).toArray⟩
theorem Ey (s:ByteArray):(Cg s).length=s.size:=by
 unfold Cg;rw [List.length_map];rfl
theorem U9 (s:ByteArray):Hg (Cg s):=by
 intro x hx;obtain ⟨b,_,rfl⟩:=List.mem_map.1 hx;have:=b.toNat_lt;omega
theorem Ib (s:ByteArray):Dh s=Af .u8 (Cg s):=by
 unfold Dh Cg
 induction s.data.toList with
 |nil=>rfl
 |cons b l ih=>rw [Zzw,Zzw,ih];rfl
theorem Ek (l:List Int):(Bj l).size=l.length:=by
 show (l.map fun n=>n.toNat.toUInt8).toArray.size=_
 simp
theorem Ld {l:List Int}(h:Hg l):Cg (Bj l)=l:=by
 unfold Cg Bj;simp only [List.map_map]
 have:∀l:List Int,Hg l->List.map ((fun b:UInt8=>(b.toNat:Int)) ∘ fun n:Int=>n.toNat.toUInt8) l=l:=by
  intro l
  induction l with
  |nil=>intro _;rfl
  |cons x l ih=>
   intro h;have hx:=h x (by simp)
   rw [Zzw,ih fun y hy=>h y (by simp [hy])]
   congr 1
   show ((x.toNat.toUInt8.toNat:Nat):Int)=x;rw [Nat.toUInt8,UInt8.toNat_ofNat'];omega
 exact this l h
theorem Pj (s:ByteArray):Bj (Cg s)=s:=by
 unfold Bj Cg;simp only [List.map_map]
 have:∀l:List UInt8,List.map ((fun n:Int=>n.toNat.toUInt8) ∘ fun b:UInt8=>(b.toNat:Int)) l=l:=by
  intro l
  induction l with
  |nil=>rfl
  |cons x l ih=>
   rw [Zzw,ih]
   congr 1
   show ((x.toNat:Int).toNat).toUInt8=x;rw [Hi];simp
 rw [this]
theorem Ff:∀l:List Int,bytesOf (Af .u8 l)=some (l.map fun n=>n.toNat.toUInt8)
 |[]=>rfl
 |x::l=>by
  show (bytesOf (Af .u8 l)).map (x.toNat.toUInt8 :: ·)=_
  rw [Ff l];rfl
theorem YY (l:List Int)(s:ByteArray):Bj l++s=Bj (l++Cg s):=by
 conv=>lhs;rw [←Pj s]
 unfold Bj;apply ByteArray.ext;rw [ByteArray.data_append];simp
def tb (n:Int)(k:Nat):List Int:=(List.range' (8-k) k).map (Dl n)
def Dc (mj n:Int):List Int:=
 if n<24 then [32*mj+n] else if n<256 then (32*mj+24)::tb n 1 else if n<65536 then (32*mj+25)::tb n 2 else if n<4294967296 then (32*mj+26)::tb n 4 else (32*mj+27)::tb n 8
structure It where
 k:Int
 n:Int
 s:ByteArray
def It.cells (x:It):List PV:=[.sc (.int .i64 x.k),.sc (.int .u64 x.n),.sc (.string x.s)]
def Bp (x:It):List Int:=
 if x.k=7 then [wrap .u8 (244+wrap .u8 x.n)] else if x.k=8 then [246] else if x.k=3 then Dc 2 x.s.size++Cg x.s else if x.k=4 then Dc 3 x.s.size++Cg x.s else Dc (x.k-1) x.n
theorem CN (n:Int)(k:Nat):(tb n k).length=k:=by simp [tb]
theorem Aum (n:Int)(k:Nat):Hg (tb n k):=by
 intro x hx;obtain ⟨j,_,rfl⟩:=List.mem_map.1 hx;exact YO n j
theorem Hw (mj n:Int):1<=(Dc mj n).length∧(Dc mj n).length<=9:=by
 unfold Dc
 repeat' split
 all_goals simp [CN]
theorem VE {mj n:Int}(h0:0<=mj)(h1:mj<=6)(hn:0<=n):Hg (Dc mj n):=by
 have hc:∀(a:Int) (l:List Int),0<=a∧a<=255->Hg l->Hg (a::l):=by
  intro a l ha hl x hx;rcases List.mem_cons.1 hx with rfl|hx
  ·exact ha
  ·exact hl x hx
 unfold Dc
 repeat' split
 ·exact hc _ _ (by omega) (fun _ h=>by simp at h)
 all_goals exact hc _ _ (by omega) (Aum _ _)
theorem Aeq {x:It}(h0:1<=x.k)(h1:x.k<=8)(hn:0<=x.n):Hg (Bp x):=by
 have happ:∀(a b:List Int),Hg a->Hg b->Hg (a++b):=by
  intro a b ha hb y hy;rcases List.mem_append.1 hy with h|h
  ·exact ha y h
  ·exact hb y h
 unfold Bp
 repeat' split
 ·intro y hy;simp at hy;subst hy;simp only [wrap,IntKind.signed,IntKind.bits];simp;omega
 ·intro y hy;simp at hy;omega
 ·exact happ _ _ (VE (by omega) (by omega) (by omega)) (U9 _)
 ·exact happ _ _ (VE (by omega) (by omega) (by omega)) (U9 _)
 ·exact VE (by omega) (by omega) hn
theorem G3 (x:It):(Bp x).length<=9+x.s.size:=by
 unfold Bp;have h2:=Hw 2 x.s.size;have h3:=Hw 3 x.s.size;have h4:=Hw (x.k-1) x.n;have hs:=Ey x.s
 repeat' split
 all_goals try simp only [Hz,Kb,ED]
 all_goals omega
section
variable {fu d:Nat}
theorem UK {call:Ah}{a0n:Nat}{a0:List PV}{a1 a2 n:Int}:∀(k nn:Nat)(l:List Int),k<=8->k<nn->l.length+k<=1000000 ->
  Eb fu call a0n a0 a1 a2 nn l.length n ((k:Int)-1) (Af .u8 l)=some ⟨[.own 1 (l++tb n k).length (Af .u8 (l++tb n k))],[]⟩
 |_,0,_,_,h,_=>by omega
 |0,nn+1,l,hk,hn,hl=>by
  have L:=Al .u8 l;rw [Nc,Dv _ _ _ (by omega)]
  simp (disch:=omega) only [Bx,Bz,Ii,L];simp [tb]
 |k+1,nn+1,l,hk,hn,hl=>by
  have ih:=UK (call:=call) (a0n:=a0n) (a0:=a0) (a1:=a1) (a2:=a2) (n:=n) k nn (l++[Dl n (8-(k+1))]) (by omega) (by omega) (by simp;omega)
  have L:=Al .u8 l;have w8:wrap .i64 (8*(((k+1:Nat):Int)-1))=8*(k:Int):=by rw [Ak (by omega) (by omega)];omega
  have w:wrap .i64 (((k+1:Nat):Int)-1-1)=(k:Int)-1:=by rw [Ak (by omega) (by omega)];omega
  have hb:wrap .u8 (Ei .u64 n (8*(k:Int)))=Dl n (8-(k+1)):=by
   unfold Dl;rw [show 56-8*((8-(k+1):Nat):Int)=8*(k:Int) by omega]
  have et:tb n (k+1)=Dl n (8-(k+1))::tb n k:=by
   unfold tb;rw [List.range'_succ,Zzw,show 8-(k+1)+1=8-k by omega]
  have ea:l++tb n (k+1)=l++[Dl n (8-(k+1))]++tb n k:=by rw [et];simp
  rw [ea,←ih,Nc];simp (disch:=omega) only [Bx,w8,hb,w,Bz,Ii,L,Fn,Hz,Kb,ED,Ck]
theorem Aub {mj:Int}(h0:0<=mj)(h1:mj<=7):Fp .u8 mj 5=32*mj:=by
 have:mj=0∨mj=1∨mj=2∨mj=3∨mj=4∨mj=5∨mj=6∨mj=7:=by omega
 rcases this with rfl|rfl|rfl|rfl|rfl|rfl|rfl|rfl<;>decide
theorem Ae2 (hfu:1000<=fu){l:List Int}(hl:l.length<=900000){mj n:Int}(h0:0<=mj)(h1:mj<=5)(hn:0<=n):Ad C0 Tryz.prog fu (d+1) Lf [.own 1 l.length (Af .u8 l),.sc (.int .u8 mj),.sc (.int .u64 n)]=some ⟨[.own 1 (l++Dc mj n).length (Af .u8 (l++Dc mj n))],[]⟩:=by
 rw [GA];have s5:=Aub h0 (by omega)
 have L:=Al .u8 l;have w24:wrap .u8 (32*mj+24)=32*mj+24:=F1 (by omega) (by omega)
 have w25:wrap .u8 (32*mj+25)=32*mj+25:=F1 (by omega) (by omega)
 have w26:wrap .u8 (32*mj+26)=32*mj+26:=F1 (by omega) (by omega)
 have w27:wrap .u8 (32*mj+27)=32*mj+27:=F1 (by omega) (by omega)
 have lp:=fun (k:Nat) (hk:k<=8) (b:Int)=>UK (fu:=fu) (call:=Ad C0 Tryz.prog fu d) (a0n:=l.length) (a0:=Af .u8 l) (a1:=mj) (a2:=n) (n:=n) k fu (l++[b]) hk (by omega) (by simp;omega)
 have ec:∀(b:Int) (t:List Int),l++b::t=l++[b]++t:=by intro b t;simp
 unfold Dc;by_cases c1:n<24
 ·have wn:wrap .u8 n=n:=F1 (by omega) (by omega)
  have ws:wrap .u8 (32*mj+n)=32*mj+n:=F1 (by omega) (by omega)
  have L1:=Al .u8 (l++[32*mj+n]);have t1:=Ii .u8 (l++[32*mj+n]);simp only [Hz,Kb,ED,Ck] at L1 t1;rw [Bv c1];simp (disch:=omega) only [Bx,s5,wn,ws,Bz,Ii,L,Fn,L1,t1,Hz,Kb,ED,Ck]
 ·by_cases c2:n<256
  ·have l1:=lp 1 (by omega) (32*mj+24)
   rw [show ((1:Nat):Int)-1=0 by omega] at l1
   rw [Az c1,Bv c2,ec,←l1];simp (disch:=omega) only [Bx,s5,w24,Bz,Ii,L,Fn,Hz,Kb,ED,Ck]
  ·by_cases c3:n<65536
   ·have l1:=lp 2 (by omega) (32*mj+25)
    rw [show ((2:Nat):Int)-1=1 by omega] at l1
    rw [Az c1,Az c2,Bv c3,ec,←l1];simp (disch:=omega) only [Bx,s5,w25,Bz,Ii,L,Fn,Hz,Kb,ED,Ck]
   ·by_cases c4:n<4294967296
    ·have l1:=lp 4 (by omega) (32*mj+26)
     rw [show ((4:Nat):Int)-1=3 by omega] at l1
     rw [Az c1,Az c2,Az c3,Bv c4,ec,←l1];simp (disch:=omega) only [Bx,s5,w26,Bz,Ii,L,Fn,Hz,Kb,ED,Ck]
    ·have l1:=lp 8 (by omega) (32*mj+27)
     rw [show ((8:Nat):Int)-1=7 by omega] at l1
     rw [Az c1,Az c2,Az c3,Az c4,ec,←l1];simp (disch:=omega) only [Bx,s5,w27,Bz,Ii,L,Fn,Hz,Kb,ED,Ck]
structure It.ok (x:It):Prop where
 k1:1<=x.k
 k8:x.k<=8
 n0:0<=x.n
 s0:x.s.size<=500000
theorem Ae1 (hfu:1000<=fu){l:List Int}(hl:l.length<=300000){x:It}(hx:x.ok):Ad C0 Tryz.prog fu (d+2) Rq [.own 1 l.length (Af .u8 l),.agg x.cells]=some ⟨[.own 1 (l++Bp x).length (Af .u8 (l++Bp x))],[]⟩:=by
 obtain ⟨k,n,s⟩:=x;obtain ⟨k1,k8,n0,s0⟩:=hx;simp only at k1 k8 n0 s0;refine (EW fu (d+1) l.length (Af .u8 l) k n s).trans ?_;have L:=Al .u8 l;have hsl:=Ey s;unfold Bp;simp only;by_cases c7:k=7
 ·subst c7;have L1:=Al .u8 (l++[wrap .u8 (244+wrap .u8 n)]);have t1:=Ii .u8 (l++[wrap .u8 (244+wrap .u8 n)]);simp only [Hz,Kb,ED,Ck] at L1 t1;simp (disch:=omega) only [Bx,Fo,if_true,Bz,Ii,L,Fn,L1,t1,Hz,Kb,ED,Ck]
 ·by_cases c8:k=8
  ·subst c8;have L1:=Al .u8 (l++[246]);have t1:=Ii .u8 (l++[246]);simp only [Hz,Kb,ED,Ck] at L1 t1;rw [Az c7,Bv rfl];simp (disch:=omega) only [Bx,Fo,c7,if_false,if_true,Bz,Ii,L,Fn,L1,t1,Hz,Kb,ED,Ck]
  ·have dat:∀mj:Int,0<=mj->mj<=5->(Ad C0 Tryz.prog fu (d+1) Lf [.own 1 l.length (Af .u8 l),.sc (.int .u8 mj),.sc (.int .u64 s.size)]=some ⟨[.own 1 (l++Dc mj s.size).length (Af .u8 (l++Dc mj s.size))],[]⟩)∧(l++Dc mj s.size).length<=300009∧List.take (l++Dc mj s.size).length (Af .u8 (l++Dc mj s.size))=Af .u8 (l++Dc mj s.size)∧(Af .u8 (l++Dc mj s.size)).length=(l++Dc mj s.size).length∧Af .u8 (l++Dc mj s.size)++Dh s=Af .u8 (l++(Dc mj s.size++Cg s))∧(l++(Dc mj s.size++Cg s)).length=(l++Dc mj s.size).length+s.size∧(Af .u8 (l++(Dc mj s.size++Cg s))).length=(l++Dc mj s.size).length+s.size:=by
    intro mj h0 h1;have hh:=Hw mj s.size;refine ⟨Ae2 hfu (by omega) h0 h1 (by omega),by rw [Hz];omega,Ii _ _,Al _ _,?_,?_,?_⟩
    ·rw [Ib,←Zzv,Af,Af,Af,List.flatMap_append (xs:=l++Dc mj s.size)]
    ·rw [←Zzv,Hz,hsl]
    ·rw [Al,←Zzv,Hz,hsl]
   have ss:(Dh s).length=s.size:=by rw [Ib,Al,hsl]
   have wsz:wrap .u64 (s.size:Int)=s.size:=Ch (by omega) (by omega)
   rw [Az c7,Az c8];by_cases c3:k=3
   ·subst c3;obtain ⟨p1,p2,p3,p4,p5,p6,p7⟩:=dat 2 (by omega) (by omega)
    have w1:wrap .i64 ((3:Int)-1)=2:=by decide
    have w2:wrap .u8 (2:Int)=2:=by decide
    have t1:List.take ((l++Dc 2 s.size).length+s.size) (Af .u8 (l++(Dc 2 s.size++Cg s)))=Af .u8 (l++(Dc 2 s.size++Cg s)):=Jv (by omega)
    rw [Bv rfl];simp (disch:=omega) only [Bx,Fo,c7,c8,if_false,if_true,w1,w2,wsz,Bz,Ii,L,p1];generalize (l++Dc 2 s.size).length=N at *
    simp (disch:=omega) only [Bx,Bz,p3,p4,p5,p7,t1,ss];rw [p6]
   ·by_cases c4:k=4
    ·subst c4;obtain ⟨p1,p2,p3,p4,p5,p6,p7⟩:=dat 3 (by omega) (by omega)
     have w1:wrap .i64 ((4:Int)-1)=3:=by decide
     have w2:wrap .u8 (3:Int)=3:=by decide
     have t1:List.take ((l++Dc 3 s.size).length+s.size) (Af .u8 (l++(Dc 3 s.size++Cg s)))=Af .u8 (l++(Dc 3 s.size++Cg s)):=Jv (by omega)
     rw [Az c3,Bv rfl];simp (disch:=omega) only [Bx,Fo,c7,c8,c3,if_false,if_true,w1,w2,wsz,Bz,Ii,L,p1];generalize (l++Dc 3 s.size).length=N at *
     simp (disch:=omega) only [Bx,Bz,p3,p4,p5,p7,t1,ss];rw [p6]
    ·have w1:wrap .i64 (k-1)=k-1:=Ak (by omega) (by omega)
     have w2:wrap .u8 (k-1)=k-1:=F1 (by omega) (by omega)
     have p1:=Ae2 (fu:=fu) (d:=d) hfu (l:=l) (by omega) (mj:=k-1) (n:=n) (by omega) (by omega) n0
     have L2:=Al .u8 (l++Dc (k-1) n);have t2:=Ii .u8 (l++Dc (k-1) n);rw [Az c3,Az c4];simp (disch:=omega) only [Bx,Fo,c7,c8,c3,c4,if_false,w1,w2,Bz,Ii,L,p1,L2,t2]
end
end
end Go.Proofs.YtdjihiphpgkfmaaGreatDoor.Pv
