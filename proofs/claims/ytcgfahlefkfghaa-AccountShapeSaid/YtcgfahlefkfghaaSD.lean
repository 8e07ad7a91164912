/-
  The proof of AccountShape, part 4.
-/
import Derived.Test.YtcgfahlefkfghaaSC
import Derived.Test.YtcgfahlefkfghaaRows
import Derived.Sort.Walk0
import Derived.Lib.BytesEntry
import Derived.Lib.Bytealg
import Derived.Lib.Walk
import Derived.WalkKit
import Derived.WalkMore
import Derived.Shelf.RegionOpenPlain
import Derived.Lib.Overlaps
import Derived.Lib.AppendZerosOnto
import Derived.Lib.SliceRun
import Derived.Laws.Externs
import Derived.Laws.IdiomCopy
import Derived.Laws.NewBlocks
set_option linter.unusedSimpArgs false
set_option linter.unusedVariables false
namespace Go.Proofs.Ytcgfahlefkfghaa.Pv
section
open Go.Proofs.Try (prog)
open Go.IntKind (wrap)
section
variable {fu d:Nat} {xs:FuncId->Option (List PV->Option Bb)}
theorem XZ {x k:Int}(hk:k=13∨k=16∨k=17∨k=21∨k=32):Af (CX xs) prog fu (d+1) Jm [.sc (.int .u64 x),.sc (.int .i64 k)]=some ⟨[.sc (.int .u64 (rot x k))],[]⟩:=by
 rw[Ql];rcases hk with rfl|rfl|rfl|rfl|rfl<;>kernel_rfl
theorem WI {x k:Int}(hk:k=13∨k=16∨k=17∨k=21∨k=32):Af (CX xs) prog fu (d+1) Kr [.sc (.int .u64 x),.sc (.int .u64 k)]=some ⟨[.sc (.int .u64 (rot x k))],[]⟩:=by
 rw[Rn];rcases hk with rfl|rfl|rfl|rfl|rfl<;>kernel_rfl
theorem V7 {a0 a1 a2 a3 a4:Int}:∀(k i nn:Nat)(v:W4),k<nn->i+k<=100 ->
  Dr fu (Af (CX xs) prog fu (d+1)) a0 a1 a2 a3 a4 nn ((i+k:Nat):Int) i v.a v.b v.c v.d=some ⟨[],[(NS k v).cells]⟩
 |_,_,0,_,h,_=>by omega
 |0,i,nn+1,v,h,hi=>by
  rw[Gg,Rg _ _ _ (by omega)]
  rfl
 |k+1,i,nn+1,v,h,hi=>by
  have ih:=V7 (a0:=a0) (a1:=a1) (a2:=a2) (a3:=a3) (a4:=a4) k (i+1) nn (AB v) (by omega) (by omega)
  have w:wrap .i64 ((i:Int)+1)=((i+1:Nat):Int):=by rw[wrap_i64 (by omega) (by omega)];omega
  have r13:=fun x=>XZ (xs:=xs) (fu:=fu) (d:=d) (x:=x) (k:=13) (by simp)
  have r16:=fun x=>XZ (xs:=xs) (fu:=fu) (d:=d) (x:=x) (k:=16) (by simp)
  have r17:=fun x=>XZ (xs:=xs) (fu:=fu) (d:=d) (x:=x) (k:=17) (by simp)
  have r21:=fun x=>XZ (xs:=xs) (fu:=fu) (d:=d) (x:=x) (k:=21) (by simp)
  have r32:=fun x=>XZ (xs:=xs) (fu:=fu) (d:=d) (x:=x) (k:=32) (by simp)
  rw[Gg];simp (disch:=omega) only[Ep,r13,r16,r17,r21,r32,w];rw[show i+(k+1)=i+1+k by omega]
  exact ih
theorem BK (k:Nat)(hk:k<=4)(hfu:100<=fu)(v:W4):Af (CX xs) prog fu (d+2) H0 [.pbox [.sc (.int .u64 v.a),.sc (.int .u64 v.b),.sc (.int .u64 v.c),.sc (.int .u64 v.d)],.sc (.int .i64 k)]=some ⟨[],[(NS k v).cells]⟩:=by
 rw[Ob];have:=V7 (xs:=xs) (fu:=fu) (d:=d) (a0:=v.a) (a1:=v.b) (a2:=v.c) (a3:=v.d) (a4:=k) k 0 fu v (by omega) (by omega)
 rw[Fv] at this;exact this
theorem CE (hfu:100<=fu)(v:W4)(m:Int):Af (CX xs) prog fu (d+3) Hs [.pbox [.sc (.int .u64 v.a),.sc (.int .u64 v.b),.sc (.int .u64 v.c),.sc (.int .u64 v.d)],.sc (.int .u64 m)]=some ⟨[],[(Mv v m).cells]⟩:=by
 rw[N7];have r2:=BK (xs:=xs) (fu:=fu) (d:=d) 2 (by omega) hfu ⟨v.a,v.b,v.c,C6 .u64 v.d m⟩
 have e2:((2:Nat):Int)=2:=rfl;rw[e2] at r2;unfold Mv;generalize NS 2 ⟨v.a,v.b,v.c,C6 .u64 v.d m⟩=R at r2 ⊢;simp only[W4.cells] at r2;simp only[Ep,r2];rfl
theorem Amc {a b:Int}{k:Nat}(hk:k<8)(ha:0<=a)(VO:a<((2 ^ (8*k):Nat):Int)) (hb:0<=b)(F8:b<=255):Xj .u64 a (Ho .u64 b (8*(k:Int)))=a+((2 ^ (8*k):Nat):Int)*b:=by
 obtain⟨n,rfl⟩:=Int.eq_ofNat_of_zero_le hb;have e:(8*(k:Int)).toNat=8*k:=by omega
 have hp:n*2 ^ (8*k)<=255*2 ^ (8*k):=Nat.mul_le_mul_right _ (by omega)
 have h56:2 ^ (8*k)<=2 ^ 56:=Nat.pow_le_pow_right (by omega) (by omega)
 have e56:(2:Nat) ^ 56=72057594037927936:=by decide
 rw[e56] at h56;generalize hP:2 ^ (8*k)=p at *
 have Ao6:n*p<=255*p:=hp
 have hs:Ho .u64 (n:Int) (8*(k:Int))=(n:Int)*((2 ^ (8*(k:Int)).toNat:Nat):Int):=PX (by omega) (by omega) (by omega) (by
  rw[e,hP];have:((n*p:Nat):Int)<=((255*p:Nat):Int):=by omega
  rw[←Int.natCast_mul];omega)
 rw[hs,e,hP]
 have:=(DV (a:=a) (c:=((n*p:Nat):Int)) (8*k) n ha (by rw[hP];exact VO) (by rw[hP]) (by
  have:((n*p:Nat):Int)<=((255*p:Nat):Int):=by omega
  omega)).1
 rw[←Int.natCast_mul,this,Int.mul_comm ((p:Nat):Int),←Int.natCast_mul]
theorem Amj (k:Nat):((2 ^ (8*k):Nat):Int)=256 ^ k:=by
 rw[Nat.pow_mul];simp
theorem V6 {call:Aj}{n:Nat}{c:List PV}{l:List Int}(hb:R1 l)(hl:l.length<=8):∀(r:List Int)(i nn:Nat),l.drop i=r->r.length<nn->i<=l.length ->
  F6 fu call n c nn (Ml (l.take i)) l.length (Aq .u8 l) l.length i=some ⟨[.sc (.int .u64 (Ml l))],[]⟩
 |_,_,0,_,h,_=>by omega
 |[],i,nn+1,h,hn,hi=>by
  have:=drop_nil h;rw[Ka,Rg _ _ _ (by omega),Qq (by omega)]
 |b::r,i,nn+1,h,hn,hi=>by
  obtain⟨h1,h2,h3⟩:=Fj h;simp only[MI] at hn;have ih:=V6 (call:=call) (n:=n) (c:=c) hb hl r (i+1) nn h3 (by omega) (by omega)
  have hbb:=hb b (List.mem_of_getElem? h2);have w:wrap .i64 ((i:Int)+1)=((i+1:Nat):Int):=by rw[wrap_i64 (by omega) (by omega)];omega
  have w8:wrap .i64 (8*(i:Int))=8*(i:Int):=wrap_i64 (by omega) (by omega)
  have wb:wrap .u64 b=b:=Dq (by omega) (by omega)
  have Aju:=M8 (l:=l.take i) fun x hx=>hb x (List.mem_of_mem_take hx)
  have htl:(l.take i).length=i:=by rw[List.length_take];omega
  rw[htl] at Aju
  have hj:Xj .u64 (Ml (l.take i)) (Ho .u64 b (8*(i:Int)))=Ml (l.take (i+1)):=by
   rw[Amc (by omega) Aju.1 (by rw[Amj];exact Aju.2) hbb.1 hbb.2,List.take_add_one,h2,Rp,htl,Amj]
   simp[Ml]
  rw[Ka];simp (disch:=omega) only[Ep,S3,Fx,ati h2,w,w8,wb,hj];exact ih
theorem BI {l:List Int}(hb:R1 l)(hl:l.length<=8)(hfu:100<=fu):Af (CX xs) prog fu (d+1) N2 [.lst false 1 l.length (Aq .u8 l)]=some ⟨[.sc (.int .u64 (Ml l))],[]⟩:=by
 rw[Wk];exact V6 hb hl l 0 fu rfl (by omega) (by omega)
theorem BJ (k:IntKind)(l:List Int)(i:Nat):List.drop i (Aq k l)=Aq k (l.drop i):=by
 have:=Sv (Sw k) l i
 simpa using this
theorem Ic (k:IntKind)(l:List Int)(i:Nat):List.take i (Aq k l)=Aq k (l.take i):=by
 have:=Xc (Sw k) l i
 simpa using this
theorem R1.drop {l:List Int}(h:R1 l)(i:Nat):R1 (l.drop i):=fun x hx=>h x (List.mem_of_mem_drop hx)
theorem R1.take {l:List Int}(h:R1 l)(i:Nat):R1 (l.take i):=fun x hx=>h x (List.mem_of_mem_take hx)
theorem Aef {a0 a1:Int}{n:Nat}{c:List PV}{l:List Int}(hb:R1 l)(hl:l.length<=1099511627776)(hfu:100<=fu)(nn:Nat)(v:W4):
  Ge fu (Af (CX xs) prog fu (d+3)) a0 a1 n c (nn+1) l.length (Aq .u8 l) ((l.length / 8:Nat):Int) ((l.length / 8:Nat):Int) ((l.length / 8:Nat):Int) v.a v.b v.c v.d=some ⟨[.sc (.int .u64 (TP (SB (Mv v (Ji l)))))],[]⟩:=by
 have w8:wrap .i64 (8*((l.length / 8:Nat):Int))=((8*(l.length / 8):Nat):Int):=by rw[wrap_i64 (by omega) (by omega)];omega
 have wl:wrap .u64 (l.length:Int)=l.length:=Dq (by omega) (by omega)
 have NA:(l.drop (8*(l.length / 8))).length=l.length-8*(l.length / 8):=List.length_drop;have li:=BI (xs:=xs) (fu:=fu) (d:=d+2) (hb.drop (8*(l.length / 8))) (by omega) hfu
 rw[NA] at li;have tk:List.take (l.length-8*(l.length / 8)) (Aq .u8 (l.drop (8*(l.length / 8))))=Aq .u8 (l.drop (8*(l.length / 8))):=Qq (by rw[A1,NA];omega)
 have hbn:=M8 (hb.drop (8*(l.length / 8)));rw[NA] at hbn
 have hp7:(256:Int) ^ (l.length-8*(l.length / 8))<=256 ^ 7:=by
  have:(256:Nat) ^ (l.length-8*(l.length / 8))<=256 ^ 7:=Nat.pow_le_pow_right (by omega) (by omega)
  have h2:(((256:Nat) ^ (l.length-8*(l.length / 8)):Nat):Int)<=((256 ^ 7:Nat):Int):=by omega
  simpa using h2
 have Anl:Xj .u64 (Ml (l.drop (8*(l.length / 8)))) (Ho .u64 (l.length:Int) 56)=Ji l:=by
  have hs:Ho .u64 (l.length:Int) 56=(((l.length % 256)*2 ^ 56:Nat):Int):=by
   show wrap .u64 ((l.length:Int)*2 ^ (min (56:Int).toNat IntKind.u64.bits))=_;have h2:(2:Int) ^ (min (56:Int).toNat IntKind.u64.bits)=72057594037927936:=by decide
   have h3:(2:Nat) ^ 56=72057594037927936:=by decide
   rw[h2,h3];simp only[wrap,IntKind.signed,IntKind.bits];simp;omega
  have h56:(256:Int) ^ 7=((2 ^ 56:Nat):Int):=by decide
  have h3:(2:Nat) ^ 56=72057594037927936:=by decide
  rw[hs,(DV 56 (l.length % 256) hbn.1 (by omega) rfl (by omega)).1]
  unfold Ji;omega
 have ab:=CE (xs:=xs) (fu:=fu) (d:=d) hfu v (Ji l);have r4:=BK (xs:=xs) (fu:=fu) (d:=d+1) 4 (by omega) hfu ⟨(Mv v (Ji l)).a,(Mv v (Ji l)).b,C6 .u64 (Mv v (Ji l)).c 255,(Mv v (Ji l)).d⟩
 have e4:((4:Nat):Int)=4:=rfl;rw[e4] at r4;unfold SB;generalize Mv v (Ji l)=U at ab r4 ⊢;generalize NS 4 ⟨U.a,U.b,C6 .u64 U.c 255,U.d⟩=R at r4 ⊢;simp only[W4.cells] at ab r4;rw[N0];simp (disch:=omega) only[Ep,S3,Fx,w8,wl,BJ,tk,li,Anl,ab,r4];rfl
theorem KC {a0 a1:Int}{n:Nat}{c:List PV}{l:List Int}(hb:R1 l)(hl:l.length<=1099511627776)(hfu:100<=fu):∀(k i nn:Nat)(v:W4),i+k=l.length / 8->k<nn ->
  Ge fu (Af (CX xs) prog fu (d+3)) a0 a1 n c nn l.length (Aq .u8 l) ((l.length / 8:Nat):Int) ((l.length / 8:Nat):Int) i v.a v.b v.c v.d=some ⟨[.sc (.int .u64 (TP (SB (Mv (AF k v (l.drop (8*i))) (Ji l)))))],[]⟩
 |_,_,0,_,_,h=>by omega
 |0,i,nn+1,v,hi,hn=>by
  have e:i=l.length / 8:=by omega
  subst e;exact Aef hb hl hfu nn v
 |k+1,i,nn+1,v,hi,hn=>by
  have w:wrap .i64 ((i:Int)+1)=((i+1:Nat):Int):=by rw[wrap_i64 (by omega) (by omega)];omega
  have w8:wrap .i64 (8*(i:Int))=((8*i:Nat):Int):=by rw[wrap_i64 (by omega) (by omega)];omega
  have w88:wrap .i64 (((8*i:Nat):Int)+8)=((8*i+8:Nat):Int):=by rw[wrap_i64 (by omega) (by omega)];omega
  have NA:((l.drop (8*i)).take 8).length=8:=by rw[List.length_take,List.length_drop];omega
  have li:=BI (xs:=xs) (fu:=fu) (d:=d+2) ((hb.drop (8*i)).take 8) (by omega) hfu
  rw[NA] at li;have e8:8*i+8-8*i=8:=by omega
  have ab:=CE (xs:=xs) (fu:=fu) (d:=d) hfu v (Ml ((l.drop (8*i)).take 8));have ih:=KC (a0:=a0) (a1:=a1) (n:=n) (c:=c) hb hl hfu k (i+1) nn (Mv v (Ml ((l.drop (8*i)).take 8))) (by omega) (by omega)
  have eN:AF (k+1) v (l.drop (8*i))=AF k (Mv v (Ml ((l.drop (8*i)).take 8))) (l.drop (8*(i+1))):=by
   rw[AF,List.drop_drop,show 8*i+8=8*(i+1) by omega]
  rw[eN];generalize Mv v (Ml ((l.drop (8*i)).take 8))=U at ab ih ⊢;simp only[W4.cells] at ab;rw[N0];simp (disch:=omega) only[Ep,S3,Fx,w,w8,w88,e8,BJ,Ic,li,ab];exact ih
theorem Akd {l:List Int}(hb:R1 l)(hl:l.length<=1099511627776)(hfu:100<=fu)(hf:l.length<fu)(k0 k1:Int):Af (CX xs) prog fu (d+4) Tn [.sc (.int .u64 k0),.sc (.int .u64 k1),.lst false 1 l.length (Aq .u8 l)]=some ⟨[.sc (.int .u64 (Air k0 k1 l))],[]⟩:=by
 rw[FP]
 have w:wrap .i64 (Int.tdiv (l.length:Int) 8)=((l.length / 8:Nat):Int):=by
  rw[Int.tdiv_eq_ediv_of_nonneg (by omega),wrap_i64 (by omega) (by omega)]
  omega
 have lp:=KC (xs:=xs) (fu:=fu) (d:=d) (a0:=k0) (a1:=k1) (n:=l.length) (c:=Aq .u8 l) hb hl hfu (l.length / 8) 0 fu (Ai9 k0 k1) (by omega) (by omega)
 simp only[Ip,w];exact lp
theorem J4 (v:W4):Af (CX xs) prog fu (d+2) Jn [.agg [.sc (.int .u64 v.a),.sc (.int .u64 v.b),.sc (.int .u64 v.c),.sc (.int .u64 v.d)]]=some ⟨[.agg (AB v).cells],[]⟩:=by
 have r13:=fun x=>WI (xs:=xs) (fu:=fu) (d:=d) (x:=x) (k:=13) (by simp)
 have r16:=fun x=>WI (xs:=xs) (fu:=fu) (d:=d) (x:=x) (k:=16) (by simp)
 have r17:=fun x=>WI (xs:=xs) (fu:=fu) (d:=d) (x:=x) (k:=17) (by simp)
 have r21:=fun x=>WI (xs:=xs) (fu:=fu) (d:=d) (x:=x) (k:=21) (by simp)
 have r32:=fun x=>WI (xs:=xs) (fu:=fu) (d:=d) (x:=x) (k:=32) (by simp)
 rw[Qa];simp (disch:=omega) only[Ep,r13,r16,r17,r21,r32];rfl
def N5 (l:List Int)(i k:Nat):Int:=if i+k<l.length then l.getD (i+k) 0 else if k=7 then (l.length:Int) % 256 else 0
def pc (l:List Int)(i:Nat):List Int:=(List.range 8).map (N5 l i)
theorem Asd {l:List Int}(hb:R1 l)(i:Nat):R1 (pc l i):=by
 intro x hx;obtain⟨k,hk,rfl⟩:=List.mem_map.1 hx;unfold N5;split
 ·rename_i h;rw[List.getD_eq_getElem?_getD,List.getElem?_eq_getElem h];exact hb _ (List.getElem_mem h)
 ·split<;>omega
theorem Ae8 {l:List Int}{i:Nat}(h:i+8<=l.length):pc l i=(l.drop i).take 8:=by
 refine List.ext_getElem (by simp[pc];omega) fun k h1 h2=>?_
 have hk:k<8:=by simpa [pc] using h1
 simp only[pc,List.getElem_map,List.getElem_range,List.getElem_take,List.getElem_drop,N5];rw[Lw (by omega),List.getD_eq_getElem?_getD,List.getElem?_eq_getElem (by omega)]
 rfl
theorem DR (x:Int):∀n,Ml (List.replicate n 0++[x])=256 ^ n*x
 |0=>by simp[Ml]
 |n+1=>by
  rw[List.replicate_succ,List.cons_append,Ml,DR x n,Int.pow_succ,Int.mul_comm (256 ^ n) 256,Int.mul_assoc];omega
theorem Ad1 {l:List Int}:Ml (pc l (8*(l.length / 8)))=Ji l:=by
 have e:pc l (8*(l.length / 8))=l.drop (8*(l.length / 8))++(List.replicate (7-(l.length-8*(l.length / 8))) 0++[(l.length:Int) % 256]):=by
  refine List.ext_getElem (by simp[pc];omega) fun k h1 h2=>?_
  have hk:k<8:=by simpa [pc] using h1
  simp only[pc,List.getElem_map,List.getElem_range,N5];by_cases hc:8*(l.length / 8)+k<l.length
  ·rw[Lw hc,List.getElem_append_left (by rw[List.length_drop];omega),List.getElem_drop,List.getD_eq_getElem?_getD,List.getElem?_eq_getElem hc]
   rfl
  ·rw[Lz hc,List.getElem_append_right (by rw[List.length_drop];omega)]
   by_cases h7:k=7
   ·rw[Lw h7,List.getElem_append_right (by simp;omega)]
    simp
   ·rw[Lz h7,List.getElem_append_left (by simp;omega)]
    simp
 rw[e,Rp,DR];unfold Ji
 have:(256:Int) ^ (l.drop (8*(l.length / 8))).length*(256 ^ (7-(l.length-8*(l.length / 8)))*((l.length:Int) % 256))=72057594037927936*((l.length:Int) % 256):=by
  rw[←Int.mul_assoc,←Int.pow_add,List.length_drop];have:l.length-8*(l.length / 8)+(7-(l.length-8*(l.length / 8)))=7:=by omega
  rw[this];rfl
 rw[this]
theorem Aou {a b:Int}(ha:0<=a)(VO:a<72057594037927936)(hb:0<=b)(F8:b<=255):Xj .u64 (Ho .u64 a 8) b=b+256*a:=by
 obtain⟨n,rfl⟩:=Int.eq_ofNat_of_zero_le ha
 have hs:Ho .u64 (n:Int) 8=((n*2 ^ 8:Nat):Int):=by
  have:=PX (a:=(n:Int)) (k:=8) (by omega) (by omega) (by omega) (by
   have:(2 ^ (8:Int).toNat:Nat)=256:=by decide
   rw[this];omega)
  rw[this];have:(2 ^ (8:Int).toNat:Nat)=256:=by decide
  rw[this];have:(2 ^ 8:Nat)=256:=by decide
  rw[this];omega
 have h8:(2 ^ 8:Nat)=256:=by decide
 rw[hs,(DV (a:=b) 8 n hb (by rw[h8];omega) rfl (by rw[h8];omega)).2,h8]
 omega
theorem QD {a0 a1:Int}{n m0:Nat}{c:List PV}{l:List Int}(hb:R1 l)(hl:l.length<=1099511627776){i:Nat}(hi:i<=l.length)(v:W4):∀(j nn:Nat),j<=8->j<nn ->
  Db fu (Af (CX xs) prog fu (d+2)) a0 a1 n c m0 nn l.length (Aq .u8 l) i (Ml ((pc l i).drop j)) ((j:Int)-1) v.cells =
   Dz fu (Af (CX xs) prog fu (d+2)) a0 a1 n c m0 l.length (Aq .u8 l) ((i+8:Nat):Int) (Mv v (Ml (pc l i))).cells
 |_,0,_,h=>by omega
 |0,nn+1,hj,hn=>by
  have w8:wrap .i64 ((i:Int)+8)=((i+8:Nat):Int):=by rw[wrap_i64 (by omega) (by omega)];omega
  have r1:=J4 (xs:=xs) (fu:=fu) (d:=d) ⟨v.a,v.b,v.c,C6 .u64 v.d (Ml (pc l i))⟩;have r2:=J4 (xs:=xs) (fu:=fu) (d:=d) (AB ⟨v.a,v.b,v.c,C6 .u64 v.d (Ml (pc l i))⟩);have eA:Mv v (Ml (pc l i))=Anx (AB (AB ⟨v.a,v.b,v.c,C6 .u64 v.d (Ml (pc l i))⟩)) (Ml (pc l i)):=rfl;rw[eA];generalize AB ⟨v.a,v.b,v.c,C6 .u64 v.d (Ml (pc l i))⟩=U at r1 r2 ⊢;generalize AB U=U2 at r2 ⊢;simp only[W4.cells] at r1 r2;rw[In,Rg _ _ _ (by omega),Ik]
  simp only[W4.cells,List.getD_cons_zero,List.getD_cons_succ,FT,Ip];simp (disch:=first|omega|(simp;done)) only[Ep,Bd,List.take_succ_cons,List.take_zero,List.drop_succ_cons,Ik,List.drop_nil,List.cons_append,List.nil_append,List.append_nil,MI,N6,List.getD_cons_zero,List.getD_cons_succ,r1,r2,w8,Fv,Nat.reduceAdd,Nat.reduceLeDiff,List.append_eq]
  rfl
 |j+1,nn+1,hj,hn=>by
  have ih:=QD (a0:=a0) (a1:=a1) (n:=n) (m0:=m0) (c:=c) hb hl hi v j nn (by omega) (by omega)
  have hw:wrap .i64 ((i:Int)+(((j+1:Nat):Int)-1))=((i+j:Nat):Int):=by rw[wrap_i64 (by omega) (by omega)];omega
  have wj:wrap .i64 (((j+1:Nat):Int)-1-1)=(j:Int)-1:=by rw[wrap_i64 (by omega) (by omega)];omega
  have hd:(pc l i).drop j=N5 l i j::(pc l i).drop (j+1):=by
   rw[List.drop_eq_getElem_cons (by simp[pc];omega)]
   simp[pc]
  have hB:=Asd hb i;have hbn:=M8 (hB.drop (j+1))
  have hp7:(256:Int) ^ ((pc l i).drop (j+1)).length<=72057594037927936:=by
   have Dv:((pc l i).drop (j+1)).length<=7:=by simp[pc]
   have:(256:Nat) ^ ((pc l i).drop (j+1)).length<=256 ^ 7:=Nat.pow_le_pow_right (by omega) Dv
   have h2:(((256:Nat) ^ ((pc l i).drop (j+1)).length:Nat):Int)<=((256 ^ 7:Nat):Int):=by omega
   simpa using h2
  have hc0:0<=N5 l i j∧N5 l i j<=255:=hB _ (by rw[←Ik (l:=pc l i)];exact List.mem_of_mem_drop (i:=j) (by rw[Ik,hd];simp))
  have hj2:Xj .u64 (Ho .u64 (Ml ((pc l i).drop (j+1))) 8) (N5 l i j)=Ml ((pc l i).drop j):=by
   rw[Aou hbn.1 (by omega) hc0.1 hc0.2,hd]
   rfl
  have wc:wrap .u64 (N5 l i j)=N5 l i j:=Dq (by omega) (by omega)
  rw[In,Y1 _ _ _ (by omega)]
  simp only[Ip,hw];by_cases c1:i+j<l.length
  ·have e:N5 l i j=l.getD (i+j) 0:=by unfold N5;rw[Lw c1]
   have e2:l[i+j]?=some (N5 l i j):=by rw[e,List.getD_eq_getElem?_getD,List.getElem?_eq_getElem c1];rfl
   rw[Y1 _ _ _ (by omega)]
   simp (disch:=omega) only[Ep,S3,Fx,ati e2,wc,hj2,wj];exact ih
  ·rw[Rg _ _ _ (by omega)]
   by_cases h7:j=7
   ·subst h7;have e:N5 l i 7=(l.length:Int) % 256:=by unfold N5;rw[Lz c1,Lw rfl]
    have e8:wrap .u8 (l.length:Int)=N5 l i 7:=by
     rw[e];simp only[wrap,IntKind.signed,IntKind.bits];simp
    rw[OO,Lw (by omega),e8,wc,hj2,wj]
    exact ih
   ·have e:N5 l i j=0:=by unfold N5;rw[Lz c1,Lz h7]
    rw[e] at hj2;rw[OO,Lz (by omega),hj2,wj]
    exact ih
theorem BQ {a0 a1:Int}{n:Nat}{c:List PV}{l:List Int}(hb:R1 l)(hl:l.length<=1099511627776)(hfu:100<=fu):∀(k i nn:Nat)(v:W4),i+k=l.length / 8->k+1<nn ->
  Dz fu (Af (CX xs) prog fu (d+2)) a0 a1 n c nn l.length (Aq .u8 l) ((8*i:Nat):Int) v.cells=some ⟨[.sc (.int .u64 (TP (SB (Mv (AF k v (l.drop (8*i))) (Ji l)))))],[]⟩
 |_,_,0,_,_,h=>by omega
 |k,i,nn+1,v,hi,hn=>by
  have step:=QD (xs:=xs) (fu:=fu) (d:=d) (a0:=a0) (a1:=a1) (n:=n) (m0:=nn) (c:=c) hb hl (i:=8*i) (by omega) v 8 fu (by omega) (by omega)
  have e0:Ml ((pc l (8*i)).drop 8)=0:=by rw[List.drop_of_length_le (by simp[pc])];rfl
  rw[e0] at step;rw[I2,Y1 _ _ _ (by omega)]
  refine step.trans ?_;cases k with
  |zero=>
   have e:i=l.length / 8:=by omega
   subst e;rw[Ad1];generalize hv:Mv v (Ji l)=u;obtain⟨nn',rfl⟩:∃nn',nn=nn'+1:=⟨nn-1,by omega⟩
   have r1:=J4 (xs:=xs) (fu:=fu) (d:=d) ⟨u.a,u.b,C6 .u64 u.c 255,u.d⟩;have r2:=J4 (xs:=xs) (fu:=fu) (d:=d) (AB ⟨u.a,u.b,C6 .u64 u.c 255,u.d⟩);have r3:=J4 (xs:=xs) (fu:=fu) (d:=d) (AB (AB ⟨u.a,u.b,C6 .u64 u.c 255,u.d⟩));have r4:=J4 (xs:=xs) (fu:=fu) (d:=d) (AB (AB (AB ⟨u.a,u.b,C6 .u64 u.c 255,u.d⟩)))
   have eF:TP (SB (Mv (AF 0 v (l.drop (8*(l.length / 8)))) (Ji l)))=TP (AB (AB (AB (AB ⟨u.a,u.b,C6 .u64 u.c 255,u.d⟩)))):=by
    rw[AF,hv];rfl
   rw[eF];clear eF;generalize AB ⟨u.a,u.b,C6 .u64 u.c 255,u.d⟩=U1 at r1 r2 r3 r4 ⊢;generalize AB U1=U2 at r2 r3 r4 ⊢;generalize AB U2=U3 at r3 r4 ⊢;generalize AB U3=U4 at r4 ⊢;simp only[W4.cells] at r1 r2 r3 r4;rw[I2,Rg _ _ _ (by omega)]
   simp only[W4.cells,List.getD_cons_zero,List.getD_cons_succ,FT,Ip];simp (disch:=first|omega|(simp;done)) only[Ep,Bd,List.take_succ_cons,List.take_zero,List.drop_succ_cons,Ik,List.drop_nil,List.cons_append,List.nil_append,List.append_nil,MI,N6,List.getD_cons_zero,List.getD_cons_succ,r1,r2,r3,r4,Fv,Nat.reduceAdd,Nat.reduceLeDiff,List.append_eq]
   rfl
  |succ k=>
   have ih:=BQ (a0:=a0) (a1:=a1) (n:=n) (c:=c) hb hl hfu k (i+1) nn (Mv v (Ml (pc l (8*i)))) (by omega) (by omega)
   rw[show 8*i+8=8*(i+1) by omega,ih,Ae8 (by omega)]
   simp only[AF,List.drop_drop];rw[show 8*(i+1)=8*i+8 by omega]
theorem Acy {l:List Int}(hb:R1 l)(hl:l.length<=1099511627776)(hfu:100<=fu)(hf:l.length<fu)(k0 k1:Int):Af (CX xs) prog fu (d+3) Li [.sc (.int .u64 k0),.sc (.int .u64 k1),.lst false 1 l.length (Aq .u8 l)]=some ⟨[.sc (.int .u64 (Air k0 k1 l))],[]⟩:=by
 rw[To];exact BQ (xs:=xs) (fu:=fu) (d:=d) (a0:=k0) (a1:=k1) (n:=l.length) (c:=Aq .u8 l) hb hl hfu (l.length / 8) 0 fu (Ai9 k0 k1) (by omega) (by omega)
theorem Ac7 {l:List Int}(hb:R1 l)(hl:l.length<=1099511627776)(hfu:100<=fu)(hf:l.length<fu)(key dom:Int):Af (CX xs) prog fu (d+4) Lc [.sc (.int .u64 key),.sc (.int .i64 dom),.lst false 1 l.length (Aq .u8 l)]=some ⟨[.sc (.int .u64 (AE key dom l))],[]⟩:=by
 rw[Sr];have s:=Acy (xs:=xs) (fu:=fu) (d:=d) hb hl hfu hf key (wrap .u64 (1+wrap .u64 dom));simp only[Ep,s];rfl
end
end
section
open Go.Proofs.Try (prog)
open Go.IntKind (wrap)
def H8 (w:Int)(k:Nat):Int:=wrap .u8 (AU .u64 w (56-8*(k:Int)))
def E4 (w:Int):List Int:=(List.range' 0 8).map (H8 w)
def Bo (ws:List Int):List Int:=ws.flatMap E4
theorem Dk (w:Int):(E4 w).length=8:=rfl
section
variable {fu d:Nat} {xs:FuncId->Option (List PV->Option Bb)} {call:Aj} {n:Nat} {c:List PV}
theorem KR {ws:List Int}{w:Int}{m0 l:Nat}{i k:Int}:∀(r j nn:Nat)(bs:List Int),8-j=r->r<nn->j<=8->bs.length+r<=34359738368 ->
  Gj fu call n c m0 nn bs.length w l (Aq .u64 ws) k i j (Aq .u8 bs) =
   Fh fu call n c m0 (bs++(List.range' j (8-j)).map (H8 w)).length l (Aq .u64 ws) k (wrap .i64 (i+1)) (Aq .u8 (bs++(List.range' j (8-j)).map (H8 w)))
 |r,j,0,bs,_,h,_,_=>by omega
 |0,j,nn+1,bs,hr,_,hj,_=>by
  have e:j=8:=by omega
  subst e;rw[Lo];simp (disch:=omega) only[Ep];simp
 |r+1,j,nn+1,bs,hr,hn,hj,hb=>by
  have ih:=KR (ws:=ws) (w:=w) (m0:=m0) (l:=l) (i:=i) (k:=k) r (j+1) nn (bs++[H8 w j]) (by omega) (by omega) (by omega) (by simp;omega)
  have e8:=A1 .u8 bs;rw[Lo]
  have hx:wrap .u8 (AU .u64 w (wrap .i64 (56-wrap .i64 (8*(j:Int)))))=H8 w j:=by
   rw[wrap_i64 (x:=8*(j:Int)) (by omega) (by omega),wrap_i64 (by omega) (by omega)]
   rfl
  have h0:0<=wrap .i64 (56-wrap .i64 (8*(j:Int))):=by
   rw[wrap_i64 (x:=8*(j:Int)) (by omega) (by omega),wrap_i64 (by omega) (by omega)]
   omega
  have NZ:List.range' j (8-j)=j::List.range' (j+1) (8-(j+1)):=by
   rw[show 8-j=(8-(j+1))+1 by omega]
   exact List.range'_succ
  simp (disch:=first|omega|exact h0) only[Ep,Fx,hx,tki,KZ,wrap_i64 (x:=(j:Int)+1)];rw[NZ];simp only[Yb,MI,N6,Fv,Zzv,List.map_cons,List.singleton_append] at ih ⊢;exact ih
theorem Zj {ws:List Int}(hl:ws.length<=1073741824)(hfu:100<=fu):∀(r:List Int)(i nn:Nat)(bs:List Int),ws.drop i=r->r.length<nn->bs.length=8*i ->
  Fh fu call n c nn bs.length ws.length (Aq .u64 ws) ws.length i (Aq .u8 bs)=some ⟨[.own 1 (bs++Bo r).length (Aq .u8 (bs++Bo r))],[]⟩
 |r,i,0,_,_,h,_=>by omega
 |[],i,nn+1,bs,h,_,_=>by
  have:=drop_nil h;have e8:=A1 .u8 bs;rw[Le];simp (disch:=omega) only[Ep,Fx,tki,Bo,List.flatMap_nil,List.append_nil]
 |w::r,i,nn+1,bs,h,hn,hb=>by
  obtain⟨h1,h2,h3⟩:=Fj h;simp only[MI] at hn;rw[Le];simp (disch:=omega) only[Ep,S3,Fx,ati h2];rw[show (0:Int)=((0:Nat):Int) from rfl,KR 8 0 fu bs rfl (by omega) (by omega) (by omega),wrap_i64 (by omega) (by omega)]
  have ih:=Zj hl hfu r (i+1) nn (bs++E4 w) h3 (by omega) (by simp[Dk];omega)
  have e:bs++E4 w++Bo r=bs++Bo (w::r):=by simp[Bo]
  rw[e] at ih;exact ih
theorem HD {ws:List Int}(hl:ws.length<=1073741824)(hfu:100<=fu)(hf:ws.length<fu):Af (CX xs) prog fu (d+1) G5 [.lst false 1 ws.length (Aq .u64 ws)]=some ⟨[.own 1 (Bo ws).length (Aq .u8 (Bo ws))],[]⟩:=by
 rw[Zw];simp (disch:=omega) only[Ep,wrap_i64,Int.mul_one];exact Zj hl hfu ws 0 fu [] rfl hf rfl
theorem BX {ws:List Int}{w:Int}{m0 i:Nat}(hw:ws[i]?=some w):∀(r nn:Nat)(j:Int)(bs:List Int),j=(r:Int)-1->r<=8->r<nn->bs.length+r<=34359738368 ->
  Eb fu call n c m0 nn ws.length (Aq .u64 ws) bs.length i j (Aq .u8 bs) =
   Dj fu call n c m0 ws.length (Aq .u64 ws) (bs++(List.range' (8-r) r).map (H8 w)).length (wrap .i64 (i+1)) (Aq .u8 (bs++(List.range' (8-r) r).map (H8 w)))
 |r,0,j,bs,_,_,h,_=>by omega
 |0,nn+1,j,bs,hr,_,_,_=>by
  rw[G9];simp (disch:=omega) only[Ep];simp
 |r+1,nn+1,j,bs,hr,Vl,hn,hb=>by
  have hi:=I6 hw;have ih:=BX (m0:=m0) hw r nn (j-1) (bs++[H8 w (8-(r+1))]) (by omega) (by omega) (by omega) (by simp;omega)
  have e8:=A1 .u8 bs
  have hx:wrap .u8 (AU .u64 w (wrap .u64 (wrap .i64 (8*j))))=H8 w (8-(r+1)):=by
   rw[wrap_i64 (by omega) (by omega),Dq (by omega) (by omega)]
   unfold H8;rw[show 56-8*((8-(r+1):Nat):Int)=8*j by omega]
  have h0:0<=wrap .u64 (wrap .i64 (8*j)):=by
   rw[wrap_i64 (by omega) (by omega),Dq (by omega) (by omega)]
   omega
  have NZ:List.range' (8-(r+1)) (r+1)=(8-(r+1))::List.range' (8-r) r:=by
   rw[List.range'_succ,show 8-(r+1)+1=8-r by omega]
  rw[G9];simp (disch:=first|omega|exact h0) only[Ep,S3,Fx,ati hw,hx,tki,KZ,wrap_i64 (x:=j-1)];rw[NZ];simp only[Yb,MI,N6,Fv,Zzv,List.map_cons,List.singleton_append] at ih ⊢;exact ih
theorem Vn {ws:List Int}(hl:ws.length<=1073741824)(hfu:100<=fu):∀(r:List Int)(i nn:Nat)(bs:List Int),ws.drop i=r->r.length<nn->bs.length=8*i ->
  Dj fu call n c nn ws.length (Aq .u64 ws) bs.length i (Aq .u8 bs)=some ⟨[.own 1 (bs++Bo r).length (Aq .u8 (bs++Bo r))],[]⟩
 |r,i,0,_,_,h,_=>by omega
 |[],i,nn+1,bs,h,_,_=>by
  have:=drop_nil h;have e8:=A1 .u8 bs;rw[Hb];simp (disch:=omega) only[Ep,Fx,tki,Bo,List.flatMap_nil,List.append_nil]
 |w::r,i,nn+1,bs,h,hn,hb=>by
  obtain⟨h1,h2,h3⟩:=Fj h;simp only[MI] at hn;rw[Hb];simp (disch:=omega) only[Ep];rw[BX h2 8 fu 7 bs rfl (by omega) (by omega) (by omega),wrap_i64 (by omega) (by omega)]
  have ih:=Vn hl hfu r (i+1) nn (bs++E4 w) h3 (by omega) (by simp[Dk];omega)
  have e:bs++E4 w++Bo r=bs++Bo (w::r):=by simp[Bo]
  rw[e] at ih;exact ih
theorem BO {ws:List Int}(hl:ws.length<=1073741824)(hfu:100<=fu)(hf:ws.length<fu):Af (CX xs) prog fu (d+1) Eo [.lst false 1 ws.length (Aq .u64 ws)]=some ⟨[.own 1 (Bo ws).length (Aq .u8 (Bo ws))],[]⟩:=by
 rw[Qh];exact Vn hl hfu ws 0 fu [] rfl hf rfl
end
end
section
open Go.IntKind (wrap)
theorem Abr (w:Int)(k:Nat):0<=H8 w k∧H8 w k<=255:=by
 unfold H8;simp only[wrap,IntKind.signed,IntKind.bits];simp;omega
theorem QQ (w:Int):R1 (E4 w):=by
 intro x hx;obtain⟨k,_,rfl⟩:=List.mem_map.1 hx;exact Abr w k
theorem IY (ws:List Int):R1 (Bo ws):=by
 intro x hx;obtain⟨w,_,hx⟩:=List.mem_flatMap.1 hx;exact QQ w x hx
theorem Ng (ws:List Int):(Bo ws).length=8*ws.length:=by
 induction ws with
 |nil=>rfl
 |cons w ws ih=>
  show (E4 w++Bo ws).length=_;rw[Yb,ih,Dk,MI];omega
def Aqf (m:Int)(k:Nat):Int:=wrap .i64 (QY .u64 (AU .u64 m (60-4*(k:Int))) 15)
def dl (m:Int)(i:Nat):List Int:=(List.range i).map (Aqf m)++List.replicate (18-i) 0
theorem Ac3 {a b:List Int}(ha:R1 a)(hb:R1 b):R1 (a++b):=by
 intro x hx;rcases List.mem_append.1 hx with hx|hx
 ·exact ha x hx
 ·exact hb x hx
end
section
open Go.IntKind (wrap)
structure Sd where
 id:List Int
 ht:Int
 root:Int
 model:Int
 fmt:Int
 sh:Bool
 used:Int
 rg:List (Int × Int)
 sus:Bool
 since:Int
 last:Int
def Km (l:List (Int × Int)):List PV:=l.flatMap fun p=>[.sc (.int .i64 p.1),.sc (.int .i64 p.2)]
theorem Jx (l:List (Int × Int)):(Km l).length=l.length*2:=by
 induction l with
 |nil=>rfl
 |cons p r ih=>show ([_,_]++Km r).length=_;rw[Yb,ih,MI];simp;omega
theorem ZD (p:Int × Int)(r:List (Int × Int)):Km (p::r)=.sc (.int .i64 p.1) :: .sc (.int .i64 p.2)::Km r:=rfl
theorem Adt (l r:List (Int × Int)):Km (l++r)=Km l++Km r:=List.flatMap_append
def Sd.cells (x:Sd):List PV:=[.lst false 1 x.id.length (Aq .u8 x.id),.sc (.int .i64 x.ht),.sc (.int .u64 x.root),.sc (.int .u64 x.model),.sc (.int .i64 x.fmt),.sc (.bool x.sh),.sc (.int .u64 x.used),.lst false 2 x.rg.length (Km x.rg),.sc (.bool x.sus),.sc (.int .i64 x.since),.sc (.int .i64 x.last)]
def Ad9 (used leaf:Int):Bool:=used.toNat.testBit leaf.toNat
theorem WG {a b:Int}(ha:0<=a)(ha1:a<=18446744073709551615)(hb:0<=b)(Er:b<=18446744073709551615):QY .u64 a b=((a.toNat &&& b.toNat:Nat):Int):=by
 have e:(BitVec.ofInt 64 a &&& BitVec.ofInt 64 b).toNat=a.toNat &&& b.toNat:=by
  rw[BitVec.toNat_and,BitVec.toNat_ofInt,BitVec.toNat_ofInt]
  congr 1<;>omega
 have Vl:a.toNat &&& b.toNat<=a.toNat:=Nat.and_le_left;show wrap .u64 ((BitVec.ofInt 64 a &&& BitVec.ofInt 64 b).toNat:Int)=_;rw[e];exact Dq (by omega) (by omega)
theorem Yi {n:Nat}(h:n<=15):(2:Nat) ^ n<=32768:=Nat.le_trans (Nat.pow_le_pow_right (by omega) h) (by decide)
theorem Axa {k:Int}(h0:0<=k)(h1:k<=15):Ho .u64 1 k=((2 ^ k.toNat:Nat):Int):=by
 have hp:=Yi (n:=k.toNat) (by omega)
 have e:min k.toNat IntKind.u64.bits=k.toNat:=Nat.min_eq_left (by show k.toNat<=64;omega)
 show wrap .u64 (1*2 ^ (min k.toNat IntKind.u64.bits))=_;rw[e,Int.one_mul,show (2:Int) ^ k.toNat=((2 ^ k.toNat:Nat):Int) by simp]
 generalize 2 ^ k.toNat=m at hp ⊢;exact Dq (by omega) (by omega)
theorem Aox {k:Int}(h0:0<=k)(h1:k<=15):Ho .i64 1 k=((2 ^ k.toNat:Nat):Int):=by
 have hp:=Yi (n:=k.toNat) (by omega)
 have e:min k.toNat IntKind.i64.bits=k.toNat:=Nat.min_eq_left (by show k.toNat<=64;omega)
 show wrap .i64 (1*2 ^ (min k.toNat IntKind.i64.bits))=_;rw[e,Int.one_mul,show (2:Int) ^ k.toNat=((2 ^ k.toNat:Nat):Int) by simp]
 generalize 2 ^ k.toNat=m at hp ⊢;exact wrap_i64 (by omega) (by omega)
theorem Adb (a k:Nat):(a &&& 2 ^ k≠0)↔a.testBit k=true:=by
 constructor
 ·intro h;cases hb:a.testBit k
  ·refine absurd (Nat.eq_of_testBit_eq fun i=>?_) h
   rw[Nat.testBit_and,Nat.testBit_two_pow,Nat.zero_testBit];by_cases e:k=i
   ·subst e;simp[hb]
   ·simp[e]
  ·rfl
 ·intro h e;have:=Nat.testBit_and a (2 ^ k) k;rw[e,Nat.zero_testBit,h,Nat.testBit_two_pow] at this;simp at this
theorem TT {u k:Int}(hu:0<=u)(hu1:u<=18446744073709551615)(h0:0<=k)(h1:k<=15):(QY .u64 u (Ho .u64 1 k) != 0)=Ad9 u k:=by
 have hp:=Yi (n:=k.toNat) (by omega)
 have:=Adb u.toNat k.toNat;unfold Ad9;rw[Axa h0 h1];generalize 2 ^ k.toNat=m at hp this ⊢;rw[WG hu hu1 (by omega) (by omega),S3]
 cases hb:u.toNat.testBit k.toNat
 ·rw[hb] at this;simp only[ne_eq,Bool.false_eq_true,iff_false,Decidable.not_not] at this;rw[this];rfl
 ·rw[hb] at this;simp only[ne_eq,iff_true] at this;simp only[bne_iff_ne,ne_eq];omega
def Ak4 (u k:Int):Int:=Xj .u64 u (Ho .u64 1 k)
def put (f lf:Int):List (Int × Int)->Option (List (Int × Int))
 |[]=>some [(f,lf)]
 |p::r=>if p.1<f then (put f lf r).map (p :: ·) else if p.1=f then (if lf<=p.2 then none else some ((f,lf)::r)) else some ((f,lf)::p::r)
def Asc:List (Int × Int)->Prop
 |[]=>True
 |p::r=>(∀q∈r,p.1<q.1)∧Asc r
def Q7 (c:Sd)(leaf from_:Int):Bool:=decide (c.ht<0)||decide (c.ht>4)||decide (from_<0)||decide (from_>leaf)||decide (leaf>=Ho .i64 1 c.ht)
def Wf (c:Sd)(leaf from_ now:Int):Sd × Int:=
 if Q7 c leaf from_=true then (c,9)
 else if c.sus=true then (c,39)
 else if Ad9 c.used leaf=true then ({ c with sus:=true },37)
 else match put from_ leaf c.rg with
  |none=>(c,37)
  |some r=>({ c with used:=Ak4 c.used leaf,rg:=r,last:=now },0)
structure Sd.ok (c:Sd):Prop where
 idB:R1 c.id
 idL:c.id.length<=1000000
 u0:0<=c.used
 u1:c.used<=18446744073709551615
 asc:Asc c.rg
 rgn:c.rg.length<=1000
theorem LP {c:Sd}{leaf from_:Int}(h:Q7 c leaf from_=false):0<=from_∧from_<=leaf∧leaf<=15∧0<=c.ht∧c.ht<=4∧leaf<((2 ^ c.ht.toNat:Nat):Int):=by
 unfold Q7 at h;simp only[Bool.or_eq_false_iff,decide_eq_false_iff_not] at h;obtain⟨⟨⟨⟨h1,h2⟩,h3⟩,h4⟩,h5⟩:=h;rw[Aox (by omega) (by omega)] at h5
 have hp:(2:Nat) ^ c.ht.toNat<=2 ^ 4:=Nat.pow_le_pow_right (by omega) (by omega)
 have h16:(2:Nat) ^ 4=16:=by decide
 omega
end
section
open Go.IntKind (wrap)
structure Cv where
 nm:ByteArray
 us:ByteArray
 cr:List Sd
abbrev Dg (l:List Sd):List PV:=l.flatMap Sd.cells
def Cv.cells (a:Cv):List PV:=[.sc (.string a.nm),.sc (.string a.us),.lst false 11 a.cr.length (Dg a.cr)]
abbrev Cq (l:List Cv):List PV:=l.flatMap Cv.cells
theorem Nd (l:List Sd):(Dg l).length=l.length*11:=Y3 (f:=Sd.cells) (k:=11) (fun _=>rfl) l
theorem KG (l:List Cv):(Cq l).length=l.length*3:=Y3 (f:=Cv.cells) (k:=3) (fun _=>rfl) l
theorem Dl {l:List Sd}{i:Nat}{c:Sd}(h:l[i]?=some c) {j:Nat}(hj:j<11):(Dg l).getD (i*11+j) .top=c.cells.getD j .top:=CO (f:=Sd.cells) (k:=11) (fun _=>rfl) h hj
theorem H6 {l:List Cv}{i:Nat}{c:Cv}(h:l[i]?=some c) {j:Nat}(hj:j<3):(Cq l).getD (i*3+j) .top=c.cells.getD j .top:=CO (f:=Cv.cells) (k:=3) (fun _=>rfl) h hj
def PO (a b:ByteArray):Bool:=Array.toList a.data==Array.toList b.data
def BL (nm:ByteArray):Nat->List Cv->Option Nat
 |_,[]=>none
 |i,a::r=>if PO a.nm nm=true then some i else BL nm (i+1) r
def Nr (o:Option Nat):List PV:=match o with|some i=>[.sc (.int .i64 (i:Int)),.sc (.bool true)]|none=>[.sc (.int .i64 0),.sc (.bool false)]
theorem Vf {nm:ByteArray}:∀{l:List Cv}{i k:Nat},BL nm i l=some k->i<=k∧k<i+l.length∧∃a,l[k-i]?=some a∧PO a.nm nm=true
 |[],_,_,h=>by cases h
 |a::r,i,k,h=>by
  unfold BL at h;split at h
  ·rename_i ha;cases h;exact⟨Nat.le_refl _,by simp,a,by simp,ha⟩
  ·obtain⟨h1,h2,b,h3,h4⟩:=Vf h;refine⟨by omega,by simp;omega,b,?_,h4⟩
   rw[show k-i=(k-(i+1))+1 by omega]
   exact h3
def Q1 (a b:List Int):Bool:=(a.map fun n:Int=>n.toNat.toUInt8)==(b.map fun n:Int=>n.toNat.toUInt8)
def QJ (id:List Int):Nat->List Sd->Option Nat
 |_,[]=>none
 |i,c::r=>if Q1 c.id id=true then some i else QJ id (i+1) r
def AZ (id:List Int):Nat->List Cv->Option (Nat × Nat)
 |_,[]=>none
 |i,a::r=>match QJ id 0 a.cr with|some k=>some (i,k)|none=>AZ id (i+1) r
theorem YR {id:List Int}:∀{l:List Sd}{i k:Nat},QJ id i l=some k->i<=k∧k<i+l.length
 |[],_,_,h=>by cases h
 |a::r,i,k,h=>by
  unfold QJ at h;split at h
  ·cases h;exact⟨Nat.le_refl _,by simp⟩
  ·obtain⟨h1,h2⟩:=YR h;exact⟨by omega,by simp;omega⟩
def Ry (l:List Cv)(nm us:ByteArray)(c:Sd):List Cv × Int:=
 if nm.size<1∨32<nm.size then ([],9)
 else if c.id.length≠176 then ([],4)
 else if (AZ c.id 0 l).isSome=true then ([],10)
 else match BL nm 0 l with
  |some i=>(match l[i]? with
   |some a=>if 4<=a.cr.length then ([],12) else (l.set i { a with cr:=a.cr++[c] },0)
   |none=>([],12))
  |none=>if 16<=l.length then ([],12) else (l++[⟨nm,us,[c]⟩],0)
def VZ (l:List Cv)(nm:ByteArray)(id:List Int):Option (Nat × Nat × Cv):=
 match BL nm 0 l with
 |some i=>(match l[i]? with
  |some a=>(match QJ id 0 a.cr with|some k=>some (i,k,a)|none=>none)
  |none=>none)
 |none=>none
def Aiz (l:List Cv)(nm:ByteArray)(c:Sd):List Cv × Int:=
 match VZ l nm c.id with
 |some (i,k,a)=>(l.set i { a with cr:=a.cr.set k c },0)
 |none=>([],11)
def Ah3 (l:List Cv)(nm:ByteArray)(id:List Int):List Cv × Int:=
 match VZ l nm id with
 |some (i,k,a)=>(l.set i { a with cr:=a.cr.eraseIdx k },0)
 |none=>([],11)
def u8L:List PV->Option (List Int)
 |[]=>some []
 |.sc (.int .u8 n)::r=>(u8L r).map (n :: ·)
 |_=>none
def rgL:List PV->Option (List (Int × Int))
 |[]=>some []
 |.sc (.int .i64 a) :: .sc (.int .i64 b)::r=>(rgL r).map ((a,b) :: ·)
 |_=>none
def Ks:List PV->Option (List Sd)
 |[]=>some []
 |.lst false 1 n0 c0 :: .sc (.int .i64 a1) :: .sc (.int .u64 a2) :: .sc (.int .u64 a3) :: .sc (.int .i64 a4) :: .sc (.bool a5) :: .sc (.int .u64 a6) :: .lst false 2 n7 c7 :: .sc (.bool a8) :: .sc (.int .i64 a9) :: .sc (.int .i64 a10)::r=>
  match u8L c0,rgL c7,Ks r with
  |some i,some g,some l=>bif Nat.beq i.length n0&&Nat.beq g.length n7&&Nat.ble n0 1000000&&Nat.ble n7 1000 then some (⟨i,a1,a2,a3,a4,a5,a6,g,a8,a9,a10⟩::l) else none
  |_,_,_=>none
 |_=>none
def Ph:List PV->Option (List Cv)
 |[]=>some []
 |.sc (.string nm) :: .sc (.string us) :: .lst false 11 m c::r=>
  match Ks c,Ph r with
  |some s,some l=>bif Nat.beq s.length m&&Nat.ble m 1000 then some (⟨nm,us,s⟩::l) else none
  |_,_=>none
 |_=>none
theorem EB:∀{c:List PV}{l:List Int},u8L c=some l->c=Aq .u8 l
 |[],l,h=>by cases h;rfl
 |p::c,l,h=>by
  unfold u8L at h;split at h
  ·rename_i GY;cases GY
  ·rename_i n r' GY;cases GY;cases hr:u8L c with
   |none=>rw[hr] at h;cases h
   |some l'=>
    rw[hr] at h;cases h;rw[EB hr];rfl
  ·cases h
theorem QM:∀l:List Int,u8L (Aq .u8 l)=some l
 |[]=>rfl
 |n::l=>by
  show (u8L (Aq .u8 l)).map _=_;rw[QM l];rfl
theorem QU:∀{c:List PV}{l:List (Int × Int)},rgL c=some l->c=Km l
 |[],l,h=>by cases h;rfl
 |[p],l,h=>by
  unfold rgL at h;split at h
  ·rename_i GY;cases GY
  ·rename_i GY;cases GY
  ·cases h
 |p::q::c,l,h=>by
  unfold rgL at h;split at h
  ·rename_i GY;cases GY
  ·rename_i a b r GY;cases GY;cases hr:rgL c with
   |none=>rw[hr] at h;cases h
   |some l'=>
    rw[hr] at h;cases h;rw[QU hr];rfl
  ·cases h
theorem PH:∀l:List (Int × Int),rgL (Km l)=some l
 |[]=>rfl
 |(a,b)::l=>by
  show (rgL (Km l)).map _=_;rw[PH l];rfl
def Sd.sm (c:Sd):Prop:=c.id.length<=1000000∧c.rg.length<=1000
def Cv.sm (a:Cv):Prop:=a.cr.length<=1000∧∀c∈a.cr,c.sm
theorem LO (c:Sd)(r:List PV)(h:c.sm):Ks (c.cells++r)=(Ks r).map (c :: ·):=by
 show (match u8L (Aq .u8 c.id),rgL (Km c.rg),Ks r with
  |some i,some g,some l=>bif Nat.beq i.length c.id.length&&Nat.beq g.length c.rg.length&&Nat.ble c.id.length 1000000&&Nat.ble c.rg.length 1000 then some ((⟨i,c.ht,c.root,c.model,c.fmt,c.sh,c.used,g,c.sus,c.since,c.last⟩:Sd)::l) else none
  |_,_,_=>none)=_
 rw[QM,PH];cases Ks r with
 |none=>rfl
 |some l=>
  have e:(Nat.beq c.id.length c.id.length&&Nat.beq c.rg.length c.rg.length&&Nat.ble c.id.length 1000000&&Nat.ble c.rg.length 1000)=true:=by
   rw[Nat.beq_refl,Nat.beq_refl,Nat.ble_eq_true_of_le h.1,Nat.ble_eq_true_of_le h.2];rfl
  simp only[e,cond_true];rfl
theorem U8:∀{l:List Sd},(∀c∈l,c.sm)->Ks (Dg l)=some l
 |[],_=>rfl
 |c::l,h=>by
  show Ks (c.cells++Dg l)=_;rw[LO c _ (h c (by simp)),U8 fun x hx=>h x (by simp[hx])];rfl
theorem Yv:∀{l:List Cv},(∀a∈l,a.sm)->Ph (Cq l)=some l
 |[],_=>rfl
 |a::l,h=>by
  have ha:=h a (by simp)
  show (match Ks (Dg a.cr),Ph (Cq l) with
   |some s,some l=>bif Nat.beq s.length a.cr.length&&Nat.ble a.cr.length 1000 then some ((⟨a.nm,a.us,s⟩:Cv)::l) else none
   |_,_=>none)=_
  rw[U8 ha.2,Yv fun x hx=>h x (by simp[hx])]
  have e:(Nat.beq a.cr.length a.cr.length&&Nat.ble a.cr.length 1000)=true:=by
   rw[Nat.beq_refl,Nat.ble_eq_true_of_le ha.1];rfl
  simp only[e,cond_true]
theorem U7:∀(m:Nat){c:List PV}{l:List Sd},c.length<=m->Ks c=some l->c=Dg l∧∀x∈l,x.sm
 |0,c,l,hm,h=>by
  have:=List.length_eq_zero_iff.1 (Nat.le_zero.1 hm);subst this;cases h;exact⟨rfl,fun x hx=>by cases hx⟩
 |m+1,c,l,hm,h=>by
  unfold Ks at h;split at h
  ·cases h;exact⟨rfl,fun x hx=>by cases hx⟩
  ·rename_i n0 c0 a1 a2 a3 a4 a5 a6 n7 c7 a8 a9 a10 r;split at h
   ·rename_i i g l' h1 h2 h3;cases hq:(Nat.beq i.length n0&&Nat.beq g.length n7&&Nat.ble n0 1000000&&Nat.ble n7 1000)<;>rw[hq] at h
    ·cases h
    ·cases h;simp only[Bool.and_eq_true] at hq;obtain⟨⟨⟨q1,q2⟩,q3⟩,q4⟩:=hq;obtain⟨e,hl⟩:=U7 m (by simp at hm;omega) h3
     have q1:=Nat.eq_of_beq_eq_true q1;have q2:=Nat.eq_of_beq_eq_true q2;subst q1;subst q2;rw[EB h1,QU h2,e];refine⟨rfl,fun x hx=>?_⟩
     rcases List.mem_cons.1 hx with rfl|hx
     ·exact⟨Nat.le_of_ble_eq_true q3,Nat.le_of_ble_eq_true q4⟩
     ·exact hl x hx
   ·cases h
  ·cases h
theorem Nj:∀(m:Nat){c:List PV}{l:List Cv},c.length<=m->Ph c=some l->c=Cq l∧∀x∈l,x.sm
 |0,c,l,hm,h=>by
  have:=List.length_eq_zero_iff.1 (Nat.le_zero.1 hm);subst this;cases h;exact⟨rfl,fun x hx=>by cases hx⟩
 |m+1,c,l,hm,h=>by
  unfold Ph at h;split at h
  ·cases h;exact⟨rfl,fun x hx=>by cases hx⟩
  ·rename_i nm us k c r;split at h
   ·rename_i s l' h1 h3;cases hq:(Nat.beq s.length k&&Nat.ble k 1000)<;>rw[hq] at h
    ·cases h
    ·cases h;simp only[Bool.and_eq_true] at hq;obtain⟨q1,q2⟩:=hq;obtain⟨e,hl⟩:=Nj m (by simp at hm;omega) h3
     obtain⟨e1,hs⟩:=U7 _ (Nat.le_refl _) h1;have q1:=Nat.eq_of_beq_eq_true q1;subst q1;rw[e1,e];refine⟨rfl,fun x hx=>?_⟩
     rcases List.mem_cons.1 hx with rfl|hx
     ·exact⟨Nat.le_of_ble_eq_true q2,hs⟩
     ·exact hl x hx
   ·cases h
  ·cases h
def R6 (r:List Cv × Int):Bb:=⟨[.lst false 3 r.1.length (Cq r.1),.sc (.int .i64 r.2)],[]⟩
def Aay (args:List PV):Option Bb:=
 match args with
 |[.lst false 3 n c,.sc (.string nm),.sc (.string us),.agg s]=>
  match Ph c,Ks s with
  |some l,some [x]=>bif Nat.beq l.length n&&Nat.ble n 1000 then some (R6 (Ry l nm us x)) else none
  |_,_=>none
 |_=>none
def Ail (args:List PV):Option Bb:=
 match args with
 |[.lst false 3 n c,.sc (.string nm),.agg s]=>
  match Ph c,Ks s with
  |some l,some [x]=>bif Nat.beq l.length n&&Nat.ble n 1000 then some (R6 (Aiz l nm x)) else none
  |_,_=>none
 |_=>none
def Aho (args:List PV):Option Bb:=
 match args with
 |[.lst false 3 n c,.sc (.string nm),.lst false 1 k i]=>
  match Ph c,u8L i with
  |some l,some id=>bif Nat.beq l.length n&&Nat.ble n 1000&&Nat.beq id.length k&&Nat.ble k 1000000 then some (R6 (Ah3 l nm id)) else none
  |_,_=>none
 |_=>none
end
section
open Go.IntKind (wrap)
def Y4:PV->Bool
 |.sc (.int .i64 _)=>true
 |_=>false
def ZR (args:List PV):Option Bb:=
 match args with
 |[.own 2 n c,.sc (.int .i64 i),.tup [.own 2 1 [.sc (.int .i64 f),.sc (.int .i64 l)]]]=>
  bif Nat.beq c.length (n*2)&&decide (0<=i)&&decide (i<=n)&&Nat.ble n 100000&&c.all Y4 then
   some ⟨[.own 2 (n+1) (c.take (i.toNat*2)++(.sc (.int .i64 f) :: .sc (.int .i64 l)::c.drop (i.toNat*2)))],[[.sc (.int .i64 f),.sc (.int .i64 l)]]⟩
  else none
 |_=>none
def Hu (f:FuncId):Option (List PV->Option Bb):=
 bif Nat.beq f 36 then some Oe else
 bif Nat.beq f 46 then some ZR else
 bif Nat.beq f 11 then some Aay else
 bif Nat.beq f 18 then some Ail else
 bif Nat.beq f 16 then some Aho else
 bif Nat.beq f 1000000 then some (fun _=>none) else none
abbrev C0:Fy:=CX Hu
end
section
open Go.Proofs.Try (prog)
open Go.IntKind (wrap)
set_option maxRecDepth 100000
abbrev Q3:FuncId:=32
theorem AW {xs:FuncId->Option (List PV->Option Bb)} (fu d a0n:Nat)(a0:List PV):Af (CX xs) prog fu (d+1) Q3 [.lst false 1 a0n a0]=(fun (call:Aj)=>Cg (decide (0<a0n)) (Au (decide (a0.length=a0n*1)&&decide ((0+a0n)*1<=1099511627776)&&decide (0+a0n<=1099511627776))<|Aa (0+a0n) fun x1=>Aa ([]++a0) fun x2=>Au (decide (x1*1<=x2.length))<|some (Bb.mk [.own 1 x1 (List.take (x1*1) x2)] [])) (V1 (some (Bb.mk [.own 1 0 []] [])) (Au (decide (a0.length=a0n*1)&&decide ((0+a0n)*1<=1099511627776)&&decide (0+a0n<=1099511627776))<|Aa (0+a0n) fun x3=>Aa ([]++a0) fun x4=>Au (decide (x3*1<=x4.length))<|some (Bb.mk [.own 1 x3 (List.take (x3*1) x4)] [])))) (Af (CX xs) prog fu d):=by kernel_rfl
abbrev Qs:FuncId:=55
theorem BE {xs:FuncId->Option (List PV->Option Bb)} (fu d a0n:Nat)(a0:List PV)(Sc:Nat)(a1:List PV):Af (CX xs) prog fu (d+1) Qs [.lst false 1 a0n a0,.lst false 1 Sc a1]=(fun (call:Aj)=>Au (decide (a0.length=a0n))<|C7 (bytesOf a0) fun x1=>Au (decide (a1.length=Sc))<|C7 (bytesOf a1) fun x2=>some (Bb.mk [.sc (.bool (Array.toList (ByteArray.data (ByteArray.mk (List.toArray x1)))==Array.toList (ByteArray.data (ByteArray.mk (List.toArray x2)))))] [])) (Af (CX xs) prog fu d):=by kernel_rfl
abbrev Iu:FuncId:=48
theorem Pf {xs:FuncId->Option (List PV->Option Bb)} (fu d a0n:Nat)(a0:List PV):Af (CX xs) prog fu (d+1) Iu [.lst false 2 a0n a0]=(fun (call:Aj)=>Cg (decide (0<a0n)) (Au (decide (a0.length=a0n*2)&&decide ((0+a0n)*16<=1099511627776)&&decide (0+a0n<=1099511627776))<|Aa (0+a0n) fun x1=>Aa ([]++a0) fun x2=>Au (decide (x1*2<=x2.length))<|some (Bb.mk [.own 2 x1 (List.take (x1*2) x2)] [])) (V1 (some (Bb.mk [.own 2 0 []] [])) (Au (decide (a0.length=a0n*2)&&decide ((0+a0n)*16<=1099511627776)&&decide (0+a0n<=1099511627776))<|Aa (0+a0n) fun x3=>Aa ([]++a0) fun x4=>Au (decide (x3*2<=x4.length))<|some (Bb.mk [.own 2 x3 (List.take (x3*2) x4)] [])))) (Af (CX xs) prog fu d):=by kernel_rfl
abbrev I3:FuncId:=31
theorem Ol {xs:FuncId->Option (List PV->Option Bb)} (fu d E5:Nat)(D1:List PV)(Ds E2:Int)(Gf Qj:Int)(Qn:Bool)(P9:Int)(Jh:Nat)(Qk:List PV)(Qe:Bool)(P8 Jr:Int):Af (CX xs) prog fu (d+1) I3 [.agg [.lst false 1 E5 D1,.sc (.int .i64 Ds),.sc (.int .u64 E2),.sc (.int .u64 Gf),.sc (.int .i64 Qj),.sc (.bool Qn),.sc (.int .u64 P9),.lst false 2 Jh Qk,.sc (.bool Qe),.sc (.int .i64 P8),.sc (.int .i64 Jr)]]=(fun (call:Aj)=>Ap (call 32 [.lst false 1 E5 D1]) fun x1 x2=>Ae x2<|Ab x1 fun x3 x4=>Oc 1 x3 fun x5 x6=>Ae x4<|Ap (call 48 [.lst false 2 Jh Qk]) fun x7 x8=>Ae x8<|Ab x7 fun x9 L3=>Oc 2 x9 fun Oa K3=>Ae L3<|Au (decide (x5*1<=x6.length))<|Au (decide (Oa*2<=K3.length))<|some (Bb.mk [.agg [.own 1 x5 (List.take (x5*1) x6),.sc (.int .i64 Ds),.sc (.int .u64 E2),.sc (.int .u64 Gf),.sc (.int .i64 Qj),.sc (.bool Qn),.sc (.int .u64 P9),.own 2 Oa (List.take (Oa*2) K3),.sc (.bool Qe),.sc (.int .i64 P8),.sc (.int .i64 Jr)]] [])) (Af (CX xs) prog fu d):=by kernel_rfl
abbrev Ou:FuncId:=14
noncomputable def Gm (fu:Nat)(call:Aj)(a0n:Nat)(a0:List PV)(a1:ByteArray)(nn:Nat)(y0:ByteArray)(y1:Nat)(y2:List PV)(y3 y4:Int):Option Bb:=Cw CB prog fu call 14 Try.f14 (Bz Try.f14) [.lst false 3 a0n a0,.sc (.string a1)] [.r,.l,.r,.l] nn ⟨lk [(1,(.sc (.string y0))),(8,(.lst false 3 y1 y2)),(9,(.sc (.int .i64 y3))),(10,(.sc (.int .i64 y4)))],Fw []⟩
theorem Ln (fu:Nat)(call:Aj)(a0n:Nat)(a0:List PV)(a1:ByteArray)(nn:Nat)(y0:ByteArray)(y1:Nat)(y2:List PV)(y3 y4:Int):Gm fu call a0n a0 a1 (nn+1) y0 y1 y2 y3 y4=(Cg (decide (y4<y3)) (Au (decide (0<=y4)&&decide (y4<(↑y1:Int)))<|En (List.getD y2 (Int.toNat y4*3) .top) fun x1=>En (List.getD y2 (Int.toNat y4*3+1) .top) fun x2=>Eu 11 (List.getD y2 (Int.toNat y4*3+1+1) .top) fun x3 x4 x5=>Cg (Array.toList (ByteArray.data x1)==Array.toList (ByteArray.data y0)) (some (Bb.mk [.sc (.int .i64 y4),.sc (.bool true)] [])) (Aa (wrap .i64 (y4+1)) fun x6=>Gm fu call a0n a0 a1 (nn) (y0) (y1) (y2) (y3) x6)) (some (Bb.mk [.sc (.int .i64 0),.sc (.bool false)] []))):=by kernel_rfl
theorem X2 {xs:FuncId->Option (List PV->Option Bb)} (fu d a0n:Nat)(a0:List PV)(a1:ByteArray):Af (CX xs) prog fu (d+1) Ou [.lst false 3 a0n a0,.sc (.string a1)]=(fun (call:Aj)=>Gm fu call a0n a0 a1 (fu) (a1) (a0n) (a0) ((↑a0n:Int)) 0) (Af (CX xs) prog fu d):=by kernel_rfl
abbrev Kt:FuncId:=43
noncomputable def Es (fu:Nat)(call:Aj)(D1 Ds:ByteArray)(Sn:Nat)(E2:List PV)(Sc:Nat)(a1:List PV)(nn y0:Nat)(y1:List PV)(y2:Nat)(y3:List PV)(y4 y5:Int):Option Bb:=Cw CB prog fu call 43 Try.f43 (Bz Try.f43) [.agg [.sc (.string D1),.sc (.string Ds),.lst false 11 Sn E2],.lst false 1 Sc a1] [.r,.l,.r,.l] nn ⟨lk [(1,(.lst false 1 y0 y1)),(9,(.lst false 11 y2 y3)),(10,(.sc (.int .i64 y4))),(11,(.sc (.int .i64 y5)))],Fw []⟩
theorem Hx (fu:Nat)(call:Aj)(D1 Ds:ByteArray)(Sn:Nat)(E2:List PV)(Sc:Nat)(a1:List PV)(nn y0:Nat)(y1:List PV)(y2:Nat)(y3:List PV)(y4 y5:Int):Es fu call D1 Ds Sn E2 Sc a1 (nn+1) y0 y1 y2 y3 y4 y5=(Cg (decide (y5<y4)) (Au (decide (0<=y5)&&decide (y5<(↑y2:Int)))<|Eu 1 (List.getD y3 (Int.toNat y5*11) .top) fun x1 x2 x3=>Ai .i64 (List.getD y3 (Int.toNat y5*11+1) .top) fun x4=>Ai .u64 (List.getD y3 (Int.toNat y5*11+1+1) .top) fun x5=>Ai .u64 (List.getD y3 (Int.toNat y5*11+1+1+1) .top) fun x6=>Ai .i64 (List.getD y3 (Int.toNat y5*11+1+1+1+1) .top) fun x7=>A5 (List.getD y3 (Int.toNat y5*11+1+1+1+1+1) .top) fun x8=>Ai .u64 (List.getD y3 (Int.toNat y5*11+1+1+1+1+1+1) .top) fun x9=>Eu 2 (List.getD y3 (Int.toNat y5*11+1+1+1+1+1+1+1) .top) fun L3 Oa K3=>A5 (List.getD y3 (Int.toNat y5*11+1+1+1+1+1+1+1+1) .top) fun Rs=>Ai .i64 (List.getD y3 (Int.toNat y5*11+1+1+1+1+1+1+1+1+1) .top) fun Nw=>Ai .i64 (List.getD y3 (Int.toNat y5*11+1+1+1+1+1+1+1+1+1+1) .top) fun O8=>Ap (call 55 [.lst false 1 x2 x3,.lst false 1 y0 y1]) fun Ud T9=>Ae T9<|Ab Ud fun Pt Lg=>A5 Pt fun Q4=>Ae Lg<|Cg Q4 (some (Bb.mk [.sc (.int .i64 y5),.sc (.bool true)] [])) (Aa (wrap .i64 (y5+1)) fun Q8=>Es fu call D1 Ds Sn E2 Sc a1 (nn) (y0) (y1) (y2) (y3) (y4) Q8)) (some (Bb.mk [.sc (.int .i64 0),.sc (.bool false)] []))):=by kernel_rfl
theorem Rj {xs:FuncId->Option (List PV->Option Bb)} (fu d:Nat)(D1 Ds:ByteArray)(Sn:Nat)(E2:List PV)(Sc:Nat)(a1:List PV):Af (CX xs) prog fu (d+1) Kt [.agg [.sc (.string D1),.sc (.string Ds),.lst false 11 Sn E2],.lst false 1 Sc a1]=(fun (call:Aj)=>Es fu call D1 Ds Sn E2 Sc a1 (fu) (Sc) (a1) (Sn) (E2) ((↑Sn:Int)) 0) (Af (CX xs) prog fu d):=by kernel_rfl
abbrev N3:FuncId:=23
noncomputable def F4 (fu:Nat)(call:Aj)(a0n:Nat)(a0:List PV)(Sc:Nat)(a1:List PV)(nn y0:Nat)(y1:List PV)(y2:Nat)(y3:List PV)(y4 y5:Int):Option Bb:=Cw CB prog fu call 23 Try.f23 (Bz Try.f23) [.lst false 3 a0n a0,.lst false 1 Sc a1] [.r,.l,.r,.l] nn ⟨lk [(1,(.lst false 1 y0 y1)),(11,(.lst false 3 y2 y3)),(12,(.sc (.int .i64 y4))),(13,(.sc (.int .i64 y5)))],Fw []⟩
theorem Kc (fu:Nat)(call:Aj)(a0n:Nat)(a0:List PV)(Sc:Nat)(a1:List PV)(nn y0:Nat)(y1:List PV)(y2:Nat)(y3:List PV)(y4 y5:Int):F4 fu call a0n a0 Sc a1 (nn+1) y0 y1 y2 y3 y4 y5=(Cg (decide (y5<y4)) (Au (decide (0<=y5)&&decide (y5<(↑y2:Int)))<|En (List.getD y3 (Int.toNat y5*3) .top) fun x1=>En (List.getD y3 (Int.toNat y5*3+1) .top) fun x2=>Eu 11 (List.getD y3 (Int.toNat y5*3+1+1) .top) fun x3 x4 x5=>Ap (call 43 [.agg [.sc (.string x1),.sc (.string x2),.lst false 11 x4 x5],.lst false 1 y0 y1]) fun x6 x7=>Ae x7<|Ab x6 fun x8 x9=>Ai .i64 x8 fun L3=>Ab x9 fun Oa K3=>A5 Oa fun Rs=>Ae K3<|Cg Rs (some (Bb.mk [.sc (.int .i64 y5),.sc (.int .i64 L3),.sc (.bool true)] [])) (Aa (wrap .i64 (y5+1)) fun Nw=>F4 fu call a0n a0 Sc a1 (nn) (y0) (y1) (y2) (y3) (y4) Nw)) (some (Bb.mk [.sc (.int .i64 0),.sc (.int .i64 0),.sc (.bool false)] []))):=by kernel_rfl
theorem Wj {xs:FuncId->Option (List PV->Option Bb)} (fu d a0n:Nat)(a0:List PV)(Sc:Nat)(a1:List PV):Af (CX xs) prog fu (d+1) N3 [.lst false 3 a0n a0,.lst false 1 Sc a1]=(fun (call:Aj)=>F4 fu call a0n a0 Sc a1 (fu) (Sc) (a1) (a0n) (a0) ((↑a0n:Int)) 0) (Af (CX xs) prog fu d):=by kernel_rfl
abbrev Mm:FuncId:=37
theorem Va {xs:FuncId->Option (List PV->Option Bb)} (fu d a0n:Nat)(a0:List PV)(a1:ByteArray)(Ot:Nat)(a2:List PV):Af (CX xs) prog fu (d+1) Mm [.lst false 3 a0n a0,.sc (.string a1),.lst false 1 Ot a2]=(fun (call:Aj)=>Ap (call 14 [.lst false 3 a0n a0,.sc (.string a1)]) fun x1 x2=>Ae x2<|Ab x1 fun x3 x4=>Ai .i64 x3 fun x5=>Ab x4 fun x6 x7=>A5 x6 fun x8=>Ae x7<|Cg (!x8) (some (Bb.mk [.sc (.int .i64 0),.sc (.int .i64 0),.sc (.bool false)] [])) (Au (decide (0<=x5)&&decide (x5<(↑a0n:Int)))<|En (List.getD a0 (Int.toNat x5*3) .top) fun x9=>En (List.getD a0 (Int.toNat x5*3+1) .top) fun L3=>Eu 11 (List.getD a0 (Int.toNat x5*3+1+1) .top) fun Oa K3 Rs=>Ap (call 43 [.agg [.sc (.string x9),.sc (.string L3),.lst false 11 K3 Rs],.lst false 1 Ot a2]) fun Nw O8=>Ae O8<|Ab Nw fun Ud T9=>Ai .i64 Ud fun Pt=>Ab T9 fun Lg Q4=>A5 Lg fun Q8=>Ae Q4<|some (Bb.mk [.sc (.int .i64 x5),.sc (.int .i64 Pt),.sc (.bool Q8)] []))) (Af (CX xs) prog fu d):=by kernel_rfl
end
section
open Go.Proofs.Try (prog)
open Go.IntKind (wrap)
set_option maxRecDepth 100000
abbrev Cs:FuncId:=62
noncomputable def A0 (fu:Nat)(call:Aj)(n:Nat)(c:List PV)(a1 a2:Int)(nn y0:Nat)(y1 y2 y3:Int)(y4:List PV):Option Bb:=Cw CB prog fu call 62 Try.f62 (Bz Try.f62) [PV.tup [.own 1 n c],.sc (.int .i64 a1),.sc (.int .i64 a2),.sc (Value.func (Fn.func (36:FuncId)) #[] #[])] [.r,.l] nn ⟨lk [(0,(.view 106000 1 0 y0)),(1,(.sc (.int .i64 y1))),(2,(.sc (.int .i64 y2))),(3,(.sc (Value.func (Fn.func (36:FuncId)) #[] #[]))),(8,(.sc (.int .i64 y3)))],Fw [(106000,(.ar false y4))]⟩
noncomputable def Bx (fu:Nat)(call:Aj)(n:Nat)(c:List PV)(a1 a2:Int)(m0 nn y0:Nat)(y1 y2:Int)(y3 y4:Int)(y5:List PV):Option Bb:=Cw CB prog fu call 62 Try.f62 (Bz Try.f62) [PV.tup [.own 1 n c],.sc (.int .i64 a1),.sc (.int .i64 a2),.sc (Value.func (Fn.func (36:FuncId)) #[] #[])] [.r,.l,.i m0,.r,.l,.l,.r,.l] nn ⟨lk [(0,(.view 106000 1 0 y0)),(1,(.sc (.int .i64 y1))),(2,(.sc (.int .i64 y2))),(3,(.sc (Value.func (Fn.func (36:FuncId)) #[] #[]))),(8,(.sc (.int .i64 y3))),(9,(.sc (.int .i64 y4)))],Fw [(106000,(.ar false y5))]⟩
theorem Dm (fu:Nat)(call:Aj)(n:Nat)(c:List PV)(a1 a2:Int)(nn y0:Nat)(y1 y2 y3:Int)(y4:List PV):A0 fu call n c a1 a2 (nn+1) y0 y1 y2 y3 y4=(Cg (decide (y3<y2)) (Bx fu call n c a1 a2 nn (fu) (y0) (y1) (y2) (y3) (y3) (y4)) (some (Bb.mk [] [y4]))):=by kernel_rfl
theorem Dn (fu:Nat)(call:Aj)(n:Nat)(c:List PV)(a1 a2:Int)(m0 nn y0:Nat)(y1 y2:Int)(y3 y4:Int)(y5:List PV):Bx fu call n c a1 a2 m0 (nn+1) y0 y1 y2 y3 y4 y5=(Cg (decide (y4>y1)) (Au (decide (0<=y4)&&decide (y4<(↑y0:Int)))<|Eu 1 (List.getD y5 (0+Int.toNat y4*1) .top) fun x2 x3 x4=>Aa (wrap .i64 (y4-1)) fun x5=>Au (decide (0<=x5)&&decide (x5<(↑y0:Int)))<|Eu 1 (List.getD y5 (0+Int.toNat x5*1) .top) fun x6 x7 x8=>Ap (call (36:FuncId) [.lst false 1 x3 x4,.lst false 1 x7 x8]) fun x9 L3=>Ae L3<|Ab x9 fun Oa K3=>Ai .i64 Oa fun Rs=>Ae K3<|Cg (decide (Rs<0)) (Aa (wrap .i64 (y4-1)) fun Nw=>Aa (wrap .i64 (y4-1)) fun O8=>Au (decide (0<=O8)&&decide (O8<(↑y0:Int)))<|Eu 1 (List.getD y5 (0+Int.toNat O8*1) .top) fun Ud T9 Pt=>Au (decide (0<=y4)&&decide (y4<(↑y0:Int)))<|Eu 1 (List.getD y5 (0+Int.toNat y4*1) .top) fun Lg Q4 Q8=>Au (decide (0<=y4)&&decide (y4<(↑y0:Int)))<|Au (decide (0+Int.toNat y4*1+1<=y5.length))<|Aa (Bd y5 [.lst false 1 T9 Pt] (0+Int.toNat y4*1)) fun Wy=>Au (decide (0<=Nw)&&decide (Nw<(↑y0:Int)))<|Au (decide (0+Int.toNat Nw*1+1<=Wy.length))<|Aa (Bd Wy [.lst false 1 Q4 Q8] (0+Int.toNat Nw*1)) fun V2=>Aa (wrap .i64 (y4-1)) fun Rb=>Bx fu call n c a1 a2 m0 (nn) (y0) (y1) (y2) (y3) Rb V2) (Aa (wrap .i64 (y3+1)) fun GT=>A0 fu call n c a1 a2 (m0) (y0) (y1) (y2) GT (y5))) (Aa (wrap .i64 (y3+1)) fun GZ=>A0 fu call n c a1 a2 (m0) (y0) (y1) (y2) GZ (y5))):=by kernel_rfl
theorem Gr (fu d n:Nat)(c:List PV)(a1 a2:Int):Af C0 prog fu (d+1) Cs [PV.tup [.own 1 n c],.sc (.int .i64 a1),.sc (.int .i64 a2),.sc (Value.func (Fn.func (36:FuncId)) #[] #[])]=(fun (call:Aj)=>Aa (wrap .i64 (a1+1)) fun x1=>A0 fu call n c a1 a2 (fu) (n) (a1) (a2) x1 (c)) (Af C0 prog fu d):=by kernel_rfl
abbrev Fa:FuncId:=51
noncomputable def E7 (fu:Nat)(call:Aj)(n:Nat)(c:List PV)(a1 a2 a3:Int)(nn y0:Nat)(y1 y2 y3:Int)(y4 y5:Bool)(y6:List PV):Option Bb:=Cw CB prog fu call 51 Try.f51 (Bz Try.f51) [PV.tup [.own 1 n c],.sc (.int .i64 a1),.sc (.int .i64 a2),.sc (.int .i64 a3),.sc (Value.func (Fn.func (36:FuncId)) #[] #[])] [.r,.r,.l] nn ⟨lk [(0,(.view 296000 1 0 y0)),(1,(.sc (.int .i64 y1))),(2,(.sc (.int .i64 y2))),(3,(.sc (.int .i64 y3))),(4,(.sc (Value.func (Fn.func (36:FuncId)) #[] #[]))),(10,(.sc (.bool y4))),(11,(.sc (.bool y5)))],Fw [(296000,(.ar false y6))]⟩
noncomputable def Am (fu:Nat)(call:Aj)(n:Nat)(c:List PV)(a1 a2 a3:Int)(m0 nn y0:Nat)(y1 y2 y3:Int)(y4 y5:Bool)(y6 y7:Int)(y8:List PV):Option Bb:=Cw CB prog fu call 51 Try.f51 (Bz Try.f51) [PV.tup [.own 1 n c],.sc (.int .i64 a1),.sc (.int .i64 a2),.sc (.int .i64 a3),.sc (Value.func (Fn.func (36:FuncId)) #[] #[])] [.r,.r,.l,.i m0,.l,.r,.r,.r,.r,.r,.r] nn ⟨lk [(0,(.view 296000 1 0 y0)),(1,(.sc (.int .i64 y1))),(2,(.sc (.int .i64 y2))),(3,(.sc (.int .i64 y3))),(4,(.sc (Value.func (Fn.func (36:FuncId)) #[] #[]))),(10,(.sc (.bool y4))),(11,(.sc (.bool y5))),(12,(.sc (.int .i64 y6))),(13,(.sc (.int .i64 y7)))],Fw [(296000,(.ar false y8))]⟩
theorem Hk (fu:Nat)(call:Aj)(n:Nat)(c:List PV)(a1 a2 a3:Int)(nn y0:Nat)(y1 y2 y3:Int)(y4 y5:Bool)(y6:List PV):E7 fu call n c a1 a2 a3 (nn+1) y0 y1 y2 y3 y4 y5 y6=(Aa (wrap .i64 (y2-y1)) fun x1=>Cg (decide (x1<=12)) (Ap (call 62 [PV.tup [.own 1 y0 y6],.sc (.int .i64 y1),.sc (.int .i64 y2),.sc (Value.func (Fn.func (36:FuncId)) #[] #[])]) fun x2 x3=>Ae x2<|Ab x3 fun x4 x5=>Ae x5<|some (Bb.mk [] [x4])) (Cg (y3==0) (Ap (call 63 [PV.tup [.own 1 y0 y6],.sc (.int .i64 y1),.sc (.int .i64 y2),.sc (Value.func (Fn.func (36:FuncId)) #[] #[])]) fun x6 x7=>Ae x6<|Ab x7 fun x8 x9=>Ae x9<|some (Bb.mk [] [x8])) (Cg (!y4) (Ap (call 64 [PV.tup [.own 1 y0 y6],.sc (.int .i64 y1),.sc (.int .i64 y2),.sc (Value.func (Fn.func (36:FuncId)) #[] #[])]) fun L3 Oa=>Ae L3<|Ab Oa fun K3 Rs=>Ae Rs<|Aa (wrap .i64 (y3-1)) fun Nw=>Ap (call 65 [PV.tup [.own 1 y0 K3],.sc (.int .i64 y1),.sc (.int .i64 y2),.sc (Value.func (Fn.func (36:FuncId)) #[] #[])]) fun O8 Ud=>Ab O8 fun T9 Pt=>Ai .i64 T9 fun Lg=>Ab Pt fun Q4 Q8=>Ai .i64 Q4 fun Wy=>Ae Q8<|Ab Ud fun V2 Rb=>Ae Rb<|Cg (Wy==2) (Ap (call 66 [PV.tup [.own 1 y0 V2],.sc (.int .i64 y1),.sc (.int .i64 y2),.sc (Value.func (Fn.func (36:FuncId)) #[] #[])]) fun GT GZ=>Ae GT<|Ab GZ fun Wi OC=>Ae OC<|Aa (wrap .i64 (y2-1)) fun KD=>Aa (wrap .i64 (Lg-y1)) fun Ri=>Aa (wrap .i64 (KD-Ri)) fun Ut=>Cg (y4) (Cg (y5) (Ap (call 67 [PV.tup [.own 1 y0 Wi],.sc (.int .i64 y1),.sc (.int .i64 y2),.sc (Value.func (Fn.func (36:FuncId)) #[] #[])]) fun HH CJ=>Ab HH fun Xy JT=>A5 Xy fun EU=>Ae JT<|Ab CJ fun Xe HO=>Ae HO<|Cg EU (some (Bb.mk [] [Xe])) (Am fu call n c a1 a2 a3 nn (fu) (y0) (y1) (y2) Nw (y4) (y5) x1 Ut Xe)) (Am fu call n c a1 a2 a3 nn (fu) (y0) (y1) (y2) Nw (y4) (y5) x1 Ut Wi)) (Am fu call n c a1 a2 a3 nn (fu) (y0) (y1) (y2) Nw (y4) (y5) x1 Ut Wi)) (Cg (y4) (Cg (y5) (Cg (Wy==1) (Ap (call 67 [PV.tup [.own 1 y0 V2],.sc (.int .i64 y1),.sc (.int .i64 y2),.sc (Value.func (Fn.func (36:FuncId)) #[] #[])]) fun NQ GQ=>Ab NQ fun VN TF=>A5 VN fun VX=>Ae TF<|Ab GQ fun ON RO=>Ae RO<|Cg VX (some (Bb.mk [] [ON])) (Am fu call n c a1 a2 a3 nn (fu) (y0) (y1) (y2) Nw (y4) (y5) x1 Lg ON)) (Am fu call n c a1 a2 a3 nn (fu) (y0) (y1) (y2) Nw (y4) (y5) x1 Lg V2)) (Am fu call n c a1 a2 a3 nn (fu) (y0) (y1) (y2) Nw (y4) (y5) x1 Lg V2)) (Am fu call n c a1 a2 a3 nn (fu) (y0) (y1) (y2) Nw (y4) (y5) x1 Lg V2))) (Ap (call 65 [PV.tup [.own 1 y0 y6],.sc (.int .i64 y1),.sc (.int .i64 y2),.sc (Value.func (Fn.func (36:FuncId)) #[] #[])]) fun TE RD=>Ab TE fun UQ UW=>Ai .i64 UQ fun DS=>Ab UW fun PE VI=>Ai .i64 PE fun QR=>Ae VI<|Ab RD fun DM OW=>Ae OW<|Cg (QR==2) (Ap (call 66 [PV.tup [.own 1 y0 DM],.sc (.int .i64 y1),.sc (.int .i64 y2),.sc (Value.func (Fn.func (36:FuncId)) #[] #[])]) fun SU SY=>Ae SU<|Ab SY fun MT RE=>Ae RE<|Aa (wrap .i64 (y2-1)) fun UF=>Aa (wrap .i64 (DS-y1)) fun KS=>Aa (wrap .i64 (UF-KS)) fun LC=>Cg (y4) (Cg (y5) (Ap (call 67 [PV.tup [.own 1 y0 MT],.sc (.int .i64 y1),.sc (.int .i64 y2),.sc (Value.func (Fn.func (36:FuncId)) #[] #[])]) fun x63 x64=>Ab x63 fun VM YB=>A5 VM fun x67=>Ae YB<|Ab x64 fun SS x69=>Ae x69<|Cg x67 (some (Bb.mk [] [SS])) (Am fu call n c a1 a2 a3 nn (fu) (y0) (y1) (y2) (y3) (y4) (y5) x1 LC SS)) (Am fu call n c a1 a2 a3 nn (fu) (y0) (y1) (y2) (y3) (y4) (y5) x1 LC MT)) (Am fu call n c a1 a2 a3 nn (fu) (y0) (y1) (y2) (y3) (y4) (y5) x1 LC MT)) (Cg (y4) (Cg (y5) (Cg (QR==1) (Ap (call 67 [PV.tup [.own 1 y0 DM],.sc (.int .i64 y1),.sc (.int .i64 y2),.sc (Value.func (Fn.func (36:FuncId)) #[] #[])]) fun ZP XS=>Ab ZP fun x72 x73=>A5 x72 fun PN=>Ae x73<|Ab XS fun VA x76=>Ae x76<|Cg PN (some (Bb.mk [] [VA])) (Am fu call n c a1 a2 a3 nn (fu) (y0) (y1) (y2) (y3) (y4) (y5) x1 DS VA)) (Am fu call n c a1 a2 a3 nn (fu) (y0) (y1) (y2) (y3) (y4) (y5) x1 DS DM)) (Am fu call n c a1 a2 a3 nn (fu) (y0) (y1) (y2) (y3) (y4) (y5) x1 DS DM)) (Am fu call n c a1 a2 a3 nn (fu) (y0) (y1) (y2) (y3) (y4) (y5) x1 DS DM)))))):=by kernel_rfl
theorem Je (fu d n:Nat)(c:List PV)(a1 a2 a3:Int):Af C0 prog fu (d+1) Fa [PV.tup [.own 1 n c],.sc (.int .i64 a1),.sc (.int .i64 a2),.sc (.int .i64 a3),.sc (Value.func (Fn.func (36:FuncId)) #[] #[])]=(fun (call:Aj)=>E7 fu call n c a1 a2 a3 (fu) (n) (a1) (a2) (a3) (true) (true) (c)) (Af C0 prog fu d):=by kernel_rfl
abbrev E8:FuncId:=35
theorem M1 (fu d n:Nat)(c:List PV):Af C0 prog fu (d+1) E8 [PV.tup [.own 1 n c],.sc (Value.func (Fn.func (36:FuncId)) #[] #[])]=(fun (call:Aj)=>Aa (wrap .u64 (↑n:Int)) fun x1=>Ap (call 52 [.sc (.int .u64 x1)]) fun x2 x3=>Ae x3<|Ab x2 fun x4 x5=>Ai .i64 x4 fun x6=>Ae x5<|Ap (call 51 [PV.tup [.own 1 n c],.sc (.int .i64 0),.sc (.int .i64 (↑n:Int)),.sc (.int .i64 x6),.sc (Value.func (Fn.func (36:FuncId)) #[] #[])]) fun x7 x8=>Ae x7<|Ab x8 fun x9 L3=>Ae L3<|some (Bb.mk [] [x9])) (Af C0 prog fu d):=by kernel_rfl
end
section
open Go.Proofs.Try (prog)
open Go.IntKind (wrap)
set_option maxRecDepth 100000
abbrev Lx:FuncId:=34
noncomputable def Hh (fu:Nat)(call:Aj)(a0 a1 a2:Int)(nn:Nat)(y0 y1 y2:Int)(y3:Nat)(y4:Int)(y5:List PV):Option Bb:=Cw CB prog fu call 34 Try.f34 (Bz Try.f34) [.sc (.int .u64 a0),.sc (.int .u64 a1),.sc (.int .i64 a2)] [.r,.r,.r,.l,.r,.l] nn ⟨lk [(0,(.sc (.int .u64 y0))),(1,(.sc (.int .u64 y1))),(2,(.sc (.int .i64 y2))),(7,(.view 7 1 0 y3)),(8,(.sc (.int .u64 y4)))],Fw [(7,(.ar false y5))]⟩
theorem Mw (fu:Nat)(call:Aj)(a0 a1 a2:Int)(nn:Nat)(y0 y1 y2:Int)(y3:Nat)(y4:Int)(y5:List PV):Hh fu call a0 a1 a2 (nn+1) y0 y1 y2 y3 y4 y5=(Cg (decide ((↑y3:Int)<y2)) (Ap (call 50 [.lst false 1 2 [.sc (.int .u64 y1),.sc (.int .u64 y4)]]) fun x4 x5=>Ae x5<|Ab x4 fun x6 x7=>Oc 1 x6 fun x8 x9=>Ae x7<|Au (decide (0+x8*1<=x9.length))<|Ap (call 33 [.sc (.int .u64 y0),.sc (.int .i64 5),.lst false 1 x8 (List.take (x8*1) (List.drop 0 x9))]) fun L3 Oa=>Ae Oa<|Ab L3 fun K3 Rs=>Ai .u64 K3 fun Nw=>Ae Rs<|Ap (call 50 [.lst false 1 1 [.sc (.int .u64 Nw)]]) fun O8 Ud=>Ae Ud<|Ab O8 fun T9 Pt=>Oc 1 T9 fun Lg Q4=>Ae Pt<|Au (decide (0+Lg*1<=Q4.length))<|Au (decide (y3*1<=y5.length)&&decide (List.length (List.take (Lg*1) (List.drop 0 Q4))=Lg*1)&&decide ((y3+Lg)*1<=1099511627776)&&decide (y3+Lg<=1099511627776))<|Aa (y3+Lg) fun Q8=>Aa (List.take (y3*1) y5++List.take (Lg*1) (List.drop 0 Q4)) fun Wy=>Aa (wrap .u64 (y4+1)) fun V2=>Hh fu call a0 a1 a2 (nn) (y0) (y1) (y2) Q8 V2 Wy) (Au (decide (0<=y2))<|Au (decide (Int.toNat y2<=y3))<|Aa (Int.toNat y2-0) fun Rb=>Au (decide (Rb*1<=y5.length))<|some (Bb.mk [.own 1 Rb (List.take (Rb*1) y5)] []))):=by kernel_rfl
theorem AK (fu d:Nat)(a0 a1 a2:Int):Af C0 prog fu (d+1) Lx [.sc (.int .u64 a0),.sc (.int .u64 a1),.sc (.int .i64 a2)]=(fun (call:Aj)=>Aa (if a2<0 then 0 else a2) fun x1=>Aa (if 1024<x1 then 1024 else x1) fun x2=>Aa (wrap .i64 (x2+8)) fun x3=>Au (decide (0<=x3)&&decide (x3*1<=1099511627776)&&decide (x3<=1099511627776))<|Hh fu call a0 a1 a2 (fu) (a0) (a1) x2 0 0 ([])) (Af C0 prog fu d):=by kernel_rfl
abbrev I4:FuncId:=29
noncomputable def D4 (fu:Nat)(call:Aj)(a0 a1 a2:Int)(nn:Nat)(y0 y1 y2:Int)(y3:Nat)(y4:Int)(y5:List PV):Option Bb:=Cw CB prog fu call 29 Try.f29 (Bz Try.f29) [.sc (.int .u64 a0),.sc (.int .u64 a1),.sc (.int .i64 a2)] [.r,.r,.r,.l,.r,.l] nn ⟨lk [(0,(.sc (.int .u64 y0))),(1,(.sc (.int .u64 y1))),(2,(.sc (.int .i64 y2))),(7,(.view 7 1 0 y3)),(8,(.sc (.int .i64 y4)))],Fw [(7,(.ar false y5))]⟩
theorem G2 (fu:Nat)(call:Aj)(a0 a1 a2:Int)(nn:Nat)(y0 y1 y2:Int)(y3:Nat)(y4:Int)(y5:List PV):D4 fu call a0 a1 a2 (nn+1) y0 y1 y2 y3 y4 y5=(Cg (decide ((↑y3:Int)<y2)) (Aa (wrap .u64 y4) fun x3=>Ap (call 47 [.lst false 1 2 [.sc (.int .u64 y1),.sc (.int .u64 x3)]]) fun x4 x5=>Ae x5<|Ab x4 fun x6 x7=>Oc 1 x6 fun x8 x9=>Ae x7<|Au (decide (0+x8*1<=x9.length))<|Ap (call 45 [.sc (.int .u64 y0),.sc (.int .i64 5),.lst false 1 x8 (List.take (x8*1) (List.drop 0 x9))]) fun L3 Oa=>Ae Oa<|Ab L3 fun K3 Rs=>Ai .u64 K3 fun Nw=>Ae Rs<|Ap (call 47 [.lst false 1 1 [.sc (.int .u64 Nw)]]) fun O8 Ud=>Ae Ud<|Ab O8 fun T9 Pt=>Oc 1 T9 fun Lg Q4=>Ae Pt<|Au (decide (0+Lg*1<=Q4.length))<|Au (decide (y3*1<=y5.length)&&decide (List.length (List.take (Lg*1) (List.drop 0 Q4))=Lg*1)&&decide ((y3+Lg)*1<=1099511627776)&&decide (y3+Lg<=1099511627776))<|Aa (y3+Lg) fun Q8=>Aa (List.take (y3*1) y5++List.take (Lg*1) (List.drop 0 Q4)) fun Wy=>Aa (wrap .i64 (y4+1)) fun V2=>D4 fu call a0 a1 a2 (nn) (y0) (y1) (y2) Q8 V2 Wy) (Au (decide (0<=y2))<|Au (decide (Int.toNat y2<=y3))<|Aa (Int.toNat y2-0) fun Rb=>Au (decide (Rb*1<=y5.length))<|some (Bb.mk [.own 1 Rb (List.take (Rb*1) y5)] []))):=by kernel_rfl
theorem Ow (fu d:Nat)(a0 a1 a2:Int):Af C0 prog fu (d+1) I4 [.sc (.int .u64 a0),.sc (.int .u64 a1),.sc (.int .i64 a2)]=(fun (call:Aj)=>Aa (if a2<0 then 0 else a2) fun x1=>Aa (if 1024<x1 then 1024 else x1) fun x2=>D4 fu call a0 a1 a2 (fu) (a0) (a1) x2 0 0 ([])) (Af C0 prog fu d):=by kernel_rfl
abbrev Gb:FuncId:=9
theorem Qm (fu d:Nat)(a0 a1:Int):Af C0 prog fu (d+1) Gb [.sc (.int .i64 a0),.sc (.int .i64 a1)]=(fun (call:Aj)=>Aa (wrap .u64 a0) fun x1=>Aa (wrap .u64 (x1+1)) fun x2=>Aa (if 1024<a1 then 1024 else a1) fun x3=>Aa (if x3<0 then 0 else x3) fun x4=>Ap (call 29 [.sc (.int .u64 x2),.sc (.int .u64 7),.sc (.int .i64 x4)]) fun x5 x6=>Ae x6<|Ab x5 fun x7 x8=>Oc 1 x7 fun x9 L3=>Ae x8<|Au (decide (x9*1<=L3.length))<|some (Bb.mk [.own 1 x9 (List.take (x9*1) L3)] [])) (Af C0 prog fu d):=by kernel_rfl
abbrev L4:FuncId:=27
noncomputable def K7 (fu:Nat)(call:Aj)(E5:Nat)(D1:List PV)(Ds E2:Int)(Gf Qj:Int)(Qn:Bool)(P9:Int)(Jh:Nat)(Qk:List PV)(Qe:Bool)(P8 Jr:Int)(a1 a2 a3:Int)(nn:Nat)(y0 y1 y2:Int)(y3:Nat)(y4 y5:Int)(y6 y7:Int)(y8:Bool)(y9:Int)(E1:Nat)(I7:Bool)(Fb Ja:Int)(J5 Od:List PV)(Kx:Nat)(Jq Ub:Int)(T0 T8:Int)(T7:Bool)(Uc:Int)(Tw:Nat)(Tz:Bool)(Ty Tx:Int)(Ua Tv:List PV):Option Bb:=Cw CB prog fu call 27 Try.f27 (Bz Try.f27) [.agg [.lst false 1 E5 D1,.sc (.int .i64 Ds),.sc (.int .u64 E2),.sc (.int .u64 Gf),.sc (.int .i64 Qj),.sc (.bool Qn),.sc (.int .u64 P9),.lst false 2 Jh Qk,.sc (.bool Qe),.sc (.int .i64 P8),.sc (.int .i64 Jr)],.sc (.int .i64 a1),.sc (.int .i64 a2),.sc (.int .i64 a3)] [.r,.r,.r] nn ⟨lk [(1,(.sc (.int .i64 y0))),(2,(.sc (.int .i64 y1))),(3,(.sc (.int .i64 y2))),(4,(.ptr 4 0)),(8,(.ptr 8 0))],Fw [(4,(.st [(.view 120 1 0 y3),(.sc (.int .i64 y4)),(.sc (.int .u64 y5)),(.sc (.int .u64 y6)),(.sc (.int .i64 y7)),(.sc (.bool y8)),(.sc (.int .u64 y9)),(.view 932 2 0 E1),(.sc (.bool I7)),(.sc (.int .i64 Fb)),(.sc (.int .i64 Ja))])),(120,(.ar false J5)),(932,(.ar false Od)),(8,(.st [(.view 124 1 0 Kx),(.sc (.int .i64 Jq)),(.sc (.int .u64 Ub)),(.sc (.int .u64 T0)),(.sc (.int .i64 T8)),(.sc (.bool T7)),(.sc (.int .u64 Uc)),(.view 936 2 0 Tw),(.sc (.bool Tz)),(.sc (.int .i64 Ty)),(.sc (.int .i64 Tx))])),(124,(.ar false Ua)),(936,(.ar false Tv))]⟩
noncomputable def Ft (fu:Nat)(call:Aj)(E5:Nat)(D1:List PV)(Ds E2:Int)(Gf Qj:Int)(Qn:Bool)(P9:Int)(Jh:Nat)(Qk:List PV)(Qe:Bool)(P8 Jr:Int)(a1 a2 a3:Int)(nn:Nat)(y0 y1:Int)(y2 y3 y4:Int)(y5:Nat)(y6 y7:Int)(y8 y9:Int)(E1:Bool)(I7:Int)(Fb:Nat)(Ja:Bool)(J5 Od:Int)(Kx Jq:List PV)(Ub:Nat)(T0 T8:Int)(T7 Uc:Int)(Tw:Bool)(Tz:Int)(Ty:Nat)(Tx:Bool)(Ua Tv:Int)(HA GS:List PV):Option Bb:=Cw CB prog fu call 27 Try.f27 (Bz Try.f27) [.agg [.lst false 1 E5 D1,.sc (.int .i64 Ds),.sc (.int .u64 E2),.sc (.int .u64 Gf),.sc (.int .i64 Qj),.sc (.bool Qn),.sc (.int .u64 P9),.lst false 2 Jh Qk,.sc (.bool Qe),.sc (.int .i64 P8),.sc (.int .i64 Jr)],.sc (.int .i64 a1),.sc (.int .i64 a2),.sc (.int .i64 a3)] [.r,.r,.r,.r,.r,.r,.r,.r,.l,.l] nn ⟨lk [(1,(.sc (.int .i64 y0))),(2,(.sc (.int .i64 y1))),(3,(.sc (.int .i64 y2))),(4,(.ptr 4 0)),(8,(.ptr 8 0)),(11,(.sc (.int .u64 y3))),(12,(.sc (.int .i64 y4)))],Fw [(4,(.st [(.view 120 1 0 y5),(.sc (.int .i64 y6)),(.sc (.int .u64 y7)),(.sc (.int .u64 y8)),(.sc (.int .i64 y9)),(.sc (.bool E1)),(.sc (.int .u64 I7)),(.view 932 2 0 Fb),(.sc (.bool Ja)),(.sc (.int .i64 J5)),(.sc (.int .i64 Od))])),(120,(.ar false Kx)),(932,(.ar false Jq)),(8,(.st [(.view 124 1 0 Ub),(.sc (.int .i64 T0)),(.sc (.int .u64 T8)),(.sc (.int .u64 T7)),(.sc (.int .i64 Uc)),(.sc (.bool Tw)),(.sc (.int .u64 Tz)),(.view 936 2 0 Ty),(.sc (.bool Tx)),(.sc (.int .i64 Ua)),(.sc (.int .i64 Tv))])),(124,(.ar false HA)),(936,(.ar false GS))]⟩
theorem Qc (fu:Nat)(call:Aj)(E5:Nat)(D1:List PV)(Ds E2:Int)(Gf Qj:Int)(Qn:Bool)(P9:Int)(Jh:Nat)(Qk:List PV)(Qe:Bool)(P8 Jr:Int)(a1 a2 a3:Int)(nn:Nat)(hnn:0<nn)(y0 y1 y2:Int)(y3:Nat)(y4 y5:Int)(y6 y7:Int)(y8:Bool)(y9:Int)(E1:Nat)(I7:Bool)(Fb Ja:Int)(J5 Od:List PV)(Kx:Nat)(Jq Ub:Int)(T0 T8:Int)(T7:Bool)(Uc:Int)(Tw:Nat)(Tz:Bool)(Ty Tx:Int)(Ua Tv:List PV):K7 fu call E5 D1 Ds E2 Gf Qj Qn P9 Jh Qk Qe P8 Jr a1 a2 a3 nn y0 y1 y2 y3 y4 y5 y6 y7 y8 y9 E1 I7 Fb Ja J5 Od Kx Jq Ub T0 T8 T7 Uc Tw Tz Ty Tx Ua Tv=(Cg (I7) (Au (decide (0+y3*1<=J5.length))<|Au (decide (0+E1*2<=Od.length))<|some (Bb.mk [.agg [.lst false 1 y3 (List.take (y3*1) (List.drop 0 J5)),.sc (.int .i64 y4),.sc (.int .u64 y5),.sc (.int .u64 y6),.sc (.int .i64 y7),.sc (.bool y8),.sc (.int .u64 y9),.lst false 2 E1 (List.take (E1*2) (List.drop 0 Od)),.sc (.bool I7),.sc (.int .i64 Fb),.sc (.int .i64 Ja)],.sc (.int .i64 39)] [])) (Au (decide (0<=y0))<|Aa (Ho .u64 1 y0) fun TF=>Aa (QY .u64 y9 TF) fun VX=>Cg (VX != 0) (Au (decide (0+y3*1<=J5.length))<|Au (decide (0+E1*2<=Od.length))<|some (Bb.mk [.agg [.lst false 1 y3 (List.take (y3*1) (List.drop 0 J5)),.sc (.int .i64 y4),.sc (.int .u64 y5),.sc (.int .u64 y6),.sc (.int .i64 y7),.sc (.bool y8),.sc (.int .u64 y9),.lst false 2 E1 (List.take (E1*2) (List.drop 0 Od)),.sc (.bool true),.sc (.int .i64 Fb),.sc (.int .i64 Ja)],.sc (.int .i64 37)] [])) (Ft fu call E5 D1 Ds E2 Gf Qj Qn P9 Jh Qk Qe P8 Jr a1 a2 a3 (fu) (y0) (y1) (y2) TF 0 (y3) (y4) (y5) (y6) (y7) (y8) (y9) (E1) (I7) (Fb) (Ja) (J5) (Od) (Kx) (Jq) (Ub) (T0) (T8) (T7) (Uc) (Tw) (Tz) (Ty) (Tx) (Ua) (Tv)))):=by cases nn with|zero=>exact absurd hnn (Nat.lt_irrefl 0)|succ nn=>kernel_rfl
theorem Jk (fu:Nat)(call:Aj)(E5:Nat)(D1:List PV)(Ds E2:Int)(Gf Qj:Int)(Qn:Bool)(P9:Int)(Jh:Nat)(Qk:List PV)(Qe:Bool)(P8 Jr:Int)(a1 a2 a3:Int)(nn:Nat)(y0 y1:Int)(y2 y3 y4:Int)(y5:Nat)(y6 y7:Int)(y8 y9:Int)(E1:Bool)(I7:Int)(Fb:Nat)(Ja:Bool)(J5 Od:Int)(Kx Jq:List PV)(Ub:Nat)(T0 T8:Int)(T7 Uc:Int)(Tw:Bool)(Tz:Int)(Ty:Nat)(Tx:Bool)(Ua Tv:Int)(HA GS:List PV):Ft fu call E5 D1 Ds E2 Gf Qj Qn P9 Jh Qk Qe P8 Jr a1 a2 a3 (nn+1) y0 y1 y2 y3 y4 y5 y6 y7 y8 y9 E1 I7 Fb Ja J5 Od Kx Jq Ub T0 T8 T7 Uc Tw Tz Ty Tx Ua Tv HA GS=(Cg (decide (y4<(↑Fb:Int))) (Au (decide (0<=y4)&&decide (y4<(↑Fb:Int)))<|Ai .i64 (List.getD Jq (0+Int.toNat y4*2+0) .top) fun ON=>Cg (decide (ON<y1)) (Aa (wrap .i64 (y4+1)) fun RO=>Ft fu call E5 D1 Ds E2 Gf Qj Qn P9 Jh Qk Qe P8 Jr a1 a2 a3 (nn) (y0) (y1) (y2) (y3) RO (y5) (y6) (y7) (y8) (y9) (E1) (I7) (Fb) (Ja) (J5) (Od) (Kx) (Jq) (Ub) (T0) (T8) (T7) (Uc) (Tw) (Tz) (Ty) (Tx) (Ua) (Tv) (HA) (GS)) (Cg (y4==(↑Fb:Int)) (Au (decide (Fb*2<=Jq.length))<|Ap (call 46 [.own 2 Fb (List.take (Fb*2) Jq),.sc (.int .i64 y4),PV.tup [.own 2 1 [.sc (.int .i64 y1),.sc (.int .i64 y0)]]]) fun TE RD=>Ab TE fun UQ UW=>Oc 2 UQ fun DS PE=>Ae UW<|Ab RD fun VI QR=>Ae QR<|Au (decide (0<=y4)&&decide (y4<(↑DS:Int)))<|Au (decide (0+Int.toNat y4*2+1+1<=PE.length))<|Aa (Bd PE [.sc (.int .i64 y0)] (0+Int.toNat y4*2+1)) fun DM=>Aa (Xj .u64 I7 y3) fun OW=>Au (decide (0+y5*1<=Kx.length))<|Au (decide (0+DS*2<=DM.length))<|some (Bb.mk [.agg [.lst false 1 y5 (List.take (y5*1) (List.drop 0 Kx)),.sc (.int .i64 y6),.sc (.int .u64 y7),.sc (.int .u64 y8),.sc (.int .i64 y9),.sc (.bool E1),.sc (.int .u64 OW),.lst false 2 DS (List.take (DS*2) (List.drop 0 DM)),.sc (.bool Ja),.sc (.int .i64 J5),.sc (.int .i64 y2)],.sc (.int .i64 0)] [])) (Au (decide (0<=y4)&&decide (y4<(↑Fb:Int)))<|Ai .i64 (List.getD Jq (0+Int.toNat y4*2+0) .top) fun SU=>Cg (SU != y1) (Au (decide (Fb*2<=Jq.length))<|Ap (call 46 [.own 2 Fb (List.take (Fb*2) Jq),.sc (.int .i64 y4),PV.tup [.own 2 1 [.sc (.int .i64 y1),.sc (.int .i64 y0)]]]) fun SY MT=>Ab SY fun RE UF=>Oc 2 RE fun KS LC=>Ae UF<|Ab MT fun x63 x64=>Ae x64<|Au (decide (0<=y4)&&decide (y4<(↑KS:Int)))<|Au (decide (0+Int.toNat y4*2+1+1<=LC.length))<|Aa (Bd LC [.sc (.int .i64 y0)] (0+Int.toNat y4*2+1)) fun VM=>Aa (Xj .u64 I7 y3) fun YB=>Au (decide (0+y5*1<=Kx.length))<|Au (decide (0+KS*2<=VM.length))<|some (Bb.mk [.agg [.lst false 1 y5 (List.take (y5*1) (List.drop 0 Kx)),.sc (.int .i64 y6),.sc (.int .u64 y7),.sc (.int .u64 y8),.sc (.int .i64 y9),.sc (.bool E1),.sc (.int .u64 YB),.lst false 2 KS (List.take (KS*2) (List.drop 0 VM)),.sc (.bool Ja),.sc (.int .i64 J5),.sc (.int .i64 y2)],.sc (.int .i64 0)] [])) (Au (decide (0<=y4)&&decide (y4<(↑Fb:Int)))<|Ai .i64 (List.getD Jq (0+Int.toNat y4*2+1) .top) fun x67=>Cg (decide (x67>=y0)) (Au (decide (0+y5*1<=Kx.length))<|Au (decide (0+Fb*2<=Jq.length))<|some (Bb.mk [.agg [.lst false 1 y5 (List.take (y5*1) (List.drop 0 Kx)),.sc (.int .i64 y6),.sc (.int .u64 y7),.sc (.int .u64 y8),.sc (.int .i64 y9),.sc (.bool E1),.sc (.int .u64 I7),.lst false 2 Fb (List.take (Fb*2) (List.drop 0 Jq)),.sc (.bool Ja),.sc (.int .i64 J5),.sc (.int .i64 Od)],.sc (.int .i64 37)] [])) (Au (decide (0<=y4)&&decide (y4<(↑Fb:Int)))<|Au (decide (0+Int.toNat y4*2+1+1<=Jq.length))<|Aa (Bd Jq [.sc (.int .i64 y0)] (0+Int.toNat y4*2+1)) fun SS=>Aa (Xj .u64 I7 y3) fun x69=>Au (decide (0+y5*1<=Kx.length))<|Au (decide (0+Fb*2<=SS.length))<|some (Bb.mk [.agg [.lst false 1 y5 (List.take (y5*1) (List.drop 0 Kx)),.sc (.int .i64 y6),.sc (.int .u64 y7),.sc (.int .u64 y8),.sc (.int .i64 y9),.sc (.bool E1),.sc (.int .u64 x69),.lst false 2 Fb (List.take (Fb*2) (List.drop 0 SS)),.sc (.bool Ja),.sc (.int .i64 J5),.sc (.int .i64 y2)],.sc (.int .i64 0)] [])))))) (Cg (y4==(↑Fb:Int)) (Au (decide (Fb*2<=Jq.length))<|Ap (call 46 [.own 2 Fb (List.take (Fb*2) Jq),.sc (.int .i64 y4),PV.tup [.own 2 1 [.sc (.int .i64 y1),.sc (.int .i64 y0)]]]) fun ZP XS=>Ab ZP fun x72 x73=>Oc 2 x72 fun PN VA=>Ae x73<|Ab XS fun x76 x77=>Ae x77<|Au (decide (0<=y4)&&decide (y4<(↑PN:Int)))<|Au (decide (0+Int.toNat y4*2+1+1<=VA.length))<|Aa (Bd VA [.sc (.int .i64 y0)] (0+Int.toNat y4*2+1)) fun x78=>Aa (Xj .u64 I7 y3) fun x79=>Au (decide (0+y5*1<=Kx.length))<|Au (decide (0+PN*2<=x78.length))<|some (Bb.mk [.agg [.lst false 1 y5 (List.take (y5*1) (List.drop 0 Kx)),.sc (.int .i64 y6),.sc (.int .u64 y7),.sc (.int .u64 y8),.sc (.int .i64 y9),.sc (.bool E1),.sc (.int .u64 x79),.lst false 2 PN (List.take (PN*2) (List.drop 0 x78)),.sc (.bool Ja),.sc (.int .i64 J5),.sc (.int .i64 y2)],.sc (.int .i64 0)] [])) (Au (decide (0<=y4)&&decide (y4<(↑Fb:Int)))<|Ai .i64 (List.getD Jq (0+Int.toNat y4*2+0) .top) fun x80=>Cg (x80 != y1) (Au (decide (Fb*2<=Jq.length))<|Ap (call 46 [.own 2 Fb (List.take (Fb*2) Jq),.sc (.int .i64 y4),PV.tup [.own 2 1 [.sc (.int .i64 y1),.sc (.int .i64 y0)]]]) fun x81 x82=>Ab x81 fun x83 x84=>Oc 2 x83 fun x85 x86=>Ae x84<|Ab x82 fun x87 x88=>Ae x88<|Au (decide (0<=y4)&&decide (y4<(↑x85:Int)))<|Au (decide (0+Int.toNat y4*2+1+1<=x86.length))<|Aa (Bd x86 [.sc (.int .i64 y0)] (0+Int.toNat y4*2+1)) fun x89=>Aa (Xj .u64 I7 y3) fun x90=>Au (decide (0+y5*1<=Kx.length))<|Au (decide (0+x85*2<=x89.length))<|some (Bb.mk [.agg [.lst false 1 y5 (List.take (y5*1) (List.drop 0 Kx)),.sc (.int .i64 y6),.sc (.int .u64 y7),.sc (.int .u64 y8),.sc (.int .i64 y9),.sc (.bool E1),.sc (.int .u64 x90),.lst false 2 x85 (List.take (x85*2) (List.drop 0 x89)),.sc (.bool Ja),.sc (.int .i64 J5),.sc (.int .i64 y2)],.sc (.int .i64 0)] [])) (Au (decide (0<=y4)&&decide (y4<(↑Fb:Int)))<|Ai .i64 (List.getD Jq (0+Int.toNat y4*2+1) .top) fun x91=>Cg (decide (x91>=y0)) (Au (decide (0+y5*1<=Kx.length))<|Au (decide (0+Fb*2<=Jq.length))<|some (Bb.mk [.agg [.lst false 1 y5 (List.take (y5*1) (List.drop 0 Kx)),.sc (.int .i64 y6),.sc (.int .u64 y7),.sc (.int .u64 y8),.sc (.int .i64 y9),.sc (.bool E1),.sc (.int .u64 I7),.lst false 2 Fb (List.take (Fb*2) (List.drop 0 Jq)),.sc (.bool Ja),.sc (.int .i64 J5),.sc (.int .i64 Od)],.sc (.int .i64 37)] [])) (Au (decide (0<=y4)&&decide (y4<(↑Fb:Int)))<|Au (decide (0+Int.toNat y4*2+1+1<=Jq.length))<|Aa (Bd Jq [.sc (.int .i64 y0)] (0+Int.toNat y4*2+1)) fun x92=>Aa (Xj .u64 I7 y3) fun x93=>Au (decide (0+y5*1<=Kx.length))<|Au (decide (0+Fb*2<=x92.length))<|some (Bb.mk [.agg [.lst false 1 y5 (List.take (y5*1) (List.drop 0 Kx)),.sc (.int .i64 y6),.sc (.int .u64 y7),.sc (.int .u64 y8),.sc (.int .i64 y9),.sc (.bool E1),.sc (.int .u64 x93),.lst false 2 Fb (List.take (Fb*2) (List.drop 0 x92)),.sc (.bool Ja),.sc (.int .i64 J5),.sc (.int .i64 y2)],.sc (.int .i64 0)] [])))))):=by kernel_rfl
theorem Ux (fu d E5:Nat)(D1:List PV)(Ds E2:Int)(Gf Qj:Int)(Qn:Bool)(P9:Int)(Jh:Nat)(Qk:List PV)(Qe:Bool)(P8 Jr:Int)(a1 a2 a3:Int):Af C0 prog fu (d+1) L4 [.agg [.lst false 1 E5 D1,.sc (.int .i64 Ds),.sc (.int .u64 E2),.sc (.int .u64 Gf),.sc (.int .i64 Qj),.sc (.bool Qn),.sc (.int .u64 P9),.lst false 2 Jh Qk,.sc (.bool Qe),.sc (.int .i64 P8),.sc (.int .i64 Jr)],.sc (.int .i64 a1),.sc (.int .i64 a2),.sc (.int .i64 a3)]=(fun (call:Aj)=>Ap (call 31 [.agg [.lst false 1 E5 D1,.sc (.int .i64 Ds),.sc (.int .u64 E2),.sc (.int .u64 Gf),.sc (.int .i64 Qj),.sc (.bool Qn),.sc (.int .u64 P9),.lst false 2 Jh Qk,.sc (.bool Qe),.sc (.int .i64 P8),.sc (.int .i64 Jr)]]) fun x1 x2=>Ae x2<|Ab x1 fun x3 x4=>Fo x3 fun x5=>Ab x5 fun x6 x7=>Oc 1 x6 fun x8 x9=>Ab x7 fun L3 Oa=>Ai .i64 L3 fun K3=>Ab Oa fun Rs Nw=>Ai .u64 Rs fun O8=>Ab Nw fun Ud T9=>Ai .u64 Ud fun Pt=>Ab T9 fun Lg Q4=>Ai .i64 Lg fun Q8=>Ab Q4 fun Wy V2=>A5 Wy fun Rb=>Ab V2 fun GT GZ=>Ai .u64 GT fun Wi=>Ab GZ fun OC KD=>Oc 2 OC fun Ri Ut=>Ab KD fun HH CJ=>A5 HH fun Xy=>Ab CJ fun JT EU=>Ai .i64 JT fun Xe=>Ab EU fun HO NQ=>Ai .i64 HO fun GQ=>Ae NQ<|Ae x4<|Cg (decide (K3<0)) (Au (decide (0+x8*1<=x9.length))<|Au (decide (0+Ri*2<=Ut.length))<|some (Bb.mk [.agg [.lst false 1 x8 (List.take (x8*1) (List.drop 0 x9)),.sc (.int .i64 K3),.sc (.int .u64 O8),.sc (.int .u64 Pt),.sc (.int .i64 Q8),.sc (.bool Rb),.sc (.int .u64 Wi),.lst false 2 Ri (List.take (Ri*2) (List.drop 0 Ut)),.sc (.bool Xy),.sc (.int .i64 Xe),.sc (.int .i64 GQ)],.sc (.int .i64 9)] [])) (Cg (decide (K3>4)) (Au (decide (0+x8*1<=x9.length))<|Au (decide (0+Ri*2<=Ut.length))<|some (Bb.mk [.agg [.lst false 1 x8 (List.take (x8*1) (List.drop 0 x9)),.sc (.int .i64 K3),.sc (.int .u64 O8),.sc (.int .u64 Pt),.sc (.int .i64 Q8),.sc (.bool Rb),.sc (.int .u64 Wi),.lst false 2 Ri (List.take (Ri*2) (List.drop 0 Ut)),.sc (.bool Xy),.sc (.int .i64 Xe),.sc (.int .i64 GQ)],.sc (.int .i64 9)] [])) (Cg (decide (a2<0)) (Au (decide (0+x8*1<=x9.length))<|Au (decide (0+Ri*2<=Ut.length))<|some (Bb.mk [.agg [.lst false 1 x8 (List.take (x8*1) (List.drop 0 x9)),.sc (.int .i64 K3),.sc (.int .u64 O8),.sc (.int .u64 Pt),.sc (.int .i64 Q8),.sc (.bool Rb),.sc (.int .u64 Wi),.lst false 2 Ri (List.take (Ri*2) (List.drop 0 Ut)),.sc (.bool Xy),.sc (.int .i64 Xe),.sc (.int .i64 GQ)],.sc (.int .i64 9)] [])) (Cg (decide (a2>a1)) (Au (decide (0+x8*1<=x9.length))<|Au (decide (0+Ri*2<=Ut.length))<|some (Bb.mk [.agg [.lst false 1 x8 (List.take (x8*1) (List.drop 0 x9)),.sc (.int .i64 K3),.sc (.int .u64 O8),.sc (.int .u64 Pt),.sc (.int .i64 Q8),.sc (.bool Rb),.sc (.int .u64 Wi),.lst false 2 Ri (List.take (Ri*2) (List.drop 0 Ut)),.sc (.bool Xy),.sc (.int .i64 Xe),.sc (.int .i64 GQ)],.sc (.int .i64 9)] [])) (Au (decide (0<=K3))<|Aa (Ho .i64 1 K3) fun VN=>Cg (decide (a1>=VN)) (Au (decide (0+x8*1<=x9.length))<|Au (decide (0+Ri*2<=Ut.length))<|some (Bb.mk [.agg [.lst false 1 x8 (List.take (x8*1) (List.drop 0 x9)),.sc (.int .i64 K3),.sc (.int .u64 O8),.sc (.int .u64 Pt),.sc (.int .i64 Q8),.sc (.bool Rb),.sc (.int .u64 Wi),.lst false 2 Ri (List.take (Ri*2) (List.drop 0 Ut)),.sc (.bool Xy),.sc (.int .i64 Xe),.sc (.int .i64 GQ)],.sc (.int .i64 9)] [])) (K7 fu call E5 D1 Ds E2 Gf Qj Qn P9 Jh Qk Qe P8 Jr a1 a2 a3 (fu) (a1) (a2) (a3) x8 K3 O8 Pt Q8 Rb Wi Ri Xy Xe GQ x9 Ut 0 0 0 0 0 (false) 0 0 (false) 0 0 ([]) ([]))))))) (Af C0 prog fu d):=by kernel_rfl
abbrev Lr:FuncId:=13
noncomputable def Dc (fu:Nat)(call:Aj)(a0n:Nat)(a0:List PV)(a1:Int)(a2:ByteArray)(nn:Nat)(y0:Int)(y1:ByteArray)(y2 y3:Nat)(y4:List PV)(y5 y6:Int)(y7:List PV):Option Bb:=Cw CB prog fu call 13 Try.f13 (Bz Try.f13) [.lst false 3 a0n a0,.sc (.int .u64 a1),.sc (.string a2)] [.r,.r,.l,.r,.r,.l,.r,.l] nn ⟨lk [(1,(.sc (.int .u64 y0))),(2,(.sc (.string y1))),(7,(.view 7 1 0 y2)),(25,(.lst false 11 y3 y4)),(26,(.sc (.int .i64 y5))),(27,(.sc (.int .i64 y6)))],Fw [(7,(.ar false y7))]⟩
noncomputable def Dw (fu:Nat)(call:Aj)(a0n:Nat)(a0:List PV)(a1:Int)(a2:ByteArray)(nn y0:Nat)(y1 y2 y3:Int)(y4:List PV):Option Bb:=Cw CB prog fu call 13 Try.f13 (Bz Try.f13) [.lst false 3 a0n a0,.sc (.int .u64 a1),.sc (.string a2)] [.r,.r,.r,.r,.l,.r,.l] nn ⟨lk [(7,(.view 7 1 0 y0)),(12,(.sc (.int .u64 y1))),(52,(.sc (.int .i64 y2))),(53,(.sc (.int .i64 y3)))],Fw [(7,(.ar false y4))]⟩
theorem Iy (fu:Nat)(call:Aj)(a0n:Nat)(a0:List PV)(a1:Int)(a2:ByteArray)(nn:Nat)(y0:Int)(y1:ByteArray)(y2 y3:Nat)(y4:List PV)(y5 y6:Int)(y7:List PV):Dc fu call a0n a0 a1 a2 (nn+1) y0 y1 y2 y3 y4 y5 y6 y7=(Cg (decide (y6<y5)) (Au (decide (0<=y6)&&decide (y6<(↑y3:Int)))<|Eu 1 (List.getD y4 (Int.toNat y6*11) .top) fun T9 Pt Lg=>Ai .i64 (List.getD y4 (Int.toNat y6*11+1) .top) fun Q4=>Ai .u64 (List.getD y4 (Int.toNat y6*11+1+1) .top) fun Q8=>Ai .u64 (List.getD y4 (Int.toNat y6*11+1+1+1) .top) fun Wy=>Ai .i64 (List.getD y4 (Int.toNat y6*11+1+1+1+1) .top) fun V2=>A5 (List.getD y4 (Int.toNat y6*11+1+1+1+1+1) .top) fun Rb=>Ai .u64 (List.getD y4 (Int.toNat y6*11+1+1+1+1+1+1) .top) fun GT=>Eu 2 (List.getD y4 (Int.toNat y6*11+1+1+1+1+1+1+1) .top) fun GZ Wi OC=>A5 (List.getD y4 (Int.toNat y6*11+1+1+1+1+1+1+1+1) .top) fun KD=>Ai .i64 (List.getD y4 (Int.toNat y6*11+1+1+1+1+1+1+1+1+1) .top) fun Ri=>Ai .i64 (List.getD y4 (Int.toNat y6*11+1+1+1+1+1+1+1+1+1+1) .top) fun Ut=>Cg (!KD) (Cg (decide ((↑y2:Int)<4)) (Ap (call 32 [.lst false 1 Pt Lg]) fun HH CJ=>Ae CJ<|Ab HH fun Xy JT=>Oc 1 Xy fun EU Xe=>Ae JT<|Au (decide (0+EU*1<=Xe.length))<|Au (decide (y2*1<=y7.length)&&true&&decide ((y2+1)*24<=1099511627776)&&decide (y2+1<=1099511627776))<|Aa (y2+1) fun HO=>Aa (List.take (y2*1) y7++[.lst false 1 EU (List.take (EU*1) (List.drop 0 Xe))]) fun NQ=>Aa (wrap .i64 (y6+1)) fun GQ=>Dc fu call a0n a0 a1 a2 (nn) (y0) (y1) HO (y3) (y4) (y5) GQ NQ) (Aa (wrap .i64 (y6+1)) fun VN=>Dc fu call a0n a0 a1 a2 (nn) (y0) (y1) (y2) (y3) (y4) (y5) VN (y7))) (Aa (wrap .i64 (y6+1)) fun TF=>Dc fu call a0n a0 a1 a2 (nn) (y0) (y1) (y2) (y3) (y4) (y5) TF (y7))) (Au (decide (ByteArray.size y1<=1099511627776))<|Au (decide (0+ByteArray.size y1*1<=List.length (Fd y1)))<|Ap (call 33 [.sc (.int .u64 y0),.sc (.int .i64 20),.lst false 1 (ByteArray.size y1) (List.take (ByteArray.size y1*1) (List.drop 0 (Fd y1)))]) fun VX ON=>Ae ON<|Ab VX fun RO TE=>Ai .u64 RO fun RD=>Ae TE<|Aa (wrap .i64 (4-(↑y2:Int))) fun UQ=>Dw fu call a0n a0 a1 a2 (fu) (y2) RD UQ 0 (y7))):=by kernel_rfl
theorem Is (fu:Nat)(call:Aj)(a0n:Nat)(a0:List PV)(a1:Int)(a2:ByteArray)(nn y0:Nat)(y1 y2 y3:Int)(y4:List PV):Dw fu call a0n a0 a1 a2 (nn+1) y0 y1 y2 y3 y4=(Cg (decide (y3<y2)) (Aa (wrap .u64 y3) fun UW=>Ap (call 34 [.sc (.int .u64 y1),.sc (.int .u64 UW),.sc (.int .i64 176)]) fun DS PE=>Ae PE<|Ab DS fun VI QR=>Oc 1 VI fun DM OW=>Ae QR<|Au (decide (0+DM*1<=OW.length))<|Au (decide (y0*1<=y4.length)&&true&&decide ((y0+1)*24<=1099511627776)&&decide (y0+1<=1099511627776))<|Aa (y0+1) fun SU=>Aa (List.take (y0*1) y4++[.lst false 1 DM (List.take (DM*1) (List.drop 0 OW))]) fun SY=>Aa (wrap .i64 (y3+1)) fun MT=>Dw fu call a0n a0 a1 a2 (nn) SU (y1) (y2) MT SY) (Ap (call 35 [PV.tup [.own 1 y0 y4],.sc (Value.func (Fn.func 36) #[] #[])]) fun RE UF=>Ae RE<|Ab UF fun KS LC=>Ae LC<|Au (decide (y0*1<=KS.length))<|some (Bb.mk [.own 1 y0 (List.take (y0*1) KS)] []))):=by kernel_rfl
theorem Sl (fu d a0n:Nat)(a0:List PV)(a1:Int)(a2:ByteArray):Af C0 prog fu (d+1) Lr [.lst false 3 a0n a0,.sc (.int .u64 a1),.sc (.string a2)]=(fun (call:Aj)=>Ap (call 14 [.lst false 3 a0n a0,.sc (.string a2)]) fun x1 x2=>Ae x2<|Ab x1 fun x3 x4=>Ai .i64 x3 fun x5=>Ab x4 fun x6 x7=>A5 x6 fun x8=>Ae x7<|Cg x8 (Au (decide (0<=x5)&&decide (x5<(↑a0n:Int)))<|Eu 11 (List.getD a0 (Int.toNat x5*3+2) .top) fun x9 L3 Oa=>Dc fu call a0n a0 a1 a2 (fu) (a1) (a2) 0 L3 Oa ((↑L3:Int)) 0 ([])) (Au (decide (ByteArray.size a2<=1099511627776))<|Au (decide (0+ByteArray.size a2*1<=List.length (Fd a2)))<|Ap (call 33 [.sc (.int .u64 a1),.sc (.int .i64 20),.lst false 1 (ByteArray.size a2) (List.take (ByteArray.size a2*1) (List.drop 0 (Fd a2)))]) fun K3 Rs=>Ae Rs<|Ab K3 fun Nw O8=>Ai .u64 Nw fun Ud=>Ae O8<|Dw fu call a0n a0 a1 a2 (fu) 0 Ud 4 0 ([]))) (Af C0 prog fu d):=by kernel_rfl
end
section
open Go.Proofs.Try (prog)
open Go.IntKind (wrap)
set_option maxRecDepth 100000
abbrev Hy:FuncId:=8
theorem N4 (fu d:Nat)(a0 a1:Int):Af C0 prog fu (d+1) Hy [.sc (.int .i64 a0),.sc (.int .i64 a1)]=(fun (call:Aj)=>Ap (call 28 [.sc (.int .i64 a0),.sc (.int .i64 12)]) fun x1 x2=>Ae x2<|Ab x1 fun x3 x4=>Ai .i64 x3 fun x5=>Ae x4<|Aa (wrap .i64 (600+x5)) fun x6=>Ap (call 9 [.sc (.int .i64 x6),.sc (.int .i64 176)]) fun x7 x8=>Ae x8<|Ab x7 fun x9 L3=>Oc 1 x9 fun Oa K3=>Ae L3<|Au (decide (0+Oa*1<=K3.length))<|some (Bb.mk [.agg [.lst false 1 Oa (List.take (Oa*1) (List.drop 0 K3)),.sc (.int .i64 a1),.sc (.int .u64 5),.sc (.int .u64 0),.sc (.int .i64 0),.sc (.bool false),.sc (.int .u64 0),.lst false 2 0 [],.sc (.bool false),.sc (.int .i64 3),.sc (.int .i64 0)]] [])) (Af C0 prog fu d):=by kernel_rfl
abbrev Gz:FuncId:=15
noncomputable def De (fu:Nat)(call:Aj)(a0n:Nat)(a0:List PV)(Sc:Nat)(a1:List PV)(nn y0:Nat)(y1:List PV)(y2:Nat)(y3:List PV)(y4:Int):Option Bb:=Cw CB prog fu call 15 Try.f15 (Bz Try.f15) [.lst false 1 a0n a0,.lst false 1 Sc a1] [.r,.l,.r,.l] nn ⟨lk [(0,(.lst false 1 y0 y1)),(1,(.lst false 1 y2 y3)),(5,(.sc (.int .i64 y4)))],Fw []⟩
theorem Kk (fu:Nat)(call:Aj)(a0n:Nat)(a0:List PV)(Sc:Nat)(a1:List PV)(nn y0:Nat)(y1:List PV)(y2:Nat)(y3:List PV)(y4:Int):De fu call a0n a0 Sc a1 (nn+1) y0 y1 y2 y3 y4=(Cg (decide (y4<(↑y0:Int))) (Au (decide (0<=y4)&&decide (y4<(↑y0:Int)))<|Eu 1 (List.getD y1 (Int.toNat y4*1) .top) fun x1 x2 x3=>Au (decide (x3.length=x2))<|C7 (bytesOf x3) fun x4=>Au (decide (y3.length=y2))<|C7 (bytesOf y3) fun x5=>Cg (Array.toList (ByteArray.data (ByteArray.mk (List.toArray x4)))==Array.toList (ByteArray.data (ByteArray.mk (List.toArray x5)))) (some (Bb.mk [.sc (.bool true)] [])) (Aa (wrap .i64 (y4+1)) fun x6=>De fu call a0n a0 Sc a1 (nn) (y0) (y1) (y2) (y3) x6)) (some (Bb.mk [.sc (.bool false)] []))):=by kernel_rfl
theorem Mp (fu d a0n:Nat)(a0:List PV)(Sc:Nat)(a1:List PV):Af C0 prog fu (d+1) Gz [.lst false 1 a0n a0,.lst false 1 Sc a1]=(fun (call:Aj)=>De fu call a0n a0 Sc a1 (fu) (a0n) (a0) (Sc) (a1) 0) (Af C0 prog fu d):=by kernel_rfl
end
section
open Go.Proofs.Try (prog)
open Go.IntKind (wrap)
set_option maxRecDepth 100000
abbrev Iz:FuncId:=5
noncomputable def Fp (fu:Nat)(call:Aj)(nn:Nat):Option Bb:=Cw CB prog fu call 5 Try.f5 (Bz Try.f5) [] [] nn ⟨lk [],Fw []⟩
noncomputable def Hv (fu:Nat)(call:Aj)(nn:Nat)(y0:Int)(y1:Nat)(y2:List PV)(y3 y4:Int)(y5 y6:Int)(y7:Bool)(y8:Int)(y9:Nat)(E1:List PV)(I7:Bool)(Fb Ja:Int):Option Bb:=Cw CB prog fu call 5 Try.f5 (Bz Try.f5) [] [.r] nn ⟨lk [(1,(.ptr 1 0)),(2,(.sc (.int .i64 y0)))],Fw [(1,(.st [(.lst false 1 y1 y2),(.sc (.int .i64 y3)),(.sc (.int .u64 y4)),(.sc (.int .u64 y5)),(.sc (.int .i64 y6)),(.sc (.bool y7)),(.sc (.int .u64 y8)),(.lst false 2 y9 E1),(.sc (.bool I7)),(.sc (.int .i64 Fb)),(.sc (.int .i64 Ja))]))]⟩
noncomputable def Hw (fu:Nat)(call:Aj)(nn:Nat)(y0 y1:Int)(y2:Nat)(y3:List PV)(y4 y5:Int)(y6 y7:Int)(y8:Bool)(y9:Int)(E1:Nat)(I7:List PV)(Fb:Bool)(Ja J5:Int):Option Bb:=Cw CB prog fu call 5 Try.f5 (Bz Try.f5) [] [.r,.r] nn ⟨lk [(1,(.ptr 1 0)),(2,(.sc (.int .i64 y0))),(3,(.sc (.int .i64 y1)))],Fw [(1,(.st [(.lst false 1 y2 y3),(.sc (.int .i64 y4)),(.sc (.int .u64 y5)),(.sc (.int .u64 y6)),(.sc (.int .i64 y7)),(.sc (.bool y8)),(.sc (.int .u64 y9)),(.lst false 2 E1 I7),(.sc (.bool Fb)),(.sc (.int .i64 Ja)),(.sc (.int .i64 J5))]))]⟩
noncomputable def Hq (fu:Nat)(call:Aj)(nn:Nat)(y0 y1 y2:Int)(y3:Nat)(y4:List PV)(y5 y6:Int)(y7 y8:Int)(y9:Bool)(E1:Int)(I7:Nat)(Fb:List PV)(Ja:Bool)(J5 Od:Int)(Kx:Nat)(Jq:List PV)(Ub T0:Int)(T8 T7:Int)(Uc:Bool)(Tw:Int)(Tz:Nat)(Ty:List PV)(Tx:Bool)(Ua Tv:Int):Option Bb:=Cw CB prog fu call 5 Try.f5 (Bz Try.f5) [] [.r,.r,.r] nn ⟨lk [(1,(.ptr 1 0)),(2,(.sc (.int .i64 y0))),(3,(.sc (.int .i64 y1))),(4,(.ptr 4 0)),(5,(.sc (.int .i64 y2)))],Fw [(1,(.st [(.lst false 1 y3 y4),(.sc (.int .i64 y5)),(.sc (.int .u64 y6)),(.sc (.int .u64 y7)),(.sc (.int .i64 y8)),(.sc (.bool y9)),(.sc (.int .u64 E1)),(.lst false 2 I7 Fb),(.sc (.bool Ja)),(.sc (.int .i64 J5)),(.sc (.int .i64 Od))])),(4,(.st [(.lst false 1 Kx Jq),(.sc (.int .i64 Ub)),(.sc (.int .u64 T0)),(.sc (.int .u64 T8)),(.sc (.int .i64 T7)),(.sc (.bool Uc)),(.sc (.int .u64 Tw)),(.lst false 2 Tz Ty),(.sc (.bool Tx)),(.sc (.int .i64 Ua)),(.sc (.int .i64 Tv))]))]⟩
noncomputable def Hz (fu:Nat)(call:Aj)(nn:Nat)(y0 y1:Int)(y2 y3:Int)(y4:Nat)(y5:List PV)(y6 y7:Int)(y8 y9:Int)(E1:Bool)(I7:Int)(Fb:Nat)(Ja:List PV)(J5:Bool)(Od Kx:Int)(Jq:Nat)(Ub:List PV)(T0 T8:Int)(T7 Uc:Int)(Tw:Bool)(Tz:Int)(Ty:Nat)(Tx:List PV)(Ua:Bool)(Tv HA:Int)(GS:Nat)(SC:List PV)(OJ QX:Int)(RZ TG:Int)(UN:Bool)(TJ:Int)(VG:Nat)(VC:List PV)(UV:Bool)(UU UH:Int):Option Bb:=Cw CB prog fu call 5 Try.f5 (Bz Try.f5) [] [.r,.r,.r,.r] nn ⟨lk [(1,(.ptr 1 0)),(2,(.sc (.int .i64 y0))),(3,(.sc (.int .i64 y1))),(4,(.ptr 4 0)),(5,(.sc (.int .i64 y2))),(6,(.ptr 6 0)),(7,(.sc (.int .i64 y3)))],Fw [(1,(.st [(.lst false 1 y4 y5),(.sc (.int .i64 y6)),(.sc (.int .u64 y7)),(.sc (.int .u64 y8)),(.sc (.int .i64 y9)),(.sc (.bool E1)),(.sc (.int .u64 I7)),(.lst false 2 Fb Ja),(.sc (.bool J5)),(.sc (.int .i64 Od)),(.sc (.int .i64 Kx))])),(4,(.st [(.lst false 1 Jq Ub),(.sc (.int .i64 T0)),(.sc (.int .u64 T8)),(.sc (.int .u64 T7)),(.sc (.int .i64 Uc)),(.sc (.bool Tw)),(.sc (.int .u64 Tz)),(.lst false 2 Ty Tx),(.sc (.bool Ua)),(.sc (.int .i64 Tv)),(.sc (.int .i64 HA))])),(6,(.st [(.lst false 1 GS SC),(.sc (.int .i64 OJ)),(.sc (.int .u64 QX)),(.sc (.int .u64 RZ)),(.sc (.int .i64 TG)),(.sc (.bool UN)),(.sc (.int .u64 TJ)),(.lst false 2 VG VC),(.sc (.bool UV)),(.sc (.int .i64 UU)),(.sc (.int .i64 UH))]))]⟩
noncomputable def Hp (fu:Nat)(call:Aj)(nn:Nat)(y0 y1:Int)(y2 y3:Int)(y4:Nat)(y5:List PV)(y6:Int)(y7:Nat)(y8:List PV)(y9 E1:Int)(I7 Fb:Int)(Ja:Bool)(J5:Int)(Od:Nat)(Kx:List PV)(Jq:Bool)(Ub T0:Int)(T8:Nat)(T7:List PV)(Uc Tw:Int)(Tz Ty:Int)(Tx:Bool)(Ua:Int)(Tv:Nat)(HA:List PV)(GS:Bool)(SC OJ:Int)(QX:Nat)(RZ:List PV)(TG UN:Int)(TJ VG:Int)(VC:Bool)(UV:Int)(UU:Nat)(UH:List PV)(y43:Bool)(y44 y45:Int):Option Bb:=Cw CB prog fu call 5 Try.f5 (Bz Try.f5) [] [.r,.r,.r,.r,.r] nn ⟨lk [(1,(.ptr 1 0)),(2,(.sc (.int .i64 y0))),(3,(.sc (.int .i64 y1))),(4,(.ptr 4 0)),(5,(.sc (.int .i64 y2))),(6,(.ptr 6 0)),(7,(.sc (.int .i64 y3))),(8,(.lst false 3 y4 y5)),(9,(.sc (.int .i64 y6)))],Fw [(1,(.st [(.lst false 1 y7 y8),(.sc (.int .i64 y9)),(.sc (.int .u64 E1)),(.sc (.int .u64 I7)),(.sc (.int .i64 Fb)),(.sc (.bool Ja)),(.sc (.int .u64 J5)),(.lst false 2 Od Kx),(.sc (.bool Jq)),(.sc (.int .i64 Ub)),(.sc (.int .i64 T0))])),(4,(.st [(.lst false 1 T8 T7),(.sc (.int .i64 Uc)),(.sc (.int .u64 Tw)),(.sc (.int .u64 Tz)),(.sc (.int .i64 Ty)),(.sc (.bool Tx)),(.sc (.int .u64 Ua)),(.lst false 2 Tv HA),(.sc (.bool GS)),(.sc (.int .i64 SC)),(.sc (.int .i64 OJ))])),(6,(.st [(.lst false 1 QX RZ),(.sc (.int .i64 TG)),(.sc (.int .u64 UN)),(.sc (.int .u64 TJ)),(.sc (.int .i64 VG)),(.sc (.bool VC)),(.sc (.int .u64 UV)),(.lst false 2 UU UH),(.sc (.bool y43)),(.sc (.int .i64 y44)),(.sc (.int .i64 y45))]))]⟩
noncomputable def Ht (fu:Nat)(call:Aj)(nn:Nat)(y0 y1:Int)(y2 y3:Int)(y4:Nat)(y5:List PV)(y6 y7:Int)(y8:Bool)(y9:Nat)(E1:List PV)(I7 Fb:Int)(Ja J5:Int)(Od:Bool)(Kx:Int)(Jq:Nat)(Ub:List PV)(T0:Bool)(T8 T7:Int)(Uc:Nat)(Tw:List PV)(Tz Ty:Int)(Tx Ua:Int)(Tv:Bool)(HA:Int)(GS:Nat)(SC:List PV)(OJ:Bool)(QX RZ:Int)(TG:Nat)(UN:List PV)(TJ VG:Int)(VC UV:Int)(UU:Bool)(UH:Int)(y43:Nat)(y44:List PV)(y45:Bool)(y46 y47:Int):Option Bb:=Cw CB prog fu call 5 Try.f5 (Bz Try.f5) [] [.r,.r,.r,.r,.r,.r] nn ⟨lk [(1,(.ptr 1 0)),(2,(.sc (.int .i64 y0))),(3,(.sc (.int .i64 y1))),(4,(.ptr 4 0)),(5,(.sc (.int .i64 y2))),(6,(.ptr 6 0)),(7,(.sc (.int .i64 y3))),(8,(.lst false 3 y4 y5)),(9,(.sc (.int .i64 y6))),(10,(.sc (.int .i64 y7))),(11,(.sc (.bool y8)))],Fw [(1,(.st [(.lst false 1 y9 E1),(.sc (.int .i64 I7)),(.sc (.int .u64 Fb)),(.sc (.int .u64 Ja)),(.sc (.int .i64 J5)),(.sc (.bool Od)),(.sc (.int .u64 Kx)),(.lst false 2 Jq Ub),(.sc (.bool T0)),(.sc (.int .i64 T8)),(.sc (.int .i64 T7))])),(4,(.st [(.lst false 1 Uc Tw),(.sc (.int .i64 Tz)),(.sc (.int .u64 Ty)),(.sc (.int .u64 Tx)),(.sc (.int .i64 Ua)),(.sc (.bool Tv)),(.sc (.int .u64 HA)),(.lst false 2 GS SC),(.sc (.bool OJ)),(.sc (.int .i64 QX)),(.sc (.int .i64 RZ))])),(6,(.st [(.lst false 1 TG UN),(.sc (.int .i64 TJ)),(.sc (.int .u64 VG)),(.sc (.int .u64 VC)),(.sc (.int .i64 UV)),(.sc (.bool UU)),(.sc (.int .u64 UH)),(.lst false 2 y43 y44),(.sc (.bool y45)),(.sc (.int .i64 y46)),(.sc (.int .i64 y47))]))]⟩
theorem Mq (fu:Nat)(call:Aj)(nn:Nat)(hnn:0<nn):Fp fu call nn=(Ap (call 8 [.sc (.int .i64 1),.sc (.int .i64 2)]) fun x1 x2=>Ae x2<|Ab x1 fun x3 x4=>Fo x3 fun x5=>Ab x5 fun x6 x7=>Eu 1 x6 fun x8 x9 L3=>Ab x7 fun Oa K3=>Ai .i64 Oa fun Rs=>Ab K3 fun Nw O8=>Ai .u64 Nw fun Ud=>Ab O8 fun T9 Pt=>Ai .u64 T9 fun Lg=>Ab Pt fun Q4 Q8=>Ai .i64 Q4 fun Wy=>Ab Q8 fun V2 Rb=>A5 V2 fun GT=>Ab Rb fun GZ Wi=>Ai .u64 GZ fun OC=>Ab Wi fun KD Ri=>Eu 2 KD fun Ut HH CJ=>Ab Ri fun Xy JT=>A5 Xy fun EU=>Ab JT fun Xe HO=>Ai .i64 Xe fun NQ=>Ab HO fun GQ VN=>Ai .i64 GQ fun TF=>Ae VN<|Ae x4<|Ap (call 27 [.agg [.lst false 1 x9 L3,.sc (.int .i64 Rs),.sc (.int .u64 Ud),.sc (.int .u64 Lg),.sc (.int .i64 Wy),.sc (.bool GT),.sc (.int .u64 OC),.lst false 2 HH CJ,.sc (.bool EU),.sc (.int .i64 NQ),.sc (.int .i64 TF)],.sc (.int .i64 1),.sc (.int .i64 0),.sc (.int .i64 7)]) fun VX ON=>Ae ON<|Ab VX fun RO TE=>Fo RO fun RD=>Ab RD fun UQ UW=>Eu 1 UQ fun DS PE VI=>Ab UW fun QR DM=>Ai .i64 QR fun OW=>Ab DM fun SU SY=>Ai .u64 SU fun MT=>Ab SY fun RE UF=>Ai .u64 RE fun KS=>Ab UF fun LC x63=>Ai .i64 LC fun x64=>Ab x63 fun VM YB=>A5 VM fun x67=>Ab YB fun SS x69=>Ai .u64 SS fun ZP=>Ab x69 fun XS x72=>Eu 2 XS fun x73 PN VA=>Ab x72 fun x76 x77=>A5 x76 fun x78=>Ab x77 fun x79 x80=>Ai .i64 x79 fun x81=>Ab x80 fun x82 x83=>Ai .i64 x82 fun x84=>Ae x83<|Ab TE fun x85 x86=>Ai .i64 x85 fun x87=>Ae x86<|Hv fu call (fu) x87 PE VI OW MT KS x64 x67 ZP PN VA x78 x81 x84):=by cases nn with|zero=>exact absurd hnn (Nat.lt_irrefl 0)|succ nn=>kernel_rfl
theorem L7 (fu:Nat)(call:Aj)(nn:Nat)(hnn:0<nn)(y0:Int)(y1:Nat)(y2:List PV)(y3 y4:Int)(y5 y6:Int)(y7:Bool)(y8:Int)(y9:Nat)(E1:List PV)(I7:Bool)(Fb Ja:Int):Hv fu call nn y0 y1 y2 y3 y4 y5 y6 y7 y8 y9 E1 I7 Fb Ja=(Ap (call 27 [.agg [.lst false 1 y1 y2,.sc (.int .i64 y3),.sc (.int .u64 y4),.sc (.int .u64 y5),.sc (.int .i64 y6),.sc (.bool y7),.sc (.int .u64 y8),.lst false 2 y9 E1,.sc (.bool I7),.sc (.int .i64 Fb),.sc (.int .i64 Ja)],.sc (.int .i64 3),.sc (.int .i64 2),.sc (.int .i64 8)]) fun x88 x89=>Ae x89<|Ab x88 fun x90 x91=>Fo x90 fun x92=>Ab x92 fun x93 x94=>Eu 1 x93 fun x95 x96 x97=>Ab x94 fun x98 x99=>Ai .i64 x98 fun Abu=>Ab x99 fun Aa9 WW=>Ai .u64 Aa9 fun YK=>Ab WW fun ZY BA=>Ai .u64 ZY fun Aa6=>Ab BA fun Aeh SF=>Ai .i64 Aeh fun UI=>Ab SF fun WR Abj=>A5 WR fun RT=>Ab Abj fun Abd WC=>Ai .u64 Abd fun WH=>Ab WC fun Aae ZT=>Eu 2 Aae fun Ac2 Abw ZI=>Ab ZT fun ZM Afo=>A5 ZM fun YX=>Ab Afo fun XQ WJ=>Ai .i64 XQ fun XN=>Ab WJ fun SV YY=>Ai .i64 SV fun XJ=>Ae YY<|Ab x91 fun XR YO=>Ai .i64 XR fun Abl=>Ae YO<|Hw fu call (fu) (y0) Abl x96 x97 Abu YK Aa6 UI RT WH Abw ZI YX XN XJ):=by cases nn with|zero=>exact absurd hnn (Nat.lt_irrefl 0)|succ nn=>kernel_rfl
theorem L5 (fu:Nat)(call:Aj)(nn:Nat)(hnn:0<nn)(y0 y1:Int)(y2:Nat)(y3:List PV)(y4 y5:Int)(y6 y7:Int)(y8:Bool)(y9:Int)(E1:Nat)(I7:List PV)(Fb:Bool)(Ja J5:Int):Hw fu call nn y0 y1 y2 y3 y4 y5 y6 y7 y8 y9 E1 I7 Fb Ja J5=(Ap (call 27 [.agg [.lst false 1 y2 y3,.sc (.int .i64 y4),.sc (.int .u64 y5),.sc (.int .u64 y6),.sc (.int .i64 y7),.sc (.bool y8),.sc (.int .u64 y9),.lst false 2 E1 I7,.sc (.bool Fb),.sc (.int .i64 Ja),.sc (.int .i64 J5)],.sc (.int .i64 0),.sc (.int .i64 0),.sc (.int .i64 9)]) fun XL Aby=>Ae Aby<|Ab XL fun Aaa Abv=>Fo Aaa fun ZX=>Ab ZX fun Abk Adn=>Eu 1 Abk fun Ae7 XG Abs=>Ab Adn fun WS OB=>Ai .i64 WS fun WQ=>Ab OB fun XB Aai=>Ai .u64 XB fun ZW=>Ab Aai fun Ai7 Ah9=>Ai .u64 Ai7 fun Ajw=>Ab Ah9 fun An9 Anw=>Ai .i64 An9 fun Ape=>Ab Anw fun Aj3 Akm=>A5 Aj3 fun All=>Ab Akm fun Aia Ak5=>Ai .u64 Aia fun Aiq=>Ab Ak5 fun Ahl Ak3=>Eu 2 Ahl fun Am0 Ai5 Aiv=>Ab Ak3 fun Ah4 Aht=>A5 Ah4 fun Akz=>Ab Aht fun Ak0 Aje=>Ai .i64 Ak0 fun Akq=>Ab Aje fun Ak1 Aik=>Ai .i64 Ak1 fun Ake=>Ae Aik<|Ab Abv fun Aor Ahm=>Ai .i64 Aor fun Ahz=>Ae Ahm<|Hq fu call (fu) (y0) (y1) Ahz (y2) (y3) (y4) (y5) (y6) (y7) (y8) (y9) (E1) (I7) (Fb) (Ja) (J5) XG Abs WQ ZW Ajw Ape All Aiq Ai5 Aiv Akz Akq Ake):=by cases nn with|zero=>exact absurd hnn (Nat.lt_irrefl 0)|succ nn=>kernel_rfl
theorem Mt (fu:Nat)(call:Aj)(nn:Nat)(hnn:0<nn)(y0 y1 y2:Int)(y3:Nat)(y4:List PV)(y5 y6:Int)(y7 y8:Int)(y9:Bool)(E1:Int)(I7:Nat)(Fb:List PV)(Ja:Bool)(J5 Od:Int)(Kx:Nat)(Jq:List PV)(Ub T0:Int)(T8 T7:Int)(Uc:Bool)(Tw:Int)(Tz:Nat)(Ty:List PV)(Tx:Bool)(Ua Tv:Int):Hq fu call nn y0 y1 y2 y3 y4 y5 y6 y7 y8 y9 E1 I7 Fb Ja J5 Od Kx Jq Ub T0 T8 T7 Uc Tw Tz Ty Tx Ua Tv=(Ap (call 27 [.agg [.lst false 1 y3 y4,.sc (.int .i64 y5),.sc (.int .u64 y6),.sc (.int .u64 y7),.sc (.int .i64 y8),.sc (.bool y9),.sc (.int .u64 E1),.lst false 2 I7 Fb,.sc (.bool Ja),.sc (.int .i64 J5),.sc (.int .i64 Od)],.sc (.int .i64 3),.sc (.int .i64 2),.sc (.int .i64 9)]) fun Ag7 Ajc=>Ae Ajc<|Ab Ag7 fun Ao1 Ait=>Fo Ao1 fun Ajg=>Ab Ajg fun Ak7 Aib=>Eu 1 Ak7 fun Any Ag8 Ajn=>Ab Aib fun Aks Ahe=>Ai .i64 Aks fun Ald=>Ab Ahe fun Ahp ZG=>Ai .u64 Ahp fun Ae2=>Ab ZG fun Ag9 Aig=>Ai .u64 Ag9 fun Ahn=>Ab Aig fun Akh Ak6=>Ai .i64 Akh fun Ai0=>Ab Ak6 fun Ahh Aj6=>A5 Ahh fun Aln=>Ab Aj6 fun Ama Akt=>Ai .u64 Ama fun Ajo=>Ab Akt fun Ag4 Ah6=>Eu 2 Ag4 fun Ao9 Ajv Ajf=>Ab Ah6 fun Ai4 Aip=>A5 Ai4 fun Ag6=>Ab Aip fun Ah0 Ahv=>Ai .i64 Ah0 fun Akj=>Ab Ahv fun Aij Ami=>Ai .i64 Aij fun Afi=>Ae Ami<|Ab Ait fun Adc Akg=>Ai .i64 Adc fun Ahj=>Ae Akg<|Hz fu call (fu) (y0) (y1) (y2) Ahj (y3) (y4) (y5) (y6) (y7) (y8) (y9) (E1) (I7) (Fb) (Ja) (J5) (Od) (Kx) (Jq) (Ub) (T0) (T8) (T7) (Uc) (Tw) (Tz) (Ty) (Tx) (Ua) (Tv) Ag8 Ajn Ald Ae2 Ahn Ai0 Aln Ajo Ajv Ajf Ag6 Akj Afi):=by cases nn with|zero=>exact absurd hnn (Nat.lt_irrefl 0)|succ nn=>kernel_rfl
theorem Mu (fu:Nat)(call:Aj)(nn:Nat)(hnn:0<nn)(y0 y1:Int)(y2 y3:Int)(y4:Nat)(y5:List PV)(y6 y7:Int)(y8 y9:Int)(E1:Bool)(I7:Int)(Fb:Nat)(Ja:List PV)(J5:Bool)(Od Kx:Int)(Jq:Nat)(Ub:List PV)(T0 T8:Int)(T7 Uc:Int)(Tw:Bool)(Tz:Int)(Ty:Nat)(Tx:List PV)(Ua:Bool)(Tv HA:Int)(GS:Nat)(SC:List PV)(OJ QX:Int)(RZ TG:Int)(UN:Bool)(TJ:Int)(VG:Nat)(VC:List PV)(UV:Bool)(UU UH:Int):Hz fu call nn y0 y1 y2 y3 y4 y5 y6 y7 y8 y9 E1 I7 Fb Ja J5 Od Kx Jq Ub T0 T8 T7 Uc Tw Tz Ty Tx Ua Tv HA GS SC OJ QX RZ TG UN TJ VG VC UV UU UH=(Ap (call 11 [.lst false 3 0 [],.sc (.string (ByteArray.mk #[97,108,105,99,101])),.sc (.string (ByteArray.mk #[117])),.agg [.lst false 1 y4 y5,.sc (.int .i64 y6),.sc (.int .u64 y7),.sc (.int .u64 y8),.sc (.int .i64 y9),.sc (.bool E1),.sc (.int .u64 I7),.lst false 2 Fb Ja,.sc (.bool J5),.sc (.int .i64 Od),.sc (.int .i64 Kx)]]) fun Acw Ajh=>Ae Ajh<|Ab Acw fun Ali Ah1=>Eu 3 Ali fun Aov Ah5 Ak8=>Ab Ah1 fun Akr Ajj=>Ai .i64 Akr fun Ale=>Ae Ajj<|Hp fu call (fu) (y0) (y1) (y2) (y3) Ah5 Ak8 Ale (y4) (y5) (y6) (y7) (y8) (y9) (E1) (I7) (Fb) (Ja) (J5) (Od) (Kx) (Jq) (Ub) (T0) (T8) (T7) (Uc) (Tw) (Tz) (Ty) (Tx) (Ua) (Tv) (HA) (GS) (SC) (OJ) (QX) (RZ) (TG) (UN) (TJ) (VG) (VC) (UV) (UU) (UH)):=by cases nn with|zero=>exact absurd hnn (Nat.lt_irrefl 0)|succ nn=>kernel_rfl
theorem Ma (fu:Nat)(call:Aj)(nn:Nat)(hnn:0<nn)(y0 y1:Int)(y2 y3:Int)(y4:Nat)(y5:List PV)(y6:Int)(y7:Nat)(y8:List PV)(y9 E1:Int)(I7 Fb:Int)(Ja:Bool)(J5:Int)(Od:Nat)(Kx:List PV)(Jq:Bool)(Ub T0:Int)(T8:Nat)(T7:List PV)(Uc Tw:Int)(Tz Ty:Int)(Tx:Bool)(Ua:Int)(Tv:Nat)(HA:List PV)(GS:Bool)(SC OJ:Int)(QX:Nat)(RZ:List PV)(TG UN:Int)(TJ VG:Int)(VC:Bool)(UV:Int)(UU:Nat)(UH:List PV)(y43:Bool)(y44 y45:Int):Hp fu call nn y0 y1 y2 y3 y4 y5 y6 y7 y8 y9 E1 I7 Fb Ja J5 Od Kx Jq Ub T0 T8 T7 Uc Tw Tz Ty Tx Ua Tv HA GS SC OJ QX RZ TG UN TJ VG VC UV UU UH y43 y44 y45=(Ap (call 14 [.lst false 3 y4 y5,.sc (.string (ByteArray.mk #[97,108,105,99,101]))]) fun Aoh Aj0=>Ae Aj0<|Ab Aoh fun Ain Aiw=>Ai .i64 Ain fun Aka=>Ab Aiw fun Adr Aic=>A5 Adr fun Akl=>Ae Aic<|Ht fu call (fu) (y0) (y1) (y2) (y3) (y4) (y5) (y6) Aka Akl (y7) (y8) (y9) (E1) (I7) (Fb) (Ja) (J5) (Od) (Kx) (Jq) (Ub) (T0) (T8) (T7) (Uc) (Tw) (Tz) (Ty) (Tx) (Ua) (Tv) (HA) (GS) (SC) (OJ) (QX) (RZ) (TG) (UN) (TJ) (VG) (VC) (UV) (UU) (UH) (y43) (y44) (y45)):=by cases nn with|zero=>exact absurd hnn (Nat.lt_irrefl 0)|succ nn=>kernel_rfl
theorem Mn (fu:Nat)(call:Aj)(nn:Nat)(hnn:0<nn)(y0 y1:Int)(y2 y3:Int)(y4:Nat)(y5:List PV)(y6 y7:Int)(y8:Bool)(y9:Nat)(E1:List PV)(I7 Fb:Int)(Ja J5:Int)(Od:Bool)(Kx:Int)(Jq:Nat)(Ub:List PV)(T0:Bool)(T8 T7:Int)(Uc:Nat)(Tw:List PV)(Tz Ty:Int)(Tx Ua:Int)(Tv:Bool)(HA:Int)(GS:Nat)(SC:List PV)(OJ:Bool)(QX RZ:Int)(TG:Nat)(UN:List PV)(TJ VG:Int)(VC UV:Int)(UU:Bool)(UH:Int)(y43:Nat)(y44:List PV)(y45:Bool)(y46 y47:Int):Ht fu call nn y0 y1 y2 y3 y4 y5 y6 y7 y8 y9 E1 I7 Fb Ja J5 Od Kx Jq Ub T0 T8 T7 Uc Tw Tz Ty Tx Ua Tv HA GS SC OJ QX RZ TG UN TJ VG VC UV UU UH y43 y44 y45 y46 y47=(Cg (y0==0) (Cg (y1==0) (Cg (y2==37) (Cg (y3==37) (Cg (y6==0) (Cg (!OJ) (Cg (y45) (Cg (Kx==10) (Cg ((↑Jq:Int)==2) (Cg (y8) (Cg (y7==0) (Ap (call 13 [.lst false 3 y4 y5,.sc (.int .u64 1),.sc (.string (ByteArray.mk #[98,111,98]))]) fun Alo Ahk=>Ae Ahk<|Ab Alo fun Aku Aj5=>Oc 1 Aku fun Ajm Apf=>Ae Aj5<|some (Bb.mk [.sc (.bool ((↑Ajm:Int)==4))] [])) (some (Bb.mk [.sc (.bool false)] []))) (some (Bb.mk [.sc (.bool false)] []))) (some (Bb.mk [.sc (.bool false)] []))) (some (Bb.mk [.sc (.bool false)] []))) (some (Bb.mk [.sc (.bool false)] []))) (some (Bb.mk [.sc (.bool false)] []))) (some (Bb.mk [.sc (.bool false)] []))) (some (Bb.mk [.sc (.bool false)] []))) (some (Bb.mk [.sc (.bool false)] []))) (some (Bb.mk [.sc (.bool false)] []))) (some (Bb.mk [.sc (.bool false)] []))):=by cases nn with|zero=>exact absurd hnn (Nat.lt_irrefl 0)|succ nn=>kernel_rfl
theorem O6 (fu d:Nat):Af C0 prog fu (d+1) Iz []=(fun (call:Aj)=>Fp fu call (fu)) (Af C0 prog fu d):=by kernel_rfl
end
section
open Go.Proofs.Try (prog)
open Go.IntKind (wrap)
set_option maxRecDepth 100000
abbrev Lj:FuncId:=6
theorem Tc (fu d a0n:Nat)(a0:List PV):Af C0 prog fu (d+1) Lj [.lst false 1 a0n a0]=(fun (call:Aj)=>some (Bb.mk [.pbox [.lst false 1 a0n a0,.sc (.int .i64 0)]] [])) (Af C0 prog fu d):=by kernel_rfl
abbrev G8:FuncId:=28
theorem Ll (fu d:Nat)(a0 a1:Int):Af C0 prog fu (d+1) G8 [.sc (.int .i64 a0),.sc (.int .i64 a1)]=(fun (call:Aj)=>Aa (wrap .u64 a0) fun x1=>Aa (wrap .u64 a1) fun x2=>Au (decide (x2≠0))<|Aa (Int.tmod x1 x2) fun x3=>Aa (wrap .i64 x3) fun x4=>some (Bb.mk [.sc (.int .i64 x4)] [])) (Af C0 prog fu d):=by kernel_rfl
abbrev G1:FuncId:=10
theorem Gv (fu d E5:Nat)(D1:List PV)(Ds a1:Int):Af C0 prog fu (d+1) G1 [.pbox [.lst false 1 E5 D1,.sc (.int .i64 Ds)],.sc (.int .i64 a1)]=(fun (call:Aj)=>Cg (decide (Ds>=(↑E5:Int))) (some (Bb.mk [.sc (.int .i64 0)] [[.lst false 1 E5 D1,.sc (.int .i64 Ds)]])) (Aa (wrap .i64 (Ds+1)) fun x1=>Aa (wrap .i64 (x1-1)) fun x2=>Au (decide (0<=x2)&&decide (x2<(↑E5:Int)))<|Ai .i64 (List.getD D1 (Int.toNat x2*1) .top) fun x3=>Ap (call 28 [.sc (.int .i64 x3),.sc (.int .i64 a1)]) fun x4 x5=>Ae x5<|Ab x4 fun x6 x7=>Ai .i64 x6 fun x8=>Ae x7<|some (Bb.mk [.sc (.int .i64 x8)] [[.lst false 1 E5 D1,.sc (.int .i64 x1)]]))) (Af C0 prog fu d):=by kernel_rfl
end
section
open Go.Proofs.Try (prog)
open Go.IntKind (wrap)
set_option maxRecDepth 100000
theorem JW {α:Type}{l:List α}{i:Nat}{a:α}(h:l[i]?=some a):l.set i a=l:=by
 refine List.ext_getElem? fun j=>?_
 rw[List.getElem?_set];by_cases hj:i=j
 ·subst hj;rw[Lw rfl,Lw (I6 h),h]
 ·rw[Lz hj]
section
variable {xs:FuncId->Option (List PV->Option Bb)} {fu d:Nat}
theorem DH {n:Nat}{c:List PV}(hc:c.length=n)(hn:n<=1000000):Af (CX xs) prog fu (d+1) Q3 [.lst false 1 n c]=some ⟨[.own 1 n c],[]⟩:=by
 rw[AW];have t1:List.take n c=c:=Qq (by omega)
 by_cases h:0<n
 ·simp (disch:=omega) only[Ep,Fv,List.nil_append,t1,hc,Fx]
 ·have h0:n=0:=by omega
  subst h0;have:=List.length_eq_zero_iff.1 hc;subst this;simp (disch:=omega) only[Ep,Fv,List.nil_append,N6,Fx,Nat.zero_mul,List.take_nil]
theorem SQ {n:Nat}{c:List PV}(hc:c.length=n*2)(hn:n<=1000000):Af (CX xs) prog fu (d+1) Iu [.lst false 2 n c]=some ⟨[.own 2 n c],[]⟩:=by
 rw[Pf];have t1:List.take (n*2) c=c:=Qq (by omega)
 by_cases h:0<n
 ·simp (disch:=omega) only[Ep,Fv,List.nil_append,t1,hc]
 ·have h0:n=0:=by omega
  subst h0;have:=List.length_eq_zero_iff.1 hc;subst this;simp (disch:=omega) only[Ep,Fv,List.nil_append,N6,Nat.zero_mul,List.take_nil]
def Sd.ocells (x:Sd):List PV:=[.own 1 x.id.length (Aq .u8 x.id),.sc (.int .i64 x.ht),.sc (.int .u64 x.root),.sc (.int .u64 x.model),.sc (.int .i64 x.fmt),.sc (.bool x.sh),.sc (.int .u64 x.used),.own 2 x.rg.length (Km x.rg),.sc (.bool x.sus),.sc (.int .i64 x.since),.sc (.int .i64 x.last)]
theorem Q2 {c:Sd}(h1:c.id.length<=1000000)(h2:c.rg.length<=1000000):Af (CX xs) prog fu (d+2) I3 [.agg c.cells]=some ⟨[.agg c.ocells],[]⟩:=by
 refine (Ol fu (d+1) c.id.length (Aq .u8 c.id) c.ht c.root c.model c.fmt c.sh c.used c.rg.length (Km c.rg) c.sus c.since c.last).trans ?_;have q1:=DH (xs:=xs) (fu:=fu) (d:=d) (A1 .u8 c.id) h1;have q2:=SQ (xs:=xs) (fu:=fu) (d:=d) (Jx c.rg) h2;have l1:=A1 .u8 c.id;have l2:=Jx c.rg;have t1:List.take (c.id.length*1) (Aq .u8 c.id)=Aq .u8 c.id:=Qq (by omega)
 have t2:List.take (c.rg.length*2) (Km c.rg)=Km c.rg:=Qq (by omega)
 simp (disch:=omega) only[Ep,q1,q2,t1,t2];rfl
end
section
variable {fu d:Nat}
theorem UJ {c:List PV}{n:Nat}{i f l:Int}(hc:c.length=n*2)(h0:0<=i)(h1:i<=n)(hn:n<=100000)(ha:c.all Y4=true):
  Af C0 prog fu (d+1) 46 [.own 2 n c,.sc (.int .i64 i),.tup [.own 2 1 [.sc (.int .i64 f),.sc (.int .i64 l)]]] =
   some ⟨[.own 2 (n+1) (c.take (i.toNat*2)++(.sc (.int .i64 f) :: .sc (.int .i64 l)::c.drop (i.toNat*2)))],[[.sc (.int .i64 f),.sc (.int .i64 l)]]⟩:=by
 have h:Af C0 prog fu (d+1) 46 [.own 2 n c,.sc (.int .i64 i),.tup [.own 2 1 [.sc (.int .i64 f),.sc (.int .i64 l)]]]=ZR [.own 2 n c,.sc (.int .i64 i),.tup [.own 2 1 [.sc (.int .i64 f),.sc (.int .i64 l)]]]:=by kernel_rfl
 rw[h];unfold ZR
 have e:(Nat.beq c.length (n*2)&&decide (0<=i)&&decide (i<=n)&&Nat.ble n 100000&&c.all Y4)=true:=by
  simp[ha,hc,h0,h1,hn]
 simp only[e,cond_true]
theorem Aer (l:List (Int × Int)):(Km l).all Y4=true:=by
 rw[List.all_eq_true];intro x hx;obtain⟨p,_,hp⟩:=List.mem_flatMap.1 hx;rcases List.mem_cons.1 hp with rfl|hp
 ·rfl
 ·rw[List.mem_singleton] at hp;subst hp;rfl
theorem Auy {l:List (Int × Int)} {i:Nat}{p:Int × Int}(h:l[i]?=some p):(Km l).getD (i*2) .top=.sc (.int .i64 p.1):=by
 have:=CO (f:=fun p:Int × Int=>[PV.sc (.int .i64 p.1),.sc (.int .i64 p.2)]) (k:=2) (fun _=>rfl) h (j:=0) (by omega)
 exact this
theorem Aua {l:List (Int × Int)} {i:Nat}{p:Int × Int}(h:l[i]?=some p):(Km l).getD (i*2+1) .top=.sc (.int .i64 p.2):=by
 have:=CO (f:=fun p:Int × Int=>[PV.sc (.int .i64 p.1),.sc (.int .i64 p.2)]) (k:=2) (fun _=>rfl) h (j:=1) (by omega)
 exact this
def FQ (c:Sd)(leaf now:Int):Option (List (Int × Int))->Bb
 |none=>⟨[.agg c.cells,.sc (.int .i64 37)],[]⟩
 |some r=>⟨[.agg ({ c with used:=Ak4 c.used leaf,rg:=r,last:=now }:Sd).cells,.sc (.int .i64 0)],[]⟩
theorem WK {c:Sd}{leaf from_ now:Int}(hl:0<=leaf∧leaf<=15)(hr:c.rg.length<=1000)(hid:c.id.length<=1000000){call:Aj}
  (Ade:∀i:Nat,i<=c.rg.length->call 46 [.own 2 c.rg.length (Km c.rg),.sc (.int .i64 (i:Int)),.tup [.own 2 1 [.sc (.int .i64 from_),.sc (.int .i64 leaf)]]]=some ⟨[.own 2 (c.rg.length+1) ((Km c.rg).take (i*2)++(.sc (.int .i64 from_) :: .sc (.int .i64 leaf)::(Km c.rg).drop (i*2)))],[[.sc (.int .i64 from_),.sc (.int .i64 leaf)]]⟩)
  {a0n:Nat} {a0:List PV} {a1 a2 a3 a4 a6 a9 a10 b1 b2 b3:Int} {a5 a8:Bool} {a7n:Nat} {a7:List PV} {z1:Nat} {z2 z3 z4 z5 z7 z10 z11:Int} {z6 z9:Bool} {z8:Nat} {z12 z13:List PV}:
  ∀(r:List (Int × Int)) (i nn:Nat),c.rg.drop i=r->r.length<nn->i<=c.rg.length->(∀p∈c.rg.take i,p.1<from_) ->
   Ft fu call a0n a0 a1 a2 a3 a4 a5 a6 a7n a7 a8 a9 a10 b1 b2 b3 nn leaf from_ now (Ho .u64 1 leaf) (i:Int) c.id.length c.ht c.root c.model c.fmt c.sh c.used c.rg.length c.sus c.since c.last (Aq .u8 c.id) (Km c.rg) z1 z2 z3 z4 z5 z6 z7 z8 z9 z10 z11 z12 z13 =
    some (FQ c leaf now ((put from_ leaf r).map (c.rg.take i ++ ·))):=by
 intro r;have l1:=A1 .u8 c.id;have l2:=Jx c.rg;have t1:List.take (c.id.length*1) (Aq .u8 c.id)=Aq .u8 c.id:=Qq (by omega)
 have t2:List.take (c.rg.length*2) (Km c.rg)=Km c.rg:=Qq (by omega)
 have eS:Xj .u64 c.used (Ho .u64 1 leaf)=Ak4 c.used leaf:=rfl
 have insR:∀(i:Nat) (s:List (Int × Int)),i<=c.rg.length->c.rg.drop i=s->(Km c.rg).take (i*2)++(.sc (.int .i64 from_) :: .sc (.int .i64 leaf)::(Km c.rg).drop (i*2))=Km (c.rg.take i++(from_,leaf)::s):=by
  intro i s hi hs;have e1:=Xc (f:=fun p:Int × Int=>[PV.sc (.int .i64 p.1),.sc (.int .i64 p.2)]) (k:=2) (fun _=>rfl) c.rg i
  have e2:=Sv (f:=fun p:Int × Int=>[PV.sc (.int .i64 p.1),.sc (.int .i64 p.2)]) (k:=2) (fun _=>rfl) c.rg i
  rw[Adt,ZD,←hs];unfold Km;rw[e1,e2]
 have setR:∀(i:Nat) (l:List (Int × Int)) (p:Int × Int),l[i]?=some p->Bd (Km l) [.sc (.int .i64 leaf)] (0+i*2+1)=Km (l.set i (p.1,leaf)):=by
  intro i l p h;have hlt:=I6 h;have GR:=Jx l;rw[Yl (by omega)]
  have:=LY (f:=fun p:Int × Int=>[PV.sc (.int .i64 p.1),.sc (.int .i64 p.2)]) (k:=2) (fun _=>rfl) (p:=.sc (.int .i64 leaf)) (j:=1) (by omega) (y:=(p.1,leaf)) h rfl
  unfold Km;rw[←this]
  congr 1
  omega
 induction r with
 |nil=>
  intro i nn hd hnn hi hp;have EJ:i=c.rg.length:=by have:=drop_nil hd;omega
  obtain⟨nn,rfl⟩:∃k,nn=k+1:=⟨nn-1,by omega⟩
  rw[Jk];have q:=Ade i hi;have eI:=insR i [] hi hd;rw[eI] at q;have ht:c.rg.take i=c.rg:=Qq (by omega)
  rw[ht] at q;have eG:(c.rg++[(from_,leaf)])[i]?=some (from_,leaf):=by rw[EJ];simp
  have eS2:=setR i _ _ eG;have eS3:=JW eG;rw[eS3] at eS2;have lR:=Jx (c.rg++[(from_,leaf)]);have lA:(c.rg++[(from_,leaf)]).length=c.rg.length+1:=by simp
  have tR:List.take ((c.rg.length+1)*2) (Km (c.rg++[(from_,leaf)]))=Km (c.rg++[(from_,leaf)]):=Qq (by omega)
  have eq1:((i:Int)==(c.rg.length:Int))=true:=by simp[EJ]
  have tn:Int.toNat (i:Int)=i:=rfl;have eX:put from_ leaf []=some [(from_,leaf)]:=rfl;rw[eX];simp only[Option.map_some,ht]
  try unfold Aa
  repeat first
   |((with_reducible first|apply B7|apply Bi|apply B5|apply Br|apply Da|apply Ch|apply Bj|apply B8|apply B9);· first|with_reducible rfl|(simp (disch:=omega) only[gT,q,t1,t2,tR,eS,eS2,eq1,tn,Ik,lR,lA]<;>first|with_reducible rfl|omega)|omega)
   |(with_reducible apply B6;· first|with_reducible rfl|(simp (disch:=omega) only[gF,q,t1,t2,tR,eS,eS2,eq1,tn,Ik,lR,lA]<;>omega))
  try simp (disch:=omega) only[q,t1,t2,tR,eS,eS2,eq1,tn,Ik,lR,lA]
  simp only[FQ,Sd.cells,lA]
 |cons p r ih=>
  intro i nn hd hnn hi hp;obtain⟨hlt,hget,hd'⟩:=Fj hd;obtain⟨nn,rfl⟩:∃k,nn=k+1:=⟨nn-1,by omega⟩
  rw[Jk];have eF:=Auy hget;have eL:=Aua hget;have tn:Int.toNat (i:Int)=i:=rfl;have a0':(0:Nat)+i*2+0=i*2:=by omega
  have a1':(0:Nat)+i*2+1=i*2+1:=by omega
  have lt1:decide ((i:Int)<(c.rg.length:Int))=true:=by simp;omega
  have ne1:((i:Int)==(c.rg.length:Int))=false:=by simp;omega
  have w1:wrap .i64 ((i:Int)+1)=((i+1:Nat):Int):=by rw[wrap_i64 (by omega) (by omega)];omega
  have tk:c.rg.take (i+1)=c.rg.take i++[p]:=by rw[List.take_add_one,hget];rfl
  unfold put;by_cases c1:p.1<from_
  ·rw[Lw c1]
   have ihh:=ih (i+1) nn hd' (by simp at hnn;omega) (by omega) (by
    intro q hq;rw[tk] at hq;rcases List.mem_append.1 hq with hq|hq
    ·exact hp q hq
    ·rw[List.mem_singleton] at hq;subst hq;exact c1)
   have e:((put from_ leaf r).map (p :: ·)).map (c.rg.take i ++ ·)=(put from_ leaf r).map (c.rg.take (i+1) ++ ·):=by
    rw[Option.map_map,tk]
    congr 1
    funext x
    simp
   rw[e,←ihh];have d1:decide (p.1<from_)=true:=by simp[c1]
   simp (disch:=omega) only[Ep,tn,a0',eF,w1,lt1,d1]
  ·rw[Lz c1];have d1:decide (p.1<from_)=false:=by simp;omega
   by_cases c2:p.1=from_
   ·rw[Lw c2];have d2:(p.1 != from_)=false:=by simp[c2]
    by_cases c3:leaf<=p.2
    ·rw[Lw c3];have d3:decide (p.2>=leaf)=true:=by simp;omega
     simp (disch:=omega) only[Ep,tn,a0',a1',eF,eL,lt1,d1,ne1,d2,d3,t1,t2,Ik,Option.map_none];rfl
    ·rw[Lz c3];have d3:decide (p.2>=leaf)=false:=by simp;omega
     have eS2:=setR i _ _ hget;have lR:=Jx (c.rg.set i (p.1,leaf));have lA:(c.rg.set i (p.1,leaf)).length=c.rg.length:=by simp
     have eA:c.rg.set i (p.1,leaf)=c.rg.take i++(from_,leaf)::r:=by
      rw[List.set_eq_take_append_cons_drop,Lw hlt,hd',c2]
     have tR:List.take (c.rg.length*2) (Km (c.rg.set i (p.1,leaf)))=Km (c.rg.set i (p.1,leaf)):=Qq (by omega)
     rw[a1'] at eS2;have hS3:i*2+1+1<=(Km c.rg).length:=by omega
     simp (disch:=omega) only[Ep,tn,a0',a1',eF,eL,lt1,d1,ne1,d2,d3,t1,tR,Ik,Option.map_some,eS2,eS,lR,lA];simp only[FQ,Sd.cells,←eA,lA]
   ·rw[Lz c2];have d2:(p.1 != from_)=true:=by simp[c2]
    have q:=Ade i hi;have eI:=insR i (p::r) hi hd;rw[eI] at q
    have eG:(c.rg.take i++(from_,leaf)::p::r)[i]?=some (from_,leaf):=by
     rw[List.getElem?_append_right (by rw[List.length_take];omega),List.length_take,Nat.min_eq_left (by omega),Nat.sub_self];rfl
    have eS2:=setR i _ _ eG;have eS3:=JW eG;rw[eS3] at eS2
    have lA:(c.rg.take i++(from_,leaf)::p::r).length=c.rg.length+1:=by
     have:=congrArg List.length hd;simp at this ⊢;omega
    have lR:=Jx (c.rg.take i++(from_,leaf)::p::r);rw[Option.map_some];generalize hL:c.rg.take i++(from_,leaf)::p::r=L at *
    have tR:List.take ((c.rg.length+1)*2) (Km L)=Km L:=Qq (by omega)
    rw[a1'] at eS2;have hS3:i*2+1+1<=(Km L).length:=by omega
    simp (disch:=omega) only[Ep,tn,a0',a1',eF,lt1,d1,ne1,d2,t1,t2,q,tR,Ik,eS2,eS,lR,lA];simp only[FQ,Sd.cells,lA]
theorem Po {c:Sd}(hk:c.ok)(hfu:2000<=fu)(leaf from_ now:Int):Af C0 prog fu (d+4) L4 [.agg c.cells,.sc (.int .i64 leaf),.sc (.int .i64 from_),.sc (.int .i64 now)]=some ⟨[.agg (Wf c leaf from_ now).1.cells,.sc (.int .i64 (Wf c leaf from_ now).2)],[]⟩:=by
 refine (Ux fu (d+3) c.id.length (Aq .u8 c.id) c.ht c.root c.model c.fmt c.sh c.used c.rg.length (Km c.rg) c.sus c.since c.last leaf from_ now).trans ?_;have q:=Q2 (xs:=Hu) (fu:=fu) (d:=d+1) hk.idL (Nat.le_trans hk.rgn (by omega))
 simp only[Sd.cells,Sd.ocells] at q;have l1:=A1 .u8 c.id;have l2:=Jx c.rg;have t1:List.take (c.id.length*1) (Aq .u8 c.id)=Aq .u8 c.id:=Qq (by omega)
 have t2:List.take (c.rg.length*2) (Km c.rg)=Km c.rg:=Qq (by omega)
 simp (disch:=omega) only[Ep,q,t1,t2,Ik,l1,l2];by_cases h1:c.ht<0
 ·have hb:Q7 c leaf from_=true:=by simp[Q7,h1]
  unfold Wf;rw[Lw hb];simp (disch:=omega) only[Ep];rfl
 by_cases h2:c.ht>4
 ·have hb:Q7 c leaf from_=true:=by simp[Q7,h2]
  unfold Wf;rw[Lw hb];simp (disch:=omega) only[Ep];rfl
 by_cases h3:from_<0
 ·have hb:Q7 c leaf from_=true:=by simp[Q7,h3]
  unfold Wf;rw[Lw hb];simp (disch:=omega) only[Ep];rfl
 by_cases h4:from_>leaf
 ·have hb:Q7 c leaf from_=true:=by simp[Q7,h4]
  unfold Wf;rw[Lw hb];simp (disch:=omega) only[Ep];rfl
 by_cases h5:leaf>=Ho .i64 1 c.ht
 ·have hb:Q7 c leaf from_=true:=by simp[Q7,h5]
  unfold Wf;rw[Lw hb];simp (disch:=omega) only[Ep];rfl
 have hb:Q7 c leaf from_=false:=by simp[Q7,h1,h2,h3,h4,h5]
 obtain⟨r1,r2,r3,r4,r5,r6⟩:=LP hb;unfold Wf;rw[Lz (by rw[hb];simp)]
 simp (disch:=omega) only[Ep];rw[Qc (hnn:=by omega)]
 have ub:=TT hk.u0 hk.u1 (k:=leaf) (by omega) (by omega)
 by_cases hs:c.sus=true
 ·have hsT:∀x y:Option Bb,Cg c.sus x y=x:=fun x y=>by rw[hs];rfl
  rw[Lw hs];simp (disch:=omega) only[Ep,hsT,t1,t2,Ik];rfl
 ·have hsF:∀x y:Option Bb,Cg c.sus x y=y:=fun x y=>by rw[Bool.not_eq_true] at hs;rw[hs];rfl
  rw[Lz hs];by_cases Qi:Ad9 c.used leaf=true
  ·rw[Qi] at ub;rw[Lw Qi];simp (disch:=omega) only[Ep,hsF,ub,t1,t2,Ik];rfl
  ·rw[Bool.not_eq_true] at Qi;rw[Qi] at ub;rw[Lz (by simp[Qi])]
   simp (disch:=omega) only[Ep,hsF,ub];refine (WK (c:=c) (leaf:=leaf) (from_:=from_) (now:=now) (by omega) hk.rgn hk.idL (fun i hi=>UJ (Jx _) (by omega) (by omega) (by have:=hk.rgn;omega) (Aer _)) c.rg 0 fu rfl (by have:=hk.rgn;omega) (by omega) (by simp)).trans ?_
   have e0:(Option.map (List.take 0 c.rg ++ ·) (put from_ leaf c.rg))=put from_ leaf c.rg:=by
    rw[List.take_zero];cases put from_ leaf c.rg<;>rfl
   rw[e0];cases put from_ leaf c.rg<;>rfl
end
end
section
open Go.Proofs.Try (prog)
open Go.IntKind (wrap)
abbrev UL (l:List Int)(a:Nat):List PV:=[.lst false 1 l.length (Aq .i64 l),.sc (.int .i64 (a:Int))]
theorem Alg {fu d:Nat}{l:List Int}:Af C0 prog fu (d+1) Lj [.lst false 1 l.length (Aq .i64 l)]=some ⟨[.pbox (UL l 0)],[]⟩:=by
 rw[Tc];rfl
theorem Ahg (v n:Int)(hn:0<n)(hm:n<=9223372036854775807):∃r,0<=r∧r<n∧∀{fu d:Nat},Af C0 prog fu (d+1) G8 [.sc (.int .i64 v),.sc (.int .i64 n)]=some ⟨[.sc (.int .i64 r)],[]⟩:=by
 have h1:=Yy v;have h2:wrap .u64 n=n:=Dq (by omega) (by omega)
 have h3:0<=Int.tmod (wrap .u64 v) n:=Int.tmod_nonneg _ h1.1;have h4:Int.tmod (wrap .u64 v) n<n:=Int.tmod_lt_of_pos _ hn;refine⟨_,h3,h4,fun {fu d}=>?_⟩
 rw[Ll];simp only[Ip,h2];rw[Xi _ _ (by omega),wrap_i64 (by omega) (by omega)]
theorem Pw {l:List Int}(hl:l.length<=maxLen)(a:Nat)(n:Int)(hn:0<n)(hm:n<=9223372036854775807):∃(v:Int)(a':Nat),0<=v∧v<n ∧
  ∀{fu d:Nat},Af C0 prog fu (d+2) G1 [.pbox (UL l a),.sc (.int .i64 n)]=some ⟨[.sc (.int .i64 v)],[UL l a']⟩:=by
 simp only[maxLen] at hl;by_cases h:a<l.length
 ·obtain⟨r,h1,h2,h3⟩:=Ahg l[a] n hn hm;refine⟨r,a+1,h1,h2,fun {fu d}=>?_⟩
  rw[Gv]
  have hg:(Aq .i64 l).getD (Int.toNat ((a:Int)+1-1)*1) .top=.sc (.int .i64 l[a]):=by
   have:=ati (k:=.i64) (List.getElem?_eq_getElem h);rw[show Int.toNat ((a:Int)+1-1)*1=a by omega]
   exact this
  simp (disch:=omega) only[Ep,wrap_i64,hg,h3];rfl
 ·refine⟨0,a,by omega,hn,fun {fu d}=>?_⟩
  rw[Gv];simp (disch:=omega) only[Ep]
end
section
open Go.Proofs.Try (prog)
open Go.IntKind (wrap)
set_option maxRecDepth 100000
def BD (key nonce:Int):Nat->Nat->List Int
 |_,0=>[]
 |i,k+1=>E4 (AE key 5 (Bo [nonce,(i:Int)]))++BD key nonce (i+1) k
def Ox (key nonce:Int)(n:Nat):List Int:=(BD key nonce 0 ((n+7) / 8)).take n
theorem KO (key nonce:Int):∀(k i:Nat),(BD key nonce i k).length=8*k
 |0,_=>rfl
 |k+1,i=>by show (E4 _++_).length=_;rw[Yb,Dk,KO key nonce k];omega
theorem XY (key nonce:Int):∀(k i:Nat),R1 (BD key nonce i k)
 |0,_=>fun x hx=>by cases hx
 |k+1,i=>Ac3 (QQ _) (XY key nonce k _)
theorem Fc (key nonce:Int)(n:Nat):(Ox key nonce n).length=n:=by
 unfold Ox;rw[List.length_take,KO];omega
theorem FO (key nonce:Int)(n:Nat):R1 (Ox key nonce n):=(XY key nonce _ _).take n
section
variable {fu d:Nat}
theorem MW {xs:FuncId->Option (List PV->Option Bb)} {l:List Int}(hb:R1 l)(hl:l.length<=1099511627776)(hfu:100<=fu)(hf:l.length<fu)(key dom:Int):Af (CX xs) prog fu (d+5) S7 [.sc (.int .u64 key),.sc (.int .i64 dom),.lst false 1 l.length (Aq .u8 l)]=some ⟨[.sc (.int .u64 (AE key dom l))],[]⟩:=by
 rw[DZ];have s:=Akd (xs:=xs) (fu:=fu) (d:=d) hb hl hfu hf key (wrap .u64 (1+wrap .u64 dom));simp only[Ep,s];rfl
theorem TM (hfu:1000<=fu){a0 a1 a2:Int}{key nonce:Int}{n:Nat}(hn:n<=1024):∀(k nn i:Nat)(l:List Int),n<=8*(i+k)->8*(i+k)<n+8->k<nn->l.length=8*i ->
  Hh fu (Af C0 prog fu (d+5)) a0 a1 a2 nn key nonce (n:Int) l.length i (Aq .u8 l)=some ⟨[.own 1 n (Aq .u8 ((l++BD key nonce i k).take n))],[]⟩:=by
 intro k
 induction k with
 |zero=>
  intro nn i l h1 Qz h2 h3;obtain⟨m,rfl⟩:∃m,nn=m+1:=⟨nn-1,by omega⟩
  have L:=A1 .u8 l;have nt:Int.toNat (n:Int)=n:=S3 _;rw[Mw,BD,List.append_nil]
  try unfold Aa
  repeat first
   |((with_reducible first|apply B7|apply Bi|apply B5|apply Da|apply Bj|apply B8|apply B9);· first|with_reducible rfl|(simp (disch:=omega) only[gT,L,nt,Nat.sub_zero,Fx,Ic]<;>first|with_reducible rfl|omega)|omega)
   |(with_reducible apply B6;· first|with_reducible rfl|(simp (disch:=omega) only[gF,L,nt,Nat.sub_zero,Fx,Ic]<;>omega))
  try simp (disch:=omega) only[L,nt,Nat.sub_zero,Fx,Ic]
 |succ k ih=>
  intro nn i l h1 Qz h2 h3;obtain⟨m,rfl⟩:∃m,nn=m+1:=⟨nn-1,by omega⟩
  have L:=A1 .u8 l;have nt:Int.toNat (n:Int)=n:=S3 _;have hlt:l.length<n:=by omega
  have w2:wrap .u64 ((i:Int)+1)=((i+1:Nat):Int):=by rw[Dq (by omega) (by omega)];omega
  have wd:Af C0 prog fu (d+5) G5 [.lst false 1 2 [.sc (.int .u64 nonce),.sc (.int .u64 i)]]=some ⟨[.own 1 (Bo [nonce,(i:Int)]).length (Aq .u8 (Bo [nonce,(i:Int)]))],[]⟩:=HD (xs:=Hu) (ws:=[nonce,i]) (by simp) (by omega) (by simp;omega)
  have mc:=MW (xs:=Hu) (fu:=fu) (d:=d) (l:=Bo [nonce,i]) (IY _) (by rw[Ng];simp) (by omega) (by rw[Ng];simp;omega) key 5
  have L2:=A1 .u8 (Bo [nonce,i]);have t2:=tki .u8 (Bo [nonce,i]);rw[BD];generalize AE key 5 (Bo [nonce,i])=q at mc ⊢;have ow:Af C0 prog fu (d+5) G5 [.lst false 1 1 [.sc (.int .u64 q)]]=some ⟨[.own 1 (Bo [q]).length (Aq .u8 (Bo [q]))],[]⟩:=HD (xs:=Hu) (ws:=[q]) (by simp) (by omega) (by simp;omega)
  have eq1:Bo [q]=E4 q:=by simp[Bo]
  rw[eq1,Dk] at ow;have Lq:(Aq .u8 (E4 q)).length=8:=by rw[A1,Dk]
  have tq:List.take 8 (Aq .u8 (E4 q))=Aq .u8 (E4 q):=Qq (by omega)
  have tl:=tki .u8 l;have ea:Aq .u8 l++Aq .u8 (E4 q)=Aq .u8 (l++E4 q):=by rw[Aq,Aq,Aq,List.flatMap_append]
  have r3:=ih m (i+1) (l++E4 q) (by omega) (by omega) (by omega) (by rw[Yb,Dk];omega)
  rw[Yb,Dk,Zzv] at r3;rw[←r3,Mw];generalize Bo [nonce,(i:Int)]=W at *
  generalize W.length=wn at *
  try unfold Aa
  repeat first
   |((with_reducible first|apply B7|apply Bi|apply B5|apply Da|apply Bj|apply B8|apply B9);· first|with_reducible rfl|(simp (disch:=omega) only[gT,w2,wd,Ik,Fv,Fx,L,L2,t2,mc,ow,Lq,tq,tl,ea]<;>first|with_reducible rfl|omega)|omega)
   |(with_reducible apply B6;· first|with_reducible rfl|(simp (disch:=omega) only[gF,w2,wd,Ik,Fv,Fx,L,L2,t2,mc,ow,Lq,tq,tl,ea]<;>omega))
  try simp (disch:=omega) only[w2,wd,Ik,Fv,Fx,L,L2,t2,mc,ow,Lq,tq,tl,ea]
  all_goals rfl
theorem Aet (hfu:1000<=fu)(key nonce:Int){n:Nat}(hn:n<=1024):Af C0 prog fu (d+6) Lx [.sc (.int .u64 key),.sc (.int .u64 nonce),.sc (.int .i64 n)]=some ⟨[.own 1 n (Aq .u8 (Ox key nonce n))],[]⟩:=by
 rw[AK];have f1:(if (n:Int)<0 then (0:Int) else (n:Int))=n:=Lz (by omega)
 have f2:(if (1024:Int)<(n:Int) then (1024:Int) else (n:Int))=n:=Lz (by omega)
 have w:wrap .i64 ((n:Int)+8)=(n:Int)+8:=wrap_i64 (by omega) (by omega)
 simp (disch:=omega) only[Ep,f1,f2,w];exact TM hfu hn ((n+7) / 8) fu 0 [] (by omega) (by omega) (by omega) rfl
theorem MJ (hfu:1000<=fu){a0 a1 a2:Int}{key nonce:Int}{n:Nat}(hn:n<=1024):∀(k nn i:Nat)(l:List Int),n<=8*(i+k)->8*(i+k)<n+8->k<nn->l.length=8*i ->
  D4 fu (Af C0 prog fu (d+4)) a0 a1 a2 nn key nonce (n:Int) l.length i (Aq .u8 l)=some ⟨[.own 1 n (Aq .u8 ((l++BD key nonce i k).take n))],[]⟩:=by
 intro k
 induction k with
 |zero=>
  intro nn i l h1 Qz h2 h3;obtain⟨m,rfl⟩:∃m,nn=m+1:=⟨nn-1,by omega⟩
  have L:=A1 .u8 l;have nt:Int.toNat (n:Int)=n:=S3 _;rw[G2,BD,List.append_nil]
  try unfold Aa
  repeat first
   |((with_reducible first|apply B7|apply Bi|apply B5|apply Da|apply Bj|apply B8|apply B9);· first|with_reducible rfl|(simp (disch:=omega) only[gT,L,nt,Nat.sub_zero,Fx,Ic]<;>first|with_reducible rfl|omega)|omega)
   |(with_reducible apply B6;· first|with_reducible rfl|(simp (disch:=omega) only[gF,L,nt,Nat.sub_zero,Fx,Ic]<;>omega))
  try simp (disch:=omega) only[L,nt,Nat.sub_zero,Fx,Ic]
 |succ k ih=>
  intro nn i l h1 Qz h2 h3;obtain⟨m,rfl⟩:∃m,nn=m+1:=⟨nn-1,by omega⟩
  have L:=A1 .u8 l;have nt:Int.toNat (n:Int)=n:=S3 _;have hlt:l.length<n:=by omega
  have w1:wrap .u64 (i:Int)=(i:Int):=Dq (by omega) (by omega)
  have w2:wrap .i64 ((i:Int)+1)=((i+1:Nat):Int):=by rw[wrap_i64 (by omega) (by omega)];omega
  have wd:Af C0 prog fu (d+4) Eo [.lst false 1 2 [.sc (.int .u64 nonce),.sc (.int .u64 i)]]=some ⟨[.own 1 (Bo [nonce,(i:Int)]).length (Aq .u8 (Bo [nonce,(i:Int)]))],[]⟩:=BO (xs:=Hu) (ws:=[nonce,i]) (by simp) (by omega) (by simp;omega)
  have mc:=Ac7 (xs:=Hu) (fu:=fu) (d:=d) (l:=Bo [nonce,i]) (IY _) (by rw[Ng];simp) (by omega) (by rw[Ng];simp;omega) key 5
  have L2:=A1 .u8 (Bo [nonce,i]);have t2:=tki .u8 (Bo [nonce,i]);rw[BD];generalize AE key 5 (Bo [nonce,i])=q at mc ⊢;have ow:Af C0 prog fu (d+4) Eo [.lst false 1 1 [.sc (.int .u64 q)]]=some ⟨[.own 1 (Bo [q]).length (Aq .u8 (Bo [q]))],[]⟩:=BO (xs:=Hu) (ws:=[q]) (by simp) (by omega) (by simp;omega)
  have eq1:Bo [q]=E4 q:=by simp[Bo]
  rw[eq1,Dk] at ow;have Lq:(Aq .u8 (E4 q)).length=8:=by rw[A1,Dk]
  have tq:List.take 8 (Aq .u8 (E4 q))=Aq .u8 (E4 q):=Qq (by omega)
  have tl:=tki .u8 l;have ea:Aq .u8 l++Aq .u8 (E4 q)=Aq .u8 (l++E4 q):=by rw[Aq,Aq,Aq,List.flatMap_append]
  have r3:=ih m (i+1) (l++E4 q) (by omega) (by omega) (by omega) (by rw[Yb,Dk];omega)
  rw[Yb,Dk,Zzv] at r3;rw[←r3,G2];generalize Bo [nonce,(i:Int)]=W at *
  generalize W.length=wn at *
  try unfold Aa
  repeat first
   |((with_reducible first|apply B7|apply Bi|apply B5|apply Da|apply Bj|apply B8|apply B9);· first|with_reducible rfl|(simp (disch:=omega) only[gT,w1,w2,wd,Ik,Fv,Fx,L,L2,t2,mc,ow,Lq,tq,tl,ea]<;>first|with_reducible rfl|omega)|omega)
   |(with_reducible apply B6;· first|with_reducible rfl|(simp (disch:=omega) only[gF,w1,w2,wd,Ik,Fv,Fx,L,L2,t2,mc,ow,Lq,tq,tl,ea]<;>omega))
  try simp (disch:=omega) only[w1,w2,wd,Ik,Fv,Fx,L,L2,t2,mc,ow,Lq,tq,tl,ea]
  all_goals rfl
theorem Aaw (hfu:1000<=fu)(key nonce:Int){n:Nat}(hn:n<=1024):Af C0 prog fu (d+5) I4 [.sc (.int .u64 key),.sc (.int .u64 nonce),.sc (.int .i64 n)]=some ⟨[.own 1 n (Aq .u8 (Ox key nonce n))],[]⟩:=by
 rw[Ow];have f1:(if (n:Int)<0 then (0:Int) else (n:Int))=n:=Lz (by omega)
 have f2:(if (1024:Int)<(n:Int) then (1024:Int) else (n:Int))=n:=Lz (by omega)
 simp (disch:=omega) only[Ep,f1,f2];exact MJ hfu hn ((n+7) / 8) fu 0 [] (by omega) (by omega) (by omega) rfl
def Ee (seed:Int)(n:Nat):List Int:=Ox (wrap .u64 (wrap .u64 seed+1)) 7 n
theorem Tg (hfu:1000<=fu)(seed:Int){n:Nat}(hn:n<=1024):Af C0 prog fu (d+6) Gb [.sc (.int .i64 seed),.sc (.int .i64 n)]=some ⟨[.own 1 n (Aq .u8 (Ee seed n))],[]⟩:=by
 have e:=Aaw (fu:=fu) (d:=d) hfu (wrap .u64 (wrap .u64 seed+1)) 7 hn;have f1:(if (n:Int)<0 then (0:Int) else (n:Int))=n:=Lz (by omega)
 have f2:(if (1024:Int)<(n:Int) then (1024:Int) else (n:Int))=n:=Lz (by omega)
 have L:(Aq .u8 (Ee seed n)).length=n:=by rw[A1,Ee,Fc]
 have t:List.take n (Aq .u8 (Ee seed n))=Aq .u8 (Ee seed n):=Qq (by omega)
 rw[Qm];unfold Ee at *
 simp (disch:=omega) only[Ep,f1,f2,e,Fx,L,t]
def sdE (k h:Int):Sd:=⟨Ee (600+k) 176,h,5,0,0,false,0,[],false,3,0⟩
theorem O9 (k h:Int):(sdE k h).ok:=⟨FO _ _ _,by show (Ox _ _ _).length<=_;rw[Fc];omega,by show (0:Int)<=0;omega,by show (0:Int)<=_;omega,trivial,by show 0<=_;omega⟩
theorem EZ {v n:Int}(h0:0<=v)(h1:v<n)(hn:n<=9223372036854775807):Af C0 prog fu (d+1) G8 [.sc (.int .i64 v),.sc (.int .i64 n)]=some ⟨[.sc (.int .i64 v)],[]⟩:=by
 rw[Ll];have w1:wrap .u64 v=v:=Dq h0 (by omega)
 have w2:wrap .u64 n=n:=Dq (by omega) (by omega)
 have e:Int.tmod v n=v:=Int.tmod_eq_of_lt h0 h1;simp only[Ip,w1,w2,e];rw[Xi _ _ (by omega),wrap_i64 (by omega) (by omega)]
theorem P7 (hfu:1000<=fu){k:Int}(h0:0<=k)(h1:k<12)(h:Int):Af C0 prog fu (d+7) Hy [.sc (.int .i64 k),.sc (.int .i64 h)]=some ⟨[.agg (sdE k h).cells],[]⟩:=by
 rw[N4];have m:=EZ (fu:=fu) (d:=d+5) h0 h1 (by omega)
 have w:wrap .i64 (600+k)=600+k:=wrap_i64 (by omega) (by omega)
 have b:Af C0 prog fu (d+6) Gb [.sc (.int .i64 (600+k)),.sc (.int .i64 176)]=_:=Tg (fu:=fu) (d:=d) hfu (600+k) (n:=176) (by omega)
 have L:(Aq .u8 (Ee (600+k) 176)).length=176:=by rw[A1,Ee,Fc]
 have L1:(Ee (600+k) 176).length=176:=by rw[Ee,Fc]
 have t:List.take 176 (Aq .u8 (Ee (600+k) 176))=Aq .u8 (Ee (600+k) 176):=Qq (by omega)
 simp (disch:=omega) only[Ep,m,w,b,Fx,Fv,Ik,L,t];simp only[Sd.cells,sdE,L1];rfl
end
end
section
open Go.IntKind (wrap)
def Oi (s:ByteArray):List Int:=s.data.toList.map fun b=>(b.toNat:Int)
theorem HE (s:ByteArray):(Oi s).length=s.size:=by
 unfold Oi;rw[List.length_map];rfl
theorem YF (s:ByteArray):R1 (Oi s):=by
 intro x hx;obtain⟨b,_,rfl⟩:=List.mem_map.1 hx;have:=b.toNat_lt;omega
theorem Vw (s:ByteArray):Fd s=Aq .u8 (Oi s):=by
 unfold Fd Oi
 induction s.data.toList with
 |nil=>rfl
 |cons b l ih=>rw[List.map_cons,List.map_cons,ih];rfl
theorem Dt:∀l:List Int,bytesOf (Aq .u8 l)=some (l.map fun n=>n.toNat.toUInt8)
 |[]=>rfl
 |x::l=>by
  show (bytesOf (Aq .u8 l)).map (x.toNat.toUInt8 :: ·)=_
  rw[Dt l];rfl
end
section
open Go.Proofs.Try (prog)
open Go.IntKind (wrap)
set_option maxRecDepth 100000
def bu (l:List Int):List UInt8:=l.map fun n=>n.toNat.toUInt8
def LD (a b:List Int):Bool:=Op.bytesLess (bu a) (bu b)||bu a==bu b
def Ajx (a b:List Int):Int:=Lib.compareBytes (bu a) (bu b)
theorem Agg:∀x y:List UInt8,(Lib.compareBytes x y<0)↔Op.bytesLess x y=true
 |[],[]=>by simp[Lib.compareBytes,Op.bytesLess]
 |[],_::_=>by simp[Lib.compareBytes,Op.bytesLess]
 |_::_,[]=>by simp[Lib.compareBytes,Op.bytesLess]
 |a::x,b::y=>by
  have ih:=Agg x y;unfold Lib.compareBytes Op.bytesLess;by_cases h1:a<b
  ·simp[h1]
  ·rw[Lz h1];by_cases h2:b<a
   ·have:¬a=b:=fun e=>by subst e;exact h1 h2
    simp[h1,h2,this]
   ·have:a=b:=UInt8.le_antisymm (UInt8.not_lt.1 h2) (UInt8.not_lt.1 h1);rw[Lz h2,ih];simp[h1,this]
theorem Xf (a b:List Int):LD a b=true↔bu a<=bu b:=by
 unfold LD;rw[bytesLess_eq];simp only[Bool.or_eq_true,decide_eq_true_eq,beq_iff_eq];exact List.le_iff_lt_or_eq.symm
theorem Alp (a b:List Int):decide (Ajx a b<0) = !LD b a:=by
 rw[Bool.eq_iff_iff,decide_eq_true_eq,Bool.not_eq_true',←Bool.not_eq_true,Xf];unfold Ajx;rw[Agg,bytesLess_eq,decide_eq_true_eq];exact List.not_le.symm
theorem CP {a b c:List Int}(h1:LD a b=true)(h2:LD b c=true):LD a c=true:=by
 rw[Xf] at *
 exact List.le_trans h1 h2
theorem TC {a b:List Int}(h:LD a b=false):LD b a=true:=by
 rw[Xf];rw[←Bool.not_eq_true,Xf,List.not_le] at h;exact List.le_of_lt h
def Xb (x:List Int):List (List Int)->List (List Int)
 |[]=>[x]
 |y::r=>if LD y x=true then y::Xb x r else x::y::r
theorem Xk (x:List Int):∀l:List (List Int),(Xb x l).length=l.length+1
 |[]=>rfl
 |y::r=>by
  unfold Xb;split
  ·rw[MI,Xk x r];rfl
  ·rfl
theorem FR {x y:List Int}:∀{l:List (List Int)},y∈Xb x l↔y=x∨y∈l
 |[]=>by simp[Xb]
 |z::r=>by
  unfold Xb;split
  ·rw[List.mem_cons,FR,List.mem_cons];constructor
   ·rintro (h|h|h)
    ·exact .inr (.inl h)
    ·exact .inl h
    ·exact .inr (.inr h)
   ·rintro (h|h|h)
    ·exact .inr (.inl h)
    ·exact .inl h
    ·exact .inr (.inr h)
  ·simp
abbrev SJ (l:List (List Int)):Prop:=l.Pairwise fun a b=>LD a b=true
theorem EE {x:List Int}:∀{l:List (List Int)},SJ l->SJ (Xb x l)
 |[],_=>by simp[Xb,SJ]
 |y::r,h=>by
  obtain⟨h1,h2⟩:=List.pairwise_cons.1 h;unfold Xb;split
  ·rename_i hy;refine List.pairwise_cons.2 ⟨fun z hz=>?_,EE h2⟩
   rcases FR.1 hz with rfl|hz
   ·exact hy
   ·exact h1 z hz
  ·rename_i hy;rw[Bool.not_eq_true] at hy;have hxy:=TC hy;refine List.pairwise_cons.2 ⟨fun z hz=>?_,h⟩
   rcases List.mem_cons.1 hz with rfl|hz
   ·exact hxy
   ·exact CP hxy (h1 z hz)
theorem KP {x y:List Int}:∀{l:List (List Int)},SJ (l++[y])->Xb x (l++[y])=if LD y x=true then l++[y,x] else Xb x l++[y]
 |[],_=>by
  show Xb x [y]=_;unfold Xb;split<;>rfl
 |z::r,h=>by
  obtain⟨h1,h2⟩:=List.pairwise_cons.1 (show SJ (z::(r++[y])) from h)
  have ih:=KP (x:=x) h2;have hzy:=h1 y (by simp)
  show Xb x (z::(r++[y]))=_;by_cases hy:LD y x=true
  ·rw[Lw hy] at ih ⊢;rw[Xb,Lw (CP hzy hy),ih];rfl
  ·rw[Lz hy] at ih ⊢;rw[Xb,ih];by_cases hz:LD z x=true
   ·rw[Lw hz,Xb,Lw hz];rfl
   ·rw[Lz hz,Xb,Lz hz];rfl
def N9 (s l:List (List Int)):List (List Int):=l.foldl (fun s x=>Xb x s) s
theorem IF:∀{l s:List (List Int)},SJ s->SJ (N9 s l)
 |[],_,h=>h
 |_::l,_,h=>IF (l:=l) (EE h)
theorem Ym:∀(l s:List (List Int)),(N9 s l).length=s.length+l.length
 |[],_=>rfl
 |x::l,s=>by
  show (N9 (Xb x s) l).length=_;rw[Ym l,Xk,MI];omega
theorem Xv {y:List Int}:∀{l s:List (List Int)},y∈N9 s l↔y∈s∨y∈l
 |[],_=>by simp[N9]
 |x::l,s=>by
  show y∈N9 (Xb x s) l↔_;rw[Xv,FR,List.mem_cons];constructor
  ·rintro ((h|h)|h)
   ·exact .inr (.inl h)
   ·exact .inl h
   ·exact .inr (.inr h)
  ·rintro (h|h|h)
   ·exact .inl (.inr h)
   ·exact .inl (.inl h)
   ·exact .inr h
abbrev Ai3 (b:List Int):List PV:=[PV.lst false 1 b.length (Aq .u8 b)]
abbrev D5 (L:List (List Int)):List PV:=L.flatMap Ai3
theorem Hc (L:List (List Int)):(D5 L).length=L.length:=by rw[Y3 (k:=1) (fun _=>rfl)];omega
theorem M2 {L:List (List Int)} {i:Nat}{b:List Int}(h:L[i]?=some b):(D5 L).getD i .top=.lst false 1 b.length (Aq .u8 b):=by
 have:=CO (f:=Ai3) (k:=1) (fun _=>rfl) h (j:=0) (by omega)
 rwa [Fx,Nat.add_zero] at this
theorem KK {L:List (List Int)} {i:Nat}{b y:List Int}(h:L[i]?=some b):Bd (D5 L) [.lst false 1 y.length (Aq .u8 y)] i=D5 (L.set i y):=by
 have hl:=Hc L;have:=I6 h;rw[Yl (by omega)]
 have e:=LY (f:=Ai3) (k:=1) (fun _=>rfl) (p:=.lst false 1 y.length (Aq .u8 y)) (j:=0) (by omega) (y:=y) h rfl
 rw[Fx,Nat.add_zero] at e;exact e
section
variable {fu d:Nat}
theorem MF (a b:List Int):Af C0 prog fu (d+1) 36 [.lst false 1 a.length (Aq .u8 a),.lst false 1 b.length (Aq .u8 b)]=some ⟨[.sc (.int .i64 (Ajx a b))],[]⟩:=by
 have h:Af C0 prog fu (d+1) 36 [.lst false 1 a.length (Aq .u8 a),.lst false 1 b.length (Aq .u8 b)]=Oe [.lst false 1 a.length (Aq .u8 a),.lst false 1 b.length (Aq .u8 b)]:=by kernel_rfl
 rw[h];unfold Oe;simp only[A1,Nat.beq_refl,Bool.and_self,cond_true,Dt];rfl
theorem Aek {n:Nat}{c:List PV}{a1 a2:Int}{m0 i N:Nat}{x:List Int}(hN:N<=100000)(hi:i<=100000):
  ∀(S:List (List Int)) (R:List (List Int)) (nn:Nat),S.length<nn->(S.reverse++x::R).length=N->SJ S.reverse ->
   Bx fu (Af C0 prog fu (d+1)) n c a1 a2 m0 nn N 0 (N:Int) (i:Int) (S.length:Int) (D5 (S.reverse++x::R)) =
    A0 fu (Af C0 prog fu (d+1)) n c a1 a2 m0 N 0 (N:Int) ((i+1:Nat):Int) (D5 (Xb x S.reverse++R)):=by
 intro S;have wi:wrap .i64 ((i:Int)+1)=((i+1:Nat):Int):=by rw[wrap_i64 (by omega) (by omega)];omega
 induction S with
 |nil=>
  intro R nn hnn hl hs;obtain⟨nn,rfl⟩:∃k,nn=k+1:=⟨nn-1,by omega⟩
  rw[Dn];simp (disch:=omega) only[Ep,N6,wi,List.reverse_nil,List.nil_append,Xb,List.cons_append]
 |cons y S ih=>
  intro R nn hnn hl hs;obtain⟨nn,rfl⟩:∃k,nn=k+1:=⟨nn-1,by omega⟩
  rw[Dn];rw[List.reverse_cons] at hl hs ⊢;have hS:S.reverse.length=S.length:=List.length_reverse;have Hm:S.length+1+R.length+1=N:=by simp at hl;omega
  have lS:(y::S).length=S.length+1:=rfl
  have gx:((S.reverse++[y])++x::R)[S.length+1]?=some x:=by
   rw[List.getElem?_append_right (by simp)];simp
  have gy:((S.reverse++[y])++x::R)[S.length]?=some y:=by
   rw[Zzv,List.getElem?_append_right (by simp)];simp
  have ax:=M2 gx;have ay:=M2 gy;have w1:wrap .i64 (((S.length+1:Nat):Int)-1)=(S.length:Int):=by rw[wrap_i64 (by omega) (by omega)];omega
  have n1:Int.toNat ((S.length+1:Nat):Int)=S.length+1:=S3 _;have n2:Int.toNat (S.length:Int)=S.length:=S3 _;have cq:=MF (fu:=fu) (d:=d) x y;have cl:=Alp x y;have lR:=Hc ((S.reverse++[y])++x::R);have lRR:((S.reverse++[y])++x::R).length=N:=hl;rw[KP hs];by_cases hy:LD y x=true
  ·rw[hy] at cl;rw[Lw hy];have eL:S.reverse++[y,x]++R=(S.reverse++[y])++x::R:=by simp
   rw[eL];simp (disch:=omega) only[Ep,lS,w1,n1,n2,Fv,Fx,ax,ay,cq,cl,VP,wi]
  ·rw[Bool.not_eq_true] at hy;rw[hy] at cl;rw[Lz (by simp[hy])]
   have s1:=KK (y:=y) gx
   have gy2:(((S.reverse++[y])++x::R).set (S.length+1) y)[S.length]?=some y:=by
    rw[List.getElem?_set,Lz (by omega)];exact gy
   have s2:=KK (y:=x) gy2;have l2:=Hc (((S.reverse++[y])++x::R).set (S.length+1) y);rw[List.length_set] at l2
   have eL:(((S.reverse++[y])++x::R).set (S.length+1) y).set S.length x=S.reverse++x::(y::R):=by
    rw[List.set_append_right _ _ (by simp),List.set_append_left _ _ (by simp),List.set_append_right _ _ (by simp)]
    simp
   rw[eL] at s2;have hs':SJ S.reverse:=(List.pairwise_append.1 hs).1;have r:=ih (y::R) nn (by simp at hnn;omega) (by simp;omega) hs'
   simp (disch:=omega) only[Ep,lS,w1,n1,n2,Fv,Fx,ax,ay,cq,cl,VR,s1,s2];rw[r];simp
theorem WL {n:Nat}{c:List PV}{a1 a2:Int}{N:Nat}(hfu:N<fu)(hN:N<=10000):∀(R S:List (List Int)) (nn:Nat),R.length<nn->(S++R).length=N->SJ S ->
  A0 fu (Af C0 prog fu (d+1)) n c a1 a2 nn N 0 (N:Int) (S.length:Int) (D5 (S++R))=some ⟨[],[D5 (N9 S R)]⟩:=by
 intro R
 induction R with
 |nil=>
  intro S nn hnn hl hs;obtain⟨nn,rfl⟩:∃k,nn=k+1:=⟨nn-1,by omega⟩
  rw[List.append_nil] at hl ⊢;rw[Dm];simp (disch:=omega) only[Ep];rfl
 |cons x R ih=>
  intro S nn hnn hl hs;obtain⟨nn,rfl⟩:∃k,nn=k+1:=⟨nn-1,by omega⟩
  have Hm:S.length+(R.length+1)=N:=by simp at hl;omega
  rw[Dm];simp (disch:=omega) only[Ep];have q:=Aek (fu:=fu) (d:=d) (n:=n) (c:=c) (a1:=a1) (a2:=a2) (m0:=nn) (i:=S.length) (N:=N) (x:=x) (by omega) (by omega) S.reverse R fu (by simp;omega) (by simp;omega) (by simpa using hs)
  rw[List.reverse_reverse,List.length_reverse] at q;rw[q];have r:=ih (Xb x S) nn (by simp at hnn;omega) (by rw[Yb,Xk];omega) (EE hs)
  rw[Xk] at r;exact r
theorem NB {x:List Int}{R:List (List Int)} (hfu:(x::R).length<fu) (hN:(x::R).length<=10000):
  Af C0 prog fu (d+2) Cs [.tup [.own 1 (x::R).length (D5 (x::R))],.sc (.int .i64 0),.sc (.int .i64 (x::R).length),.sc (.func (.func 36) #[] #[])]=some ⟨[],[D5 (N9 [] (x::R))]⟩:=by
 rw[Gr];have w:wrap .i64 (0+1)=(([x]:List (List Int)).length:Int):=rfl;simp only[Ep,w];exact WL hfu hN R [x] fu (by simp at hfu;omega) rfl (by simp[SJ])
theorem Aar {a b c e:List Int}(hfu:100<=fu):Af C0 prog fu (d+4) E8 [.tup [.own 1 4 (D5 [a,b,c,e])],.sc (.func (.func 36) #[] #[])]=some ⟨[],[D5 (N9 [] [a,b,c,e])]⟩:=by
 rw[M1];have w:wrap .u64 4=4:=rfl;have bl:Af C0 prog fu (d+3) 52 [.sc (.int .u64 4)]=some ⟨[.sc (.int .i64 3)],[]⟩:=by kernel_rfl
 obtain⟨m,rfl⟩:∃m,fu=m+1:=⟨fu-1,by omega⟩
 have q:Af C0 prog (m+1) (d+2) Cs [.tup [.own 1 4 (D5 [a,b,c,e])],.sc (.int .i64 0),.sc (.int .i64 4),.sc (.func (.func 36) #[] #[])]=some ⟨[],[D5 (N9 [] [a,b,c,e])]⟩:=NB (x:=a) (R:=[b,c,e]) (by simp;omega) (by simp)
 have w2:wrap .i64 (4-0)=4:=rfl
 have p:Af C0 prog (m+1) (d+3) Fa [.tup [.own 1 4 (D5 [a,b,c,e])],.sc (.int .i64 0),.sc (.int .i64 4),.sc (.int .i64 3),.sc (.func (.func 36) #[] #[])]=some ⟨[],[D5 (N9 [] [a,b,c,e])]⟩:=by
  rw[Je];dsimp only;rw[Hk];simp (disch:=omega) only[Ep,w2,q]
 have e4:((4:Nat):Int)=4:=rfl;simp (disch:=omega) only[Ep,w,bl,e4,p]
end
end
section
open Go.Proofs.Try (prog)
open Go.IntKind (wrap)
set_option maxRecDepth 100000
def pick:List (List Int)->List Sd->List (List Int)
 |s,[]=>s
 |s,c::r=>if c.sus=false∧s.length<4 then pick (s++[c.id]) r else pick s r
theorem Yp:∀{r:List Sd}{s:List (List Int)},s.length<=4->(pick s r).length<=4
 |[],_,h=>h
 |c::r,s,h=>by
  unfold pick;split
  ·exact Yp (by simp;omega)
  ·exact Yp h
def dec (key:Int):Nat->Nat->List (List Int)
 |_,0=>[]
 |i,k+1=>Ox key i 176::dec key (i+1) k
theorem PA (key:Int):∀(k i:Nat),(dec key i k).length=k
 |0,_=>rfl
 |k+1,i=>by show (_::dec key (i+1) k).length=_;rw[MI,PA key k]
def UA (o:Option Nat)(l:List Cv):List (List Int):=match o with|some i=>(match l[i]? with|some a=>pick [] a.cr|none=>[])|none=>[]
def TA (key:Int)(ids:List (List Int)):List (List Int):=ids++dec key 0 (4-ids.length)
def AL (l:List Cv)(secret:Int)(nm:ByteArray):List (List Int):=N9 [] (TA (AE secret 20 (Oi nm)) (UA (BL nm 0 l) l))
theorem ZO (o:Option Nat)(l:List Cv):(UA o l).length<=4:=by
 unfold UA
 repeat' split
 ·exact Yp (by simp)
 all_goals simp
theorem ZU {key:Int}{ids:List (List Int)} (h:ids.length<=4):(TA key ids).length=4:=by
 unfold TA;rw[Yb,PA];omega
structure Cv.ok (a:Cv):Prop where
 cn:a.cr.length<=1000
 cs:∀c∈a.cr,c.ok
section
variable {fu d:Nat}
theorem VF {xs:FuncId->Option (List PV->Option Bb)} {n:Nat}{c:List PV}{s nm:ByteArray}{l:List Cv}(hl:l.length<=100000):∀(r:List Cv)(i nn:Nat),l.drop i=r->r.length<nn->i<=l.length ->
  Gm fu (Af (CX xs) prog fu d) n c s nn nm l.length (Cq l) (l.length:Int) (i:Int)=some ⟨Nr (BL nm i r),[]⟩:=by
 intro r
 induction r with
 |nil=>
  intro i nn hd hnn hi;have:=drop_nil hd;obtain⟨nn,rfl⟩:∃k,nn=k+1:=⟨nn-1,by omega⟩
  rw[Ln];simp (disch:=omega) only[Ep];rfl
 |cons a r ih=>
  intro i nn hd hnn hi;obtain⟨hlt,hget,hd'⟩:=Fj hd;obtain⟨nn,rfl⟩:∃k,nn=k+1:=⟨nn-1,by omega⟩
  rw[Ln];have g0:(Cq l).getD (i*3) .top=.sc (.string a.nm):=H6 hget (j:=0) (by omega)
  have g1:(Cq l).getD (i*3+1) .top=.sc (.string a.us):=H6 hget (j:=1) (by omega)
  have g2:(Cq l).getD (i*3+1+1) .top=.lst false 11 a.cr.length (Dg a.cr):=H6 hget (j:=2) (by omega)
  have n1:Int.toNat (i:Int)=i:=S3 _;have w1:wrap .i64 ((i:Int)+1)=((i+1:Nat):Int):=by rw[wrap_i64 (by omega) (by omega)];omega
  have eB:(Array.toList a.nm.data==Array.toList nm.data)=PO a.nm nm:=rfl;unfold BL;cases h:PO a.nm nm
  ·rw[Lz (by simp)]
   have q:=ih (i+1) nn hd' (by simp at hnn;omega) (by omega)
   rw[h] at eB;simp (disch:=omega) only[Ep,n1,g0,g1,g2,eB,w1,q]
  ·rw[Lw rfl];rw[h] at eB;simp (disch:=omega) only[Ep,n1,g0,g1,g2,eB,Nr]
theorem P3 {xs:FuncId->Option (List PV->Option Bb)} {l:List Cv}{nm:ByteArray}(hl:l.length<=100000)(hf:l.length<fu):Af (CX xs) prog fu (d+1) Ou [.lst false 3 l.length (Cq l),.sc (.string nm)]=some ⟨Nr (BL nm 0 l),[]⟩:=by
 rw[X2];exact VF hl l 0 fu rfl hf (by omega)
theorem Ahf {L:List (List Int)} (hL:L.length=4)(hfu:100<=fu):Af C0 prog fu (d+4) E8 [.tup [.own 1 4 (D5 L)],.sc (.func (.func 36) #[] #[])]=some ⟨[],[D5 (N9 [] L)]⟩:=by
 match L,hL with
 |[a,b,c,e],_=>exact Aar hfu
theorem OI (hfu:1000<=fu){n:Nat}{c:List PV}{a1:Int}{a2:ByteArray}{key cnt:Int}:∀(k nn i:Nat)(ids:List (List Int)),ids.length+k=4->k<nn->(i:Int)+k=cnt->cnt<=4 ->
  Dw fu (Af C0 prog fu (d+6)) n c a1 a2 nn ids.length key cnt (i:Int) (D5 ids)=some ⟨[.own 1 4 (D5 (N9 [] (ids++dec key i k)))],[]⟩:=by
 intro k
 induction k with
 |zero=>
  intro nn i ids h1 h2 h3 h4;obtain⟨nn,rfl⟩:∃k,nn=k+1:=⟨nn-1,by omega⟩
  rw[Is];have q:=Ahf (fu:=fu) (d:=d+2) (L:=ids) (by omega) (by omega)
  have h4':ids.length=4:=by omega
  have lR':(D5 (N9 [] ids)).length=4:=by rw[Hc,Ym,h4'];rfl
  have t:List.take 4 (D5 (N9 [] ids))=D5 (N9 [] ids):=Qq (by omega)
  rw[h4'];simp (disch:=omega) only[Ep,q,Fx,t,dec,List.append_nil]
 |succ k ih=>
  intro nn i ids h1 h2 h3 h4;obtain⟨nn,rfl⟩:∃k,nn=k+1:=⟨nn-1,by omega⟩
  rw[Is];have w0:wrap .u64 (i:Int)=(i:Int):=Dq (by omega) (by omega)
  have w1:wrap .i64 ((i:Int)+1)=((i+1:Nat):Int):=by rw[wrap_i64 (by omega) (by omega)];omega
  have q:Af C0 prog fu (d+6) Lx [.sc (.int .u64 key),.sc (.int .u64 (i:Int)),.sc (.int .i64 176)]=_:=Aet (fu:=fu) (d:=d) hfu key (i:Int) (n:=176) (by omega)
  have lS:(Aq .u8 (Ox key (i:Int) 176)).length=176:=by rw[A1,Fc]
  have tS:List.take 176 (Aq .u8 (Ox key (i:Int) 176))=Aq .u8 (Ox key (i:Int) 176):=Qq (by omega)
  have lI:=Hc ids;have tI:List.take ids.length (D5 ids)=D5 ids:=Qq (by omega)
  have r:=ih nn (i+1) (ids++[Ox key (i:Int) 176]) (by simp;omega) (by omega) (by omega) h4
  have lA:(ids++[Ox key (i:Int) 176]).length=ids.length+1:=by simp
  have eA:D5 ids++[PV.lst false 1 176 (Aq .u8 (Ox key (i:Int) 176))]=D5 (ids++[Ox key (i:Int) 176]):=by
   unfold D5;rw[List.flatMap_append];simp[Fc]
  rw[lA,Zzv,List.singleton_append] at r;simp (disch:=omega) only[Ep,w0,w1,q,Fx,Fv,Ik,lS,tS,tI,eA,r];rfl
theorem Aex (hfu:1000<=fu){n:Nat}{c:List PV}{a1:Int}{a2:ByteArray}{secret:Int}{nm:ByteArray}(hnm:nm.size<=500){cr:List Sd}(GP:cr.length<=1000)(K1:∀c∈cr,c.ok):∀(r:List Sd)(i nn:Nat)(ids:List (List Int)),cr.drop i=r->r.length<nn->i<=cr.length->ids.length<=4 ->
  Dc fu (Af C0 prog fu (d+6)) n c a1 a2 nn secret nm ids.length cr.length (Dg cr) (cr.length:Int) (i:Int) (D5 ids)=some ⟨[.own 1 4 (D5 (N9 [] (TA (AE secret 20 (Oi nm)) (pick ids r))))],[]⟩:=by
 intro r;have lN:=HE nm;have mc:=MW (xs:=Hu) (fu:=fu) (d:=d+1) (l:=Oi nm) (YF nm) (by omega) (by omega) (by omega) secret 20
 rw[lN] at mc;have sc:=Vw nm;have lS:(Aq .u8 (Oi nm)).length=nm.size:=by rw[A1,lN]
 have tS:List.take nm.size (Aq .u8 (Oi nm))=Aq .u8 (Oi nm):=Qq (by omega)
 induction r with
 |nil=>
  intro i nn ids hd hnn hi h4;have:=drop_nil hd;obtain⟨nn,rfl⟩:∃k,nn=k+1:=⟨nn-1,by omega⟩
  rw[Iy];have q:=OI (fu:=fu) (d:=d) hfu (n:=n) (c:=c) (a1:=a1) (a2:=a2) (key:=AE secret 20 (Oi nm)) (cnt:=4-(ids.length:Int)) (4-ids.length) fu 0 ids (by omega) (by omega) (by omega) (by omega)
  have w:wrap .i64 (4-(ids.length:Int))=4-(ids.length:Int):=wrap_i64 (by omega) (by omega)
  simp (disch:=omega) only[Ep,sc,lS,Fv,Fx,Ik,tS,mc,w];exact q
 |cons x r ih=>
  intro i nn ids hd hnn hi h4;obtain⟨hlt,hget,hd'⟩:=Fj hd;obtain⟨nn,rfl⟩:∃k,nn=k+1:=⟨nn-1,by omega⟩
  rw[Iy];have g0:(Dg cr).getD (i*11) .top=.lst false 1 x.id.length (Aq .u8 x.id):=Dl hget (j:=0) (by omega)
  have g1:(Dg cr).getD (i*11+1) .top=.sc (.int .i64 x.ht):=Dl hget (j:=1) (by omega)
  have g2:(Dg cr).getD (i*11+1+1) .top=.sc (.int .u64 x.root):=Dl hget (j:=2) (by omega)
  have g3:(Dg cr).getD (i*11+1+1+1) .top=.sc (.int .u64 x.model):=Dl hget (j:=3) (by omega)
  have g4:(Dg cr).getD (i*11+1+1+1+1) .top=.sc (.int .i64 x.fmt):=Dl hget (j:=4) (by omega)
  have g5:(Dg cr).getD (i*11+1+1+1+1+1) .top=.sc (.bool x.sh):=Dl hget (j:=5) (by omega)
  have g6:(Dg cr).getD (i*11+1+1+1+1+1+1) .top=.sc (.int .u64 x.used):=Dl hget (j:=6) (by omega)
  have g7:(Dg cr).getD (i*11+1+1+1+1+1+1+1) .top=.lst false 2 x.rg.length (Km x.rg):=Dl hget (j:=7) (by omega)
  have g8:(Dg cr).getD (i*11+1+1+1+1+1+1+1+1) .top=.sc (.bool x.sus):=Dl hget (j:=8) (by omega)
  have g9:(Dg cr).getD (i*11+1+1+1+1+1+1+1+1+1) .top=.sc (.int .i64 x.since):=Dl hget (j:=9) (by omega)
  have g10:(Dg cr).getD (i*11+1+1+1+1+1+1+1+1+1+1) .top=.sc (.int .i64 x.last):=Dl hget (j:=10) (by omega)
  have n1:Int.toNat (i:Int)=i:=S3 _;have w1:wrap .i64 ((i:Int)+1)=((i+1:Nat):Int):=by rw[wrap_i64 (by omega) (by omega)];omega
  have xk:=K1 x (List.mem_of_getElem? hget);have cb:=DH (xs:=Hu) (fu:=fu) (d:=d+5) (A1 .u8 x.id) xk.idL;have lX:=A1 .u8 x.id;have tX:=tki .u8 x.id;have lI:=Hc ids;have tI:List.take ids.length (D5 ids)=D5 ids:=Qq (by omega)
  unfold pick;by_cases hs:x.sus=false
  ·have bT:∀a b:Option Bb,Cg (!x.sus) a b=a:=fun a b=>by rw[hs];rfl
   by_cases hl:ids.length<4
   ·rw[Lw ⟨hs,hl⟩];have r:=ih (i+1) nn (ids++[x.id]) hd' (by simp at hnn;omega) (by omega) (by simp;omega)
    have lA:(ids++[x.id]).length=ids.length+1:=by simp
    have eA:D5 ids++[PV.lst false 1 x.id.length (Aq .u8 x.id)]=D5 (ids++[x.id]):=by
     unfold D5;rw[List.flatMap_append];rfl
    rw[lA] at r;simp (disch:=omega) only[Ep,n1,g0,g1,g2,g3,g4,g5,g6,g7,g8,g9,g10,bT,cb,Fv,Fx,Ik,lX,tX,tI,eA,w1,r]
   ·rw[Lz fun h=>hl h.2]
    have r:=ih (i+1) nn ids hd' (by simp at hnn;omega) (by omega) h4
    simp (disch:=omega) only[Ep,n1,g0,g1,g2,g3,g4,g5,g6,g7,g8,g9,g10,bT,w1,r]
  ·rw[Lz fun h=>hs h.1]
   have bF:∀a b:Option Bb,Cg (!x.sus) a b=b:=fun a b=>by rw[Bool.not_eq_false] at hs;rw[hs];rfl
   have r:=ih (i+1) nn ids hd' (by simp at hnn;omega) (by omega) h4
   simp (disch:=omega) only[Ep,n1,g0,g1,g2,g3,g4,g5,g6,g7,g8,g9,g10,bF,w1,r]
theorem Rd (hfu:2000<=fu){l:List Cv}(hl:l.length<=1000)(K1:∀a∈l,a.ok)(secret:Int){nm:ByteArray}(hnm:nm.size<=500):
  Af C0 prog fu (d+7) Lr [.lst false 3 l.length (Cq l),.sc (.int .u64 secret),.sc (.string nm)]=some ⟨[.own 1 4 (D5 (AL l secret nm))],[]⟩:=by
 rw[Sl];have f:=P3 (xs:=Hu) (fu:=fu) (d:=d+5) (l:=l) (nm:=nm) (by omega) (by omega)
 unfold AL;cases h:BL nm 0 l with
 |none=>
  rw[h] at f;have lN:=HE nm;have mc:=MW (xs:=Hu) (fu:=fu) (d:=d+1) (l:=Oi nm) (YF nm) (by omega) (by omega) (by omega) secret 20
  rw[lN] at mc;have sc:=Vw nm;have lS:(Aq .u8 (Oi nm)).length=nm.size:=by rw[A1,lN]
  have tS:List.take nm.size (Aq .u8 (Oi nm))=Aq .u8 (Oi nm):=Qq (by omega)
  have q:=OI (fu:=fu) (d:=d) (by omega) (n:=l.length) (c:=Cq l) (a1:=secret) (a2:=nm) (key:=AE secret 20 (Oi nm)) (cnt:=4) 4 fu 0 [] rfl (by omega) (by omega) (by omega)
  simp only[Nr] at f;simp (disch:=omega) only[Ep,f,sc,lS,Fv,Fx,Ik,tS,mc];exact q
 |some i=>
  rw[h] at f;obtain⟨_,h2,a,h3,_⟩:=Vf h;rw[Nat.sub_zero] at h3;have g2:(Cq l).getD (i*3+2) .top=.lst false 11 a.cr.length (Dg a.cr):=H6 h3 (j:=2) (by omega)
  have n1:Int.toNat (i:Int)=i:=S3 _;have ak:=K1 a (List.mem_of_getElem? h3);have q:=Aex (fu:=fu) (d:=d) (by omega) (n:=l.length) (c:=Cq l) (a1:=secret) (a2:=nm) (secret:=secret) hnm ak.cn ak.cs a.cr 0 fu [] rfl (by have:=ak.cn;omega) (by omega) (by simp)
  simp only[Nr] at f;simp (disch:=omega) only[Ep,f,n1,g2];refine q.trans ?_;simp only[UA,h3]
end
end
section
open Go.Proofs.Try (prog)
open Go.IntKind (wrap)
set_option maxRecDepth 100000
section
variable {fu d:Nat}
theorem ED {l:List Cv}{nm us:ByteArray}{x:Sd}(hl:l.length<=1000)(hs:∀a∈l,a.sm)(hx:x.sm):
  Af C0 prog fu (d+1) 11 [.lst false 3 l.length (Cq l),.sc (.string nm),.sc (.string us),.agg x.cells]=some (R6 (Ry l nm us x)):=by
 have h:Af C0 prog fu (d+1) 11 [.lst false 3 l.length (Cq l),.sc (.string nm),.sc (.string us),.agg x.cells]=Aay [.lst false 3 l.length (Cq l),.sc (.string nm),.sc (.string us),.agg x.cells]:=by kernel_rfl
 have e1:Ks x.cells=some [x]:=by
  have:=U8 (l:=[x]) (fun c hc=>by rw[List.mem_singleton] at hc;subst hc;exact hx)
  rwa [show Dg [x]=x.cells by simp[Dg]] at this
 have e:(Nat.beq l.length l.length&&Nat.ble l.length 1000)=true:=by rw[Nat.beq_refl,Nat.ble_eq_true_of_le hl];rfl
 rw[h];unfold Aay;simp only[Yv hs,e1,e,cond_true]
end
end
section
open Go.Proofs.Try (prog)
open Go.IntKind (wrap)
set_option maxRecDepth 100000
def Pd:ByteArray:=ByteArray.mk #[(97:UInt8),(108:UInt8),(105:UInt8),(99:UInt8),(101:UInt8)]
def Akn:ByteArray:=ByteArray.mk #[(98:UInt8),(111:UInt8),(98:UInt8)]
def uuN:ByteArray:=ByteArray.mk #[(117:UInt8)]
section
variable {fu d:Nat}
theorem MM (hfu:2000<=fu){nm us:ByteArray}{c:Sd}(h1:1<=nm.size)(h2:nm.size<=32)(hid:c.id.length=176)(hr:c.rg.length<=1000):
  Af C0 prog fu (d+3) 11 [.lst false 3 0 [],.sc (.string nm),.sc (.string us),.agg c.cells]=some ⟨[.lst false 3 1 (Cq [⟨nm,us,[c]⟩]),.sc (.int .i64 0)],[]⟩:=by
 have h:=ED (fu:=fu) (d:=d+2) (l:=[]) (nm:=nm) (us:=us) (x:=c) (by simp) (fun a ha=>by cases ha) ⟨by omega,hr⟩
 have e:Ry [] nm us c=([⟨nm,us,[c]⟩],0):=by
  unfold Ry;rw[Lz (by omega),Lz (by simp[hid])]
  rfl
 rw[e] at h;exact h
end
def aw1:Sd:={ sdE 1 2 with used:=2,rg:=[(0,1)],last:=7 }
def LH:Sd:={ sdE 1 2 with used:=10,rg:=[(0,1),(2,3)],last:=8 }
def aw4:Sd:={ LH with sus:=true }
theorem Anr:Wf (sdE 1 2) 1 0 7=(aw1,0):=rfl
theorem Amn:Wf aw1 3 2 8=(LH,0):=rfl
theorem Amg:Wf LH 0 0 9=(LH,37):=rfl
theorem Ans:Wf LH 3 2 9=(aw4,37):=rfl
theorem Ajs:aw1.ok:=⟨(O9 1 2).idB,(O9 1 2).idL,by decide,by decide,by simp[aw1,Asc],by decide⟩
theorem MX:LH.ok:=⟨(O9 1 2).idB,(O9 1 2).idL,by decide,by decide,by simp[LH,Asc],by decide⟩
section
variable {fu d:Nat}
theorem Y6 (hfu:2000<=fu):Af C0 prog fu (d+8) Iz []=some ⟨[.sc (.bool true)],[]⟩:=by
 refine (O6 fu (d+7)).trans ?_;have s:=P7 (fu:=fu) (d:=d) (by omega) (k:=1) (by omega) (by omega) 2
 have q1:=Po (fu:=fu) (d:=d+3) (O9 1 2) hfu 1 0 7;have q2:=Po (fu:=fu) (d:=d+3) Ajs hfu 3 2 8;have q3:=Po (fu:=fu) (d:=d+3) MX hfu 0 0 9;have q4:=Po (fu:=fu) (d:=d+3) MX hfu 3 2 9;rw[Anr] at q1;rw[Amn] at q2;rw[Amg] at q3;rw[Ans] at q4;have i1:LH.id.length=176:=by show (Ee _ 176).length=176;rw[Ee,Fc]
 have q5:=MM (fu:=fu) (d:=d+4) hfu (nm:=Pd) (us:=uuN) (c:=LH) (by decide) (by decide) i1 (by decide)
 have q6:=P3 (xs:=Hu) (fu:=fu) (d:=d+6) (l:=[⟨Pd,uuN,[LH]⟩]) (nm:=Pd) (by simp) (by simp;omega)
 have e6:BL Pd 0 [⟨Pd,uuN,[LH]⟩]=some 0:=rfl;rw[e6] at q6
 have q7:=Rd (fu:=fu) (d:=d) hfu (l:=[⟨Pd,uuN,[LH]⟩]) (by simp) (by
  intro a ha;rw[List.mem_singleton] at ha;subst ha
  exact⟨by simp,by
   intro c hc;rw[List.mem_singleton] at hc;subst hc;exact MX⟩) 1 (nm:=Akn) (by decide)
 have lL:([⟨Pd,uuN,[LH]⟩]:List Cv).length=1:=rfl;rw[lL] at q6 q7;simp only[Nr] at q6;generalize Cq [⟨Pd,uuN,[LH]⟩]=A at q5 q6 q7;generalize D5 (AL [⟨Pd,uuN,[LH]⟩] 1 Akn)=R at q7;simp only[Sd.cells,sdE,aw1,LH,aw4] at s q1 q2 q3 q4 q5;simp only[Pd,uuN] at q5;simp only[Pd] at q6;simp only[Akn] at q7;generalize Ee (600+1) 176=id at *
 have e1:((0:Int)==0)=true:=rfl;have e2:((37:Int)==37)=true:=rfl;have e3:((10:Int)==10)=true:=rfl;have e4:((([(0,1),(2,3)]:List (Int × Int)).length:Int)==2)=true:=rfl;have e5:(((4:Nat):Int)==4)=true:=rfl;have e0:((0:Nat):Int)=0:=rfl;rw[e0] at q6;show Fp fu (Af C0 prog fu (d+7)) fu=_;rw[Mq (hnn:=by omega)]
 simp only[Ep,s,q1];rw[L7 (hnn:=by omega)]
 simp only[Ep,q2];rw[L5 (hnn:=by omega)]
 simp only[Ep,q3];rw[Mt (hnn:=by omega)]
 simp only[Ep,q4];rw[Mu (hnn:=by omega)]
 simp only[Ep,q5];rw[Ma (hnn:=by omega)]
 simp only[Ep,q6];rw[Mn (hnn:=by omega)]
 simp only[Ep,e1,e2,e3,e4,e5,VR,q7]
end
end
section
open Go.Proofs.Try (prog)
open Go.IntKind (wrap)
set_option maxRecDepth 100000
abbrev Gt:FuncId:=7
theorem Mg (fu d E5:Nat)(D1:List PV)(Ds:Int):Af C0 prog fu (d+1) Gt [.pbox [.lst false 1 E5 D1,.sc (.int .i64 Ds)]]=(fun (call:Aj)=>some (Bb.mk [.sc (.bool (decide (Ds<(↑E5:Int))))] [[.lst false 1 E5 D1,.sc (.int .i64 Ds)]])) (Af C0 prog fu d):=by kernel_rfl
abbrev Kp:FuncId:=12
theorem Gs (fu d:Nat)(a0:Int):Af C0 prog fu (d+1) Kp [.sc (.int .i64 a0)]=(fun (call:Aj)=>Ap (call 28 [.sc (.int .i64 a0),.sc (.int .i64 5)]) fun x1 x2=>Ae x2<|Ab x1 fun x3 x4=>Ai .i64 x3 fun x5=>Ae x4<|Au (decide (0<=x5)&&decide (x5<5))<|En (List.getD [.sc (.string (ByteArray.mk #[97,108,105,99,101])),.sc (.string (ByteArray.mk #[98,111,98])),.sc (.string (ByteArray.mk #[99,97,114,111,108])),.sc (.string (ByteArray.mk #[])),.sc (.string (ByteArray.mk #[255]))] (0+Int.toNat x5*1) .top) fun x6=>some (Bb.mk [.sc (.string x6)] [])) (Af C0 prog fu d):=by kernel_rfl
end
section
open Go.Proofs.Try (prog)
open Go.IntKind (wrap)
set_option maxRecDepth 100000
section
variable {fu d:Nat}
end
section
variable {fu d:Nat}
theorem EF (l:List Int)(a:Nat):Af C0 prog fu (d+1) Gt [.pbox (UL l a)]=some ⟨[.sc (.bool (decide ((a:Int)<(l.length:Int))))],[UL l a]⟩:=by
 unfold UL;rw[Mg]
end
end
section
open Go.Proofs.Try (prog)
open Go.IntKind (wrap)
set_option maxRecDepth 100000
def Ad3 (o:Option (Nat × Nat)):List PV:=match o with|some (i,k)=>[.sc (.int .i64 (i:Int)),.sc (.int .i64 (k:Int)),.sc (.bool true)]|none=>[.sc (.int .i64 0),.sc (.int .i64 0),.sc (.bool false)]
section
variable {xs:FuncId->Option (List PV->Option Bb)} {fu d:Nat}
theorem TH (a b:List Int):Af (CX xs) prog fu (d+1) Qs [.lst false 1 a.length (Aq .u8 a),.lst false 1 b.length (Aq .u8 b)]=some ⟨[.sc (.bool (Q1 a b))],[]⟩:=by
 rw[BE];have l1:=A1 .u8 a;have l2:=A1 .u8 b;have b1:=Dt a;have b2:=Dt b;simp (disch:=omega) only[Ep,l1,l2,b1,b2];rfl
theorem YE {nm us:ByteArray}{n0 n1:Nat}{c0 c1:List PV}{id:List Int}{cr:List Sd}(hl:cr.length<=100000):∀(r:List Sd)(i nn:Nat),cr.drop i=r->r.length<nn->i<=cr.length ->
  Es fu (Af (CX xs) prog fu (d+1)) nm us n0 c0 n1 c1 nn id.length (Aq .u8 id) cr.length (Dg cr) (cr.length:Int) (i:Int)=some ⟨Nr (QJ id i r),[]⟩:=by
 intro r
 induction r with
 |nil=>
  intro i nn hd hnn hi;have:=drop_nil hd;obtain⟨nn,rfl⟩:∃k,nn=k+1:=⟨nn-1,by omega⟩
  rw[Hx];simp (disch:=omega) only[Ep];rfl
 |cons x r ih=>
  intro i nn hd hnn hi;obtain⟨hlt,hget,hd'⟩:=Fj hd;obtain⟨nn,rfl⟩:∃k,nn=k+1:=⟨nn-1,by omega⟩
  rw[Hx];have g0:(Dg cr).getD (i*11) .top=.lst false 1 x.id.length (Aq .u8 x.id):=Dl hget (j:=0) (by omega)
  have g1:(Dg cr).getD (i*11+1) .top=.sc (.int .i64 x.ht):=Dl hget (j:=1) (by omega)
  have g2:(Dg cr).getD (i*11+1+1) .top=.sc (.int .u64 x.root):=Dl hget (j:=2) (by omega)
  have g3:(Dg cr).getD (i*11+1+1+1) .top=.sc (.int .u64 x.model):=Dl hget (j:=3) (by omega)
  have g4:(Dg cr).getD (i*11+1+1+1+1) .top=.sc (.int .i64 x.fmt):=Dl hget (j:=4) (by omega)
  have g5:(Dg cr).getD (i*11+1+1+1+1+1) .top=.sc (.bool x.sh):=Dl hget (j:=5) (by omega)
  have g6:(Dg cr).getD (i*11+1+1+1+1+1+1) .top=.sc (.int .u64 x.used):=Dl hget (j:=6) (by omega)
  have g7:(Dg cr).getD (i*11+1+1+1+1+1+1+1) .top=.lst false 2 x.rg.length (Km x.rg):=Dl hget (j:=7) (by omega)
  have g8:(Dg cr).getD (i*11+1+1+1+1+1+1+1+1) .top=.sc (.bool x.sus):=Dl hget (j:=8) (by omega)
  have g9:(Dg cr).getD (i*11+1+1+1+1+1+1+1+1+1) .top=.sc (.int .i64 x.since):=Dl hget (j:=9) (by omega)
  have g10:(Dg cr).getD (i*11+1+1+1+1+1+1+1+1+1+1) .top=.sc (.int .i64 x.last):=Dl hget (j:=10) (by omega)
  have n1:Int.toNat (i:Int)=i:=S3 _;have w1:wrap .i64 ((i:Int)+1)=((i+1:Nat):Int):=by rw[wrap_i64 (by omega) (by omega)];omega
  have eq:=TH (xs:=xs) (fu:=fu) (d:=d) x.id id;unfold QJ;cases h:Q1 x.id id
  ·rw[Lz (by simp)]
   rw[h] at eq;have q:=ih (i+1) nn hd' (by simp at hnn;omega) (by omega)
   simp (disch:=omega) only[Ep,n1,g0,g1,g2,g3,g4,g5,g6,g7,g8,g9,g10,eq,w1,q]
  ·rw[Lw rfl];rw[h] at eq;simp (disch:=omega) only[Ep,n1,g0,g1,g2,g3,g4,g5,g6,g7,g8,g9,g10,eq,Nr]
theorem WO {nm us:ByteArray}{id:List Int}{cr:List Sd}(hl:cr.length<=100000)(hfu:cr.length<fu):
  Af (CX xs) prog fu (d+2) Kt [.agg [.sc (.string nm),.sc (.string us),.lst false 11 cr.length (Dg cr)],.lst false 1 id.length (Aq .u8 id)]=some ⟨Nr (QJ id 0 cr),[]⟩:=by
 rw[Rj];exact YE hl cr 0 fu rfl hfu (by omega)
theorem Aak {n0 n1:Nat}{c0 c1:List PV}{id:List Int}{l:List Cv}(hl:l.length<=100000)(hs:∀a∈l,a.cr.length<=1000)(hfu:2000<=fu):∀(r:List Cv)(i nn:Nat),l.drop i=r->r.length<nn->i<=l.length ->
  F4 fu (Af (CX xs) prog fu (d+2)) n0 c0 n1 c1 nn id.length (Aq .u8 id) l.length (Cq l) (l.length:Int) (i:Int)=some ⟨Ad3 (AZ id i r),[]⟩:=by
 intro r
 induction r with
 |nil=>
  intro i nn hd hnn hi;have:=drop_nil hd;obtain⟨nn,rfl⟩:∃k,nn=k+1:=⟨nn-1,by omega⟩
  rw[Kc];simp (disch:=omega) only[Ep];rfl
 |cons a r ih=>
  intro i nn hd hnn hi;obtain⟨hlt,hget,hd'⟩:=Fj hd;obtain⟨nn,rfl⟩:∃k,nn=k+1:=⟨nn-1,by omega⟩
  rw[Kc];have g0:(Cq l).getD (i*3) .top=.sc (.string a.nm):=H6 hget (j:=0) (by omega)
  have g1:(Cq l).getD (i*3+1) .top=.sc (.string a.us):=H6 hget (j:=1) (by omega)
  have g2:(Cq l).getD (i*3+1+1) .top=.lst false 11 a.cr.length (Dg a.cr):=H6 hget (j:=2) (by omega)
  have n1:Int.toNat (i:Int)=i:=S3 _;have w1:wrap .i64 ((i:Int)+1)=((i+1:Nat):Int):=by rw[wrap_i64 (by omega) (by omega)];omega
  have ha:=hs a (List.mem_of_getElem? hget);have eq:=WO (xs:=xs) (fu:=fu) (d:=d) (nm:=a.nm) (us:=a.us) (id:=id) (cr:=a.cr) (by omega) (by omega)
  unfold AZ;cases h:QJ id 0 a.cr with
  |none=>
   rw[h] at eq;simp only[Nr] at eq;have q:=ih (i+1) nn hd' (by simp at hnn;omega) (by omega)
   simp (disch:=omega) only[Ep,n1,g0,g1,g2,eq,w1,q]
  |some k=>
   rw[h] at eq;simp only[Nr] at eq;simp (disch:=omega) only[Ep,n1,g0,g1,g2,eq,Ad3]
theorem Akv {id:List Int}{l:List Cv}(hl:l.length<=1000)(hs:∀a∈l,a.cr.length<=1000)(hfu:2000<=fu):Af (CX xs) prog fu (d+3) N3 [.lst false 3 l.length (Cq l),.lst false 1 id.length (Aq .u8 id)]=some ⟨Ad3 (AZ id 0 l),[]⟩:=by
 rw[Wj];exact Aak (by omega) hs hfu l 0 fu rfl (by omega) (by omega)
def SX (l:List Cv)(nm:ByteArray)(id:List Int):List PV:=
 match BL nm 0 l with
 |some i=>(match l[i]? with
  |some a=>(match QJ id 0 a.cr with|some k=>[.sc (.int .i64 (i:Int)),.sc (.int .i64 (k:Int)),.sc (.bool true)]|none=>[.sc (.int .i64 (i:Int)),.sc (.int .i64 0),.sc (.bool false)])
  |none=>[])
 |none=>[.sc (.int .i64 0),.sc (.int .i64 0),.sc (.bool false)]
theorem Ahq {nm:ByteArray}{id:List Int}{l:List Cv}(hl:l.length<=1000)(hs:∀a∈l,a.cr.length<=1000)(hfu:2000<=fu):Af (CX xs) prog fu (d+3) Mm [.lst false 3 l.length (Cq l),.sc (.string nm),.lst false 1 id.length (Aq .u8 id)]=some ⟨SX l nm id,[]⟩:=by
 rw[Va];have f:=P3 (xs:=xs) (fu:=fu) (d:=d+1) (l:=l) (nm:=nm) (by omega) (by omega)
 unfold SX;cases h:BL nm 0 l with
 |none=>
  rw[h] at f;simp only[Nr] at f;simp (disch:=omega) only[Ep,f,VR]
 |some i=>
  rw[h] at f;obtain⟨_,h2,a,h3,_⟩:=Vf h;rw[Nat.sub_zero] at h3;have ha:=hs a (List.mem_of_getElem? h3);have g0:(Cq l).getD (i*3) .top=.sc (.string a.nm):=H6 h3 (j:=0) (by omega)
  have g1:(Cq l).getD (i*3+1) .top=.sc (.string a.us):=H6 h3 (j:=1) (by omega)
  have g2:(Cq l).getD (i*3+1+1) .top=.lst false 11 a.cr.length (Dg a.cr):=H6 h3 (j:=2) (by omega)
  have n1:Int.toNat (i:Int)=i:=S3 _;have eq:=WO (xs:=xs) (fu:=fu) (d:=d) (nm:=a.nm) (us:=a.us) (id:=id) (cr:=a.cr) (by omega) (by omega)
  simp only[Nr] at f;dsimp only;rw[h3];dsimp only;cases hp:QJ id 0 a.cr with
  |none=>
   rw[hp] at eq;simp only[Nr] at eq;simp (disch:=omega) only[Ep,f,n1,g0,g1,g2,eq,VP]
  |some k=>
   rw[hp] at eq;simp only[Nr] at eq;simp (disch:=omega) only[Ep,f,n1,g0,g1,g2,eq,VP]
end
end
section
open Go.IntKind (wrap)
set_option maxRecDepth 100000
theorem Sd.ok.sm {c:Sd}(h:c.ok):c.sm:=⟨h.idL,h.rgn⟩
theorem Cv.ok.sm {a:Cv}(h:a.ok):a.sm:=⟨h.cn,fun c hc=>(h.cs c hc).sm⟩
section
variable {fu d:Nat}
end
end
section
open Go.IntKind (wrap)
set_option maxRecDepth 100000
theorem MU {c:Sd}(h:c.ok)(b:Bool):Sd.ok { c with sus:=b }:=⟨h.idB,h.idL,h.u0,h.u1,h.asc,h.rgn⟩
theorem NG {c:Sd}(h:c.ok)(k:Int):Sd.ok { c with id:=Ee k 176 }:=⟨FO _ _ _,by show (Ox _ _ _).length<=_;rw[Fc];omega,h.u0,h.u1,h.asc,h.rgn⟩
theorem X9 (k:Int)(n:Nat):(Ee k n).length=n:=Fc _ _ _
structure GV (l:List Cv):Prop where
 len:l.length<=16
 ok:∀a∈l,a.ok
theorem GV.nil:GV []:=⟨by simp,fun a h=>by cases h⟩
theorem GV.set {l:List Cv}(h:GV l){i:Nat}{a:Cv}(ha:a.ok):GV (l.set i a):=⟨by rw[List.length_set];exact h.len,fun x hx=>by
 rcases List.mem_or_eq_of_mem_set hx with hx|rfl
 ·exact h.ok x hx
 ·exact ha⟩
theorem Adw {l:List Cv}{nm us:ByteArray}{c:Sd}(h:GV l)(hc:c.ok):GV (Ry l nm us c).1:=by
 unfold Ry;split
 ·exact GV.nil
 split
 ·exact GV.nil
 split
 ·exact GV.nil
 split
 ·split
  ·rename_i a ha;split
   ·exact GV.nil
   ·have hk:=h.ok a (List.mem_of_getElem? ha);refine h.set ⟨?_,fun x hx=>?_⟩
    ·show (a.cr++[c]).length<=_;simp;omega
    ·rcases List.mem_append.1 hx with hx|hx
     ·exact hk.cs x hx
     ·rw[List.mem_singleton] at hx;subst hx;exact hc
  ·exact GV.nil
 ·split
  ·exact GV.nil
  ·refine⟨by simp;omega,fun x hx=>?_⟩
   rcases List.mem_append.1 hx with hx|hx
   ·exact h.ok x hx
   ·rw[List.mem_singleton] at hx;subst hx
    exact⟨by simp,fun y hy=>by
     rw[List.mem_singleton] at hy;subst hy;exact hc⟩
section
variable {fu d:Nat}
end
end
section
open Go.Proofs.Try (prog)
open Go.IntKind (wrap)
set_option maxRecDepth 100000
abbrev Fq:FuncId:=3
noncomputable def A7 (fu:Nat)(call:Aj)(a0n:Nat)(a0:List PV)(a1:Int)(a2:ByteArray)(nn:Nat)(y0:Int)(y1:ByteArray)(y2:Nat)(y3:Int)(y4:Nat)(y5:List PV)(y6:Int)(y7:List PV):Option Bb:=Cw CB prog fu call 3 Try.f3 (Bz Try.f3) [.lst false 1 a0n a0,.sc (.int .u64 a1),.sc (.string a2)] [.r,.r,.r,.r,.l,.r,.l] nn ⟨lk [(1,(.sc (.int .u64 y0))),(2,(.sc (.string y1))),(7,(.ptr 7 0)),(8,(.view 8 3 0 y2)),(9,(.sc (.int .i64 y3)))],Fw [(7,(.st [(.lst false 1 y4 y5),(.sc (.int .i64 y6))])),(8,(.ar false y7))]⟩
noncomputable def As (fu:Nat)(call:Aj)(a0n:Nat)(a0:List PV)(a1:Int)(a2:ByteArray)(nn:Nat)(y0:Int)(y1:ByteArray)(y2:Nat)(y3:List PV)(y4:Int)(y5:Nat)(y6:List PV)(y7:Int):Option Bb:=Cw CB prog fu call 3 Try.f3 (Bz Try.f3) [.lst false 1 a0n a0,.sc (.int .u64 a1),.sc (.string a2)] [.r,.r,.r,.r,.l,.r,.l] nn ⟨lk [(1,(.sc (.int .u64 y0))),(2,(.sc (.string y1))),(7,(.ptr 7 0)),(8,(.lst false 3 y2 y3)),(9,(.sc (.int .i64 y4)))],Fw [(7,(.st [(.lst false 1 y5 y6),(.sc (.int .i64 y7))]))]⟩
noncomputable def Aw (fu:Nat)(call:Aj)(a0n:Nat)(a0:List PV)(a1:Int)(a2:ByteArray)(nn:Nat)(y0:Int)(y1:ByteArray)(y2:Nat)(y3:Int)(y4:Nat)(y5:List PV)(y6:Int)(y7:List PV):Option Bb:=Cw CB prog fu call 3 Try.f3 (Bz Try.f3) [.lst false 1 a0n a0,.sc (.int .u64 a1),.sc (.string a2)] [.r,.r,.r,.r,.l,.r,.l] nn ⟨lk [(1,(.sc (.int .u64 y0))),(2,(.sc (.string y1))),(7,(.ptr 7 0)),(8,(.view 8 3 0 y2)),(9,(.sc (.int .i64 y3)))],Fw [(7,(.st [(.lst false 1 y4 y5),(.sc (.int .i64 y6))])),(8,(.ar true y7))]⟩
noncomputable def Co (fu:Nat)(call:Aj)(a0n:Nat)(a0:List PV)(a1:Int)(a2:ByteArray)(nn:Nat)(y0:Int)(y1 y2:Nat)(y3 y4:Int)(y5 y6:List PV):Option Bb:=Cw CB prog fu call 3 Try.f3 (Bz Try.f3) [.lst false 1 a0n a0,.sc (.int .u64 a1),.sc (.string a2)] [.r,.r,.r,.r,.r,.l,.r,.l] nn ⟨lk [(1,(.sc (.int .u64 y0))),(8,(.view 8 3 0 y1)),(59,(.view 59 1 0 y2)),(60,(.sc (.int .i64 y3))),(61,(.sc (.int .i64 y4)))],Fw [(8,(.ar false y5)),(59,(.ar false y6))]⟩
noncomputable def A4 (fu:Nat)(call:Aj)(a0n:Nat)(a0:List PV)(a1:Int)(a2:ByteArray)(nn:Nat)(y0:Int)(y1:Nat)(y2:List PV)(y3:Nat)(y4 y5:Int)(y6:List PV):Option Bb:=Cw CB prog fu call 3 Try.f3 (Bz Try.f3) [.lst false 1 a0n a0,.sc (.int .u64 a1),.sc (.string a2)] [.r,.r,.r,.r,.r,.l,.r,.l] nn ⟨lk [(1,(.sc (.int .u64 y0))),(8,(.lst false 3 y1 y2)),(59,(.view 59 1 0 y3)),(60,(.sc (.int .i64 y4))),(61,(.sc (.int .i64 y5)))],Fw [(59,(.ar false y6))]⟩
noncomputable def Bs (fu:Nat)(call:Aj)(a0n:Nat)(a0:List PV)(a1:Int)(a2:ByteArray)(nn:Nat)(y0:Int)(y1 y2:Nat)(y3 y4:Int)(y5 y6:List PV):Option Bb:=Cw CB prog fu call 3 Try.f3 (Bz Try.f3) [.lst false 1 a0n a0,.sc (.int .u64 a1),.sc (.string a2)] [.r,.r,.r,.r,.r,.l,.r,.l] nn ⟨lk [(1,(.sc (.int .u64 y0))),(8,(.view 8 3 0 y1)),(59,(.view 59 1 0 y2)),(60,(.sc (.int .i64 y3))),(61,(.sc (.int .i64 y4)))],Fw [(8,(.ar true y5)),(59,(.ar false y6))]⟩
noncomputable def A6 (fu:Nat)(call:Aj)(a0n:Nat)(a0:List PV)(a1:Int)(a2:ByteArray)(m0 nn:Nat)(y0:Int)(y1:Nat)(y2:ByteArray)(y3:Nat)(y4:Int)(y5:Nat)(y6 y7:Int)(y8 y9 E1:List PV):Option Bb:=Cw CB prog fu call 3 Try.f3 (Bz Try.f3) [.lst false 1 a0n a0,.sc (.int .u64 a1),.sc (.string a2)] [.r,.r,.r,.r,.r,.l,.r,.l,.i m0,.r,.r,.l,.l,.r,.r,.r,.l,.r,.l] nn ⟨lk [(1,(.sc (.int .u64 y0))),(8,(.view 8 3 0 y1)),(14,(.sc (.string y2))),(15,(.view 15 1 0 y3)),(16,(.sc (.int .i64 y4))),(59,(.view 59 1 0 y5)),(60,(.sc (.int .i64 y6))),(61,(.sc (.int .i64 y7)))],Fw [(8,(.ar true y8)),(15,(.ar false y9)),(59,(.ar false E1))]⟩
noncomputable def Bk (fu:Nat)(call:Aj)(a0n:Nat)(a0:List PV)(a1:Int)(a2:ByteArray)(m0 nn:Nat)(y0:Int)(y1:Nat)(y2:List PV)(y3:ByteArray)(y4:Nat)(y5:Int)(y6:Nat)(y7 y8:Int)(y9 E1:List PV):Option Bb:=Cw CB prog fu call 3 Try.f3 (Bz Try.f3) [.lst false 1 a0n a0,.sc (.int .u64 a1),.sc (.string a2)] [.r,.r,.r,.r,.r,.l,.r,.l,.i m0,.r,.r,.l,.l,.r,.r,.r,.l,.r,.l] nn ⟨lk [(1,(.sc (.int .u64 y0))),(8,(.lst false 3 y1 y2)),(14,(.sc (.string y3))),(15,(.view 15 1 0 y4)),(16,(.sc (.int .i64 y5))),(59,(.view 59 1 0 y6)),(60,(.sc (.int .i64 y7))),(61,(.sc (.int .i64 y8)))],Fw [(15,(.ar false y9)),(59,(.ar false E1))]⟩
noncomputable def Jf (fu:Nat)(call:Aj)(a0n:Nat)(a0:List PV)(a1:Int)(a2:ByteArray)(m0 nn:Nat)(y0:Int)(y1 y2:Nat)(y3 y4:Int)(y5:Nat)(y6 y7:Int)(y8 y9 E1:List PV):Option Bb:=Cw CB prog fu call 3 Try.f3 (Bz Try.f3) [.lst false 1 a0n a0,.sc (.int .u64 a1),.sc (.string a2)] [.r,.r,.r,.r,.r,.l,.r,.l,.i m0,.r,.r,.l,.l,.r,.r,.r,.r,.r,.r,.r,.r,.l] nn ⟨lk [(1,(.sc (.int .u64 y0))),(8,(.view 8 3 0 y1)),(15,(.view 15 1 0 y2)),(17,(.sc (.int .i64 y3))),(19,(.sc (.int .i64 y4))),(59,(.view 59 1 0 y5)),(60,(.sc (.int .i64 y6))),(61,(.sc (.int .i64 y7)))],Fw [(8,(.ar true y8)),(15,(.ar false y9)),(59,(.ar false E1))]⟩
noncomputable def B0 (fu:Nat)(call:Aj)(a0n:Nat)(a0:List PV)(a1:Int)(a2:ByteArray)(m0 nn:Nat)(y0:Int)(y1:Nat)(y2:List PV)(y3:Nat)(y4 y5:Int)(y6:Nat)(y7 y8:Int)(y9 E1:List PV):Option Bb:=Cw CB prog fu call 3 Try.f3 (Bz Try.f3) [.lst false 1 a0n a0,.sc (.int .u64 a1),.sc (.string a2)] [.r,.r,.r,.r,.r,.l,.r,.l,.i m0,.r,.r,.l,.l,.r,.r,.r,.r,.r,.r,.r,.r,.l] nn ⟨lk [(1,(.sc (.int .u64 y0))),(8,(.lst false 3 y1 y2)),(15,(.view 15 1 0 y3)),(17,(.sc (.int .i64 y4))),(19,(.sc (.int .i64 y5))),(59,(.view 59 1 0 y6)),(60,(.sc (.int .i64 y7))),(61,(.sc (.int .i64 y8)))],Fw [(15,(.ar false y9)),(59,(.ar false E1))]⟩
theorem Et (fu:Nat)(call:Aj)(a0n:Nat)(a0:List PV)(a1:Int)(a2:ByteArray)(nn:Nat)(y0:Int)(y1:ByteArray)(y2:Nat)(y3:Int)(y4:Nat)(y5:List PV)(y6:Int)(y7:List PV):A7 fu call a0n a0 a1 a2 (nn+1) y0 y1 y2 y3 y4 y5 y6 y7=(Cg (decide (y3<20)) (Ap (call 7 [.pbox [.lst false 1 y4 y5,.sc (.int .i64 y6)]]) fun Lg Q4=>Ab Lg fun Q8 Wy=>A5 Q8 fun V2=>Ae Wy<|Ab Q4 fun Rb GT=>Ab Rb fun GZ Wi=>Eu 1 GZ fun OC KD Ri=>Ab Wi fun Ut HH=>Ai .i64 Ut fun CJ=>Ae HH<|Ae GT<|Cg V2 (Ap (call 8 [.sc (.int .i64 0),.sc (.int .i64 1)]) fun Xy JT=>Ae JT<|Ab Xy fun EU Xe=>Fo EU fun HO=>Ab HO fun NQ GQ=>Eu 1 NQ fun VN TF VX=>Ab GQ fun ON RO=>Ai .i64 ON fun TE=>Ab RO fun RD UQ=>Ai .u64 RD fun UW=>Ab UQ fun DS PE=>Ai .u64 DS fun VI=>Ab PE fun QR DM=>Ai .i64 QR fun OW=>Ab DM fun SU SY=>A5 SU fun MT=>Ab SY fun RE UF=>Ai .u64 RE fun KS=>Ab UF fun LC x63=>Eu 2 LC fun x64 VM YB=>Ab x63 fun x67 SS=>A5 x67 fun x69=>Ab SS fun ZP XS=>Ai .i64 ZP fun x72=>Ab XS fun x73 PN=>Ai .i64 x73 fun VA=>Ae PN<|Ae Xe<|Aa (wrap .i64 (700+y3)) fun x76=>Ap (call 9 [.sc (.int .i64 x76),.sc (.int .i64 176)]) fun x77 x78=>Ae x78<|Ab x77 fun x79 x80=>Oc 1 x79 fun x81 x82=>Ae x80<|Ap (call 10 [.pbox [.lst false 1 KD Ri,.sc (.int .i64 CJ)],.sc (.int .i64 4)]) fun x83 x84=>Ab x83 fun x85 x86=>Ai .i64 x85 fun x87=>Ae x86<|Ab x84 fun x88 x89=>Ab x88 fun x90 x91=>Eu 1 x90 fun x92 x93 x94=>Ab x91 fun x95 x96=>Ai .i64 x95 fun x97=>Ae x96<|Ae x89<|Ap (call 10 [.pbox [.lst false 1 x93 x94,.sc (.int .i64 x97)],.sc (.int .i64 3)]) fun x98 x99=>Ab x98 fun Abu Aa9=>Ai .i64 Abu fun WW=>Ae Aa9<|Ab x99 fun YK ZY=>Ab YK fun BA Aa6=>Eu 1 BA fun Aeh SF UI=>Ab Aa6 fun WR Abj=>Ai .i64 WR fun RT=>Ae Abj<|Ae ZY<|Ap (call 12 [.sc (.int .i64 WW)]) fun Abd WC=>Ae WC<|Ab Abd fun WH Aae=>En WH fun ZT=>Ae Aae<|Au (decide (0+y2*3<=y7.length))<|Au (decide (0+x81*1<=x82.length))<|Ap (call 11 [.lst false 3 y2 (List.take (y2*3) (List.drop 0 y7)),.sc (.string ZT),.sc (.string (ByteArray.mk #[117])),.agg [.lst false 1 x81 (List.take (x81*1) (List.drop 0 x82)),.sc (.int .i64 TE),.sc (.int .u64 UW),.sc (.int .u64 VI),.sc (.int .i64 OW),.sc (.bool MT),.sc (.int .u64 KS),.lst false 2 VM YB,.sc (.bool (x87==3)),.sc (.int .i64 x72),.sc (.int .i64 VA)]]) fun Ac2 Abw=>Ae Abw<|Ab Ac2 fun ZI ZM=>Eu 3 ZI fun Afo YX XQ=>Ab ZM fun WJ XN=>Ai .i64 WJ fun SV=>Ae XN<|Cg (SV==0) (Aa (wrap .i64 (y3+1)) fun YY=>As fu call a0n a0 a1 a2 (nn) (y0) (y1) YX XQ YY SF UI RT) (Cg (SV != 12) (some (Bb.mk [.sc (.bool false)] [])) (Aa (wrap .i64 (y3+1)) fun XJ=>Aw fu call a0n a0 a1 a2 (nn) (y0) (y1) (y2) XJ SF UI RT (y7)))) (Co fu call a0n a0 a1 a2 (fu) (y0) (y2) 5 5 0 (y7) ([.sc (.string (ByteArray.mk #[97,108,105,99,101])),.sc (.string (ByteArray.mk #[98,111,98])),.sc (.string (ByteArray.mk #[99,97,114,111,108])),.sc (.string (ByteArray.mk #[110,111,98,111,100,121])),.sc (.string y1)]))) (Co fu call a0n a0 a1 a2 (fu) (y0) (y2) 5 5 0 (y7) ([.sc (.string (ByteArray.mk #[97,108,105,99,101])),.sc (.string (ByteArray.mk #[98,111,98])),.sc (.string (ByteArray.mk #[99,97,114,111,108])),.sc (.string (ByteArray.mk #[110,111,98,111,100,121])),.sc (.string y1)]))):=by kernel_rfl
theorem Ei (fu:Nat)(call:Aj)(a0n:Nat)(a0:List PV)(a1:Int)(a2:ByteArray)(nn:Nat)(y0:Int)(y1:ByteArray)(y2:Nat)(y3:List PV)(y4:Int)(y5:Nat)(y6:List PV)(y7:Int):As fu call a0n a0 a1 a2 (nn+1) y0 y1 y2 y3 y4 y5 y6 y7=(Cg (decide (y4<20)) (Ap (call 7 [.pbox [.lst false 1 y5 y6,.sc (.int .i64 y7)]]) fun XR YO=>Ab XR fun Abl XL=>A5 Abl fun Aby=>Ae XL<|Ab YO fun Aaa Abv=>Ab Aaa fun ZX Abk=>Eu 1 ZX fun Adn Ae7 XG=>Ab Abk fun Abs WS=>Ai .i64 Abs fun OB=>Ae WS<|Ae Abv<|Cg Aby (Ap (call 8 [.sc (.int .i64 0),.sc (.int .i64 1)]) fun WQ XB=>Ae XB<|Ab WQ fun Aai ZW=>Fo Aai fun Ai7=>Ab Ai7 fun Ah9 Ajw=>Eu 1 Ah9 fun An9 Anw Ape=>Ab Ajw fun Aj3 Akm=>Ai .i64 Aj3 fun All=>Ab Akm fun Aia Ak5=>Ai .u64 Aia fun Aiq=>Ab Ak5 fun Ahl Ak3=>Ai .u64 Ahl fun Am0=>Ab Ak3 fun Ai5 Aiv=>Ai .i64 Ai5 fun Ah4=>Ab Aiv fun Aht Akz=>A5 Aht fun Ak0=>Ab Akz fun Aje Akq=>Ai .u64 Aje fun Ak1=>Ab Akq fun Aik Ake=>Eu 2 Aik fun Aor Ahm Ahz=>Ab Ake fun Ag7 Ajc=>A5 Ag7 fun Ao1=>Ab Ajc fun Ait Ajg=>Ai .i64 Ait fun Ak7=>Ab Ajg fun Aib Any=>Ai .i64 Aib fun Ag8=>Ae Any<|Ae ZW<|Aa (wrap .i64 (700+y4)) fun Ajn=>Ap (call 9 [.sc (.int .i64 Ajn),.sc (.int .i64 176)]) fun Aks Ahe=>Ae Ahe<|Ab Aks fun Ald Ahp=>Oc 1 Ald fun ZG Ae2=>Ae Ahp<|Ap (call 10 [.pbox [.lst false 1 Ae7 XG,.sc (.int .i64 OB)],.sc (.int .i64 4)]) fun Ag9 Aig=>Ab Ag9 fun Ahn Akh=>Ai .i64 Ahn fun Ak6=>Ae Akh<|Ab Aig fun Ai0 Ahh=>Ab Ai0 fun Aj6 Aln=>Eu 1 Aj6 fun Ama Akt Ajo=>Ab Aln fun Ag4 Ah6=>Ai .i64 Ag4 fun Ao9=>Ae Ah6<|Ae Ahh<|Ap (call 10 [.pbox [.lst false 1 Akt Ajo,.sc (.int .i64 Ao9)],.sc (.int .i64 3)]) fun Ajv Ajf=>Ab Ajv fun Ai4 Aip=>Ai .i64 Ai4 fun Ag6=>Ae Aip<|Ab Ajf fun Ah0 Ahv=>Ab Ah0 fun Akj Aij=>Eu 1 Akj fun Ami Afi Adc=>Ab Aij fun Akg Ahj=>Ai .i64 Akg fun Acw=>Ae Ahj<|Ae Ahv<|Ap (call 12 [.sc (.int .i64 Ag6)]) fun Ajh Ali=>Ae Ali<|Ab Ajh fun Ah1 Aov=>En Ah1 fun Ah5=>Ae Aov<|Au (decide (0+ZG*1<=Ae2.length))<|Ap (call 11 [.lst false 3 y2 y3,.sc (.string Ah5),.sc (.string (ByteArray.mk #[117])),.agg [.lst false 1 ZG (List.take (ZG*1) (List.drop 0 Ae2)),.sc (.int .i64 All),.sc (.int .u64 Aiq),.sc (.int .u64 Am0),.sc (.int .i64 Ah4),.sc (.bool Ak0),.sc (.int .u64 Ak1),.lst false 2 Ahm Ahz,.sc (.bool (Ak6==3)),.sc (.int .i64 Ak7),.sc (.int .i64 Ag8)]]) fun Ak8 Akr=>Ae Akr<|Ab Ak8 fun Ajj Ale=>Eu 3 Ajj fun Aoh Aj0 Ain=>Ab Ale fun Aiw Aka=>Ai .i64 Aiw fun Adr=>Ae Aka<|Cg (Adr==0) (Aa (wrap .i64 (y4+1)) fun Aic=>As fu call a0n a0 a1 a2 (nn) (y0) (y1) Aj0 Ain Aic Afi Adc Acw) (Cg (Adr != 12) (some (Bb.mk [.sc (.bool false)] [])) (Aa (wrap .i64 (y4+1)) fun Akl=>As fu call a0n a0 a1 a2 (nn) (y0) (y1) (y2) (y3) Akl Afi Adc Acw))) (A4 fu call a0n a0 a1 a2 (fu) (y0) (y2) (y3) 5 5 0 ([.sc (.string (ByteArray.mk #[97,108,105,99,101])),.sc (.string (ByteArray.mk #[98,111,98])),.sc (.string (ByteArray.mk #[99,97,114,111,108])),.sc (.string (ByteArray.mk #[110,111,98,111,100,121])),.sc (.string y1)]))) (A4 fu call a0n a0 a1 a2 (fu) (y0) (y2) (y3) 5 5 0 ([.sc (.string (ByteArray.mk #[97,108,105,99,101])),.sc (.string (ByteArray.mk #[98,111,98])),.sc (.string (ByteArray.mk #[99,97,114,111,108])),.sc (.string (ByteArray.mk #[110,111,98,111,100,121])),.sc (.string y1)]))):=by kernel_rfl
theorem Ec (fu:Nat)(call:Aj)(a0n:Nat)(a0:List PV)(a1:Int)(a2:ByteArray)(nn:Nat)(y0:Int)(y1:ByteArray)(y2:Nat)(y3:Int)(y4:Nat)(y5:List PV)(y6:Int)(y7:List PV):Aw fu call a0n a0 a1 a2 (nn+1) y0 y1 y2 y3 y4 y5 y6 y7=(Cg (decide (y3<20)) (Ap (call 7 [.pbox [.lst false 1 y4 y5,.sc (.int .i64 y6)]]) fun Alo Ahk=>Ab Alo fun Aku Aj5=>A5 Aku fun Ajm=>Ae Aj5<|Ab Ahk fun Apf Aux=>Ab Apf fun Aqm Av2=>Eu 1 Aqm fun Ay6 Asa Awz=>Ab Av2 fun Atd Awa=>Ai .i64 Atd fun At2=>Ae Awa<|Ae Aux<|Cg Ajm (Ap (call 8 [.sc (.int .i64 0),.sc (.int .i64 1)]) fun Asb Av9=>Ae Av9<|Ab Asb fun At5 Aul=>Fo At5 fun Av0=>Ab Av0 fun Ata Awc=>Eu 1 Ata fun A01 A1i Azt=>Ab Awc fun Av3 Atf=>Ai .i64 Av3 fun Aq1=>Ab Atf fun Awu Arc=>Ai .u64 Awu fun Av5=>Ab Arc fun At8 At6=>Ai .u64 At8 fun Aub=>Ab At6 fun Ara Ari=>Ai .i64 Ara fun Awg=>Ab Ari fun Aqp Ass=>A5 Aqp fun Auf=>Ab Ass fun Ark Aus=>Ai .u64 Ark fun Aw6=>Ab Aus fun At0 Aqn=>Eu 2 At0 fun A0r Aup Awv=>Ab Aqn fun Avu Avh=>A5 Avu fun Az4=>Ab Avh fun Ar0 Arf=>Ai .i64 Ar0 fun Aq6=>Ab Arf fun Art Asj=>Ai .i64 Art fun As7=>Ae Asj<|Ae Aul<|Aa (wrap .i64 (700+y3)) fun Atu=>Ap (call 9 [.sc (.int .i64 Atu),.sc (.int .i64 176)]) fun Atv Aqg=>Ae Aqg<|Ab Atv fun Ar1 Ash=>Oc 1 Ar1 fun Ahy Apc=>Ae Ash<|Ap (call 10 [.pbox [.lst false 1 Asa Awz,.sc (.int .i64 At2)],.sc (.int .i64 4)]) fun Au2 Ava=>Ab Au2 fun Asm Atz=>Ai .i64 Asm fun Arb=>Ae Atz<|Ab Ava fun Au3 Au7=>Ab Au3 fun As9 Avg=>Eu 1 As9 fun Azu Avw Awx=>Ab Avg fun Avl Arl=>Ai .i64 Avl fun Avn=>Ae Arl<|Ae Au7<|Ap (call 10 [.pbox [.lst false 1 Avw Awx,.sc (.int .i64 Avn)],.sc (.int .i64 3)]) fun Axc Arn=>Ab Axc fun Awm Awe=>Ai .i64 Awm fun Au1=>Ae Awe<|Ab Arn fun Aw7 Aut=>Ab Aw7 fun Ar9 Aqh=>Eu 1 Ar9 fun A1p Aod Apd=>Ab Aqh fun Aw4 Ate=>Ai .i64 Aw4 fun Anv=>Ae Ate<|Ae Aut<|Ap (call 12 [.sc (.int .i64 Au1)]) fun Au8 Avv=>Ae Avv<|Ab Au8 fun Ar2 Aqv=>En Ar2 fun Auu=>Ae Aqv<|Au (decide (0+y2*3<=y7.length))<|Au (decide (0+Ahy*1<=Apc.length))<|Ap (call 11 [.lst false 3 y2 (List.take (y2*3) (List.drop 0 y7)),.sc (.string Auu),.sc (.string (ByteArray.mk #[117])),.agg [.lst false 1 Ahy (List.take (Ahy*1) (List.drop 0 Apc)),.sc (.int .i64 Aq1),.sc (.int .u64 Av5),.sc (.int .u64 Aub),.sc (.int .i64 Awg),.sc (.bool Auf),.sc (.int .u64 Aw6),.lst false 2 Aup Awv,.sc (.bool (Arb==3)),.sc (.int .i64 Aq6),.sc (.int .i64 As7)]]) fun Arj Ar8=>Ae Ar8<|Ab Arj fun Aso Atq=>Eu 3 Aso fun A08 Aw0 Awj=>Ab Atq fun Atx Aq4=>Ai .i64 Atx fun Aow=>Ae Aq4<|Cg (Aow==0) (Aa (wrap .i64 (y3+1)) fun Atk=>As fu call a0n a0 a1 a2 (nn) (y0) (y1) Aw0 Awj Atk Aod Apd Anv) (Cg (Aow != 12) (some (Bb.mk [.sc (.bool false)] [])) (Aa (wrap .i64 (y3+1)) fun Atr=>Aw fu call a0n a0 a1 a2 (nn) (y0) (y1) (y2) Atr Aod Apd Anv (y7)))) (Bs fu call a0n a0 a1 a2 (fu) (y0) (y2) 5 5 0 (y7) ([.sc (.string (ByteArray.mk #[97,108,105,99,101])),.sc (.string (ByteArray.mk #[98,111,98])),.sc (.string (ByteArray.mk #[99,97,114,111,108])),.sc (.string (ByteArray.mk #[110,111,98,111,100,121])),.sc (.string y1)]))) (Bs fu call a0n a0 a1 a2 (fu) (y0) (y2) 5 5 0 (y7) ([.sc (.string (ByteArray.mk #[97,108,105,99,101])),.sc (.string (ByteArray.mk #[98,111,98])),.sc (.string (ByteArray.mk #[99,97,114,111,108])),.sc (.string (ByteArray.mk #[110,111,98,111,100,121])),.sc (.string y1)]))):=by kernel_rfl
theorem E0 (fu:Nat)(call:Aj)(a0n:Nat)(a0:List PV)(a1:Int)(a2:ByteArray)(nn:Nat)(y0:Int)(y1 y2:Nat)(y3 y4:Int)(y5 y6:List PV):Co fu call a0n a0 a1 a2 (nn+1) y0 y1 y2 y3 y4 y5 y6=(Cg (decide (y4<y3)) (Au (decide (0<=y4)&&decide (y4<(↑y2:Int)))<|En (List.getD y6 (0+Int.toNat y4*1) .top) fun An2=>Au (decide (0+y1*3<=y5.length))<|Ap (call 13 [.lst false 3 y1 (List.take (y1*3) (List.drop 0 y5)),.sc (.int .u64 y0),.sc (.string An2)]) fun As5 Ar5=>Ae Ar5<|Ab As5 fun Arp Atl=>Oc 1 Arp fun Anz Aq9=>Ae Atl<|Cg ((↑Anz:Int) != 4) (some (Bb.mk [.sc (.bool false)] [])) (A6 fu call a0n a0 a1 a2 nn (fu) (y0) (y1) An2 Anz 0 (y2) (y3) (y4) (y5) Aq9 (y6))) (Ap (call 5 []) fun Asx Axe=>Ae Axe<|Ab Asx fun Asf Avz=>A5 Asf fun Avp=>Ae Avz<|some (Bb.mk [.sc (.bool Avp)] []))):=by kernel_rfl
theorem El (fu:Nat)(call:Aj)(a0n:Nat)(a0:List PV)(a1:Int)(a2:ByteArray)(nn:Nat)(y0:Int)(y1:Nat)(y2:List PV)(y3:Nat)(y4 y5:Int)(y6:List PV):A4 fu call a0n a0 a1 a2 (nn+1) y0 y1 y2 y3 y4 y5 y6=(Cg (decide (y5<y4)) (Au (decide (0<=y5)&&decide (y5<(↑y3:Int)))<|En (List.getD y6 (0+Int.toNat y5*1) .top) fun Ann=>Ap (call 13 [.lst false 3 y1 y2,.sc (.int .u64 y0),.sc (.string Ann)]) fun Aqz Au4=>Ae Au4<|Ab Aqz fun At1 Aw2=>Oc 1 At1 fun Aob Aqt=>Ae Aw2<|Cg ((↑Aob:Int) != 4) (some (Bb.mk [.sc (.bool false)] [])) (Bk fu call a0n a0 a1 a2 nn (fu) (y0) (y1) (y2) Ann Aob 0 (y3) (y4) (y5) Aqt (y6))) (Ap (call 5 []) fun Avo Awh=>Ae Awh<|Ab Avo fun Asq Avq=>A5 Asq fun Ar7=>Ae Avq<|some (Bb.mk [.sc (.bool Ar7)] []))):=by kernel_rfl
theorem Ea (fu:Nat)(call:Aj)(a0n:Nat)(a0:List PV)(a1:Int)(a2:ByteArray)(nn:Nat)(y0:Int)(y1 y2:Nat)(y3 y4:Int)(y5 y6:List PV):Bs fu call a0n a0 a1 a2 (nn+1) y0 y1 y2 y3 y4 y5 y6=(Cg (decide (y4<y3)) (Au (decide (0<=y4)&&decide (y4<(↑y2:Int)))<|En (List.getD y6 (0+Int.toNat y4*1) .top) fun Apg=>Au (decide (0+y1*3<=y5.length))<|Ap (call 13 [.lst false 3 y1 (List.take (y1*3) (List.drop 0 y5)),.sc (.int .u64 y0),.sc (.string Apg)]) fun Ave Awk=>Ae Awk<|Ab Ave fun Ar3 Aue=>Oc 1 Ar3 fun Apb Aq2=>Ae Aue<|Cg ((↑Apb:Int) != 4) (some (Bb.mk [.sc (.bool false)] [])) (A6 fu call a0n a0 a1 a2 nn (fu) (y0) (y1) Apg Apb 0 (y2) (y3) (y4) (y5) Aq2 (y6))) (Ap (call 5 []) fun Asv Arr=>Ae Arr<|Ab Asv fun Ath Asg=>A5 Ath fun Aqy=>Ae Asg<|some (Bb.mk [.sc (.bool Aqy)] []))):=by kernel_rfl
theorem Ey (fu:Nat)(call:Aj)(a0n:Nat)(a0:List PV)(a1:Int)(a2:ByteArray)(m0 nn:Nat)(y0:Int)(y1:Nat)(y2:ByteArray)(y3:Nat)(y4:Int)(y5:Nat)(y6 y7:Int)(y8 y9 E1:List PV):A6 fu call a0n a0 a1 a2 m0 (nn+1) y0 y1 y2 y3 y4 y5 y6 y7 y8 y9 E1=(Cg (decide (y4<(↑y3:Int))) (Au (decide (0<=y4)&&decide (y4<(↑y3:Int)))<|Eu 1 (List.getD y9 (0+Int.toNat y4*1) .top) fun Az3 As3 Azb=>Cg ((↑As3:Int) != 176) (some (Bb.mk [.sc (.bool false)] [])) (Cg (decide (y4>0)) (Aa (wrap .i64 (y4-1)) fun Akf=>Au (decide (0<=Akf)&&decide (Akf<(↑y3:Int)))<|Eu 1 (List.getD y9 (0+Int.toNat Akf*1) .top) fun Aza As4 Ao0=>Au (decide (Ao0.length=As4))<|C7 (bytesOf Ao0) fun An4=>Au (decide (0<=y4)&&decide (y4<(↑y3:Int)))<|Eu 1 (List.getD y9 (0+Int.toNat y4*1) .top) fun Ayq Aty Am3=>Au (decide (Am3.length=Aty))<|C7 (bytesOf Am3) fun Aoc=>Cg (!(Op.bytesLess (Array.toList (ByteArray.data (ByteArray.mk (List.toArray An4)))) (Array.toList (ByteArray.data (ByteArray.mk (List.toArray Aoc))))||Array.toList (ByteArray.data (ByteArray.mk (List.toArray An4)))==Array.toList (ByteArray.data (ByteArray.mk (List.toArray Aoc))))) (some (Bb.mk [.sc (.bool false)] [])) (Aa (wrap .i64 (y4+1)) fun Atm=>A6 fu call a0n a0 a1 a2 m0 (nn) (y0) (y1) (y2) (y3) Atm (y5) (y6) (y7) (y8) (y9) (E1))) (Aa (wrap .i64 (y4+1)) fun Auk=>A6 fu call a0n a0 a1 a2 m0 (nn) (y0) (y1) (y2) (y3) Auk (y5) (y6) (y7) (y8) (y9) (E1)))) (Au (decide (0+y1*3<=y8.length))<|Ap (call 14 [.lst false 3 y1 (List.take (y1*3) (List.drop 0 y8)),.sc (.string y2)]) fun Awl Auq=>Ae Auq<|Ab Awl fun Ars Awt=>Ai .i64 Ars fun Ahc=>Ab Awt fun Asp Awr=>A5 Asp fun As6=>Ae Awr<|Cg (!As6) (Aa (wrap .i64 (y7+1)) fun Aq8=>Bs fu call a0n a0 a1 a2 (m0) (y0) (y1) (y5) (y6) Aq8 (y8) (E1)) (Cg (decide (Ahc<0)) (some (Bb.mk [.sc (.bool false)] [])) (Cg (decide (Ahc>=(↑y1:Int))) (some (Bb.mk [.sc (.bool false)] [])) (Jf fu call a0n a0 a1 a2 m0 (fu) (y0) (y1) (y3) Ahc 0 (y5) (y6) (y7) (y8) (y9) (E1)))))):=by kernel_rfl
theorem Ek (fu:Nat)(call:Aj)(a0n:Nat)(a0:List PV)(a1:Int)(a2:ByteArray)(m0 nn:Nat)(y0:Int)(y1:Nat)(y2:List PV)(y3:ByteArray)(y4:Nat)(y5:Int)(y6:Nat)(y7 y8:Int)(y9 E1:List PV):Bk fu call a0n a0 a1 a2 m0 (nn+1) y0 y1 y2 y3 y4 y5 y6 y7 y8 y9 E1=(Cg (decide (y5<(↑y4:Int))) (Au (decide (0<=y5)&&decide (y5<(↑y4:Int)))<|Eu 1 (List.getD y9 (0+Int.toNat y5*1) .top) fun A1w Asy A1n=>Cg ((↑Asy:Int) != 176) (some (Bb.mk [.sc (.bool false)] [])) (Cg (decide (y5>0)) (Aa (wrap .i64 (y5-1)) fun Ahd=>Au (decide (0<=Ahd)&&decide (Ahd<(↑y4:Int)))<|Eu 1 (List.getD y9 (0+Int.toNat Ahd*1) .top) fun Az6 Atj Ank=>Au (decide (Ank.length=Atj))<|C7 (bytesOf Ank) fun Anh=>Au (decide (0<=y5)&&decide (y5<(↑y4:Int)))<|Eu 1 (List.getD y9 (0+Int.toNat y5*1) .top) fun A00 Ask Aoq=>Au (decide (Aoq.length=Ask))<|C7 (bytesOf Aoq) fun And=>Cg (!(Op.bytesLess (Array.toList (ByteArray.data (ByteArray.mk (List.toArray Anh)))) (Array.toList (ByteArray.data (ByteArray.mk (List.toArray And))))||Array.toList (ByteArray.data (ByteArray.mk (List.toArray Anh)))==Array.toList (ByteArray.data (ByteArray.mk (List.toArray And))))) (some (Bb.mk [.sc (.bool false)] [])) (Aa (wrap .i64 (y5+1)) fun As2=>Bk fu call a0n a0 a1 a2 m0 (nn) (y0) (y1) (y2) (y3) (y4) As2 (y6) (y7) (y8) (y9) (E1))) (Aa (wrap .i64 (y5+1)) fun Arh=>Bk fu call a0n a0 a1 a2 m0 (nn) (y0) (y1) (y2) (y3) (y4) Arh (y6) (y7) (y8) (y9) (E1)))) (Ap (call 14 [.lst false 3 y1 y2,.sc (.string y3)]) fun Au9 Avd=>Ae Avd<|Ab Au9 fun Aq0 Awy=>Ai .i64 Aq0 fun Aj4=>Ab Awy fun Axb Aqs=>A5 Axb fun Atp=>Ae Aqs<|Cg (!Atp) (Aa (wrap .i64 (y8+1)) fun Auh=>A4 fu call a0n a0 a1 a2 (m0) (y0) (y1) (y2) (y6) (y7) Auh (E1)) (Cg (decide (Aj4<0)) (some (Bb.mk [.sc (.bool false)] [])) (Cg (decide (Aj4>=(↑y1:Int))) (some (Bb.mk [.sc (.bool false)] [])) (B0 fu call a0n a0 a1 a2 m0 (fu) (y0) (y1) (y2) (y4) Aj4 0 (y6) (y7) (y8) (y9) (E1)))))):=by kernel_rfl
theorem Ej (fu:Nat)(call:Aj)(a0n:Nat)(a0:List PV)(a1:Int)(a2:ByteArray)(m0 nn:Nat)(y0:Int)(y1:Nat)(y2:List PV)(y3:Nat)(y4 y5:Int)(y6:Nat)(y7 y8:Int)(y9 E1:List PV):B0 fu call a0n a0 a1 a2 m0 (nn+1) y0 y1 y2 y3 y4 y5 y6 y7 y8 y9 E1=(Au (decide (0<=y4)&&decide (y4<(↑y1:Int)))<|Eu 11 (List.getD y2 (Int.toNat y4*3+2) .top) fun Az9 At4 Ayy=>Cg (decide (y5<(↑At4:Int))) (Au (decide (0<=y4)&&decide (y4<(↑y1:Int)))<|Eu 11 (List.getD y2 (Int.toNat y4*3+2) .top) fun A1l Atc Zz=>Au (decide (0<=y5)&&decide (y5<(↑Atc:Int)))<|Eu 1 (List.getD Zz (Int.toNat y5*11) .top) fun Ay7 Ard Ats=>Ai .i64 (List.getD Zz (Int.toNat y5*11+1) .top) fun Azr=>Ai .u64 (List.getD Zz (Int.toNat y5*11+1+1) .top) fun A0t=>Ai .u64 (List.getD Zz (Int.toNat y5*11+1+1+1) .top) fun A0y=>Ai .i64 (List.getD Zz (Int.toNat y5*11+1+1+1+1) .top) fun A0p=>A5 (List.getD Zz (Int.toNat y5*11+1+1+1+1+1) .top) fun Ayw=>Ai .u64 (List.getD Zz (Int.toNat y5*11+1+1+1+1+1+1) .top) fun A0w=>Eu 2 (List.getD Zz (Int.toNat y5*11+1+1+1+1+1+1+1) .top) fun A09 Ay9 Ays=>A5 (List.getD Zz (Int.toNat y5*11+1+1+1+1+1+1+1+1) .top) fun Aqq=>Ai .i64 (List.getD Zz (Int.toNat y5*11+1+1+1+1+1+1+1+1+1) .top) fun A0x=>Ai .i64 (List.getD Zz (Int.toNat y5*11+1+1+1+1+1+1+1+1+1+1) .top) fun Ay1=>Cg (!Aqq) (Au (decide (0+y3*1<=y9.length))<|Ap (call 15 [.lst false 1 y3 (List.take (y3*1) (List.drop 0 y9)),.lst false 1 Ard Ats]) fun Att Aq7=>Ae Aq7<|Ab Att fun Awi Arg=>A5 Awi fun Aqo=>Ae Arg<|Cg (!Aqo) (some (Bb.mk [.sc (.bool false)] [])) (Aa (wrap .i64 (y5+1)) fun Avb=>B0 fu call a0n a0 a1 a2 m0 (nn) (y0) (y1) (y2) (y3) (y4) Avb (y6) (y7) (y8) (y9) (E1))) (Aa (wrap .i64 (y5+1)) fun Aug=>B0 fu call a0n a0 a1 a2 m0 (nn) (y0) (y1) (y2) (y3) (y4) Aug (y6) (y7) (y8) (y9) (E1))) (Aa (wrap .i64 (y8+1)) fun Awp=>A4 fu call a0n a0 a1 a2 (m0) (y0) (y1) (y2) (y6) (y7) Awp (E1))):=by kernel_rfl
theorem Js (fu d a0n:Nat)(a0:List PV)(a1:Int)(a2:ByteArray):Af C0 prog fu (d+1) Fq [.lst false 1 a0n a0,.sc (.int .u64 a1),.sc (.string a2)]=(fun (call:Aj)=>Cg (decide ((↑(ByteArray.size a2):Int)>100)) (Ap (call 5 []) fun x1 x2=>Ae x2<|Ab x1 fun x3 x4=>A5 x3 fun x5=>Ae x4<|some (Bb.mk [.sc (.bool x5)] [])) (Ap (call 6 [.lst false 1 a0n a0]) fun x6 x7=>Ae x7<|Ab x6 fun x8 x9=>Qv x8 fun L3=>Ab L3 fun Oa K3=>Eu 1 Oa fun Rs Nw O8=>Ab K3 fun Ud T9=>Ai .i64 Ud fun Pt=>Ae T9<|Ae x9<|A7 fu call a0n a0 a1 a2 (fu) (a1) (a2) 0 0 Nw O8 Pt ([]))) (Af C0 prog fu d):=by kernel_rfl
end
section
open Go.IntKind (wrap)
set_option maxRecDepth 100000
def hd8 (k:Int):List Int:=E4 (AE (wrap .u64 (wrap .u64 k+1)) 5 (Bo [7,0]))
theorem QS (k:Int):(Ee k 176).take 8=hd8 k:=by
 unfold Ee Ox;rw[List.take_take,show (176+7) / 8=22 from rfl]
 show List.take _ (E4 _++_)=_;rw[show min 8 176=8 from rfl,List.take_append_of_le_length (by rw[Dk];omega)]
 exact Qq (by rw[Dk];omega)
def hdL:List (List Int):=[[197,64,155,198,170,125,34,202],[221,148,200,142,20,131,159,26],[69,26,32,252,78,211,163,141],[101,131,26,225,179,26,139,169],[69,1,220,26,163,80,8,249],[83,202,117,84,193,101,96,3],[205,179,9,183,229,45,85,40],[135,254,71,35,202,59,235,212],[152,182,166,118,242,69,198,206],[240,71,126,243,180,3,16,171],[222,229,238,69,3,130,28,195],[188,19,218,237,81,253,134,153],[158,148,185,108,23,238,157,179],[210,243,179,41,164,217,92,5],[117,229,27,205,94,215,200,251],[252,235,194,164,255,33,83,109],[26,248,239,18,247,16,28,1],[2,50,86,19,64,168,123,63],[239,1,113,176,102,5,253,196],[22,164,75,47,61,203,211,200]]
theorem Ae0:((List.range 20).map fun i:Nat=>hd8 (700+(i:Int)))=hdL:=by kernel_rfl
theorem Ado {i j:Nat}(hi:i<20)(hj:j<20)(h:hd8 (700+(i:Int))=hd8 (700+(j:Int))):i=j:=by
 have e:=Ae0
 have at_:∀k:Nat,k<20->(((List.range 20).map fun i:Nat=>hd8 (700+(i:Int))))[k]?=some (hd8 (700+(k:Int))):=fun k hk=>by
  rw[List.getElem?_map,List.getElem?_range hk];rfl
 have h1:=at_ i hi;have h2:=at_ j hj;rw[h,←h2,e] at h1;have nd:hdL.Nodup:=by decide
 have li:i<hdL.length:=by have:hdL.length=20:=rfl;omega
 exact (List.getElem?_inj li nd).1 h1
theorem YN:∀{a b:List Int},R1 a->R1 b->(a.map fun n:Int=>n.toNat.toUInt8)=(b.map fun n:Int=>n.toNat.toUInt8)->a=b
 |[],[],_,_,_=>rfl
 |[],_::_,_,_,h=>by simp at h
 |_::_,[],_,_,h=>by simp at h
 |x::a,y::b,ha,hb,h=>by
  simp only[List.map_cons,List.cons.injEq] at h;have h1:=congrArg UInt8.toNat h.1;obtain⟨x0,x1⟩:=ha x (by simp)
  obtain⟨y0,y1⟩:=hb y (by simp)
  have ex:x.toNat.toUInt8.toNat=x.toNat:=by rw[Nat.toUInt8,UInt8.toNat_ofNat'];omega
  have ey:y.toNat.toUInt8.toNat=y.toNat:=by rw[Nat.toUInt8,UInt8.toNat_ofNat'];omega
  rw[ex,ey] at h1;rw[YN (fun z hz=>ha z (by simp[hz])) (fun z hz=>hb z (by simp[hz])) h.2]
  congr 1
  omega
theorem SH {i j:Nat}(hi:i<20)(hj:j<20)(h:Q1 (Ee (700+(i:Int)) 176) (Ee (700+(j:Int)) 176)=true):i=j:=by
 have h1:=YN (FO _ _ _) (FO _ _ _) (beq_iff_eq.1 h);refine Ado hi hj ?_;rw[←QS,←QS];exact congrArg (List.take 8) h1
structure GX (l:List Cv) (i:Nat):Prop where
 lok:GV l
 four:∀a∈l,a.cr.length<=4
 ids:∀a∈l,∀c∈a.cr,∃j:Nat,j<i∧c.id=Ee (700+(j:Int)) 176
theorem GX.nil:GX [] 0:=⟨GV.nil,fun a h=>(by cases h),fun a h=>(by cases h)⟩
theorem GX.next {l:List Cv}{i:Nat}(h:GX l i):GX l (i+1):=⟨h.lok,h.four,fun a ha c hc=>by
 obtain⟨j,h1,h2⟩:=h.ids a ha c hc;exact⟨j,by omega,h2⟩⟩
theorem JF {id:List Int}:∀{r:List Sd}{i:Nat},(∀c∈r,Q1 c.id id=false)->QJ id i r=none
 |[],_,_=>rfl
 |c::r,i,h=>by
  unfold QJ;rw[h c (by simp),Lz (by simp)]
  exact JF fun x hx=>h x (by simp[hx])
theorem IL {id:List Int}:∀{l:List Cv}{i:Nat},(∀a∈l,∀c∈a.cr,Q1 c.id id=false)->AZ id i l=none
 |[],_,_=>rfl
 |a::l,i,h=>by
  unfold AZ;rw[JF (h a (by simp))]
  exact IL fun x hx=>h x (by simp[hx])
theorem GN {l:List Cv}{i:Nat}(h:GX l i)(hi:i<20){nm us:ByteArray}(h1:1<=nm.size)(h2:nm.size<=32){c:Sd}(hc:c.ok)(hid:c.id=Ee (700+(i:Int)) 176):
  ((Ry l nm us c).2=0∧GX (Ry l nm us c).1 (i+1))∨(Ry l nm us c).2=12:=by
 have hL:c.id.length=176:=by rw[hid];exact Fc _ _ _
 have hown:AZ c.id 0 l=none:=IL fun a ha x hx=>by
  obtain⟨j,hj,e⟩:=h.ids a ha x hx;rw[e,hid];cases hs:Q1 (Ee (700+(j:Int)) 176) (Ee (700+(i:Int)) 176)
  ·rfl
  ·have:=SH (by omega) hi hs
   omega
 have ok:=Adw (nm:=nm) (us:=us) h.lok hc
 revert ok
 unfold Ry;rw[Lz (by omega),Lz (by omega),hown,Lz (by simp)]
 split
 ·rename_i k hk;split
  ·rename_i a ha;split
   ·exact fun _=>.inr rfl
   ·rename_i h4;intro ok;refine .inl ⟨rfl,ok,fun x hx=>?_,fun x hx y hy=>?_⟩
    ·rcases List.mem_or_eq_of_mem_set hx with hx|rfl
     ·exact h.four x hx
     ·show (a.cr++[c]).length<=4;simp;omega
    ·rcases List.mem_or_eq_of_mem_set hx with hx|rfl
     ·exact h.next.ids x hx y hy
     ·rcases List.mem_append.1 (show y∈a.cr++[c] from hy) with hy|hy
      ·exact h.next.ids a (List.mem_of_getElem? ha) y hy
      ·rw[List.mem_singleton] at hy;subst hy;exact⟨i,by omega,hid⟩
  ·exact fun _=>.inr rfl
 ·split
  ·exact fun _=>.inr rfl
  ·intro ok;refine .inl ⟨rfl,ok,fun x hx=>?_,fun x hx y hy=>?_⟩
   ·rcases List.mem_append.1 hx with hx|hx
    ·exact h.four x hx
    ·rw[List.mem_singleton] at hx;subst hx;show [c].length<=4;simp
   ·rcases List.mem_append.1 hx with hx|hx
    ·exact h.next.ids x hx y hy
    ·rw[List.mem_singleton] at hx;subst hx;rw[show (⟨nm,us,[c]⟩:Cv).cr=[c] from rfl,List.mem_singleton] at hy
     subst hy;exact⟨i,by omega,hid⟩
theorem GM {x:List Int}:∀{r:List Sd}{s:List (List Int)},x∈s->x∈pick s r
 |[],_,h=>h
 |c::r,s,h=>by
  unfold pick;split
  ·exact GM (by simp[h])
  ·exact GM h
theorem Yf {c:Sd}:∀{r:List Sd}{s:List (List Int)},s.length+r.length<=4->c∈r->c.sus=false->c.id∈pick s r
 |[],_,_,h,_=>by cases h
 |x::r,s,hl,h,hs=>by
  simp only[MI] at hl;unfold pick;rcases List.mem_cons.1 h with rfl|h
  ·rw[Lw ⟨hs,by omega⟩]
   exact GM (by simp)
  ·split
   ·exact Yf (by simp;omega) h hs
   ·exact Yf (by omega) h hs
theorem Oz:∀{r:List Sd}{s:List (List Int)},(∀x∈s,x.length=176)->(∀c∈r,c.id.length=176)->∀x∈pick s r,x.length=176
 |[],_,h,_=>h
 |c::r,s,h,hr=>by
  unfold pick;split
  ·refine Oz (fun x hx=>?_) fun c hc=>hr c (by simp[hc])
   rcases List.mem_append.1 hx with hx|hx
   ·exact h x hx
   ·rw[List.mem_singleton] at hx;subst hx;exact hr c (by simp)
  ·exact Oz h fun c hc=>hr c (by simp[hc])
theorem Xs (key:Int):∀(k i:Nat),∀x∈dec key i k,x.length=176
 |0,_=>fun x hx=>by cases hx
 |k+1,i=>fun x hx=>by
  rcases List.mem_cons.1 hx with rfl|hx
  ·exact Fc _ _ _
  ·exact Xs key k _ x hx
structure Aii (A:List (List Int)):Prop where
 len:A.length=4
 each:∀x∈A,x.length=176
 asc:SJ A
theorem IC {l:List Cv}{i:Nat}(h:GX l i)(secret:Int)(nm:ByteArray):Aii (AL l secret nm):=by
 refine⟨?_,fun x hx=>?_,IF List.Pairwise.nil⟩
 ·unfold AL;rw[Ym,ZU (ZO _ _)];rfl
 ·unfold AL at hx;rw[Xv] at hx;rcases hx with hx|hx
  ·cases hx
  ·unfold TA at hx;rcases List.mem_append.1 hx with hx|hx
   ·unfold UA at hx;split at hx
    ·split at hx
     ·rename_i a ha;refine Oz (fun x hx=>by cases hx) (fun c hc=>?_) x hx
      obtain⟨j,_,e⟩:=h.ids a (List.mem_of_getElem? ha) c hc;rw[e];exact Fc _ _ _
     ·cases hx
    ·cases hx
   ·exact Xs _ _ _ x hx
theorem Aej {l:List Cv}{i k:Nat}(h:GX l i)(secret:Int){nm:ByteArray}{a:Cv}(hf:BL nm 0 l=some k)(ha:l[k]?=some a) {c:Sd}(hc:c∈a.cr)(hs:c.sus=false):c.id∈AL l secret nm:=by
 unfold AL;rw[Xv];refine .inr ?_;unfold TA UA;rw[hf];dsimp only;rw[ha];exact List.mem_append.2 (.inl (Yf (by have:=h.four a (List.mem_of_getElem? ha);simp;omega) hc hs))
end
section
open Go.Proofs.Try (prog)
open Go.IntKind (wrap)
set_option maxRecDepth 100000
abbrev nm5 (other:ByteArray):List PV:=[PV.sc (Value.string (ByteArray.mk #[(97:UInt8),(108:UInt8),(105:UInt8),(99:UInt8),(101:UInt8)])),PV.sc (Value.string (ByteArray.mk #[(98:UInt8),(111:UInt8),(98:UInt8)])),PV.sc (Value.string (ByteArray.mk #[(99:UInt8),(97:UInt8),(114:UInt8),(111:UInt8),(108:UInt8)])),PV.sc (Value.string (ByteArray.mk #[(110:UInt8),(111:UInt8),(98:UInt8),(111:UInt8),(100:UInt8),(121:UInt8)])),PV.sc (Value.string other)]
theorem XF {other:ByteArray}(ho:other.size<=500){j:Nat}(hj:j<5):∃nm:ByteArray,nm.size<=500∧List.getD (nm5 other) ((0:Nat)+j*(1:Nat)) PV.top=.sc (.string nm):=by
 have:j=0∨j=1∨j=2∨j=3∨j=4:=by omega
 rcases this with rfl|rfl|rfl|rfl|rfl
 ·exact⟨_,by decide,rfl⟩
 ·exact⟨_,by decide,rfl⟩
 ·exact⟨_,by decide,rfl⟩
 ·exact⟨_,by decide,rfl⟩
 ·exact⟨other,ho,rfl⟩
theorem Za {v:Int}(h0:0<=v)(h1:v<3):∃nm:ByteArray,1<=nm.size∧nm.size<=32∧∀{fu d:Nat},Af C0 prog fu (d+2) Kp [.sc (.int .i64 v)]=some ⟨[.sc (.string nm)],[]⟩:=by
 have:v=0∨v=1∨v=2:=by omega
 rcases this with rfl|rfl|rfl
 ·refine⟨ByteArray.mk #[(97:UInt8),(108:UInt8),(105:UInt8),(99:UInt8),(101:UInt8)],by decide,by decide,fun {fu d}=>?_⟩
  rw[Gs];have m:=EZ (fu:=fu) (d:=d) (v:=0) (n:=5) (by omega) (by omega) (by omega)
  simp (disch:=omega) only[Ep,m];rfl
 ·refine⟨ByteArray.mk #[(98:UInt8),(111:UInt8),(98:UInt8)],by decide,by decide,fun {fu d}=>?_⟩
  rw[Gs];have m:=EZ (fu:=fu) (d:=d) (v:=1) (n:=5) (by omega) (by omega) (by omega)
  simp (disch:=omega) only[Ep,m];rfl
 ·refine⟨ByteArray.mk #[(99:UInt8),(97:UInt8),(114:UInt8),(111:UInt8),(108:UInt8)],by decide,by decide,fun {fu d}=>?_⟩
  rw[Gs];have m:=EZ (fu:=fu) (d:=d) (v:=2) (n:=5) (by omega) (by omega) (by omega)
  simp (disch:=omega) only[Ep,m];rfl
section
variable {fu d:Nat}
theorem TX {n0 n1:Nat}{c0 c1:List PV}{call:Aj}{A:List (List Int)} {id:List Int}(hA:A.length<=1000):∀(r:List (List Int)) (t nn:Nat),A.drop t=r->r.length<nn->t<=A.length->id∈r ->
  De fu call n0 c0 n1 c1 nn A.length (D5 A) id.length (Aq .u8 id) (t:Int)=some ⟨[.sc (.bool true)],[]⟩:=by
 intro r
 induction r with
 |nil=>
  intro t nn hd hnn ht h;cases h
 |cons x r ih=>
  intro t nn hd hnn ht h;obtain⟨hlt,hget,hd'⟩:=Fj hd;obtain⟨nn,rfl⟩:∃k,nn=k+1:=⟨nn-1,by omega⟩
  rw[Kk];have ax:=M2 hget;have n1:Int.toNat (t:Int)=t:=S3 _;have w1:wrap .i64 ((t:Int)+1)=((t+1:Nat):Int):=by rw[wrap_i64 (by omega) (by omega)];omega
  have l1:=A1 .u8 x;have l2:=A1 .u8 id;have b1:=Dt x;have b2:=Dt id;have eB:(Array.toList (ByteArray.data (ByteArray.mk (List.toArray (x.map fun n:Int=>n.toNat.toUInt8))))==Array.toList (ByteArray.data (ByteArray.mk (List.toArray (id.map fun n:Int=>n.toNat.toUInt8)))))=Q1 x id:=rfl
  cases hs:Q1 x id
  ·rw[hs] at eB
   have hr:id∈r:=by
    rcases List.mem_cons.1 h with rfl|h
    ·unfold Q1 at hs;simp at hs
    ·exact h
   have q:=ih (t+1) nn hd' (by simp at hnn;omega) (by omega) hr
   try unfold Aa
   repeat first
    |((with_reducible first|apply B7|apply Bi|apply B5|apply Br|apply Ck|apply Da|apply Du|apply Ch|apply Bw|apply Cn|apply Bj|apply B8|apply B9);· first|with_reducible rfl|(simp (disch:=omega) only[gT,n1,Fx,ax,l1,l2,b1,b2,eB,w1,q]<;>first|with_reducible rfl|omega)|omega)
    |(with_reducible apply B6;· first|with_reducible rfl|(simp (disch:=omega) only[gF,n1,Fx,ax,l1,l2,b1,b2,eB,w1,q]<;>omega))
   try simp (disch:=omega) only[n1,Fx,ax,l1,l2,b1,b2,eB,w1,q]
  ·rw[hs] at eB
   try unfold Aa
   repeat first
    |((with_reducible first|apply B7|apply Bi|apply B5|apply Br|apply Ck|apply Da|apply Du|apply Ch|apply Bw|apply Cn|apply Bj|apply B8|apply B9);· first|with_reducible rfl|(simp (disch:=omega) only[gT,n1,Fx,ax,l1,l2,b1,b2,eB]<;>first|with_reducible rfl|omega)|omega)
    |(with_reducible apply B6;· first|with_reducible rfl|(simp (disch:=omega) only[gF,n1,Fx,ax,l1,l2,b1,b2,eB]<;>omega))
   try simp (disch:=omega) only[n1,Fx,ax,l1,l2,b1,b2,eB]
theorem Ad0 {A:List (List Int)} {id:List Int}(hA:A.length<=1000)(hf:A.length<fu)(h:id∈A):Af C0 prog fu (d+1) Gz [.lst false 1 A.length (D5 A),.lst false 1 id.length (Aq .u8 id)]=some ⟨[.sc (.bool true)],[]⟩:=by
 rw[Mp];exact TX hA A 0 fu rfl hf (by omega) h
theorem XU {A:List (List Int)} (h:SJ A){t:Nat}{x y:List Int}(hx:A[t]?=some x) (hy:A[t+1]?=some y):(!(Op.bytesLess (Array.toList (ByteArray.data (ByteArray.mk (List.toArray (x.map fun n:Int=>n.toNat.toUInt8))))) (Array.toList (ByteArray.data (ByteArray.mk (List.toArray (y.map fun n:Int=>n.toNat.toUInt8)))))||Array.toList (ByteArray.data (ByteArray.mk (List.toArray (x.map fun n:Int=>n.toNat.toUInt8))))==Array.toList (ByteArray.data (ByteArray.mk (List.toArray (y.map fun n:Int=>n.toNat.toUInt8))))))=false:=by
 have e:LD x y=true:=by
  obtain⟨lx,ex⟩:=List.getElem?_eq_some_iff.1 hx;obtain⟨ly,ey⟩:=List.getElem?_eq_some_iff.1 hy;have:=List.pairwise_iff_getElem.1 h t (t+1) lx ly (by omega)
  rw[ex,ey] at this;exact this
 show (!LD x y)=false;rw[e];rfl
theorem Adq (hfu:2000<=fu){a0n:Nat}{a0:List PV}{a1:Int}{a2:ByteArray}{secret:Int}{other:ByteArray}{m0 j:Nat}{nm:ByteArray}{A:List (List Int)} {l:List Cv}(hA:Aii A)
  (hE:∀nn,1<nn->Bk fu (Af C0 prog fu (d+8)) a0n a0 a1 a2 m0 nn secret l.length (Cq l) nm 4 ((4:Nat):Int) 5 5 (j:Int) (D5 A) (nm5 other)=some ⟨[.sc (.bool true)],[]⟩):∀(k t nn:Nat),t+k=4->k+1<nn ->
  Bk fu (Af C0 prog fu (d+8)) a0n a0 a1 a2 m0 nn secret l.length (Cq l) nm 4 (t:Int) 5 5 (j:Int) (D5 A) (nm5 other)=some ⟨[.sc (.bool true)],[]⟩:=by
 have lA:=hA.len;have lR:=Hc A;intro k
 induction k with
 |zero=>
  intro t nn h1 h2;obtain rfl:t=4:=by omega
  exact hE nn (by omega)
 |succ k ih=>
  intro t nn h1 h2;obtain⟨nn,rfl⟩:∃k,nn=k+1:=⟨nn-1,by omega⟩
  have q:=ih (t+1) nn (by omega) (by omega)
  rw[Ek];obtain⟨x,hx⟩:∃x,A[t]?=some x:=⟨_,List.getElem?_eq_getElem (by omega)⟩
  have ax:=M2 hx;have l0:=hA.each x (List.mem_of_getElem? hx);have l1:=A1 .u8 x;have b1:=Dt x;rw[l0] at ax l1;have n1:Int.toNat (t:Int)=t:=S3 _;have w1:wrap .i64 ((t:Int)+1)=((t+1:Nat):Int):=by rw[wrap_i64 (by omega) (by omega)];omega
  have bl:(((176:Nat):Int) != 176)=false:=rfl;by_cases ht:t=0
  ·subst ht
   try unfold Aa
   repeat first
    |((with_reducible first|apply B7|apply Bi|apply B5|apply Br|apply Ck|apply Da|apply Du|apply Ch|apply Bw|apply Cn|apply Bj|apply B8|apply B9);· first|with_reducible rfl|(simp (disch:=omega) only[gT,n1,Fx,Fv,ax,bl,w1,q]<;>first|with_reducible rfl|omega)|omega)
    |(with_reducible apply B6;· first|with_reducible rfl|(simp (disch:=omega) only[gF,n1,Fx,Fv,ax,bl,w1,q]<;>omega))
   try simp (disch:=omega) only[n1,Fx,Fv,ax,bl,w1,q]
  ·obtain⟨s,rfl⟩:∃s,t=s+1:=⟨t-1,by omega⟩
   obtain⟨y,hy⟩:∃y,A[s]?=some y:=⟨_,List.getElem?_eq_getElem (by omega)⟩
   have ay:=M2 hy;have k0:=hA.each y (List.mem_of_getElem? hy);have k1:=A1 .u8 y;have b2:=Dt y;rw[k0] at ay k1;have w0:wrap .i64 (((s+1:Nat):Int)-1)=(s:Int):=by rw[wrap_i64 (by omega) (by omega)];omega
   have n0:Int.toNat (s:Int)=s:=S3 _;have bs:=XU hA.asc hy hx
   try unfold Aa
   repeat first
    |((with_reducible first|apply B7|apply Bi|apply B5|apply Br|apply Ck|apply Da|apply Du|apply Ch|apply Bw|apply Cn|apply Bj|apply B8|apply B9);· first|with_reducible rfl|(simp (disch:=omega) only[gT,n0,n1,w0,Fx,Fv,ax,ay,bl,l1,k1,b1,b2,bs,w1,q]<;>first|with_reducible rfl|omega)|omega)
    |(with_reducible apply B6;· first|with_reducible rfl|(simp (disch:=omega) only[gF,n0,n1,w0,Fx,Fv,ax,ay,bl,l1,k1,b1,b2,bs,w1,q]<;>omega))
   try simp (disch:=omega) only[n0,n1,w0,Fx,Fv,ax,ay,bl,l1,k1,b1,b2,bs,w1,q]
theorem Ai6 (hfu:2000<=fu){a0n:Nat}{a0:List PV}{a1:Int}{a2:ByteArray}{secret:Int}{other:ByteArray}{m0 j:Nat}{nm:ByteArray}{A:List (List Int)} (hA:Aii A)
  (hE:∀nn,1<nn->A6 fu (Af C0 prog fu (d+8)) a0n a0 a1 a2 m0 nn secret 0 nm 4 ((4:Nat):Int) 5 5 (j:Int) [] (D5 A) (nm5 other)=some ⟨[.sc (.bool true)],[]⟩):∀(k t nn:Nat),t+k=4->k+1<nn ->
  A6 fu (Af C0 prog fu (d+8)) a0n a0 a1 a2 m0 nn secret 0 nm 4 (t:Int) 5 5 (j:Int) [] (D5 A) (nm5 other)=some ⟨[.sc (.bool true)],[]⟩:=by
 have lA:=hA.len;have lR:=Hc A;intro k
 induction k with
 |zero=>
  intro t nn h1 h2;obtain rfl:t=4:=by omega
  exact hE nn (by omega)
 |succ k ih=>
  intro t nn h1 h2;obtain⟨nn,rfl⟩:∃k,nn=k+1:=⟨nn-1,by omega⟩
  have q:=ih (t+1) nn (by omega) (by omega)
  rw[Ey];obtain⟨x,hx⟩:∃x,A[t]?=some x:=⟨_,List.getElem?_eq_getElem (by omega)⟩
  have ax:=M2 hx;have l0:=hA.each x (List.mem_of_getElem? hx);have l1:=A1 .u8 x;have b1:=Dt x;rw[l0] at ax l1;have n1:Int.toNat (t:Int)=t:=S3 _;have w1:wrap .i64 ((t:Int)+1)=((t+1:Nat):Int):=by rw[wrap_i64 (by omega) (by omega)];omega
  have bl:(((176:Nat):Int) != 176)=false:=rfl;by_cases ht:t=0
  ·subst ht
   try unfold Aa
   repeat first
    |((with_reducible first|apply B7|apply Bi|apply B5|apply Br|apply Ck|apply Da|apply Du|apply Ch|apply Bw|apply Cn|apply Bj|apply B8|apply B9);· first|with_reducible rfl|(simp (disch:=omega) only[gT,n1,Fx,Fv,ax,bl,w1,q]<;>first|with_reducible rfl|omega)|omega)
    |(with_reducible apply B6;· first|with_reducible rfl|(simp (disch:=omega) only[gF,n1,Fx,Fv,ax,bl,w1,q]<;>omega))
   try simp (disch:=omega) only[n1,Fx,Fv,ax,bl,w1,q]
  ·obtain⟨s,rfl⟩:∃s,t=s+1:=⟨t-1,by omega⟩
   obtain⟨y,hy⟩:∃y,A[s]?=some y:=⟨_,List.getElem?_eq_getElem (by omega)⟩
   have ay:=M2 hy;have k0:=hA.each y (List.mem_of_getElem? hy);have k1:=A1 .u8 y;have b2:=Dt y;rw[k0] at ay k1;have w0:wrap .i64 (((s+1:Nat):Int)-1)=(s:Int):=by rw[wrap_i64 (by omega) (by omega)];omega
   have n0:Int.toNat (s:Int)=s:=S3 _;have bs:=XU hA.asc hy hx
   try unfold Aa
   repeat first
    |((with_reducible first|apply B7|apply Bi|apply B5|apply Br|apply Ck|apply Da|apply Du|apply Ch|apply Bw|apply Cn|apply Bj|apply B8|apply B9);· first|with_reducible rfl|(simp (disch:=omega) only[gT,n0,n1,w0,Fx,Fv,ax,ay,bl,l1,k1,b1,b2,bs,w1,q]<;>first|with_reducible rfl|omega)|omega)
    |(with_reducible apply B6;· first|with_reducible rfl|(simp (disch:=omega) only[gF,n0,n1,w0,Fx,Fv,ax,ay,bl,l1,k1,b1,b2,bs,w1,q]<;>omega))
   try simp (disch:=omega) only[n0,n1,w0,Fx,Fv,ax,ay,bl,l1,k1,b1,b2,bs,w1,q]
theorem TQ (hfu:2000<=fu){a0n:Nat}{a0:List PV}{a1:Int}{a2:ByteArray}{secret:Int}{other:ByteArray}{m0 j k:Nat}{nm:ByteArray}{l:List Cv}{A:List (List Int)} (lA:A.length=4){a:Cv}(hl:l.length<=16)(ha:l[k]?=some a) (hj:j<=5)(h4:a.cr.length<=4)(hin:∀c∈a.cr,c.sus=false->c.id∈A)
  (hE:A4 fu (Af C0 prog fu (d+8)) a0n a0 a1 a2 m0 secret l.length (Cq l) 5 5 ((j+1:Nat):Int) (nm5 other)=some ⟨[.sc (.bool true)],[]⟩):∀(r:List Sd)(t nn:Nat),a.cr.drop t=r->r.length<nn->t<=a.cr.length ->
  B0 fu (Af C0 prog fu (d+8)) a0n a0 a1 a2 m0 nn secret l.length (Cq l) 4 (k:Int) (t:Int) 5 5 (j:Int) (D5 A) (nm5 other)=some ⟨[.sc (.bool true)],[]⟩:=by
 have lR:=Hc A;have tR:List.take 4 (D5 A)=D5 A:=Qq (by omega)
 have g2:(Cq l).getD (k*3+2) .top=.lst false 11 a.cr.length (Dg a.cr):=H6 ha (j:=2) (by omega)
 have hk:=I6 ha;have nk:Int.toNat (k:Int)=k:=S3 _;have wj:wrap .i64 ((j:Int)+1)=((j+1:Nat):Int):=by rw[wrap_i64 (by omega) (by omega)];omega
 intro r
 induction r with
 |nil=>
  intro t nn hd hnn ht;have:=drop_nil hd;obtain⟨nn,rfl⟩:∃k,nn=k+1:=⟨nn-1,by omega⟩
  rw[Ej]
  try unfold Aa
  repeat first
   |((with_reducible first|apply B7|apply Bi|apply B5|apply Br|apply Ck|apply Da|apply Du|apply Ch|apply Bw|apply Cn|apply Bj|apply B8|apply B9);· first|with_reducible rfl|(simp (disch:=omega) only[gT,nk,g2,wj,hE]<;>first|with_reducible rfl|omega)|omega)
   |(with_reducible apply B6;· first|with_reducible rfl|(simp (disch:=omega) only[gF,nk,g2,wj,hE]<;>omega))
  try simp (disch:=omega) only[nk,g2,wj,hE]
 |cons x r ih=>
  intro t nn hd hnn ht;obtain⟨hlt,hget,hd'⟩:=Fj hd;obtain⟨nn,rfl⟩:∃k,nn=k+1:=⟨nn-1,by omega⟩
  rw[Ej];have g0:(Dg a.cr).getD (t*11) .top=.lst false 1 x.id.length (Aq .u8 x.id):=Dl hget (j:=0) (by omega)
  have g1:(Dg a.cr).getD (t*11+1) .top=.sc (.int .i64 x.ht):=Dl hget (j:=1) (by omega)
  have g2':(Dg a.cr).getD (t*11+1+1) .top=.sc (.int .u64 x.root):=Dl hget (j:=2) (by omega)
  have g3:(Dg a.cr).getD (t*11+1+1+1) .top=.sc (.int .u64 x.model):=Dl hget (j:=3) (by omega)
  have g4:(Dg a.cr).getD (t*11+1+1+1+1) .top=.sc (.int .i64 x.fmt):=Dl hget (j:=4) (by omega)
  have g5:(Dg a.cr).getD (t*11+1+1+1+1+1) .top=.sc (.bool x.sh):=Dl hget (j:=5) (by omega)
  have g6:(Dg a.cr).getD (t*11+1+1+1+1+1+1) .top=.sc (.int .u64 x.used):=Dl hget (j:=6) (by omega)
  have g7:(Dg a.cr).getD (t*11+1+1+1+1+1+1+1) .top=.lst false 2 x.rg.length (Km x.rg):=Dl hget (j:=7) (by omega)
  have g8:(Dg a.cr).getD (t*11+1+1+1+1+1+1+1+1) .top=.sc (.bool x.sus):=Dl hget (j:=8) (by omega)
  have g9:(Dg a.cr).getD (t*11+1+1+1+1+1+1+1+1+1) .top=.sc (.int .i64 x.since):=Dl hget (j:=9) (by omega)
  have g10:(Dg a.cr).getD (t*11+1+1+1+1+1+1+1+1+1+1) .top=.sc (.int .i64 x.last):=Dl hget (j:=10) (by omega)
  have n1:Int.toNat (t:Int)=t:=S3 _;have w1:wrap .i64 ((t:Int)+1)=((t+1:Nat):Int):=by rw[wrap_i64 (by omega) (by omega)];omega
  have q:=ih (t+1) nn hd' (by simp at hnn;omega) (by omega)
  cases hs:x.sus
  ·have ct:=Ad0 (fu:=fu) (d:=d+7) (A:=A) (by omega) (by omega) (hin x (List.mem_of_getElem? hget) hs)
   rw[lA] at ct
   try unfold Aa
   repeat first
    |((with_reducible first|apply B7|apply Bi|apply B5|apply Br|apply Ck|apply Da|apply Du|apply Ch|apply Bw|apply Cn|apply Bj|apply B8|apply B9);· first|with_reducible rfl|(simp (disch:=omega) only[gT,nk,g2,n1,g0,g1,g2',g3,g4,g5,g6,g7,g8,g9,g10,hs,VR,lR,lA,Fv,Fx,Ik,tR,ct,VP,w1,q]<;>first|with_reducible rfl|omega)|omega)
    |(with_reducible apply B6;· first|with_reducible rfl|(simp (disch:=omega) only[gF,nk,g2,n1,g0,g1,g2',g3,g4,g5,g6,g7,g8,g9,g10,hs,VR,lR,lA,Fv,Fx,Ik,tR,ct,VP,w1,q]<;>omega))
   try simp (disch:=omega) only[nk,g2,n1,g0,g1,g2',g3,g4,g5,g6,g7,g8,g9,g10,hs,VR,lR,lA,Fv,Fx,Ik,tR,ct,VP,w1,q]
  ·skip
   try unfold Aa
   repeat first
    |((with_reducible first|apply B7|apply Bi|apply B5|apply Br|apply Ck|apply Da|apply Du|apply Ch|apply Bw|apply Cn|apply Bj|apply B8|apply B9);· first|with_reducible rfl|(simp (disch:=omega) only[gT,nk,g2,n1,g0,g1,g2',g3,g4,g5,g6,g7,g8,g9,g10,hs,VP,w1,q]<;>first|with_reducible rfl|omega)|omega)
    |(with_reducible apply B6;· first|with_reducible rfl|(simp (disch:=omega) only[gF,nk,g2,n1,g0,g1,g2',g3,g4,g5,g6,g7,g8,g9,g10,hs,VP,w1,q]<;>omega))
   try simp (disch:=omega) only[nk,g2,n1,g0,g1,g2',g3,g4,g5,g6,g7,g8,g9,g10,hs,VP,w1,q]
theorem Xp (hfu:2000<=fu){a0n:Nat}{a0:List PV}{a1:Int}{a2:ByteArray}{secret:Int}{other:ByteArray}(ho:other.size<=500){l:List Cv}{i:Nat}(hl:GX l i):∀(k j nn:Nat),j+k=5->k<nn->A4 fu (Af C0 prog fu (d+8)) a0n a0 a1 a2 nn secret l.length (Cq l) 5 5 (j:Int) (nm5 other)=some ⟨[.sc (.bool true)],[]⟩:=by
 have aw:=Y6 (fu:=fu) (d:=d) hfu;have hln:=hl.lok.len;intro k
 induction k with
 |zero=>
  intro j nn h1 h2;obtain⟨nn,rfl⟩:∃k,nn=k+1:=⟨nn-1,by omega⟩
  rw[El]
  try unfold Aa
  repeat first
   |((with_reducible first|apply B7|apply Bi|apply B5|apply Br|apply Ck|apply Da|apply Du|apply Ch|apply Bw|apply Cn|apply Bj|apply B8|apply B9);· first|with_reducible rfl|(simp (disch:=omega) only[gT,aw]<;>first|with_reducible rfl|omega)|omega)
   |(with_reducible apply B6;· first|with_reducible rfl|(simp (disch:=omega) only[gF,aw]<;>omega))
  try simp (disch:=omega) only[aw]
 |succ k ih=>
  intro j nn h1 h2;obtain⟨nn,rfl⟩:∃k,nn=k+1:=⟨nn-1,by omega⟩
  have q:=ih (j+1) nn (by omega) (by omega)
  rw[El];obtain⟨nm,hnm,hN⟩:=XF ho (j:=j) (by omega)
  have n1:Int.toNat (j:Int)=j:=S3 _;have wj:wrap .i64 ((j:Int)+1)=((j+1:Nat):Int):=by rw[wrap_i64 (by omega) (by omega)];omega
  have al:=Rd (fu:=fu) (d:=d+1) hfu (l:=l) (by omega) hl.lok.ok secret hnm
  have sA:=IC hl secret nm;have hin:=fun k' (a:Cv) (hf:BL nm 0 l=some k') (ha:l[k']?=some a) c hc hs=>Aej hl secret hf ha (c:=c) hc hs
  obtain⟨A,hA⟩:∃A,AL l secret nm=A:=⟨_,rfl⟩;rw[hA] at al sA;simp only[hA] at hin;have f:=P3 (xs:=Hu) (fu:=fu) (d:=d+7) (l:=l) (nm:=nm) (by omega) (by omega)
  have c:=Adq (fu:=fu) (d:=d) hfu (a0n:=a0n) (a0:=a0) (a1:=a1) (a2:=a2) (secret:=secret) (other:=other) (m0:=nn) (j:=j) (nm:=nm) (A:=A) (l:=l) sA (fun n2 hn2=>by
   obtain⟨n2,rfl⟩:∃k,n2=k+1:=⟨n2-1,by omega⟩
   rw[Ek];have h44:decide (((4:Nat):Int)<((4:Nat):Int))=false:=rfl;cases hf:BL nm 0 l with
   |none=>
    rw[hf] at f;simp only[Nr] at f
    try unfold Aa
    repeat first
     |((with_reducible first|apply B7|apply Bi|apply B5|apply Br|apply Ck|apply Da|apply Du|apply Ch|apply Bw|apply Cn|apply Bj|apply B8|apply B9);· first|with_reducible rfl|(simp (disch:=omega) only[gT,h44,f,VR,wj,q]<;>first|with_reducible rfl|omega)|omega)
     |(with_reducible apply B6;· first|with_reducible rfl|(simp (disch:=omega) only[gF,h44,f,VR,wj,q]<;>omega))
    try simp (disch:=omega) only[h44,f,VR,wj,q]
   |some k'=>
    rw[hf] at f;simp only[Nr] at f;obtain⟨_,PP,a,h3,_⟩:=Vf hf;rw[Nat.sub_zero] at h3;have hkl:=I6 h3;have cl:=TQ (fu:=fu) (d:=d) hfu (a0n:=a0n) (a0:=a0) (a1:=a1) (a2:=a2) (secret:=secret) (other:=other) (m0:=nn) (j:=j) (nm:=nm) sA.len hln h3 (by omega) (hl.four a (List.mem_of_getElem? h3)) (hin k' a hf h3) q a.cr 0 fu rfl (by have:=hl.four a (List.mem_of_getElem? h3);omega) (by omega)
    have e0:((0:Nat):Int)=0:=rfl;rw[e0] at cl
    try unfold Aa
    repeat first
     |((with_reducible first|apply B7|apply Bi|apply B5|apply Br|apply Ck|apply Da|apply Du|apply Ch|apply Bw|apply Cn|apply Bj|apply B8|apply B9);· first|with_reducible rfl|(simp (disch:=omega) only[gT,h44,f,VP,cl]<;>first|with_reducible rfl|omega)|omega)
     |(with_reducible apply B6;· first|with_reducible rfl|(simp (disch:=omega) only[gF,h44,f,VP,cl]<;>omega))
    try simp (disch:=omega) only[h44,f,VP,cl]) 4 0 fu rfl (by omega)
  have e0:((0:Nat):Int)=0:=rfl;rw[e0] at c;have b4:(((4:Nat):Int) != 4)=false:=rfl
  try unfold Aa
  repeat first
   |((with_reducible first|apply B7|apply Bi|apply B5|apply Br|apply Ck|apply Da|apply Du|apply Ch|apply Bw|apply Cn|apply Bj|apply B8|apply B9);· first|with_reducible rfl|(simp (disch:=omega) only[gT,n1,hN,al,b4,c]<;>first|with_reducible rfl|omega)|omega)
   |(with_reducible apply B6;· first|with_reducible rfl|(simp (disch:=omega) only[gF,n1,hN,al,b4,c]<;>omega))
  try simp (disch:=omega) only[n1,hN,al,b4,c]
theorem Uo (hfu:2000<=fu){a0n:Nat}{a0:List PV}{a1:Int}{a2:ByteArray}{secret:Int}{other:ByteArray}(ho:other.size<=500):∀(k j nn:Nat),j+k=5->k<nn->Co fu (Af C0 prog fu (d+8)) a0n a0 a1 a2 nn secret 0 5 5 (j:Int) [] (nm5 other)=some ⟨[.sc (.bool true)],[]⟩∧Bs fu (Af C0 prog fu (d+8)) a0n a0 a1 a2 nn secret 0 5 5 (j:Int) [] (nm5 other)=some ⟨[.sc (.bool true)],[]⟩:=by
 have aw:=Y6 (fu:=fu) (d:=d) hfu;intro k
 induction k with
 |zero=>
  intro j nn h1 h2;obtain⟨nn,rfl⟩:∃k,nn=k+1:=⟨nn-1,by omega⟩
  rw[E0,Ea];refine⟨?_,?_⟩
  ·skip
   try unfold Aa
   repeat first
    |((with_reducible first|apply B7|apply Bi|apply B5|apply Br|apply Ck|apply Da|apply Du|apply Ch|apply Bw|apply Cn|apply Bj|apply B8|apply B9);· first|with_reducible rfl|(simp (disch:=omega) only[gT,aw]<;>first|with_reducible rfl|omega)|omega)
    |(with_reducible apply B6;· first|with_reducible rfl|(simp (disch:=omega) only[gF,aw]<;>omega))
   try simp (disch:=omega) only[aw]
  ·skip
   try unfold Aa
   repeat first
    |((with_reducible first|apply B7|apply Bi|apply B5|apply Br|apply Ck|apply Da|apply Du|apply Ch|apply Bw|apply Cn|apply Bj|apply B8|apply B9);· first|with_reducible rfl|(simp (disch:=omega) only[gT,aw]<;>first|with_reducible rfl|omega)|omega)
    |(with_reducible apply B6;· first|with_reducible rfl|(simp (disch:=omega) only[gF,aw]<;>omega))
   try simp (disch:=omega) only[aw]
 |succ k ih=>
  intro j nn h1 h2;obtain⟨nn,rfl⟩:∃k,nn=k+1:=⟨nn-1,by omega⟩
  have q:=(ih (j+1) nn (by omega) (by omega)).2
  rw[E0,Ea];obtain⟨nm,hnm,hN⟩:=XF ho (j:=j) (by omega)
  have n1:Int.toNat (j:Int)=j:=S3 _;have wj:wrap .i64 ((j:Int)+1)=((j+1:Nat):Int):=by rw[wrap_i64 (by omega) (by omega)];omega
  have al:=Rd (fu:=fu) (d:=d+1) hfu (l:=[]) (by simp) GV.nil.ok secret hnm
  have sA:=IC GX.nil secret nm;obtain⟨A,hA⟩:∃A,AL [] secret nm=A:=⟨_,rfl⟩;rw[hA] at al sA;have f:=P3 (xs:=Hu) (fu:=fu) (d:=d+7) (l:=[]) (nm:=nm) (by simp) (by simp;omega)
  simp only[N6,Cq,List.flatMap_nil,BL,Nr] at al f
  have c:=Ai6 (fu:=fu) (d:=d) hfu (a0n:=a0n) (a0:=a0) (a1:=a1) (a2:=a2) (secret:=secret) (other:=other) (m0:=nn) (j:=j) (nm:=nm) (A:=A) sA (fun n2 hn2=>by
   obtain⟨n2,rfl⟩:∃k,n2=k+1:=⟨n2-1,by omega⟩
   rw[Ey];have h44:decide (((4:Nat):Int)<((4:Nat):Int))=false:=rfl
   try unfold Aa
   repeat first
    |((with_reducible first|apply B7|apply Bi|apply B5|apply Br|apply Ck|apply Da|apply Du|apply Ch|apply Bw|apply Cn|apply Bj|apply B8|apply B9);· first|with_reducible rfl|(simp (disch:=omega) only[gT,h44,f,VR,wj,q,Fv,Nat.zero_mul,Ik,List.take_nil,N6]<;>first|with_reducible rfl|omega)|omega)
    |(with_reducible apply B6;· first|with_reducible rfl|(simp (disch:=omega) only[gF,h44,f,VR,wj,q,Fv,Nat.zero_mul,Ik,List.take_nil,N6]<;>omega))
   try simp (disch:=omega) only[h44,f,VR,wj,q,Fv,Nat.zero_mul,Ik,List.take_nil,N6]) 4 0 fu rfl (by omega)
  have e0:((0:Nat):Int)=0:=rfl;rw[e0] at c;have b4:(((4:Nat):Int) != 4)=false:=rfl;refine⟨?_,?_⟩
  ·skip
   try unfold Aa
   repeat first
    |((with_reducible first|apply B7|apply Bi|apply B5|apply Br|apply Ck|apply Da|apply Du|apply Ch|apply Bw|apply Cn|apply Bj|apply B8|apply B9);· first|with_reducible rfl|(simp (disch:=omega) only[gT,n1,hN,al,b4,c,Nat.zero_mul,Ik,List.take_nil,N6]<;>first|with_reducible rfl|omega)|omega)
    |(with_reducible apply B6;· first|with_reducible rfl|(simp (disch:=omega) only[gF,n1,hN,al,b4,c,Nat.zero_mul,Ik,List.take_nil,N6]<;>omega))
   try simp (disch:=omega) only[n1,hN,al,b4,c,Nat.zero_mul,Ik,List.take_nil,N6]
  ·skip
   try unfold Aa
   repeat first
    |((with_reducible first|apply B7|apply Bi|apply B5|apply Br|apply Ck|apply Da|apply Du|apply Ch|apply Bw|apply Cn|apply Bj|apply B8|apply B9);· first|with_reducible rfl|(simp (disch:=omega) only[gT,n1,hN,al,b4,c,Nat.zero_mul,Ik,List.take_nil,N6]<;>first|with_reducible rfl|omega)|omega)
    |(with_reducible apply B6;· first|with_reducible rfl|(simp (disch:=omega) only[gF,n1,hN,al,b4,c,Nat.zero_mul,Ik,List.take_nil,N6]<;>omega))
   try simp (disch:=omega) only[n1,hN,al,b4,c,Nat.zero_mul,Ik,List.take_nil,N6]
set_option maxHeartbeats 2000000 in
theorem Alb (hfu:2000<=fu){dl:List Int}(hll:dl.length<=maxLen){i nn p:Nat}{a0n:Nat}{a0:List PV}{a1:Int}{a2:ByteArray}{secret:Int}{other:ByteArray}(ho:other.size<=500)(hi:i<20){l:List Cv}(hl:GX l i)
  (ih:(∀(l:List Cv)(p:Nat),GX l (i+1)->As fu (Af C0 prog fu (d+8)) a0n a0 a1 a2 nn secret other l.length (Cq l) ((i+1:Nat):Int) dl.length (Aq .i64 dl) (p:Int)=some ⟨[.sc (.bool true)],[]⟩)∧(∀p:Nat,A7 fu (Af C0 prog fu (d+8)) a0n a0 a1 a2 nn secret other 0 ((i+1:Nat):Int) dl.length (Aq .i64 dl) (p:Int) []=some ⟨[.sc (.bool true)],[]⟩)∧(∀p:Nat,Aw fu (Af C0 prog fu (d+8)) a0n a0 a1 a2 nn secret other 0 ((i+1:Nat):Int) dl.length (Aq .i64 dl) (p:Int) []=some ⟨[.sc (.bool true)],[]⟩)):As fu (Af C0 prog fu (d+8)) a0n a0 a1 a2 (nn+1) secret other l.length (Cq l) (i:Int) dl.length (Aq .i64 dl) (p:Int)=some ⟨[.sc (.bool true)],[]⟩:=by
 have hmax:=hll;simp only[maxLen] at hll;have nL:=Xp (fu:=fu) (d:=d) hfu (a0n:=a0n) (a0:=a0) (a1:=a1) (a2:=a2) (secret:=secret) ho hl 5 0 fu rfl (by omega)
 rw[show ((0:Nat):Int)=0 from rfl] at nL
 rw[Ei];have lf:=EF (fu:=fu) (d:=d+7) dl p;by_cases hp:(p:Int)<(dl.length:Int)
 rotate_left
 ·rw[decide_eq_false hp] at lf;simp only[UL] at lf
  try unfold Aa
  repeat first
   |((with_reducible first|apply B7|apply Bi|apply B5|apply Br|apply Ck|apply Da|apply Du|apply Ch|apply Bw|apply Cn|apply Bj|apply B8|apply B9);· first|with_reducible rfl|(simp (disch:=omega) only[gT,lf,nL]<;>first|with_reducible rfl|omega)|omega)
   |(with_reducible apply B6;· first|with_reducible rfl|(simp (disch:=omega) only[gF,lf,nL]<;>omega))
  try simp (disch:=omega) only[lf,nL]
 rw[decide_eq_true hp] at lf;obtain⟨v1,p1,b1,c1,n1⟩:=Pw hmax p 4 (by omega) (by omega)
 obtain⟨v2,p2,b2,c2,n2⟩:=Pw hmax p1 3 (by omega) (by omega)
 have m1:=n1 (fu:=fu) (d:=d+6);have m2:=n2 (fu:=fu) (d:=d+6);clear n1 n2;obtain⟨nm,hn1,hn2,hN⟩:=Za b2 c2;have hN:=hN (fu:=fu) (d:=d+6);have s:=P7 (fu:=fu) (d:=d+1) (by omega) (k:=0) (by omega) (by omega) 1
 have sk:=NG (MU (O9 0 1) (v1==3)) (700+(i:Int));have wi:wrap .i64 (700+(i:Int))=700+(i:Int):=wrap_i64 (by omega) (by omega)
 have w1:wrap .i64 ((i:Int)+1)=((i+1:Nat):Int):=by rw[wrap_i64 (by omega) (by omega)];omega
 have by1:=Tg (fu:=fu) (d:=d+2) (by omega) (700+(i:Int)) (n:=176) (by omega)
 have lB:(Ee (700+(i:Int)) 176).length=176:=X9 _ _;have LB:(Aq .u8 (Ee (700+(i:Int)) 176)).length=176:=by rw[A1,lB]
 have TB:List.take 176 (Aq .u8 (Ee (700+(i:Int)) 176))=Aq .u8 (Ee (700+(i:Int)) 176):=Qq (by omega)
 simp only[UL] at lf m1 m2;simp only[Sd.cells] at s;generalize sdE 0 1=s0 at s sk;dsimp only at sk;have en:=ED (fu:=fu) (d:=d+7) (l:=l) (nm:=nm) (us:=(ByteArray.mk #[(117:UInt8)])) (by have:=hl.lok.len;omega) (fun a ha=>(hl.lok.ok a ha).sm) sk.sm
 have st:=GN hl (by omega) hn1 hn2 (us:=(ByteArray.mk #[(117:UInt8)])) sk rfl
 obtain⟨X,z,hX⟩:∃X z,Ry l nm (ByteArray.mk #[(117:UInt8)]) ⟨Ee (700+(i:Int)) 176,s0.ht,s0.root,s0.model,s0.fmt,s0.sh,s0.used,s0.rg,v1==3,s0.since,s0.last⟩=(X,z):=⟨_,_,rfl⟩;rw[hX] at en st;simp only[R6,Sd.cells,lB] at en;dsimp only at st;generalize Ee (700+(i:Int)) 176=BB at by1 LB TB en;rcases st with⟨rfl,hX2⟩|rfl
 ·have q:=ih.1 X p2 hX2;have z0:((0:Int)==0)=true:=rfl
  try unfold Aa
  repeat first
   |((with_reducible first|apply B7|apply Bi|apply B5|apply Br|apply Ck|apply Da|apply Du|apply Ch|apply Bw|apply Cn|apply Bj|apply B8|apply B9);· first|with_reducible rfl|(simp (disch:=omega) only[gT,lf,s,wi,by1,m1,m2,hN,LB,TB,en,z0,w1,q,Fv,Fx,Nat.zero_mul,Ik,List.take_nil,N6]<;>first|with_reducible rfl|omega)|omega)
   |(with_reducible apply B6;· first|with_reducible rfl|(simp (disch:=omega) only[gF,lf,s,wi,by1,m1,m2,hN,LB,TB,en,z0,w1,q,Fv,Fx,Nat.zero_mul,Ik,List.take_nil,N6]<;>omega))
  try simp (disch:=omega) only[lf,s,wi,by1,m1,m2,hN,LB,TB,en,z0,w1,q,Fv,Fx,Nat.zero_mul,Ik,List.take_nil,N6]
 ·have q:=ih.1 l p2 hl.next;have z0:((12:Int)==0)=false:=rfl;have z1:((12:Int) != 12)=false:=rfl
  try unfold Aa
  repeat first
   |((with_reducible first|apply B7|apply Bi|apply B5|apply Br|apply Ck|apply Da|apply Du|apply Ch|apply Bw|apply Cn|apply Bj|apply B8|apply B9);· first|with_reducible rfl|(simp (disch:=omega) only[gT,lf,s,wi,by1,m1,m2,hN,LB,TB,en,z0,z1,w1,q,Fv,Fx,Nat.zero_mul,Ik,List.take_nil,N6]<;>first|with_reducible rfl|omega)|omega)
   |(with_reducible apply B6;· first|with_reducible rfl|(simp (disch:=omega) only[gF,lf,s,wi,by1,m1,m2,hN,LB,TB,en,z0,z1,w1,q,Fv,Fx,Nat.zero_mul,Ik,List.take_nil,N6]<;>omega))
  try simp (disch:=omega) only[lf,s,wi,by1,m1,m2,hN,LB,TB,en,z0,z1,w1,q,Fv,Fx,Nat.zero_mul,Ik,List.take_nil,N6]
set_option maxHeartbeats 2000000 in
theorem An1 (hfu:2000<=fu){dl:List Int}(hll:dl.length<=maxLen){i nn p:Nat}{a0n:Nat}{a0:List PV}{a1:Int}{a2:ByteArray}{secret:Int}{other:ByteArray}(ho:other.size<=500)(hi:i<20)
  (ih:(∀(l:List Cv)(p:Nat),GX l (i+1)->As fu (Af C0 prog fu (d+8)) a0n a0 a1 a2 nn secret other l.length (Cq l) ((i+1:Nat):Int) dl.length (Aq .i64 dl) (p:Int)=some ⟨[.sc (.bool true)],[]⟩)∧(∀p:Nat,A7 fu (Af C0 prog fu (d+8)) a0n a0 a1 a2 nn secret other 0 ((i+1:Nat):Int) dl.length (Aq .i64 dl) (p:Int) []=some ⟨[.sc (.bool true)],[]⟩)∧(∀p:Nat,Aw fu (Af C0 prog fu (d+8)) a0n a0 a1 a2 nn secret other 0 ((i+1:Nat):Int) dl.length (Aq .i64 dl) (p:Int) []=some ⟨[.sc (.bool true)],[]⟩)):A7 fu (Af C0 prog fu (d+8)) a0n a0 a1 a2 (nn+1) secret other 0 (i:Int) dl.length (Aq .i64 dl) (p:Int) []=some ⟨[.sc (.bool true)],[]⟩:=by
 have hmax:=hll;simp only[maxLen] at hll;have nL:=(Uo (fu:=fu) (d:=d) hfu (a0n:=a0n) (a0:=a0) (a1:=a1) (a2:=a2) (secret:=secret) ho 5 0 fu rfl (by omega)).1
 rw[show ((0:Nat):Int)=0 from rfl] at nL
 rw[Et];have lf:=EF (fu:=fu) (d:=d+7) dl p;by_cases hp:(p:Int)<(dl.length:Int)
 rotate_left
 ·rw[decide_eq_false hp] at lf;simp only[UL] at lf
  try unfold Aa
  repeat first
   |((with_reducible first|apply B7|apply Bi|apply B5|apply Br|apply Ck|apply Da|apply Du|apply Ch|apply Bw|apply Cn|apply Bj|apply B8|apply B9);· first|with_reducible rfl|(simp (disch:=omega) only[gT,lf,nL]<;>first|with_reducible rfl|omega)|omega)
   |(with_reducible apply B6;· first|with_reducible rfl|(simp (disch:=omega) only[gF,lf,nL]<;>omega))
  try simp (disch:=omega) only[lf,nL]
 rw[decide_eq_true hp] at lf;obtain⟨v1,p1,b1,c1,n1⟩:=Pw hmax p 4 (by omega) (by omega)
 obtain⟨v2,p2,b2,c2,n2⟩:=Pw hmax p1 3 (by omega) (by omega)
 have m1:=n1 (fu:=fu) (d:=d+6);have m2:=n2 (fu:=fu) (d:=d+6);clear n1 n2;obtain⟨nm,hn1,hn2,hN⟩:=Za b2 c2;have hN:=hN (fu:=fu) (d:=d+6);have s:=P7 (fu:=fu) (d:=d+1) (by omega) (k:=0) (by omega) (by omega) 1
 have sk:=NG (MU (O9 0 1) (v1==3)) (700+(i:Int));have wi:wrap .i64 (700+(i:Int))=700+(i:Int):=wrap_i64 (by omega) (by omega)
 have w1:wrap .i64 ((i:Int)+1)=((i+1:Nat):Int):=by rw[wrap_i64 (by omega) (by omega)];omega
 have by1:=Tg (fu:=fu) (d:=d+2) (by omega) (700+(i:Int)) (n:=176) (by omega)
 have lB:(Ee (700+(i:Int)) 176).length=176:=X9 _ _;have LB:(Aq .u8 (Ee (700+(i:Int)) 176)).length=176:=by rw[A1,lB]
 have TB:List.take 176 (Aq .u8 (Ee (700+(i:Int)) 176))=Aq .u8 (Ee (700+(i:Int)) 176):=Qq (by omega)
 simp only[UL] at lf m1 m2;simp only[Sd.cells] at s;generalize sdE 0 1=s0 at s sk;dsimp only at sk;have en:=ED (fu:=fu) (d:=d+7) (l:=([]:List Cv)) (nm:=nm) (us:=(ByteArray.mk #[(117:UInt8)])) (by simp) (fun a ha=>(by cases ha)) sk.sm
 have st:=GN (⟨GV.nil,fun a h=>(by cases h),fun a h=>(by cases h)⟩:GX [] i) (by omega) hn1 hn2 (us:=(ByteArray.mk #[(117:UInt8)])) sk rfl
 obtain⟨X,z,hX⟩:∃X z,Ry ([]:List Cv) nm (ByteArray.mk #[(117:UInt8)]) ⟨Ee (700+(i:Int)) 176,s0.ht,s0.root,s0.model,s0.fmt,s0.sh,s0.used,s0.rg,v1==3,s0.since,s0.last⟩=(X,z):=⟨_,_,rfl⟩;rw[hX] at en st;simp only[R6,Sd.cells,lB] at en;dsimp only at st;simp only[N6,Cq,List.flatMap_nil] at en;change Af C0 prog fu (d+7+1) _ _=some ⟨[.lst false 3 X.length (Cq X),_],[]⟩ at en;generalize Ee (700+(i:Int)) 176=BB at by1 LB TB en;rcases st with⟨rfl,hX2⟩|rfl
 ·have q:=ih.1 X p2 hX2;have z0:((0:Int)==0)=true:=rfl
  try unfold Aa
  repeat first
   |((with_reducible first|apply B7|apply Bi|apply B5|apply Br|apply Ck|apply Da|apply Du|apply Ch|apply Bw|apply Cn|apply Bj|apply B8|apply B9);· first|with_reducible rfl|(simp (disch:=omega) only[gT,lf,s,wi,by1,m1,m2,hN,LB,TB,en,z0,w1,q,Fv,Fx,Nat.zero_mul,Ik,List.take_nil,N6]<;>first|with_reducible rfl|omega)|omega)
   |(with_reducible apply B6;· first|with_reducible rfl|(simp (disch:=omega) only[gF,lf,s,wi,by1,m1,m2,hN,LB,TB,en,z0,w1,q,Fv,Fx,Nat.zero_mul,Ik,List.take_nil,N6]<;>omega))
  try simp (disch:=omega) only[lf,s,wi,by1,m1,m2,hN,LB,TB,en,z0,w1,q,Fv,Fx,Nat.zero_mul,Ik,List.take_nil,N6]
 ·have q:=ih.2.2 p2;have z0:((12:Int)==0)=false:=rfl;have z1:((12:Int) != 12)=false:=rfl
  try unfold Aa
  repeat first
   |((with_reducible first|apply B7|apply Bi|apply B5|apply Br|apply Ck|apply Da|apply Du|apply Ch|apply Bw|apply Cn|apply Bj|apply B8|apply B9);· first|with_reducible rfl|(simp (disch:=omega) only[gT,lf,s,wi,by1,m1,m2,hN,LB,TB,en,z0,z1,w1,q,Fv,Fx,Nat.zero_mul,Ik,List.take_nil,N6]<;>first|with_reducible rfl|omega)|omega)
   |(with_reducible apply B6;· first|with_reducible rfl|(simp (disch:=omega) only[gF,lf,s,wi,by1,m1,m2,hN,LB,TB,en,z0,z1,w1,q,Fv,Fx,Nat.zero_mul,Ik,List.take_nil,N6]<;>omega))
  try simp (disch:=omega) only[lf,s,wi,by1,m1,m2,hN,LB,TB,en,z0,z1,w1,q,Fv,Fx,Nat.zero_mul,Ik,List.take_nil,N6]
set_option maxHeartbeats 2000000 in
theorem Ae1 (hfu:2000<=fu){dl:List Int}(hll:dl.length<=maxLen){i nn p:Nat}{a0n:Nat}{a0:List PV}{a1:Int}{a2:ByteArray}{secret:Int}{other:ByteArray}(ho:other.size<=500)(hi:i<20)
  (ih:(∀(l:List Cv)(p:Nat),GX l (i+1)->As fu (Af C0 prog fu (d+8)) a0n a0 a1 a2 nn secret other l.length (Cq l) ((i+1:Nat):Int) dl.length (Aq .i64 dl) (p:Int)=some ⟨[.sc (.bool true)],[]⟩)∧(∀p:Nat,A7 fu (Af C0 prog fu (d+8)) a0n a0 a1 a2 nn secret other 0 ((i+1:Nat):Int) dl.length (Aq .i64 dl) (p:Int) []=some ⟨[.sc (.bool true)],[]⟩)∧(∀p:Nat,Aw fu (Af C0 prog fu (d+8)) a0n a0 a1 a2 nn secret other 0 ((i+1:Nat):Int) dl.length (Aq .i64 dl) (p:Int) []=some ⟨[.sc (.bool true)],[]⟩)):Aw fu (Af C0 prog fu (d+8)) a0n a0 a1 a2 (nn+1) secret other 0 (i:Int) dl.length (Aq .i64 dl) (p:Int) []=some ⟨[.sc (.bool true)],[]⟩:=by
 have hmax:=hll;simp only[maxLen] at hll;have nL:=(Uo (fu:=fu) (d:=d) hfu (a0n:=a0n) (a0:=a0) (a1:=a1) (a2:=a2) (secret:=secret) ho 5 0 fu rfl (by omega)).2
 rw[show ((0:Nat):Int)=0 from rfl] at nL
 rw[Ec];have lf:=EF (fu:=fu) (d:=d+7) dl p;by_cases hp:(p:Int)<(dl.length:Int)
 rotate_left
 ·rw[decide_eq_false hp] at lf;simp only[UL] at lf
  try unfold Aa
  repeat first
   |((with_reducible first|apply B7|apply Bi|apply B5|apply Br|apply Ck|apply Da|apply Du|apply Ch|apply Bw|apply Cn|apply Bj|apply B8|apply B9);· first|with_reducible rfl|(simp (disch:=omega) only[gT,lf,nL]<;>first|with_reducible rfl|omega)|omega)
   |(with_reducible apply B6;· first|with_reducible rfl|(simp (disch:=omega) only[gF,lf,nL]<;>omega))
  try simp (disch:=omega) only[lf,nL]
 rw[decide_eq_true hp] at lf;obtain⟨v1,p1,b1,c1,n1⟩:=Pw hmax p 4 (by omega) (by omega)
 obtain⟨v2,p2,b2,c2,n2⟩:=Pw hmax p1 3 (by omega) (by omega)
 have m1:=n1 (fu:=fu) (d:=d+6);have m2:=n2 (fu:=fu) (d:=d+6);clear n1 n2;obtain⟨nm,hn1,hn2,hN⟩:=Za b2 c2;have hN:=hN (fu:=fu) (d:=d+6);have s:=P7 (fu:=fu) (d:=d+1) (by omega) (k:=0) (by omega) (by omega) 1
 have sk:=NG (MU (O9 0 1) (v1==3)) (700+(i:Int));have wi:wrap .i64 (700+(i:Int))=700+(i:Int):=wrap_i64 (by omega) (by omega)
 have w1:wrap .i64 ((i:Int)+1)=((i+1:Nat):Int):=by rw[wrap_i64 (by omega) (by omega)];omega
 have by1:=Tg (fu:=fu) (d:=d+2) (by omega) (700+(i:Int)) (n:=176) (by omega)
 have lB:(Ee (700+(i:Int)) 176).length=176:=X9 _ _;have LB:(Aq .u8 (Ee (700+(i:Int)) 176)).length=176:=by rw[A1,lB]
 have TB:List.take 176 (Aq .u8 (Ee (700+(i:Int)) 176))=Aq .u8 (Ee (700+(i:Int)) 176):=Qq (by omega)
 simp only[UL] at lf m1 m2;simp only[Sd.cells] at s;generalize sdE 0 1=s0 at s sk;dsimp only at sk;have en:=ED (fu:=fu) (d:=d+7) (l:=([]:List Cv)) (nm:=nm) (us:=(ByteArray.mk #[(117:UInt8)])) (by simp) (fun a ha=>(by cases ha)) sk.sm
 have st:=GN (⟨GV.nil,fun a h=>(by cases h),fun a h=>(by cases h)⟩:GX [] i) (by omega) hn1 hn2 (us:=(ByteArray.mk #[(117:UInt8)])) sk rfl
 obtain⟨X,z,hX⟩:∃X z,Ry ([]:List Cv) nm (ByteArray.mk #[(117:UInt8)]) ⟨Ee (700+(i:Int)) 176,s0.ht,s0.root,s0.model,s0.fmt,s0.sh,s0.used,s0.rg,v1==3,s0.since,s0.last⟩=(X,z):=⟨_,_,rfl⟩;rw[hX] at en st;simp only[R6,Sd.cells,lB] at en;dsimp only at st;simp only[N6,Cq,List.flatMap_nil] at en;change Af C0 prog fu (d+7+1) _ _=some ⟨[.lst false 3 X.length (Cq X),_],[]⟩ at en;generalize Ee (700+(i:Int)) 176=BB at by1 LB TB en;rcases st with⟨rfl,hX2⟩|rfl
 ·have q:=ih.1 X p2 hX2;have z0:((0:Int)==0)=true:=rfl
  try unfold Aa
  repeat first
   |((with_reducible first|apply B7|apply Bi|apply B5|apply Br|apply Ck|apply Da|apply Du|apply Ch|apply Bw|apply Cn|apply Bj|apply B8|apply B9);· first|with_reducible rfl|(simp (disch:=omega) only[gT,lf,s,wi,by1,m1,m2,hN,LB,TB,en,z0,w1,q,Fv,Fx,Nat.zero_mul,Ik,List.take_nil,N6]<;>first|with_reducible rfl|omega)|omega)
   |(with_reducible apply B6;· first|with_reducible rfl|(simp (disch:=omega) only[gF,lf,s,wi,by1,m1,m2,hN,LB,TB,en,z0,w1,q,Fv,Fx,Nat.zero_mul,Ik,List.take_nil,N6]<;>omega))
  try simp (disch:=omega) only[lf,s,wi,by1,m1,m2,hN,LB,TB,en,z0,w1,q,Fv,Fx,Nat.zero_mul,Ik,List.take_nil,N6]
 ·have q:=ih.2.2 p2;have z0:((12:Int)==0)=false:=rfl;have z1:((12:Int) != 12)=false:=rfl
  try unfold Aa
  repeat first
   |((with_reducible first|apply B7|apply Bi|apply B5|apply Br|apply Ck|apply Da|apply Du|apply Ch|apply Bw|apply Cn|apply Bj|apply B8|apply B9);· first|with_reducible rfl|(simp (disch:=omega) only[gT,lf,s,wi,by1,m1,m2,hN,LB,TB,en,z0,z1,w1,q,Fv,Fx,Nat.zero_mul,Ik,List.take_nil,N6]<;>first|with_reducible rfl|omega)|omega)
   |(with_reducible apply B6;· first|with_reducible rfl|(simp (disch:=omega) only[gF,lf,s,wi,by1,m1,m2,hN,LB,TB,en,z0,z1,w1,q,Fv,Fx,Nat.zero_mul,Ik,List.take_nil,N6]<;>omega))
  try simp (disch:=omega) only[lf,s,wi,by1,m1,m2,hN,LB,TB,en,z0,z1,w1,q,Fv,Fx,Nat.zero_mul,Ik,List.take_nil,N6]
theorem MC (hfu:2000<=fu){dl:List Int}(hll:dl.length<=maxLen){a0n:Nat}{a0:List PV}{a1:Int}{a2:ByteArray}{secret:Int}{other:ByteArray}(ho:other.size<=500):∀(k i nn:Nat),i+k=20->k<nn ->
  (∀(l:List Cv)(p:Nat),GX l i->As fu (Af C0 prog fu (d+8)) a0n a0 a1 a2 nn secret other l.length (Cq l) (i:Int) dl.length (Aq .i64 dl) (p:Int)=some ⟨[.sc (.bool true)],[]⟩)∧(∀p:Nat,A7 fu (Af C0 prog fu (d+8)) a0n a0 a1 a2 nn secret other 0 (i:Int) dl.length (Aq .i64 dl) (p:Int) []=some ⟨[.sc (.bool true)],[]⟩)∧(∀p:Nat,Aw fu (Af C0 prog fu (d+8)) a0n a0 a1 a2 nn secret other 0 (i:Int) dl.length (Aq .i64 dl) (p:Int) []=some ⟨[.sc (.bool true)],[]⟩):=by
 intro k
 induction k with
 |zero=>
  intro i nn h1 h2;obtain⟨nn,rfl⟩:∃k,nn=k+1:=⟨nn-1,by omega⟩
  have e0:((0:Nat):Int)=0:=rfl;have nN:=Uo (fu:=fu) (d:=d) hfu (a0n:=a0n) (a0:=a0) (a1:=a1) (a2:=a2) (secret:=secret) ho 5 0 fu rfl (by omega)
  rw[e0] at nN;obtain⟨nA,nB⟩:=nN;refine⟨fun l p hl=>?_,fun p=>?_,fun p=>?_⟩
  ·have nL:=Xp (fu:=fu) (d:=d) hfu (a0n:=a0n) (a0:=a0) (a1:=a1) (a2:=a2) (secret:=secret) ho hl 5 0 fu rfl (by omega)
   rw[e0] at nL;rw[Ei]
   try unfold Aa
   repeat first
    |((with_reducible first|apply B7|apply Bi|apply B5|apply Br|apply Ck|apply Da|apply Du|apply Ch|apply Bw|apply Cn|apply Bj|apply B8|apply B9);· first|with_reducible rfl|(simp (disch:=omega) only[gT,nL]<;>first|with_reducible rfl|omega)|omega)
    |(with_reducible apply B6;· first|with_reducible rfl|(simp (disch:=omega) only[gF,nL]<;>omega))
   try simp (disch:=omega) only[nL]
  ·rw[Et]
   try unfold Aa
   repeat first
    |((with_reducible first|apply B7|apply Bi|apply B5|apply Br|apply Ck|apply Da|apply Du|apply Ch|apply Bw|apply Cn|apply Bj|apply B8|apply B9);· first|with_reducible rfl|(simp (disch:=omega) only[gT,nA]<;>first|with_reducible rfl|omega)|omega)
    |(with_reducible apply B6;· first|with_reducible rfl|(simp (disch:=omega) only[gF,nA]<;>omega))
   try simp (disch:=omega) only[nA]
  ·rw[Ec]
   try unfold Aa
   repeat first
    |((with_reducible first|apply B7|apply Bi|apply B5|apply Br|apply Ck|apply Da|apply Du|apply Ch|apply Bw|apply Cn|apply Bj|apply B8|apply B9);· first|with_reducible rfl|(simp (disch:=omega) only[gT,nB]<;>first|with_reducible rfl|omega)|omega)
    |(with_reducible apply B6;· first|with_reducible rfl|(simp (disch:=omega) only[gF,nB]<;>omega))
   try simp (disch:=omega) only[nB]
 |succ k ih=>
  intro i nn h1 h2;obtain⟨nn,rfl⟩:∃k,nn=k+1:=⟨nn-1,by omega⟩
  have ih:=ih (i+1) nn (by omega) (by omega)
  exact⟨fun l p hl=>Alb hfu hll ho (by omega) hl ih,fun p=>An1 hfu hll ho (by omega) ih,fun p=>Ae1 hfu hll ho (by omega) ih⟩
end
theorem accountShape_plain (qs:List PV)(h:Av (WTv prog) [22,23,9] qs):∃fu d,Af C0 prog fu d Fq qs=some ⟨[.sc (.bool true)],[]⟩:=by
 obtain⟨q0,_,rfl,h0,g⟩:=h.cons_inv;obtain⟨q1,_,rfl,h1,g⟩:=g.cons_inv;obtain⟨q2,_,rfl,h2,g⟩:=g.cons_inv;obtain rfl:=g.nil_inv;clear h g;obtain⟨l,rfl,hll,hlw⟩:=Aaf (k:=.i64) (e:=3) (by kernel_rfl) (by kernel_rfl) (by kernel_rfl) (by kernel_rfl) h0
 obtain⟨secret,rfl,_⟩:=Adi (P:=prog) (k:=.u64) (by kernel_rfl) (by kernel_rfl) h1
 obtain⟨other,rfl,_⟩:=Acv (P:=prog) (by kernel_rfl) (by kernel_rfl) h2
 clear h0 h1 h2 hlw;obtain⟨fu,Azd⟩:∃fu,fu=2000:=⟨_,rfl⟩;have hfu:2000<=fu:=by omega
 refine⟨fu,9,?_⟩;refine (Js fu 8 l.length (Aq .i64 l) secret other).trans ?_;have aw:=Y6 (fu:=fu) (d:=0) hfu;by_cases hn:(other.size:Int)>100
 ·skip
  try unfold Aa
  repeat first
   |((with_reducible first|apply B7|apply Bi|apply B5|apply Br|apply Ck|apply Da|apply Du|apply Ch|apply Bw|apply Cn|apply Bj|apply B8|apply B9);· first|with_reducible rfl|(simp (disch:=omega) only[gT,aw]<;>first|with_reducible rfl|omega)|omega)
   |(with_reducible apply B6;· first|with_reducible rfl|(simp (disch:=omega) only[gF,aw]<;>omega))
  try simp (disch:=omega) only[aw]
 ·have nw:=Alg (fu:=fu) (d:=7) (l:=l);have lp:=(MC (fu:=fu) (d:=0) hfu hll (a0n:=l.length) (a0:=Aq .i64 l) (a1:=secret) (a2:=other) (secret:=secret) (other:=other) (by omega) 20 0 fu rfl (by omega)).2.1 0
  simp only[UL] at nw;have e0:((0:Nat):Int)=0:=rfl;rw[e0] at nw lp
  try unfold Aa
  repeat first
   |((with_reducible first|apply B7|apply Bi|apply B5|apply Br|apply Ck|apply Da|apply Du|apply Ch|apply Bw|apply Cn|apply Bj|apply B8|apply B9);· first|with_reducible rfl|(simp (disch:=omega) only[gT,nw,lp]<;>first|with_reducible rfl|omega)|omega)
   |(with_reducible apply B6;· first|with_reducible rfl|(simp (disch:=omega) only[gF,nw,lp]<;>omega))
  try simp (disch:=omega) only[nw,lp]
end
section
open Go.Proofs.Try (prog)
open Go.IntKind (wrap)
open Go.RowKit
theorem TD {w w':World}{Y:Nat->Prop}{bt:Th}{args:List PV}{v:Value}(hb:Below w.heap.size w w')(ho:F1 w' (Ky bt (fun _=>none) Y) (fun _=>none) bt (He [.sc v]) 0 args []):
  QN w w' Y bt args (fun _=>none) ⟨[.sc v],[]⟩ [v] where
 os:=hb.os
 tape:=hb.tape
 output:=hb.output
 ext:=⟨hb.size,fun b h _=>hb.block b h,fun b h=>Gd.same (hb.block b h)⟩
 rng:=fun b j h _=>⟨by unfold World.cell?;simp only[hb.block b h],by unfold World.frozen?;simp only[hb.block b h]⟩
 vals:=⟨An.sc v,trivial⟩
 outs:=ho
 fresh:=fun j b o h=>by cases h
 inj:=fun j j' b o o' h=>by cases h
theorem Vs {P:Program}{w:World}{A:Nat->Prop}{bt:Bt}{z:Bool}{n:Nat}{c:List PV}{u:Value}{l:List UInt8}(h:AD w A bt (.lst z 1 n c) u) (hl:bytesOf c=some l)(hn:c.length=n):
  (Extern.Bytes.bytesOf u).run P w=.ok ⟨l.toArray⟩ w:=by
 obtain⟨ns,rfl,rfl⟩:=O2 hl;have ht:An w A (.lst z 1 n (ns.map fun n=>.sc (.int .u8 n))) u:=h.2
 generalize hc:(ns.map fun n=>PV.sc (.int .u8 n))=c at ht
 cases ht with
 |lnil=>
  have:ns=[]:=by simpa using hc
  subst this;rfl
 |lemp=>
  have:ns=[]:=by simpa using hc
  subst this;rfl
 |lst _ _ _ a cap f hs hb hA hn' hcell h1 hr=>
  subst hc;rw[List.length_map] at hn;subst hn;show (Extern.Bytes.loadBytes a ns.length .empty).run P w=_;rw[Lib.run_loadBytesX w ns a .empty fun j x hj=>?_]
  ·simp[Lib.bytesOf,Nat.toUInt8]
  ·have e:(ns.map fun n=>PV.sc (.int .u8 n))[j]?=some (.sc (.int .u8 x)):=by rw[List.getElem?_map,hj];rfl
   rw[hcell j _ e,(hr j _ e).val]
set_option maxRecDepth 1000000 in
theorem GE (u1 u2:Value)(a b:List UInt8)(w:World)(h1:(Extern.Bytes.bytesOf u1).run prog w=.ok ⟨a.toArray⟩ w) (h2:(Extern.Bytes.bytesOf u2).run prog w=.ok ⟨b.toArray⟩ w):
  Calls prog 36 #[u1,u2] w fun e w'=>e=.returned (.int .i64 (Lib.compareBytes a b))∧w'=w:=by
 have hr:(Extern.BytealgCompare.compare #[u1,u2]).run prog w=.ok (.int .i64 (Lib.compareBytes a b)) w:=by
  change Sem.run prog (do pure (goInt (Extern.BytealgCompare.cmp (←Extern.Bytes.bytesOf u1) (←Extern.Bytes.bytesOf u2)))) w=_
  simp only[Sem.run_bind,Sem.run_pure,Result.andThen,h1,h2];rw[Lib.cmp_eq];rfl
 go_enter Try.func36,Try.ntmps36
 go_wp2
 rw[run_callFunc_extern Try.func53 (by kernel_rfl) (by kernel_rfl) (by kernel_rfl) (e:=Extern.BytealgCompare.compare) (by kernel_rfl),hr]
 simp only[Result.andThen];rw[Oper.upon_value]
 go_wp2
 go_ret
 exact⟨rfl,rfl⟩
theorem AO (G:Glo)(args:List PV)(res:Bb)(h:Oe args=some res):C1 G prog 36 args res:=by
 refine⟨⟨_,Try.func36,by kernel_rfl⟩,fun w Y bt us hi _ _=>?_⟩
 unfold Oe at h;split at h
 rotate_left
 ·cases h
 rename_i z n c z' m c';cases hq:(Nat.beq c.length n&&Nat.beq c'.length m)
 ·rw[hq] at h;cases h
 rw[hq] at h;simp only[Bool.and_eq_true] at hq;have hn:=Nat.eq_of_beq_eq_true hq.1;have hm:=Nat.eq_of_beq_eq_true hq.2;simp only[cond_true] at h;split at h
 rotate_left
 ·cases h
 rename_i a b ha hb;cases h;have ps:=hi.args
 match us,ps with
 |[u1,u2],ps=>
  refine (GE u1 u2 a b w (Vs ps.1 ha hn) (Vs ps.2.1 hb hm)).mono ?_
  rintro e w' ⟨rfl,rfl⟩
  exact⟨[.int .i64 (Lib.compareBytes a b)],fun _=>none,rfl,TD (Below.refl _ _) rfl⟩
 |[],ps=>exact ps.elim
 |[_],ps=>exact ps.2.elim
 |_::_::_::_,ps=>exact ps.2.2.elim
end
section
open Go.IntKind (wrap)
open Go.RowKit Go.Lib
section
variable {P:Program}
theorem P5 (w:World)(dT sT ty elem:TypeId)(i:TypeInfo)(b o dLen dCap:Nat)(a:Addr)(sLen sCap k:Nat)(cs:List Value)
  (hu:P.underlying dT=some (.slice elem)) (hq:P.info? elem=some i)(hk:k=Nat.min sLen dLen)(hn:cs.length=k*i.size)
  (Ko:∀j v,cs[j]?=some v->w.cell? (a.add j)=some v) (hc:∀j,j<cs.length->(w.cell? ⟨b,o+j,none⟩).isSome=true) (hf:∀j,j<cs.length->w.frozen? ⟨b,o+j,none⟩=false)(h1:∀v∈cs,v.oneCell'=true):
  (Builtin.copy_ #[dT,sT] ty #[.slice (some ⟨b,o,none⟩) dLen dCap,.slice (some a) sLen sCap]).run P w=.ok (goInt k) (w.setCells b o cs):=by
 have hl:=run_loadCells_list (P:=P) w a cs Ko;have Jp:=run_storeCells_cells (P:=P) b o cs 0 w (by simpa using hc) (by simpa using hf) h1
 simp[Builtin.copy_,run_underlying hu,Builtin.lenOf,Builtin.firstCells,sizeOf,typeInfo,hq,←hk,←hn,hl,Jp]
theorem Gk (b:Nat)(vs:List Value)(o:Nat)(w:World)(k:Nat)(hk:(w.cell? ⟨b,k,none⟩).isSome=true):((w.setCells b o vs).cell? ⟨b,k,none⟩).isSome=true:=by
 have h:=(Ay.setCells b vs o w).bs;obtain⟨v,hv⟩:=Option.isSome_iff_exists.1 hk;have h1:=Ta hv;exact Ff (by omega)
theorem GL (w:World){o:Oper}{a:Act}{K:Act->World->Prop}{Q:Exit->Act->World->Prop}(d s:Operand)(t t':TypeId)
  (ho:o.op=.call { callee:=.builtin .copy,args:= #[d,s],argTypes:= #[t,t'] }) (v u:Value)(hd:a.eval d=v)(hs:a.eval s=u){v':Value}{w':World}
  (hr:(Builtin.copy_ #[t,t'] o.type #[v,u]).run P w=.ok v' w') (h:K (a.put o.dst v') w'):o.wp P a w K Q:=by
 unfold Oper.wp execOp;simp only[ho,resolve,invoke,builtin,Sem.run_bind,Sem.run_pure,Result.andThen_ok,List.map_toArray,List.map_cons,List.map_nil,hd,hs,hr];exact h
theorem H9 (w:World){ops:Array Oper}{rest:List Oper}{o:Oper}{a:Act}{Q:Exit->Act->World->Prop}(hgd:o.guard=none)(d s:Operand)(t t':TypeId)
  (ho:o.op=.call { callee:=.builtin .copy,args:= #[d,s],argTypes:= #[t,t'] }) (v u:Value)(hd:a.eval d=v)(hs:a.eval s=u){v':Value}{w':World}
  (hr:(Builtin.copy_ #[t,t'] o.type #[v,u]).run P w=.ok v' w') (h:wpList P ops Q rest (a.put o.dst v') w'):wpList P ops Q (o::rest) a w:=
 wpList_plain hgd fun _ hK=>GL w d s t t' ho v u hd hs hr (hK _ _ h)
theorem Ok {ops:Array Oper}{o:Oper}{a:Act}{w:World}{K:Act->World->Prop}{Q:Exit->Act->World->Prop}{E:Prop}
  (hg:o.guard=none)(d x:Operand)(dT sT:TypeId)(QW:o.op=Op.call { callee:=Callee.builtin Builtin.copy,args:= #[d,x],argTypes:= #[dT,sT] })
  (v u:Value)(hd:a.eval d=v)(hx:a.eval x=u){v':Value}{w':World}(hr:(Builtin.copy_ #[dT,sT] o.type #[v,u]).run P w=.ok v' w') (hK:K (a.put o.dst v') w'):
  if Region.wanted o (yielded ops a.tmps)=true then Oper.wp P o a w K Q else E:=by
 have hw:Region.wanted o (yielded ops a.tmps)=true:=by simp[Region.wanted,hg]
 rw[Lw hw];unfold Oper.wp;simp[execOp,QW,resolve,invoke,builtin,hd,hx,hr,Result.andThen];exact hK
end
end
end Go.Proofs.Ytcgfahlefkfghaa.Pv
