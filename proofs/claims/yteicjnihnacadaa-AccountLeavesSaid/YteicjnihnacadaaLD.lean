/-
  The proof of AccountLeaves, part 4.
-/
import Derived.Test.YteicjnihnacadaaLC
import Derived.Test.YteicjnihnacadaaRows
import Derived.Sort.Walk0
import Derived.Lib.BytesEntry
import Derived.Lib.Bytealg
import Derived.Lib.Walk
import Derived.WalkKit
import Derived.WalkMore
import Derived.Shelf.RegionOpenPlain
import Derived.Lib.Overlaps
import Derived.Lib.AppendZerosOnto
import Derived.Lib.SliceRun
import Derived.Laws.Externs
import Derived.Laws.IdiomCopy
import Derived.Laws.NewBlocks
set_option linter.unusedSimpArgs false
set_option linter.unusedVariables false
namespace Go.Proofs.Yteicjnihnacadaa.Pv
section
open Go.Proofs.Try (prog)
open Go.IntKind (wrap)
section
variable {fu d:Nat} {xs:FuncId->Option (List PV->Option Be)}
theorem VT {x k:Int}(hk:k=13∨k=16∨k=17∨k=21∨k=32):Am (CX xs) prog fu (d+1) Id [.sc (.int .u64 x),.sc (.int .i64 k)]=some ⟨[.sc (.int .u64 (rot x k))],[]⟩:=by
 rw[Oo];rcases hk with rfl|rfl|rfl|rfl|rfl<;>kernel_rfl
theorem RH {x k:Int}(hk:k=13∨k=16∨k=17∨k=21∨k=32):Am (CX xs) prog fu (d+1) I9 [.sc (.int .u64 x),.sc (.int .u64 k)]=some ⟨[.sc (.int .u64 (rot x k))],[]⟩:=by
 rw[Pp];rcases hk with rfl|rfl|rfl|rfl|rfl<;>kernel_rfl
theorem Tc {a0 a1 a2 a3 a4:Int}:∀(k i nn:Nat)(v:W4),k<nn->i+k<=100 ->
  C2 fu (Am (CX xs) prog fu (d+1)) a0 a1 a2 a3 a4 nn ((i+k:Nat):Int) i v.a v.b v.c v.d=some ⟨[],[(HG k v).cells]⟩
 |_,_,0,_,h,_=>by omega
 |0,i,nn+1,v,h,hi=>by
  rw[Fe,P5 _ _ _ (by omega)]
  rfl
 |k+1,i,nn+1,v,h,hi=>by
  have ih:=Tc (a0:=a0) (a1:=a1) (a2:=a2) (a3:=a3) (a4:=a4) k (i+1) nn (Xi v) (by omega) (by omega)
  have w:wrap .i64 ((i:Int)+1)=((i+1:Nat):Int):=by rw[wrap_i64 (by omega) (by omega)];omega
  have r13:=fun x=>VT (xs:=xs) (fu:=fu) (d:=d) (x:=x) (k:=13) (by simp)
  have r16:=fun x=>VT (xs:=xs) (fu:=fu) (d:=d) (x:=x) (k:=16) (by simp)
  have r17:=fun x=>VT (xs:=xs) (fu:=fu) (d:=d) (x:=x) (k:=17) (by simp)
  have r21:=fun x=>VT (xs:=xs) (fu:=fu) (d:=d) (x:=x) (k:=21) (by simp)
  have r32:=fun x=>VT (xs:=xs) (fu:=fu) (d:=d) (x:=x) (k:=32) (by simp)
  rw[Fe];simp (disch:=omega) only[Dn,r13,r16,r17,r21,r32,w];rw[show i+(k+1)=i+1+k by omega]
  exact ih
theorem Zf (k:Nat)(hk:k<=4)(Ei:100<=fu)(v:W4):Am (CX xs) prog fu (d+2) Gn [.pbox [.sc (.int .u64 v.a),.sc (.int .u64 v.b),.sc (.int .u64 v.c),.sc (.int .u64 v.d)],.sc (.int .i64 k)]=some ⟨[],[(HG k v).cells]⟩:=by
 rw[Mi];have:=Tc (xs:=xs) (fu:=fu) (d:=d) (a0:=v.a) (a1:=v.b) (a2:=v.c) (a3:=v.d) (a4:=k) k 0 fu v (by omega) (by omega)
 rw[Qn] at this;exact this
theorem Zb (Ei:100<=fu)(v:W4)(m:Int):Am (CX xs) prog fu (d+3) Gp [.pbox [.sc (.int .u64 v.a),.sc (.int .u64 v.b),.sc (.int .u64 v.c),.sc (.int .u64 v.d)],.sc (.int .u64 m)]=some ⟨[],[(K6 v m).cells]⟩:=by
 rw[Mj];have r2:=Zf (xs:=xs) (fu:=fu) (d:=d) 2 (by omega) Ei ⟨v.a,v.b,v.c,Cl .u64 v.d m⟩
 have e2:((2:Nat):Int)=2:=rfl;rw[e2] at r2;unfold K6;generalize HG 2 ⟨v.a,v.b,v.c,Cl .u64 v.d m⟩=R at r2 ⊢;simp only[W4.cells] at r2;simp only[Dn,r2];rfl
theorem Afn {a b:Int}{k:Nat}(hk:k<8)(ha:0<=a)(QP:a<((2 ^ (8*k):Nat):Int)) (hb:0<=b)(E1:b<=255):S4 .u64 a (Gc .u64 b (8*(k:Int)))=a+((2 ^ (8*k):Nat):Int)*b:=by
 obtain⟨n,rfl⟩:=Int.eq_ofNat_of_zero_le hb;have e:(8*(k:Int)).toNat=8*k:=by omega
 have hp:n*2 ^ (8*k)<=255*2 ^ (8*k):=Nat.mul_le_mul_right _ (by omega)
 have h56:2 ^ (8*k)<=2 ^ 56:=Nat.pow_le_pow_right (by omega) (by omega)
 have e56:(2:Nat) ^ 56=72057594037927936:=by decide
 rw[e56] at h56;generalize hP:2 ^ (8*k)=p at *
 have Afg:n*p<=255*p:=hp
 have hs:Gc .u64 (n:Int) (8*(k:Int))=(n:Int)*((2 ^ (8*(k:Int)).toNat:Nat):Int):=KX (by omega) (by omega) (by omega) (by
  rw[e,hP];have:((n*p:Nat):Int)<=((255*p:Nat):Int):=by omega
  rw[←Int.natCast_mul];omega)
 rw[hs,e,hP]
 have:=(AL (a:=a) (c:=((n*p:Nat):Int)) (8*k) n ha (by rw[hP];exact QP) (by rw[hP]) (by
  have:((n*p:Nat):Int)<=((255*p:Nat):Int):=by omega
  omega)).1
 rw[←Int.natCast_mul,this,Int.mul_comm ((p:Nat):Int),←Int.natCast_mul]
theorem Agu (k:Nat):((2 ^ (8*k):Nat):Int)=256 ^ k:=by
 rw[Nat.pow_mul];simp
theorem Ti {call:Aj}{n:Nat}{c:List PV}{l:List Int}(hb:Rw l)(hl:l.length<=8):∀(r:List Int)(i nn:Nat),l.drop i=r->r.length<nn->i<=l.length ->
  Ex fu call n c nn (K5 (l.take i)) l.length (At .u8 l) l.length i=some ⟨[.sc (.int .u64 (K5 l))],[]⟩
 |_,_,0,_,h,_=>by omega
 |[],i,nn+1,h,hn,hi=>by
  have:=drop_nil h;rw[I5,P5 _ _ _ (by omega),Rz (by omega)]
 |b::r,i,nn+1,h,hn,hi=>by
  obtain⟨h1,h2,h3⟩:=Ir h;simp only[OZ] at hn;have ih:=Ti (call:=call) (n:=n) (c:=c) hb hl r (i+1) nn h3 (by omega) (by omega)
  have hbb:=hb b (List.mem_of_getElem? h2);have w:wrap .i64 ((i:Int)+1)=((i+1:Nat):Int):=by rw[wrap_i64 (by omega) (by omega)];omega
  have w8:wrap .i64 (8*(i:Int))=8*(i:Int):=wrap_i64 (by omega) (by omega)
  have wb:wrap .u64 b=b:=C1 (by omega) (by omega)
  have Adj:=Lv (l:=l.take i) fun x hx=>hb x (List.mem_of_mem_take hx)
  have htl:(l.take i).length=i:=by rw[List.length_take];omega
  rw[htl] at Adj
  have hj:S4 .u64 (K5 (l.take i)) (Gc .u64 b (8*(i:Int)))=K5 (l.take (i+1)):=by
   rw[Afn (by omega) Adj.1 (by rw[Agu];exact Adj.2) hbb.1 hbb.2,List.take_add_one,h2,Pf,htl,Agu]
   simp[K5]
  rw[I5];simp (disch:=omega) only[Dn,Xa,Ko,ati h2,w,w8,wb,hj];exact ih
theorem Zo {l:List Int}(hb:Rw l)(hl:l.length<=8)(Ei:100<=fu):Am (CX xs) prog fu (d+1) Ma [.lst false 1 l.length (At .u8 l)]=some ⟨[.sc (.int .u64 (K5 l))],[]⟩:=by
 rw[Ua];exact Ti hb hl l 0 fu rfl (by omega) (by omega)
theorem Zz (k:IntKind)(l:List Int)(i:Nat):List.drop i (At k l)=At k (l.drop i):=by
 have:=Ux (Qd k) l i
 simpa using this
theorem G3 (k:IntKind)(l:List Int)(i:Nat):List.take i (At k l)=At k (l.take i):=by
 have:=AK (Qd k) l i
 simpa using this
theorem Rw.drop {l:List Int}(h:Rw l)(i:Nat):Rw (l.drop i):=fun x hx=>h x (List.mem_of_mem_drop hx)
theorem Rw.take {l:List Int}(h:Rw l)(i:Nat):Rw (l.take i):=fun x hx=>h x (List.mem_of_mem_take hx)
theorem ZX {a0 a1:Int}{n:Nat}{c:List PV}{l:List Int}(hb:Rw l)(hl:l.length<=1099511627776)(Ei:100<=fu)(nn:Nat)(v:W4):
  Fc fu (Am (CX xs) prog fu (d+3)) a0 a1 n c (nn+1) l.length (At .u8 l) ((l.length / 8:Nat):Int) ((l.length / 8:Nat):Int) ((l.length / 8:Nat):Int) v.a v.b v.c v.d=some ⟨[.sc (.int .u64 (OJ (NI (K6 v (Ie l)))))],[]⟩:=by
 have w8:wrap .i64 (8*((l.length / 8:Nat):Int))=((8*(l.length / 8):Nat):Int):=by rw[wrap_i64 (by omega) (by omega)];omega
 have wl:wrap .u64 (l.length:Int)=l.length:=C1 (by omega) (by omega)
 have UB:(l.drop (8*(l.length / 8))).length=l.length-8*(l.length / 8):=List.length_drop;have li:=Zo (xs:=xs) (fu:=fu) (d:=d+2) (hb.drop (8*(l.length / 8))) (by omega) Ei
 rw[UB] at li;have tk:List.take (l.length-8*(l.length / 8)) (At .u8 (l.drop (8*(l.length / 8))))=At .u8 (l.drop (8*(l.length / 8))):=Rz (by rw[A9,UB];omega)
 have hbn:=Lv (hb.drop (8*(l.length / 8)));rw[UB] at hbn
 have hp7:(256:Int) ^ (l.length-8*(l.length / 8))<=256 ^ 7:=by
  have:(256:Nat) ^ (l.length-8*(l.length / 8))<=256 ^ 7:=Nat.pow_le_pow_right (by omega) (by omega)
  have h2:(((256:Nat) ^ (l.length-8*(l.length / 8)):Nat):Int)<=((256 ^ 7:Nat):Int):=by omega
  simpa using h2
 have Afj:S4 .u64 (K5 (l.drop (8*(l.length / 8)))) (Gc .u64 (l.length:Int) 56)=Ie l:=by
  have hs:Gc .u64 (l.length:Int) 56=(((l.length % 256)*2 ^ 56:Nat):Int):=by
   show wrap .u64 ((l.length:Int)*2 ^ (min (56:Int).toNat IntKind.u64.bits))=_;have h2:(2:Int) ^ (min (56:Int).toNat IntKind.u64.bits)=72057594037927936:=by decide
   have h3:(2:Nat) ^ 56=72057594037927936:=by decide
   rw[h2,h3];simp only[wrap,IntKind.signed,IntKind.bits];simp;omega
  have h56:(256:Int) ^ 7=((2 ^ 56:Nat):Int):=by decide
  have h3:(2:Nat) ^ 56=72057594037927936:=by decide
  rw[hs,(AL 56 (l.length % 256) hbn.1 (by omega) rfl (by omega)).1]
  unfold Ie;omega
 have ab:=Zb (xs:=xs) (fu:=fu) (d:=d) Ei v (Ie l);have r4:=Zf (xs:=xs) (fu:=fu) (d:=d+1) 4 (by omega) Ei ⟨(K6 v (Ie l)).a,(K6 v (Ie l)).b,Cl .u64 (K6 v (Ie l)).c 255,(K6 v (Ie l)).d⟩
 have e4:((4:Nat):Int)=4:=rfl;rw[e4] at r4;unfold NI;generalize K6 v (Ie l)=U at ab r4 ⊢;generalize HG 4 ⟨U.a,U.b,Cl .u64 U.c 255,U.d⟩=R at r4 ⊢;simp only[W4.cells] at ab r4;rw[Mb];simp (disch:=omega) only[Dn,Xa,Ko,w8,wl,Zz,tk,li,Afj,ab,r4];rfl
theorem FL {a0 a1:Int}{n:Nat}{c:List PV}{l:List Int}(hb:Rw l)(hl:l.length<=1099511627776)(Ei:100<=fu):∀(k i nn:Nat)(v:W4),i+k=l.length / 8->k<nn ->
  Fc fu (Am (CX xs) prog fu (d+3)) a0 a1 n c nn l.length (At .u8 l) ((l.length / 8:Nat):Int) ((l.length / 8:Nat):Int) i v.a v.b v.c v.d=some ⟨[.sc (.int .u64 (OJ (NI (K6 (X4 k v (l.drop (8*i))) (Ie l)))))],[]⟩
 |_,_,0,_,_,h=>by omega
 |0,i,nn+1,v,hi,hn=>by
  have e:i=l.length / 8:=by omega
  subst e;exact ZX hb hl Ei nn v
 |k+1,i,nn+1,v,hi,hn=>by
  have w:wrap .i64 ((i:Int)+1)=((i+1:Nat):Int):=by rw[wrap_i64 (by omega) (by omega)];omega
  have w8:wrap .i64 (8*(i:Int))=((8*i:Nat):Int):=by rw[wrap_i64 (by omega) (by omega)];omega
  have w88:wrap .i64 (((8*i:Nat):Int)+8)=((8*i+8:Nat):Int):=by rw[wrap_i64 (by omega) (by omega)];omega
  have UB:((l.drop (8*i)).take 8).length=8:=by rw[List.length_take,List.length_drop];omega
  have li:=Zo (xs:=xs) (fu:=fu) (d:=d+2) ((hb.drop (8*i)).take 8) (by omega) Ei
  rw[UB] at li;have e8:8*i+8-8*i=8:=by omega
  have ab:=Zb (xs:=xs) (fu:=fu) (d:=d) Ei v (K5 ((l.drop (8*i)).take 8));have ih:=FL (a0:=a0) (a1:=a1) (n:=n) (c:=c) hb hl Ei k (i+1) nn (K6 v (K5 ((l.drop (8*i)).take 8))) (by omega) (by omega)
  have eN:X4 (k+1) v (l.drop (8*i))=X4 k (K6 v (K5 ((l.drop (8*i)).take 8))) (l.drop (8*(i+1))):=by
   rw[X4,List.drop_drop,show 8*i+8=8*(i+1) by omega]
  rw[eN];generalize K6 v (K5 ((l.drop (8*i)).take 8))=U at ab ih ⊢;simp only[W4.cells] at ab;rw[Mb];simp (disch:=omega) only[Dn,Xa,Ko,w,w8,w88,e8,Zz,G3,li,ab];exact ih
theorem Adl {l:List Int}(hb:Rw l)(hl:l.length<=1099511627776)(Ei:100<=fu)(hf:l.length<fu)(k0 k1:Int):Am (CX xs) prog fu (d+4) Q1 [.sc (.int .u64 k0),.sc (.int .u64 k1),.lst false 1 l.length (At .u8 l)]=some ⟨[.sc (.int .u64 (Ab9 k0 k1 l))],[]⟩:=by
 rw[BA]
 have w:wrap .i64 (Int.tdiv (l.length:Int) 8)=((l.length / 8:Nat):Int):=by
  rw[Int.tdiv_eq_ediv_of_nonneg (by omega),wrap_i64 (by omega) (by omega)]
  omega
 have lp:=FL (xs:=xs) (fu:=fu) (d:=d) (a0:=k0) (a1:=k1) (n:=l.length) (c:=At .u8 l) hb hl Ei (l.length / 8) 0 fu (Ab3 k0 k1) (by omega) (by omega)
 simp only[Iw,w];exact lp
theorem It (v:W4):Am (CX xs) prog fu (d+2) Ig [.agg [.sc (.int .u64 v.a),.sc (.int .u64 v.b),.sc (.int .u64 v.c),.sc (.int .u64 v.d)]]=some ⟨[.agg (Xi v).cells],[]⟩:=by
 have r13:=fun x=>RH (xs:=xs) (fu:=fu) (d:=d) (x:=x) (k:=13) (by simp)
 have r16:=fun x=>RH (xs:=xs) (fu:=fu) (d:=d) (x:=x) (k:=16) (by simp)
 have r17:=fun x=>RH (xs:=xs) (fu:=fu) (d:=d) (x:=x) (k:=17) (by simp)
 have r21:=fun x=>RH (xs:=xs) (fu:=fu) (d:=d) (x:=x) (k:=21) (by simp)
 have r32:=fun x=>RH (xs:=xs) (fu:=fu) (d:=d) (x:=x) (k:=32) (by simp)
 rw[Om];simp (disch:=omega) only[Dn,r13,r16,r17,r21,r32];rfl
def Me (l:List Int)(i k:Nat):Int:=if i+k<l.length then l.getD (i+k) 0 else if k=7 then (l.length:Int) % 256 else 0
def pc (l:List Int)(i:Nat):List Int:=(List.range 8).map (Me l i)
theorem Ajm {l:List Int}(hb:Rw l)(i:Nat):Rw (pc l i):=by
 intro x hx;obtain⟨k,hk,rfl⟩:=List.mem_map.1 hx;unfold Me;split
 ·rename_i h;rw[List.getD_eq_getElem?_getD,List.getElem?_eq_getElem h];exact hb _ (List.getElem_mem h)
 ·split<;>omega
theorem WU {l:List Int}{i:Nat}(h:i+8<=l.length):pc l i=(l.drop i).take 8:=by
 refine List.ext_getElem (by simp[pc];omega) fun k h1 h2=>?_
 have hk:k<8:=by simpa [pc] using h1
 simp only[pc,List.getElem_map,List.getElem_range,List.getElem_take,List.getElem_drop,Me];rw[L9 (by omega),List.getD_eq_getElem?_getD,List.getElem?_eq_getElem (by omega)]
 rfl
theorem Yl (x:Int):∀n,K5 (List.replicate n 0++[x])=256 ^ n*x
 |0=>by simp[K5]
 |n+1=>by
  rw[List.replicate_succ,List.cons_append,K5,Yl x n,Int.pow_succ,Int.mul_comm (256 ^ n) 256,Int.mul_assoc];omega
theorem ZN {l:List Int}:K5 (pc l (8*(l.length / 8)))=Ie l:=by
 have e:pc l (8*(l.length / 8))=l.drop (8*(l.length / 8))++(List.replicate (7-(l.length-8*(l.length / 8))) 0++[(l.length:Int) % 256]):=by
  refine List.ext_getElem (by simp[pc];omega) fun k h1 h2=>?_
  have hk:k<8:=by simpa [pc] using h1
  simp only[pc,List.getElem_map,List.getElem_range,Me];by_cases hc:8*(l.length / 8)+k<l.length
  ·rw[L9 hc,List.getElem_append_left (by rw[List.length_drop];omega),List.getElem_drop,List.getD_eq_getElem?_getD,List.getElem?_eq_getElem hc]
   rfl
  ·rw[Ld hc,List.getElem_append_right (by rw[List.length_drop];omega)]
   by_cases h7:k=7
   ·rw[L9 h7,List.getElem_append_right (by simp;omega)]
    simp
   ·rw[Ld h7,List.getElem_append_left (by simp;omega)]
    simp
 rw[e,Pf,Yl];unfold Ie
 have:(256:Int) ^ (l.drop (8*(l.length / 8))).length*(256 ^ (7-(l.length-8*(l.length / 8)))*((l.length:Int) % 256))=72057594037927936*((l.length:Int) % 256):=by
  rw[←Int.mul_assoc,←Int.pow_add,List.length_drop];have:l.length-8*(l.length / 8)+(7-(l.length-8*(l.length / 8)))=7:=by omega
  rw[this];rfl
 rw[this]
theorem Af6 {a b:Int}(ha:0<=a)(QP:a<72057594037927936)(hb:0<=b)(E1:b<=255):S4 .u64 (Gc .u64 a 8) b=b+256*a:=by
 obtain⟨n,rfl⟩:=Int.eq_ofNat_of_zero_le ha
 have hs:Gc .u64 (n:Int) 8=((n*2 ^ 8:Nat):Int):=by
  have:=KX (a:=(n:Int)) (k:=8) (by omega) (by omega) (by omega) (by
   have:(2 ^ (8:Int).toNat:Nat)=256:=by decide
   rw[this];omega)
  rw[this];have:(2 ^ (8:Int).toNat:Nat)=256:=by decide
  rw[this];have:(2 ^ 8:Nat)=256:=by decide
  rw[this];omega
 have h8:(2 ^ 8:Nat)=256:=by decide
 rw[hs,(AL (a:=b) 8 n hb (by rw[h8];omega) rfl (by rw[h8];omega)).2,h8]
 omega
theorem MF {a0 a1:Int}{n m0:Nat}{c:List PV}{l:List Int}(hb:Rw l)(hl:l.length<=1099511627776){i:Nat}(hi:i<=l.length)(v:W4):∀(j nn:Nat),j<=8->j<nn ->
  Cp fu (Am (CX xs) prog fu (d+2)) a0 a1 n c m0 nn l.length (At .u8 l) i (K5 ((pc l i).drop j)) ((j:Int)-1) v.cells =
   C7 fu (Am (CX xs) prog fu (d+2)) a0 a1 n c m0 l.length (At .u8 l) ((i+8:Nat):Int) (K6 v (K5 (pc l i))).cells
 |_,0,_,h=>by omega
 |0,nn+1,hj,hn=>by
  have w8:wrap .i64 ((i:Int)+8)=((i+8:Nat):Int):=by rw[wrap_i64 (by omega) (by omega)];omega
  have r1:=It (xs:=xs) (fu:=fu) (d:=d) ⟨v.a,v.b,v.c,Cl .u64 v.d (K5 (pc l i))⟩;have r2:=It (xs:=xs) (fu:=fu) (d:=d) (Xi ⟨v.a,v.b,v.c,Cl .u64 v.d (K5 (pc l i))⟩);have eA:K6 v (K5 (pc l i))=Ae8 (Xi (Xi ⟨v.a,v.b,v.c,Cl .u64 v.d (K5 (pc l i))⟩)) (K5 (pc l i)):=rfl;rw[eA];generalize Xi ⟨v.a,v.b,v.c,Cl .u64 v.d (K5 (pc l i))⟩=U at r1 r2 ⊢;generalize Xi U=U2 at r2 ⊢;simp only[W4.cells] at r1 r2;rw[Hl,P5 _ _ _ (by omega),S5]
  simp only[W4.cells,List.getD_cons_zero,List.getD_cons_succ,BZ,Iw];simp (disch:=first|omega|(simp;done)) only[Dn,A0,List.take_succ_cons,List.take_zero,List.drop_succ_cons,S5,List.drop_nil,List.cons_append,Zzq,List.append_nil,OZ,List.length_nil,List.getD_cons_zero,List.getD_cons_succ,r1,r2,w8,Qn,Nat.reduceAdd,Nat.reduceLeDiff,List.append_eq]
  rfl
 |j+1,nn+1,hj,hn=>by
  have ih:=MF (a0:=a0) (a1:=a1) (n:=n) (m0:=m0) (c:=c) hb hl hi v j nn (by omega) (by omega)
  have hw:wrap .i64 ((i:Int)+(((j+1:Nat):Int)-1))=((i+j:Nat):Int):=by rw[wrap_i64 (by omega) (by omega)];omega
  have wj:wrap .i64 (((j+1:Nat):Int)-1-1)=(j:Int)-1:=by rw[wrap_i64 (by omega) (by omega)];omega
  have hd:(pc l i).drop j=Me l i j::(pc l i).drop (j+1):=by
   rw[List.drop_eq_getElem_cons (by simp[pc];omega)]
   simp[pc]
  have hB:=Ajm hb i;have hbn:=Lv (hB.drop (j+1))
  have hp7:(256:Int) ^ ((pc l i).drop (j+1)).length<=72057594037927936:=by
   have C3:((pc l i).drop (j+1)).length<=7:=by simp[pc]
   have:(256:Nat) ^ ((pc l i).drop (j+1)).length<=256 ^ 7:=Nat.pow_le_pow_right (by omega) C3
   have h2:(((256:Nat) ^ ((pc l i).drop (j+1)).length:Nat):Int)<=((256 ^ 7:Nat):Int):=by omega
   simpa using h2
  have hc0:0<=Me l i j∧Me l i j<=255:=hB _ (by rw[←S5 (l:=pc l i)];exact List.mem_of_mem_drop (i:=j) (by rw[S5,hd];simp))
  have hj2:S4 .u64 (Gc .u64 (K5 ((pc l i).drop (j+1))) 8) (Me l i j)=K5 ((pc l i).drop j):=by
   rw[Af6 hbn.1 (by omega) hc0.1 hc0.2,hd]
   rfl
  have wc:wrap .u64 (Me l i j)=Me l i j:=C1 (by omega) (by omega)
  rw[Hl,Wc _ _ _ (by omega)]
  simp only[Iw,hw];by_cases c1:i+j<l.length
  ·have e:Me l i j=l.getD (i+j) 0:=by unfold Me;rw[L9 c1]
   have e2:l[i+j]?=some (Me l i j):=by rw[e,List.getD_eq_getElem?_getD,List.getElem?_eq_getElem c1];rfl
   rw[Wc _ _ _ (by omega)]
   simp (disch:=omega) only[Dn,Xa,Ko,ati e2,wc,hj2,wj];exact ih
  ·rw[P5 _ _ _ (by omega)]
   by_cases h7:j=7
   ·subst h7;have e:Me l i 7=(l.length:Int) % 256:=by unfold Me;rw[Ld c1,L9 rfl]
    have e8:wrap .u8 (l.length:Int)=Me l i 7:=by
     rw[e];simp only[wrap,IntKind.signed,IntKind.bits];simp
    rw[MJ,L9 (by omega),e8,wc,hj2,wj]
    exact ih
   ·have e:Me l i j=0:=by unfold Me;rw[Ld c1,Ld h7]
    rw[e] at hj2;rw[MJ,Ld (by omega),hj2,wj]
    exact ih
theorem Y0 {a0 a1:Int}{n:Nat}{c:List PV}{l:List Int}(hb:Rw l)(hl:l.length<=1099511627776)(Ei:100<=fu):∀(k i nn:Nat)(v:W4),i+k=l.length / 8->k+1<nn ->
  C7 fu (Am (CX xs) prog fu (d+2)) a0 a1 n c nn l.length (At .u8 l) ((8*i:Nat):Int) v.cells=some ⟨[.sc (.int .u64 (OJ (NI (K6 (X4 k v (l.drop (8*i))) (Ie l)))))],[]⟩
 |_,_,0,_,_,h=>by omega
 |k,i,nn+1,v,hi,hn=>by
  have step:=MF (xs:=xs) (fu:=fu) (d:=d) (a0:=a0) (a1:=a1) (n:=n) (m0:=nn) (c:=c) hb hl (i:=8*i) (by omega) v 8 fu (by omega) (by omega)
  have e0:K5 ((pc l (8*i)).drop 8)=0:=by rw[List.drop_of_length_le (by simp[pc])];rfl
  rw[e0] at step;rw[Hn,Wc _ _ _ (by omega)]
  refine step.trans ?_;cases k with
  |zero=>
   have e:i=l.length / 8:=by omega
   subst e;rw[ZN];generalize hv:K6 v (Ie l)=u;obtain⟨nn',rfl⟩:∃nn',nn=nn'+1:=⟨nn-1,by omega⟩
   have r1:=It (xs:=xs) (fu:=fu) (d:=d) ⟨u.a,u.b,Cl .u64 u.c 255,u.d⟩;have r2:=It (xs:=xs) (fu:=fu) (d:=d) (Xi ⟨u.a,u.b,Cl .u64 u.c 255,u.d⟩);have r3:=It (xs:=xs) (fu:=fu) (d:=d) (Xi (Xi ⟨u.a,u.b,Cl .u64 u.c 255,u.d⟩));have r4:=It (xs:=xs) (fu:=fu) (d:=d) (Xi (Xi (Xi ⟨u.a,u.b,Cl .u64 u.c 255,u.d⟩)))
   have eF:OJ (NI (K6 (X4 0 v (l.drop (8*(l.length / 8)))) (Ie l)))=OJ (Xi (Xi (Xi (Xi ⟨u.a,u.b,Cl .u64 u.c 255,u.d⟩)))):=by
    rw[X4,hv];rfl
   rw[eF];clear eF;generalize Xi ⟨u.a,u.b,Cl .u64 u.c 255,u.d⟩=U1 at r1 r2 r3 r4 ⊢;generalize Xi U1=U2 at r2 r3 r4 ⊢;generalize Xi U2=U3 at r3 r4 ⊢;generalize Xi U3=U4 at r4 ⊢;simp only[W4.cells] at r1 r2 r3 r4;rw[Hn,P5 _ _ _ (by omega)]
   simp only[W4.cells,List.getD_cons_zero,List.getD_cons_succ,BZ,Iw];simp (disch:=first|omega|(simp;done)) only[Dn,A0,List.take_succ_cons,List.take_zero,List.drop_succ_cons,S5,List.drop_nil,List.cons_append,Zzq,List.append_nil,OZ,List.length_nil,List.getD_cons_zero,List.getD_cons_succ,r1,r2,r3,r4,Qn,Nat.reduceAdd,Nat.reduceLeDiff,List.append_eq]
   rfl
  |succ k=>
   have ih:=Y0 (a0:=a0) (a1:=a1) (n:=n) (c:=c) hb hl Ei k (i+1) nn (K6 v (K5 (pc l (8*i)))) (by omega) (by omega)
   rw[show 8*i+8=8*(i+1) by omega,ih,WU (by omega)]
   simp only[X4,List.drop_drop];rw[show 8*(i+1)=8*i+8 by omega]
theorem WY {l:List Int}(hb:Rw l)(hl:l.length<=1099511627776)(Ei:100<=fu)(hf:l.length<fu)(k0 k1:Int):Am (CX xs) prog fu (d+3) Jr [.sc (.int .u64 k0),.sc (.int .u64 k1),.lst false 1 l.length (At .u8 l)]=some ⟨[.sc (.int .u64 (Ab9 k0 k1 l))],[]⟩:=by
 rw[Rh];exact Y0 (xs:=xs) (fu:=fu) (d:=d) (a0:=k0) (a1:=k1) (n:=l.length) (c:=At .u8 l) hb hl Ei (l.length / 8) 0 fu (Ab3 k0 k1) (by omega) (by omega)
theorem YB {l:List Int}(hb:Rw l)(hl:l.length<=1099511627776)(Ei:100<=fu)(hf:l.length<fu)(key dom:Int):Am (CX xs) prog fu (d+4) Jw [.sc (.int .u64 key),.sc (.int .i64 dom),.lst false 1 l.length (At .u8 l)]=some ⟨[.sc (.int .u64 (AD key dom l))],[]⟩:=by
 rw[Qs];have s:=WY (xs:=xs) (fu:=fu) (d:=d) hb hl Ei hf key (wrap .u64 (1+wrap .u64 dom));simp only[Dn,s];rfl
end
end
section
open Go.Proofs.Try (prog)
open Go.IntKind (wrap)
def G9 (w:Int)(k:Nat):Int:=wrap .u8 (AY .u64 w (56-8*(k:Int)))
def Ep (w:Int):List Int:=(List.range' 0 8).map (G9 w)
def Bd (ws:List Int):List Int:=ws.flatMap Ep
theorem Df (w:Int):(Ep w).length=8:=rfl
section
variable {fu d:Nat} {xs:FuncId->Option (List PV->Option Be)} {call:Aj} {n:Nat} {c:List PV}
theorem DA {ws:List Int}{w:Int}{m0 l:Nat}{i k:Int}:∀(r j nn:Nat)(bs:List Int),8-j=r->r<nn->j<=8->bs.length+r<=34359738368 ->
  Fg fu call n c m0 nn bs.length w l (At .u64 ws) k i j (At .u8 bs) =
   Ee fu call n c m0 (bs++(List.range' j (8-j)).map (G9 w)).length l (At .u64 ws) k (wrap .i64 (i+1)) (At .u8 (bs++(List.range' j (8-j)).map (G9 w)))
 |r,j,0,bs,_,h,_,_=>by omega
 |0,j,nn+1,bs,hr,_,hj,_=>by
  have e:j=8:=by omega
  subst e;rw[Jq];simp (disch:=omega) only[Dn];simp
 |r+1,j,nn+1,bs,hr,hn,hj,hb=>by
  have ih:=DA (ws:=ws) (w:=w) (m0:=m0) (l:=l) (i:=i) (k:=k) r (j+1) nn (bs++[G9 w j]) (by omega) (by omega) (by omega) (by simp;omega)
  have e8:=A9 .u8 bs;rw[Jq]
  have hx:wrap .u8 (AY .u64 w (wrap .i64 (56-wrap .i64 (8*(j:Int)))))=G9 w j:=by
   rw[wrap_i64 (x:=8*(j:Int)) (by omega) (by omega),wrap_i64 (by omega) (by omega)]
   rfl
  have h0:0<=wrap .i64 (56-wrap .i64 (8*(j:Int))):=by
   rw[wrap_i64 (x:=8*(j:Int)) (by omega) (by omega),wrap_i64 (by omega) (by omega)]
   omega
  have JN:List.range' j (8-j)=j::List.range' (j+1) (8-(j+1)):=by
   rw[show 8-j=(8-(j+1))+1 by omega]
   exact List.range'_succ
  simp (disch:=first|omega|exact h0) only[Dn,Ko,hx,WR,FQ,wrap_i64 (x:=(j:Int)+1)];rw[JN];simp only[RS,OZ,List.length_nil,Qn,VW,List.map_cons,List.singleton_append] at ih ⊢;exact ih
theorem Vl {ws:List Int}(hl:ws.length<=1073741824)(Ei:100<=fu):∀(r:List Int)(i nn:Nat)(bs:List Int),ws.drop i=r->r.length<nn->bs.length=8*i ->
  Ee fu call n c nn bs.length ws.length (At .u64 ws) ws.length i (At .u8 bs)=some ⟨[.own 1 (bs++Bd r).length (At .u8 (bs++Bd r))],[]⟩
 |r,i,0,_,_,h,_=>by omega
 |[],i,nn+1,bs,h,_,_=>by
  have:=drop_nil h;have e8:=A9 .u8 bs;rw[Jt];simp (disch:=omega) only[Dn,Ko,WR,Bd,List.flatMap_nil,List.append_nil]
 |w::r,i,nn+1,bs,h,hn,hb=>by
  obtain⟨h1,h2,h3⟩:=Ir h;simp only[OZ] at hn;rw[Jt];simp (disch:=omega) only[Dn,Xa,Ko,ati h2];rw[show (0:Int)=((0:Nat):Int) from rfl,DA 8 0 fu bs rfl (by omega) (by omega) (by omega),wrap_i64 (by omega) (by omega)]
  have ih:=Vl hl Ei r (i+1) nn (bs++Ep w) h3 (by omega) (by simp[Df];omega)
  have e:bs++Ep w++Bd r=bs++Bd (w::r):=by simp[Bd]
  rw[e] at ih;exact ih
theorem EK {ws:List Int}(hl:ws.length<=1073741824)(Ei:100<=fu)(hf:ws.length<fu):Am (CX xs) prog fu (d+1) F5 [.lst false 1 ws.length (At .u64 ws)]=some ⟨[.own 1 (Bd ws).length (At .u8 (Bd ws))],[]⟩:=by
 rw[Vi];simp (disch:=omega) only[Dn,wrap_i64,Int.mul_one];exact Vl hl Ei ws 0 fu [] rfl hf rfl
theorem Ze {ws:List Int}{w:Int}{m0 i:Nat}(hw:ws[i]?=some w):∀(r nn:Nat)(j:Int)(bs:List Int),j=(r:Int)-1->r<=8->r<nn->bs.length+r<=34359738368 ->
  Dk fu call n c m0 nn ws.length (At .u64 ws) bs.length i j (At .u8 bs) =
   Cw fu call n c m0 ws.length (At .u64 ws) (bs++(List.range' (8-r) r).map (G9 w)).length (wrap .i64 (i+1)) (At .u8 (bs++(List.range' (8-r) r).map (G9 w)))
 |r,0,j,bs,_,_,h,_=>by omega
 |0,nn+1,j,bs,hr,_,_,_=>by
  rw[Gg];simp (disch:=omega) only[Dn];simp
 |r+1,nn+1,j,bs,hr,Re,hn,hb=>by
  have hi:=I6 hw;have ih:=Ze (m0:=m0) hw r nn (j-1) (bs++[G9 w (8-(r+1))]) (by omega) (by omega) (by omega) (by simp;omega)
  have e8:=A9 .u8 bs
  have hx:wrap .u8 (AY .u64 w (wrap .u64 (wrap .i64 (8*j))))=G9 w (8-(r+1)):=by
   rw[wrap_i64 (by omega) (by omega),C1 (by omega) (by omega)]
   unfold G9;rw[show 56-8*((8-(r+1):Nat):Int)=8*j by omega]
  have h0:0<=wrap .u64 (wrap .i64 (8*j)):=by
   rw[wrap_i64 (by omega) (by omega),C1 (by omega) (by omega)]
   omega
  have JN:List.range' (8-(r+1)) (r+1)=(8-(r+1))::List.range' (8-r) r:=by
   rw[List.range'_succ,show 8-(r+1)+1=8-r by omega]
  rw[Gg];simp (disch:=first|omega|exact h0) only[Dn,Xa,Ko,ati hw,hx,WR,FQ,wrap_i64 (x:=j-1)];rw[JN];simp only[RS,OZ,List.length_nil,Qn,VW,List.map_cons,List.singleton_append] at ih ⊢;exact ih
theorem Tu {ws:List Int}(hl:ws.length<=1073741824)(Ei:100<=fu):∀(r:List Int)(i nn:Nat)(bs:List Int),ws.drop i=r->r.length<nn->bs.length=8*i ->
  Cw fu call n c nn ws.length (At .u64 ws) bs.length i (At .u8 bs)=some ⟨[.own 1 (bs++Bd r).length (At .u8 (bs++Bd r))],[]⟩
 |r,i,0,_,_,h,_=>by omega
 |[],i,nn+1,bs,h,_,_=>by
  have:=drop_nil h;have e8:=A9 .u8 bs;rw[F9];simp (disch:=omega) only[Dn,Ko,WR,Bd,List.flatMap_nil,List.append_nil]
 |w::r,i,nn+1,bs,h,hn,hb=>by
  obtain⟨h1,h2,h3⟩:=Ir h;simp only[OZ] at hn;rw[F9];simp (disch:=omega) only[Dn];rw[Ze h2 8 fu 7 bs rfl (by omega) (by omega) (by omega),wrap_i64 (by omega) (by omega)]
  have ih:=Tu hl Ei r (i+1) nn (bs++Ep w) h3 (by omega) (by simp[Df];omega)
  have e:bs++Ep w++Bd r=bs++Bd (w::r):=by simp[Bd]
  rw[e] at ih;exact ih
theorem Y8 {ws:List Int}(hl:ws.length<=1073741824)(Ei:100<=fu)(hf:ws.length<fu):Am (CX xs) prog fu (d+1) Du [.lst false 1 ws.length (At .u64 ws)]=some ⟨[.own 1 (Bd ws).length (At .u8 (Bd ws))],[]⟩:=by
 rw[Oy];exact Tu hl Ei ws 0 fu [] rfl hf rfl
end
end
section
open Go.IntKind (wrap)
theorem TY (k:IntKind)(l:List Int)(i:Nat)(x:Int):(At k l).set i (.sc (.int k x))=At k (l.set i x):=by
 induction l generalizing i with
 |nil=>rfl
 |cons a l ih=>
  cases i with
  |zero=>rfl
  |succ i=>
   show (PV.sc (.int k a)::At k l).set (i+1) _=PV.sc (.int k a)::At k (l.set i x);rw[List.set_cons_succ,ih]
theorem UC (w:Int)(k:Nat):0<=G9 w k∧G9 w k<=255:=by
 unfold G9;simp only[wrap,IntKind.signed,IntKind.bits];simp;omega
theorem LO (w:Int):Rw (Ep w):=by
 intro x hx;obtain⟨k,_,rfl⟩:=List.mem_map.1 hx;exact UC w k
theorem EX (ws:List Int):Rw (Bd ws):=by
 intro x hx;obtain⟨w,_,hx⟩:=List.mem_flatMap.1 hx;exact LO w x hx
theorem Lm (ws:List Int):(Bd ws).length=8*ws.length:=by
 induction ws with
 |nil=>rfl
 |cons w ws ih=>
  show (Ep w++Bd ws).length=_;rw[RS,ih,Df,OZ];omega
end
section
open Go.IntKind (wrap)
def Wg:PV->Bool
 |.sc (.int .i64 _)=>true
 |_=>false
def RT (args:List PV):Option Be:=
 match args with
 |[.own 2 n c,.sc (.int .i64 i),.tup [.own 2 1 [.sc (.int .i64 f),.sc (.int .i64 l)]]]=>
  bif Nat.beq c.length (n*2)&&decide (0<=i)&&decide (i<=n)&&Nat.ble n 100000&&c.all Wg then
   some ⟨[.own 2 (n+1) (c.take (i.toNat*2)++(.sc (.int .i64 f) :: .sc (.int .i64 l)::c.drop (i.toNat*2)))],[[.sc (.int .i64 f),.sc (.int .i64 l)]]⟩
  else none
 |_=>none
def Fw (f:FuncId):Option (List PV->Option Be):=
 bif Nat.beq f 44 then some M7 else
 bif Nat.beq f 45 then some RT else
 bif Nat.beq f 1000000 then some (fun _=>none) else none
abbrev C0:Et:=CX Fw
end
section
open Go.Proofs.Try (prog)
open Go.IntKind (wrap)
set_option maxRecDepth 100000
abbrev O3:FuncId:=40
theorem Xs {xs:FuncId->Option (List PV->Option Be)} (fu d Bv:Nat)(a0:List PV):Am (CX xs) prog fu (d+1) O3 [.lst false 1 Bv a0]=(fun (call:Aj)=>Ca (decide (0<Bv)) (Ar (decide (a0.length=Bv*1)&&decide ((0+Bv)*1<=1099511627776)&&decide (0+Bv<=1099511627776))<|Aa (0+Bv) fun x1=>Aa ([]++a0) fun x2=>Ar (decide (x1*1<=x2.length))<|some (Be.mk [.own 1 x1 (List.take (x1*1) x2)] [])) (Tq (some (Be.mk [.own 1 0 []] [])) (Ar (decide (a0.length=Bv*1)&&decide ((0+Bv)*1<=1099511627776)&&decide (0+Bv<=1099511627776))<|Aa (0+Bv) fun x3=>Aa ([]++a0) fun x4=>Ar (decide (x3*1<=x4.length))<|some (Be.mk [.own 1 x3 (List.take (x3*1) x4)] [])))) (Am (CX xs) prog fu d):=by kernel_rfl
abbrev Hu:FuncId:=57
theorem Mk {xs:FuncId->Option (List PV->Option Be)} (fu d Bv:Nat)(a0:List PV):Am (CX xs) prog fu (d+1) Hu [.lst false 2 Bv a0]=(fun (call:Aj)=>Ca (decide (0<Bv)) (Ar (decide (a0.length=Bv*2)&&decide ((0+Bv)*16<=1099511627776)&&decide (0+Bv<=1099511627776))<|Aa (0+Bv) fun x1=>Aa ([]++a0) fun x2=>Ar (decide (x1*2<=x2.length))<|some (Be.mk [.own 2 x1 (List.take (x1*2) x2)] [])) (Tq (some (Be.mk [.own 2 0 []] [])) (Ar (decide (a0.length=Bv*2)&&decide ((0+Bv)*16<=1099511627776)&&decide (0+Bv<=1099511627776))<|Aa (0+Bv) fun x3=>Aa ([]++a0) fun x4=>Ar (decide (x3*2<=x4.length))<|some (Be.mk [.own 2 x3 (List.take (x3*2) x4)] [])))) (Am (CX xs) prog fu d):=by kernel_rfl
abbrev Hr:FuncId:=39
theorem Mu {xs:FuncId->Option (List PV->Option Be)} (fu d Ia:Nat)(Fm:List PV)(Fd Fk:Int)(Fa Ok:Int)(Ot:Bool)(Od:Int)(Ib:Nat)(Oz:List PV)(On:Bool)(Oh Ic:Int):Am (CX xs) prog fu (d+1) Hr [.agg [.lst false 1 Ia Fm,.sc (.int .i64 Fd),.sc (.int .u64 Fk),.sc (.int .u64 Fa),.sc (.int .i64 Ok),.sc (.bool Ot),.sc (.int .u64 Od),.lst false 2 Ib Oz,.sc (.bool On),.sc (.int .i64 Oh),.sc (.int .i64 Ic)]]=(fun (call:Aj)=>As (call 40 [.lst false 1 Ia Fm]) fun x1 x2=>Ah x2<|Ab x1 fun x3 x4=>M4 1 x3 fun x5 x6=>Ah x4<|As (call 57 [.lst false 2 Ib Oz]) fun x7 x8=>Ah x8<|Ab x7 fun x9 La=>M4 2 x9 fun Mh Ju=>Ah La<|Ar (decide (x5*1<=x6.length))<|Ar (decide (Mh*2<=Ju.length))<|some (Be.mk [.agg [.own 1 x5 (List.take (x5*1) x6),.sc (.int .i64 Fd),.sc (.int .u64 Fk),.sc (.int .u64 Fa),.sc (.int .i64 Ok),.sc (.bool Ot),.sc (.int .u64 Od),.own 2 Mh (List.take (Mh*2) Ju),.sc (.bool On),.sc (.int .i64 Oh),.sc (.int .i64 Ic)]] [])) (Am (CX xs) prog fu d):=by kernel_rfl
abbrev Lh:FuncId:=38
noncomputable def Fv (fu:Nat)(call:Aj)(Bv:Nat)(a0:List PV)(nn y0 y1:Nat)(y2:List PV)(y3 y4:Int)(y5:List PV):Option Be:=Cv CB prog fu call 38 Try.f38 (Bw Try.f38) [.lst false 3 Bv a0] [.r,.r,.l,.r,.l] nn ⟨lk [(3,(.view 3 3 0 y0)),(13,(.lst false 3 y1 y2)),(14,(.sc (.int .i64 y3))),(15,(.sc (.int .i64 y4)))],E3 [(3,(.ar false y5))]⟩
noncomputable def Ky (fu:Nat)(call:Aj)(Bv:Nat)(a0:List PV)(m0 nn:Nat)(y0 y1 y2:Nat)(y3:List PV)(y4 y5:Int)(y6:Nat)(y7:List PV)(y8 y9:Int)(Dl:List PV)(Dt Cq:ByteArray)(Ds:Nat)(D0 E0:List PV):Option Be:=Cv CB prog fu call 38 Try.f38 (Bw Try.f38) [.lst false 3 Bv a0] [.r,.r,.l,.r,.l,.i m0,.r,.r,.l,.l,.r,.r,.l,.r,.l] nn ⟨lk [(3,(.view 3 3 0 y0)),(5,(.ptr 5 0)),(6,(.view 6 11 0 y1)),(13,(.lst false 3 y2 y3)),(14,(.sc (.int .i64 y4))),(15,(.sc (.int .i64 y5))),(25,(.lst false 11 y6 y7)),(26,(.sc (.int .i64 y8))),(27,(.sc (.int .i64 y9)))],E3 [(3,(.ar false Dl)),(5,(.st [(.sc (.string Dt)),(.sc (.string Cq)),(.lst false 11 Ds D0)])),(6,(.ar false E0))]⟩
theorem Jl (fu:Nat)(call:Aj)(Bv:Nat)(a0:List PV)(nn y0 y1:Nat)(y2:List PV)(y3 y4:Int)(y5:List PV):Fv fu call Bv a0 (nn+1) y0 y1 y2 y3 y4 y5=(Ca (decide (y4<y3)) (Ar (decide (0<=y4)&&decide (y4<(↑y1:Int)))<|E7 (List.getD y2 (Int.toNat y4*3) .top) fun x2=>E7 (List.getD y2 (Int.toNat y4*3+1) .top) fun x3=>F3 11 (List.getD y2 (Int.toNat y4*3+1+1) .top) fun x4 x5 x6=>Aa (wrap .i64 ((↑x5:Int)+1)) fun x7=>Ar (decide (0<=x7)&&decide (x7*120<=1099511627776)&&decide (x7<=1099511627776))<|Ky fu call Bv a0 nn (fu) (y0) 0 (y1) (y2) (y3) (y4) x5 x6 ((↑x5:Int)) 0 (y5) x2 x3 x5 x6 ([])) (Ar (decide (y0*3<=y5.length))<|some (Be.mk [.own 3 y0 (List.take (y0*3) y5)] []))):=by kernel_rfl
theorem Lw {xs:FuncId->Option (List PV->Option Be)} (fu d Bv:Nat)(a0:List PV):Am (CX xs) prog fu (d+1) Lh [.lst false 3 Bv a0]=(fun (call:Aj)=>Aa (wrap .i64 ((↑Bv:Int)+1)) fun x1=>Ar (decide (0<=x1)&&decide (x1*56<=1099511627776)&&decide (x1<=1099511627776))<|Fv fu call Bv a0 (fu) 0 (Bv) (a0) ((↑Bv:Int)) 0 ([])) (Am (CX xs) prog fu d):=by kernel_rfl
abbrev Mm:FuncId:=18
noncomputable def Fh (fu:Nat)(call:Aj)(Bv:Nat)(a0:List PV)(a1:ByteArray)(nn:Nat)(y0:ByteArray)(y1:Nat)(y2:List PV)(y3 y4:Int):Option Be:=Cv CB prog fu call 18 Try.f18 (Bw Try.f18) [.lst false 3 Bv a0,.sc (.string a1)] [.r,.l,.r,.l] nn ⟨lk [(1,(.sc (.string y0))),(8,(.lst false 3 y1 y2)),(9,(.sc (.int .i64 y3))),(10,(.sc (.int .i64 y4)))],E3 []⟩
theorem Js (fu:Nat)(call:Aj)(Bv:Nat)(a0:List PV)(a1:ByteArray)(nn:Nat)(y0:ByteArray)(y1:Nat)(y2:List PV)(y3 y4:Int):Fh fu call Bv a0 a1 (nn+1) y0 y1 y2 y3 y4=(Ca (decide (y4<y3)) (Ar (decide (0<=y4)&&decide (y4<(↑y1:Int)))<|E7 (List.getD y2 (Int.toNat y4*3) .top) fun x1=>E7 (List.getD y2 (Int.toNat y4*3+1) .top) fun x2=>F3 11 (List.getD y2 (Int.toNat y4*3+1+1) .top) fun x3 x4 x5=>Ca (Array.toList (ByteArray.data x1)==Array.toList (ByteArray.data y0)) (some (Be.mk [.sc (.int .i64 y4),.sc (.bool true)] [])) (Aa (wrap .i64 (y4+1)) fun x6=>Fh fu call Bv a0 a1 (nn) (y0) (y1) (y2) (y3) x6)) (some (Be.mk [.sc (.int .i64 0),.sc (.bool false)] []))):=by kernel_rfl
theorem Wx {xs:FuncId->Option (List PV->Option Be)} (fu d Bv:Nat)(a0:List PV)(a1:ByteArray):Am (CX xs) prog fu (d+1) Mm [.lst false 3 Bv a0,.sc (.string a1)]=(fun (call:Aj)=>Fh fu call Bv a0 a1 (fu) (a1) (Bv) (a0) ((↑Bv:Int)) 0) (Am (CX xs) prog fu d):=by kernel_rfl
abbrev Ug:FuncId:=35
noncomputable def G2 (fu:Nat)(call:Aj)(Bv:Nat)(a0:List PV)(Mg:Nat)(a1:List PV)(nn y0:Nat)(y1:List PV)(y2:Nat)(y3:List PV)(y4 y5:Int):Option Be:=Cv CB prog fu call 35 Try.f35 (Bw Try.f35) [.lst false 3 Bv a0,.lst false 1 Mg a1] [.r,.l,.r,.l] nn ⟨lk [(1,(.lst false 1 y0 y1)),(11,(.lst false 3 y2 y3)),(12,(.sc (.int .i64 y4))),(13,(.sc (.int .i64 y5)))],E3 []⟩
theorem P0 (fu:Nat)(call:Aj)(Bv:Nat)(a0:List PV)(Mg:Nat)(a1:List PV)(nn y0:Nat)(y1:List PV)(y2:Nat)(y3:List PV)(y4 y5:Int):G2 fu call Bv a0 Mg a1 (nn+1) y0 y1 y2 y3 y4 y5=(Ca (decide (y5<y4)) (Ar (decide (0<=y5)&&decide (y5<(↑y2:Int)))<|E7 (List.getD y3 (Int.toNat y5*3) .top) fun x1=>E7 (List.getD y3 (Int.toNat y5*3+1) .top) fun x2=>F3 11 (List.getD y3 (Int.toNat y5*3+1+1) .top) fun x3 x4 x5=>As (call 55 [.agg [.sc (.string x1),.sc (.string x2),.lst false 11 x4 x5],.lst false 1 y0 y1]) fun x6 x7=>Ah x7<|Ab x6 fun x8 x9=>Ag .i64 x8 fun La=>Ab x9 fun Mh Ju=>A4 Mh fun Px=>Ah Ju<|Ca Px (some (Be.mk [.sc (.int .i64 y5),.sc (.int .i64 La),.sc (.bool true)] [])) (Aa (wrap .i64 (y5+1)) fun Mc=>G2 fu call Bv a0 Mg a1 (nn) (y0) (y1) (y2) (y3) (y4) Mc)) (some (Be.mk [.sc (.int .i64 0),.sc (.int .i64 0),.sc (.bool false)] []))):=by kernel_rfl
theorem Ub {xs:FuncId->Option (List PV->Option Be)} (fu d Bv:Nat)(a0:List PV)(Mg:Nat)(a1:List PV):Am (CX xs) prog fu (d+1) Ug [.lst false 3 Bv a0,.lst false 1 Mg a1]=(fun (call:Aj)=>G2 fu call Bv a0 Mg a1 (fu) (Mg) (a1) (Bv) (a0) ((↑Bv:Int)) 0) (Am (CX xs) prog fu d):=by kernel_rfl
end
section
open Go.Proofs.Try (prog)
open Go.IntKind (wrap)
set_option maxRecDepth 100000
abbrev B8:FuncId:=70
noncomputable def Ay (fu:Nat)(call:Aj)(n:Nat)(c:List PV)(a1 a2:Int)(nn y0:Nat)(y1 y2 y3:Int)(y4:List PV):Option Be:=Cv CB prog fu call 70 Try.f70 (Bw Try.f70) [PV.tup [.own 1 n c],.sc (.int .i64 a1),.sc (.int .i64 a2),.sc (Value.func (Fn.func (44:FuncId)) #[] #[])] [.r,.l] nn ⟨lk [(0,(.view 106000 1 0 y0)),(1,(.sc (.int .i64 y1))),(2,(.sc (.int .i64 y2))),(3,(.sc (Value.func (Fn.func (44:FuncId)) #[] #[]))),(8,(.sc (.int .i64 y3)))],E3 [(106000,(.ar false y4))]⟩
noncomputable def Bh (fu:Nat)(call:Aj)(n:Nat)(c:List PV)(a1 a2:Int)(m0 nn y0:Nat)(y1 y2:Int)(y3 y4:Int)(y5:List PV):Option Be:=Cv CB prog fu call 70 Try.f70 (Bw Try.f70) [PV.tup [.own 1 n c],.sc (.int .i64 a1),.sc (.int .i64 a2),.sc (Value.func (Fn.func (44:FuncId)) #[] #[])] [.r,.l,.i m0,.r,.l,.l,.r,.l] nn ⟨lk [(0,(.view 106000 1 0 y0)),(1,(.sc (.int .i64 y1))),(2,(.sc (.int .i64 y2))),(3,(.sc (Value.func (Fn.func (44:FuncId)) #[] #[]))),(8,(.sc (.int .i64 y3))),(9,(.sc (.int .i64 y4)))],E3 [(106000,(.ar false y5))]⟩
theorem Cx (fu:Nat)(call:Aj)(n:Nat)(c:List PV)(a1 a2:Int)(nn y0:Nat)(y1 y2 y3:Int)(y4:List PV):Ay fu call n c a1 a2 (nn+1) y0 y1 y2 y3 y4=(Ca (decide (y3<y2)) (Bh fu call n c a1 a2 nn (fu) (y0) (y1) (y2) (y3) (y3) (y4)) (some (Be.mk [] [y4]))):=by kernel_rfl
theorem Cy (fu:Nat)(call:Aj)(n:Nat)(c:List PV)(a1 a2:Int)(m0 nn y0:Nat)(y1 y2:Int)(y3 y4:Int)(y5:List PV):Bh fu call n c a1 a2 m0 (nn+1) y0 y1 y2 y3 y4 y5=(Ca (decide (y4>y1)) (Ar (decide (0<=y4)&&decide (y4<(↑y0:Int)))<|F3 1 (List.getD y5 (0+Int.toNat y4*1) .top) fun x2 x3 x4=>Aa (wrap .i64 (y4-1)) fun x5=>Ar (decide (0<=x5)&&decide (x5<(↑y0:Int)))<|F3 1 (List.getD y5 (0+Int.toNat x5*1) .top) fun x6 x7 x8=>As (call (44:FuncId) [.lst false 1 x3 x4,.lst false 1 x7 x8]) fun x9 La=>Ah La<|Ab x9 fun Mh Ju=>Ag .i64 Mh fun Px=>Ah Ju<|Ca (decide (Px<0)) (Aa (wrap .i64 (y4-1)) fun Mc=>Aa (wrap .i64 (y4-1)) fun Nr=>Ar (decide (0<=Nr)&&decide (Nr<(↑y0:Int)))<|F3 1 (List.getD y5 (0+Int.toNat Nr*1) .top) fun Ru Tb Pa=>Ar (decide (0<=y4)&&decide (y4<(↑y0:Int)))<|F3 1 (List.getD y5 (0+Int.toNat y4*1) .top) fun Jj P8 Qt=>Ar (decide (0<=y4)&&decide (y4<(↑y0:Int)))<|Ar (decide (0+Int.toNat y4*1+1<=y5.length))<|Aa (A0 y5 [.lst false 1 Tb Pa] (0+Int.toNat y4*1)) fun Tn=>Ar (decide (0<=Mc)&&decide (Mc<(↑y0:Int)))<|Ar (decide (0+Int.toNat Mc*1+1<=Tn.length))<|Aa (A0 Tn [.lst false 1 P8 Qt] (0+Int.toNat Mc*1)) fun Rx=>Aa (wrap .i64 (y4-1)) fun Iy=>Bh fu call n c a1 a2 m0 (nn) (y0) (y1) (y2) (y3) Iy Rx) (Aa (wrap .i64 (y3+1)) fun U6=>Ay fu call n c a1 a2 (m0) (y0) (y1) (y2) U6 (y5))) (Aa (wrap .i64 (y3+1)) fun Uz=>Ay fu call n c a1 a2 (m0) (y0) (y1) (y2) Uz (y5))):=by kernel_rfl
theorem Fp (fu d n:Nat)(c:List PV)(a1 a2:Int):Am C0 prog fu (d+1) B8 [PV.tup [.own 1 n c],.sc (.int .i64 a1),.sc (.int .i64 a2),.sc (Value.func (Fn.func (44:FuncId)) #[] #[])]=(fun (call:Aj)=>Aa (wrap .i64 (a1+1)) fun x1=>Ay fu call n c a1 a2 (fu) (n) (a1) (a2) x1 (c)) (Am C0 prog fu d):=by kernel_rfl
abbrev D8:FuncId:=60
noncomputable def D4 (fu:Nat)(call:Aj)(n:Nat)(c:List PV)(a1 a2 a3:Int)(nn y0:Nat)(y1 y2 y3:Int)(y4 y5:Bool)(y6:List PV):Option Be:=Cv CB prog fu call 60 Try.f60 (Bw Try.f60) [PV.tup [.own 1 n c],.sc (.int .i64 a1),.sc (.int .i64 a2),.sc (.int .i64 a3),.sc (Value.func (Fn.func (44:FuncId)) #[] #[])] [.r,.r,.l] nn ⟨lk [(0,(.view 296000 1 0 y0)),(1,(.sc (.int .i64 y1))),(2,(.sc (.int .i64 y2))),(3,(.sc (.int .i64 y3))),(4,(.sc (Value.func (Fn.func (44:FuncId)) #[] #[]))),(10,(.sc (.bool y4))),(11,(.sc (.bool y5)))],E3 [(296000,(.ar false y6))]⟩
noncomputable def Al (fu:Nat)(call:Aj)(n:Nat)(c:List PV)(a1 a2 a3:Int)(m0 nn y0:Nat)(y1 y2 y3:Int)(y4 y5:Bool)(y6 y7:Int)(y8:List PV):Option Be:=Cv CB prog fu call 60 Try.f60 (Bw Try.f60) [PV.tup [.own 1 n c],.sc (.int .i64 a1),.sc (.int .i64 a2),.sc (.int .i64 a3),.sc (Value.func (Fn.func (44:FuncId)) #[] #[])] [.r,.r,.l,.i m0,.l,.r,.r,.r,.r,.r,.r] nn ⟨lk [(0,(.view 296000 1 0 y0)),(1,(.sc (.int .i64 y1))),(2,(.sc (.int .i64 y2))),(3,(.sc (.int .i64 y3))),(4,(.sc (Value.func (Fn.func (44:FuncId)) #[] #[]))),(10,(.sc (.bool y4))),(11,(.sc (.bool y5))),(12,(.sc (.int .i64 y6))),(13,(.sc (.int .i64 y7)))],E3 [(296000,(.ar false y8))]⟩
theorem Gh (fu:Nat)(call:Aj)(n:Nat)(c:List PV)(a1 a2 a3:Int)(nn y0:Nat)(y1 y2 y3:Int)(y4 y5:Bool)(y6:List PV):D4 fu call n c a1 a2 a3 (nn+1) y0 y1 y2 y3 y4 y5 y6=(Aa (wrap .i64 (y2-y1)) fun x1=>Ca (decide (x1<=12)) (As (call 70 [PV.tup [.own 1 y0 y6],.sc (.int .i64 y1),.sc (.int .i64 y2),.sc (Value.func (Fn.func (44:FuncId)) #[] #[])]) fun x2 x3=>Ah x2<|Ab x3 fun x4 x5=>Ah x5<|some (Be.mk [] [x4])) (Ca (y3==0) (As (call 71 [PV.tup [.own 1 y0 y6],.sc (.int .i64 y1),.sc (.int .i64 y2),.sc (Value.func (Fn.func (44:FuncId)) #[] #[])]) fun x6 x7=>Ah x6<|Ab x7 fun x8 x9=>Ah x9<|some (Be.mk [] [x8])) (Ca (!y4) (As (call 72 [PV.tup [.own 1 y0 y6],.sc (.int .i64 y1),.sc (.int .i64 y2),.sc (Value.func (Fn.func (44:FuncId)) #[] #[])]) fun La Mh=>Ah La<|Ab Mh fun Ju Px=>Ah Px<|Aa (wrap .i64 (y3-1)) fun Mc=>As (call 73 [PV.tup [.own 1 y0 Ju],.sc (.int .i64 y1),.sc (.int .i64 y2),.sc (Value.func (Fn.func (44:FuncId)) #[] #[])]) fun Nr Ru=>Ab Nr fun Tb Pa=>Ag .i64 Tb fun Jj=>Ab Pa fun P8 Qt=>Ag .i64 P8 fun Tn=>Ah Qt<|Ab Ru fun Rx Iy=>Ah Iy<|Ca (Tn==2) (As (call 74 [PV.tup [.own 1 y0 Rx],.sc (.int .i64 y1),.sc (.int .i64 y2),.sc (Value.func (Fn.func (44:FuncId)) #[] #[])]) fun U6 Uz=>Ah U6<|Ab Uz fun Q7 CL=>Ah CL<|Aa (wrap .i64 (y2-1)) fun CR=>Aa (wrap .i64 (Jj-y1)) fun O1=>Aa (wrap .i64 (CR-O1)) fun Ry=>Ca (y4) (Ca (y5) (As (call 75 [PV.tup [.own 1 y0 Q7],.sc (.int .i64 y1),.sc (.int .i64 y2),.sc (Value.func (Fn.func (44:FuncId)) #[] #[])]) fun AX Xf=>Ab AX fun T7 CI=>A4 T7 fun Xw=>Ah CI<|Ab Xf fun S8 Xy=>Ah Xy<|Ca Xw (some (Be.mk [] [S8])) (Al fu call n c a1 a2 a3 nn (fu) (y0) (y1) (y2) Mc (y4) (y5) x1 Ry S8)) (Al fu call n c a1 a2 a3 nn (fu) (y0) (y1) (y2) Mc (y4) (y5) x1 Ry Q7)) (Al fu call n c a1 a2 a3 nn (fu) (y0) (y1) (y2) Mc (y4) (y5) x1 Ry Q7)) (Ca (y4) (Ca (y5) (Ca (Tn==1) (As (call 75 [PV.tup [.own 1 y0 Rx],.sc (.int .i64 y1),.sc (.int .i64 y2),.sc (Value.func (Fn.func (44:FuncId)) #[] #[])]) fun CN Yn=>Ab CN fun JH GT=>A4 JH fun JE=>Ah GT<|Ab Yn fun GU HY=>Ah HY<|Ca JE (some (Be.mk [] [GU])) (Al fu call n c a1 a2 a3 nn (fu) (y0) (y1) (y2) Mc (y4) (y5) x1 Jj GU)) (Al fu call n c a1 a2 a3 nn (fu) (y0) (y1) (y2) Mc (y4) (y5) x1 Jj Rx)) (Al fu call n c a1 a2 a3 nn (fu) (y0) (y1) (y2) Mc (y4) (y5) x1 Jj Rx)) (Al fu call n c a1 a2 a3 nn (fu) (y0) (y1) (y2) Mc (y4) (y5) x1 Jj Rx))) (As (call 73 [PV.tup [.own 1 y0 y6],.sc (.int .i64 y1),.sc (.int .i64 y2),.sc (Value.func (Fn.func (44:FuncId)) #[] #[])]) fun JL JF=>Ab JL fun IV HN=>Ag .i64 IV fun X5=>Ab HN fun GX KM=>Ag .i64 GX fun GP=>Ah KM<|Ab JF fun Xd HB=>Ah HB<|Ca (GP==2) (As (call 74 [PV.tup [.own 1 y0 Xd],.sc (.int .i64 y1),.sc (.int .i64 y2),.sc (Value.func (Fn.func (44:FuncId)) #[] #[])]) fun HQ HK=>Ah HQ<|Ab HK fun DG HI=>Ah HI<|Aa (wrap .i64 (y2-1)) fun GH=>Aa (wrap .i64 (X5-y1)) fun Y1=>Aa (wrap .i64 (GH-Y1)) fun Oq=>Ca (y4) (Ca (y5) (As (call 75 [PV.tup [.own 1 y0 DG],.sc (.int .i64 y1),.sc (.int .i64 y2),.sc (Value.func (Fn.func (44:FuncId)) #[] #[])]) fun QL PX=>Ab QL fun JM Zm=>A4 JM fun OY=>Ah Zm<|Ab PX fun KD NB=>Ah NB<|Ca OY (some (Be.mk [] [KD])) (Al fu call n c a1 a2 a3 nn (fu) (y0) (y1) (y2) (y3) (y4) (y5) x1 Oq KD)) (Al fu call n c a1 a2 a3 nn (fu) (y0) (y1) (y2) (y3) (y4) (y5) x1 Oq DG)) (Al fu call n c a1 a2 a3 nn (fu) (y0) (y1) (y2) (y3) (y4) (y5) x1 Oq DG)) (Ca (y4) (Ca (y5) (Ca (GP==1) (As (call 75 [PV.tup [.own 1 y0 Xd],.sc (.int .i64 y1),.sc (.int .i64 y2),.sc (Value.func (Fn.func (44:FuncId)) #[] #[])]) fun OQ KY=>Ab OQ fun NT VE=>A4 NT fun LC=>Ah VE<|Ab KY fun CQ JK=>Ah JK<|Ca LC (some (Be.mk [] [CQ])) (Al fu call n c a1 a2 a3 nn (fu) (y0) (y1) (y2) (y3) (y4) (y5) x1 X5 CQ)) (Al fu call n c a1 a2 a3 nn (fu) (y0) (y1) (y2) (y3) (y4) (y5) x1 X5 Xd)) (Al fu call n c a1 a2 a3 nn (fu) (y0) (y1) (y2) (y3) (y4) (y5) x1 X5 Xd)) (Al fu call n c a1 a2 a3 nn (fu) (y0) (y1) (y2) (y3) (y4) (y5) x1 X5 Xd)))))):=by kernel_rfl
theorem Hz (fu d n:Nat)(c:List PV)(a1 a2 a3:Int):Am C0 prog fu (d+1) D8 [PV.tup [.own 1 n c],.sc (.int .i64 a1),.sc (.int .i64 a2),.sc (.int .i64 a3),.sc (Value.func (Fn.func (44:FuncId)) #[] #[])]=(fun (call:Aj)=>D4 fu call n c a1 a2 a3 (fu) (n) (a1) (a2) (a3) (true) (true) (c)) (Am C0 prog fu d):=by kernel_rfl
abbrev D5:FuncId:=43
theorem Lt (fu d n:Nat)(c:List PV):Am C0 prog fu (d+1) D5 [PV.tup [.own 1 n c],.sc (Value.func (Fn.func (44:FuncId)) #[] #[])]=(fun (call:Aj)=>Aa (wrap .u64 (↑n:Int)) fun x1=>As (call 61 [.sc (.int .u64 x1)]) fun x2 x3=>Ah x3<|Ab x2 fun x4 x5=>Ag .i64 x4 fun x6=>Ah x5<|As (call 60 [PV.tup [.own 1 n c],.sc (.int .i64 0),.sc (.int .i64 (↑n:Int)),.sc (.int .i64 x6),.sc (Value.func (Fn.func (44:FuncId)) #[] #[])]) fun x7 x8=>Ah x7<|Ab x8 fun x9 La=>Ah La<|some (Be.mk [] [x9])) (Am C0 prog fu d):=by kernel_rfl
end
section
open Go.Proofs.Try (prog)
open Go.IntKind (wrap)
set_option maxRecDepth 100000
abbrev J8:FuncId:=42
noncomputable def F1 (fu:Nat)(call:Aj)(a0 a1 a2:Int)(nn:Nat)(y0 y1 y2:Int)(y3:Nat)(y4:Int)(y5:List PV):Option Be:=Cv CB prog fu call 42 Try.f42 (Bw Try.f42) [.sc (.int .u64 a0),.sc (.int .u64 a1),.sc (.int .i64 a2)] [.r,.r,.r,.l,.r,.l] nn ⟨lk [(0,(.sc (.int .u64 y0))),(1,(.sc (.int .u64 y1))),(2,(.sc (.int .i64 y2))),(7,(.view 7 1 0 y3)),(8,(.sc (.int .u64 y4)))],E3 [(7,(.ar false y5))]⟩
theorem Kh (fu:Nat)(call:Aj)(a0 a1 a2:Int)(nn:Nat)(y0 y1 y2:Int)(y3:Nat)(y4:Int)(y5:List PV):F1 fu call a0 a1 a2 (nn+1) y0 y1 y2 y3 y4 y5=(Ca (decide ((↑y3:Int)<y2)) (As (call 59 [.lst false 1 2 [.sc (.int .u64 y1),.sc (.int .u64 y4)]]) fun x4 x5=>Ah x5<|Ab x4 fun x6 x7=>M4 1 x6 fun x8 x9=>Ah x7<|Ar (decide (0+x8*1<=x9.length))<|As (call 41 [.sc (.int .u64 y0),.sc (.int .i64 5),.lst false 1 x8 (List.take (x8*1) (List.drop 0 x9))]) fun La Mh=>Ah Mh<|Ab La fun Ju Px=>Ag .u64 Ju fun Mc=>Ah Px<|As (call 59 [.lst false 1 1 [.sc (.int .u64 Mc)]]) fun Nr Ru=>Ah Ru<|Ab Nr fun Tb Pa=>M4 1 Tb fun Jj P8=>Ah Pa<|Ar (decide (0+Jj*1<=P8.length))<|Ar (decide (y3*1<=y5.length)&&decide (List.length (List.take (Jj*1) (List.drop 0 P8))=Jj*1)&&decide ((y3+Jj)*1<=1099511627776)&&decide (y3+Jj<=1099511627776))<|Aa (y3+Jj) fun Qt=>Aa (List.take (y3*1) y5++List.take (Jj*1) (List.drop 0 P8)) fun Tn=>Aa (wrap .u64 (y4+1)) fun Rx=>F1 fu call a0 a1 a2 (nn) (y0) (y1) (y2) Qt Rx Tn) (Ar (decide (0<=y2))<|Ar (decide (Int.toNat y2<=y3))<|Aa (Int.toNat y2-0) fun Iy=>Ar (decide (Iy*1<=y5.length))<|some (Be.mk [.own 1 Iy (List.take (Iy*1) y5)] []))):=by kernel_rfl
theorem Xx (fu d:Nat)(a0 a1 a2:Int):Am C0 prog fu (d+1) J8 [.sc (.int .u64 a0),.sc (.int .u64 a1),.sc (.int .i64 a2)]=(fun (call:Aj)=>Aa (if a2<0 then 0 else a2) fun x1=>Aa (if 1024<x1 then 1024 else x1) fun x2=>Aa (wrap .i64 (x2+8)) fun x3=>Ar (decide (0<=x3)&&decide (x3*1<=1099511627776)&&decide (x3<=1099511627776))<|F1 fu call a0 a1 a2 (fu) (a0) (a1) x2 0 0 ([])) (Am C0 prog fu d):=by kernel_rfl
abbrev Hm:FuncId:=37
noncomputable def C9 (fu:Nat)(call:Aj)(a0 a1 a2:Int)(nn:Nat)(y0 y1 y2:Int)(y3:Nat)(y4:Int)(y5:List PV):Option Be:=Cv CB prog fu call 37 Try.f37 (Bw Try.f37) [.sc (.int .u64 a0),.sc (.int .u64 a1),.sc (.int .i64 a2)] [.r,.r,.r,.l,.r,.l] nn ⟨lk [(0,(.sc (.int .u64 y0))),(1,(.sc (.int .u64 y1))),(2,(.sc (.int .i64 y2))),(7,(.view 7 1 0 y3)),(8,(.sc (.int .i64 y4)))],E3 [(7,(.ar false y5))]⟩
theorem Fy (fu:Nat)(call:Aj)(a0 a1 a2:Int)(nn:Nat)(y0 y1 y2:Int)(y3:Nat)(y4:Int)(y5:List PV):C9 fu call a0 a1 a2 (nn+1) y0 y1 y2 y3 y4 y5=(Ca (decide ((↑y3:Int)<y2)) (Aa (wrap .u64 y4) fun x3=>As (call 56 [.lst false 1 2 [.sc (.int .u64 y1),.sc (.int .u64 x3)]]) fun x4 x5=>Ah x5<|Ab x4 fun x6 x7=>M4 1 x6 fun x8 x9=>Ah x7<|Ar (decide (0+x8*1<=x9.length))<|As (call 48 [.sc (.int .u64 y0),.sc (.int .i64 5),.lst false 1 x8 (List.take (x8*1) (List.drop 0 x9))]) fun La Mh=>Ah Mh<|Ab La fun Ju Px=>Ag .u64 Ju fun Mc=>Ah Px<|As (call 56 [.lst false 1 1 [.sc (.int .u64 Mc)]]) fun Nr Ru=>Ah Ru<|Ab Nr fun Tb Pa=>M4 1 Tb fun Jj P8=>Ah Pa<|Ar (decide (0+Jj*1<=P8.length))<|Ar (decide (y3*1<=y5.length)&&decide (List.length (List.take (Jj*1) (List.drop 0 P8))=Jj*1)&&decide ((y3+Jj)*1<=1099511627776)&&decide (y3+Jj<=1099511627776))<|Aa (y3+Jj) fun Qt=>Aa (List.take (y3*1) y5++List.take (Jj*1) (List.drop 0 P8)) fun Tn=>Aa (wrap .i64 (y4+1)) fun Rx=>C9 fu call a0 a1 a2 (nn) (y0) (y1) (y2) Qt Rx Tn) (Ar (decide (0<=y2))<|Ar (decide (Int.toNat y2<=y3))<|Aa (Int.toNat y2-0) fun Iy=>Ar (decide (Iy*1<=y5.length))<|some (Be.mk [.own 1 Iy (List.take (Iy*1) y5)] []))):=by kernel_rfl
theorem Ng (fu d:Nat)(a0 a1 a2:Int):Am C0 prog fu (d+1) Hm [.sc (.int .u64 a0),.sc (.int .u64 a1),.sc (.int .i64 a2)]=(fun (call:Aj)=>Aa (if a2<0 then 0 else a2) fun x1=>Aa (if 1024<x1 then 1024 else x1) fun x2=>C9 fu call a0 a1 a2 (fu) (a0) (a1) x2 0 0 ([])) (Am C0 prog fu d):=by kernel_rfl
abbrev E8:FuncId:=13
theorem Og (fu d:Nat)(a0 a1:Int):Am C0 prog fu (d+1) E8 [.sc (.int .i64 a0),.sc (.int .i64 a1)]=(fun (call:Aj)=>Aa (wrap .u64 a0) fun x1=>Aa (wrap .u64 (x1+1)) fun x2=>Aa (if 1024<a1 then 1024 else a1) fun x3=>Aa (if x3<0 then 0 else x3) fun x4=>As (call 37 [.sc (.int .u64 x2),.sc (.int .u64 7),.sc (.int .i64 x4)]) fun x5 x6=>Ah x6<|Ab x5 fun x7 x8=>M4 1 x7 fun x9 La=>Ah x8<|Ar (decide (x9*1<=La.length))<|some (Be.mk [.own 1 x9 (List.take (x9*1) La)] [])) (Am C0 prog fu d):=by kernel_rfl
abbrev Ks:FuncId:=21
noncomputable def J3 (fu:Nat)(call:Aj)(Ia:Nat)(Fm:List PV)(Fd Fk:Int)(Fa Ok:Int)(Ot:Bool)(Od:Int)(Ib:Nat)(Oz:List PV)(On:Bool)(Oh Ic:Int)(a1 a2 a3:Int)(nn:Nat)(y0 y1 y2:Int)(y3:Nat)(y4 y5:Int)(y6 y7:Int)(y8:Bool)(y9:Int)(Dl:Nat)(Dt:Bool)(Cq Ds:Int)(D0 E0:List PV)(Ec:Nat)(D1 F0:Int)(He Oe:Int)(M9:Bool)(Nl:Int)(Nz:Nat)(N8:Bool)(Ny N7:Int)(Oa N5:List PV):Option Be:=Cv CB prog fu call 21 Try.f21 (Bw Try.f21) [.agg [.lst false 1 Ia Fm,.sc (.int .i64 Fd),.sc (.int .u64 Fk),.sc (.int .u64 Fa),.sc (.int .i64 Ok),.sc (.bool Ot),.sc (.int .u64 Od),.lst false 2 Ib Oz,.sc (.bool On),.sc (.int .i64 Oh),.sc (.int .i64 Ic)],.sc (.int .i64 a1),.sc (.int .i64 a2),.sc (.int .i64 a3)] [.r,.r,.r] nn ⟨lk [(1,(.sc (.int .i64 y0))),(2,(.sc (.int .i64 y1))),(3,(.sc (.int .i64 y2))),(4,(.ptr 4 0)),(8,(.ptr 8 0))],E3 [(4,(.st [(.view 120 1 0 y3),(.sc (.int .i64 y4)),(.sc (.int .u64 y5)),(.sc (.int .u64 y6)),(.sc (.int .i64 y7)),(.sc (.bool y8)),(.sc (.int .u64 y9)),(.view 932 2 0 Dl),(.sc (.bool Dt)),(.sc (.int .i64 Cq)),(.sc (.int .i64 Ds))])),(120,(.ar false D0)),(932,(.ar false E0)),(8,(.st [(.view 124 1 0 Ec),(.sc (.int .i64 D1)),(.sc (.int .u64 F0)),(.sc (.int .u64 He)),(.sc (.int .i64 Oe)),(.sc (.bool M9)),(.sc (.int .u64 Nl)),(.view 936 2 0 Nz),(.sc (.bool N8)),(.sc (.int .i64 Ny)),(.sc (.int .i64 N7))])),(124,(.ar false Oa)),(936,(.ar false N5))]⟩
noncomputable def Em (fu:Nat)(call:Aj)(Ia:Nat)(Fm:List PV)(Fd Fk:Int)(Fa Ok:Int)(Ot:Bool)(Od:Int)(Ib:Nat)(Oz:List PV)(On:Bool)(Oh Ic:Int)(a1 a2 a3:Int)(nn:Nat)(y0 y1:Int)(y2 y3 y4:Int)(y5:Nat)(y6 y7:Int)(y8 y9:Int)(Dl:Bool)(Dt:Int)(Cq:Nat)(Ds:Bool)(D0 E0:Int)(Ec D1:List PV)(F0:Nat)(He Oe:Int)(M9 Nl:Int)(Nz:Bool)(N8:Int)(Ny:Nat)(N7:Bool)(Oa N5:Int)(Us Uv:List PV):Option Be:=Cv CB prog fu call 21 Try.f21 (Bw Try.f21) [.agg [.lst false 1 Ia Fm,.sc (.int .i64 Fd),.sc (.int .u64 Fk),.sc (.int .u64 Fa),.sc (.int .i64 Ok),.sc (.bool Ot),.sc (.int .u64 Od),.lst false 2 Ib Oz,.sc (.bool On),.sc (.int .i64 Oh),.sc (.int .i64 Ic)],.sc (.int .i64 a1),.sc (.int .i64 a2),.sc (.int .i64 a3)] [.r,.r,.r,.r,.r,.r,.r,.r,.l,.l] nn ⟨lk [(1,(.sc (.int .i64 y0))),(2,(.sc (.int .i64 y1))),(3,(.sc (.int .i64 y2))),(4,(.ptr 4 0)),(8,(.ptr 8 0)),(11,(.sc (.int .u64 y3))),(12,(.sc (.int .i64 y4)))],E3 [(4,(.st [(.view 120 1 0 y5),(.sc (.int .i64 y6)),(.sc (.int .u64 y7)),(.sc (.int .u64 y8)),(.sc (.int .i64 y9)),(.sc (.bool Dl)),(.sc (.int .u64 Dt)),(.view 932 2 0 Cq),(.sc (.bool Ds)),(.sc (.int .i64 D0)),(.sc (.int .i64 E0))])),(120,(.ar false Ec)),(932,(.ar false D1)),(8,(.st [(.view 124 1 0 F0),(.sc (.int .i64 He)),(.sc (.int .u64 Oe)),(.sc (.int .u64 M9)),(.sc (.int .i64 Nl)),(.sc (.bool Nz)),(.sc (.int .u64 N8)),(.view 936 2 0 Ny),(.sc (.bool N7)),(.sc (.int .i64 Oa)),(.sc (.int .i64 N5))])),(124,(.ar false Us)),(936,(.ar false Uv))]⟩
theorem Ob (fu:Nat)(call:Aj)(Ia:Nat)(Fm:List PV)(Fd Fk:Int)(Fa Ok:Int)(Ot:Bool)(Od:Int)(Ib:Nat)(Oz:List PV)(On:Bool)(Oh Ic:Int)(a1 a2 a3:Int)(nn:Nat)(Es:0<nn)(y0 y1 y2:Int)(y3:Nat)(y4 y5:Int)(y6 y7:Int)(y8:Bool)(y9:Int)(Dl:Nat)(Dt:Bool)(Cq Ds:Int)(D0 E0:List PV)(Ec:Nat)(D1 F0:Int)(He Oe:Int)(M9:Bool)(Nl:Int)(Nz:Nat)(N8:Bool)(Ny N7:Int)(Oa N5:List PV):J3 fu call Ia Fm Fd Fk Fa Ok Ot Od Ib Oz On Oh Ic a1 a2 a3 nn y0 y1 y2 y3 y4 y5 y6 y7 y8 y9 Dl Dt Cq Ds D0 E0 Ec D1 F0 He Oe M9 Nl Nz N8 Ny N7 Oa N5=(Ca (Dt) (Ar (decide (0+y3*1<=D0.length))<|Ar (decide (0+Dl*2<=E0.length))<|some (Be.mk [.agg [.lst false 1 y3 (List.take (y3*1) (List.drop 0 D0)),.sc (.int .i64 y4),.sc (.int .u64 y5),.sc (.int .u64 y6),.sc (.int .i64 y7),.sc (.bool y8),.sc (.int .u64 y9),.lst false 2 Dl (List.take (Dl*2) (List.drop 0 E0)),.sc (.bool Dt),.sc (.int .i64 Cq),.sc (.int .i64 Ds)],.sc (.int .i64 39)] [])) (Ar (decide (0<=y0))<|Aa (Gc .u64 1 y0) fun GT=>Aa (SP .u64 y9 GT) fun JE=>Ca (JE != 0) (Ar (decide (0+y3*1<=D0.length))<|Ar (decide (0+Dl*2<=E0.length))<|some (Be.mk [.agg [.lst false 1 y3 (List.take (y3*1) (List.drop 0 D0)),.sc (.int .i64 y4),.sc (.int .u64 y5),.sc (.int .u64 y6),.sc (.int .i64 y7),.sc (.bool y8),.sc (.int .u64 y9),.lst false 2 Dl (List.take (Dl*2) (List.drop 0 E0)),.sc (.bool true),.sc (.int .i64 Cq),.sc (.int .i64 Ds)],.sc (.int .i64 37)] [])) (Em fu call Ia Fm Fd Fk Fa Ok Ot Od Ib Oz On Oh Ic a1 a2 a3 (fu) (y0) (y1) (y2) GT 0 (y3) (y4) (y5) (y6) (y7) (y8) (y9) (Dl) (Dt) (Cq) (Ds) (D0) (E0) (Ec) (D1) (F0) (He) (Oe) (M9) (Nl) (Nz) (N8) (Ny) (N7) (Oa) (N5)))):=by cases nn with|zero=>exact absurd Es (Nat.lt_irrefl 0)|succ nn=>kernel_rfl
theorem H9 (fu:Nat)(call:Aj)(Ia:Nat)(Fm:List PV)(Fd Fk:Int)(Fa Ok:Int)(Ot:Bool)(Od:Int)(Ib:Nat)(Oz:List PV)(On:Bool)(Oh Ic:Int)(a1 a2 a3:Int)(nn:Nat)(y0 y1:Int)(y2 y3 y4:Int)(y5:Nat)(y6 y7:Int)(y8 y9:Int)(Dl:Bool)(Dt:Int)(Cq:Nat)(Ds:Bool)(D0 E0:Int)(Ec D1:List PV)(F0:Nat)(He Oe:Int)(M9 Nl:Int)(Nz:Bool)(N8:Int)(Ny:Nat)(N7:Bool)(Oa N5:Int)(Us Uv:List PV):Em fu call Ia Fm Fd Fk Fa Ok Ot Od Ib Oz On Oh Ic a1 a2 a3 (nn+1) y0 y1 y2 y3 y4 y5 y6 y7 y8 y9 Dl Dt Cq Ds D0 E0 Ec D1 F0 He Oe M9 Nl Nz N8 Ny N7 Oa N5 Us Uv=(Ca (decide (y4<(↑Cq:Int))) (Ar (decide (0<=y4)&&decide (y4<(↑Cq:Int)))<|Ag .i64 (List.getD D1 (0+Int.toNat y4*2+0) .top) fun GU=>Ca (decide (GU<y1)) (Aa (wrap .i64 (y4+1)) fun HY=>Em fu call Ia Fm Fd Fk Fa Ok Ot Od Ib Oz On Oh Ic a1 a2 a3 (nn) (y0) (y1) (y2) (y3) HY (y5) (y6) (y7) (y8) (y9) (Dl) (Dt) (Cq) (Ds) (D0) (E0) (Ec) (D1) (F0) (He) (Oe) (M9) (Nl) (Nz) (N8) (Ny) (N7) (Oa) (N5) (Us) (Uv)) (Ca (y4==(↑Cq:Int)) (Ar (decide (Cq*2<=D1.length))<|As (call 45 [.own 2 Cq (List.take (Cq*2) D1),.sc (.int .i64 y4),PV.tup [.own 2 1 [.sc (.int .i64 y1),.sc (.int .i64 y0)]]]) fun JL JF=>Ab JL fun IV HN=>M4 2 IV fun X5 GX=>Ah HN<|Ab JF fun KM GP=>Ah GP<|Ar (decide (0<=y4)&&decide (y4<(↑X5:Int)))<|Ar (decide (0+Int.toNat y4*2+1+1<=GX.length))<|Aa (A0 GX [.sc (.int .i64 y0)] (0+Int.toNat y4*2+1)) fun Xd=>Aa (S4 .u64 Dt y3) fun HB=>Ar (decide (0+y5*1<=Ec.length))<|Ar (decide (0+X5*2<=Xd.length))<|some (Be.mk [.agg [.lst false 1 y5 (List.take (y5*1) (List.drop 0 Ec)),.sc (.int .i64 y6),.sc (.int .u64 y7),.sc (.int .u64 y8),.sc (.int .i64 y9),.sc (.bool Dl),.sc (.int .u64 HB),.lst false 2 X5 (List.take (X5*2) (List.drop 0 Xd)),.sc (.bool Ds),.sc (.int .i64 D0),.sc (.int .i64 y2)],.sc (.int .i64 0)] [])) (Ar (decide (0<=y4)&&decide (y4<(↑Cq:Int)))<|Ag .i64 (List.getD D1 (0+Int.toNat y4*2+0) .top) fun HQ=>Ca (HQ != y1) (Ar (decide (Cq*2<=D1.length))<|As (call 45 [.own 2 Cq (List.take (Cq*2) D1),.sc (.int .i64 y4),PV.tup [.own 2 1 [.sc (.int .i64 y1),.sc (.int .i64 y0)]]]) fun HK DG=>Ab HK fun HI GH=>M4 2 HI fun Y1 Oq=>Ah GH<|Ab DG fun QL PX=>Ah PX<|Ar (decide (0<=y4)&&decide (y4<(↑Y1:Int)))<|Ar (decide (0+Int.toNat y4*2+1+1<=Oq.length))<|Aa (A0 Oq [.sc (.int .i64 y0)] (0+Int.toNat y4*2+1)) fun JM=>Aa (S4 .u64 Dt y3) fun Zm=>Ar (decide (0+y5*1<=Ec.length))<|Ar (decide (0+Y1*2<=JM.length))<|some (Be.mk [.agg [.lst false 1 y5 (List.take (y5*1) (List.drop 0 Ec)),.sc (.int .i64 y6),.sc (.int .u64 y7),.sc (.int .u64 y8),.sc (.int .i64 y9),.sc (.bool Dl),.sc (.int .u64 Zm),.lst false 2 Y1 (List.take (Y1*2) (List.drop 0 JM)),.sc (.bool Ds),.sc (.int .i64 D0),.sc (.int .i64 y2)],.sc (.int .i64 0)] [])) (Ar (decide (0<=y4)&&decide (y4<(↑Cq:Int)))<|Ag .i64 (List.getD D1 (0+Int.toNat y4*2+1) .top) fun OY=>Ca (decide (OY>=y0)) (Ar (decide (0+y5*1<=Ec.length))<|Ar (decide (0+Cq*2<=D1.length))<|some (Be.mk [.agg [.lst false 1 y5 (List.take (y5*1) (List.drop 0 Ec)),.sc (.int .i64 y6),.sc (.int .u64 y7),.sc (.int .u64 y8),.sc (.int .i64 y9),.sc (.bool Dl),.sc (.int .u64 Dt),.lst false 2 Cq (List.take (Cq*2) (List.drop 0 D1)),.sc (.bool Ds),.sc (.int .i64 D0),.sc (.int .i64 E0)],.sc (.int .i64 37)] [])) (Ar (decide (0<=y4)&&decide (y4<(↑Cq:Int)))<|Ar (decide (0+Int.toNat y4*2+1+1<=D1.length))<|Aa (A0 D1 [.sc (.int .i64 y0)] (0+Int.toNat y4*2+1)) fun KD=>Aa (S4 .u64 Dt y3) fun NB=>Ar (decide (0+y5*1<=Ec.length))<|Ar (decide (0+Cq*2<=KD.length))<|some (Be.mk [.agg [.lst false 1 y5 (List.take (y5*1) (List.drop 0 Ec)),.sc (.int .i64 y6),.sc (.int .u64 y7),.sc (.int .u64 y8),.sc (.int .i64 y9),.sc (.bool Dl),.sc (.int .u64 NB),.lst false 2 Cq (List.take (Cq*2) (List.drop 0 KD)),.sc (.bool Ds),.sc (.int .i64 D0),.sc (.int .i64 y2)],.sc (.int .i64 0)] [])))))) (Ca (y4==(↑Cq:Int)) (Ar (decide (Cq*2<=D1.length))<|As (call 45 [.own 2 Cq (List.take (Cq*2) D1),.sc (.int .i64 y4),PV.tup [.own 2 1 [.sc (.int .i64 y1),.sc (.int .i64 y0)]]]) fun OQ KY=>Ab OQ fun NT VE=>M4 2 NT fun LC CQ=>Ah VE<|Ab KY fun JK UU=>Ah UU<|Ar (decide (0<=y4)&&decide (y4<(↑LC:Int)))<|Ar (decide (0+Int.toNat y4*2+1+1<=CQ.length))<|Aa (A0 CQ [.sc (.int .i64 y0)] (0+Int.toNat y4*2+1)) fun QD=>Aa (S4 .u64 Dt y3) fun ML=>Ar (decide (0+y5*1<=Ec.length))<|Ar (decide (0+LC*2<=QD.length))<|some (Be.mk [.agg [.lst false 1 y5 (List.take (y5*1) (List.drop 0 Ec)),.sc (.int .i64 y6),.sc (.int .u64 y7),.sc (.int .u64 y8),.sc (.int .i64 y9),.sc (.bool Dl),.sc (.int .u64 ML),.lst false 2 LC (List.take (LC*2) (List.drop 0 QD)),.sc (.bool Ds),.sc (.int .i64 D0),.sc (.int .i64 y2)],.sc (.int .i64 0)] [])) (Ar (decide (0<=y4)&&decide (y4<(↑Cq:Int)))<|Ag .i64 (List.getD D1 (0+Int.toNat y4*2+0) .top) fun QE=>Ca (QE != y1) (Ar (decide (Cq*2<=D1.length))<|As (call 45 [.own 2 Cq (List.take (Cq*2) D1),.sc (.int .i64 y4),PV.tup [.own 2 1 [.sc (.int .i64 y1),.sc (.int .i64 y0)]]]) fun YK KT=>Ab YK fun WC x84=>M4 2 WC fun IB VX=>Ah x84<|Ab KT fun x87 QI=>Ah QI<|Ar (decide (0<=y4)&&decide (y4<(↑IB:Int)))<|Ar (decide (0+Int.toNat y4*2+1+1<=VX.length))<|Aa (A0 VX [.sc (.int .i64 y0)] (0+Int.toNat y4*2+1)) fun QG=>Aa (S4 .u64 Dt y3) fun YV=>Ar (decide (0+y5*1<=Ec.length))<|Ar (decide (0+IB*2<=QG.length))<|some (Be.mk [.agg [.lst false 1 y5 (List.take (y5*1) (List.drop 0 Ec)),.sc (.int .i64 y6),.sc (.int .u64 y7),.sc (.int .u64 y8),.sc (.int .i64 y9),.sc (.bool Dl),.sc (.int .u64 YV),.lst false 2 IB (List.take (IB*2) (List.drop 0 QG)),.sc (.bool Ds),.sc (.int .i64 D0),.sc (.int .i64 y2)],.sc (.int .i64 0)] [])) (Ar (decide (0<=y4)&&decide (y4<(↑Cq:Int)))<|Ag .i64 (List.getD D1 (0+Int.toNat y4*2+1) .top) fun QQ=>Ca (decide (QQ>=y0)) (Ar (decide (0+y5*1<=Ec.length))<|Ar (decide (0+Cq*2<=D1.length))<|some (Be.mk [.agg [.lst false 1 y5 (List.take (y5*1) (List.drop 0 Ec)),.sc (.int .i64 y6),.sc (.int .u64 y7),.sc (.int .u64 y8),.sc (.int .i64 y9),.sc (.bool Dl),.sc (.int .u64 Dt),.lst false 2 Cq (List.take (Cq*2) (List.drop 0 D1)),.sc (.bool Ds),.sc (.int .i64 D0),.sc (.int .i64 E0)],.sc (.int .i64 37)] [])) (Ar (decide (0<=y4)&&decide (y4<(↑Cq:Int)))<|Ar (decide (0+Int.toNat y4*2+1+1<=D1.length))<|Aa (A0 D1 [.sc (.int .i64 y0)] (0+Int.toNat y4*2+1)) fun WO=>Aa (S4 .u64 Dt y3) fun ZM=>Ar (decide (0+y5*1<=Ec.length))<|Ar (decide (0+Cq*2<=WO.length))<|some (Be.mk [.agg [.lst false 1 y5 (List.take (y5*1) (List.drop 0 Ec)),.sc (.int .i64 y6),.sc (.int .u64 y7),.sc (.int .u64 y8),.sc (.int .i64 y9),.sc (.bool Dl),.sc (.int .u64 ZM),.lst false 2 Cq (List.take (Cq*2) (List.drop 0 WO)),.sc (.bool Ds),.sc (.int .i64 D0),.sc (.int .i64 y2)],.sc (.int .i64 0)] [])))))):=by kernel_rfl
theorem R0 (fu d Ia:Nat)(Fm:List PV)(Fd Fk:Int)(Fa Ok:Int)(Ot:Bool)(Od:Int)(Ib:Nat)(Oz:List PV)(On:Bool)(Oh Ic:Int)(a1 a2 a3:Int):Am C0 prog fu (d+1) Ks [.agg [.lst false 1 Ia Fm,.sc (.int .i64 Fd),.sc (.int .u64 Fk),.sc (.int .u64 Fa),.sc (.int .i64 Ok),.sc (.bool Ot),.sc (.int .u64 Od),.lst false 2 Ib Oz,.sc (.bool On),.sc (.int .i64 Oh),.sc (.int .i64 Ic)],.sc (.int .i64 a1),.sc (.int .i64 a2),.sc (.int .i64 a3)]=(fun (call:Aj)=>As (call 39 [.agg [.lst false 1 Ia Fm,.sc (.int .i64 Fd),.sc (.int .u64 Fk),.sc (.int .u64 Fa),.sc (.int .i64 Ok),.sc (.bool Ot),.sc (.int .u64 Od),.lst false 2 Ib Oz,.sc (.bool On),.sc (.int .i64 Oh),.sc (.int .i64 Ic)]]) fun x1 x2=>Ah x2<|Ab x1 fun x3 x4=>D6 x3 fun x5=>Ab x5 fun x6 x7=>M4 1 x6 fun x8 x9=>Ab x7 fun La Mh=>Ag .i64 La fun Ju=>Ab Mh fun Px Mc=>Ag .u64 Px fun Nr=>Ab Mc fun Ru Tb=>Ag .u64 Ru fun Pa=>Ab Tb fun Jj P8=>Ag .i64 Jj fun Qt=>Ab P8 fun Tn Rx=>A4 Tn fun Iy=>Ab Rx fun U6 Uz=>Ag .u64 U6 fun Q7=>Ab Uz fun CL CR=>M4 2 CL fun O1 Ry=>Ab CR fun AX Xf=>A4 AX fun T7=>Ab Xf fun CI Xw=>Ag .i64 CI fun S8=>Ab Xw fun Xy CN=>Ag .i64 Xy fun Yn=>Ah CN<|Ah x4<|Ca (decide (Ju<0)) (Ar (decide (0+x8*1<=x9.length))<|Ar (decide (0+O1*2<=Ry.length))<|some (Be.mk [.agg [.lst false 1 x8 (List.take (x8*1) (List.drop 0 x9)),.sc (.int .i64 Ju),.sc (.int .u64 Nr),.sc (.int .u64 Pa),.sc (.int .i64 Qt),.sc (.bool Iy),.sc (.int .u64 Q7),.lst false 2 O1 (List.take (O1*2) (List.drop 0 Ry)),.sc (.bool T7),.sc (.int .i64 S8),.sc (.int .i64 Yn)],.sc (.int .i64 9)] [])) (Ca (decide (Ju>4)) (Ar (decide (0+x8*1<=x9.length))<|Ar (decide (0+O1*2<=Ry.length))<|some (Be.mk [.agg [.lst false 1 x8 (List.take (x8*1) (List.drop 0 x9)),.sc (.int .i64 Ju),.sc (.int .u64 Nr),.sc (.int .u64 Pa),.sc (.int .i64 Qt),.sc (.bool Iy),.sc (.int .u64 Q7),.lst false 2 O1 (List.take (O1*2) (List.drop 0 Ry)),.sc (.bool T7),.sc (.int .i64 S8),.sc (.int .i64 Yn)],.sc (.int .i64 9)] [])) (Ca (decide (a2<0)) (Ar (decide (0+x8*1<=x9.length))<|Ar (decide (0+O1*2<=Ry.length))<|some (Be.mk [.agg [.lst false 1 x8 (List.take (x8*1) (List.drop 0 x9)),.sc (.int .i64 Ju),.sc (.int .u64 Nr),.sc (.int .u64 Pa),.sc (.int .i64 Qt),.sc (.bool Iy),.sc (.int .u64 Q7),.lst false 2 O1 (List.take (O1*2) (List.drop 0 Ry)),.sc (.bool T7),.sc (.int .i64 S8),.sc (.int .i64 Yn)],.sc (.int .i64 9)] [])) (Ca (decide (a2>a1)) (Ar (decide (0+x8*1<=x9.length))<|Ar (decide (0+O1*2<=Ry.length))<|some (Be.mk [.agg [.lst false 1 x8 (List.take (x8*1) (List.drop 0 x9)),.sc (.int .i64 Ju),.sc (.int .u64 Nr),.sc (.int .u64 Pa),.sc (.int .i64 Qt),.sc (.bool Iy),.sc (.int .u64 Q7),.lst false 2 O1 (List.take (O1*2) (List.drop 0 Ry)),.sc (.bool T7),.sc (.int .i64 S8),.sc (.int .i64 Yn)],.sc (.int .i64 9)] [])) (Ar (decide (0<=Ju))<|Aa (Gc .i64 1 Ju) fun JH=>Ca (decide (a1>=JH)) (Ar (decide (0+x8*1<=x9.length))<|Ar (decide (0+O1*2<=Ry.length))<|some (Be.mk [.agg [.lst false 1 x8 (List.take (x8*1) (List.drop 0 x9)),.sc (.int .i64 Ju),.sc (.int .u64 Nr),.sc (.int .u64 Pa),.sc (.int .i64 Qt),.sc (.bool Iy),.sc (.int .u64 Q7),.lst false 2 O1 (List.take (O1*2) (List.drop 0 Ry)),.sc (.bool T7),.sc (.int .i64 S8),.sc (.int .i64 Yn)],.sc (.int .i64 9)] [])) (J3 fu call Ia Fm Fd Fk Fa Ok Ot Od Ib Oz On Oh Ic a1 a2 a3 (fu) (a1) (a2) (a3) x8 Ju Nr Pa Qt Iy Q7 O1 T7 S8 Yn x9 Ry 0 0 0 0 0 (false) 0 0 (false) 0 0 ([]) ([]))))))) (Am C0 prog fu d):=by kernel_rfl
abbrev J1:FuncId:=17
noncomputable def Co (fu:Nat)(call:Aj)(Bv:Nat)(a0:List PV)(a1:Int)(a2:ByteArray)(nn:Nat)(y0:Int)(y1:ByteArray)(y2 y3:Nat)(y4:List PV)(y5 y6:Int)(y7:List PV):Option Be:=Cv CB prog fu call 17 Try.f17 (Bw Try.f17) [.lst false 3 Bv a0,.sc (.int .u64 a1),.sc (.string a2)] [.r,.r,.l,.r,.r,.l,.r,.l] nn ⟨lk [(1,(.sc (.int .u64 y0))),(2,(.sc (.string y1))),(7,(.view 7 1 0 y2)),(25,(.lst false 11 y3 y4)),(26,(.sc (.int .i64 y5))),(27,(.sc (.int .i64 y6)))],E3 [(7,(.ar false y7))]⟩
noncomputable def C8 (fu:Nat)(call:Aj)(Bv:Nat)(a0:List PV)(a1:Int)(a2:ByteArray)(nn y0:Nat)(y1 y2 y3:Int)(y4:List PV):Option Be:=Cv CB prog fu call 17 Try.f17 (Bw Try.f17) [.lst false 3 Bv a0,.sc (.int .u64 a1),.sc (.string a2)] [.r,.r,.r,.r,.l,.r,.l] nn ⟨lk [(7,(.view 7 1 0 y0)),(12,(.sc (.int .u64 y1))),(52,(.sc (.int .i64 y2))),(53,(.sc (.int .i64 y3)))],E3 [(7,(.ar false y4))]⟩
theorem Hk (fu:Nat)(call:Aj)(Bv:Nat)(a0:List PV)(a1:Int)(a2:ByteArray)(nn:Nat)(y0:Int)(y1:ByteArray)(y2 y3:Nat)(y4:List PV)(y5 y6:Int)(y7:List PV):Co fu call Bv a0 a1 a2 (nn+1) y0 y1 y2 y3 y4 y5 y6 y7=(Ca (decide (y6<y5)) (Ar (decide (0<=y6)&&decide (y6<(↑y3:Int)))<|F3 1 (List.getD y4 (Int.toNat y6*11) .top) fun Tb Pa Jj=>Ag .i64 (List.getD y4 (Int.toNat y6*11+1) .top) fun P8=>Ag .u64 (List.getD y4 (Int.toNat y6*11+1+1) .top) fun Qt=>Ag .u64 (List.getD y4 (Int.toNat y6*11+1+1+1) .top) fun Tn=>Ag .i64 (List.getD y4 (Int.toNat y6*11+1+1+1+1) .top) fun Rx=>A4 (List.getD y4 (Int.toNat y6*11+1+1+1+1+1) .top) fun Iy=>Ag .u64 (List.getD y4 (Int.toNat y6*11+1+1+1+1+1+1) .top) fun U6=>F3 2 (List.getD y4 (Int.toNat y6*11+1+1+1+1+1+1+1) .top) fun Uz Q7 CL=>A4 (List.getD y4 (Int.toNat y6*11+1+1+1+1+1+1+1+1) .top) fun CR=>Ag .i64 (List.getD y4 (Int.toNat y6*11+1+1+1+1+1+1+1+1+1) .top) fun O1=>Ag .i64 (List.getD y4 (Int.toNat y6*11+1+1+1+1+1+1+1+1+1+1) .top) fun Ry=>Ca (!CR) (Ca (decide ((↑y2:Int)<4)) (As (call 40 [.lst false 1 Pa Jj]) fun AX Xf=>Ah Xf<|Ab AX fun T7 CI=>M4 1 T7 fun Xw S8=>Ah CI<|Ar (decide (0+Xw*1<=S8.length))<|Ar (decide (y2*1<=y7.length)&&true&&decide ((y2+1)*24<=1099511627776)&&decide (y2+1<=1099511627776))<|Aa (y2+1) fun Xy=>Aa (List.take (y2*1) y7++[.lst false 1 Xw (List.take (Xw*1) (List.drop 0 S8))]) fun CN=>Aa (wrap .i64 (y6+1)) fun Yn=>Co fu call Bv a0 a1 a2 (nn) (y0) (y1) Xy (y3) (y4) (y5) Yn CN) (Aa (wrap .i64 (y6+1)) fun JH=>Co fu call Bv a0 a1 a2 (nn) (y0) (y1) (y2) (y3) (y4) (y5) JH (y7))) (Aa (wrap .i64 (y6+1)) fun GT=>Co fu call Bv a0 a1 a2 (nn) (y0) (y1) (y2) (y3) (y4) (y5) GT (y7))) (Ar (decide (ByteArray.size y1<=1099511627776))<|Ar (decide (0+ByteArray.size y1*1<=List.length (Eb y1)))<|As (call 41 [.sc (.int .u64 y0),.sc (.int .i64 20),.lst false 1 (ByteArray.size y1) (List.take (ByteArray.size y1*1) (List.drop 0 (Eb y1)))]) fun JE GU=>Ah GU<|Ab JE fun HY JL=>Ag .u64 HY fun JF=>Ah JL<|Aa (wrap .i64 (4-(↑y2:Int))) fun IV=>C8 fu call Bv a0 a1 a2 (fu) (y2) JF IV 0 (y7))):=by kernel_rfl
theorem Hj (fu:Nat)(call:Aj)(Bv:Nat)(a0:List PV)(a1:Int)(a2:ByteArray)(nn y0:Nat)(y1 y2 y3:Int)(y4:List PV):C8 fu call Bv a0 a1 a2 (nn+1) y0 y1 y2 y3 y4=(Ca (decide (y3<y2)) (Aa (wrap .u64 y3) fun HN=>As (call 42 [.sc (.int .u64 y1),.sc (.int .u64 HN),.sc (.int .i64 176)]) fun X5 GX=>Ah GX<|Ab X5 fun KM GP=>M4 1 KM fun Xd HB=>Ah GP<|Ar (decide (0+Xd*1<=HB.length))<|Ar (decide (y0*1<=y4.length)&&true&&decide ((y0+1)*24<=1099511627776)&&decide (y0+1<=1099511627776))<|Aa (y0+1) fun HQ=>Aa (List.take (y0*1) y4++[.lst false 1 Xd (List.take (Xd*1) (List.drop 0 HB))]) fun HK=>Aa (wrap .i64 (y3+1)) fun DG=>C8 fu call Bv a0 a1 a2 (nn) HQ (y1) (y2) DG HK) (As (call 43 [PV.tup [.own 1 y0 y4],.sc (Value.func (Fn.func 44) #[] #[])]) fun HI GH=>Ah HI<|Ab GH fun Y1 Oq=>Ah Oq<|Ar (decide (y0*1<=Y1.length))<|some (Be.mk [.own 1 y0 (List.take (y0*1) Y1)] []))):=by kernel_rfl
theorem Rt (fu d Bv:Nat)(a0:List PV)(a1:Int)(a2:ByteArray):Am C0 prog fu (d+1) J1 [.lst false 3 Bv a0,.sc (.int .u64 a1),.sc (.string a2)]=(fun (call:Aj)=>As (call 18 [.lst false 3 Bv a0,.sc (.string a2)]) fun x1 x2=>Ah x2<|Ab x1 fun x3 x4=>Ag .i64 x3 fun x5=>Ab x4 fun x6 x7=>A4 x6 fun x8=>Ah x7<|Ca x8 (Ar (decide (0<=x5)&&decide (x5<(↑Bv:Int)))<|F3 11 (List.getD a0 (Int.toNat x5*3+2) .top) fun x9 La Mh=>Co fu call Bv a0 a1 a2 (fu) (a1) (a2) 0 La Mh ((↑La:Int)) 0 ([])) (Ar (decide (ByteArray.size a2<=1099511627776))<|Ar (decide (0+ByteArray.size a2*1<=List.length (Eb a2)))<|As (call 41 [.sc (.int .u64 a1),.sc (.int .i64 20),.lst false 1 (ByteArray.size a2) (List.take (ByteArray.size a2*1) (List.drop 0 (Eb a2)))]) fun Ju Px=>Ah Px<|Ab Ju fun Mc Nr=>Ag .u64 Mc fun Ru=>Ah Nr<|C8 fu call Bv a0 a1 a2 (fu) 0 Ru 4 0 ([]))) (Am C0 prog fu d):=by kernel_rfl
end
section
open Go.Proofs.Try (prog)
open Go.IntKind (wrap)
set_option maxRecDepth 100000
abbrev Gm:FuncId:=12
theorem Mf (fu d:Nat)(a0 a1:Int):Am C0 prog fu (d+1) Gm [.sc (.int .i64 a0),.sc (.int .i64 a1)]=(fun (call:Aj)=>As (call 20 [.sc (.int .i64 a0),.sc (.int .i64 12)]) fun x1 x2=>Ah x2<|Ab x1 fun x3 x4=>Ag .i64 x3 fun x5=>Ah x4<|Aa (wrap .i64 (600+x5)) fun x6=>As (call 13 [.sc (.int .i64 x6),.sc (.int .i64 176)]) fun x7 x8=>Ah x8<|Ab x7 fun x9 La=>M4 1 x9 fun Mh Ju=>Ah La<|Ar (decide (0+Mh*1<=Ju.length))<|some (Be.mk [.agg [.lst false 1 Mh (List.take (Mh*1) (List.drop 0 Ju)),.sc (.int .i64 a1),.sc (.int .u64 5),.sc (.int .u64 0),.sc (.int .i64 0),.sc (.bool false),.sc (.int .u64 0),.lst false 2 0 [],.sc (.bool false),.sc (.int .i64 3),.sc (.int .i64 0)]] [])) (Am C0 prog fu d):=by kernel_rfl
end
section
open Go.Proofs.Try (prog)
open Go.IntKind (wrap)
set_option maxRecDepth 100000
abbrev Su:FuncId:=15
noncomputable def Gf (fu:Nat)(call:Aj)(nm us:ByteArray)(n1:Nat)(c1:List PV)(k1 k2:Int)(k3 k4:Int)(k5:Bool)(k6:Int)(n2:Nat)(c2:List PV)(k7:Bool)(k8 k9:Int)(nn y0:Nat)(y1:List PV)(y2 y3:ByteArray)(y4:Int)(y5:Bool)(y6:Nat)(y7:List PV)(y8 y9:Int)(Dl Dt:Int)(Cq:Bool)(Ds:Int)(D0:Nat)(E0:List PV)(Ec:Bool)(D1 F0:Int):Option Be:=Cv CB prog fu call 15 Try.f15 (Bw Try.f15) [.lst false 3 0 [],.sc (.string nm),.sc (.string us),.agg [.lst false 1 n1 c1,.sc (.int .i64 k1),.sc (.int .u64 k2),.sc (.int .u64 k3),.sc (.int .i64 k4),.sc (.bool k5),.sc (.int .u64 k6),.lst false 2 n2 c2,.sc (.bool k7),.sc (.int .i64 k8),.sc (.int .i64 k9)]] [.r,.r,.r,.r,.r] nn ⟨lk [(0,(.lst false 3 y0 y1)),(1,(.sc (.string y2))),(2,(.sc (.string y3))),(7,(.ptr 7 0)),(13,(.sc (.int .i64 y4))),(14,(.sc (.bool y5)))],E3 [(7,(.st [(.lst false 1 y6 y7),(.sc (.int .i64 y8)),(.sc (.int .u64 y9)),(.sc (.int .u64 Dl)),(.sc (.int .i64 Dt)),(.sc (.bool Cq)),(.sc (.int .u64 Ds)),(.lst false 2 D0 E0),(.sc (.bool Ec)),(.sc (.int .i64 D1)),(.sc (.int .i64 F0))]))]⟩
theorem Ox (fu:Nat)(call:Aj)(nm us:ByteArray)(n1:Nat)(c1:List PV)(k1 k2:Int)(k3 k4:Int)(k5:Bool)(k6:Int)(n2:Nat)(c2:List PV)(k7:Bool)(k8 k9:Int)(nn:Nat)(Es:0<nn)(y0:Nat)(y1:List PV)(y2 y3:ByteArray)(y4:Int)(y5:Bool)(y6:Nat)(y7:List PV)(y8 y9:Int)(Dl Dt:Int)(Cq:Bool)(Ds:Int)(D0:Nat)(E0:List PV)(Ec:Bool)(D1 F0:Int):Gf fu call nm us n1 c1 k1 k2 k3 k4 k5 k6 n2 c2 k7 k8 k9 nn y0 y1 y2 y3 y4 y5 y6 y7 y8 y9 Dl Dt Cq Ds D0 E0 Ec D1 F0=(As (call 38 [.lst false 3 y0 y1]) fun P8 Qt=>Ah Qt<|Ab P8 fun Tn Rx=>M4 3 Tn fun Iy U6=>Ah Rx<|Ca (!y5) (Ar (decide (Iy*3<=U6.length)&&true&&decide ((Iy+1)*56<=1099511627776)&&decide (Iy+1<=1099511627776))<|Aa (Iy+1) fun Uz=>Aa (List.take (Iy*3) U6++[.sc (.string y2),.sc (.string y3),.lst true 11 0 []]) fun Q7=>Ar (decide ((↑Iy:Int)<(↑Uz:Int)))<|F3 11 (List.getD Q7 (0+Int.toNat (↑Iy:Int)*3+2) .top) fun CL CR O1=>As (call 39 [.agg [.lst false 1 y6 y7,.sc (.int .i64 y8),.sc (.int .u64 y9),.sc (.int .u64 Dl),.sc (.int .i64 Dt),.sc (.bool Cq),.sc (.int .u64 Ds),.lst false 2 D0 E0,.sc (.bool Ec),.sc (.int .i64 D1),.sc (.int .i64 F0)]]) fun Ry AX=>Ah AX<|Ab Ry fun Xf T7=>D6 Xf fun CI=>Ab CI fun Xw S8=>M4 1 Xw fun Xy CN=>Ab S8 fun Yn JH=>Ag .i64 Yn fun GT=>Ab JH fun JE GU=>Ag .u64 JE fun HY=>Ab GU fun JL JF=>Ag .u64 JL fun IV=>Ab JF fun HN X5=>Ag .i64 HN fun GX=>Ab X5 fun KM GP=>A4 KM fun Xd=>Ab GP fun HB HQ=>Ag .u64 HB fun HK=>Ab HQ fun DG HI=>M4 2 DG fun GH Y1=>Ab HI fun Oq QL=>A4 Oq fun PX=>Ab QL fun JM Zm=>Ag .i64 JM fun OY=>Ab Zm fun KD NB=>Ag .i64 KD fun OQ=>Ah NB<|Ah T7<|Ar (decide (0+Xy*1<=CN.length))<|Ar (decide (0+GH*2<=Y1.length))<|Ar (CL&&true&&true&&true&&true&&true)<|Ar (decide ((↑Iy:Int)<(↑Uz:Int)))<|Ar (decide (0+Int.toNat (↑Iy:Int)*3+2+1<=Q7.length))<|Aa (A0 Q7 [.lst false 11 1 [.lst false 1 Xy (List.take (Xy*1) (List.drop 0 CN)),.sc (.int .i64 GT),.sc (.int .u64 HY),.sc (.int .u64 IV),.sc (.int .i64 GX),.sc (.bool Xd),.sc (.int .u64 HK),.lst false 2 GH (List.take (GH*2) (List.drop 0 Y1)),.sc (.bool PX),.sc (.int .i64 OY),.sc (.int .i64 OQ)]] (0+Int.toNat (↑Iy:Int)*3+2)) fun KY=>Ar (decide (0+Uz*3<=KY.length))<|some (Be.mk [.lst false 3 Uz (List.take (Uz*3) (List.drop 0 KY)),.sc (.int .i64 0)] [])) (Ar (decide (0<=y4)&&decide (y4<(↑Iy:Int)))<|F3 11 (List.getD U6 (0+Int.toNat y4*3+2) .top) fun NT VE LC=>As (call 39 [.agg [.lst false 1 y6 y7,.sc (.int .i64 y8),.sc (.int .u64 y9),.sc (.int .u64 Dl),.sc (.int .i64 Dt),.sc (.bool Cq),.sc (.int .u64 Ds),.lst false 2 D0 E0,.sc (.bool Ec),.sc (.int .i64 D1),.sc (.int .i64 F0)]]) fun CQ JK=>Ah JK<|Ab CQ fun UU QD=>D6 UU fun ML=>Ab ML fun QE YK=>M4 1 QE fun KT WC=>Ab YK fun x84 IB=>Ag .i64 x84 fun VX=>Ab IB fun x87 QI=>Ag .u64 x87 fun QG=>Ab QI fun YV QQ=>Ag .u64 YV fun WO=>Ab QQ fun ZM WI=>Ag .i64 ZM fun x95=>Ab WI fun x96 x97=>A4 x96 fun WK=>Ab x97 fun WN HR=>Ag .u64 WN fun IP=>Ab HR fun T0 IH=>M4 2 T0 fun BL Of=>Ab IH fun JI KC=>A4 JI fun Xl=>Ab KC fun HX HT=>Ag .i64 HX fun Ov=>Ab HT fun IJ HU=>Ag .i64 IJ fun IE=>Ah HU<|Ah QD<|Ar (decide (0+KT*1<=WC.length))<|Ar (decide (0+BL*2<=Of.length))<|Ar (NT&&true&&true&&true&&true&&true)<|Ar (decide (0<=y4)&&decide (y4<(↑Iy:Int)))<|Ar (decide (0+Int.toNat y4*3+2+1<=U6.length))<|Aa (A0 U6 [.lst false 11 1 [.lst false 1 KT (List.take (KT*1) (List.drop 0 WC)),.sc (.int .i64 VX),.sc (.int .u64 QG),.sc (.int .u64 WO),.sc (.int .i64 x95),.sc (.bool WK),.sc (.int .u64 IP),.lst false 2 BL (List.take (BL*2) (List.drop 0 Of)),.sc (.bool Xl),.sc (.int .i64 Ov),.sc (.int .i64 IE)]] (0+Int.toNat y4*3+2)) fun DL=>Ar (decide (0+Iy*3<=DL.length))<|some (Be.mk [.lst false 3 Iy (List.take (Iy*3) (List.drop 0 DL)),.sc (.int .i64 0)] []))):=by cases nn with|zero=>exact absurd Es (Nat.lt_irrefl 0)|succ nn=>kernel_rfl
theorem Sn (fu d:Nat)(nm us:ByteArray)(n1:Nat)(c1:List PV)(k1 k2:Int)(k3 k4:Int)(k5:Bool)(k6:Int)(n2:Nat)(c2:List PV)(k7:Bool)(k8 k9:Int):Am C0 prog fu (d+1) Su [.lst false 3 0 [],.sc (.string nm),.sc (.string us),.agg [.lst false 1 n1 c1,.sc (.int .i64 k1),.sc (.int .u64 k2),.sc (.int .u64 k3),.sc (.int .i64 k4),.sc (.bool k5),.sc (.int .u64 k6),.lst false 2 n2 c2,.sc (.bool k7),.sc (.int .i64 k8),.sc (.int .i64 k9)]]=(fun (call:Aj)=>Ca (decide ((↑(ByteArray.size nm):Int)<1)) (some (Be.mk [.lst false 3 0 [],.sc (.int .i64 9)] [])) (Ca (decide ((↑(ByteArray.size nm):Int)>32)) (some (Be.mk [.lst false 3 0 [],.sc (.int .i64 9)] [])) (Ca ((↑n1:Int) != 176) (some (Be.mk [.lst false 3 0 [],.sc (.int .i64 4)] [])) (As (call 35 [.lst false 3 0 [],.lst false 1 n1 c1]) fun x1 x2=>Ah x2<|Ab x1 fun x3 x4=>Ag .i64 x3 fun x5=>Ab x4 fun x6 x7=>Ag .i64 x6 fun x8=>Ab x7 fun x9 La=>A4 x9 fun Mh=>Ah La<|Ca Mh (some (Be.mk [.lst false 3 0 [],.sc (.int .i64 10)] [])) (As (call 18 [.lst false 3 0 [],.sc (.string nm)]) fun Ju Px=>Ah Px<|Ab Ju fun Mc Nr=>Ag .i64 Mc fun Ru=>Ab Nr fun Tb Pa=>A4 Tb fun Jj=>Ah Pa<|Ca Jj (Ar (decide (0<=Ru)&&decide (Ru<0))<|none) (Ca (!Jj) (Gf fu call nm us n1 c1 k1 k2 k3 k4 k5 k6 n2 c2 k7 k8 k9 (fu) 0 ([]) (nm) (us) Ru Jj (n1) (c1) (k1) (k2) (k3) (k4) (k5) (k6) (n2) (c2) (k7) (k8) (k9)) (Gf fu call nm us n1 c1 k1 k2 k3 k4 k5 k6 n2 c2 k7 k8 k9 (fu) 0 ([]) (nm) (us) Ru Jj (n1) (c1) (k1) (k2) (k3) (k4) (k5) (k6) (n2) (c2) (k7) (k8) (k9)))))))) (Am C0 prog fu d):=by kernel_rfl
end
section
open Go.Proofs.Try (prog)
open Go.IntKind (wrap)
set_option maxRecDepth 100000
abbrev Hw:FuncId:=9
noncomputable def Ek (fu:Nat)(call:Aj)(nn:Nat):Option Be:=Cv CB prog fu call 9 Try.f9 (Bw Try.f9) [] [] nn ⟨lk [],E3 []⟩
noncomputable def Gt (fu:Nat)(call:Aj)(nn:Nat)(y0:Int)(y1:Nat)(y2:List PV)(y3 y4:Int)(y5 y6:Int)(y7:Bool)(y8:Int)(y9:Nat)(Dl:List PV)(Dt:Bool)(Cq Ds:Int):Option Be:=Cv CB prog fu call 9 Try.f9 (Bw Try.f9) [] [.r] nn ⟨lk [(1,(.ptr 1 0)),(2,(.sc (.int .i64 y0)))],E3 [(1,(.st [(.lst false 1 y1 y2),(.sc (.int .i64 y3)),(.sc (.int .u64 y4)),(.sc (.int .u64 y5)),(.sc (.int .i64 y6)),(.sc (.bool y7)),(.sc (.int .u64 y8)),(.lst false 2 y9 Dl),(.sc (.bool Dt)),(.sc (.int .i64 Cq)),(.sc (.int .i64 Ds))]))]⟩
noncomputable def Gw (fu:Nat)(call:Aj)(nn:Nat)(y0 y1:Int)(y2:Nat)(y3:List PV)(y4 y5:Int)(y6 y7:Int)(y8:Bool)(y9:Int)(Dl:Nat)(Dt:List PV)(Cq:Bool)(Ds D0:Int):Option Be:=Cv CB prog fu call 9 Try.f9 (Bw Try.f9) [] [.r,.r] nn ⟨lk [(1,(.ptr 1 0)),(2,(.sc (.int .i64 y0))),(3,(.sc (.int .i64 y1)))],E3 [(1,(.st [(.lst false 1 y2 y3),(.sc (.int .i64 y4)),(.sc (.int .u64 y5)),(.sc (.int .u64 y6)),(.sc (.int .i64 y7)),(.sc (.bool y8)),(.sc (.int .u64 y9)),(.lst false 2 Dl Dt),(.sc (.bool Cq)),(.sc (.int .i64 Ds)),(.sc (.int .i64 D0))]))]⟩
noncomputable def Gu (fu:Nat)(call:Aj)(nn:Nat)(y0 y1 y2:Int)(y3:Nat)(y4:List PV)(y5 y6:Int)(y7 y8:Int)(y9:Bool)(Dl:Int)(Dt:Nat)(Cq:List PV)(Ds:Bool)(D0 E0:Int)(Ec:Nat)(D1:List PV)(F0 He:Int)(Oe M9:Int)(Nl:Bool)(Nz:Int)(N8:Nat)(Ny:List PV)(N7:Bool)(Oa N5:Int):Option Be:=Cv CB prog fu call 9 Try.f9 (Bw Try.f9) [] [.r,.r,.r] nn ⟨lk [(1,(.ptr 1 0)),(2,(.sc (.int .i64 y0))),(3,(.sc (.int .i64 y1))),(4,(.ptr 4 0)),(5,(.sc (.int .i64 y2)))],E3 [(1,(.st [(.lst false 1 y3 y4),(.sc (.int .i64 y5)),(.sc (.int .u64 y6)),(.sc (.int .u64 y7)),(.sc (.int .i64 y8)),(.sc (.bool y9)),(.sc (.int .u64 Dl)),(.lst false 2 Dt Cq),(.sc (.bool Ds)),(.sc (.int .i64 D0)),(.sc (.int .i64 E0))])),(4,(.st [(.lst false 1 Ec D1),(.sc (.int .i64 F0)),(.sc (.int .u64 He)),(.sc (.int .u64 Oe)),(.sc (.int .i64 M9)),(.sc (.bool Nl)),(.sc (.int .u64 Nz)),(.lst false 2 N8 Ny),(.sc (.bool N7)),(.sc (.int .i64 Oa)),(.sc (.int .i64 N5))]))]⟩
noncomputable def Gs (fu:Nat)(call:Aj)(nn:Nat)(y0 y1:Int)(y2 y3:Int)(y4:Nat)(y5:List PV)(y6 y7:Int)(y8 y9:Int)(Dl:Bool)(Dt:Int)(Cq:Nat)(Ds:List PV)(D0:Bool)(E0 Ec:Int)(D1:Nat)(F0:List PV)(He Oe:Int)(M9 Nl:Int)(Nz:Bool)(N8:Int)(Ny:Nat)(N7:List PV)(Oa:Bool)(N5 Us:Int)(Uv:Nat)(BI:List PV)(Y5 Zt:Int)(BW AJ:Int)(QB:Bool)(NM:Int)(NE:Nat)(OX:List PV)(NJ:Bool)(MT PB:Int):Option Be:=Cv CB prog fu call 9 Try.f9 (Bw Try.f9) [] [.r,.r,.r,.r] nn ⟨lk [(1,(.ptr 1 0)),(2,(.sc (.int .i64 y0))),(3,(.sc (.int .i64 y1))),(4,(.ptr 4 0)),(5,(.sc (.int .i64 y2))),(6,(.ptr 6 0)),(7,(.sc (.int .i64 y3)))],E3 [(1,(.st [(.lst false 1 y4 y5),(.sc (.int .i64 y6)),(.sc (.int .u64 y7)),(.sc (.int .u64 y8)),(.sc (.int .i64 y9)),(.sc (.bool Dl)),(.sc (.int .u64 Dt)),(.lst false 2 Cq Ds),(.sc (.bool D0)),(.sc (.int .i64 E0)),(.sc (.int .i64 Ec))])),(4,(.st [(.lst false 1 D1 F0),(.sc (.int .i64 He)),(.sc (.int .u64 Oe)),(.sc (.int .u64 M9)),(.sc (.int .i64 Nl)),(.sc (.bool Nz)),(.sc (.int .u64 N8)),(.lst false 2 Ny N7),(.sc (.bool Oa)),(.sc (.int .i64 N5)),(.sc (.int .i64 Us))])),(6,(.st [(.lst false 1 Uv BI),(.sc (.int .i64 Y5)),(.sc (.int .u64 Zt)),(.sc (.int .u64 BW)),(.sc (.int .i64 AJ)),(.sc (.bool QB)),(.sc (.int .u64 NM)),(.lst false 2 NE OX),(.sc (.bool NJ)),(.sc (.int .i64 MT)),(.sc (.int .i64 PB))]))]⟩
noncomputable def Gx (fu:Nat)(call:Aj)(nn:Nat)(y0 y1:Int)(y2 y3:Int)(y4:Nat)(y5:List PV)(y6:Int)(y7:Nat)(y8:List PV)(y9 Dl:Int)(Dt Cq:Int)(Ds:Bool)(D0:Int)(E0:Nat)(Ec:List PV)(D1:Bool)(F0 He:Int)(Oe:Nat)(M9:List PV)(Nl Nz:Int)(N8 Ny:Int)(N7:Bool)(Oa:Int)(N5:Nat)(Us:List PV)(Uv:Bool)(BI Y5:Int)(Zt:Nat)(BW:List PV)(AJ QB:Int)(NM NE:Int)(OX:Bool)(NJ:Int)(MT:Nat)(PB:List PV)(y43:Bool)(y44 ZE:Int):Option Be:=Cv CB prog fu call 9 Try.f9 (Bw Try.f9) [] [.r,.r,.r,.r,.r] nn ⟨lk [(1,(.ptr 1 0)),(2,(.sc (.int .i64 y0))),(3,(.sc (.int .i64 y1))),(4,(.ptr 4 0)),(5,(.sc (.int .i64 y2))),(6,(.ptr 6 0)),(7,(.sc (.int .i64 y3))),(8,(.lst false 3 y4 y5)),(9,(.sc (.int .i64 y6)))],E3 [(1,(.st [(.lst false 1 y7 y8),(.sc (.int .i64 y9)),(.sc (.int .u64 Dl)),(.sc (.int .u64 Dt)),(.sc (.int .i64 Cq)),(.sc (.bool Ds)),(.sc (.int .u64 D0)),(.lst false 2 E0 Ec),(.sc (.bool D1)),(.sc (.int .i64 F0)),(.sc (.int .i64 He))])),(4,(.st [(.lst false 1 Oe M9),(.sc (.int .i64 Nl)),(.sc (.int .u64 Nz)),(.sc (.int .u64 N8)),(.sc (.int .i64 Ny)),(.sc (.bool N7)),(.sc (.int .u64 Oa)),(.lst false 2 N5 Us),(.sc (.bool Uv)),(.sc (.int .i64 BI)),(.sc (.int .i64 Y5))])),(6,(.st [(.lst false 1 Zt BW),(.sc (.int .i64 AJ)),(.sc (.int .u64 QB)),(.sc (.int .u64 NM)),(.sc (.int .i64 NE)),(.sc (.bool OX)),(.sc (.int .u64 NJ)),(.lst false 2 MT PB),(.sc (.bool y43)),(.sc (.int .i64 y44)),(.sc (.int .i64 ZE))]))]⟩
noncomputable def Gq (fu:Nat)(call:Aj)(nn:Nat)(y0 y1:Int)(y2 y3:Int)(y4:Nat)(y5:List PV)(y6 y7:Int)(y8:Bool)(y9:Nat)(Dl:List PV)(Dt Cq:Int)(Ds D0:Int)(E0:Bool)(Ec:Int)(D1:Nat)(F0:List PV)(He:Bool)(Oe M9:Int)(Nl:Nat)(Nz:List PV)(N8 Ny:Int)(N7 Oa:Int)(N5:Bool)(Us:Int)(Uv:Nat)(BI:List PV)(Y5:Bool)(Zt BW:Int)(AJ:Nat)(QB:List PV)(NM NE:Int)(OX NJ:Int)(MT:Bool)(PB:Int)(y43:Nat)(y44:List PV)(ZE:Bool)(y46 y47:Int):Option Be:=Cv CB prog fu call 9 Try.f9 (Bw Try.f9) [] [.r,.r,.r,.r,.r,.r] nn ⟨lk [(1,(.ptr 1 0)),(2,(.sc (.int .i64 y0))),(3,(.sc (.int .i64 y1))),(4,(.ptr 4 0)),(5,(.sc (.int .i64 y2))),(6,(.ptr 6 0)),(7,(.sc (.int .i64 y3))),(8,(.lst false 3 y4 y5)),(9,(.sc (.int .i64 y6))),(10,(.sc (.int .i64 y7))),(11,(.sc (.bool y8)))],E3 [(1,(.st [(.lst false 1 y9 Dl),(.sc (.int .i64 Dt)),(.sc (.int .u64 Cq)),(.sc (.int .u64 Ds)),(.sc (.int .i64 D0)),(.sc (.bool E0)),(.sc (.int .u64 Ec)),(.lst false 2 D1 F0),(.sc (.bool He)),(.sc (.int .i64 Oe)),(.sc (.int .i64 M9))])),(4,(.st [(.lst false 1 Nl Nz),(.sc (.int .i64 N8)),(.sc (.int .u64 Ny)),(.sc (.int .u64 N7)),(.sc (.int .i64 Oa)),(.sc (.bool N5)),(.sc (.int .u64 Us)),(.lst false 2 Uv BI),(.sc (.bool Y5)),(.sc (.int .i64 Zt)),(.sc (.int .i64 BW))])),(6,(.st [(.lst false 1 AJ QB),(.sc (.int .i64 NM)),(.sc (.int .u64 NE)),(.sc (.int .u64 OX)),(.sc (.int .i64 NJ)),(.sc (.bool MT)),(.sc (.int .u64 PB)),(.lst false 2 y43 y44),(.sc (.bool ZE)),(.sc (.int .i64 y46)),(.sc (.int .i64 y47))]))]⟩
theorem Kj (fu:Nat)(call:Aj)(nn:Nat)(Es:0<nn):Ek fu call nn=(As (call 12 [.sc (.int .i64 1),.sc (.int .i64 2)]) fun x1 x2=>Ah x2<|Ab x1 fun x3 x4=>D6 x3 fun x5=>Ab x5 fun x6 x7=>F3 1 x6 fun x8 x9 La=>Ab x7 fun Mh Ju=>Ag .i64 Mh fun Px=>Ab Ju fun Mc Nr=>Ag .u64 Mc fun Ru=>Ab Nr fun Tb Pa=>Ag .u64 Tb fun Jj=>Ab Pa fun P8 Qt=>Ag .i64 P8 fun Tn=>Ab Qt fun Rx Iy=>A4 Rx fun U6=>Ab Iy fun Uz Q7=>Ag .u64 Uz fun CL=>Ab Q7 fun CR O1=>F3 2 CR fun Ry AX Xf=>Ab O1 fun T7 CI=>A4 T7 fun Xw=>Ab CI fun S8 Xy=>Ag .i64 S8 fun CN=>Ab Xy fun Yn JH=>Ag .i64 Yn fun GT=>Ah JH<|Ah x4<|As (call 21 [.agg [.lst false 1 x9 La,.sc (.int .i64 Px),.sc (.int .u64 Ru),.sc (.int .u64 Jj),.sc (.int .i64 Tn),.sc (.bool U6),.sc (.int .u64 CL),.lst false 2 AX Xf,.sc (.bool Xw),.sc (.int .i64 CN),.sc (.int .i64 GT)],.sc (.int .i64 1),.sc (.int .i64 0),.sc (.int .i64 7)]) fun JE GU=>Ah GU<|Ab JE fun HY JL=>D6 HY fun JF=>Ab JF fun IV HN=>F3 1 IV fun X5 GX KM=>Ab HN fun GP Xd=>Ag .i64 GP fun HB=>Ab Xd fun HQ HK=>Ag .u64 HQ fun DG=>Ab HK fun HI GH=>Ag .u64 HI fun Y1=>Ab GH fun Oq QL=>Ag .i64 Oq fun PX=>Ab QL fun JM Zm=>A4 JM fun OY=>Ab Zm fun KD NB=>Ag .u64 KD fun OQ=>Ab NB fun KY NT=>F3 2 KY fun VE LC CQ=>Ab NT fun JK UU=>A4 JK fun QD=>Ab UU fun ML QE=>Ag .i64 ML fun YK=>Ab QE fun KT WC=>Ag .i64 KT fun x84=>Ah WC<|Ab JL fun IB VX=>Ag .i64 IB fun x87=>Ah VX<|Gt fu call (fu) x87 GX KM HB DG Y1 PX OY OQ LC CQ QD YK x84):=by cases nn with|zero=>exact absurd Es (Nat.lt_irrefl 0)|succ nn=>kernel_rfl
theorem Kq (fu:Nat)(call:Aj)(nn:Nat)(Es:0<nn)(y0:Int)(y1:Nat)(y2:List PV)(y3 y4:Int)(y5 y6:Int)(y7:Bool)(y8:Int)(y9:Nat)(Dl:List PV)(Dt:Bool)(Cq Ds:Int):Gt fu call nn y0 y1 y2 y3 y4 y5 y6 y7 y8 y9 Dl Dt Cq Ds=(As (call 21 [.agg [.lst false 1 y1 y2,.sc (.int .i64 y3),.sc (.int .u64 y4),.sc (.int .u64 y5),.sc (.int .i64 y6),.sc (.bool y7),.sc (.int .u64 y8),.lst false 2 y9 Dl,.sc (.bool Dt),.sc (.int .i64 Cq),.sc (.int .i64 Ds)],.sc (.int .i64 3),.sc (.int .i64 2),.sc (.int .i64 8)]) fun QI QG=>Ah QG<|Ab QI fun YV QQ=>D6 YV fun WO=>Ab WO fun ZM WI=>F3 1 ZM fun x95 x96 x97=>Ab WI fun WK WN=>Ag .i64 WK fun HR=>Ab WN fun IP T0=>Ag .u64 IP fun IH=>Ab T0 fun BL Of=>Ag .u64 BL fun JI=>Ab Of fun KC Xl=>Ag .i64 KC fun HX=>Ab Xl fun HT Ov=>A4 HT fun IJ=>Ab Ov fun HU IE=>Ag .u64 HU fun DL=>Ab IE fun SZ UW=>F3 2 SZ fun YN TB VF=>Ab UW fun UA UZ=>A4 UA fun Aaf=>Ab UZ fun XS XL=>Ag .i64 XS fun TZ=>Ab XL fun TO XP=>Ag .i64 TO fun TI=>Ah XP<|Ab QQ fun SK ZG=>Ag .i64 SK fun ST=>Ah ZG<|Gw fu call (fu) (y0) ST x96 x97 HR IH JI HX IJ DL TB VF Aaf TZ TI):=by cases nn with|zero=>exact absurd Es (Nat.lt_irrefl 0)|succ nn=>kernel_rfl
theorem Kw (fu:Nat)(call:Aj)(nn:Nat)(Es:0<nn)(y0 y1:Int)(y2:Nat)(y3:List PV)(y4 y5:Int)(y6 y7:Int)(y8:Bool)(y9:Int)(Dl:Nat)(Dt:List PV)(Cq:Bool)(Ds D0:Int):Gw fu call nn y0 y1 y2 y3 y4 y5 y6 y7 y8 y9 Dl Dt Cq Ds D0=(As (call 21 [.agg [.lst false 1 y2 y3,.sc (.int .i64 y4),.sc (.int .u64 y5),.sc (.int .u64 y6),.sc (.int .i64 y7),.sc (.bool y8),.sc (.int .u64 y9),.lst false 2 Dl Dt,.sc (.bool Cq),.sc (.int .i64 Ds),.sc (.int .i64 D0)],.sc (.int .i64 0),.sc (.int .i64 0),.sc (.int .i64 9)]) fun UH YI=>Ah YI<|Ab UH fun RI RV=>D6 RI fun YG=>Ab YG fun TW SJ=>F3 1 TW fun Ac6 UK VC=>Ab SJ fun XA JP=>Ag .i64 XA fun RJ=>Ab JP fun YH YC=>Ag .u64 YH fun Aac=>Ab YC fun Adu Adv=>Ag .u64 Adu fun Ady=>Ab Adv fun Abw Ac1=>Ag .i64 Abw fun Afz=>Ab Ac1 fun Adh Acs=>A4 Adh fun Afq=>Ab Acs fun Ac9 Adw=>Ag .u64 Ac9 fun Acd=>Ab Adw fun Adq Ach=>F3 2 Adq fun Af1 Acm Ac2=>Ab Ach fun Adn Abz=>A4 Adn fun Acg=>Ab Abz fun Acf Al2=>Ag .i64 Acf fun Aiv=>Ab Al2 fun Akn Ak3=>Ag .i64 Akn fun Aj3=>Ah Ak3<|Ab RV fun Alq Ai2=>Ag .i64 Alq fun Ais=>Ah Ai2<|Gu fu call (fu) (y0) (y1) Ais (y2) (y3) (y4) (y5) (y6) (y7) (y8) (y9) (Dl) (Dt) (Cq) (Ds) (D0) UK VC RJ Aac Ady Afz Afq Acd Acm Ac2 Acg Aiv Aj3):=by cases nn with|zero=>exact absurd Es (Nat.lt_irrefl 0)|succ nn=>kernel_rfl
theorem Ku (fu:Nat)(call:Aj)(nn:Nat)(Es:0<nn)(y0 y1 y2:Int)(y3:Nat)(y4:List PV)(y5 y6:Int)(y7 y8:Int)(y9:Bool)(Dl:Int)(Dt:Nat)(Cq:List PV)(Ds:Bool)(D0 E0:Int)(Ec:Nat)(D1:List PV)(F0 He:Int)(Oe M9:Int)(Nl:Bool)(Nz:Int)(N8:Nat)(Ny:List PV)(N7:Bool)(Oa N5:Int):Gu fu call nn y0 y1 y2 y3 y4 y5 y6 y7 y8 y9 Dl Dt Cq Ds D0 E0 Ec D1 F0 He Oe M9 Nl Nz N8 Ny N7 Oa N5=(As (call 21 [.agg [.lst false 1 y3 y4,.sc (.int .i64 y5),.sc (.int .u64 y6),.sc (.int .u64 y7),.sc (.int .i64 y8),.sc (.bool y9),.sc (.int .u64 Dl),.lst false 2 Dt Cq,.sc (.bool Ds),.sc (.int .i64 D0),.sc (.int .i64 E0)],.sc (.int .i64 3),.sc (.int .i64 2),.sc (.int .i64 9)]) fun Ale Ajt=>Ah Ajt<|Ab Ale fun Akk Ah3=>D6 Akk fun Akm=>Ab Akm fun Ai3 Alm=>F3 1 Ai3 fun Ans Aih Alt=>Ab Alm fun Ajh Alf=>Ag .i64 Ajh fun Aic=>Ab Alf fun Ajv Alh=>Ag .u64 Ajv fun Ajq=>Ab Alh fun Al3 Aj6=>Ag .u64 Al3 fun Ajf=>Ab Aj6 fun Alv Ahw=>Ag .i64 Alv fun Aib=>Ab Ahw fun Aly Akd=>A4 Aly fun Aj9=>Ab Akd fun Ahz Ajz=>Ag .u64 Ahz fun Al0=>Ab Ajz fun Aiz Ah4=>F3 2 Aiz fun Ao8 Ah1 Ai0=>Ab Ah4 fun Ah5 Aj4=>A4 Ah5 fun Aim=>Ab Aj4 fun Al1 Ak8=>Ag .i64 Al1 fun Ajw=>Ab Ak8 fun Ajr Ai9=>Ag .i64 Ajr fun Aip=>Ah Ai9<|Ab Ah3 fun Aj0 Ali=>Ag .i64 Aj0 fun Alb=>Ah Ali<|Gs fu call (fu) (y0) (y1) (y2) Alb (y3) (y4) (y5) (y6) (y7) (y8) (y9) (Dl) (Dt) (Cq) (Ds) (D0) (E0) (Ec) (D1) (F0) (He) (Oe) (M9) (Nl) (Nz) (N8) (Ny) (N7) (Oa) (N5) Aih Alt Aic Ajq Ajf Aib Aj9 Al0 Ah1 Ai0 Aim Ajw Aip):=by cases nn with|zero=>exact absurd Es (Nat.lt_irrefl 0)|succ nn=>kernel_rfl
theorem K2 (fu:Nat)(call:Aj)(nn:Nat)(Es:0<nn)(y0 y1:Int)(y2 y3:Int)(y4:Nat)(y5:List PV)(y6 y7:Int)(y8 y9:Int)(Dl:Bool)(Dt:Int)(Cq:Nat)(Ds:List PV)(D0:Bool)(E0 Ec:Int)(D1:Nat)(F0:List PV)(He Oe:Int)(M9 Nl:Int)(Nz:Bool)(N8:Int)(Ny:Nat)(N7:List PV)(Oa:Bool)(N5 Us:Int)(Uv:Nat)(BI:List PV)(Y5 Zt:Int)(BW AJ:Int)(QB:Bool)(NM:Int)(NE:Nat)(OX:List PV)(NJ:Bool)(MT PB:Int):Gs fu call nn y0 y1 y2 y3 y4 y5 y6 y7 y8 y9 Dl Dt Cq Ds D0 E0 Ec D1 F0 He Oe M9 Nl Nz N8 Ny N7 Oa N5 Us Uv BI Y5 Zt BW AJ QB NM NE OX NJ MT PB=(As (call 15 [.lst false 3 0 [],.sc (.string (ByteArray.mk #[97,108,105,99,101])),.sc (.string (ByteArray.mk #[117])),.agg [.lst false 1 y4 y5,.sc (.int .i64 y6),.sc (.int .u64 y7),.sc (.int .u64 y8),.sc (.int .i64 y9),.sc (.bool Dl),.sc (.int .u64 Dt),.lst false 2 Cq Ds,.sc (.bool D0),.sc (.int .i64 E0),.sc (.int .i64 Ec)]]) fun Alz Ak4=>Ah Ak4<|Ab Alz fun Akq Als=>F3 3 Akq fun Aom Aiy Aj8=>Ab Als fun Aiq Alp=>Ag .i64 Aiq fun Aii=>Ah Alp<|Gx fu call (fu) (y0) (y1) (y2) (y3) Aiy Aj8 Aii (y4) (y5) (y6) (y7) (y8) (y9) (Dl) (Dt) (Cq) (Ds) (D0) (E0) (Ec) (D1) (F0) (He) (Oe) (M9) (Nl) (Nz) (N8) (Ny) (N7) (Oa) (N5) (Us) (Uv) (BI) (Y5) (Zt) (BW) (AJ) (QB) (NM) (NE) (OX) (NJ) (MT) (PB)):=by cases nn with|zero=>exact absurd Es (Nat.lt_irrefl 0)|succ nn=>kernel_rfl
theorem Kk (fu:Nat)(call:Aj)(nn:Nat)(Es:0<nn)(y0 y1:Int)(y2 y3:Int)(y4:Nat)(y5:List PV)(y6:Int)(y7:Nat)(y8:List PV)(y9 Dl:Int)(Dt Cq:Int)(Ds:Bool)(D0:Int)(E0:Nat)(Ec:List PV)(D1:Bool)(F0 He:Int)(Oe:Nat)(M9:List PV)(Nl Nz:Int)(N8 Ny:Int)(N7:Bool)(Oa:Int)(N5:Nat)(Us:List PV)(Uv:Bool)(BI Y5:Int)(Zt:Nat)(BW:List PV)(AJ QB:Int)(NM NE:Int)(OX:Bool)(NJ:Int)(MT:Nat)(PB:List PV)(y43:Bool)(y44 ZE:Int):Gx fu call nn y0 y1 y2 y3 y4 y5 y6 y7 y8 y9 Dl Dt Cq Ds D0 E0 Ec D1 F0 He Oe M9 Nl Nz N8 Ny N7 Oa N5 Us Uv BI Y5 Zt BW AJ QB NM NE OX NJ MT PB y43 y44 ZE=(As (call 18 [.lst false 3 y4 y5,.sc (.string (ByteArray.mk #[97,108,105,99,101]))]) fun Akv Aks=>Ah Aks<|Ab Akv fun Ait Ajy=>Ag .i64 Ait fun Aht=>Ab Ajy fun Ahv Ajb=>A4 Ahv fun Ai7=>Ah Ajb<|Gq fu call (fu) (y0) (y1) (y2) (y3) (y4) (y5) (y6) Aht Ai7 (y7) (y8) (y9) (Dl) (Dt) (Cq) (Ds) (D0) (E0) (Ec) (D1) (F0) (He) (Oe) (M9) (Nl) (Nz) (N8) (Ny) (N7) (Oa) (N5) (Us) (Uv) (BI) (Y5) (Zt) (BW) (AJ) (QB) (NM) (NE) (OX) (NJ) (MT) (PB) (y43) (y44) (ZE)):=by cases nn with|zero=>exact absurd Es (Nat.lt_irrefl 0)|succ nn=>kernel_rfl
theorem K8 (fu:Nat)(call:Aj)(nn:Nat)(Es:0<nn)(y0 y1:Int)(y2 y3:Int)(y4:Nat)(y5:List PV)(y6 y7:Int)(y8:Bool)(y9:Nat)(Dl:List PV)(Dt Cq:Int)(Ds D0:Int)(E0:Bool)(Ec:Int)(D1:Nat)(F0:List PV)(He:Bool)(Oe M9:Int)(Nl:Nat)(Nz:List PV)(N8 Ny:Int)(N7 Oa:Int)(N5:Bool)(Us:Int)(Uv:Nat)(BI:List PV)(Y5:Bool)(Zt BW:Int)(AJ:Nat)(QB:List PV)(NM NE:Int)(OX NJ:Int)(MT:Bool)(PB:Int)(y43:Nat)(y44:List PV)(ZE:Bool)(y46 y47:Int):Gq fu call nn y0 y1 y2 y3 y4 y5 y6 y7 y8 y9 Dl Dt Cq Ds D0 E0 Ec D1 F0 He Oe M9 Nl Nz N8 Ny N7 Oa N5 Us Uv BI Y5 Zt BW AJ QB NM NE OX NJ MT PB y43 y44 ZE y46 y47=(Ca (y0==0) (Ca (y1==0) (Ca (y2==37) (Ca (y3==37) (Ca (y6==0) (Ca (!Y5) (Ca (ZE) (Ca (Ec==10) (Ca ((↑D1:Int)==2) (Ca (y8) (Ca (y7==0) (As (call 17 [.lst false 3 y4 y5,.sc (.int .u64 1),.sc (.string (ByteArray.mk #[98,111,98]))]) fun Aln Akr=>Ah Akr<|Ab Aln fun All Alx=>M4 1 All fun Ahu Ao3=>Ah Alx<|some (Be.mk [.sc (.bool ((↑Ahu:Int)==4))] [])) (some (Be.mk [.sc (.bool false)] []))) (some (Be.mk [.sc (.bool false)] []))) (some (Be.mk [.sc (.bool false)] []))) (some (Be.mk [.sc (.bool false)] []))) (some (Be.mk [.sc (.bool false)] []))) (some (Be.mk [.sc (.bool false)] []))) (some (Be.mk [.sc (.bool false)] []))) (some (Be.mk [.sc (.bool false)] []))) (some (Be.mk [.sc (.bool false)] []))) (some (Be.mk [.sc (.bool false)] []))) (some (Be.mk [.sc (.bool false)] []))):=by cases nn with|zero=>exact absurd Es (Nat.lt_irrefl 0)|succ nn=>kernel_rfl
theorem Mt (fu d:Nat):Am C0 prog fu (d+1) Hw []=(fun (call:Aj)=>Ek fu call (fu)) (Am C0 prog fu d):=by kernel_rfl
end
section
open Go.Proofs.Try (prog)
open Go.IntKind (wrap)
set_option maxRecDepth 100000
abbrev J6:FuncId:=20
theorem Qf (fu d:Nat)(a0 a1:Int):Am C0 prog fu (d+1) J6 [.sc (.int .i64 a0),.sc (.int .i64 a1)]=(fun (call:Aj)=>Aa (wrap .u64 a0) fun x1=>Aa (wrap .u64 a1) fun x2=>Ar (decide (x2≠0))<|Aa (Int.tmod x1 x2) fun x3=>Aa (wrap .i64 x3) fun x4=>some (Be.mk [.sc (.int .i64 x4)] [])) (Am C0 prog fu d):=by kernel_rfl
end
section
open Go.IntKind (wrap)
structure Sd where
 id:List Int
 ht:Int
 root:Int
 model:Int
 fmt:Int
 sh:Bool
 used:Int
 rg:List (Int × Int)
 sus:Bool
 since:Int
 last:Int
def Jg (l:List (Int × Int)):List PV:=l.flatMap fun p=>[.sc (.int .i64 p.1),.sc (.int .i64 p.2)]
theorem Hf (l:List (Int × Int)):(Jg l).length=l.length*2:=by
 induction l with
 |nil=>rfl
 |cons p r ih=>show ([_,_]++Jg r).length=_;rw[RS,ih,OZ];simp;omega
theorem VN (p:Int × Int)(r:List (Int × Int)):Jg (p::r)=.sc (.int .i64 p.1) :: .sc (.int .i64 p.2)::Jg r:=rfl
theorem ZD (l r:List (Int × Int)):Jg (l++r)=Jg l++Jg r:=List.flatMap_append
def Sd.cells (x:Sd):List PV:=[.lst false 1 x.id.length (At .u8 x.id),.sc (.int .i64 x.ht),.sc (.int .u64 x.root),.sc (.int .u64 x.model),.sc (.int .i64 x.fmt),.sc (.bool x.sh),.sc (.int .u64 x.used),.lst false 2 x.rg.length (Jg x.rg),.sc (.bool x.sus),.sc (.int .i64 x.since),.sc (.int .i64 x.last)]
def X2 (used leaf:Int):Bool:=used.toNat.testBit leaf.toNat
theorem TV {a b:Int}(ha:0<=a)(ZY:a<=18446744073709551615)(hb:0<=b)(Dr:b<=18446744073709551615):SP .u64 a b=((a.toNat &&& b.toNat:Nat):Int):=by
 have e:(BitVec.ofInt 64 a &&& BitVec.ofInt 64 b).toNat=a.toNat &&& b.toNat:=by
  rw[BitVec.toNat_and,BitVec.toNat_ofInt,BitVec.toNat_ofInt]
  congr 1<;>omega
 have Re:a.toNat &&& b.toNat<=a.toNat:=Nat.and_le_left;show wrap .u64 ((BitVec.ofInt 64 a &&& BitVec.ofInt 64 b).toNat:Int)=_;rw[e];exact C1 (by omega) (by omega)
theorem LB {a b:Int}(ha:0<=a)(ZY:a<=18446744073709551615)(hb:0<=b)(Dr:b<=18446744073709551615):S4 .u64 a b=((a.toNat ||| b.toNat:Nat):Int):=by
 have e:(BitVec.ofInt 64 a ||| BitVec.ofInt 64 b).toNat=a.toNat ||| b.toNat:=by
  rw[BitVec.toNat_or,BitVec.toNat_ofInt,BitVec.toNat_ofInt]
  congr 1<;>omega
 have Bl:a.toNat ||| b.toNat<2 ^ 64:=Nat.or_lt_two_pow (by omega) (by omega)
 show wrap .u64 ((BitVec.ofInt 64 a ||| BitVec.ofInt 64 b).toNat:Int)=_;rw[e];exact C1 (by omega) (by omega)
theorem Mv {n:Nat}(h:n<=15):(2:Nat) ^ n<=32768:=Nat.le_trans (Nat.pow_le_pow_right (by omega) h) (by decide)
theorem Acz {k:Int}(h0:0<=k)(h1:k<=15):Gc .u64 1 k=((2 ^ k.toNat:Nat):Int):=by
 have hp:=Mv (n:=k.toNat) (by omega)
 have e:min k.toNat IntKind.u64.bits=k.toNat:=Nat.min_eq_left (by show k.toNat<=64;omega)
 show wrap .u64 (1*2 ^ (min k.toNat IntKind.u64.bits))=_;rw[e,Int.one_mul,show (2:Int) ^ k.toNat=((2 ^ k.toNat:Nat):Int) by simp]
 generalize 2 ^ k.toNat=m at hp ⊢;exact C1 (by omega) (by omega)
theorem Agp {k:Int}(h0:0<=k)(h1:k<=15):Gc .i64 1 k=((2 ^ k.toNat:Nat):Int):=by
 have hp:=Mv (n:=k.toNat) (by omega)
 have e:min k.toNat IntKind.i64.bits=k.toNat:=Nat.min_eq_left (by show k.toNat<=64;omega)
 show wrap .i64 (1*2 ^ (min k.toNat IntKind.i64.bits))=_;rw[e,Int.one_mul,show (2:Int) ^ k.toNat=((2 ^ k.toNat:Nat):Int) by simp]
 generalize 2 ^ k.toNat=m at hp ⊢;exact wrap_i64 (by omega) (by omega)
theorem Aag (a k:Nat):(a &&& 2 ^ k≠0)↔a.testBit k=true:=by
 constructor
 ·intro h;cases hb:a.testBit k
  ·refine absurd (Nat.eq_of_testBit_eq fun i=>?_) h
   rw[Nat.testBit_and,Nat.testBit_two_pow,Nat.zero_testBit];by_cases e:k=i
   ·subst e;simp[hb]
   ·simp[e]
  ·rfl
 ·intro h e;have:=Nat.testBit_and a (2 ^ k) k;rw[e,Nat.zero_testBit,h,Nat.testBit_two_pow] at this;simp at this
theorem NH {u k:Int}(hu:0<=u)(MM:u<=18446744073709551615)(h0:0<=k)(h1:k<=15):(SP .u64 u (Gc .u64 1 k) != 0)=X2 u k:=by
 have hp:=Mv (n:=k.toNat) (by omega)
 have:=Aag u.toNat k.toNat;unfold X2;rw[Acz h0 h1];generalize 2 ^ k.toNat=m at hp this ⊢;rw[TV hu MM (by omega) (by omega),Xa]
 cases hb:u.toNat.testBit k.toNat
 ·rw[hb] at this;simp only[ne_eq,Bool.false_eq_true,iff_false,Decidable.not_not] at this;rw[this];rfl
 ·rw[hb] at this;simp only[ne_eq,iff_true] at this;simp only[bne_iff_ne,ne_eq];omega
def X3 (u k:Int):Int:=S4 .u64 u (Gc .u64 1 k)
theorem Ab1 {u k:Int}(hu:0<=u)(MM:u<=18446744073709551615)(h0:0<=k)(h1:k<=15):0<=X3 u k∧X3 u k<=18446744073709551615:=by
 have hp:=Mv (n:=k.toNat) (by omega)
 unfold X3;rw[Acz h0 h1];generalize 2 ^ k.toNat=m at hp ⊢;rw[LB hu MM (by omega) (by omega)]
 have Bl:u.toNat ||| ((m:Nat):Int).toNat<2 ^ 64:=Nat.or_lt_two_pow (by omega) (by omega)
 omega
theorem TH {u k j:Int}(hu:0<=u)(MM:u<=18446744073709551615)(h0:0<=k)(h1:k<=15)(hj:0<=j):X2 (X3 u k) j=(X2 u j||decide (j=k)):=by
 have hp:=Mv (n:=k.toNat) (by omega)
 unfold X3 X2
 have e:S4 .u64 u ((2 ^ k.toNat:Nat):Int)=((u.toNat ||| 2 ^ k.toNat:Nat):Int):=by
  generalize 2 ^ k.toNat=m at hp ⊢;rw[LB hu MM (by omega) (by omega),Xa]
 rw[Acz h0 h1,e,Xa,Nat.testBit_or,Nat.testBit_two_pow]
 congr 1
 rw[Bool.eq_iff_iff];simp only[decide_eq_true_eq];omega
def put (f lf:Int):List (Int × Int)->Option (List (Int × Int))
 |[]=>some [(f,lf)]
 |p::r=>if p.1<f then (put f lf r).map (p :: ·) else if p.1=f then (if lf<=p.2 then none else some ((f,lf)::r)) else some ((f,lf)::p::r)
def Ff (l:List (Int × Int)) (f:Int):Option Int:=(l.find? fun p=>p.1==f).map (·.2)
def Asc:List (Int × Int)->Prop
 |[]=>True
 |p::r=>(∀q∈r,p.1<q.1)∧Asc r
theorem KQ {f lf:Int}:∀{l r:List (Int × Int)},put f lf l=some r->∀q∈r,q=(f,lf)∨q∈l
 |[],r,h,q,hq=>by cases h;simp at hq;exact .inl hq
 |p::l,r,h,q,hq=>by
  unfold put at h;split at h
  ·cases hp:put f lf l with
   |none=>rw[hp] at h;cases h
   |some r'=>
    rw[hp] at h;cases h;rcases List.mem_cons.1 hq with rfl|hq
    ·exact .inr (by simp)
    ·exact (KQ hp q hq).imp id fun h=>by simp[h]
  ·split at h
   ·split at h
    ·cases h
    ·cases h;rcases List.mem_cons.1 hq with rfl|hq
     ·exact .inl rfl
     ·exact .inr (by simp[hq])
   ·cases h;rcases List.mem_cons.1 hq with rfl|hq
    ·exact .inl rfl
    ·exact .inr hq
theorem LQ {f lf:Int}:∀{l r:List (Int × Int)},Asc l->put f lf l=some r->Asc r
 |[],r,_,h=>by cases h;exact⟨by simp,trivial⟩
 |p::l,r,ha,h=>by
  unfold put at h;split at h
  ·rename_i h1;cases hp:put f lf l with
   |none=>rw[hp] at h;cases h
   |some r'=>
    rw[hp] at h;cases h;refine⟨fun q hq=>?_,LQ ha.2 hp⟩
    rcases KQ hp q hq with rfl|hq
    ·exact h1
    ·exact ha.1 q hq
  ·split at h
   ·rename_i h2;split at h
    ·cases h
    ·cases h;exact⟨fun q hq=>by have:=ha.1 q hq;simp only;omega,ha.2⟩
   ·cases h;refine⟨fun q hq=>?_,ha⟩
    rcases List.mem_cons.1 hq with rfl|hq
    ·simp only;omega
    ·have:=ha.1 q hq;simp only;omega
theorem Ww {f lf:Int}:∀{l:List (Int × Int)},Asc l->(put f lf l=none↔∃x,Ff l f=some x∧lf<=x)
 |[],_=>by simp[put,Ff]
 |p::l,ha=>by
  unfold put;split
  ·rename_i h1;have ih:=Ww (f:=f) (lf:=lf) ha.2
   have e:Ff (p::l) f=Ff l f:=by
    unfold Ff;rw[List.find?_cons,show (p.1==f)=false by simp;omega]
   rw[e,←ih];simp
  ·split
   ·rename_i h2
    have e:Ff (p::l) f=some p.2:=by
     unfold Ff;rw[List.find?_cons,show (p.1==f)=true by simp[h2]];rfl
    rw[e];split
    ·rename_i h3;simp[h3]
    ·rename_i h3;simp;omega
   ·rename_i h1 h2
    have e:Ff (p::l) f=none:=by
     unfold Ff;rw[List.find?_eq_none.2]
     ·rfl
     ·intro q hq;rcases List.mem_cons.1 hq with rfl|hq
      ·simpa using h2
      ·have:=ha.1 q hq;simp;omega
    rw[e];simp
theorem GB {f lf:Int}:∀{l r:List (Int × Int)},Asc l->put f lf l=some r->∀g,Ff r g=if g=f then some lf else Ff l g
 |[],r,_,h,g=>by
  cases h;by_cases e:g=f
  ·subst e;simp[Ff]
  ·simp[Ff,e];intro h;exact absurd h.symm e
 |p::l,r,ha,h,g=>by
  unfold put at h;split at h
  ·rename_i h1;cases hp:put f lf l with
   |none=>rw[hp] at h;cases h
   |some r'=>
    rw[hp] at h;cases h;have ih:=GB ha.2 hp g;unfold Ff at ih ⊢;simp only[List.find?_cons];cases hg:p.1==g
    ·simp only;exact ih
    ·simp only[beq_iff_eq] at hg;rw[Ld (by omega)]
  ·split at h
   ·rename_i h2;split at h
    ·cases h
    ·cases h;unfold Ff;simp only[List.find?_cons];by_cases e:g=f
     ·subst e;simp
     ·rw[Ld e,show (f==g)=false by simp;omega,show (p.1==g)=false by simp;omega]
   ·rename_i h1 h2;cases h;unfold Ff;rw[List.find?_cons];by_cases e:g=f
    ·subst e;simp
    ·rw[Ld e,show (f==g)=false by simp;omega]
def Ms (c:Sd)(leaf from_:Int):Bool:=decide (c.ht<0)||decide (c.ht>4)||decide (from_<0)||decide (from_>leaf)||decide (leaf>=Gc .i64 1 c.ht)
def Qa (c:Sd)(leaf from_ now:Int):Sd × Int:=
 if Ms c leaf from_=true then (c,9)
 else if c.sus=true then (c,39)
 else if X2 c.used leaf=true then ({ c with sus:=true },37)
 else match put from_ leaf c.rg with
  |none=>(c,37)
  |some r=>({ c with used:=X3 c.used leaf,rg:=r,last:=now },0)
structure Sd.ok (c:Sd):Prop where
 idB:Rw c.id
 idL:c.id.length<=1000000
 u0:0<=c.used
 u1:c.used<=18446744073709551615
 asc:Asc c.rg
 rgn:c.rg.length<=1000
theorem KS {f lf:Int}:∀{l r:List (Int × Int)},put f lf l=some r->r.length<=l.length+1
 |[],r,h=>by cases h;simp
 |p::l,r,h=>by
  unfold put at h;split at h
  ·cases hp:put f lf l with
   |none=>rw[hp] at h;cases h
   |some r'=>
    rw[hp] at h;cases h;have:=KS hp;simp;omega
  ·split at h
   ·split at h
    ·cases h
    ·cases h;simp
   ·cases h;simp
theorem HF {c:Sd}{leaf from_:Int}(h:Ms c leaf from_=false):0<=from_∧from_<=leaf∧leaf<=15∧0<=c.ht∧c.ht<=4∧leaf<((2 ^ c.ht.toNat:Nat):Int):=by
 unfold Ms at h;simp only[Bool.or_eq_false_iff,decide_eq_false_iff_not] at h;obtain⟨⟨⟨⟨h1,h2⟩,h3⟩,h4⟩,h5⟩:=h;rw[Agp (by omega) (by omega)] at h5
 have hp:(2:Nat) ^ c.ht.toNat<=2 ^ 4:=Nat.pow_le_pow_right (by omega) (by omega)
 have h16:(2:Nat) ^ 4=16:=by decide
 omega
end
section
open Go.Proofs.Try (prog)
open Go.IntKind (wrap)
set_option maxRecDepth 100000
theorem FR {α:Type}{l:List α}{i:Nat}{a:α}(h:l[i]?=some a):l.set i a=l:=by
 refine List.ext_getElem? fun j=>?_
 rw[List.getElem?_set];by_cases hj:i=j
 ·subst hj;rw[L9 rfl,L9 (I6 h),h]
 ·rw[Ld hj]
section
variable {xs:FuncId->Option (List PV->Option Be)} {fu d:Nat}
theorem Ye {n:Nat}{c:List PV}(hc:c.length=n)(hn:n<=1000000):Am (CX xs) prog fu (d+1) O3 [.lst false 1 n c]=some ⟨[.own 1 n c],[]⟩:=by
 rw[Xs];have t1:List.take n c=c:=Rz (by omega)
 by_cases h:0<n
 ·simp (disch:=omega) only[Dn,Qn,Zzq,t1,hc,Ko]
 ·have h0:n=0:=by omega
  subst h0;have:=List.length_eq_zero_iff.1 hc;subst this;simp (disch:=omega) only[Dn,Qn,Zzq,List.length_nil,Ko,Nat.zero_mul,List.take_nil]
theorem PD {n:Nat}{c:List PV}(hc:c.length=n*2)(hn:n<=1000000):Am (CX xs) prog fu (d+1) Hu [.lst false 2 n c]=some ⟨[.own 2 n c],[]⟩:=by
 rw[Mk];have t1:List.take (n*2) c=c:=Rz (by omega)
 by_cases h:0<n
 ·simp (disch:=omega) only[Dn,Qn,Zzq,t1,hc]
 ·have h0:n=0:=by omega
  subst h0;have:=List.length_eq_zero_iff.1 hc;subst this;simp (disch:=omega) only[Dn,Qn,Zzq,List.length_nil,Nat.zero_mul,List.take_nil]
def Sd.ocells (x:Sd):List PV:=[.own 1 x.id.length (At .u8 x.id),.sc (.int .i64 x.ht),.sc (.int .u64 x.root),.sc (.int .u64 x.model),.sc (.int .i64 x.fmt),.sc (.bool x.sh),.sc (.int .u64 x.used),.own 2 x.rg.length (Jg x.rg),.sc (.bool x.sus),.sc (.int .i64 x.since),.sc (.int .i64 x.last)]
theorem O8 {c:Sd}(h1:c.id.length<=1000000)(h2:c.rg.length<=1000000):Am (CX xs) prog fu (d+2) Hr [.agg c.cells]=some ⟨[.agg c.ocells],[]⟩:=by
 refine (Mu fu (d+1) c.id.length (At .u8 c.id) c.ht c.root c.model c.fmt c.sh c.used c.rg.length (Jg c.rg) c.sus c.since c.last).trans ?_;have q1:=Ye (xs:=xs) (fu:=fu) (d:=d) (A9 .u8 c.id) h1;have q2:=PD (xs:=xs) (fu:=fu) (d:=d) (Hf c.rg) h2;have l1:=A9 .u8 c.id;have l2:=Hf c.rg;have t1:List.take (c.id.length*1) (At .u8 c.id)=At .u8 c.id:=Rz (by omega)
 have t2:List.take (c.rg.length*2) (Jg c.rg)=Jg c.rg:=Rz (by omega)
 simp (disch:=omega) only[Dn,q1,q2,t1,t2];rfl
end
section
variable {fu d:Nat}
theorem PA {c:List PV}{n:Nat}{i f l:Int}(hc:c.length=n*2)(h0:0<=i)(h1:i<=n)(hn:n<=100000)(ha:c.all Wg=true):
  Am C0 prog fu (d+1) 45 [.own 2 n c,.sc (.int .i64 i),.tup [.own 2 1 [.sc (.int .i64 f),.sc (.int .i64 l)]]] =
   some ⟨[.own 2 (n+1) (c.take (i.toNat*2)++(.sc (.int .i64 f) :: .sc (.int .i64 l)::c.drop (i.toNat*2)))],[[.sc (.int .i64 f),.sc (.int .i64 l)]]⟩:=by
 have h:Am C0 prog fu (d+1) 45 [.own 2 n c,.sc (.int .i64 i),.tup [.own 2 1 [.sc (.int .i64 f),.sc (.int .i64 l)]]]=RT [.own 2 n c,.sc (.int .i64 i),.tup [.own 2 1 [.sc (.int .i64 f),.sc (.int .i64 l)]]]:=by kernel_rfl
 rw[h];unfold RT
 have e:(Nat.beq c.length (n*2)&&decide (0<=i)&&decide (i<=n)&&Nat.ble n 100000&&c.all Wg)=true:=by
  simp[ha,hc,h0,h1,hn]
 simp only[e,cond_true]
theorem XU (l:List (Int × Int)):(Jg l).all Wg=true:=by
 rw[List.all_eq_true];intro x hx;obtain⟨p,_,hp⟩:=List.mem_flatMap.1 hx;rcases List.mem_cons.1 hp with rfl|hp
 ·rfl
 ·rw[List.mem_singleton] at hp;subst hp;rfl
theorem Alj {l:List (Int × Int)} {i:Nat}{p:Int × Int}(h:l[i]?=some p):(Jg l).getD (i*2) .top=.sc (.int .i64 p.1):=by
 have:=U8 (f:=fun p:Int × Int=>[PV.sc (.int .i64 p.1),.sc (.int .i64 p.2)]) (k:=2) (fun _=>rfl) h (j:=0) (by omega)
 exact this
theorem Ahx {l:List (Int × Int)} {i:Nat}{p:Int × Int}(h:l[i]?=some p):(Jg l).getD (i*2+1) .top=.sc (.int .i64 p.2):=by
 have:=U8 (f:=fun p:Int × Int=>[PV.sc (.int .i64 p.1),.sc (.int .i64 p.2)]) (k:=2) (fun _=>rfl) h (j:=1) (by omega)
 exact this
def BP (c:Sd)(leaf now:Int):Option (List (Int × Int))->Be
 |none=>⟨[.agg c.cells,.sc (.int .i64 37)],[]⟩
 |some r=>⟨[.agg ({ c with used:=X3 c.used leaf,rg:=r,last:=now }:Sd).cells,.sc (.int .i64 0)],[]⟩
theorem QX {c:Sd}{leaf from_ now:Int}(hl:0<=leaf∧leaf<=15)(hr:c.rg.length<=1000)(Ax:c.id.length<=1000000){call:Aj}
  (ZW:∀i:Nat,i<=c.rg.length->call 45 [.own 2 c.rg.length (Jg c.rg),.sc (.int .i64 (i:Int)),.tup [.own 2 1 [.sc (.int .i64 from_),.sc (.int .i64 leaf)]]]=some ⟨[.own 2 (c.rg.length+1) ((Jg c.rg).take (i*2)++(.sc (.int .i64 from_) :: .sc (.int .i64 leaf)::(Jg c.rg).drop (i*2)))],[[.sc (.int .i64 from_),.sc (.int .i64 leaf)]]⟩)
  {Bv:Nat} {a0:List PV} {a1 a2 a3 a4 a6 a9 a10 b1 b2 b3:Int} {a5 a8:Bool} {a7n:Nat} {a7:List PV} {z1:Nat} {z2 z3 z4 z5 z7 z10 z11:Int} {z6 z9:Bool} {z8:Nat} {z12 z13:List PV}:
  ∀(r:List (Int × Int)) (i nn:Nat),c.rg.drop i=r->r.length<nn->i<=c.rg.length->(∀p∈c.rg.take i,p.1<from_) ->
   Em fu call Bv a0 a1 a2 a3 a4 a5 a6 a7n a7 a8 a9 a10 b1 b2 b3 nn leaf from_ now (Gc .u64 1 leaf) (i:Int) c.id.length c.ht c.root c.model c.fmt c.sh c.used c.rg.length c.sus c.since c.last (At .u8 c.id) (Jg c.rg) z1 z2 z3 z4 z5 z6 z7 z8 z9 z10 z11 z12 z13 =
    some (BP c leaf now ((put from_ leaf r).map (c.rg.take i ++ ·))):=by
 intro r;have l1:=A9 .u8 c.id;have l2:=Hf c.rg;have t1:List.take (c.id.length*1) (At .u8 c.id)=At .u8 c.id:=Rz (by omega)
 have t2:List.take (c.rg.length*2) (Jg c.rg)=Jg c.rg:=Rz (by omega)
 have eS:S4 .u64 c.used (Gc .u64 1 leaf)=X3 c.used leaf:=rfl
 have insR:∀(i:Nat) (s:List (Int × Int)),i<=c.rg.length->c.rg.drop i=s->(Jg c.rg).take (i*2)++(.sc (.int .i64 from_) :: .sc (.int .i64 leaf)::(Jg c.rg).drop (i*2))=Jg (c.rg.take i++(from_,leaf)::s):=by
  intro i s hi hs;have e1:=AK (f:=fun p:Int × Int=>[PV.sc (.int .i64 p.1),.sc (.int .i64 p.2)]) (k:=2) (fun _=>rfl) c.rg i
  have e2:=Ux (f:=fun p:Int × Int=>[PV.sc (.int .i64 p.1),.sc (.int .i64 p.2)]) (k:=2) (fun _=>rfl) c.rg i
  rw[ZD,VN,←hs];unfold Jg;rw[e1,e2]
 have setR:∀(i:Nat) (l:List (Int × Int)) (p:Int × Int),l[i]?=some p->A0 (Jg l) [.sc (.int .i64 leaf)] (0+i*2+1)=Jg (l.set i (p.1,leaf)):=by
  intro i l p h;have Bl:=I6 h;have CV:=Hf l;rw[Lj (by omega)]
  have:=BF (f:=fun p:Int × Int=>[PV.sc (.int .i64 p.1),.sc (.int .i64 p.2)]) (k:=2) (fun _=>rfl) (p:=.sc (.int .i64 leaf)) (j:=1) (by omega) (y:=(p.1,leaf)) h rfl
  unfold Jg;rw[←this]
  congr 1
  omega
 induction r with
 |nil=>
  intro i nn hd Es hi hp;have CC:i=c.rg.length:=by have:=drop_nil hd;omega
  obtain⟨nn,rfl⟩:∃k,nn=k+1:=⟨nn-1,by omega⟩
  rw[H9];have q:=ZW i hi;have eI:=insR i [] hi hd;rw[eI] at q;have ht:c.rg.take i=c.rg:=Rz (by omega)
  rw[ht] at q;have eG:(c.rg++[(from_,leaf)])[i]?=some (from_,leaf):=by rw[CC];simp
  have eS2:=setR i _ _ eG;have eS3:=FR eG;rw[eS3] at eS2;have lR:=Hf (c.rg++[(from_,leaf)]);have lA:(c.rg++[(from_,leaf)]).length=c.rg.length+1:=by simp
  have tR:List.take ((c.rg.length+1)*2) (Jg (c.rg++[(from_,leaf)]))=Jg (c.rg++[(from_,leaf)]):=Rz (by omega)
  have eq1:((i:Int)==(c.rg.length:Int))=true:=by simp[CC]
  have tn:Int.toNat (i:Int)=i:=rfl;have eX:put from_ leaf []=some [(from_,leaf)]:=rfl;rw[eX];simp only[Option.map_some,ht]
  try unfold Aa
  repeat first
   |((with_reducible first|apply Vv|apply Q3|apply U7|apply ZS|apply GE|apply Aby|apply Qe|apply Vn|apply V2);· first|with_reducible rfl|(simp (disch:=omega) only[gT,q,t1,t2,tR,eS,eS2,eq1,tn,S5,lR,lA]<;>first|with_reducible rfl|omega)|omega)
   |(with_reducible apply V7;· first|with_reducible rfl|(simp (disch:=omega) only[gF,q,t1,t2,tR,eS,eS2,eq1,tn,S5,lR,lA]<;>omega))
  try simp (disch:=omega) only[q,t1,t2,tR,eS,eS2,eq1,tn,S5,lR,lA]
  simp only[BP,Sd.cells,lA]
 |cons p r ih=>
  intro i nn hd Es hi hp;obtain⟨Bl,F4,hd'⟩:=Ir hd;obtain⟨nn,rfl⟩:∃k,nn=k+1:=⟨nn-1,by omega⟩
  rw[H9];have eF:=Alj F4;have eL:=Ahx F4;have tn:Int.toNat (i:Int)=i:=rfl;have a0':(0:Nat)+i*2+0=i*2:=by omega
  have a1':(0:Nat)+i*2+1=i*2+1:=by omega
  have lt1:decide ((i:Int)<(c.rg.length:Int))=true:=by simp;omega
  have ne1:((i:Int)==(c.rg.length:Int))=false:=by simp;omega
  have w1:wrap .i64 ((i:Int)+1)=((i+1:Nat):Int):=by rw[wrap_i64 (by omega) (by omega)];omega
  have tk:c.rg.take (i+1)=c.rg.take i++[p]:=by rw[List.take_add_one,F4];rfl
  unfold put;by_cases c1:p.1<from_
  ·rw[L9 c1]
   have ihh:=ih (i+1) nn hd' (by simp at Es;omega) (by omega) (by
    intro q hq;rw[tk] at hq;rcases List.mem_append.1 hq with hq|hq
    ·exact hp q hq
    ·rw[List.mem_singleton] at hq;subst hq;exact c1)
   have e:((put from_ leaf r).map (p :: ·)).map (c.rg.take i ++ ·)=(put from_ leaf r).map (c.rg.take (i+1) ++ ·):=by
    rw[Option.map_map,tk]
    congr 1
    funext x
    simp
   rw[e,←ihh];have d1:decide (p.1<from_)=true:=by simp[c1]
   simp (disch:=omega) only[Dn,tn,a0',eF,w1,lt1,d1]
  ·rw[Ld c1];have d1:decide (p.1<from_)=false:=by simp;omega
   by_cases c2:p.1=from_
   ·rw[L9 c2];have d2:(p.1 != from_)=false:=by simp[c2]
    by_cases c3:leaf<=p.2
    ·rw[L9 c3];have d3:decide (p.2>=leaf)=true:=by simp;omega
     simp (disch:=omega) only[Dn,tn,a0',a1',eF,eL,lt1,d1,ne1,d2,d3,t1,t2,S5,Option.map_none];rfl
    ·rw[Ld c3];have d3:decide (p.2>=leaf)=false:=by simp;omega
     have eS2:=setR i _ _ F4;have lR:=Hf (c.rg.set i (p.1,leaf));have lA:(c.rg.set i (p.1,leaf)).length=c.rg.length:=by simp
     have eA:c.rg.set i (p.1,leaf)=c.rg.take i++(from_,leaf)::r:=by
      rw[List.set_eq_take_append_cons_drop,L9 Bl,hd',c2]
     have tR:List.take (c.rg.length*2) (Jg (c.rg.set i (p.1,leaf)))=Jg (c.rg.set i (p.1,leaf)):=Rz (by omega)
     rw[a1'] at eS2;have hS3:i*2+1+1<=(Jg c.rg).length:=by omega
     simp (disch:=omega) only[Dn,tn,a0',a1',eF,eL,lt1,d1,ne1,d2,d3,t1,tR,S5,Option.map_some,eS2,eS,lR,lA];simp only[BP,Sd.cells,←eA,lA]
   ·rw[Ld c2];have d2:(p.1 != from_)=true:=by simp[c2]
    have q:=ZW i hi;have eI:=insR i (p::r) hi hd;rw[eI] at q
    have eG:(c.rg.take i++(from_,leaf)::p::r)[i]?=some (from_,leaf):=by
     rw[List.getElem?_append_right (by rw[List.length_take];omega),List.length_take,Nat.min_eq_left (by omega),Nat.sub_self];rfl
    have eS2:=setR i _ _ eG;have eS3:=FR eG;rw[eS3] at eS2
    have lA:(c.rg.take i++(from_,leaf)::p::r).length=c.rg.length+1:=by
     have:=congrArg List.length hd;simp at this ⊢;omega
    have lR:=Hf (c.rg.take i++(from_,leaf)::p::r);rw[Option.map_some];generalize hL:c.rg.take i++(from_,leaf)::p::r=L at *
    have tR:List.take ((c.rg.length+1)*2) (Jg L)=Jg L:=Rz (by omega)
    rw[a1'] at eS2;have hS3:i*2+1+1<=(Jg L).length:=by omega
    simp (disch:=omega) only[Dn,tn,a0',a1',eF,lt1,d1,ne1,d2,t1,t2,q,tR,S5,eS2,eS,lR,lA];simp only[BP,Sd.cells,lA]
theorem Iu {c:Sd}(hk:c.ok)(Ei:2000<=fu)(leaf from_ now:Int):Am C0 prog fu (d+4) Ks [.agg c.cells,.sc (.int .i64 leaf),.sc (.int .i64 from_),.sc (.int .i64 now)]=some ⟨[.agg (Qa c leaf from_ now).1.cells,.sc (.int .i64 (Qa c leaf from_ now).2)],[]⟩:=by
 refine (R0 fu (d+3) c.id.length (At .u8 c.id) c.ht c.root c.model c.fmt c.sh c.used c.rg.length (Jg c.rg) c.sus c.since c.last leaf from_ now).trans ?_;have q:=O8 (xs:=Fw) (fu:=fu) (d:=d+1) hk.idL (Nat.le_trans hk.rgn (by omega))
 simp only[Sd.cells,Sd.ocells] at q;have l1:=A9 .u8 c.id;have l2:=Hf c.rg;have t1:List.take (c.id.length*1) (At .u8 c.id)=At .u8 c.id:=Rz (by omega)
 have t2:List.take (c.rg.length*2) (Jg c.rg)=Jg c.rg:=Rz (by omega)
 simp (disch:=omega) only[Dn,q,t1,t2,S5,l1,l2];by_cases h1:c.ht<0
 ·have hb:Ms c leaf from_=true:=by simp[Ms,h1]
  unfold Qa;rw[L9 hb];simp (disch:=omega) only[Dn];rfl
 by_cases h2:c.ht>4
 ·have hb:Ms c leaf from_=true:=by simp[Ms,h2]
  unfold Qa;rw[L9 hb];simp (disch:=omega) only[Dn];rfl
 by_cases h3:from_<0
 ·have hb:Ms c leaf from_=true:=by simp[Ms,h3]
  unfold Qa;rw[L9 hb];simp (disch:=omega) only[Dn];rfl
 by_cases h4:from_>leaf
 ·have hb:Ms c leaf from_=true:=by simp[Ms,h4]
  unfold Qa;rw[L9 hb];simp (disch:=omega) only[Dn];rfl
 by_cases h5:leaf>=Gc .i64 1 c.ht
 ·have hb:Ms c leaf from_=true:=by simp[Ms,h5]
  unfold Qa;rw[L9 hb];simp (disch:=omega) only[Dn];rfl
 have hb:Ms c leaf from_=false:=by simp[Ms,h1,h2,h3,h4,h5]
 obtain⟨r1,r2,r3,r4,r5,r6⟩:=HF hb;unfold Qa;rw[Ld (by rw[hb];simp)]
 simp (disch:=omega) only[Dn];rw[Ob (Es:=by omega)]
 have ub:=NH hk.u0 hk.u1 (k:=leaf) (by omega) (by omega)
 by_cases hs:c.sus=true
 ·have hsT:∀x y:Option Be,Ca c.sus x y=x:=fun x y=>by rw[hs];rfl
  rw[L9 hs];simp (disch:=omega) only[Dn,hsT,t1,t2,S5];rfl
 ·have hsF:∀x y:Option Be,Ca c.sus x y=y:=fun x y=>by rw[Bool.not_eq_true] at hs;rw[hs];rfl
  rw[Ld hs];by_cases Ou:X2 c.used leaf=true
  ·rw[Ou] at ub;rw[L9 Ou];simp (disch:=omega) only[Dn,hsF,ub,t1,t2,S5];rfl
  ·rw[Bool.not_eq_true] at Ou;rw[Ou] at ub;rw[Ld (by simp[Ou])]
   simp (disch:=omega) only[Dn,hsF,ub];refine (QX (c:=c) (leaf:=leaf) (from_:=from_) (now:=now) (by omega) hk.rgn hk.idL (fun i hi=>PA (Hf _) (by omega) (by omega) (by have:=hk.rgn;omega) (XU _)) c.rg 0 fu rfl (by have:=hk.rgn;omega) (by omega) (by simp)).trans ?_
   have e0:(Option.map (List.take 0 c.rg ++ ·) (put from_ leaf c.rg))=put from_ leaf c.rg:=by
    rw[List.take_zero];cases put from_ leaf c.rg<;>rfl
   rw[e0];cases put from_ leaf c.rg<;>rfl
end
end
section
open Go.Proofs.Try (prog)
open Go.IntKind (wrap)
set_option maxRecDepth 100000
theorem XK {a b:List Int}(ha:Rw a)(hb:Rw b):Rw (a++b):=by
 intro x hx;rcases List.mem_append.1 hx with hx|hx
 ·exact ha x hx
 ·exact hb x hx
def Xz (key nonce:Int):Nat->Nat->List Int
 |_,0=>[]
 |i,k+1=>Ep (AD key 5 (Bd [nonce,(i:Int)]))++Xz key nonce (i+1) k
def Py (key nonce:Int)(n:Nat):List Int:=(Xz key nonce 0 ((n+7) / 8)).take n
theorem GJ (key nonce:Int):∀(k i:Nat),(Xz key nonce i k).length=8*k
 |0,_=>rfl
 |k+1,i=>by show (Ep _++_).length=_;rw[RS,Df,GJ key nonce k];omega
theorem SU (key nonce:Int):∀(k i:Nat),Rw (Xz key nonce i k)
 |0,_=>fun x hx=>by cases hx
 |k+1,i=>XK (LO _) (SU key nonce k _)
theorem I3 (key nonce:Int)(n:Nat):(Py key nonce n).length=n:=by
 unfold Py;rw[List.length_take,GJ];omega
theorem Ad5 (key nonce:Int)(n:Nat):Rw (Py key nonce n):=(SU key nonce _ _).take n
section
variable {fu d:Nat}
theorem IA {xs:FuncId->Option (List PV->Option Be)} {l:List Int}(hb:Rw l)(hl:l.length<=1099511627776)(Ei:100<=fu)(hf:l.length<fu)(key dom:Int):Am (CX xs) prog fu (d+5) Qw [.sc (.int .u64 key),.sc (.int .i64 dom),.lst false 1 l.length (At .u8 l)]=some ⟨[.sc (.int .u64 (AD key dom l))],[]⟩:=by
 rw[CA];have s:=Adl (xs:=xs) (fu:=fu) (d:=d) hb hl Ei hf key (wrap .u64 (1+wrap .u64 dom));simp only[Dn,s];rfl
theorem PI (Ei:1000<=fu){a0 a1 a2:Int}{key nonce:Int}{n:Nat}(hn:n<=1024):∀(k nn i:Nat)(l:List Int),n<=8*(i+k)->8*(i+k)<n+8->k<nn->l.length=8*i ->
  F1 fu (Am C0 prog fu (d+5)) a0 a1 a2 nn key nonce (n:Int) l.length i (At .u8 l)=some ⟨[.own 1 n (At .u8 ((l++Xz key nonce i k).take n))],[]⟩:=by
 intro k
 induction k with
 |zero=>
  intro nn i l h1 Wa h2 h3;obtain⟨m,rfl⟩:∃m,nn=m+1:=⟨nn-1,by omega⟩
  have L:=A9 .u8 l;have nt:Int.toNat (n:Int)=n:=Xa _;rw[Kh,Xz,List.append_nil]
  try unfold Aa
  repeat first
   |((with_reducible first|apply Vv|apply Q3|apply U7|apply GE|apply Qe|apply Vn|apply V2);· first|with_reducible rfl|(simp (disch:=omega) only[gT,L,nt,Nat.sub_zero,Ko,G3]<;>first|with_reducible rfl|omega)|omega)
   |(with_reducible apply V7;· first|with_reducible rfl|(simp (disch:=omega) only[gF,L,nt,Nat.sub_zero,Ko,G3]<;>omega))
  try simp (disch:=omega) only[L,nt,Nat.sub_zero,Ko,G3]
 |succ k ih=>
  intro nn i l h1 Wa h2 h3;obtain⟨m,rfl⟩:∃m,nn=m+1:=⟨nn-1,by omega⟩
  have L:=A9 .u8 l;have nt:Int.toNat (n:Int)=n:=Xa _;have Bl:l.length<n:=by omega
  have w2:wrap .u64 ((i:Int)+1)=((i+1:Nat):Int):=by rw[C1 (by omega) (by omega)];omega
  have wd:Am C0 prog fu (d+5) F5 [.lst false 1 2 [.sc (.int .u64 nonce),.sc (.int .u64 i)]]=some ⟨[.own 1 (Bd [nonce,(i:Int)]).length (At .u8 (Bd [nonce,(i:Int)]))],[]⟩:=EK (xs:=Fw) (ws:=[nonce,i]) (by simp) (by omega) (by simp;omega)
  have mc:=IA (xs:=Fw) (fu:=fu) (d:=d) (l:=Bd [nonce,i]) (EX _) (by rw[Lm];simp) (by omega) (by rw[Lm];simp;omega) key 5
  have L2:=A9 .u8 (Bd [nonce,i]);have t2:=WR .u8 (Bd [nonce,i]);rw[Xz];generalize AD key 5 (Bd [nonce,i])=q at mc ⊢;have ow:Am C0 prog fu (d+5) F5 [.lst false 1 1 [.sc (.int .u64 q)]]=some ⟨[.own 1 (Bd [q]).length (At .u8 (Bd [q]))],[]⟩:=EK (xs:=Fw) (ws:=[q]) (by simp) (by omega) (by simp;omega)
  have eq1:Bd [q]=Ep q:=by simp[Bd]
  rw[eq1,Df] at ow;have Lq:(At .u8 (Ep q)).length=8:=by rw[A9,Df]
  have tq:List.take 8 (At .u8 (Ep q))=At .u8 (Ep q):=Rz (by omega)
  have tl:=WR .u8 l;have ea:At .u8 l++At .u8 (Ep q)=At .u8 (l++Ep q):=by rw[At,At,At,List.flatMap_append]
  have r3:=ih m (i+1) (l++Ep q) (by omega) (by omega) (by omega) (by rw[RS,Df];omega)
  rw[RS,Df,VW] at r3;rw[←r3,Kh];generalize Bd [nonce,(i:Int)]=W at *
  generalize W.length=wn at *
  try unfold Aa
  repeat first
   |((with_reducible first|apply Vv|apply Q3|apply U7|apply GE|apply Qe|apply Vn|apply V2);· first|with_reducible rfl|(simp (disch:=omega) only[gT,w2,wd,S5,Qn,Ko,L,L2,t2,mc,ow,Lq,tq,tl,ea]<;>first|with_reducible rfl|omega)|omega)
   |(with_reducible apply V7;· first|with_reducible rfl|(simp (disch:=omega) only[gF,w2,wd,S5,Qn,Ko,L,L2,t2,mc,ow,Lq,tq,tl,ea]<;>omega))
  try simp (disch:=omega) only[w2,wd,S5,Qn,Ko,L,L2,t2,mc,ow,Lq,tq,tl,ea]
  all_goals rfl
theorem XN (Ei:1000<=fu)(key nonce:Int){n:Nat}(hn:n<=1024):Am C0 prog fu (d+6) J8 [.sc (.int .u64 key),.sc (.int .u64 nonce),.sc (.int .i64 n)]=some ⟨[.own 1 n (At .u8 (Py key nonce n))],[]⟩:=by
 rw[Xx];have f1:(if (n:Int)<0 then (0:Int) else (n:Int))=n:=Ld (by omega)
 have f2:(if (1024:Int)<(n:Int) then (1024:Int) else (n:Int))=n:=Ld (by omega)
 have w:wrap .i64 ((n:Int)+8)=(n:Int)+8:=wrap_i64 (by omega) (by omega)
 simp (disch:=omega) only[Dn,f1,f2,w];exact PI Ei hn ((n+7) / 8) fu 0 [] (by omega) (by omega) (by omega) rfl
theorem IK (Ei:1000<=fu){a0 a1 a2:Int}{key nonce:Int}{n:Nat}(hn:n<=1024):∀(k nn i:Nat)(l:List Int),n<=8*(i+k)->8*(i+k)<n+8->k<nn->l.length=8*i ->
  C9 fu (Am C0 prog fu (d+4)) a0 a1 a2 nn key nonce (n:Int) l.length i (At .u8 l)=some ⟨[.own 1 n (At .u8 ((l++Xz key nonce i k).take n))],[]⟩:=by
 intro k
 induction k with
 |zero=>
  intro nn i l h1 Wa h2 h3;obtain⟨m,rfl⟩:∃m,nn=m+1:=⟨nn-1,by omega⟩
  have L:=A9 .u8 l;have nt:Int.toNat (n:Int)=n:=Xa _;rw[Fy,Xz,List.append_nil]
  try unfold Aa
  repeat first
   |((with_reducible first|apply Vv|apply Q3|apply U7|apply GE|apply Qe|apply Vn|apply V2);· first|with_reducible rfl|(simp (disch:=omega) only[gT,L,nt,Nat.sub_zero,Ko,G3]<;>first|with_reducible rfl|omega)|omega)
   |(with_reducible apply V7;· first|with_reducible rfl|(simp (disch:=omega) only[gF,L,nt,Nat.sub_zero,Ko,G3]<;>omega))
  try simp (disch:=omega) only[L,nt,Nat.sub_zero,Ko,G3]
 |succ k ih=>
  intro nn i l h1 Wa h2 h3;obtain⟨m,rfl⟩:∃m,nn=m+1:=⟨nn-1,by omega⟩
  have L:=A9 .u8 l;have nt:Int.toNat (n:Int)=n:=Xa _;have Bl:l.length<n:=by omega
  have w1:wrap .u64 (i:Int)=(i:Int):=C1 (by omega) (by omega)
  have w2:wrap .i64 ((i:Int)+1)=((i+1:Nat):Int):=by rw[wrap_i64 (by omega) (by omega)];omega
  have wd:Am C0 prog fu (d+4) Du [.lst false 1 2 [.sc (.int .u64 nonce),.sc (.int .u64 i)]]=some ⟨[.own 1 (Bd [nonce,(i:Int)]).length (At .u8 (Bd [nonce,(i:Int)]))],[]⟩:=Y8 (xs:=Fw) (ws:=[nonce,i]) (by simp) (by omega) (by simp;omega)
  have mc:=YB (xs:=Fw) (fu:=fu) (d:=d) (l:=Bd [nonce,i]) (EX _) (by rw[Lm];simp) (by omega) (by rw[Lm];simp;omega) key 5
  have L2:=A9 .u8 (Bd [nonce,i]);have t2:=WR .u8 (Bd [nonce,i]);rw[Xz];generalize AD key 5 (Bd [nonce,i])=q at mc ⊢;have ow:Am C0 prog fu (d+4) Du [.lst false 1 1 [.sc (.int .u64 q)]]=some ⟨[.own 1 (Bd [q]).length (At .u8 (Bd [q]))],[]⟩:=Y8 (xs:=Fw) (ws:=[q]) (by simp) (by omega) (by simp;omega)
  have eq1:Bd [q]=Ep q:=by simp[Bd]
  rw[eq1,Df] at ow;have Lq:(At .u8 (Ep q)).length=8:=by rw[A9,Df]
  have tq:List.take 8 (At .u8 (Ep q))=At .u8 (Ep q):=Rz (by omega)
  have tl:=WR .u8 l;have ea:At .u8 l++At .u8 (Ep q)=At .u8 (l++Ep q):=by rw[At,At,At,List.flatMap_append]
  have r3:=ih m (i+1) (l++Ep q) (by omega) (by omega) (by omega) (by rw[RS,Df];omega)
  rw[RS,Df,VW] at r3;rw[←r3,Fy];generalize Bd [nonce,(i:Int)]=W at *
  generalize W.length=wn at *
  try unfold Aa
  repeat first
   |((with_reducible first|apply Vv|apply Q3|apply U7|apply GE|apply Qe|apply Vn|apply V2);· first|with_reducible rfl|(simp (disch:=omega) only[gT,w1,w2,wd,S5,Qn,Ko,L,L2,t2,mc,ow,Lq,tq,tl,ea]<;>first|with_reducible rfl|omega)|omega)
   |(with_reducible apply V7;· first|with_reducible rfl|(simp (disch:=omega) only[gF,w1,w2,wd,S5,Qn,Ko,L,L2,t2,mc,ow,Lq,tq,tl,ea]<;>omega))
  try simp (disch:=omega) only[w1,w2,wd,S5,Qn,Ko,L,L2,t2,mc,ow,Lq,tq,tl,ea]
  all_goals rfl
theorem SI (Ei:1000<=fu)(key nonce:Int){n:Nat}(hn:n<=1024):Am C0 prog fu (d+5) Hm [.sc (.int .u64 key),.sc (.int .u64 nonce),.sc (.int .i64 n)]=some ⟨[.own 1 n (At .u8 (Py key nonce n))],[]⟩:=by
 rw[Ng];have f1:(if (n:Int)<0 then (0:Int) else (n:Int))=n:=Ld (by omega)
 have f2:(if (1024:Int)<(n:Int) then (1024:Int) else (n:Int))=n:=Ld (by omega)
 simp (disch:=omega) only[Dn,f1,f2];exact IK Ei hn ((n+7) / 8) fu 0 [] (by omega) (by omega) (by omega) rfl
def Ol (seed:Int)(n:Nat):List Int:=Py (wrap .u64 (wrap .u64 seed+1)) 7 n
theorem VK (Ei:1000<=fu)(seed:Int){n:Nat}(hn:n<=1024):Am C0 prog fu (d+6) E8 [.sc (.int .i64 seed),.sc (.int .i64 n)]=some ⟨[.own 1 n (At .u8 (Ol seed n))],[]⟩:=by
 have e:=SI (fu:=fu) (d:=d) Ei (wrap .u64 (wrap .u64 seed+1)) 7 hn;have f1:(if (n:Int)<0 then (0:Int) else (n:Int))=n:=Ld (by omega)
 have f2:(if (1024:Int)<(n:Int) then (1024:Int) else (n:Int))=n:=Ld (by omega)
 have L:(At .u8 (Ol seed n)).length=n:=by rw[A9,Ol,I3]
 have t:List.take n (At .u8 (Ol seed n))=At .u8 (Ol seed n):=Rz (by omega)
 rw[Og];unfold Ol at *
 simp (disch:=omega) only[Dn,f1,f2,e,Ko,L,t]
def XR (k h:Int):Sd:=⟨Ol (600+k) 176,h,5,0,0,false,0,[],false,3,0⟩
theorem Sz (k h:Int):(XR k h).ok:=⟨Ad5 _ _ _,by show (Py _ _ _).length<=_;rw[I3];omega,by show (0:Int)<=0;omega,by show (0:Int)<=_;omega,trivial,by show 0<=_;omega⟩
theorem Adx {v n:Int}(h0:0<=v)(h1:v<n)(hn:n<=9223372036854775807):Am C0 prog fu (d+1) J6 [.sc (.int .i64 v),.sc (.int .i64 n)]=some ⟨[.sc (.int .i64 v)],[]⟩:=by
 rw[Qf];have w1:wrap .u64 v=v:=C1 h0 (by omega)
 have w2:wrap .u64 n=n:=C1 (by omega) (by omega)
 have e:Int.tmod v n=v:=Int.tmod_eq_of_lt h0 h1;simp only[Iw,w1,w2,e];rw[AG _ _ (by omega),wrap_i64 (by omega) (by omega)]
theorem Yt (Ei:1000<=fu){k:Int}(h0:0<=k)(h1:k<12)(h:Int):Am C0 prog fu (d+7) Gm [.sc (.int .i64 k),.sc (.int .i64 h)]=some ⟨[.agg (XR k h).cells],[]⟩:=by
 rw[Mf];have m:=Adx (fu:=fu) (d:=d+5) h0 h1 (by omega)
 have w:wrap .i64 (600+k)=600+k:=wrap_i64 (by omega) (by omega)
 have b:Am C0 prog fu (d+6) E8 [.sc (.int .i64 (600+k)),.sc (.int .i64 176)]=_:=VK (fu:=fu) (d:=d) Ei (600+k) (n:=176) (by omega)
 have L:(At .u8 (Ol (600+k) 176)).length=176:=by rw[A9,Ol,I3]
 have L1:(Ol (600+k) 176).length=176:=by rw[Ol,I3]
 have t:List.take 176 (At .u8 (Ol (600+k) 176))=At .u8 (Ol (600+k) 176):=Rz (by omega)
 simp (disch:=omega) only[Dn,m,w,b,Ko,Qn,S5,L,t];simp only[Sd.cells,XR,L1];rfl
end
end
section
open Go.IntKind (wrap)
def Nk (s:ByteArray):List Int:=s.data.toList.map fun b=>(b.toNat:Int)
theorem DK (s:ByteArray):(Nk s).length=s.size:=by
 unfold Nk;rw[List.length_map];rfl
theorem RW (s:ByteArray):Rw (Nk s):=by
 intro x hx;obtain⟨b,_,rfl⟩:=List.mem_map.1 hx;have:=b.toNat_lt;omega
theorem S6 (s:ByteArray):Eb s=At .u8 (Nk s):=by
 unfold Eb Nk
 induction s.data.toList with
 |nil=>rfl
 |cons b l ih=>rw[List.map_cons,List.map_cons,ih];rfl
theorem Ts:∀l:List Int,bytesOf (At .u8 l)=some (l.map fun n=>n.toNat.toUInt8)
 |[]=>rfl
 |x::l=>by
  show (bytesOf (At .u8 l)).map (x.toNat.toUInt8 :: ·)=_
  rw[Ts l];rfl
end
section
open Go.Proofs.Try (prog)
open Go.IntKind (wrap)
set_option maxRecDepth 100000
def bu (l:List Int):List UInt8:=l.map fun n=>n.toNat.toUInt8
def LV (a b:List Int):Bool:=Op.bytesLess (bu a) (bu b)||bu a==bu b
def Ada (a b:List Int):Int:=Lib.compareBytes (bu a) (bu b)
theorem Aam:∀x y:List UInt8,(Lib.compareBytes x y<0)↔Op.bytesLess x y=true
 |[],[]=>by simp[Lib.compareBytes,Op.bytesLess]
 |[],_::_=>by simp[Lib.compareBytes,Op.bytesLess]
 |_::_,[]=>by simp[Lib.compareBytes,Op.bytesLess]
 |a::x,b::y=>by
  have ih:=Aam x y;unfold Lib.compareBytes Op.bytesLess;by_cases h1:a<b
  ·simp[h1]
  ·rw[Ld h1];by_cases h2:b<a
   ·have:¬a=b:=fun e=>by subst e;exact h1 h2
    simp[h1,h2,this]
   ·have:a=b:=UInt8.le_antisymm (UInt8.not_lt.1 h2) (UInt8.not_lt.1 h1);rw[Ld h2,ih];simp[h1,this]
theorem Um (a b:List Int):LV a b=true↔bu a<=bu b:=by
 unfold LV;rw[bytesLess_eq];simp only[Bool.or_eq_true,decide_eq_true_eq,beq_iff_eq];exact List.le_iff_lt_or_eq.symm
theorem Acl (a b:List Int):decide (Ada a b<0) = !LV b a:=by
 rw[Bool.eq_iff_iff,decide_eq_true_eq,Bool.not_eq_true',←Bool.not_eq_true,Um];unfold Ada;rw[Aam,bytesLess_eq,decide_eq_true_eq];exact List.not_le.symm
theorem Yh {a b c:List Int}(h1:LV a b=true)(h2:LV b c=true):LV a c=true:=by
 rw[Um] at *
 exact List.le_trans h1 h2
theorem NC {a b:List Int}(h:LV a b=false):LV b a=true:=by
 rw[Um];rw[←Bool.not_eq_true,Um,List.not_le] at h;exact List.le_of_lt h
def V6 (x:List Int):List (List Int)->List (List Int)
 |[]=>[x]
 |y::r=>if LV y x=true then y::V6 x r else x::y::r
theorem Uw (x:List Int):∀l:List (List Int),(V6 x l).length=l.length+1
 |[]=>rfl
 |y::r=>by
  unfold V6;split
  ·rw[OZ,Uw x r];rfl
  ·rfl
theorem LR {x y:List Int}:∀{l:List (List Int)},y∈V6 x l↔y=x∨y∈l
 |[]=>by simp[V6]
 |z::r=>by
  unfold V6;split
  ·rw[List.mem_cons,LR,List.mem_cons];constructor
   ·rintro (h|h|h)
    ·exact .inr (.inl h)
    ·exact .inl h
    ·exact .inr (.inr h)
   ·rintro (h|h|h)
    ·exact .inr (.inl h)
    ·exact .inl h
    ·exact .inr (.inr h)
  ·simp
abbrev YP (l:List (List Int)):Prop:=l.Pairwise fun a b=>LV a b=true
theorem LK {x:List Int}:∀{l:List (List Int)},YP l->YP (V6 x l)
 |[],_=>by simp[V6,YP]
 |y::r,h=>by
  obtain⟨h1,h2⟩:=List.pairwise_cons.1 h;unfold V6;split
  ·rename_i hy;refine List.pairwise_cons.2 ⟨fun z hz=>?_,LK h2⟩
   rcases LR.1 hz with rfl|hz
   ·exact hy
   ·exact h1 z hz
  ·rename_i hy;rw[Bool.not_eq_true] at hy;have hxy:=NC hy;refine List.pairwise_cons.2 ⟨fun z hz=>?_,h⟩
   rcases List.mem_cons.1 hz with rfl|hz
   ·exact hxy
   ·exact Yh hxy (h1 z hz)
theorem EQ {x y:List Int}:∀{l:List (List Int)},YP (l++[y])->V6 x (l++[y])=if LV y x=true then l++[y,x] else V6 x l++[y]
 |[],_=>by
  show V6 x [y]=_;unfold V6;split<;>rfl
 |z::r,h=>by
  obtain⟨h1,h2⟩:=List.pairwise_cons.1 (show YP (z::(r++[y])) from h)
  have ih:=EQ (x:=x) h2;have hzy:=h1 y (by simp)
  show V6 x (z::(r++[y]))=_;by_cases hy:LV y x=true
  ·rw[L9 hy] at ih ⊢;rw[V6,L9 (Yh hzy hy),ih];rfl
  ·rw[Ld hy] at ih ⊢;rw[V6,ih];by_cases hz:LV z x=true
   ·rw[L9 hz,V6,L9 hz];rfl
   ·rw[Ld hz,V6,Ld hz];rfl
def Qk (s l:List (List Int)):List (List Int):=l.foldl (fun s x=>V6 x s) s
theorem DY:∀(l s:List (List Int)),(Qk s l).length=s.length+l.length
 |[],_=>rfl
 |x::l,s=>by
  show (Qk (V6 x s) l).length=_;rw[DY l,Uw,OZ];omega
abbrev Ac7 (b:List Int):List PV:=[PV.lst false 1 b.length (At .u8 b)]
abbrev Eh (L:List (List Int)):List PV:=L.flatMap Ac7
theorem Kl (L:List (List Int)):(Eh L).length=L.length:=by rw[Z3 (k:=1) (fun _=>rfl)];omega
theorem LU {L:List (List Int)} {i:Nat}{b:List Int}(h:L[i]?=some b):(Eh L).getD i .top=.lst false 1 b.length (At .u8 b):=by
 have:=U8 (f:=Ac7) (k:=1) (fun _=>rfl) h (j:=0) (by omega)
 rwa [Ko,Nat.add_zero] at this
theorem DI {L:List (List Int)} {i:Nat}{b y:List Int}(h:L[i]?=some b):A0 (Eh L) [.lst false 1 y.length (At .u8 y)] i=Eh (L.set i y):=by
 have hl:=Kl L;have:=I6 h;rw[Lj (by omega)]
 have e:=BF (f:=Ac7) (k:=1) (fun _=>rfl) (p:=.lst false 1 y.length (At .u8 y)) (j:=0) (by omega) (y:=y) h rfl
 rw[Ko,Nat.add_zero] at e;exact e
section
variable {fu d:Nat}
theorem JA (a b:List Int):Am C0 prog fu (d+1) 44 [.lst false 1 a.length (At .u8 a),.lst false 1 b.length (At .u8 b)]=some ⟨[.sc (.int .i64 (Ada a b))],[]⟩:=by
 have h:Am C0 prog fu (d+1) 44 [.lst false 1 a.length (At .u8 a),.lst false 1 b.length (At .u8 b)]=M7 [.lst false 1 a.length (At .u8 a),.lst false 1 b.length (At .u8 b)]:=by kernel_rfl
 rw[h];unfold M7;simp only[A9,Nat.beq_refl,Bool.and_self,cond_true,Ts];rfl
theorem ZB {n:Nat}{c:List PV}{a1 a2:Int}{m0 i N:Nat}{x:List Int}(hN:N<=100000)(hi:i<=100000):
  ∀(S:List (List Int)) (R:List (List Int)) (nn:Nat),S.length<nn->(S.reverse++x::R).length=N->YP S.reverse ->
   Bh fu (Am C0 prog fu (d+1)) n c a1 a2 m0 nn N 0 (N:Int) (i:Int) (S.length:Int) (Eh (S.reverse++x::R)) =
    Ay fu (Am C0 prog fu (d+1)) n c a1 a2 m0 N 0 (N:Int) ((i+1:Nat):Int) (Eh (V6 x S.reverse++R)):=by
 intro S;have wi:wrap .i64 ((i:Int)+1)=((i+1:Nat):Int):=by rw[wrap_i64 (by omega) (by omega)];omega
 induction S with
 |nil=>
  intro R nn Es hl hs;obtain⟨nn,rfl⟩:∃k,nn=k+1:=⟨nn-1,by omega⟩
  rw[Cy];simp (disch:=omega) only[Dn,List.length_nil,wi,List.reverse_nil,Zzq,V6,List.cons_append]
 |cons y S ih=>
  intro R nn Es hl hs;obtain⟨nn,rfl⟩:∃k,nn=k+1:=⟨nn-1,by omega⟩
  rw[Cy];rw[List.reverse_cons] at hl hs ⊢;have hS:S.reverse.length=S.length:=List.length_reverse;have Gl:S.length+1+R.length+1=N:=by simp at hl;omega
  have lS:(y::S).length=S.length+1:=rfl
  have gx:((S.reverse++[y])++x::R)[S.length+1]?=some x:=by
   rw[List.getElem?_append_right (by simp)];simp
  have gy:((S.reverse++[y])++x::R)[S.length]?=some y:=by
   rw[VW,List.getElem?_append_right (by simp)];simp
  have ax:=LU gx;have ay:=LU gy;have w1:wrap .i64 (((S.length+1:Nat):Int)-1)=(S.length:Int):=by rw[wrap_i64 (by omega) (by omega)];omega
  have n1:Int.toNat ((S.length+1:Nat):Int)=S.length+1:=Xa _;have n2:Int.toNat (S.length:Int)=S.length:=Xa _;have cq:=JA (fu:=fu) (d:=d) x y;have cl:=Acl x y;have lR:=Kl ((S.reverse++[y])++x::R);have lRR:((S.reverse++[y])++x::R).length=N:=hl;rw[EQ hs];by_cases hy:LV y x=true
  ·rw[hy] at cl;rw[L9 hy];have eL:S.reverse++[y,x]++R=(S.reverse++[y])++x::R:=by simp
   rw[eL];simp (disch:=omega) only[Dn,lS,w1,n1,n2,Qn,Ko,ax,ay,cq,cl,Bool.not_true,wi]
  ·rw[Bool.not_eq_true] at hy;rw[hy] at cl;rw[Ld (by simp[hy])]
   have s1:=DI (y:=y) gx
   have gy2:(((S.reverse++[y])++x::R).set (S.length+1) y)[S.length]?=some y:=by
    rw[List.getElem?_set,Ld (by omega)];exact gy
   have s2:=DI (y:=x) gy2;have l2:=Kl (((S.reverse++[y])++x::R).set (S.length+1) y);rw[List.length_set] at l2
   have eL:(((S.reverse++[y])++x::R).set (S.length+1) y).set S.length x=S.reverse++x::(y::R):=by
    rw[List.set_append_right _ _ (by simp),List.set_append_left _ _ (by simp),List.set_append_right _ _ (by simp)]
    simp
   rw[eL] at s2;have XY:YP S.reverse:=(List.pairwise_append.1 hs).1;have r:=ih (y::R) nn (by simp at Es;omega) (by simp;omega) XY
   simp (disch:=omega) only[Dn,lS,w1,n1,n2,Qn,Ko,ax,ay,cq,cl,Bool.not_false,s1,s2];rw[r];simp
theorem QV {n:Nat}{c:List PV}{a1 a2:Int}{N:Nat}(Ei:N<fu)(hN:N<=10000):∀(R S:List (List Int)) (nn:Nat),R.length<nn->(S++R).length=N->YP S ->
  Ay fu (Am C0 prog fu (d+1)) n c a1 a2 nn N 0 (N:Int) (S.length:Int) (Eh (S++R))=some ⟨[],[Eh (Qk S R)]⟩:=by
 intro R
 induction R with
 |nil=>
  intro S nn Es hl hs;obtain⟨nn,rfl⟩:∃k,nn=k+1:=⟨nn-1,by omega⟩
  rw[List.append_nil] at hl ⊢;rw[Cx];simp (disch:=omega) only[Dn];rfl
 |cons x R ih=>
  intro S nn Es hl hs;obtain⟨nn,rfl⟩:∃k,nn=k+1:=⟨nn-1,by omega⟩
  have Gl:S.length+(R.length+1)=N:=by simp at hl;omega
  rw[Cx];simp (disch:=omega) only[Dn];have q:=ZB (fu:=fu) (d:=d) (n:=n) (c:=c) (a1:=a1) (a2:=a2) (m0:=nn) (i:=S.length) (N:=N) (x:=x) (by omega) (by omega) S.reverse R fu (by simp;omega) (by simp;omega) (by simpa using hs)
  rw[List.reverse_reverse,List.length_reverse] at q;rw[q];have r:=ih (V6 x S) nn (by simp at Es;omega) (by rw[RS,Uw];omega) (LK hs)
  rw[Uw] at r;exact r
theorem KB {x:List Int}{R:List (List Int)} (Ei:(x::R).length<fu) (hN:(x::R).length<=10000):
  Am C0 prog fu (d+2) B8 [.tup [.own 1 (x::R).length (Eh (x::R))],.sc (.int .i64 0),.sc (.int .i64 (x::R).length),.sc (.func (.func 44) #[] #[])]=some ⟨[],[Eh (Qk [] (x::R))]⟩:=by
 rw[Fp];have w:wrap .i64 (0+1)=(([x]:List (List Int)).length:Int):=rfl;simp only[Dn,w];exact QV Ei hN R [x] fu (by simp at Ei;omega) rfl (by simp[YP])
theorem VB {a b c e:List Int}(Ei:100<=fu):Am C0 prog fu (d+4) D5 [.tup [.own 1 4 (Eh [a,b,c,e])],.sc (.func (.func 44) #[] #[])]=some ⟨[],[Eh (Qk [] [a,b,c,e])]⟩:=by
 rw[Lt];have w:wrap .u64 4=4:=rfl;have bl:Am C0 prog fu (d+3) 61 [.sc (.int .u64 4)]=some ⟨[.sc (.int .i64 3)],[]⟩:=by kernel_rfl
 obtain⟨m,rfl⟩:∃m,fu=m+1:=⟨fu-1,by omega⟩
 have q:Am C0 prog (m+1) (d+2) B8 [.tup [.own 1 4 (Eh [a,b,c,e])],.sc (.int .i64 0),.sc (.int .i64 4),.sc (.func (.func 44) #[] #[])]=some ⟨[],[Eh (Qk [] [a,b,c,e])]⟩:=KB (x:=a) (R:=[b,c,e]) (by simp;omega) (by simp)
 have w2:wrap .i64 (4-0)=4:=rfl
 have p:Am C0 prog (m+1) (d+3) D8 [.tup [.own 1 4 (Eh [a,b,c,e])],.sc (.int .i64 0),.sc (.int .i64 4),.sc (.int .i64 3),.sc (.func (.func 44) #[] #[])]=some ⟨[],[Eh (Qk [] [a,b,c,e])]⟩:=by
  rw[Hz];dsimp only;rw[Gh];simp (disch:=omega) only[Dn,w2,q]
 have e4:((4:Nat):Int)=4:=rfl;simp (disch:=omega) only[Dn,w,bl,e4,p]
end
end
section
open Go.Proofs.Try (prog)
open Go.IntKind (wrap)
set_option maxRecDepth 100000
structure CU where
 nm:ByteArray
 us:ByteArray
 cr:List Sd
abbrev GY (l:List Sd):List PV:=l.flatMap Sd.cells
def CU.cells (a:CU):List PV:=[.sc (.string a.nm),.sc (.string a.us),.lst false 11 a.cr.length (GY a.cr)]
abbrev Uj (l:List CU):List PV:=l.flatMap CU.cells
theorem Nn {l:List Sd}{i:Nat}{c:Sd}(h:l[i]?=some c) {j:Nat}(hj:j<11):(GY l).getD (i*11+j) .top=c.cells.getD j .top:=U8 (f:=Sd.cells) (k:=11) (fun _=>rfl) h hj
theorem AZ {l:List CU}{i:Nat}{c:CU}(h:l[i]?=some c) {j:Nat}(hj:j<3):(Uj l).getD (i*3+j) .top=c.cells.getD j .top:=U8 (f:=CU.cells) (k:=3) (fun _=>rfl) h hj
def KP (a b:ByteArray):Bool:=Array.toList a.data==Array.toList b.data
def ZK (nm:ByteArray):Nat->List CU->Option Nat
 |_,[]=>none
 |i,a::r=>if KP a.nm nm=true then some i else ZK nm (i+1) r
def NF (o:Option Nat):List PV:=match o with|some i=>[.sc (.int .i64 (i:Int)),.sc (.bool true)]|none=>[.sc (.int .i64 0),.sc (.bool false)]
theorem SF {nm:ByteArray}:∀{l:List CU}{i k:Nat},ZK nm i l=some k->i<=k∧k<i+l.length∧∃a,l[k-i]?=some a∧KP a.nm nm=true
 |[],_,_,h=>by cases h
 |a::r,i,k,h=>by
  unfold ZK at h;split at h
  ·rename_i ha;cases h;exact⟨Nat.le_refl _,by simp,a,by simp,ha⟩
  ·obtain⟨h1,h2,b,h3,h4⟩:=SF h;refine⟨by omega,by simp;omega,b,?_,h4⟩
   rw[show k-i=(k-(i+1))+1 by omega]
   exact h3
def pick:List (List Int)->List Sd->List (List Int)
 |s,[]=>s
 |s,c::r=>if c.sus=false∧s.length<4 then pick (s++[c.id]) r else pick s r
def dec (key:Int):Nat->Nat->List (List Int)
 |_,0=>[]
 |i,k+1=>Py key i 176::dec key (i+1) k
def Afk (o:Option Nat)(l:List CU):List (List Int):=match o with|some i=>(match l[i]? with|some a=>pick [] a.cr|none=>[])|none=>[]
def Ae1 (key:Int)(ids:List (List Int)):List (List Int):=ids++dec key 0 (4-ids.length)
def Ab4 (l:List CU)(secret:Int)(nm:ByteArray):List (List Int):=Qk [] (Ae1 (AD secret 20 (Nk nm)) (Afk (ZK nm 0 l) l))
structure CU.ok (a:CU):Prop where
 cn:a.cr.length<=1000
 cs:∀c∈a.cr,c.ok
section
variable {fu d:Nat}
theorem MV {xs:FuncId->Option (List PV->Option Be)} {n:Nat}{c:List PV}{s nm:ByteArray}{l:List CU}(hl:l.length<=100000):∀(r:List CU)(i nn:Nat),l.drop i=r->r.length<nn->i<=l.length ->
  Fh fu (Am (CX xs) prog fu d) n c s nn nm l.length (Uj l) (l.length:Int) (i:Int)=some ⟨NF (ZK nm i r),[]⟩:=by
 intro r
 induction r with
 |nil=>
  intro i nn hd Es hi;have:=drop_nil hd;obtain⟨nn,rfl⟩:∃k,nn=k+1:=⟨nn-1,by omega⟩
  rw[Js];simp (disch:=omega) only[Dn];rfl
 |cons a r ih=>
  intro i nn hd Es hi;obtain⟨Bl,F4,hd'⟩:=Ir hd;obtain⟨nn,rfl⟩:∃k,nn=k+1:=⟨nn-1,by omega⟩
  rw[Js];have g0:(Uj l).getD (i*3) .top=.sc (.string a.nm):=AZ F4 (j:=0) (by omega)
  have g1:(Uj l).getD (i*3+1) .top=.sc (.string a.us):=AZ F4 (j:=1) (by omega)
  have g2:(Uj l).getD (i*3+1+1) .top=.lst false 11 a.cr.length (GY a.cr):=AZ F4 (j:=2) (by omega)
  have n1:Int.toNat (i:Int)=i:=Xa _;have w1:wrap .i64 ((i:Int)+1)=((i+1:Nat):Int):=by rw[wrap_i64 (by omega) (by omega)];omega
  have eB:(Array.toList a.nm.data==Array.toList nm.data)=KP a.nm nm:=rfl;unfold ZK;cases h:KP a.nm nm
  ·rw[Ld (by simp)]
   have q:=ih (i+1) nn hd' (by simp at Es;omega) (by omega)
   rw[h] at eB;simp (disch:=omega) only[Dn,n1,g0,g1,g2,eB,w1,q]
  ·rw[L9 rfl];rw[h] at eB;simp (disch:=omega) only[Dn,n1,g0,g1,g2,eB,NF]
theorem BN {xs:FuncId->Option (List PV->Option Be)} {l:List CU}{nm:ByteArray}(hl:l.length<=100000)(hf:l.length<fu):Am (CX xs) prog fu (d+1) Mm [.lst false 3 l.length (Uj l),.sc (.string nm)]=some ⟨NF (ZK nm 0 l),[]⟩:=by
 rw[Wx];exact MV hl l 0 fu rfl hf (by omega)
theorem Acn {L:List (List Int)} (hL:L.length=4)(Ei:100<=fu):Am C0 prog fu (d+4) D5 [.tup [.own 1 4 (Eh L)],.sc (.func (.func 44) #[] #[])]=some ⟨[],[Eh (Qk [] L)]⟩:=by
 match L,hL with
 |[a,b,c,e],_=>exact VB Ei
theorem LJ (Ei:1000<=fu){n:Nat}{c:List PV}{a1:Int}{a2:ByteArray}{key cnt:Int}:∀(k nn i:Nat)(ids:List (List Int)),ids.length+k=4->k<nn->(i:Int)+k=cnt->cnt<=4 ->
  C8 fu (Am C0 prog fu (d+6)) n c a1 a2 nn ids.length key cnt (i:Int) (Eh ids)=some ⟨[.own 1 4 (Eh (Qk [] (ids++dec key i k)))],[]⟩:=by
 intro k
 induction k with
 |zero=>
  intro nn i ids h1 h2 h3 h4;obtain⟨nn,rfl⟩:∃k,nn=k+1:=⟨nn-1,by omega⟩
  rw[Hj];have q:=Acn (fu:=fu) (d:=d+2) (L:=ids) (by omega) (by omega)
  have h4':ids.length=4:=by omega
  have lR':(Eh (Qk [] ids)).length=4:=by rw[Kl,DY,h4'];rfl
  have t:List.take 4 (Eh (Qk [] ids))=Eh (Qk [] ids):=Rz (by omega)
  rw[h4'];simp (disch:=omega) only[Dn,q,Ko,t,dec,List.append_nil]
 |succ k ih=>
  intro nn i ids h1 h2 h3 h4;obtain⟨nn,rfl⟩:∃k,nn=k+1:=⟨nn-1,by omega⟩
  rw[Hj];have w0:wrap .u64 (i:Int)=(i:Int):=C1 (by omega) (by omega)
  have w1:wrap .i64 ((i:Int)+1)=((i+1:Nat):Int):=by rw[wrap_i64 (by omega) (by omega)];omega
  have q:Am C0 prog fu (d+6) J8 [.sc (.int .u64 key),.sc (.int .u64 (i:Int)),.sc (.int .i64 176)]=_:=XN (fu:=fu) (d:=d) Ei key (i:Int) (n:=176) (by omega)
  have lS:(At .u8 (Py key (i:Int) 176)).length=176:=by rw[A9,I3]
  have tS:List.take 176 (At .u8 (Py key (i:Int) 176))=At .u8 (Py key (i:Int) 176):=Rz (by omega)
  have lI:=Kl ids;have tI:List.take ids.length (Eh ids)=Eh ids:=Rz (by omega)
  have r:=ih nn (i+1) (ids++[Py key (i:Int) 176]) (by simp;omega) (by omega) (by omega) h4
  have lA:(ids++[Py key (i:Int) 176]).length=ids.length+1:=by simp
  have eA:Eh ids++[PV.lst false 1 176 (At .u8 (Py key (i:Int) 176))]=Eh (ids++[Py key (i:Int) 176]):=by
   unfold Eh;rw[List.flatMap_append];simp[I3]
  rw[lA,VW,List.singleton_append] at r;simp (disch:=omega) only[Dn,w0,w1,q,Ko,Qn,S5,lS,tS,tI,eA,r];rfl
theorem YA (Ei:1000<=fu){n:Nat}{c:List PV}{a1:Int}{a2:ByteArray}{secret:Int}{nm:ByteArray}(CW:nm.size<=500){cr:List Sd}(CP:cr.length<=1000)(Jk:∀c∈cr,c.ok):∀(r:List Sd)(i nn:Nat)(ids:List (List Int)),cr.drop i=r->r.length<nn->i<=cr.length->ids.length<=4 ->
  Co fu (Am C0 prog fu (d+6)) n c a1 a2 nn secret nm ids.length cr.length (GY cr) (cr.length:Int) (i:Int) (Eh ids)=some ⟨[.own 1 4 (Eh (Qk [] (Ae1 (AD secret 20 (Nk nm)) (pick ids r))))],[]⟩:=by
 intro r;have lN:=DK nm;have mc:=IA (xs:=Fw) (fu:=fu) (d:=d+1) (l:=Nk nm) (RW nm) (by omega) (by omega) (by omega) secret 20
 rw[lN] at mc;have sc:=S6 nm;have lS:(At .u8 (Nk nm)).length=nm.size:=by rw[A9,lN]
 have tS:List.take nm.size (At .u8 (Nk nm))=At .u8 (Nk nm):=Rz (by omega)
 induction r with
 |nil=>
  intro i nn ids hd Es hi h4;have:=drop_nil hd;obtain⟨nn,rfl⟩:∃k,nn=k+1:=⟨nn-1,by omega⟩
  rw[Hk];have q:=LJ (fu:=fu) (d:=d) Ei (n:=n) (c:=c) (a1:=a1) (a2:=a2) (key:=AD secret 20 (Nk nm)) (cnt:=4-(ids.length:Int)) (4-ids.length) fu 0 ids (by omega) (by omega) (by omega) (by omega)
  have w:wrap .i64 (4-(ids.length:Int))=4-(ids.length:Int):=wrap_i64 (by omega) (by omega)
  simp (disch:=omega) only[Dn,sc,lS,Qn,Ko,S5,tS,mc,w];exact q
 |cons x r ih=>
  intro i nn ids hd Es hi h4;obtain⟨Bl,F4,hd'⟩:=Ir hd;obtain⟨nn,rfl⟩:∃k,nn=k+1:=⟨nn-1,by omega⟩
  rw[Hk];have g0:(GY cr).getD (i*11) .top=.lst false 1 x.id.length (At .u8 x.id):=Nn F4 (j:=0) (by omega)
  have g1:(GY cr).getD (i*11+1) .top=.sc (.int .i64 x.ht):=Nn F4 (j:=1) (by omega)
  have g2:(GY cr).getD (i*11+1+1) .top=.sc (.int .u64 x.root):=Nn F4 (j:=2) (by omega)
  have g3:(GY cr).getD (i*11+1+1+1) .top=.sc (.int .u64 x.model):=Nn F4 (j:=3) (by omega)
  have g4:(GY cr).getD (i*11+1+1+1+1) .top=.sc (.int .i64 x.fmt):=Nn F4 (j:=4) (by omega)
  have g5:(GY cr).getD (i*11+1+1+1+1+1) .top=.sc (.bool x.sh):=Nn F4 (j:=5) (by omega)
  have g6:(GY cr).getD (i*11+1+1+1+1+1+1) .top=.sc (.int .u64 x.used):=Nn F4 (j:=6) (by omega)
  have g7:(GY cr).getD (i*11+1+1+1+1+1+1+1) .top=.lst false 2 x.rg.length (Jg x.rg):=Nn F4 (j:=7) (by omega)
  have g8:(GY cr).getD (i*11+1+1+1+1+1+1+1+1) .top=.sc (.bool x.sus):=Nn F4 (j:=8) (by omega)
  have g9:(GY cr).getD (i*11+1+1+1+1+1+1+1+1+1) .top=.sc (.int .i64 x.since):=Nn F4 (j:=9) (by omega)
  have g10:(GY cr).getD (i*11+1+1+1+1+1+1+1+1+1+1) .top=.sc (.int .i64 x.last):=Nn F4 (j:=10) (by omega)
  have n1:Int.toNat (i:Int)=i:=Xa _;have w1:wrap .i64 ((i:Int)+1)=((i+1:Nat):Int):=by rw[wrap_i64 (by omega) (by omega)];omega
  have xk:=Jk x (List.mem_of_getElem? F4);have cb:=Ye (xs:=Fw) (fu:=fu) (d:=d+5) (A9 .u8 x.id) xk.idL;have lX:=A9 .u8 x.id;have tX:=WR .u8 x.id;have lI:=Kl ids;have tI:List.take ids.length (Eh ids)=Eh ids:=Rz (by omega)
  unfold pick;by_cases hs:x.sus=false
  ·have bT:∀a b:Option Be,Ca (!x.sus) a b=a:=fun a b=>by rw[hs];rfl
   by_cases hl:ids.length<4
   ·rw[L9 ⟨hs,hl⟩];have r:=ih (i+1) nn (ids++[x.id]) hd' (by simp at Es;omega) (by omega) (by simp;omega)
    have lA:(ids++[x.id]).length=ids.length+1:=by simp
    have eA:Eh ids++[PV.lst false 1 x.id.length (At .u8 x.id)]=Eh (ids++[x.id]):=by
     unfold Eh;rw[List.flatMap_append];rfl
    rw[lA] at r;simp (disch:=omega) only[Dn,n1,g0,g1,g2,g3,g4,g5,g6,g7,g8,g9,g10,bT,cb,Qn,Ko,S5,lX,tX,tI,eA,w1,r]
   ·rw[Ld fun h=>hl h.2]
    have r:=ih (i+1) nn ids hd' (by simp at Es;omega) (by omega) h4
    simp (disch:=omega) only[Dn,n1,g0,g1,g2,g3,g4,g5,g6,g7,g8,g9,g10,bT,w1,r]
  ·rw[Ld fun h=>hs h.1]
   have bF:∀a b:Option Be,Ca (!x.sus) a b=b:=fun a b=>by rw[Bool.not_eq_false] at hs;rw[hs];rfl
   have r:=ih (i+1) nn ids hd' (by simp at Es;omega) (by omega) h4
   simp (disch:=omega) only[Dn,n1,g0,g1,g2,g3,g4,g5,g6,g7,g8,g9,g10,bF,w1,r]
theorem IZ (Ei:2000<=fu){l:List CU}(hl:l.length<=1000)(Jk:∀a∈l,a.ok)(secret:Int){nm:ByteArray}(CW:nm.size<=500):
  Am C0 prog fu (d+7) J1 [.lst false 3 l.length (Uj l),.sc (.int .u64 secret),.sc (.string nm)]=some ⟨[.own 1 4 (Eh (Ab4 l secret nm))],[]⟩:=by
 rw[Rt];have f:=BN (xs:=Fw) (fu:=fu) (d:=d+5) (l:=l) (nm:=nm) (by omega) (by omega)
 unfold Ab4;cases h:ZK nm 0 l with
 |none=>
  rw[h] at f;have lN:=DK nm;have mc:=IA (xs:=Fw) (fu:=fu) (d:=d+1) (l:=Nk nm) (RW nm) (by omega) (by omega) (by omega) secret 20
  rw[lN] at mc;have sc:=S6 nm;have lS:(At .u8 (Nk nm)).length=nm.size:=by rw[A9,lN]
  have tS:List.take nm.size (At .u8 (Nk nm))=At .u8 (Nk nm):=Rz (by omega)
  have q:=LJ (fu:=fu) (d:=d) (by omega) (n:=l.length) (c:=Uj l) (a1:=secret) (a2:=nm) (key:=AD secret 20 (Nk nm)) (cnt:=4) 4 fu 0 [] rfl (by omega) (by omega) (by omega)
  simp only[NF] at f;simp (disch:=omega) only[Dn,f,sc,lS,Qn,Ko,S5,tS,mc];exact q
 |some i=>
  rw[h] at f;obtain⟨_,h2,a,h3,_⟩:=SF h;rw[Nat.sub_zero] at h3;have g2:(Uj l).getD (i*3+2) .top=.lst false 11 a.cr.length (GY a.cr):=AZ h3 (j:=2) (by omega)
  have n1:Int.toNat (i:Int)=i:=Xa _;have ak:=Jk a (List.mem_of_getElem? h3);have q:=YA (fu:=fu) (d:=d) (by omega) (n:=l.length) (c:=Uj l) (a1:=secret) (a2:=nm) (secret:=secret) CW ak.cn ak.cs a.cr 0 fu [] rfl (by have:=ak.cn;omega) (by omega) (by simp)
  simp only[NF] at f;simp (disch:=omega) only[Dn,f,n1,g2];refine q.trans ?_;simp only[Afk,h3]
end
end
section
open Go.Proofs.Try (prog)
open Go.IntKind (wrap)
set_option maxRecDepth 100000
def Nh:ByteArray:=ByteArray.mk #[(97:UInt8),(108:UInt8),(105:UInt8),(99:UInt8),(101:UInt8)]
def Ack:ByteArray:=ByteArray.mk #[(98:UInt8),(111:UInt8),(98:UInt8)]
def uuN:ByteArray:=ByteArray.mk #[(117:UInt8)]
section
variable {fu d:Nat}
theorem TS (Ei:2000<=fu)(nm:ByteArray):Am C0 prog fu (d+1) 18 [.lst false 3 0 [],.sc (.string nm)]=some ⟨[.sc (.int .i64 0),.sc (.bool false)],[]⟩:=BN (xs:=Fw) (l:=[]) (nm:=nm) (by simp) (by simp;omega)
theorem NL (Ei:2000<=fu){n:Nat}{c:List PV}:Am C0 prog fu (d+1) 35 [.lst false 3 0 [],.lst false 1 n c]=some ⟨[.sc (.int .i64 0),.sc (.int .i64 0),.sc (.bool false)],[]⟩:=by
 obtain⟨m,rfl⟩:∃m,fu=m+1:=⟨fu-1,by omega⟩
 rw[Ub (xs:=Fw)];dsimp only;rw[P0];rfl
theorem OD (Ei:2000<=fu):Am C0 prog fu (d+1) 38 [.lst false 3 0 []]=some ⟨[.own 3 0 []],[]⟩:=by
 obtain⟨m,rfl⟩:∃m,fu=m+1:=⟨fu-1,by omega⟩
 rw[Lw (xs:=Fw)];have w:wrap .i64 (((0:Nat):Int)+1)=1:=rfl;simp (disch:=omega) only[Dn,w];rw[Jl];rfl
theorem JY (Ei:2000<=fu){nm us:ByteArray}{c:Sd}(h1:1<=nm.size)(h2:nm.size<=32)(Ax:c.id.length=176)(hr:c.rg.length<=1000):
  Am C0 prog fu (d+3) 15 [.lst false 3 0 [],.sc (.string nm),.sc (.string us),.agg c.cells]=some ⟨[.lst false 3 1 (Uj [⟨nm,us,[c]⟩]),.sc (.int .i64 0)],[]⟩:=by
 refine (Sn fu (d+2) nm us c.id.length (At .u8 c.id) c.ht c.root c.model c.fmt c.sh c.used c.rg.length (Jg c.rg) c.sus c.since c.last).trans ?_;have q1:=NL (fu:=fu) (d:=d+1) Ei (n:=c.id.length) (c:=At .u8 c.id);have q2:=TS (fu:=fu) (d:=d+1) Ei nm;have q3:=OD (fu:=fu) (d:=d+1) Ei;have q4:=O8 (xs:=Fw) (fu:=fu) (d:=d) (c:=c) (by omega) (by omega)
 simp only[Sd.cells,Sd.ocells] at q4;have l1:=A9 .u8 c.id;have l2:=Hf c.rg;have t1:List.take (c.id.length*1) (At .u8 c.id)=At .u8 c.id:=Rz (by omega)
 have t2:List.take (c.rg.length*2) (Jg c.rg)=Jg c.rg:=Rz (by omega)
 have b1:((c.id.length:Int) != 176)=false:=by simp[Ax]
 have b2:(!false)=true:=rfl;simp (disch:=omega) only[Dn,b1,q1,q2,b2];rw[Ox (Es:=by omega)]
 simp (disch:=omega) only[Dn,q3,q4,b2,t1,t2,S5,Nat.zero_mul,List.take_zero,Zzq,Qn];rfl
end
def aw1:Sd:={ XR 1 2 with used:=2,rg:=[(0,1)],last:=7 }
def GR:Sd:={ XR 1 2 with used:=10,rg:=[(0,1),(2,3)],last:=8 }
def aw4:Sd:={ GR with sus:=true }
theorem Aey:Qa (XR 1 2) 1 0 7=(aw1,0):=rfl
theorem Aft:Qa aw1 3 2 8=(GR,0):=rfl
theorem Aez:Qa GR 0 0 9=(GR,37):=rfl
theorem Aeu:Qa GR 3 2 9=(aw4,37):=rfl
theorem Add:aw1.ok:=⟨(Sz 1 2).idB,(Sz 1 2).idL,by decide,by decide,by simp[aw1,Asc],by decide⟩
theorem JW:GR.ok:=⟨(Sz 1 2).idB,(Sz 1 2).idL,by decide,by decide,by simp[GR,Asc],by decide⟩
section
variable {fu d:Nat}
theorem SB (Ei:2000<=fu):Am C0 prog fu (d+8) Hw []=some ⟨[.sc (.bool true)],[]⟩:=by
 refine (Mt fu (d+7)).trans ?_;have s:=Yt (fu:=fu) (d:=d) (by omega) (k:=1) (by omega) (by omega) 2
 have q1:=Iu (fu:=fu) (d:=d+3) (Sz 1 2) Ei 1 0 7;have q2:=Iu (fu:=fu) (d:=d+3) Add Ei 3 2 8;have q3:=Iu (fu:=fu) (d:=d+3) JW Ei 0 0 9;have q4:=Iu (fu:=fu) (d:=d+3) JW Ei 3 2 9;rw[Aey] at q1;rw[Aft] at q2;rw[Aez] at q3;rw[Aeu] at q4;have i1:GR.id.length=176:=by show (Ol _ 176).length=176;rw[Ol,I3]
 have q5:=JY (fu:=fu) (d:=d+4) Ei (nm:=Nh) (us:=uuN) (c:=GR) (by decide) (by decide) i1 (by decide)
 have q6:=BN (xs:=Fw) (fu:=fu) (d:=d+6) (l:=[⟨Nh,uuN,[GR]⟩]) (nm:=Nh) (by simp) (by simp;omega)
 have e6:ZK Nh 0 [⟨Nh,uuN,[GR]⟩]=some 0:=rfl;rw[e6] at q6
 have q7:=IZ (fu:=fu) (d:=d) Ei (l:=[⟨Nh,uuN,[GR]⟩]) (by simp) (by
  intro a ha;rw[List.mem_singleton] at ha;subst ha
  exact⟨by simp,by
   intro c hc;rw[List.mem_singleton] at hc;subst hc;exact JW⟩) 1 (nm:=Ack) (by decide)
 have lL:([⟨Nh,uuN,[GR]⟩]:List CU).length=1:=rfl;rw[lL] at q6 q7;simp only[NF] at q6;generalize Uj [⟨Nh,uuN,[GR]⟩]=A at q5 q6 q7;generalize Eh (Ab4 [⟨Nh,uuN,[GR]⟩] 1 Ack)=R at q7;simp only[Sd.cells,XR,aw1,GR,aw4] at s q1 q2 q3 q4 q5;simp only[Nh,uuN] at q5;simp only[Nh] at q6;simp only[Ack] at q7;generalize Ol (600+1) 176=id at *
 have e1:((0:Int)==0)=true:=rfl;have e2:((37:Int)==37)=true:=rfl;have e3:((10:Int)==10)=true:=rfl;have e4:((([(0,1),(2,3)]:List (Int × Int)).length:Int)==2)=true:=rfl;have e5:(((4:Nat):Int)==4)=true:=rfl;have e0:((0:Nat):Int)=0:=rfl;rw[e0] at q6;show Ek fu (Am C0 prog fu (d+7)) fu=_;rw[Kj (Es:=by omega)]
 simp only[Dn,s,q1];rw[Kq (Es:=by omega)]
 simp only[Dn,q2];rw[Kw (Es:=by omega)]
 simp only[Dn,q3];rw[Ku (Es:=by omega)]
 simp only[Dn,q4];rw[K2 (Es:=by omega)]
 simp only[Dn,q5];rw[Kk (Es:=by omega)]
 simp only[Dn,q6];rw[K8 (Es:=by omega)]
 simp only[Dn,e1,e2,e3,e4,e5,Bool.not_false,q7]
end
end
section
open Go.Proofs.Try (prog)
open Go.IntKind (wrap)
set_option maxRecDepth 100000
abbrev D9:FuncId:=5
noncomputable def B3 (fu:Nat)(call:Aj)(Bv:Nat)(a0:List PV)(Mg:Nat)(a1:List PV)(nn y0:Nat)(y1:List PV)(y2:Nat)(y3:List PV)(y4:Int)(y5:Nat)(y6:List PV)(y7 y8:Int)(y9 Dl:Int)(Dt:Bool)(Cq:Int)(Ds:Nat)(D0:List PV)(E0:Bool)(Ec D1:Int)(F0 He:List PV):Option Be:=Cv CB prog fu call 5 Try.f5 (Bw Try.f5) [.lst false 1 Bv a0,.lst false 1 Mg a1] [.r,.r,.r,.r,.l,.r,.l] nn ⟨lk [(0,(.lst false 1 y0 y1)),(1,(.lst false 1 y2 y3)),(5,(.ptr 5 0)),(6,(.ptr 6 0)),(7,(.ptr 7 0)),(8,(.sc (.int .i64 y4)))],E3 [(5,(.st [(.lst false 1 y5 y6),(.sc (.int .i64 y7)),(.sc (.int .u64 y8)),(.sc (.int .u64 y9)),(.sc (.int .i64 Dl)),(.sc (.bool Dt)),(.sc (.int .u64 Cq)),(.lst false 2 Ds D0),(.sc (.bool E0)),(.sc (.int .i64 Ec)),(.sc (.int .i64 D1))])),(6,(.ar false F0)),(7,(.ar false He))]⟩
noncomputable def Bk (fu:Nat)(call:Aj)(Bv:Nat)(a0:List PV)(Mg:Nat)(a1:List PV)(nn y0:Nat)(y1:List PV)(y2:Nat)(y3:List PV)(y4:Int)(y5:Nat)(y6:List PV)(y7 y8:Int)(y9 Dl:Int)(Dt:Bool)(Cq:Int)(Ds:Nat)(D0:List PV)(E0:Bool)(Ec D1:Int)(F0 He:List PV):Option Be:=Cv CB prog fu call 5 Try.f5 (Bw Try.f5) [.lst false 1 Bv a0,.lst false 1 Mg a1] [.r,.r,.r,.r,.r,.l,.r,.l] nn ⟨lk [(0,(.lst false 1 y0 y1)),(1,(.lst false 1 y2 y3)),(5,(.ptr 5 0)),(6,(.ptr 6 0)),(7,(.ptr 7 0)),(9,(.sc (.int .i64 y4)))],E3 [(5,(.st [(.lst false 1 y5 y6),(.sc (.int .i64 y7)),(.sc (.int .u64 y8)),(.sc (.int .u64 y9)),(.sc (.int .i64 Dl)),(.sc (.bool Dt)),(.sc (.int .u64 Cq)),(.lst false 2 Ds D0),(.sc (.bool E0)),(.sc (.int .i64 Ec)),(.sc (.int .i64 D1))])),(6,(.ar false F0)),(7,(.ar false He))]⟩
noncomputable def D2 (fu:Nat)(call:Aj)(Bv:Nat)(a0:List PV)(Mg:Nat)(a1:List PV)(m0 nn y0:Nat)(y1:List PV)(y2:Nat)(y3:List PV)(y4:Int)(y5:Nat)(y6:List PV)(y7 y8:Int)(y9 Dl:Int)(Dt:Bool)(Cq:Int)(Ds:Nat)(D0:List PV)(E0:Bool)(Ec D1:Int)(F0 He:List PV):Option Be:=Cv CB prog fu call 5 Try.f5 (Bw Try.f5) [.lst false 1 Bv a0,.lst false 1 Mg a1] [.r,.r,.r,.r,.r,.l,.r,.l,.i m0] nn ⟨lk [(0,(.lst false 1 y0 y1)),(1,(.lst false 1 y2 y3)),(5,(.ptr 5 0)),(6,(.ptr 6 0)),(7,(.ptr 7 0)),(9,(.sc (.int .i64 y4)))],E3 [(5,(.st [(.lst false 1 y5 y6),(.sc (.int .i64 y7)),(.sc (.int .u64 y8)),(.sc (.int .u64 y9)),(.sc (.int .i64 Dl)),(.sc (.bool Dt)),(.sc (.int .u64 Cq)),(.lst false 2 Ds D0),(.sc (.bool E0)),(.sc (.int .i64 Ec)),(.sc (.int .i64 D1))])),(6,(.ar false F0)),(7,(.ar false He))]⟩
noncomputable def Bj (fu:Nat)(call:Aj)(Bv:Nat)(a0:List PV)(Mg:Nat)(a1:List PV)(m0 nn y0:Nat)(y1:List PV)(y2:Nat)(y3:List PV)(y4 y5:Int)(y6 y7:Int)(y8:Nat)(y9:List PV)(Dl Dt:Int)(Cq Ds:Int)(D0:Bool)(E0:Int)(Ec:Nat)(D1:List PV)(F0:Bool)(He Oe:Int)(M9 Nl:List PV)(Nz:Nat)(N8:List PV)(Ny N7:Int)(Oa N5:Int)(Us:Bool)(Uv:Int)(BI:Nat)(Y5:List PV)(Zt:Bool)(BW AJ:Int):Option Be:=Cv CB prog fu call 5 Try.f5 (Bw Try.f5) [.lst false 1 Bv a0,.lst false 1 Mg a1] [.r,.r,.r,.r,.r,.l,.r,.l,.i m0,.r,.l,.l,.r,.r,.r] nn ⟨lk [(0,(.lst false 1 y0 y1)),(1,(.lst false 1 y2 y3)),(5,(.ptr 5 0)),(6,(.ptr 6 0)),(7,(.ptr 7 0)),(9,(.sc (.int .i64 y4))),(10,(.sc (.int .i64 y5))),(11,(.sc (.int .i64 y6))),(12,(.ptr 12 0)),(13,(.sc (.int .i64 y7)))],E3 [(5,(.st [(.lst false 1 y8 y9),(.sc (.int .i64 Dl)),(.sc (.int .u64 Dt)),(.sc (.int .u64 Cq)),(.sc (.int .i64 Ds)),(.sc (.bool D0)),(.sc (.int .u64 E0)),(.lst false 2 Ec D1),(.sc (.bool F0)),(.sc (.int .i64 He)),(.sc (.int .i64 Oe))])),(6,(.ar false M9)),(7,(.ar false Nl)),(12,(.st [(.lst false 1 Nz N8),(.sc (.int .i64 Ny)),(.sc (.int .u64 N7)),(.sc (.int .u64 Oa)),(.sc (.int .i64 N5)),(.sc (.bool Us)),(.sc (.int .u64 Uv)),(.lst false 2 BI Y5),(.sc (.bool Zt)),(.sc (.int .i64 BW)),(.sc (.int .i64 AJ))]))]⟩
theorem Dq (fu:Nat)(call:Aj)(Bv:Nat)(a0:List PV)(Mg:Nat)(a1:List PV)(nn y0:Nat)(y1:List PV)(y2:Nat)(y3:List PV)(y4:Int)(y5:Nat)(y6:List PV)(y7 y8:Int)(y9 Dl:Int)(Dt:Bool)(Cq:Int)(Ds:Nat)(D0:List PV)(E0:Bool)(Ec D1:Int)(F0 He:List PV):B3 fu call Bv a0 Mg a1 (nn+1) y0 y1 y2 y3 y4 y5 y6 y7 y8 y9 Dl Dt Cq Ds D0 E0 Ec D1 F0 He=(Ca (decide (y4<16)) (Ar (decide (0<=y4)&&decide (y4<16))<|Ar (decide (0+Int.toNat y4*1+1<=He.length))<|Aa (A0 He [.sc (.int .i64 (-1))] (0+Int.toNat y4*1)) fun JE=>Aa (wrap .i64 (y4+1)) fun GU=>B3 fu call Bv a0 Mg a1 (nn) (y0) (y1) (y2) (y3) GU (y5) (y6) (y7) (y8) (y9) (Dl) (Dt) (Cq) (Ds) (D0) (E0) (Ec) (D1) (F0) JE) (Bk fu call Bv a0 Mg a1 (fu) (y0) (y1) (y2) (y3) 0 (y5) (y6) (y7) (y8) (y9) (Dl) (Dt) (Cq) (Ds) (D0) (E0) (Ec) (D1) (F0) (He))):=by kernel_rfl
theorem Do (fu:Nat)(call:Aj)(Bv:Nat)(a0:List PV)(Mg:Nat)(a1:List PV)(nn y0:Nat)(y1:List PV)(y2:Nat)(y3:List PV)(y4:Int)(y5:Nat)(y6:List PV)(y7 y8:Int)(y9 Dl:Int)(Dt:Bool)(Cq:Int)(Ds:Nat)(D0:List PV)(E0:Bool)(Ec D1:Int)(F0 He:List PV):Bk fu call Bv a0 Mg a1 (nn+1) y0 y1 y2 y3 y4 y5 y6 y7 y8 y9 Dl Dt Cq Ds D0 E0 Ec D1 F0 He=(Ca (decide (y4<(↑y0:Int))) (Ca (decide (y4<(↑y2:Int))) (Ca (decide (y4<60)) (D2 fu call Bv a0 Mg a1 nn (fu) (y0) (y1) (y2) (y3) (y4) (y5) (y6) (y7) (y8) (y9) (Dl) (Dt) (Cq) (Ds) (D0) (E0) (Ec) (D1) (F0) (He)) (As (call 9 []) fun HY JL=>Ah JL<|Ab HY fun JF IV=>A4 JF fun HN=>Ah IV<|some (Be.mk [.sc (.bool HN)] []))) (As (call 9 []) fun X5 GX=>Ah GX<|Ab X5 fun KM GP=>A4 KM fun Xd=>Ah GP<|some (Be.mk [.sc (.bool Xd)] []))) (As (call 9 []) fun HB HQ=>Ah HQ<|Ab HB fun HK DG=>A4 HK fun HI=>Ah DG<|some (Be.mk [.sc (.bool HI)] []))):=by kernel_rfl
theorem Gi (fu:Nat)(call:Aj)(Bv:Nat)(a0:List PV)(Mg:Nat)(a1:List PV)(m0 nn:Nat)(Es:0<nn)(y0:Nat)(y1:List PV)(y2:Nat)(y3:List PV)(y4:Int)(y5:Nat)(y6:List PV)(y7 y8:Int)(y9 Dl:Int)(Dt:Bool)(Cq:Int)(Ds:Nat)(D0:List PV)(E0:Bool)(Ec D1:Int)(F0 He:List PV):D2 fu call Bv a0 Mg a1 m0 nn y0 y1 y2 y3 y4 y5 y6 y7 y8 y9 Dl Dt Cq Ds D0 E0 Ec D1 F0 He=(Ar (decide (0<=y4)&&decide (y4<(↑y0:Int)))<|Ag .u8 (List.getD y1 (Int.toNat y4*1) .top) fun GH=>Aa (Int.tmod GH 16) fun Y1=>Aa (wrap .i64 Y1) fun Oq=>Ar (decide (0<=y4)&&decide (y4<(↑y2:Int)))<|Ag .u8 (List.getD y3 (Int.toNat y4*1) .top) fun QL=>Aa (wrap .i64 QL) fun PX=>Aa (wrap .i64 (Oq+1)) fun JM=>Ar (decide (JM≠0))<|Aa (Int.tmod PX JM) fun Zm=>As (call 21 [.agg [.lst false 1 y5 y6,.sc (.int .i64 y7),.sc (.int .u64 y8),.sc (.int .u64 y9),.sc (.int .i64 Dl),.sc (.bool Dt),.sc (.int .u64 Cq),.lst false 2 Ds D0,.sc (.bool E0),.sc (.int .i64 Ec),.sc (.int .i64 D1)],.sc (.int .i64 Oq),.sc (.int .i64 Zm),.sc (.int .i64 y4)]) fun OY KD=>Ah KD<|Ab OY fun NB OQ=>D6 NB fun KY=>Ab KY fun NT VE=>F3 1 NT fun LC CQ JK=>Ab VE fun UU QD=>Ag .i64 UU fun ML=>Ab QD fun QE YK=>Ag .u64 QE fun KT=>Ab YK fun WC x84=>Ag .u64 WC fun IB=>Ab x84 fun VX x87=>Ag .i64 VX fun QI=>Ab x87 fun QG YV=>A4 QG fun QQ=>Ab YV fun WO ZM=>Ag .u64 WO fun WI=>Ab ZM fun x95 x96=>F3 2 x95 fun x97 WK WN=>Ab x96 fun HR IP=>A4 HR fun T0=>Ab IP fun IH BL=>Ag .i64 IH fun Of=>Ab BL fun JI KC=>Ag .i64 JI fun Xl=>Ah KC<|Ab OQ fun HX HT=>Ag .i64 HX fun Ov=>Ah HT<|Ar (decide (0<=Oq)&&decide (Oq<16))<|A4 (List.getD F0 (0+Int.toNat Oq*1) .top) fun IJ=>Ca (!IJ) (Ar (decide (0<=Zm)&&decide (Zm<16))<|Ag .i64 (List.getD He (0+Int.toNat Zm*1) .top) fun HU=>Ca (!(Ov==0)==decide (Oq>HU)) (some (Be.mk [.sc (.bool false)] [])) (Ar (decide (0<=Oq)&&decide (Oq<16))<|A4 (List.getD F0 (0+Int.toNat Oq*1) .top) fun IE=>Ca (!T0==IE) (some (Be.mk [.sc (.bool false)] [])) (Ca (Ov != 0) (Ca (Ov != 37) (some (Be.mk [.sc (.bool false)] [])) (Bj fu call Bv a0 Mg a1 m0 (fu) (y0) (y1) (y2) (y3) (y4) Oq Zm Ov (y5) (y6) (y7) (y8) (y9) (Dl) (Dt) (Cq) (Ds) (D0) (E0) (Ec) (D1) (F0) (He) CQ JK ML KT IB QI QQ WI WK WN T0 Of Xl)) (Bj fu call Bv a0 Mg a1 m0 (fu) (y0) (y1) (y2) (y3) (y4) Oq Zm Ov (y5) (y6) (y7) (y8) (y9) (Dl) (Dt) (Cq) (Ds) (D0) (E0) (Ec) (D1) (F0) (He) CQ JK ML KT IB QI QQ WI WK WN T0 Of Xl)))) (Ca (!(Ov==0)==false) (some (Be.mk [.sc (.bool false)] [])) (Ar (decide (0<=Oq)&&decide (Oq<16))<|A4 (List.getD F0 (0+Int.toNat Oq*1) .top) fun DL=>Ca (!T0==DL) (some (Be.mk [.sc (.bool false)] [])) (Ca (Ov != 0) (Ca (Ov != 37) (some (Be.mk [.sc (.bool false)] [])) (Bj fu call Bv a0 Mg a1 m0 (fu) (y0) (y1) (y2) (y3) (y4) Oq Zm Ov (y5) (y6) (y7) (y8) (y9) (Dl) (Dt) (Cq) (Ds) (D0) (E0) (Ec) (D1) (F0) (He) CQ JK ML KT IB QI QQ WI WK WN T0 Of Xl)) (Bj fu call Bv a0 Mg a1 m0 (fu) (y0) (y1) (y2) (y3) (y4) Oq Zm Ov (y5) (y6) (y7) (y8) (y9) (Dl) (Dt) (Cq) (Ds) (D0) (E0) (Ec) (D1) (F0) (He) CQ JK ML KT IB QI QQ WI WK WN T0 Of Xl))))):=by cases nn with|zero=>exact absurd Es (Nat.lt_irrefl 0)|succ nn=>kernel_rfl
theorem Cm (fu:Nat)(call:Aj)(Bv:Nat)(a0:List PV)(Mg:Nat)(a1:List PV)(m0 nn:Nat)(Es:0<nn)(y0:Nat)(y1:List PV)(y2:Nat)(y3:List PV)(y4 y5:Int)(y6 y7:Int)(y8:Nat)(y9:List PV)(Dl Dt:Int)(Cq Ds:Int)(D0:Bool)(E0:Int)(Ec:Nat)(D1:List PV)(F0:Bool)(He Oe:Int)(M9 Nl:List PV)(Nz:Nat)(N8:List PV)(Ny N7:Int)(Oa N5:Int)(Us:Bool)(Uv:Int)(BI:Nat)(Y5:List PV)(Zt:Bool)(BW AJ:Int):Bj fu call Bv a0 Mg a1 m0 nn y0 y1 y2 y3 y4 y5 y6 y7 y8 y9 Dl Dt Cq Ds D0 E0 Ec D1 F0 He Oe M9 Nl Nz N8 Ny N7 Oa N5 Us Uv BI Y5 Zt BW AJ=(Ca (Zt) (As (call 21 [.agg [.lst false 1 Nz N8,.sc (.int .i64 Ny),.sc (.int .u64 N7),.sc (.int .u64 Oa),.sc (.int .i64 N5),.sc (.bool Us),.sc (.int .u64 Uv),.lst false 2 BI Y5,.sc (.bool Zt),.sc (.int .i64 BW),.sc (.int .i64 AJ)],.sc (.int .i64 15),.sc (.int .i64 0),.sc (.int .i64 y4)]) fun SZ UW=>Ah UW<|Ab SZ fun YN TB=>D6 YN fun VF=>Ab VF fun UA UZ=>F3 1 UA fun Aaf XS XL=>Ab UZ fun TZ TO=>Ag .i64 TZ fun XP=>Ab TO fun TI SK=>Ag .u64 TI fun ZG=>Ab SK fun ST UH=>Ag .u64 ST fun YI=>Ab UH fun RI RV=>Ag .i64 RI fun YG=>Ab RV fun TW SJ=>A4 TW fun Ac6=>Ab SJ fun UK VC=>Ag .u64 UK fun XA=>Ab VC fun JP RJ=>F3 2 JP fun YH YC Aac=>Ab RJ fun Adu Adv=>A4 Adu fun Ady=>Ab Adv fun Abw Ac1=>Ag .i64 Abw fun Afz=>Ab Ac1 fun Adh Acs=>Ag .i64 Adh fun Afq=>Ah Acs<|Ab TB fun Ac9 Adw=>Ag .i64 Ac9 fun Acd=>Ah Adw<|Ca (Acd==39) (Ca Ady (As (call 9 []) fun Adq Ach=>Ah Ach<|Ab Adq fun Af1 Acm=>A4 Af1 fun Ac2=>Ah Acm<|some (Be.mk [.sc (.bool Ac2)] [])) (some (Be.mk [.sc (.bool false)] []))) (some (Be.mk [.sc (.bool false)] []))) (Ca (y7==0) (Ar (decide (0<=y5)&&decide (y5<16))<|Ar (decide (0+Int.toNat y5*1+1<=M9.length))<|Aa (A0 M9 [.sc (.bool true)] (0+Int.toNat y5*1)) fun Adn=>Ar (decide (0<=y6)&&decide (y6<16))<|Ar (decide (0+Int.toNat y6*1+1<=Nl.length))<|Aa (A0 Nl [.sc (.int .i64 y5)] (0+Int.toNat y6*1)) fun Abz=>Aa (wrap .i64 (y4+1)) fun Acg=>Bk fu call Bv a0 Mg a1 (m0) (y0) (y1) (y2) (y3) Acg (Nz) (N8) (Ny) (N7) (Oa) (N5) (Us) (Uv) (BI) (Y5) (Zt) (BW) (AJ) Adn Abz) (Aa (wrap .i64 (y4+1)) fun Acf=>Bk fu call Bv a0 Mg a1 (m0) (y0) (y1) (y2) (y3) Acf (y8) (y9) (Dl) (Dt) (Cq) (Ds) (D0) (E0) (Ec) (D1) (F0) (He) (Oe) (M9) (Nl)))):=by cases nn with|zero=>exact absurd Es (Nat.lt_irrefl 0)|succ nn=>kernel_rfl
theorem H4 (fu d Bv:Nat)(a0:List PV)(Mg:Nat)(a1:List PV):Am C0 prog fu (d+1) D9 [.lst false 1 Bv a0,.lst false 1 Mg a1]=(fun (call:Aj)=>As (call 12 [.sc (.int .i64 1),.sc (.int .i64 4)]) fun x1 x2=>Ah x2<|Ab x1 fun x3 x4=>D6 x3 fun x5=>Ab x5 fun x6 x7=>F3 1 x6 fun x8 x9 La=>Ab x7 fun Mh Ju=>Ag .i64 Mh fun Px=>Ab Ju fun Mc Nr=>Ag .u64 Mc fun Ru=>Ab Nr fun Tb Pa=>Ag .u64 Tb fun Jj=>Ab Pa fun P8 Qt=>Ag .i64 P8 fun Tn=>Ab Qt fun Rx Iy=>A4 Rx fun U6=>Ab Iy fun Uz Q7=>Ag .u64 Uz fun CL=>Ab Q7 fun CR O1=>F3 2 CR fun Ry AX Xf=>Ab O1 fun T7 CI=>A4 T7 fun Xw=>Ab CI fun S8 Xy=>Ag .i64 S8 fun CN=>Ab Xy fun Yn JH=>Ag .i64 Yn fun GT=>Ah JH<|Ah x4<|B3 fu call Bv a0 Mg a1 (fu) (Bv) (a0) (Mg) (a1) 0 x9 La Px Ru Jj Tn U6 CL AX Xf Xw CN GT ([.sc (.bool false),.sc (.bool false),.sc (.bool false),.sc (.bool false),.sc (.bool false),.sc (.bool false),.sc (.bool false),.sc (.bool false),.sc (.bool false),.sc (.bool false),.sc (.bool false),.sc (.bool false),.sc (.bool false),.sc (.bool false),.sc (.bool false),.sc (.bool false)]) ([.sc (.int .i64 0),.sc (.int .i64 0),.sc (.int .i64 0),.sc (.int .i64 0),.sc (.int .i64 0),.sc (.int .i64 0),.sc (.int .i64 0),.sc (.int .i64 0),.sc (.int .i64 0),.sc (.int .i64 0),.sc (.int .i64 0),.sc (.int .i64 0),.sc (.int .i64 0),.sc (.int .i64 0),.sc (.int .i64 0),.sc (.int .i64 0)])) (Am C0 prog fu d):=by kernel_rfl
end
section
open Go.Proofs.Try (prog)
open Go.IntKind (wrap)
set_option maxRecDepth 100000
abbrev boF (b:Bool):List PV:=[PV.sc (.bool b)]
abbrev Zp (l:List Bool):List PV:=l.flatMap boF
theorem Zy (l:List Bool):(Zp l).length=l.length:=by rw[Z3 (k:=1) (fun _=>rfl)];omega
theorem Agg {l:List Bool}{i:Nat}{b:Bool}(h:l[i]?=some b):(Zp l).getD i .top=.sc (.bool b):=by
 have:=U8 (f:=boF) (k:=1) (fun _=>rfl) h (j:=0) (by omega)
 rwa [Ko,Nat.add_zero] at this
theorem Ad4 {l:List Bool}{i:Nat}{b y:Bool}(h:l[i]?=some b):A0 (Zp l) [.sc (.bool y)] i=Zp (l.set i y):=by
 have hl:=Zy l;have:=I6 h;rw[Lj (by omega)]
 have e:=BF (f:=boF) (k:=1) (fun _=>rfl) (p:=.sc (.bool y)) (j:=0) (by omega) (y:=y) h rfl
 rw[Ko,Nat.add_zero] at e;exact e
theorem TX {k:IntKind}{l:List Int}{i:Nat}{y:Int}(h:i<l.length):A0 (At k l) [.sc (.int k y)] i=At k (l.set i y):=by
 have hl:=A9 k l;rw[Lj (by omega),TY]
section
variable {fu d:Nat}
noncomputable abbrev OS (fu:Nat)(call:Aj)(l r:List Int)(nn i:Nat)(c:Sd)(seen:List Bool)(last:List Int):Option Be:=
 Bk fu call l.length (At .u8 l) r.length (At .u8 r) nn l.length (At .u8 l) r.length (At .u8 r) (i:Int) c.id.length (At .u8 c.id) c.ht c.root c.model c.fmt c.sh c.used c.rg.length (Jg c.rg) c.sus c.since c.last (Zp seen) (At .i64 last)
structure LvI (c:Sd) (seen:List Bool) (last:List Int) (i:Nat):Prop where
 ok:c.ok
 ht:c.ht=4
 sus:c.sus=false
 ls:seen.length=16
 ll:last.length=16
 bits:∀j:Nat,j<16->seen[j]?=some (X2 c.used j)
 lasts:∀j:Nat,j<16->last[j]?=some ((Ff c.rg j).getD (-1))
 rn:c.rg.length<=i
theorem Agh {c:Sd}{leaf f:Int}(h:c.ht=4)(h0:0<=f)(h1:f<=leaf)(h2:leaf<=15):Ms c leaf f=false:=by
 unfold Ms;rw[h];have e:Gc .i64 1 4=16:=by decide
 rw[e];simp only[Bool.or_eq_false_iff,decide_eq_false_iff_not];omega
set_option maxHeartbeats 1000000 in
theorem XC (Ei:2000<=fu){l r:List Int}(hl:∀x∈l,0<=x∧x<=255)(hr:∀x∈r,0<=x∧x<=255)(hll:l.length<=maxLen)(hrl:r.length<=maxLen):∀(k i nn:Nat)(c:Sd)(seen:List Bool)(last:List Int),i+k=60->k<nn->LvI c seen last i ->
  OS fu (Am C0 prog fu (d+8)) l r nn i c seen last=some ⟨[.sc (.bool true)],[]⟩:=by
 have aw:=SB (fu:=fu) (d:=d) Ei;simp only[maxLen] at hll hrl;intro k
 induction k with
 |zero=>
  intro i nn c seen last h1 h2 hI;obtain⟨nn,rfl⟩:∃k,nn=k+1:=⟨nn-1,by omega⟩
  unfold OS;rw[Do];have h60:¬((i:Int)<60):=by omega
  by_cases hi:(i:Int)<(l.length:Int)
  ·by_cases hi2:(i:Int)<(r.length:Int)
   ·simp (disch:=omega) only[Dn,aw]
   ·simp (disch:=omega) only[Dn,aw]
  ·simp (disch:=omega) only[Dn,aw]
 |succ k ih=>
  intro i nn c seen last h1 h2 hI;obtain⟨nn,rfl⟩:∃k,nn=k+1:=⟨nn-1,by omega⟩
  unfold OS;rw[Do];by_cases hi:(i:Int)<(l.length:Int)
  rotate_left
  ·simp (disch:=omega) only[Dn,aw]
  by_cases hi2:(i:Int)<(r.length:Int)
  rotate_left
  ·simp (disch:=omega) only[Dn,aw]
  simp (disch:=omega) only[Dn];rw[Gi (Es:=by omega)]
  have gl:=List.getElem?_eq_getElem (l:=l) (i:=i) (by omega)
  have gr:=List.getElem?_eq_getElem (l:=r) (i:=i) (by omega)
  have bl:=hl _ (List.getElem_mem (l:=l) (n:=i) (by omega))
  have br:=hr _ (List.getElem_mem (l:=r) (n:=i) (by omega))
  generalize l[i]=a at gl bl;generalize r[i]=b at gr br;have al:=ati (k:=.u8) gl;have ar:=ati (k:=.u8) gr;have n1:Int.toNat (i:Int)=i:=Xa _
  obtain⟨lf,lf0,lf1,lfe⟩:∃lf:Nat,lf<=15∧wrap .i64 (Int.tmod a 16)=(lf:Int)∧True:=by
   refine⟨(a % 16).toNat,by omega,?_,trivial⟩
   rw[Int.tmod_eq_emod_of_nonneg bl.1,wrap_i64 (by omega) (by omega)]
   omega
  have wl1:wrap .i64 ((lf:Int)+1)=(lf:Int)+1:=wrap_i64 (by omega) (by omega)
  have wb:wrap .i64 b=b:=wrap_i64 (by omega) (by omega)
  obtain⟨fr,fr0,fr1⟩:∃fr:Nat,fr<=lf∧Int.tmod b ((lf:Int)+1)=(fr:Int):=by
   have q0:=Int.emod_nonneg b (b:=(lf:Int)+1) (by omega)
   have q1:=Int.emod_lt_of_pos b (b:=(lf:Int)+1) (by omega)
   refine⟨(b % ((lf:Int)+1)).toNat,by omega,?_⟩
   rw[Int.tmod_eq_emod_of_nonneg br.1];omega
  have n2:Int.toNat (lf:Int)=lf:=Xa _;have n3:Int.toNat (fr:Int)=fr:=Xa _;have ac:=Iu (fu:=fu) (d:=d+4) hI.ok Ei (lf:Int) (fr:Int) (i:Int);have XT:=Agh (c:=c) (leaf:=lf) (f:=fr) hI.ht (by omega) (by omega) (by omega)
  have sb:=hI.bits lf (by omega)
  have sg:=Agg sb;have lb:=hI.lasts fr (by omega)
  have lg:=ati (k:=.i64) lb;have lls:=hI.ll;have lse:=hI.ls;have eL:=A9 .i64 last;have eS:=Zy seen;have w1:wrap .i64 ((i:Int)+1)=((i+1:Nat):Int):=by rw[wrap_i64 (by omega) (by omega)];omega
  unfold Qa at ac;rw[Ld (by simp[XT]),Ld (by simp[hI.sus])] at ac
  by_cases hb:X2 c.used (lf:Int)=true
  ·-- the leaf was seen
   rw[L9 hb] at ac;rw[hb] at sg;have e37:((37:Int)==0)=false:=rfl;have e37n:((37:Int) != 0)=true:=rfl;have e37m:((37:Int) != 37)=false:=rfl;have eA:(!false==false)=false:=rfl;have eB:(!true==true)=false:=rfl;simp only[Sd.cells] at ac;simp (disch:=omega) only[Dn,n1,Ko,Qn,al,ar,lf1,wl1,wb,fr1,n2,n3,ac,sg,e37,e37n,e37m,eA,eB,Bool.not_true];rw[Cm (Es:=by omega)]
   have ok2:({ c with sus:=true }:Sd).ok:=⟨hI.ok.idB,hI.ok.idL,hI.ok.u0,hI.ok.u1,hI.ok.asc,hI.ok.rgn⟩;have ac2:=Iu (fu:=fu) (d:=d+4) ok2 Ei 15 0 (i:Int);have Agi:=Agh (c:={ c with sus:=true }) (leaf:=15) (f:=0) hI.ht (by omega) (by omega) (by omega)
   unfold Qa at ac2;rw[Ld (by simp[Agi]),L9 rfl] at ac2
   simp only[Sd.cells] at ac2;have e39:((39:Int)==39)=true:=rfl;simp (disch:=omega) only[Dn,ac2,e39,aw]
  ·rw[Ld hb] at ac;rw[Bool.not_eq_true] at hb;rw[hb] at sg;cases hp:put (fr:Int) (lf:Int) c.rg with
   |none=>
    rw[hp] at ac;obtain⟨x,hx,Re⟩:=(Ww hI.ok.asc).1 hp;have T9:Ff c.rg ((fr:Nat):Int)=some x:=hx;rw[T9,Option.getD_some] at lg;have dc:decide ((lf:Int)>x)=false:=by simp;omega
    have e37:((37:Int)==0)=false:=rfl;have e37n:((37:Int) != 0)=true:=rfl;have e37m:((37:Int) != 37)=false:=rfl;have eA:(!false==false)=false:=rfl;have eB:(!(c.sus==false))=false:=by rw[hI.sus];rfl
    simp only[Sd.cells] at ac;simp (disch:=omega) only[Dn,n1,Ko,Qn,al,ar,lf1,wl1,wb,fr1,n2,n3,ac,sg,lg,dc,e37,e37n,e37m,eA,eB,Bool.not_false];rw[Cm (Es:=by omega)]
    have bS:∀x y:Option Be,Ca c.sus x y=y:=fun x y=>by rw[hI.sus];rfl
    have q:=ih (i+1) nn c seen last (by omega) (by omega) ⟨hI.ok,hI.ht,hI.sus,hI.ls,hI.ll,hI.bits,hI.lasts,by have:=hI.rn;omega⟩
    unfold OS at q;simp (disch:=omega) only[Dn,bS,e37,w1,q]
   |some rg=>
    rw[hp] at ac
    have dc:decide ((lf:Int)>(Ff c.rg ((fr:Nat):Int)).getD (-1))=true:=by
     simp only[decide_eq_true_eq];cases hx:Ff c.rg ((fr:Nat):Int) with
     |none=>show (lf:Int) > -1;omega
     |some x=>
      show (lf:Int)>x;have:¬(put (fr:Int) (lf:Int) c.rg=none):=by rw[hp];simp
      rw[Ww hI.ok.asc] at this;refine Int.lt_of_not_ge fun Re=>this ⟨x,hx,Re⟩
    have e0:((0:Int)==0)=true:=rfl;have e0n:((0:Int) != 0)=false:=rfl;have eA:(!true==true)=false:=rfl;have eB:(!(c.sus==false))=false:=by rw[hI.sus];rfl
    have bS:∀x y:Option Be,Ca c.sus x y=y:=fun x y=>by rw[hI.sus];rfl
    simp only[Sd.cells] at ac;simp (disch:=omega) only[Dn,n1,Ko,Qn,al,ar,lf1,wl1,wb,fr1,n2,n3,ac,sg,lg,dc,e0,e0n,eA,eB,Bool.not_false];rw[Cm (Es:=by omega)]
    have s1:=Ad4 (y:=true) sb;have s2:=TX (k:=.i64) (l:=last) (i:=fr) (y:=(lf:Int)) (by omega)
    have hu0:=hI.ok.u0;have MM:=hI.ok.u1;have sB:=Ab1 hu0 MM (k:=(lf:Int)) (by omega) (by omega)
    have Ao2:=KS hp;have hrn:=hI.rn
    have q:=ih (i+1) nn { c with used:=X3 c.used lf,rg:=rg,last:=i } (seen.set lf true) (last.set fr lf) (by omega) (by omega)
     ⟨⟨hI.ok.idB,hI.ok.idL,sB.1,sB.2,LQ hI.ok.asc hp,by show rg.length<=1000;omega⟩,hI.ht,hI.sus,by rw[List.length_set];exact hI.ls,by rw[List.length_set];exact hI.ll,fun j hj=>by
      show (seen.set lf true)[j]?=some (X2 (X3 c.used lf) j);rw[TH hu0 MM (by omega) (by omega) (by omega),List.getElem?_set]
      by_cases e:lf=j
      ·subst e;rw[L9 rfl,L9 (by omega)]
       simp
      ·rw[Ld e,hI.bits j hj];have:¬((j:Int)=(lf:Int)):=by omega
       simp[this],fun j hj=>by
      show (last.set fr lf)[j]?=some ((Ff rg j).getD (-1));rw[GB hI.ok.asc hp j,List.getElem?_set];by_cases e:fr=j
      ·subst e;rw[L9 rfl,L9 (by omega),L9 rfl];rfl
      ·rw[Ld e,hI.lasts j hj,Ld (by omega)],by show rg.length<=i+1;omega⟩
    unfold OS at q;simp (disch:=omega) only[Dn,bS,e0,n2,n3,Ko,Qn,s1,s2,w1];exact q
def WM (i:Nat):List Int:=List.replicate i (-1)++List.replicate (16-i) 0
theorem ZF {i:Nat}(h:i<16):(WM i).set i (-1)=WM (i+1):=by
 unfold WM;rw[List.set_append_right _ _ (by simp),List.length_replicate,Nat.sub_self,show 16-i=(16-(i+1))+1 by omega,List.replicate_succ,List.set_cons_zero,List.replicate_succ',VW]
 rfl
theorem YX (Ei:2000<=fu){l r:List Int}{c:Sd}{seen:List Bool}{call:Aj}:∀(k i nn:Nat),i+k=16->k<nn ->
  B3 fu call l.length (At .u8 l) r.length (At .u8 r) nn l.length (At .u8 l) r.length (At .u8 r) (i:Int) c.id.length (At .u8 c.id) c.ht c.root c.model c.fmt c.sh c.used c.rg.length (Jg c.rg) c.sus c.since c.last (Zp seen) (At .i64 (WM i)) =
   OS fu call l r fu 0 c seen (WM 16):=by
 intro k
 induction k with
 |zero=>
  intro i nn h1 h2;obtain⟨nn,rfl⟩:∃k,nn=k+1:=⟨nn-1,by omega⟩
  have:i=16:=by omega
  subst this;rw[Dq];simp (disch:=omega) only[Dn];rfl
 |succ k ih=>
  intro i nn h1 h2;obtain⟨nn,rfl⟩:∃k,nn=k+1:=⟨nn-1,by omega⟩
  rw[Dq];have n1:Int.toNat (i:Int)=i:=Xa _;have w1:wrap .i64 ((i:Int)+1)=((i+1:Nat):Int):=by rw[wrap_i64 (by omega) (by omega)];omega
  have hl:(WM i).length=16:=by unfold WM;simp;omega
  have eL:=A9 .i64 (WM i);have s:=TX (k:=.i64) (l:=WM i) (i:=i) (y:= -1) (by omega)
  rw[ZF (by omega)] at s
  have q:=ih (i+1) nn (by omega) (by omega)
  simp (disch:=omega) only[Dn,n1,Ko,Qn,s,w1,q]
end
theorem accountLeaves_plain (qs:List PV)(h:Au (WTv prog) [28,28] qs):∃fu d,Am C0 prog fu d D9 qs=some ⟨[.sc (.bool true)],[]⟩:=by
 obtain⟨q0,_,rfl,h0,g⟩:=h.cons_inv;obtain⟨q1,_,rfl,h1,g⟩:=g.cons_inv;obtain rfl:=g.nil_inv;clear h g;obtain⟨l,rfl,hll,hlw⟩:=DT (k:=.u8) (e:=5) (by kernel_rfl) (by kernel_rfl) (by kernel_rfl) (by kernel_rfl) h0
 obtain⟨r,rfl,hrl,hrw⟩:=DT (k:=.u8) (e:=5) (by kernel_rfl) (by kernel_rfl) (by kernel_rfl) (by kernel_rfl) h1
 have hl:∀x∈l,0<=x∧x<=255:=fun x hx=>Aa7 (hlw x hx)
 have hr:∀x∈r,0<=x∧x<=255:=fun x hx=>Aa7 (hrw x hx)
 clear h0 h1;obtain⟨fu,Aoo⟩:∃fu,fu=2000:=⟨_,rfl⟩;have Ei:2000<=fu:=by omega
 refine⟨fu,9,?_⟩;refine (H4 fu 8 l.length (At .u8 l) r.length (At .u8 r)).trans ?_;have s:=Yt (fu:=fu) (d:=1) (by omega) (k:=1) (by omega) (by omega) 4
 simp only[Sd.cells] at s;have f:=YX (fu:=fu) Ei (l:=l) (r:=r) (c:=XR 1 4) (seen:=List.replicate 16 false) (call:=Am C0 prog fu 8) 16 0 fu rfl (by omega)
 have lp:=XC (fu:=fu) (d:=0) Ei hl hr hll hrl 60 0 fu (XR 1 4) (List.replicate 16 false) (WM 16) rfl (by omega)
  ⟨Sz 1 4,rfl,rfl,rfl,rfl,fun j hj=>by
   rw[List.getElem?_replicate,L9 hj];show some false=some (Nat.testBit 0 _);rw[Nat.zero_testBit],fun j hj=>by
   show (List.replicate 16 (-1)++[])[j]?=_;rw[List.append_nil,List.getElem?_replicate,L9 hj];rfl,by show 0<=0;omega⟩
 simp only[Dn,s];exact f.trans lp
end
section
open Go.Proofs.Try (prog)
open Go.IntKind (wrap)
open Go.RowKit
theorem PU {w w':World}{Y:Nat->Prop}{bt:T8}{args:List PV}{v:Value}(hb:Below w.heap.size w w')(ho:F7 w' (R2 bt (fun _=>none) Y) (fun _=>none) bt (Ke [.sc v]) 0 args []):
  Out w w' Y bt args (fun _=>none) ⟨[.sc v],[]⟩ [v] where
 os:=hb.os
 tape:=hb.tape
 output:=hb.output
 ext:=⟨hb.size,fun b h _=>hb.block b h,fun b h=>Gb.same (hb.block b h)⟩
 rng:=fun b j h _=>⟨by unfold World.cell?;simp only[hb.block b h],by unfold World.frozen?;simp only[hb.block b h]⟩
 vals:=⟨Ao.sc v,trivial⟩
 outs:=ho
 fresh:=fun j b o h=>by cases h
 inj:=fun j j' b o o' h=>by cases h
theorem Tw {P:Program}{w:World}{A:Nat->Prop}{bt:Bt}{z:Bool}{n:Nat}{c:List PV}{u:Value}{l:List UInt8}(h:DN w A bt (.lst z 1 n c) u) (hl:bytesOf c=some l)(hn:c.length=n):
  (Extern.Bytes.bytesOf u).run P w=.ok ⟨l.toArray⟩ w:=by
 obtain⟨ns,rfl,rfl⟩:=Nj hl;have ht:Ao w A (.lst z 1 n (ns.map fun n=>.sc (.int .u8 n))) u:=h.2
 generalize hc:(ns.map fun n=>PV.sc (.int .u8 n))=c at ht
 cases ht with
 |lnil=>
  have:ns=[]:=by simpa using hc
  subst this;rfl
 |lemp=>
  have:ns=[]:=by simpa using hc
  subst this;rfl
 |lst _ _ _ a cap f hs hb hA hn' hcell h1 hr=>
  subst hc;rw[List.length_map] at hn;subst hn;show (Extern.Bytes.loadBytes a ns.length .empty).run P w=_;rw[Lib.run_loadBytesX w ns a .empty fun j x hj=>?_]
  ·simp[Lib.bytesOf,Nat.toUInt8]
  ·have e:(ns.map fun n=>PV.sc (.int .u8 n))[j]?=some (.sc (.int .u8 x)):=by rw[List.getElem?_map,hj];rfl
   rw[hcell j _ e,(hr j _ e).val]
set_option maxRecDepth 1000000 in
theorem Z2 (u1 u2:Value)(a b:List UInt8)(w:World)(h1:(Extern.Bytes.bytesOf u1).run prog w=.ok ⟨a.toArray⟩ w) (h2:(Extern.Bytes.bytesOf u2).run prog w=.ok ⟨b.toArray⟩ w):
  Calls prog 44 #[u1,u2] w fun e w'=>e=.returned (.int .i64 (Lib.compareBytes a b))∧w'=w:=by
 have hr:(Extern.BytealgCompare.compare #[u1,u2]).run prog w=.ok (.int .i64 (Lib.compareBytes a b)) w:=by
  change Sem.run prog (do pure (goInt (Extern.BytealgCompare.cmp (←Extern.Bytes.bytesOf u1) (←Extern.Bytes.bytesOf u2)))) w=_
  simp only[Sem.run_bind,Sem.run_pure,Result.andThen,h1,h2];rw[Lib.cmp_eq];rfl
 go_enter Try.func44,Try.ntmps44
 go_wp2
 rw[run_callFunc_extern Try.func62 (by kernel_rfl) (by kernel_rfl) (by kernel_rfl) (e:=Extern.BytealgCompare.compare) (by kernel_rfl),hr]
 simp only[Result.andThen];rw[Oper.upon_value]
 go_wp2
 go_ret
 exact⟨rfl,rfl⟩
theorem Xr (G:Glo)(args:List PV)(res:Be)(h:M7 args=some res):De G prog 44 args res:=by
 refine⟨⟨_,Try.func44,by kernel_rfl⟩,fun w Y bt us hi _ _=>?_⟩
 unfold M7 at h;split at h
 rotate_left
 ·cases h
 rename_i z n c z' m c';cases hq:(Nat.beq c.length n&&Nat.beq c'.length m)
 ·rw[hq] at h;cases h
 rw[hq] at h;simp only[Bool.and_eq_true] at hq;have hn:=Nat.eq_of_beq_eq_true hq.1;have hm:=Nat.eq_of_beq_eq_true hq.2;simp only[cond_true] at h;split at h
 rotate_left
 ·cases h
 rename_i a b ha hb;cases h;have ps:=hi.args
 match us,ps with
 |[u1,u2],ps=>
  refine (Z2 u1 u2 a b w (Tw ps.1 ha hn) (Tw ps.2.1 hb hm)).mono ?_
  rintro e w' ⟨rfl,rfl⟩
  exact⟨[.int .i64 (Lib.compareBytes a b)],fun _=>none,rfl,PU (Below.refl _ _) rfl⟩
 |[],ps=>exact ps.elim
 |[_],ps=>exact ps.2.elim
 |_::_::_::_,ps=>exact ps.2.2.elim
end
section
open Go.Proofs.Try (prog)
open Go.IntKind (wrap)
open Go.RowKit Go.Lib
section
variable {P:Program}
theorem N2 (w:World)(dT sT ty elem:TypeId)(i:TypeInfo)(b o dLen dCap:Nat)(a:Addr)(sLen sCap k:Nat)(cs:List Value)
  (hu:P.underlying dT=some (.slice elem)) (hq:P.info? elem=some i)(hk:k=Nat.min sLen dLen)(hn:cs.length=k*i.size)
  (Kr:∀j v,cs[j]?=some v->w.cell? (a.add j)=some v) (hc:∀j,j<cs.length->(w.cell? ⟨b,o+j,none⟩).isSome=true) (hf:∀j,j<cs.length->w.frozen? ⟨b,o+j,none⟩=false)(h1:∀v∈cs,v.oneCell'=true):
  (Builtin.copy_ #[dT,sT] ty #[.slice (some ⟨b,o,none⟩) dLen dCap,.slice (some a) sLen sCap]).run P w=.ok (goInt k) (w.setCells b o cs):=by
 have hl:=run_loadCells_list (P:=P) w a cs Kr;have Jf:=run_storeCells_cells (P:=P) b o cs 0 w (by simpa using hc) (by simpa using hf) h1
 simp[Builtin.copy_,run_underlying hu,Builtin.lenOf,Builtin.firstCells,sizeOf,typeInfo,hq,←hk,←hn,hl,Jf]
theorem H0 (b:Nat)(vs:List Value)(o:Nat)(w:World)(k:Nat)(hk:(w.cell? ⟨b,k,none⟩).isSome=true):((w.setCells b o vs).cell? ⟨b,k,none⟩).isSome=true:=by
 have h:=(Bc.setCells b vs o w).bs;obtain⟨v,hv⟩:=Option.isSome_iff_exists.1 hk;have h1:=Qj hv;exact Mx (by omega)
theorem CD (w:World){o:Oper}{a:Act}{K:Act->World->Prop}{Q:Exit->Act->World->Prop}(d s:Operand)(t t':TypeId)
  (ho:o.op=.call { callee:=.builtin .copy,args:= #[d,s],argTypes:= #[t,t'] }) (v u:Value)(hd:a.eval d=v)(hs:a.eval s=u){v':Value}{w':World}
  (hr:(Builtin.copy_ #[t,t'] o.type #[v,u]).run P w=.ok v' w') (h:K (a.put o.dst v') w'):o.wp P a w K Q:=by
 unfold Oper.wp execOp;simp only[ho,resolve,invoke,builtin,Sem.run_bind,Sem.run_pure,Result.andThen_ok,List.map_toArray,List.map_cons,List.map_nil,hd,hs,hr];exact h
theorem G5 (w:World){ops:Array Oper}{rest:List Oper}{o:Oper}{a:Act}{Q:Exit->Act->World->Prop}(hgd:o.guard=none)(d s:Operand)(t t':TypeId)
  (ho:o.op=.call { callee:=.builtin .copy,args:= #[d,s],argTypes:= #[t,t'] }) (v u:Value)(hd:a.eval d=v)(hs:a.eval s=u){v':Value}{w':World}
  (hr:(Builtin.copy_ #[t,t'] o.type #[v,u]).run P w=.ok v' w') (h:wpList P ops Q rest (a.put o.dst v') w'):wpList P ops Q (o::rest) a w:=
 wpList_plain hgd fun _ hK=>CD w d s t t' ho v u hd hs hr (hK _ _ h)
theorem Mq {ops:Array Oper}{o:Oper}{a:Act}{w:World}{K:Act->World->Prop}{Q:Exit->Act->World->Prop}{E:Prop}
  (hg:o.guard=none)(d x:Operand)(dT sT:TypeId)(QM:o.op=Op.call { callee:=Callee.builtin Builtin.copy,args:= #[d,x],argTypes:= #[dT,sT] })
  (v u:Value)(hd:a.eval d=v)(hx:a.eval x=u){v':Value}{w':World}(hr:(Builtin.copy_ #[dT,sT] o.type #[v,u]).run P w=.ok v' w') (hK:K (a.put o.dst v') w'):
  if Region.wanted o (yielded ops a.tmps)=true then Oper.wp P o a w K Q else E:=by
 have hw:Region.wanted o (yielded ops a.tmps)=true:=by simp[Region.wanted,hg]
 rw[L9 hw];unfold Oper.wp;simp[execOp,QM,resolve,invoke,builtin,hd,hx,hr,Result.andThen];exact hK
end
theorem AF:(prog.info? 82).map (fun i=>(i.zero,i.size,i.bytes))=some (some (.agg #[.int .i64 0,.int .i64 0]),2,16):=by kernel_rfl
theorem O2:prog.underlying 31=some (.slice 82):=by kernel_rfl
theorem Ade:prog.underlying 3=some (.int .i64):=by kernel_rfl
set_option maxHeartbeats 4000000 in
set_option maxRecDepth 100000 in
theorem MU (b off n c i vb voff vc:Nat)(cs vs:List Value)(w:World)(hi:i<n)(Jx:n+1<=c)(Afu:n<=100000)(hvb:vb≠b)
  (Kc:cs.length=n*2)(Ql:vs.length=2)
  (O6:∀j v,cs[j]?=some v->w.cell? ⟨b,off+j,none⟩=some v) (QN:∀j,j<(n+1)*2->(w.cell? ⟨b,off+j,none⟩).isSome=true) (Md:∀j,j<(n+1)*2->w.frozen? ⟨b,off+j,none⟩=false)
  (Ga:∀j v,vs[j]?=some v->w.cell? ⟨vb,voff+j,none⟩=some v) (h1c:∀v∈cs,v.oneCell'=true)(WF:∀v∈vs,v.oneCell'=true)
  (tA tB:TypeId)(kA kB:Nat)(hsa:w.shape? vb=some (tA,kA)) (hsb:w.shape? b=some (tB,kB)) (hkB:kB≠0)(hfa:w.frozen? ⟨vb,voff,none⟩=false)(hfe:w.frozen? ⟨vb,kA,none⟩=false):
  Calls prog 45 #[.slice (some ⟨b,off,none⟩) n c,.int .i64 i,.slice (some ⟨vb,voff,none⟩) 1 vc] w fun e w'=>
   e=.returned (.slice (some ⟨b,off,none⟩) (n+1) c)∧w'=(w.drew.setCells b (off+(i+1)*2) (cs.drop (i*2))).setCells b (off+i*2) vs:=by
 obtain⟨i0,HJ,hz0,Wf,hzb⟩:=info_parts AF;have hz2:¬((i:Int)=(n:Int)):=by omega
 have hov:∀lb cb,(callFunc 63 #[.slice (some ⟨vb,voff,none⟩) 1 vc,.slice (some ⟨b,off+(i+1)*2,none⟩) lb cb]).run prog w=.ok (.value (.bool false)) w:=fun lb cb=>by
  rw[run_callFunc_extern Try.func63 (by kernel_rfl) (by kernel_rfl) (by kernel_rfl) (e:=Extern.SlicesOverlaps.overlaps #[31,31] #[4]) (by kernel_rfl),
   Lib.run_overlaps_apart w 31 4 82 O2 2 (fun w=>by simp[sizeOf,typeInfo,HJ,Wf]) ⟨vb,voff,none⟩ ⟨b,off+(i+1)*2,none⟩ 1 vc lb cb hvb tA tB kA kB hsa hsb hkB hfa hfe]
  rfl
 have UB:(cs.drop (i*2)).length=(n-i)*2:=by rw[List.length_drop,Kc];omega
 have hw1:IntKind.i64.wrap ((i:Int)+1)=(i:Int)+1:=by rw[IntKind.wrap_i64];omega
 have hw2:IntKind.i64.wrap ((n:Int)+1)=(n:Int)+1:=by rw[IntKind.wrap_i64];omega
 have mixed:prog.follows Departure.mixedOrders=true:=by kernel_rfl
 have Dr:(0:Int)<=(i:Int)+1:=by omega
 have CS:i<=n:=by omega
 have htn:((i:Int)+1).toNat=i+1:=by omega
 have Hy:¬(c=i+1):=by omega
 have BM:(i:Int)<=(n:Int)+1:=by omega
 have hb4:¬(c=i):=by omega
 have Ag2:∀ty dc sc,(Builtin.copy_ #[31,31] ty #[.slice (some ⟨b,off+(i+1)*2,none⟩) (n-i) dc,.slice (some ⟨b,off+i*2,none⟩) (n+1-i) sc]).run prog w.drew=.ok (goInt ((n-i:Nat):Int)) (w.drew.setCells b (off+(i+1)*2) (cs.drop (i*2))):=fun ty dc sc=>
  N2 w.drew _ _ ty 82 i0 b (off+(i+1)*2) (n-i) dc ⟨b,off+i*2,none⟩ (n+1-i) sc (n-i) (cs.drop (i*2)) O2 HJ (by simp only[Nat.min_def];split<;>omega) (by rw[Wf];exact UB)
   (fun j v hj=>by rw[Addr.add_lit,Nat.add_assoc];exact O6 (i*2+j) v (by rwa [List.getElem?_drop] at hj))
   (fun j hj=>by rw[Nat.add_assoc];exact QN _ (by omega)) (fun j hj=>by rw[Nat.add_assoc];exact Md _ (by omega)) (fun v hv=>h1c v (List.mem_of_mem_drop hv))
 obtain⟨W1,GS⟩:∃W1,W1=w.drew.setCells b (off+(i+1)*2) (cs.drop (i*2)):=⟨_,rfl⟩
 have Air:∀k,k<(n+1)*2->(W1.cell? ⟨b,off+k,none⟩).isSome=true:=fun k hk=>by
  rw[GS];exact H0 b _ _ _ _ (QN k hk)
 have Aka:∀(W:World),(∀x,W.cell? x=W1.cell? x)->(∀x,W.frozen? x=W1.frozen? x)->∀ty dc,(Builtin.copy_ #[31,31] ty #[.slice (some ⟨b,off+i*2,none⟩) (n+1-i) dc,.slice (some ⟨vb,voff,none⟩) 1 vc]).run prog W=.ok (goInt 1) (W.setCells b (off+i*2) vs):=fun W hWc hWf ty dc=>
  N2 W _ _ ty 82 i0 b (off+i*2) (n+1-i) dc ⟨vb,voff,none⟩ 1 vc 1 vs O2 HJ (by simp only[Nat.min_def];split<;>omega) (by rw[Ql,Wf])
   (fun j v hj=>by
    rw[Addr.add_lit,hWc,GS,World.cell?_setCells_out b _ _ _ _ (fun h _=>absurd h hvb)]
    exact Ga j v hj)
   (fun j hj=>by rw[hWc,Nat.add_assoc];exact Air _ (by omega)) (fun j hj=>by rw[hWf,GS,World.frozen?_setCells,Nat.add_assoc];exact Md _ (by omega)) WF
 rw[←GS] at Ag2
 go_enter Try.func45,Try.ntmps45
 go_wp2_with (simp only[hov])
 go_region_law_o (refine Mq rfl _ _ 31 31 rfl _ _ (by simp[Act.eval,Act.put]) (by simp[Act.eval,Act.put]) (Ag2 _ _ _) ?_)
 go_wp2_with (at_builtin;refine G5 _ rfl _ _ 31 31 rfl _ _ rfl rfl (Aka _ (fun _=>rfl) (fun _=>rfl) _ _) ?_)
 go_ret
 first|exact⟨rfl,rfl⟩|exact⟨rfl,by rw[GS]⟩
theorem US {w:World}{vb voff vc:Nat}{vs:List Value}(Ql:vs.length=2)(Ga:∀j v,vs[j]?=some v->w.cell? ⟨vb,voff+j,none⟩=some v) (WF:∀v∈vs,v.oneCell'=true):
  Pv.Src prog w (fun _=>False) 2 (.slice (some ⟨vb,voff,none⟩) 1 vc) 1 (vs.map .sc) vs where
 len:=fun w'=>by simp[Builtin.lenOf]
 cells:=fun w' hw=>by
  refine Pv.run_first_slice (w:=w') (.inr ⟨_,rfl,by omega,fun j v hj=>?_⟩)
  have hv:=Ga j v hj;rw[Addr.add_lit,World.cell?_of_block (w:=w) (hw vb (block_lt_of_cell hv))];exact hv
 part:=fun k hk=>by
  refine run_firstCells_some w 2 k ⟨vb,voff,none⟩ 1 vc _ (by rw[List.length_take];omega) fun j v hj=>?_
  rw[List.getElem?_take] at hj;split at hj
  ·rw[Addr.add_lit];exact Ga j v hj
  ·cases hj
 one:=WF
 rep:=by
  clear Ga WF Ql
  induction vs with
  |nil=>trivial
  |cons v vs ih=>exact⟨.sc v,ih⟩
set_option maxHeartbeats 4000000 in
set_option maxRecDepth 100000 in
theorem BH (b off n c vb voff vc:Nat)(vs:List Value)(w:World)(Jx:n+1<=c)
  (Ql:vs.length=2)(QN:∀j,j<2->(w.cell? ⟨b,off+n*2+j,none⟩).isSome=true) (Md:∀j,j<2->w.frozen? ⟨b,off+n*2+j,none⟩=false)
  (Ga:∀j v,vs[j]?=some v->w.cell? ⟨vb,voff+j,none⟩=some v) (WF:∀v∈vs,v.oneCell'=true):
  Calls prog 45 #[.slice (some ⟨b,off,none⟩) n c,.int .i64 n,.slice (some ⟨vb,voff,none⟩) 1 vc] w fun e w'=>
   e=.returned (.slice (some ⟨b,off,none⟩) (n+1) c)∧w'=w.setCells b (off+n*2) vs:=by
 obtain⟨i0,HJ,hz0,Wf,hzb⟩:=info_parts AF;have Kr:=US (vc:=vc) Ql Ga WF;rw[←Wf] at Kr QN Md ⊢
 have hr:∀ty,(Builtin.append_ #[31,31] ty #[.slice (some ⟨b,off,none⟩) n c,.slice (some ⟨vb,voff,none⟩) 1 vc]).run prog w=_:=fun ty=>
  Pv.append_room_run (P:=prog) (w:=w) (t:=31) (tx:=31) (ty:=ty) (ts:=[]) (b:=b) (ob:=off) (n:=n) (cap:=c) O2 O2 (fun k=>by simp) HJ Kr (by rw[Ql,Wf]) (fun k hk=>QN k (by rw[Wf];omega)) (fun k hk=>Md k (by rw[Wf];omega)) Jx
 have mixed:prog.follows Departure.mixedOrders=true:=by kernel_rfl
 go_enter Try.func45,Try.ntmps45
 go_wp2_with (at_builtin;refine Lib.wpList_append_run _ rfl _ _ _ _ rfl _ _ rfl rfl _ _ (hr _) ?_)
 go_ret
 exact⟨rfl,by rw[Wf]⟩
set_option maxHeartbeats 4000000 in
set_option maxRecDepth 100000 in
theorem AM (base:Option Addr)(n c vb voff vc:Nat)(cs vs:List Value)(w:World)(hnc:n<=c)(Jx:c<n+1)(Afu:n<=100000)
  (Kc:cs.length=n*2)(Ql:vs.length=2)(O6:(base=none∧cs=[])∨∃p,base=some p∧∀j v,cs[j]?=some v->w.cell? (p.add j)=some v)
  (Ga:∀j v,vs[j]?=some v->w.cell? ⟨vb,voff+j,none⟩=some v) (WF:∀v∈vs,v.oneCell'=true):
  Calls prog 45 #[.slice base n c,.int .i64 n,.slice (some ⟨vb,voff,none⟩) 1 vc] w fun e w'=>
   e=.returned (.slice (some ⟨w.heap.size,0,none⟩) (n+1) (grownCap w (n+1) c 82)) ∧
   w'=w.drew.alloc (.cells (cs.toArray++vs.toArray++Builtin.zeroCells #[.int .i64 0,.int .i64 0] (grownCap w (n+1) c 82-(n+1))) 82):=by
 obtain⟨i0,HJ,hz0,Wf,hzb⟩:=info_parts AF;have Kr:=US (vc:=vc) Ql Ga WF;rw[←Wf] at Kr
 have hr:∀ty,(Builtin.append_ #[31,31] ty #[.slice base n c,.slice (some ⟨vb,voff,none⟩) 1 vc]).run prog w=_:=fun ty=>
  Pv.append_grow_run (P:=prog) (w:=w) (t:=31) (tx:=31) (ty:=ty) (ts:=[]) (ad:=base) (n:=n) (cap:=c) (olds:=cs) O2 O2 (fun k=>by simp) HJ hz0 Kr (by
   rcases O6 with h|⟨p,h,g⟩
   ·exact .inl h
   ·exact .inr ⟨p,h,by rw[Wf];exact Kc,g⟩) Jx (by rw[hzb];omega) (by omega)
 have Sh:base=none->n=0:=by
  rintro rfl
  rcases O6 with⟨_,rfl⟩|⟨p,h,_⟩
  ·simp at Kc;omega
  ·cases h
 have mixed:prog.follows Departure.mixedOrders=true:=by kernel_rfl
 clear O6
 go_enter Try.func45,Try.ntmps45
 cases base with
 |none=>
  have h0:=Sh rfl;subst h0
  go_wp2_with (at_builtin;refine Lib.wpList_append_run _ rfl _ _ _ _ rfl _ _ rfl rfl _ _ (hr _) ?_)
  go_ret
  exact⟨rfl,rfl⟩
 |some a=>
  go_wp2_with (at_builtin;refine Lib.wpList_append_run _ rfl _ _ _ _ rfl _ _ rfl rfl _ _ (hr _) ?_)
  go_ret
  exact⟨rfl,rfl⟩
set_option maxHeartbeats 4000000 in
set_option maxRecDepth 100000 in
theorem QT (b off n c i vb voff vc:Nat)(cs vs:List Value)(w:World)(hi:i<n)(hnc:n<=c)(Jx:c<n+1)(Afu:n<=100000)
  (Kc:cs.length=n*2)(Ql:vs.length=2)
  (O6:∀j v,cs[j]?=some v->w.cell? ⟨b,off+j,none⟩=some v)
  (Ga:∀j v,vs[j]?=some v->w.cell? ⟨vb,voff+j,none⟩=some v) (h1c:∀v∈cs,v.oneCell'=true)(WF:∀v∈vs,v.oneCell'=true):
  Calls prog 45 #[.slice (some ⟨b,off,none⟩) n c,.int .i64 i,.slice (some ⟨vb,voff,none⟩) 1 vc] w fun e w'=>
   e=.returned (.slice (some ⟨w.heap.size,0,none⟩) (n+1) (grownCap w (n+1) c 82)) ∧
   w'=(((w.alloc (.cells ((cs.take (i*2)).toArray++Builtin.zeroCells #[.int .i64 0,.int .i64 0] (n+1-i)++Builtin.zeroCells #[.int .i64 0,.int .i64 0] (grownCap w (n+1) c 82-(n+1))) 82)).drew.setCells w.heap.size (i*2) vs).drew).setCells w.heap.size ((i+1)*2) (cs.drop (i*2)):=by
 obtain⟨i0,HJ,hz0,Wf,hzb⟩:=info_parts AF;have hz2:¬((i:Int)=(n:Int)):=by omega
 have hz3:(c:Int)<(n:Int)+1:=by omega
 have hbw:b<w.heap.size:=block_lt_of_cell (O6 0 _ (List.getElem?_eq_getElem (by omega)))
 have hvw:vb<w.heap.size:=block_lt_of_cell (Ga 0 _ (List.getElem?_eq_getElem (by omega)))
 have hkk:(n:Int)+1-(i:Int)=((n+1-i:Nat):Int):=by omega
 have hik:i+(n+1-i)=n+1:=by omega
 have hold:(Builtin.firstCells i0.size i (.slice (some ⟨b,off,none⟩) i c)).run prog w.drew=.ok (cs.take (i*2)).toArray w.drew:=by
  rw[Wf]
  exact run_firstCells_some w.drew 2 i ⟨b,off,none⟩ i c (cs.take (i*2)) (by rw[List.length_take];omega) (fun j v hj=>by
   rw[Addr.add_lit];rw[List.getElem?_take] at hj;split at hj
   ·exact O6 j v hj
   ·cases hj)
 have hrz:∀ty,(Builtin.append_ #[31,3] ty #[.slice (some ⟨b,off,none⟩) i c,.int .i64 ((n:Int)+1-(i:Int))]).run prog w =
   .ok (.slice (some ⟨w.heap.size,0,none⟩) (n+1) (grownCap w (n+1) c 82)) (w.drew.alloc (.cells ((cs.take (i*2)).toArray++Builtin.zeroCells #[.int .i64 0,.int .i64 0] (n+1-i)++Builtin.zeroCells #[.int .i64 0,.int .i64 0] (grownCap w (n+1) c 82-(n+1))) 82)):=fun ty=>by
  have h:=Lib.run_append_grow_zeros w 31 3 ty 82 i0 _ .i64 .i64 O2 Ade HJ hz0 (some ⟨b,off,none⟩) i c (cs.take (i*2)) hold (n+1-i) (by omega) (by omega) (by omega) (by omega) (by rw[hzb];omega) (by rw[hzb,hik];exact growslice_fits Jx (by omega))
  rw[hik] at h;rw[hkk];exact h
 obtain⟨G,hG⟩:∃G,G=grownCap w (n+1) c 82:=⟨_,rfl⟩;obtain⟨ROW,FB⟩:∃ROW:Array Value,ROW=(cs.take (i*2)).toArray++Builtin.zeroCells #[.int .i64 0,.int .i64 0] (n+1-i)++Builtin.zeroCells #[.int .i64 0,.int .i64 0] (G-(n+1)):=⟨_,rfl⟩;rw[←hG] at hrz ⊢;rw[←FB] at hrz ⊢
 have hRl:(n+1)*2<=ROW.size:=by
  rw[FB];simp[Builtin.zeroCells];omega
 obtain⟨W1,GS⟩:∃W1,W1=w.drew.alloc (.cells ROW 82):=⟨_,rfl⟩;rw[←GS] at hrz
 have hN:∀j,j<(n+1)*2->(W1.cell? ⟨w.heap.size,j,none⟩).isSome=true:=fun j hj=>by
  rw[GS,World.cell?_alloc_at (w:=w.drew) ROW _ w.heap.size j rfl,Array.getElem?_eq_getElem (by omega)];rfl
 have hNf:∀j,W1.frozen? ⟨w.heap.size,j,none⟩=false:=fun j=>by rw[GS];exact World.frozen?_alloc_at (w:=w.drew) ROW _ w.heap.size j rfl
 have hOb:∀j v,w.cell? ⟨b,j,none⟩=some v->W1.cell? ⟨b,j,none⟩=some v:=fun j v h=>by rw[GS,World.cell?_alloc_past (w:=w.drew) _ b j hbw];exact h
 have hOv:∀j v,w.cell? ⟨vb,j,none⟩=some v->W1.cell? ⟨vb,j,none⟩=some v:=fun j v h=>by rw[GS,World.cell?_alloc_past (w:=w.drew) _ vb j hvw];exact h
 have Ai4:∀(W:World),(∀x,W.cell? x=W1.cell? x)->(∀x,W.frozen? x=W1.frozen? x)->∀ty dc,(Builtin.copy_ #[31,31] ty #[.slice (some ⟨w.heap.size,i*2,none⟩) (n+1-i) dc,.slice (some ⟨vb,voff,none⟩) 1 vc]).run prog W=.ok (goInt 1) (W.setCells w.heap.size (i*2) vs):=fun W hWc hWf ty dc=>
  N2 W _ _ ty 82 i0 w.heap.size (i*2) (n+1-i) dc ⟨vb,voff,none⟩ 1 vc 1 vs O2 HJ (by simp only[Nat.min_def];split<;>omega) (by rw[Ql,Wf])
   (fun j v hj=>by rw[Addr.add_lit,hWc];exact hOv _ v (Ga j v hj))
   (fun j hj=>by rw[hWc];exact hN _ (by omega)) (fun j hj=>by rw[hWf];exact hNf _) WF
 have hGn:n+1<=G:=by rw[hG];exact grownCap_ge w _ _ _
 have Anl:G<=9223372036854775807:=by
  have:=grownCap_le_maxLen w (n+1) c 82 (by unfold maxLen;omega)
  rw[←hG] at this;unfold maxLen at this;omega
 have hGi:¬(G=i):=by omega
 have An1:¬(G=i+1):=by omega
 have hci:¬(c=i):=by omega
 have hbN:b≠w.heap.size:=by omega
 have UB:(cs.drop (i*2)).length=(n-i)*2:=by rw[List.length_drop,Kc];omega
 have Afh:∀(W:World),(∀x,W.cell? x=(W1.setCells w.heap.size (i*2) vs).cell? x)->(∀x,W.frozen? x=(W1.setCells w.heap.size (i*2) vs).frozen? x)->∀ty dc sc,(Builtin.copy_ #[31,31] ty #[.slice (some ⟨w.heap.size,(i+1)*2,none⟩) (n-i) dc,.slice (some ⟨b,off+i*2,none⟩) (n-i) sc]).run prog W=.ok (goInt ((n-i:Nat):Int)) (W.setCells w.heap.size ((i+1)*2) (cs.drop (i*2))):=fun W hWc hWf ty dc sc=>
  N2 W _ _ ty 82 i0 w.heap.size ((i+1)*2) (n-i) dc ⟨b,off+i*2,none⟩ (n-i) sc (n-i) (cs.drop (i*2)) O2 HJ (by simp only[Nat.min_def];split<;>omega) (by rw[Wf];exact UB)
   (fun j v hj=>by
    rw[Addr.add_lit,hWc,World.cell?_setCells_out _ _ _ _ _ (fun h _=>absurd h hbN),Nat.add_assoc]
    exact hOb _ v (O6 (i*2+j) v (by rwa [List.getElem?_drop] at hj)))
   (fun j hj=>by rw[hWc];exact H0 _ _ _ _ _ (hN _ (by omega)))
   (fun j hj=>by rw[hWf,World.frozen?_setCells];exact hNf _) (fun v hv=>h1c v (List.mem_of_mem_drop hv))
 subst GS;have hE1:∀x,((w.alloc (.cells ROW 82)).drew).cell? x=(w.drew.alloc (.cells ROW 82)).cell? x:=fun x=>rfl
 have hE2:∀x,((w.alloc (.cells ROW 82)).drew).frozen? x=(w.drew.alloc (.cells ROW 82)).frozen? x:=fun x=>rfl
 have hF1:∀x,(((w.alloc (.cells ROW 82)).drew.setCells w.heap.size (i*2) vs).drew).cell? x=((w.drew.alloc (.cells ROW 82)).setCells w.heap.size (i*2) vs).cell? x:=fun x=>rfl
 have hF2:∀x,(((w.alloc (.cells ROW 82)).drew.setCells w.heap.size (i*2) vs).drew).frozen? x=((w.drew.alloc (.cells ROW 82)).setCells w.heap.size (i*2) vs).frozen? x:=fun x=>rfl
 have hw1:IntKind.i64.wrap ((i:Int)+1)=(i:Int)+1:=by rw[IntKind.wrap_i64];omega
 have hw2:IntKind.i64.wrap ((n:Int)+1)=(n:Int)+1:=by rw[IntKind.wrap_i64];omega
 have hw3:IntKind.i64.wrap ((n:Int)+1-(i:Int))=(n:Int)+1-(i:Int):=by rw[IntKind.wrap_i64];omega
 have Dr:(0:Int)<=(i:Int)+1:=by omega
 have CS:i<=n:=by omega
 have htn:((i:Int)+1).toNat=i+1:=by omega
 have BM:(i:Int)<=(n:Int):=by omega
 have mixed:prog.follows Departure.mixedOrders=true:=by kernel_rfl
 clear hkk hik hold FB hG hRl
 go_enter Try.func45,Try.ntmps45
 go_wp2_with (first
  |(at_builtin;refine Lib.wpList_append_run _ rfl _ _ _ _ rfl _ _ rfl rfl _ _ (hrz _) ?_)
  |(at_builtin;refine G5 _ rfl _ _ 31 31 rfl _ _ rfl rfl (Ai4 _ hE1 hE2 _ _) ?_)
  |(at_builtin;refine G5 _ rfl _ _ 31 31 rfl _ _ rfl rfl (Afh _ (fun _=>rfl) (fun _=>rfl) _ _ _) ?_))
 go_region_law_o (refine Mq rfl _ _ 31 31 rfl (.slice (some ⟨w.heap.size,(i+1)*2,none⟩) (n-i) (G-(i+1))) (.slice (some ⟨b,off+i*2,none⟩) (n-i) (c-i)) (by simp[Act.eval,Act.put]) (by simp[Act.eval,Act.put]) (Afh _ hF1 hF2 3 (G-(i+1)) (c-i)) ?_)
 go_wp2
 go_ret
 exact⟨rfl,rfl⟩
end
section
open Go.Proofs.Try (prog)
open Go.IntKind (wrap)
open Go.RowKit Go.Lib
structure Ss (w w':World):Prop where
 os:w'.os=w.os
 tape:w'.tape=w.tape
 output:w'.output=w.output
 old:∀k,k<w.heap.size->w'.heap[k]?=w.heap[k]?
 size:w'.heap.size=w.heap.size+1
 frz:∀j,w'.frozen? ⟨w.heap.size,j,none⟩=false
theorem Ss.alloc (w:World)(c:Array Value)(e:TypeId):Ss w (w.alloc (.cells c e)):=
 ⟨rfl,rfl,rfl,fun b hb=>Below.heap_alloc w _ b hb,by show (w.heap.push _).size=_;simp,fun j=>World.frozen?_alloc_at (w:=w) c e w.heap.size j rfl⟩
theorem Ss.allocD (w:World)(c:Array Value)(e:TypeId):Ss w (w.drew.alloc (.cells c e)):=by
 have h:=Ss.alloc w.drew c e;exact⟨h.os,h.tape,h.output,h.old,h.size,h.frz⟩
theorem Ss.wrote {w w' w'':World}(h:Ss w w')(g:Bc w.heap.size w' w''):Ss w w'':=
 ⟨g.os.trans h.os,g.tape.trans h.tape,g.output.trans h.output,fun k hk=>(g.other k (by omega)).trans (h.old k hk),g.size.trans h.size,fun j=>(g.frz j).trans (h.frz j)⟩
theorem Bc.drew (b:Nat)(w:World):Bc b w w.drew:=⟨rfl,rfl,rfl,rfl,fun _ _=>rfl,rfl,fun _=>rfl⟩
theorem RR {w:World}{A:Nat->Prop}{a:Addr}:∀{cs:List Value},CM w A a (cs.map .sc)->∀j v,cs[j]?=some v->w.cell? (a.add j)=some v∧v.oneCell'=true:=by
 intro cs h j v hj;obtain⟨u,h1,h2,h3⟩:=h j (.sc v) (by rw[List.getElem?_map,hj];rfl)
 cases h3;exact⟨h1,h2⟩
theorem BG {w:World}{A:Nat->Prop}{a:Addr}{cs:List Value}(h:∀j v,cs[j]?=some v->w.cell? (a.add j)=some v) (h1:∀v∈cs,v.oneCell'=true):CM w A a (cs.map .sc):=by
 intro j p hp;rw[List.getElem?_map] at hp;cases hv:cs[j]? with
 |none=>rw[hv] at hp;cases hp
 |some v=>
  rw[hv] at hp;cases hp;exact⟨v,h j v hv,h1 v (List.mem_of_getElem? hv),.sc v⟩
theorem LA:∀{c:List PV},c.all Wg=true->∃cs:List Value,c=cs.map .sc
 |[],_=>⟨[],rfl⟩
 |p::c,h=>by
  simp only[List.all_cons,Bool.and_eq_true] at h;obtain⟨cs,rfl⟩:=LA h.2;have hp:=h.1;unfold Wg at hp;split at hp
  ·exact⟨_::cs,rfl⟩
  ·cases hp
def Qg (q:Nat × Nat):Bt:=fun j=>match j with|0=>some q|_=>none
def Oi (i:Nat)(cs vs:List Value):List Value:=cs.take (i*2)++vs++cs.drop (i*2)
theorem DC {i n j:Nat}{cs vs:List Value}{v:Value}(hi:i<=n)(hc:cs.length=n*2)(hv:vs.length=2)(h:(Oi i cs vs)[j]?=some v):
  (j<i*2∧cs[j]?=some v)∨(i*2<=j∧j<i*2+2∧vs[j-i*2]?=some v)∨((i+1)*2<=j∧(cs.drop (i*2))[j-(i+1)*2]?=some v):=by
 unfold Oi at h;have lt:(cs.take (i*2)).length=i*2:=by rw[List.length_take];omega
 by_cases h1:j<i*2
 ·rw[VW,List.getElem?_append_left (by omega),List.getElem?_take,L9 h1] at h
  exact .inl ⟨h1,h⟩
 ·by_cases h2:j<i*2+2
  ·rw[VW,List.getElem?_append_right (by omega),lt,List.getElem?_append_left (by omega)] at h
   exact .inr (.inl ⟨by omega,h2,h⟩)
  ·rw[List.getElem?_append_right (by simp;omega)] at h
   refine .inr (.inr ⟨by omega,?_⟩)
   rw[RS,lt,hv] at h;rw[←h]
   congr 1
   omega
section
variable {w w':World} {Y:Nat->Prop} {bt:T8} {args:List PV} {L vs:List Value} {n cap b o vb vo:Nat} {x1:PV} {x0:PV}
theorem ND (hb:bt 0 1=some (b,o)) (hv:bt 2 0=some (vb,vo)) (Hh:vb≠b)(Rr:b<w.heap.size)(Ql:vb<w.heap.size)(hw:Bc b w w')
  (Adb:∀j,j<o->w'.cell? ⟨b,j,none⟩=w.cell? ⟨b,j,none⟩)(hn:n<=cap)(hF:Fit w 2 b (o+cap*2)) (Md:∀j,o<=j->j<bsz w b->w.frozen? ⟨b,j,none⟩=false)
  (hL:∀j v,L[j]?=some v->w'.cell? ⟨b,o+j,none⟩=some v) (h1:∀v∈L,v.oneCell'=true)
  (Ga:∀j v,vs[j]?=some v->w.cell? ⟨vb,vo+j,none⟩=some v) (h2:∀v∈vs,v.oneCell'=true)(hvf:∀j,vo<=j->j<bsz w vb->w.frozen? ⟨vb,j,none⟩=false)
  (e0:∀ps,x0 ≠ .pbox ps)(e0':∀ps,x0 ≠ .tup ps)(e1:∀ps,x1 ≠ .pbox ps)(e1':∀ps,x1 ≠ .tup ps){q:List PV}:
  Out w w' Y bt [x0,x1,.tup q] (Qg (b,o)) ⟨[.own 2 n (L.map .sc)],[vs.map .sc]⟩ [.slice (some ⟨b,o,none⟩) n cap] where
 os:=hw.os
 tape:=hw.tape
 output:=hw.output
 ext:=⟨by rw[hw.size];exact Nat.le_refl _,fun k _ hk=>hw.other k (fun e=>hk (e ▸ ⟨0,1,o,hb⟩)),fun k _=>hw.grow k⟩
 rng:=fun k j hk hX=>by
  by_cases e:k=b
  ·subst e
   have hj:j<o:=by
    refine Nat.lt_of_not_le fun Re=>hX ⟨0,x0,rfl,Or.inl ⟨0,o,hb,Re⟩⟩
   exact⟨Adb j hj,hw.frz j⟩
  ·exact⟨by unfold World.cell?;simp only[hw.other k e],by unfold World.frozen?;simp only[hw.other k e]⟩
 vals:=⟨.inr ⟨b,o,cap,rfl,rfl,hn,hF.step (hw.grow b),by rw[hw.size];exact Rr,BG (fun j v hj=>by rw[B9];exact hL j v hj) h1,fun j hj Jh=>by rw[hw.frz];exact Md j hj (by rw[hw.bs] at Jh;exact Jh)⟩,trivial⟩
 outs:=by
  have YS:w'.heap[vb]?=w.heap[vb]?:=hw.other vb Hh;have Xg:bsz w' vb=bsz w vb:=by unfold bsz;rw[YS]
  have h:F7 w' (R2 bt (Qg (b,o)) Y) (Qg (b,o)) bt 1 2 [.tup q] [vs.map .sc]:=by
   refine⟨.inr ⟨vb,vo,hv,BG (fun j v hj=>?_) h2,fun j hj Jh=>?_⟩,rfl⟩
   ·rw[B9,World.cell?_of_block (w:=w) YS];exact Ga j v hj
   ·rw[World.frozen?_of_block (w:=w) YS];exact hvf j hj (by rw[Xg] at Jh;exact Jh)
  have h':F7 w' (R2 bt (Qg (b,o)) Y) (Qg (b,o)) bt 1 1 [x1,.tup q] [vs.map .sc]:=by
   unfold F7;cases x1<;>first|exact h|exact absurd rfl (e1 _)|exact absurd rfl (e1' _)
  show F7 w' (R2 bt (Qg (b,o)) Y) (Qg (b,o)) bt 1 0 [x0,x1,.tup q] [vs.map .sc];unfold F7;cases x0<;>first|exact h'|exact absurd rfl (e0 _)|exact absurd rfl (e0' _)
 fresh:=fun j k y h=>by
  cases j with
  |zero=>
   cases h;refine⟨by rw[hw.size];exact Rr,fun _=>⟨⟨0,0,o,hb⟩,fun x hx=>⟨0,x0,rfl,Or.inl ⟨0,o,hb,hx⟩⟩⟩⟩
  |succ j=>cases h
 inj:=fun j j' k y y' h h'=>by
  cases j with
  |zero=>cases j' with
   |zero=>rfl
   |succ j'=>cases h'
  |succ j=>cases h
theorem ZZ (hv:bt 2 0=some (vb,vo)) (Ql:vb<w.heap.size)(hw:Ss w w')
  (hn:n<=cap)(hF:cap*2<=bsz w' w.heap.size)
  (hL:∀j v,L[j]?=some v->w'.cell? ⟨w.heap.size,j,none⟩=some v) (h1:∀v∈L,v.oneCell'=true)
  (Ga:∀j v,vs[j]?=some v->w.cell? ⟨vb,vo+j,none⟩=some v) (h2:∀v∈vs,v.oneCell'=true)(hvf:∀j,vo<=j->j<bsz w vb->w.frozen? ⟨vb,j,none⟩=false)
  (e0:∀ps,x0 ≠ .pbox ps)(e0':∀ps,x0 ≠ .tup ps)(e1:∀ps,x1 ≠ .pbox ps)(e1':∀ps,x1 ≠ .tup ps){q:List PV}:
  Out w w' Y bt [x0,x1,.tup q] (Qg (w.heap.size,0)) ⟨[.own 2 n (L.map .sc)],[vs.map .sc]⟩ [.slice (some ⟨w.heap.size,0,none⟩) n cap] where
 os:=hw.os
 tape:=hw.tape
 output:=hw.output
 ext:=⟨by rw[hw.size];omega,fun k hk _=>hw.old k hk,fun k hk=>Gb.same (hw.old k hk)⟩
 rng:=fun k j hk _=>⟨by unfold World.cell?;simp only[hw.old k hk],by unfold World.frozen?;simp only[hw.old k hk]⟩
 vals:=⟨.inr ⟨w.heap.size,0,cap,rfl,rfl,hn,⟨by omega,.inr (hw.frz _)⟩,by rw[hw.size];omega,BG (fun j v hj=>by rw[B9,Qn];exact hL j v hj) h1,fun j _ _=>hw.frz j⟩,trivial⟩
 outs:=by
  have YS:w'.heap[vb]?=w.heap[vb]?:=hw.old vb Ql;have Xg:bsz w' vb=bsz w vb:=by unfold bsz;rw[YS]
  have h:F7 w' (R2 bt (Qg (w.heap.size,0)) Y) (Qg (w.heap.size,0)) bt 1 2 [.tup q] [vs.map .sc]:=by
   refine⟨.inr ⟨vb,vo,hv,BG (fun j v hj=>?_) h2,fun j hj Jh=>?_⟩,rfl⟩
   ·rw[B9,World.cell?_of_block (w:=w) YS];exact Ga j v hj
   ·rw[World.frozen?_of_block (w:=w) YS];exact hvf j hj (by rw[Xg] at Jh;exact Jh)
  have h':F7 w' (R2 bt (Qg (w.heap.size,0)) Y) (Qg (w.heap.size,0)) bt 1 1 [x1,.tup q] [vs.map .sc]:=by
   unfold F7;cases x1<;>first|exact h|exact absurd rfl (e1 _)|exact absurd rfl (e1' _)
  show F7 w' (R2 bt (Qg (w.heap.size,0)) Y) (Qg (w.heap.size,0)) bt 1 0 [x0,x1,.tup q] [vs.map .sc];unfold F7;cases x0<;>first|exact h'|exact absurd rfl (e0 _)|exact absurd rfl (e0' _)
 fresh:=fun j k y h=>by
  cases j with
  |zero=>cases h;exact⟨by rw[hw.size];omega,fun Bl=>absurd Bl (Nat.lt_irrefl _)⟩
  |succ j=>cases h
 inj:=fun j j' k y y' h h'=>by
  cases j with
  |zero=>cases j' with
   |zero=>rfl
   |succ j'=>cases h'
  |succ j=>cases h
end
theorem PW (G:Glo)(args:List PV)(res:Be)(h:RT args=some res):De G prog 45 args res:=by
 refine⟨⟨_,Try.func45,by kernel_rfl⟩,fun w Y bt us hi _ _=>?_⟩
 unfold RT at h;split at h
 rotate_left
 ·cases h
 rename_i n c i f l;cases hq:(Nat.beq c.length (n*2)&&decide (0<=i)&&decide (i<=n)&&Nat.ble n 100000&&c.all Wg)
 ·rw[hq] at h;cases h
 rw[hq] at h;simp only[Bool.and_eq_true,decide_eq_true_eq] at hq;obtain⟨⟨⟨⟨hc,h0⟩,h1⟩,hn⟩,Jm⟩:=hq;have hc:=Nat.eq_of_beq_eq_true hc;have hn:=Nat.le_of_ble_eq_true hn;simp only[cond_true] at h;cases h;obtain⟨k,rfl⟩:=Int.eq_ofNat_of_zero_le h0;have hk:k<=n:=by omega
 obtain⟨cs,rfl⟩:=LA Jm;rw[List.length_map] at hc
 have eL:List.take (Int.toNat (k:Int)*2) (cs.map PV.sc)++(PV.sc (.int .i64 f)::PV.sc (.int .i64 l)::List.drop (Int.toNat (k:Int)*2) (cs.map PV.sc))=(Oi k cs [.int .i64 f,.int .i64 l]).map .sc:=by
  unfold Oi;rw[Xa,List.map_append,List.map_append,List.map_take,List.map_drop,VW];rfl
 rw[eL];clear h0 h1 Jm eL;obtain⟨vs,WV⟩:∃vs:List Value,vs=[.int .i64 f,.int .i64 l]:=⟨_,rfl⟩;have Ql:vs.length=2:=by rw[WV];rfl
 have VZ:∀v∈vs,v.oneCell'=true:=by
  intro v hv;rw[WV] at hv;rcases List.mem_cons.1 hv with rfl|hv
  ·rfl
  ·rw[List.mem_singleton] at hv;subst hv;rfl
 have evm:[PV.sc (.int .i64 f),PV.sc (.int .i64 l)]=vs.map .sc:=by rw[WV];rfl
 rw[←WV];have ps:=hi.args;rw[evm] at ps ⊢
 match us,ps with
 |[u0,u1,u2],ps=>
  obtain⟨⟨_,p0⟩,⟨_,p1⟩,⟨es2,n2,c2,e2,p2⟩,_⟩:=ps;simp only[List.cons.injEq,PV.own.injEq,and_true] at e2;obtain⟨rfl,rfl,rfl⟩:=e2;have MM:u1=.int .i64 k:=Ao.val (show Ao w _ (.sc (.int .i64 k)) u1 from p1)
  subst MM;rcases p2 with⟨_,hz,_⟩|⟨vb,vo,vc,hvb,rfl,hvn,hvF,Adi,hvR,hvf⟩
  ·cases hz
  have hvr:=RR hvR
  have Ga:∀j v,vs[j]?=some v->w.cell? ⟨vb,vo+j,none⟩=some v:=fun j v hj=>by
   have:=(hvr j v hj).1
   rwa [B9] at this
  have fin_new:∀(u0:Value) (w':World) (cap:Nat),Ss w w'->n+1<=cap->cap*2<=bsz w' w.heap.size->(∀j v,(Oi k cs vs)[j]?=some v->w'.cell? ⟨w.heap.size,j,none⟩=some v)->(∀v∈Oi k cs vs,v.oneCell'=true) ->
    ∃us own,Ending.returned (Value.slice (some ⟨w.heap.size,0,none⟩) (n+1) cap)=.returned (Fq us)∧Out w w' Y bt [.own 2 n (cs.map .sc),.sc (.int .i64 k),.tup [.own 2 1 (vs.map .sc)]] own ⟨[.own 2 (n+1) ((Oi k cs vs).map .sc)],[vs.map .sc]⟩ us:=by
   intro u0 w' cap hw Oc hF hL h1;exact⟨_,_,rfl,ZZ hvb Adi hw Oc hF hL h1 Ga VZ hvf (by simp) (by simp) (by simp) (by simp)⟩
  have one:(∀v∈cs,v.oneCell'=true)->∀v∈Oi k cs vs,v.oneCell'=true:=by
   intro Zv v hv;unfold Oi at hv;rcases List.mem_append.1 hv with hv|hv
   ·rcases List.mem_append.1 hv with hv|hv
    ·exact Zv v (List.mem_of_mem_take hv)
    ·exact VZ v hv
   ·exact Zv v (List.mem_of_mem_drop hv)
  have grow_end:∀(base:Option Addr) (cap0:Nat),n<=cap0->cap0<n+1->k=n->((base=none∧cs=[])∨∃p,base=some p∧∀j v,cs[j]?=some v->w.cell? (p.add j)=some v)->(∀v∈cs,v.oneCell'=true) ->
    Calls prog 45 #[.slice base n cap0,.int .i64 k,.slice (some ⟨vb,vo,none⟩) 1 vc] w fun e w'=>
     ∃us own,e=.returned (Fq us)∧Out w w' Y bt [.own 2 n (cs.map .sc),.sc (.int .i64 k),.tup [.own 2 1 (vs.map .sc)]] own ⟨[.own 2 (n+1) ((Oi k cs vs).map .sc)],[vs.map .sc]⟩ us:=by
   intro base cap0 Zv hc2 hkn hb HW;subst hkn;refine (AM base k cap0 vb vo vc cs vs w Zv hc2 hn hc Ql hb Ga VZ).mono ?_
   rintro e w' ⟨rfl,rfl⟩
   obtain⟨G,hG⟩:∃G,G=grownCap w (k+1) cap0 82:=⟨_,rfl⟩;rw[←hG];have hGn:k+1<=G:=by rw[hG];exact grownCap_ge w _ _ _
   have eI:Oi k cs vs=cs++vs:=by
    unfold Oi;rw[Rz (by omega),List.drop_of_length_le (by omega),List.append_nil]
   refine fin_new undef _ G (Ss.allocD w _ _) hGn ?_ (fun j v hj=>?_) (one HW)
   ·have:bsz (w.drew.alloc (.cells (cs.toArray++vs.toArray++Builtin.zeroCells #[.int .i64 0,.int .i64 0] (G-(k+1))) 82)) w.heap.size=_:=(Di.alloc w.drew _ _).bsz;rw[this];simp[Builtin.zeroCells];omega
   ·rw[eI] at hj;have Bl:=I6 hj;rw[World.cell?_alloc_at (w:=w.drew) _ _ w.heap.size j rfl,Array.getElem?_append_left (by simpa using Bl)]
    simpa using hj
  rcases p0 with⟨_,rfl,hc0,ad,rfl⟩|⟨b,o,cap,hb,rfl,KV,hF,VL,hR,Md⟩
  ·have O6:cs=[]:=by simpa using hc0
   subst O6;have hk0:k=0:=by omega
   refine grow_end ad 0 (Nat.le_refl _) (by omega) hk0 ?_ (by simp)
   cases ad with
   |none=>exact .inl ⟨rfl,rfl⟩
   |some p=>exact .inr ⟨p,rfl,fun j v hj=>by cases hj⟩
  have hr:=RR hR
  have SQ:∀j v,cs[j]?=some v->w.cell? ⟨b,o+j,none⟩=some v:=fun j v hj=>by
   have:=(hr j v hj).1
   rwa [B9] at this
  have Zv:∀v∈cs,v.oneCell'=true:=fun v hv=>by
   obtain⟨j,hj⟩:=List.mem_iff_getElem?.1 hv;exact (hr j v hj).2
  have Hh:vb≠b:=by
   rintro rfl
   have:=(hi.inj 0 1 2 0 vb o vo hb hvb).1;omega
  have Iv:∀j,j<cap*2->(w.cell? ⟨b,o+j,none⟩).isSome=true:=fun j hj=>Mx (by have:=hF.1;omega)
  have WP:∀j,j<cap*2->w.frozen? ⟨b,o+j,none⟩=false:=fun j hj=>Md _ (by omega) (by have:=hF.1;omega)
  by_cases Jx:n+1<=cap
  ·-- in Ea
   have hX:cap*2<=bsz w b:=by have:=hF.1;omega
   have hwB:∀w':World,Bc b w w'->(∀j,j<o->w'.cell? ⟨b,j,none⟩=w.cell? ⟨b,j,none⟩)->(∀j v,(Oi k cs vs)[j]?=some v->w'.cell? ⟨b,o+j,none⟩=some v) ->
     ∃us own,Ending.returned (Value.slice (some ⟨b,o,none⟩) (n+1) cap)=.returned (Fq us)∧Out w w' Y bt [.own 2 n (cs.map .sc),.sc (.int .i64 k),.tup [.own 2 1 (vs.map .sc)]] own ⟨[.own 2 (n+1) ((Oi k cs vs).map .sc)],[vs.map .sc]⟩ us:=by
    intro w' hw Adb hL;exact⟨_,_,rfl,ND hb hvb Hh VL Adi hw Adb Jx hF Md hL (one Zv) Ga VZ hvf (by simp) (by simp) (by simp) (by simp)⟩
   by_cases hkn:k=n
   ·subst hkn
    have eI:Oi k cs vs=cs++vs:=by
     unfold Oi;rw[Rz (by omega),List.drop_of_length_le (by omega),List.append_nil]
    refine (BH b o k cap vb vo vc vs w Jx Ql (fun j hj=>by rw[Nat.add_assoc];exact Iv _ (by omega)) (fun j hj=>by rw[Nat.add_assoc];exact WP _ (by omega)) Ga VZ).mono ?_
    rintro e w' ⟨rfl,rfl⟩
    refine hwB _ (Bc.setCells b _ _ w) (fun j hj=>World.cell?_setCells_out b _ _ w ⟨b,j,none⟩ (fun _ _=>.inl (by show j<o+k*2;omega))) (fun j v hj=>?_)
    rw[eI] at hj;by_cases Bl:j<cs.length
    ·rw[List.getElem?_append_left Bl] at hj;rw[World.cell?_setCells_out b _ _ w ⟨b,o+j,none⟩ (fun _ _=>.inl (by show o+j<o+k*2;omega))]
     exact SQ j v hj
    ·rw[List.getElem?_append_right (by omega)] at hj
     have hl:=I6 hj;have:=World.cell?_setCells_in b vs (o+k*2) w (fun t ht=>by rw[Nat.add_assoc];exact Iv _ (by omega)) (j-cs.length) hl
     rw[show o+k*2+(j-cs.length)=o+j by omega] at this
     rw[this,←hj,List.getElem?_eq_getElem hl]
   ·have Hx:k<n:=by omega
    have QR:∀q:Nat,q<w.heap.size->∃t,w.shape? q=some (t,bsz w q)∨bsz w q=0:=by
     intro q hq;unfold World.shape? bsz;cases w.heap[q]? with
     |none=>exact⟨0,.inr rfl⟩
     |some x=>cases x<;>first|exact⟨_,.inl rfl⟩|exact⟨0,.inr rfl⟩
    obtain⟨tA,hA⟩:=QR vb Adi;obtain⟨tB,hB⟩:=QR b VL;have Ao6:=hvF.1
    have hvE:w.frozen? ⟨vb,bsz w vb,none⟩=false:=by
     rcases hvF.2 with h|h
     ·omega
     ·exact h
    have hA:w.shape? vb=some (tA,bsz w vb):=hA.resolve_right (by omega)
    have hB:w.shape? b=some (tB,bsz w b):=hB.resolve_right (by omega)
    refine (MU b o n cap k vb vo vc cs vs w Hx Jx hn Hh hc Ql SQ (fun j hj=>Iv j (by omega)) (fun j hj=>WP j (by omega)) Ga Zv VZ tA tB _ _ hA hB (by omega) (hvf vo (Nat.le_refl _) (by omega)) hvE).mono ?_
    rintro e w' ⟨rfl,rfl⟩
    have UB:(cs.drop (k*2)).length=(n-k)*2:=by rw[List.length_drop,hc];omega
    have hw1:=(Bc.drew b w).trans (Bc.setCells b (cs.drop (k*2)) (o+(k+1)*2) w.drew);refine hwB _ (hw1.trans (Bc.setCells b vs (o+k*2) _)) (fun j hj=>?_) (fun j v hj=>?_)
    ·rw[World.cell?_setCells_out b _ _ _ ⟨b,j,none⟩ (fun _ _=>.inl (by show j<o+k*2;omega)),World.cell?_setCells_out b _ _ _ ⟨b,j,none⟩ (fun _ _=>.inl (by show j<o+(k+1)*2;omega))]
     rfl
    ·have WG:∀t,t<cap*2->((w.drew.setCells b (o+(k+1)*2) (cs.drop (k*2))).cell? ⟨b,o+t,none⟩).isSome=true:=fun t ht=>H0 b _ _ _ _ (Iv t ht)
     rcases DC hk hc Ql hj with⟨h1,h2⟩|⟨h1,h2,h3⟩|⟨h1,h2⟩
     ·rw[World.cell?_setCells_out b _ _ _ ⟨b,o+j,none⟩ (fun _ _=>.inl (by show o+j<o+k*2;omega)),World.cell?_setCells_out b _ _ _ ⟨b,o+j,none⟩ (fun _ _=>.inl (by show o+j<o+(k+1)*2;omega))]
      exact SQ j v h2
     ·have hl:=I6 h3;have:=World.cell?_setCells_in b vs (o+k*2) (w.drew.setCells b (o+(k+1)*2) (cs.drop (k*2))) (fun t ht=>by rw[Nat.add_assoc];exact WG _ (by omega)) (j-k*2) hl
      rw[show o+k*2+(j-k*2)=o+j by omega] at this
      rw[this,←h3,List.getElem?_eq_getElem hl]
     ·have hl:=I6 h2;rw[World.cell?_setCells_out b _ _ _ ⟨b,o+j,none⟩ (fun _ _=>.inr (by show o+k*2+vs.length<=o+j;omega))]
      have:=World.cell?_setCells_in b (cs.drop (k*2)) (o+(k+1)*2) w.drew (fun t ht=>by rw[Nat.add_assoc];exact Iv _ (by omega)) (j-(k+1)*2) hl
      rw[show o+(k+1)*2+(j-(k+1)*2)=o+j by omega] at this
      rw[this,←h2,List.getElem?_eq_getElem hl]
  ·by_cases hkn:k=n
   ·exact grow_end _ cap KV (by omega) hkn (.inr ⟨_,rfl,fun j v hj=>by rw[B9];exact SQ j v hj⟩) Zv
   ·refine (QT b o n cap k vb vo vc cs vs w (by omega) KV (by omega) hn hc Ql SQ Ga Zv VZ).mono ?_
    rintro e w' ⟨rfl,rfl⟩
    obtain⟨G,hG⟩:∃G,G=grownCap w (n+1) cap 82:=⟨_,rfl⟩;rw[←hG];have hGn:n+1<=G:=by rw[hG];exact grownCap_ge w _ _ _
    obtain⟨ROW,FB⟩:∃ROW:Array Value,ROW=(cs.take (k*2)).toArray++Builtin.zeroCells #[.int .i64 0,.int .i64 0] (n+1-k)++Builtin.zeroCells #[.int .i64 0,.int .i64 0] (G-(n+1)):=⟨_,rfl⟩;rw[←FB]
    have hRl:ROW.size=G*2:=by
     rw[FB];simp[Builtin.zeroCells];omega
    have hR0:∀(j:Nat) v,j<k*2->cs[j]?=some v->ROW[j]?=some v:=by
     intro j v hj hv;rw[FB,Array.getElem?_append_left (by simp;omega),Array.getElem?_append_left (by simp;omega)]
     simp only[List.getElem?_toArray];rw[List.getElem?_take,L9 hj];exact hv
    clear FB;obtain⟨W0,hW0⟩:∃W0,W0=w.alloc (.cells ROW 82):=⟨_,rfl⟩;have hN0:Ss w W0:=by rw[hW0];exact Ss.alloc w ROW _
    have hB0:bsz W0 w.heap.size=G*2:=by rw[hW0,(Di.alloc w ROW 82).bsz,hRl]
    have hC0:∀j,W0.cell? ⟨w.heap.size,j,none⟩=ROW[j]?:=fun j=>by rw[hW0];exact (Di.alloc w ROW 82).cell j
    rw[←hW0];have UB:(cs.drop (k*2)).length=(n-k)*2:=by rw[List.length_drop,hc];omega
    have Ah7:∀j,j<G*2->(W0.cell? ⟨w.heap.size,j,none⟩).isSome=true:=fun j hj=>Mx (by omega)
    obtain⟨W1,GS⟩:∃W1,W1=(W0.drew.setCells w.heap.size (k*2) vs).drew:=⟨_,rfl⟩;have hw1:Bc w.heap.size W0 W1:=by rw[GS];exact ((Bc.drew _ W0).trans (Bc.setCells _ vs (k*2) W0.drew)).trans (Bc.drew _ _)
    have hC1:∀j,W1.cell? ⟨w.heap.size,j,none⟩=(W0.drew.setCells w.heap.size (k*2) vs).cell? ⟨w.heap.size,j,none⟩:=fun j=>by rw[GS];rfl
    have Ak7:∀j,j<G*2->(W1.cell? ⟨w.heap.size,j,none⟩).isSome=true:=fun j hj=>Mx (by rw[hw1.bs];omega)
    rw[←GS];have hw2:=hw1.trans (Bc.setCells w.heap.size (cs.drop (k*2)) ((k+1)*2) W1);refine fin_new undef _ G (hN0.wrote hw2) hGn (by rw[hw2.bs,hB0];exact Nat.le_refl _) (fun j v hj=>?_) (one Zv)
    rcases DC hk hc Ql hj with⟨h1,h2⟩|⟨h1,h2,h3⟩|⟨h1,h2⟩
    ·rw[World.cell?_setCells_out _ _ _ _ ⟨w.heap.size,j,none⟩ (fun _ _=>.inl (by show j<(k+1)*2;omega)),hC1,World.cell?_setCells_out _ _ _ _ ⟨w.heap.size,j,none⟩ (fun _ _=>.inl (by show j<k*2;omega))]
     show W0.cell? _=_;rw[hC0];exact hR0 j v h1 h2
    ·have hl:=I6 h3;rw[World.cell?_setCells_out _ _ _ _ ⟨w.heap.size,j,none⟩ (fun _ _=>.inl (by show j<(k+1)*2;omega)),hC1]
     have:=World.cell?_setCells_in w.heap.size vs (k*2) W0.drew (fun t ht=>Ah7 _ (by omega)) (j-k*2) hl
     rw[show k*2+(j-k*2)=j by omega] at this
     rw[this,←h3,List.getElem?_eq_getElem hl]
    ·have hl:=I6 h2;have:=World.cell?_setCells_in w.heap.size (cs.drop (k*2)) ((k+1)*2) W1 (fun t ht=>Ak7 _ (by omega)) (j-(k+1)*2) hl
     rw[show (k+1)*2+(j-(k+1)*2)=j by omega] at this
     rw[this,←h2,List.getElem?_eq_getElem hl]
 |[],ps=>exact ps.elim
 |[_],ps=>exact ps.2.elim
 |[_,_],ps=>exact ps.2.2.elim
 |_::_::_::_::_,ps=>exact ps.2.2.2.elim
end
section
open Go.Proofs.Try (prog)
open Go.IntKind (wrap)
theorem extA (G:Glo):ExtOk G prog C0:=by
 intro f g args res hx hg;have hx0:(bif AR.any (Nat.beq f) then none else Fw f)=some g:=hx;cases hb:AR.any (Nat.beq f)
 rotate_left
 ·rw[hb,cond_true] at hx0;cases hx0
 rw[hb,cond_false] at hx0;have T9:Fw f=some g:=hx0;unfold Fw at T9;cases h2:Nat.beq f 44
 rotate_left
 ·rw[h2,cond_true] at T9;cases T9;rw[Nat.eq_of_beq_eq_true h2];exact Xr G args res hg
 rw[h2,cond_false] at T9;cases h4:Nat.beq f 45
 rotate_left
 ·rw[h4,cond_true] at T9;cases T9;rw[Nat.eq_of_beq_eq_true h4];exact PW G args res hg
 rw[h4,cond_false] at T9;cases h3:Nat.beq f 1000000
 ·rw[h3,cond_false] at T9;cases T9
 ·rw[h3,cond_true] at T9;cases T9;cases hg
end
end Go.Proofs.Yteicjnihnacadaa.Pv
