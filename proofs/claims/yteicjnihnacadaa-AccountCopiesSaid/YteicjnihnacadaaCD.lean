/-
  The proof of AccountCopies, part 4.
-/
import Derived.Test.YteicjnihnacadaaCC
import Derived.Test.YteicjnihnacadaaRows
import Derived.Sort.Walk0
import Derived.Lib.BytesEntry
import Derived.Lib.Bytealg
import Derived.Lib.Walk
import Derived.WalkKit
import Derived.WalkMore
import Derived.Shelf.RegionOpenPlain
import Derived.Lib.Overlaps
import Derived.Lib.AppendZerosOnto
import Derived.Lib.SliceRun
import Derived.Laws.Externs
import Derived.Laws.IdiomCopy
import Derived.Laws.NewBlocks
set_option linter.unusedSimpArgs false
set_option linter.unusedVariables false
namespace Go.Proofs.Yteicjnihnacadaa.Pv
section
open Go.Proofs.Try (prog)
open Go.IntKind (wrap)
section
variable {fu d:Nat} {xs:FuncId->Option (List PV->Option Bg)}
theorem TC {x k:Int}(hk:k=13∨k=16∨k=17∨k=21∨k=32):Am (CX xs) prog fu (d+1) Hz [.sc (.int .u64 x),.sc (.int .i64 k)]=some ⟨[.sc (.int .u64 (rot x k))],[]⟩:=by
 rw[Nz];rcases hk with rfl|rfl|rfl|rfl|rfl<;>kernel_rfl
theorem SZ {x k:Int}(hk:k=13∨k=16∨k=17∨k=21∨k=32):Am (CX xs) prog fu (d+1) I1 [.sc (.int .u64 x),.sc (.int .u64 k)]=some ⟨[.sc (.int .u64 (rot x k))],[]⟩:=by
 rw[O1];rcases hk with rfl|rfl|rfl|rfl|rfl<;>kernel_rfl
theorem S4 {a0 a1 a2 a3 a4:Int}:∀(k i nn:Nat)(v:W4),k<nn->i+k<=100 ->
  Cw fu (Am (CX xs) prog fu (d+1)) a0 a1 a2 a3 a4 nn ((i+k:Nat):Int) i v.a v.b v.c v.d=some ⟨[],[(GN k v).cells]⟩
 |_,_,0,_,h,_=>by omega
 |0,i,nn+1,v,h,hi=>by
  rw[E0,Ot _ _ _ (by omega)]
  rfl
 |k+1,i,nn+1,v,h,hi=>by
  have ih:=S4 (a0:=a0) (a1:=a1) (a2:=a2) (a3:=a3) (a4:=a4) k (i+1) nn (W5 v) (by omega) (by omega)
  have w:wrap .i64 ((i:Int)+1)=((i+1:Nat):Int):=by rw[wrap_i64 (by omega) (by omega)];omega
  have r13:=fun x=>TC (xs:=xs) (fu:=fu) (d:=d) (x:=x) (k:=13) (by simp)
  have r16:=fun x=>TC (xs:=xs) (fu:=fu) (d:=d) (x:=x) (k:=16) (by simp)
  have r17:=fun x=>TC (xs:=xs) (fu:=fu) (d:=d) (x:=x) (k:=17) (by simp)
  have r21:=fun x=>TC (xs:=xs) (fu:=fu) (d:=d) (x:=x) (k:=21) (by simp)
  have r32:=fun x=>TC (xs:=xs) (fu:=fu) (d:=d) (x:=x) (k:=32) (by simp)
  rw[E0];simp (disch:=omega) only[Ds,r13,r16,r17,r21,r32,w];rw[show i+(k+1)=i+1+k by omega]
  exact ih
theorem Xt (k:Nat)(hk:k<=4)(D6:100<=fu)(v:W4):Am (CX xs) prog fu (d+2) Gd [.pbox [.sc (.int .u64 v.a),.sc (.int .u64 v.b),.sc (.int .u64 v.c),.sc (.int .u64 v.d)],.sc (.int .i64 k)]=some ⟨[],[(GN k v).cells]⟩:=by
 rw[L4];have:=S4 (xs:=xs) (fu:=fu) (d:=d) (a0:=v.a) (a1:=v.b) (a2:=v.c) (a3:=v.d) (a4:=k) k 0 fu v (by omega) (by omega)
 rw[T9] at this;exact this
theorem X1 (D6:100<=fu)(v:W4)(m:Int):Am (CX xs) prog fu (d+3) Gj [.pbox [.sc (.int .u64 v.a),.sc (.int .u64 v.b),.sc (.int .u64 v.c),.sc (.int .u64 v.d)],.sc (.int .u64 m)]=some ⟨[],[(Ko v m).cells]⟩:=by
 rw[L5];have r2:=Xt (xs:=xs) (fu:=fu) (d:=d) 2 (by omega) D6 ⟨v.a,v.b,v.c,Ci .u64 v.d m⟩
 have e2:((2:Nat):Int)=2:=rfl;rw[e2] at r2;unfold Ko;generalize GN 2 ⟨v.a,v.b,v.c,Ci .u64 v.d m⟩=R at r2 ⊢;simp only[W4.cells] at r2;simp only[Ds,r2];rfl
theorem Afz {a b:Int}{k:Nat}(hk:k<8)(ha:0<=a)(PM:a<((2 ^ (8*k):Nat):Int)) (hb:0<=b)(Ep:b<=255):Te .u64 a (F8 .u64 b (8*(k:Int)))=a+((2 ^ (8*k):Nat):Int)*b:=by
 obtain⟨n,rfl⟩:=Int.eq_ofNat_of_zero_le hb;have e:(8*(k:Int)).toNat=8*k:=by omega
 have hp:n*2 ^ (8*k)<=255*2 ^ (8*k):=Nat.mul_le_mul_right _ (by omega)
 have h56:2 ^ (8*k)<=2 ^ 56:=Nat.pow_le_pow_right (by omega) (by omega)
 have e56:(2:Nat) ^ 56=72057594037927936:=by decide
 rw[e56] at h56;generalize hP:2 ^ (8*k)=p at *
 have Afs:n*p<=255*p:=hp
 have hs:F8 .u64 (n:Int) (8*(k:Int))=(n:Int)*((2 ^ (8*(k:Int)).toNat:Nat):Int):=LN (by omega) (by omega) (by omega) (by
  rw[e,hP];have:((n*p:Nat):Int)<=((255*p:Nat):Int):=by omega
  rw[←Int.natCast_mul];omega)
 rw[hs,e,hP]
 have:=(Zv (a:=a) (c:=((n*p:Nat):Int)) (8*k) n ha (by rw[hP];exact PM) (by rw[hP]) (by
  have:((n*p:Nat):Int)<=((255*p:Nat):Int):=by omega
  omega)).1
 rw[←Int.natCast_mul,this,Int.mul_comm ((p:Nat):Int),←Int.natCast_mul]
theorem Afm (k:Nat):((2 ^ (8*k):Nat):Int)=256 ^ k:=by
 rw[Nat.pow_mul];simp
theorem S0 {call:Al}{n:Nat}{c:List PV}{l:List Int}(hb:Rh l)(hl:l.length<=8):∀(r:List Int)(i nn:Nat),l.drop i=r->r.length<nn->i<=l.length ->
  En fu call n c nn (Kv (l.take i)) l.length (At .u8 l) l.length i=some ⟨[.sc (.int .u64 (Kv l))],[]⟩
 |_,_,0,_,h,_=>by omega
 |[],i,nn+1,h,hn,hi=>by
  have:=drop_nil h;rw[Ix,Ot _ _ _ (by omega),Q9 (by omega)]
 |b::r,i,nn+1,h,hn,hi=>by
  obtain⟨h1,h2,h3⟩:=Il h;simp only[MP] at hn;have ih:=S0 (call:=call) (n:=n) (c:=c) hb hl r (i+1) nn h3 (by omega) (by omega)
  have hbb:=hb b (List.mem_of_getElem? h2);have w:wrap .i64 ((i:Int)+1)=((i+1:Nat):Int):=by rw[wrap_i64 (by omega) (by omega)];omega
  have w8:wrap .i64 (8*(i:Int))=8*(i:Int):=wrap_i64 (by omega) (by omega)
  have wb:wrap .u64 b=b:=Cv (by omega) (by omega)
  have Ab2:=Lu (l:=l.take i) fun x hx=>hb x (List.mem_of_mem_take hx)
  have htl:(l.take i).length=i:=by rw[List.length_take];omega
  rw[htl] at Ab2
  have hj:Te .u64 (Kv (l.take i)) (F8 .u64 b (8*(i:Int)))=Kv (l.take (i+1)):=by
   rw[Afz (by omega) Ab2.1 (by rw[Afm];exact Ab2.2) hbb.1 hbb.2,List.take_add_one,h2,O4,htl,Afm]
   simp[Kv]
  rw[Ix];simp (disch:=omega) only[Ds,Y1,Kb,ati h2,w,w8,wb,hj];exact ih
theorem Yl {l:List Int}(hb:Rh l)(hl:l.length<=8)(D6:100<=fu):Am (CX xs) prog fu (d+1) Ly [.lst false 1 l.length (At .u8 l)]=some ⟨[.sc (.int .u64 (Kv l))],[]⟩:=by
 rw[Tz];exact S0 hb hl l 0 fu rfl (by omega) (by omega)
theorem Zc (k:IntKind)(l:List Int)(i:Nat):List.drop i (At k l)=At k (l.drop i):=by
 have:=Uh (Qb k) l i
 simpa using this
theorem Gs (k:IntKind)(l:List Int)(i:Nat):List.take i (At k l)=At k (l.take i):=by
 have:=Zl (Qb k) l i
 simpa using this
theorem Rh.drop {l:List Int}(h:Rh l)(i:Nat):Rh (l.drop i):=fun x hx=>h x (List.mem_of_mem_drop hx)
theorem Rh.take {l:List Int}(h:Rh l)(i:Nat):Rh (l.take i):=fun x hx=>h x (List.mem_of_mem_take hx)
theorem ZF {a0 a1:Int}{n:Nat}{c:List PV}{l:List Int}(hb:Rh l)(hl:l.length<=1099511627776)(D6:100<=fu)(nn:Nat)(v:W4):
  E1 fu (Am (CX xs) prog fu (d+3)) a0 a1 n c (nn+1) l.length (At .u8 l) ((l.length / 8:Nat):Int) ((l.length / 8:Nat):Int) ((l.length / 8:Nat):Int) v.a v.b v.c v.d=some ⟨[.sc (.int .u64 (MU (ND (Ko v (H0 l)))))],[]⟩:=by
 have w8:wrap .i64 (8*((l.length / 8:Nat):Int))=((8*(l.length / 8):Nat):Int):=by rw[wrap_i64 (by omega) (by omega)];omega
 have wl:wrap .u64 (l.length:Int)=l.length:=Cv (by omega) (by omega)
 have TP:(l.drop (8*(l.length / 8))).length=l.length-8*(l.length / 8):=List.length_drop;have li:=Yl (xs:=xs) (fu:=fu) (d:=d+2) (hb.drop (8*(l.length / 8))) (by omega) D6
 rw[TP] at li;have tk:List.take (l.length-8*(l.length / 8)) (At .u8 (l.drop (8*(l.length / 8))))=At .u8 (l.drop (8*(l.length / 8))):=Q9 (by rw[Bf,TP];omega)
 have hbn:=Lu (hb.drop (8*(l.length / 8)));rw[TP] at hbn
 have hp7:(256:Int) ^ (l.length-8*(l.length / 8))<=256 ^ 7:=by
  have:(256:Nat) ^ (l.length-8*(l.length / 8))<=256 ^ 7:=Nat.pow_le_pow_right (by omega) (by omega)
  have h2:(((256:Nat) ^ (l.length-8*(l.length / 8)):Nat):Int)<=((256 ^ 7:Nat):Int):=by omega
  simpa using h2
 have Aef:Te .u64 (Kv (l.drop (8*(l.length / 8)))) (F8 .u64 (l.length:Int) 56)=H0 l:=by
  have hs:F8 .u64 (l.length:Int) 56=(((l.length % 256)*2 ^ 56:Nat):Int):=by
   show wrap .u64 ((l.length:Int)*2 ^ (min (56:Int).toNat IntKind.u64.bits))=_;have h2:(2:Int) ^ (min (56:Int).toNat IntKind.u64.bits)=72057594037927936:=by decide
   have h3:(2:Nat) ^ 56=72057594037927936:=by decide
   rw[h2,h3];simp only[wrap,IntKind.signed,IntKind.bits];simp;omega
  have h56:(256:Int) ^ 7=((2 ^ 56:Nat):Int):=by decide
  have h3:(2:Nat) ^ 56=72057594037927936:=by decide
  rw[hs,(Zv 56 (l.length % 256) hbn.1 (by omega) rfl (by omega)).1]
  unfold H0;omega
 have ab:=X1 (xs:=xs) (fu:=fu) (d:=d) D6 v (H0 l);have r4:=Xt (xs:=xs) (fu:=fu) (d:=d+1) 4 (by omega) D6 ⟨(Ko v (H0 l)).a,(Ko v (H0 l)).b,Ci .u64 (Ko v (H0 l)).c 255,(Ko v (H0 l)).d⟩
 have e4:((4:Nat):Int)=4:=rfl;rw[e4] at r4;unfold ND;generalize Ko v (H0 l)=U at ab r4 ⊢;generalize GN 4 ⟨U.a,U.b,Ci .u64 U.c 255,U.d⟩=R at r4 ⊢;simp only[W4.cells] at ab r4;rw[Lw];simp (disch:=omega) only[Ds,Y1,Kb,w8,wl,Zc,tk,li,Aef,ab,r4];rfl
theorem DL {a0 a1:Int}{n:Nat}{c:List PV}{l:List Int}(hb:Rh l)(hl:l.length<=1099511627776)(D6:100<=fu):∀(k i nn:Nat)(v:W4),i+k=l.length / 8->k<nn ->
  E1 fu (Am (CX xs) prog fu (d+3)) a0 a1 n c nn l.length (At .u8 l) ((l.length / 8:Nat):Int) ((l.length / 8:Nat):Int) i v.a v.b v.c v.d=some ⟨[.sc (.int .u64 (MU (ND (Ko (Xb k v (l.drop (8*i))) (H0 l)))))],[]⟩
 |_,_,0,_,_,h=>by omega
 |0,i,nn+1,v,hi,hn=>by
  have e:i=l.length / 8:=by omega
  subst e;exact ZF hb hl D6 nn v
 |k+1,i,nn+1,v,hi,hn=>by
  have w:wrap .i64 ((i:Int)+1)=((i+1:Nat):Int):=by rw[wrap_i64 (by omega) (by omega)];omega
  have w8:wrap .i64 (8*(i:Int))=((8*i:Nat):Int):=by rw[wrap_i64 (by omega) (by omega)];omega
  have w88:wrap .i64 (((8*i:Nat):Int)+8)=((8*i+8:Nat):Int):=by rw[wrap_i64 (by omega) (by omega)];omega
  have TP:((l.drop (8*i)).take 8).length=8:=by rw[List.length_take,List.length_drop];omega
  have li:=Yl (xs:=xs) (fu:=fu) (d:=d+2) ((hb.drop (8*i)).take 8) (by omega) D6
  rw[TP] at li;have e8:8*i+8-8*i=8:=by omega
  have ab:=X1 (xs:=xs) (fu:=fu) (d:=d) D6 v (Kv ((l.drop (8*i)).take 8));have ih:=DL (a0:=a0) (a1:=a1) (n:=n) (c:=c) hb hl D6 k (i+1) nn (Ko v (Kv ((l.drop (8*i)).take 8))) (by omega) (by omega)
  have eN:Xb (k+1) v (l.drop (8*i))=Xb k (Ko v (Kv ((l.drop (8*i)).take 8))) (l.drop (8*(i+1))):=by
   rw[Xb,List.drop_drop,show 8*i+8=8*(i+1) by omega]
  rw[eN];generalize Ko v (Kv ((l.drop (8*i)).take 8))=U at ab ih ⊢;simp only[W4.cells] at ab;rw[Lw];simp (disch:=omega) only[Ds,Y1,Kb,w,w8,w88,e8,Zc,Gs,li,ab];exact ih
theorem Abl {l:List Int}(hb:Rh l)(hl:l.length<=1099511627776)(D6:100<=fu)(hf:l.length<fu)(k0 k1:Int):Am (CX xs) prog fu (d+4) Qh [.sc (.int .u64 k0),.sc (.int .u64 k1),.lst false 1 l.length (At .u8 l)]=some ⟨[.sc (.int .u64 (Abb k0 k1 l))],[]⟩:=by
 rw[Zn]
 have w:wrap .i64 (Int.tdiv (l.length:Int) 8)=((l.length / 8:Nat):Int):=by
  rw[Int.tdiv_eq_ediv_of_nonneg (by omega),wrap_i64 (by omega) (by omega)]
  omega
 have lp:=DL (xs:=xs) (fu:=fu) (d:=d) (a0:=k0) (a1:=k1) (n:=l.length) (c:=At .u8 l) hb hl D6 (l.length / 8) 0 fu (Abd k0 k1) (by omega) (by omega)
 simp only[I2,w];exact lp
theorem Ii (v:W4):Am (CX xs) prog fu (d+2) H5 [.agg [.sc (.int .u64 v.a),.sc (.int .u64 v.b),.sc (.int .u64 v.c),.sc (.int .u64 v.d)]]=some ⟨[.agg (W5 v).cells],[]⟩:=by
 have r13:=fun x=>SZ (xs:=xs) (fu:=fu) (d:=d) (x:=x) (k:=13) (by simp)
 have r16:=fun x=>SZ (xs:=xs) (fu:=fu) (d:=d) (x:=x) (k:=16) (by simp)
 have r17:=fun x=>SZ (xs:=xs) (fu:=fu) (d:=d) (x:=x) (k:=17) (by simp)
 have r21:=fun x=>SZ (xs:=xs) (fu:=fu) (d:=d) (x:=x) (k:=21) (by simp)
 have r32:=fun x=>SZ (xs:=xs) (fu:=fu) (d:=d) (x:=x) (k:=32) (by simp)
 rw[N8];simp (disch:=omega) only[Ds,r13,r16,r17,r21,r32];rfl
def L6 (l:List Int)(i k:Nat):Int:=if i+k<l.length then l.getD (i+k) 0 else if k=7 then (l.length:Int) % 256 else 0
def pc (l:List Int)(i:Nat):List Int:=(List.range 8).map (L6 l i)
theorem Ahl {l:List Int}(hb:Rh l)(i:Nat):Rh (pc l i):=by
 intro x hx;obtain⟨k,hk,rfl⟩:=List.mem_map.1 hx;unfold L6;split
 ·rename_i h;rw[List.getD_eq_getElem?_getD,List.getElem?_eq_getElem h];exact hb _ (List.getElem_mem h)
 ·split<;>omega
theorem ZH {l:List Int}{i:Nat}(h:i+8<=l.length):pc l i=(l.drop i).take 8:=by
 refine List.ext_getElem (by simp[pc];omega) fun k h1 h2=>?_
 have hk:k<8:=by simpa [pc] using h1
 simp only[pc,List.getElem_map,List.getElem_range,List.getElem_take,List.getElem_drop,L6];rw[Oa (by omega),List.getD_eq_getElem?_getD,List.getElem?_eq_getElem (by omega)]
 rfl
theorem Za (x:Int):∀n,Kv (List.replicate n 0++[x])=256 ^ n*x
 |0=>by simp[Kv]
 |n+1=>by
  rw[List.replicate_succ,List.cons_append,Kv,Za x n,Int.pow_succ,Int.mul_comm (256 ^ n) 256,Int.mul_assoc];omega
theorem XX {l:List Int}:Kv (pc l (8*(l.length / 8)))=H0 l:=by
 have e:pc l (8*(l.length / 8))=l.drop (8*(l.length / 8))++(List.replicate (7-(l.length-8*(l.length / 8))) 0++[(l.length:Int) % 256]):=by
  refine List.ext_getElem (by simp[pc];omega) fun k h1 h2=>?_
  have hk:k<8:=by simpa [pc] using h1
  simp only[pc,List.getElem_map,List.getElem_range,L6];by_cases hc:8*(l.length / 8)+k<l.length
  ·rw[Oa hc,List.getElem_append_left (by rw[List.length_drop];omega),List.getElem_drop,List.getD_eq_getElem?_getD,List.getElem?_eq_getElem hc]
   rfl
  ·rw[L0 hc,List.getElem_append_right (by rw[List.length_drop];omega)]
   by_cases h7:k=7
   ·rw[Oa h7,List.getElem_append_right (by simp;omega)]
    simp
   ·rw[L0 h7,List.getElem_append_left (by simp;omega)]
    simp
 rw[e,O4,Za];unfold H0
 have:(256:Int) ^ (l.drop (8*(l.length / 8))).length*(256 ^ (7-(l.length-8*(l.length / 8)))*((l.length:Int) % 256))=72057594037927936*((l.length:Int) % 256):=by
  rw[←Int.mul_assoc,←Int.pow_add,List.length_drop];have:l.length-8*(l.length / 8)+(7-(l.length-8*(l.length / 8)))=7:=by omega
  rw[this];rfl
 rw[this]
theorem Aeq {a b:Int}(ha:0<=a)(PM:a<72057594037927936)(hb:0<=b)(Ep:b<=255):Te .u64 (F8 .u64 a 8) b=b+256*a:=by
 obtain⟨n,rfl⟩:=Int.eq_ofNat_of_zero_le ha
 have hs:F8 .u64 (n:Int) 8=((n*2 ^ 8:Nat):Int):=by
  have:=LN (a:=(n:Int)) (k:=8) (by omega) (by omega) (by omega) (by
   have:(2 ^ (8:Int).toNat:Nat)=256:=by decide
   rw[this];omega)
  rw[this];have:(2 ^ (8:Int).toNat:Nat)=256:=by decide
  rw[this];have:(2 ^ 8:Nat)=256:=by decide
  rw[this];omega
 have h8:(2 ^ 8:Nat)=256:=by decide
 rw[hs,(Zv (a:=b) 8 n hb (by rw[h8];omega) rfl (by rw[h8];omega)).2,h8]
 omega
theorem KK {a0 a1:Int}{n m0:Nat}{c:List PV}{l:List Int}(hb:Rh l)(hl:l.length<=1099511627776){i:Nat}(hi:i<=l.length)(v:W4):∀(j nn:Nat),j<=8->j<nn ->
  Cm fu (Am (CX xs) prog fu (d+2)) a0 a1 n c m0 nn l.length (At .u8 l) i (Kv ((pc l i).drop j)) ((j:Int)-1) v.cells =
   C1 fu (Am (CX xs) prog fu (d+2)) a0 a1 n c m0 l.length (At .u8 l) ((i+8:Nat):Int) (Ko v (Kv (pc l i))).cells
 |_,0,_,h=>by omega
 |0,nn+1,hj,hn=>by
  have w8:wrap .i64 ((i:Int)+8)=((i+8:Nat):Int):=by rw[wrap_i64 (by omega) (by omega)];omega
  have r1:=Ii (xs:=xs) (fu:=fu) (d:=d) ⟨v.a,v.b,v.c,Ci .u64 v.d (Kv (pc l i))⟩;have r2:=Ii (xs:=xs) (fu:=fu) (d:=d) (W5 ⟨v.a,v.b,v.c,Ci .u64 v.d (Kv (pc l i))⟩);have eA:Ko v (Kv (pc l i))=Af2 (W5 (W5 ⟨v.a,v.b,v.c,Ci .u64 v.d (Kv (pc l i))⟩)) (Kv (pc l i)):=rfl;rw[eA];generalize W5 ⟨v.a,v.b,v.c,Ci .u64 v.d (Kv (pc l i))⟩=U at r1 r2 ⊢;generalize W5 U=U2 at r2 ⊢;simp only[W4.cells] at r1 r2;rw[Hn,Ot _ _ _ (by omega),Sp]
  simp only[W4.cells,List.getD_cons_zero,List.getD_cons_succ,Zi,I2];simp (disch:=first|omega|(simp;done)) only[Ds,A0,List.take_succ_cons,List.take_zero,List.drop_succ_cons,Sp,List.drop_nil,List.cons_append,Zzq,List.append_nil,MP,List.length_nil,List.getD_cons_zero,List.getD_cons_succ,r1,r2,w8,T9,Nat.reduceAdd,Nat.reduceLeDiff,List.append_eq]
  rfl
 |j+1,nn+1,hj,hn=>by
  have ih:=KK (a0:=a0) (a1:=a1) (n:=n) (m0:=m0) (c:=c) hb hl hi v j nn (by omega) (by omega)
  have hw:wrap .i64 ((i:Int)+(((j+1:Nat):Int)-1))=((i+j:Nat):Int):=by rw[wrap_i64 (by omega) (by omega)];omega
  have wj:wrap .i64 (((j+1:Nat):Int)-1-1)=(j:Int)-1:=by rw[wrap_i64 (by omega) (by omega)];omega
  have hd:(pc l i).drop j=L6 l i j::(pc l i).drop (j+1):=by
   rw[List.drop_eq_getElem_cons (by simp[pc];omega)]
   simp[pc]
  have hB:=Ahl hb i;have hbn:=Lu (hB.drop (j+1))
  have hp7:(256:Int) ^ ((pc l i).drop (j+1)).length<=72057594037927936:=by
   have Cy:((pc l i).drop (j+1)).length<=7:=by simp[pc]
   have:(256:Nat) ^ ((pc l i).drop (j+1)).length<=256 ^ 7:=Nat.pow_le_pow_right (by omega) Cy
   have h2:(((256:Nat) ^ ((pc l i).drop (j+1)).length:Nat):Int)<=((256 ^ 7:Nat):Int):=by omega
   simpa using h2
  have hc0:0<=L6 l i j∧L6 l i j<=255:=hB _ (by rw[←Sp (l:=pc l i)];exact List.mem_of_mem_drop (i:=j) (by rw[Sp,hd];simp))
  have hj2:Te .u64 (F8 .u64 (Kv ((pc l i).drop (j+1))) 8) (L6 l i j)=Kv ((pc l i).drop j):=by
   rw[Aeq hbn.1 (by omega) hc0.1 hc0.2,hd]
   rfl
  have wc:wrap .u64 (L6 l i j)=L6 l i j:=Cv (by omega) (by omega)
  rw[Hn,Vn _ _ _ (by omega)]
  simp only[I2,hw];by_cases c1:i+j<l.length
  ·have e:L6 l i j=l.getD (i+j) 0:=by unfold L6;rw[Oa c1]
   have e2:l[i+j]?=some (L6 l i j):=by rw[e,List.getD_eq_getElem?_getD,List.getElem?_eq_getElem c1];rfl
   rw[Vn _ _ _ (by omega)]
   simp (disch:=omega) only[Ds,Y1,Kb,ati e2,wc,hj2,wj];exact ih
  ·rw[Ot _ _ _ (by omega)]
   by_cases h7:j=7
   ·subst h7;have e:L6 l i 7=(l.length:Int) % 256:=by unfold L6;rw[L0 c1,Oa rfl]
    have e8:wrap .u8 (l.length:Int)=L6 l i 7:=by
     rw[e];simp only[wrap,IntKind.signed,IntKind.bits];simp
    rw[KE,Oa (by omega),e8,wc,hj2,wj]
    exact ih
   ·have e:L6 l i j=0:=by unfold L6;rw[L0 c1,L0 h7]
    rw[e] at hj2;rw[KE,L0 (by omega),hj2,wj]
    exact ih
theorem Xu {a0 a1:Int}{n:Nat}{c:List PV}{l:List Int}(hb:Rh l)(hl:l.length<=1099511627776)(D6:100<=fu):∀(k i nn:Nat)(v:W4),i+k=l.length / 8->k+1<nn ->
  C1 fu (Am (CX xs) prog fu (d+2)) a0 a1 n c nn l.length (At .u8 l) ((8*i:Nat):Int) v.cells=some ⟨[.sc (.int .u64 (MU (ND (Ko (Xb k v (l.drop (8*i))) (H0 l)))))],[]⟩
 |_,_,0,_,_,h=>by omega
 |k,i,nn+1,v,hi,hn=>by
  have step:=KK (xs:=xs) (fu:=fu) (d:=d) (a0:=a0) (a1:=a1) (n:=n) (m0:=nn) (c:=c) hb hl (i:=8*i) (by omega) v 8 fu (by omega) (by omega)
  have e0:Kv ((pc l (8*i)).drop 8)=0:=by rw[List.drop_of_length_le (by simp[pc])];rfl
  rw[e0] at step;rw[Hb,Vn _ _ _ (by omega)]
  refine step.trans ?_;cases k with
  |zero=>
   have e:i=l.length / 8:=by omega
   subst e;rw[XX];generalize hv:Ko v (H0 l)=u;obtain⟨nn',rfl⟩:∃nn',nn=nn'+1:=⟨nn-1,by omega⟩
   have r1:=Ii (xs:=xs) (fu:=fu) (d:=d) ⟨u.a,u.b,Ci .u64 u.c 255,u.d⟩;have r2:=Ii (xs:=xs) (fu:=fu) (d:=d) (W5 ⟨u.a,u.b,Ci .u64 u.c 255,u.d⟩);have r3:=Ii (xs:=xs) (fu:=fu) (d:=d) (W5 (W5 ⟨u.a,u.b,Ci .u64 u.c 255,u.d⟩));have r4:=Ii (xs:=xs) (fu:=fu) (d:=d) (W5 (W5 (W5 ⟨u.a,u.b,Ci .u64 u.c 255,u.d⟩)))
   have eF:MU (ND (Ko (Xb 0 v (l.drop (8*(l.length / 8)))) (H0 l)))=MU (W5 (W5 (W5 (W5 ⟨u.a,u.b,Ci .u64 u.c 255,u.d⟩)))):=by
    rw[Xb,hv];rfl
   rw[eF];clear eF;generalize W5 ⟨u.a,u.b,Ci .u64 u.c 255,u.d⟩=U1 at r1 r2 r3 r4 ⊢;generalize W5 U1=U2 at r2 r3 r4 ⊢;generalize W5 U2=U3 at r3 r4 ⊢;generalize W5 U3=U4 at r4 ⊢;simp only[W4.cells] at r1 r2 r3 r4;rw[Hb,Ot _ _ _ (by omega)]
   simp only[W4.cells,List.getD_cons_zero,List.getD_cons_succ,Zi,I2];simp (disch:=first|omega|(simp;done)) only[Ds,A0,List.take_succ_cons,List.take_zero,List.drop_succ_cons,Sp,List.drop_nil,List.cons_append,Zzq,List.append_nil,MP,List.length_nil,List.getD_cons_zero,List.getD_cons_succ,r1,r2,r3,r4,T9,Nat.reduceAdd,Nat.reduceLeDiff,List.append_eq]
   rfl
  |succ k=>
   have ih:=Xu (a0:=a0) (a1:=a1) (n:=n) (c:=c) hb hl D6 k (i+1) nn (Ko v (Kv (pc l (8*i)))) (by omega) (by omega)
   rw[show 8*i+8=8*(i+1) by omega,ih,ZH (by omega)]
   simp only[Xb,List.drop_drop];rw[show 8*(i+1)=8*i+8 by omega]
theorem YU {l:List Int}(hb:Rh l)(hl:l.length<=1099511627776)(D6:100<=fu)(hf:l.length<fu)(k0 k1:Int):Am (CX xs) prog fu (d+3) Jm [.sc (.int .u64 k0),.sc (.int .u64 k1),.lst false 1 l.length (At .u8 l)]=some ⟨[.sc (.int .u64 (Abb k0 k1 l))],[]⟩:=by
 rw[P2];exact Xu (xs:=xs) (fu:=fu) (d:=d) (a0:=k0) (a1:=k1) (n:=l.length) (c:=At .u8 l) hb hl D6 (l.length / 8) 0 fu (Abd k0 k1) (by omega) (by omega)
theorem YI {l:List Int}(hb:Rh l)(hl:l.length<=1099511627776)(D6:100<=fu)(hf:l.length<fu)(key dom:Int):Am (CX xs) prog fu (d+4) Ju [.sc (.int .u64 key),.sc (.int .i64 dom),.lst false 1 l.length (At .u8 l)]=some ⟨[.sc (.int .u64 (AG key dom l))],[]⟩:=by
 rw[Pp];have s:=YU (xs:=xs) (fu:=fu) (d:=d) hb hl D6 hf key (wrap .u64 (1+wrap .u64 dom));simp only[Ds,s];rfl
end
end
section
open Go.Proofs.Try (prog)
open Go.IntKind (wrap)
def G3 (w:Int)(k:Nat):Int:=wrap .u8 (Z5 .u64 w (56-8*(k:Int)))
def Ee (w:Int):List Int:=(List.range' 0 8).map (G3 w)
def Bd (ws:List Int):List Int:=ws.flatMap Ee
theorem Dd (w:Int):(Ee w).length=8:=rfl
section
variable {fu d:Nat} {xs:FuncId->Option (List PV->Option Bg)} {call:Al} {n:Nat} {c:List PV}
theorem EC {ws:List Int}{w:Int}{m0 l:Nat}{i k:Int}:∀(r j nn:Nat)(bs:List Int),8-j=r->r<nn->j<=8->bs.length+r<=34359738368 ->
  Fa fu call n c m0 nn bs.length w l (At .u64 ws) k i j (At .u8 bs) =
   D1 fu call n c m0 (bs++(List.range' j (8-j)).map (G3 w)).length l (At .u64 ws) k (wrap .i64 (i+1)) (At .u8 (bs++(List.range' j (8-j)).map (G3 w)))
 |r,j,0,bs,_,h,_,_=>by omega
 |0,j,nn+1,bs,hr,_,hj,_=>by
  have e:j=8:=by omega
  subst e;rw[Jq];simp (disch:=omega) only[Ds];simp
 |r+1,j,nn+1,bs,hr,hn,hj,hb=>by
  have ih:=EC (ws:=ws) (w:=w) (m0:=m0) (l:=l) (i:=i) (k:=k) r (j+1) nn (bs++[G3 w j]) (by omega) (by omega) (by omega) (by simp;omega)
  have e8:=Bf .u8 bs;rw[Jq]
  have hx:wrap .u8 (Z5 .u64 w (wrap .i64 (56-wrap .i64 (8*(j:Int)))))=G3 w j:=by
   rw[wrap_i64 (x:=8*(j:Int)) (by omega) (by omega),wrap_i64 (by omega) (by omega)]
   rfl
  have h0:0<=wrap .i64 (56-wrap .i64 (8*(j:Int))):=by
   rw[wrap_i64 (x:=8*(j:Int)) (by omega) (by omega),wrap_i64 (by omega) (by omega)]
   omega
  have IJ:List.range' j (8-j)=j::List.range' (j+1) (8-(j+1)):=by
   rw[show 8-j=(8-(j+1))+1 by omega]
   exact List.range'_succ
  simp (disch:=first|omega|exact h0) only[Ds,Kb,hx,ZG,CR,wrap_i64 (x:=(j:Int)+1)];rw[IJ];simp only[QT,MP,List.length_nil,T9,XC,List.map_cons,List.singleton_append] at ih ⊢;exact ih
theorem V4 {ws:List Int}(hl:ws.length<=1073741824)(D6:100<=fu):∀(r:List Int)(i nn:Nat)(bs:List Int),ws.drop i=r->r.length<nn->bs.length=8*i ->
  D1 fu call n c nn bs.length ws.length (At .u64 ws) ws.length i (At .u8 bs)=some ⟨[.own 1 (bs++Bd r).length (At .u8 (bs++Bd r))],[]⟩
 |r,i,0,_,_,h,_=>by omega
 |[],i,nn+1,bs,h,_,_=>by
  have:=drop_nil h;have e8:=Bf .u8 bs;rw[Jk];simp (disch:=omega) only[Ds,Kb,ZG,Bd,List.flatMap_nil,List.append_nil]
 |w::r,i,nn+1,bs,h,hn,hb=>by
  obtain⟨h1,h2,h3⟩:=Il h;simp only[MP] at hn;rw[Jk];simp (disch:=omega) only[Ds,Y1,Kb,ati h2];rw[show (0:Int)=((0:Nat):Int) from rfl,EC 8 0 fu bs rfl (by omega) (by omega) (by omega),wrap_i64 (by omega) (by omega)]
  have ih:=V4 hl D6 r (i+1) nn (bs++Ee w) h3 (by omega) (by simp[Dd];omega)
  have e:bs++Ee w++Bd r=bs++Bd (w::r):=by simp[Bd]
  rw[e] at ih;exact ih
theorem CJ {ws:List Int}(hl:ws.length<=1073741824)(D6:100<=fu)(hf:ws.length<fu):Am (CX xs) prog fu (d+1) Fx [.lst false 1 ws.length (At .u64 ws)]=some ⟨[.own 1 (Bd ws).length (At .u8 (Bd ws))],[]⟩:=by
 rw[Ws];simp (disch:=omega) only[Ds,wrap_i64,Int.mul_one];exact V4 hl D6 ws 0 fu [] rfl hf rfl
theorem Zd {ws:List Int}{w:Int}{m0 i:Nat}(hw:ws[i]?=some w):∀(r nn:Nat)(j:Int)(bs:List Int),j=(r:Int)-1->r<=8->r<nn->bs.length+r<=34359738368 ->
  Df fu call n c m0 nn ws.length (At .u64 ws) bs.length i j (At .u8 bs) =
   Cr fu call n c m0 ws.length (At .u64 ws) (bs++(List.range' (8-r) r).map (G3 w)).length (wrap .i64 (i+1)) (At .u8 (bs++(List.range' (8-r) r).map (G3 w)))
 |r,0,j,bs,_,_,h,_=>by omega
 |0,nn+1,j,bs,hr,_,_,_=>by
  rw[F4];simp (disch:=omega) only[Ds];simp
 |r+1,nn+1,j,bs,hr,Sy,hn,hb=>by
  have hi:=Jx hw;have ih:=Zd (m0:=m0) hw r nn (j-1) (bs++[G3 w (8-(r+1))]) (by omega) (by omega) (by omega) (by simp;omega)
  have e8:=Bf .u8 bs
  have hx:wrap .u8 (Z5 .u64 w (wrap .u64 (wrap .i64 (8*j))))=G3 w (8-(r+1)):=by
   rw[wrap_i64 (by omega) (by omega),Cv (by omega) (by omega)]
   unfold G3;rw[show 56-8*((8-(r+1):Nat):Int)=8*j by omega]
  have h0:0<=wrap .u64 (wrap .i64 (8*j)):=by
   rw[wrap_i64 (by omega) (by omega),Cv (by omega) (by omega)]
   omega
  have IJ:List.range' (8-(r+1)) (r+1)=(8-(r+1))::List.range' (8-r) r:=by
   rw[List.range'_succ,show 8-(r+1)+1=8-r by omega]
  rw[F4];simp (disch:=first|omega|exact h0) only[Ds,Y1,Kb,ati hw,hx,ZG,CR,wrap_i64 (x:=j-1)];rw[IJ];simp only[QT,MP,List.length_nil,T9,XC,List.map_cons,List.singleton_append] at ih ⊢;exact ih
theorem S1 {ws:List Int}(hl:ws.length<=1073741824)(D6:100<=fu):∀(r:List Int)(i nn:Nat)(bs:List Int),ws.drop i=r->r.length<nn->bs.length=8*i ->
  Cr fu call n c nn ws.length (At .u64 ws) bs.length i (At .u8 bs)=some ⟨[.own 1 (bs++Bd r).length (At .u8 (bs++Bd r))],[]⟩
 |r,i,0,_,_,h,_=>by omega
 |[],i,nn+1,bs,h,_,_=>by
  have:=drop_nil h;have e8:=Bf .u8 bs;rw[Ft];simp (disch:=omega) only[Ds,Kb,ZG,Bd,List.flatMap_nil,List.append_nil]
 |w::r,i,nn+1,bs,h,hn,hb=>by
  obtain⟨h1,h2,h3⟩:=Il h;simp only[MP] at hn;rw[Ft];simp (disch:=omega) only[Ds];rw[Zd h2 8 fu 7 bs rfl (by omega) (by omega) (by omega),wrap_i64 (by omega) (by omega)]
  have ih:=S1 hl D6 r (i+1) nn (bs++Ee w) h3 (by omega) (by simp[Dd];omega)
  have e:bs++Ee w++Bd r=bs++Bd (w::r):=by simp[Bd]
  rw[e] at ih;exact ih
theorem Yg {ws:List Int}(hl:ws.length<=1073741824)(D6:100<=fu)(hf:ws.length<fu):Am (CX xs) prog fu (d+1) Dm [.lst false 1 ws.length (At .u64 ws)]=some ⟨[.own 1 (Bd ws).length (At .u8 (Bd ws))],[]⟩:=by
 rw[Ns];exact S1 hl D6 ws 0 fu [] rfl hf rfl
end
end
section
open Go.IntKind (wrap)
theorem QV (w:Int)(k:Nat):0<=G3 w k∧G3 w k<=255:=by
 unfold G3;simp only[wrap,IntKind.signed,IntKind.bits];simp;omega
theorem LQ (w:Int):Rh (Ee w):=by
 intro x hx;obtain⟨k,_,rfl⟩:=List.mem_map.1 hx;exact QV w k
theorem DN (ws:List Int):Rh (Bd ws):=by
 intro x hx;obtain⟨w,_,hx⟩:=List.mem_flatMap.1 hx;exact LQ w x hx
theorem Le (ws:List Int):(Bd ws).length=8*ws.length:=by
 induction ws with
 |nil=>rfl
 |cons w ws ih=>
  show (Ee w++Bd ws).length=_;rw[QT,ih,Dd,MP];omega
end
section
open Go.IntKind (wrap)
def Wj:PV->Bool
 |.sc (.int .i64 _)=>true
 |_=>false
def QK (args:List PV):Option Bg:=
 match args with
 |[.own 2 n c,.sc (.int .i64 i),.tup [.own 2 1 [.sc (.int .i64 f),.sc (.int .i64 l)]]]=>
  bif Nat.beq c.length (n*2)&&decide (0<=i)&&decide (i<=n)&&Nat.ble n 100000&&c.all Wj then
   some ⟨[.own 2 (n+1) (c.take (i.toNat*2)++(.sc (.int .i64 f) :: .sc (.int .i64 l)::c.drop (i.toNat*2)))],[[.sc (.int .i64 f),.sc (.int .i64 l)]]⟩
  else none
 |_=>none
def Fl (f:FuncId):Option (List PV->Option Bg):=
 bif Nat.beq f 44 then some Mn else
 bif Nat.beq f 45 then some QK else
 bif Nat.beq f 1000000 then some (fun _=>none) else none
abbrev C0:Eg:=CX Fl
end
section
open Go.Proofs.Try (prog)
open Go.IntKind (wrap)
set_option maxRecDepth 100000
abbrev Od:FuncId:=40
theorem Xj {xs:FuncId->Option (List PV->Option Bg)} (fu d B5:Nat)(a0:List PV):Am (CX xs) prog fu (d+1) Od [.lst false 1 B5 a0]=(fun (call:Al)=>Cb (decide (0<B5)) (As (decide (a0.length=B5*1)&&decide ((0+B5)*1<=1099511627776)&&decide (0+B5<=1099511627776))<|Ab (0+B5) fun x1=>Ab ([]++a0) fun x2=>As (decide (x1*1<=x2.length))<|some (Bg.mk [.own 1 x1 (List.take (x1*1) x2)] [])) (Sm (some (Bg.mk [.own 1 0 []] [])) (As (decide (a0.length=B5*1)&&decide ((0+B5)*1<=1099511627776)&&decide (0+B5<=1099511627776))<|Ab (0+B5) fun x3=>Ab ([]++a0) fun x4=>As (decide (x3*1<=x4.length))<|some (Bg.mk [.own 1 x3 (List.take (x3*1) x4)] [])))) (Am (CX xs) prog fu d):=by kernel_rfl
abbrev Hk:FuncId:=57
theorem M3 {xs:FuncId->Option (List PV->Option Bg)} (fu d B5:Nat)(a0:List PV):Am (CX xs) prog fu (d+1) Hk [.lst false 2 B5 a0]=(fun (call:Al)=>Cb (decide (0<B5)) (As (decide (a0.length=B5*2)&&decide ((0+B5)*16<=1099511627776)&&decide (0+B5<=1099511627776))<|Ab (0+B5) fun x1=>Ab ([]++a0) fun x2=>As (decide (x1*2<=x2.length))<|some (Bg.mk [.own 2 x1 (List.take (x1*2) x2)] [])) (Sm (some (Bg.mk [.own 2 0 []] [])) (As (decide (a0.length=B5*2)&&decide ((0+B5)*16<=1099511627776)&&decide (0+B5<=1099511627776))<|Ab (0+B5) fun x3=>Ab ([]++a0) fun x4=>As (decide (x3*2<=x4.length))<|some (Bg.mk [.own 2 x3 (List.take (x3*2) x4)] [])))) (Am (CX xs) prog fu d):=by kernel_rfl
abbrev Hf:FuncId:=39
theorem M1 {xs:FuncId->Option (List PV->Option Bg)} (fu d H9:Nat)(Fe:List PV)(E2 Fg:Int)(E3 N0:Int)(N4:Bool)(Nx:Int)(H1:Nat)(N6:List PV)(Nt:Bool)(N1 H3:Int):Am (CX xs) prog fu (d+1) Hf [.agg [.lst false 1 H9 Fe,.sc (.int .i64 E2),.sc (.int .u64 Fg),.sc (.int .u64 E3),.sc (.int .i64 N0),.sc (.bool N4),.sc (.int .u64 Nx),.lst false 2 H1 N6,.sc (.bool Nt),.sc (.int .i64 N1),.sc (.int .i64 H3)]]=(fun (call:Al)=>Ar (call 40 [.lst false 1 H9 Fe]) fun x1 x2=>Ah x2<|Aa x1 fun x3 x4=>Ml 1 x3 fun x5 x6=>Ah x4<|Ar (call 57 [.lst false 2 H1 N6]) fun x7 x8=>Ah x8<|Aa x7 fun x9 Kj=>Ml 2 x9 fun L3 Jw=>Ah Kj<|As (decide (x5*1<=x6.length))<|As (decide (L3*2<=Jw.length))<|some (Bg.mk [.agg [.own 1 x5 (List.take (x5*1) x6),.sc (.int .i64 E2),.sc (.int .u64 Fg),.sc (.int .u64 E3),.sc (.int .i64 N0),.sc (.bool N4),.sc (.int .u64 Nx),.own 2 L3 (List.take (L3*2) Jw),.sc (.bool Nt),.sc (.int .i64 N1),.sc (.int .i64 H3)]] [])) (Am (CX xs) prog fu d):=by kernel_rfl
abbrev K8:FuncId:=38
noncomputable def Fq (fu:Nat)(call:Al)(B5:Nat)(a0:List PV)(nn y0 y1:Nat)(y2:List PV)(y3 y4:Int)(y5:List PV):Option Bg:=Cx CB prog fu call 38 Try.f38 (B2 Try.f38) [.lst false 3 B5 a0] [.r,.r,.l,.r,.l] nn ⟨lk [(3,(.view 3 3 0 y0)),(13,(.lst false 3 y1 y2)),(14,(.sc (.int .i64 y3))),(15,(.sc (.int .i64 y4)))],E5 [(3,(.ar false y5))]⟩
noncomputable def K1 (fu:Nat)(call:Al)(B5:Nat)(a0:List PV)(m0 nn:Nat)(y0 y1 y2:Nat)(y3:List PV)(y4 y5:Int)(y6:Nat)(y7:List PV)(y8 y9:Int)(Ei:List PV)(Es C8:ByteArray)(Eu:Nat)(E6 Hr:List PV):Option Bg:=Cx CB prog fu call 38 Try.f38 (B2 Try.f38) [.lst false 3 B5 a0] [.r,.r,.l,.r,.l,.i m0,.r,.r,.l,.l,.r,.r,.l,.r,.l] nn ⟨lk [(3,(.view 3 3 0 y0)),(5,(.ptr 5 0)),(6,(.view 6 11 0 y1)),(13,(.lst false 3 y2 y3)),(14,(.sc (.int .i64 y4))),(15,(.sc (.int .i64 y5))),(25,(.lst false 11 y6 y7)),(26,(.sc (.int .i64 y8))),(27,(.sc (.int .i64 y9)))],E5 [(3,(.ar false Ei)),(5,(.st [(.sc (.string Es)),(.sc (.string C8)),(.lst false 11 Eu E6)])),(6,(.ar false Hr))]⟩
theorem I6 (fu:Nat)(call:Al)(B5:Nat)(a0:List PV)(nn y0 y1:Nat)(y2:List PV)(y3 y4:Int)(y5:List PV):Fq fu call B5 a0 (nn+1) y0 y1 y2 y3 y4 y5=(Cb (decide (y4<y3)) (As (decide (0<=y4)&&decide (y4<(↑y1:Int)))<|Er (List.getD y2 (Int.toNat y4*3) .top) fun x2=>Er (List.getD y2 (Int.toNat y4*3+1) .top) fun x3=>F5 11 (List.getD y2 (Int.toNat y4*3+1+1) .top) fun x4 x5 x6=>Ab (wrap .i64 ((↑x5:Int)+1)) fun x7=>As (decide (0<=x7)&&decide (x7*120<=1099511627776)&&decide (x7<=1099511627776))<|K1 fu call B5 a0 nn (fu) (y0) 0 (y1) (y2) (y3) (y4) x5 x6 ((↑x5:Int)) 0 (y5) x2 x3 x5 x6 ([])) (As (decide (y0*3<=y5.length))<|some (Bg.mk [.own 3 y0 (List.take (y0*3) y5)] []))):=by kernel_rfl
theorem Lp {xs:FuncId->Option (List PV->Option Bg)} (fu d B5:Nat)(a0:List PV):Am (CX xs) prog fu (d+1) K8 [.lst false 3 B5 a0]=(fun (call:Al)=>Ab (wrap .i64 ((↑B5:Int)+1)) fun x1=>As (decide (0<=x1)&&decide (x1*56<=1099511627776)&&decide (x1<=1099511627776))<|Fq fu call B5 a0 (fu) 0 (B5) (a0) ((↑B5:Int)) 0 ([])) (Am (CX xs) prog fu d):=by kernel_rfl
abbrev Mf:FuncId:=18
noncomputable def E8 (fu:Nat)(call:Al)(B5:Nat)(a0:List PV)(a1:ByteArray)(nn:Nat)(y0:ByteArray)(y1:Nat)(y2:List PV)(y3 y4:Int):Option Bg:=Cx CB prog fu call 18 Try.f18 (B2 Try.f18) [.lst false 3 B5 a0,.sc (.string a1)] [.r,.l,.r,.l] nn ⟨lk [(1,(.sc (.string y0))),(8,(.lst false 3 y1 y2)),(9,(.sc (.int .i64 y3))),(10,(.sc (.int .i64 y4)))],E5 []⟩
theorem Jl (fu:Nat)(call:Al)(B5:Nat)(a0:List PV)(a1:ByteArray)(nn:Nat)(y0:ByteArray)(y1:Nat)(y2:List PV)(y3 y4:Int):E8 fu call B5 a0 a1 (nn+1) y0 y1 y2 y3 y4=(Cb (decide (y4<y3)) (As (decide (0<=y4)&&decide (y4<(↑y1:Int)))<|Er (List.getD y2 (Int.toNat y4*3) .top) fun x1=>Er (List.getD y2 (Int.toNat y4*3+1) .top) fun x2=>F5 11 (List.getD y2 (Int.toNat y4*3+1+1) .top) fun x3 x4 x5=>Cb (Array.toList (ByteArray.data x1)==Array.toList (ByteArray.data y0)) (some (Bg.mk [.sc (.int .i64 y4),.sc (.bool true)] [])) (Ab (wrap .i64 (y4+1)) fun x6=>E8 fu call B5 a0 a1 (nn) (y0) (y1) (y2) (y3) x6)) (some (Bg.mk [.sc (.int .i64 0),.sc (.bool false)] []))):=by kernel_rfl
theorem Un {xs:FuncId->Option (List PV->Option Bg)} (fu d B5:Nat)(a0:List PV)(a1:ByteArray):Am (CX xs) prog fu (d+1) Mf [.lst false 3 B5 a0,.sc (.string a1)]=(fun (call:Al)=>E8 fu call B5 a0 a1 (fu) (a1) (B5) (a0) ((↑B5:Int)) 0) (Am (CX xs) prog fu d):=by kernel_rfl
abbrev Tx:FuncId:=35
noncomputable def Gv (fu:Nat)(call:Al)(B5:Nat)(a0:List PV)(a1n:Nat)(a1:List PV)(nn y0:Nat)(y1:List PV)(y2:Nat)(y3:List PV)(y4 y5:Int):Option Bg:=Cx CB prog fu call 35 Try.f35 (B2 Try.f35) [.lst false 3 B5 a0,.lst false 1 a1n a1] [.r,.l,.r,.l] nn ⟨lk [(1,(.lst false 1 y0 y1)),(11,(.lst false 3 y2 y3)),(12,(.sc (.int .i64 y4))),(13,(.sc (.int .i64 y5)))],E5 []⟩
theorem O6 (fu:Nat)(call:Al)(B5:Nat)(a0:List PV)(a1n:Nat)(a1:List PV)(nn y0:Nat)(y1:List PV)(y2:Nat)(y3:List PV)(y4 y5:Int):Gv fu call B5 a0 a1n a1 (nn+1) y0 y1 y2 y3 y4 y5=(Cb (decide (y5<y4)) (As (decide (0<=y5)&&decide (y5<(↑y2:Int)))<|Er (List.getD y3 (Int.toNat y5*3) .top) fun x1=>Er (List.getD y3 (Int.toNat y5*3+1) .top) fun x2=>F5 11 (List.getD y3 (Int.toNat y5*3+1+1) .top) fun x3 x4 x5=>Ar (call 55 [.agg [.sc (.string x1),.sc (.string x2),.lst false 11 x4 x5],.lst false 1 y0 y1]) fun x6 x7=>Ah x7<|Aa x6 fun x8 x9=>Ag .i64 x8 fun Kj=>Aa x9 fun L3 Jw=>A7 L3 fun Ox=>Ah Jw<|Cb Ox (some (Bg.mk [.sc (.int .i64 y5),.sc (.int .i64 Kj),.sc (.bool true)] [])) (Ab (wrap .i64 (y5+1)) fun Lx=>Gv fu call B5 a0 a1n a1 (nn) (y0) (y1) (y2) (y3) (y4) Lx)) (some (Bg.mk [.sc (.int .i64 0),.sc (.int .i64 0),.sc (.bool false)] []))):=by kernel_rfl
theorem T0 {xs:FuncId->Option (List PV->Option Bg)} (fu d B5:Nat)(a0:List PV)(a1n:Nat)(a1:List PV):Am (CX xs) prog fu (d+1) Tx [.lst false 3 B5 a0,.lst false 1 a1n a1]=(fun (call:Al)=>Gv fu call B5 a0 a1n a1 (fu) (a1n) (a1) (B5) (a0) ((↑B5:Int)) 0) (Am (CX xs) prog fu d):=by kernel_rfl
end
section
open Go.Proofs.Try (prog)
open Go.IntKind (wrap)
set_option maxRecDepth 100000
abbrev B7:FuncId:=70
noncomputable def Ay (fu:Nat)(call:Al)(n:Nat)(c:List PV)(a1 a2:Int)(nn y0:Nat)(y1 y2 y3:Int)(y4:List PV):Option Bg:=Cx CB prog fu call 70 Try.f70 (B2 Try.f70) [PV.tup [.own 1 n c],.sc (.int .i64 a1),.sc (.int .i64 a2),.sc (Value.func (Fn.func (44:FuncId)) #[] #[])] [.r,.l] nn ⟨lk [(0,(.view 106000 1 0 y0)),(1,(.sc (.int .i64 y1))),(2,(.sc (.int .i64 y2))),(3,(.sc (Value.func (Fn.func (44:FuncId)) #[] #[]))),(8,(.sc (.int .i64 y3)))],E5 [(106000,(.ar false y4))]⟩
noncomputable def Bi (fu:Nat)(call:Al)(n:Nat)(c:List PV)(a1 a2:Int)(m0 nn y0:Nat)(y1 y2:Int)(y3 y4:Int)(y5:List PV):Option Bg:=Cx CB prog fu call 70 Try.f70 (B2 Try.f70) [PV.tup [.own 1 n c],.sc (.int .i64 a1),.sc (.int .i64 a2),.sc (Value.func (Fn.func (44:FuncId)) #[] #[])] [.r,.l,.i m0,.r,.l,.l,.r,.l] nn ⟨lk [(0,(.view 106000 1 0 y0)),(1,(.sc (.int .i64 y1))),(2,(.sc (.int .i64 y2))),(3,(.sc (Value.func (Fn.func (44:FuncId)) #[] #[]))),(8,(.sc (.int .i64 y3))),(9,(.sc (.int .i64 y4)))],E5 [(106000,(.ar false y5))]⟩
theorem Cs (fu:Nat)(call:Al)(n:Nat)(c:List PV)(a1 a2:Int)(nn y0:Nat)(y1 y2 y3:Int)(y4:List PV):Ay fu call n c a1 a2 (nn+1) y0 y1 y2 y3 y4=(Cb (decide (y3<y2)) (Bi fu call n c a1 a2 nn (fu) (y0) (y1) (y2) (y3) (y3) (y4)) (some (Bg.mk [] [y4]))):=by kernel_rfl
theorem Ct (fu:Nat)(call:Al)(n:Nat)(c:List PV)(a1 a2:Int)(m0 nn y0:Nat)(y1 y2:Int)(y3 y4:Int)(y5:List PV):Bi fu call n c a1 a2 m0 (nn+1) y0 y1 y2 y3 y4 y5=(Cb (decide (y4>y1)) (As (decide (0<=y4)&&decide (y4<(↑y0:Int)))<|F5 1 (List.getD y5 (0+Int.toNat y4*1) .top) fun x2 x3 x4=>Ab (wrap .i64 (y4-1)) fun x5=>As (decide (0<=x5)&&decide (x5<(↑y0:Int)))<|F5 1 (List.getD y5 (0+Int.toNat x5*1) .top) fun x6 x7 x8=>Ar (call (44:FuncId) [.lst false 1 x3 x4,.lst false 1 x7 x8]) fun x9 Kj=>Ah Kj<|Aa x9 fun L3 Jw=>Ag .i64 L3 fun Ox=>Ah Jw<|Cb (decide (Ox<0)) (Ab (wrap .i64 (y4-1)) fun Lx=>Ab (wrap .i64 (y4-1)) fun Nh=>As (decide (0<=Nh)&&decide (Nh<(↑y0:Int)))<|F5 1 (List.getD y5 (0+Int.toNat Nh*1) .top) fun Qm Sv Ok=>As (decide (0<=y4)&&decide (y4<(↑y0:Int)))<|F5 1 (List.getD y5 (0+Int.toNat y4*1) .top) fun I9 Pk Qe=>As (decide (0<=y4)&&decide (y4<(↑y0:Int)))<|As (decide (0+Int.toNat y4*1+1<=y5.length))<|Ab (A0 y5 [.lst false 1 Sv Ok] (0+Int.toNat y4*1)) fun S5=>As (decide (0<=Lx)&&decide (Lx<(↑y0:Int)))<|As (decide (0+Int.toNat Lx*1+1<=S5.length))<|Ab (A0 S5 [.lst false 1 Pk Qe] (0+Int.toNat Lx*1)) fun Re=>Ab (wrap .i64 (y4-1)) fun Is=>Bi fu call n c a1 a2 m0 (nn) (y0) (y1) (y2) (y3) Is Re) (Ab (wrap .i64 (y3+1)) fun T8=>Ay fu call n c a1 a2 (m0) (y0) (y1) (y2) T8 (y5))) (Ab (wrap .i64 (y3+1)) fun Ug=>Ay fu call n c a1 a2 (m0) (y0) (y1) (y2) Ug (y5))):=by kernel_rfl
theorem Fh (fu d n:Nat)(c:List PV)(a1 a2:Int):Am C0 prog fu (d+1) B7 [PV.tup [.own 1 n c],.sc (.int .i64 a1),.sc (.int .i64 a2),.sc (Value.func (Fn.func (44:FuncId)) #[] #[])]=(fun (call:Al)=>Ab (wrap .i64 (a1+1)) fun x1=>Ay fu call n c a1 a2 (fu) (n) (a1) (a2) x1 (c)) (Am C0 prog fu d):=by kernel_rfl
abbrev Dz:FuncId:=60
noncomputable def Dt (fu:Nat)(call:Al)(n:Nat)(c:List PV)(a1 a2 a3:Int)(nn y0:Nat)(y1 y2 y3:Int)(y4 y5:Bool)(y6:List PV):Option Bg:=Cx CB prog fu call 60 Try.f60 (B2 Try.f60) [PV.tup [.own 1 n c],.sc (.int .i64 a1),.sc (.int .i64 a2),.sc (.int .i64 a3),.sc (Value.func (Fn.func (44:FuncId)) #[] #[])] [.r,.r,.l] nn ⟨lk [(0,(.view 296000 1 0 y0)),(1,(.sc (.int .i64 y1))),(2,(.sc (.int .i64 y2))),(3,(.sc (.int .i64 y3))),(4,(.sc (Value.func (Fn.func (44:FuncId)) #[] #[]))),(10,(.sc (.bool y4))),(11,(.sc (.bool y5)))],E5 [(296000,(.ar false y6))]⟩
noncomputable def Ak (fu:Nat)(call:Al)(n:Nat)(c:List PV)(a1 a2 a3:Int)(m0 nn y0:Nat)(y1 y2 y3:Int)(y4 y5:Bool)(y6 y7:Int)(y8:List PV):Option Bg:=Cx CB prog fu call 60 Try.f60 (B2 Try.f60) [PV.tup [.own 1 n c],.sc (.int .i64 a1),.sc (.int .i64 a2),.sc (.int .i64 a3),.sc (Value.func (Fn.func (44:FuncId)) #[] #[])] [.r,.r,.l,.i m0,.l,.r,.r,.r,.r,.r,.r] nn ⟨lk [(0,(.view 296000 1 0 y0)),(1,(.sc (.int .i64 y1))),(2,(.sc (.int .i64 y2))),(3,(.sc (.int .i64 y3))),(4,(.sc (Value.func (Fn.func (44:FuncId)) #[] #[]))),(10,(.sc (.bool y4))),(11,(.sc (.bool y5))),(12,(.sc (.int .i64 y6))),(13,(.sc (.int .i64 y7)))],E5 [(296000,(.ar false y8))]⟩
theorem Ga (fu:Nat)(call:Al)(n:Nat)(c:List PV)(a1 a2 a3:Int)(nn y0:Nat)(y1 y2 y3:Int)(y4 y5:Bool)(y6:List PV):Dt fu call n c a1 a2 a3 (nn+1) y0 y1 y2 y3 y4 y5 y6=(Ab (wrap .i64 (y2-y1)) fun x1=>Cb (decide (x1<=12)) (Ar (call 70 [PV.tup [.own 1 y0 y6],.sc (.int .i64 y1),.sc (.int .i64 y2),.sc (Value.func (Fn.func (44:FuncId)) #[] #[])]) fun x2 x3=>Ah x2<|Aa x3 fun x4 x5=>Ah x5<|some (Bg.mk [] [x4])) (Cb (y3==0) (Ar (call 71 [PV.tup [.own 1 y0 y6],.sc (.int .i64 y1),.sc (.int .i64 y2),.sc (Value.func (Fn.func (44:FuncId)) #[] #[])]) fun x6 x7=>Ah x6<|Aa x7 fun x8 x9=>Ah x9<|some (Bg.mk [] [x8])) (Cb (!y4) (Ar (call 72 [PV.tup [.own 1 y0 y6],.sc (.int .i64 y1),.sc (.int .i64 y2),.sc (Value.func (Fn.func (44:FuncId)) #[] #[])]) fun Kj L3=>Ah Kj<|Aa L3 fun Jw Ox=>Ah Ox<|Ab (wrap .i64 (y3-1)) fun Lx=>Ar (call 73 [PV.tup [.own 1 y0 Jw],.sc (.int .i64 y1),.sc (.int .i64 y2),.sc (Value.func (Fn.func (44:FuncId)) #[] #[])]) fun Nh Qm=>Aa Nh fun Sv Ok=>Ag .i64 Sv fun I9=>Aa Ok fun Pk Qe=>Ag .i64 Pk fun S5=>Ah Qe<|Aa Qm fun Re Is=>Ah Is<|Cb (S5==2) (Ar (call 74 [PV.tup [.own 1 y0 Re],.sc (.int .i64 y1),.sc (.int .i64 y2),.sc (Value.func (Fn.func (44:FuncId)) #[] #[])]) fun T8 Ug=>Ah T8<|Aa Ug fun Qi BL=>Ah BL<|Ab (wrap .i64 (y2-1)) fun BX=>Ab (wrap .i64 (I9-y1)) fun Oi=>Ab (wrap .i64 (BX-Oi)) fun Q8=>Cb (y4) (Cb (y5) (Ar (call 75 [PV.tup [.own 1 y0 Qi],.sc (.int .i64 y1),.sc (.int .i64 y2),.sc (Value.func (Fn.func (44:FuncId)) #[] #[])]) fun Zt Wx=>Aa Zt fun Ty Zx=>A7 Ty fun Xf=>Ah Zx<|Aa Wx fun Ss Xh=>Ah Xh<|Cb Xf (some (Bg.mk [] [Ss])) (Ak fu call n c a1 a2 a3 nn (fu) (y0) (y1) (y2) Lx (y4) (y5) x1 Q8 Ss)) (Ak fu call n c a1 a2 a3 nn (fu) (y0) (y1) (y2) Lx (y4) (y5) x1 Q8 Qi)) (Ak fu call n c a1 a2 a3 nn (fu) (y0) (y1) (y2) Lx (y4) (y5) x1 Q8 Qi)) (Cb (y4) (Cb (y5) (Cb (S5==1) (Ar (call 75 [PV.tup [.own 1 y0 Re],.sc (.int .i64 y1),.sc (.int .i64 y2),.sc (Value.func (Fn.func (44:FuncId)) #[] #[])]) fun BZ Yb=>Aa BZ fun GJ FS=>A7 GJ fun HS=>Ah FS<|Aa Yb fun BM GX=>Ah GX<|Cb HS (some (Bg.mk [] [BM])) (Ak fu call n c a1 a2 a3 nn (fu) (y0) (y1) (y2) Lx (y4) (y5) x1 I9 BM)) (Ak fu call n c a1 a2 a3 nn (fu) (y0) (y1) (y2) Lx (y4) (y5) x1 I9 Re)) (Ak fu call n c a1 a2 a3 nn (fu) (y0) (y1) (y2) Lx (y4) (y5) x1 I9 Re)) (Ak fu call n c a1 a2 a3 nn (fu) (y0) (y1) (y2) Lx (y4) (y5) x1 I9 Re))) (Ar (call 73 [PV.tup [.own 1 y0 y6],.sc (.int .i64 y1),.sc (.int .i64 y2),.sc (Value.func (Fn.func (44:FuncId)) #[] #[])]) fun JH IF=>Aa JH fun GB JM=>Ag .i64 GB fun Xd=>Aa JM fun FZ LC=>Ag .i64 FZ fun FU=>Ah LC<|Aa IF fun Wz FT=>Ah FT<|Cb (FU==2) (Ar (call 74 [PV.tup [.own 1 y0 Wz],.sc (.int .i64 y1),.sc (.int .i64 y2),.sc (Value.func (Fn.func (44:FuncId)) #[] #[])]) fun LM HE=>Ah LM<|Aa HE fun DI HZ=>Ah HZ<|Ab (wrap .i64 (y2-1)) fun CW=>Ab (wrap .i64 (Xd-y1)) fun Ys=>Ab (wrap .i64 (CW-Ys)) fun BV=>Cb (y4) (Cb (y5) (Ar (call 75 [PV.tup [.own 1 y0 DI],.sc (.int .i64 y1),.sc (.int .i64 y2),.sc (Value.func (Fn.func (44:FuncId)) #[] #[])]) fun PR ON=>Aa PR fun JP NB=>A7 JP fun MX=>Ah NB<|Aa ON fun HJ OK=>Ah OK<|Cb MX (some (Bg.mk [] [HJ])) (Ak fu call n c a1 a2 a3 nn (fu) (y0) (y1) (y2) (y3) (y4) (y5) x1 BV HJ)) (Ak fu call n c a1 a2 a3 nn (fu) (y0) (y1) (y2) (y3) (y4) (y5) x1 BV DI)) (Ak fu call n c a1 a2 a3 nn (fu) (y0) (y1) (y2) (y3) (y4) (y5) x1 BV DI)) (Cb (y4) (Cb (y5) (Cb (FU==1) (Ar (call 75 [PV.tup [.own 1 y0 Wz],.sc (.int .i64 y1),.sc (.int .i64 y2),.sc (Value.func (Fn.func (44:FuncId)) #[] #[])]) fun OD KD=>Aa OD fun OE SH=>A7 OE fun II=>Ah SH<|Aa KD fun HU PQ=>Ah PQ<|Cb II (some (Bg.mk [] [HU])) (Ak fu call n c a1 a2 a3 nn (fu) (y0) (y1) (y2) (y3) (y4) (y5) x1 Xd HU)) (Ak fu call n c a1 a2 a3 nn (fu) (y0) (y1) (y2) (y3) (y4) (y5) x1 Xd Wz)) (Ak fu call n c a1 a2 a3 nn (fu) (y0) (y1) (y2) (y3) (y4) (y5) x1 Xd Wz)) (Ak fu call n c a1 a2 a3 nn (fu) (y0) (y1) (y2) (y3) (y4) (y5) x1 Xd Wz)))))):=by kernel_rfl
theorem Hu (fu d n:Nat)(c:List PV)(a1 a2 a3:Int):Am C0 prog fu (d+1) Dz [PV.tup [.own 1 n c],.sc (.int .i64 a1),.sc (.int .i64 a2),.sc (.int .i64 a3),.sc (Value.func (Fn.func (44:FuncId)) #[] #[])]=(fun (call:Al)=>Dt fu call n c a1 a2 a3 (fu) (n) (a1) (a2) (a3) (true) (true) (c)) (Am C0 prog fu d):=by kernel_rfl
abbrev Dx:FuncId:=43
theorem Li (fu d n:Nat)(c:List PV):Am C0 prog fu (d+1) Dx [PV.tup [.own 1 n c],.sc (Value.func (Fn.func (44:FuncId)) #[] #[])]=(fun (call:Al)=>Ab (wrap .u64 (↑n:Int)) fun x1=>Ar (call 61 [.sc (.int .u64 x1)]) fun x2 x3=>Ah x3<|Aa x2 fun x4 x5=>Ag .i64 x4 fun x6=>Ah x5<|Ar (call 60 [PV.tup [.own 1 n c],.sc (.int .i64 0),.sc (.int .i64 (↑n:Int)),.sc (.int .i64 x6),.sc (Value.func (Fn.func (44:FuncId)) #[] #[])]) fun x7 x8=>Ah x7<|Aa x8 fun x9 Kj=>Ah Kj<|some (Bg.mk [] [x9])) (Am C0 prog fu d):=by kernel_rfl
end
section
open Go.Proofs.Try (prog)
open Go.IntKind (wrap)
set_option maxRecDepth 100000
abbrev J2:FuncId:=42
noncomputable def F6 (fu:Nat)(call:Al)(a0 a1 a2:Int)(nn:Nat)(y0 y1 y2:Int)(y3:Nat)(y4:Int)(y5:List PV):Option Bg:=Cx CB prog fu call 42 Try.f42 (B2 Try.f42) [.sc (.int .u64 a0),.sc (.int .u64 a1),.sc (.int .i64 a2)] [.r,.r,.r,.l,.r,.l] nn ⟨lk [(0,(.sc (.int .u64 y0))),(1,(.sc (.int .u64 y1))),(2,(.sc (.int .i64 y2))),(7,(.view 7 1 0 y3)),(8,(.sc (.int .u64 y4)))],E5 [(7,(.ar false y5))]⟩
theorem K0 (fu:Nat)(call:Al)(a0 a1 a2:Int)(nn:Nat)(y0 y1 y2:Int)(y3:Nat)(y4:Int)(y5:List PV):F6 fu call a0 a1 a2 (nn+1) y0 y1 y2 y3 y4 y5=(Cb (decide ((↑y3:Int)<y2)) (Ar (call 59 [.lst false 1 2 [.sc (.int .u64 y1),.sc (.int .u64 y4)]]) fun x4 x5=>Ah x5<|Aa x4 fun x6 x7=>Ml 1 x6 fun x8 x9=>Ah x7<|As (decide (0+x8*1<=x9.length))<|Ar (call 41 [.sc (.int .u64 y0),.sc (.int .i64 5),.lst false 1 x8 (List.take (x8*1) (List.drop 0 x9))]) fun Kj L3=>Ah L3<|Aa Kj fun Jw Ox=>Ag .u64 Jw fun Lx=>Ah Ox<|Ar (call 59 [.lst false 1 1 [.sc (.int .u64 Lx)]]) fun Nh Qm=>Ah Qm<|Aa Nh fun Sv Ok=>Ml 1 Sv fun I9 Pk=>Ah Ok<|As (decide (0+I9*1<=Pk.length))<|As (decide (y3*1<=y5.length)&&decide (List.length (List.take (I9*1) (List.drop 0 Pk))=I9*1)&&decide ((y3+I9)*1<=1099511627776)&&decide (y3+I9<=1099511627776))<|Ab (y3+I9) fun Qe=>Ab (List.take (y3*1) y5++List.take (I9*1) (List.drop 0 Pk)) fun S5=>Ab (wrap .u64 (y4+1)) fun Re=>F6 fu call a0 a1 a2 (nn) (y0) (y1) (y2) Qe Re S5) (As (decide (0<=y2))<|As (decide (Int.toNat y2<=y3))<|Ab (Int.toNat y2-0) fun Is=>As (decide (Is*1<=y5.length))<|some (Bg.mk [.own 1 Is (List.take (Is*1) y5)] []))):=by kernel_rfl
theorem Xl (fu d:Nat)(a0 a1 a2:Int):Am C0 prog fu (d+1) J2 [.sc (.int .u64 a0),.sc (.int .u64 a1),.sc (.int .i64 a2)]=(fun (call:Al)=>Ab (if a2<0 then 0 else a2) fun x1=>Ab (if 1024<x1 then 1024 else x1) fun x2=>Ab (wrap .i64 (x2+8)) fun x3=>As (decide (0<=x3)&&decide (x3*1<=1099511627776)&&decide (x3<=1099511627776))<|F6 fu call a0 a1 a2 (fu) (a0) (a1) x2 0 0 ([])) (Am C0 prog fu d):=by kernel_rfl
abbrev Hh:FuncId:=37
noncomputable def C5 (fu:Nat)(call:Al)(a0 a1 a2:Int)(nn:Nat)(y0 y1 y2:Int)(y3:Nat)(y4:Int)(y5:List PV):Option Bg:=Cx CB prog fu call 37 Try.f37 (B2 Try.f37) [.sc (.int .u64 a0),.sc (.int .u64 a1),.sc (.int .i64 a2)] [.r,.r,.r,.l,.r,.l] nn ⟨lk [(0,(.sc (.int .u64 y0))),(1,(.sc (.int .u64 y1))),(2,(.sc (.int .i64 y2))),(7,(.view 7 1 0 y3)),(8,(.sc (.int .i64 y4)))],E5 [(7,(.ar false y5))]⟩
theorem Fi (fu:Nat)(call:Al)(a0 a1 a2:Int)(nn:Nat)(y0 y1 y2:Int)(y3:Nat)(y4:Int)(y5:List PV):C5 fu call a0 a1 a2 (nn+1) y0 y1 y2 y3 y4 y5=(Cb (decide ((↑y3:Int)<y2)) (Ab (wrap .u64 y4) fun x3=>Ar (call 56 [.lst false 1 2 [.sc (.int .u64 y1),.sc (.int .u64 x3)]]) fun x4 x5=>Ah x5<|Aa x4 fun x6 x7=>Ml 1 x6 fun x8 x9=>Ah x7<|As (decide (0+x8*1<=x9.length))<|Ar (call 48 [.sc (.int .u64 y0),.sc (.int .i64 5),.lst false 1 x8 (List.take (x8*1) (List.drop 0 x9))]) fun Kj L3=>Ah L3<|Aa Kj fun Jw Ox=>Ag .u64 Jw fun Lx=>Ah Ox<|Ar (call 56 [.lst false 1 1 [.sc (.int .u64 Lx)]]) fun Nh Qm=>Ah Qm<|Aa Nh fun Sv Ok=>Ml 1 Sv fun I9 Pk=>Ah Ok<|As (decide (0+I9*1<=Pk.length))<|As (decide (y3*1<=y5.length)&&decide (List.length (List.take (I9*1) (List.drop 0 Pk))=I9*1)&&decide ((y3+I9)*1<=1099511627776)&&decide (y3+I9<=1099511627776))<|Ab (y3+I9) fun Qe=>Ab (List.take (y3*1) y5++List.take (I9*1) (List.drop 0 Pk)) fun S5=>Ab (wrap .i64 (y4+1)) fun Re=>C5 fu call a0 a1 a2 (nn) (y0) (y1) (y2) Qe Re S5) (As (decide (0<=y2))<|As (decide (Int.toNat y2<=y3))<|Ab (Int.toNat y2-0) fun Is=>As (decide (Is*1<=y5.length))<|some (Bg.mk [.own 1 Is (List.take (Is*1) y5)] []))):=by kernel_rfl
theorem M8 (fu d:Nat)(a0 a1 a2:Int):Am C0 prog fu (d+1) Hh [.sc (.int .u64 a0),.sc (.int .u64 a1),.sc (.int .i64 a2)]=(fun (call:Al)=>Ab (if a2<0 then 0 else a2) fun x1=>Ab (if 1024<x1 then 1024 else x1) fun x2=>C5 fu call a0 a1 a2 (fu) (a0) (a1) x2 0 0 ([])) (Am C0 prog fu d):=by kernel_rfl
abbrev Ex:FuncId:=13
theorem N5 (fu d:Nat)(a0 a1:Int):Am C0 prog fu (d+1) Ex [.sc (.int .i64 a0),.sc (.int .i64 a1)]=(fun (call:Al)=>Ab (wrap .u64 a0) fun x1=>Ab (wrap .u64 (x1+1)) fun x2=>Ab (if 1024<a1 then 1024 else a1) fun x3=>Ab (if x3<0 then 0 else x3) fun x4=>Ar (call 37 [.sc (.int .u64 x2),.sc (.int .u64 7),.sc (.int .i64 x4)]) fun x5 x6=>Ah x6<|Aa x5 fun x7 x8=>Ml 1 x7 fun x9 Kj=>Ah x8<|As (decide (x9*1<=Kj.length))<|some (Bg.mk [.own 1 x9 (List.take (x9*1) Kj)] [])) (Am C0 prog fu d):=by kernel_rfl
abbrev Km:FuncId:=21
noncomputable def Jh (fu:Nat)(call:Al)(H9:Nat)(Fe:List PV)(E2 Fg:Int)(E3 N0:Int)(N4:Bool)(Nx:Int)(H1:Nat)(N6:List PV)(Nt:Bool)(N1 H3:Int)(a1 a2 a3:Int)(nn:Nat)(y0 y1 y2:Int)(y3:Nat)(y4 y5:Int)(y6 y7:Int)(y8:Bool)(y9:Int)(Ei:Nat)(Es:Bool)(C8 Eu:Int)(E6 Hr:List PV)(Ey:Nat)(Gn Nn:Int)(Rg Rj:Int)(Rk:Bool)(Ri:Int)(Rc:Nat)(Ra:Bool)(Q7 Rf:Int)(Rd Rl:List PV):Option Bg:=Cx CB prog fu call 21 Try.f21 (B2 Try.f21) [.agg [.lst false 1 H9 Fe,.sc (.int .i64 E2),.sc (.int .u64 Fg),.sc (.int .u64 E3),.sc (.int .i64 N0),.sc (.bool N4),.sc (.int .u64 Nx),.lst false 2 H1 N6,.sc (.bool Nt),.sc (.int .i64 N1),.sc (.int .i64 H3)],.sc (.int .i64 a1),.sc (.int .i64 a2),.sc (.int .i64 a3)] [.r,.r,.r] nn ⟨lk [(1,(.sc (.int .i64 y0))),(2,(.sc (.int .i64 y1))),(3,(.sc (.int .i64 y2))),(4,(.ptr 4 0)),(8,(.ptr 8 0))],E5 [(4,(.st [(.view 120 1 0 y3),(.sc (.int .i64 y4)),(.sc (.int .u64 y5)),(.sc (.int .u64 y6)),(.sc (.int .i64 y7)),(.sc (.bool y8)),(.sc (.int .u64 y9)),(.view 932 2 0 Ei),(.sc (.bool Es)),(.sc (.int .i64 C8)),(.sc (.int .i64 Eu))])),(120,(.ar false E6)),(932,(.ar false Hr)),(8,(.st [(.view 124 1 0 Ey),(.sc (.int .i64 Gn)),(.sc (.int .u64 Nn)),(.sc (.int .u64 Rg)),(.sc (.int .i64 Rj)),(.sc (.bool Rk)),(.sc (.int .u64 Ri)),(.view 936 2 0 Rc),(.sc (.bool Ra)),(.sc (.int .i64 Q7)),(.sc (.int .i64 Rf))])),(124,(.ar false Rd)),(936,(.ar false Rl))]⟩
noncomputable def Eb (fu:Nat)(call:Al)(H9:Nat)(Fe:List PV)(E2 Fg:Int)(E3 N0:Int)(N4:Bool)(Nx:Int)(H1:Nat)(N6:List PV)(Nt:Bool)(N1 H3:Int)(a1 a2 a3:Int)(nn:Nat)(y0 y1:Int)(y2 y3 y4:Int)(y5:Nat)(y6 y7:Int)(y8 y9:Int)(Ei:Bool)(Es:Int)(C8:Nat)(Eu:Bool)(E6 Hr:Int)(Ey Gn:List PV)(Nn:Nat)(Rg Rj:Int)(Rk Ri:Int)(Rc:Bool)(Ra:Int)(Q7:Nat)(Rf:Bool)(Rd Rl:Int)(BK BW:List PV):Option Bg:=Cx CB prog fu call 21 Try.f21 (B2 Try.f21) [.agg [.lst false 1 H9 Fe,.sc (.int .i64 E2),.sc (.int .u64 Fg),.sc (.int .u64 E3),.sc (.int .i64 N0),.sc (.bool N4),.sc (.int .u64 Nx),.lst false 2 H1 N6,.sc (.bool Nt),.sc (.int .i64 N1),.sc (.int .i64 H3)],.sc (.int .i64 a1),.sc (.int .i64 a2),.sc (.int .i64 a3)] [.r,.r,.r,.r,.r,.r,.r,.r,.l,.l] nn ⟨lk [(1,(.sc (.int .i64 y0))),(2,(.sc (.int .i64 y1))),(3,(.sc (.int .i64 y2))),(4,(.ptr 4 0)),(8,(.ptr 8 0)),(11,(.sc (.int .u64 y3))),(12,(.sc (.int .i64 y4)))],E5 [(4,(.st [(.view 120 1 0 y5),(.sc (.int .i64 y6)),(.sc (.int .u64 y7)),(.sc (.int .u64 y8)),(.sc (.int .i64 y9)),(.sc (.bool Ei)),(.sc (.int .u64 Es)),(.view 932 2 0 C8),(.sc (.bool Eu)),(.sc (.int .i64 E6)),(.sc (.int .i64 Hr))])),(120,(.ar false Ey)),(932,(.ar false Gn)),(8,(.st [(.view 124 1 0 Nn),(.sc (.int .i64 Rg)),(.sc (.int .u64 Rj)),(.sc (.int .u64 Rk)),(.sc (.int .i64 Ri)),(.sc (.bool Rc)),(.sc (.int .u64 Ra)),(.view 936 2 0 Q7),(.sc (.bool Rf)),(.sc (.int .i64 Rd)),(.sc (.int .i64 Rl))])),(124,(.ar false BK)),(936,(.ar false BW))]⟩
theorem Nu (fu:Nat)(call:Al)(H9:Nat)(Fe:List PV)(E2 Fg:Int)(E3 N0:Int)(N4:Bool)(Nx:Int)(H1:Nat)(N6:List PV)(Nt:Bool)(N1 H3:Int)(a1 a2 a3:Int)(nn:Nat)(E9:0<nn)(y0 y1 y2:Int)(y3:Nat)(y4 y5:Int)(y6 y7:Int)(y8:Bool)(y9:Int)(Ei:Nat)(Es:Bool)(C8 Eu:Int)(E6 Hr:List PV)(Ey:Nat)(Gn Nn:Int)(Rg Rj:Int)(Rk:Bool)(Ri:Int)(Rc:Nat)(Ra:Bool)(Q7 Rf:Int)(Rd Rl:List PV):Jh fu call H9 Fe E2 Fg E3 N0 N4 Nx H1 N6 Nt N1 H3 a1 a2 a3 nn y0 y1 y2 y3 y4 y5 y6 y7 y8 y9 Ei Es C8 Eu E6 Hr Ey Gn Nn Rg Rj Rk Ri Rc Ra Q7 Rf Rd Rl=(Cb (Es) (As (decide (0+y3*1<=E6.length))<|As (decide (0+Ei*2<=Hr.length))<|some (Bg.mk [.agg [.lst false 1 y3 (List.take (y3*1) (List.drop 0 E6)),.sc (.int .i64 y4),.sc (.int .u64 y5),.sc (.int .u64 y6),.sc (.int .i64 y7),.sc (.bool y8),.sc (.int .u64 y9),.lst false 2 Ei (List.take (Ei*2) (List.drop 0 Hr)),.sc (.bool Es),.sc (.int .i64 C8),.sc (.int .i64 Eu)],.sc (.int .i64 39)] [])) (As (decide (0<=y0))<|Ab (F8 .u64 1 y0) fun FS=>Ab (VG .u64 y9 FS) fun HS=>Cb (HS != 0) (As (decide (0+y3*1<=E6.length))<|As (decide (0+Ei*2<=Hr.length))<|some (Bg.mk [.agg [.lst false 1 y3 (List.take (y3*1) (List.drop 0 E6)),.sc (.int .i64 y4),.sc (.int .u64 y5),.sc (.int .u64 y6),.sc (.int .i64 y7),.sc (.bool y8),.sc (.int .u64 y9),.lst false 2 Ei (List.take (Ei*2) (List.drop 0 Hr)),.sc (.bool true),.sc (.int .i64 C8),.sc (.int .i64 Eu)],.sc (.int .i64 37)] [])) (Eb fu call H9 Fe E2 Fg E3 N0 N4 Nx H1 N6 Nt N1 H3 a1 a2 a3 (fu) (y0) (y1) (y2) FS 0 (y3) (y4) (y5) (y6) (y7) (y8) (y9) (Ei) (Es) (C8) (Eu) (E6) (Hr) (Ey) (Gn) (Nn) (Rg) (Rj) (Rk) (Ri) (Rc) (Ra) (Q7) (Rf) (Rd) (Rl)))):=by cases nn with|zero=>exact absurd E9 (Nat.lt_irrefl 0)|succ nn=>kernel_rfl
theorem H6 (fu:Nat)(call:Al)(H9:Nat)(Fe:List PV)(E2 Fg:Int)(E3 N0:Int)(N4:Bool)(Nx:Int)(H1:Nat)(N6:List PV)(Nt:Bool)(N1 H3:Int)(a1 a2 a3:Int)(nn:Nat)(y0 y1:Int)(y2 y3 y4:Int)(y5:Nat)(y6 y7:Int)(y8 y9:Int)(Ei:Bool)(Es:Int)(C8:Nat)(Eu:Bool)(E6 Hr:Int)(Ey Gn:List PV)(Nn:Nat)(Rg Rj:Int)(Rk Ri:Int)(Rc:Bool)(Ra:Int)(Q7:Nat)(Rf:Bool)(Rd Rl:Int)(BK BW:List PV):Eb fu call H9 Fe E2 Fg E3 N0 N4 Nx H1 N6 Nt N1 H3 a1 a2 a3 (nn+1) y0 y1 y2 y3 y4 y5 y6 y7 y8 y9 Ei Es C8 Eu E6 Hr Ey Gn Nn Rg Rj Rk Ri Rc Ra Q7 Rf Rd Rl BK BW=(Cb (decide (y4<(↑C8:Int))) (As (decide (0<=y4)&&decide (y4<(↑C8:Int)))<|Ag .i64 (List.getD Gn (0+Int.toNat y4*2+0) .top) fun BM=>Cb (decide (BM<y1)) (Ab (wrap .i64 (y4+1)) fun GX=>Eb fu call H9 Fe E2 Fg E3 N0 N4 Nx H1 N6 Nt N1 H3 a1 a2 a3 (nn) (y0) (y1) (y2) (y3) GX (y5) (y6) (y7) (y8) (y9) (Ei) (Es) (C8) (Eu) (E6) (Hr) (Ey) (Gn) (Nn) (Rg) (Rj) (Rk) (Ri) (Rc) (Ra) (Q7) (Rf) (Rd) (Rl) (BK) (BW)) (Cb (y4==(↑C8:Int)) (As (decide (C8*2<=Gn.length))<|Ar (call 45 [.own 2 C8 (List.take (C8*2) Gn),.sc (.int .i64 y4),PV.tup [.own 2 1 [.sc (.int .i64 y1),.sc (.int .i64 y0)]]]) fun JH IF=>Aa JH fun GB JM=>Ml 2 GB fun Xd FZ=>Ah JM<|Aa IF fun LC FU=>Ah FU<|As (decide (0<=y4)&&decide (y4<(↑Xd:Int)))<|As (decide (0+Int.toNat y4*2+1+1<=FZ.length))<|Ab (A0 FZ [.sc (.int .i64 y0)] (0+Int.toNat y4*2+1)) fun Wz=>Ab (Te .u64 Es y3) fun FT=>As (decide (0+y5*1<=Ey.length))<|As (decide (0+Xd*2<=Wz.length))<|some (Bg.mk [.agg [.lst false 1 y5 (List.take (y5*1) (List.drop 0 Ey)),.sc (.int .i64 y6),.sc (.int .u64 y7),.sc (.int .u64 y8),.sc (.int .i64 y9),.sc (.bool Ei),.sc (.int .u64 FT),.lst false 2 Xd (List.take (Xd*2) (List.drop 0 Wz)),.sc (.bool Eu),.sc (.int .i64 E6),.sc (.int .i64 y2)],.sc (.int .i64 0)] [])) (As (decide (0<=y4)&&decide (y4<(↑C8:Int)))<|Ag .i64 (List.getD Gn (0+Int.toNat y4*2+0) .top) fun LM=>Cb (LM != y1) (As (decide (C8*2<=Gn.length))<|Ar (call 45 [.own 2 C8 (List.take (C8*2) Gn),.sc (.int .i64 y4),PV.tup [.own 2 1 [.sc (.int .i64 y1),.sc (.int .i64 y0)]]]) fun HE DI=>Aa HE fun HZ CW=>Ml 2 HZ fun Ys BV=>Ah CW<|Aa DI fun PR ON=>Ah ON<|As (decide (0<=y4)&&decide (y4<(↑Ys:Int)))<|As (decide (0+Int.toNat y4*2+1+1<=BV.length))<|Ab (A0 BV [.sc (.int .i64 y0)] (0+Int.toNat y4*2+1)) fun JP=>Ab (Te .u64 Es y3) fun NB=>As (decide (0+y5*1<=Ey.length))<|As (decide (0+Ys*2<=JP.length))<|some (Bg.mk [.agg [.lst false 1 y5 (List.take (y5*1) (List.drop 0 Ey)),.sc (.int .i64 y6),.sc (.int .u64 y7),.sc (.int .u64 y8),.sc (.int .i64 y9),.sc (.bool Ei),.sc (.int .u64 NB),.lst false 2 Ys (List.take (Ys*2) (List.drop 0 JP)),.sc (.bool Eu),.sc (.int .i64 E6),.sc (.int .i64 y2)],.sc (.int .i64 0)] [])) (As (decide (0<=y4)&&decide (y4<(↑C8:Int)))<|Ag .i64 (List.getD Gn (0+Int.toNat y4*2+1) .top) fun MX=>Cb (decide (MX>=y0)) (As (decide (0+y5*1<=Ey.length))<|As (decide (0+C8*2<=Gn.length))<|some (Bg.mk [.agg [.lst false 1 y5 (List.take (y5*1) (List.drop 0 Ey)),.sc (.int .i64 y6),.sc (.int .u64 y7),.sc (.int .u64 y8),.sc (.int .i64 y9),.sc (.bool Ei),.sc (.int .u64 Es),.lst false 2 C8 (List.take (C8*2) (List.drop 0 Gn)),.sc (.bool Eu),.sc (.int .i64 E6),.sc (.int .i64 Hr)],.sc (.int .i64 37)] [])) (As (decide (0<=y4)&&decide (y4<(↑C8:Int)))<|As (decide (0+Int.toNat y4*2+1+1<=Gn.length))<|Ab (A0 Gn [.sc (.int .i64 y0)] (0+Int.toNat y4*2+1)) fun HJ=>Ab (Te .u64 Es y3) fun OK=>As (decide (0+y5*1<=Ey.length))<|As (decide (0+C8*2<=HJ.length))<|some (Bg.mk [.agg [.lst false 1 y5 (List.take (y5*1) (List.drop 0 Ey)),.sc (.int .i64 y6),.sc (.int .u64 y7),.sc (.int .u64 y8),.sc (.int .i64 y9),.sc (.bool Ei),.sc (.int .u64 OK),.lst false 2 C8 (List.take (C8*2) (List.drop 0 HJ)),.sc (.bool Eu),.sc (.int .i64 E6),.sc (.int .i64 y2)],.sc (.int .i64 0)] [])))))) (Cb (y4==(↑C8:Int)) (As (decide (C8*2<=Gn.length))<|Ar (call 45 [.own 2 C8 (List.take (C8*2) Gn),.sc (.int .i64 y4),PV.tup [.own 2 1 [.sc (.int .i64 y1),.sc (.int .i64 y0)]]]) fun OD KD=>Aa OD fun OE SH=>Ml 2 OE fun II HU=>Ah SH<|Aa KD fun PQ TT=>Ah TT<|As (decide (0<=y4)&&decide (y4<(↑II:Int)))<|As (decide (0+Int.toNat y4*2+1+1<=HU.length))<|Ab (A0 HU [.sc (.int .i64 y0)] (0+Int.toNat y4*2+1)) fun PT=>Ab (Te .u64 Es y3) fun VT=>As (decide (0+y5*1<=Ey.length))<|As (decide (0+II*2<=PT.length))<|some (Bg.mk [.agg [.lst false 1 y5 (List.take (y5*1) (List.drop 0 Ey)),.sc (.int .i64 y6),.sc (.int .u64 y7),.sc (.int .u64 y8),.sc (.int .i64 y9),.sc (.bool Ei),.sc (.int .u64 VT),.lst false 2 II (List.take (II*2) (List.drop 0 PT)),.sc (.bool Eu),.sc (.int .i64 E6),.sc (.int .i64 y2)],.sc (.int .i64 0)] [])) (As (decide (0<=y4)&&decide (y4<(↑C8:Int)))<|Ag .i64 (List.getD Gn (0+Int.toNat y4*2+0) .top) fun PU=>Cb (PU != y1) (As (decide (C8*2<=Gn.length))<|Ar (call 45 [.own 2 C8 (List.take (C8*2) Gn),.sc (.int .i64 y4),PV.tup [.own 2 1 [.sc (.int .i64 y1),.sc (.int .i64 y0)]]]) fun YS TA=>Aa YS fun VQ WB=>Ml 2 VQ fun PZ VS=>Ah WB<|Aa TA fun ZN YG=>Ah YG<|As (decide (0<=y4)&&decide (y4<(↑PZ:Int)))<|As (decide (0+Int.toNat y4*2+1+1<=VS.length))<|Ab (A0 VS [.sc (.int .i64 y0)] (0+Int.toNat y4*2+1)) fun PN=>Ab (Te .u64 Es y3) fun WP=>As (decide (0+y5*1<=Ey.length))<|As (decide (0+PZ*2<=PN.length))<|some (Bg.mk [.agg [.lst false 1 y5 (List.take (y5*1) (List.drop 0 Ey)),.sc (.int .i64 y6),.sc (.int .u64 y7),.sc (.int .u64 y8),.sc (.int .i64 y9),.sc (.bool Ei),.sc (.int .u64 WP),.lst false 2 PZ (List.take (PZ*2) (List.drop 0 PN)),.sc (.bool Eu),.sc (.int .i64 E6),.sc (.int .i64 y2)],.sc (.int .i64 0)] [])) (As (decide (0<=y4)&&decide (y4<(↑C8:Int)))<|Ag .i64 (List.getD Gn (0+Int.toNat y4*2+1) .top) fun YA=>Cb (decide (YA>=y0)) (As (decide (0+y5*1<=Ey.length))<|As (decide (0+C8*2<=Gn.length))<|some (Bg.mk [.agg [.lst false 1 y5 (List.take (y5*1) (List.drop 0 Ey)),.sc (.int .i64 y6),.sc (.int .u64 y7),.sc (.int .u64 y8),.sc (.int .i64 y9),.sc (.bool Ei),.sc (.int .u64 Es),.lst false 2 C8 (List.take (C8*2) (List.drop 0 Gn)),.sc (.bool Eu),.sc (.int .i64 E6),.sc (.int .i64 Hr)],.sc (.int .i64 37)] [])) (As (decide (0<=y4)&&decide (y4<(↑C8:Int)))<|As (decide (0+Int.toNat y4*2+1+1<=Gn.length))<|Ab (A0 Gn [.sc (.int .i64 y0)] (0+Int.toNat y4*2+1)) fun VR=>Ab (Te .u64 Es y3) fun VX=>As (decide (0+y5*1<=Ey.length))<|As (decide (0+C8*2<=VR.length))<|some (Bg.mk [.agg [.lst false 1 y5 (List.take (y5*1) (List.drop 0 Ey)),.sc (.int .i64 y6),.sc (.int .u64 y7),.sc (.int .u64 y8),.sc (.int .i64 y9),.sc (.bool Ei),.sc (.int .u64 VX),.lst false 2 C8 (List.take (C8*2) (List.drop 0 VR)),.sc (.bool Eu),.sc (.int .i64 E6),.sc (.int .i64 y2)],.sc (.int .i64 0)] [])))))):=by kernel_rfl
theorem Rm (fu d H9:Nat)(Fe:List PV)(E2 Fg:Int)(E3 N0:Int)(N4:Bool)(Nx:Int)(H1:Nat)(N6:List PV)(Nt:Bool)(N1 H3:Int)(a1 a2 a3:Int):Am C0 prog fu (d+1) Km [.agg [.lst false 1 H9 Fe,.sc (.int .i64 E2),.sc (.int .u64 Fg),.sc (.int .u64 E3),.sc (.int .i64 N0),.sc (.bool N4),.sc (.int .u64 Nx),.lst false 2 H1 N6,.sc (.bool Nt),.sc (.int .i64 N1),.sc (.int .i64 H3)],.sc (.int .i64 a1),.sc (.int .i64 a2),.sc (.int .i64 a3)]=(fun (call:Al)=>Ar (call 39 [.agg [.lst false 1 H9 Fe,.sc (.int .i64 E2),.sc (.int .u64 Fg),.sc (.int .u64 E3),.sc (.int .i64 N0),.sc (.bool N4),.sc (.int .u64 Nx),.lst false 2 H1 N6,.sc (.bool Nt),.sc (.int .i64 N1),.sc (.int .i64 H3)]]) fun x1 x2=>Ah x2<|Aa x1 fun x3 x4=>Dw x3 fun x5=>Aa x5 fun x6 x7=>Ml 1 x6 fun x8 x9=>Aa x7 fun Kj L3=>Ag .i64 Kj fun Jw=>Aa L3 fun Ox Lx=>Ag .u64 Ox fun Nh=>Aa Lx fun Qm Sv=>Ag .u64 Qm fun Ok=>Aa Sv fun I9 Pk=>Ag .i64 I9 fun Qe=>Aa Pk fun S5 Re=>A7 S5 fun Is=>Aa Re fun T8 Ug=>Ag .u64 T8 fun Qi=>Aa Ug fun BL BX=>Ml 2 BL fun Oi Q8=>Aa BX fun Zt Wx=>A7 Zt fun Ty=>Aa Wx fun Zx Xf=>Ag .i64 Zx fun Ss=>Aa Xf fun Xh BZ=>Ag .i64 Xh fun Yb=>Ah BZ<|Ah x4<|Cb (decide (Jw<0)) (As (decide (0+x8*1<=x9.length))<|As (decide (0+Oi*2<=Q8.length))<|some (Bg.mk [.agg [.lst false 1 x8 (List.take (x8*1) (List.drop 0 x9)),.sc (.int .i64 Jw),.sc (.int .u64 Nh),.sc (.int .u64 Ok),.sc (.int .i64 Qe),.sc (.bool Is),.sc (.int .u64 Qi),.lst false 2 Oi (List.take (Oi*2) (List.drop 0 Q8)),.sc (.bool Ty),.sc (.int .i64 Ss),.sc (.int .i64 Yb)],.sc (.int .i64 9)] [])) (Cb (decide (Jw>4)) (As (decide (0+x8*1<=x9.length))<|As (decide (0+Oi*2<=Q8.length))<|some (Bg.mk [.agg [.lst false 1 x8 (List.take (x8*1) (List.drop 0 x9)),.sc (.int .i64 Jw),.sc (.int .u64 Nh),.sc (.int .u64 Ok),.sc (.int .i64 Qe),.sc (.bool Is),.sc (.int .u64 Qi),.lst false 2 Oi (List.take (Oi*2) (List.drop 0 Q8)),.sc (.bool Ty),.sc (.int .i64 Ss),.sc (.int .i64 Yb)],.sc (.int .i64 9)] [])) (Cb (decide (a2<0)) (As (decide (0+x8*1<=x9.length))<|As (decide (0+Oi*2<=Q8.length))<|some (Bg.mk [.agg [.lst false 1 x8 (List.take (x8*1) (List.drop 0 x9)),.sc (.int .i64 Jw),.sc (.int .u64 Nh),.sc (.int .u64 Ok),.sc (.int .i64 Qe),.sc (.bool Is),.sc (.int .u64 Qi),.lst false 2 Oi (List.take (Oi*2) (List.drop 0 Q8)),.sc (.bool Ty),.sc (.int .i64 Ss),.sc (.int .i64 Yb)],.sc (.int .i64 9)] [])) (Cb (decide (a2>a1)) (As (decide (0+x8*1<=x9.length))<|As (decide (0+Oi*2<=Q8.length))<|some (Bg.mk [.agg [.lst false 1 x8 (List.take (x8*1) (List.drop 0 x9)),.sc (.int .i64 Jw),.sc (.int .u64 Nh),.sc (.int .u64 Ok),.sc (.int .i64 Qe),.sc (.bool Is),.sc (.int .u64 Qi),.lst false 2 Oi (List.take (Oi*2) (List.drop 0 Q8)),.sc (.bool Ty),.sc (.int .i64 Ss),.sc (.int .i64 Yb)],.sc (.int .i64 9)] [])) (As (decide (0<=Jw))<|Ab (F8 .i64 1 Jw) fun GJ=>Cb (decide (a1>=GJ)) (As (decide (0+x8*1<=x9.length))<|As (decide (0+Oi*2<=Q8.length))<|some (Bg.mk [.agg [.lst false 1 x8 (List.take (x8*1) (List.drop 0 x9)),.sc (.int .i64 Jw),.sc (.int .u64 Nh),.sc (.int .u64 Ok),.sc (.int .i64 Qe),.sc (.bool Is),.sc (.int .u64 Qi),.lst false 2 Oi (List.take (Oi*2) (List.drop 0 Q8)),.sc (.bool Ty),.sc (.int .i64 Ss),.sc (.int .i64 Yb)],.sc (.int .i64 9)] [])) (Jh fu call H9 Fe E2 Fg E3 N0 N4 Nx H1 N6 Nt N1 H3 a1 a2 a3 (fu) (a1) (a2) (a3) x8 Jw Nh Ok Qe Is Qi Oi Ty Ss Yb x9 Q8 0 0 0 0 0 (false) 0 0 (false) 0 0 ([]) ([]))))))) (Am C0 prog fu d):=by kernel_rfl
abbrev Jo:FuncId:=17
noncomputable def Cl (fu:Nat)(call:Al)(B5:Nat)(a0:List PV)(a1:Int)(a2:ByteArray)(nn:Nat)(y0:Int)(y1:ByteArray)(y2 y3:Nat)(y4:List PV)(y5 y6:Int)(y7:List PV):Option Bg:=Cx CB prog fu call 17 Try.f17 (B2 Try.f17) [.lst false 3 B5 a0,.sc (.int .u64 a1),.sc (.string a2)] [.r,.r,.l,.r,.r,.l,.r,.l] nn ⟨lk [(1,(.sc (.int .u64 y0))),(2,(.sc (.string y1))),(7,(.view 7 1 0 y2)),(25,(.lst false 11 y3 y4)),(26,(.sc (.int .i64 y5))),(27,(.sc (.int .i64 y6)))],E5 [(7,(.ar false y7))]⟩
noncomputable def C4 (fu:Nat)(call:Al)(B5:Nat)(a0:List PV)(a1:Int)(a2:ByteArray)(nn y0:Nat)(y1 y2 y3:Int)(y4:List PV):Option Bg:=Cx CB prog fu call 17 Try.f17 (B2 Try.f17) [.lst false 3 B5 a0,.sc (.int .u64 a1),.sc (.string a2)] [.r,.r,.r,.r,.l,.r,.l] nn ⟨lk [(7,(.view 7 1 0 y0)),(12,(.sc (.int .u64 y1))),(52,(.sc (.int .i64 y2))),(53,(.sc (.int .i64 y3)))],E5 [(7,(.ar false y4))]⟩
theorem Hi (fu:Nat)(call:Al)(B5:Nat)(a0:List PV)(a1:Int)(a2:ByteArray)(nn:Nat)(y0:Int)(y1:ByteArray)(y2 y3:Nat)(y4:List PV)(y5 y6:Int)(y7:List PV):Cl fu call B5 a0 a1 a2 (nn+1) y0 y1 y2 y3 y4 y5 y6 y7=(Cb (decide (y6<y5)) (As (decide (0<=y6)&&decide (y6<(↑y3:Int)))<|F5 1 (List.getD y4 (Int.toNat y6*11) .top) fun Sv Ok I9=>Ag .i64 (List.getD y4 (Int.toNat y6*11+1) .top) fun Pk=>Ag .u64 (List.getD y4 (Int.toNat y6*11+1+1) .top) fun Qe=>Ag .u64 (List.getD y4 (Int.toNat y6*11+1+1+1) .top) fun S5=>Ag .i64 (List.getD y4 (Int.toNat y6*11+1+1+1+1) .top) fun Re=>A7 (List.getD y4 (Int.toNat y6*11+1+1+1+1+1) .top) fun Is=>Ag .u64 (List.getD y4 (Int.toNat y6*11+1+1+1+1+1+1) .top) fun T8=>F5 2 (List.getD y4 (Int.toNat y6*11+1+1+1+1+1+1+1) .top) fun Ug Qi BL=>A7 (List.getD y4 (Int.toNat y6*11+1+1+1+1+1+1+1+1) .top) fun BX=>Ag .i64 (List.getD y4 (Int.toNat y6*11+1+1+1+1+1+1+1+1+1) .top) fun Oi=>Ag .i64 (List.getD y4 (Int.toNat y6*11+1+1+1+1+1+1+1+1+1+1) .top) fun Q8=>Cb (!BX) (Cb (decide ((↑y2:Int)<4)) (Ar (call 40 [.lst false 1 Ok I9]) fun Zt Wx=>Ah Wx<|Aa Zt fun Ty Zx=>Ml 1 Ty fun Xf Ss=>Ah Zx<|As (decide (0+Xf*1<=Ss.length))<|As (decide (y2*1<=y7.length)&&true&&decide ((y2+1)*24<=1099511627776)&&decide (y2+1<=1099511627776))<|Ab (y2+1) fun Xh=>Ab (List.take (y2*1) y7++[.lst false 1 Xf (List.take (Xf*1) (List.drop 0 Ss))]) fun BZ=>Ab (wrap .i64 (y6+1)) fun Yb=>Cl fu call B5 a0 a1 a2 (nn) (y0) (y1) Xh (y3) (y4) (y5) Yb BZ) (Ab (wrap .i64 (y6+1)) fun GJ=>Cl fu call B5 a0 a1 a2 (nn) (y0) (y1) (y2) (y3) (y4) (y5) GJ (y7))) (Ab (wrap .i64 (y6+1)) fun FS=>Cl fu call B5 a0 a1 a2 (nn) (y0) (y1) (y2) (y3) (y4) (y5) FS (y7))) (As (decide (ByteArray.size y1<=1099511627776))<|As (decide (0+ByteArray.size y1*1<=List.length (D2 y1)))<|Ar (call 41 [.sc (.int .u64 y0),.sc (.int .i64 20),.lst false 1 (ByteArray.size y1) (List.take (ByteArray.size y1*1) (List.drop 0 (D2 y1)))]) fun HS BM=>Ah BM<|Aa HS fun GX JH=>Ag .u64 GX fun IF=>Ah JH<|Ab (wrap .i64 (4-(↑y2:Int))) fun GB=>C4 fu call B5 a0 a1 a2 (fu) (y2) IF GB 0 (y7))):=by kernel_rfl
theorem Hm (fu:Nat)(call:Al)(B5:Nat)(a0:List PV)(a1:Int)(a2:ByteArray)(nn y0:Nat)(y1 y2 y3:Int)(y4:List PV):C4 fu call B5 a0 a1 a2 (nn+1) y0 y1 y2 y3 y4=(Cb (decide (y3<y2)) (Ab (wrap .u64 y3) fun JM=>Ar (call 42 [.sc (.int .u64 y1),.sc (.int .u64 JM),.sc (.int .i64 176)]) fun Xd FZ=>Ah FZ<|Aa Xd fun LC FU=>Ml 1 LC fun Wz FT=>Ah FU<|As (decide (0+Wz*1<=FT.length))<|As (decide (y0*1<=y4.length)&&true&&decide ((y0+1)*24<=1099511627776)&&decide (y0+1<=1099511627776))<|Ab (y0+1) fun LM=>Ab (List.take (y0*1) y4++[.lst false 1 Wz (List.take (Wz*1) (List.drop 0 FT))]) fun HE=>Ab (wrap .i64 (y3+1)) fun DI=>C4 fu call B5 a0 a1 a2 (nn) LM (y1) (y2) DI HE) (Ar (call 43 [PV.tup [.own 1 y0 y4],.sc (Value.func (Fn.func 44) #[] #[])]) fun HZ CW=>Ah HZ<|Aa CW fun Ys BV=>Ah BV<|As (decide (y0*1<=Ys.length))<|some (Bg.mk [.own 1 y0 (List.take (y0*1) Ys)] []))):=by kernel_rfl
theorem P4 (fu d B5:Nat)(a0:List PV)(a1:Int)(a2:ByteArray):Am C0 prog fu (d+1) Jo [.lst false 3 B5 a0,.sc (.int .u64 a1),.sc (.string a2)]=(fun (call:Al)=>Ar (call 18 [.lst false 3 B5 a0,.sc (.string a2)]) fun x1 x2=>Ah x2<|Aa x1 fun x3 x4=>Ag .i64 x3 fun x5=>Aa x4 fun x6 x7=>A7 x6 fun x8=>Ah x7<|Cb x8 (As (decide (0<=x5)&&decide (x5<(↑B5:Int)))<|F5 11 (List.getD a0 (Int.toNat x5*3+2) .top) fun x9 Kj L3=>Cl fu call B5 a0 a1 a2 (fu) (a1) (a2) 0 Kj L3 ((↑Kj:Int)) 0 ([])) (As (decide (ByteArray.size a2<=1099511627776))<|As (decide (0+ByteArray.size a2*1<=List.length (D2 a2)))<|Ar (call 41 [.sc (.int .u64 a1),.sc (.int .i64 20),.lst false 1 (ByteArray.size a2) (List.take (ByteArray.size a2*1) (List.drop 0 (D2 a2)))]) fun Jw Ox=>Ah Ox<|Aa Jw fun Lx Nh=>Ag .u64 Lx fun Qm=>Ah Nh<|C4 fu call B5 a0 a1 a2 (fu) 0 Qm 4 0 ([]))) (Am C0 prog fu d):=by kernel_rfl
end
section
open Go.Proofs.Try (prog)
open Go.IntKind (wrap)
set_option maxRecDepth 100000
abbrev Gk:FuncId:=12
theorem L7 (fu d:Nat)(a0 a1:Int):Am C0 prog fu (d+1) Gk [.sc (.int .i64 a0),.sc (.int .i64 a1)]=(fun (call:Al)=>Ar (call 20 [.sc (.int .i64 a0),.sc (.int .i64 12)]) fun x1 x2=>Ah x2<|Aa x1 fun x3 x4=>Ag .i64 x3 fun x5=>Ah x4<|Ab (wrap .i64 (600+x5)) fun x6=>Ar (call 13 [.sc (.int .i64 x6),.sc (.int .i64 176)]) fun x7 x8=>Ah x8<|Aa x7 fun x9 Kj=>Ml 1 x9 fun L3 Jw=>Ah Kj<|As (decide (0+L3*1<=Jw.length))<|some (Bg.mk [.agg [.lst false 1 L3 (List.take (L3*1) (List.drop 0 Jw)),.sc (.int .i64 a1),.sc (.int .u64 5),.sc (.int .u64 0),.sc (.int .i64 0),.sc (.bool false),.sc (.int .u64 0),.lst false 2 0 [],.sc (.bool false),.sc (.int .i64 3),.sc (.int .i64 0)]] [])) (Am C0 prog fu d):=by kernel_rfl
end
section
open Go.Proofs.Try (prog)
open Go.IntKind (wrap)
set_option maxRecDepth 100000
abbrev Sc:FuncId:=15
noncomputable def Fu (fu:Nat)(call:Al)(nm us:ByteArray)(n1:Nat)(c1:List PV)(k1 k2:Int)(k3 k4:Int)(k5:Bool)(k6:Int)(n2:Nat)(c2:List PV)(k7:Bool)(k8 k9:Int)(nn y0:Nat)(y1:List PV)(y2 y3:ByteArray)(y4:Int)(y5:Bool)(y6:Nat)(y7:List PV)(y8 y9:Int)(Ei Es:Int)(C8:Bool)(Eu:Int)(E6:Nat)(Hr:List PV)(Ey:Bool)(Gn Nn:Int):Option Bg:=Cx CB prog fu call 15 Try.f15 (B2 Try.f15) [.lst false 3 0 [],.sc (.string nm),.sc (.string us),.agg [.lst false 1 n1 c1,.sc (.int .i64 k1),.sc (.int .u64 k2),.sc (.int .u64 k3),.sc (.int .i64 k4),.sc (.bool k5),.sc (.int .u64 k6),.lst false 2 n2 c2,.sc (.bool k7),.sc (.int .i64 k8),.sc (.int .i64 k9)]] [.r,.r,.r,.r,.r] nn ⟨lk [(0,(.lst false 3 y0 y1)),(1,(.sc (.string y2))),(2,(.sc (.string y3))),(7,(.ptr 7 0)),(13,(.sc (.int .i64 y4))),(14,(.sc (.bool y5)))],E5 [(7,(.st [(.lst false 1 y6 y7),(.sc (.int .i64 y8)),(.sc (.int .u64 y9)),(.sc (.int .u64 Ei)),(.sc (.int .i64 Es)),(.sc (.bool C8)),(.sc (.int .u64 Eu)),(.lst false 2 E6 Hr),(.sc (.bool Ey)),(.sc (.int .i64 Gn)),(.sc (.int .i64 Nn))]))]⟩
theorem N3 (fu:Nat)(call:Al)(nm us:ByteArray)(n1:Nat)(c1:List PV)(k1 k2:Int)(k3 k4:Int)(k5:Bool)(k6:Int)(n2:Nat)(c2:List PV)(k7:Bool)(k8 k9:Int)(nn:Nat)(E9:0<nn)(y0:Nat)(y1:List PV)(y2 y3:ByteArray)(y4:Int)(y5:Bool)(y6:Nat)(y7:List PV)(y8 y9:Int)(Ei Es:Int)(C8:Bool)(Eu:Int)(E6:Nat)(Hr:List PV)(Ey:Bool)(Gn Nn:Int):Fu fu call nm us n1 c1 k1 k2 k3 k4 k5 k6 n2 c2 k7 k8 k9 nn y0 y1 y2 y3 y4 y5 y6 y7 y8 y9 Ei Es C8 Eu E6 Hr Ey Gn Nn=(Ar (call 38 [.lst false 3 y0 y1]) fun Pk Qe=>Ah Qe<|Aa Pk fun S5 Re=>Ml 3 S5 fun Is T8=>Ah Re<|Cb (!y5) (As (decide (Is*3<=T8.length)&&true&&decide ((Is+1)*56<=1099511627776)&&decide (Is+1<=1099511627776))<|Ab (Is+1) fun Ug=>Ab (List.take (Is*3) T8++[.sc (.string y2),.sc (.string y3),.lst true 11 0 []]) fun Qi=>As (decide ((↑Is:Int)<(↑Ug:Int)))<|F5 11 (List.getD Qi (0+Int.toNat (↑Is:Int)*3+2) .top) fun BL BX Oi=>Ar (call 39 [.agg [.lst false 1 y6 y7,.sc (.int .i64 y8),.sc (.int .u64 y9),.sc (.int .u64 Ei),.sc (.int .i64 Es),.sc (.bool C8),.sc (.int .u64 Eu),.lst false 2 E6 Hr,.sc (.bool Ey),.sc (.int .i64 Gn),.sc (.int .i64 Nn)]]) fun Q8 Zt=>Ah Zt<|Aa Q8 fun Wx Ty=>Dw Wx fun Zx=>Aa Zx fun Xf Ss=>Ml 1 Xf fun Xh BZ=>Aa Ss fun Yb GJ=>Ag .i64 Yb fun FS=>Aa GJ fun HS BM=>Ag .u64 HS fun GX=>Aa BM fun JH IF=>Ag .u64 JH fun GB=>Aa IF fun JM Xd=>Ag .i64 JM fun FZ=>Aa Xd fun LC FU=>A7 LC fun Wz=>Aa FU fun FT LM=>Ag .u64 FT fun HE=>Aa LM fun DI HZ=>Ml 2 DI fun CW Ys=>Aa HZ fun BV PR=>A7 BV fun ON=>Aa PR fun JP NB=>Ag .i64 JP fun MX=>Aa NB fun HJ OK=>Ag .i64 HJ fun OD=>Ah OK<|Ah Ty<|As (decide (0+Xh*1<=BZ.length))<|As (decide (0+CW*2<=Ys.length))<|As (BL&&true&&true&&true&&true&&true)<|As (decide ((↑Is:Int)<(↑Ug:Int)))<|As (decide (0+Int.toNat (↑Is:Int)*3+2+1<=Qi.length))<|Ab (A0 Qi [.lst false 11 1 [.lst false 1 Xh (List.take (Xh*1) (List.drop 0 BZ)),.sc (.int .i64 FS),.sc (.int .u64 GX),.sc (.int .u64 GB),.sc (.int .i64 FZ),.sc (.bool Wz),.sc (.int .u64 HE),.lst false 2 CW (List.take (CW*2) (List.drop 0 Ys)),.sc (.bool ON),.sc (.int .i64 MX),.sc (.int .i64 OD)]] (0+Int.toNat (↑Is:Int)*3+2)) fun KD=>As (decide (0+Ug*3<=KD.length))<|some (Bg.mk [.lst false 3 Ug (List.take (Ug*3) (List.drop 0 KD)),.sc (.int .i64 0)] [])) (As (decide (0<=y4)&&decide (y4<(↑Is:Int)))<|F5 11 (List.getD T8 (0+Int.toNat y4*3+2) .top) fun OE SH II=>Ar (call 39 [.agg [.lst false 1 y6 y7,.sc (.int .i64 y8),.sc (.int .u64 y9),.sc (.int .u64 Ei),.sc (.int .i64 Es),.sc (.bool C8),.sc (.int .u64 Eu),.lst false 2 E6 Hr,.sc (.bool Ey),.sc (.int .i64 Gn),.sc (.int .i64 Nn)]]) fun HU PQ=>Ah PQ<|Aa HU fun TT PT=>Dw TT fun VT=>Aa VT fun PU YS=>Ml 1 PU fun TA VQ=>Aa YS fun WB PZ=>Ag .i64 WB fun VS=>Aa PZ fun ZN YG=>Ag .u64 ZN fun PN=>Aa YG fun WP YA=>Ag .u64 WP fun VR=>Aa YA fun VX x94=>Ag .i64 VX fun x95=>Aa x94 fun x96 x97=>A7 x96 fun x98=>Aa x97 fun x99 HP=>Ag .u64 x99 fun AQ=>Aa HP fun GF HW=>Ml 2 GF fun Z7 Qq=>Aa HW fun JE GR=>A7 JE fun GM=>Aa GR fun GG GW=>Ag .i64 GG fun IZ=>Aa GW fun GS NV=>Ag .i64 GS fun IY=>Ah NV<|Ah PT<|As (decide (0+TA*1<=VQ.length))<|As (decide (0+Z7*2<=Qq.length))<|As (OE&&true&&true&&true&&true&&true)<|As (decide (0<=y4)&&decide (y4<(↑Is:Int)))<|As (decide (0+Int.toNat y4*3+2+1<=T8.length))<|Ab (A0 T8 [.lst false 11 1 [.lst false 1 TA (List.take (TA*1) (List.drop 0 VQ)),.sc (.int .i64 VS),.sc (.int .u64 PN),.sc (.int .u64 VR),.sc (.int .i64 x95),.sc (.bool x98),.sc (.int .u64 AQ),.lst false 2 Z7 (List.take (Z7*2) (List.drop 0 Qq)),.sc (.bool GM),.sc (.int .i64 IZ),.sc (.int .i64 IY)]] (0+Int.toNat y4*3+2)) fun DP=>As (decide (0+Is*3<=DP.length))<|some (Bg.mk [.lst false 3 Is (List.take (Is*3) (List.drop 0 DP)),.sc (.int .i64 0)] []))):=by cases nn with|zero=>exact absurd E9 (Nat.lt_irrefl 0)|succ nn=>kernel_rfl
theorem Rv (fu d:Nat)(nm us:ByteArray)(n1:Nat)(c1:List PV)(k1 k2:Int)(k3 k4:Int)(k5:Bool)(k6:Int)(n2:Nat)(c2:List PV)(k7:Bool)(k8 k9:Int):Am C0 prog fu (d+1) Sc [.lst false 3 0 [],.sc (.string nm),.sc (.string us),.agg [.lst false 1 n1 c1,.sc (.int .i64 k1),.sc (.int .u64 k2),.sc (.int .u64 k3),.sc (.int .i64 k4),.sc (.bool k5),.sc (.int .u64 k6),.lst false 2 n2 c2,.sc (.bool k7),.sc (.int .i64 k8),.sc (.int .i64 k9)]]=(fun (call:Al)=>Cb (decide ((↑(ByteArray.size nm):Int)<1)) (some (Bg.mk [.lst false 3 0 [],.sc (.int .i64 9)] [])) (Cb (decide ((↑(ByteArray.size nm):Int)>32)) (some (Bg.mk [.lst false 3 0 [],.sc (.int .i64 9)] [])) (Cb ((↑n1:Int) != 176) (some (Bg.mk [.lst false 3 0 [],.sc (.int .i64 4)] [])) (Ar (call 35 [.lst false 3 0 [],.lst false 1 n1 c1]) fun x1 x2=>Ah x2<|Aa x1 fun x3 x4=>Ag .i64 x3 fun x5=>Aa x4 fun x6 x7=>Ag .i64 x6 fun x8=>Aa x7 fun x9 Kj=>A7 x9 fun L3=>Ah Kj<|Cb L3 (some (Bg.mk [.lst false 3 0 [],.sc (.int .i64 10)] [])) (Ar (call 18 [.lst false 3 0 [],.sc (.string nm)]) fun Jw Ox=>Ah Ox<|Aa Jw fun Lx Nh=>Ag .i64 Lx fun Qm=>Aa Nh fun Sv Ok=>A7 Sv fun I9=>Ah Ok<|Cb I9 (As (decide (0<=Qm)&&decide (Qm<0))<|none) (Cb (!I9) (Fu fu call nm us n1 c1 k1 k2 k3 k4 k5 k6 n2 c2 k7 k8 k9 (fu) 0 ([]) (nm) (us) Qm I9 (n1) (c1) (k1) (k2) (k3) (k4) (k5) (k6) (n2) (c2) (k7) (k8) (k9)) (Fu fu call nm us n1 c1 k1 k2 k3 k4 k5 k6 n2 c2 k7 k8 k9 (fu) 0 ([]) (nm) (us) Qm I9 (n1) (c1) (k1) (k2) (k3) (k4) (k5) (k6) (n2) (c2) (k7) (k8) (k9)))))))) (Am C0 prog fu d):=by kernel_rfl
end
section
open Go.Proofs.Try (prog)
open Go.IntKind (wrap)
set_option maxRecDepth 100000
abbrev Ho:FuncId:=9
noncomputable def D8 (fu:Nat)(call:Al)(nn:Nat):Option Bg:=Cx CB prog fu call 9 Try.f9 (B2 Try.f9) [] [] nn ⟨lk [],E5 []⟩
noncomputable def Gm (fu:Nat)(call:Al)(nn:Nat)(y0:Int)(y1:Nat)(y2:List PV)(y3 y4:Int)(y5 y6:Int)(y7:Bool)(y8:Int)(y9:Nat)(Ei:List PV)(Es:Bool)(C8 Eu:Int):Option Bg:=Cx CB prog fu call 9 Try.f9 (B2 Try.f9) [] [.r] nn ⟨lk [(1,(.ptr 1 0)),(2,(.sc (.int .i64 y0)))],E5 [(1,(.st [(.lst false 1 y1 y2),(.sc (.int .i64 y3)),(.sc (.int .u64 y4)),(.sc (.int .u64 y5)),(.sc (.int .i64 y6)),(.sc (.bool y7)),(.sc (.int .u64 y8)),(.lst false 2 y9 Ei),(.sc (.bool Es)),(.sc (.int .i64 C8)),(.sc (.int .i64 Eu))]))]⟩
noncomputable def Gf (fu:Nat)(call:Al)(nn:Nat)(y0 y1:Int)(y2:Nat)(y3:List PV)(y4 y5:Int)(y6 y7:Int)(y8:Bool)(y9:Int)(Ei:Nat)(Es:List PV)(C8:Bool)(Eu E6:Int):Option Bg:=Cx CB prog fu call 9 Try.f9 (B2 Try.f9) [] [.r,.r] nn ⟨lk [(1,(.ptr 1 0)),(2,(.sc (.int .i64 y0))),(3,(.sc (.int .i64 y1)))],E5 [(1,(.st [(.lst false 1 y2 y3),(.sc (.int .i64 y4)),(.sc (.int .u64 y5)),(.sc (.int .u64 y6)),(.sc (.int .i64 y7)),(.sc (.bool y8)),(.sc (.int .u64 y9)),(.lst false 2 Ei Es),(.sc (.bool C8)),(.sc (.int .i64 Eu)),(.sc (.int .i64 E6))]))]⟩
noncomputable def Ge (fu:Nat)(call:Al)(nn:Nat)(y0 y1 y2:Int)(y3:Nat)(y4:List PV)(y5 y6:Int)(y7 y8:Int)(y9:Bool)(Ei:Int)(Es:Nat)(C8:List PV)(Eu:Bool)(E6 Hr:Int)(Ey:Nat)(Gn:List PV)(Nn Rg:Int)(Rj Rk:Int)(Ri:Bool)(Rc:Int)(Ra:Nat)(Q7:List PV)(Rf:Bool)(Rd Rl:Int):Option Bg:=Cx CB prog fu call 9 Try.f9 (B2 Try.f9) [] [.r,.r,.r] nn ⟨lk [(1,(.ptr 1 0)),(2,(.sc (.int .i64 y0))),(3,(.sc (.int .i64 y1))),(4,(.ptr 4 0)),(5,(.sc (.int .i64 y2)))],E5 [(1,(.st [(.lst false 1 y3 y4),(.sc (.int .i64 y5)),(.sc (.int .u64 y6)),(.sc (.int .u64 y7)),(.sc (.int .i64 y8)),(.sc (.bool y9)),(.sc (.int .u64 Ei)),(.lst false 2 Es C8),(.sc (.bool Eu)),(.sc (.int .i64 E6)),(.sc (.int .i64 Hr))])),(4,(.st [(.lst false 1 Ey Gn),(.sc (.int .i64 Nn)),(.sc (.int .u64 Rg)),(.sc (.int .u64 Rj)),(.sc (.int .i64 Rk)),(.sc (.bool Ri)),(.sc (.int .u64 Rc)),(.lst false 2 Ra Q7),(.sc (.bool Rf)),(.sc (.int .i64 Rd)),(.sc (.int .i64 Rl))]))]⟩
noncomputable def Gl (fu:Nat)(call:Al)(nn:Nat)(y0 y1:Int)(y2 y3:Int)(y4:Nat)(y5:List PV)(y6 y7:Int)(y8 y9:Int)(Ei:Bool)(Es:Int)(C8:Nat)(Eu:List PV)(E6:Bool)(Hr Ey:Int)(Gn:Nat)(Nn:List PV)(Rg Rj:Int)(Rk Ri:Int)(Rc:Bool)(Ra:Int)(Q7:Nat)(Rf:List PV)(Rd:Bool)(Rl BK:Int)(BW:Nat)(MG:List PV)(KF OS:Int)(MM OT:Int)(LZ:Bool)(NX:Int)(NE:Nat)(PA:List PV)(OG:Bool)(NN NS:Int):Option Bg:=Cx CB prog fu call 9 Try.f9 (B2 Try.f9) [] [.r,.r,.r,.r] nn ⟨lk [(1,(.ptr 1 0)),(2,(.sc (.int .i64 y0))),(3,(.sc (.int .i64 y1))),(4,(.ptr 4 0)),(5,(.sc (.int .i64 y2))),(6,(.ptr 6 0)),(7,(.sc (.int .i64 y3)))],E5 [(1,(.st [(.lst false 1 y4 y5),(.sc (.int .i64 y6)),(.sc (.int .u64 y7)),(.sc (.int .u64 y8)),(.sc (.int .i64 y9)),(.sc (.bool Ei)),(.sc (.int .u64 Es)),(.lst false 2 C8 Eu),(.sc (.bool E6)),(.sc (.int .i64 Hr)),(.sc (.int .i64 Ey))])),(4,(.st [(.lst false 1 Gn Nn),(.sc (.int .i64 Rg)),(.sc (.int .u64 Rj)),(.sc (.int .u64 Rk)),(.sc (.int .i64 Ri)),(.sc (.bool Rc)),(.sc (.int .u64 Ra)),(.lst false 2 Q7 Rf),(.sc (.bool Rd)),(.sc (.int .i64 Rl)),(.sc (.int .i64 BK))])),(6,(.st [(.lst false 1 BW MG),(.sc (.int .i64 KF)),(.sc (.int .u64 OS)),(.sc (.int .u64 MM)),(.sc (.int .i64 OT)),(.sc (.bool LZ)),(.sc (.int .u64 NX)),(.lst false 2 NE PA),(.sc (.bool OG)),(.sc (.int .i64 NN)),(.sc (.int .i64 NS))]))]⟩
noncomputable def Gh (fu:Nat)(call:Al)(nn:Nat)(y0 y1:Int)(y2 y3:Int)(y4:Nat)(y5:List PV)(y6:Int)(y7:Nat)(y8:List PV)(y9 Ei:Int)(Es C8:Int)(Eu:Bool)(E6:Int)(Hr:Nat)(Ey:List PV)(Gn:Bool)(Nn Rg:Int)(Rj:Nat)(Rk:List PV)(Ri Rc:Int)(Ra Q7:Int)(Rf:Bool)(Rd:Int)(Rl:Nat)(BK:List PV)(BW:Bool)(MG KF:Int)(OS:Nat)(MM:List PV)(OT LZ:Int)(NX NE:Int)(PA:Bool)(OG:Int)(NN:Nat)(NS:List PV)(y43:Bool)(y44 WL:Int):Option Bg:=Cx CB prog fu call 9 Try.f9 (B2 Try.f9) [] [.r,.r,.r,.r,.r] nn ⟨lk [(1,(.ptr 1 0)),(2,(.sc (.int .i64 y0))),(3,(.sc (.int .i64 y1))),(4,(.ptr 4 0)),(5,(.sc (.int .i64 y2))),(6,(.ptr 6 0)),(7,(.sc (.int .i64 y3))),(8,(.lst false 3 y4 y5)),(9,(.sc (.int .i64 y6)))],E5 [(1,(.st [(.lst false 1 y7 y8),(.sc (.int .i64 y9)),(.sc (.int .u64 Ei)),(.sc (.int .u64 Es)),(.sc (.int .i64 C8)),(.sc (.bool Eu)),(.sc (.int .u64 E6)),(.lst false 2 Hr Ey),(.sc (.bool Gn)),(.sc (.int .i64 Nn)),(.sc (.int .i64 Rg))])),(4,(.st [(.lst false 1 Rj Rk),(.sc (.int .i64 Ri)),(.sc (.int .u64 Rc)),(.sc (.int .u64 Ra)),(.sc (.int .i64 Q7)),(.sc (.bool Rf)),(.sc (.int .u64 Rd)),(.lst false 2 Rl BK),(.sc (.bool BW)),(.sc (.int .i64 MG)),(.sc (.int .i64 KF))])),(6,(.st [(.lst false 1 OS MM),(.sc (.int .i64 OT)),(.sc (.int .u64 LZ)),(.sc (.int .u64 NX)),(.sc (.int .i64 NE)),(.sc (.bool PA)),(.sc (.int .u64 OG)),(.lst false 2 NN NS),(.sc (.bool y43)),(.sc (.int .i64 y44)),(.sc (.int .i64 WL))]))]⟩
noncomputable def Gi (fu:Nat)(call:Al)(nn:Nat)(y0 y1:Int)(y2 y3:Int)(y4:Nat)(y5:List PV)(y6 y7:Int)(y8:Bool)(y9:Nat)(Ei:List PV)(Es C8:Int)(Eu E6:Int)(Hr:Bool)(Ey:Int)(Gn:Nat)(Nn:List PV)(Rg:Bool)(Rj Rk:Int)(Ri:Nat)(Rc:List PV)(Ra Q7:Int)(Rf Rd:Int)(Rl:Bool)(BK:Int)(BW:Nat)(MG:List PV)(KF:Bool)(OS MM:Int)(OT:Nat)(LZ:List PV)(NX NE:Int)(PA OG:Int)(NN:Bool)(NS:Int)(y43:Nat)(y44:List PV)(WL:Bool)(y46 y47:Int):Option Bg:=Cx CB prog fu call 9 Try.f9 (B2 Try.f9) [] [.r,.r,.r,.r,.r,.r] nn ⟨lk [(1,(.ptr 1 0)),(2,(.sc (.int .i64 y0))),(3,(.sc (.int .i64 y1))),(4,(.ptr 4 0)),(5,(.sc (.int .i64 y2))),(6,(.ptr 6 0)),(7,(.sc (.int .i64 y3))),(8,(.lst false 3 y4 y5)),(9,(.sc (.int .i64 y6))),(10,(.sc (.int .i64 y7))),(11,(.sc (.bool y8)))],E5 [(1,(.st [(.lst false 1 y9 Ei),(.sc (.int .i64 Es)),(.sc (.int .u64 C8)),(.sc (.int .u64 Eu)),(.sc (.int .i64 E6)),(.sc (.bool Hr)),(.sc (.int .u64 Ey)),(.lst false 2 Gn Nn),(.sc (.bool Rg)),(.sc (.int .i64 Rj)),(.sc (.int .i64 Rk))])),(4,(.st [(.lst false 1 Ri Rc),(.sc (.int .i64 Ra)),(.sc (.int .u64 Q7)),(.sc (.int .u64 Rf)),(.sc (.int .i64 Rd)),(.sc (.bool Rl)),(.sc (.int .u64 BK)),(.lst false 2 BW MG),(.sc (.bool KF)),(.sc (.int .i64 OS)),(.sc (.int .i64 MM))])),(6,(.st [(.lst false 1 OT LZ),(.sc (.int .i64 NX)),(.sc (.int .u64 NE)),(.sc (.int .u64 PA)),(.sc (.int .i64 OG)),(.sc (.bool NN)),(.sc (.int .u64 NS)),(.lst false 2 y43 y44),(.sc (.bool WL)),(.sc (.int .i64 y46)),(.sc (.int .i64 y47))]))]⟩
theorem Kr (fu:Nat)(call:Al)(nn:Nat)(E9:0<nn):D8 fu call nn=(Ar (call 12 [.sc (.int .i64 1),.sc (.int .i64 2)]) fun x1 x2=>Ah x2<|Aa x1 fun x3 x4=>Dw x3 fun x5=>Aa x5 fun x6 x7=>F5 1 x6 fun x8 x9 Kj=>Aa x7 fun L3 Jw=>Ag .i64 L3 fun Ox=>Aa Jw fun Lx Nh=>Ag .u64 Lx fun Qm=>Aa Nh fun Sv Ok=>Ag .u64 Sv fun I9=>Aa Ok fun Pk Qe=>Ag .i64 Pk fun S5=>Aa Qe fun Re Is=>A7 Re fun T8=>Aa Is fun Ug Qi=>Ag .u64 Ug fun BL=>Aa Qi fun BX Oi=>F5 2 BX fun Q8 Zt Wx=>Aa Oi fun Ty Zx=>A7 Ty fun Xf=>Aa Zx fun Ss Xh=>Ag .i64 Ss fun BZ=>Aa Xh fun Yb GJ=>Ag .i64 Yb fun FS=>Ah GJ<|Ah x4<|Ar (call 21 [.agg [.lst false 1 x9 Kj,.sc (.int .i64 Ox),.sc (.int .u64 Qm),.sc (.int .u64 I9),.sc (.int .i64 S5),.sc (.bool T8),.sc (.int .u64 BL),.lst false 2 Zt Wx,.sc (.bool Xf),.sc (.int .i64 BZ),.sc (.int .i64 FS)],.sc (.int .i64 1),.sc (.int .i64 0),.sc (.int .i64 7)]) fun HS BM=>Ah BM<|Aa HS fun GX JH=>Dw GX fun IF=>Aa IF fun GB JM=>F5 1 GB fun Xd FZ LC=>Aa JM fun FU Wz=>Ag .i64 FU fun FT=>Aa Wz fun LM HE=>Ag .u64 LM fun DI=>Aa HE fun HZ CW=>Ag .u64 HZ fun Ys=>Aa CW fun BV PR=>Ag .i64 BV fun ON=>Aa PR fun JP NB=>A7 JP fun MX=>Aa NB fun HJ OK=>Ag .u64 HJ fun OD=>Aa OK fun KD OE=>F5 2 KD fun SH II HU=>Aa OE fun PQ TT=>A7 PQ fun PT=>Aa TT fun VT PU=>Ag .i64 VT fun YS=>Aa PU fun TA VQ=>Ag .i64 TA fun WB=>Ah VQ<|Aa JH fun PZ VS=>Ag .i64 PZ fun ZN=>Ah VS<|Gm fu call (fu) ZN FZ LC FT DI Ys ON MX OD II HU PT YS WB):=by cases nn with|zero=>exact absurd E9 (Nat.lt_irrefl 0)|succ nn=>kernel_rfl
theorem Kh (fu:Nat)(call:Al)(nn:Nat)(E9:0<nn)(y0:Int)(y1:Nat)(y2:List PV)(y3 y4:Int)(y5 y6:Int)(y7:Bool)(y8:Int)(y9:Nat)(Ei:List PV)(Es:Bool)(C8 Eu:Int):Gm fu call nn y0 y1 y2 y3 y4 y5 y6 y7 y8 y9 Ei Es C8 Eu=(Ar (call 21 [.agg [.lst false 1 y1 y2,.sc (.int .i64 y3),.sc (.int .u64 y4),.sc (.int .u64 y5),.sc (.int .i64 y6),.sc (.bool y7),.sc (.int .u64 y8),.lst false 2 y9 Ei,.sc (.bool Es),.sc (.int .i64 C8),.sc (.int .i64 Eu)],.sc (.int .i64 3),.sc (.int .i64 2),.sc (.int .i64 8)]) fun YG PN=>Ah PN<|Aa YG fun WP YA=>Dw WP fun VR=>Aa VR fun VX x94=>F5 1 VX fun x95 x96 x97=>Aa x94 fun x98 x99=>Ag .i64 x98 fun HP=>Aa x99 fun AQ GF=>Ag .u64 AQ fun HW=>Aa GF fun Z7 Qq=>Ag .u64 Z7 fun JE=>Aa Qq fun GR GM=>Ag .i64 GR fun GG=>Aa GM fun GW IZ=>A7 GW fun GS=>Aa IZ fun NV IY=>Ag .u64 NV fun DP=>Aa IY fun ST UH=>F5 2 ST fun YC SC SN=>Aa UH fun UC TY=>A7 UC fun QO=>Aa TY fun TK RK=>Ag .i64 TK fun SI=>Aa RK fun UB TD=>Ag .i64 UB fun TJ=>Ah TD<|Aa YA fun RS SA=>Ag .i64 RS fun QU=>Ah SA<|Gf fu call (fu) (y0) QU x96 x97 HP HW JE GG GS DP SC SN QO SI TJ):=by cases nn with|zero=>exact absurd E9 (Nat.lt_irrefl 0)|succ nn=>kernel_rfl
theorem Kc (fu:Nat)(call:Al)(nn:Nat)(E9:0<nn)(y0 y1:Int)(y2:Nat)(y3:List PV)(y4 y5:Int)(y6 y7:Int)(y8:Bool)(y9:Int)(Ei:Nat)(Es:List PV)(C8:Bool)(Eu E6:Int):Gf fu call nn y0 y1 y2 y3 y4 y5 y6 y7 y8 y9 Ei Es C8 Eu E6=(Ar (call 21 [.agg [.lst false 1 y2 y3,.sc (.int .i64 y4),.sc (.int .u64 y5),.sc (.int .u64 y6),.sc (.int .i64 y7),.sc (.bool y8),.sc (.int .u64 y9),.lst false 2 Ei Es,.sc (.bool C8),.sc (.int .i64 Eu),.sc (.int .i64 E6)],.sc (.int .i64 0),.sc (.int .i64 0),.sc (.int .i64 9)]) fun RY RO=>Ah RO<|Aa RY fun QX XY=>Dw QX fun UL=>Aa UL fun RM TZ=>F5 1 RM fun XK PC TQ=>Aa TZ fun UW HQ=>Ag .i64 UW fun VI=>Aa HQ fun TW SV=>Ag .u64 TW fun RZ=>Aa SV fun Ab3 YK=>Ag .u64 Ab3 fun Acy=>Aa YK fun Aci Acw=>Ag .i64 Aci fun Acj=>Aa Acw fun Abn Ab6=>A7 Abn fun Ac4=>Aa Ab6 fun Ac2 Aa4=>Ag .u64 Ac2 fun Ac1=>Aa Aa4 fun Add Acz=>F5 2 Add fun Af6 Adb Abw=>Aa Acz fun Adc Adh=>A7 Adc fun Aid=>Aa Adh fun Ale Ahw=>Ag .i64 Ale fun Ake=>Aa Ahw fun Aji Aho=>Ag .i64 Aji fun Aja=>Ah Aho<|Aa XY fun Ak2 Akr=>Ag .i64 Ak2 fun Ahs=>Ah Akr<|Ge fu call (fu) (y0) (y1) Ahs (y2) (y3) (y4) (y5) (y6) (y7) (y8) (y9) (Ei) (Es) (C8) (Eu) (E6) PC TQ VI RZ Acy Acj Ac4 Ac1 Adb Abw Aid Ake Aja):=by cases nn with|zero=>exact absurd E9 (Nat.lt_irrefl 0)|succ nn=>kernel_rfl
theorem Kt (fu:Nat)(call:Al)(nn:Nat)(E9:0<nn)(y0 y1 y2:Int)(y3:Nat)(y4:List PV)(y5 y6:Int)(y7 y8:Int)(y9:Bool)(Ei:Int)(Es:Nat)(C8:List PV)(Eu:Bool)(E6 Hr:Int)(Ey:Nat)(Gn:List PV)(Nn Rg:Int)(Rj Rk:Int)(Ri:Bool)(Rc:Int)(Ra:Nat)(Q7:List PV)(Rf:Bool)(Rd Rl:Int):Ge fu call nn y0 y1 y2 y3 y4 y5 y6 y7 y8 y9 Ei Es C8 Eu E6 Hr Ey Gn Nn Rg Rj Rk Ri Rc Ra Q7 Rf Rd Rl=(Ar (call 21 [.agg [.lst false 1 y3 y4,.sc (.int .i64 y5),.sc (.int .u64 y6),.sc (.int .u64 y7),.sc (.int .i64 y8),.sc (.bool y9),.sc (.int .u64 Ei),.lst false 2 Es C8,.sc (.bool Eu),.sc (.int .i64 E6),.sc (.int .i64 Hr)],.sc (.int .i64 3),.sc (.int .i64 2),.sc (.int .i64 9)]) fun Aig Ahk=>Ah Ahk<|Aa Aig fun Aj8 Aiu=>Dw Aj8 fun Aha=>Aa Aha fun Alc Aka=>F5 1 Alc fun Anu Ait Ail=>Aa Aka fun Aif Ahn=>Ag .i64 Aif fun Ajl=>Aa Ahn fun Akk Ahd=>Ag .u64 Akk fun Alh=>Aa Ahd fun Aju Aia=>Ag .u64 Aju fun Ai3=>Aa Aia fun Aiq Ajq=>Ag .i64 Aiq fun Ajc=>Aa Ajq fun Ajm Ais=>A7 Ajm fun Ak5=>Aa Ais fun Aih Alb=>Ag .u64 Aih fun Ah9=>Aa Alb fun Ah3 Ak1=>F5 2 Ah3 fun Am4 Ahy Aiv=>Aa Ak1 fun Ajd Ajw=>A7 Ajd fun Ajf=>Aa Ajw fun Akq Ah4=>Ag .i64 Akq fun Akm=>Aa Ah4 fun Aku Ajv=>Ag .i64 Aku fun Ajg=>Ah Ajv<|Aa Aiu fun Aks Akt=>Ag .i64 Aks fun Ai1=>Ah Akt<|Gl fu call (fu) (y0) (y1) (y2) Ai1 (y3) (y4) (y5) (y6) (y7) (y8) (y9) (Ei) (Es) (C8) (Eu) (E6) (Hr) (Ey) (Gn) (Nn) (Rg) (Rj) (Rk) (Ri) (Rc) (Ra) (Q7) (Rf) (Rd) (Rl) Ait Ail Ajl Alh Ai3 Ajc Ak5 Ah9 Ahy Aiv Ajf Akm Ajg):=by cases nn with|zero=>exact absurd E9 (Nat.lt_irrefl 0)|succ nn=>kernel_rfl
theorem Kq (fu:Nat)(call:Al)(nn:Nat)(E9:0<nn)(y0 y1:Int)(y2 y3:Int)(y4:Nat)(y5:List PV)(y6 y7:Int)(y8 y9:Int)(Ei:Bool)(Es:Int)(C8:Nat)(Eu:List PV)(E6:Bool)(Hr Ey:Int)(Gn:Nat)(Nn:List PV)(Rg Rj:Int)(Rk Ri:Int)(Rc:Bool)(Ra:Int)(Q7:Nat)(Rf:List PV)(Rd:Bool)(Rl BK:Int)(BW:Nat)(MG:List PV)(KF OS:Int)(MM OT:Int)(LZ:Bool)(NX:Int)(NE:Nat)(PA:List PV)(OG:Bool)(NN NS:Int):Gl fu call nn y0 y1 y2 y3 y4 y5 y6 y7 y8 y9 Ei Es C8 Eu E6 Hr Ey Gn Nn Rg Rj Rk Ri Rc Ra Q7 Rf Rd Rl BK BW MG KF OS MM OT LZ NX NE PA OG NN NS=(Ar (call 15 [.lst false 3 0 [],.sc (.string (ByteArray.mk #[97,108,105,99,101])),.sc (.string (ByteArray.mk #[117])),.agg [.lst false 1 y4 y5,.sc (.int .i64 y6),.sc (.int .u64 y7),.sc (.int .u64 y8),.sc (.int .i64 y9),.sc (.bool Ei),.sc (.int .u64 Es),.lst false 2 C8 Eu,.sc (.bool E6),.sc (.int .i64 Hr),.sc (.int .i64 Ey)]]) fun Akc Ahr=>Ah Ahr<|Aa Akc fun Ah1 Aj9=>F5 3 Ah1 fun Ao2 Akh Ako=>Aa Aj9 fun Aj2 Ala=>Ag .i64 Aj2 fun Aib=>Ah Ala<|Gh fu call (fu) (y0) (y1) (y2) (y3) Akh Ako Aib (y4) (y5) (y6) (y7) (y8) (y9) (Ei) (Es) (C8) (Eu) (E6) (Hr) (Ey) (Gn) (Nn) (Rg) (Rj) (Rk) (Ri) (Rc) (Ra) (Q7) (Rf) (Rd) (Rl) (BK) (BW) (MG) (KF) (OS) (MM) (OT) (LZ) (NX) (NE) (PA) (OG) (NN) (NS)):=by cases nn with|zero=>exact absurd E9 (Nat.lt_irrefl 0)|succ nn=>kernel_rfl
theorem J9 (fu:Nat)(call:Al)(nn:Nat)(E9:0<nn)(y0 y1:Int)(y2 y3:Int)(y4:Nat)(y5:List PV)(y6:Int)(y7:Nat)(y8:List PV)(y9 Ei:Int)(Es C8:Int)(Eu:Bool)(E6:Int)(Hr:Nat)(Ey:List PV)(Gn:Bool)(Nn Rg:Int)(Rj:Nat)(Rk:List PV)(Ri Rc:Int)(Ra Q7:Int)(Rf:Bool)(Rd:Int)(Rl:Nat)(BK:List PV)(BW:Bool)(MG KF:Int)(OS:Nat)(MM:List PV)(OT LZ:Int)(NX NE:Int)(PA:Bool)(OG:Int)(NN:Nat)(NS:List PV)(y43:Bool)(y44 WL:Int):Gh fu call nn y0 y1 y2 y3 y4 y5 y6 y7 y8 y9 Ei Es C8 Eu E6 Hr Ey Gn Nn Rg Rj Rk Ri Rc Ra Q7 Rf Rd Rl BK BW MG KF OS MM OT LZ NX NE PA OG NN NS y43 y44 WL=(Ar (call 18 [.lst false 3 y4 y5,.sc (.string (ByteArray.mk #[97,108,105,99,101]))]) fun Ahh Ajh=>Ah Ajh<|Aa Ahh fun Ajy Ak9=>Ag .i64 Ajy fun Ahg=>Aa Ak9 fun Aj0 Aij=>A7 Aj0 fun Ak3=>Ah Aij<|Gi fu call (fu) (y0) (y1) (y2) (y3) (y4) (y5) (y6) Ahg Ak3 (y7) (y8) (y9) (Ei) (Es) (C8) (Eu) (E6) (Hr) (Ey) (Gn) (Nn) (Rg) (Rj) (Rk) (Ri) (Rc) (Ra) (Q7) (Rf) (Rd) (Rl) (BK) (BW) (MG) (KF) (OS) (MM) (OT) (LZ) (NX) (NE) (PA) (OG) (NN) (NS) (y43) (y44) (WL)):=by cases nn with|zero=>exact absurd E9 (Nat.lt_irrefl 0)|succ nn=>kernel_rfl
theorem Kz (fu:Nat)(call:Al)(nn:Nat)(E9:0<nn)(y0 y1:Int)(y2 y3:Int)(y4:Nat)(y5:List PV)(y6 y7:Int)(y8:Bool)(y9:Nat)(Ei:List PV)(Es C8:Int)(Eu E6:Int)(Hr:Bool)(Ey:Int)(Gn:Nat)(Nn:List PV)(Rg:Bool)(Rj Rk:Int)(Ri:Nat)(Rc:List PV)(Ra Q7:Int)(Rf Rd:Int)(Rl:Bool)(BK:Int)(BW:Nat)(MG:List PV)(KF:Bool)(OS MM:Int)(OT:Nat)(LZ:List PV)(NX NE:Int)(PA OG:Int)(NN:Bool)(NS:Int)(y43:Nat)(y44:List PV)(WL:Bool)(y46 y47:Int):Gi fu call nn y0 y1 y2 y3 y4 y5 y6 y7 y8 y9 Ei Es C8 Eu E6 Hr Ey Gn Nn Rg Rj Rk Ri Rc Ra Q7 Rf Rd Rl BK BW MG KF OS MM OT LZ NX NE PA OG NN NS y43 y44 WL y46 y47=(Cb (y0==0) (Cb (y1==0) (Cb (y2==37) (Cb (y3==37) (Cb (y6==0) (Cb (!KF) (Cb (WL) (Cb (Ey==10) (Cb ((↑Gn:Int)==2) (Cb (y8) (Cb (y7==0) (Ar (call 17 [.lst false 3 y4 y5,.sc (.int .u64 1),.sc (.string (ByteArray.mk #[98,111,98]))]) fun Ain Ajb=>Ah Ajb<|Aa Ain fun Ai2 Ah6=>Ml 1 Ai2 fun Ah0 Am8=>Ah Ah6<|some (Bg.mk [.sc (.bool ((↑Ah0:Int)==4))] [])) (some (Bg.mk [.sc (.bool false)] []))) (some (Bg.mk [.sc (.bool false)] []))) (some (Bg.mk [.sc (.bool false)] []))) (some (Bg.mk [.sc (.bool false)] []))) (some (Bg.mk [.sc (.bool false)] []))) (some (Bg.mk [.sc (.bool false)] []))) (some (Bg.mk [.sc (.bool false)] []))) (some (Bg.mk [.sc (.bool false)] []))) (some (Bg.mk [.sc (.bool false)] []))) (some (Bg.mk [.sc (.bool false)] []))) (some (Bg.mk [.sc (.bool false)] []))):=by cases nn with|zero=>exact absurd E9 (Nat.lt_irrefl 0)|succ nn=>kernel_rfl
theorem Mi (fu d:Nat):Am C0 prog fu (d+1) Ho []=(fun (call:Al)=>D8 fu call (fu)) (Am C0 prog fu d):=by kernel_rfl
end
section
open Go.Proofs.Try (prog)
open Go.IntKind (wrap)
set_option maxRecDepth 100000
abbrev Jd:FuncId:=20
theorem Qn (fu d:Nat)(a0 a1:Int):Am C0 prog fu (d+1) Jd [.sc (.int .i64 a0),.sc (.int .i64 a1)]=(fun (call:Al)=>Ab (wrap .u64 a0) fun x1=>Ab (wrap .u64 a1) fun x2=>As (decide (x2≠0))<|Ab (Int.tmod x1 x2) fun x3=>Ab (wrap .i64 x3) fun x4=>some (Bg.mk [.sc (.int .i64 x4)] [])) (Am C0 prog fu d):=by kernel_rfl
end
section
open Go.IntKind (wrap)
structure Sd where
 id:List Int
 ht:Int
 root:Int
 model:Int
 fmt:Int
 sh:Bool
 used:Int
 rg:List (Int × Int)
 sus:Bool
 since:Int
 last:Int
def Jg (l:List (Int × Int)):List PV:=l.flatMap fun p=>[.sc (.int .i64 p.1),.sc (.int .i64 p.2)]
theorem G8 (l:List (Int × Int)):(Jg l).length=l.length*2:=by
 induction l with
 |nil=>rfl
 |cons p r ih=>show ([_,_]++Jg r).length=_;rw[QT,ih,MP];simp;omega
theorem QW (p:Int × Int)(r:List (Int × Int)):Jg (p::r)=.sc (.int .i64 p.1) :: .sc (.int .i64 p.2)::Jg r:=rfl
theorem WS (l r:List (Int × Int)):Jg (l++r)=Jg l++Jg r:=List.flatMap_append
def Sd.cells (x:Sd):List PV:=[.lst false 1 x.id.length (At .u8 x.id),.sc (.int .i64 x.ht),.sc (.int .u64 x.root),.sc (.int .u64 x.model),.sc (.int .i64 x.fmt),.sc (.bool x.sh),.sc (.int .u64 x.used),.lst false 2 x.rg.length (Jg x.rg),.sc (.bool x.sus),.sc (.int .i64 x.since),.sc (.int .i64 x.last)]
def Zy (used leaf:Int):Bool:=used.toNat.testBit leaf.toNat
theorem TG {a b:Int}(ha:0<=a)(XV:a<=18446744073709551615)(hb:0<=b)(Dl:b<=18446744073709551615):VG .u64 a b=((a.toNat &&& b.toNat:Nat):Int):=by
 have e:(BitVec.ofInt 64 a &&& BitVec.ofInt 64 b).toNat=a.toNat &&& b.toNat:=by
  rw[BitVec.toNat_and,BitVec.toNat_ofInt,BitVec.toNat_ofInt]
  congr 1<;>omega
 have Sy:a.toNat &&& b.toNat<=a.toNat:=Nat.and_le_left;show wrap .u64 ((BitVec.ofInt 64 a &&& BitVec.ofInt 64 b).toNat:Int)=_;rw[e];exact Cv (by omega) (by omega)
theorem JU {a b:Int}(ha:0<=a)(XV:a<=18446744073709551615)(hb:0<=b)(Dl:b<=18446744073709551615):Te .u64 a b=((a.toNat ||| b.toNat:Nat):Int):=by
 have e:(BitVec.ofInt 64 a ||| BitVec.ofInt 64 b).toNat=a.toNat ||| b.toNat:=by
  rw[BitVec.toNat_or,BitVec.toNat_ofInt,BitVec.toNat_ofInt]
  congr 1<;>omega
 have Bk:a.toNat ||| b.toNat<2 ^ 64:=Nat.or_lt_two_pow (by omega) (by omega)
 show wrap .u64 ((BitVec.ofInt 64 a ||| BitVec.ofInt 64 b).toNat:Int)=_;rw[e];exact Cv (by omega) (by omega)
theorem M7 {n:Nat}(h:n<=15):(2:Nat) ^ n<=32768:=Nat.le_trans (Nat.pow_le_pow_right (by omega) h) (by decide)
theorem Abu {k:Int}(h0:0<=k)(h1:k<=15):F8 .u64 1 k=((2 ^ k.toNat:Nat):Int):=by
 have hp:=M7 (n:=k.toNat) (by omega)
 have e:min k.toNat IntKind.u64.bits=k.toNat:=Nat.min_eq_left (by show k.toNat<=64;omega)
 show wrap .u64 (1*2 ^ (min k.toNat IntKind.u64.bits))=_;rw[e,Int.one_mul,show (2:Int) ^ k.toNat=((2 ^ k.toNat:Nat):Int) by simp]
 generalize 2 ^ k.toNat=m at hp ⊢;exact Cv (by omega) (by omega)
theorem Aes {k:Int}(h0:0<=k)(h1:k<=15):F8 .i64 1 k=((2 ^ k.toNat:Nat):Int):=by
 have hp:=M7 (n:=k.toNat) (by omega)
 have e:min k.toNat IntKind.i64.bits=k.toNat:=Nat.min_eq_left (by show k.toNat<=64;omega)
 show wrap .i64 (1*2 ^ (min k.toNat IntKind.i64.bits))=_;rw[e,Int.one_mul,show (2:Int) ^ k.toNat=((2 ^ k.toNat:Nat):Int) by simp]
 generalize 2 ^ k.toNat=m at hp ⊢;exact wrap_i64 (by omega) (by omega)
theorem YO (a k:Nat):(a &&& 2 ^ k≠0)↔a.testBit k=true:=by
 constructor
 ·intro h;cases hb:a.testBit k
  ·refine absurd (Nat.eq_of_testBit_eq fun i=>?_) h
   rw[Nat.testBit_and,Nat.testBit_two_pow,Nat.zero_testBit];by_cases e:k=i
   ·subst e;simp[hb]
   ·simp[e]
  ·rfl
 ·intro h e;have:=Nat.testBit_and a (2 ^ k) k;rw[e,Nat.zero_testBit,h,Nat.testBit_two_pow] at this;simp at this
theorem NQ {u k:Int}(hu:0<=u)(SR:u<=18446744073709551615)(h0:0<=k)(h1:k<=15):(VG .u64 u (F8 .u64 1 k) != 0)=Zy u k:=by
 have hp:=M7 (n:=k.toNat) (by omega)
 have:=YO u.toNat k.toNat;unfold Zy;rw[Abu h0 h1];generalize 2 ^ k.toNat=m at hp this ⊢;rw[TG hu SR (by omega) (by omega),Y1]
 cases hb:u.toNat.testBit k.toNat
 ·rw[hb] at this;simp only[ne_eq,Bool.false_eq_true,iff_false,Decidable.not_not] at this;rw[this];rfl
 ·rw[hb] at this;simp only[ne_eq,iff_true] at this;simp only[bne_iff_ne,ne_eq];omega
def Xg (u k:Int):Int:=Te .u64 u (F8 .u64 1 k)
theorem Abh {u k:Int}(hu:0<=u)(SR:u<=18446744073709551615)(h0:0<=k)(h1:k<=15):0<=Xg u k∧Xg u k<=18446744073709551615:=by
 have hp:=M7 (n:=k.toNat) (by omega)
 unfold Xg;rw[Abu h0 h1];generalize 2 ^ k.toNat=m at hp ⊢;rw[JU hu SR (by omega) (by omega)]
 have Bk:u.toNat ||| ((m:Nat):Int).toNat<2 ^ 64:=Nat.or_lt_two_pow (by omega) (by omega)
 omega
theorem SL {u k j:Int}(hu:0<=u)(SR:u<=18446744073709551615)(h0:0<=k)(h1:k<=15)(hj:0<=j):Zy (Xg u k) j=(Zy u j||decide (j=k)):=by
 have hp:=M7 (n:=k.toNat) (by omega)
 unfold Xg Zy
 have e:Te .u64 u ((2 ^ k.toNat:Nat):Int)=((u.toNat ||| 2 ^ k.toNat:Nat):Int):=by
  generalize 2 ^ k.toNat=m at hp ⊢;rw[JU hu SR (by omega) (by omega),Y1]
 rw[Abu h0 h1,e,Y1,Nat.testBit_or,Nat.testBit_two_pow]
 congr 1
 rw[Bool.eq_iff_iff];simp only[decide_eq_true_eq];omega
def put (f lf:Int):List (Int × Int)->Option (List (Int × Int))
 |[]=>some [(f,lf)]
 |p::r=>if p.1<f then (put f lf r).map (p :: ·) else if p.1=f then (if lf<=p.2 then none else some ((f,lf)::r)) else some ((f,lf)::p::r)
def Asc:List (Int × Int)->Prop
 |[]=>True
 |p::r=>(∀q∈r,p.1<q.1)∧Asc r
def L8 (c:Sd)(leaf from_:Int):Bool:=decide (c.ht<0)||decide (c.ht>4)||decide (from_<0)||decide (from_>leaf)||decide (leaf>=F8 .i64 1 c.ht)
def N7 (c:Sd)(leaf from_ now:Int):Sd × Int:=
 if L8 c leaf from_=true then (c,9)
 else if c.sus=true then (c,39)
 else if Zy c.used leaf=true then ({ c with sus:=true },37)
 else match put from_ leaf c.rg with
  |none=>(c,37)
  |some r=>({ c with used:=Xg c.used leaf,rg:=r,last:=now },0)
structure Sd.ok (c:Sd):Prop where
 idB:Rh c.id
 idL:c.id.length<=1000000
 u0:0<=c.used
 u1:c.used<=18446744073709551615
 asc:Asc c.rg
 rgn:c.rg.length<=1000
theorem HI {c:Sd}{leaf from_:Int}(h:L8 c leaf from_=false):0<=from_∧from_<=leaf∧leaf<=15∧0<=c.ht∧c.ht<=4∧leaf<((2 ^ c.ht.toNat:Nat):Int):=by
 unfold L8 at h;simp only[Bool.or_eq_false_iff,decide_eq_false_iff_not] at h;obtain⟨⟨⟨⟨h1,h2⟩,h3⟩,h4⟩,h5⟩:=h;rw[Aes (by omega) (by omega)] at h5
 have hp:(2:Nat) ^ c.ht.toNat<=2 ^ 4:=Nat.pow_le_pow_right (by omega) (by omega)
 have h16:(2:Nat) ^ 4=16:=by decide
 omega
end
section
open Go.Proofs.Try (prog)
open Go.IntKind (wrap)
set_option maxRecDepth 100000
theorem CO {α:Type}{l:List α}{i:Nat}{a:α}(h:l[i]?=some a):l.set i a=l:=by
 refine List.ext_getElem? fun j=>?_
 rw[List.getElem?_set];by_cases hj:i=j
 ·subst hj;rw[Oa rfl,Oa (Jx h),h]
 ·rw[L0 hj]
section
variable {xs:FuncId->Option (List PV->Option Bg)} {fu d:Nat}
theorem Ym {n:Nat}{c:List PV}(hc:c.length=n)(hn:n<=1000000):Am (CX xs) prog fu (d+1) Od [.lst false 1 n c]=some ⟨[.own 1 n c],[]⟩:=by
 rw[Xj];have t1:List.take n c=c:=Q9 (by omega)
 by_cases h:0<n
 ·simp (disch:=omega) only[Ds,T9,Zzq,t1,hc,Kb]
 ·have h0:n=0:=by omega
  subst h0;have:=List.length_eq_zero_iff.1 hc;subst this;simp (disch:=omega) only[Ds,T9,Zzq,List.length_nil,Kb,Nat.zero_mul,List.take_nil]
theorem LV {n:Nat}{c:List PV}(hc:c.length=n*2)(hn:n<=1000000):Am (CX xs) prog fu (d+1) Hk [.lst false 2 n c]=some ⟨[.own 2 n c],[]⟩:=by
 rw[M3];have t1:List.take (n*2) c=c:=Q9 (by omega)
 by_cases h:0<n
 ·simp (disch:=omega) only[Ds,T9,Zzq,t1,hc]
 ·have h0:n=0:=by omega
  subst h0;have:=List.length_eq_zero_iff.1 hc;subst this;simp (disch:=omega) only[Ds,T9,Zzq,List.length_nil,Nat.zero_mul,List.take_nil]
def Sd.ocells (x:Sd):List PV:=[.own 1 x.id.length (At .u8 x.id),.sc (.int .i64 x.ht),.sc (.int .u64 x.root),.sc (.int .u64 x.model),.sc (.int .i64 x.fmt),.sc (.bool x.sh),.sc (.int .u64 x.used),.own 2 x.rg.length (Jg x.rg),.sc (.bool x.sus),.sc (.int .i64 x.since),.sc (.int .i64 x.last)]
theorem Om {c:Sd}(h1:c.id.length<=1000000)(h2:c.rg.length<=1000000):Am (CX xs) prog fu (d+2) Hf [.agg c.cells]=some ⟨[.agg c.ocells],[]⟩:=by
 refine (M1 fu (d+1) c.id.length (At .u8 c.id) c.ht c.root c.model c.fmt c.sh c.used c.rg.length (Jg c.rg) c.sus c.since c.last).trans ?_;have q1:=Ym (xs:=xs) (fu:=fu) (d:=d) (Bf .u8 c.id) h1;have q2:=LV (xs:=xs) (fu:=fu) (d:=d) (G8 c.rg) h2;have l1:=Bf .u8 c.id;have l2:=G8 c.rg;have t1:List.take (c.id.length*1) (At .u8 c.id)=At .u8 c.id:=Q9 (by omega)
 have t2:List.take (c.rg.length*2) (Jg c.rg)=Jg c.rg:=Q9 (by omega)
 simp (disch:=omega) only[Ds,q1,q2,t1,t2];rfl
end
section
variable {fu d:Nat}
theorem OY {c:List PV}{n:Nat}{i f l:Int}(hc:c.length=n*2)(h0:0<=i)(h1:i<=n)(hn:n<=100000)(ha:c.all Wj=true):
  Am C0 prog fu (d+1) 45 [.own 2 n c,.sc (.int .i64 i),.tup [.own 2 1 [.sc (.int .i64 f),.sc (.int .i64 l)]]] =
   some ⟨[.own 2 (n+1) (c.take (i.toNat*2)++(.sc (.int .i64 f) :: .sc (.int .i64 l)::c.drop (i.toNat*2)))],[[.sc (.int .i64 f),.sc (.int .i64 l)]]⟩:=by
 have h:Am C0 prog fu (d+1) 45 [.own 2 n c,.sc (.int .i64 i),.tup [.own 2 1 [.sc (.int .i64 f),.sc (.int .i64 l)]]]=QK [.own 2 n c,.sc (.int .i64 i),.tup [.own 2 1 [.sc (.int .i64 f),.sc (.int .i64 l)]]]:=by kernel_rfl
 rw[h];unfold QK
 have e:(Nat.beq c.length (n*2)&&decide (0<=i)&&decide (i<=n)&&Nat.ble n 100000&&c.all Wj)=true:=by
  simp[ha,hc,h0,h1,hn]
 simp only[e,cond_true]
theorem ZJ (l:List (Int × Int)):(Jg l).all Wj=true:=by
 rw[List.all_eq_true];intro x hx;obtain⟨p,_,hp⟩:=List.mem_flatMap.1 hx;rcases List.mem_cons.1 hp with rfl|hp
 ·rfl
 ·rw[List.mem_singleton] at hp;subst hp;rfl
theorem Ai9 {l:List (Int × Int)} {i:Nat}{p:Int × Int}(h:l[i]?=some p):(Jg l).getD (i*2) .top=.sc (.int .i64 p.1):=by
 have:=Ve (f:=fun p:Int × Int=>[PV.sc (.int .i64 p.1),.sc (.int .i64 p.2)]) (k:=2) (fun _=>rfl) h (j:=0) (by omega)
 exact this
theorem Aie {l:List (Int × Int)} {i:Nat}{p:Int × Int}(h:l[i]?=some p):(Jg l).getD (i*2+1) .top=.sc (.int .i64 p.2):=by
 have:=Ve (f:=fun p:Int × Int=>[PV.sc (.int .i64 p.1),.sc (.int .i64 p.2)]) (k:=2) (fun _=>rfl) h (j:=1) (by omega)
 exact this
def Zk (c:Sd)(leaf now:Int):Option (List (Int × Int))->Bg
 |none=>⟨[.agg c.cells,.sc (.int .i64 37)],[]⟩
 |some r=>⟨[.agg ({ c with used:=Xg c.used leaf,rg:=r,last:=now }:Sd).cells,.sc (.int .i64 0)],[]⟩
theorem SX {c:Sd}{leaf from_ now:Int}(hl:0<=leaf∧leaf<=15)(hr:c.rg.length<=1000)(Ax:c.id.length<=1000000){call:Al}
  (WJ:∀i:Nat,i<=c.rg.length->call 45 [.own 2 c.rg.length (Jg c.rg),.sc (.int .i64 (i:Int)),.tup [.own 2 1 [.sc (.int .i64 from_),.sc (.int .i64 leaf)]]]=some ⟨[.own 2 (c.rg.length+1) ((Jg c.rg).take (i*2)++(.sc (.int .i64 from_) :: .sc (.int .i64 leaf)::(Jg c.rg).drop (i*2)))],[[.sc (.int .i64 from_),.sc (.int .i64 leaf)]]⟩)
  {B5:Nat} {a0:List PV} {a1 a2 a3 a4 a6 a9 a10 b1 b2 b3:Int} {a5 a8:Bool} {a7n:Nat} {a7:List PV} {z1:Nat} {z2 z3 z4 z5 z7 z10 z11:Int} {z6 z9:Bool} {z8:Nat} {z12 z13:List PV}:
  ∀(r:List (Int × Int)) (i nn:Nat),c.rg.drop i=r->r.length<nn->i<=c.rg.length->(∀p∈c.rg.take i,p.1<from_) ->
   Eb fu call B5 a0 a1 a2 a3 a4 a5 a6 a7n a7 a8 a9 a10 b1 b2 b3 nn leaf from_ now (F8 .u64 1 leaf) (i:Int) c.id.length c.ht c.root c.model c.fmt c.sh c.used c.rg.length c.sus c.since c.last (At .u8 c.id) (Jg c.rg) z1 z2 z3 z4 z5 z6 z7 z8 z9 z10 z11 z12 z13 =
    some (Zk c leaf now ((put from_ leaf r).map (c.rg.take i ++ ·))):=by
 intro r;have l1:=Bf .u8 c.id;have l2:=G8 c.rg;have t1:List.take (c.id.length*1) (At .u8 c.id)=At .u8 c.id:=Q9 (by omega)
 have t2:List.take (c.rg.length*2) (Jg c.rg)=Jg c.rg:=Q9 (by omega)
 have eS:Te .u64 c.used (F8 .u64 1 leaf)=Xg c.used leaf:=rfl
 have insR:∀(i:Nat) (s:List (Int × Int)),i<=c.rg.length->c.rg.drop i=s->(Jg c.rg).take (i*2)++(.sc (.int .i64 from_) :: .sc (.int .i64 leaf)::(Jg c.rg).drop (i*2))=Jg (c.rg.take i++(from_,leaf)::s):=by
  intro i s hi hs;have e1:=Zl (f:=fun p:Int × Int=>[PV.sc (.int .i64 p.1),.sc (.int .i64 p.2)]) (k:=2) (fun _=>rfl) c.rg i
  have e2:=Uh (f:=fun p:Int × Int=>[PV.sc (.int .i64 p.1),.sc (.int .i64 p.2)]) (k:=2) (fun _=>rfl) c.rg i
  rw[WS,QW,←hs];unfold Jg;rw[e1,e2]
 have setR:∀(i:Nat) (l:List (Int × Int)) (p:Int × Int),l[i]?=some p->A0 (Jg l) [.sc (.int .i64 leaf)] (0+i*2+1)=Jg (l.set i (p.1,leaf)):=by
  intro i l p h;have Bk:=Jx h;have BP:=G8 l;rw[Vr (by omega)]
  have:=GP (f:=fun p:Int × Int=>[PV.sc (.int .i64 p.1),.sc (.int .i64 p.2)]) (k:=2) (fun _=>rfl) (p:=.sc (.int .i64 leaf)) (j:=1) (by omega) (y:=(p.1,leaf)) h rfl
  unfold Jg;rw[←this]
  congr 1
  omega
 induction r with
 |nil=>
  intro i nn hd E9 hi hp;have AA:i=c.rg.length:=by have:=drop_nil hd;omega
  obtain⟨nn,rfl⟩:∃k,nn=k+1:=⟨nn-1,by omega⟩
  rw[H6];have q:=WJ i hi;have eI:=insR i [] hi hd;rw[eI] at q;have ht:c.rg.take i=c.rg:=Q9 (by omega)
  rw[ht] at q;have eG:(c.rg++[(from_,leaf)])[i]?=some (from_,leaf):=by rw[AA];simp
  have eS2:=setR i _ _ eG;have eS3:=CO eG;rw[eS3] at eS2;have lR:=G8 (c.rg++[(from_,leaf)]);have lA:(c.rg++[(from_,leaf)]).length=c.rg.length+1:=by simp
  have tR:List.take ((c.rg.length+1)*2) (Jg (c.rg++[(from_,leaf)]))=Jg (c.rg++[(from_,leaf)]):=Q9 (by omega)
  have eq1:((i:Int)==(c.rg.length:Int))=true:=by simp[AA]
  have tn:Int.toNat (i:Int)=i:=rfl;have eX:put from_ leaf []=some [(from_,leaf)]:=rfl;rw[eX];simp only[Option.map_some,ht]
  try unfold Ab
  repeat first
   |((with_reducible first|apply Wc|apply Qa|apply Wf|apply WW|apply ES|apply Acn|apply Ps|apply Uw|apply Wg);· first|with_reducible rfl|(simp (disch:=omega) only[gT,q,t1,t2,tR,eS,eS2,eq1,tn,Sp,lR,lA]<;>first|with_reducible rfl|omega)|omega)
   |(with_reducible apply Vu;· first|with_reducible rfl|(simp (disch:=omega) only[gF,q,t1,t2,tR,eS,eS2,eq1,tn,Sp,lR,lA]<;>omega))
  try simp (disch:=omega) only[q,t1,t2,tR,eS,eS2,eq1,tn,Sp,lR,lA]
  simp only[Zk,Sd.cells,lA]
 |cons p r ih=>
  intro i nn hd E9 hi hp;obtain⟨Bk,Fz,hd'⟩:=Il hd;obtain⟨nn,rfl⟩:∃k,nn=k+1:=⟨nn-1,by omega⟩
  rw[H6];have eF:=Ai9 Fz;have eL:=Aie Fz;have tn:Int.toNat (i:Int)=i:=rfl;have a0':(0:Nat)+i*2+0=i*2:=by omega
  have a1':(0:Nat)+i*2+1=i*2+1:=by omega
  have lt1:decide ((i:Int)<(c.rg.length:Int))=true:=by simp;omega
  have ne1:((i:Int)==(c.rg.length:Int))=false:=by simp;omega
  have w1:wrap .i64 ((i:Int)+1)=((i+1:Nat):Int):=by rw[wrap_i64 (by omega) (by omega)];omega
  have tk:c.rg.take (i+1)=c.rg.take i++[p]:=by rw[List.take_add_one,Fz];rfl
  unfold put;by_cases c1:p.1<from_
  ·rw[Oa c1]
   have ihh:=ih (i+1) nn hd' (by simp at E9;omega) (by omega) (by
    intro q hq;rw[tk] at hq;rcases List.mem_append.1 hq with hq|hq
    ·exact hp q hq
    ·rw[List.mem_singleton] at hq;subst hq;exact c1)
   have e:((put from_ leaf r).map (p :: ·)).map (c.rg.take i ++ ·)=(put from_ leaf r).map (c.rg.take (i+1) ++ ·):=by
    rw[Option.map_map,tk]
    congr 1
    funext x
    simp
   rw[e,←ihh];have d1:decide (p.1<from_)=true:=by simp[c1]
   simp (disch:=omega) only[Ds,tn,a0',eF,w1,lt1,d1]
  ·rw[L0 c1];have d1:decide (p.1<from_)=false:=by simp;omega
   by_cases c2:p.1=from_
   ·rw[Oa c2];have d2:(p.1 != from_)=false:=by simp[c2]
    by_cases c3:leaf<=p.2
    ·rw[Oa c3];have d3:decide (p.2>=leaf)=true:=by simp;omega
     simp (disch:=omega) only[Ds,tn,a0',a1',eF,eL,lt1,d1,ne1,d2,d3,t1,t2,Sp,Option.map_none];rfl
    ·rw[L0 c3];have d3:decide (p.2>=leaf)=false:=by simp;omega
     have eS2:=setR i _ _ Fz;have lR:=G8 (c.rg.set i (p.1,leaf));have lA:(c.rg.set i (p.1,leaf)).length=c.rg.length:=by simp
     have eA:c.rg.set i (p.1,leaf)=c.rg.take i++(from_,leaf)::r:=by
      rw[List.set_eq_take_append_cons_drop,Oa Bk,hd',c2]
     have tR:List.take (c.rg.length*2) (Jg (c.rg.set i (p.1,leaf)))=Jg (c.rg.set i (p.1,leaf)):=Q9 (by omega)
     rw[a1'] at eS2;have hS3:i*2+1+1<=(Jg c.rg).length:=by omega
     simp (disch:=omega) only[Ds,tn,a0',a1',eF,eL,lt1,d1,ne1,d2,d3,t1,tR,Sp,Option.map_some,eS2,eS,lR,lA];simp only[Zk,Sd.cells,←eA,lA]
   ·rw[L0 c2];have d2:(p.1 != from_)=true:=by simp[c2]
    have q:=WJ i hi;have eI:=insR i (p::r) hi hd;rw[eI] at q
    have eG:(c.rg.take i++(from_,leaf)::p::r)[i]?=some (from_,leaf):=by
     rw[List.getElem?_append_right (by rw[List.length_take];omega),List.length_take,Nat.min_eq_left (by omega),Nat.sub_self];rfl
    have eS2:=setR i _ _ eG;have eS3:=CO eG;rw[eS3] at eS2
    have lA:(c.rg.take i++(from_,leaf)::p::r).length=c.rg.length+1:=by
     have:=congrArg List.length hd;simp at this ⊢;omega
    have lR:=G8 (c.rg.take i++(from_,leaf)::p::r);rw[Option.map_some];generalize hL:c.rg.take i++(from_,leaf)::p::r=L at *
    have tR:List.take ((c.rg.length+1)*2) (Jg L)=Jg L:=Q9 (by omega)
    rw[a1'] at eS2;have hS3:i*2+1+1<=(Jg L).length:=by omega
    simp (disch:=omega) only[Ds,tn,a0',a1',eF,lt1,d1,ne1,d2,t1,t2,q,tR,Sp,eS2,eS,lR,lA];simp only[Zk,Sd.cells,lA]
theorem Fk {c:Sd}(hk:c.ok)(D6:2000<=fu)(leaf from_ now:Int):Am C0 prog fu (d+4) Km [.agg c.cells,.sc (.int .i64 leaf),.sc (.int .i64 from_),.sc (.int .i64 now)]=some ⟨[.agg (N7 c leaf from_ now).1.cells,.sc (.int .i64 (N7 c leaf from_ now).2)],[]⟩:=by
 refine (Rm fu (d+3) c.id.length (At .u8 c.id) c.ht c.root c.model c.fmt c.sh c.used c.rg.length (Jg c.rg) c.sus c.since c.last leaf from_ now).trans ?_;have q:=Om (xs:=Fl) (fu:=fu) (d:=d+1) hk.idL (Nat.le_trans hk.rgn (by omega))
 simp only[Sd.cells,Sd.ocells] at q;have l1:=Bf .u8 c.id;have l2:=G8 c.rg;have t1:List.take (c.id.length*1) (At .u8 c.id)=At .u8 c.id:=Q9 (by omega)
 have t2:List.take (c.rg.length*2) (Jg c.rg)=Jg c.rg:=Q9 (by omega)
 simp (disch:=omega) only[Ds,q,t1,t2,Sp,l1,l2];by_cases h1:c.ht<0
 ·have hb:L8 c leaf from_=true:=by simp[L8,h1]
  unfold N7;rw[Oa hb];simp (disch:=omega) only[Ds];rfl
 by_cases h2:c.ht>4
 ·have hb:L8 c leaf from_=true:=by simp[L8,h2]
  unfold N7;rw[Oa hb];simp (disch:=omega) only[Ds];rfl
 by_cases h3:from_<0
 ·have hb:L8 c leaf from_=true:=by simp[L8,h3]
  unfold N7;rw[Oa hb];simp (disch:=omega) only[Ds];rfl
 by_cases h4:from_>leaf
 ·have hb:L8 c leaf from_=true:=by simp[L8,h4]
  unfold N7;rw[Oa hb];simp (disch:=omega) only[Ds];rfl
 by_cases h5:leaf>=F8 .i64 1 c.ht
 ·have hb:L8 c leaf from_=true:=by simp[L8,h5]
  unfold N7;rw[Oa hb];simp (disch:=omega) only[Ds];rfl
 have hb:L8 c leaf from_=false:=by simp[L8,h1,h2,h3,h4,h5]
 obtain⟨r1,r2,r3,r4,r5,r6⟩:=HI hb;unfold N7;rw[L0 (by rw[hb];simp)]
 simp (disch:=omega) only[Ds];rw[Nu (E9:=by omega)]
 have ub:=NQ hk.u0 hk.u1 (k:=leaf) (by omega) (by omega)
 by_cases hs:c.sus=true
 ·have hsT:∀x y:Option Bg,Cb c.sus x y=x:=fun x y=>by rw[hs];rfl
  rw[Oa hs];simp (disch:=omega) only[Ds,hsT,t1,t2,Sp];rfl
 ·have hsF:∀x y:Option Bg,Cb c.sus x y=y:=fun x y=>by rw[Bool.not_eq_true] at hs;rw[hs];rfl
  rw[L0 hs];by_cases Nr:Zy c.used leaf=true
  ·rw[Nr] at ub;rw[Oa Nr];simp (disch:=omega) only[Ds,hsF,ub,t1,t2,Sp];rfl
  ·rw[Bool.not_eq_true] at Nr;rw[Nr] at ub;rw[L0 (by simp[Nr])]
   simp (disch:=omega) only[Ds,hsF,ub];refine (SX (c:=c) (leaf:=leaf) (from_:=from_) (now:=now) (by omega) hk.rgn hk.idL (fun i hi=>OY (G8 _) (by omega) (by omega) (by have:=hk.rgn;omega) (ZJ _)) c.rg 0 fu rfl (by have:=hk.rgn;omega) (by omega) (by simp)).trans ?_
   have e0:(Option.map (List.take 0 c.rg ++ ·) (put from_ leaf c.rg))=put from_ leaf c.rg:=by
    rw[List.take_zero];cases put from_ leaf c.rg<;>rfl
   rw[e0];cases put from_ leaf c.rg<;>rfl
end
end
section
open Go.Proofs.Try (prog)
open Go.IntKind (wrap)
set_option maxRecDepth 100000
theorem WG {a b:List Int}(ha:Rh a)(hb:Rh b):Rh (a++b):=by
 intro x hx;rcases List.mem_append.1 hx with hx|hx
 ·exact ha x hx
 ·exact hb x hx
def Xp (key nonce:Int):Nat->Nat->List Int
 |_,0=>[]
 |i,k+1=>Ee (AG key 5 (Bd [nonce,(i:Int)]))++Xp key nonce (i+1) k
def Ph (key nonce:Int)(n:Nat):List Int:=(Xp key nonce 0 ((n+7) / 8)).take n
theorem EK (key nonce:Int):∀(k i:Nat),(Xp key nonce i k).length=8*k
 |0,_=>rfl
 |k+1,i=>by show (Ee _++_).length=_;rw[QT,Dd,EK key nonce k];omega
theorem SF (key nonce:Int):∀(k i:Nat),Rh (Xp key nonce i k)
 |0,_=>fun x hx=>by cases hx
 |k+1,i=>WG (LQ _) (SF key nonce k _)
theorem I4 (key nonce:Int)(n:Nat):(Ph key nonce n).length=n:=by
 unfold Ph;rw[List.length_take,EK];omega
theorem Aby (key nonce:Int)(n:Nat):Rh (Ph key nonce n):=(SF key nonce _ _).take n
section
variable {fu d:Nat}
theorem JL {xs:FuncId->Option (List PV->Option Bg)} {l:List Int}(hb:Rh l)(hl:l.length<=1099511627776)(D6:100<=fu)(hf:l.length<fu)(key dom:Int):Am (CX xs) prog fu (d+5) Q6 [.sc (.int .u64 key),.sc (.int .i64 dom),.lst false 1 l.length (At .u8 l)]=some ⟨[.sc (.int .u64 (AG key dom l))],[]⟩:=by
 rw[AD];have s:=Abl (xs:=xs) (fu:=fu) (d:=d) hb hl D6 hf key (wrap .u64 (1+wrap .u64 dom));simp only[Ds,s];rfl
theorem MZ (D6:1000<=fu){a0 a1 a2:Int}{key nonce:Int}{n:Nat}(hn:n<=1024):∀(k nn i:Nat)(l:List Int),n<=8*(i+k)->8*(i+k)<n+8->k<nn->l.length=8*i ->
  F6 fu (Am C0 prog fu (d+5)) a0 a1 a2 nn key nonce (n:Int) l.length i (At .u8 l)=some ⟨[.own 1 n (At .u8 ((l++Xp key nonce i k).take n))],[]⟩:=by
 intro k
 induction k with
 |zero=>
  intro nn i l h1 Ur h2 h3;obtain⟨m,rfl⟩:∃m,nn=m+1:=⟨nn-1,by omega⟩
  have L:=Bf .u8 l;have nt:Int.toNat (n:Int)=n:=Y1 _;rw[K0,Xp,List.append_nil]
  try unfold Ab
  repeat first
   |((with_reducible first|apply Wc|apply Qa|apply Wf|apply ES|apply Ps|apply Uw|apply Wg);· first|with_reducible rfl|(simp (disch:=omega) only[gT,L,nt,Nat.sub_zero,Kb,Gs]<;>first|with_reducible rfl|omega)|omega)
   |(with_reducible apply Vu;· first|with_reducible rfl|(simp (disch:=omega) only[gF,L,nt,Nat.sub_zero,Kb,Gs]<;>omega))
  try simp (disch:=omega) only[L,nt,Nat.sub_zero,Kb,Gs]
 |succ k ih=>
  intro nn i l h1 Ur h2 h3;obtain⟨m,rfl⟩:∃m,nn=m+1:=⟨nn-1,by omega⟩
  have L:=Bf .u8 l;have nt:Int.toNat (n:Int)=n:=Y1 _;have Bk:l.length<n:=by omega
  have w2:wrap .u64 ((i:Int)+1)=((i+1:Nat):Int):=by rw[Cv (by omega) (by omega)];omega
  have wd:Am C0 prog fu (d+5) Fx [.lst false 1 2 [.sc (.int .u64 nonce),.sc (.int .u64 i)]]=some ⟨[.own 1 (Bd [nonce,(i:Int)]).length (At .u8 (Bd [nonce,(i:Int)]))],[]⟩:=CJ (xs:=Fl) (ws:=[nonce,i]) (by simp) (by omega) (by simp;omega)
  have mc:=JL (xs:=Fl) (fu:=fu) (d:=d) (l:=Bd [nonce,i]) (DN _) (by rw[Le];simp) (by omega) (by rw[Le];simp;omega) key 5
  have L2:=Bf .u8 (Bd [nonce,i]);have t2:=ZG .u8 (Bd [nonce,i]);rw[Xp];generalize AG key 5 (Bd [nonce,i])=q at mc ⊢;have ow:Am C0 prog fu (d+5) Fx [.lst false 1 1 [.sc (.int .u64 q)]]=some ⟨[.own 1 (Bd [q]).length (At .u8 (Bd [q]))],[]⟩:=CJ (xs:=Fl) (ws:=[q]) (by simp) (by omega) (by simp;omega)
  have eq1:Bd [q]=Ee q:=by simp[Bd]
  rw[eq1,Dd] at ow;have Lq:(At .u8 (Ee q)).length=8:=by rw[Bf,Dd]
  have tq:List.take 8 (At .u8 (Ee q))=At .u8 (Ee q):=Q9 (by omega)
  have tl:=ZG .u8 l;have ea:At .u8 l++At .u8 (Ee q)=At .u8 (l++Ee q):=by rw[At,At,At,List.flatMap_append]
  have r3:=ih m (i+1) (l++Ee q) (by omega) (by omega) (by omega) (by rw[QT,Dd];omega)
  rw[QT,Dd,XC] at r3;rw[←r3,K0];generalize Bd [nonce,(i:Int)]=W at *
  generalize W.length=wn at *
  try unfold Ab
  repeat first
   |((with_reducible first|apply Wc|apply Qa|apply Wf|apply ES|apply Ps|apply Uw|apply Wg);· first|with_reducible rfl|(simp (disch:=omega) only[gT,w2,wd,Sp,T9,Kb,L,L2,t2,mc,ow,Lq,tq,tl,ea]<;>first|with_reducible rfl|omega)|omega)
   |(with_reducible apply Vu;· first|with_reducible rfl|(simp (disch:=omega) only[gF,w2,wd,Sp,T9,Kb,L,L2,t2,mc,ow,Lq,tq,tl,ea]<;>omega))
  try simp (disch:=omega) only[w2,wd,Sp,T9,Kb,L,L2,t2,mc,ow,Lq,tq,tl,ea]
  all_goals rfl
theorem WR (D6:1000<=fu)(key nonce:Int){n:Nat}(hn:n<=1024):Am C0 prog fu (d+6) J2 [.sc (.int .u64 key),.sc (.int .u64 nonce),.sc (.int .i64 n)]=some ⟨[.own 1 n (At .u8 (Ph key nonce n))],[]⟩:=by
 rw[Xl];have f1:(if (n:Int)<0 then (0:Int) else (n:Int))=n:=L0 (by omega)
 have f2:(if (1024:Int)<(n:Int) then (1024:Int) else (n:Int))=n:=L0 (by omega)
 have w:wrap .i64 ((n:Int)+8)=(n:Int)+8:=wrap_i64 (by omega) (by omega)
 simp (disch:=omega) only[Ds,f1,f2,w];exact MZ D6 hn ((n+7) / 8) fu 0 [] (by omega) (by omega) (by omega) rfl
theorem IC (D6:1000<=fu){a0 a1 a2:Int}{key nonce:Int}{n:Nat}(hn:n<=1024):∀(k nn i:Nat)(l:List Int),n<=8*(i+k)->8*(i+k)<n+8->k<nn->l.length=8*i ->
  C5 fu (Am C0 prog fu (d+4)) a0 a1 a2 nn key nonce (n:Int) l.length i (At .u8 l)=some ⟨[.own 1 n (At .u8 ((l++Xp key nonce i k).take n))],[]⟩:=by
 intro k
 induction k with
 |zero=>
  intro nn i l h1 Ur h2 h3;obtain⟨m,rfl⟩:∃m,nn=m+1:=⟨nn-1,by omega⟩
  have L:=Bf .u8 l;have nt:Int.toNat (n:Int)=n:=Y1 _;rw[Fi,Xp,List.append_nil]
  try unfold Ab
  repeat first
   |((with_reducible first|apply Wc|apply Qa|apply Wf|apply ES|apply Ps|apply Uw|apply Wg);· first|with_reducible rfl|(simp (disch:=omega) only[gT,L,nt,Nat.sub_zero,Kb,Gs]<;>first|with_reducible rfl|omega)|omega)
   |(with_reducible apply Vu;· first|with_reducible rfl|(simp (disch:=omega) only[gF,L,nt,Nat.sub_zero,Kb,Gs]<;>omega))
  try simp (disch:=omega) only[L,nt,Nat.sub_zero,Kb,Gs]
 |succ k ih=>
  intro nn i l h1 Ur h2 h3;obtain⟨m,rfl⟩:∃m,nn=m+1:=⟨nn-1,by omega⟩
  have L:=Bf .u8 l;have nt:Int.toNat (n:Int)=n:=Y1 _;have Bk:l.length<n:=by omega
  have w1:wrap .u64 (i:Int)=(i:Int):=Cv (by omega) (by omega)
  have w2:wrap .i64 ((i:Int)+1)=((i+1:Nat):Int):=by rw[wrap_i64 (by omega) (by omega)];omega
  have wd:Am C0 prog fu (d+4) Dm [.lst false 1 2 [.sc (.int .u64 nonce),.sc (.int .u64 i)]]=some ⟨[.own 1 (Bd [nonce,(i:Int)]).length (At .u8 (Bd [nonce,(i:Int)]))],[]⟩:=Yg (xs:=Fl) (ws:=[nonce,i]) (by simp) (by omega) (by simp;omega)
  have mc:=YI (xs:=Fl) (fu:=fu) (d:=d) (l:=Bd [nonce,i]) (DN _) (by rw[Le];simp) (by omega) (by rw[Le];simp;omega) key 5
  have L2:=Bf .u8 (Bd [nonce,i]);have t2:=ZG .u8 (Bd [nonce,i]);rw[Xp];generalize AG key 5 (Bd [nonce,i])=q at mc ⊢;have ow:Am C0 prog fu (d+4) Dm [.lst false 1 1 [.sc (.int .u64 q)]]=some ⟨[.own 1 (Bd [q]).length (At .u8 (Bd [q]))],[]⟩:=Yg (xs:=Fl) (ws:=[q]) (by simp) (by omega) (by simp;omega)
  have eq1:Bd [q]=Ee q:=by simp[Bd]
  rw[eq1,Dd] at ow;have Lq:(At .u8 (Ee q)).length=8:=by rw[Bf,Dd]
  have tq:List.take 8 (At .u8 (Ee q))=At .u8 (Ee q):=Q9 (by omega)
  have tl:=ZG .u8 l;have ea:At .u8 l++At .u8 (Ee q)=At .u8 (l++Ee q):=by rw[At,At,At,List.flatMap_append]
  have r3:=ih m (i+1) (l++Ee q) (by omega) (by omega) (by omega) (by rw[QT,Dd];omega)
  rw[QT,Dd,XC] at r3;rw[←r3,Fi];generalize Bd [nonce,(i:Int)]=W at *
  generalize W.length=wn at *
  try unfold Ab
  repeat first
   |((with_reducible first|apply Wc|apply Qa|apply Wf|apply ES|apply Ps|apply Uw|apply Wg);· first|with_reducible rfl|(simp (disch:=omega) only[gT,w1,w2,wd,Sp,T9,Kb,L,L2,t2,mc,ow,Lq,tq,tl,ea]<;>first|with_reducible rfl|omega)|omega)
   |(with_reducible apply Vu;· first|with_reducible rfl|(simp (disch:=omega) only[gF,w1,w2,wd,Sp,T9,Kb,L,L2,t2,mc,ow,Lq,tq,tl,ea]<;>omega))
  try simp (disch:=omega) only[w1,w2,wd,Sp,T9,Kb,L,L2,t2,mc,ow,Lq,tq,tl,ea]
  all_goals rfl
theorem VJ (D6:1000<=fu)(key nonce:Int){n:Nat}(hn:n<=1024):Am C0 prog fu (d+5) Hh [.sc (.int .u64 key),.sc (.int .u64 nonce),.sc (.int .i64 n)]=some ⟨[.own 1 n (At .u8 (Ph key nonce n))],[]⟩:=by
 rw[M8];have f1:(if (n:Int)<0 then (0:Int) else (n:Int))=n:=L0 (by omega)
 have f2:(if (1024:Int)<(n:Int) then (1024:Int) else (n:Int))=n:=L0 (by omega)
 simp (disch:=omega) only[Ds,f1,f2];exact IC D6 hn ((n+7) / 8) fu 0 [] (by omega) (by omega) (by omega) rfl
def Ny (seed:Int)(n:Nat):List Int:=Ph (wrap .u64 (wrap .u64 seed+1)) 7 n
theorem RR (D6:1000<=fu)(seed:Int){n:Nat}(hn:n<=1024):Am C0 prog fu (d+6) Ex [.sc (.int .i64 seed),.sc (.int .i64 n)]=some ⟨[.own 1 n (At .u8 (Ny seed n))],[]⟩:=by
 have e:=VJ (fu:=fu) (d:=d) D6 (wrap .u64 (wrap .u64 seed+1)) 7 hn;have f1:(if (n:Int)<0 then (0:Int) else (n:Int))=n:=L0 (by omega)
 have f2:(if (1024:Int)<(n:Int) then (1024:Int) else (n:Int))=n:=L0 (by omega)
 have L:(At .u8 (Ny seed n)).length=n:=by rw[Bf,Ny,I4]
 have t:List.take n (At .u8 (Ny seed n))=At .u8 (Ny seed n):=Q9 (by omega)
 rw[N5];unfold Ny at *
 simp (disch:=omega) only[Ds,f1,f2,e,Kb,L,t]
def sdE (k h:Int):Sd:=⟨Ny (600+k) 176,h,5,0,0,false,0,[],false,3,0⟩
theorem Sj (k h:Int):(sdE k h).ok:=⟨Aby _ _ _,by show (Ph _ _ _).length<=_;rw[I4];omega,by show (0:Int)<=0;omega,by show (0:Int)<=_;omega,trivial,by show 0<=_;omega⟩
theorem Abe {v n:Int}(h0:0<=v)(h1:v<n)(hn:n<=9223372036854775807):Am C0 prog fu (d+1) Jd [.sc (.int .i64 v),.sc (.int .i64 n)]=some ⟨[.sc (.int .i64 v)],[]⟩:=by
 rw[Qn];have w1:wrap .u64 v=v:=Cv h0 (by omega)
 have w2:wrap .u64 n=n:=Cv (by omega) (by omega)
 have e:Int.tmod v n=v:=Int.tmod_eq_of_lt h0 h1;simp only[I2,w1,w2,e];rw[AW _ _ (by omega),wrap_i64 (by omega) (by omega)]
theorem Yq (D6:1000<=fu){k:Int}(h0:0<=k)(h1:k<12)(h:Int):Am C0 prog fu (d+7) Gk [.sc (.int .i64 k),.sc (.int .i64 h)]=some ⟨[.agg (sdE k h).cells],[]⟩:=by
 rw[L7];have m:=Abe (fu:=fu) (d:=d+5) h0 h1 (by omega)
 have w:wrap .i64 (600+k)=600+k:=wrap_i64 (by omega) (by omega)
 have b:Am C0 prog fu (d+6) Ex [.sc (.int .i64 (600+k)),.sc (.int .i64 176)]=_:=RR (fu:=fu) (d:=d) D6 (600+k) (n:=176) (by omega)
 have L:(At .u8 (Ny (600+k) 176)).length=176:=by rw[Bf,Ny,I4]
 have L1:(Ny (600+k) 176).length=176:=by rw[Ny,I4]
 have t:List.take 176 (At .u8 (Ny (600+k) 176))=At .u8 (Ny (600+k) 176):=Q9 (by omega)
 simp (disch:=omega) only[Ds,m,w,b,Kb,T9,Sp,L,t];simp only[Sd.cells,sdE,L1];rfl
end
end
section
open Go.IntKind (wrap)
def Mw (s:ByteArray):List Int:=s.data.toList.map fun b=>(b.toNat:Int)
theorem CC (s:ByteArray):(Mw s).length=s.size:=by
 unfold Mw;rw[List.length_map];rfl
theorem QN (s:ByteArray):Rh (Mw s):=by
 intro x hx;obtain⟨b,_,rfl⟩:=List.mem_map.1 hx;have:=b.toNat_lt;omega
theorem Tb (s:ByteArray):D2 s=At .u8 (Mw s):=by
 unfold D2 Mw
 induction s.data.toList with
 |nil=>rfl
 |cons b l ih=>rw[List.map_cons,List.map_cons,ih];rfl
theorem S9:∀l:List Int,bytesOf (At .u8 l)=some (l.map fun n=>n.toNat.toUInt8)
 |[]=>rfl
 |x::l=>by
  show (bytesOf (At .u8 l)).map (x.toNat.toUInt8 :: ·)=_
  rw[S9 l];rfl
end
section
open Go.Proofs.Try (prog)
open Go.IntKind (wrap)
set_option maxRecDepth 100000
def bu (l:List Int):List UInt8:=l.map fun n=>n.toNat.toUInt8
def LE (a b:List Int):Bool:=Op.bytesLess (bu a) (bu b)||bu a==bu b
def Abs (a b:List Int):Int:=Lib.compareBytes (bu a) (bu b)
theorem Aan:∀x y:List UInt8,(Lib.compareBytes x y<0)↔Op.bytesLess x y=true
 |[],[]=>by simp[Lib.compareBytes,Op.bytesLess]
 |[],_::_=>by simp[Lib.compareBytes,Op.bytesLess]
 |_::_,[]=>by simp[Lib.compareBytes,Op.bytesLess]
 |a::x,b::y=>by
  have ih:=Aan x y;unfold Lib.compareBytes Op.bytesLess;by_cases h1:a<b
  ·simp[h1]
  ·rw[L0 h1];by_cases h2:b<a
   ·have:¬a=b:=fun e=>by subst e;exact h1 h2
    simp[h1,h2,this]
   ·have:a=b:=UInt8.le_antisymm (UInt8.not_lt.1 h2) (UInt8.not_lt.1 h1);rw[L0 h2,ih];simp[h1,this]
theorem Ui (a b:List Int):LE a b=true↔bu a<=bu b:=by
 unfold LE;rw[bytesLess_eq];simp only[Bool.or_eq_true,decide_eq_true_eq,beq_iff_eq];exact List.le_iff_lt_or_eq.symm
theorem Acv (a b:List Int):decide (Abs a b<0) = !LE b a:=by
 rw[Bool.eq_iff_iff,decide_eq_true_eq,Bool.not_eq_true',←Bool.not_eq_true,Ui];unfold Abs;rw[Aan,bytesLess_eq,decide_eq_true_eq];exact List.not_le.symm
theorem Yy {a b c:List Int}(h1:LE a b=true)(h2:LE b c=true):LE a c=true:=by
 rw[Ui] at *
 exact List.le_trans h1 h2
theorem NG {a b:List Int}(h:LE a b=false):LE b a=true:=by
 rw[Ui];rw[←Bool.not_eq_true,Ui,List.not_le] at h;exact List.le_of_lt h
def Wb (x:List Int):List (List Int)->List (List Int)
 |[]=>[x]
 |y::r=>if LE y x=true then y::Wb x r else x::y::r
theorem Um (x:List Int):∀l:List (List Int),(Wb x l).length=l.length+1
 |[]=>rfl
 |y::r=>by
  unfold Wb;split
  ·rw[MP,Um x r];rfl
  ·rfl
theorem KY {x y:List Int}:∀{l:List (List Int)},y∈Wb x l↔y=x∨y∈l
 |[]=>by simp[Wb]
 |z::r=>by
  unfold Wb;split
  ·rw[List.mem_cons,KY,List.mem_cons];constructor
   ·rintro (h|h|h)
    ·exact .inr (.inl h)
    ·exact .inl h
    ·exact .inr (.inr h)
   ·rintro (h|h|h)
    ·exact .inr (.inl h)
    ·exact .inl h
    ·exact .inr (.inr h)
  ·simp
abbrev XG (l:List (List Int)):Prop:=l.Pairwise fun a b=>LE a b=true
theorem KO {x:List Int}:∀{l:List (List Int)},XG l->XG (Wb x l)
 |[],_=>by simp[Wb,XG]
 |y::r,h=>by
  obtain⟨h1,h2⟩:=List.pairwise_cons.1 h;unfold Wb;split
  ·rename_i hy;refine List.pairwise_cons.2 ⟨fun z hz=>?_,KO h2⟩
   rcases KY.1 hz with rfl|hz
   ·exact hy
   ·exact h1 z hz
  ·rename_i hy;rw[Bool.not_eq_true] at hy;have hxy:=NG hy;refine List.pairwise_cons.2 ⟨fun z hz=>?_,h⟩
   rcases List.mem_cons.1 hz with rfl|hz
   ·exact hxy
   ·exact Yy hxy (h1 z hz)
theorem EG {x y:List Int}:∀{l:List (List Int)},XG (l++[y])->Wb x (l++[y])=if LE y x=true then l++[y,x] else Wb x l++[y]
 |[],_=>by
  show Wb x [y]=_;unfold Wb;split<;>rfl
 |z::r,h=>by
  obtain⟨h1,h2⟩:=List.pairwise_cons.1 (show XG (z::(r++[y])) from h)
  have ih:=EG (x:=x) h2;have hzy:=h1 y (by simp)
  show Wb x (z::(r++[y]))=_;by_cases hy:LE y x=true
  ·rw[Oa hy] at ih ⊢;rw[Wb,Oa (Yy hzy hy),ih];rfl
  ·rw[L0 hy] at ih ⊢;rw[Wb,ih];by_cases hz:LE z x=true
   ·rw[Oa hz,Wb,Oa hz];rfl
   ·rw[L0 hz,Wb,L0 hz];rfl
def Qx (s l:List (List Int)):List (List Int):=l.foldl (fun s x=>Wb x s) s
theorem CE:∀(l s:List (List Int)),(Qx s l).length=s.length+l.length
 |[],_=>rfl
 |x::l,s=>by
  show (Qx (Wb x s) l).length=_;rw[CE l,Um,MP];omega
abbrev Abi (b:List Int):List PV:=[PV.lst false 1 b.length (At .u8 b)]
abbrev D7 (L:List (List Int)):List PV:=L.flatMap Abi
theorem Kx (L:List (List Int)):(D7 L).length=L.length:=by rw[JF (k:=1) (fun _=>rfl)];omega
theorem LG {L:List (List Int)} {i:Nat}{b:List Int}(h:L[i]?=some b):(D7 L).getD i .top=.lst false 1 b.length (At .u8 b):=by
 have:=Ve (f:=Abi) (k:=1) (fun _=>rfl) h (j:=0) (by omega)
 rwa [Kb,Nat.add_zero] at this
theorem CU {L:List (List Int)} {i:Nat}{b y:List Int}(h:L[i]?=some b):A0 (D7 L) [.lst false 1 y.length (At .u8 y)] i=D7 (L.set i y):=by
 have hl:=Kx L;have:=Jx h;rw[Vr (by omega)]
 have e:=GP (f:=Abi) (k:=1) (fun _=>rfl) (p:=.lst false 1 y.length (At .u8 y)) (j:=0) (by omega) (y:=y) h rfl
 rw[Kb,Nat.add_zero] at e;exact e
section
variable {fu d:Nat}
theorem HA (a b:List Int):Am C0 prog fu (d+1) 44 [.lst false 1 a.length (At .u8 a),.lst false 1 b.length (At .u8 b)]=some ⟨[.sc (.int .i64 (Abs a b))],[]⟩:=by
 have h:Am C0 prog fu (d+1) 44 [.lst false 1 a.length (At .u8 a),.lst false 1 b.length (At .u8 b)]=Mn [.lst false 1 a.length (At .u8 a),.lst false 1 b.length (At .u8 b)]:=by kernel_rfl
 rw[h];unfold Mn;simp only[Bf,Nat.beq_refl,Bool.and_self,cond_true,S9];rfl
theorem YM {n:Nat}{c:List PV}{a1 a2:Int}{m0 i N:Nat}{x:List Int}(hN:N<=100000)(hi:i<=100000):
  ∀(S:List (List Int)) (R:List (List Int)) (nn:Nat),S.length<nn->(S.reverse++x::R).length=N->XG S.reverse ->
   Bi fu (Am C0 prog fu (d+1)) n c a1 a2 m0 nn N 0 (N:Int) (i:Int) (S.length:Int) (D7 (S.reverse++x::R)) =
    Ay fu (Am C0 prog fu (d+1)) n c a1 a2 m0 N 0 (N:Int) ((i+1:Nat):Int) (D7 (Wb x S.reverse++R)):=by
 intro S;have wi:wrap .i64 ((i:Int)+1)=((i+1:Nat):Int):=by rw[wrap_i64 (by omega) (by omega)];omega
 induction S with
 |nil=>
  intro R nn E9 hl hs;obtain⟨nn,rfl⟩:∃k,nn=k+1:=⟨nn-1,by omega⟩
  rw[Ct];simp (disch:=omega) only[Ds,List.length_nil,wi,List.reverse_nil,Zzq,Wb,List.cons_append]
 |cons y S ih=>
  intro R nn E9 hl hs;obtain⟨nn,rfl⟩:∃k,nn=k+1:=⟨nn-1,by omega⟩
  rw[Ct];rw[List.reverse_cons] at hl hs ⊢;have hS:S.reverse.length=S.length:=List.length_reverse;have Gc:S.length+1+R.length+1=N:=by simp at hl;omega
  have lS:(y::S).length=S.length+1:=rfl
  have gx:((S.reverse++[y])++x::R)[S.length+1]?=some x:=by
   rw[List.getElem?_append_right (by simp)];simp
  have gy:((S.reverse++[y])++x::R)[S.length]?=some y:=by
   rw[XC,List.getElem?_append_right (by simp)];simp
  have ax:=LG gx;have ay:=LG gy;have w1:wrap .i64 (((S.length+1:Nat):Int)-1)=(S.length:Int):=by rw[wrap_i64 (by omega) (by omega)];omega
  have n1:Int.toNat ((S.length+1:Nat):Int)=S.length+1:=Y1 _;have n2:Int.toNat (S.length:Int)=S.length:=Y1 _;have cq:=HA (fu:=fu) (d:=d) x y;have cl:=Acv x y;have lR:=Kx ((S.reverse++[y])++x::R);have lRR:((S.reverse++[y])++x::R).length=N:=hl;rw[EG hs];by_cases hy:LE y x=true
  ·rw[hy] at cl;rw[Oa hy];have eL:S.reverse++[y,x]++R=(S.reverse++[y])++x::R:=by simp
   rw[eL];simp (disch:=omega) only[Ds,lS,w1,n1,n2,T9,Kb,ax,ay,cq,cl,Bool.not_true,wi]
  ·rw[Bool.not_eq_true] at hy;rw[hy] at cl;rw[L0 (by simp[hy])]
   have s1:=CU (y:=y) gx
   have gy2:(((S.reverse++[y])++x::R).set (S.length+1) y)[S.length]?=some y:=by
    rw[List.getElem?_set,L0 (by omega)];exact gy
   have s2:=CU (y:=x) gy2;have l2:=Kx (((S.reverse++[y])++x::R).set (S.length+1) y);rw[List.length_set] at l2
   have eL:(((S.reverse++[y])++x::R).set (S.length+1) y).set S.length x=S.reverse++x::(y::R):=by
    rw[List.set_append_right _ _ (by simp),List.set_append_left _ _ (by simp),List.set_append_right _ _ (by simp)]
    simp
   rw[eL] at s2;have XD:XG S.reverse:=(List.pairwise_append.1 hs).1;have r:=ih (y::R) nn (by simp at E9;omega) (by simp;omega) XD
   simp (disch:=omega) only[Ds,lS,w1,n1,n2,T9,Kb,ax,ay,cq,cl,Bool.not_false,s1,s2];rw[r];simp
theorem RT {n:Nat}{c:List PV}{a1 a2:Int}{N:Nat}(D6:N<fu)(hN:N<=10000):∀(R S:List (List Int)) (nn:Nat),R.length<nn->(S++R).length=N->XG S ->
  Ay fu (Am C0 prog fu (d+1)) n c a1 a2 nn N 0 (N:Int) (S.length:Int) (D7 (S++R))=some ⟨[],[D7 (Qx S R)]⟩:=by
 intro R
 induction R with
 |nil=>
  intro S nn E9 hl hs;obtain⟨nn,rfl⟩:∃k,nn=k+1:=⟨nn-1,by omega⟩
  rw[List.append_nil] at hl ⊢;rw[Cs];simp (disch:=omega) only[Ds];rfl
 |cons x R ih=>
  intro S nn E9 hl hs;obtain⟨nn,rfl⟩:∃k,nn=k+1:=⟨nn-1,by omega⟩
  have Gc:S.length+(R.length+1)=N:=by simp at hl;omega
  rw[Cs];simp (disch:=omega) only[Ds];have q:=YM (fu:=fu) (d:=d) (n:=n) (c:=c) (a1:=a1) (a2:=a2) (m0:=nn) (i:=S.length) (N:=N) (x:=x) (by omega) (by omega) S.reverse R fu (by simp;omega) (by simp;omega) (by simpa using hs)
  rw[List.reverse_reverse,List.length_reverse] at q;rw[q];have r:=ih (Wb x S) nn (by simp at E9;omega) (by rw[QT,Um];omega) (KO hs)
  rw[Um] at r;exact r
theorem GO {x:List Int}{R:List (List Int)} (D6:(x::R).length<fu) (hN:(x::R).length<=10000):
  Am C0 prog fu (d+2) B7 [.tup [.own 1 (x::R).length (D7 (x::R))],.sc (.int .i64 0),.sc (.int .i64 (x::R).length),.sc (.func (.func 44) #[] #[])]=some ⟨[],[D7 (Qx [] (x::R))]⟩:=by
 rw[Fh];have w:wrap .i64 (0+1)=(([x]:List (List Int)).length:Int):=rfl;simp only[Ds,w];exact RT D6 hN R [x] fu (by simp at D6;omega) rfl (by simp[XG])
theorem RF {a b c e:List Int}(D6:100<=fu):Am C0 prog fu (d+4) Dx [.tup [.own 1 4 (D7 [a,b,c,e])],.sc (.func (.func 44) #[] #[])]=some ⟨[],[D7 (Qx [] [a,b,c,e])]⟩:=by
 rw[Li];have w:wrap .u64 4=4:=rfl;have bl:Am C0 prog fu (d+3) 61 [.sc (.int .u64 4)]=some ⟨[.sc (.int .i64 3)],[]⟩:=by kernel_rfl
 obtain⟨m,rfl⟩:∃m,fu=m+1:=⟨fu-1,by omega⟩
 have q:Am C0 prog (m+1) (d+2) B7 [.tup [.own 1 4 (D7 [a,b,c,e])],.sc (.int .i64 0),.sc (.int .i64 4),.sc (.func (.func 44) #[] #[])]=some ⟨[],[D7 (Qx [] [a,b,c,e])]⟩:=GO (x:=a) (R:=[b,c,e]) (by simp;omega) (by simp)
 have w2:wrap .i64 (4-0)=4:=rfl
 have p:Am C0 prog (m+1) (d+3) Dz [.tup [.own 1 4 (D7 [a,b,c,e])],.sc (.int .i64 0),.sc (.int .i64 4),.sc (.int .i64 3),.sc (.func (.func 44) #[] #[])]=some ⟨[],[D7 (Qx [] [a,b,c,e])]⟩:=by
  rw[Hu];dsimp only;rw[Ga];simp (disch:=omega) only[Ds,w2,q]
 have e4:((4:Nat):Int)=4:=rfl;simp (disch:=omega) only[Ds,w,bl,e4,p]
end
end
section
open Go.Proofs.Try (prog)
open Go.IntKind (wrap)
set_option maxRecDepth 100000
structure BQ where
 nm:ByteArray
 us:ByteArray
 cr:List Sd
abbrev FW (l:List Sd):List PV:=l.flatMap Sd.cells
def BQ.cells (a:BQ):List PV:=[.sc (.string a.nm),.sc (.string a.us),.lst false 11 a.cr.length (FW a.cr)]
abbrev Tn (l:List BQ):List PV:=l.flatMap BQ.cells
theorem Mr {l:List Sd}{i:Nat}{c:Sd}(h:l[i]?=some c) {j:Nat}(hj:j<11):(FW l).getD (i*11+j) .top=c.cells.getD j .top:=Ve (f:=Sd.cells) (k:=11) (fun _=>rfl) h hj
theorem AM {l:List BQ}{i:Nat}{c:BQ}(h:l[i]?=some c) {j:Nat}(hj:j<3):(Tn l).getD (i*3+j) .top=c.cells.getD j .top:=Ve (f:=BQ.cells) (k:=3) (fun _=>rfl) h hj
def JZ (a b:ByteArray):Bool:=Array.toList a.data==Array.toList b.data
def ZC (nm:ByteArray):Nat->List BQ->Option Nat
 |_,[]=>none
 |i,a::r=>if JZ a.nm nm=true then some i else ZC nm (i+1) r
def NT (o:Option Nat):List PV:=match o with|some i=>[.sc (.int .i64 (i:Int)),.sc (.bool true)]|none=>[.sc (.int .i64 0),.sc (.bool false)]
theorem QF {nm:ByteArray}:∀{l:List BQ}{i k:Nat},ZC nm i l=some k->i<=k∧k<i+l.length∧∃a,l[k-i]?=some a∧JZ a.nm nm=true
 |[],_,_,h=>by cases h
 |a::r,i,k,h=>by
  unfold ZC at h;split at h
  ·rename_i ha;cases h;exact⟨Nat.le_refl _,by simp,a,by simp,ha⟩
  ·obtain⟨h1,h2,b,h3,h4⟩:=QF h;refine⟨by omega,by simp;omega,b,?_,h4⟩
   rw[show k-i=(k-(i+1))+1 by omega]
   exact h3
def pick:List (List Int)->List Sd->List (List Int)
 |s,[]=>s
 |s,c::r=>if c.sus=false∧s.length<4 then pick (s++[c.id]) r else pick s r
def dec (key:Int):Nat->Nat->List (List Int)
 |_,0=>[]
 |i,k+1=>Ph key i 176::dec key (i+1) k
def Aer (o:Option Nat)(l:List BQ):List (List Int):=match o with|some i=>(match l[i]? with|some a=>pick [] a.cr|none=>[])|none=>[]
def Af4 (key:Int)(ids:List (List Int)):List (List Int):=ids++dec key 0 (4-ids.length)
def Aa7 (l:List BQ)(secret:Int)(nm:ByteArray):List (List Int):=Qx [] (Af4 (AG secret 20 (Mw nm)) (Aer (ZC nm 0 l) l))
structure BQ.ok (a:BQ):Prop where
 cn:a.cr.length<=1000
 cs:∀c∈a.cr,c.ok
section
variable {fu d:Nat}
theorem MO {xs:FuncId->Option (List PV->Option Bg)} {n:Nat}{c:List PV}{s nm:ByteArray}{l:List BQ}(hl:l.length<=100000):∀(r:List BQ)(i nn:Nat),l.drop i=r->r.length<nn->i<=l.length ->
  E8 fu (Am (CX xs) prog fu d) n c s nn nm l.length (Tn l) (l.length:Int) (i:Int)=some ⟨NT (ZC nm i r),[]⟩:=by
 intro r
 induction r with
 |nil=>
  intro i nn hd E9 hi;have:=drop_nil hd;obtain⟨nn,rfl⟩:∃k,nn=k+1:=⟨nn-1,by omega⟩
  rw[Jl];simp (disch:=omega) only[Ds];rfl
 |cons a r ih=>
  intro i nn hd E9 hi;obtain⟨Bk,Fz,hd'⟩:=Il hd;obtain⟨nn,rfl⟩:∃k,nn=k+1:=⟨nn-1,by omega⟩
  rw[Jl];have g0:(Tn l).getD (i*3) .top=.sc (.string a.nm):=AM Fz (j:=0) (by omega)
  have g1:(Tn l).getD (i*3+1) .top=.sc (.string a.us):=AM Fz (j:=1) (by omega)
  have g2:(Tn l).getD (i*3+1+1) .top=.lst false 11 a.cr.length (FW a.cr):=AM Fz (j:=2) (by omega)
  have n1:Int.toNat (i:Int)=i:=Y1 _;have w1:wrap .i64 ((i:Int)+1)=((i+1:Nat):Int):=by rw[wrap_i64 (by omega) (by omega)];omega
  have eB:(Array.toList a.nm.data==Array.toList nm.data)=JZ a.nm nm:=rfl;unfold ZC;cases h:JZ a.nm nm
  ·rw[L0 (by simp)]
   have q:=ih (i+1) nn hd' (by simp at E9;omega) (by omega)
   rw[h] at eB;simp (disch:=omega) only[Ds,n1,g0,g1,g2,eB,w1,q]
  ·rw[Oa rfl];rw[h] at eB;simp (disch:=omega) only[Ds,n1,g0,g1,g2,eB,NT]
theorem AX {xs:FuncId->Option (List PV->Option Bg)} {l:List BQ}{nm:ByteArray}(hl:l.length<=100000)(hf:l.length<fu):Am (CX xs) prog fu (d+1) Mf [.lst false 3 l.length (Tn l),.sc (.string nm)]=some ⟨NT (ZC nm 0 l),[]⟩:=by
 rw[Un];exact MO hl l 0 fu rfl hf (by omega)
theorem Acs {L:List (List Int)} (hL:L.length=4)(D6:100<=fu):Am C0 prog fu (d+4) Dx [.tup [.own 1 4 (D7 L)],.sc (.func (.func 44) #[] #[])]=some ⟨[],[D7 (Qx [] L)]⟩:=by
 match L,hL with
 |[a,b,c,e],_=>exact RF D6
theorem KC (D6:1000<=fu){n:Nat}{c:List PV}{a1:Int}{a2:ByteArray}{key cnt:Int}:∀(k nn i:Nat)(ids:List (List Int)),ids.length+k=4->k<nn->(i:Int)+k=cnt->cnt<=4 ->
  C4 fu (Am C0 prog fu (d+6)) n c a1 a2 nn ids.length key cnt (i:Int) (D7 ids)=some ⟨[.own 1 4 (D7 (Qx [] (ids++dec key i k)))],[]⟩:=by
 intro k
 induction k with
 |zero=>
  intro nn i ids h1 h2 h3 h4;obtain⟨nn,rfl⟩:∃k,nn=k+1:=⟨nn-1,by omega⟩
  rw[Hm];have q:=Acs (fu:=fu) (d:=d+2) (L:=ids) (by omega) (by omega)
  have h4':ids.length=4:=by omega
  have lR':(D7 (Qx [] ids)).length=4:=by rw[Kx,CE,h4'];rfl
  have t:List.take 4 (D7 (Qx [] ids))=D7 (Qx [] ids):=Q9 (by omega)
  rw[h4'];simp (disch:=omega) only[Ds,q,Kb,t,dec,List.append_nil]
 |succ k ih=>
  intro nn i ids h1 h2 h3 h4;obtain⟨nn,rfl⟩:∃k,nn=k+1:=⟨nn-1,by omega⟩
  rw[Hm];have w0:wrap .u64 (i:Int)=(i:Int):=Cv (by omega) (by omega)
  have w1:wrap .i64 ((i:Int)+1)=((i+1:Nat):Int):=by rw[wrap_i64 (by omega) (by omega)];omega
  have q:Am C0 prog fu (d+6) J2 [.sc (.int .u64 key),.sc (.int .u64 (i:Int)),.sc (.int .i64 176)]=_:=WR (fu:=fu) (d:=d) D6 key (i:Int) (n:=176) (by omega)
  have lS:(At .u8 (Ph key (i:Int) 176)).length=176:=by rw[Bf,I4]
  have tS:List.take 176 (At .u8 (Ph key (i:Int) 176))=At .u8 (Ph key (i:Int) 176):=Q9 (by omega)
  have lI:=Kx ids;have tI:List.take ids.length (D7 ids)=D7 ids:=Q9 (by omega)
  have r:=ih nn (i+1) (ids++[Ph key (i:Int) 176]) (by simp;omega) (by omega) (by omega) h4
  have lA:(ids++[Ph key (i:Int) 176]).length=ids.length+1:=by simp
  have eA:D7 ids++[PV.lst false 1 176 (At .u8 (Ph key (i:Int) 176))]=D7 (ids++[Ph key (i:Int) 176]):=by
   unfold D7;rw[List.flatMap_append];simp[I4]
  rw[lA,XC,List.singleton_append] at r;simp (disch:=omega) only[Ds,w0,w1,q,Kb,T9,Sp,lS,tS,tI,eA,r];rfl
theorem WZ (D6:1000<=fu){n:Nat}{c:List PV}{a1:Int}{a2:ByteArray}{secret:Int}{nm:ByteArray}(BN:nm.size<=500){cr:List Sd}(CA:cr.length<=1000)(Jc:∀c∈cr,c.ok):∀(r:List Sd)(i nn:Nat)(ids:List (List Int)),cr.drop i=r->r.length<nn->i<=cr.length->ids.length<=4 ->
  Cl fu (Am C0 prog fu (d+6)) n c a1 a2 nn secret nm ids.length cr.length (FW cr) (cr.length:Int) (i:Int) (D7 ids)=some ⟨[.own 1 4 (D7 (Qx [] (Af4 (AG secret 20 (Mw nm)) (pick ids r))))],[]⟩:=by
 intro r;have lN:=CC nm;have mc:=JL (xs:=Fl) (fu:=fu) (d:=d+1) (l:=Mw nm) (QN nm) (by omega) (by omega) (by omega) secret 20
 rw[lN] at mc;have sc:=Tb nm;have lS:(At .u8 (Mw nm)).length=nm.size:=by rw[Bf,lN]
 have tS:List.take nm.size (At .u8 (Mw nm))=At .u8 (Mw nm):=Q9 (by omega)
 induction r with
 |nil=>
  intro i nn ids hd E9 hi h4;have:=drop_nil hd;obtain⟨nn,rfl⟩:∃k,nn=k+1:=⟨nn-1,by omega⟩
  rw[Hi];have q:=KC (fu:=fu) (d:=d) D6 (n:=n) (c:=c) (a1:=a1) (a2:=a2) (key:=AG secret 20 (Mw nm)) (cnt:=4-(ids.length:Int)) (4-ids.length) fu 0 ids (by omega) (by omega) (by omega) (by omega)
  have w:wrap .i64 (4-(ids.length:Int))=4-(ids.length:Int):=wrap_i64 (by omega) (by omega)
  simp (disch:=omega) only[Ds,sc,lS,T9,Kb,Sp,tS,mc,w];exact q
 |cons x r ih=>
  intro i nn ids hd E9 hi h4;obtain⟨Bk,Fz,hd'⟩:=Il hd;obtain⟨nn,rfl⟩:∃k,nn=k+1:=⟨nn-1,by omega⟩
  rw[Hi];have g0:(FW cr).getD (i*11) .top=.lst false 1 x.id.length (At .u8 x.id):=Mr Fz (j:=0) (by omega)
  have g1:(FW cr).getD (i*11+1) .top=.sc (.int .i64 x.ht):=Mr Fz (j:=1) (by omega)
  have g2:(FW cr).getD (i*11+1+1) .top=.sc (.int .u64 x.root):=Mr Fz (j:=2) (by omega)
  have g3:(FW cr).getD (i*11+1+1+1) .top=.sc (.int .u64 x.model):=Mr Fz (j:=3) (by omega)
  have g4:(FW cr).getD (i*11+1+1+1+1) .top=.sc (.int .i64 x.fmt):=Mr Fz (j:=4) (by omega)
  have g5:(FW cr).getD (i*11+1+1+1+1+1) .top=.sc (.bool x.sh):=Mr Fz (j:=5) (by omega)
  have g6:(FW cr).getD (i*11+1+1+1+1+1+1) .top=.sc (.int .u64 x.used):=Mr Fz (j:=6) (by omega)
  have g7:(FW cr).getD (i*11+1+1+1+1+1+1+1) .top=.lst false 2 x.rg.length (Jg x.rg):=Mr Fz (j:=7) (by omega)
  have g8:(FW cr).getD (i*11+1+1+1+1+1+1+1+1) .top=.sc (.bool x.sus):=Mr Fz (j:=8) (by omega)
  have g9:(FW cr).getD (i*11+1+1+1+1+1+1+1+1+1) .top=.sc (.int .i64 x.since):=Mr Fz (j:=9) (by omega)
  have g10:(FW cr).getD (i*11+1+1+1+1+1+1+1+1+1+1) .top=.sc (.int .i64 x.last):=Mr Fz (j:=10) (by omega)
  have n1:Int.toNat (i:Int)=i:=Y1 _;have w1:wrap .i64 ((i:Int)+1)=((i+1:Nat):Int):=by rw[wrap_i64 (by omega) (by omega)];omega
  have xk:=Jc x (List.mem_of_getElem? Fz);have cb:=Ym (xs:=Fl) (fu:=fu) (d:=d+5) (Bf .u8 x.id) xk.idL;have lX:=Bf .u8 x.id;have tX:=ZG .u8 x.id;have lI:=Kx ids;have tI:List.take ids.length (D7 ids)=D7 ids:=Q9 (by omega)
  unfold pick;by_cases hs:x.sus=false
  ·have bT:∀a b:Option Bg,Cb (!x.sus) a b=a:=fun a b=>by rw[hs];rfl
   by_cases hl:ids.length<4
   ·rw[Oa ⟨hs,hl⟩];have r:=ih (i+1) nn (ids++[x.id]) hd' (by simp at E9;omega) (by omega) (by simp;omega)
    have lA:(ids++[x.id]).length=ids.length+1:=by simp
    have eA:D7 ids++[PV.lst false 1 x.id.length (At .u8 x.id)]=D7 (ids++[x.id]):=by
     unfold D7;rw[List.flatMap_append];rfl
    rw[lA] at r;simp (disch:=omega) only[Ds,n1,g0,g1,g2,g3,g4,g5,g6,g7,g8,g9,g10,bT,cb,T9,Kb,Sp,lX,tX,tI,eA,w1,r]
   ·rw[L0 fun h=>hl h.2]
    have r:=ih (i+1) nn ids hd' (by simp at E9;omega) (by omega) h4
    simp (disch:=omega) only[Ds,n1,g0,g1,g2,g3,g4,g5,g6,g7,g8,g9,g10,bT,w1,r]
  ·rw[L0 fun h=>hs h.1]
   have bF:∀a b:Option Bg,Cb (!x.sus) a b=b:=fun a b=>by rw[Bool.not_eq_false] at hs;rw[hs];rfl
   have r:=ih (i+1) nn ids hd' (by simp at E9;omega) (by omega) h4
   simp (disch:=omega) only[Ds,n1,g0,g1,g2,g3,g4,g5,g6,g7,g8,g9,g10,bF,w1,r]
theorem IE (D6:2000<=fu){l:List BQ}(hl:l.length<=1000)(Jc:∀a∈l,a.ok)(secret:Int){nm:ByteArray}(BN:nm.size<=500):
  Am C0 prog fu (d+7) Jo [.lst false 3 l.length (Tn l),.sc (.int .u64 secret),.sc (.string nm)]=some ⟨[.own 1 4 (D7 (Aa7 l secret nm))],[]⟩:=by
 rw[P4];have f:=AX (xs:=Fl) (fu:=fu) (d:=d+5) (l:=l) (nm:=nm) (by omega) (by omega)
 unfold Aa7;cases h:ZC nm 0 l with
 |none=>
  rw[h] at f;have lN:=CC nm;have mc:=JL (xs:=Fl) (fu:=fu) (d:=d+1) (l:=Mw nm) (QN nm) (by omega) (by omega) (by omega) secret 20
  rw[lN] at mc;have sc:=Tb nm;have lS:(At .u8 (Mw nm)).length=nm.size:=by rw[Bf,lN]
  have tS:List.take nm.size (At .u8 (Mw nm))=At .u8 (Mw nm):=Q9 (by omega)
  have q:=KC (fu:=fu) (d:=d) (by omega) (n:=l.length) (c:=Tn l) (a1:=secret) (a2:=nm) (key:=AG secret 20 (Mw nm)) (cnt:=4) 4 fu 0 [] rfl (by omega) (by omega) (by omega)
  simp only[NT] at f;simp (disch:=omega) only[Ds,f,sc,lS,T9,Kb,Sp,tS,mc];exact q
 |some i=>
  rw[h] at f;obtain⟨_,h2,a,h3,_⟩:=QF h;rw[Nat.sub_zero] at h3;have g2:(Tn l).getD (i*3+2) .top=.lst false 11 a.cr.length (FW a.cr):=AM h3 (j:=2) (by omega)
  have n1:Int.toNat (i:Int)=i:=Y1 _;have ak:=Jc a (List.mem_of_getElem? h3);have q:=WZ (fu:=fu) (d:=d) (by omega) (n:=l.length) (c:=Tn l) (a1:=secret) (a2:=nm) (secret:=secret) BN ak.cn ak.cs a.cr 0 fu [] rfl (by have:=ak.cn;omega) (by omega) (by simp)
  simp only[NT] at f;simp (disch:=omega) only[Ds,f,n1,g2];refine q.trans ?_;simp only[Aer,h3]
end
end
section
open Go.Proofs.Try (prog)
open Go.IntKind (wrap)
set_option maxRecDepth 100000
def Mt:ByteArray:=ByteArray.mk #[(97:UInt8),(108:UInt8),(105:UInt8),(99:UInt8),(101:UInt8)]
def Ab7:ByteArray:=ByteArray.mk #[(98:UInt8),(111:UInt8),(98:UInt8)]
def uuN:ByteArray:=ByteArray.mk #[(117:UInt8)]
section
variable {fu d:Nat}
theorem QZ (D6:2000<=fu)(nm:ByteArray):Am C0 prog fu (d+1) 18 [.lst false 3 0 [],.sc (.string nm)]=some ⟨[.sc (.int .i64 0),.sc (.bool false)],[]⟩:=AX (xs:=Fl) (l:=[]) (nm:=nm) (by simp) (by simp;omega)
theorem NO (D6:2000<=fu){n:Nat}{c:List PV}:Am C0 prog fu (d+1) 35 [.lst false 3 0 [],.lst false 1 n c]=some ⟨[.sc (.int .i64 0),.sc (.int .i64 0),.sc (.bool false)],[]⟩:=by
 obtain⟨m,rfl⟩:∃m,fu=m+1:=⟨fu-1,by omega⟩
 rw[T0 (xs:=Fl)];dsimp only;rw[O6];rfl
theorem MI (D6:2000<=fu):Am C0 prog fu (d+1) 38 [.lst false 3 0 []]=some ⟨[.own 3 0 []],[]⟩:=by
 obtain⟨m,rfl⟩:∃m,fu=m+1:=⟨fu-1,by omega⟩
 rw[Lp (xs:=Fl)];have w:wrap .i64 (((0:Nat):Int)+1)=1:=rfl;simp (disch:=omega) only[Ds,w];rw[I6];rfl
theorem IK (D6:2000<=fu){nm us:ByteArray}{c:Sd}(h1:1<=nm.size)(h2:nm.size<=32)(Ax:c.id.length=176)(hr:c.rg.length<=1000):
  Am C0 prog fu (d+3) 15 [.lst false 3 0 [],.sc (.string nm),.sc (.string us),.agg c.cells]=some ⟨[.lst false 3 1 (Tn [⟨nm,us,[c]⟩]),.sc (.int .i64 0)],[]⟩:=by
 refine (Rv fu (d+2) nm us c.id.length (At .u8 c.id) c.ht c.root c.model c.fmt c.sh c.used c.rg.length (Jg c.rg) c.sus c.since c.last).trans ?_;have q1:=NO (fu:=fu) (d:=d+1) D6 (n:=c.id.length) (c:=At .u8 c.id);have q2:=QZ (fu:=fu) (d:=d+1) D6 nm;have q3:=MI (fu:=fu) (d:=d+1) D6;have q4:=Om (xs:=Fl) (fu:=fu) (d:=d) (c:=c) (by omega) (by omega)
 simp only[Sd.cells,Sd.ocells] at q4;have l1:=Bf .u8 c.id;have l2:=G8 c.rg;have t1:List.take (c.id.length*1) (At .u8 c.id)=At .u8 c.id:=Q9 (by omega)
 have t2:List.take (c.rg.length*2) (Jg c.rg)=Jg c.rg:=Q9 (by omega)
 have b1:((c.id.length:Int) != 176)=false:=by simp[Ax]
 have b2:(!false)=true:=rfl;simp (disch:=omega) only[Ds,b1,q1,q2,b2];rw[N3 (E9:=by omega)]
 simp (disch:=omega) only[Ds,q3,q4,b2,t1,t2,Sp,Nat.zero_mul,List.take_zero,Zzq,T9];rfl
end
def aw1:Sd:={ sdE 1 2 with used:=2,rg:=[(0,1)],last:=7 }
def GE:Sd:={ sdE 1 2 with used:=10,rg:=[(0,1),(2,3)],last:=8 }
def aw4:Sd:={ GE with sus:=true }
theorem Aem:N7 (sdE 1 2) 1 0 7=(aw1,0):=rfl
theorem Af3:N7 aw1 3 2 8=(GE,0):=rfl
theorem Ad7:N7 GE 0 0 9=(GE,37):=rfl
theorem Aea:N7 GE 3 2 9=(aw4,37):=rfl
theorem Abr:aw1.ok:=⟨(Sj 1 2).idB,(Sj 1 2).idL,by decide,by decide,by simp[aw1,Asc],by decide⟩
theorem IU:GE.ok:=⟨(Sj 1 2).idB,(Sj 1 2).idL,by decide,by decide,by simp[GE,Asc],by decide⟩
section
variable {fu d:Nat}
theorem RP (D6:2000<=fu):Am C0 prog fu (d+8) Ho []=some ⟨[.sc (.bool true)],[]⟩:=by
 refine (Mi fu (d+7)).trans ?_;have s:=Yq (fu:=fu) (d:=d) (by omega) (k:=1) (by omega) (by omega) 2
 have q1:=Fk (fu:=fu) (d:=d+3) (Sj 1 2) D6 1 0 7;have q2:=Fk (fu:=fu) (d:=d+3) Abr D6 3 2 8;have q3:=Fk (fu:=fu) (d:=d+3) IU D6 0 0 9;have q4:=Fk (fu:=fu) (d:=d+3) IU D6 3 2 9;rw[Aem] at q1;rw[Af3] at q2;rw[Ad7] at q3;rw[Aea] at q4;have i1:GE.id.length=176:=by show (Ny _ 176).length=176;rw[Ny,I4]
 have q5:=IK (fu:=fu) (d:=d+4) D6 (nm:=Mt) (us:=uuN) (c:=GE) (by decide) (by decide) i1 (by decide)
 have q6:=AX (xs:=Fl) (fu:=fu) (d:=d+6) (l:=[⟨Mt,uuN,[GE]⟩]) (nm:=Mt) (by simp) (by simp;omega)
 have e6:ZC Mt 0 [⟨Mt,uuN,[GE]⟩]=some 0:=rfl;rw[e6] at q6
 have q7:=IE (fu:=fu) (d:=d) D6 (l:=[⟨Mt,uuN,[GE]⟩]) (by simp) (by
  intro a ha;rw[List.mem_singleton] at ha;subst ha
  exact⟨by simp,by
   intro c hc;rw[List.mem_singleton] at hc;subst hc;exact IU⟩) 1 (nm:=Ab7) (by decide)
 have lL:([⟨Mt,uuN,[GE]⟩]:List BQ).length=1:=rfl;rw[lL] at q6 q7;simp only[NT] at q6;generalize Tn [⟨Mt,uuN,[GE]⟩]=A at q5 q6 q7;generalize D7 (Aa7 [⟨Mt,uuN,[GE]⟩] 1 Ab7)=R at q7;simp only[Sd.cells,sdE,aw1,GE,aw4] at s q1 q2 q3 q4 q5;simp only[Mt,uuN] at q5;simp only[Mt] at q6;simp only[Ab7] at q7;generalize Ny (600+1) 176=id at *
 have e1:((0:Int)==0)=true:=rfl;have e2:((37:Int)==37)=true:=rfl;have e3:((10:Int)==10)=true:=rfl;have e4:((([(0,1),(2,3)]:List (Int × Int)).length:Int)==2)=true:=rfl;have e5:(((4:Nat):Int)==4)=true:=rfl;have e0:((0:Nat):Int)=0:=rfl;rw[e0] at q6;show D8 fu (Am C0 prog fu (d+7)) fu=_;rw[Kr (E9:=by omega)]
 simp only[Ds,s,q1];rw[Kh (E9:=by omega)]
 simp only[Ds,q2];rw[Kc (E9:=by omega)]
 simp only[Ds,q3];rw[Kt (E9:=by omega)]
 simp only[Ds,q4];rw[Kq (E9:=by omega)]
 simp only[Ds,q5];rw[J9 (E9:=by omega)]
 simp only[Ds,q6];rw[Kz (E9:=by omega)]
 simp only[Ds,e1,e2,e3,e4,e5,Bool.not_false,q7]
end
end
section
open Go.IntKind (wrap)
set_option maxRecDepth 100000
abbrev boF (b:Bool):List PV:=[PV.sc (.bool b)]
abbrev LK (l:List Bool):List PV:=l.flatMap boF
theorem Aeu {l:List Bool}{i:Nat}{b:Bool}(h:l[i]?=some b):(LK l).getD i .top=.sc (.bool b):=by
 have:=Ve (f:=boF) (k:=1) (fun _=>rfl) h (j:=0) (by omega)
 rwa [Kb,Nat.add_zero] at this
section
variable {fu d:Nat}
theorem Afp {c:Sd}{leaf f:Int}(h:c.ht=4)(h0:0<=f)(h1:f<=leaf)(h2:leaf<=15):L8 c leaf f=false:=by
 unfold L8;rw[h];have e:F8 .i64 1 4=16:=by decide
 rw[e];simp only[Bool.or_eq_false_iff,decide_eq_false_iff_not];omega
end
end
section
open Go.Proofs.Try (prog)
open Go.IntKind (wrap)
set_option maxRecDepth 100000
abbrev Dy:FuncId:=6
noncomputable def A2 (fu:Nat)(call:Al)(B5:Nat)(a0:List PV)(nn y0:Nat)(y1:List PV)(y2:Int)(y3:Nat)(y4:List PV)(y5 y6:Int)(y7 y8:Int)(y9:Bool)(Ei:Int)(Es:Nat)(C8:List PV)(Eu:Bool)(E6 Hr:Int)(Ey:List PV):Option Bg:=Cx CB prog fu call 6 Try.f6 (B2 Try.f6) [.lst false 1 B5 a0] [.r,.r,.r,.l,.r,.l] nn ⟨lk [(0,(.lst false 1 y0 y1)),(3,(.ptr 3 0)),(4,(.ptr 4 0)),(5,(.sc (.int .i64 y2)))],E5 [(3,(.st [(.lst false 1 y3 y4),(.sc (.int .i64 y5)),(.sc (.int .u64 y6)),(.sc (.int .u64 y7)),(.sc (.int .i64 y8)),(.sc (.bool y9)),(.sc (.int .u64 Ei)),(.lst false 2 Es C8),(.sc (.bool Eu)),(.sc (.int .i64 E6)),(.sc (.int .i64 Hr))])),(4,(.ar false Ey))]⟩
theorem Dj (fu:Nat)(call:Al)(B5:Nat)(a0:List PV)(nn y0:Nat)(y1:List PV)(y2:Int)(y3:Nat)(y4:List PV)(y5 y6:Int)(y7 y8:Int)(y9:Bool)(Ei:Int)(Es:Nat)(C8:List PV)(Eu:Bool)(E6 Hr:Int)(Ey:List PV):A2 fu call B5 a0 (nn+1) y0 y1 y2 y3 y4 y5 y6 y7 y8 y9 Ei Es C8 Eu E6 Hr Ey=(Cb (decide (y2<(↑y0:Int))) (Cb (decide (y2<32)) (As (decide (0<=y2)&&decide (y2<(↑y0:Int)))<|A7 (List.getD y1 (Int.toNat y2*1) .top) fun HS=>Cb HS (Ag .i64 (List.getD Ey 1 .top) fun BM=>Cb (decide (BM>15)) (Ab (wrap .i64 (y2+1)) fun GX=>A2 fu call B5 a0 (nn) (y0) (y1) GX (y3) (y4) (y5) (y6) (y7) (y8) (y9) (Ei) (Es) (C8) (Eu) (E6) (Hr) (Ey)) (Ag .i64 (List.getD Ey 1 .top) fun JH=>Ab (wrap .i64 (JH+1)) fun IF=>As (decide (2<=Ey.length))<|Ab (A0 Ey [.sc (.int .i64 IF)] 1) fun GB=>Ar (call 21 [.agg [.lst false 1 y3 y4,.sc (.int .i64 y5),.sc (.int .u64 y6),.sc (.int .u64 y7),.sc (.int .i64 y8),.sc (.bool y9),.sc (.int .u64 Ei),.lst false 2 Es C8,.sc (.bool Eu),.sc (.int .i64 E6),.sc (.int .i64 Hr)],.sc (.int .i64 BM),.sc (.int .i64 0),.sc (.int .i64 y2)]) fun JM Xd=>Ah Xd<|Aa JM fun FZ LC=>Dw FZ fun FU=>Aa FU fun Wz FT=>F5 1 Wz fun LM HE DI=>Aa FT fun HZ CW=>Ag .i64 HZ fun Ys=>Aa CW fun BV PR=>Ag .u64 BV fun ON=>Aa PR fun JP NB=>Ag .u64 JP fun MX=>Aa NB fun HJ OK=>Ag .i64 HJ fun OD=>Aa OK fun KD OE=>A7 KD fun SH=>Aa OE fun II HU=>Ag .u64 II fun PQ=>Aa HU fun TT PT=>F5 2 TT fun VT PU YS=>Aa PT fun TA VQ=>A7 TA fun WB=>Aa VQ fun PZ VS=>Ag .i64 PZ fun ZN=>Aa VS fun YG PN=>Ag .i64 YG fun WP=>Ah PN<|Aa LC fun YA VR=>Ag .i64 YA fun VX=>Ah VR<|Ag .i64 (List.getD GB 0 .top) fun x94=>Cb (decide (x94>BM)) (Cb (VX==37) (Cb WB (Ar (call 9 []) fun x95 x96=>Ah x96<|Aa x95 fun x97 x98=>A7 x97 fun x99=>Ah x98<|some (Bg.mk [.sc (.bool x99)] [])) (some (Bg.mk [.sc (.bool false)] []))) (some (Bg.mk [.sc (.bool false)] []))) (Cb (VX != 0) (some (Bg.mk [.sc (.bool false)] [])) (Ab (wrap .i64 (y2+1)) fun HP=>A2 fu call B5 a0 (nn) (y0) (y1) HP HE DI Ys ON MX OD SH PQ PU YS WB ZN WP GB)))) (Ag .i64 (List.getD Ey 0 .top) fun AQ=>Cb (decide (AQ>15)) (Ab (wrap .i64 (y2+1)) fun GF=>A2 fu call B5 a0 (nn) (y0) (y1) GF (y3) (y4) (y5) (y6) (y7) (y8) (y9) (Ei) (Es) (C8) (Eu) (E6) (Hr) (Ey)) (Ag .i64 (List.getD Ey 0 .top) fun HW=>Ab (wrap .i64 (HW+1)) fun Z7=>As (decide (1<=Ey.length))<|Ab (A0 Ey [.sc (.int .i64 Z7)] 0) fun Qq=>Ar (call 21 [.agg [.lst false 1 y3 y4,.sc (.int .i64 y5),.sc (.int .u64 y6),.sc (.int .u64 y7),.sc (.int .i64 y8),.sc (.bool y9),.sc (.int .u64 Ei),.lst false 2 Es C8,.sc (.bool Eu),.sc (.int .i64 E6),.sc (.int .i64 Hr)],.sc (.int .i64 AQ),.sc (.int .i64 0),.sc (.int .i64 y2)]) fun JE GR=>Ah GR<|Aa JE fun GM GG=>Dw GM fun GW=>Aa GW fun IZ GS=>F5 1 IZ fun NV IY DP=>Aa GS fun ST UH=>Ag .i64 ST fun YC=>Aa UH fun SC SN=>Ag .u64 SC fun UC=>Aa SN fun TY QO=>Ag .u64 TY fun TK=>Aa QO fun RK SI=>Ag .i64 RK fun UB=>Aa SI fun TD TJ=>A7 TD fun RS=>Aa TJ fun SA QU=>Ag .u64 SA fun RY=>Aa QU fun RO QX=>F5 2 RO fun XY UL RM=>Aa QX fun TZ XK=>A7 TZ fun PC=>Aa XK fun TQ UW=>Ag .i64 TQ fun HQ=>Aa UW fun VI TW=>Ag .i64 VI fun SV=>Ah TW<|Aa GG fun RZ Ab3=>Ag .i64 RZ fun YK=>Ah Ab3<|Ag .i64 (List.getD Qq 1 .top) fun Acy=>Cb (decide (Acy>AQ)) (Cb (YK==37) (Cb PC (Ar (call 9 []) fun Aci Acw=>Ah Acw<|Aa Aci fun Acj Abn=>A7 Acj fun Ab6=>Ah Abn<|some (Bg.mk [.sc (.bool Ab6)] [])) (some (Bg.mk [.sc (.bool false)] []))) (some (Bg.mk [.sc (.bool false)] []))) (Cb (YK != 0) (some (Bg.mk [.sc (.bool false)] [])) (Ab (wrap .i64 (y2+1)) fun Ac4=>A2 fu call B5 a0 (nn) (y0) (y1) Ac4 IY DP YC UC TK UB RS RY UL RM PC HQ SV Qq))))) (Ar (call 9 []) fun Ac2 Aa4=>Ah Aa4<|Aa Ac2 fun Ac1 Add=>A7 Ac1 fun Acz=>Ah Add<|some (Bg.mk [.sc (.bool Acz)] []))) (Ar (call 9 []) fun Af6 Adb=>Ah Adb<|Aa Af6 fun Abw Adc=>A7 Abw fun Adh=>Ah Adc<|some (Bg.mk [.sc (.bool Adh)] []))):=by kernel_rfl
theorem Hx (fu d B5:Nat)(a0:List PV):Am C0 prog fu (d+1) Dy [.lst false 1 B5 a0]=(fun (call:Al)=>Ar (call 12 [.sc (.int .i64 1),.sc (.int .i64 4)]) fun x1 x2=>Ah x2<|Aa x1 fun x3 x4=>Dw x3 fun x5=>Aa x5 fun x6 x7=>F5 1 x6 fun x8 x9 Kj=>Aa x7 fun L3 Jw=>Ag .i64 L3 fun Ox=>Aa Jw fun Lx Nh=>Ag .u64 Lx fun Qm=>Aa Nh fun Sv Ok=>Ag .u64 Sv fun I9=>Aa Ok fun Pk Qe=>Ag .i64 Pk fun S5=>Aa Qe fun Re Is=>A7 Re fun T8=>Aa Is fun Ug Qi=>Ag .u64 Ug fun BL=>Aa Qi fun BX Oi=>F5 2 BX fun Q8 Zt Wx=>Aa Oi fun Ty Zx=>A7 Ty fun Xf=>Aa Zx fun Ss Xh=>Ag .i64 Ss fun BZ=>Aa Xh fun Yb GJ=>Ag .i64 Yb fun FS=>Ah GJ<|Ah x4<|A2 fu call B5 a0 (fu) (B5) (a0) 0 x9 Kj Ox Qm I9 S5 T8 BL Zt Wx Xf BZ FS ([.sc (.int .i64 0),.sc (.int .i64 0)])) (Am C0 prog fu d):=by kernel_rfl
end
section
open Go.Proofs.Try (prog)
open Go.IntKind (wrap)
set_option maxRecDepth 100000
structure CpI (c:Sd) (M:Nat):Prop where
 ok:c.ok
 ht:c.ht=4
 sus:c.sus=false
 bits:∀j:Nat,j<16->Zy c.used j=decide (j<M)
 rg:c.rg=if M=0 then [] else [(0,(M:Int)-1)]
theorem QQ {c:Sd}{M lf:Nat}(h:CpI c M)(h1:lf<M)(h2:lf<16)(now:Int):N7 c lf 0 now=({ c with sus:=true },37):=by
 have hb:=Afp (c:=c) (leaf:=lf) (f:=0) h.ht (by omega) (by omega) (by omega)
 unfold N7;rw[L0 (by simp[hb]),L0 (by simp[h.sus]),Oa (by rw[h.bits lf h2];simp[h1])]
theorem QL {c:Sd}{M:Nat}(h:CpI c M)(h2:M<16)(now:Int):∃c',N7 c M 0 now=(c',0)∧CpI c' (M+1):=by
 have hb:=Afp (c:=c) (leaf:=M) (f:=0) h.ht (by omega) (by omega) (by omega)
 have hp:put 0 (M:Int) c.rg=some [(0,(M:Int))]:=by
  rw[h.rg];by_cases hM:M=0
  ·rw[Oa hM];rfl
  ·rw[L0 hM];unfold put;rw[L0 (by simp),Oa rfl,L0 (by simp;omega)]
 refine⟨{ c with used:=Xg c.used M,rg:=[(0,(M:Int))],last:=now },?_,?_⟩
 ·unfold N7;rw[L0 (by simp[hb]),L0 (by simp[h.sus]),L0 (by rw[h.bits M h2];simp),hp]
 ·have sB:=Abh h.ok.u0 h.ok.u1 (k:=(M:Int)) (by omega) (by omega)
  refine⟨⟨h.ok.idB,h.ok.idL,sB.1,sB.2,⟨by simp,trivial⟩,by simp⟩,h.ht,h.sus,fun j hj=>?_,?_⟩
  ·show Zy (Xg c.used M) j=_;rw[SL h.ok.u0 h.ok.u1 (by omega) (by omega) (by omega),h.bits j hj,Bool.eq_iff_iff]
   simp only[Bool.or_eq_true,decide_eq_true_eq];omega
  ·show [((0:Int),(M:Int))]=_;rw[L0 (by omega)]
   simp
section
variable {fu d:Nat}
noncomputable abbrev cpL (fu:Nat)(call:Al)(l:List Bool)(nn i:Nat)(c:Sd)(nx:List Int):Option Bg:=
 A2 fu call l.length (LK l) nn l.length (LK l) (i:Int) c.id.length (At .u8 c.id) c.ht c.root c.model c.fmt c.sh c.used c.rg.length (Jg c.rg) c.sus c.since c.last (At .i64 nx)
set_option maxHeartbeats 1000000 in
theorem YF (D6:2000<=fu){l:List Bool}(hll:l.length<=maxLen):∀(k i nn:Nat)(c:Sd)(a b:Nat),i+k=32->k<nn->a<=16->b<=16->CpI c (max a b) ->
  cpL fu (Am C0 prog fu (d+8)) l nn i c [(a:Int),(b:Int)]=some ⟨[.sc (.bool true)],[]⟩:=by
 have aw:=RP (fu:=fu) (d:=d) D6;simp only[maxLen] at hll;intro k
 induction k with
 |zero=>
  intro i nn c a b h1 h2 h3 h4 hI;obtain⟨nn,rfl⟩:∃k,nn=k+1:=⟨nn-1,by omega⟩
  unfold cpL;rw[Dj];have h60:¬((i:Int)<32):=by omega
  by_cases hi:(i:Int)<(l.length:Int)
  ·simp (disch:=omega) only[Ds,aw]
  ·simp (disch:=omega) only[Ds,aw]
 |succ k ih=>
  intro i nn c a b h1 h2 h3 h4 hI;obtain⟨nn,rfl⟩:∃k,nn=k+1:=⟨nn-1,by omega⟩
  unfold cpL;rw[Dj];by_cases hi:(i:Int)<(l.length:Int)
  rotate_left
  ·simp (disch:=omega) only[Ds,aw]
  have gl:=List.getElem?_eq_getElem (l:=l) (i:=i) (by omega)
  generalize l[i]=q at gl;have al:=Aeu gl;have n1:Int.toNat (i:Int)=i:=Y1 _;have w1:wrap .i64 ((i:Int)+1)=((i+1:Nat):Int):=by rw[wrap_i64 (by omega) (by omega)];omega
  have wa:wrap .i64 ((a:Int)+1)=((a+1:Nat):Int):=by rw[wrap_i64 (by omega) (by omega)];omega
  have wb:wrap .i64 ((b:Int)+1)=((b+1:Nat):Int):=by rw[wrap_i64 (by omega) (by omega)];omega
  have xA:(At .i64 [(a:Int),(b:Int)]).getD 0 .top=.sc (.int .i64 a):=rfl;have xB:(At .i64 [(a:Int),(b:Int)]).getD 1 .top=.sc (.int .i64 b):=rfl;have lE:(At .i64 [(a:Int),(b:Int)]).length=2:=rfl;have sA:A0 (At .i64 [(a:Int),(b:Int)]) [.sc (.int .i64 ((a+1:Nat):Int))] 0=At .i64 [((a+1:Nat):Int),(b:Int)]:=rfl;have sB:A0 (At .i64 [(a:Int),(b:Int)]) [.sc (.int .i64 ((b+1:Nat):Int))] 1=At .i64 [(a:Int),((b+1:Nat):Int)]:=rfl;have yB:(At .i64 [((a+1:Nat):Int),(b:Int)]).getD 1 .top=.sc (.int .i64 b):=rfl;have yA:(At .i64 [(a:Int),((b+1:Nat):Int)]).getD 0 .top=.sc (.int .i64 a):=rfl;have e0n:((0:Int) != 0)=false:=rfl;have e37:((37:Int)==37)=true:=rfl;have q1:=ih (i+1) nn c a b (by omega) (by omega) h3 h4 hI
  have bS:∀x y:Option Bg,Cb true x y=x:=fun _ _=>rfl
  cases q with
  |true=>
   by_cases hb:(b:Int)>15
   ·unfold cpL at q1;simp (disch:=omega) only[Ds,n1,Kb,al,xB,w1,q1]
   ·by_cases hm:a>b
    ·have ac:=Fk (fu:=fu) (d:=d+4) hI.ok D6 (b:Int) 0 (i:Int);rw[QQ hI (by omega) (by omega)] at ac
     simp only[Sd.cells] at ac;have Hg:(a:Int)>(b:Int):=by omega
     simp (disch:=omega) only[Ds,n1,Kb,al,xB,wb,lE,sB,ac,yA,e37,bS,aw]
    ·have hmx:max a b=b:=Nat.max_eq_right (by omega)
     rw[hmx] at hI;obtain⟨c',hc,hI'⟩:=QL hI (by omega) (i:Int)
     have ac:=Fk (fu:=fu) (d:=d+4) hI.ok D6 (b:Int) 0 (i:Int);rw[hc] at ac;simp only[Sd.cells] at ac;have Hg:¬(a:Int)>(b:Int):=by omega
     have q2:=ih (i+1) nn c' a (b+1) (by omega) (by omega) h3 (by omega) (by rw[Nat.max_eq_right (by omega)];exact hI')
     unfold cpL at q2;simp (disch:=omega) only[Ds,n1,Kb,al,xB,wb,lE,sB,ac,yA,e0n,w1,q2]
  |false=>
   by_cases hb:(a:Int)>15
   ·unfold cpL at q1;simp (disch:=omega) only[Ds,n1,Kb,al,xA,w1,q1]
   ·by_cases hm:b>a
    ·have ac:=Fk (fu:=fu) (d:=d+4) hI.ok D6 (a:Int) 0 (i:Int);rw[QQ hI (by omega) (by omega)] at ac
     simp only[Sd.cells] at ac;have Hg:(b:Int)>(a:Int):=by omega
     simp (disch:=omega) only[Ds,n1,Kb,al,xA,wa,lE,sA,ac,yB,e37,bS,aw]
    ·have hmx:max a b=a:=Nat.max_eq_left (by omega)
     rw[hmx] at hI;obtain⟨c',hc,hI'⟩:=QL hI (by omega) (i:Int)
     have ac:=Fk (fu:=fu) (d:=d+4) hI.ok D6 (a:Int) 0 (i:Int);rw[hc] at ac;simp only[Sd.cells] at ac;have Hg:¬(b:Int)>(a:Int):=by omega
     have q2:=ih (i+1) nn c' (a+1) b (by omega) (by omega) (by omega) h4 (by rw[Nat.max_eq_left (by omega)];exact hI')
     unfold cpL at q2;simp (disch:=omega) only[Ds,n1,Kb,al,xA,wa,lE,sA,ac,yB,e0n,w1,q2]
end
theorem accountCopies_plain (qs:List PV)(h:Au (ZP prog) [59] qs):∃fu d,Am C0 prog fu d Dy qs=some ⟨[.sc (.bool true)],[]⟩:=by
 obtain⟨q0,_,rfl,h0,g⟩:=h.cons_inv;obtain rfl:=g.nil_inv;clear h g;obtain⟨rows,rfl,hl,hr⟩:=Ac7 (P:=prog) (t:=59) (e:=4) (by kernel_rfl) (by kernel_rfl) h0
 have hc:prog.cellsOf 4=1:=by kernel_rfl
 obtain⟨l,h1,h2,_⟩:=S6 boF (fun _=>True) fun r hrr=>by
  obtain⟨b,hb⟩:=ZI (P:=prog) (t:=4) (by kernel_rfl) (hr r hrr).2
  exact⟨b,hb,trivial⟩
 rw[h1,h2,hc];rw[h2] at hl;clear h0 hr h1 h2;obtain⟨fu,Amy⟩:∃fu,fu=2000:=⟨_,rfl⟩;have D6:2000<=fu:=by omega
 refine⟨fu,9,?_⟩;refine (Hx fu 8 l.length (LK l)).trans ?_;have s:=Yq (fu:=fu) (d:=1) (by omega) (k:=1) (by omega) (by omega) 4
 simp only[Sd.cells] at s
 have lp:=YF (fu:=fu) (d:=0) D6 hl 32 0 fu (sdE 1 4) 0 0 rfl (by omega) (by omega) (by omega)
  ⟨Sj 1 4,rfl,rfl,fun j hj=>by
   show Nat.testBit 0 _=_;rw[Nat.zero_testBit];simp,rfl⟩
 simp only[Ds,s];exact lp
end
section
open Go.Proofs.Try (prog)
open Go.IntKind (wrap)
open Go.RowKit
theorem OR {w w':World}{Y:Nat->Prop}{bt:Tl}{args:List PV}{v:Value}(hb:Below w.heap.size w w')(ho:F1 w' (Ru bt (fun _=>none) Y) (fun _=>none) bt (J3 [.sc v]) 0 args []):
  ZZ w w' Y bt args (fun _=>none) ⟨[.sc v],[]⟩ [v] where
 os:=hb.os
 tape:=hb.tape
 output:=hb.output
 ext:=⟨hb.size,fun b h _=>hb.block b h,fun b h=>Fy.same (hb.block b h)⟩
 rng:=fun b j h _=>⟨by unfold World.cell?;simp only[hb.block b h],by unfold World.frozen?;simp only[hb.block b h]⟩
 vals:=⟨Ao.sc v,trivial⟩
 outs:=ho
 fresh:=fun j b o h=>by cases h
 inj:=fun j j' b o o' h=>by cases h
theorem Sx {P:Program}{w:World}{A:Nat->Prop}{bt:Bt}{z:Bool}{n:Nat}{c:List PV}{u:Value}{l:List UInt8}(h:EW w A bt (.lst z 1 n c) u) (hl:bytesOf c=some l)(hn:c.length=n):
  (Extern.Bytes.bytesOf u).run P w=.ok ⟨l.toArray⟩ w:=by
 obtain⟨ns,rfl,rfl⟩:=M4 hl;have ht:Ao w A (.lst z 1 n (ns.map fun n=>.sc (.int .u8 n))) u:=h.2
 generalize hc:(ns.map fun n=>PV.sc (.int .u8 n))=c at ht
 cases ht with
 |lnil=>
  have:ns=[]:=by simpa using hc
  subst this;rfl
 |lemp=>
  have:ns=[]:=by simpa using hc
  subst this;rfl
 |lst _ _ _ a cap f hs hb hA hn' hcell h1 hr=>
  subst hc;rw[List.length_map] at hn;subst hn;show (Extern.Bytes.loadBytes a ns.length .empty).run P w=_;rw[Lib.run_loadBytesX w ns a .empty fun j x hj=>?_]
  ·simp[Lib.bytesOf,Nat.toUInt8]
  ·have e:(ns.map fun n=>PV.sc (.int .u8 n))[j]?=some (.sc (.int .u8 x)):=by rw[List.getElem?_map,hj];rfl
   rw[hcell j _ e,(hr j _ e).val]
set_option maxRecDepth 1000000 in
theorem AU (u1 u2:Value)(a b:List UInt8)(w:World)(h1:(Extern.Bytes.bytesOf u1).run prog w=.ok ⟨a.toArray⟩ w) (h2:(Extern.Bytes.bytesOf u2).run prog w=.ok ⟨b.toArray⟩ w):
  Calls prog 44 #[u1,u2] w fun e w'=>e=.returned (.int .i64 (Lib.compareBytes a b))∧w'=w:=by
 have hr:(Extern.BytealgCompare.compare #[u1,u2]).run prog w=.ok (.int .i64 (Lib.compareBytes a b)) w:=by
  change Sem.run prog (do pure (goInt (Extern.BytealgCompare.cmp (←Extern.Bytes.bytesOf u1) (←Extern.Bytes.bytesOf u2)))) w=_
  simp only[Sem.run_bind,Sem.run_pure,Result.andThen,h1,h2];rw[Lib.cmp_eq];rfl
 go_enter Try.func44,Try.ntmps44
 go_wp2
 rw[run_callFunc_extern Try.func62 (by kernel_rfl) (by kernel_rfl) (by kernel_rfl) (e:=Extern.BytealgCompare.compare) (by kernel_rfl),hr]
 simp only[Result.andThen];rw[Oper.upon_value]
 go_wp2
 go_ret
 exact⟨rfl,rfl⟩
theorem W7 (G:Glo)(args:List PV)(res:Bg)(h:Mn args=some res):Db G prog 44 args res:=by
 refine⟨⟨_,Try.func44,by kernel_rfl⟩,fun w Y bt us hi _ _=>?_⟩
 unfold Mn at h;split at h
 rotate_left
 ·cases h
 rename_i z n c z' m c';cases hq:(Nat.beq c.length n&&Nat.beq c'.length m)
 ·rw[hq] at h;cases h
 rw[hq] at h;simp only[Bool.and_eq_true] at hq;have hn:=Nat.eq_of_beq_eq_true hq.1;have hm:=Nat.eq_of_beq_eq_true hq.2;simp only[cond_true] at h;split at h
 rotate_left
 ·cases h
 rename_i a b ha hb;cases h;have ps:=hi.args
 match us,ps with
 |[u1,u2],ps=>
  refine (AU u1 u2 a b w (Sx ps.1 ha hn) (Sx ps.2.1 hb hm)).mono ?_
  rintro e w' ⟨rfl,rfl⟩
  exact⟨[.int .i64 (Lib.compareBytes a b)],fun _=>none,rfl,OR (Below.refl _ _) rfl⟩
 |[],ps=>exact ps.elim
 |[_],ps=>exact ps.2.elim
 |_::_::_::_,ps=>exact ps.2.2.elim
end
section
open Go.Proofs.Try (prog)
open Go.IntKind (wrap)
open Go.RowKit Go.Lib
section
variable {P:Program}
theorem Nc (w:World)(dT sT ty elem:TypeId)(i:TypeInfo)(b o dLen dCap:Nat)(a:Addr)(sLen sCap k:Nat)(cs:List Value)
  (hu:P.underlying dT=some (.slice elem)) (hq:P.info? elem=some i)(hk:k=Nat.min sLen dLen)(hn:cs.length=k*i.size)
  (Ks:∀j v,cs[j]?=some v->w.cell? (a.add j)=some v) (hc:∀j,j<cs.length->(w.cell? ⟨b,o+j,none⟩).isSome=true) (hf:∀j,j<cs.length->w.frozen? ⟨b,o+j,none⟩=false)(h1:∀v∈cs,v.oneCell'=true):
  (Builtin.copy_ #[dT,sT] ty #[.slice (some ⟨b,o,none⟩) dLen dCap,.slice (some a) sLen sCap]).run P w=.ok (goInt k) (w.setCells b o cs):=by
 have hl:=run_loadCells_list (P:=P) w a cs Ks;have I5:=run_storeCells_cells (P:=P) b o cs 0 w (by simpa using hc) (by simpa using hf) h1
 simp[Builtin.copy_,run_underlying hu,Builtin.lenOf,Builtin.firstCells,sizeOf,typeInfo,hq,←hk,←hn,hl,I5]
theorem Hs (b:Nat)(vs:List Value)(o:Nat)(w:World)(k:Nat)(hk:(w.cell? ⟨b,k,none⟩).isSome=true):((w.setCells b o vs).cell? ⟨b,k,none⟩).isSome=true:=by
 have h:=(Bc.setCells b vs o w).bs;obtain⟨v,hv⟩:=Option.isSome_iff_exists.1 hk;have h1:=Qd hv;exact Mo (by omega)
theorem AY (w:World){o:Oper}{a:Act}{K:Act->World->Prop}{Q:Exit->Act->World->Prop}(d s:Operand)(t t':TypeId)
  (ho:o.op=.call { callee:=.builtin .copy,args:= #[d,s],argTypes:= #[t,t'] }) (v u:Value)(hd:a.eval d=v)(hs:a.eval s=u){v':Value}{w':World}
  (hr:(Builtin.copy_ #[t,t'] o.type #[v,u]).run P w=.ok v' w') (h:K (a.put o.dst v') w'):o.wp P a w K Q:=by
 unfold Oper.wp execOp;simp only[ho,resolve,invoke,builtin,Sem.run_bind,Sem.run_pure,Result.andThen_ok,List.map_toArray,List.map_cons,List.map_nil,hd,hs,hr];exact h
theorem Gy (w:World){ops:Array Oper}{rest:List Oper}{o:Oper}{a:Act}{Q:Exit->Act->World->Prop}(ZV:o.guard=none)(d s:Operand)(t t':TypeId)
  (ho:o.op=.call { callee:=.builtin .copy,args:= #[d,s],argTypes:= #[t,t'] }) (v u:Value)(hd:a.eval d=v)(hs:a.eval s=u){v':Value}{w':World}
  (hr:(Builtin.copy_ #[t,t'] o.type #[v,u]).run P w=.ok v' w') (h:wpList P ops Q rest (a.put o.dst v') w'):wpList P ops Q (o::rest) a w:=
 wpList_plain ZV fun _ hK=>AY w d s t t' ho v u hd hs hr (hK _ _ h)
theorem Mj {ops:Array Oper}{o:Oper}{a:Act}{w:World}{K:Act->World->Prop}{Q:Exit->Act->World->Prop}{E:Prop}
  (hg:o.guard=none)(d x:Operand)(dT sT:TypeId)(PY:o.op=Op.call { callee:=Callee.builtin Builtin.copy,args:= #[d,x],argTypes:= #[dT,sT] })
  (v u:Value)(hd:a.eval d=v)(hx:a.eval x=u){v':Value}{w':World}(hr:(Builtin.copy_ #[dT,sT] o.type #[v,u]).run P w=.ok v' w') (hK:K (a.put o.dst v') w'):
  if Region.wanted o (yielded ops a.tmps)=true then Oper.wp P o a w K Q else E:=by
 have hw:Region.wanted o (yielded ops a.tmps)=true:=by simp[Region.wanted,hg]
 rw[Oa hw];unfold Oper.wp;simp[execOp,PY,resolve,invoke,builtin,hd,hx,hr,Result.andThen];exact hK
end
theorem Z6:(prog.info? 82).map (fun i=>(i.zero,i.size,i.bytes))=some (some (.agg #[.int .i64 0,.int .i64 0]),2,16):=by kernel_rfl
theorem Oe:prog.underlying 31=some (.slice 82):=by kernel_rfl
theorem Adi:prog.underlying 3=some (.int .i64):=by kernel_rfl
set_option maxHeartbeats 4000000 in
set_option maxRecDepth 100000 in
theorem NA (b off n c i vb voff vc:Nat)(cs vs:List Value)(w:World)(hi:i<n)(Jr:n+1<=c)(Ad6:n<=100000)(hvb:vb≠b)
  (J0:cs.length=n*2)(Qw:vs.length=2)
  (Oj:∀j v,cs[j]?=some v->w.cell? ⟨b,off+j,none⟩=some v) (PW:∀j,j<(n+1)*2->(w.cell? ⟨b,off+j,none⟩).isSome=true) (Lz:∀j,j<(n+1)*2->w.frozen? ⟨b,off+j,none⟩=false)
  (F7:∀j v,vs[j]?=some v->w.cell? ⟨vb,voff+j,none⟩=some v) (h1c:∀v∈cs,v.oneCell'=true)(VZ:∀v∈vs,v.oneCell'=true)
  (tA tB:TypeId)(kA kB:Nat)(hsa:w.shape? vb=some (tA,kA)) (hsb:w.shape? b=some (tB,kB)) (hkB:kB≠0)(hfa:w.frozen? ⟨vb,voff,none⟩=false)(hfe:w.frozen? ⟨vb,kA,none⟩=false):
  Calls prog 45 #[.slice (some ⟨b,off,none⟩) n c,.int .i64 i,.slice (some ⟨vb,voff,none⟩) 1 vc] w fun e w'=>
   e=.returned (.slice (some ⟨b,off,none⟩) (n+1) c)∧w'=(w.drew.setCells b (off+(i+1)*2) (cs.drop (i*2))).setCells b (off+i*2) vs:=by
 obtain⟨i0,GY,hz0,Ux,hzb⟩:=info_parts Z6;have hz2:¬((i:Int)=(n:Int)):=by omega
 have hov:∀lb cb,(callFunc 63 #[.slice (some ⟨vb,voff,none⟩) 1 vc,.slice (some ⟨b,off+(i+1)*2,none⟩) lb cb]).run prog w=.ok (.value (.bool false)) w:=fun lb cb=>by
  rw[run_callFunc_extern Try.func63 (by kernel_rfl) (by kernel_rfl) (by kernel_rfl) (e:=Extern.SlicesOverlaps.overlaps #[31,31] #[4]) (by kernel_rfl),
   Lib.run_overlaps_apart w 31 4 82 Oe 2 (fun w=>by simp[sizeOf,typeInfo,GY,Ux]) ⟨vb,voff,none⟩ ⟨b,off+(i+1)*2,none⟩ 1 vc lb cb hvb tA tB kA kB hsa hsb hkB hfa hfe]
  rfl
 have TP:(cs.drop (i*2)).length=(n-i)*2:=by rw[List.length_drop,J0];omega
 have hw1:IntKind.i64.wrap ((i:Int)+1)=(i:Int)+1:=by rw[IntKind.wrap_i64];omega
 have hw2:IntKind.i64.wrap ((n:Int)+1)=(n:Int)+1:=by rw[IntKind.wrap_i64];omega
 have mixed:prog.follows Departure.mixedOrders=true:=by kernel_rfl
 have Dl:(0:Int)<=(i:Int)+1:=by omega
 have BT:i<=n:=by omega
 have htn:((i:Int)+1).toNat=i+1:=by omega
 have Hq:¬(c=i+1):=by omega
 have BJ:(i:Int)<=(n:Int)+1:=by omega
 have hb4:¬(c=i):=by omega
 have Af8:∀ty dc sc,(Builtin.copy_ #[31,31] ty #[.slice (some ⟨b,off+(i+1)*2,none⟩) (n-i) dc,.slice (some ⟨b,off+i*2,none⟩) (n+1-i) sc]).run prog w.drew=.ok (goInt ((n-i:Nat):Int)) (w.drew.setCells b (off+(i+1)*2) (cs.drop (i*2))):=fun ty dc sc=>
  Nc w.drew _ _ ty 82 i0 b (off+(i+1)*2) (n-i) dc ⟨b,off+i*2,none⟩ (n+1-i) sc (n-i) (cs.drop (i*2)) Oe GY (by simp only[Nat.min_def];split<;>omega) (by rw[Ux];exact TP)
   (fun j v hj=>by rw[Addr.add_lit,Nat.add_assoc];exact Oj (i*2+j) v (by rwa [List.getElem?_drop] at hj))
   (fun j hj=>by rw[Nat.add_assoc];exact PW _ (by omega)) (fun j hj=>by rw[Nat.add_assoc];exact Lz _ (by omega)) (fun v hv=>h1c v (List.mem_of_mem_drop hv))
 obtain⟨W1,GA⟩:∃W1,W1=w.drew.setCells b (off+(i+1)*2) (cs.drop (i*2)):=⟨_,rfl⟩
 have Ajk:∀k,k<(n+1)*2->(W1.cell? ⟨b,off+k,none⟩).isSome=true:=fun k hk=>by
  rw[GA];exact Hs b _ _ _ _ (PW k hk)
 have Ajx:∀(W:World),(∀x,W.cell? x=W1.cell? x)->(∀x,W.frozen? x=W1.frozen? x)->∀ty dc,(Builtin.copy_ #[31,31] ty #[.slice (some ⟨b,off+i*2,none⟩) (n+1-i) dc,.slice (some ⟨vb,voff,none⟩) 1 vc]).run prog W=.ok (goInt 1) (W.setCells b (off+i*2) vs):=fun W ZT hWf ty dc=>
  Nc W _ _ ty 82 i0 b (off+i*2) (n+1-i) dc ⟨vb,voff,none⟩ 1 vc 1 vs Oe GY (by simp only[Nat.min_def];split<;>omega) (by rw[Qw,Ux])
   (fun j v hj=>by
    rw[Addr.add_lit,ZT,GA,World.cell?_setCells_out b _ _ _ _ (fun h _=>absurd h hvb)]
    exact F7 j v hj)
   (fun j hj=>by rw[ZT,Nat.add_assoc];exact Ajk _ (by omega)) (fun j hj=>by rw[hWf,GA,World.frozen?_setCells,Nat.add_assoc];exact Lz _ (by omega)) VZ
 rw[←GA] at Af8
 go_enter Try.func45,Try.ntmps45
 go_wp2_with (simp only[hov])
 go_region_law_o (refine Mj rfl _ _ 31 31 rfl _ _ (by simp[Act.eval,Act.put]) (by simp[Act.eval,Act.put]) (Af8 _ _ _) ?_)
 go_wp2_with (at_builtin;refine Gy _ rfl _ _ 31 31 rfl _ _ rfl rfl (Ajx _ (fun _=>rfl) (fun _=>rfl) _ _) ?_)
 go_ret
 first|exact⟨rfl,rfl⟩|exact⟨rfl,by rw[GA]⟩
theorem QJ {w:World}{vb voff vc:Nat}{vs:List Value}(Qw:vs.length=2)(F7:∀j v,vs[j]?=some v->w.cell? ⟨vb,voff+j,none⟩=some v) (VZ:∀v∈vs,v.oneCell'=true):
  Pv.Src prog w (fun _=>False) 2 (.slice (some ⟨vb,voff,none⟩) 1 vc) 1 (vs.map .sc) vs where
 len:=fun w'=>by simp[Builtin.lenOf]
 cells:=fun w' hw=>by
  refine Pv.run_first_slice (w:=w') (.inr ⟨_,rfl,by omega,fun j v hj=>?_⟩)
  have hv:=F7 j v hj;rw[Addr.add_lit,World.cell?_of_block (w:=w) (hw vb (block_lt_of_cell hv))];exact hv
 part:=fun k hk=>by
  refine run_firstCells_some w 2 k ⟨vb,voff,none⟩ 1 vc _ (by rw[List.length_take];omega) fun j v hj=>?_
  rw[List.getElem?_take] at hj;split at hj
  ·rw[Addr.add_lit];exact F7 j v hj
  ·cases hj
 one:=VZ
 rep:=by
  clear F7 VZ Qw
  induction vs with
  |nil=>trivial
  |cons v vs ih=>exact⟨.sc v,ih⟩
set_option maxHeartbeats 4000000 in
set_option maxRecDepth 100000 in
theorem BE (b off n c vb voff vc:Nat)(vs:List Value)(w:World)(Jr:n+1<=c)
  (Qw:vs.length=2)(PW:∀j,j<2->(w.cell? ⟨b,off+n*2+j,none⟩).isSome=true) (Lz:∀j,j<2->w.frozen? ⟨b,off+n*2+j,none⟩=false)
  (F7:∀j v,vs[j]?=some v->w.cell? ⟨vb,voff+j,none⟩=some v) (VZ:∀v∈vs,v.oneCell'=true):
  Calls prog 45 #[.slice (some ⟨b,off,none⟩) n c,.int .i64 n,.slice (some ⟨vb,voff,none⟩) 1 vc] w fun e w'=>
   e=.returned (.slice (some ⟨b,off,none⟩) (n+1) c)∧w'=w.setCells b (off+n*2) vs:=by
 obtain⟨i0,GY,hz0,Ux,hzb⟩:=info_parts Z6;have Ks:=QJ (vc:=vc) Qw F7 VZ;rw[←Ux] at Ks PW Lz ⊢
 have hr:∀ty,(Builtin.append_ #[31,31] ty #[.slice (some ⟨b,off,none⟩) n c,.slice (some ⟨vb,voff,none⟩) 1 vc]).run prog w=_:=fun ty=>
  Pv.append_room_run (P:=prog) (w:=w) (t:=31) (tx:=31) (ty:=ty) (ts:=[]) (b:=b) (ob:=off) (n:=n) (cap:=c) Oe Oe (fun k=>by simp) GY Ks (by rw[Qw,Ux]) (fun k hk=>PW k (by rw[Ux];omega)) (fun k hk=>Lz k (by rw[Ux];omega)) Jr
 have mixed:prog.follows Departure.mixedOrders=true:=by kernel_rfl
 go_enter Try.func45,Try.ntmps45
 go_wp2_with (at_builtin;refine Lib.wpList_append_run _ rfl _ _ _ _ rfl _ _ rfl rfl _ _ (hr _) ?_)
 go_ret
 exact⟨rfl,by rw[Ux]⟩
set_option maxHeartbeats 4000000 in
set_option maxRecDepth 100000 in
theorem Zo (base:Option Addr)(n c vb voff vc:Nat)(cs vs:List Value)(w:World)(hnc:n<=c)(Jr:c<n+1)(Ad6:n<=100000)
  (J0:cs.length=n*2)(Qw:vs.length=2)(Oj:(base=none∧cs=[])∨∃p,base=some p∧∀j v,cs[j]?=some v->w.cell? (p.add j)=some v)
  (F7:∀j v,vs[j]?=some v->w.cell? ⟨vb,voff+j,none⟩=some v) (VZ:∀v∈vs,v.oneCell'=true):
  Calls prog 45 #[.slice base n c,.int .i64 n,.slice (some ⟨vb,voff,none⟩) 1 vc] w fun e w'=>
   e=.returned (.slice (some ⟨w.heap.size,0,none⟩) (n+1) (grownCap w (n+1) c 82)) ∧
   w'=w.drew.alloc (.cells (cs.toArray++vs.toArray++Builtin.zeroCells #[.int .i64 0,.int .i64 0] (grownCap w (n+1) c 82-(n+1))) 82):=by
 obtain⟨i0,GY,hz0,Ux,hzb⟩:=info_parts Z6;have Ks:=QJ (vc:=vc) Qw F7 VZ;rw[←Ux] at Ks
 have hr:∀ty,(Builtin.append_ #[31,31] ty #[.slice base n c,.slice (some ⟨vb,voff,none⟩) 1 vc]).run prog w=_:=fun ty=>
  Pv.append_grow_run (P:=prog) (w:=w) (t:=31) (tx:=31) (ty:=ty) (ts:=[]) (ad:=base) (n:=n) (cap:=c) (olds:=cs) Oe Oe (fun k=>by simp) GY hz0 Ks (by
   rcases Oj with h|⟨p,h,g⟩
   ·exact .inl h
   ·exact .inr ⟨p,h,by rw[Ux];exact J0,g⟩) Jr (by rw[hzb];omega) (by omega)
 have Sh:base=none->n=0:=by
  rintro rfl
  rcases Oj with⟨_,rfl⟩|⟨p,h,_⟩
  ·simp at J0;omega
  ·cases h
 have mixed:prog.follows Departure.mixedOrders=true:=by kernel_rfl
 clear Oj
 go_enter Try.func45,Try.ntmps45
 cases base with
 |none=>
  have h0:=Sh rfl;subst h0
  go_wp2_with (at_builtin;refine Lib.wpList_append_run _ rfl _ _ _ _ rfl _ _ rfl rfl _ _ (hr _) ?_)
  go_ret
  exact⟨rfl,rfl⟩
 |some a=>
  go_wp2_with (at_builtin;refine Lib.wpList_append_run _ rfl _ _ _ _ rfl _ _ rfl rfl _ _ (hr _) ?_)
  go_ret
  exact⟨rfl,rfl⟩
set_option maxHeartbeats 4000000 in
set_option maxRecDepth 100000 in
theorem SB (b off n c i vb voff vc:Nat)(cs vs:List Value)(w:World)(hi:i<n)(hnc:n<=c)(Jr:c<n+1)(Ad6:n<=100000)
  (J0:cs.length=n*2)(Qw:vs.length=2)
  (Oj:∀j v,cs[j]?=some v->w.cell? ⟨b,off+j,none⟩=some v)
  (F7:∀j v,vs[j]?=some v->w.cell? ⟨vb,voff+j,none⟩=some v) (h1c:∀v∈cs,v.oneCell'=true)(VZ:∀v∈vs,v.oneCell'=true):
  Calls prog 45 #[.slice (some ⟨b,off,none⟩) n c,.int .i64 i,.slice (some ⟨vb,voff,none⟩) 1 vc] w fun e w'=>
   e=.returned (.slice (some ⟨w.heap.size,0,none⟩) (n+1) (grownCap w (n+1) c 82)) ∧
   w'=(((w.alloc (.cells ((cs.take (i*2)).toArray++Builtin.zeroCells #[.int .i64 0,.int .i64 0] (n+1-i)++Builtin.zeroCells #[.int .i64 0,.int .i64 0] (grownCap w (n+1) c 82-(n+1))) 82)).drew.setCells w.heap.size (i*2) vs).drew).setCells w.heap.size ((i+1)*2) (cs.drop (i*2)):=by
 obtain⟨i0,GY,hz0,Ux,hzb⟩:=info_parts Z6;have hz2:¬((i:Int)=(n:Int)):=by omega
 have hz3:(c:Int)<(n:Int)+1:=by omega
 have hbw:b<w.heap.size:=block_lt_of_cell (Oj 0 _ (List.getElem?_eq_getElem (by omega)))
 have hvw:vb<w.heap.size:=block_lt_of_cell (F7 0 _ (List.getElem?_eq_getElem (by omega)))
 have hkk:(n:Int)+1-(i:Int)=((n+1-i:Nat):Int):=by omega
 have hik:i+(n+1-i)=n+1:=by omega
 have hold:(Builtin.firstCells i0.size i (.slice (some ⟨b,off,none⟩) i c)).run prog w.drew=.ok (cs.take (i*2)).toArray w.drew:=by
  rw[Ux]
  exact run_firstCells_some w.drew 2 i ⟨b,off,none⟩ i c (cs.take (i*2)) (by rw[List.length_take];omega) (fun j v hj=>by
   rw[Addr.add_lit];rw[List.getElem?_take] at hj;split at hj
   ·exact Oj j v hj
   ·cases hj)
 have hrz:∀ty,(Builtin.append_ #[31,3] ty #[.slice (some ⟨b,off,none⟩) i c,.int .i64 ((n:Int)+1-(i:Int))]).run prog w =
   .ok (.slice (some ⟨w.heap.size,0,none⟩) (n+1) (grownCap w (n+1) c 82)) (w.drew.alloc (.cells ((cs.take (i*2)).toArray++Builtin.zeroCells #[.int .i64 0,.int .i64 0] (n+1-i)++Builtin.zeroCells #[.int .i64 0,.int .i64 0] (grownCap w (n+1) c 82-(n+1))) 82)):=fun ty=>by
  have h:=Lib.run_append_grow_zeros w 31 3 ty 82 i0 _ .i64 .i64 Oe Adi GY hz0 (some ⟨b,off,none⟩) i c (cs.take (i*2)) hold (n+1-i) (by omega) (by omega) (by omega) (by omega) (by rw[hzb];omega) (by rw[hzb,hik];exact growslice_fits Jr (by omega))
  rw[hik] at h;rw[hkk];exact h
 obtain⟨G,hG⟩:∃G,G=grownCap w (n+1) c 82:=⟨_,rfl⟩;obtain⟨ROW,CY⟩:∃ROW:Array Value,ROW=(cs.take (i*2)).toArray++Builtin.zeroCells #[.int .i64 0,.int .i64 0] (n+1-i)++Builtin.zeroCells #[.int .i64 0,.int .i64 0] (G-(n+1)):=⟨_,rfl⟩;rw[←hG] at hrz ⊢;rw[←CY] at hrz ⊢
 have hRl:(n+1)*2<=ROW.size:=by
  rw[CY];simp[Builtin.zeroCells];omega
 obtain⟨W1,GA⟩:∃W1,W1=w.drew.alloc (.cells ROW 82):=⟨_,rfl⟩;rw[←GA] at hrz
 have hN:∀j,j<(n+1)*2->(W1.cell? ⟨w.heap.size,j,none⟩).isSome=true:=fun j hj=>by
  rw[GA,World.cell?_alloc_at (w:=w.drew) ROW _ w.heap.size j rfl,Array.getElem?_eq_getElem (by omega)];rfl
 have hNf:∀j,W1.frozen? ⟨w.heap.size,j,none⟩=false:=fun j=>by rw[GA];exact World.frozen?_alloc_at (w:=w.drew) ROW _ w.heap.size j rfl
 have hOb:∀j v,w.cell? ⟨b,j,none⟩=some v->W1.cell? ⟨b,j,none⟩=some v:=fun j v h=>by rw[GA,World.cell?_alloc_past (w:=w.drew) _ b j hbw];exact h
 have hOv:∀j v,w.cell? ⟨vb,j,none⟩=some v->W1.cell? ⟨vb,j,none⟩=some v:=fun j v h=>by rw[GA,World.cell?_alloc_past (w:=w.drew) _ vb j hvw];exact h
 have Akp:∀(W:World),(∀x,W.cell? x=W1.cell? x)->(∀x,W.frozen? x=W1.frozen? x)->∀ty dc,(Builtin.copy_ #[31,31] ty #[.slice (some ⟨w.heap.size,i*2,none⟩) (n+1-i) dc,.slice (some ⟨vb,voff,none⟩) 1 vc]).run prog W=.ok (goInt 1) (W.setCells w.heap.size (i*2) vs):=fun W ZT hWf ty dc=>
  Nc W _ _ ty 82 i0 w.heap.size (i*2) (n+1-i) dc ⟨vb,voff,none⟩ 1 vc 1 vs Oe GY (by simp only[Nat.min_def];split<;>omega) (by rw[Qw,Ux])
   (fun j v hj=>by rw[Addr.add_lit,ZT];exact hOv _ v (F7 j v hj))
   (fun j hj=>by rw[ZT];exact hN _ (by omega)) (fun j hj=>by rw[hWf];exact hNf _) VZ
 have hGn:n+1<=G:=by rw[hG];exact grownCap_ge w _ _ _
 have Aoe:G<=9223372036854775807:=by
  have:=grownCap_le_maxLen w (n+1) c 82 (by unfold maxLen;omega)
  rw[←hG] at this;unfold maxLen at this;omega
 have hGi:¬(G=i):=by omega
 have An8:¬(G=i+1):=by omega
 have hci:¬(c=i):=by omega
 have hbN:b≠w.heap.size:=by omega
 have TP:(cs.drop (i*2)).length=(n-i)*2:=by rw[List.length_drop,J0];omega
 have Aet:∀(W:World),(∀x,W.cell? x=(W1.setCells w.heap.size (i*2) vs).cell? x)->(∀x,W.frozen? x=(W1.setCells w.heap.size (i*2) vs).frozen? x)->∀ty dc sc,(Builtin.copy_ #[31,31] ty #[.slice (some ⟨w.heap.size,(i+1)*2,none⟩) (n-i) dc,.slice (some ⟨b,off+i*2,none⟩) (n-i) sc]).run prog W=.ok (goInt ((n-i:Nat):Int)) (W.setCells w.heap.size ((i+1)*2) (cs.drop (i*2))):=fun W ZT hWf ty dc sc=>
  Nc W _ _ ty 82 i0 w.heap.size ((i+1)*2) (n-i) dc ⟨b,off+i*2,none⟩ (n-i) sc (n-i) (cs.drop (i*2)) Oe GY (by simp only[Nat.min_def];split<;>omega) (by rw[Ux];exact TP)
   (fun j v hj=>by
    rw[Addr.add_lit,ZT,World.cell?_setCells_out _ _ _ _ _ (fun h _=>absurd h hbN),Nat.add_assoc]
    exact hOb _ v (Oj (i*2+j) v (by rwa [List.getElem?_drop] at hj)))
   (fun j hj=>by rw[ZT];exact Hs _ _ _ _ _ (hN _ (by omega)))
   (fun j hj=>by rw[hWf,World.frozen?_setCells];exact hNf _) (fun v hv=>h1c v (List.mem_of_mem_drop hv))
 subst GA;have hE1:∀x,((w.alloc (.cells ROW 82)).drew).cell? x=(w.drew.alloc (.cells ROW 82)).cell? x:=fun x=>rfl
 have hE2:∀x,((w.alloc (.cells ROW 82)).drew).frozen? x=(w.drew.alloc (.cells ROW 82)).frozen? x:=fun x=>rfl
 have hF1:∀x,(((w.alloc (.cells ROW 82)).drew.setCells w.heap.size (i*2) vs).drew).cell? x=((w.drew.alloc (.cells ROW 82)).setCells w.heap.size (i*2) vs).cell? x:=fun x=>rfl
 have hF2:∀x,(((w.alloc (.cells ROW 82)).drew.setCells w.heap.size (i*2) vs).drew).frozen? x=((w.drew.alloc (.cells ROW 82)).setCells w.heap.size (i*2) vs).frozen? x:=fun x=>rfl
 have hw1:IntKind.i64.wrap ((i:Int)+1)=(i:Int)+1:=by rw[IntKind.wrap_i64];omega
 have hw2:IntKind.i64.wrap ((n:Int)+1)=(n:Int)+1:=by rw[IntKind.wrap_i64];omega
 have hw3:IntKind.i64.wrap ((n:Int)+1-(i:Int))=(n:Int)+1-(i:Int):=by rw[IntKind.wrap_i64];omega
 have Dl:(0:Int)<=(i:Int)+1:=by omega
 have BT:i<=n:=by omega
 have htn:((i:Int)+1).toNat=i+1:=by omega
 have BJ:(i:Int)<=(n:Int):=by omega
 have mixed:prog.follows Departure.mixedOrders=true:=by kernel_rfl
 clear hkk hik hold CY hG hRl
 go_enter Try.func45,Try.ntmps45
 go_wp2_with (first
  |(at_builtin;refine Lib.wpList_append_run _ rfl _ _ _ _ rfl _ _ rfl rfl _ _ (hrz _) ?_)
  |(at_builtin;refine Gy _ rfl _ _ 31 31 rfl _ _ rfl rfl (Akp _ hE1 hE2 _ _) ?_)
  |(at_builtin;refine Gy _ rfl _ _ 31 31 rfl _ _ rfl rfl (Aet _ (fun _=>rfl) (fun _=>rfl) _ _ _) ?_))
 go_region_law_o (refine Mj rfl _ _ 31 31 rfl (.slice (some ⟨w.heap.size,(i+1)*2,none⟩) (n-i) (G-(i+1))) (.slice (some ⟨b,off+i*2,none⟩) (n-i) (c-i)) (by simp[Act.eval,Act.put]) (by simp[Act.eval,Act.put]) (Aet _ hF1 hF2 3 (G-(i+1)) (c-i)) ?_)
 go_wp2
 go_ret
 exact⟨rfl,rfl⟩
end
section
open Go.Proofs.Try (prog)
open Go.IntKind (wrap)
open Go.RowKit Go.Lib
structure R5 (w w':World):Prop where
 os:w'.os=w.os
 tape:w'.tape=w.tape
 output:w'.output=w.output
 old:∀k,k<w.heap.size->w'.heap[k]?=w.heap[k]?
 size:w'.heap.size=w.heap.size+1
 frz:∀j,w'.frozen? ⟨w.heap.size,j,none⟩=false
theorem R5.alloc (w:World)(c:Array Value)(e:TypeId):R5 w (w.alloc (.cells c e)):=
 ⟨rfl,rfl,rfl,fun b hb=>Below.heap_alloc w _ b hb,by show (w.heap.push _).size=_;simp,fun j=>World.frozen?_alloc_at (w:=w) c e w.heap.size j rfl⟩
theorem R5.allocD (w:World)(c:Array Value)(e:TypeId):R5 w (w.drew.alloc (.cells c e)):=by
 have h:=R5.alloc w.drew c e;exact⟨h.os,h.tape,h.output,h.old,h.size,h.frz⟩
theorem R5.wrote {w w' w'':World}(h:R5 w w')(g:Bc w.heap.size w' w''):R5 w w'':=
 ⟨g.os.trans h.os,g.tape.trans h.tape,g.output.trans h.output,fun k hk=>(g.other k (by omega)).trans (h.old k hk),g.size.trans h.size,fun j=>(g.frz j).trans (h.frz j)⟩
theorem Bc.drew (b:Nat)(w:World):Bc b w w.drew:=⟨rfl,rfl,rfl,rfl,fun _ _=>rfl,rfl,fun _=>rfl⟩
theorem TO {w:World}{A:Nat->Prop}{a:Addr}:∀{cs:List Value},BO w A a (cs.map .sc)->∀j v,cs[j]?=some v->w.cell? (a.add j)=some v∧v.oneCell'=true:=by
 intro cs h j v hj;obtain⟨u,h1,h2,h3⟩:=h j (.sc v) (by rw[List.getElem?_map,hj];rfl)
 cases h3;exact⟨h1,h2⟩
theorem Zm {w:World}{A:Nat->Prop}{a:Addr}{cs:List Value}(h:∀j v,cs[j]?=some v->w.cell? (a.add j)=some v) (h1:∀v∈cs,v.oneCell'=true):BO w A a (cs.map .sc):=by
 intro j p hp;rw[List.getElem?_map] at hp;cases hv:cs[j]? with
 |none=>rw[hv] at hp;cases hp
 |some v=>
  rw[hv] at hp;cases hp;exact⟨v,h j v hv,h1 v (List.mem_of_getElem? hv),.sc v⟩
theorem JQ:∀{c:List PV},c.all Wj=true->∃cs:List Value,c=cs.map .sc
 |[],_=>⟨[],rfl⟩
 |p::c,h=>by
  simp only[List.all_cons,Bool.and_eq_true] at h;obtain⟨cs,rfl⟩:=JQ h.2;have hp:=h.1;unfold Wj at hp;split at hp
  ·exact⟨_::cs,rfl⟩
  ·cases hp
def P6 (q:Nat × Nat):Bt:=fun j=>match j with|0=>some q|_=>none
def N2 (i:Nat)(cs vs:List Value):List Value:=cs.take (i*2)++vs++cs.drop (i*2)
theorem DC {i n j:Nat}{cs vs:List Value}{v:Value}(hi:i<=n)(hc:cs.length=n*2)(hv:vs.length=2)(h:(N2 i cs vs)[j]?=some v):
  (j<i*2∧cs[j]?=some v)∨(i*2<=j∧j<i*2+2∧vs[j-i*2]?=some v)∨((i+1)*2<=j∧(cs.drop (i*2))[j-(i+1)*2]?=some v):=by
 unfold N2 at h;have lt:(cs.take (i*2)).length=i*2:=by rw[List.length_take];omega
 by_cases h1:j<i*2
 ·rw[XC,List.getElem?_append_left (by omega),List.getElem?_take,Oa h1] at h
  exact .inl ⟨h1,h⟩
 ·by_cases h2:j<i*2+2
  ·rw[XC,List.getElem?_append_right (by omega),lt,List.getElem?_append_left (by omega)] at h
   exact .inr (.inl ⟨by omega,h2,h⟩)
  ·rw[List.getElem?_append_right (by simp;omega)] at h
   refine .inr (.inr ⟨by omega,?_⟩)
   rw[QT,lt,hv] at h;rw[←h]
   congr 1
   omega
section
variable {w w':World} {Y:Nat->Prop} {bt:Tl} {args:List PV} {L vs:List Value} {n cap b o vb vo:Nat} {x1:PV} {x0:PV}
theorem NY (hb:bt 0 1=some (b,o)) (hv:bt 2 0=some (vb,vo)) (G6:vb≠b)(Q1:b<w.heap.size)(Qw:vb<w.heap.size)(hw:Bc b w w')
  (Ab5:∀j,j<o->w'.cell? ⟨b,j,none⟩=w.cell? ⟨b,j,none⟩)(hn:n<=cap)(hF:Fit w 2 b (o+cap*2)) (Lz:∀j,o<=j->j<bsz w b->w.frozen? ⟨b,j,none⟩=false)
  (hL:∀j v,L[j]?=some v->w'.cell? ⟨b,o+j,none⟩=some v) (h1:∀v∈L,v.oneCell'=true)
  (F7:∀j v,vs[j]?=some v->w.cell? ⟨vb,vo+j,none⟩=some v) (h2:∀v∈vs,v.oneCell'=true)(hvf:∀j,vo<=j->j<bsz w vb->w.frozen? ⟨vb,j,none⟩=false)
  (e0:∀ps,x0 ≠ .pbox ps)(e0':∀ps,x0 ≠ .tup ps)(e1:∀ps,x1 ≠ .pbox ps)(e1':∀ps,x1 ≠ .tup ps){q:List PV}:
  ZZ w w' Y bt [x0,x1,.tup q] (P6 (b,o)) ⟨[.own 2 n (L.map .sc)],[vs.map .sc]⟩ [.slice (some ⟨b,o,none⟩) n cap] where
 os:=hw.os
 tape:=hw.tape
 output:=hw.output
 ext:=⟨by rw[hw.size];exact Nat.le_refl _,fun k _ hk=>hw.other k (fun e=>hk (e ▸ ⟨0,1,o,hb⟩)),fun k _=>hw.grow k⟩
 rng:=fun k j hk hX=>by
  by_cases e:k=b
  ·subst e
   have hj:j<o:=by
    refine Nat.lt_of_not_le fun Sy=>hX ⟨0,x0,rfl,Or.inl ⟨0,o,hb,Sy⟩⟩
   exact⟨Ab5 j hj,hw.frz j⟩
  ·exact⟨by unfold World.cell?;simp only[hw.other k e],by unfold World.frozen?;simp only[hw.other k e]⟩
 vals:=⟨.inr ⟨b,o,cap,rfl,rfl,hn,hF.step (hw.grow b),by rw[hw.size];exact Q1,Zm (fun j v hj=>by rw[B6];exact hL j v hj) h1,fun j hj I8=>by rw[hw.frz];exact Lz j hj (by rw[hw.bs] at I8;exact I8)⟩,trivial⟩
 outs:=by
  have WM:w'.heap[vb]?=w.heap[vb]?:=hw.other vb G6;have W3:bsz w' vb=bsz w vb:=by unfold bsz;rw[WM]
  have h:F1 w' (Ru bt (P6 (b,o)) Y) (P6 (b,o)) bt 1 2 [.tup q] [vs.map .sc]:=by
   refine⟨.inr ⟨vb,vo,hv,Zm (fun j v hj=>?_) h2,fun j hj I8=>?_⟩,rfl⟩
   ·rw[B6,World.cell?_of_block (w:=w) WM];exact F7 j v hj
   ·rw[World.frozen?_of_block (w:=w) WM];exact hvf j hj (by rw[W3] at I8;exact I8)
  have h':F1 w' (Ru bt (P6 (b,o)) Y) (P6 (b,o)) bt 1 1 [x1,.tup q] [vs.map .sc]:=by
   unfold F1;cases x1<;>first|exact h|exact absurd rfl (e1 _)|exact absurd rfl (e1' _)
  show F1 w' (Ru bt (P6 (b,o)) Y) (P6 (b,o)) bt 1 0 [x0,x1,.tup q] [vs.map .sc];unfold F1;cases x0<;>first|exact h'|exact absurd rfl (e0 _)|exact absurd rfl (e0' _)
 fresh:=fun j k y h=>by
  cases j with
  |zero=>
   cases h;refine⟨by rw[hw.size];exact Q1,fun _=>⟨⟨0,0,o,hb⟩,fun x hx=>⟨0,x0,rfl,Or.inl ⟨0,o,hb,hx⟩⟩⟩⟩
  |succ j=>cases h
 inj:=fun j j' k y y' h h'=>by
  cases j with
  |zero=>cases j' with
   |zero=>rfl
   |succ j'=>cases h'
  |succ j=>cases h
theorem XI (hv:bt 2 0=some (vb,vo)) (Qw:vb<w.heap.size)(hw:R5 w w')
  (hn:n<=cap)(hF:cap*2<=bsz w' w.heap.size)
  (hL:∀j v,L[j]?=some v->w'.cell? ⟨w.heap.size,j,none⟩=some v) (h1:∀v∈L,v.oneCell'=true)
  (F7:∀j v,vs[j]?=some v->w.cell? ⟨vb,vo+j,none⟩=some v) (h2:∀v∈vs,v.oneCell'=true)(hvf:∀j,vo<=j->j<bsz w vb->w.frozen? ⟨vb,j,none⟩=false)
  (e0:∀ps,x0 ≠ .pbox ps)(e0':∀ps,x0 ≠ .tup ps)(e1:∀ps,x1 ≠ .pbox ps)(e1':∀ps,x1 ≠ .tup ps){q:List PV}:
  ZZ w w' Y bt [x0,x1,.tup q] (P6 (w.heap.size,0)) ⟨[.own 2 n (L.map .sc)],[vs.map .sc]⟩ [.slice (some ⟨w.heap.size,0,none⟩) n cap] where
 os:=hw.os
 tape:=hw.tape
 output:=hw.output
 ext:=⟨by rw[hw.size];omega,fun k hk _=>hw.old k hk,fun k hk=>Fy.same (hw.old k hk)⟩
 rng:=fun k j hk _=>⟨by unfold World.cell?;simp only[hw.old k hk],by unfold World.frozen?;simp only[hw.old k hk]⟩
 vals:=⟨.inr ⟨w.heap.size,0,cap,rfl,rfl,hn,⟨by omega,.inr (hw.frz _)⟩,by rw[hw.size];omega,Zm (fun j v hj=>by rw[B6,T9];exact hL j v hj) h1,fun j _ _=>hw.frz j⟩,trivial⟩
 outs:=by
  have WM:w'.heap[vb]?=w.heap[vb]?:=hw.old vb Qw;have W3:bsz w' vb=bsz w vb:=by unfold bsz;rw[WM]
  have h:F1 w' (Ru bt (P6 (w.heap.size,0)) Y) (P6 (w.heap.size,0)) bt 1 2 [.tup q] [vs.map .sc]:=by
   refine⟨.inr ⟨vb,vo,hv,Zm (fun j v hj=>?_) h2,fun j hj I8=>?_⟩,rfl⟩
   ·rw[B6,World.cell?_of_block (w:=w) WM];exact F7 j v hj
   ·rw[World.frozen?_of_block (w:=w) WM];exact hvf j hj (by rw[W3] at I8;exact I8)
  have h':F1 w' (Ru bt (P6 (w.heap.size,0)) Y) (P6 (w.heap.size,0)) bt 1 1 [x1,.tup q] [vs.map .sc]:=by
   unfold F1;cases x1<;>first|exact h|exact absurd rfl (e1 _)|exact absurd rfl (e1' _)
  show F1 w' (Ru bt (P6 (w.heap.size,0)) Y) (P6 (w.heap.size,0)) bt 1 0 [x0,x1,.tup q] [vs.map .sc];unfold F1;cases x0<;>first|exact h'|exact absurd rfl (e0 _)|exact absurd rfl (e0' _)
 fresh:=fun j k y h=>by
  cases j with
  |zero=>cases h;exact⟨by rw[hw.size];omega,fun Bk=>absurd Bk (Nat.lt_irrefl _)⟩
  |succ j=>cases h
 inj:=fun j j' k y y' h h'=>by
  cases j with
  |zero=>cases j' with
   |zero=>rfl
   |succ j'=>cases h'
  |succ j=>cases h
end
theorem ME (G:Glo)(args:List PV)(res:Bg)(h:QK args=some res):Db G prog 45 args res:=by
 refine⟨⟨_,Try.func45,by kernel_rfl⟩,fun w Y bt us hi _ _=>?_⟩
 unfold QK at h;split at h
 rotate_left
 ·cases h
 rename_i n c i f l;cases hq:(Nat.beq c.length (n*2)&&decide (0<=i)&&decide (i<=n)&&Nat.ble n 100000&&c.all Wj)
 ·rw[hq] at h;cases h
 rw[hq] at h;simp only[Bool.and_eq_true,decide_eq_true_eq] at hq;obtain⟨⟨⟨⟨hc,h0⟩,h1⟩,hn⟩,I7⟩:=hq;have hc:=Nat.eq_of_beq_eq_true hc;have hn:=Nat.le_of_ble_eq_true hn;simp only[cond_true] at h;cases h;obtain⟨k,rfl⟩:=Int.eq_ofNat_of_zero_le h0;have hk:k<=n:=by omega
 obtain⟨cs,rfl⟩:=JQ I7;rw[List.length_map] at hc
 have eL:List.take (Int.toNat (k:Int)*2) (cs.map PV.sc)++(PV.sc (.int .i64 f)::PV.sc (.int .i64 l)::List.drop (Int.toNat (k:Int)*2) (cs.map PV.sc))=(N2 k cs [.int .i64 f,.int .i64 l]).map .sc:=by
  unfold N2;rw[Y1,List.map_append,List.map_append,List.map_take,List.map_drop,XC];rfl
 rw[eL];clear h0 h1 I7 eL;obtain⟨vs,YL⟩:∃vs:List Value,vs=[.int .i64 f,.int .i64 l]:=⟨_,rfl⟩;have Qw:vs.length=2:=by rw[YL];rfl
 have VP:∀v∈vs,v.oneCell'=true:=by
  intro v hv;rw[YL] at hv;rcases List.mem_cons.1 hv with rfl|hv
  ·rfl
  ·rw[List.mem_singleton] at hv;subst hv;rfl
 have evm:[PV.sc (.int .i64 f),PV.sc (.int .i64 l)]=vs.map .sc:=by rw[YL];rfl
 rw[←YL];have ps:=hi.args;rw[evm] at ps ⊢
 match us,ps with
 |[u0,u1,u2],ps=>
  obtain⟨⟨_,p0⟩,⟨_,p1⟩,⟨es2,n2,c2,e2,p2⟩,_⟩:=ps;simp only[List.cons.injEq,PV.own.injEq,and_true] at e2;obtain⟨rfl,rfl,rfl⟩:=e2;have SR:u1=.int .i64 k:=Ao.val (show Ao w _ (.sc (.int .i64 k)) u1 from p1)
  subst SR;rcases p2 with⟨_,hz,_⟩|⟨vb,vo,vc,hvb,rfl,hvn,hvF,Abk,hvR,hvf⟩
  ·cases hz
  have hvr:=TO hvR
  have F7:∀j v,vs[j]?=some v->w.cell? ⟨vb,vo+j,none⟩=some v:=fun j v hj=>by
   have:=(hvr j v hj).1
   rwa [B6] at this
  have fin_new:∀(u0:Value) (w':World) (cap:Nat),R5 w w'->n+1<=cap->cap*2<=bsz w' w.heap.size->(∀j v,(N2 k cs vs)[j]?=some v->w'.cell? ⟨w.heap.size,j,none⟩=some v)->(∀v∈N2 k cs vs,v.oneCell'=true) ->
    ∃us own,Ending.returned (Value.slice (some ⟨w.heap.size,0,none⟩) (n+1) cap)=.returned (Fc us)∧ZZ w w' Y bt [.own 2 n (cs.map .sc),.sc (.int .i64 k),.tup [.own 2 1 (vs.map .sc)]] own ⟨[.own 2 (n+1) ((N2 k cs vs).map .sc)],[vs.map .sc]⟩ us:=by
   intro u0 w' cap hw Nv hF hL h1;exact⟨_,_,rfl,XI hvb Abk hw Nv hF hL h1 F7 VP hvf (by simp) (by simp) (by simp) (by simp)⟩
  have one:(∀v∈cs,v.oneCell'=true)->∀v∈N2 k cs vs,v.oneCell'=true:=by
   intro Y8 v hv;unfold N2 at hv;rcases List.mem_append.1 hv with hv|hv
   ·rcases List.mem_append.1 hv with hv|hv
    ·exact Y8 v (List.mem_of_mem_take hv)
    ·exact VP v hv
   ·exact Y8 v (List.mem_of_mem_drop hv)
  have grow_end:∀(base:Option Addr) (cap0:Nat),n<=cap0->cap0<n+1->k=n->((base=none∧cs=[])∨∃p,base=some p∧∀j v,cs[j]?=some v->w.cell? (p.add j)=some v)->(∀v∈cs,v.oneCell'=true) ->
    Calls prog 45 #[.slice base n cap0,.int .i64 k,.slice (some ⟨vb,vo,none⟩) 1 vc] w fun e w'=>
     ∃us own,e=.returned (Fc us)∧ZZ w w' Y bt [.own 2 n (cs.map .sc),.sc (.int .i64 k),.tup [.own 2 1 (vs.map .sc)]] own ⟨[.own 2 (n+1) ((N2 k cs vs).map .sc)],[vs.map .sc]⟩ us:=by
   intro base cap0 Y8 hc2 hkn hb HF;subst hkn;refine (Zo base k cap0 vb vo vc cs vs w Y8 hc2 hn hc Qw hb F7 VP).mono ?_
   rintro e w' ⟨rfl,rfl⟩
   obtain⟨G,hG⟩:∃G,G=grownCap w (k+1) cap0 82:=⟨_,rfl⟩;rw[←hG];have hGn:k+1<=G:=by rw[hG];exact grownCap_ge w _ _ _
   have eI:N2 k cs vs=cs++vs:=by
    unfold N2;rw[Q9 (by omega),List.drop_of_length_le (by omega),List.append_nil]
   refine fin_new undef _ G (R5.allocD w _ _) hGn ?_ (fun j v hj=>?_) (one HF)
   ·have:bsz (w.drew.alloc (.cells (cs.toArray++vs.toArray++Builtin.zeroCells #[.int .i64 0,.int .i64 0] (G-(k+1))) 82)) w.heap.size=_:=(Dg.alloc w.drew _ _).bsz;rw[this];simp[Builtin.zeroCells];omega
   ·rw[eI] at hj;have Bk:=Jx hj;rw[World.cell?_alloc_at (w:=w.drew) _ _ w.heap.size j rfl,Array.getElem?_append_left (by simpa using Bk)]
    simpa using hj
  rcases p0 with⟨_,rfl,hc0,ad,rfl⟩|⟨b,o,cap,hb,rfl,KG,hF,TB,hR,Lz⟩
  ·have Oj:cs=[]:=by simpa using hc0
   subst Oj;have hk0:k=0:=by omega
   refine grow_end ad 0 (Nat.le_refl _) (by omega) hk0 ?_ (by simp)
   cases ad with
   |none=>exact .inl ⟨rfl,rfl⟩
   |some p=>exact .inr ⟨p,rfl,fun j v hj=>by cases hj⟩
  have hr:=TO hR
  have SY:∀j v,cs[j]?=some v->w.cell? ⟨b,o+j,none⟩=some v:=fun j v hj=>by
   have:=(hr j v hj).1
   rwa [B6] at this
  have Y8:∀v∈cs,v.oneCell'=true:=fun v hv=>by
   obtain⟨j,hj⟩:=List.mem_iff_getElem?.1 hv;exact (hr j v hj).2
  have G6:vb≠b:=by
   rintro rfl
   have:=(hi.inj 0 1 2 0 vb o vo hb hvb).1;omega
  have Ik:∀j,j<cap*2->(w.cell? ⟨b,o+j,none⟩).isSome=true:=fun j hj=>Mo (by have:=hF.1;omega)
  have WC:∀j,j<cap*2->w.frozen? ⟨b,o+j,none⟩=false:=fun j hj=>Lz _ (by omega) (by have:=hF.1;omega)
  by_cases Jr:n+1<=cap
  ·-- in D0
   have hX:cap*2<=bsz w b:=by have:=hF.1;omega
   have hwB:∀w':World,Bc b w w'->(∀j,j<o->w'.cell? ⟨b,j,none⟩=w.cell? ⟨b,j,none⟩)->(∀j v,(N2 k cs vs)[j]?=some v->w'.cell? ⟨b,o+j,none⟩=some v) ->
     ∃us own,Ending.returned (Value.slice (some ⟨b,o,none⟩) (n+1) cap)=.returned (Fc us)∧ZZ w w' Y bt [.own 2 n (cs.map .sc),.sc (.int .i64 k),.tup [.own 2 1 (vs.map .sc)]] own ⟨[.own 2 (n+1) ((N2 k cs vs).map .sc)],[vs.map .sc]⟩ us:=by
    intro w' hw Ab5 hL;exact⟨_,_,rfl,NY hb hvb G6 TB Abk hw Ab5 Jr hF Lz hL (one Y8) F7 VP hvf (by simp) (by simp) (by simp) (by simp)⟩
   by_cases hkn:k=n
   ·subst hkn
    have eI:N2 k cs vs=cs++vs:=by
     unfold N2;rw[Q9 (by omega),List.drop_of_length_le (by omega),List.append_nil]
    refine (BE b o k cap vb vo vc vs w Jr Qw (fun j hj=>by rw[Nat.add_assoc];exact Ik _ (by omega)) (fun j hj=>by rw[Nat.add_assoc];exact WC _ (by omega)) F7 VP).mono ?_
    rintro e w' ⟨rfl,rfl⟩
    refine hwB _ (Bc.setCells b _ _ w) (fun j hj=>World.cell?_setCells_out b _ _ w ⟨b,j,none⟩ (fun _ _=>.inl (by show j<o+k*2;omega))) (fun j v hj=>?_)
    rw[eI] at hj;by_cases Bk:j<cs.length
    ·rw[List.getElem?_append_left Bk] at hj;rw[World.cell?_setCells_out b _ _ w ⟨b,o+j,none⟩ (fun _ _=>.inl (by show o+j<o+k*2;omega))]
     exact SY j v hj
    ·rw[List.getElem?_append_right (by omega)] at hj
     have hl:=Jx hj;have:=World.cell?_setCells_in b vs (o+k*2) w (fun t ht=>by rw[Nat.add_assoc];exact Ik _ (by omega)) (j-cs.length) hl
     rw[show o+k*2+(j-cs.length)=o+j by omega] at this
     rw[this,←hj,List.getElem?_eq_getElem hl]
   ·have Hp:k<n:=by omega
    have PP:∀q:Nat,q<w.heap.size->∃t,w.shape? q=some (t,bsz w q)∨bsz w q=0:=by
     intro q hq;unfold World.shape? bsz;cases w.heap[q]? with
     |none=>exact⟨0,.inr rfl⟩
     |some x=>cases x<;>first|exact⟨_,.inl rfl⟩|exact⟨0,.inr rfl⟩
    obtain⟨tA,hA⟩:=PP vb Abk;obtain⟨tB,hB⟩:=PP b TB;have Aoy:=hvF.1
    have hvE:w.frozen? ⟨vb,bsz w vb,none⟩=false:=by
     rcases hvF.2 with h|h
     ·omega
     ·exact h
    have hA:w.shape? vb=some (tA,bsz w vb):=hA.resolve_right (by omega)
    have hB:w.shape? b=some (tB,bsz w b):=hB.resolve_right (by omega)
    refine (NA b o n cap k vb vo vc cs vs w Hp Jr hn G6 hc Qw SY (fun j hj=>Ik j (by omega)) (fun j hj=>WC j (by omega)) F7 Y8 VP tA tB _ _ hA hB (by omega) (hvf vo (Nat.le_refl _) (by omega)) hvE).mono ?_
    rintro e w' ⟨rfl,rfl⟩
    have TP:(cs.drop (k*2)).length=(n-k)*2:=by rw[List.length_drop,hc];omega
    have hw1:=(Bc.drew b w).trans (Bc.setCells b (cs.drop (k*2)) (o+(k+1)*2) w.drew);refine hwB _ (hw1.trans (Bc.setCells b vs (o+k*2) _)) (fun j hj=>?_) (fun j v hj=>?_)
    ·rw[World.cell?_setCells_out b _ _ _ ⟨b,j,none⟩ (fun _ _=>.inl (by show j<o+k*2;omega)),World.cell?_setCells_out b _ _ _ ⟨b,j,none⟩ (fun _ _=>.inl (by show j<o+(k+1)*2;omega))]
     rfl
    ·have VU:∀t,t<cap*2->((w.drew.setCells b (o+(k+1)*2) (cs.drop (k*2))).cell? ⟨b,o+t,none⟩).isSome=true:=fun t ht=>Hs b _ _ _ _ (Ik t ht)
     rcases DC hk hc Qw hj with⟨h1,h2⟩|⟨h1,h2,h3⟩|⟨h1,h2⟩
     ·rw[World.cell?_setCells_out b _ _ _ ⟨b,o+j,none⟩ (fun _ _=>.inl (by show o+j<o+k*2;omega)),World.cell?_setCells_out b _ _ _ ⟨b,o+j,none⟩ (fun _ _=>.inl (by show o+j<o+(k+1)*2;omega))]
      exact SY j v h2
     ·have hl:=Jx h3;have:=World.cell?_setCells_in b vs (o+k*2) (w.drew.setCells b (o+(k+1)*2) (cs.drop (k*2))) (fun t ht=>by rw[Nat.add_assoc];exact VU _ (by omega)) (j-k*2) hl
      rw[show o+k*2+(j-k*2)=o+j by omega] at this
      rw[this,←h3,List.getElem?_eq_getElem hl]
     ·have hl:=Jx h2;rw[World.cell?_setCells_out b _ _ _ ⟨b,o+j,none⟩ (fun _ _=>.inr (by show o+k*2+vs.length<=o+j;omega))]
      have:=World.cell?_setCells_in b (cs.drop (k*2)) (o+(k+1)*2) w.drew (fun t ht=>by rw[Nat.add_assoc];exact Ik _ (by omega)) (j-(k+1)*2) hl
      rw[show o+(k+1)*2+(j-(k+1)*2)=o+j by omega] at this
      rw[this,←h2,List.getElem?_eq_getElem hl]
  ·by_cases hkn:k=n
   ·exact grow_end _ cap KG (by omega) hkn (.inr ⟨_,rfl,fun j v hj=>by rw[B6];exact SY j v hj⟩) Y8
   ·refine (SB b o n cap k vb vo vc cs vs w (by omega) KG (by omega) hn hc Qw SY F7 Y8 VP).mono ?_
    rintro e w' ⟨rfl,rfl⟩
    obtain⟨G,hG⟩:∃G,G=grownCap w (n+1) cap 82:=⟨_,rfl⟩;rw[←hG];have hGn:n+1<=G:=by rw[hG];exact grownCap_ge w _ _ _
    obtain⟨ROW,CY⟩:∃ROW:Array Value,ROW=(cs.take (k*2)).toArray++Builtin.zeroCells #[.int .i64 0,.int .i64 0] (n+1-k)++Builtin.zeroCells #[.int .i64 0,.int .i64 0] (G-(n+1)):=⟨_,rfl⟩;rw[←CY]
    have hRl:ROW.size=G*2:=by
     rw[CY];simp[Builtin.zeroCells];omega
    have hR0:∀(j:Nat) v,j<k*2->cs[j]?=some v->ROW[j]?=some v:=by
     intro j v hj hv;rw[CY,Array.getElem?_append_left (by simp;omega),Array.getElem?_append_left (by simp;omega)]
     simp only[List.getElem?_toArray];rw[List.getElem?_take,Oa hj];exact hv
    clear CY;obtain⟨W0,hW0⟩:∃W0,W0=w.alloc (.cells ROW 82):=⟨_,rfl⟩;have hN0:R5 w W0:=by rw[hW0];exact R5.alloc w ROW _
    have hB0:bsz W0 w.heap.size=G*2:=by rw[hW0,(Dg.alloc w ROW 82).bsz,hRl]
    have hC0:∀j,W0.cell? ⟨w.heap.size,j,none⟩=ROW[j]?:=fun j=>by rw[hW0];exact (Dg.alloc w ROW 82).cell j
    rw[←hW0];have TP:(cs.drop (k*2)).length=(n-k)*2:=by rw[List.length_drop,hc];omega
    have Ald:∀j,j<G*2->(W0.cell? ⟨w.heap.size,j,none⟩).isSome=true:=fun j hj=>Mo (by omega)
    obtain⟨W1,GA⟩:∃W1,W1=(W0.drew.setCells w.heap.size (k*2) vs).drew:=⟨_,rfl⟩;have hw1:Bc w.heap.size W0 W1:=by rw[GA];exact ((Bc.drew _ W0).trans (Bc.setCells _ vs (k*2) W0.drew)).trans (Bc.drew _ _)
    have hC1:∀j,W1.cell? ⟨w.heap.size,j,none⟩=(W0.drew.setCells w.heap.size (k*2) vs).cell? ⟨w.heap.size,j,none⟩:=fun j=>by rw[GA];rfl
    have Ahu:∀j,j<G*2->(W1.cell? ⟨w.heap.size,j,none⟩).isSome=true:=fun j hj=>Mo (by rw[hw1.bs];omega)
    rw[←GA];have hw2:=hw1.trans (Bc.setCells w.heap.size (cs.drop (k*2)) ((k+1)*2) W1);refine fin_new undef _ G (hN0.wrote hw2) hGn (by rw[hw2.bs,hB0];exact Nat.le_refl _) (fun j v hj=>?_) (one Y8)
    rcases DC hk hc Qw hj with⟨h1,h2⟩|⟨h1,h2,h3⟩|⟨h1,h2⟩
    ·rw[World.cell?_setCells_out _ _ _ _ ⟨w.heap.size,j,none⟩ (fun _ _=>.inl (by show j<(k+1)*2;omega)),hC1,World.cell?_setCells_out _ _ _ _ ⟨w.heap.size,j,none⟩ (fun _ _=>.inl (by show j<k*2;omega))]
     show W0.cell? _=_;rw[hC0];exact hR0 j v h1 h2
    ·have hl:=Jx h3;rw[World.cell?_setCells_out _ _ _ _ ⟨w.heap.size,j,none⟩ (fun _ _=>.inl (by show j<(k+1)*2;omega)),hC1]
     have:=World.cell?_setCells_in w.heap.size vs (k*2) W0.drew (fun t ht=>Ald _ (by omega)) (j-k*2) hl
     rw[show k*2+(j-k*2)=j by omega] at this
     rw[this,←h3,List.getElem?_eq_getElem hl]
    ·have hl:=Jx h2;have:=World.cell?_setCells_in w.heap.size (cs.drop (k*2)) ((k+1)*2) W1 (fun t ht=>Ahu _ (by omega)) (j-(k+1)*2) hl
     rw[show (k+1)*2+(j-(k+1)*2)=j by omega] at this
     rw[this,←h2,List.getElem?_eq_getElem hl]
 |[],ps=>exact ps.elim
 |[_],ps=>exact ps.2.elim
 |[_,_],ps=>exact ps.2.2.elim
 |_::_::_::_::_,ps=>exact ps.2.2.2.elim
end
section
open Go.Proofs.Try (prog)
open Go.IntKind (wrap)
theorem extA (G:Glo):ExtOk G prog C0:=by
 intro f g args res hx hg;have hx0:(bif BD.any (Nat.beq f) then none else Fl f)=some g:=hx;cases hb:BD.any (Nat.beq f)
 rotate_left
 ·rw[hb,cond_true] at hx0;cases hx0
 rw[hb,cond_false] at hx0;have Uq:Fl f=some g:=hx0;unfold Fl at Uq;cases h2:Nat.beq f 44
 rotate_left
 ·rw[h2,cond_true] at Uq;cases Uq;rw[Nat.eq_of_beq_eq_true h2];exact W7 G args res hg
 rw[h2,cond_false] at Uq;cases h4:Nat.beq f 45
 rotate_left
 ·rw[h4,cond_true] at Uq;cases Uq;rw[Nat.eq_of_beq_eq_true h4];exact ME G args res hg
 rw[h4,cond_false] at Uq;cases h3:Nat.beq f 1000000
 ·rw[h3,cond_false] at Uq;cases Uq
 ·rw[h3,cond_true] at Uq;cases Uq;cases hg
end
end Go.Proofs.Yteicjnihnacadaa.Pv
